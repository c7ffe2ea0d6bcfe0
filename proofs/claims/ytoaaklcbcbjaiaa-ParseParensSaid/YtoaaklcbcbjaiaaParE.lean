/- Plain: an error has a number. -/
import Derived.Test.YtoaaklcbcbjaiaaParF
set_option linter.unusedSimpArgs false
set_option linter.unusedVariables false
namespace Go.Proofs.Ytoaaklcbcbjaiaa
open Go.RowKit

/-- what is wrong has a number that is not 0 -/
def NZ {α : Type} (p : PM α) : Prop := ∀ m n c a, p m n = .error (c, a) → c ≠ 0
theorem NZ.ok {α : Type} (v : α) : NZ (pok v) := fun m n c a h => by simp [pok] at h
theorem NZ.skip : NZ skipP := fun m n c a h => by simp [skipP] at h
theorem NZ.bind {α β : Type} {p : PM α} {f : α → PM β} (h : NZ p) (hf : ∀ a, NZ (f a)) : NZ (pbind p f) := by
  intro m n c a he
  unfold pbind at he
  split at he
  · next e hp => 
    simp only [Except.error.injEq] at he
    subst he
    exact h _ _ _ _ hp
  · next v m1 ns hp =>
    rcases hq : f v m1 (n + ns.length) with ⟨c', a'⟩ | ⟨v', m', l'⟩
    · rw [hq] at he
      simp [prep] at he
      have := hf _ _ _ _ _ hq
      omega
    · rw [hq] at he; simp [prep] at he
section
variable (L : Toks)
theorem NZ.no {α : Type} (e : Int) (he : e ≠ 0) : NZ (pno (α := α) L e) := fun m n c a h => by simp [pno] at h; omega
theorem NZ.must1 (s : ByteArray) : NZ (must1 L s) := fun m n c a h => by unfold Go.Proofs.Ytoaaklcbcbjaiaa.must1 at h; split at h <;> simp at h; omega
theorem NZ.must : ∀ ss, NZ (mustP L ss)
  | [] => NZ.ok _
  | s :: r => NZ.bind (NZ.must1 L s) fun _ => NZ.must r
theorem NZ.takes (s : ByteArray) : NZ (takesP L s) := fun m n c a h => by unfold takesP at h; split at h <;> simp at h
theorem NZ.of (k : Int) : NZ (ofP L k) := fun m n c a h => by unfold ofP at h; split at h <;> simp at h; omega
theorem NZ.lay (z : Nd) : NZ (layP L z) := fun m n c a h => by unfold layP at h; split at h <;> simp at h; omega
theorem NZ.deep (d : Nat) : NZ (deepP L d) := fun m n c a h => by unfold deepP at h; split at h <;> simp at h; omega
theorem NZ.turns : NZ (turnsP L) := fun m n c a h => by
  unfold turnsP at h; split at h
  · simp at h; omega
  · exact NZ.bind (NZ.of L 2) (fun t => NZ.ok _) _ _ _ _ h
theorem NZ.oneOf (ss : List ByteArray) : NZ (oneOfP L ss) := fun m n c a h => by unfold oneOfP at h; split at h <;> simp at h
variable {ex br : PM Int}
theorem NZ.names (k : Int) (he : NZ ex) : NZ (namesP L k ex) :=
  NZ.bind NZ.skip fun _ => NZ.bind (NZ.of L 1) fun t => NZ.bind (NZ.must L _) fun _ => NZ.bind he fun a => NZ.bind (NZ.must L _) fun _ => NZ.lay L _
theorem NZ.put (he : NZ ex) : NZ (putP L ex) :=
  NZ.bind NZ.skip fun _ => NZ.bind he fun a => NZ.bind (NZ.must L _) fun _ => NZ.bind he fun b => NZ.bind (NZ.must L _) fun _ => NZ.lay L _
theorem NZ.simple (k : Int) (he : NZ ex) : NZ (simpleP L k ex) :=
  NZ.bind NZ.skip fun _ => NZ.bind he fun a => NZ.bind (NZ.must L _) fun _ => NZ.lay L _
theorem NZ.when (he : NZ ex) (hb : NZ br) : NZ (whenP L ex br) :=
  NZ.bind NZ.skip fun _ => NZ.bind he fun a => NZ.bind hb fun b => NZ.bind (NZ.takes L _) fun e => by
    by_cases h : e = true
    · rw [if_pos h]; exact NZ.bind hb fun c => NZ.lay L _
    · rw [if_neg h]; exact NZ.lay L _
theorem NZ.each (he : NZ ex) (hb : NZ br) : NZ (eachP L ex br) :=
  NZ.bind NZ.skip fun _ => NZ.bind (NZ.of L 1) fun s => NZ.bind (NZ.must L _) fun _ => NZ.bind (NZ.of L 1) fun t => NZ.bind (NZ.must L _) fun _ => NZ.bind he fun a =>
    NZ.bind (NZ.must L _) fun _ => NZ.bind (NZ.turns L) fun i => NZ.bind (NZ.must L _) fun _ => NZ.bind hb fun b => NZ.lay L _
theorem NZ.repeat (hb : NZ br) : NZ (repeatP L br) :=
  NZ.bind NZ.skip fun _ => NZ.bind (NZ.turns L) fun i => NZ.bind hb fun b => NZ.lay L _
theorem NZ.braced {bl : PM Int} (hb : NZ bl) : NZ (bracedP L bl) :=
  NZ.bind (NZ.must L _) fun _ => NZ.bind hb fun n => NZ.bind (NZ.must L _) fun _ => NZ.ok _
theorem NZ.stmt (he : NZ ex) (hb : NZ br) : NZ (stmtP L ex br) := by
  intro m n c a h
  unfold stmtP at h
  split at h
  · exact NZ.ok _ _ _ _ _ h
  split at h
  · exact NZ.names L _ he _ _ _ _ h
  split at h
  · exact NZ.names L _ he _ _ _ _ h
  split at h
  · exact NZ.put L he _ _ _ _ h
  split at h
  · exact NZ.simple L _ he _ _ _ _ h
  split at h
  · exact NZ.simple L _ he _ _ _ _ h
  split at h
  · exact NZ.simple L _ he _ _ _ _ h
  split at h
  · exact NZ.when L he hb _ _ _ _ h
  split at h
  · exact NZ.each L he hb _ _ _ _ h
  split at h
  · exact NZ.repeat L hb _ _ _ _ h
  · exact NZ.ok _ _ _ _ _ h
theorem NZ.two {cl : PM Int} (hc : NZ cl) (ss : List ByteArray) : ∀ g a, NZ (twoLoop L cl ss g a)
  | 0, a => NZ.ok _
  | g + 1, a => by
    rw [twoLoop]
    refine NZ.bind (NZ.oneOf L ss) fun o => ?_
    cases o with
    | none => exact NZ.ok _
    | some s => exact NZ.bind hc fun b => NZ.bind (NZ.lay L _) fun a' => NZ.two hc ss g a'
theorem NZ.twoP {cl : PM Int} (hc : NZ cl) (ss : List ByteArray) : NZ (twoP L cl ss) := NZ.bind hc fun a => NZ.two L hc ss _ a
theorem NZ.comp {o : PM Int} (ho : NZ o) : NZ (compP L o) := by
  have hj : NZ (joinP L o) := NZ.twoP L (NZ.twoP L (NZ.twoP L ho _) _) _
  refine NZ.bind hj fun a => NZ.bind (NZ.oneOf L _) fun o => ?_
  cases o with
  | none => exact NZ.ok _
  | some s => exact NZ.bind hj fun b => NZ.lay L _
theorem NZ.or {o : PM Int} (ho : NZ o) : NZ (orP L o) := NZ.twoP L (NZ.twoP L (NZ.comp L ho) _) _
theorem NZ.within (k : Int) (d : Nat) {o : PM Int} (ho : NZ o) : NZ (withinP L k d o) :=
  NZ.bind (NZ.deep L _) fun _ => NZ.bind ho fun a => NZ.lay L _
theorem NZ.one (d : Nat) {e1 o1 : PM Int} (he : NZ e1) (ho : NZ o1) : NZ (oneP L d e1 o1) := by
  have sk : ∀ {p : PM Int}, NZ p → NZ (pbind skipP fun _ => p) := fun hp => NZ.bind NZ.skip fun _ => hp
  have hs : NZ (signedP L d e1 o1) := by
    intro m n c a h
    unfold signedP at h
    split at h
    · exact sk (NZ.within L _ d ho) _ _ _ _ h
    split at h
    · exact sk (NZ.bind he fun a => NZ.bind (NZ.must L _) fun _ => NZ.ok _) _ _ _ _ h
    · exact NZ.no L 3 (by decide) _ _ _ _ h
  have hw : NZ (wordedP L d e1 o1) := by
    intro m n c a h
    unfold wordedP at h
    split at h
    · split at h
      · exact sk (NZ.within L _ d ho) _ _ _ _ h
      split at h
      · exact sk (NZ.lay L _) _ _ _ _ h
      split at h
      · exact sk (NZ.lay L _) _ _ _ _ h
      split at h
      · exact sk (NZ.lay L _) _ _ _ _ h
      · exact NZ.no L 3 (by decide) _ _ _ _ h
    · exact NZ.bind NZ.skip (fun _ => NZ.bind (NZ.must L _) fun _ => NZ.bind he fun a => NZ.bind (NZ.must L _) fun _ => NZ.lay L _) _ _ _ _ h
  intro m n c a h
  unfold oneP at h
  split at h
  · exact sk (NZ.lay L _) _ _ _ _ h
  split at h
  · exact sk (NZ.lay L _) _ _ _ _ h
  split at h
  · exact sk (NZ.lay L _) _ _ _ _ h
  split at h
  · exact hs _ _ _ _ h
  split at h
  · exact hw _ _ _ _ h
  · exact NZ.no L 3 (by decide) _ _ _ _ h
theorem NZ.exprD : ∀ D, NZ (exprD L D).1 ∧ NZ (exprD L D).2
  | 0 => ⟨NZ.no L 14 (by decide), NZ.no L 14 (by decide)⟩
  | D + 1 => by
    have := NZ.exprD D
    have ho := NZ.one L (16 - D) this.1 this.2
    exact ⟨NZ.or L ho, ho⟩
theorem NZ.loop {st : PM Int} (hs : NZ st) : ∀ g fi la acc m n c a, blockLoop st g fi la acc m n = .error (c, a) → c ≠ 0
  | 0, fi, la, acc, m, n, c, a, h => by simp [blockLoop] at h
  | g + 1, fi, la, acc, m, n, c, a, h => by
    rw [blockLoop] at h
    split at h
    · next e hp =>
      simp only [Except.error.injEq] at h
      subst h
      exact hs _ _ _ _ hp
    · split at h
      · simp at h
      split at h
      · exact NZ.loop hs g _ _ _ _ _ _ _ h
      · exact NZ.loop hs g _ _ _ _ _ _ _ h
theorem NZ.blockD : ∀ D, NZ (blockD L D)
  | 0 => NZ.no L 14 (by decide)
  | D + 1 => by
    intro m n c a h
    exact NZ.loop (NZ.stmt L (NZ.exprD L (D + 1)).1 (NZ.braced L (NZ.blockD D))) _ _ _ _ _ _ _ _ h
theorem parse_nz (c a : Int) (h : parseF L = .error (c, a)) : c ≠ 0 := by
  unfold parseF at h
  by_cases he : endsOk L = true
  · rw [if_pos he] at h
    unfold progP at h
    split at h
    · next e hp =>
      simp only [Except.error.injEq] at h
      subst h
      exact NZ.bind (NZ.blockD L 16) (fun f => NZ.bind (NZ.of L 0) fun _ => NZ.ok _) _ _ _ _ hp
    · simp at h
  · rw [if_neg he] at h
    simp at h
    omega
end
end Go.Proofs.Ytoaaklcbcbjaiaa
