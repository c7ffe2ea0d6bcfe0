/- Lemmas for the claim (texts ParF, what its proof uses of them). -/
import Derived.Test.YtpoeknndkccbaaaGreatM04
set_option linter.unusedSimpArgs false
set_option linter.unusedVariables false
namespace Go.Proofs.YtpoeknndkccbaaaGreat
open Go.RowKit
def Fwd {α : Type} (p : PM α) : Prop := ∀ m n v m1 ns, p m n = .ok (v, m1, ns) → m ≤ m1
def Lays (p : PM Int) : Prop := ∀ m n v m1 ns, p m n = .ok (v, m1, ns) → v + 1 = (n : Int) + ns.length ∧ 0 < ns.length
theorem prep_inv {α : Type} {ns : List Nd} {r : PR α} {v : α} {m : Nat} {l : List Nd} (h : prep ns r = .ok (v, m, l)) : ∃ l1, r = .ok (v, m, l1) ∧ l = ns ++ l1 := by
 cases r with
 | error e => simp [prep] at h
 | ok x => obtain ⟨v', m', l'⟩ := x; simp only [prep, Except.ok.injEq, Prod.mk.injEq] at h; obtain ⟨rfl, rfl, rfl⟩ := h; exact ⟨_, rfl, rfl⟩
theorem qdp {α β : Type} {p : PM α} {f : α → PM β} {m n : Nat} {v : β} {m2 : Nat} {l : List Nd} (h : pbind p f m n = .ok (v, m2, l)) :
  ∃ a m1 l1 l2, p m n = .ok (a, m1, l1) ∧ f a m1 (n + l1.length) = .ok (v, m2, l2) ∧ l = l1 ++ l2 := by
 unfold pbind at h
 cases hp : p m n with
 | error e => rw [hp] at h; simp at h
 | ok x =>
  obtain ⟨a, m1, l1⟩ := x
  rw [hp] at h
  obtain ⟨l2, h1, h2⟩ := prep_inv h
  exact ⟨a, m1, l1, l2, rfl, h1, h2⟩
theorem Fwd.bind {α β : Type} {p : PM α} {f : α → PM β} (hp : Fwd p) (hf : ∀ a, Fwd (f a)) : Fwd (pbind p f) := by
 intro m n v m1 ns h
 obtain ⟨a, m2, l1, l2, h1, h2, _⟩ := qdp h
 exact Nat.le_trans (hp _ _ _ _ _ h1) (hf a _ _ _ _ _ h2)
theorem Lays.bind {α : Type} {p : PM α} {f : α → PM Int} (hf : ∀ a, Lays (f a)) : Lays (pbind p f) := by
 intro m n v m1 ns h
 obtain ⟨a, m2, l1, l2, h1, h2, rfl⟩ := qdp h
 have := hf a _ _ _ _ _ h2
 simp only [List.length_append]
 omega
theorem Fwd.ok {α : Type} (v : α) : Fwd (pok v) := by
 intro m n v m1 ns h; simp [pok] at h; omega
theorem Fwd.no {α : Type} (L : Toks) (e : Int) : Fwd (pno (α := α) L e) := by intro m n v m1 ns h; simp [pno] at h
section
variable (L : Toks)
theorem Fwd.skip : Fwd skipP := by intro m n v m1 ns h; simp [skipP] at h; omega
theorem Fwd.lay (z : Nd) : Fwd (layP L z) := by
 intro m n v m1 ns h; unfold layP at h; split at h
 · simp at h
 · simp at h; omega
theorem Lays.lay (z : Nd) : Lays (layP L z) := by
 intro m n v m1 ns h; unfold layP at h; split at h
 · simp at h
 · simp at h; obtain ⟨rfl, _, rfl⟩ := h; simp
theorem Fwd.deep (d : Nat) : Fwd (deepP L d) := by
 intro m n v m1 ns h; unfold deepP at h; split at h
 · simp at h
 · simp at h; omega
theorem Fwd.takes (s : ByteArray) : Fwd (takesP L s) := by
 intro m n v m1 ns h; unfold takesP at h; split at h <;> simp at h <;> omega
theorem Fwd.must1 (s : ByteArray) : Fwd (must1 L s) := by
 intro m n v m1 ns h; unfold Go.Proofs.YtpoeknndkccbaaaGreat.must1 at h; split at h <;> simp at h <;> omega
theorem Fwd.must : ∀ ss, Fwd (mustP L ss)
 | [] => Fwd.ok ()
 | s :: r => by rw [mustP]; exact Fwd.bind (Fwd.must1 L s) fun _ => Fwd.must r
theorem Fwd.of (k : Int) : Fwd (ofP L k) := by
 intro m n v m1 ns h; unfold ofP at h; split at h <;> simp at h <;> omega
theorem Fwd.oneOf (ss : List ByteArray) : Fwd (qbp L ss) := by
 intro m n v m1 ns h; unfold qbp at h; split at h <;> simp at h <;> omega
theorem Fwd.turns : Fwd (qdw L) := by
 have h2 : Fwd (pbind (ofP L 2) (fun t => pok t.i)) := Fwd.bind (Fwd.of L 2) fun t => Fwd.ok _
 intro m n v m1 ns h; unfold qdw at h; split at h
 · simp at h
 · exact h2 _ _ _ _ _ h
end
theorem strict {α : Type} {f : Unit → PM α} (hf : ∀ a, Fwd (f a)) {m n : Nat} {v : α} {m1 : Nat} {ns : List Nd} (h : pbind skipP f m n = .ok (v, m1, ns)) : m < m1 := by
 obtain ⟨a, m2, l1, l2, h1, h2, _⟩ := qdp h
 have := hf a _ _ _ _ _ h2
 simp [skipP] at h1
 omega
/-- goes on by a token at least, and lays a node last -/
def Strong (p : PM Int) : Prop := (∀ m n v m1 ns, p m n = .ok (v, m1, ns) → m < m1) ∧ Lays p
theorem Strong.of {f : Unit → PM Int} (hf : ∀ a, Fwd (f a)) (hl : ∀ a, Lays (f a)) : Strong (pbind skipP f) := ⟨fun _ _ _ _ _ h => strict hf h, Lays.bind hl⟩
section
variable {L : Toks} {ex br : PM Int}
theorem qcK (k : Int) (he : Fwd ex) : Strong (qdb L k ex) :=
 Strong.of (fun _ => Fwd.bind (Fwd.of L 1) fun _ => Fwd.bind (Fwd.must L _) fun _ => Fwd.bind he fun _ => Fwd.bind (Fwd.must L _) fun _ => Fwd.lay L _)
  (fun _ => Lays.bind fun _ => Lays.bind fun _ => Lays.bind fun _ => Lays.bind fun _ => Lays.lay L _)
theorem strong_put (he : Fwd ex) : Strong (putP L ex) :=
 Strong.of (fun _ => Fwd.bind he fun _ => Fwd.bind (Fwd.must L _) fun _ => Fwd.bind he fun _ => Fwd.bind (Fwd.must L _) fun _ => Fwd.lay L _)
  (fun _ => Lays.bind fun _ => Lays.bind fun _ => Lays.bind fun _ => Lays.bind fun _ => Lays.lay L _)
theorem qbE (k : Int) (he : Fwd ex) : Strong (qbv L k ex) :=
 Strong.of (fun _ => Fwd.bind he fun _ => Fwd.bind (Fwd.must L _) fun _ => Fwd.lay L _) (fun _ => Lays.bind fun _ => Lays.bind fun _ => Lays.lay L _)
theorem strong_when (he : Fwd ex) (hb : Fwd br) : Strong (whenP L ex br) := by
 refine Strong.of (fun _ => Fwd.bind he fun _ => Fwd.bind hb fun _ => Fwd.bind (Fwd.takes L _) fun e => ?_) (fun _ => Lays.bind fun _ => Lays.bind fun _ => Lays.bind fun e => ?_)
 · cases e
   · exact Fwd.lay L _
   · exact Fwd.bind hb fun _ => Fwd.lay L _
 · cases e
   · exact Lays.lay L _
   · exact Lays.bind fun _ => Lays.lay L _
theorem strong_each (he : Fwd ex) (hb : Fwd br) : Strong (eachP L ex br) :=
 Strong.of (fun _ => Fwd.bind (Fwd.of L 1) fun _ => Fwd.bind (Fwd.must L _) fun _ => Fwd.bind (Fwd.of L 1) fun _ => Fwd.bind (Fwd.must L _) fun _ => Fwd.bind he fun _ => Fwd.bind (Fwd.must L _) fun _ => Fwd.bind (Fwd.turns L) fun _ => Fwd.bind (Fwd.must L _) fun _ => Fwd.bind hb fun _ => Fwd.lay L _)
  (fun _ => Lays.bind fun _ => Lays.bind fun _ => Lays.bind fun _ => Lays.bind fun _ => Lays.bind fun _ => Lays.bind fun _ => Lays.bind fun _ => Lays.bind fun _ => Lays.bind fun _ => Lays.lay L _)
theorem qea (hb : Fwd br) : Strong (repeatP L br) :=
 Strong.of (fun _ => Fwd.bind (Fwd.turns L) fun _ => Fwd.bind hb fun _ => Fwd.lay L _) (fun _ => Lays.bind fun _ => Lays.bind fun _ => Lays.lay L _)
/-- what a statement hands back: none, with nothing done; or the place of its node, the last one -/
theorem stmt_ok (he : Fwd ex) (hb : Fwd br) {m n : Nat} {v : Int} {m1 : Nat} {ns : List Nd} (h : stmtP L ex br m n = .ok (v, m1, ns)) :
  (v = -1 ∧ m1 = m ∧ ns = []) ∨ (m < m1 ∧ v + 1 = (n : Int) + ns.length ∧ 0 < ns.length) := by
 have st : ∀ {p : PM Int}, Strong p → p m n = .ok (v, m1, ns) → m < m1 ∧ v + 1 = (n : Int) + ns.length ∧ 0 < ns.length := fun hs h => ⟨hs.1 _ _ _ _ _ h, hs.2 _ _ _ _ _ h⟩
 have no : pok (-1) m n = .ok (v, m1, ns) → v = -1 ∧ m1 = m ∧ ns = [] := fun h => by simp [pok] at h; exact ⟨h.1.symm, h.2.1.symm, h.2.2⟩
 unfold stmtP at h
 split at h
 · exact Or.inl (no h)
 split at h
 · exact Or.inr (st (qcK _ he) h)
 split at h
 · exact Or.inr (st (qcK _ he) h)
 split at h
 · exact Or.inr (st (strong_put he) h)
 split at h
 · exact Or.inr (st (qbE _ he) h)
 split at h
 · exact Or.inr (st (qbE _ he) h)
 split at h
 · exact Or.inr (st (qbE _ he) h)
 split at h
 · exact Or.inr (st (strong_when he hb) h)
 split at h
 · exact Or.inr (st (strong_each he hb) h)
 split at h
 · exact Or.inr (st (qea hb) h)
 · exact Or.inl (no h)
theorem Fwd.stmt (he : Fwd ex) (hb : Fwd br) : Fwd (stmtP L ex br) := by
 intro m n v m1 ns h
 rcases stmt_ok he hb h with ⟨_, rfl, _⟩ | ⟨h1, _⟩
 · exact Nat.le_refl _
 · omega
end
section
variable (L : Toks)
theorem Fwd.two {cl : PM Int} (hc : Fwd cl) (ss : List ByteArray) : ∀ g a, Fwd (qaU L cl ss g a)
 | 0, a => Fwd.ok a
 | g + 1, a => by
  rw [qaU]
  refine Fwd.bind (Fwd.oneOf L ss) fun o => ?_
  cases o with
  | none => exact Fwd.ok a
  | some s => exact Fwd.bind hc fun b => Fwd.bind (Fwd.lay L _) fun a' => Fwd.two hc ss g a'
theorem Fwd.twoP {cl : PM Int} (hc : Fwd cl) (ss : List ByteArray) : Fwd (twoP L cl ss) := Fwd.bind hc fun a => Fwd.two L hc ss _ a
theorem Fwd.comp {o : PM Int} (ho : Fwd o) : Fwd (compP L o) := by
 have hj : Fwd (joinP L o) := Fwd.twoP L (Fwd.twoP L (Fwd.twoP L ho _) _) _
 refine Fwd.bind hj fun a => Fwd.bind (Fwd.oneOf L _) fun o => ?_
 cases o with
 | none => exact Fwd.ok a
 | some s => exact Fwd.bind hj fun b => Fwd.lay L _
theorem Fwd.or {o : PM Int} (ho : Fwd o) : Fwd (orP L o) := Fwd.twoP L (Fwd.twoP L (Fwd.comp L ho) _) _
theorem Fwd.within (k : Int) (d : Nat) {o1 : PM Int} (ho : Fwd o1) : Fwd (qdj L k d o1) := Fwd.bind (Fwd.deep L _) fun _ => Fwd.bind ho fun _ => Fwd.lay L _
theorem Fwd.one (d : Nat) {e1 o1 : PM Int} (he : Fwd e1) (ho : Fwd o1) : Fwd (oneP L d e1 o1) := by
 have sk : ∀ {p : PM Int}, Fwd p → Fwd (pbind skipP fun _ => p) := fun hp => Fwd.bind Fwd.skip fun _ => hp
 have hs : Fwd (qcA L d e1 o1) := by
  intro m n v m1 ns h
  unfold qcA at h
  split at h
  · exact sk (Fwd.within L _ d ho) _ _ _ _ _ h
  split at h
  · exact sk (Fwd.bind he fun _ => Fwd.bind (Fwd.must L _) fun _ => Fwd.ok _) _ _ _ _ _ h
  · exact Fwd.no L _ _ _ _ _ _ h
 have hw : Fwd (qcz L d e1 o1) := by
  intro m n v m1 ns h
  unfold qcz at h
  split at h
  · split at h
    · exact sk (Fwd.within L _ d ho) _ _ _ _ _ h
    split at h
    · exact sk (Fwd.lay L _) _ _ _ _ _ h
    split at h
    · exact sk (Fwd.lay L _) _ _ _ _ _ h
    split at h
    · exact sk (Fwd.lay L _) _ _ _ _ _ h
    · exact Fwd.no L _ _ _ _ _ _ h
  · exact Fwd.bind Fwd.skip (fun _ => Fwd.bind (Fwd.must L _) fun _ => Fwd.bind he fun _ => Fwd.bind (Fwd.must L _) fun _ => Fwd.lay L _) _ _ _ _ _ h
 intro m n v m1 ns h
 unfold oneP at h
 split at h
 · exact sk (Fwd.lay L _) _ _ _ _ _ h
 split at h
 · exact sk (Fwd.lay L _) _ _ _ _ _ h
 split at h
 · exact sk (Fwd.lay L _) _ _ _ _ _ h
 split at h
 · exact hs _ _ _ _ _ h
 split at h
 · exact hw _ _ _ _ _ h
 · exact Fwd.no L _ _ _ _ _ _ h
theorem Fwd.exprD : ∀ D, Fwd (exprD L D).1 ∧ Fwd (exprD L D).2
 | 0 => ⟨Fwd.no L _, Fwd.no L _⟩
 | D + 1 => by
  have := Fwd.exprD D
  have ho := Fwd.one L (16 - D) this.1 this.2
  exact ⟨Fwd.or L ho, ho⟩
theorem Fwd.braced {b : PM Int} (hb : Fwd b) : Fwd (qce L b) := Fwd.bind (Fwd.must L _) fun _ => Fwd.bind hb fun _ => Fwd.bind (Fwd.must L _) fun _ => Fwd.ok _
theorem Fwd.loop {st : PM Int} (hs : Fwd st) : ∀ g fi la acc m n v m1 ns, qaB st g fi la acc m n = .ok (v, m1, ns) → m ≤ m1
 | 0, fi, la, acc, m, n, v, m1, ns, h => by simp [qaB] at h; omega
 | g + 1, fi, la, acc, m, n, v, m1, ns, h => by
  rw [qaB] at h
  cases hst : st m (n + acc.length) with
  | error e => rw [hst] at h; simp at h
  | ok x =>
   obtain ⟨i, m2, ns2⟩ := x
   rw [hst] at h
   dsimp only at h
   have h1 := hs _ _ _ _ _ hst
   split at h
   · simp at h; omega
   split at h
   · exact Nat.le_trans h1 (Fwd.loop hs g _ _ _ _ _ _ _ _ h)
   · exact Nat.le_trans h1 (Fwd.loop hs g _ _ _ _ _ _ _ _ h)
theorem Fwd.blockD : ∀ D, Fwd (blockD L D)
 | 0 => Fwd.no L _
 | D + 1 => fun m n v m1 ns h => Fwd.loop (Fwd.stmt (Fwd.exprD L (D + 1)).1 (Fwd.braced L (Fwd.blockD D))) _ _ _ _ _ _ _ _ _ h
end
end Go.Proofs.YtpoeknndkccbaaaGreat
