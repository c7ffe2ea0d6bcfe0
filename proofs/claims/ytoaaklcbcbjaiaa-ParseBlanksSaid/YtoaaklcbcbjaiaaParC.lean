/- Plain: tokens that differ in their places alone come to the same program. -/
import Derived.Test.YtoaaklcbcbjaiaaParF
set_option linter.unusedSimpArgs false
set_option linter.unusedVariables false
set_option linter.unusedSectionVars false
namespace Go.Proofs.Ytoaaklcbcbjaiaa
open Go.RowKit

/-- the same tokens, wherever they stand -/
structure Alike (L L' : Toks) : Prop where
  len : L.length = L'.length
  tok : ∀ m, (tk L m).1 = (tk L' m).1
theorem Alike.of_map {L L' : Toks} (h : L.map Prod.fst = L'.map Prod.fst) : Alike L L' := by
  have hl : L.length = L'.length := by simpa using congrArg List.length h
  refine ⟨hl, fun m => ?_⟩
  unfold tk
  have e := congrArg (fun z => z[m]?) h
  simp only [List.getElem?_map] at e
  rw [List.getD_eq_getElem?_getD, List.getD_eq_getElem?_getD]
  cases h1 : L[m]? with
  | none =>
    rw [h1] at e
    cases h2 : L'[m]? with
    | none => rfl
    | some y => rw [h2] at e; simp at e
  | some x =>
    rw [h1] at e
    cases h2 : L'[m]? with
    | none => rw [h2] at e; simp at e
    | some y => rw [h2] at e; simpa using e
/-- without the error's place -/
def er {α : Type} : PR α → Except Int (α × Nat × List Nd)
  | .error (c, _) => .error c
  | .ok x => .ok x
def Sm {α : Type} (p q : PM α) : Prop := ∀ m n, er (p m n) = er (q m n)
theorem Sm.refl {α : Type} (p : PM α) : Sm p p := fun _ _ => rfl
theorem er_ok {α : Type} {r : PR α} {x : α × Nat × List Nd} (h : er r = .ok x) : r = .ok x := by
  cases r with
  | error e => simp [er] at h
  | ok y => simpa [er] using h
theorem er_prep {α : Type} {ns : List Nd} {r r' : PR α} (h : er r = er r') : er (prep ns r) = er (prep ns r') := by
  rcases r with ⟨c, a⟩ | ⟨v, m, l⟩ <;> rcases r' with ⟨c', a'⟩ | ⟨v', m', l'⟩ <;> simp [er, prep] at h ⊢ <;> simp_all
theorem Sm.bind {α β : Type} {p p' : PM α} {f f' : α → PM β} (h : Sm p p') (hf : ∀ a, Sm (f a) (f' a)) : Sm (pbind p f) (pbind p' f') := by
  intro m n
  have h1 := h m n
  unfold pbind
  rcases hp : p m n with ⟨c, a⟩ | ⟨v, m1, l⟩
  · rw [hp] at h1
    rcases hq : p' m n with ⟨c', a'⟩ | ⟨v', m1', l'⟩
    · rw [hq] at h1; simpa [er] using h1
    · rw [hq] at h1; simp [er] at h1
  · rw [hp] at h1
    have h2 := er_ok h1.symm
    rw [h2]
    exact er_prep (hf v _ _)
theorem Sm.ite {α : Type} {p q p' q' : PM α} {c c' : Nat → Nat → Prop} [∀ m n, Decidable (c m n)] [∀ m n, Decidable (c' m n)] (hc : ∀ m n, c m n ↔ c' m n) (hp : Sm p p') (hq : Sm q q') : Sm (fun m n => if c m n then p m n else q m n) (fun m n => if c' m n then p' m n else q' m n) := by
  intro m n
  by_cases h : c m n
  · simp only [if_pos h, if_pos ((hc m n).1 h)]; exact hp m n
  · simp only [if_neg h, if_neg (fun x => h ((hc m n).2 x))]; exact hq m n
section
variable {L L' : Toks} (A : Alike L L')
include A
theorem isP_alike (s : ByteArray) (m : Nat) : isP L s m = isP L' s m := by unfold isP; rw [A.tok m]
theorem Sm.must1 (s : ByteArray) : Sm (must1 L s) (must1 L' s) := by
  intro m n; unfold Go.Proofs.Ytoaaklcbcbjaiaa.must1; rw [isP_alike A]; split <;> rfl
theorem Sm.must : ∀ ss, Sm (mustP L ss) (mustP L' ss)
  | [] => Sm.refl _
  | s :: r => Sm.bind (Sm.must1 A s) fun _ => Sm.must r
theorem Sm.takes (s : ByteArray) : Sm (takesP L s) (takesP L' s) := by
  intro m n; unfold takesP; rw [isP_alike A]
theorem Sm.of (k : Int) : Sm (ofP L k) (ofP L' k) := by
  intro m n; unfold ofP; rw [A.tok m]; split <;> rfl
theorem Sm.lay (z : Nd) : Sm (layP L z) (layP L' z) := by
  intro m n; unfold layP; split <;> rfl
theorem Sm.deep (d : Nat) : Sm (deepP L d) (deepP L' d) := by
  intro m n; unfold deepP; split <;> rfl
theorem Sm.no {α : Type} (e : Int) : Sm (pno (α := α) L e) (pno L' e) := fun m n => rfl
theorem Sm.turns : Sm (turnsP L) (turnsP L') := by
  intro m n; unfold turnsP; rw [A.tok m]; split
  · rfl
  · exact Sm.bind (Sm.of A 2) (fun t => Sm.refl _) m n
theorem Sm.oneOf (ss : List ByteArray) : Sm (oneOfP L ss) (oneOfP L' ss) := by
  intro m n; unfold oneOfP
  have : (fun s => isP L s m) = (fun s => isP L' s m) := funext fun s => isP_alike A s m
  rw [this]
variable {ex ex' br br' : PM Int}
theorem Sm.names (k : Int) (he : Sm ex ex') : Sm (namesP L k ex) (namesP L' k ex') :=
  Sm.bind (Sm.refl _) fun _ => Sm.bind (Sm.of A 1) fun t => Sm.bind (Sm.must A _) fun _ => Sm.bind he fun a => Sm.bind (Sm.must A _) fun _ => Sm.lay A _
theorem Sm.put (he : Sm ex ex') : Sm (putP L ex) (putP L' ex') :=
  Sm.bind (Sm.refl _) fun _ => Sm.bind he fun a => Sm.bind (Sm.must A _) fun _ => Sm.bind he fun b => Sm.bind (Sm.must A _) fun _ => Sm.lay A _
theorem Sm.simple (k : Int) (he : Sm ex ex') : Sm (simpleP L k ex) (simpleP L' k ex') :=
  Sm.bind (Sm.refl _) fun _ => Sm.bind he fun a => Sm.bind (Sm.must A _) fun _ => Sm.lay A _
theorem Sm.when (he : Sm ex ex') (hb : Sm br br') : Sm (whenP L ex br) (whenP L' ex' br') :=
  Sm.bind (Sm.refl _) fun _ => Sm.bind he fun a => Sm.bind hb fun b => Sm.bind (Sm.takes A _) fun e => by
    by_cases h : e = true
    · rw [if_pos h, if_pos h]; exact Sm.bind hb fun c => Sm.lay A _
    · rw [if_neg h, if_neg h]; exact Sm.lay A _
theorem Sm.each (he : Sm ex ex') (hb : Sm br br') : Sm (eachP L ex br) (eachP L' ex' br') :=
  Sm.bind (Sm.refl _) fun _ => Sm.bind (Sm.of A 1) fun s => Sm.bind (Sm.must A _) fun _ => Sm.bind (Sm.of A 1) fun t => Sm.bind (Sm.must A _) fun _ => Sm.bind he fun a =>
    Sm.bind (Sm.must A _) fun _ => Sm.bind (Sm.turns A) fun i => Sm.bind (Sm.must A _) fun _ => Sm.bind hb fun b => Sm.lay A _
theorem Sm.repeat (hb : Sm br br') : Sm (repeatP L br) (repeatP L' br') :=
  Sm.bind (Sm.refl _) fun _ => Sm.bind (Sm.turns A) fun i => Sm.bind hb fun b => Sm.lay A _
theorem Sm.braced {bl bl' : PM Int} (hb : Sm bl bl') : Sm (bracedP L bl) (bracedP L' bl') :=
  Sm.bind (Sm.must A _) fun _ => Sm.bind hb fun n => Sm.bind (Sm.must A _) fun _ => Sm.refl _
theorem Sm.stmt (he : Sm ex ex') (hb : Sm br br') : Sm (stmtP L ex br) (stmtP L' ex' br') := by
  intro m n
  unfold stmtP
  rw [A.tok m]
  by_cases c0 : ¬ (tk L' m).1.k = 5
  · rw [if_pos c0, if_pos c0]
  rw [if_neg c0, if_neg c0]
  by_cases c_let : sIs (tk L' m).1.s [108, 101, 116] = true
  · rw [if_pos c_let, if_pos c_let]; exact Sm.names A _ he m n
  rw [if_neg c_let, if_neg c_let]
  by_cases c_set : sIs (tk L' m).1.s [115, 101, 116] = true
  · rw [if_pos c_set, if_pos c_set]; exact Sm.names A _ he m n
  rw [if_neg c_set, if_neg c_set]
  by_cases c_put : sIs (tk L' m).1.s [112, 117, 116] = true
  · rw [if_pos c_put, if_pos c_put]; exact Sm.put A he m n
  rw [if_neg c_put, if_neg c_put]
  by_cases c_delete : sIs (tk L' m).1.s [100, 101, 108, 101, 116, 101] = true
  · rw [if_pos c_delete, if_pos c_delete]; exact Sm.simple A _ he m n
  rw [if_neg c_delete, if_neg c_delete]
  by_cases c_abort : sIs (tk L' m).1.s [97, 98, 111, 114, 116] = true
  · rw [if_pos c_abort, if_pos c_abort]; exact Sm.simple A _ he m n
  rw [if_neg c_abort, if_neg c_abort]
  by_cases c_return : sIs (tk L' m).1.s [114, 101, 116, 117, 114, 110] = true
  · rw [if_pos c_return, if_pos c_return]; exact Sm.simple A _ he m n
  rw [if_neg c_return, if_neg c_return]
  by_cases c_if : sIs (tk L' m).1.s [105, 102] = true
  · rw [if_pos c_if, if_pos c_if]; exact Sm.when A he hb m n
  rw [if_neg c_if, if_neg c_if]
  by_cases c_for : sIs (tk L' m).1.s [102, 111, 114] = true
  · rw [if_pos c_for, if_pos c_for]; exact Sm.each A he hb m n
  rw [if_neg c_for, if_neg c_for]
  by_cases c_repeat : sIs (tk L' m).1.s [114, 101, 112, 101, 97, 116] = true
  · rw [if_pos c_repeat, if_pos c_repeat]; exact Sm.repeat A hb m n
  rw [if_neg c_repeat, if_neg c_repeat]
theorem Sm.two {cl cl' : PM Int} (hc : Sm cl cl') (ss : List ByteArray) : ∀ g a, Sm (twoLoop L cl ss g a) (twoLoop L' cl' ss g a)
  | 0, a => Sm.refl _
  | g + 1, a => by
    rw [twoLoop, twoLoop]
    refine Sm.bind (Sm.oneOf A ss) fun o => ?_
    cases o with
    | none => exact Sm.refl _
    | some s => exact Sm.bind hc fun b => Sm.bind (Sm.lay A _) fun a' => Sm.two hc ss g a'
theorem Sm.twoP {cl cl' : PM Int} (hc : Sm cl cl') (ss : List ByteArray) : Sm (twoP L cl ss) (twoP L' cl' ss) := by
  unfold Go.Proofs.Ytoaaklcbcbjaiaa.twoP
  rw [A.len]
  exact Sm.bind hc fun a => Sm.two A hc ss _ a
theorem Sm.comp {o o' : PM Int} (ho : Sm o o') : Sm (compP L o) (compP L' o') := by
  have hj : Sm (joinP L o) (joinP L' o') := Sm.twoP A (Sm.twoP A (Sm.twoP A ho _) _) _
  refine Sm.bind hj fun a => Sm.bind (Sm.oneOf A _) fun o => ?_
  cases o with
  | none => exact Sm.refl _
  | some s => exact Sm.bind hj fun b => Sm.lay A _
theorem Sm.or {o o' : PM Int} (ho : Sm o o') : Sm (orP L o) (orP L' o') := Sm.twoP A (Sm.twoP A (Sm.comp A ho) _) _
theorem Sm.within (k : Int) (d : Nat) {o o' : PM Int} (ho : Sm o o') : Sm (withinP L k d o) (withinP L' k d o') :=
  Sm.bind (Sm.deep A _) fun _ => Sm.bind ho fun a => Sm.lay A _
theorem Sm.one (d : Nat) {e1 e1' o1 o1' : PM Int} (he : Sm e1 e1') (ho : Sm o1 o1') : Sm (oneP L d e1 o1) (oneP L' d e1' o1') := by
  have sk : ∀ {p p' : PM Int}, Sm p p' → Sm (pbind skipP fun _ => p) (pbind skipP fun _ => p') := fun hp => Sm.bind (Sm.refl _) fun _ => hp
  have hs : Sm (signedP L d e1 o1) (signedP L' d e1' o1') := by
    intro m n
    unfold signedP
    rw [isP_alike A, isP_alike A]
    repeat' split
    · exact sk (Sm.within A _ d ho) m n
    · exact sk (Sm.bind he fun a => Sm.bind (Sm.must A _) fun _ => Sm.refl _) m n
    · rfl
  have hw : Sm (wordedP L d e1 o1) (wordedP L' d e1' o1') := by
    intro m n
    unfold wordedP
    rw [isP_alike A, isP_alike A, A.tok m]
    repeat' split
    · exact sk (Sm.within A _ d ho) m n
    · exact sk (Sm.lay A _) m n
    · exact sk (Sm.lay A _) m n
    · exact sk (Sm.lay A _) m n
    · rfl
    · exact Sm.bind (Sm.refl _) (fun _ => Sm.bind (Sm.must A _) fun _ => Sm.bind he fun a => Sm.bind (Sm.must A _) fun _ => Sm.lay A _) m n
  intro m n
  unfold oneP
  rw [A.tok m]
  repeat' split
  · exact sk (Sm.lay A _) m n
  · exact sk (Sm.lay A _) m n
  · exact sk (Sm.lay A _) m n
  · exact hs m n
  · exact hw m n
  · rfl
theorem Sm.exprD : ∀ D, Sm (exprD L D).1 (exprD L' D).1 ∧ Sm (exprD L D).2 (exprD L' D).2
  | 0 => ⟨Sm.no A 14, Sm.no A 14⟩
  | D + 1 => by
    have := Sm.exprD D
    have ho := Sm.one A (16 - D) this.1 this.2
    exact ⟨Sm.or A ho, ho⟩
theorem Sm.loop {st st' : PM Int} (hs : Sm st st') : ∀ g fi la acc m n, er (blockLoop st g fi la acc m n) = er (blockLoop st' g fi la acc m n)
  | 0, fi, la, acc, m, n => rfl
  | g + 1, fi, la, acc, m, n => by
    rw [blockLoop, blockLoop]
    have h1 := hs m (n + acc.length)
    rcases hp : st m (n + acc.length) with ⟨c, a⟩ | ⟨v, m1, l⟩
    · rw [hp] at h1
      rcases hq : st' m (n + acc.length) with ⟨c', a'⟩ | ⟨v', m1', l'⟩
      · rw [hq] at h1; simpa [er] using h1
      · rw [hq] at h1; simp [er] at h1
    · rw [hp] at h1
      rw [er_ok h1.symm]
      dsimp only
      split
      · rfl
      split
      · exact Sm.loop hs g _ _ _ _ _
      · exact Sm.loop hs g _ _ _ _ _
theorem Sm.blockD : ∀ D, Sm (blockD L D) (blockD L' D)
  | 0 => Sm.no A 14
  | D + 1 => by
    intro m n
    unfold Go.Proofs.Ytoaaklcbcbjaiaa.blockD
    rw [A.len]
    exact Sm.loop A (Sm.stmt A (Sm.exprD A (D + 1)).1 (Sm.braced A (Sm.blockD D))) _ _ _ _ _ _
/-- the same program, or the same error -/
def SameRes : Except (Int × Int) (List Nd × Int) → Except (Int × Int) (List Nd × Int) → Prop
  | .error (c, _), .error (c', _) => c = c'
  | .ok x, .ok y => x = y
  | _, _ => False
theorem parse_alike : SameRes (parseF L) (parseF L') := by
  have he : endsOk L = endsOk L' := by
    unfold endsOk
    rw [A.len]
    congr 1
    · have : L = [] ↔ L' = [] := by rw [← List.length_eq_zero_iff, ← List.length_eq_zero_iff, A.len]
      simp [this]
    · congr 1
      funext j
      rw [A.tok j]
  unfold parseF
  rw [he]
  split
  · unfold progP
    have h := Sm.bind (f := fun f => pbind (ofP L 0) fun _ => pok f) (f' := fun f => pbind (ofP L' 0) fun _ => pok f) (Sm.blockD A 16) (fun f => Sm.bind (Sm.of A 0) fun _ => Sm.refl _) 0 0
    revert h
    generalize pbind (blockD L 16) (fun f => pbind (ofP L 0) fun _ => pok f) 0 0 = r
    generalize pbind (blockD L' 16) (fun f => pbind (ofP L' 0) fun _ => pok f) 0 0 = r'
    intro h
    rcases r with ⟨c, a⟩ | ⟨v, m, l⟩ <;> rcases r' with ⟨c', a'⟩ | ⟨v', m', l'⟩ <;> simp [er] at h <;> simp [SameRes, h]
  · rfl
end
end Go.Proofs.Ytoaaklcbcbjaiaa
