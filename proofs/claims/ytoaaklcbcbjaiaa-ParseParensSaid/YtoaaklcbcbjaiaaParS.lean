/- Plain: an expr is read the same wherever it stands, if what stands behind it does not go on with it; parentheses about it. -/
import Derived.Test.YtoaaklcbcbjaiaaParF
set_option linter.unusedSimpArgs false
set_option linter.unusedVariables false
set_option linter.unusedSectionVars false
namespace Go.Proofs.Ytoaaklcbcbjaiaa
open Go.RowKit

theorem list_ne {s : ByteArray} {l : List UInt8} (h : (s.toList == l) = false) : s.toList ≠ l := by simpa using h
/-- a token with which no expr goes on: ; or ) -/
def Neu (t : Tok) : Prop := t.k = 4 ∧ (t.s.toList = [59] ∨ t.s.toList = [41])
/-- tokens E places long are the same, j places on; behind them stands what no expr goes on with -/
structure Agr (L1 L2 : Toks) (j m0 E : Nat) : Prop where
  tok : ∀ i, m0 ≤ i → i < E → (tk L1 i).1 = (tk L2 (i + j)).1
  n1 : Neu (tk L1 E).1
  n2 : Neu (tk L2 (E + j)).1
  l1 : E < L1.length
  l2 : L1.length ≤ L2.length
def Goes {α : Type} (j : Nat) (p2 : PM α) (m n : Nat) (v : α) (m1 : Nat) (ns : List Nd) : Prop := (∃ e, p2 (m + j) n = .error e) ∨ p2 (m + j) n = .ok (v, m1 + j, ns)
def Sim {α : Type} (j m0 E : Nat) (p1 p2 : PM α) : Prop := ∀ m n v m1 ns, m0 ≤ m → p1 m n = .ok (v, m1, ns) → m1 ≤ E → Goes j p2 m n v m1 ns
theorem Sim.refl {α : Type} (j m0 E : Nat) (v : α) : Sim j m0 E (pok v) (pok v) := by
  intro m n v' m1 ns _ h _
  simp [pok] at h
  obtain ⟨rfl, rfl, rfl⟩ := h
  exact Or.inr rfl
theorem Goes.bind {α β : Type} {j m0 E : Nat} {p2 : PM α} {f2 : α → PM β} {m n : Nat} {a : α} {m1 : Nat} {l1 : List Nd} {v : β} {m2 : Nat} {l2 : List Nd} (h : Goes j p2 m n a m1 l1) (hf : Goes j (f2 a) m1 (n + l1.length) v m2 l2) : Goes j (pbind p2 f2) m n v m2 (l1 ++ l2) := by
  rcases h with ⟨e, h⟩ | h
  · exact Or.inl ⟨e, pbind_err h⟩
  · rcases hf with ⟨e, hf⟩ | hf
    · exact Or.inl ⟨e, by rw [pbind_ok h, hf]; rfl⟩
    · exact Or.inr (by rw [pbind_ok h, hf]; rfl)
theorem Sim.bind {α β : Type} {j m0 E : Nat} {p1 p2 : PM α} {f1 f2 : α → PM β} (h : Sim j m0 E p1 p2) (fw : Fwd p1) (hf : ∀ a, Sim j m0 E (f1 a) (f2 a)) (ff : ∀ a, Fwd (f1 a)) : Sim j m0 E (pbind p1 f1) (pbind p2 f2) := by
  intro m n v m2 ns hm hp hE
  obtain ⟨a, m1, l1, l2, h1, h2, rfl⟩ := pbind_inv hp
  have w1 := fw _ _ _ _ _ h1
  have w2 := ff _ _ _ _ _ _ h2
  exact Goes.bind (m0 := m0) (E := E) (h _ _ _ _ _ hm h1 (Nat.le_trans w2 hE)) (hf _ _ _ _ _ _ (Nat.le_trans hm w1) h2 hE)
section
variable {L1 L2 : Toks} {j m0 E : Nat} (A : Agr L1 L2 j m0 E)
include A
theorem isP_agr {s : ByteArray} {m : Nat} (hm : m0 ≤ m) (hE : m < E) : isP L2 s (m + j) = isP L1 s m := by unfold isP; rw [A.tok m hm hE]
theorem isP_neu {L : Toks} {s : ByteArray} {m : Nat} (h : Neu (tk L m).1) (h1 : s.toList ≠ [59]) (h2 : s.toList ≠ [41]) : isP L s m = false := by
  unfold isP
  have : ((tk L m).1.s.toList == s.toList) = false := by
    rcases h.2 with e | e <;> rw [e] <;> simpa using Ne.symm (by assumption)
  rw [this, Bool.and_false]
theorem Sim.skip : Sim j m0 E skipP skipP := by
  intro m n v m1 ns _ h _
  simp [skipP] at h
  obtain ⟨rfl, rfl⟩ := h
  exact Or.inr (by unfold skipP; rw [Nat.add_right_comm])
theorem Sim.lay (z : Nd) : Sim j m0 E (layP L1 z) (layP L2 z) := by
  intro m n v m1 ns _ h _
  unfold layP at h
  split at h
  · simp at h
  · next hn =>
    simp at h
    obtain ⟨rfl, rfl, rfl⟩ := h
    exact Or.inr (by unfold layP; rw [if_neg hn])
theorem Sim.deep (d1 d2 : Nat) : Sim j m0 E (deepP L1 d1) (deepP L2 d2) := by
  intro m n v m1 ns _ h _
  unfold deepP at h
  split at h
  · simp at h
  · simp at h
    obtain ⟨rfl, rfl⟩ := h
    unfold Goes deepP
    split
    · exact Or.inl ⟨_, rfl⟩
    · exact Or.inr rfl
theorem Sim.must1 (s : ByteArray) : Sim j m0 E (must1 L1 s) (must1 L2 s) := by
  intro m n v m1 ns hm h hE
  unfold Go.Proofs.Ytoaaklcbcbjaiaa.must1 at h
  split at h
  · next hp =>
    simp at h
    obtain ⟨rfl, rfl⟩ := h
    refine Or.inr ?_
    unfold Go.Proofs.Ytoaaklcbcbjaiaa.must1
    rw [isP_agr A hm (by omega), hp, if_pos rfl, Nat.add_right_comm]
  · simp at h
theorem Sim.must : ∀ ss, Sim j m0 E (mustP L1 ss) (mustP L2 ss)
  | [] => Sim.refl _ _ _ _
  | s :: r => Sim.bind (Sim.must1 A s) (Fwd.must1 L1 s) (fun _ => Sim.must r) (fun _ => Fwd.must L1 r)
theorem Sim.oneOf (ss : List ByteArray) (hs : ∀ s ∈ ss, s.toList ≠ [59] ∧ s.toList ≠ [41]) : Sim j m0 E (oneOfP L1 ss) (oneOfP L2 ss) := by
  intro m n v m1 ns hm h hE
  unfold oneOfP at h
  by_cases hlt : m < E
  · have e : (fun s => isP L2 s (m + j)) = (fun s => isP L1 s m) := funext fun s => isP_agr A hm hlt
    refine Or.inr ?_
    unfold oneOfP
    rw [e]
    cases hf : ss.find? (fun s => isP L1 s m) with
    | none => rw [hf] at h; simp at h; obtain ⟨rfl, rfl, rfl⟩ := h; rfl
    | some s => rw [hf] at h; simp at h; obtain ⟨rfl, rfl, rfl⟩ := h; simp [Nat.add_right_comm]
  · have hno : ∀ {L : Toks} {i : Nat}, Neu (tk L i).1 → ss.find? (fun s => isP L s i) = none := fun {L i} hn => by
      rw [List.find?_eq_none]
      intro s hs'
      rw [isP_neu A hn (hs s hs').1 (hs s hs').2]; simp
    cases hf : ss.find? (fun s => isP L1 s m) with
    | some s => rw [hf] at h; simp at h; omega
    | none =>
      rw [hf] at h
      simp at h
      obtain ⟨rfl, rfl, rfl⟩ := h
      have e : m = E := by omega
      subst e
      refine Or.inr ?_
      unfold oneOfP
      rw [hno A.n2]
theorem twoSim {cl1 cl2 : PM Int} (hc : Sim j m0 E cl1 cl2) (fc : Fwd cl1) (ss : List ByteArray) (hs : ∀ s ∈ ss, s.toList ≠ [59] ∧ s.toList ≠ [41]) :
    ∀ (g1 g2 : Nat) (a : Int) (m n : Nat) (v : Int) (m1 : Nat) (ns : List Nd), m0 ≤ m → E < m + g1 → g1 ≤ g2 → twoLoop L1 cl1 ss g1 a m n = .ok (v, m1, ns) → m1 ≤ E → Goes j (twoLoop L2 cl2 ss g2 a) m n v m1 ns
  | 0, g2, a, m, n, v, m1, ns, hm, hg, _, h, hE => by
    have := Fwd.two L1 fc ss 0 a _ _ _ _ _ h
    omega
  | g1 + 1, 0, a, m, n, v, m1, ns, hm, hg, h2, h, hE => by omega
  | g1 + 1, g2 + 1, a, m, n, v, m1, ns, hm, hg, h2, h, hE => by
    rw [twoLoop] at h ⊢
    obtain ⟨o, m2, l1, l2, h1, h3, rfl⟩ := pbind_inv h
    have w1 := Fwd.oneOf L1 ss _ _ _ _ _ h1
    cases o with
    | none =>
      simp [pok] at h3
      obtain ⟨rfl, rfl, rfl⟩ := h3
      exact Goes.bind (m0 := m0) (E := E) (Sim.oneOf A ss hs _ _ _ _ _ hm h1 hE) (Or.inr rfl)
    | some s =>
      have hst : m2 = m + 1 := by
        unfold oneOfP at h1
        split at h1 <;> simp at h1
        exact h1.2.1.symm
      obtain ⟨b, m3, l3, l4, h4, h5, rfl⟩ := pbind_inv h3
      obtain ⟨a', m4, l5, l6, h6, h7, rfl⟩ := pbind_inv h5
      have w2 := fc _ _ _ _ _ h4
      have w3 := Fwd.lay L1 _ _ _ _ _ _ h6
      have w4 := Fwd.two L1 fc ss g1 a' _ _ _ _ _ h7
      refine Goes.bind (m0 := m0) (E := E) (Sim.oneOf A ss hs _ _ _ _ _ hm h1 (by omega)) ?_
      refine Goes.bind (m0 := m0) (E := E) (hc _ _ _ _ _ (by omega) h4 (by omega)) ?_
      refine Goes.bind (m0 := m0) (E := E) (Sim.lay A _ _ _ _ _ _ (by omega) h6 (by omega)) ?_
      exact twoSim hc fc ss hs g1 g2 a' m4 _ v m1 l6 (by omega) (by omega) (by omega) h7 hE
theorem Sim.two {cl1 cl2 : PM Int} (hc : Sim j m0 E cl1 cl2) (fc : Fwd cl1) (ss : List ByteArray) (hs : ∀ s ∈ ss, s.toList ≠ [59] ∧ s.toList ≠ [41]) : Sim j m0 E (twoP L1 cl1 ss) (twoP L2 cl2 ss) := by
  intro m n v m1 ns hm h hE
  unfold twoP at h ⊢
  obtain ⟨a, m2, l1, l2, h1, h2, rfl⟩ := pbind_inv h
  have w1 := fc _ _ _ _ _ h1
  have w2 := Fwd.two L1 fc ss _ a _ _ _ _ _ h2
  have hl1 := A.l1
  have hl2 := A.l2
  exact Goes.bind (m0 := m0) (E := E) (hc _ _ _ _ _ hm h1 (by omega)) (twoSim A hc fc ss hs _ _ a m2 _ v m1 l2 (by omega) (by omega) (by omega) h2 hE)
theorem neu_signs : (∀ s ∈ ssTimes, s.toList ≠ [59] ∧ s.toList ≠ [41]) ∧ (∀ s ∈ ssSum, s.toList ≠ [59] ∧ s.toList ≠ [41]) ∧ (∀ s ∈ ssJoin, s.toList ≠ [59] ∧ s.toList ≠ [41]) ∧ (∀ s ∈ ssIs, s.toList ≠ [59] ∧ s.toList ≠ [41]) ∧ (∀ s ∈ ssAnd, s.toList ≠ [59] ∧ s.toList ≠ [41]) ∧ (∀ s ∈ ssOr, s.toList ≠ [59] ∧ s.toList ≠ [41]) := by
  have k : ∀ (ss : List ByteArray), (ss.all fun s => s.toList != [59] && s.toList != [41]) = true → ∀ s ∈ ss, s.toList ≠ [59] ∧ s.toList ≠ [41] := fun ss h s hs => by
    have := List.all_eq_true.1 h s hs
    simpa using this
  exact ⟨k _ (by kernel_rfl), k _ (by kernel_rfl), k _ (by kernel_rfl), k _ (by kernel_rfl), k _ (by kernel_rfl), k _ (by kernel_rfl)⟩
theorem Sim.or {o1 o2 : PM Int} (ho : Sim j m0 E o1 o2) (fo : Fwd o1) : Sim j m0 E (orP L1 o1) (orP L2 o2) := by
  obtain ⟨n1, n2, n3, n4, n5, n6⟩ := neu_signs A
  have f1 := Fwd.twoP L1 fo ssTimes
  have f2 := Fwd.twoP L1 f1 ssSum
  have f3 := Fwd.twoP L1 f2 ssJoin
  have hj : Sim j m0 E (joinP L1 o1) (joinP L2 o2) := Sim.two A (Sim.two A (Sim.two A ho fo _ n1) f1 _ n2) f2 _ n3
  have hcmp : Sim j m0 E (compP L1 o1) (compP L2 o2) := by
    refine Sim.bind hj f3 (fun a => Sim.bind (Sim.oneOf A _ n4) (Fwd.oneOf L1 _) (fun o => ?_) (fun o => ?_)) (fun a => ?_)
    · cases o with
      | none => exact Sim.refl _ _ _ _
      | some s => exact Sim.bind hj f3 (fun b => Sim.lay A _) (fun b => Fwd.lay L1 _)
    · cases o with
      | none => exact Fwd.ok _
      | some s => exact Fwd.bind f3 fun b => Fwd.lay L1 _
    · refine Fwd.bind (Fwd.oneOf L1 _) fun o => ?_
      cases o with
      | none => exact Fwd.ok _
      | some s => exact Fwd.bind f3 fun b => Fwd.lay L1 _
  have f4 := Fwd.comp L1 fo
  exact Sim.two A (Sim.two A hcmp f4 _ n5) (Fwd.twoP L1 f4 _) _ n6
theorem Sim.within (k : Int) (d1 d2 : Nat) {o1 o2 : PM Int} (ho : Sim j m0 E o1 o2) (fo : Fwd o1) : Sim j m0 E (withinP L1 k d1 o1) (withinP L2 k d2 o2) :=
  Sim.bind (Sim.deep A _ _) (Fwd.deep L1 _) (fun _ => Sim.bind ho fo (fun a => Sim.lay A _) (fun a => Fwd.lay L1 _)) (fun _ => Fwd.bind fo fun a => Fwd.lay L1 _)
theorem one_neu {L : Toks} {m n d : Nat} {e1 o1 : PM Int} (h : Neu (tk L m).1) : oneP L d e1 o1 m n = .error (3, (tk L m).2) := by
  have q : ∀ s : ByteArray, s.toList ≠ [59] → s.toList ≠ [41] → isP L s m = false := fun s h1 h2 => isP_neu A h h1 h2
  unfold oneP signedP
  rw [h.1, if_neg (by decide), if_neg (by decide), if_neg (by decide), if_pos rfl, q _ (list_ne (by kernel_rfl)) (list_ne (by kernel_rfl)), q _ (list_ne (by kernel_rfl)) (list_ne (by kernel_rfl))]
  rfl
theorem Sim.one (d1 d2 : Nat) {e1 e2 o1 o2 : PM Int} (he : Sim j m0 E e1 e2) (fe : Fwd e1) (ho : Sim j m0 E o1 o2) (fo : Fwd o1) : Sim j m0 E (oneP L1 d1 e1 o1) (oneP L2 d2 e2 o2) := by
  intro m n v m1 ns hm h hE
  have fone := Fwd.one L1 d1 fe fo _ _ _ _ _ h
  have hlt : m < E := by
    rcases Nat.lt_or_ge m E with h1 | h1
    · exact h1
    · have e : m = E := by omega
      subst e
      rw [one_neu A A.n1] at h
      cases h
  have ht : (tk L2 (m + j)).1 = (tk L1 m).1 := (A.tok m hm hlt).symm
  have hp : ∀ s, isP L2 s (m + j) = isP L1 s m := fun s => isP_agr A hm hlt
  have sk : ∀ {p p' : PM Int}, Sim j m0 E p p' → Fwd p → pbind skipP (fun _ => p) m n = .ok (v, m1, ns) → Goes j (pbind skipP fun _ => p') m n v m1 ns := fun hs hf h =>
    Sim.bind (Sim.skip A) Fwd.skip (fun _ => hs) (fun _ => hf) _ _ _ _ _ hm h hE
  have pr : Sim j m0 E (pbind e1 fun a => pbind (mustP L1 [⟨#[41]⟩]) fun _ => pok a) (pbind e2 fun a => pbind (mustP L2 [⟨#[41]⟩]) fun _ => pok a) :=
    Sim.bind he fe (fun a => Sim.bind (Sim.must A _) (Fwd.must L1 _) (fun _ => Sim.refl _ _ _ _) (fun _ => Fwd.ok _)) (fun a => Fwd.bind (Fwd.must L1 _) fun _ => Fwd.ok _)
  unfold Goes
  unfold oneP signedP wordedP at h ⊢
  dsimp only
  rw [ht, hp, hp, hp, hp]
  by_cases hc : (tk L1 m).1.k = 2
  · rw [if_pos hc] at h ⊢
    exact sk (Sim.lay A _) (Fwd.lay L1 _) h
  rw [if_neg hc] at h ⊢
  clear hc
  by_cases hc : (tk L1 m).1.k = 3
  · rw [if_pos hc] at h ⊢
    exact sk (Sim.lay A _) (Fwd.lay L1 _) h
  rw [if_neg hc] at h ⊢
  clear hc
  by_cases hc : (tk L1 m).1.k = 1
  · rw [if_pos hc] at h ⊢
    exact sk (Sim.lay A _) (Fwd.lay L1 _) h
  rw [if_neg hc] at h ⊢
  clear hc
  by_cases hc : (tk L1 m).1.k = 4
  · rw [if_pos hc] at h ⊢
    by_cases hc : isP L1 ⟨#[45]⟩ m = true
    · rw [if_pos hc] at h ⊢
      exact sk (Sim.within A _ d1 d2 ho fo) (Fwd.within L1 _ _ fo) h
    rw [if_neg hc] at h ⊢
    clear hc
    by_cases hc : isP L1 ⟨#[40]⟩ m = true
    · rw [if_pos hc] at h ⊢
      exact sk pr (Fwd.bind fe fun a => Fwd.bind (Fwd.must L1 _) fun _ => Fwd.ok _) h
    rw [if_neg hc] at h ⊢
    clear hc
    simp [pno] at h
  rw [if_neg hc] at h ⊢
  clear hc
  by_cases hc : (tk L1 m).1.k = 5
  · rw [if_pos hc] at h ⊢
    by_cases hd : callF (tk L1 m).1.s = -1
    · rw [if_pos hd] at h ⊢
      by_cases hc : isP L1 ⟨#[110, 111, 116]⟩ m = true
      · rw [if_pos hc] at h ⊢
        exact sk (Sim.within A _ d1 d2 ho fo) (Fwd.within L1 _ _ fo) h
      rw [if_neg hc] at h ⊢
      clear hc
      by_cases hc : isP L1 ⟨#[110, 105, 108]⟩ m = true
      · rw [if_pos hc] at h ⊢
        exact sk (Sim.lay A _) (Fwd.lay L1 _) h
      rw [if_neg hc] at h ⊢
      clear hc
      by_cases hc : sIs (tk L1 m).1.s [116, 114, 117, 101] = true
      · rw [if_pos hc] at h ⊢
        exact sk (Sim.lay A _) (Fwd.lay L1 _) h
      rw [if_neg hc] at h ⊢
      clear hc
      by_cases hc : sIs (tk L1 m).1.s [102, 97, 108, 115, 101] = true
      · rw [if_pos hc] at h ⊢
        exact sk (Sim.lay A _) (Fwd.lay L1 _) h
      rw [if_neg hc] at h ⊢
      clear hc
      simp [pno] at h
    rw [if_neg hd] at h ⊢
    exact Sim.bind (Sim.skip A) Fwd.skip (fun _ => Sim.bind (Sim.must A _) (Fwd.must L1 _) (fun _ => Sim.bind he fe (fun a => Sim.bind (Sim.must A _) (Fwd.must L1 _) (fun _ => Sim.lay A _) (fun _ => Fwd.lay L1 _)) (fun a => Fwd.bind (Fwd.must L1 _) fun _ => Fwd.lay L1 _))
      (fun _ => Fwd.bind fe fun a => Fwd.bind (Fwd.must L1 _) fun _ => Fwd.lay L1 _)) (fun _ => Fwd.bind (Fwd.must L1 _) fun _ => Fwd.bind fe fun a => Fwd.bind (Fwd.must L1 _) fun _ => Fwd.lay L1 _) _ _ _ _ _ hm h hE
  rw [if_neg hc] at h ⊢
  simp [pno] at h
theorem Sim.exprD : ∀ D2 D1, D2 ≤ D1 → Sim j m0 E (exprD L1 D1).1 (exprD L2 D2).1 ∧ Sim j m0 E (exprD L1 D1).2 (exprD L2 D2).2
  | 0, D1, _ => ⟨fun m n v m1 ns _ _ _ => Or.inl ⟨_, rfl⟩, fun m n v m1 ns _ _ _ => Or.inl ⟨_, rfl⟩⟩
  | D2 + 1, 0, h => by omega
  | D2 + 1, D1 + 1, h => by
    obtain ⟨h1, h2⟩ := Sim.exprD D2 D1 (by omega)
    obtain ⟨f1, f2⟩ := Fwd.exprD L1 D1
    have ho := Sim.one A (16 - D1) (16 - D2) h1 f1 h2 f2
    exact ⟨Sim.or A ho (Fwd.one L1 _ f1 f2), ho⟩
end
/-- an expr in parentheses, ahead of what no expr goes on with -/
theorem two_neu {L : Toks} {cl : PM Int} {ss : List ByteArray} (hs : ∀ s ∈ ss, s.toList ≠ [59] ∧ s.toList ≠ [41]) {m n : Nat} {v : Int} {m1 : Nat} {ns : List Nd} (h : cl m n = .ok (v, m1, ns)) (hn : Neu (tk L m1).1) : twoP L cl ss m n = .ok (v, m1, ns) := by
  unfold twoP
  rw [pbind_ok h, twoLoop]
  have e : oneOfP L ss m1 (n + ns.length) = .ok (none, m1, []) := by
    unfold oneOfP
    rw [List.find?_eq_none.2]
    intro s hs'
    have : isP L s m1 = false := by
      unfold isP
      have : ((tk L m1).1.s.toList == s.toList) = false := by
        rcases hn.2 with e | e <;> rw [e] <;> simpa using Ne.symm (by first | exact (hs s hs').1 | exact (hs s hs').2)
      rw [this, Bool.and_false]
    rw [this]; simp
  rw [pbind_ok e]
  simp [prep, pok]
theorem or_neu {L : Toks} {o : PM Int} {m n : Nat} {v : Int} {m1 : Nat} {ns : List Nd} (h : o m n = .ok (v, m1, ns)) (hn : Neu (tk L m1).1) : orP L o m n = .ok (v, m1, ns) := by
  have k : ∀ (ss : List ByteArray), (ss.all fun s => s.toList != [59] && s.toList != [41]) = true → ∀ s ∈ ss, s.toList ≠ [59] ∧ s.toList ≠ [41] := fun ss h s hs => by
    have := List.all_eq_true.1 h s hs
    simpa using this
  have h1 : timesP L o m n = .ok (v, m1, ns) := two_neu (k _ (by kernel_rfl)) h hn
  have h2 : sumP L o m n = .ok (v, m1, ns) := two_neu (k _ (by kernel_rfl)) h1 hn
  have h3 : joinP L o m n = .ok (v, m1, ns) := two_neu (k _ (by kernel_rfl)) h2 hn
  have h4 : compP L o m n = .ok (v, m1, ns) := by
    unfold compP
    rw [pbind_ok h3]
    have e : oneOfP L ssIs m1 (n + ns.length) = .ok (none, m1, []) := by
      unfold oneOfP
      rw [List.find?_eq_none.2]
      intro s hs'
      have : isP L s m1 = false := by
        unfold isP
        have : ((tk L m1).1.s.toList == s.toList) = false := by
          rcases hn.2 with e | e <;> rw [e] <;> simpa using Ne.symm (by first | exact (k ssIs (by kernel_rfl) s hs').1 | exact (k ssIs (by kernel_rfl) s hs').2)
        rw [this, Bool.and_false]
      rw [this]; simp
    rw [pbind_ok e]
    simp [prep, pok]
  have h5 : andP L o m n = .ok (v, m1, ns) := two_neu (k _ (by kernel_rfl)) h4 hn
  exact two_neu (k _ (by kernel_rfl)) h5 hn
theorem isP_open {L : Toks} {m : Nat} (h : (tk L m).1 = ⟨4, ⟨#[40]⟩, 0⟩) : isP L ⟨#[45]⟩ m = false ∧ isP L ⟨#[40]⟩ m = true := by
  unfold isP; rw [h]; exact ⟨by kernel_rfl, by kernel_rfl⟩
/-- what stands in parentheses is wrong: so are they; and what they come to -/
theorem paren_step {L : Toks} {D m n : Nat} (h : (tk L m).1 = ⟨4, ⟨#[40]⟩, 0⟩) :
    ((∃ e, (exprD L D).1 (m + 1) n = .error e) → ∃ e, (exprD L (D + 1)).1 m n = .error e) ∧
    ∀ v m1 ns, (exprD L D).1 (m + 1) n = .ok (v, m1, ns) → (isP L ⟨#[41]⟩ m1 = false → ∃ e, (exprD L (D + 1)).1 m n = .error e) ∧ (isP L ⟨#[41]⟩ m1 = true → Neu (tk L (m1 + 1)).1 → (exprD L (D + 1)).1 m n = .ok (v, m1 + 1, ns)) := by
  obtain ⟨q1, q2⟩ := isP_open h
  have one : ∀ d e1 o1, oneP L d e1 o1 m n = pbind skipP (fun _ => pbind e1 fun a => pbind (mustP L [⟨#[41]⟩]) fun _ => pok a) m n := by
    intro d e1 o1
    unfold oneP signedP
    rw [h]
    dsimp only
    rw [q1, q2]
    rfl
  have orE : ∀ o : PM Int, (∃ e, o m n = .error e) → ∃ e, orP L o m n = .error e := by
    intro o ⟨e, ho⟩
    have h1 : timesP L o m n = .error e := pbind_err ho
    have h2 : sumP L o m n = .error e := pbind_err h1
    have h3 : joinP L o m n = .error e := pbind_err h2
    have h4 : compP L o m n = .error e := pbind_err h3
    have h5 : andP L o m n = .error e := pbind_err h4
    exact ⟨e, pbind_err h5⟩
  have sk : ∀ f : Unit → PM Int, pbind skipP f m n = f () (m + 1) n := fun f => by
    have : skipP m n = .ok ((), m + 1, []) := rfl
    rw [pbind_ok this, prep_nil]; rfl
  refine ⟨fun ⟨e, he⟩ => orE _ ⟨e, ?_⟩, fun v m1 ns hv => ⟨fun hp => orE _ ⟨(3, (tk L m1).2), ?_⟩, fun hp hn => or_neu ?_ hn⟩⟩
  · rw [one, sk, pbind_err he]
  · rw [one, sk, pbind_ok hv]
    have : mustP L [⟨#[41]⟩] m1 (n + ns.length) = .error (3, (tk L m1).2) := by
      unfold mustP
      refine pbind_err ?_
      unfold must1
      rw [hp]; rfl
    rw [pbind_err this]; rfl
  · rw [one, sk, pbind_ok hv]
    have : mustP L [⟨#[41]⟩] m1 (n + ns.length) = .ok ((), m1 + 1, []) := by
      unfold mustP
      have e : must1 L ⟨#[41]⟩ m1 (n + ns.length) = .ok ((), m1 + 1, []) := by unfold must1; rw [hp]; rfl
      rw [pbind_ok e]; rfl
    rw [pbind_ok this]
    simp [prep, pok]
end Go.Proofs.Ytoaaklcbcbjaiaa
