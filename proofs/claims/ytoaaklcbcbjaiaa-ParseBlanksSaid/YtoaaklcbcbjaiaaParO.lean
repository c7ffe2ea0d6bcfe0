/- Plain: of every program what a node has stands ahead of it, what is behind it behind it, and nothing is had twice. -/
import Derived.Test.YtoaaklcbcbjaiaaParF
set_option linter.unusedSimpArgs false
set_option linter.unusedVariables false
namespace Go.Proofs.Ytoaaklcbcbjaiaa
open Go.RowKit

def one1 (a k : Int) : Nat := if a = k then 1 else 0
/-- how often a node has a place -/
def refs (z : Nd) (k : Int) : Nat := one1 z.a k + one1 z.b k + one1 z.c k + one1 z.x k
def cnt (ns : List Nd) (k : Int) : Nat := (ns.map fun z => refs z k).sum
theorem cnt_append (a b : List Nd) (k : Int) : cnt (a ++ b) k = cnt a k + cnt b k := by simp [cnt]
theorem cnt_nil (k : Int) : cnt [] k = 0 := rfl
theorem cnt_one (z : Nd) (k : Int) : cnt [z] k = refs z k := by simp [cnt]
/-- what nodes have stands ahead of them, what is behind them in their block behind them -/
def Ord (n : Nat) (ns : List Nd) : Prop := ∀ (j : Nat) (z : Nd), ns[j]? = some z →
  (-1 ≤ z.a ∧ z.a < (n : Int) + j) ∧ (-1 ≤ z.b ∧ z.b < (n : Int) + j) ∧ (-1 ≤ z.c ∧ z.c < (n : Int) + j) ∧ (z.x = -1 ∨ ((n : Int) + j < z.x ∧ z.x < (n : Int) + ns.length))
theorem Ord.nil (n : Nat) : Ord n [] := fun j z h => by simp at h
theorem Ord.append {n : Nat} {a b : List Nd} (ha : Ord n a) (hb : Ord (n + a.length) b) : Ord n (a ++ b) := by
  intro j z h
  by_cases hj : j < a.length
  · rw [List.getElem?_append_left hj] at h
    obtain ⟨h1, h2, h3, h4⟩ := ha j z h
    refine ⟨h1, h2, h3, ?_⟩
    rcases h4 with h4 | h4
    · exact Or.inl h4
    · exact Or.inr ⟨h4.1, by simp only [List.length_append]; omega⟩
  · rw [List.getElem?_append_right (by omega)] at h
    obtain ⟨h1, h2, h3, h4⟩ := hb _ z h
    refine ⟨⟨h1.1, by omega⟩, ⟨h2.1, by omega⟩, ⟨h3.1, by omega⟩, ?_⟩
    rcases h4 with h4 | h4
    · exact Or.inl h4
    · exact Or.inr ⟨by omega, by simp only [List.length_append]; omega⟩
def cntL (l : List Int) (k : Int) : Nat := (l.map fun a => one1 a k).sum
theorem cntL_cons (a : Int) (l : List Int) (k : Int) : cntL (a :: l) k = one1 a k + cntL l k := by simp [cntL]
theorem cntL_nil (k : Int) : cntL [] k = 0 := rfl
theorem cntL_append (a b : List Int) (k : Int) : cntL (a ++ b) k = cntL a k + cntL b k := by simp [cntL]
def inR (n l : Nat) (k : Int) : Nat := if (n : Int) ≤ k ∧ k < (n : Int) + l then 1 else 0
theorem inR_add (n a b : Nat) (k : Int) : inR n a k + inR (n + a) b k = inR n (a + b) k := by
  unfold inR
  by_cases h1 : (n : Int) ≤ k ∧ k < (n : Int) + a
  · rw [if_pos h1, if_neg (by omega), if_pos (by omega)]
  · by_cases h2 : ((n + a : Nat) : Int) ≤ k ∧ k < ((n + a : Nat) : Int) + b
    · rw [if_neg h1, if_pos h2, if_pos (by omega)]
    · rw [if_neg h1, if_neg h2, if_neg (by omega)]
/-- places between 0 and a bound -/
def Within (l : List Int) (n : Nat) : Prop := ∀ x ∈ l, 0 ≤ x ∧ x < (n : Int)
theorem Within.mono {l : List Int} {n m : Nat} (h : Within l n) (hm : n ≤ m) : Within l m := fun x hx => ⟨(h x hx).1, by have := (h x hx).2; omega⟩
theorem Within.nil (n : Nat) : Within [] n := fun x hx => by simp at hx
theorem Within.append {a b : List Int} {n : Nat} (ha : Within a n) (hb : Within b n) : Within (a ++ b) n := fun x hx => by
  rcases List.mem_append.1 hx with h | h
  · exact ha x h
  · exact hb x h
/-- a way through tokens takes up what is not had yet, and leaves what is not had yet -/
def Inv {α : Type} (p : PM α) (pin : List Int) (pout : α → List Int) : Prop := ∀ m n v m1 ns, p m n = .ok (v, m1, ns) → Within pin n →
  Ord n ns ∧ Within (pout v) (n + ns.length) ∧ (∀ k, 0 ≤ k → cnt ns k + cntL (pout v) k = cntL pin k + inR n ns.length k) ∧ (n ≤ 512 → n + ns.length ≤ 512)
theorem Inv.bind {α β : Type} {p : PM α} {f : α → PM β} {pin : List Int} {pmid : α → List Int} {pout : β → List Int} (hp : Inv p pin pmid) (hf : ∀ a, Inv (f a) (pmid a) pout) : Inv (pbind p f) pin pout := by
  intro m n v m1 ns h hw
  obtain ⟨a, m2, l1, l2, h1, h2, rfl⟩ := pbind_inv h
  obtain ⟨o1, w1, c1, s1⟩ := hp _ _ _ _ _ h1 hw
  obtain ⟨o2, w2, c2, s2⟩ := hf a _ _ _ _ _ h2 w1
  refine ⟨o1.append o2, w2.mono (by simp only [List.length_append]; omega), fun k hk => ?_, fun h => by have := s2 (s1 h); simp only [List.length_append]; omega⟩
  have q1 := c1 k hk
  have q2 := c2 k hk
  have q3 := inR_add n l1.length l2.length k
  rw [cnt_append, List.length_append]
  omega
theorem Inv.frame {α : Type} {p : PM α} {pin : List Int} {pout : α → List Int} (fr : List Int) (h : Inv p pin pout) : Inv p (pin ++ fr) (fun v => pout v ++ fr) := by
  intro m n v m1 ns hp hw
  have hw1 : Within pin n := fun x hx => hw x (List.mem_append_left _ hx)
  have hw2 : Within fr n := fun x hx => hw x (List.mem_append_right _ hx)
  obtain ⟨o, w, c, s⟩ := h _ _ _ _ _ hp hw1
  refine ⟨o, w.append (hw2.mono (Nat.le_add_right _ _)), fun k hk => ?_, s⟩
  have := c k hk
  rw [cntL_append, cntL_append]
  omega
theorem Inv.keep {α : Type} {p : PM α} (fr : List Int) (h : Inv p [] (fun _ => [])) : Inv p fr (fun _ => fr) := by
  have := Inv.frame fr h
  simpa using this
theorem Inv.quiet {α : Type} {p : PM α} (h : ∀ m n v m1 ns, p m n = .ok (v, m1, ns) → ns = []) (fr : List Int) : Inv p fr (fun _ => fr) := by
  intro m n v m1 ns hp hw
  have := h _ _ _ _ _ hp
  subst this
  refine ⟨Ord.nil _, hw, fun k hk => ?_, fun h => by simpa using h⟩
  rw [cnt_nil]
  have : inR n 0 k = 0 := by unfold inR; rw [if_neg (by omega)]
  simp [this]
theorem Inv.ok {α : Type} (v : α) (l : List Int) (pout : α → List Int) (h : pout v = l) : Inv (pok v) l pout := by
  intro m n v' m1 ns hp hw
  simp [pok] at hp
  obtain ⟨rfl, _, rfl⟩ := hp
  refine ⟨Ord.nil _, by rw [h]; exact hw, fun k hk => ?_, fun h => by simpa using h⟩
  rw [cnt_nil, h]
  have : inR n 0 k = 0 := by unfold inR; rw [if_neg (by omega)]
  simp [this]
section
variable (L : Toks)
theorem quiet_skip : ∀ m n v m1 ns, skipP m n = .ok (v, m1, ns) → ns = [] := by intro m n v m1 ns h; simp [skipP] at h; exact h.2
theorem quiet_deep (d : Nat) : ∀ m n v m1 ns, deepP L d m n = .ok (v, m1, ns) → ns = [] := by
  intro m n v m1 ns h; unfold deepP at h; split at h
  · simp at h
  · simp at h; exact h.2
theorem quiet_takes (s : ByteArray) : ∀ m n v m1 ns, takesP L s m n = .ok (v, m1, ns) → ns = [] := by
  intro m n v m1 ns h; unfold takesP at h; split at h <;> simp at h <;> exact h.2.2
theorem quiet_must1 (s : ByteArray) : ∀ m n v m1 ns, must1 L s m n = .ok (v, m1, ns) → ns = [] := by
  intro m n v m1 ns h; unfold Go.Proofs.Ytoaaklcbcbjaiaa.must1 at h; split at h
  · simp at h; exact h.2
  · simp at h
theorem quiet_must : ∀ ss m n v m1 ns, mustP L ss m n = .ok (v, m1, ns) → ns = []
  | [], m, n, v, m1, ns, h => by simp [mustP, pok] at h; exact h.2
  | s :: r, m, n, v, m1, ns, h => by
    rw [mustP] at h
    obtain ⟨a, m2, l1, l2, h1, h2, rfl⟩ := pbind_inv h
    rw [quiet_must1 L s _ _ _ _ _ h1, quiet_must r _ _ _ _ _ h2]; rfl
theorem quiet_of (k : Int) : ∀ m n v m1 ns, ofP L k m n = .ok (v, m1, ns) → ns = [] := by
  intro m n v m1 ns h; unfold ofP at h; split at h
  · simp at h; exact h.2.2
  · simp at h
theorem quiet_oneOf (ss : List ByteArray) : ∀ m n v m1 ns, oneOfP L ss m n = .ok (v, m1, ns) → ns = [] := by
  intro m n v m1 ns h; unfold oneOfP at h; split at h <;> simp at h <;> exact h.2.2
theorem quiet_turns : ∀ m n v m1 ns, turnsP L m n = .ok (v, m1, ns) → ns = [] := by
  intro m n v m1 ns h; unfold turnsP at h; split at h
  · simp at h
  · obtain ⟨a, m2, l1, l2, h1, h2, rfl⟩ := pbind_inv h
    rw [quiet_of L 2 _ _ _ _ _ h1]; simp [pok] at h2; rw [h2.2.2]; rfl
/-- a node is laid: what it has is what was not had -/
theorem Inv.lay (z : Nd) (pin : List Int) (hx : z.x = -1) (ha : z.a = -1 ∨ z.a ∈ pin) (hb : z.b = -1 ∨ z.b ∈ pin) (hc : z.c = -1 ∨ z.c ∈ pin) (hr : ∀ k, 0 ≤ k → cntL pin k = one1 z.a k + one1 z.b k + one1 z.c k) :
    Inv (layP L z) pin (fun v => [v]) := by
  intro m n v m1 ns h hw
  unfold layP at h
  split at h
  · simp at h
  next h512 =>
  simp at h
  obtain ⟨rfl, _, rfl⟩ := h
  have bd : ∀ y, (y = -1 ∨ y ∈ pin) → -1 ≤ y ∧ y < (n : Int) := by
    intro y hy
    rcases hy with rfl | hy
    · omega
    · have := hw y hy; omega
  refine ⟨?_, ?_, fun k hk => ?_, fun h => by simp; omega⟩
  · intro j z' hj
    cases j with
    | succ j => simp at hj
    | zero =>
      simp at hj
      subst hj
      have h1 := bd _ ha
      have h2 := bd _ hb
      have h3 := bd _ hc
      refine ⟨⟨h1.1, by omega⟩, ⟨h2.1, by omega⟩, ⟨h3.1, by omega⟩, Or.inl hx⟩
  · intro y hy; simp at hy; subst hy; simp; omega
  · rw [cnt_one, cntL_cons, cntL_nil]
    have h1 := hr k hk
    have h2 : one1 z.x k = 0 := by unfold one1; rw [if_neg (by omega)]
    have h3 : one1 (n : Int) k = inR n 1 k := by
      unfold one1 inR
      by_cases e : (n : Int) = k
      · rw [if_pos e, if_pos (by omega)]
      · rw [if_neg e, if_neg (by omega)]
    unfold refs
    simp only [List.length_cons, List.length_nil, Nat.zero_add]
    omega
theorem one1_neg (k : Int) (hk : 0 ≤ k) : one1 (-1) k = 0 := by unfold one1; rw [if_neg (by omega)]
def Val (p : PM Int) : Prop := Inv p [] (fun v => [v])
theorem Val.two {cl : PM Int} (hc : Val cl) (ss : List ByteArray) : ∀ g a, Inv (twoLoop L cl ss g a) [a] (fun v => [v])
  | 0, a => Inv.ok a _ _ rfl
  | g + 1, a => by
    rw [twoLoop]
    refine Inv.bind (Inv.quiet (quiet_oneOf L ss) [a]) fun o => ?_
    cases o with
    | none => exact Inv.ok a _ _ rfl
    | some s =>
      refine Inv.bind (pmid := fun b => [b] ++ [a]) (Inv.frame [a] hc) fun b => Inv.bind (pmid := fun v => [v]) (Inv.lay L _ _ rfl (Or.inr (by simp [twoNd])) (Or.inr (by simp [twoNd])) (Or.inl rfl) fun k hk => ?_) fun a' => Val.two hc ss g a'
      simp only [cntL_append, cntL_cons, cntL_nil, twoNd, nd, one1_neg k hk]
      omega
theorem Val.twoP {cl : PM Int} (hc : Val cl) (ss : List ByteArray) : Val (twoP L cl ss) := Inv.bind hc fun a => Val.two L hc ss _ a
theorem Val.comp {o : PM Int} (ho : Val o) : Val (compP L o) := by
  have hj : Val (joinP L o) := Val.twoP L (Val.twoP L (Val.twoP L ho _) _) _
  refine Inv.bind hj fun a => Inv.bind (Inv.quiet (quiet_oneOf L _) [a]) fun o => ?_
  cases o with
  | none => exact Inv.ok a _ _ rfl
  | some s =>
    refine Inv.bind (pmid := fun b => [b] ++ [a]) (Inv.frame [a] hj) fun b => Inv.lay L _ _ rfl (Or.inr (by simp [twoNd])) (Or.inr (by simp [twoNd])) (Or.inl rfl) fun k hk => ?_
    simp only [cntL_append, cntL_cons, cntL_nil, twoNd, nd, one1_neg k hk]
    omega
theorem Val.or {o : PM Int} (ho : Val o) : Val (orP L o) := Val.twoP L (Val.twoP L (Val.comp L ho) _) _
/-- a node with one expr -/
theorem Val.lay0 (z : Nd) (hx : z.x = -1) (ha : z.a = -1) (hb : z.b = -1) (hc : z.c = -1) : Val (layP L z) :=
  Inv.lay L z [] hx (Or.inl ha) (Or.inl hb) (Or.inl hc) fun k hk => by rw [ha, hb, hc, cntL_nil, one1_neg k hk]
theorem Val.lay1 (z : Nd) (a : Int) (hx : z.x = -1) (ha : z.a = a) (hb : z.b = -1) (hc : z.c = -1) : Inv (layP L z) [a] (fun v => [v]) :=
  Inv.lay L z [a] hx (Or.inr (by simp [ha])) (Or.inl hb) (Or.inl hc) fun k hk => by rw [ha, hb, hc, cntL_cons, cntL_nil, one1_neg k hk]
theorem Val.within (k : Int) (d : Nat) {o1 : PM Int} (ho : Val o1) : Val (withinP L k d o1) :=
  Inv.bind (Inv.quiet (quiet_deep L _) []) fun _ => Inv.bind ho fun a => Val.lay1 L _ a rfl rfl rfl rfl
theorem Val.one (d : Nat) {e1 o1 : PM Int} (he : Val e1) (ho : Val o1) : Val (oneP L d e1 o1) := by
  have sk : ∀ {p : PM Int}, Val p → Val (pbind skipP fun _ => p) := fun hp => Inv.bind (Inv.quiet quiet_skip []) fun _ => hp
  have no : ∀ {m n v m1 ns} {P : Prop}, pno (α := Int) L 3 m n = .ok (v, m1, ns) → P := fun h => by simp [pno] at h
  have hs : Val (signedP L d e1 o1) := by
    intro m n v m1 ns h
    unfold signedP at h
    split at h
    · exact sk (Val.within L _ d ho) _ _ _ _ _ h
    split at h
    · exact sk (Inv.bind he fun a => Inv.bind (Inv.quiet (quiet_must L _) [a]) fun _ => Inv.ok a _ _ rfl) _ _ _ _ _ h
    · exact no h
  have hw : Val (wordedP L d e1 o1) := by
    intro m n v m1 ns h
    unfold wordedP at h
    split at h
    · split at h
      · exact sk (Val.within L _ d ho) _ _ _ _ _ h
      split at h
      · exact sk (Val.lay0 L _ rfl rfl rfl rfl) _ _ _ _ _ h
      split at h
      · exact sk (Val.lay0 L _ rfl rfl rfl rfl) _ _ _ _ _ h
      split at h
      · exact sk (Val.lay0 L _ rfl rfl rfl rfl) _ _ _ _ _ h
      · exact no h
    · exact Inv.bind (Inv.quiet quiet_skip []) (fun _ => Inv.bind (Inv.quiet (quiet_must L _) []) fun _ => Inv.bind he fun a => Inv.bind (Inv.quiet (quiet_must L _) [a]) fun _ => Val.lay1 L _ a rfl rfl rfl rfl) _ _ _ _ _ h
  intro m n v m1 ns h
  unfold oneP at h
  split at h
  · exact sk (Val.lay0 L _ rfl rfl rfl rfl) _ _ _ _ _ h
  split at h
  · exact sk (Val.lay0 L _ rfl rfl rfl rfl) _ _ _ _ _ h
  split at h
  · exact sk (Val.lay0 L _ rfl rfl rfl rfl) _ _ _ _ _ h
  split at h
  · exact hs _ _ _ _ _ h
  split at h
  · exact hw _ _ _ _ _ h
  · exact no h
theorem Val.exprD : ∀ D, Val (exprD L D).1 ∧ Val (exprD L D).2
  | 0 => ⟨fun m n v m1 ns h => by simp [Go.Proofs.Ytoaaklcbcbjaiaa.exprD, pno] at h, fun m n v m1 ns h => by simp [Go.Proofs.Ytoaaklcbcbjaiaa.exprD, pno] at h⟩
  | D + 1 => by
    have := Val.exprD D
    have ho := Val.one L (16 - D) this.1 this.2
    exact ⟨Val.or L ho, ho⟩
/-- what a block is: its first statement, or none -/
def blkOut (v : Int) : List Int := if v = -1 then [] else [v]
def Blk (p : PM Int) : Prop := Inv p [] blkOut
end
end Go.Proofs.Ytoaaklcbcbjaiaa
