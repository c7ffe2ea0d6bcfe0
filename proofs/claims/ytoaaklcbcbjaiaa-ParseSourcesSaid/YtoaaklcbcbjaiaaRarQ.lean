/- Plain: statements linked one by one, or all at the end. -/
import Derived.Test.YtoaaklcbcbjaiaaParF
set_option linter.unusedSimpArgs false
set_option linter.unusedVariables false
namespace Go.Proofs.Ytoaaklcbcbjaiaa
open Go.RowKit

/-- each of the places is followed by the next one -/
def linkAll (n : Nat) : List Int → List Nd → List Nd
  | a :: b :: r, acc => linkAll n (b :: r) (setNext acc (a.toNat - n) b)
  | _, acc => acc
theorem setNext_len (l : List Nd) (j : Nat) (v : Int) : (setNext l j v).length = l.length := by simp [setNext]
theorem setNext_left (a b : List Nd) (j : Nat) (v : Int) (h : j < a.length) : setNext (a ++ b) j v = setNext a j v ++ b := by
  unfold setNext
  induction a generalizing j with
  | nil => simp at h
  | cons z a ih =>
    cases j with
    | zero => simp
    | succ j => simp only [List.cons_append, List.modify_succ_cons]; rw [ih j (by simpa using h)]
theorem linkAll_len (n : Nat) : ∀ (l : List Int) (acc : List Nd), (linkAll n l acc).length = acc.length
  | [], acc => rfl
  | [a], acc => rfl
  | a :: b :: r, acc => by rw [linkAll, linkAll_len n (b :: r), setNext_len]
theorem linkAll_snoc (n : Nat) (i : Int) (ns : List Nd) : ∀ (l : List Int) (acc : List Nd) (hl : l ≠ []), (∀ x ∈ l, (n : Int) ≤ x ∧ x < (n : Int) + acc.length) →
    linkAll n (l ++ [i]) (acc ++ ns) = setNext (linkAll n l acc ++ ns) ((l.getLast hl).toNat - n) i
  | [], acc, hl, _ => absurd rfl hl
  | [a], acc, _, h => rfl
  | a :: b :: r, acc, _, h => by
    have ha := h a (by simp)
    have e : linkAll n (a :: b :: r ++ [i]) (acc ++ ns) = linkAll n (b :: r ++ [i]) (setNext (acc ++ ns) (a.toNat - n) b) := rfl
    rw [e, setNext_left _ _ _ _ (by omega), linkAll_snoc n i ns (b :: r) _ (by simp) (fun x hx => by rw [setNext_len]; exact h x (by simp [List.mem_cons] at hx ⊢; exact Or.inr hx))]
    rfl
/-- the document's statements, not yet linked: their places, how far, their nodes -/
def blockR (st : PM Int) : Nat → List Int → List Nd → Nat → Nat → Except (Int × Int) (List Int × Nat × List Nd)
  | 0, l, acc, m, _ => .ok (l, m, acc)
  | g + 1, l, acc, m, n => match st m (n + acc.length) with
    | .error e => .error e
    | .ok (i, m1, ns) => if i = -1 then .ok (l, m1, acc ++ ns) else blockR st g (l ++ [i]) (acc ++ ns) m1 n
def firstOf : List Int → Int
  | [] => -1
  | a :: _ => a
/-- linked at the end, it is the same -/
theorem block_link (st : PM Int) (hok : ∀ m n v m1 ns, st m n = .ok (v, m1, ns) → (v = -1 ∧ m1 = m ∧ ns = []) ∨ (m < m1 ∧ v + 1 = (n : Int) + ns.length ∧ 0 < ns.length)) :
    ∀ (g : Nat) (l : List Int) (acc : List Nd) (m n : Nat), (∀ x ∈ l, (n : Int) ≤ x ∧ x < (n : Int) + acc.length) →
    blockLoop st g (firstOf l) (l.getLastD (-1)) (linkAll n l acc) m n = match blockR st g l acc m n with
      | .error e => .error e
      | .ok (l', m', acc') => .ok (firstOf l', m', linkAll n l' acc')
  | 0, l, acc, m, n, h => rfl
  | g + 1, l, acc, m, n, h => by
    rw [blockLoop, blockR, linkAll_len]
    cases hs : st m (n + acc.length) with
    | error e => rfl
    | ok v =>
      obtain ⟨i, m1, ns⟩ := v
      dsimp only
      have hk := hok _ _ _ _ _ hs
      by_cases hi : i = -1
      · rw [if_pos hi, if_pos hi]
        rcases hk with ⟨_, _, rfl⟩ | ⟨_, h2, _⟩
        · simp
        · omega
      · rw [if_neg hi, if_neg hi]
        have hv : (n : Int) ≤ i ∧ i < (n : Int) + (acc ++ ns).length := by
          rcases hk with ⟨h1, _⟩ | ⟨_, h2, h3⟩
          · exact absurd h1 hi
          · simp only [List.length_append]; omega
        have hall : ∀ x ∈ l ++ [i], (n : Int) ≤ x ∧ x < (n : Int) + (acc ++ ns).length := by
          intro x hx
          rcases List.mem_append.1 hx with hx | hx
          · have := h x hx; simp only [List.length_append]; omega
          · simp at hx; subst hx; exact hv
        have ih := block_link st hok g (l ++ [i]) (acc ++ ns) m1 n hall
        cases l with
        | nil =>
          rw [if_pos (show firstOf [] = -1 from rfl)]
          exact ih
        | cons a r =>
          have ha := h a (by simp)
          rw [if_neg (by show ¬ a = -1; omega)]
          rw [linkAll_snoc n i ns (a :: r) acc (by simp) h] at ih
          have e1 : firstOf (a :: r ++ [i]) = firstOf (a :: r) := rfl
          have e2 : (a :: r ++ [i]).getLastD (-1) = i := by rw [List.getLastD_eq_getLast?, List.getLast?_concat]; rfl
          rw [e1, e2] at ih
          have e3 : (a :: r).getLastD (-1) = (a :: r).getLast (by simp) := by rw [List.getLastD_eq_getLast?, List.getLast?_eq_some_getLast (by simp)]; rfl
          rw [e3]
          exact ih
end Go.Proofs.Ytoaaklcbcbjaiaa
