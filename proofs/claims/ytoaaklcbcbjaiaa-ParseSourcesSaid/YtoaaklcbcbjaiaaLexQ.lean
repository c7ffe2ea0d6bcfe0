/- What is quoted, in plain words, and that it is one token that says it. -/
import Derived.Test.YtoaaklcbcbjaiaaLexP
set_option linter.unusedSimpArgs false
set_option linter.unusedVariables false
namespace Go.Proofs.Ytoaaklcbcbjaiaa
open Go.RowKit

/-- what a byte is quoted as -/
def quo1 (c : UInt8) : List UInt8 := if c.toNat = 10 then [92, 110] else if c.toNat = 34 ∨ c.toNat = 92 then [92, c] else [c]
/-- may it be quoted? -/
def okQ (c : UInt8) : Bool := decide (c.toNat = 10 ∨ (32 ≤ c.toNat ∧ c.toNat ≤ 126))
/-- the token that says a text, and the error -/
def quoteF (s : List UInt8) : List UInt8 × Int := if 64 < s.length then ([], 5) else if s.all okQ = true then (34 :: s.flatMap quo1 ++ [34], 0) else ([], 3)

theorem textG_cons (c : UInt8) (l acc : List UInt8) : textG (c :: l) acc =
    if c.toNat = 34 then (if 64 < acc.length then (tok0, 0, 5) else (⟨3, ⟨acc.toArray⟩, 0⟩, 1, 0))
    else if c.toNat < 32 ∨ 126 < c.toNat then (tok0, 0, 3)
    else if c.toNat ≠ 92 then (let r := textG l (acc ++ [c]); (r.1, r.2.1 + 1, r.2.2))
    else match l with
      | [] => (tok0, 0, 2)
      | d :: l' => if escZ (d.toNat : Int) = 0 then (tok0, 0, 3) else (let r := textG l' (acc ++ [UInt8.ofNat (escZ (d.toNat : Int)).toNat]); (r.1, r.2.1 + 2, r.2.2)) := by
  cases l <;> rw [textG.eq_def]
theorem textG_plain (c : UInt8) (l acc : List UInt8) (h1 : ¬ c.toNat = 34) (h2 : 32 ≤ c.toNat) (h3 : c.toNat ≤ 126) (h4 : ¬ c.toNat = 92) :
    textG (c :: l) acc = ((textG l (acc ++ [c])).1, (textG l (acc ++ [c])).2.1 + 1, (textG l (acc ++ [c])).2.2) := by
  rw [textG_cons, if_neg h1, if_neg (by omega), if_pos h4]
theorem textG_esc (c d : UInt8) (l acc : List UInt8) (z : UInt8) (h : c.toNat = 92) (hz : escZ (d.toNat : Int) = (z.toNat : Int)) (h0 : z.toNat ≠ 0) :
    textG (c :: d :: l) acc = ((textG l (acc ++ [z])).1, (textG l (acc ++ [z])).2.1 + 2, (textG l (acc ++ [z])).2.2) := by
  have e : UInt8.ofNat (z.toNat : Int).toNat = z := by simp
  rw [textG_cons, if_neg (by omega), if_neg (by omega), if_neg (by omega)]
  dsimp only
  rw [hz, e, if_neg (by omega)]

theorem text_quo (rest : List UInt8) : ∀ (s acc : List UInt8), s.all okQ = true → acc.length + s.length ≤ 64 →
    textG (s.flatMap quo1 ++ 34 :: rest) acc = (⟨3, ⟨(acc ++ s).toArray⟩, 0⟩, (s.flatMap quo1).length + 1, 0)
  | [], acc, _, hl => by
    have h64 : ¬ 64 < acc.length := by simp at hl; omega
    have e : (List.flatMap quo1 [] ++ 34 :: rest) = 34 :: rest := rfl
    rw [e, textG_cons, if_pos (show UInt8.toNat 34 = 34 from rfl), if_neg h64]
    simp
  | c :: s, acc, hok, hl => by
    simp only [List.all_cons, Bool.and_eq_true] at hok
    obtain ⟨h1, h2⟩ := hok
    have ih := text_quo rest s (acc ++ [c]) h2 (by simp at hl ⊢; omega)
    have hc : c.toNat = 10 ∨ (32 ≤ c.toNat ∧ c.toNat ≤ 126) := by simpa [okQ] using h1
    by_cases c1 : c.toNat = 10
    · have eq : quo1 c = [92, 110] := by rw [quo1, if_pos c1]
      rw [List.flatMap_cons, eq, List.append_assoc]
      simp only [List.cons_append, List.nil_append]
      rw [textG_esc 92 110 _ _ c rfl (by rw [c1]; rfl) (by omega), ih]
      simp
    by_cases c2 : c.toNat = 34 ∨ c.toNat = 92
    · have eq : quo1 c = [92, c] := by rw [quo1, if_neg c1, if_pos c2]
      have ez : escZ (c.toNat : Int) = (c.toNat : Int) := by unfold escZ; rw [if_pos (by omega)]
      rw [List.flatMap_cons, eq, List.append_assoc]
      simp only [List.cons_append, List.nil_append]
      rw [textG_esc 92 c _ _ c rfl ez (by omega), ih]
      simp
    · have eq : quo1 c = [c] := by rw [quo1, if_neg c1, if_neg c2]
      rw [List.flatMap_cons, eq, List.append_assoc]
      simp only [List.cons_append, List.nil_append]
      rw [textG_plain c _ _ (by omega) (by omega) (by omega) (by omega), ih]
      simp

theorem quo1_len (s : List UInt8) : (s.flatMap quo1).length ≤ 2 * s.length := by
  induction s with
  | nil => simp
  | cons c s ih =>
    have : (quo1 c).length ≤ 2 := by unfold quo1; (repeat' split) <;> simp
    simp only [List.flatMap_cons, List.length_append, List.length_cons]
    omega

/-- blanks only -/
def blankL (l : List UInt8) : Bool := l.all fun c => decide (c.toNat = 32 ∨ c.toNat = 9 ∨ c.toNat = 10)
theorem skip_blanks (t : List UInt8) : ∀ l, blankL l = true → skipL false (l ++ t) = l.length + skipL false t
  | [], _ => by simp
  | c :: l, h => by
    simp only [blankL, List.all_cons, Bool.and_eq_true, decide_eq_true_eq] at h
    have ih := skip_blanks t l (by simpa [blankL] using h.2)
    simp only [List.cons_append, skipL, if_pos h.1, ih, List.length_cons]
    omega

/-- what is quoted, blanks ahead and a remark behind: one token -/
theorem lex_quote (s blk : List UInt8) (hb : blankL blk = true) (hk : blk.length ≤ 100) (hs : s.length ≤ 64) (hok : s.all okQ = true) :
    lexF (blk ++ (34 :: s.flatMap quo1 ++ [34]) ++ [35]) = ([(⟨3, ⟨s.toArray⟩, 0⟩, blk.length), (tok0, blk.length + (s.flatMap quo1).length + 3)], 0, 0) := by
  have hq := quo1_len s
  have e34 : (34 : UInt8).toNat = 34 := rfl
  have e35 : (35 : UInt8).toNat = 35 := rfl
  obtain ⟨m, hm⟩ : ∃ m, (s.flatMap quo1).length = m := ⟨_, rfl⟩
  rw [hm] at hq ⊢
  have hL : (blk ++ (34 :: s.flatMap quo1 ++ [34]) ++ [35]).length = blk.length + m + 3 := by simp [hm]; omega
  have hL' : ∀ x, (blk ++ (34 :: s.flatMap quo1 ++ [34]) ++ [35]).length = x → x = blk.length + m + 3 := fun x h => by rw [← h, hL]
  have h0 : skipL false (blk ++ (34 :: s.flatMap quo1 ++ [34]) ++ [35]) = blk.length := by
    rw [List.append_assoc, skip_blanks _ _ hb]
    simp [skipL, e34]
  have hd : (blk ++ (34 :: s.flatMap quo1 ++ [34]) ++ [35]).drop blk.length = 34 :: (s.flatMap quo1 ++ 34 :: [35]) := by
    rw [List.append_assoc, List.drop_left]
    simp
  have ho : oneF (34 :: (s.flatMap quo1 ++ 34 :: [35])) = (⟨3, ⟨s.toArray⟩, 0⟩, m + 2, 0) := by
    have ht := text_quo [35] s [] hok (by simpa using hs)
    have l34 : letterB ((34 : UInt8).toNat : Int) = false := by decide
    have d34 : digitB ((34 : UInt8).toNat : Int) = false := by decide
    unfold oneF
    dsimp only
    rw [if_neg (by rw [l34]; simp), if_neg (by rw [d34]; simp), if_pos e34, ht]
    simp [hm]
    omega
  have hd2 : (blk ++ (34 :: s.flatMap quo1 ++ [34]) ++ [35]).drop (blk.length + (m + 2)) = [35] := by
    rw [List.append_assoc, List.drop_append, List.drop_eq_nil_of_le (by omega)]
    have e1 : blk.length + (m + 2) - blk.length = (34 :: s.flatMap quo1 ++ [34]).length := by simp [hm]
    rw [List.nil_append, e1, List.drop_left]
  generalize blk ++ (34 :: s.flatMap quo1 ++ [34]) ++ [35] = L at *
  have hd0 : L.drop 0 = L := rfl
  unfold lexF
  rw [if_neg (by omega)]
  obtain ⟨g, hg⟩ : ∃ g, L.length + 1 = g + 2 := ⟨blk.length + m + 2, by omega⟩
  rw [hg, lexG, hd0, h0, Nat.zero_add, hd, ho, if_neg (by omega), if_neg (by simp), if_neg (by simp)]
  dsimp only
  rw [lexG, hd2]
  have hsk : skipL false [35] = 1 := by simp [skipL, e35]
  rw [hsk, if_pos (by omega)]
  simp [hL]
end Go.Proofs.Ytoaaklcbcbjaiaa
