/- The lexer's next: one contract. -/
import Derived.Test.YtoaaklcbcbjaiaaLex7
set_option linter.unusedSimpArgs false
set_option linter.unusedVariables false
namespace Go.Proofs.Ytoaaklcbcbjaiaa
open Go.RowKit

def headLetter : List UInt8 → Bool
  | [] => false
  | c :: _ => letterB (c.toNat : Int)
/-- the token with which bytes begin: it, how many bytes it has, and the error -/
def oneF : List UInt8 → Tok × Nat × Int
  | [] => (tok0, 0, 3)
  | c :: l =>
    if letterB (c.toNat : Int) = true then ((nameF ⟨((c :: l).take (spanN nameB (c :: l))).toArray⟩).1, spanN nameB (c :: l), (nameF ⟨((c :: l).take (spanN nameB (c :: l))).toArray⟩).2)
    else if digitB (c.toNat : Int) = true then
      (if (1 < spanN digitB (c :: l) ∧ c.toNat = 48) ∨ headLetter ((c :: l).drop (spanN digitB (c :: l))) = true then (tok0, spanN digitB (c :: l), 3)
       else ((numF ⟨((c :: l).take (spanN digitB (c :: l))).toArray⟩).1, spanN digitB (c :: l), (numF ⟨((c :: l).take (spanN digitB (c :: l))).toArray⟩).2))
    else if c.toNat = 34 then ((textG l []).1, 1 + (textG l []).2.1, (textG l []).2.2)
    else signF (c :: l)

theorem extract_take (s : ByteArray) (m n : Nat) : s.extract m (m + n) = ⟨((s.data.toList.drop m).take n).toArray⟩ := by
  apply ByteArray.ext
  apply Array.ext'
  simp [List.extract_eq_take_drop]

theorem take_name (b : Nat) (s : ByteArray) (m n : Nat) (lv : Value) (hk : m ≤ s.size) (hs : s.size ≤ maxLen) (hn : spanN nameB (s.data.toList.drop m) = n) (r : Tok) (e : Int) (hr : nameF (s.extract m (m + n)) = (r, e)) (w : World) (h : LexAt b s m lv w) :
    Calls Try.prog 80 #[.pointer (some ⟨b, 0, none⟩)] w (TakePost b (m + n) r e w) :=
  (name_any b s _ m n lv hk hs hn rfl r e hr w h).mono fun e' w' ⟨he, hx⟩ => ⟨he, m + n, fun _ => rfl, hx⟩

theorem take_sign (b : Nat) (s : ByteArray) (m n : Nat) (lv : Value) (hk : m < s.size) (hs : (s.size : Int) ≤ 4611686018427387904) (r : Tok) (e : Int) (hr : signF (s.data.toList.drop m) = (r, n, e)) (w : World) (h : LexAt b s m lv w) :
    Calls Try.prog 78 #[.pointer (some ⟨b, 0, none⟩)] w (TakePost b (m + n) r e w) := by
  have e1 : (s.extract m s.size).data.toList = s.data.toList.drop m := by
    have h1 : (s.extract m s.size).data.toList = (s.data.toList.drop m).take (s.size - m) := by simp [List.extract_eq_take_drop]
    rw [h1, List.take_of_length_le (by simp)]
  refine (sign_any b s _ m n lv hk hs rfl (by simp; omega) r e (by rw [e1]; exact hr) w h).mono fun e' w' ⟨he, hx⟩ => ⟨he, m + n, fun _ => rfl, hx⟩

theorem take_text (b : Nat) (s : ByteArray) (m n : Nat) (lv : Value) (hk : m < s.size) (hs : s.size ≤ 140737488351232) (r : Tok) (e : Int) (hr : textG (s.data.toList.drop (m + 1)) [] = (r, n, e)) (w : World) (h : LexAt b s m lv w) :
    Calls Try.prog 83 #[.pointer (some ⟨b, 0, none⟩)] w (TakePost b (m + (1 + n)) r e w) :=
  (text_any b s m n lv hk hs r e hr w h).mono fun e' w' ⟨he, k', h1, hx⟩ => ⟨he, k', fun h0 => by rw [h1 h0]; omega, hx⟩

theorem span_digits (s : ByteArray) (m n : Nat) (hm : m ≤ s.size) (hn : spanN digitB (s.data.toList.drop m) = n) (hmn : m + n ≤ s.size) :
    ∀ (j : Nat) (h : j < (s.extract m (m + n)).size), 48 ≤ (((s.extract m (m + n))[j]'h).toNat : Int) ∧ (((s.extract m (m + n))[j]'h).toNat : Int) ≤ 57 := by
  intro j h
  have hl : (s.extract m (m + n)).data.toList = (s.data.toList.drop m).take n := by rw [extract_take]
  have hj : ((s.data.toList.drop m).take (spanN digitB (s.data.toList.drop m)))[j]? = some ((s.extract m (m + n))[j]'h) := by
    rw [hn, ← hl]
    exact List.getElem?_eq_getElem (by simp at h ⊢; omega)
  have := span_all digitB _ j _ hj
  simpa [digitB] using this

theorem take_number (b : Nat) (s : ByteArray) (m n : Nat) (lv : Value) (hk : m < s.size) (hs : s.size ≤ maxLen) (hn : spanN digitB (s.data.toList.drop m) = n) (r : Tok) (e : Int)
    (hr : (if (1 < n ∧ (s[m]'hk).toNat = 48) ∨ headLetter (s.data.toList.drop (m + n)) = true then (tok0, 3) else numF (s.extract m (m + n))) = (r, e)) (w : World) (h : LexAt b s m lv w) :
    Calls Try.prog 82 #[.pointer (some ⟨b, 0, none⟩)] w (TakePost b (m + n) r e w) := by
  have hle := spanN_le digitB (s.data.toList.drop m)
  rw [hn] at hle
  have hmn : m + n ≤ s.size := by simp at hle; omega
  have htn : (s.extract m (m + n)).size = n := by simp; omega
  have h0 : ∀ h : 0 < (s.extract m (m + n)).size, (s.extract m (m + n))[0]'h = s[m]'hk := by
    intro h
    simp [ByteArray.getElem_extract]
  have hlet : headLetter (s.data.toList.drop (m + n)) = true ↔ ∃ h : m + n < s.size, letterB ((s[m + n]'h).toNat : Int) = true := by
    by_cases hlt : m + n < s.size
    · have hd : s.data.toList.drop (m + n) = s[m + n]'hlt :: s.data.toList.drop (m + n + 1) := List.drop_eq_getElem_cons (by simpa using hlt)
      rw [hd]
      exact ⟨fun h => ⟨hlt, h⟩, fun ⟨_, h⟩ => h⟩
    · have hd : s.data.toList.drop (m + n) = [] := List.drop_eq_nil_of_le (by simp; omega)
      rw [hd]
      exact ⟨fun h => by simp [headLetter] at h, fun ⟨h, _⟩ => absurd h hlt⟩
  by_cases hc : (1 < n ∧ (s[m]'hk).toNat = 48) ∨ headLetter (s.data.toList.drop (m + n)) = true
  · rw [if_pos hc] at hr
    simp only [Prod.mk.injEq] at hr
    obtain ⟨rfl, rfl⟩ := hr
    refine (number_err b s _ m n lv (by omega) hs hmn hn rfl htn ?_ w h).mono fun e' w' ⟨he, hx⟩ => ⟨he, m + n, fun _ => rfl, hx⟩
    by_cases h1 : 1 < n ∧ (s[m]'hk).toNat = 48
    · exact Or.inl ⟨h1.1, by omega, by rw [h0]; omega⟩
    · have h2 := hlet.1 (hc.resolve_left h1)
      refine Or.inr ⟨?_, h2⟩
      by_cases h3 : 1 < n
      · exact Or.inr ⟨h3, by omega, by rw [h0]; omega⟩
      · exact Or.inl (by omega)
  · rw [if_neg hc] at hr
    refine (number_ok b s _ m n lv (by omega) hs hmn hn rfl htn ?_ ?_ (span_digits s m n (by omega) hn hmn) r e hr w h).mono fun e' w' ⟨he, hx⟩ => ⟨he, m + n, fun _ => rfl, hx⟩
    · by_cases h3 : 1 < n
      · exact Or.inr ⟨h3, by omega, by rw [h0]; omega⟩
      · exact Or.inl (by omega)
    · by_cases hlt : m + n < s.size
      · refine Or.inr ⟨hlt, ?_⟩
        cases hb : letterB ((s[m + n]'hlt).toNat : Int)
        · rfl
        · exact absurd (Or.inr (hlet.2 ⟨hlt, hb⟩)) hc
      · exact Or.inl (by omega)

theorem next_any (b : Nat) (s : ByteArray) (k n : Nat) (lv : Value) (hk : k ≤ s.size) (hs : s.size ≤ 140737488351232) (hn : skipL false (s.data.toList.drop k) = n) (hlt : k + n < s.size) (n1 : Nat) (r : Tok) (e : Int) (hr : oneF (s.data.toList.drop (k + n)) = (r, n1, e)) (w : World) (h : LexAt b s k lv w) :
    Calls Try.prog 47 #[.pointer (some ⟨b, 0, none⟩)] w (NextPost b (k + n) (k + n + n1) r e w) := by
  have hm : s.size ≤ maxLen := by unfold maxLen; omega
  obtain ⟨m, hmm⟩ : ∃ m, k + n = m := ⟨_, rfl⟩
  have hlt' : m < s.size := by omega
  have hd : s.data.toList.drop m = s[m]'hlt' :: s.data.toList.drop (m + 1) := List.drop_eq_getElem_cons (by simpa using hlt')
  subst hmm
  have hr0 := hr
  rw [hd] at hr
  unfold oneF at hr
  dsimp only at hr
  rw [← hd] at hr
  by_cases c1 : letterB ((s[k + n]'hlt).toNat : Int) = true
  · rw [if_pos c1] at hr
    simp only [Prod.mk.injEq] at hr
    obtain ⟨rfl, rfl, rfl⟩ := hr
    refine next_name b s k n lv hk hm hn hlt c1 _ _ _ (Lib.hid fun w h => take_name b s (k + n) _ lv (by omega) hm rfl _ _ ?_ w h) w h
    rw [extract_take]
  rw [if_neg c1] at hr
  have c1' : letterB ((s[k + n]'hlt).toNat : Int) = false := by simpa using c1
  by_cases c2 : digitB ((s[k + n]'hlt).toNat : Int) = true
  · rw [if_pos c2] at hr
    have hnum : ∀ n2, spanN digitB (s.data.toList.drop (k + n)) = n2 → n2 = n1 ∧ (if (1 < n2 ∧ (s[k + n]'hlt).toNat = 48) ∨ headLetter (s.data.toList.drop (k + n + n2)) = true then (tok0, 3) else numF (s.extract (k + n) (k + n + n2))) = (r, e) := by
      intro n2 h2
      rw [h2, List.drop_drop] at hr
      rw [extract_take]
      split at hr
      · next hc => rw [if_pos hc]; simp only [Prod.mk.injEq] at hr ⊢; exact ⟨hr.2.1, hr.1, hr.2.2⟩
      · next hc => rw [if_neg hc]; simp only [Prod.mk.injEq] at hr; exact ⟨hr.2.1, by rw [← hr.1, ← hr.2.2]⟩
    obtain ⟨h3, h4⟩ := hnum _ rfl
    rw [← h3]
    exact next_number b s k n lv hk hm hn hlt c1' c2 _ _ _ (Lib.hid fun w h => take_number b s (k + n) _ lv hlt hm rfl _ _ h4 w h) w h
  rw [if_neg c2] at hr
  have c2' : digitB ((s[k + n]'hlt).toNat : Int) = false := by simpa using c2
  by_cases c3 : (s[k + n]'hlt).toNat = 34
  · rw [if_pos c3] at hr
    simp only [Prod.mk.injEq] at hr
    obtain ⟨rfl, rfl, rfl⟩ := hr
    exact next_text b s k n lv hk hm hn hlt c1' c2' (by simp; omega) _ _ _ (Lib.hid fun w h => take_text b s (k + n) _ lv hlt hs _ _ rfl w h) w h
  · rw [if_neg c3] at hr
    exact next_sign b s k n lv hk hm hn hlt c1' c2' (by simp; omega) _ _ _ (Lib.hid fun w h => take_sign b s (k + n) _ lv hlt (by omega) _ _ hr w h) w h
end Go.Proofs.Ytoaaklcbcbjaiaa
