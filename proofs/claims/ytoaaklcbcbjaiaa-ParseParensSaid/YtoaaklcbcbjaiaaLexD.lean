/- Plain: a source's tokens by what is left of it; ahead of a semicolon and ahead of parentheses it ends the same. -/
import Derived.Test.YtoaaklcbcbjaiaaLexC
set_option linter.unusedSimpArgs false
set_option linter.unusedVariables false
namespace Go.Proofs.Ytoaaklcbcbjaiaa
open Go.RowKit

/-- what is left comes to these tokens -/
inductive TL : List UInt8 → List Tok → Prop
  | nil (r : List UInt8) : skipL false r = r.length → TL r []
  | cons (r : List UInt8) (t : Tok) (n : Nat) (T : List Tok) : skipL false r < r.length → oneF (r.drop (skipL false r)) = (t, n, 0) → TL ((r.drop (skipL false r)).drop n) T → TL r (t :: T)
theorem TL.inv {r : List UInt8} {T : List Tok} (h : TL r T) (hl : skipL false r < r.length) {t : Tok} {n : Nat} (ho : oneF (r.drop (skipL false r)) = (t, n, 0)) : ∃ T', T = t :: T' ∧ TL ((r.drop (skipL false r)).drop n) T' := by
  cases h with
  | nil _ h => omega
  | cons _ t' n' T' _ h2 h3 =>
    rw [ho] at h2
    simp only [Prod.mk.injEq, and_true] at h2
    obtain ⟨rfl, rfl⟩ := h2
    exact ⟨T', rfl, h3⟩
theorem TL.inv0 {r : List UInt8} {T : List Tok} (h : TL r T) (hl : skipL false r = r.length) : T = [] := by
  cases h with
  | nil _ h => rfl
  | cons _ t' n' T' h1 h2 h3 => omega
/-- a source that is cut comes to them -/
theorem lexG_tl (s : List UInt8) : ∀ (g k : Nat) (acc l : List (Tok × Nat)) (x : Nat), k ≤ s.length → s.length + 1 ≤ k + g → acc.length ≤ 1024 → lexG s g k acc = (l, 0, x) → ∃ T, l.map Prod.fst = acc.map Prod.fst ++ T ++ [tok0] ∧ TL (s.drop k) T
  | 0, k, acc, l, x, hk, hg, _, _ => by omega
  | g + 1, k, acc, l, x, hk, hg, ha, h => by
    have hle := skipL_le false (s.drop k)
    rw [List.length_drop] at hle
    rw [lexG] at h
    split at h
    · next h1 =>
      simp only [Prod.mk.injEq] at h
      obtain ⟨rfl, _, _⟩ := h
      exact ⟨[], by simp, TL.nil _ (by rw [List.length_drop]; omega)⟩
    split at h
    · rename_i h1 h2
      simp only [Prod.mk.injEq] at h
      exact absurd h.2.1 h2
    split at h
    · simp only [Prod.mk.injEq] at h
      omega
    · rename_i h1 h2 h3
      obtain ⟨r, n1, er, hr⟩ : ∃ r n1 er, oneF (s.drop (k + skipL false (s.drop k))) = (r, n1, er) := ⟨_, _, _, rfl⟩
      rw [hr] at h h2
      dsimp only at h h2
      have h2' : er = 0 := by simpa using h2
      subst h2'
      have hb := oneF_bd _ r n1 (by rw [List.length_drop]; omega) hr
      rw [List.length_drop] at hb
      obtain ⟨T, e1, e2⟩ := lexG_tl s g _ _ l x (by omega) (by omega) (by simp; omega) h
      refine ⟨r :: T, by rw [e1]; simp, TL.cons _ r n1 T (by rw [List.length_drop]; omega) (by rw [List.drop_drop]; exact hr) ?_⟩
      rw [List.drop_drop, List.drop_drop, ← Nat.add_assoc]; exact e2
theorem lexF_tl (s : List UInt8) (l : List (Tok × Nat)) (x : Nat) (h : lexF s = (l, 0, x)) : ∃ T, l.map Prod.fst = T ++ [tok0] ∧ TL s T := by
  unfold lexF at h
  split at h
  · simp at h
  · obtain ⟨T, e1, e2⟩ := lexG_tl s _ 0 [] l x (Nat.zero_le _) (by omega) (by simp) h
    exact ⟨T, by simpa using e1, by simpa using e2⟩

def tSemi : Tok := ⟨4, ⟨#[59]⟩, 0⟩
def tOpen : Tok := ⟨4, ⟨#[40]⟩, 0⟩
def tShut : Tok := ⟨4, ⟨#[41]⟩, 0⟩
theorem sign_one (c : UInt8) (x : List UInt8) (h1 : letterB (c.toNat : Int) = false) (h2 : digitB (c.toNat : Int) = false) (h3 : c.toNat ≠ 34) (h4 : twoL.all (fun q => q.data.toList.head? != some c) = true) (h5 : singles.data.toList.contains c = true) :
    oneF (c :: x) = (⟨4, ⟨#[c]⟩, 0⟩, 1, 0) := by
  unfold oneF
  dsimp only
  rw [h1, if_neg (by simp), h2, if_neg (by simp), if_neg h3]
  unfold signF
  have : twoL.find? (fun p => Lib.hasPrefix (c :: x) p.data.toList) = none := by
    rw [List.find?_eq_none]
    intro q hq
    have hh := List.all_eq_true.1 h4 q hq
    obtain ⟨a, b, e, _⟩ := two_len q hq
    rw [e] at hh ⊢
    simp at hh
    simp [Lib.hasPrefix, List.isPrefixOf, hh]
  rw [this]
  dsimp only
  rw [if_pos h5]
theorem one_open (x : List UInt8) : oneF (40 :: x) = (tOpen, 1, 0) := sign_one 40 x (by decide) (by decide) (by decide) (by kernel_rfl) (by kernel_rfl)
theorem one_shut (x : List UInt8) : oneF (41 :: x) = (tShut, 1, 0) := sign_one 41 x (by decide) (by decide) (by decide) (by kernel_rfl) (by kernel_rfl)
theorem one_semi (x : List UInt8) : oneF (59 :: x) = (tSemi, 1, 0) := sign_one 59 x (by decide) (by decide) (by decide) (by kernel_rfl) (by kernel_rfl)
theorem TL.head {c : UInt8} {x : List UInt8} {t : Tok} {T : List Tok} (h : TL (c :: x) T) (hs : skipL false (c :: x) = 0) (ho : oneF (c :: x) = (t, 1, 0)) : ∃ T', T = t :: T' ∧ TL x T' := by
  obtain ⟨T', e1, e2⟩ := h.inv (by rw [hs]; simp) (t := t) (n := 1) (by rw [hs]; exact ho)
  exact ⟨T', e1, by rw [hs] at e2; simpa using e2⟩
theorem TL.open {x : List UInt8} {T : List Tok} (h : TL (40 :: x) T) : ∃ T', T = tOpen :: T' ∧ TL x T' := h.head (by simp [skipL]) (one_open x)
theorem TL.shut {x : List UInt8} {T : List Tok} (h : TL (41 :: x) T) : ∃ T', T = tShut :: T' ∧ TL x T' := h.head (by simp [skipL]) (one_shut x)
theorem TL.semi {x : List UInt8} {T : List Tok} (h : TL (59 :: x) T) : ∃ T', T = tSemi :: T' ∧ TL x T' := h.head (by simp [skipL]) (one_semi x)
theorem TL.empty {T : List Tok} (h : TL [] T) : T = [] := h.inv0 (by simp [skipL])
theorem TL.blank {x : List UInt8} {T : List Tok} (h : TL (32 :: x) T) : TL x T := by
  have hs : skipL false (32 :: x) = skipL false x + 1 := by simp [skipL]
  cases h with
  | nil _ h => exact TL.nil _ (by rw [hs] at h; simpa using h)
  | cons _ t n T h1 h2 h3 =>
    rw [hs] at h1 h2 h3
    simp only [List.length_cons, List.drop_succ_cons] at h1 h2 h3
    exact TL.cons _ t n T (by omega) h2 h3
theorem TL.opens : ∀ (j : Nat) {x : List UInt8} {T : List Tok}, TL (List.replicate j 40 ++ x) T → ∃ T', T = List.replicate j tOpen ++ T' ∧ TL x T'
  | 0, x, T, h => ⟨T, by simp, by simpa using h⟩
  | j + 1, x, T, h => by
    rw [List.replicate_succ, List.cons_append] at h
    obtain ⟨T1, rfl, h1⟩ := TL.open h
    obtain ⟨T2, rfl, h2⟩ := TL.opens j h1
    exact ⟨T2, by rw [List.replicate_succ]; rfl, h2⟩
theorem TL.shuts : ∀ (j : Nat) {T : List Tok}, TL (List.replicate j 41 ++ [59]) T → T = List.replicate j tShut ++ [tSemi]
  | 0, T, h => by
    obtain ⟨T1, rfl, h1⟩ := TL.semi (by simpa using h)
    have e3 : T1 = [] := TL.empty h1
    rw [e3]; rfl
  | j + 1, T, h => by
    rw [List.replicate_succ, List.cons_append] at h
    obtain ⟨T1, rfl, h1⟩ := TL.shut h
    rw [TL.shuts j h1, List.replicate_succ]; rfl
/-- no token goes on into a semicolon -/
theorem span_semi (q : Int → Bool) (h : q 59 = false) : ∀ p : List UInt8, spanN q (p ++ [59]) ≤ p.length
  | [] => by
    have e : (((59 : UInt8).toNat : Nat) : Int) = 59 := rfl
    simp [spanN, e, h]
  | c :: p => by
    have := span_semi q h p
    simp only [List.cons_append, spanN, List.length_cons]
    split <;> omega
theorem text_semi : ∀ (p acc : List UInt8) (t : Tok) (n : Nat), textG (p ++ [59]) acc = (t, n, 0) → n ≤ p.length
  | [], acc, t, n, h => by simp [textG] at h
  | [c], acc, t, n, h => by
    simp only [List.cons_append, List.nil_append] at h
    rw [textG_cons] at h
    split at h
    · split at h
      · simp at h
      · simp at h; simp; omega
    split at h
    · simp at h
    split at h
    · simp [textG] at h
    · have : escZ (((59 : UInt8).toNat : Nat) : Int) = 0 := by decide
      dsimp only at h
      rw [if_pos this] at h
      simp at h
  | c :: d :: p, acc, t, n, h => by
    simp only [List.cons_append] at h
    rw [textG_cons] at h
    split at h
    · split at h
      · simp at h
      · simp at h; simp; omega
    split at h
    · simp at h
    split at h
    · simp only [Prod.mk.injEq] at h
      obtain ⟨h1, h2, h3⟩ := h
      have := text_semi (d :: p) (acc ++ [c]) t (textG (d :: p ++ [59]) (acc ++ [c])).2.1 (by
        rw [← h1]
        have e : ∀ x : Tok × Nat × Int, x.2.2 = 0 → x = (x.1, x.2.1, 0) := fun x hx => by rw [← hx]
        exact e _ h3)
      simp only [List.cons_append] at this
      simp only [List.length_cons] at this ⊢
      omega
    · dsimp only at h
      split at h
      · simp at h
      · simp only [Prod.mk.injEq] at h
        obtain ⟨h1, h2, h3⟩ := h
        have := text_semi p (acc ++ [UInt8.ofNat (escZ (d.toNat : Int)).toNat]) t (textG (p ++ [59]) (acc ++ [UInt8.ofNat (escZ (d.toNat : Int)).toNat])).2.1 (by
          rw [← h1]
          have e : ∀ x : Tok × Nat × Int, x.2.2 = 0 → x = (x.1, x.2.1, 0) := fun x hx => by rw [← hx]
          exact e _ h3)
        simp only [List.length_cons]
        omega
theorem one_semi_end (c : UInt8) (p : List UInt8) (t : Tok) (n : Nat) (h : oneF (c :: p ++ [59]) = (t, n, 0)) : n ≤ (c :: p).length := by
  simp only [List.cons_append] at h
  unfold oneF at h
  dsimp only at h
  split at h
  · simp only [Prod.mk.injEq] at h
    have := span_semi nameB (by decide) (c :: p)
    simp only [List.cons_append] at this
    omega
  split at h
  · have hsp := span_semi digitB (by decide) (c :: p)
    simp only [List.cons_append] at hsp
    split at h
    · simp at h
    · simp only [Prod.mk.injEq] at h
      omega
  split at h
  · simp only [Prod.mk.injEq] at h
    obtain ⟨h1, h2, h3⟩ := h
    have e : ∀ x : Tok × Nat × Int, x.2.2 = 0 → x = (x.1, x.2.1, 0) := fun x hx => by rw [← hx]
    have := text_semi p [] _ _ (e _ h3)
    simp only [List.length_cons]
    omega
  · unfold signF at h
    split at h
    · next q hf =>
      simp only [Prod.mk.injEq] at h
      obtain ⟨_, rfl, _⟩ := h
      cases p with
      | nil =>
        exfalso
        have h1 := List.find?_some hf
        obtain ⟨a, b, e, _, _, hb⟩ := two_len q (List.mem_of_find?_eq_some hf)
        rw [e] at h1
        simp [Lib.hasPrefix, List.isPrefixOf] at h1
        exact hb h1.2
      | cons d p => simp
    · dsimp only at h
      split at h
      · simp only [Prod.mk.injEq] at h
        simp; omega
      · simp at h
theorem skip_all_semi : ∀ (u : List UInt8) (q : Bool) (y : List UInt8), skipL q (u ++ [59]) = u.length + 1 → (∀ c ∈ y, c.toNat ≠ 10) → skipL q (u ++ y) = u.length + y.length
  | [], q, y, h, hy => by
    cases q
    · simp [skipL] at h
    · simp only [List.nil_append, List.length_nil, Nat.zero_add]
      clear h
      induction y with
      | nil => rfl
      | cons c y ih =>
        simp only [skipL, if_neg (hy c (by simp)), List.length_cons]
        rw [ih (fun d hd => hy d (by simp [hd]))]
  | c :: u, true, y, h, hy => by
    simp only [List.cons_append, skipL, List.length_cons] at h ⊢
    split at h
    · next hc => rw [if_pos hc, skip_all_semi u false y (by omega) hy]; omega
    · next hc => rw [if_neg hc, skip_all_semi u true y (by omega) hy]; omega
  | c :: u, false, y, h, hy => by
    simp only [List.cons_append, skipL, List.length_cons] at h ⊢
    split at h
    · next hc => rw [if_pos hc, skip_all_semi u false y (by omega) hy]; omega
    · next hc =>
      split at h
      · next h2 => rw [if_neg hc, if_pos h2, skip_all_semi u true y (by omega) hy]; omega
      · omega
/-- ahead of a semicolon and ahead of parentheses a source has the same tokens -/
theorem tl_swap (j : Nat) (hj : 0 < j) : ∀ (N : Nat) (u : List UInt8) (T1 T3 : List Tok), u.length < N → TL (u ++ [59]) T1 → TL (u ++ (List.replicate j 41 ++ [59])) T3 →
    (∃ X, T1 = X ++ [tSemi] ∧ T3 = X ++ (List.replicate j tShut ++ [tSemi])) ∨ T1 = T3
  | 0, u, T1, T3, hN, _, _ => by omega
  | N + 1, u, T1, T3, hN, h1, h3 => by
    have hle := skipL_le false (u ++ [59])
    have hy : ∀ c ∈ List.replicate j (41 : UInt8) ++ [59], c.toNat ≠ 10 := by
      intro c hc
      rcases List.mem_append.1 hc with hc | hc
      · rw [(List.mem_replicate.1 hc).2]; decide
      · simp at hc; subst hc; decide
    obtain ⟨y, hyy⟩ : ∃ y, List.replicate j (41 : UInt8) ++ [59] = y := ⟨_, rfl⟩
    have hy41 : ∃ z, y = 41 :: z := by
      obtain ⟨j', rfl⟩ : ∃ j', j = j' + 1 := ⟨j - 1, by omega⟩
      exact ⟨_, by rw [← hyy, List.replicate_succ]; rfl⟩
    by_cases hall : skipL false (u ++ [59]) = u.length + 1
    · right
      exact (h1.inv0 (by simpa using hall)).trans (h3.inv0 (by rw [skip_all_semi u false _ hall hy]; simp)).symm
    · rw [List.length_append, List.length_singleton] at hle
      rw [hyy] at h3
      obtain ⟨b, u', hbu, hb⟩ : ∃ b u', u = b ++ u' ∧ skipL false (u ++ [59]) = b.length := ⟨u.take (skipL false (u ++ [59])), u.drop (skipL false (u ++ [59])), (List.take_append_drop _ _).symm, by rw [List.length_take]; omega⟩
      have hd1 : (u ++ [59]).drop b.length = u' ++ [59] := by rw [hbu, List.append_assoc, List.drop_left]
      have hs0 : skipL false (u' ++ [59]) = 0 := by
        have := skip_idem false (u ++ [59])
        rw [hb, hd1] at this; exact this
      have hcl : ∀ x, skipL false (u ++ x) = b.length + skipL false (u' ++ x) := by
        intro x
        obtain ⟨c, r, hcr⟩ : ∃ c r, u' ++ [59] = c :: r := by cases u' with
          | nil => exact ⟨_, _, rfl⟩
          | cons c u' => exact ⟨_, _, rfl⟩
        have := skip_closed b false c r (by rw [← hcr, ← List.append_assoc, ← hbu]; exact hb) (u' ++ x)
        rw [← List.append_assoc, ← hbu] at this; exact this
      have hsy : skipL false (u' ++ y) = 0 := by
        cases u' with
        | nil => obtain ⟨z, rfl⟩ := hy41; simp [skipL]
        | cons c u' => exact skip_head c u' y [59] (by simpa using hs0)
      have hby : skipL false (u ++ y) = b.length := by rw [hcl, hsy]; rfl
      have hd2 : (u ++ y).drop b.length = u' ++ y := by rw [hbu, List.append_assoc, List.drop_left]
      have hul : u.length = b.length + u'.length := by rw [hbu, List.length_append]
      have hyl : 0 < y.length := by obtain ⟨z, rfl⟩ := hy41; simp
      cases u' with
      | nil =>
        left
        refine ⟨[], ?_, ?_⟩
        · obtain ⟨T', e1, e2⟩ := h1.inv (by rw [hb]; simp at hul ⊢; omega) (t := tSemi) (n := 1) (by rw [hb, hd1]; exact one_semi [])
          rw [hb, hd1] at e2
          have e3 : T' = [] := TL.empty (by simpa using e2)
          rw [e1, e3]; rfl
        · have h3' : TL y T3 := by
            obtain ⟨z, rfl⟩ := hy41
            obtain ⟨T', e1, e2⟩ := h3.inv (by rw [hby]; simp at hul ⊢; omega) (t := tShut) (n := 1) (by rw [hby, hd2]; exact one_shut z)
            rw [hby, hd2] at e2
            rw [e1]
            exact TL.cons _ tShut 1 T' (by simp [skipL]) (by simpa [skipL] using one_shut z) (by simpa [skipL] using e2)
          rw [← hyy] at h3'
          simpa using TL.shuts j h3'
      | cons c u' =>
        obtain ⟨t, n, ho, ht⟩ : ∃ t n, oneF (c :: u' ++ [59]) = (t, n, 0) ∧ ∃ T', T1 = t :: T' ∧ TL ((c :: u' ++ [59]).drop n) T' := by
          cases h1 with
          | nil _ h => rw [hb] at h; simp at h hul; omega
          | cons _ t n T' k1 k2 k3 =>
            rw [hb, hd1] at k2 k3
            exact ⟨t, n, k2, T', rfl, k3⟩
        obtain ⟨T1', rfl, ht1⟩ := ht
        have hn1 := (oneF_bd _ t n (by simp) ho).1
        have hn2 := one_semi_end c u' t n ho
        have hcut : ∀ x, c :: u' ++ x = (c :: u').take n ++ ((c :: u').drop n ++ x) := fun x => by rw [← List.append_assoc, List.take_append_drop]
        have hlen : ((c :: u').take n).length = n := by rw [List.length_take]; omega
        have ho2 : oneF (c :: u' ++ y) = (t, n, 0) := by
          rw [hcut] at ho ⊢
          have := one_swap ((c :: u').take n) ((c :: u').drop n ++ [59]) ((c :: u').drop n ++ y) t (by omega) (by rw [hlen]; exact ho) ?_
          · rw [hlen] at this; exact this
          · cases hq : (c :: u').drop n with
            | nil => obtain ⟨z, rfl⟩ := hy41; exact Or.inr (Or.inl ⟨41, z, rfl, Or.inr (Or.inl rfl)⟩)
            | cons d q => exact Or.inr (Or.inr ⟨d, _, _, rfl, rfl⟩)
        obtain ⟨T3', rfl, ht3⟩ := h3.inv (by rw [hby]; simp at hul ⊢; omega) (t := t) (n := n) (by rw [hby, hd2]; exact ho2)
        rw [hby, hd2] at ht3
        rw [List.drop_append_of_le_length hn2] at ht1 ht3
        rw [← hyy] at ht3
        have hN' : ((c :: u').drop n).length < u.length := by rw [List.length_drop, hul]; simp only [List.length_cons] at hn2 ⊢; omega
        rcases tl_swap j hj N _ T1' T3' (by omega) ht1 ht3 with ⟨X, rfl, rfl⟩ | rfl
        · exact Or.inl ⟨t :: X, rfl, rfl⟩
        · exact Or.inr rfl
end Go.Proofs.Ytoaaklcbcbjaiaa
