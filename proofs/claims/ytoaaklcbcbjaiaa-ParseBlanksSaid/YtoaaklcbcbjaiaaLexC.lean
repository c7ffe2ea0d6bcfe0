/- Blanks and remarks more between tokens change nothing but their places; a token ends as well ahead of a parenthesis: the plain law. -/
import Derived.Test.YtoaaklcbcbjaiaaLexQ
set_option linter.unusedSimpArgs false
set_option linter.unusedVariables false
namespace Go.Proofs.Ytoaaklcbcbjaiaa
open Go.RowKit

/-! ### what stands behind a token does not matter, if a blank does -/
/-- the same head, a blank, or nothing -/
def HeadOk (r r' : List UInt8) : Prop := r' = [] ∨ (∃ d x, r' = d :: x ∧ (d = 9 ∨ d = 41 ∨ d = 59)) ∨ (∃ c x y, r = c :: x ∧ r' = c :: y)

theorem span_swap (q : Int → Bool) (h9 : q 9 = false ∧ q 41 = false ∧ q 59 = false) : ∀ (p r r' : List UInt8), spanN q (p ++ r) = p.length → HeadOk r r' → spanN q (p ++ r') = p.length
  | [], r, r', h, hh => by
    simp only [List.nil_append, List.length_nil] at *
    rcases hh with rfl | ⟨d, x, rfl, rfl | rfl | rfl⟩ | ⟨c, x, y, rfl, rfl⟩
    · rfl
    · have e : (((9 : UInt8).toNat : Nat) : Int) = 9 := rfl
      simp [spanN, e, h9.1]
    · have e : (((41 : UInt8).toNat : Nat) : Int) = 41 := rfl
      simp [spanN, e, h9.2.1]
    · have e : (((59 : UInt8).toNat : Nat) : Int) = 59 := rfl
      simp [spanN, e, h9.2.2]
    · simp only [spanN] at h ⊢
      split at h
      · omega
      · next hc => rw [if_neg hc]
  | c :: p, r, r', h, hh => by
    simp only [List.cons_append, List.length_cons, spanN] at h ⊢
    split at h
    · next hc => rw [if_pos hc, span_swap q h9 p r r' (by omega) hh]
    · omega
theorem span_cut (q : Int → Bool) : ∀ (l : List UInt8), ∃ p r, l = p ++ r ∧ p.length = spanN q l ∧ spanN q (p ++ r) = p.length := fun l => by
  refine ⟨l.take (spanN q l), l.drop (spanN q l), (List.take_append_drop _ _).symm, ?_, ?_⟩
  · rw [List.length_take]; have := spanN_le q l; omega
  · rw [List.take_append_drop, List.length_take]; have := spanN_le q l; omega
theorem headLetter_ok {r r' : List UInt8} (h : HeadOk r r') (hl : headLetter r = false) : headLetter r' = false := by
  rcases h with rfl | ⟨d, x, rfl, rfl | rfl | rfl⟩ | ⟨c, x, y, rfl, rfl⟩
  · rfl
  · rfl
  · rfl
  · rfl
  · exact hl

theorem text_swap : ∀ (l acc : List UInt8) (t : Tok) (n : Nat), textG l acc = (t, n, 0) → ∀ p r r', l = p ++ r → p.length = n → textG (p ++ r') acc = (t, n, 0) := by
  intro l acc
  fun_induction textG l acc with
  | case1 acc => intro t n h; simp at h
  | case2 c l acc h34 h64 => intro t n h; simp at h
  | case3 c l acc h34 h64 =>
    intro t n h p r r' hp hn
    simp only [Prod.mk.injEq] at h
    obtain ⟨rfl, rfl, _⟩ := h
    match p, hn with
    | [d], _ =>
      simp only [List.cons_append, List.nil_append, List.cons.injEq] at hp
      obtain ⟨rfl, _⟩ := hp
      simp only [List.cons_append, List.nil_append]
      rw [textG_cons, if_pos h34, if_neg h64]
  | case4 c l acc h34 hb => intro t n h; simp at h
  | case5 c l acc h34 hb h92 rr ih =>
    intro t n h p r r' hp hn
    simp only [Prod.mk.injEq] at h
    obtain ⟨h1, rfl, h3⟩ := h
    match p, hn with
    | d :: p, hn =>
      simp only [List.cons_append, List.cons.injEq] at hp
      obtain ⟨rfl, hp⟩ := hp
      simp only [List.length_cons] at hn
      have hi := ih t (textG l (acc ++ [c])).2.1 (by rw [← h1, ← h3]) p r r' hp (by have : rr = textG l (acc ++ [c]) := rfl; rw [this] at hn; omega)
      simp only [List.cons_append]
      rw [textG_cons, if_neg h34, if_neg hb, if_pos h92, hi]
  | case6 c acc h34 hb h92 => intro t n h; simp at h
  | case7 c acc h34 hb h92 d l hz => intro t n h; simp at h
  | case8 c acc h34 hb h92 d l hz rr ih =>
    intro t n h p r r' hp hn
    simp only [Prod.mk.injEq] at h
    obtain ⟨h1, rfl, h3⟩ := h
    match p, hn with
    | [d'], hn => simp at hn
    | d' :: d2 :: p, hn =>
      simp only [List.cons_append, List.cons.injEq] at hp
      obtain ⟨rfl, rfl, hp⟩ := hp
      simp only [List.length_cons] at hn
      have hi := ih t (textG l (acc ++ [UInt8.ofNat (escZ (d.toNat : Int)).toNat])).2.1 (by rw [← h1, ← h3]) p r r' hp (by have : rr = textG l (acc ++ [UInt8.ofNat (escZ (d.toNat : Int)).toNat]) := rfl; rw [this] at hn; omega)
      simp only [List.cons_append]
      rw [textG_cons, if_neg h34, if_neg hb, if_neg h92]
      dsimp only
      rw [if_neg hz, hi]

theorem two_len : ∀ q ∈ twoL, ∃ a b, q.data.toList = [a, b] ∧ b ≠ 9 ∧ b ≠ 41 ∧ b ≠ 59 := by
  intro q hq
  simp only [twoL, List.mem_cons, List.not_mem_nil, or_false] at hq
  rcases hq with rfl | rfl | rfl | rfl | rfl <;> exact ⟨_, _, rfl, by decide⟩
theorem find_congr {α : Type} {f g : α → Bool} : ∀ (l : List α), (∀ x ∈ l, f x = g x) → l.find? f = l.find? g
  | [], _ => rfl
  | x :: l, h => by
    rw [List.find?_cons, List.find?_cons, h x (by simp), find_congr l (fun y hy => h y (by simp [hy]))]
theorem two_none (c : UInt8) (r r' : List UInt8) (hh : HeadOk r r') (hf : twoL.find? (fun q => Lib.hasPrefix ([c] ++ r) q.data.toList) = none) : twoL.find? (fun q => Lib.hasPrefix ([c] ++ r') q.data.toList) = none := by
  rw [List.find?_eq_none] at hf ⊢
  intro q hq
  obtain ⟨a, b, e, hb⟩ := two_len q hq
  have h1 := hf q hq
  rw [e] at h1 ⊢
  rcases hh with rfl | ⟨d, x, rfl, rfl | rfl | rfl⟩ | ⟨d, x, y, rfl, rfl⟩
  · simp [Lib.hasPrefix, List.isPrefixOf]
  · simp [Lib.hasPrefix, List.isPrefixOf, hb.1]
  · simp [Lib.hasPrefix, List.isPrefixOf, hb.2.1]
  · simp [Lib.hasPrefix, List.isPrefixOf, hb.2.2]
  · simpa [Lib.hasPrefix, List.isPrefixOf] using h1
theorem sign_swap (p r r' : List UInt8) (t : Tok) (h : signF (p ++ r) = (t, p.length, 0)) (hh : HeadOk r r') : signF (p ++ r') = (t, p.length, 0) := by
  unfold signF at h ⊢
  cases hf : twoL.find? (fun q => Lib.hasPrefix (p ++ r) q.data.toList) with
  | some q =>
    rw [hf] at h
    simp only [Prod.mk.injEq] at h
    obtain ⟨rfl, hp, _⟩ := h
    match p, hp with
    | [x, y], _ =>
      have e : twoL.find? (fun q => Lib.hasPrefix ([x, y] ++ r') q.data.toList) = some q := by
        rw [← hf]
        refine find_congr _ fun q hq => ?_
        obtain ⟨a, b, e, _⟩ := two_len q hq
        rw [e]
        simp [Lib.hasPrefix, List.isPrefixOf]
      rw [e]
      rfl
  | none =>
    rw [hf] at h
    match p, h, hf with
    | [], h, _ =>
      cases r with
      | nil => simp at h
      | cons c l =>
        simp only [List.nil_append] at h
        split at h <;> simp at h
    | [c], h, hf =>
      rw [two_none c r r' hh hf]
      simp only [List.cons_append, List.nil_append] at h ⊢
      split at h
      · next hc => rw [if_pos hc]; simpa using h
      · simp at h
    | c :: d :: p, h, _ =>
      simp only [List.cons_append] at h
      split at h <;> simp at h

/-- the token with which bytes begin hangs on its own bytes, and on whether it ends -/
theorem one_swap (p r r' : List UInt8) (t : Tok) (hp : 0 < p.length) (h : oneF (p ++ r) = (t, p.length, 0)) (hh : HeadOk r r') : oneF (p ++ r') = (t, p.length, 0) := by
  match p, hp with
  | c :: p, _ =>
    have hds : ∀ x y : List UInt8, (x ++ y).drop x.length = y := fun x y => List.drop_left
    have hts : ∀ x y : List UInt8, (x ++ y).take x.length = x := fun x y => List.take_left
    simp only [List.cons_append] at h ⊢
    unfold oneF at h ⊢
    dsimp only at h ⊢
    by_cases c1 : letterB (c.toNat : Int) = true
    · rw [if_pos c1] at h ⊢
      simp only [Prod.mk.injEq] at h
      obtain ⟨h1, h2, h3⟩ := h
      have h2' := span_swap nameB (by decide) (c :: p) r r' h2 hh
      simp only [List.cons_append] at h2'
      have e1 := hts (c :: p) r
      have e2 := hts (c :: p) r'
      simp only [List.cons_append] at e1 e2
      rw [h2, e1] at h1 h3
      rw [h2', e2, h1, h3]
    rw [if_neg c1] at h ⊢
    by_cases c2 : digitB (c.toNat : Int) = true
    · rw [if_pos c2] at h ⊢
      split at h
      · simp at h
      next hc =>
      simp only [Prod.mk.injEq] at h
      obtain ⟨h1, h2, h3⟩ := h
      have h2' := span_swap digitB (by decide) (c :: p) r r' h2 hh
      simp only [List.cons_append] at h2'
      have e1 := hts (c :: p) r
      have e2 := hts (c :: p) r'
      have d1 := hds (c :: p) r
      have d2 := hds (c :: p) r'
      simp only [List.cons_append] at e1 e2 d1 d2
      rw [h2, d1] at hc
      rw [h2, e1] at h1 h3
      have hc' : ¬ ((1 < (c :: p).length ∧ c.toNat = 48) ∨ headLetter r' = true) := by
        intro hx
        rcases hx with hx | hx
        · exact hc (Or.inl hx)
        · have : headLetter r = false := by
            cases hq : headLetter r
            · rfl
            · exact absurd (Or.inr hq) hc
          rw [headLetter_ok hh this] at hx
          cases hx
      rw [h2', d2, e2, if_neg hc', h1, h3]
    rw [if_neg c2] at h ⊢
    by_cases c3 : c.toNat = 34
    · rw [if_pos c3] at h ⊢
      simp only [Prod.mk.injEq, List.length_cons] at h
      obtain ⟨h1, h2, h3⟩ := h
      have ht : textG (p ++ r) [] = (t, p.length, 0) := by
        rw [← h1, ← h3]
        have : p.length = (textG (p ++ r) []).2.1 := by omega
        rw [this]
      have := text_swap _ _ t p.length ht p r r' rfl rfl
      rw [this]
      simp only [List.length_cons]
      congr 2
      omega
    · rw [if_neg c3] at h ⊢
      exact sign_swap (c :: p) r r' t h hh

/-! ### blanks -/
theorem skip_idem : ∀ (q : Bool) (l : List UInt8), skipL false (l.drop (skipL q l)) = 0
  | q, [] => by cases q <;> rfl
  | true, c :: l => by
    simp only [skipL]
    split
    · simpa using skip_idem false l
    · simpa using skip_idem true l
  | false, c :: l => by
    by_cases h : c.toNat = 32 ∨ c.toNat = 9 ∨ c.toNat = 10
    · simp only [skipL, if_pos h]
      simpa using skip_idem false l
    by_cases h2 : c.toNat = 35
    · simp only [skipL, if_neg h, if_pos h2]
      simpa using skip_idem true l
    · simp only [skipL, if_neg h, if_neg h2, List.drop_zero]
/-- blanks that end ahead of something end ahead of anything -/
theorem skip_closed : ∀ (b : List UInt8) (q : Bool) (c : UInt8) (r : List UInt8), skipL q (b ++ c :: r) = b.length → ∀ x, skipL q (b ++ x) = b.length + skipL false x
  | [], q, c, r, h, x => by
    cases q
    · simp
    · simp only [List.nil_append, skipL, List.length_nil] at h
      split at h <;> omega
  | d :: b, q, c, r, h, x => by
    cases q
    · simp only [List.cons_append, skipL, List.length_cons] at h ⊢
      split at h
      · next h1 => rw [if_pos h1, skip_closed b false c r (by omega) x]; omega
      · next h1 =>
        split at h
        · next h2 => rw [if_neg h1, if_pos h2, skip_closed b true c r (by omega) x]; omega
        · omega
    · simp only [List.cons_append, skipL, List.length_cons] at h ⊢
      split at h
      · next h1 => rw [if_pos h1, skip_closed b false c r (by omega) x]; omega
      · next h1 => rw [if_neg h1, skip_closed b true c r (by omega) x]; omega
theorem skip_head (c : UInt8) (p x : List UInt8) (r : List UInt8) (h : skipL false (c :: p ++ r) = 0) : skipL false (c :: p ++ x) = 0 := by
  simp only [List.cons_append, skipL] at h ⊢
  split at h
  · omega
  · next h1 =>
    rw [if_neg h1]
    split at h
    · omega
    · next h2 => rw [if_neg h2]

/-! ### pieces: each token with the blanks behind it -/
inductive Pcs : List UInt8 → List (Tok × List UInt8) → Prop
  | nil : Pcs [] []
  | cons (p r : List UInt8) (t : Tok) (n : Nat) (ps : List (Tok × List UInt8)) : oneF (p ++ r) = (t, n, 0) → 1 ≤ n → n ≤ p.length → skipL false ((p ++ r).drop n) = p.length - n → skipL false (p ++ r) = 0 → Pcs r ps → Pcs (p ++ r) ((t, p) :: ps)
/-- where they stand -/
def posOf : Nat → List (Tok × List UInt8) → List (Tok × Nat)
  | _, [] => []
  | k, (t, p) :: ps => (t, k) :: posOf (k + p.length) ps
theorem posOf_length : ∀ (ps : List (Tok × List UInt8)) (k : Nat), (posOf k ps).length = ps.length
  | [], _ => rfl
  | (_, _) :: ps, k => by simp [posOf, posOf_length ps]
theorem Pcs.empty {r : List UInt8} {ps : List (Tok × List UInt8)} (h : Pcs r ps) : r = [] ↔ ps = [] := by
  cases h with
  | nil => simp
  | cons p r t n ps _ h1 h2 => 
    constructor
    · intro e
      have : p.length = 0 := by have := congrArg List.length e; simp at this; simp [this.1]
      omega
    · intro e; cases e

/-- what is cut without an error is such pieces -/
theorem lex_pcs (s : List UInt8) : ∀ (g k : Nat) (acc l : List (Tok × Nat)) (x : Nat), k ≤ s.length → s.length + 1 ≤ k + g → acc.length ≤ 1024 → lexG s g k acc = (l, 0, x) →
    ∃ ps, Pcs (s.drop (k + skipL false (s.drop k))) ps ∧ l = acc ++ posOf (k + skipL false (s.drop k)) ps ++ [(tok0, s.length)] ∧ acc.length + ps.length ≤ 1024
  | 0, k, acc, l, x, hk, hg, hac, h => by omega
  | g + 1, k, acc, l, x, hk, hg, hac, h => by
    have hle := skipL_le false (s.drop k)
    have hsk : skipL false (s.drop (k + skipL false (s.drop k))) = 0 := by rw [← List.drop_drop]; exact skip_idem false _
    obtain ⟨K, hK⟩ : ∃ K, k + skipL false (s.drop k) = K := ⟨_, rfl⟩
    rw [lexG, hK] at h
    rw [hK] at hsk ⊢
    rw [List.length_drop] at hle
    by_cases hend : s.length ≤ K
    · rw [if_pos hend] at h
      simp only [Prod.mk.injEq] at h
      refine ⟨[], ?_, ?_, by simp; omega⟩
      · rw [List.drop_eq_nil_of_le hend]; exact Pcs.nil
      · rw [← h.1]; simp [posOf]
    · rw [if_neg hend] at h
      obtain ⟨t, n, e, ho⟩ : ∃ t n e, oneF (s.drop K) = (t, n, e) := ⟨_, _, _, rfl⟩
      rw [ho] at h
      dsimp only at h
      split at h
      · next he => simp only [Prod.mk.injEq] at h; exact absurd h.2.1 he
      next he =>
      have he' : e = 0 := by simpa using he
      subst he'
      split at h
      · simp at h
      next hfull =>
      have hbd := oneF_bd _ t n (by rw [List.length_drop]; omega) ho
      rw [List.length_drop] at hbd
      obtain ⟨ps, h1, h2, h3⟩ := lex_pcs s g (K + n) _ l x (by omega) (by omega) (by simp; omega) h
      obtain ⟨m, hm⟩ : ∃ m, skipL false (s.drop (K + n)) = m := ⟨_, rfl⟩
      have hmle := skipL_le false (s.drop (K + n))
      rw [hm] at h1 h2 hmle
      rw [List.length_drop] at hmle
      have hcut : s.drop K = (s.drop K).take (n + m) ++ s.drop (K + n + m) := by
        rw [Nat.add_assoc, ← List.drop_drop, List.take_append_drop]
      have hpl : ((s.drop K).take (n + m)).length = n + m := by rw [List.length_take, List.length_drop]; omega
      obtain ⟨P, hPe⟩ : ∃ P, (s.drop K).take (n + m) = P := ⟨_, rfl⟩
      rw [hPe] at hcut hpl
      refine ⟨(t, P) :: ps, ?_, ?_, ?_⟩
      · rw [hcut]
        refine Pcs.cons P (s.drop (K + n + m)) t n ps ?_ hbd.1 (by omega) ?_ ?_ h1
        · rw [← hcut]; exact ho
        · rw [← hcut, List.drop_drop, hm, hpl]; omega
        · rw [← hcut]; exact hsk
      · rw [h2, posOf, hpl, Nat.add_assoc]
        simp
      · simp only [List.length_append, List.length_cons, List.length_nil] at h3 ⊢
        omega

/-- a tab, '#!' and a newline -/
def rem : List UInt8 := [9, 35, 33, 10]
def wideOf (ps : List (Tok × List UInt8)) : List UInt8 := ps.flatMap fun x => rem ++ x.2
theorem skip_rem (x : List UInt8) : skipL false (rem ++ x) = 4 + skipL false x := by
  simp [rem, skipL]
  omega
theorem wide_head (ps : List (Tok × List UInt8)) (r : List UInt8) : HeadOk r (wideOf ps) := by
  cases ps with
  | nil => exact Or.inl rfl
  | cons a ps => exact Or.inr (Or.inl ⟨_, _, rfl, Or.inl rfl⟩)
def Bk (b : List UInt8) (e : Bool) : Prop := if e then skipL false b = b.length else ∀ x, skipL false (b ++ x) = b.length + skipL false x

/-- with remarks ahead of each piece it is cut into the same tokens -/
theorem wide_lex {r : List UInt8} {ps : List (Tok × List UInt8)} (hP : Pcs r ps) : ∀ (W : List UInt8) (g k : Nat) (b : List UInt8) (acc : List (Tok × Nat)), W.drop k = b ++ wideOf ps → k ≤ W.length → Bk b ps.isEmpty → W.length + 1 ≤ k + g → acc.length + ps.length ≤ 1024 →
    ∃ l', l'.map Prod.fst = ps.map Prod.fst ∧ lexG W g k acc = (acc ++ l' ++ [(tok0, W.length)], 0, 0) := by
  induction hP with
  | nil =>
    intro W g k b acc hW hk hb hg _
    obtain ⟨g, rfl⟩ : ∃ g', g = g' + 1 := ⟨g - 1, by omega⟩
    have hb' : skipL false b = b.length := by simpa [Bk] using hb
    have hl : (W.drop k).length = b.length := by rw [hW]; simp [wideOf]
    rw [List.length_drop] at hl
    have e : wideOf [] = [] := rfl
    rw [e, List.append_nil] at hW
    refine ⟨[], rfl, ?_⟩
    rw [lexG, hW, hb', if_pos (by omega)]
    simp
  | cons p r t n ps ho hn1 hn2 hs1 hs0 hP ih =>
    intro W g k b acc hW hk hb hg hac
    obtain ⟨g, rfl⟩ : ∃ g', g = g' + 1 := ⟨g - 1, by omega⟩
    have hb' : ∀ x, skipL false (b ++ x) = b.length + skipL false x := by simpa [Bk] using hb
    have hw : wideOf ((t, p) :: ps) = rem ++ (p ++ wideOf ps) := by simp [wideOf]
    rw [hw] at hW
    have hrl : rem.length = 4 := rfl
    have hp0 : skipL false (p ++ wideOf ps) = 0 := by
      match p, hn2 with
      | c :: p, _ => exact skip_head c p _ r hs0
      | [], hn2 => simp at hn2; omega
    have hsk : skipL false (W.drop k) = b.length + 4 := by rw [hW, hb', skip_rem, hp0]
    have hl : (W.drop k).length = b.length + 4 + p.length + (wideOf ps).length := by rw [hW]; simp [hrl]; omega
    rw [List.length_drop] at hl
    have hd : W.drop (k + (b.length + 4)) = p ++ wideOf ps := by
      rw [← List.drop_drop, hW, ← List.append_assoc, List.drop_left' (by simp [hrl])]
    have ho2 : oneF (p ++ wideOf ps) = (t, n, 0) := by
      have e1 : (p ++ r) = p.take n ++ (p.drop n ++ r) := by rw [← List.append_assoc, List.take_append_drop]
      have e2 : (p ++ wideOf ps) = p.take n ++ (p.drop n ++ wideOf ps) := by rw [← List.append_assoc, List.take_append_drop]
      have hn : (p.take n).length = n := by rw [List.length_take]; omega
      rw [e2]
      rw [e1] at ho
      have h3 := one_swap (p.take n) (p.drop n ++ r) (p.drop n ++ wideOf ps) t (by omega) (by rw [hn]; exact ho) ?_
      · rw [hn] at h3; exact h3
      · cases hq : p.drop n with
        | nil => exact wide_head ps _
        | cons c q => exact Or.inr (Or.inr ⟨c, _, _, rfl, rfl⟩)
    have hd2 : W.drop (k + (b.length + 4) + n) = p.drop n ++ wideOf ps := by
      rw [← List.drop_drop, hd, List.drop_append_of_le_length hn2]
    have hbk : Bk (p.drop n) ps.isEmpty := by
      rw [List.drop_append_of_le_length hn2] at hs1
      have hdl : (p.drop n).length = p.length - n := List.length_drop
      unfold Bk
      cases hr : r with
      | nil =>
        have hps : ps = [] := hP.empty.1 hr
        subst hps
        rw [hr, List.append_nil] at hs1
        simp only [List.isEmpty_nil, if_true]
        omega
      | cons c r' =>
        have hps : ps ≠ [] := fun e => by have := hP.empty.2 e; rw [hr] at this; cases this
        have he : ps.isEmpty = false := by simpa using hps
        rw [he]
        simp only [Bool.false_eq_true, if_false]
        rw [hr] at hs1
        exact skip_closed (p.drop n) false c r' (by omega)
    simp only [List.length_cons] at hac
    obtain ⟨l', h1, h2⟩ := ih W g (k + (b.length + 4) + n) (p.drop n) (acc ++ [(t, k + (b.length + 4))]) hd2 (by omega) hbk (by omega) (by simp; omega)
    refine ⟨(t, k + (b.length + 4)) :: l', by simp [h1], ?_⟩
    rw [lexG, hsk, if_neg (by omega), hd, ho2]
    simp only [ne_eq, not_true_eq_false, if_false]
    rw [if_neg (by omega), h2]
    simp

/-! ### what the law's loops need -/
theorem pos_get {r : List UInt8} {ps : List (Tok × List UInt8)} (hP : Pcs r ps) : ∀ (s : List UInt8) (K : Nat), s.drop K = r → K ≤ s.length → ∀ j, j < ps.length →
    ∃ t p a u, ps[j]? = some (t, p) ∧ (posOf K ps ++ [(tok0, s.length)])[j]? = some (t, a) ∧ (posOf K ps ++ [(tok0, s.length)])[j + 1]? = some (u, a + p.length) ∧ a + p.length ≤ s.length ∧ 0 < p.length ∧ (s.drop a).take p.length = p := by
  induction hP with
  | nil => intro s K _ _ j hj; simp at hj
  | cons p r t n ps ho hn1 hn2 hs1 hs0 hP ih =>
    intro s K hs hK j hj
    have hl : s.length = K + p.length + r.length := by have := congrArg List.length hs; simp at this; omega
    have hd : s.drop (K + p.length) = r := by rw [← List.drop_drop, hs, List.drop_left]
    cases j with
    | zero =>
      have hne : ∃ u, (posOf (K + p.length) ps ++ [(tok0, s.length)])[0]? = some (u, K + p.length) := by
        cases hps : ps with
        | nil =>
          have hr := hP.empty.2 hps
          refine ⟨tok0, ?_⟩
          rw [hl, hr]; simp [posOf]
        | cons x ps' => exact ⟨x.1, rfl⟩
      obtain ⟨u, hu⟩ := hne
      exact ⟨t, p, K, u, rfl, rfl, hu, by omega, by omega, by rw [hs, List.take_left]⟩
    | succ j =>
      obtain ⟨t', p', a, u, h1, h2, h3, h4⟩ := ih s (K + p.length) hd (by omega) j (by simpa using hj)
      exact ⟨t', p', a, u, h1, h2, h3, h4⟩
theorem pcs_len {r : List UInt8} {ps : List (Tok × List UInt8)} (hP : Pcs r ps) : ps.length ≤ r.length ∧ (wideOf ps).length = 4 * ps.length + r.length := by
  induction hP with
  | nil => simp [wideOf]
  | cons p r t n ps ho hn1 hn2 hs1 hs0 hP ih =>
    have hrl : rem.length = 4 := rfl
    have : wideOf ((t, p) :: ps) = rem ++ p ++ wideOf ps := by simp [wideOf]
    rw [this]
    simp only [List.length_append, List.length_cons, hrl, ih.2]
    omega
theorem wide_take (ps : List (Tok × List UInt8)) (j : Nat) (t : Tok) (p : List UInt8) (h : ps[j]? = some (t, p)) : wideOf (ps.take (j + 1)) = wideOf (ps.take j) ++ (rem ++ p) := by
  rw [List.take_add_one, h]; simp [wideOf, List.flatMap_append]
theorem wide_take_len (ps : List (Tok × List UInt8)) (j : Nat) : (wideOf (ps.take j)).length ≤ (wideOf ps).length := by
  have : wideOf ps = wideOf (ps.take j) ++ wideOf (ps.drop j) := by rw [wideOf, wideOf, wideOf, ← List.flatMap_append, List.take_append_drop]
  rw [this]; simp
theorem cells_get : ∀ (l : List (Tok × Nat)) (j : Nat) (t : Tok) (a : Nat), l[j]? = some (t, a) →
    (tokCells l)[j * 4]? = some (.int .i64 t.k) ∧ (tokCells l)[j * 4 + 1]? = some (.int .i64 (a : Int)) ∧ (tokCells l)[j * 4 + 2]? = some (.string t.s) ∧ (tokCells l)[j * 4 + 3]? = some (.int .i64 t.i)
  | [], j, t, a, h => by simp at h
  | x :: l, 0, t, a, h => by
    simp only [List.getElem?_cons_zero, Option.some.injEq] at h
    subst h
    exact ⟨rfl, rfl, rfl, rfl⟩
  | x :: l, j + 1, t, a, h => by
    simp only [List.getElem?_cons_succ] at h
    have ih := cells_get l j t a h
    have e : ∀ i, (tokCells (x :: l))[(j + 1) * 4 + i]? = (tokCells l)[j * 4 + i]? := by
      intro i
      have e1 : tokCells (x :: l) = [Value.int .i64 x.1.k, .int .i64 (x.2 : Int), .string x.1.s, .int .i64 x.1.i] ++ tokCells l := rfl
      have e2 : (j + 1) * 4 + i = (j * 4 + i) + 4 := by omega
      rw [e1, e2, List.getElem?_append_right (by simp)]
      simp
    have e0 := e 0
    simp only [Nat.add_zero] at e0
    rw [e0, e 1, e 2, e 3]
    exact ih

/-- of a source that is cut: its pieces; the tokens; what the wide source is cut into -/
theorem blanks_law (s : List UInt8) (hs : s.length ≤ 700) (l : List (Tok × Nat)) (x : Nat) (h : lexF s = (l, 0, x)) :
    ∃ (ps : List (Tok × List UInt8)), l.length = ps.length + 1 ∧ l[ps.length]? = some (tok0, s.length) ∧ (wideOf ps).length ≤ 3500 ∧ ps.length ≤ 700 ∧
      (∀ j, j < ps.length → ∃ t p a u, ps[j]? = some (t, p) ∧ l[j]? = some (t, a) ∧ l[j + 1]? = some (u, a + p.length) ∧ a + p.length ≤ s.length ∧ 0 < p.length ∧ (s.drop a).take p.length = p) ∧
      ∃ m : List (Tok × Nat), lexF (wideOf ps) = (m, 0, 0) ∧ m.map Prod.fst = l.map Prod.fst := by
  unfold lexF at h
  rw [if_neg (by omega)] at h
  obtain ⟨ps, h1, h2, h3⟩ := lex_pcs s _ 0 [] l x (by omega) (by omega) (by simp) h
  have hle := skipL_le false (s.drop 0)
  obtain ⟨K, hK⟩ : ∃ K, 0 + skipL false (s.drop 0) = K := ⟨_, rfl⟩
  rw [hK] at h1 h2
  rw [List.length_drop] at hle
  have hl := pcs_len h1
  rw [List.length_drop] at hl
  simp only [List.nil_append] at h2
  subst h2
  refine ⟨ps, by simp [posOf_length], ?_, by omega, by omega, fun j hj => pos_get h1 s K rfl (by omega) j hj, ?_⟩
  · rw [List.getElem?_append_right (by rw [posOf_length]; omega), posOf_length, Nat.sub_self]; rfl
  · obtain ⟨l', h4, h5⟩ := wide_lex h1 (wideOf ps) ((wideOf ps).length + 1) 0 [] [] rfl (by omega) (by unfold Bk; split <;> simp [skipL]) (by omega) (by simpa using h3)
    have hp : ∀ (ps : List (Tok × List UInt8)) (k : Nat), (posOf k ps).map Prod.fst = ps.map Prod.fst := by
      intro ps
      induction ps with
      | nil => intro k; rfl
      | cons a ps ih => intro k; obtain ⟨t, p⟩ := a; simp [posOf, ih]
    refine ⟨l' ++ [(tok0, (wideOf ps).length)], ?_, by simp [h4, hp]⟩
    unfold lexF
    rw [if_neg (by omega), h5]; simp
end Go.Proofs.Ytoaaklcbcbjaiaa
