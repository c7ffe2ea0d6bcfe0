/- ScopeWhole: where slots are told nothing is free, each name that is meant, or made, has a slot below the most, and whatever names can be seen at once have unlike ones. No condition. -/
import Derived.Test.YtoaaklcbcbjaiaaQ16
import Derived.Test.YtoaaklcbcbjaiaaRows
import Derived.RegionTactic
import Derived.Deep.QuietTactic
import Derived.BigQuiet
set_option linter.unusedSimpArgs false
set_option linter.unusedVariables false
namespace Go.Proofs.Ytoaaklcbcbjaiaa
open Go.RowKit
attribute [go_sem] more_more Array.size_append
/-- what One hands back -/
def OnePost (r : Tok) (k n : Nat) (e : Int) (w : World) (e' : Ending) (w' : World) : Prop :=
  (∃ (a b : Int) (c : ByteArray) (d z : Int), e' = .returned (.tuple #[.agg #[.int .i64 a, .int .i64 b, .string c, .int .i64 d], .int .i64 z, .int .i64 e]) ∧ (e = 0 → a = r.k ∧ b = (k : Int) ∧ c = r.s ∧ d = r.i ∧ z = ((k + n : Nat) : Int))) ∧ Ext w w'
theorem OnePost.mk {r : Tok} {k n : Nat} {e : Int} {w w' : World} {e' : Ending} (a b : Int) (c : ByteArray) (d z : Int) (he : e' = .returned (.tuple #[.agg #[.int .i64 a, .int .i64 b, .string c, .int .i64 d], .int .i64 z, .int .i64 e])) (h : e = 0 → a = r.k ∧ b = (k : Int) ∧ c = r.s ∧ d = r.i ∧ z = ((k + n : Nat) : Int)) (hx : Ext w w') : OnePost r k n e w e' w' := ⟨⟨a, b, c, d, z, he, h⟩, hx⟩
theorem span_here (p : Int → Bool) (s : ByteArray) (m : Nat) (h : m < s.size) : spanN p (s.data.toList.drop m) = if p ((s[m]'h).toNat : Int) = true then spanN p (s.data.toList.drop (m + 1)) + 1 else 0 := by
  rw [drop_at s m h, spanN]
theorem span_end (p : Int → Bool) (s : ByteArray) : spanN p (s.data.toList.drop s.size) = 0 := by rw [drop_end]; rfl
set_option maxHeartbeats 4000000 in
set_option maxRecDepth 20000 in
theorem one_letter (s : ByteArray) (hs : (s.size : Int) ≤ 5000) (k n : Nat) (hk : k < s.size) (hl : letterB ((s[k]'hk).toNat : Int) = true) (hn : spanN nameB (s.data.toList.drop k) = n) (t : ByteArray) (ht : s.extract k (k + n) = t) (r : Tok) (e : Int) (hr : nameF t = (r, e)) (w : World) :
    Calls Try.prog 37 #[.string s, .int .i64 (k : Int)] w (OnePost r k n e w) := by
  have HN := Lib.hid hn
  have HR := Lib.hid hr
  have hle := spanN_le nameB (s.data.toList.drop k)
  rw [hn] at hle
  have hkn : k + n ≤ s.size := by simp at hle; omega
  have hts : t.size = n := by rw [← ht]; simp; omega
  have hk5 : (k : Int) ≤ 5000 := by omega
  have hki : (k : Int) < (s.size : Int) := by omega
  have hu := (s[k]'hk).toNat_lt
  have HT := Lib.hid ht
  clear hn hr hle ht
  go_enter Try.func37, Try.ntmps37
  go_wp2_with ((go_at_call 48; (with_reducible refine (letter16 _ (by omega) (by omega) _).mono ?_); rintro e' _ ⟨rfl, rfl⟩))
  go_loopw [9] (fun a wr => ∃ m : Nat, a = .int .i64 (m : Int) ∧ k ≤ m ∧ m ≤ s.size ∧ m + spanN nameB (s.data.toList.drop m) = k + n ∧ wr = (w.alloc (.cells #[.int .i64 0, .int .i64 0, .string ⟨#[]⟩, .int .i64 0] 57 (0, 0))).alloc (.cells #[.int .i64 0, .int .i64 (k : Int), .string ⟨#[]⟩, .int .i64 0] 57 (0, 0))) (fun a _ => s.size - (intOf a).toNat)
  case atStart => exact ⟨k, rfl, Nat.le_refl _, by omega, by rw [HN.out], rfl⟩
  case round =>
    obtain ⟨m, rfl, hkm, hms, hsp, rfl⟩ := hrel
    have HS := Lib.hid hsp
    clear hsp
    have hm5 : (m : Int) ≤ 5000 := by omega
    have OUT : RowKit.Hid (m = k + n → True) := Lib.hid fun _ => trivial
    by_cases hlt : m < s.size
    · have hlt2 : (m : Int) < (s.size : Int) := by omega
      have hv := (s[m]'hlt).toNat_lt
      have HSH := Lib.hid (span_here nameB s m hlt)
      have HLT := Lib.hid hlt
      cases q1 : letterB ((s[m]'hlt).toNat : Int) <;> cases q2 : digitB ((s[m]'hlt).toNat : Int)
      rotate_left
      all_goals try
        (have HS2 : RowKit.Hid (m + 1 + spanN nameB (s.data.toList.drop (m + 1)) = k + n) := Lib.hid (by
          have h := HS.out
          rw [HSH.out, if_pos (by unfold nameB; rw [q1, q2]; rfl)] at h
          omega)
         go_wp2_with (first
      | ((go_at_call 48; (with_reducible refine (letter16 _ (by omega) (by omega) _).mono ?_); rintro e' _ ⟨rfl, rfl⟩))
      | ((go_at_call 49; (with_reducible refine (digit16 _ (by omega) (by omega) _).mono ?_); rintro e' _ ⟨rfl, rfl⟩)))
         go_roundw
         case rel => exact ⟨m + 1, by go_num, by omega, by have := HLT.out; omega, HS2.out, by first | rfl | trivial⟩
         case measure => have := HLT.out; simp [intOf]; omega)
      have HE : RowKit.Hid (m = k + n) := Lib.hid (by
        have h := HS.out
        rw [HSH.out, if_neg (by unfold nameB; rw [q1, q2]; simp)] at h
        omega)
      have hmk : m - k = n := by have := HE.out; omega
      have hx : s.extract k m = t := by rw [HE.out]; exact HT.out
      have hkm2 : (k : Int) ≤ (m : Int) := by omega
      have hms2 : (m : Int) ≤ (s.size : Int) := by omega
      have hti : (t.size : Int) = (m : Int) - (k : Int) := by omega
      have ht5 : (t.size : Int) ≤ 100000 := by omega
      have WD := Lib.hid (fun w1 => rword_big t ht5 w1)
      cases hw : wordB t
      · rw [hw] at WD
        by_cases h16 : 16 < t.size
        · have h162 : (16 : Int) < (m : Int) - (k : Int) := by omega
          have HR2 : RowKit.Hid (e = 5) := Lib.hid (by
            have h := HR.out
            unfold nameF at h
            rw [hw, if_neg (by simp), if_pos h16] at h
            simp only [Prod.mk.injEq] at h; exact h.2.symm)
          clear h16 hw
          go_wp2_with (first
      | ((go_at_call 48; (with_reducible refine (letter16 _ (by omega) (by omega) _).mono ?_); rintro e' _ ⟨rfl, rfl⟩))
      | ((go_at_call 49; (with_reducible refine (digit16 _ (by omega) (by omega) _).mono ?_); rintro e' _ ⟨rfl, rfl⟩))
      | ((go_at_call 50; (with_reducible refine (WD.out _).mono ?_); rintro e' _ ⟨rfl, dw, ow, rfl⟩)))
          refine bodyPost_ret (v := .tuple #[.agg #[.int .i64 1, .int .i64 (k : Int), .string t, .int .i64 0], .int .i64 0, .int .i64 5]) (by simp [results, Try.results37, go_sem]) rfl (OnePost.mk 1 k t 0 0 (by rw [HR2.out]) (fun h0 => by have := HR2.out; omega) (by repeat (first | exact Ext.refl _ | apply Ext.alloc | apply Ext.more | (refine Ext.setCell ?_ (by simp) _))))
        · have h162 : (m : Int) - (k : Int) ≤ 16 := by omega
          have HR2 : RowKit.Hid (r = ⟨1, t, 0⟩ ∧ e = 0) := Lib.hid (by
            have h := HR.out
            unfold nameF at h
            rw [hw, if_neg (by simp), if_neg h16] at h
            simp only [Prod.mk.injEq] at h; exact ⟨h.1.symm, h.2.symm⟩)
          clear h16 hw
          go_wp2_with (first
      | ((go_at_call 48; (with_reducible refine (letter16 _ (by omega) (by omega) _).mono ?_); rintro e' _ ⟨rfl, rfl⟩))
      | ((go_at_call 49; (with_reducible refine (digit16 _ (by omega) (by omega) _).mono ?_); rintro e' _ ⟨rfl, rfl⟩))
      | ((go_at_call 50; (with_reducible refine (WD.out _).mono ?_); rintro e' _ ⟨rfl, dw, ow, rfl⟩)))
          obtain ⟨rfl, rfl⟩ := HR2.out
          refine bodyPost_ret (v := .tuple #[.agg #[.int .i64 1, .int .i64 (k : Int), .string t, .int .i64 0], .int .i64 (m : Int), .int .i64 0]) (by simp [results, Try.results37, go_sem]) rfl (OnePost.mk 1 k t 0 m rfl (fun _ => ⟨rfl, rfl, rfl, rfl, by rw [HE.out]⟩) (by repeat (first | exact Ext.refl _ | apply Ext.alloc | apply Ext.more | (refine Ext.setCell ?_ (by simp) _))))
      · rw [hw] at WD
        have HR2 : RowKit.Hid (r = ⟨5, t, 0⟩ ∧ e = 0) := Lib.hid (by
          have h := HR.out
          unfold nameF at h
          rw [hw, if_pos rfl] at h
          simp only [Prod.mk.injEq] at h; exact ⟨h.1.symm, h.2.symm⟩)
        clear hw
        go_wp2_with (first
      | ((go_at_call 48; (with_reducible refine (letter16 _ (by omega) (by omega) _).mono ?_); rintro e' _ ⟨rfl, rfl⟩))
      | ((go_at_call 49; (with_reducible refine (digit16 _ (by omega) (by omega) _).mono ?_); rintro e' _ ⟨rfl, rfl⟩))
      | ((go_at_call 50; (with_reducible refine (WD.out _).mono ?_); rintro e' _ ⟨rfl, dw, ow, rfl⟩)))
        obtain ⟨rfl, rfl⟩ := HR2.out
        refine bodyPost_ret (v := .tuple #[.agg #[.int .i64 5, .int .i64 (k : Int), .string t, .int .i64 0], .int .i64 (m : Int), .int .i64 0]) (by simp [results, Try.results37, go_sem]) rfl (OnePost.mk 5 k t 0 m rfl (fun _ => ⟨rfl, rfl, rfl, rfl, by rw [HE.out]⟩) (by repeat (first | exact Ext.refl _ | apply Ext.alloc | apply Ext.more | (refine Ext.setCell ?_ (by simp) _))))
    · have HE : RowKit.Hid (m = k + n) := Lib.hid (by
        have h := HS.out
        have hme : m = s.size := by omega
        subst hme
        rw [span_end] at h
        omega)
      have hlt2 : (s.size : Int) ≤ (m : Int) := by omega
      clear hlt
      have hmk : m - k = n := by have := HE.out; omega
      have hx : s.extract k m = t := by rw [HE.out]; exact HT.out
      have hkm2 : (k : Int) ≤ (m : Int) := by omega
      have hms2 : (m : Int) ≤ (s.size : Int) := by omega
      have hti : (t.size : Int) = (m : Int) - (k : Int) := by omega
      have ht5 : (t.size : Int) ≤ 100000 := by omega
      have WD := Lib.hid (fun w1 => rword_big t ht5 w1)
      cases hw : wordB t
      · rw [hw] at WD
        by_cases h16 : 16 < t.size
        · have h162 : (16 : Int) < (m : Int) - (k : Int) := by omega
          have HR2 : RowKit.Hid (e = 5) := Lib.hid (by
            have h := HR.out
            unfold nameF at h
            rw [hw, if_neg (by simp), if_pos h16] at h
            simp only [Prod.mk.injEq] at h; exact h.2.symm)
          clear h16 hw
          go_wp2_with (first
      | ((go_at_call 48; (with_reducible refine (letter16 _ (by omega) (by omega) _).mono ?_); rintro e' _ ⟨rfl, rfl⟩))
      | ((go_at_call 49; (with_reducible refine (digit16 _ (by omega) (by omega) _).mono ?_); rintro e' _ ⟨rfl, rfl⟩))
      | ((go_at_call 50; (with_reducible refine (WD.out _).mono ?_); rintro e' _ ⟨rfl, dw, ow, rfl⟩)))
          refine bodyPost_ret (v := .tuple #[.agg #[.int .i64 1, .int .i64 (k : Int), .string t, .int .i64 0], .int .i64 0, .int .i64 5]) (by simp [results, Try.results37, go_sem]) rfl (OnePost.mk 1 k t 0 0 (by rw [HR2.out]) (fun h0 => by have := HR2.out; omega) (by repeat (first | exact Ext.refl _ | apply Ext.alloc | apply Ext.more | (refine Ext.setCell ?_ (by simp) _))))
        · have h162 : (m : Int) - (k : Int) ≤ 16 := by omega
          have HR2 : RowKit.Hid (r = ⟨1, t, 0⟩ ∧ e = 0) := Lib.hid (by
            have h := HR.out
            unfold nameF at h
            rw [hw, if_neg (by simp), if_neg h16] at h
            simp only [Prod.mk.injEq] at h; exact ⟨h.1.symm, h.2.symm⟩)
          clear h16 hw
          go_wp2_with (first
      | ((go_at_call 48; (with_reducible refine (letter16 _ (by omega) (by omega) _).mono ?_); rintro e' _ ⟨rfl, rfl⟩))
      | ((go_at_call 49; (with_reducible refine (digit16 _ (by omega) (by omega) _).mono ?_); rintro e' _ ⟨rfl, rfl⟩))
      | ((go_at_call 50; (with_reducible refine (WD.out _).mono ?_); rintro e' _ ⟨rfl, dw, ow, rfl⟩)))
          obtain ⟨rfl, rfl⟩ := HR2.out
          refine bodyPost_ret (v := .tuple #[.agg #[.int .i64 1, .int .i64 (k : Int), .string t, .int .i64 0], .int .i64 (m : Int), .int .i64 0]) (by simp [results, Try.results37, go_sem]) rfl (OnePost.mk 1 k t 0 m rfl (fun _ => ⟨rfl, rfl, rfl, rfl, by rw [HE.out]⟩) (by repeat (first | exact Ext.refl _ | apply Ext.alloc | apply Ext.more | (refine Ext.setCell ?_ (by simp) _))))
      · rw [hw] at WD
        have HR2 : RowKit.Hid (r = ⟨5, t, 0⟩ ∧ e = 0) := Lib.hid (by
          have h := HR.out
          unfold nameF at h
          rw [hw, if_pos rfl] at h
          simp only [Prod.mk.injEq] at h; exact ⟨h.1.symm, h.2.symm⟩)
        clear hw
        go_wp2_with (first
      | ((go_at_call 48; (with_reducible refine (letter16 _ (by omega) (by omega) _).mono ?_); rintro e' _ ⟨rfl, rfl⟩))
      | ((go_at_call 49; (with_reducible refine (digit16 _ (by omega) (by omega) _).mono ?_); rintro e' _ ⟨rfl, rfl⟩))
      | ((go_at_call 50; (with_reducible refine (WD.out _).mono ?_); rintro e' _ ⟨rfl, dw, ow, rfl⟩)))
        obtain ⟨rfl, rfl⟩ := HR2.out
        refine bodyPost_ret (v := .tuple #[.agg #[.int .i64 5, .int .i64 (k : Int), .string t, .int .i64 0], .int .i64 (m : Int), .int .i64 0]) (by simp [results, Try.results37, go_sem]) rfl (OnePost.mk 5 k t 0 m rfl (fun _ => ⟨rfl, rfl, rfl, rfl, by rw [HE.out]⟩) (by repeat (first | exact Ext.refl _ | apply Ext.alloc | apply Ext.more | (refine Ext.setCell ?_ (by simp) _))))
set_option maxHeartbeats 4000000 in
set_option maxRecDepth 20000 in
theorem one_digit (s : ByteArray) (hs : (s.size : Int) ≤ 5000) (k n : Nat) (hk : k < s.size) (hl : letterB ((s[k]'hk).toNat : Int) = false) (hdg : digitB ((s[k]'hk).toNat : Int) = true) (hn : spanN digitB (s.data.toList.drop k) = n) (t : ByteArray) (ht : s.extract k (k + n) = t) (r : Tok) (e : Int)
    (hr : (if (1 < n ∧ (s[k]'hk).toNat = 48) ∨ headLetter (s.data.toList.drop (k + n)) = true then (tok0, 3) else numF t) = (r, e)) (w : World) :
    Calls Try.prog 37 #[.string s, .int .i64 (k : Int)] w (OnePost r k n e w) := by
  have HN := Lib.hid hn
  have HR := Lib.hid hr
  have hle := spanN_le digitB (s.data.toList.drop k)
  rw [hn] at hle
  have hkn : k + n ≤ s.size := by simp at hle; omega
  have hts : t.size = n := by rw [← ht]; simp; omega
  have hk5 : (k : Int) ≤ 5000 := by omega
  have hki : (k : Int) < (s.size : Int) := by omega
  have hu := (s[k]'hk).toNat_lt
  have HDD := Lib.hid (span_digits s k n (by omega) hn hkn)
  rw [ht] at HDD
  have HT := Lib.hid ht
  clear hn hr hle ht
  go_enter Try.func37, Try.ntmps37
  go_wp2_with (first
      | ((go_at_call 48; (with_reducible refine (letter16 _ (by omega) (by omega) _).mono ?_); rintro e' _ ⟨rfl, rfl⟩))
      | ((go_at_call 49; (with_reducible refine (digit16 _ (by omega) (by omega) _).mono ?_); rintro e' _ ⟨rfl, rfl⟩)))
  go_loopw [9] (fun a wr => ∃ m : Nat, a = .int .i64 (m : Int) ∧ k ≤ m ∧ m ≤ s.size ∧ m + spanN digitB (s.data.toList.drop m) = k + n ∧ wr = (w.alloc (.cells #[.int .i64 0, .int .i64 0, .string ⟨#[]⟩, .int .i64 0] 57 (0, 0))).alloc (.cells #[.int .i64 0, .int .i64 (k : Int), .string ⟨#[]⟩, .int .i64 0] 57 (0, 0))) (fun a _ => s.size - (intOf a).toNat)
  case atStart => exact ⟨k, rfl, Nat.le_refl _, by omega, by rw [HN.out], rfl⟩
  case round =>
    obtain ⟨m, rfl, hkm, hms, hsp, rfl⟩ := hrel
    have HS := Lib.hid hsp
    clear hsp
    have hm5 : (m : Int) ≤ 5000 := by omega
    by_cases hlt : m < s.size
    · have hlt2 : (m : Int) < (s.size : Int) := by omega
      have hv := (s[m]'hlt).toNat_lt
      have HSH := Lib.hid (span_here digitB s m hlt)
      have HLT := Lib.hid hlt
      cases q2 : digitB ((s[m]'hlt).toNat : Int)
      rotate_left
      · have HS2 : RowKit.Hid (m + 1 + spanN digitB (s.data.toList.drop (m + 1)) = k + n) := Lib.hid (by
          have h := HS.out
          rw [HSH.out, if_pos q2] at h
          omega)
        go_wp2_with (first
      | ((go_at_call 48; (with_reducible refine (letter16 _ (by omega) (by omega) _).mono ?_); rintro e' _ ⟨rfl, rfl⟩))
      | ((go_at_call 49; (with_reducible refine (digit16 _ (by omega) (by omega) _).mono ?_); rintro e' _ ⟨rfl, rfl⟩)))
        go_roundw
        case rel => exact ⟨m + 1, by go_num, by omega, by have := HLT.out; omega, HS2.out, by first | rfl | trivial⟩
        case measure => have := HLT.out; simp [intOf]; omega
      have HE : RowKit.Hid (m = k + n) := Lib.hid (by
        have h := HS.out
        rw [HSH.out, if_neg (by rw [q2]; simp)] at h
        omega)
      have HHL : RowKit.Hid (headLetter (s.data.toList.drop (k + n)) = letterB ((s[m]'hlt).toNat : Int)) := Lib.hid (by rw [← HE.out, drop_at s m hlt]; rfl)
      cases q3 : letterB ((s[m]'hlt).toNat : Int)
      · rw [q3] at HHL
        have hx : s.extract k m = t := by rw [HE.out]; exact HT.out
        have hkm2 : (k : Int) ≤ (m : Int) := by omega
        have hms2 : (m : Int) ≤ (s.size : Int) := by omega
        have hmk : (m : Int) - (k : Int) = (n : Int) := by have := HE.out; omega
        by_cases hc : 1 < n ∧ (s[k]'hk).toNat = 48
        · have hc1 : 1 < (m : Int) - (k : Int) := by omega
          have hc2 : ((s[k]'hk).toNat : Int) = 48 := by omega
          have HC := Lib.hid hc
          clear hc hmk
          have HR2 : RowKit.Hid (e = 3) := Lib.hid (by
            have h := HR.out; rw [if_pos (Or.inl HC.out)] at h; simp only [Prod.mk.injEq] at h; exact h.2.symm)
          go_wp2_with (first
      | ((go_at_call 48; (with_reducible refine (letter16 _ (by omega) (by omega) _).mono ?_); rintro e' _ ⟨rfl, rfl⟩))
      | ((go_at_call 49; (with_reducible refine (digit16 _ (by omega) (by omega) _).mono ?_); rintro e' _ ⟨rfl, rfl⟩)))
          all_goals exact bodyPost_ret (v := .tuple #[.agg #[.int .i64 0, .int .i64 (k : Int), .string ⟨#[]⟩, .int .i64 0], .int .i64 0, .int .i64 3]) (by simp [results, Try.results37, go_sem]) rfl (OnePost.mk 0 k ⟨#[]⟩ 0 0 (by rw [HR2.out]) (fun h0 => by have := HR2.out; omega) (by repeat (first | exact Ext.refl _ | apply Ext.alloc | apply Ext.more | (refine Ext.setCell ?_ (by simp) _))))
        · have HR2 : RowKit.Hid (numF t = (r, e)) := Lib.hid (by
            have h := HR.out
            rw [if_neg (by rw [HHL.out]; simpa using hc)] at h; exact h)
          obtain ⟨R, hR⟩ : ∃ R, numG 0 t.data.toList = R := ⟨_, rfl⟩
          have NB := Lib.hid (fun w1 => number16 t (by omega) HDD.out R hR w1)
          unfold numF at HR2
          rw [hR] at HR2
          clear hR
          by_cases hz : (s[k]'hk).toNat = 48
          · have hc1 : (m : Int) - (k : Int) ≤ 1 := by omega
            have hc2 : ((s[k]'hk).toNat : Int) = 48 := by omega
            clear hc hmk
            cases R with
            | none =>
              have HR3 : RowKit.Hid (e = 8) := Lib.hid (by have h := HR2.out; unfold numE at h; simp only [Prod.mk.injEq] at h; exact h.2.symm)
              unfold numV at NB
              go_wp2_with (first
      | ((go_at_call 48; (with_reducible refine (letter16 _ (by omega) (by omega) _).mono ?_); rintro e' _ ⟨rfl, rfl⟩))
      | ((go_at_call 49; (with_reducible refine (digit16 _ (by omega) (by omega) _).mono ?_); rintro e' _ ⟨rfl, rfl⟩))
      | ((go_at_call 51; (with_reducible refine (NB.out _).mono ?_); rintro e' _ ⟨rfl, rfl⟩)))
              exact bodyPost_ret (v := .tuple #[.agg #[.int .i64 0, .int .i64 (k : Int), .string ⟨#[]⟩, .int .i64 0], .int .i64 0, .int .i64 8]) (by simp [results, Try.results37, go_sem]) rfl (OnePost.mk 0 k ⟨#[]⟩ 0 0 (by rw [HR3.out]) (fun h0 => by have := HR3.out; omega) (by repeat (first | exact Ext.refl _ | apply Ext.alloc | apply Ext.more | (refine Ext.setCell ?_ (by simp) _))))
            | some v =>
              have HR3 : RowKit.Hid (r = ⟨2, ⟨#[]⟩, v⟩ ∧ e = 0) := Lib.hid (by have h := HR2.out; unfold numE at h; simp only [Prod.mk.injEq] at h; exact ⟨h.1.symm, h.2.symm⟩)
              unfold numV at NB
              go_wp2_with (first
      | ((go_at_call 48; (with_reducible refine (letter16 _ (by omega) (by omega) _).mono ?_); rintro e' _ ⟨rfl, rfl⟩))
      | ((go_at_call 49; (with_reducible refine (digit16 _ (by omega) (by omega) _).mono ?_); rintro e' _ ⟨rfl, rfl⟩))
      | ((go_at_call 51; (with_reducible refine (NB.out _).mono ?_); rintro e' _ ⟨rfl, rfl⟩)))
              obtain ⟨rfl, rfl⟩ := HR3.out
              exact bodyPost_ret (v := .tuple #[.agg #[.int .i64 2, .int .i64 (k : Int), .string ⟨#[]⟩, .int .i64 v], .int .i64 (m : Int), .int .i64 0]) (by simp [results, Try.results37, go_sem]) rfl (OnePost.mk 2 k ⟨#[]⟩ v m rfl (fun _ => ⟨rfl, rfl, rfl, rfl, by rw [HE.out]⟩) (by repeat (first | exact Ext.refl _ | apply Ext.alloc | apply Ext.more | (refine Ext.setCell ?_ (by simp) _))))
          · have hc2 : (((s[k]'hk).toNat : Int) == 48) = false := beq_eq_false_iff_ne.2 (by omega)
            clear hc hmk
            cases R with
            | none =>
              have HR3 : RowKit.Hid (e = 8) := Lib.hid (by have h := HR2.out; unfold numE at h; simp only [Prod.mk.injEq] at h; exact h.2.symm)
              unfold numV at NB
              go_wp2_with (first
      | ((go_at_call 48; (with_reducible refine (letter16 _ (by omega) (by omega) _).mono ?_); rintro e' _ ⟨rfl, rfl⟩))
      | ((go_at_call 49; (with_reducible refine (digit16 _ (by omega) (by omega) _).mono ?_); rintro e' _ ⟨rfl, rfl⟩))
      | ((go_at_call 51; (with_reducible refine (NB.out _).mono ?_); rintro e' _ ⟨rfl, rfl⟩)))
              exact bodyPost_ret (v := .tuple #[.agg #[.int .i64 0, .int .i64 (k : Int), .string ⟨#[]⟩, .int .i64 0], .int .i64 0, .int .i64 8]) (by simp [results, Try.results37, go_sem]) rfl (OnePost.mk 0 k ⟨#[]⟩ 0 0 (by rw [HR3.out]) (fun h0 => by have := HR3.out; omega) (by repeat (first | exact Ext.refl _ | apply Ext.alloc | apply Ext.more | (refine Ext.setCell ?_ (by simp) _))))
            | some v =>
              have HR3 : RowKit.Hid (r = ⟨2, ⟨#[]⟩, v⟩ ∧ e = 0) := Lib.hid (by have h := HR2.out; unfold numE at h; simp only [Prod.mk.injEq] at h; exact ⟨h.1.symm, h.2.symm⟩)
              unfold numV at NB
              go_wp2_with (first
      | ((go_at_call 48; (with_reducible refine (letter16 _ (by omega) (by omega) _).mono ?_); rintro e' _ ⟨rfl, rfl⟩))
      | ((go_at_call 49; (with_reducible refine (digit16 _ (by omega) (by omega) _).mono ?_); rintro e' _ ⟨rfl, rfl⟩))
      | ((go_at_call 51; (with_reducible refine (NB.out _).mono ?_); rintro e' _ ⟨rfl, rfl⟩)))
              obtain ⟨rfl, rfl⟩ := HR3.out
              exact bodyPost_ret (v := .tuple #[.agg #[.int .i64 2, .int .i64 (k : Int), .string ⟨#[]⟩, .int .i64 v], .int .i64 (m : Int), .int .i64 0]) (by simp [results, Try.results37, go_sem]) rfl (OnePost.mk 2 k ⟨#[]⟩ v m rfl (fun _ => ⟨rfl, rfl, rfl, rfl, by rw [HE.out]⟩) (by repeat (first | exact Ext.refl _ | apply Ext.alloc | apply Ext.more | (refine Ext.setCell ?_ (by simp) _))))
      · rw [q3] at HHL
        have hkm2 : (k : Int) ≤ (m : Int) := by omega
        have hms2 : (m : Int) ≤ (s.size : Int) := by omega
        have HR2 : RowKit.Hid (e = 3) := Lib.hid (by
          have h := HR.out; rw [if_pos (Or.inr HHL.out)] at h; simp only [Prod.mk.injEq] at h; exact h.2.symm)
        go_wp2_with (first
      | ((go_at_call 48; (with_reducible refine (letter16 _ (by omega) (by omega) _).mono ?_); rintro e' _ ⟨rfl, rfl⟩))
      | ((go_at_call 49; (with_reducible refine (digit16 _ (by omega) (by omega) _).mono ?_); rintro e' _ ⟨rfl, rfl⟩)))
        all_goals exact bodyPost_ret (v := .tuple #[.agg #[.int .i64 0, .int .i64 (k : Int), .string ⟨#[]⟩, .int .i64 0], .int .i64 0, .int .i64 3]) (by simp [results, Try.results37, go_sem]) rfl (OnePost.mk 0 k ⟨#[]⟩ 0 0 (by rw [HR2.out]) (fun h0 => by have := HR2.out; omega) (by repeat (first | exact Ext.refl _ | apply Ext.alloc | apply Ext.more | (refine Ext.setCell ?_ (by simp) _))))
    · have hme : m = s.size := by omega
      have HE : RowKit.Hid (m = k + n) := Lib.hid (by
        have h := HS.out
        rw [hme, span_end] at h
        omega)
      have hlt2 : (s.size : Int) ≤ (m : Int) := by omega
      have HHL : RowKit.Hid (headLetter (s.data.toList.drop (k + n)) = false) := Lib.hid (by
        rw [← HE.out, hme, drop_end]; rfl)
      clear hlt hme
      have hx : s.extract k m = t := by rw [HE.out]; exact HT.out
      have hkm2 : (k : Int) ≤ (m : Int) := by omega
      have hms2 : (m : Int) ≤ (s.size : Int) := by omega
      have hmk : (m : Int) - (k : Int) = (n : Int) := by have := HE.out; omega
      by_cases hc : 1 < n ∧ (s[k]'hk).toNat = 48
      · have hc1 : 1 < (m : Int) - (k : Int) := by omega
        have hc2 : ((s[k]'hk).toNat : Int) = 48 := by omega
        have HC := Lib.hid hc
        clear hc hmk
        have HR2 : RowKit.Hid (e = 3) := Lib.hid (by
          have h := HR.out; rw [if_pos (Or.inl HC.out)] at h; simp only [Prod.mk.injEq] at h; exact h.2.symm)
        go_wp2_with (first
      | ((go_at_call 48; (with_reducible refine (letter16 _ (by omega) (by omega) _).mono ?_); rintro e' _ ⟨rfl, rfl⟩))
      | ((go_at_call 49; (with_reducible refine (digit16 _ (by omega) (by omega) _).mono ?_); rintro e' _ ⟨rfl, rfl⟩)))
        all_goals exact bodyPost_ret (v := .tuple #[.agg #[.int .i64 0, .int .i64 (k : Int), .string ⟨#[]⟩, .int .i64 0], .int .i64 0, .int .i64 3]) (by simp [results, Try.results37, go_sem]) rfl (OnePost.mk 0 k ⟨#[]⟩ 0 0 (by rw [HR2.out]) (fun h0 => by have := HR2.out; omega) (by repeat (first | exact Ext.refl _ | apply Ext.alloc | apply Ext.more | (refine Ext.setCell ?_ (by simp) _))))
      · have HR2 : RowKit.Hid (numF t = (r, e)) := Lib.hid (by
          have h := HR.out
          rw [if_neg (by rw [HHL.out]; simpa using hc)] at h; exact h)
        obtain ⟨R, hR⟩ : ∃ R, numG 0 t.data.toList = R := ⟨_, rfl⟩
        have NB := Lib.hid (fun w1 => number16 t (by omega) HDD.out R hR w1)
        unfold numF at HR2
        rw [hR] at HR2
        clear hR
        by_cases hz : (s[k]'hk).toNat = 48
        · have hc1 : (m : Int) - (k : Int) ≤ 1 := by omega
          have hc2 : ((s[k]'hk).toNat : Int) = 48 := by omega
          clear hc hmk
          cases R with
          | none =>
            have HR3 : RowKit.Hid (e = 8) := Lib.hid (by have h := HR2.out; unfold numE at h; simp only [Prod.mk.injEq] at h; exact h.2.symm)
            unfold numV at NB
            go_wp2_with (first
      | ((go_at_call 48; (with_reducible refine (letter16 _ (by omega) (by omega) _).mono ?_); rintro e' _ ⟨rfl, rfl⟩))
      | ((go_at_call 49; (with_reducible refine (digit16 _ (by omega) (by omega) _).mono ?_); rintro e' _ ⟨rfl, rfl⟩))
      | ((go_at_call 51; (with_reducible refine (NB.out _).mono ?_); rintro e' _ ⟨rfl, rfl⟩)))
            exact bodyPost_ret (v := .tuple #[.agg #[.int .i64 0, .int .i64 (k : Int), .string ⟨#[]⟩, .int .i64 0], .int .i64 0, .int .i64 8]) (by simp [results, Try.results37, go_sem]) rfl (OnePost.mk 0 k ⟨#[]⟩ 0 0 (by rw [HR3.out]) (fun h0 => by have := HR3.out; omega) (by repeat (first | exact Ext.refl _ | apply Ext.alloc | apply Ext.more | (refine Ext.setCell ?_ (by simp) _))))
          | some v =>
            have HR3 : RowKit.Hid (r = ⟨2, ⟨#[]⟩, v⟩ ∧ e = 0) := Lib.hid (by have h := HR2.out; unfold numE at h; simp only [Prod.mk.injEq] at h; exact ⟨h.1.symm, h.2.symm⟩)
            unfold numV at NB
            go_wp2_with (first
      | ((go_at_call 48; (with_reducible refine (letter16 _ (by omega) (by omega) _).mono ?_); rintro e' _ ⟨rfl, rfl⟩))
      | ((go_at_call 49; (with_reducible refine (digit16 _ (by omega) (by omega) _).mono ?_); rintro e' _ ⟨rfl, rfl⟩))
      | ((go_at_call 51; (with_reducible refine (NB.out _).mono ?_); rintro e' _ ⟨rfl, rfl⟩)))
            obtain ⟨rfl, rfl⟩ := HR3.out
            exact bodyPost_ret (v := .tuple #[.agg #[.int .i64 2, .int .i64 (k : Int), .string ⟨#[]⟩, .int .i64 v], .int .i64 (m : Int), .int .i64 0]) (by simp [results, Try.results37, go_sem]) rfl (OnePost.mk 2 k ⟨#[]⟩ v m rfl (fun _ => ⟨rfl, rfl, rfl, rfl, by rw [HE.out]⟩) (by repeat (first | exact Ext.refl _ | apply Ext.alloc | apply Ext.more | (refine Ext.setCell ?_ (by simp) _))))
        · have hc2 : (((s[k]'hk).toNat : Int) == 48) = false := beq_eq_false_iff_ne.2 (by omega)
          clear hc hmk
          cases R with
          | none =>
            have HR3 : RowKit.Hid (e = 8) := Lib.hid (by have h := HR2.out; unfold numE at h; simp only [Prod.mk.injEq] at h; exact h.2.symm)
            unfold numV at NB
            go_wp2_with (first
      | ((go_at_call 48; (with_reducible refine (letter16 _ (by omega) (by omega) _).mono ?_); rintro e' _ ⟨rfl, rfl⟩))
      | ((go_at_call 49; (with_reducible refine (digit16 _ (by omega) (by omega) _).mono ?_); rintro e' _ ⟨rfl, rfl⟩))
      | ((go_at_call 51; (with_reducible refine (NB.out _).mono ?_); rintro e' _ ⟨rfl, rfl⟩)))
            exact bodyPost_ret (v := .tuple #[.agg #[.int .i64 0, .int .i64 (k : Int), .string ⟨#[]⟩, .int .i64 0], .int .i64 0, .int .i64 8]) (by simp [results, Try.results37, go_sem]) rfl (OnePost.mk 0 k ⟨#[]⟩ 0 0 (by rw [HR3.out]) (fun h0 => by have := HR3.out; omega) (by repeat (first | exact Ext.refl _ | apply Ext.alloc | apply Ext.more | (refine Ext.setCell ?_ (by simp) _))))
          | some v =>
            have HR3 : RowKit.Hid (r = ⟨2, ⟨#[]⟩, v⟩ ∧ e = 0) := Lib.hid (by have h := HR2.out; unfold numE at h; simp only [Prod.mk.injEq] at h; exact ⟨h.1.symm, h.2.symm⟩)
            unfold numV at NB
            go_wp2_with (first
      | ((go_at_call 48; (with_reducible refine (letter16 _ (by omega) (by omega) _).mono ?_); rintro e' _ ⟨rfl, rfl⟩))
      | ((go_at_call 49; (with_reducible refine (digit16 _ (by omega) (by omega) _).mono ?_); rintro e' _ ⟨rfl, rfl⟩))
      | ((go_at_call 51; (with_reducible refine (NB.out _).mono ?_); rintro e' _ ⟨rfl, rfl⟩)))
            obtain ⟨rfl, rfl⟩ := HR3.out
            exact bodyPost_ret (v := .tuple #[.agg #[.int .i64 2, .int .i64 (k : Int), .string ⟨#[]⟩, .int .i64 v], .int .i64 (m : Int), .int .i64 0]) (by simp [results, Try.results37, go_sem]) rfl (OnePost.mk 2 k ⟨#[]⟩ v m rfl (fun _ => ⟨rfl, rfl, rfl, rfl, by rw [HE.out]⟩) (by repeat (first | exact Ext.refl _ | apply Ext.alloc | apply Ext.more | (refine Ext.setCell ?_ (by simp) _))))
theorem textG_k (l acc : List UInt8) : (textG l acc).2.2 = 0 → (textG l acc).1.k = 3 ∧ (textG l acc).1.i = 0 := by
  fun_induction textG l acc
  all_goals intro h
  all_goals first
    | (exfalso; exact absurd h (by decide))
    | exact ⟨rfl, rfl⟩
    | (rename_i ih; exact ih h)
set_option maxHeartbeats 4000000 in
set_option maxRecDepth 20000 in
theorem one_text (s : ByteArray) (hs : (s.size : Int) ≤ 5000) (k n : Nat) (hk : k < s.size) (hl : letterB ((s[k]'hk).toNat : Int) = false) (hdg : digitB ((s[k]'hk).toNat : Int) = false) (hq : (s[k]'hk).toNat = 34) (r : Tok) (e : Int) (hr : textG (s.data.toList.drop (k + 1)) [] = (r, n, e)) (w : World) :
    Calls Try.prog 37 #[.string s, .int .i64 (k : Int)] w (OnePost r k (1 + n) e w) := by
  have TX := Lib.hid (fun w1 => text16 s hs k (k + 1 + n) hk r e (by rw [hr]) (by rw [hr]) (by rw [hr]) w1)
  have HK := Lib.hid (textG_k (s.data.toList.drop (k + 1)) [])
  rw [hr] at HK
  have hk5 : (k : Int) ≤ 5000 := by omega
  have hki : (k : Int) < (s.size : Int) := by omega
  have hu := (s[k]'hk).toNat_lt
  have hq2 : ((s[k]'hk).toNat : Int) = 34 := by omega
  clear hr hq
  go_enter Try.func37, Try.ntmps37
  go_wp2_with (first
      | ((go_at_call 48; (with_reducible refine (letter16 _ (by omega) (by omega) _).mono ?_); rintro e' _ ⟨rfl, rfl⟩))
      | ((go_at_call 49; (with_reducible refine (digit16 _ (by omega) (by omega) _).mono ?_); rintro e' _ ⟨rfl, rfl⟩))
      | ((go_at_call 52; (with_reducible refine (TX.out _).mono ?_); rintro e' _ ⟨⟨q, z, rfl, hq5⟩, rfl⟩; have HQ := Lib.hid hq5; clear hq5)))
  refine bodyPost_ret (v := .tuple #[.agg #[.int .i64 3, .int .i64 (k : Int), .string q, .int .i64 0], .int .i64 z, .int .i64 e]) (by simp [results, Try.results37, go_sem]) rfl (OnePost.mk 3 k q 0 z rfl (fun h0 => ?_) (by repeat (first | exact Ext.refl _ | apply Ext.alloc | apply Ext.more | (refine Ext.setCell ?_ (by simp) _))))
  obtain ⟨h1, h2⟩ := HQ.out h0
  obtain ⟨h3, h4⟩ := HK.out h0
  exact ⟨h3.symm, rfl, h1, h4.symm, by rw [h2]; omega⟩
theorem sign_cut (s : ByteArray) (k n : Nat) (hk : k < s.size) (r : Tok) (e : Int) (hr : signF (s.data.toList.drop k) = (r, n, e)) : (n = 0 ∧ e = 3) ∨ (0 < n ∧ k + n ≤ s.size ∧ n ≤ 2 ∧ e = 0 ∧ r = ⟨4, s.extract k (k + n), 0⟩) := by
  have hd := drop_at s k hk
  cases hf : twoL.find? (fun q => Lib.hasPrefix (s.data.toList.drop k) q.data.toList) with
  | some p =>
    have h := (two_n _ p hf).2
    rw [hr] at h
    simp only [Prod.mk.injEq] at h
    obtain ⟨rfl, rfl, rfl⟩ := h
    right
    obtain ⟨a, b, hab⟩ := two_len16 p (List.mem_of_find?_eq_some hf)
    have hp := List.find?_some hf
    rw [hab] at hp
    have hpre := List.isPrefixOf_iff_prefix.1 hp
    obtain ⟨x, hx⟩ := hpre
    have hlen := congrArg List.length hx
    simp at hlen
    refine ⟨by omega, by omega, by omega, rfl, ?_⟩
    have : s.extract k (k + 2) = p := by
      rw [extract_take, ← hx]
      apply ByteArray.ext
      apply Array.ext'
      simp [hab]
    rw [this]
  | none =>
    rw [hd] at hf
    have h := one_n _ _ hf
    cases hc : singles.data.toList.contains (s[k]'hk)
    · have := h.2 hc
      rw [← hd] at this
      unfold signN at this
      rw [hr] at this
      exact Or.inl this
    · have := (h.1 hc).2
      rw [← hd, hr] at this
      simp only [Prod.mk.injEq] at this
      obtain ⟨rfl, rfl, rfl⟩ := this
      exact Or.inr ⟨by omega, by omega, by omega, rfl, by rw [ext_one s k hk]⟩
set_option maxHeartbeats 4000000 in
set_option maxRecDepth 20000 in
theorem one_sign (s : ByteArray) (hs : (s.size : Int) ≤ 5000) (k n : Nat) (hk : k < s.size) (hl : letterB ((s[k]'hk).toNat : Int) = false) (hdg : digitB ((s[k]'hk).toNat : Int) = false) (hq : (s[k]'hk).toNat ≠ 34) (r : Tok) (e : Int) (hr : signF (s.data.toList.drop k) = (r, n, e)) (w : World) :
    Calls Try.prog 37 #[.string s, .int .i64 (k : Int)] w (OnePost r k n e w) := by
  have SG := Lib.hid (fun w1 => sign16 s hs k n hk (by unfold signN; rw [hr]) w1)
  have hcut := sign_cut s k n hk r e hr
  have hk5 : (k : Int) ≤ 5000 := by omega
  have hki : (k : Int) < (s.size : Int) := by omega
  have hu := (s[k]'hk).toNat_lt
  have hq2 : (((s[k]'hk).toNat : Int) == 34) = false := beq_eq_false_iff_ne.2 (by omega)
  clear hr hq
  rcases hcut with ⟨rfl, rfl⟩ | ⟨h0, hkn, h2, rfl, rfl⟩
  · go_enter Try.func37, Try.ntmps37
    go_wp2_with (first
      | ((go_at_call 48; (with_reducible refine (letter16 _ (by omega) (by omega) _).mono ?_); rintro e' _ ⟨rfl, rfl⟩))
      | ((go_at_call 49; (with_reducible refine (digit16 _ (by omega) (by omega) _).mono ?_); rintro e' _ ⟨rfl, rfl⟩))
      | ((go_at_call 53; (with_reducible refine (SG.out _).mono ?_); rintro e' _ ⟨rfl, dw, ow, rfl⟩)))
    exact bodyPost_ret (v := .tuple #[.agg #[.int .i64 0, .int .i64 (k : Int), .string ⟨#[]⟩, .int .i64 0], .int .i64 0, .int .i64 3]) (by simp [results, Try.results37, go_sem]) rfl (OnePost.mk 0 k ⟨#[]⟩ 0 0 rfl (fun h0 => absurd h0 (by decide)) (by repeat (first | exact Ext.refl _ | apply Ext.alloc | apply Ext.more | (refine Ext.setCell ?_ (by simp) _))))
  · have hn0 : ((n : Int) == 0) = false := beq_eq_false_iff_ne.2 (by omega)
    have hkn2 : (k : Int) + (n : Int) ≤ (s.size : Int) := by omega
    have hn2 : (n : Int) ≤ 2 := by omega
    have hnn : 0 ≤ (n : Int) := by omega
    have hx : (k : Int) ≤ (k : Int) + (n : Int) := by omega
    have htn : ((k : Int) + (n : Int)).toNat = k + n := by omega
    obtain ⟨t, ht⟩ : ∃ t, s.extract k (k + n) = t := ⟨_, rfl⟩
    go_enter Try.func37, Try.ntmps37
    go_wp2_with (first
      | ((go_at_call 48; (with_reducible refine (letter16 _ (by omega) (by omega) _).mono ?_); rintro e' _ ⟨rfl, rfl⟩))
      | ((go_at_call 49; (with_reducible refine (digit16 _ (by omega) (by omega) _).mono ?_); rintro e' _ ⟨rfl, rfl⟩))
      | ((go_at_call 53; (with_reducible refine (SG.out _).mono ?_); rintro e' _ ⟨rfl, dw, ow, rfl⟩)))
    rw [ht]
    exact bodyPost_ret (v := .tuple #[.agg #[.int .i64 4, .int .i64 (k : Int), .string t, .int .i64 0], .int .i64 ((k : Int) + (n : Int)), .int .i64 0]) (by simp [results, Try.results37, go_sem]) rfl (OnePost.mk 4 k t 0 _ rfl (fun _ => ⟨rfl, rfl, rfl, rfl, rfl⟩) (by repeat (first | exact Ext.refl _ | apply Ext.alloc | apply Ext.more | (refine Ext.setCell ?_ (by simp) _))))
theorem one16 (s : ByteArray) (hs : (s.size : Int) ≤ 5000) (k n : Nat) (hk : k < s.size) (r : Tok) (e : Int) (hr : oneF (s.data.toList.drop k) = (r, n, e)) (w : World) : Calls Try.prog 37 #[.string s, .int .i64 (k : Int)] w (OnePost r k n e w) := by
  have hd := drop_at s k hk
  rw [hd] at hr
  unfold oneF at hr
  dsimp only at hr
  rw [← hd] at hr
  have ex : ∀ n, (⟨((s.data.toList.drop k).take n).toArray⟩ : ByteArray) = s.extract k (k + n) := fun n => (extract_take s k n).symm
  simp only [ex] at hr
  cases hl : letterB ((s[k]'hk).toNat : Int)
  · rw [hl, if_neg (by simp)] at hr
    cases hdg : digitB ((s[k]'hk).toNat : Int)
    · rw [hdg, if_neg (by simp)] at hr
      by_cases hq : (s[k]'hk).toNat = 34
      · rw [if_pos hq] at hr
        simp only [Prod.mk.injEq] at hr
        obtain ⟨h1, rfl, h3⟩ := hr
        exact one_text s hs k _ hk hl hdg hq r e (by rw [← h1, ← h3]) w
      · rw [if_neg hq] at hr
        exact one_sign s hs k n hk hl hdg hq r e hr w
    · rw [hdg, if_pos rfl] at hr
      have key : n = spanN digitB (s.data.toList.drop k) ∧ (if (1 < spanN digitB (s.data.toList.drop k) ∧ (s[k]'hk).toNat = 48) ∨ headLetter (s.data.toList.drop (k + spanN digitB (s.data.toList.drop k))) = true then (tok0, 3) else numF (s.extract k (k + spanN digitB (s.data.toList.drop k)))) = (r, e) := by
        rw [List.drop_drop] at hr
        split at hr
        · next hc => rw [if_pos hc]; simp only [Prod.mk.injEq] at hr ⊢; exact ⟨hr.2.1.symm, hr.1, hr.2.2⟩
        · next hc =>
          rw [if_neg hc]; simp only [Prod.mk.injEq] at hr
          exact ⟨hr.2.1.symm, by rw [← hr.1, ← hr.2.2]⟩
      obtain ⟨rfl, h2⟩ := key
      exact one_digit s hs k _ hk hl hdg rfl _ rfl r e h2 w
  · rw [hl, if_pos rfl] at hr
    simp only [Prod.mk.injEq] at hr
    obtain ⟨h1, rfl, h3⟩ := hr
    exact one_letter s hs k _ hk hl rfl _ rfl r e (by rw [← h1, ← h3]) w
/-- what the document's Tokens hands back -/
def TokPost16 (w : World) (r : List (Tok × Nat) × Int × Nat) (e : Ending) (w' : World) : Prop :=
  (r.2.1 = 0 ∧ ∃ g cap, e = .returned (.tuple #[.slice (some ⟨g, 0, none⟩) r.1.length cap, .int .i64 0, .int .i64 0]) ∧ w'.ownsRow w.heap.size 57 4 (.slice (some ⟨g, 0, none⟩) r.1.length cap) r.1.length (tokCells r.1) ∧ Ext w w') ∨
  (r.2.1 ≠ 0 ∧ e = .returned (.tuple #[.slice none 0 0, .int .i64 r.2.1, .int .i64 (r.2.2 : Int)]) ∧ Ext w w')
theorem TokPost16.err {w w' : World} {r : List (Tok × Nat) × Int × Nat} {e : Ending} (h : r.2.1 ≠ 0) (he : e = .returned (.tuple #[.slice none 0 0, .int .i64 r.2.1, .int .i64 (r.2.2 : Int)])) (hx : Ext w w') : TokPost16 w r e w' := Or.inr ⟨h, he, hx⟩
theorem TokPost16.ok {w w' : World} {l : List (Tok × Nat)} {x : Nat} {v : Value} {e : Ending} (he : e = .returned (.tuple #[v, .int .i64 0, .int .i64 0])) (hl : 0 < l.length) (ho : w'.ownsRow w.heap.size 57 4 v l.length (tokCells l)) (hx : Ext w w') : TokPost16 w (l, 0, x) e w' := by
  obtain ⟨g, cap, rfl, _, _⟩ := ho.form hl
  exact Or.inl ⟨rfl, g, cap, he, ho, hx⟩
theorem own_frame {W w w1 : World} {v : Value} {n : Nat} {xs : List Value} {e : TypeId} {size : Nat} (hx : Ext W w) (h : w.ownsRow W.heap.size e size v n xs) (hg : w.grownBy w1 v.ownBlock) : Ext W w1 := by
  exact hx.grown hg fun k hk => (h.lt k hk).1
set_option maxHeartbeats 4000000 in
set_option maxRecDepth 20000 in
theorem tok16_x (s : ByteArray) (hs : (s.size : Int) ≤ 4096) (res : List (Tok × Nat) × Int × Nat) (hr : lexG s.data.toList (s.size + 1) 0 [] = res) (w : World) : Calls Try.prog 25 #[.string s] w (TokPost16 w res) := by
  have HR := Lib.hid hr
  have hs5 : (s.size : Int) ≤ 5000 := by omega
  have SK0 : RowKit.Hid (∀ w1, Calls Try.prog 36 #[.string s, .int .i64 0] w1 fun e w' => e = .returned (.int .i64 ((0 + skipL false (s.data.toList.drop 0) : Nat) : Int)) ∧ w1 = w') := Lib.hid (fun w1 => skip16 s hs5 0 _ (Nat.zero_le _) rfl w1)
  have hle0 := skipL_le false (s.data.toList.drop 0)
  have hlen : s.data.toList.length = s.size := by simp
  obtain ⟨i0, hi, hz0, hz1, hz2⟩ := info_parts tokInfo
  clear hr
  go_enter Try.func25, Try.ntmps25
  go_wp2_with ((go_at_call 36; (with_reducible refine (SK0.out _).mono ?_); rintro e' _ ⟨rfl, rfl⟩))
  go_loopg [5, 6] (s.size + 1) (fun g x y wr => ∃ (k K : Nat) (acc : List (Tok × Nat)) (lv : Value), lv = x ∧ y = .int .i64 (K : Int) ∧ k ≤ s.size ∧ s.size + 1 ≤ k + g ∧ acc.length ≤ 1024 ∧ K = k + skipL false (s.data.toList.drop k) ∧ lexG s.data.toList g k acc = res ∧ wr.ownsRow w.heap.size 57 4 lv acc.length (tokCells acc) ∧ Ext w wr)
  case atStart => exact ⟨0, _, [], .slice none 0 0, rfl, rfl, Nat.zero_le _, by omega, by simp, by first | rfl | simp, HR.out, World.ownsRow_nil _ _ _ _, Ext.refl _⟩
  case round =>
    obtain ⟨k, K, acc, lv, rfl, rfl, hk, hkg, hac, hK, hlex, hown, hx⟩ := hrel
    obtain ⟨g, rfl⟩ : ∃ g, gk = g + 1 := ⟨gk - 1, by omega⟩
    have hle := skipL_le false (s.data.toList.drop k)
    rw [List.length_drop, hlen] at hle
    rw [lexG, hlen, ← hK] at hlex
    have HOWN := Lib.hid hown
    have HX := Lib.hid hx
    have hK5 : (K : Int) ≤ 5000 := by omega
    have hac2 : (acc.length : Int) ≤ 1024 := by omega
    clear hown hx hle0
    by_cases hend : s.size ≤ K
    · have hKe : (K : Int) = (s.size : Int) := by omega
      have hend2 : (s.size : Int) ≤ (K : Int) := by omega
      rw [if_pos hend] at hlex
      have HL := Lib.hid hlex
      clear hlex hend hK hle
      go_wp2_with (at_builtin; refine wpList_append_own_at _ rfl _ _ 39 rfl w.heap.size 57 i0 (.agg #[.int .i64 0, .int .i64 0, .string ⟨#[]⟩, .int .i64 0]) 4 40 Try.underlying39 hi hz0 hz1 hz2 rfl (by decide) lv acc.length (tokCells acc) rfl ?c0 ⟨_, 0, none⟩ 1 1 [.int .i64 0, .int .i64 (s.size : Int), .string ⟨#[]⟩, .int .i64 0] rfl rfl ?c1 ?c2 ?c3 ?c4 ?c5 ?_)
      case c0 => repeat (first | (with_reducible exact HOWN.out) | (with_reducible refine World.ownsRow.alloc ?_ _) | (with_reducible apply own_more))
      case c1 => exact news_alloc rfl
      case c2 => intro u hu; simp at hu; rcases hu with rfl | rfl | rfl | rfl <;> rfl
      case c3 => unfold maxLen; omega
      case c4 => omega
      case c5 => have h := HX.out.size; simp; omega
      intro v' w1 hown' hgrow _ hblk
      have hl := HL.out
      subst hl
      have XF := own_frame ((HX.out).alloc (.cells #[.int .i64 0, .int .i64 (s.size : Int), .string ⟨#[]⟩, .int .i64 0] 57 (0, 0))) ((HOWN.out).alloc _) hgrow
      clear hgrow hblk
      go_wp2_with fail
      go_ret3
      refine TokPost16.ok rfl (by simp) ?_ XF
      rw [tokCells_snoc]
      simpa [tok0, List.length_append] using hown'
    · have hKlt : K < s.size := by omega
      have hKi : (K : Int) < (s.size : Int) := by omega
      rw [if_neg hend] at hlex
      obtain ⟨r, n1, e1, hone⟩ : ∃ r n1 e1, oneF (s.data.toList.drop K) = (r, n1, e1) := ⟨_, _, _, rfl⟩
      rw [hone] at hlex
      dsimp only at hlex
      have OE := Lib.hid (fun w1 => one16 s hs5 K n1 hKlt r e1 hone w1)
      by_cases he : e1 = 0
      rotate_left
      · rw [if_pos he] at hlex
        have HL := Lib.hid hlex
        have he2 : (e1 != 0) = true := by simpa using he
        have HE := Lib.hid he
        clear hlex hend hK hle he
        go_wp2_with ((go_at_call 37; (with_reducible refine (OE.out _).mono ?_); rintro e' _ ⟨⟨ta, tb, tc, td, tz, rfl, hok⟩, d1, os1, rfl⟩; have HOK := Lib.hid hok; clear hok))
        go_ret3
        have hl := HL.out
        subst hl
        exact TokPost16.err HE.out rfl (by refine HX.out.trans ?_; repeat (first | exact Ext.refl _ | apply Ext.alloc | apply Ext.more))
      · subst he
        rw [if_neg (by simp)] at hlex
        by_cases hfull : acc.length = 1024
        · rw [if_pos hfull] at hlex
          have HL := Lib.hid hlex
          have hlv : ∃ p c, lv = .slice p acc.length c := by
            rcases Go.Joins.ownsRow_forms HOWN.out with ⟨rfl, h0⟩ | ⟨g1, c, rfl⟩
            · exact ⟨none, 0, by rw [h0]⟩
            · exact ⟨_, _, rfl⟩
          obtain ⟨p, c, rfl⟩ := hlv
          have hge : (1024 : Int) ≤ (acc.length : Int) := by omega
          clear hlex hend hK hle hfull
          go_wp2_with ((go_at_call 37; (with_reducible refine (OE.out _).mono ?_); rintro e' _ ⟨⟨ta, tb, tc, td, tz, rfl, hok⟩, d1, os1, rfl⟩; have HOK := Lib.hid hok; clear hok))
          go_ret3
          have hl := HL.out
          subst hl
          exact TokPost16.err (show (5 : Int) ≠ 0 by decide) rfl (by refine HX.out.trans ?_; repeat (first | exact Ext.refl _ | apply Ext.alloc | apply Ext.more))
        · rw [if_neg hfull] at hlex
          have hlv : ∃ p c, lv = .slice p acc.length c := by
            rcases Go.Joins.ownsRow_forms HOWN.out with ⟨rfl, h0⟩ | ⟨g1, c, rfl⟩
            · exact ⟨none, 0, by rw [h0]⟩
            · exact ⟨_, _, rfl⟩
          obtain ⟨p, c, rfl⟩ := hlv
          have hlt1 : (acc.length : Int) < 1024 := by omega
          have hbd := oneF_bd _ r n1 (by rw [List.length_drop, hlen]; omega) hone
          rw [List.length_drop, hlen] at hbd
          have SK : RowKit.Hid (∀ w1, Calls Try.prog 36 #[.string s, .int .i64 ((K : Int) + (n1 : Int))] w1 fun e w' => e = .returned (.int .i64 ((K + n1 + skipL false (s.data.toList.drop (K + n1)) : Nat) : Int)) ∧ w1 = w') := Lib.hid (fun w1 => by have h := skip16 s hs5 (K + n1) _ (by omega) rfl w1; rwa [Int.natCast_add] at h)
          have HL := Lib.hid hlex
          have HB := Lib.hid (And.intro hbd.1 (And.intro hkg (And.intro hK hlt1)))
          have HBD := Lib.hid hbd.2
          clear hlex hend hK hle hfull hkg hbd
          go_wp2_with (first
            | ((go_at_call 37; (with_reducible refine (OE.out _).mono ?_); rintro e' _ ⟨⟨ta, tb, tc, td, tz, rfl, hok⟩, d1, os1, rfl⟩; have HOK := Lib.hid hok; clear hok))
            | (at_builtin; refine wpList_append_own_at _ rfl _ _ 39 rfl w.heap.size 57 i0 (.agg #[.int .i64 0, .int .i64 0, .string ⟨#[]⟩, .int .i64 0]) 4 40 Try.underlying39 hi hz0 hz1 hz2 rfl (by decide) (.slice p acc.length c) acc.length (tokCells acc) rfl ?c0 ⟨_, 0, none⟩ 1 1 [.int .i64 ta, .int .i64 tb, .string tc, .int .i64 td] rfl rfl ?c1 ?c2 ?c3 ?c4 ?c5 ?_))
          case c0 => repeat (first | (with_reducible exact HOWN.out) | (with_reducible refine World.ownsRow.alloc ?_ _) | (with_reducible apply own_more))
          case c1 => exact news_alloc (by simp [more_size])
          case c2 => intro u hu; simp at hu; rcases hu with rfl | rfl | rfl | rfl <;> rfl
          case c3 => unfold maxLen; omega
          case c4 => omega
          case c5 => have h := HX.out.size; simp [more_size]; omega
          intro v' w1 hown' hgrow _ hblk
          obtain ⟨k1, k2, k3, k4, k5⟩ := HOK.out (by first | rfl | trivial)
          subst k1 k2 k3 k4 k5
          have XF := Lib.hid (own_frame (W := w) (v := .slice p acc.length c) (n := acc.length) (xs := tokCells acc) (e := 57) (size := 4) (by refine HX.out.trans ?_; repeat (first | exact Ext.refl _ | apply Ext.alloc | apply Ext.more)) (by repeat (first | (with_reducible exact HOWN.out) | (with_reducible refine World.ownsRow.alloc ?_ _) | (with_reducible apply own_more))) hgrow)
          have HO2 := Lib.hid hown'
          clear hgrow hblk hown'
          go_wp2_with ((go_at_call 36; (with_reducible refine (SK.out _).mono ?_); rintro e' _ ⟨rfl, rfl⟩))
          go_roundg g
          case measure => omega
          case rel =>
            obtain ⟨b1, b2, b3, b4⟩ := HB.out
            exact ⟨K + n1, _, acc ++ [(r, K)], v', rfl, rfl, by have := HBD.out; omega, by omega, by simp; omega, rfl, HL.out, by rw [tokCells_snoc]; simpa using HO2.out, XF.out⟩
theorem tok16 (s : ByteArray) (res : List (Tok × Nat) × Int × Nat) (hr : lexF s.data.toList = res) (w : World) : Calls Try.prog 25 #[.string s] w (TokPost16 w res) := by
  unfold lexF at hr
  have hlen : s.data.toList.length = s.size := by simp
  rw [hlen] at hr
  by_cases h : 4096 < s.size
  · rw [if_pos h] at hr
    subst hr
    have h2 : (4096 : Int) < s.size := by omega
    clear h
    go_enter Try.func25, Try.ntmps25
    go_wp2_with fail
    go_ret3
    exact TokPost16.err (show (5 : Int) ≠ 0 by decide) rfl (Ext.refl _)
  · rw [if_neg h] at hr
    exact tok16_x s (by omega) res hr w
end Go.Proofs.Ytoaaklcbcbjaiaa

namespace Go.Proofs.Ytoaaklcbcbjaiaa
open Go.RowKit
attribute [go_sem] more_more Array.size_append
set_option maxHeartbeats 2000000 in
theorem rsource_any (s : ByteArray) (r : Except (Int × Int) (List Nd × Int)) (hr : sourceF s.data.toList = r) (w : World) : Calls Try.prog 21 #[.string s] w (ParsePost w r) := by
  obtain ⟨l, e, x, hx⟩ : ∃ l e x, lexF s.data.toList = (l, e, x) := ⟨_, _, _, rfl⟩
  unfold sourceF at hr
  have hlen := lexF_len s.data.toList
  rw [hx] at hr hlen
  dsimp only at hr hlen
  have T := Lib.hid (tok16 s _ hx)
  clear hx
  by_cases he : e = 0
  · subst he
    rw [if_pos rfl] at hr
    obtain ⟨h0, h1⟩ := hlen rfl
    have HR := Lib.hid hr
    have HL := Lib.hid (And.intro h0 h1)
    clear hr hlen h0 h1
    go_enter Try.func21, Try.ntmps21
    go_wp2_with fail
    go_at_call 25
    refine (T.out _).mono ?_
    rintro e w1 (⟨_, g, cap, he, hrow, hx⟩ | ⟨h2, _⟩)
    · dsimp only at he hrow
      subst he
      obtain ⟨d, os, rfl⟩ := hx
      have TA := Lib.hid (toks_at hrow rfl)
      clear hrow
      go_wp2_with fail
      go_at_call 17
      have P := rtokens_any (toksOf l) g 0 cap (by rw [toksOf_length]; exact HL.out.1) (by rw [toksOf_length]; have := HL.out.2; omega) _ TA.out _ HR.out
      rw [toksOf_length] at P
      refine P.mono ?_
      clear P
      rcases r with ⟨c1, a1⟩ | ⟨ns, f1⟩
      · rintro e w2 ⟨he, d2, os2, rfl⟩
        subst he
        go_wp2_with fail
        exact bodyPost_ret (v := .tuple #[.agg #[.slice none 0 0, .int .i64 0], .int .i64 c1, .int .i64 a1]) (by simp [results, Try.results21, go_sem]) rfl ⟨rfl, by repeat (first | exact Ext.refl _ | apply Ext.alloc | apply Ext.more)⟩
      · rintro e w2 ⟨nv, he, hrow2, hx2⟩
        obtain ⟨len, cc, pp, rfl⟩ : ∃ len cc pp, nv = .slice pp len cc := by
          rcases Go.Joins.ownsRow_forms hrow2 with ⟨rfl, h0⟩ | ⟨g1, c, rfl⟩
          · exact ⟨_, _, _, rfl⟩
          · exact ⟨_, _, _, rfl⟩
        have HROW := Lib.hid hrow2
        obtain ⟨d2, os2, rfl⟩ := hx2
        subst he
        clear hrow2
        go_wp2_with fail
        refine bodyPost_ret (v := .tuple #[.agg #[.slice pp len cc, .int .i64 f1], .int .i64 0, .int .i64 0]) (by simp [results, Try.results21, go_sem]) rfl ⟨.slice pp len cc, rfl, ?_, by repeat (first | exact Ext.refl _ | apply Ext.alloc | apply Ext.more)⟩
        exact (own_swap HROW.out (by simp only [more_size, World.size_alloc]; omega)).mono (by simp only [more_size, World.size_alloc]; omega)
    · exact absurd rfl h2
  · rw [if_neg he] at hr
    have he2 : (e != 0) = true := by simpa using he
    have HR := Lib.hid hr
    have HE := Lib.hid he
    clear hr hlen he
    go_enter Try.func21, Try.ntmps21
    go_wp2_with fail
    go_at_call 25
    refine (T.out _).mono ?_
    rintro e' w1 (⟨h0, _⟩ | ⟨_, he, hx⟩)
    · exact absurd h0 HE.out
    · dsimp only at he
      subst he
      obtain ⟨d, os, rfl⟩ := hx
      go_wp2_with fail
      have := HR.out
      subst this
      exact bodyPost_ret (v := .tuple #[.agg #[.slice none 0 0, .int .i64 0], .int .i64 e, .int .i64 (x : Int)]) (by simp [results, Try.results21, go_sem]) rfl ⟨rfl, by repeat (first | exact Ext.refl _ | apply Ext.alloc | apply Ext.more)⟩
end Go.Proofs.Ytoaaklcbcbjaiaa

namespace Go.Proofs.Ytoaaklcbcbjaiaa
open Go.RowKit
attribute [go_sem] more_more Array.size_append
theorem srblock_all {ns : List Nd} {nv : Value} (fi : Int) : ∀ f, RB nv fi ns f := by
  intro f
  induction f using Nat.strongRecOn with
  | _ f ih => exact srblock_of fi f ih
theorem own_swap1 {w : World} {o o' : Obj} {d2 : Nat} {os2 : Array Obj} {base : Nat} {e : TypeId} {size : Nat} {v : Value} {n : Nat} {xs : List Value} (h : (more (w.alloc o) d2 os2).ownsRow base e size v n xs) (hb : w.heap.size < base) : (more (w.alloc o') d2 os2).ownsRow base e size v n xs := by
  have h2 : (more (more (w.alloc o) 0 #[]) d2 os2).ownsRow base e size v n xs := by rw [more_more]; simpa using h
  simpa using own_swap (o' := o') h2 hb
set_option maxHeartbeats 2000000 in
theorem srprog_any (s : ByteArray) (ns : List Nd) (fi : Int) (hr : sourceF s.data.toList = .ok (ns, fi)) (w : World) : Calls Try.prog 40 #[.string s] w fun e w' => ∃ nv, e = .returned (.tuple #[.agg #[nv, .int .i64 fi], .int .i64 0]) ∧ w'.ownsRow w.heap.size 52 8 nv ns.length (ndCells ns) ∧ Ext w w' := by
  have S := Lib.hid (rsource_any s _ hr)
  clear hr
  go_enter Try.func40, Try.ntmps40
  go_wp2_with fail
  go_at_call 21
  refine (S.out _).mono ?_
  rintro e w1 ⟨nv, rfl, hrow, d1, os1, rfl⟩
  obtain ⟨p, c, hv⟩ := row_formO hrow
  subst hv
  have HR := Lib.hid hrow
  clear hrow
  go_wp2_with fail
  exact bodyPost_ret (v := .tuple #[.agg #[.slice p ns.length c, .int .i64 fi], .int .i64 0]) (by simp [results, Try.results40, go_sem]) rfl ⟨_, rfl, ((own_swap1 HR.out (by rw [World.size_alloc]; omega)).mono (show w.heap.size ≤ _ from by rw [World.size_alloc]; omega)).alloc _, (by repeat (first | (with_reducible exact Ext.refl _) | (with_reducible apply Ext.alloc) | (with_reducible apply Ext.more) | (with_reducible apply Ext.drew)))⟩
set_option maxHeartbeats 2000000 in
theorem sof_any (s : ByteArray) (ns : List Nd) (fi : Int) (hr : sourceF s.data.toList = .ok (ns, fi)) (hz : ∀ z ∈ ns, z.s.size ≤ maxLen) (l : List Int) (m e a : Int) (hf : slotsF ns fi = (l, m, e, a)) (w : World) : Calls Try.prog 27 #[.string s] w fun r w' => ∃ v, r = .returned (.tuple #[v, .int .i64 m, .int .i64 e, .int .i64 a]) ∧ w'.ownsRow w.heap.size 3 1 v l.length (intL l) ∧ Ext w w' := by
  have P := Lib.hid (srprog_any s ns fi hr)
  have SL := Lib.hid (fun W nv base (h : World.ownsRow W base 52 8 nv ns.length (ndCells ns)) => slots_any fi W h rfl hz l m e a hf)
  clear hr hz hf
  go_enter Try.func27, Try.ntmps27
  go_wp2_with fail
  go_at_call 40
  refine (P.out _).mono ?_
  rintro e' w1 ⟨nv, rfl, hrow, hx⟩
  obtain ⟨p, c, hv⟩ := row_formO hrow
  subst hv
  have HR := Lib.hid hrow
  have HX := Lib.hid hx
  clear hrow hx
  go_wp2_with fail
  go_at_call 11
  refine (SL.out _ _ _ (HR.out.alloc _)).mono ?_
  rintro e' w2 ⟨v, rfl, hrow, hx⟩
  obtain ⟨p2, c2, hv⟩ := row_formO hrow
  subst hv
  have HR2 := Lib.hid hrow
  have HX2 := Lib.hid (HX.out.trans (Ext.trans ((Ext.refl w1).alloc _) hx))
  have HSZ := Lib.hid (show w.heap.size ≤ w1.heap.size from HX.out.size)
  clear hrow hx
  go_wp2_with fail
  exact bodyPost_ret (v := .tuple #[.slice p2 l.length c2, .int .i64 m, .int .i64 e, .int .i64 a]) (by simp [results, Try.results27, go_sem]) rfl ⟨_, rfl, HR2.out.mono (by simp; have := HSZ.out; omega), HX2.out⟩
theorem scx1 : sourceF [108, 101, 116, 32, 120, 32, 61, 32, 49, 59, 32, 108, 101, 116, 32, 121, 32, 61, 32, 120, 59] = .ok ([⟨2, (-1), (-1), (-1), (-1), 1, ⟨#[]⟩, ⟨#[]⟩⟩, ⟨20, 0, (-1), (-1), 3, 0, ⟨#[120]⟩, ⟨#[]⟩⟩, ⟨4, (-1), (-1), (-1), (-1), 0, ⟨#[120]⟩, ⟨#[]⟩⟩, ⟨20, 2, (-1), (-1), (-1), 0, ⟨#[121]⟩, ⟨#[]⟩⟩], 1) := by kernel_rfl
theorem scs1 : slotsF [⟨2, (-1), (-1), (-1), (-1), 1, ⟨#[]⟩, ⟨#[]⟩⟩, ⟨20, 0, (-1), (-1), 3, 0, ⟨#[120]⟩, ⟨#[]⟩⟩, ⟨4, (-1), (-1), (-1), (-1), 0, ⟨#[120]⟩, ⟨#[]⟩⟩, ⟨20, 2, (-1), (-1), (-1), 0, ⟨#[121]⟩, ⟨#[]⟩⟩] 1 = ([-1, 0, 0, 1], 2, 0, -1) := by kernel_rfl
theorem scz1 : ∀ z ∈ ([⟨2, (-1), (-1), (-1), (-1), 1, ⟨#[]⟩, ⟨#[]⟩⟩, ⟨20, 0, (-1), (-1), 3, 0, ⟨#[120]⟩, ⟨#[]⟩⟩, ⟨4, (-1), (-1), (-1), (-1), 0, ⟨#[120]⟩, ⟨#[]⟩⟩, ⟨20, 2, (-1), (-1), (-1), 0, ⟨#[121]⟩, ⟨#[]⟩⟩] : List Nd), z.s.size ≤ maxLen := by
  intro z hz
  have h : ([⟨2, (-1), (-1), (-1), (-1), 1, ⟨#[]⟩, ⟨#[]⟩⟩, ⟨20, 0, (-1), (-1), 3, 0, ⟨#[120]⟩, ⟨#[]⟩⟩, ⟨4, (-1), (-1), (-1), (-1), 0, ⟨#[120]⟩, ⟨#[]⟩⟩, ⟨20, 2, (-1), (-1), (-1), 0, ⟨#[121]⟩, ⟨#[]⟩⟩] : List Nd).all (fun z => decide (z.s.size ≤ 100)) = true := by kernel_rfl
  have := List.all_eq_true.1 h z hz
  simp at this
  unfold maxLen; omega
theorem scx2 : sourceF [108, 101, 116, 32, 120, 32, 61, 32, 120, 59] = .ok ([⟨4, (-1), (-1), (-1), (-1), 0, ⟨#[120]⟩, ⟨#[]⟩⟩, ⟨20, 0, (-1), (-1), (-1), 0, ⟨#[120]⟩, ⟨#[]⟩⟩], 1) := by kernel_rfl
theorem scs2 : slotsF [⟨4, (-1), (-1), (-1), (-1), 0, ⟨#[120]⟩, ⟨#[]⟩⟩, ⟨20, 0, (-1), (-1), (-1), 0, ⟨#[120]⟩, ⟨#[]⟩⟩] 1 = ([], 0, 15, 0) := by kernel_rfl
theorem scz2 : ∀ z ∈ ([⟨4, (-1), (-1), (-1), (-1), 0, ⟨#[120]⟩, ⟨#[]⟩⟩, ⟨20, 0, (-1), (-1), (-1), 0, ⟨#[120]⟩, ⟨#[]⟩⟩] : List Nd), z.s.size ≤ maxLen := by
  intro z hz
  have h : ([⟨4, (-1), (-1), (-1), (-1), 0, ⟨#[120]⟩, ⟨#[]⟩⟩, ⟨20, 0, (-1), (-1), (-1), 0, ⟨#[120]⟩, ⟨#[]⟩⟩] : List Nd).all (fun z => decide (z.s.size ≤ 100)) = true := by kernel_rfl
  have := List.all_eq_true.1 h z hz
  simp at this
  unfold maxLen; omega
theorem scx3 : sourceF [114, 101, 112, 101, 97, 116, 32, 49, 32, 123, 32, 108, 101, 116, 32, 120, 32, 61, 32, 49, 59, 32, 125, 32, 108, 101, 116, 32, 120, 32, 61, 32, 50, 59] = .ok ([⟨2, (-1), (-1), (-1), (-1), 1, ⟨#[]⟩, ⟨#[]⟩⟩, ⟨20, 0, (-1), (-1), (-1), 0, ⟨#[120]⟩, ⟨#[]⟩⟩, ⟨26, (-1), 1, (-1), 4, 1, ⟨#[]⟩, ⟨#[]⟩⟩, ⟨2, (-1), (-1), (-1), (-1), 2, ⟨#[]⟩, ⟨#[]⟩⟩, ⟨20, 3, (-1), (-1), (-1), 0, ⟨#[120]⟩, ⟨#[]⟩⟩], 2) := by kernel_rfl
theorem scs3 : slotsF [⟨2, (-1), (-1), (-1), (-1), 1, ⟨#[]⟩, ⟨#[]⟩⟩, ⟨20, 0, (-1), (-1), (-1), 0, ⟨#[120]⟩, ⟨#[]⟩⟩, ⟨26, (-1), 1, (-1), 4, 1, ⟨#[]⟩, ⟨#[]⟩⟩, ⟨2, (-1), (-1), (-1), (-1), 2, ⟨#[]⟩, ⟨#[]⟩⟩, ⟨20, 3, (-1), (-1), (-1), 0, ⟨#[120]⟩, ⟨#[]⟩⟩] 2 = ([-1, 0, -1, -1, 0], 1, 0, -1) := by kernel_rfl
theorem scz3 : ∀ z ∈ ([⟨2, (-1), (-1), (-1), (-1), 1, ⟨#[]⟩, ⟨#[]⟩⟩, ⟨20, 0, (-1), (-1), (-1), 0, ⟨#[120]⟩, ⟨#[]⟩⟩, ⟨26, (-1), 1, (-1), 4, 1, ⟨#[]⟩, ⟨#[]⟩⟩, ⟨2, (-1), (-1), (-1), (-1), 2, ⟨#[]⟩, ⟨#[]⟩⟩, ⟨20, 3, (-1), (-1), (-1), 0, ⟨#[120]⟩, ⟨#[]⟩⟩] : List Nd), z.s.size ≤ maxLen := by
  intro z hz
  have h : ([⟨2, (-1), (-1), (-1), (-1), 1, ⟨#[]⟩, ⟨#[]⟩⟩, ⟨20, 0, (-1), (-1), (-1), 0, ⟨#[120]⟩, ⟨#[]⟩⟩, ⟨26, (-1), 1, (-1), 4, 1, ⟨#[]⟩, ⟨#[]⟩⟩, ⟨2, (-1), (-1), (-1), (-1), 2, ⟨#[]⟩, ⟨#[]⟩⟩, ⟨20, 3, (-1), (-1), (-1), 0, ⟨#[120]⟩, ⟨#[]⟩⟩] : List Nd).all (fun z => decide (z.s.size ≤ 100)) = true := by kernel_rfl
  have := List.all_eq_true.1 h z hz
  simp at this
  unfold maxLen; omega
set_option maxHeartbeats 4000000 in
set_option maxRecDepth 20000 in
theorem sawake_any (w : World) : Calls Try.prog 12 #[] w fun e w' => e = .returned (.bool true) ∧ Ext w w' := by
  have P1 := Lib.hid (sof_any ⟨#[108, 101, 116, 32, 120, 32, 61, 32, 49, 59, 32, 108, 101, 116, 32, 121, 32, 61, 32, 120, 59]⟩ _ _ scx1 scz1 _ _ _ _ scs1)
  have P2 := Lib.hid (sof_any ⟨#[108, 101, 116, 32, 120, 32, 61, 32, 120, 59]⟩ _ _ scx2 scz2 _ _ _ _ scs2)
  have P3 := Lib.hid (sof_any ⟨#[114, 101, 112, 101, 97, 116, 32, 49, 32, 123, 32, 108, 101, 116, 32, 120, 32, 61, 32, 49, 59, 32, 125, 32, 108, 101, 116, 32, 120, 32, 61, 32, 50, 59]⟩ _ _ scx3 scz3 _ _ _ _ scs3)
  go_enter Try.func12, Try.ntmps12
  go_wp2_with fail
  go_at_call 27
  refine (P1.out w).mono ?_
  rintro e w1 ⟨v1, rfl, hrow1, hx1⟩
  obtain ⟨g1, cap1, rfl, _, _⟩ := hrow1.form (by decide)
  have hc1 : ∀ i v, (intL [-1, 0, 0, 1])[i]? = some v → w1.cell? ⟨g1, i, none⟩ = some v := fun i v hi => by
    have := hrow1.cells (g := g1) rfl i v hi
    rwa [Addr.add_lit, Nat.zero_add] at this
  have hg1 := (hrow1.lt g1 rfl).2
  have HX1 := Lib.hid hx1
  have HC1 := Lib.hid hc1
  have HG1 := Lib.hid hg1
  clear hrow1 hx1 hc1
  go_wp2_with fail
  go_at_call 27
  refine (P2.out w1).mono ?_
  rintro e w2 ⟨v2, rfl, hrow2, hx2⟩
  obtain ⟨p2, c2, hv2⟩ := row_formO hrow2
  subst hv2
  have HX2 := Lib.hid hx2
  clear hrow2 hx2 hg1
  go_wp2_with fail
  go_at_call 27
  refine (P3.out w2).mono ?_
  rintro e w3 ⟨v3, rfl, hrow3, hx3⟩
  obtain ⟨g3, cap3, rfl, _, _⟩ := hrow3.form (by decide)
  have hc3 : ∀ i v, (intL [-1, 0, -1, -1, 0])[i]? = some v → w3.cell? ⟨g3, i, none⟩ = some v := fun i v hi => by
    have := hrow3.cells (g := g3) rfl i v hi
    rwa [Addr.add_lit, Nat.zero_add] at this
  have hx13 := HX2.out.trans hx3
  have e1 := fun i v h => (World.cell?_of_block (w := w1) (w' := w3) (a := ⟨g1, i, none⟩) (hx13.below.block g1 HG1.out)).trans (HC1.out i v h)
  have q1 := e1 1 _ rfl
  have q2 := e1 2 _ rfl
  have q3 := e1 3 _ rfl
  have r1 := hc3 1 _ rfl
  have r4 := hc3 4 _ rfl
  have HX3 := Lib.hid (HX1.out.trans hx13)
  clear hrow3 hx3 hc3 e1 hx13
  go_wp2_with fail
  go_ret
  exact ⟨rfl, HX3.out⟩
end Go.Proofs.Ytoaaklcbcbjaiaa

namespace Go.Proofs.Ytoaaklcbcbjaiaa
open Go.RowKit
attribute [go_sem] more_more Array.size_append
theorem ext_drewN (w : World) (n : Nat) : Ext w (w.drewN n) := ⟨w.drawn + n, #[], by simp [more, World.drewN]⟩
theorem stCells_get : ∀ (l : List (Stp × Value)) (j : Nat) (q : Stp × Value), l[j]? = some q → (stCells l)[j * 4]? = some (.int .i64 (q.1.nd : Int)) ∧ (stCells l)[j * 4 + 1]? = some (.bool q.1.mkx) ∧ (stCells l)[j * 4 + 2]? = some (.string q.1.nm) ∧ (stCells l)[j * 4 + 3]? = some q.2
  | [], j, q, h => by simp at h
  | x :: l, 0, q, h => by
    simp at h
    subst h
    exact ⟨rfl, rfl, rfl, rfl⟩
  | x :: l, j + 1, q, h => by
    have h' : l[j]? = some q := by simpa using h
    obtain ⟨h0, h1, h2, h3⟩ := stCells_get l j q h'
    have e : ∀ i, (stCells (x :: l))[i + 4]? = (stCells l)[i]? := fun i => rfl
    refine ⟨?_, ?_, ?_, ?_⟩
    · rw [show (j + 1) * 4 = j * 4 + 4 from by omega, e]; exact h0
    · rw [show (j + 1) * 4 + 1 = (j * 4 + 1) + 4 from by omega, e]; exact h1
    · rw [show (j + 1) * 4 + 2 = (j * 4 + 2) + 4 from by omega, e]; exact h2
    · rw [show (j + 1) * 4 + 3 = (j * 4 + 3) + 4 from by omega, e]; exact h3
theorem nd_unlike {l : List ByteArray} (h : l.Nodup) {a b : Nat} (hab : a < b) (hb : b < l.length) : ((l.getD a ByteArray.empty).toList == (l.getD b ByteArray.empty).toList) = false := by
  rw [List.getD_eq_getElem?_getD, List.getD_eq_getElem?_getD, List.getElem?_eq_getElem (by omega : a < l.length), List.getElem?_eq_getElem hb]
  have hp := (List.pairwise_iff_getElem.1 h) a b (by omega) hb hab
  rw [Bool.eq_false_iff]
  intro e
  have e2 : (l[a]'(by omega)).toList = (l[b]'hb).toList := by simpa using e
  rw [Lib.toList_data, Lib.toList_data] at e2
  exact hp (ByteArray.ext (Array.toList_inj.1 e2))
theorem slotsF_err {ns : List Nd} {fi m e a : Int} {l : List Int} (h : slotsF ns fi = (l, m, e, a)) (he : e ≠ 0) : l = [] ∧ m = 0 := by
  unfold slotsF at h
  split at h
  · split at h
    · split at h
      · simp only [Prod.mk.injEq] at h; exact absurd h.2.2.1.symm he
      · simp only [Prod.mk.injEq] at h; exact ⟨h.1.symm, h.2.1.symm⟩
    · simp only [Prod.mk.injEq] at h; exact ⟨h.1.symm, h.2.1.symm⟩
  · simp only [Prod.mk.injEq] at h; exact ⟨h.1.symm, h.2.1.symm⟩
theorem slotsF_ok {ns : List Nd} {fi m a : Int} {l : List Int} (h : slotsF ns fi = (l, m, 0, a)) : mayB ns fi = true ∧ a = -1 ∧ l.length = ns.length ∧ ns.length ≤ 512 ∧ 0 ≤ m ∧ m ≤ 32 ∧ ∃ R, blockS (blkS ns ns.length) fi (-1) [] (Sc.start ns.length) = some R ∧ R.free = [] ∧ R.slots = l ∧ R.most = m ∧ ∀ x ∈ stepsB ns ns.length fi [], Good R x := by
  unfold slotsF at h
  split at h
  · rename_i hm
    obtain ⟨R, hR, h1, h2, h3⟩ := walk_law hm
    rw [hR] at h
    dsimp only at h
    split at h
    · rename_i he
      simp only [Prod.mk.injEq] at h
      obtain ⟨rfl, rfl, _, rfl⟩ := h
      obtain ⟨q1, q2, q3, q4⟩ := h3 he
      exact ⟨hm, rfl, h1, by omega, q2, q3, R, hR, q1, rfl, rfl, q4⟩
    · rename_i he
      simp only [Prod.mk.injEq] at h
      exact absurd h.2.2.1 he
  · simp only [Prod.mk.injEq] at h
    exact absurd h.2.2.1 (by decide)
theorem fewN_small (ns : List Nd) : ∀ z ∈ fewN ns, z.s.size ≤ maxLen := by
  intro z hz
  have hz2 := List.mem_of_mem_take hz
  obtain ⟨y, _, rfl⟩ := List.mem_map.1 hz2
  have := cut100_le y.s
  show (cut100 y.s).size ≤ maxLen
  unfold maxLen; omega
set_option maxHeartbeats 8000000 in
set_option maxRecDepth 20000 in
theorem swhole_err (w : World) (p1 : Option Addr) (n c1 : Nat) (ns : List Nd) (fi : Int) (hr : NdsIn w p1 n c1 ns) (l : List Int) (m e a : Int) (hf : slotsF (fewN ns) fi = (l, m, e, a)) (he : e ≠ 0) :
    Calls Try.prog 3 #[.agg #[.slice p1 n c1, .int .i64 fi]] w fun e w' => e = .returned (.bool true) ∧ Ext w w' := by
  obtain ⟨rfl, rfl⟩ := slotsF_err hf he
  have FW := Lib.hid (fun W' (hx : Ext w W') => fewn_any fi W' (hr.ext hx))
  have SL := Lib.hid (fun W nv base (h : World.ownsRow W base 52 8 nv (fewN ns).length (ndCells (fewN ns))) => slots_any fi W h rfl (fewN_small ns) [] 0 e a hf)
  have he2 : (e != 0) = true := by simpa using he
  clear hr hf he
  go_enter Try.func3, Try.ntmps3
  go_wp2_with fail
  go_at_call 10
  refine (FW.out _ (by repeat (first | (with_reducible exact Ext.refl _) | (with_reducible apply Ext.alloc) | (with_reducible apply Ext.more) | (with_reducible apply Ext.drew)))).mono ?_
  rintro e' w1 ⟨nv, rfl, hrow, hx⟩
  obtain ⟨p2, c2, hv⟩ := row_formO hrow
  subst hv
  obtain ⟨n2, hn2⟩ : ∃ n2, (fewN ns).length = n2 := ⟨_, rfl⟩
  have KX := Lib.hid ((KB.new w #[.slice p1 n c1, .int .i64 fi] 24).of_ext hx)
  have lk := KX.out.lt
  have k0f := KX.out.frozen 0
  have k1f := KX.out.frozen 1
  have k0c := KX.out.cell 0 _ rfl
  have k1c := KX.out.cell 1 _ rfl
  have HR := Lib.hid (show (w1.setCell ⟨w.heap.size, 0, none⟩ (.slice p2 (fewN ns).length c2)).ownsRow 0 52 8 (.slice p2 (fewN ns).length c2) (fewN ns).length (ndCells (fewN ns)) from own_block hrow fun k hk _ => heap_set_other _ _ _ _ _ (fun e => own_kb_apart hrow KX.out (by decide) (by rw [← e]; exact hk)))
  have HX := Lib.hid (show Ext w (w1.setCell ⟨w.heap.size, 0, none⟩ (.slice p2 (fewN ns).length c2)) from (((Ext.refl w).alloc _).trans hx).setCell (Nat.le_refl _) _)
  have KX1 := Lib.hid (KX.out.setAt 0 (.slice p2 (fewN ns).length c2) (by simp))
  have HN2 := Lib.hid hn2
  rw [hn2] at HR SL HX KX1 ⊢
  clear hrow hx hn2
  go_wp2_with fail
  generalize hW1 : w1.setCell ⟨w.heap.size, 0, none⟩ (.slice p2 n2 c2) = W1 at *
  clear lk k0f k1f k0c k1c KX
  have lk := KX1.out.lt
  have k0c := KX1.out.cell 0 (.slice p2 n2 c2) rfl
  have k1c := KX1.out.cell 1 (.int .i64 fi) rfl
  clear hW1
  go_wp2_with (first
    | (go_at_call 11; (with_reducible refine (SL.out _ _ _ HR.out).mono ?_); rintro e' w2 ⟨v, rfl, hrow, hx⟩; obtain ⟨p3, c3, hv⟩ := row_formO hrow; subst hv; have HX2 := Lib.hid (HX.out.trans hx); clear hrow hx)
    | (go_at_call 12; (with_reducible refine (sawake_any _).mono ?_); rintro e' _ ⟨rfl, d4, os4, rfl⟩))
  go_ret
  exact ⟨rfl, HX2.out.trans (by repeat (first | (with_reducible exact Ext.refl _) | (with_reducible apply Ext.alloc) | (with_reducible apply Ext.more) | (with_reducible apply Ext.drew)))⟩
/-- where the walk ends well -/
structure SOk (N : Nat) (l : List Int) (m : Int) (T : List Stp) : Prop where
  len : l.length = N ∧ N ≤ 512 ∧ 0 ≤ m ∧ m ≤ 32
  good : ∀ x ∈ T, x.nd < N ∧ 0 ≤ l.getD x.nd (-1) ∧ l.getD x.nd (-1) < m ∧ (x.sn.length : Int) ≤ m ∧ x.sn.Nodup
set_option maxHeartbeats 16000000 in
set_option maxRecDepth 20000 in
theorem swhole_ok (w : World) (p1 : Option Addr) (n c1 : Nat) (ns : List Nd) (fi : Int) (hr : NdsIn w p1 n c1 ns) (l : List Int) (m a : Int) (hf : slotsF (fewN ns) fi = (l, m, 0, a)) :
    Calls Try.prog 3 #[.agg #[.slice p1 n c1, .int .i64 fi]] w fun e w' => e = .returned (.bool true) ∧ Ext w w' := by
  obtain ⟨hmay, rfl, hl1, hl2, hm0, hm1, R, hR, hf0, hRl, hRm, hgd⟩ := slotsF_ok hf
  obtain ⟨tn, htn, htree⟩ := may_tree hmay
  have OK := Lib.hid (show SOk (fewN ns).length l m (stepsB (fewN ns) (fewN ns).length fi []) from ⟨⟨hl1, hl2, hm0, hm1⟩, fun x hx => by
    obtain ⟨⟨g1, g2, g3⟩, g4, g5⟩ := hgd x hx
    rw [hRl] at g1 g2 g3
    rw [hRm] at g3 g4
    exact ⟨by omega, g2, g3, g4, g5⟩⟩)
  have FW := Lib.hid (fun W' (hx : Ext w W') => fewn_any fi W' (hr.ext hx))
  have SL := Lib.hid (fun W nv base (h : World.ownsRow W base 52 8 nv (fewN ns).length (ndCells (fewN ns))) => slots_any fi W h rfl (fewN_small ns) l m 0 (-1) hf)
  have FR := Lib.hid (fun W nv base (h : World.ownsRow W base 52 8 nv (fewN ns).length (ndCells (fewN ns))) => free_any fi W h rfl (fewN_small ns) hmay R hR hf0)
  have BK := Lib.hid (fun W nv (h : World.ownsRow W 0 52 8 nv (fewN ns).length (ndCells (fewN ns))) => srblock_all (nv := nv) (ns := fewN ns) fi (fewN ns).length fi tn [] (.slice none 0 0) W htree htn (by omega) (by simp; omega) h (World.ownsRow_nil _ _ _ _))
  have hm32 : m ≤ 32 := hm1
  have TL := Lib.hid (show (stepsB (fewN ns) (fewN ns).length fi []).length ≤ 1024 from Nat.le_trans (stepsB_len _ _ _ tn [] htree) (by omega))
  obtain ⟨T, hT⟩ : ∃ T, stepsB (fewN ns) (fewN ns).length fi [] = T := ⟨_, rfl⟩
  rw [hT] at OK BK TL
  clear hr hf hmay hl1 hl2 hR hf0 hRl hRm hgd htn htree hT hm1
  go_enter Try.func3, Try.ntmps3
  go_wp2_with fail
  go_at_call 10
  refine (FW.out _ (by repeat (first | (with_reducible exact Ext.refl _) | (with_reducible apply Ext.alloc) | (with_reducible apply Ext.more) | (with_reducible apply Ext.drew)))).mono ?_
  rintro e' w1 ⟨nv, rfl, hrow, hx⟩
  obtain ⟨p2, c2, hv⟩ := row_formO hrow
  subst hv
  obtain ⟨n2, hn2⟩ : ∃ n2, (fewN ns).length = n2 := ⟨_, rfl⟩
  have KX := Lib.hid ((KB.new w #[.slice p1 n c1, .int .i64 fi] 24).of_ext hx)
  have lk := KX.out.lt
  have k0f := KX.out.frozen 0
  have k1f := KX.out.frozen 1
  have k0c := KX.out.cell 0 _ rfl
  have k1c := KX.out.cell 1 _ rfl
  have HR := Lib.hid (show (w1.setCell ⟨w.heap.size, 0, none⟩ (.slice p2 (fewN ns).length c2)).ownsRow 0 52 8 (.slice p2 (fewN ns).length c2) (fewN ns).length (ndCells (fewN ns)) from own_block hrow fun k hk _ => heap_set_other _ _ _ _ _ (fun e => own_kb_apart hrow KX.out (by decide) (by rw [← e]; exact hk)))
  have HX := Lib.hid (show Ext w (w1.setCell ⟨w.heap.size, 0, none⟩ (.slice p2 (fewN ns).length c2)) from (((Ext.refl w).alloc _).trans hx).setCell (Nat.le_refl _) _)
  have KX1 := Lib.hid (KX.out.setAt 0 (.slice p2 (fewN ns).length c2) (by simp))
  have HN2 := Lib.hid hn2
  rw [hn2] at HR SL FR BK OK HX KX1 ⊢
  clear hrow hx hn2
  go_wp2_with fail
  generalize hW1 : w1.setCell ⟨w.heap.size, 0, none⟩ (.slice p2 n2 c2) = W1 at *
  clear lk k0f k1f k0c k1c KX
  have lk := KX1.out.lt
  have k0c := KX1.out.cell 0 (.slice p2 n2 c2) rfl
  have k1c := KX1.out.cell 1 (.int .i64 fi) rfl
  clear hW1
  have hll : l.length = n2 := OK.out.len.1
  go_wp2_with (first
    | (go_at_call 11; (with_reducible refine (SL.out _ _ _ HR.out).mono ?_); rintro e' w2 ⟨v, rfl, hrow, hx⟩; obtain ⟨p3, c3, hv⟩ := row_formO hrow; subst hv; rw [hll] at hrow ⊢; have HL2 := Lib.hid hrow; have HX12 := Lib.hid hx; have KX2 := Lib.hid (KX1.out.of_ext hx); have lk2 := KX2.out.lt; have k02 := KX2.out.cell 0 (.slice p2 n2 c2) rfl; have k12 := KX2.out.cell 1 (.int .i64 fi) rfl; clear hrow hx)
    | (go_at_call 13; (with_reducible refine (FR.out _ _ _ (own_ext HR.out HX12.out)).mono ?_); rintro e' w3 ⟨p4, c4, rfl, hx⟩; have HX13 := Lib.hid (HX12.out.trans hx); have HL3 := Lib.hid (own_ext HL2.out hx); have KX3 := Lib.hid (KX2.out.of_ext hx); have lk3 := KX3.out.lt; have k03 := KX3.out.cell 0 (.slice p2 n2 c2) rfl; have k13 := KX3.out.cell 1 (.int .i64 fi) rfl; clear hx)
    | (go_at_call 14; (with_reducible refine (BK.out _ _ (own_ext HR.out HX13.out)).mono ?_); rintro e' w4 ⟨v9, rfl, hst, hx⟩; have HX14 := Lib.hid (HX13.out.trans hx); have HL4 := Lib.hid (own_ext HL3.out hx); have ST := Lib.hid hst; clear hst hx))
  obtain ⟨vs, hvs, hvo, hvr⟩ := ST.out
  obtain ⟨p9, c9, hv9⟩ := row_formO hvo
  subst hv9
  obtain ⟨tl, htl⟩ : ∃ tl, T.length = tl := ⟨_, rfl⟩
  have HTL := Lib.hid htl
  rw [htl] at hvo TL ⊢
  have HVO := Lib.hid hvo
  have HVR := Lib.hid hvr
  have HVS := Lib.hid hvs
  have tli : (tl : Int) ≤ 1024 := by have := TL.out; omega
  clear hvs hvo hvr htl ST KX3 lk3 k03 k13 KX2 lk2 k02 k12 lk k0c k1c
  go_loopw [10] (fun y wr => ∃ k : Nat, y = .int .i64 (k : Int) ∧ k ≤ tl ∧ Ext w4 wr) (fun y _ => tl - (intOf y).toNat)
  case atStart => exact ⟨0, rfl, Nat.zero_le _, Ext.refl _⟩
  case round =>
    obtain ⟨k, rfl, hk, hxr⟩ := hrel
    have HXR := Lib.hid hxr
    have hk0 : 0 ≤ (k : Int) := by omega
    clear hxr
    by_cases hlt : k < tl
    · have hvl : vs.length = tl := by have := congrArg List.length HVS.out; rw [List.length_map, HTL.out] at this; exact this
      obtain ⟨q, hq⟩ : ∃ q, vs[k]? = some q := ⟨_, List.getElem?_eq_getElem (by omega)⟩
      have hqm := List.mem_of_getElem? hq
      obtain ⟨⟨xn, xm, xs, xl⟩, xv⟩ := q
      have hin : (⟨xn, xm, xs, xl⟩ : Stp) ∈ T := by rw [← HVS.out]; exact List.mem_map.2 ⟨_, hqm, rfl⟩
      obtain ⟨b1, b2, b3, b4, b5⟩ := OK.out.good _ hin
      dsimp only at b1 b2 b3 b4 b5
      obtain ⟨g9, rfl⟩ : ∃ g9, p9 = some ⟨g9, 0, none⟩ := by
        rcases Go.Joins.ownsRow_forms HVO.out with ⟨_, h0⟩ | ⟨g1, c1, h0⟩
        · omega
        · simp only [Value.slice.injEq] at h0; exact ⟨g1, h0.1⟩
      obtain ⟨g3, rfl⟩ : ∃ g3, p3 = some ⟨g3, 0, none⟩ := by
        rcases Go.Joins.ownsRow_forms HL4.out with ⟨_, h0⟩ | ⟨g1, c1, h0⟩
        · omega
        · simp only [Value.slice.injEq] at h0; exact ⟨g1, h0.1⟩
      have hrow9 := own_ext HVO.out HXR.out
      have hc9 := hrow9.cells (g := g9) rfl
      obtain ⟨s0, s1, s2, s3⟩ := stCells_get vs k _ hq
      have d0 := hc9 _ _ s0
      have d1 := hc9 _ _ s1
      have d2 := hc9 _ _ s2
      have d3 := hc9 _ _ s3
      rw [Addr.add_lit, Nat.zero_add] at d0 d1 d2 d3
      dsimp only at d0 d1 d2 d3
      have hg9 := (hrow9.lt g9 rfl).2
      have hsr := own_ext (HVR.out _ hqm) HXR.out
      dsimp only at hsr
      obtain ⟨px, cx, hxv⟩ := row_formO hsr
      subst hxv
      obtain ⟨xk, hxk⟩ : ∃ xk, xl.length = xk := ⟨_, rfl⟩
      have HXK := Lib.hid hxk
      rw [hxk] at hsr b4 d3
      have HSR := Lib.hid hsr
      have hrow3 := own_ext HL4.out HXR.out
      have e0 := hrow3.cells (g := g3) rfl xn _ (intL_get l xn (by have := OK.out.len.1; omega))
      rw [Addr.add_lit, Nat.zero_add] at e0
      have hg3 := (hrow3.lt g3 rfl).2
      have hgd0 : l.getD xn 0 = l.getD xn (-1) := by rw [List.getD_eq_getElem?_getD, List.getD_eq_getElem?_getD, List.getElem?_eq_getElem (by have := OK.out.len.1; omega)]; rfl
      rw [hgd0] at e0
      obtain ⟨y, hy⟩ : ∃ y, l.getD xn (-1) = y := ⟨_, rfl⟩
      rw [hy] at e0 b2 b3
      have hxn0 : 0 ≤ (xn : Int) := by omega
      have hxn1 : (xn : Int) < (n2 : Int) := by omega
      have hki : (k : Int) < (tl : Int) := by omega
      have HB5 := Lib.hid b5
      have HLT := Lib.hid hlt
      clear hvl hq hqm hin b1 b5 hrow9 hc9 s0 s1 s2 s3 hsr hxk hrow3 hgd0 hy hlt
      go_wp2_with fail
      have KBX := Lib.hid (KB.new wr #[.int .i64 (xn : Int), .bool xm, .string xs, .slice px xk cx] 37)
      have HS5 := Lib.hid (HSR.out.alloc (.cells #[.int .i64 (xn : Int), .bool xm, .string xs, .slice px xk cx] 37 (0, 0)))
      have HX5 := Lib.hid (HXR.out.alloc (.cells #[.int .i64 (xn : Int), .bool xm, .string xs, .slice px xk cx] 37 (0, 0)))
      generalize hkx : wr.heap.size = kx at *
      generalize hW5 : wr.alloc (.cells #[.int .i64 (xn : Int), .bool xm, .string xs, .slice px xk cx] 37) = W5 at *
      clear hkx hW5 d0 d1 d2 d3 e0 hg9 hg3 HSR
      have xki : (xk : Int) ≤ 32 := by omega
      go_loopw [12] (fun y wr => ∃ ia : Nat, y = .int .i64 (ia : Int) ∧ ia ≤ xk ∧ Ext W5 wr) (fun y _ => xk - (intOf y).toNat)
      case atStart => exact ⟨0, rfl, Nat.zero_le _, Ext.refl _⟩
      case round =>
        obtain ⟨ia, rfl, hia, hx6⟩ := hrel
        have HX6 := Lib.hid hx6
        have KX6 := Lib.hid (KBX.out.of_ext hx6)
        have f3 := KX6.out.cell 3 (.slice px xk cx) rfl
        have fl := KX6.out.lt
        have hia0 : 0 ≤ (ia : Int) := by omega
        clear hx6
        by_cases hla : ia < xk
        · have hla2 : (ia : Int) < (xk : Int) := by omega
          have HLA := Lib.hid hla
          go_wp2_with fail
          obtain ⟨W6, rfl⟩ : ∃ W6 : World, W6 = wr := ⟨_, rfl⟩
          go_loopw [13] (fun y wr => ∃ ib : Nat, y = .int .i64 (ib : Int) ∧ ia < ib ∧ ib ≤ xk ∧ Ext W6 wr) (fun y _ => xk - (intOf y).toNat)
          case atStart => exact ⟨ia + 1, by go_num, by omega, by have := HLA.out; omega, Ext.refl _⟩
          case round =>
            obtain ⟨ib, rfl, hib1, hib, hx7⟩ := hrel
            have HX7 := Lib.hid hx7
            have KX7 := Lib.hid (KX6.out.of_ext hx7)
            have j3 := KX7.out.cell 3 (.slice px xk cx) rfl
            have jl := KX7.out.lt
            have hib0 : 0 ≤ (ib : Int) := by omega
            by_cases hlb : ib < xk
            · have hlb2 : (ib : Int) < (xk : Int) := by omega
              obtain ⟨gx, rfl⟩ : ∃ gx, px = some ⟨gx, 0, none⟩ := by
                rcases Go.Joins.ownsRow_forms HS5.out with ⟨_, h0⟩ | ⟨g1, c1, h0⟩
                · omega
                · simp only [Value.slice.injEq] at h0; exact ⟨g1, h0.1⟩
              have hrx := own_ext HS5.out (HX6.out.trans hx7)
              have ra := hrx.cells (g := gx) rfl ia _ (strV_get xl ia (by rw [HXK.out]; exact HLA.out))
              have rb := hrx.cells (g := gx) rfl ib _ (strV_get xl ib (by rw [HXK.out]; exact hlb))
              rw [Addr.add_lit, Nat.zero_add] at ra rb
              have rg := (hrx.lt gx rfl).2
              have hne := nd_unlike HB5.out hib1 (show ib < xl.length from by rw [HXK.out]; exact hlb)
              obtain ⟨sa, hsa⟩ : ∃ sa, xl.getD ia ByteArray.empty = sa := ⟨_, rfl⟩
              obtain ⟨sb, hsb⟩ : ∃ sb, xl.getD ib ByteArray.empty = sb := ⟨_, rfl⟩
              rw [hsa] at ra hne
              rw [hsb] at rb hne
              have HLB := Lib.hid (And.intro hlb hib1)
              clear hx7 hrx hsa hsb hlb hib1
              go_wp2_with fail
              go_quiet (fail)
              go_wp2_with fail
              go_roundw
              case rel => exact ⟨ib + 1, by go_num, by have := HLB.out; omega, by have := HLB.out; omega, HX7.out.trans (ext_drewN _ _)⟩
              case measure => have := HLB.out; simp [intOf]; omega
            · have hie : ib = xk := by omega
              subst hie
              clear hlb hib hib1 hx7
              go_wp2_with fail
              go_roundw
              case rel => exact ⟨ia + 1, by go_num, by have := HLA.out; omega, HX6.out.trans HX7.out⟩
              case measure => have := HLA.out; simp [intOf]; omega
        · have hie : ia = xk := by omega
          subst hie
          have HLT2 := Lib.hid HLT.out
          clear hla hia
          go_wp2_with fail
          go_roundw
          case rel => exact ⟨k + 1, by go_num, by have := HLT.out; omega, HX5.out.trans HX6.out⟩
          case measure => have := HLT.out; simp [intOf]; omega
    · have hke : k = tl := by omega
      subst hke
      clear hlt hk
      go_wp2_with (go_at_call 12; (with_reducible refine (sawake_any _).mono ?_); rintro e' _ ⟨rfl, d4, os4, rfl⟩)
      go_ret
      exact ⟨rfl, HX.out.trans (HX14.out.trans (HXR.out.trans (by repeat (first | (with_reducible exact Ext.refl _) | (with_reducible apply Ext.alloc) | (with_reducible apply Ext.more) | (with_reducible apply Ext.drew)))))⟩
theorem swhole_walk (w : World) (p1 : Option Addr) (n c1 : Nat) (ns : List Nd) (fi : Int) (hr : NdsIn w p1 n c1 ns) :
    Calls Try.prog 3 #[.agg #[.slice p1 n c1, .int .i64 fi]] w fun e w' => e = .returned (.bool true) ∧ Ext w w' := by
  obtain ⟨l, m, e, a, h⟩ : ∃ l m e a, slotsF (fewN ns) fi = (l, m, e, a) := ⟨_, _, _, _, rfl⟩
  by_cases he : e = 0
  · subst he
    exact swhole_ok w p1 n c1 ns fi hr l m a h
  · exact swhole_err w p1 n c1 ns fi hr l m e a h he
namespace ScopeWholeRow
/-! ### The row -/
section
open Go.ChangeShapes Go.WideShapes Go.ChangeAt Go.RowKit Go.Joins
open Go.ChangeMaps (open_string shut_string)
theorem own : ownKnob Try.prog.godebug = none := by kernel_rfl
theorem laid : laidOutB Try.prog = true := by kernel_rfl
theorem progCells : Try.prog.cellsOf 24 = 2 := by kernel_rfl
set_option maxRecDepth 100000 in
theorem lifted (os : Os) (started : os.Started) (H : Type) (enc : TypeId × Value → H) :
    ReturnsInHanded {} Try.checked os 3 .any (Rows.scopeWholeSpec.pre6 enc Try.prog Try.f3 Rows.scopeWholeRow.domain false) (Rows.scopeWholeSpec.post enc Try.prog Try.f3 false true false false) := by
  refine returnsInHanded_of_change_sized (C := Try.checked) own started (by kernel_rfl) Try.func3
    (ChangeSpec.witness6 (enc := enc) (C := Try.checked) false ⟨#[], #[.agg #[.slice none 0 0, .int .i64 0]], []⟩ 8 (by kernel_rfl) (by kernel_rfl) (by kernel_rfl) (by kernel_rfl)) ?_
  intro W base args ds gs before hval0 hW hcnd hsz0 _
  have hval : ∀ (j : Nat) t v, Try.f3.params[j]? = some t → args[j]? = some v → Value.okWide Try.prog W .any base t v := hval0
  have hW' := hW
  obtain ⟨p, q, hA0, hV, rfl, hfz, hnd⟩ := hW
  have hA : DataW.TrodAll enc Try.prog W 0 (fun _ => true) true Try.f3.params.toList args.toList ds p := hA0
  have hAk := hA
  have hpr : Try.f3.params.toList.all (fun t => Try.prog.readableRec t && decide (t < Try.prog.types.size)) = true := by kernel_rfl
  have hlt := hA.lt
  obtain ⟨rfl, rfl⟩ := trodVars_none hV
  have hsz : (DataW.weightsEach Try.prog (Try.f3.params.toList ++ []) (ds ++ [])).all (· ≤ reachBytes) = true := hsz0
  rw [Try.params3] at hA hval hsz
  simp only [List.append_nil] at hsz
  obtain ⟨v0, vs0, d0, ds0, p0, q0, hargs, rfl, rfl, h0, r0⟩ := trodAll_cons hA
  obtain ⟨rfl, rfl, rfl⟩ := trodAll_nil r0
  obtain rfl : args = #[v0] := by cases args; simp_all
  obtain ⟨c00, c01, y00, y01, m0, rfl, rfl, rfl, hy00, hy01⟩ := open_agg2 Try.underlying24 (by kernel_rfl) progCells (hval 0 24 v0 rfl rfl) h0
  obtain ⟨p_fi, e01, rfl, wp_fi⟩ := DataW.trod_int Try.underlying3 hy01
  obtain ⟨p_p, p_n, p_c, p_ns, e00, hp⟩ := open_nodesF hy00
  simp at e01
  subst e00 e01
  clear hA0 hval0 hsz0
  refine (swhole_walk W p_p p_n p_c p_ns p_fi hp).mono fun e W' ⟨he, hx⟩ => ?_
  subst he
  exact ⟨_, rfl, _, _, _, [], _, [], hW', trodAll_mk1 (shut_bool Try.underlying4 _), trodAll_below laid hx.below hpr hAk hlt, rfl, hx.below.frame _, fun h => by cases h⟩
theorem proved : Rows.ScopeWholeSaid :=
  OpenClaim.holds_of_wide 3 Try.f3 rfl rfl rfl rfl rfl rfl rfl ⟨rfl, rfl, rfl, rfl, rfl⟩ rfl rfl rfl rfl rfl (by kernel_rfl) Try.func3 (by kernel_rfl)
    (of_decide_eq_true (by kernel_rfl)) (by unfold Func.isWrapper; first | (rw [if_pos (by decide +kernel)]; kernel_rfl) | (rw [if_neg (by decide +kernel)]; exact ⟨rfl, rfl⟩))
    (fun os started H enc _ => lifted os started H enc)
end
#print axioms proved
end ScopeWholeRow
end Go.Proofs.Ytoaaklcbcbjaiaa
