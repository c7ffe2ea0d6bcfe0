/- Lemmas for the claim (texts Cut2, Cut3, Cut4, what its proof uses of them). -/
import Derived.Test.YtpchohjkelopoaaGreatDoorK03
set_option linter.unusedSimpArgs false
set_option linter.unusedVariables false
set_option maxRecDepth 20000
namespace Go.Proofs.YtpchohjkelopoaaGreatDoor
open Go.RowKit
theorem i64_xor_zero (a : Int) (h0 : 0 ≤ a) (h1 : a < 9223372036854775808) : bits BinOp.xor IntKind.i64 a 0 = a := by
  obtain ⟨n, rfl⟩ : ∃ n : Nat, a = n := ⟨a.toNat, by omega⟩
  show IntKind.i64.wrap ((BitVec.ofInt 64 (n : Int) ^^^ BitVec.ofInt 64 0).toNat : Int) = _
  have : (BitVec.ofInt 64 (n : Int) ^^^ BitVec.ofInt 64 0).toNat = n := by
    rw [show (BitVec.ofInt 64 0 : BitVec 64) = 0#64 from rfl, BitVec.xor_zero, ofInt_u64 n (by omega)]
  rw [this]
  simp [IntKind.wrap, IntKind.bits, IntKind.signed]; omega
theorem i64_xor_ones (a : Int) (h0 : 0 ≤ a) (h1 : a < 9223372036854775808) : bits BinOp.xor IntKind.i64 a (-1) = -a - 1 := by
  obtain ⟨n, rfl⟩ : ∃ n : Nat, a = n := ⟨a.toNat, by omega⟩
  show IntKind.i64.wrap ((BitVec.ofInt 64 (n : Int) ^^^ BitVec.ofInt 64 (-1)).toNat : Int) = _
  have : (BitVec.ofInt 64 (n : Int) ^^^ BitVec.ofInt 64 (-1)).toNat = 18446744073709551615 - n := by
    rw [show (BitVec.ofInt 64 (-1) : BitVec 64) = BitVec.allOnes 64 from rfl, BitVec.xor_allOnes, BitVec.toNat_not, ofInt_u64 n (by omega)]
  rw [this]
  simp [IntKind.wrap, IntKind.bits, IntKind.signed]; omega
theorem u64_and_one (v : Int) (h0 : 0 ≤ v) (h1 : v < 18446744073709551616) : bits BinOp.and IntKind.u64 v 1 = v % 2 := by
  rw [u64_and v 1 h0 h1 (by omega) (by omega)]
  have : (1 : Int).toNat = 1 := rfl
  rw [this, nat_mask1]; omega
def zagZ (v : Int) : Int := if v % 2 = 1 then -(v / 2) - 1 else v / 2
theorem zag_any (v : Int) (h0 : 0 ≤ v) (h1 : v < 18446744073709551616) (w : World) :
    Calls Tryz.prog 177 #[.int .u64 v] w fun e w' => e = .returned (.int .i64 (zagZ v)) ∧ Ext w w' := by
  have a1 := Lib.hid (u64_and_one v h0 h1)
  go_enter Tryz.func177, Tryz.ntmps177
  go_wp2
  go_ret
  refine ⟨ret_int ?_, Ext.refl _⟩
  show bits BinOp.xor IntKind.i64 (v / 2) (wrap64 (-wrap64 (bits BinOp.and IntKind.u64 v 1))) = _
  rw [a1.out]
  unfold wrap64
  unfold zagZ
  by_cases h : v % 2 = 1
  · rw [if_pos h, h]
    exact i64_xor_ones _ (by omega) (by omega)
  · rw [if_neg h, show v % 2 = 0 from by omega]
    exact i64_xor_zero _ (by omega) (by omega)
theorem valB_drop_le : ∀ (l : List UInt8) (k : Nat), valB (l.drop k) ≤ valB l
  | [], k => by simp
  | c :: l, 0 => by simp
  | c :: l, k + 1 => by
    have := valB_drop_le l k
    simp only [valB, List.drop_succ_cons]
    omega
theorem valB_down (l : List UInt8) (N j : Nat) (hN : N < l.length) (hj : j ≤ N) (hl : j < l.length) : valB ((l.take (N + 1)).drop j) = valB ((l.take (N + 1)).drop (j + 1)) * 128 + (l[j]).toNat % 128 := by
  have h : (l.take (N + 1)).drop j = l[j] :: (l.take (N + 1)).drop (j + 1) := by
    rw [List.drop_eq_getElem_cons (by simp; omega)]
    simp
  rw [h, valB]; omega
theorem cutG_fit : ∀ (l : List UInt8) (k v x n : Nat), k ≤ 9 → v < 128 ^ k → cutG k v l = (x, n, 0) → x < 18446744073709551616 := by
  intro l
  induction l with
  | nil => intro k v x n _ _ h; simp [cutG] at h
  | cons c l ih =>
    intro k v x n hk hv h
    unfold cutG at h
    have hc := c.toNat_lt
    by_cases c1 : k = 9 ∧ 1 < c.toNat
    · rw [if_pos c1] at h; simp at h
    rw [if_neg c1] at h
    by_cases c2 : 128 ≤ c.toNat
    · rw [if_pos c2] at h
      refine ih _ _ _ _ (by omega) ?_ h
      have h2 : c.toNat % 128 * 128 ^ k ≤ 127 * 128 ^ k := Nat.mul_le_mul_right _ (by omega)
      rw [Nat.pow_succ]; omega
    · rw [if_neg c2] at h
      by_cases c3 : c.toNat = 0 ∧ 0 < k
      · rw [if_pos c3] at h; simp at h
      rw [if_neg c3] at h
      simp only [Prod.mk.injEq, and_true] at h
      obtain ⟨rfl, rfl⟩ := h
      by_cases h9 : k = 9
      · subst h9
        have : c.toNat ≤ 1 := by omega
        have h2 : c.toNat * 128 ^ 9 ≤ 1 * 128 ^ 9 := Nat.mul_le_mul_right _ this
        omega
      · have hs := pow_small (k := k) (c := c.toNat) (by omega) (by omega)
        have ep : 128 ^ (k + 1) = 128 * 128 ^ k := by rw [Nat.pow_succ, Nat.mul_comm]
        have h2 : c.toNat * 128 ^ k ≤ 127 * 128 ^ k := Nat.mul_le_mul_right _ (by omega)
        have := hs.2
        omega
/-- the number that the reference's loop comes to fits -/
theorem valB_fit (l : List UInt8) (N x n : Nat) (e : Int) (h : (valB (l.take (N + 1)), N + 1, 0) = (x, n, e) ∧ cutG 0 0 l = (x, n, e)) : valB (l.take (N + 1)) < 18446744073709551616 := by
  obtain ⟨h1, h2⟩ := h
  simp only [Prod.mk.injEq] at h1
  obtain ⟨rfl, rfl, rfl⟩ := h1
  exact cutG_fit l 0 0 _ _ (by omega) (by simp) h2
theorem contN_step {l : List UInt8} {k : Nat} (hk : k < 9) (hl : k < l.length) (h : 128 ≤ (l[k]).toNat) : contN (9 - k) (l.drop k) = contN (9 - (k + 1)) (l.drop (k + 1)) + 1 := by
  rw [List.drop_eq_getElem_cons hl, show 9 - k = (9 - (k + 1)) + 1 from by omega, contN, if_pos h]
theorem contN_stop {l : List UInt8} {k : Nat} (hl : k < l.length) (h : ¬ 128 ≤ (l[k]).toNat) : contN (9 - k) (l.drop k) = 0 := by
  rw [List.drop_eq_getElem_cons hl]
  cases 9 - k with
  | zero => rfl
  | succ f => rw [contN, if_neg h]
set_option maxHeartbeats 2000000 in
set_option maxRecDepth 20000 in
theorem rcut_core (s : ByteArray) (hm : s.size ≤ maxLen) (w : World) (x n : Nat) (e : Int) (hr : cutG 0 0 s.data.toList = (x, n, e)) :
    Calls Tryz.prog 114 #[.string s] w fun r w' => r = .returned (.tuple #[.int .u64 (x : Int), .int .i64 (n : Int), .int .i64 e]) ∧ Ext w w' := by
  unfold maxLen at hm
  have hg := hr
  rw [cutG_ref _ _ _ (by omega)] at hg
  simp only [Nat.zero_add, Nat.sub_zero, Nat.pow_zero, Nat.mul_one] at hg
  have HG := Lib.hid hg
  have HR0 := Lib.hid hr
  have hlen : s.data.toList.length = s.size := by simp
  have HLN := Lib.hid hlen
  clear hg hr hlen
  go_enter Tryz.func114, Tryz.ntmps114
  go_wp2
  go_loop [5] (fun ii => ∃ k : Nat, ii = .int .i64 k ∧ k ≤ 8 ∧ k ≤ s.size ∧ contN 9 s.data.toList = k + contN (9 - k) (s.data.toList.drop k)) (fun ii => 9 - (intOf ii).toNat)
  case atStart => exact ⟨0, rfl, by omega, by omega, by simp⟩
  obtain ⟨k, rfl, hk, hks, hc⟩ := hrel
  have HC := Lib.hid hc
  clear hc
  by_cases hlt : k < s.size
  · have hkl : k < s.data.toList.length := by rw [HLN.out]; exact hlt
    have hg : s.data.toList[k]'hkl = s[k]'hlt := rfl
    by_cases h128 : 128 ≤ ((s[k]'hlt).toNat : Int)
    · have hst := contN_step (by omega) hkl (by rw [hg]; omega)
      have HC2 : RowKit.Hid (contN 9 s.data.toList = k + 1 + contN (9 - (k + 1)) (s.data.toList.drop (k + 1))) := Lib.hid (by rw [HC.out, hst]; omega)
      clear HC hst hg hkl
      by_cases h8 : k < 8
      · go_wp2
        go_round
        case rel => exact ⟨k + 1, by go_num, by omega, by omega, HC2.out⟩
        case measure => simp [intOf]; omega
      · have : k = 8 := by omega
        subst this
        have hN9 : contN 9 s.data.toList = 9 := by
          rw [HC2.out]
          cases s.data.toList.drop 9 <;> rfl
        have HG1 := HG.out
        rw [hN9] at HG1
        clear hN9 HC2 HG h8 hk
        by_cases h9 : 9 < s.size
        · have hN : 9 < s.size := h9
          have hd : s.data.toList.getD 9 0 = s[9]'h9 := by simp [List.getD, List.getElem?_eq_getElem (show 9 < s.data.toList.length by rw [HLN.out]; exact h9)]; rfl
          rw [hd, if_neg (by rw [HLN.out]; omega)] at HG1
          by_cases h91 : 1 < ((s[9]'h9).toNat : Int)
          · rw [if_pos ⟨rfl, by omega⟩] at HG1
            simp only [Prod.mk.injEq] at HG1
            obtain ⟨rfl, rfl, rfl⟩ := HG1
            clear hd
            go_wp2
            go_ret3
            exact ⟨rfl, Ext.refl _⟩
          rw [if_neg (by omega)] at HG1
          by_cases h90 : ((s[9]'h9).toNat : Int) = 0
          · rw [if_pos ⟨by omega, by omega⟩] at HG1
            simp only [Prod.mk.injEq] at HG1
            obtain ⟨rfl, rfl, rfl⟩ := HG1
            clear hd
            go_wp2
            go_ret3
            exact ⟨rfl, Ext.refl _⟩
          have h90' : (((s[9]'h9).toNat : Int) == 0) = false := by simpa using h90
          rw [if_neg (by omega)] at HG1
          have HR := Lib.hid (And.intro HG1 HR0.out)
          clear h90 hd HG1 HR0
          go_wp2
          have HV := Lib.hid (show valB (s.data.toList.take (9 + 1)) < 18446744073709551616 from valB_fit _ _ _ _ _ HR.out)
          go_loop [6, 7] (fun vv ii => ∃ (j V : Nat), j ≤ 9 + 1 ∧ vv = .int .u64 V ∧ ii = .int .i64 ((j : Int) - 1) ∧ V = valB ((s.data.toList.take (9 + 1)).drop j)) (fun _ ii => (intOf ii + 1).toNat)
          case atStart => exact ⟨9 + 1, 0, by omega, rfl, by go_num, by rw [List.drop_of_length_le (by simp; omega)]; rfl⟩
          case round =>
            obtain ⟨j, V, hj, rfl, rfl, hV⟩ := hrel
            have HV2 := Lib.hid hV
            clear hV
            cases j with
            | zero =>
              go_wp2
              go_ret3
              have h := HR.out.1
              simp only [Prod.mk.injEq] at h
              obtain ⟨rfl, rfl, rfl⟩ := h
              refine ⟨ret_int3 ?_ ?_ rfl, Ext.refl _⟩
              · rw [HV2.out]; simp
              · simp
            | succ j =>
              have hjs : j < s.size := by omega
              have hs := Lib.hid (valB_down s.data.toList 9 j (by simpa using hN) (by omega) (by simpa using hjs))
              have hg : s.data.toList[j]'(by simpa using hjs) = s[j]'hjs := rfl
              have hb : V * 128 + (s[j]'hjs).toNat % 128 ≤ 18446744073709551615 := by
                have h1 := hs.out
                rw [hg, ← HV2.out] at h1
                have h2 := valB_drop_le (s.data.toList.take (9 + 1)) j
                have h3 := HV.out
                omega
              have hb' : (V : Int) * 128 + ((s[j]'hjs).toNat : Int) % 128 ≤ 18446744073709551615 := by omega
              have hb0 : 0 ≤ ((s[j]'hjs).toNat : Int) % 128 := by omega
              clear hb hg
              go_wp2
              go_round
              case rel =>
                refine ⟨j, V * 128 + (s[j]'hjs).toNat % 128, by omega, ?_, by go_num, ?_⟩
                · first | rfl | go_num
                · have h1 := hs.out
                  rw [← HV2.out] at h1
                  rw [h1]; rfl
              case measure => simp [intOf] <;> omega
        · rw [if_pos (by rw [HLN.out]; omega)] at HG1
          simp only [Prod.mk.injEq] at HG1
          obtain ⟨rfl, rfl, rfl⟩ := HG1
          go_wp2
          go_ret3
          exact ⟨rfl, Ext.refl _⟩
    · have hst := contN_stop hkl (by rw [hg]; omega)
      have hNk : contN 9 s.data.toList = k := by rw [HC.out, hst]; rfl
      have HG1 := HG.out
      rw [hNk] at HG1
      have hd : s.data.toList.getD k 0 = s[k]'hlt := by simp [List.getD, List.getElem?_eq_getElem hkl]; rfl
      have hN : k < s.size := hlt
      rw [hd, if_neg (by rw [HLN.out]; omega), if_neg (by omega)] at HG1
      have hk9 : ((k : Int) == 9) = false := by simp; omega
      clear hNk hst HC HG hd hg hkl
      have h128' : ((s[k]'hlt).toNat : Int) < 128 := by omega
      clear h128
      by_cases hk0 : k = 0
      · subst hk0
        have hne : ¬ s = ByteArray.empty := by rintro rfl; exact absurd hlt (by decide)
        rw [if_neg (by omega)] at HG1
        have HR := Lib.hid (And.intro HG1 HR0.out)
        clear HG1 HR0
        go_wp2
        all_goals
          have HV := Lib.hid (show valB (s.data.toList.take (0 + 1)) < 18446744073709551616 from valB_fit _ _ _ _ _ HR.out)
          go_loop [6, 7] (fun vv ii => ∃ (j V : Nat), j ≤ 0 + 1 ∧ vv = .int .u64 V ∧ ii = .int .i64 ((j : Int) - 1) ∧ V = valB ((s.data.toList.take (0 + 1)).drop j)) (fun _ ii => (intOf ii + 1).toNat)
          case atStart => exact ⟨0 + 1, 0, by omega, rfl, by go_num, by rw [List.drop_of_length_le (by simp; omega)]; rfl⟩
          case round =>
            obtain ⟨j, V, hj, rfl, rfl, hV⟩ := hrel
            have HV2 := Lib.hid hV
            clear hV
            cases j with
            | zero =>
              go_wp2
              go_ret3
              have h := HR.out.1
              simp only [Prod.mk.injEq] at h
              obtain ⟨rfl, rfl, rfl⟩ := h
              refine ⟨ret_int3 ?_ ?_ rfl, Ext.refl _⟩
              · rw [HV2.out]; simp
              · simp
            | succ j =>
              have hjs : j < s.size := by omega
              have hs := Lib.hid (valB_down s.data.toList 0 j (by simpa using hN) (by omega) (by simpa using hjs))
              have hg : s.data.toList[j]'(by simpa using hjs) = s[j]'hjs := rfl
              have hb : V * 128 + (s[j]'hjs).toNat % 128 ≤ 18446744073709551615 := by
                have h1 := hs.out
                rw [hg, ← HV2.out] at h1
                have h2 := valB_drop_le (s.data.toList.take (0 + 1)) j
                have h3 := HV.out
                omega
              have hb' : (V : Int) * 128 + ((s[j]'hjs).toNat : Int) % 128 ≤ 18446744073709551615 := by omega
              have hb0 : 0 ≤ ((s[j]'hjs).toNat : Int) % 128 := by omega
              clear hb hg
              go_wp2
              go_round
              case rel =>
                refine ⟨j, V * 128 + (s[j]'hjs).toNat % 128, by omega, ?_, by go_num, ?_⟩
                · first | rfl | go_num
                · have h1 := hs.out
                  rw [← HV2.out] at h1
                  rw [h1]; rfl
              case measure => simp [intOf] <;> omega
      · have hk1 : 0 < k := by omega
        clear hk0
        by_cases h90 : ((s[k]'hlt).toNat : Int) = 0
        · rw [if_pos ⟨by omega, hk1⟩] at HG1
          simp only [Prod.mk.injEq] at HG1
          obtain ⟨rfl, rfl, rfl⟩ := HG1
          go_wp2
          go_ret3
          exact ⟨rfl, Ext.refl _⟩
        · have h90' : (((s[k]'hlt).toNat : Int) == 0) = false := by simpa using h90
          rw [if_neg (by omega)] at HG1
          have HR := Lib.hid (And.intro HG1 HR0.out)
          clear h90 HG1 HR0
          go_wp2
          have HV := Lib.hid (show valB (s.data.toList.take (k + 1)) < 18446744073709551616 from valB_fit _ _ _ _ _ HR.out)
          go_loop [6, 7] (fun vv ii => ∃ (j V : Nat), j ≤ k + 1 ∧ vv = .int .u64 V ∧ ii = .int .i64 ((j : Int) - 1) ∧ V = valB ((s.data.toList.take (k + 1)).drop j)) (fun _ ii => (intOf ii + 1).toNat)
          case atStart => exact ⟨k + 1, 0, by omega, rfl, by go_num, by rw [List.drop_of_length_le (by simp; omega)]; rfl⟩
          case round =>
            obtain ⟨j, V, hj, rfl, rfl, hV⟩ := hrel
            have HV2 := Lib.hid hV
            clear hV
            cases j with
            | zero =>
              go_wp2
              go_ret3
              have h := HR.out.1
              simp only [Prod.mk.injEq] at h
              obtain ⟨rfl, rfl, rfl⟩ := h
              refine ⟨ret_int3 ?_ ?_ rfl, Ext.refl _⟩
              · rw [HV2.out]; simp
              · simp
            | succ j =>
              have hjs : j < s.size := by omega
              have hs := Lib.hid (valB_down s.data.toList k j (by simpa using hN) (by omega) (by simpa using hjs))
              have hg : s.data.toList[j]'(by simpa using hjs) = s[j]'hjs := rfl
              have hb : V * 128 + (s[j]'hjs).toNat % 128 ≤ 18446744073709551615 := by
                have h1 := hs.out
                rw [hg, ← HV2.out] at h1
                have h2 := valB_drop_le (s.data.toList.take (k + 1)) j
                have h3 := HV.out
                omega
              have hb' : (V : Int) * 128 + ((s[j]'hjs).toNat : Int) % 128 ≤ 18446744073709551615 := by omega
              have hb0 : 0 ≤ ((s[j]'hjs).toNat : Int) % 128 := by omega
              clear hb hg
              go_wp2
              go_round
              case rel =>
                refine ⟨j, V * 128 + (s[j]'hjs).toNat % 128, by omega, ?_, by go_num, ?_⟩
                · first | rfl | go_num
                · have h1 := hs.out
                  rw [← HV2.out] at h1
                  rw [h1]; rfl
              case measure => simp [intOf] <;> omega
  · have hk' : k = s.size := by omega
    have hst : contN (9 - k) (s.data.toList.drop k) = 0 := by rw [List.drop_eq_nil_of_le (by rw [HLN.out]; omega)]; cases 9 - k <;> rfl
    have hNk : contN 9 s.data.toList = k := by rw [HC.out, hst]; rfl
    have HG1 := HG.out
    rw [hNk, if_pos (by rw [HLN.out]; omega)] at HG1
    simp only [Prod.mk.injEq] at HG1
    obtain ⟨rfl, rfl, rfl⟩ := HG1
    clear hst hNk HC HG hk'
    go_wp2
    go_ret3
    exact ⟨rfl, Ext.refl _⟩
end Go.Proofs.YtpchohjkelopoaaGreatDoor

set_option maxRecDepth 20000
namespace Go.Proofs.YtpchohjkelopoaaGreatDoor
open Go.RowKit
theorem cutG_err : ∀ (l : List UInt8) (k v x n : Nat) (e : Int), cutG k v l = (x, n, e) → e ≠ 0 → x = 0 ∧ n = 0 := by
  intro l
  induction l with
  | nil => intro k v x n e h he; simp [cutG] at h; exact ⟨h.1.symm, h.2.1.symm⟩
  | cons c l ih =>
    intro k v x n e h he
    unfold cutG at h
    split at h
    · simp at h; exact ⟨h.1.symm, h.2.1.symm⟩
    · split at h
      · exact ih _ _ _ _ _ h he
      · split at h
        · simp at h; exact ⟨h.1.symm, h.2.1.symm⟩
        · simp at h; exact absurd h.2.2.symm he
theorem cutG_lt {l : List UInt8} {x n : Nat} {e : Int} (h : cutG 0 0 l = (x, n, e)) : x < 18446744073709551616 ∧ n ≤ l.length := by
  by_cases he : e = 0
  · subst he
    obtain ⟨y, _, _, h3, _⟩ := cutG_back l 0 0 x n (by omega) h
    exact ⟨cutG_fit l 0 0 _ _ (by omega) (by simp) h, by omega⟩
  · obtain ⟨rfl, rfl⟩ := cutG_err l 0 0 x n e h he
    exact ⟨by omega, by omega⟩
set_option maxHeartbeats 400000 in
theorem vcutint_any (b off cap : Nat) (l : List UInt8) (w : World) (hm : l.length ≤ maxLen) (hb : BytesAt w b off l) (x n : Nat) (e : Int) (hr : cutG 0 0 l = (x, n, e)) :
    Calls Tryz.prog 165 #[.slice (some ⟨b, off, none⟩) l.length cap] w fun r w' => r = .returned (.tuple #[.int .i64 (zagZ x), .int .i64 (n : Int), .int .i64 e]) ∧ Ext w w' := by
  have h1 := (cutG_lt hr).1
  have C := Lib.hid (vcut_core b off cap l w hm hb x n e hr)
  have Z := Lib.hid (fun w => zag_any (x : Int) (by omega) (by omega) w)
  clear hr hb hm
  go_enter Tryz.func165, Tryz.ntmps165
  go_wp2_with (first
    | (go_at_call 148; refine C.out.mono ?_; rintro e _ ⟨rfl, d, os, rfl⟩)
    | (go_at_call 177; refine (Z.out _).mono ?_; rintro e _ ⟨rfl, d, os, rfl⟩))
  go_ret3
  exact ⟨rfl, by repeat (first | exact Ext.refl _ | apply Ext.alloc | apply Ext.more)⟩
set_option maxHeartbeats 400000 in
theorem rcutint_any (s : ByteArray) (hm : s.size ≤ maxLen) (w : World) (x n : Nat) (e : Int) (hr : cutG 0 0 s.data.toList = (x, n, e)) :
    Calls Tryz.prog 135 #[.string s] w fun r w' => r = .returned (.tuple #[.int .i64 (zagZ x), .int .i64 (n : Int), .int .i64 e]) ∧ Ext w w' := by
  have h1 := (cutG_lt hr).1
  have C := Lib.hid (rcut_core s hm w x n e hr)
  clear hr hm
  by_cases h2 : (x : Int) % 2 = 1
  · have hz : zagZ x = -((x : Int) / 2) - 1 := by unfold zagZ; rw [if_pos h2]
    rw [hz]; clear hz
    go_enter Tryz.func135, Tryz.ntmps135
    go_wp2_with (go_at_call 114; refine C.out.mono ?_; rintro e _ ⟨rfl, d, os, rfl⟩)
    go_ret3
    exact ⟨rfl, by repeat (first | exact Ext.refl _ | apply Ext.alloc | apply Ext.more)⟩
  · have hz : zagZ x = (x : Int) / 2 := by unfold zagZ; rw [if_neg h2]
    have h3 : ((x : Int) % 2 == 1) = false := by simpa using h2
    rw [hz]; clear hz h2
    go_enter Tryz.func135, Tryz.ntmps135
    go_wp2_with (go_at_call 114; refine C.out.mono ?_; rintro e _ ⟨rfl, d, os, rfl⟩)
    go_ret3
    exact ⟨rfl, by repeat (first | exact Ext.refl _ | apply Ext.alloc | apply Ext.more)⟩
/-- the text with which bytes begin -/
def cutT (l : List UInt8) : List UInt8 × Nat × Int :=
  if (cutG 0 0 l).2.2 ≠ 0 then ([], 0, (cutG 0 0 l).2.2) else if 255 < (cutG 0 0 l).1 then ([], 0, 8) else if l.length < (cutG 0 0 l).2.1 + (cutG 0 0 l).1 then ([], 0, 2) else ((l.drop (cutG 0 0 l).2.1).take (cutG 0 0 l).1, (cutG 0 0 l).2.1 + (cutG 0 0 l).1, 0)
theorem conv_at {P : Program} {w : World} {src dst e : TypeId} {b off cap : Nat} {l : List UInt8} (hs : P.underlying src = some (.slice e)) (he : P.underlying e = some (.int .u8)) (hd : P.underlying dst = some .string)
    (h : BytesAt w b off l) (n : Nat) (hn : n = l.length) : (convert src dst (.slice (some ⟨b, off, none⟩) n cap)).run P w = .ok (.string ⟨l.toArray⟩) w := by
  subst hn
  refine run_convert_bytes_back w src dst e ⟨b, off, none⟩ cap l hs he hd fun j hj => ?_
  rw [Addr.add_lit]
  exact h j _ (List.getElem?_eq_getElem hj)
set_option maxHeartbeats 1000000 in
theorem vcuttext_any (b off cap : Nat) (l : List UInt8) (w : World) (hm : l.length ≤ maxLen) (hcap : l.length ≤ cap) (hb : BytesAt w b off l) (t : List UInt8) (n : Nat) (e : Int) (hr : cutT l = (t, n, e)) :
    Calls Tryz.prog 146 #[.slice (some ⟨b, off, none⟩) l.length cap] w fun r w' => r = .returned (.tuple #[.string ⟨t.toArray⟩, .int .i64 (n : Int), .int .i64 e]) ∧ Ext w w' := by
  obtain ⟨v, m, e0, hg⟩ : ∃ v m e0, cutG 0 0 l = (v, m, e0) := ⟨_, _, _, rfl⟩
  have hlt := cutG_lt hg
  unfold cutT at hr
  rw [hg] at hr
  dsimp only at hr
  have C := Lib.hid (vcut_core b off cap l w hm hb v m e0 hg)
  have hv : v < 18446744073709551616 := hlt.1
  have hm2 : m ≤ l.length := hlt.2
  have HB := Lib.hid hb
  unfold maxLen at hm
  clear hg hb hlt
  by_cases h1 : e0 = 0
  case neg =>
    rw [if_pos h1] at hr
    simp only [Prod.mk.injEq] at hr
    obtain ⟨rfl, rfl, rfl⟩ := hr
    have h1' : (e0 == 0) = false := by simpa using h1
    have h1'' : (e0 != 0) = true := by simpa using h1
    clear h1
    go_enter Tryz.func146, Tryz.ntmps146
    go_wp2_with (go_at_call 148; refine C.out.mono ?_; rintro e _ ⟨rfl, d, os, rfl⟩)
    go_ret3
    exact ⟨rfl, by repeat (first | exact Ext.refl _ | apply Ext.alloc | apply Ext.more)⟩
  subst h1
  rw [if_neg (by simp)] at hr
  by_cases h2 : 255 < v
  · rw [if_pos h2] at hr
    simp only [Prod.mk.injEq] at hr
    obtain ⟨rfl, rfl, rfl⟩ := hr
    go_enter Tryz.func146, Tryz.ntmps146
    go_wp2_with (go_at_call 148; refine C.out.mono ?_; rintro e _ ⟨rfl, d, os, rfl⟩)
    go_ret3
    exact ⟨rfl, by repeat (first | exact Ext.refl _ | apply Ext.alloc | apply Ext.more)⟩
  rw [if_neg h2] at hr
  by_cases h3 : l.length < m + v
  · rw [if_pos h3] at hr
    simp only [Prod.mk.injEq] at hr
    obtain ⟨rfl, rfl, rfl⟩ := hr
    have h4 : (l.length : Int) - m < v := by omega
    go_enter Tryz.func146, Tryz.ntmps146
    go_wp2_with (go_at_call 148; refine C.out.mono ?_; rintro e _ ⟨rfl, d, os, rfl⟩)
    go_ret3
    exact ⟨rfl, by repeat (first | exact Ext.refl _ | apply Ext.alloc | apply Ext.more)⟩
  rw [if_neg h3] at hr
  simp only [Prod.mk.injEq] at hr
  obtain ⟨rfl, rfl, rfl⟩ := hr
  have h4 : ¬ (l.length : Int) - m < v := by omega
  have hlen : ((l.drop m).take v).length = v := by simp; omega
  have hB := (HB.out.drop m).take v
  by_cases h5 : m = cap
  · have hv0 : v = 0 := by omega
    subst hv0
    subst h5
    have hB0 : BytesAt w b off [] := by intro j u hj; simp at hj
    have hcv := Lib.hid fun (d : Nat) (os : Array Obj) (c : Nat) => conv_at (P := Tryz.prog) (src := 135) (dst := 9) (cap := c) Tryz.underlying135 Tryz.underlying5 Tryz.underlying9 (hB0.ext (Ext.more (Ext.refl w) d os)) 0 rfl
    rw [List.take_zero]
    clear hB hlen hB0
    go_enter Tryz.func146, Tryz.ntmps146
    go_wp2_with (go_at_call 148; refine C.out.mono ?_; rintro e _ ⟨rfl, d, os, rfl⟩)
    first | rw [hcv.out d os 0] | rw [hcv.out d os (m - m)] | trace_state
    clear hcv
    go_wp2
    go_ret3
    exact ⟨rfl, by repeat (first | exact Ext.refl _ | apply Ext.alloc | apply Ext.more)⟩
  · go_enter Tryz.func146, Tryz.ntmps146
    have hcv := Lib.hid fun (d : Nat) (os : Array Obj) (c : Nat) => conv_at (P := Tryz.prog) (src := 135) (dst := 9) (cap := c) Tryz.underlying135 Tryz.underlying5 Tryz.underlying9 (hB.ext (Ext.more (Ext.refl w) d os)) v hlen.symm
    clear hB hlen
    go_wp2_with (go_at_call 148; refine C.out.mono ?_; rintro e _ ⟨rfl, d, os, rfl⟩)
    rw [hcv.out d os (cap - m)]
    clear hcv
    go_wp2
    go_ret3
    exact ⟨rfl, by repeat (first | exact Ext.refl _ | apply Ext.alloc | apply Ext.more)⟩
theorem toList_extract (s : ByteArray) (a b : Nat) : (s.extract a b).data.toList = (s.data.toList.drop a).take (b - a) := by
  simp [List.extract_eq_take_drop]
set_option maxHeartbeats 1000000 in
theorem rcuttext_any (s : ByteArray) (w : World) (hm : s.size ≤ 4611686018427387904) (t : List UInt8) (n : Nat) (e : Int) (hr : cutT s.data.toList = (t, n, e)) :
    Calls Tryz.prog 112 #[.string s] w fun r w' => r = .returned (.tuple #[.string ⟨t.toArray⟩, .int .i64 (n : Int), .int .i64 e]) ∧ Ext w w' := by
  obtain ⟨v, m, e0, hg⟩ : ∃ v m e0, cutG 0 0 s.data.toList = (v, m, e0) := ⟨_, _, _, rfl⟩
  have hlt := cutG_lt hg
  unfold cutT at hr
  rw [hg] at hr
  dsimp only at hr
  have C := Lib.hid (rcut_core s (by unfold maxLen; omega) w v m e0 hg)
  have hv : v < 18446744073709551616 := hlt.1
  have hsz : s.data.toList.length = s.size := by simp
  have hm2 : m ≤ s.size := by omega
  rw [hsz] at hr
  clear hg hlt hsz
  by_cases h1 : e0 = 0
  case neg =>
    rw [if_pos h1] at hr
    simp only [Prod.mk.injEq] at hr
    obtain ⟨rfl, rfl, rfl⟩ := hr
    have h1' : (e0 == 0) = false := by simpa using h1
    have h1'' : (e0 != 0) = true := by simpa using h1
    clear h1
    go_enter Tryz.func112, Tryz.ntmps112
    go_wp2_with (go_at_call 114; refine C.out.mono ?_; rintro e _ ⟨rfl, d, os, rfl⟩)
    go_ret3
    exact ⟨rfl, by repeat (first | exact Ext.refl _ | apply Ext.alloc | apply Ext.more)⟩
  subst h1
  rw [if_neg (by simp)] at hr
  by_cases h2 : 255 < v
  · rw [if_pos h2] at hr
    simp only [Prod.mk.injEq] at hr
    obtain ⟨rfl, rfl, rfl⟩ := hr
    go_enter Tryz.func112, Tryz.ntmps112
    go_wp2_with (go_at_call 114; refine C.out.mono ?_; rintro e _ ⟨rfl, d, os, rfl⟩)
    go_ret3
    exact ⟨rfl, by repeat (first | exact Ext.refl _ | apply Ext.alloc | apply Ext.more)⟩
  rw [if_neg h2] at hr
  by_cases h3 : s.size < m + v
  · rw [if_pos h3] at hr
    simp only [Prod.mk.injEq] at hr
    obtain ⟨rfl, rfl, rfl⟩ := hr
    have h4 : (s.size : Int) < m + v := by omega
    go_enter Tryz.func112, Tryz.ntmps112
    go_wp2_with (go_at_call 114; refine C.out.mono ?_; rintro e _ ⟨rfl, d, os, rfl⟩)
    go_ret3
    exact ⟨rfl, by repeat (first | exact Ext.refl _ | apply Ext.alloc | apply Ext.more)⟩
  rw [if_neg h3] at hr
  simp only [Prod.mk.injEq] at hr
  obtain ⟨rfl, rfl, rfl⟩ := hr
  have e1 : (s.extract m (m + v)) = ⟨((s.data.toList.drop m).take v).toArray⟩ := by
    have e0 := toList_extract s m (m + v)
    rw [Nat.add_sub_cancel_left] at e0
    rw [← e0]
  rw [← e1]
  clear e1
  have h4 : (m : Int) + v ≤ s.size := by omega
  go_enter Tryz.func112, Tryz.ntmps112
  go_wp2_with (go_at_call 114; refine C.out.mono ?_; rintro e _ ⟨rfl, d, os, rfl⟩)
  go_ret3
  exact ⟨rfl, by repeat (first | exact Ext.refl _ | apply Ext.alloc | apply Ext.more)⟩
end Go.Proofs.YtpchohjkelopoaaGreatDoor

set_option maxRecDepth 20000
namespace Go.Proofs.YtpchohjkelopoaaGreatDoor
open Go.RowKit
/-- the value with which bytes begin, how many bytes it has, and the error -/
def valC : List UInt8 → Val × Nat × Int
  | [] => (⟨0, 0, ⟨#[]⟩⟩, 0, 2)
  | c :: l =>
    if c.toNat = 0 then (⟨0, 0, ⟨#[]⟩⟩, 1, 0)
    else if c.toNat = 1 then
      (match l with
       | [] => (⟨0, 0, ⟨#[]⟩⟩, 0, 2)
       | d :: _ => if 1 < d.toNat then (⟨0, 0, ⟨#[]⟩⟩, 0, 3) else (⟨1, d.toNat, ⟨#[]⟩⟩, 2, 0))
    else if c.toNat = 2 then (if (cutG 0 0 l).2.2 ≠ 0 then (⟨0, 0, ⟨#[]⟩⟩, 0, (cutG 0 0 l).2.2) else (⟨2, zagZ ((cutG 0 0 l).1 : Nat), ⟨#[]⟩⟩, 1 + (cutG 0 0 l).2.1, 0))
    else if c.toNat = 3 then (if (cutT l).2.2 ≠ 0 then (⟨0, 0, ⟨#[]⟩⟩, 0, (cutT l).2.2) else if 64 < (cutT l).1.length then (⟨0, 0, ⟨#[]⟩⟩, 0, 5) else (⟨3, 0, ⟨(cutT l).1.toArray⟩⟩, 1 + (cutT l).2.1, 0))
    else (⟨0, 0, ⟨#[]⟩⟩, 0, 3)
set_option maxHeartbeats 1000000 in
theorem vc_nil (w : World) (p : Option Addr) (cap : Nat) :
    Calls Tryz.prog 147 #[.slice p 0 cap] w fun r w' => r = .returned (.tuple #[.agg #[.int .i64 0, .int .i64 0, .string ⟨#[]⟩], .int .i64 0, .int .i64 2]) ∧ Ext w w' := by
  go_enter Tryz.func147, Tryz.ntmps147
  go_wp2
  refine bodyPost_ret (v := .tuple #[.agg #[.int .i64 0, .int .i64 0, .string ⟨#[]⟩], .int .i64 0, .int .i64 2]) (by simp [results, Tryz.results147, boolI, go_sem]) rfl ⟨rfl, by repeat (first | exact Ext.refl _ | apply Ext.alloc | apply Ext.more)⟩
set_option maxHeartbeats 1000000 in
theorem vc_0 (w : World) (b off n cap : Nat) (hb : b < w.heap.size) (hm : n < 9223372036854775807) (hcap : n + 1 ≤ cap) (hc : w.cell? ⟨b, off, none⟩ = some (.int .u8 0)) :
    Calls Tryz.prog 147 #[.slice (some ⟨b, off, none⟩) (n + 1) cap] w fun r w' => r = .returned (.tuple #[.agg #[.int .i64 0, .int .i64 0, .string ⟨#[]⟩], .int .i64 1, .int .i64 0]) ∧ Ext w w' := by
  by_cases hc1 : cap = 1
  · subst hc1
    go_enter Tryz.func147, Tryz.ntmps147
    go_wp2_with (first
      | (go_at_call 163; refine (nil_any _).mono ?_; rintro e _ ⟨rfl, d, os, rfl⟩))
    refine bodyPost_ret (v := .tuple #[.agg #[.int .i64 0, .int .i64 0, .string ⟨#[]⟩], .int .i64 1, .int .i64 0]) (by simp [results, Tryz.results147, boolI, go_sem]) rfl ⟨rfl, by repeat (first | exact Ext.refl _ | apply Ext.alloc | apply Ext.more)⟩
  · go_enter Tryz.func147, Tryz.ntmps147
    go_wp2_with (first
      | (go_at_call 163; refine (nil_any _).mono ?_; rintro e _ ⟨rfl, d, os, rfl⟩))
    refine bodyPost_ret (v := .tuple #[.agg #[.int .i64 0, .int .i64 0, .string ⟨#[]⟩], .int .i64 1, .int .i64 0]) (by simp [results, Tryz.results147, boolI, go_sem]) rfl ⟨rfl, by repeat (first | exact Ext.refl _ | apply Ext.alloc | apply Ext.more)⟩
set_option maxHeartbeats 1000000 in
theorem vc_1e (w : World) (b off n cap : Nat) (hb : b < w.heap.size) (hm : n < 9223372036854775807) (hcap : n + 1 ≤ cap) (hn : n = 0) (hc : w.cell? ⟨b, off, none⟩ = some (.int .u8 1)) :
    Calls Tryz.prog 147 #[.slice (some ⟨b, off, none⟩) (n + 1) cap] w fun r w' => r = .returned (.tuple #[.agg #[.int .i64 0, .int .i64 0, .string ⟨#[]⟩], .int .i64 0, .int .i64 2]) ∧ Ext w w' := by
  subst hn
  by_cases hc1 : cap = 1
  · subst hc1
    go_enter Tryz.func147, Tryz.ntmps147
    go_wp2
    refine bodyPost_ret (v := .tuple #[.agg #[.int .i64 0, .int .i64 0, .string ⟨#[]⟩], .int .i64 0, .int .i64 2]) (by simp [results, Tryz.results147, boolI, go_sem]) rfl ⟨rfl, by repeat (first | exact Ext.refl _ | apply Ext.alloc | apply Ext.more)⟩
  · go_enter Tryz.func147, Tryz.ntmps147
    go_wp2
    refine bodyPost_ret (v := .tuple #[.agg #[.int .i64 0, .int .i64 0, .string ⟨#[]⟩], .int .i64 0, .int .i64 2]) (by simp [results, Tryz.results147, boolI, go_sem]) rfl ⟨rfl, by repeat (first | exact Ext.refl _ | apply Ext.alloc | apply Ext.more)⟩
set_option maxHeartbeats 1000000 in
theorem vc_1b (w : World) (b off n cap : Nat) (hb : b < w.heap.size) (hm : n < 9223372036854775807) (hcap : n + 1 ≤ cap) (u : Int) (hn : 0 < n) (hu : 1 < u) (hu2 : u < 256) (hc : w.cell? ⟨b, off, none⟩ = some (.int .u8 1)) (hd : w.cell? ⟨b, off + 1, none⟩ = some (.int .u8 u)) :
    Calls Tryz.prog 147 #[.slice (some ⟨b, off, none⟩) (n + 1) cap] w fun r w' => r = .returned (.tuple #[.agg #[.int .i64 0, .int .i64 0, .string ⟨#[]⟩], .int .i64 0, .int .i64 3]) ∧ Ext w w' := by
  by_cases hc1 : cap = 1
  · exfalso; omega
  · go_enter Tryz.func147, Tryz.ntmps147
    go_wp2
    refine bodyPost_ret (v := .tuple #[.agg #[.int .i64 0, .int .i64 0, .string ⟨#[]⟩], .int .i64 0, .int .i64 3]) (by simp [results, Tryz.results147, boolI, go_sem]) rfl ⟨rfl, by repeat (first | exact Ext.refl _ | apply Ext.alloc | apply Ext.more)⟩
set_option maxHeartbeats 1000000 in
theorem vc_1u0 (w : World) (b off n cap : Nat) (hb : b < w.heap.size) (hm : n < 9223372036854775807) (hcap : n + 1 ≤ cap) (hn : 0 < n) (hc : w.cell? ⟨b, off, none⟩ = some (.int .u8 1)) (hd : w.cell? ⟨b, off + 1, none⟩ = some (.int .u8 0)) :
    Calls Tryz.prog 147 #[.slice (some ⟨b, off, none⟩) (n + 1) cap] w fun r w' => r = .returned (.tuple #[.agg #[.int .i64 1, .int .i64 0, .string ⟨#[]⟩], .int .i64 2, .int .i64 0]) ∧ Ext w w' := by
  by_cases hc1 : cap = 1
  · exfalso; omega
  · go_enter Tryz.func147, Tryz.ntmps147
    go_wp2_with (first
      | (go_at_call 164; refine (bool_any _ _).mono ?_; rintro e _ ⟨rfl, d, os, rfl⟩))
    refine bodyPost_ret (v := .tuple #[.agg #[.int .i64 1, .int .i64 0, .string ⟨#[]⟩], .int .i64 2, .int .i64 0]) (by simp [results, Tryz.results147, boolI, go_sem]) rfl ⟨rfl, by repeat (first | exact Ext.refl _ | apply Ext.alloc | apply Ext.more)⟩
set_option maxHeartbeats 1000000 in
theorem vc_1u1 (w : World) (b off n cap : Nat) (hb : b < w.heap.size) (hm : n < 9223372036854775807) (hcap : n + 1 ≤ cap) (hn : 0 < n) (hc : w.cell? ⟨b, off, none⟩ = some (.int .u8 1)) (hd : w.cell? ⟨b, off + 1, none⟩ = some (.int .u8 1)) :
    Calls Tryz.prog 147 #[.slice (some ⟨b, off, none⟩) (n + 1) cap] w fun r w' => r = .returned (.tuple #[.agg #[.int .i64 1, .int .i64 1, .string ⟨#[]⟩], .int .i64 2, .int .i64 0]) ∧ Ext w w' := by
  by_cases hc1 : cap = 1
  · exfalso; omega
  · go_enter Tryz.func147, Tryz.ntmps147
    go_wp2_with (first
      | (go_at_call 164; refine (bool_any _ _).mono ?_; rintro e _ ⟨rfl, d, os, rfl⟩))
    refine bodyPost_ret (v := .tuple #[.agg #[.int .i64 1, .int .i64 1, .string ⟨#[]⟩], .int .i64 2, .int .i64 0]) (by simp [results, Tryz.results147, boolI, go_sem]) rfl ⟨rfl, by repeat (first | exact Ext.refl _ | apply Ext.alloc | apply Ext.more)⟩
set_option maxHeartbeats 1000000 in
theorem vc_x (w : World) (b off n cap : Nat) (hb : b < w.heap.size) (hm : n < 9223372036854775807) (hcap : n + 1 ≤ cap) (c : Int) (h3 : 3 < c) (hc2 : c < 256) (hc : w.cell? ⟨b, off, none⟩ = some (.int .u8 c)) :
    Calls Tryz.prog 147 #[.slice (some ⟨b, off, none⟩) (n + 1) cap] w fun r w' => r = .returned (.tuple #[.agg #[.int .i64 0, .int .i64 0, .string ⟨#[]⟩], .int .i64 0, .int .i64 3]) ∧ Ext w w' := by
  have q0 : (c == 0) = false := by simp; omega
  have q1 : (c == 1) = false := by simp; omega
  have q2 : (c == 2) = false := by simp; omega
  have q3 : (c == 3) = false := by simp; omega
  by_cases hc1 : cap = 1
  · subst hc1
    go_enter Tryz.func147, Tryz.ntmps147
    go_wp2
    refine bodyPost_ret (v := .tuple #[.agg #[.int .i64 0, .int .i64 0, .string ⟨#[]⟩], .int .i64 0, .int .i64 3]) (by simp [results, Tryz.results147, boolI, go_sem]) rfl ⟨rfl, by repeat (first | exact Ext.refl _ | apply Ext.alloc | apply Ext.more)⟩
  · go_enter Tryz.func147, Tryz.ntmps147
    go_wp2
    refine bodyPost_ret (v := .tuple #[.agg #[.int .i64 0, .int .i64 0, .string ⟨#[]⟩], .int .i64 0, .int .i64 3]) (by simp [results, Tryz.results147, boolI, go_sem]) rfl ⟨rfl, by repeat (first | exact Ext.refl _ | apply Ext.alloc | apply Ext.more)⟩
set_option maxHeartbeats 1000000 in
theorem vc_2e (w : World) (b off n cap : Nat) (hb : b < w.heap.size) (hm : n < 9223372036854775807) (hcap : n + 1 ≤ cap) (x m e : Int) (he : (e == 0) = false) (hc : w.cell? ⟨b, off, none⟩ = some (.int .u8 2)) (C : RowKit.Hid (∀ o c w', (o = off + 1 ∨ n = 0) → n ≤ c → Ext w w' → Calls Tryz.prog 165 #[.slice (some ⟨b, o, none⟩) n c] w' fun r w'' => r = .returned (.tuple #[.int .i64 x, .int .i64 m, .int .i64 e]) ∧ Ext w' w''))  :
    Calls Tryz.prog 147 #[.slice (some ⟨b, off, none⟩) (n + 1) cap] w fun r w' => r = .returned (.tuple #[.agg #[.int .i64 0, .int .i64 0, .string ⟨#[]⟩], .int .i64 0, .int .i64 e]) ∧ Ext w w' := by
  have he' : (e != 0) = true := by simpa using he
  by_cases hc1 : cap = 1
  · subst hc1
    obtain rfl : n = 0 := by omega
    go_enter Tryz.func147, Tryz.ntmps147
    go_wp2_with (first
      | (go_at_call 165; refine (C.out _ _ _ (by first | exact Or.inl rfl | exact Or.inr rfl) (by omega) (by repeat (first | exact Ext.refl _ | apply Ext.alloc | apply Ext.more))).mono ?_; rintro e _ ⟨rfl, d, os, rfl⟩)
      | (go_at_call 166; refine (int_any _ _).mono ?_; rintro e _ ⟨rfl, d, os, rfl⟩))
    refine bodyPost_ret (v := .tuple #[.agg #[.int .i64 0, .int .i64 0, .string ⟨#[]⟩], .int .i64 0, .int .i64 e]) (by simp [results, Tryz.results147, boolI, go_sem]) rfl ⟨rfl, by repeat (first | exact Ext.refl _ | apply Ext.alloc | apply Ext.more)⟩
  · go_enter Tryz.func147, Tryz.ntmps147
    go_wp2_with (first
      | (go_at_call 165; refine (C.out _ _ _ (by first | exact Or.inl rfl | exact Or.inr rfl) (by omega) (by repeat (first | exact Ext.refl _ | apply Ext.alloc | apply Ext.more))).mono ?_; rintro e _ ⟨rfl, d, os, rfl⟩)
      | (go_at_call 166; refine (int_any _ _).mono ?_; rintro e _ ⟨rfl, d, os, rfl⟩))
    refine bodyPost_ret (v := .tuple #[.agg #[.int .i64 0, .int .i64 0, .string ⟨#[]⟩], .int .i64 0, .int .i64 e]) (by simp [results, Tryz.results147, boolI, go_sem]) rfl ⟨rfl, by repeat (first | exact Ext.refl _ | apply Ext.alloc | apply Ext.more)⟩
set_option maxHeartbeats 1000000 in
theorem vc_2 (w : World) (b off n cap : Nat) (hb : b < w.heap.size) (hm : n < 9223372036854775807) (hcap : n + 1 ≤ cap) (x m : Int) (hm1 : 0 ≤ m) (hm2 : m ≤ n) (hc : w.cell? ⟨b, off, none⟩ = some (.int .u8 2)) (C : RowKit.Hid (∀ o c w', (o = off + 1 ∨ n = 0) → n ≤ c → Ext w w' → Calls Tryz.prog 165 #[.slice (some ⟨b, o, none⟩) n c] w' fun r w'' => r = .returned (.tuple #[.int .i64 x, .int .i64 m, .int .i64 0]) ∧ Ext w' w''))  :
    Calls Tryz.prog 147 #[.slice (some ⟨b, off, none⟩) (n + 1) cap] w fun r w' => r = .returned (.tuple #[.agg #[.int .i64 2, .int .i64 x, .string ⟨#[]⟩], .int .i64 (1 + m), .int .i64 0]) ∧ Ext w w' := by
  by_cases hc1 : cap = 1
  · subst hc1
    obtain rfl : n = 0 := by omega
    go_enter Tryz.func147, Tryz.ntmps147
    go_wp2_with (first
      | (go_at_call 165; refine (C.out _ _ _ (by first | exact Or.inl rfl | exact Or.inr rfl) (by omega) (by repeat (first | exact Ext.refl _ | apply Ext.alloc | apply Ext.more))).mono ?_; rintro e _ ⟨rfl, d, os, rfl⟩)
      | (go_at_call 166; refine (int_any _ _).mono ?_; rintro e _ ⟨rfl, d, os, rfl⟩))
    refine bodyPost_ret (v := .tuple #[.agg #[.int .i64 2, .int .i64 x, .string ⟨#[]⟩], .int .i64 (1 + m), .int .i64 0]) (by simp [results, Tryz.results147, boolI, go_sem]) rfl ⟨rfl, by repeat (first | exact Ext.refl _ | apply Ext.alloc | apply Ext.more)⟩
  · go_enter Tryz.func147, Tryz.ntmps147
    go_wp2_with (first
      | (go_at_call 165; refine (C.out _ _ _ (by first | exact Or.inl rfl | exact Or.inr rfl) (by omega) (by repeat (first | exact Ext.refl _ | apply Ext.alloc | apply Ext.more))).mono ?_; rintro e _ ⟨rfl, d, os, rfl⟩)
      | (go_at_call 166; refine (int_any _ _).mono ?_; rintro e _ ⟨rfl, d, os, rfl⟩))
    refine bodyPost_ret (v := .tuple #[.agg #[.int .i64 2, .int .i64 x, .string ⟨#[]⟩], .int .i64 (1 + m), .int .i64 0]) (by simp [results, Tryz.results147, boolI, go_sem]) rfl ⟨rfl, by repeat (first | exact Ext.refl _ | apply Ext.alloc | apply Ext.more)⟩
set_option maxHeartbeats 1000000 in
theorem vc_3e (w : World) (b off n cap : Nat) (hb : b < w.heap.size) (hm : n < 9223372036854775807) (hcap : n + 1 ≤ cap) (s : ByteArray) (m e : Int) (he : (e == 0) = false) (hc : w.cell? ⟨b, off, none⟩ = some (.int .u8 3)) (C : RowKit.Hid (∀ o c w', (o = off + 1 ∨ n = 0) → n ≤ c → Ext w w' → Calls Tryz.prog 146 #[.slice (some ⟨b, o, none⟩) n c] w' fun r w'' => r = .returned (.tuple #[.string s, .int .i64 m, .int .i64 e]) ∧ Ext w' w''))  :
    Calls Tryz.prog 147 #[.slice (some ⟨b, off, none⟩) (n + 1) cap] w fun r w' => r = .returned (.tuple #[.agg #[.int .i64 0, .int .i64 0, .string ⟨#[]⟩], .int .i64 0, .int .i64 e]) ∧ Ext w w' := by
  have he' : (e != 0) = true := by simpa using he
  by_cases hc1 : cap = 1
  · subst hc1
    obtain rfl : n = 0 := by omega
    go_enter Tryz.func147, Tryz.ntmps147
    go_wp2_with (first
      | (go_at_call 146; refine (C.out _ _ _ (by first | exact Or.inl rfl | exact Or.inr rfl) (by omega) (by repeat (first | exact Ext.refl _ | apply Ext.alloc | apply Ext.more))).mono ?_; rintro e _ ⟨rfl, d, os, rfl⟩))
    refine bodyPost_ret (v := .tuple #[.agg #[.int .i64 0, .int .i64 0, .string ⟨#[]⟩], .int .i64 0, .int .i64 e]) (by simp [results, Tryz.results147, boolI, go_sem]) rfl ⟨rfl, by repeat (first | exact Ext.refl _ | apply Ext.alloc | apply Ext.more)⟩
  · go_enter Tryz.func147, Tryz.ntmps147
    go_wp2_with (first
      | (go_at_call 146; refine (C.out _ _ _ (by first | exact Or.inl rfl | exact Or.inr rfl) (by omega) (by repeat (first | exact Ext.refl _ | apply Ext.alloc | apply Ext.more))).mono ?_; rintro e _ ⟨rfl, d, os, rfl⟩))
    refine bodyPost_ret (v := .tuple #[.agg #[.int .i64 0, .int .i64 0, .string ⟨#[]⟩], .int .i64 0, .int .i64 e]) (by simp [results, Tryz.results147, boolI, go_sem]) rfl ⟨rfl, by repeat (first | exact Ext.refl _ | apply Ext.alloc | apply Ext.more)⟩
set_option maxHeartbeats 1000000 in
theorem vc_3f (w : World) (b off n cap : Nat) (hb : b < w.heap.size) (hm : n < 9223372036854775807) (hcap : n + 1 ≤ cap) (s : ByteArray) (hs : 64 < (s.size : Int)) (m : Int) (hc : w.cell? ⟨b, off, none⟩ = some (.int .u8 3)) (C : RowKit.Hid (∀ o c w', (o = off + 1 ∨ n = 0) → n ≤ c → Ext w w' → Calls Tryz.prog 146 #[.slice (some ⟨b, o, none⟩) n c] w' fun r w'' => r = .returned (.tuple #[.string s, .int .i64 m, .int .i64 0]) ∧ Ext w' w''))  :
    Calls Tryz.prog 147 #[.slice (some ⟨b, off, none⟩) (n + 1) cap] w fun r w' => r = .returned (.tuple #[.agg #[.int .i64 0, .int .i64 0, .string ⟨#[]⟩], .int .i64 0, .int .i64 5]) ∧ Ext w w' := by
  by_cases hc1 : cap = 1
  · subst hc1
    obtain rfl : n = 0 := by omega
    go_enter Tryz.func147, Tryz.ntmps147
    go_wp2_with (first
      | (go_at_call 146; refine (C.out _ _ _ (by first | exact Or.inl rfl | exact Or.inr rfl) (by omega) (by repeat (first | exact Ext.refl _ | apply Ext.alloc | apply Ext.more))).mono ?_; rintro e _ ⟨rfl, d, os, rfl⟩)
      | (go_at_call 167; refine (text_full _ hs _).mono ?_; rintro e _ ⟨rfl, d, os, rfl⟩))
    refine bodyPost_ret (v := .tuple #[.agg #[.int .i64 0, .int .i64 0, .string ⟨#[]⟩], .int .i64 0, .int .i64 5]) (by simp [results, Tryz.results147, boolI, go_sem]) rfl ⟨rfl, by repeat (first | exact Ext.refl _ | apply Ext.alloc | apply Ext.more)⟩
  · go_enter Tryz.func147, Tryz.ntmps147
    go_wp2_with (first
      | (go_at_call 146; refine (C.out _ _ _ (by first | exact Or.inl rfl | exact Or.inr rfl) (by omega) (by repeat (first | exact Ext.refl _ | apply Ext.alloc | apply Ext.more))).mono ?_; rintro e _ ⟨rfl, d, os, rfl⟩)
      | (go_at_call 167; refine (text_full _ hs _).mono ?_; rintro e _ ⟨rfl, d, os, rfl⟩))
    refine bodyPost_ret (v := .tuple #[.agg #[.int .i64 0, .int .i64 0, .string ⟨#[]⟩], .int .i64 0, .int .i64 5]) (by simp [results, Tryz.results147, boolI, go_sem]) rfl ⟨rfl, by repeat (first | exact Ext.refl _ | apply Ext.alloc | apply Ext.more)⟩
set_option maxHeartbeats 1000000 in
theorem vc_3 (w : World) (b off n cap : Nat) (hb : b < w.heap.size) (hm : n < 9223372036854775807) (hcap : n + 1 ≤ cap) (s : ByteArray) (hs : (s.size : Int) ≤ 64) (m : Int) (hm1 : 0 ≤ m) (hm2 : m ≤ n) (hc : w.cell? ⟨b, off, none⟩ = some (.int .u8 3)) (C : RowKit.Hid (∀ o c w', (o = off + 1 ∨ n = 0) → n ≤ c → Ext w w' → Calls Tryz.prog 146 #[.slice (some ⟨b, o, none⟩) n c] w' fun r w'' => r = .returned (.tuple #[.string s, .int .i64 m, .int .i64 0]) ∧ Ext w' w''))  :
    Calls Tryz.prog 147 #[.slice (some ⟨b, off, none⟩) (n + 1) cap] w fun r w' => r = .returned (.tuple #[.agg #[.int .i64 3, .int .i64 0, .string s], .int .i64 (1 + m), .int .i64 0]) ∧ Ext w w' := by
  by_cases hc1 : cap = 1
  · subst hc1
    obtain rfl : n = 0 := by omega
    go_enter Tryz.func147, Tryz.ntmps147
    go_wp2_with (first
      | (go_at_call 146; refine (C.out _ _ _ (by first | exact Or.inl rfl | exact Or.inr rfl) (by omega) (by repeat (first | exact Ext.refl _ | apply Ext.alloc | apply Ext.more))).mono ?_; rintro e _ ⟨rfl, d, os, rfl⟩)
      | (go_at_call 167; refine (text_ok _ hs _).mono ?_; rintro e _ ⟨rfl, d, os, rfl⟩))
    refine bodyPost_ret (v := .tuple #[.agg #[.int .i64 3, .int .i64 0, .string s], .int .i64 (1 + m), .int .i64 0]) (by simp [results, Tryz.results147, boolI, go_sem]) rfl ⟨rfl, by repeat (first | exact Ext.refl _ | apply Ext.alloc | apply Ext.more)⟩
  · go_enter Tryz.func147, Tryz.ntmps147
    go_wp2_with (first
      | (go_at_call 146; refine (C.out _ _ _ (by first | exact Or.inl rfl | exact Or.inr rfl) (by omega) (by repeat (first | exact Ext.refl _ | apply Ext.alloc | apply Ext.more))).mono ?_; rintro e _ ⟨rfl, d, os, rfl⟩)
      | (go_at_call 167; refine (text_ok _ hs _).mono ?_; rintro e _ ⟨rfl, d, os, rfl⟩))
    refine bodyPost_ret (v := .tuple #[.agg #[.int .i64 3, .int .i64 0, .string s], .int .i64 (1 + m), .int .i64 0]) (by simp [results, Tryz.results147, boolI, go_sem]) rfl ⟨rfl, by repeat (first | exact Ext.refl _ | apply Ext.alloc | apply Ext.more)⟩
set_option maxHeartbeats 1000000 in
theorem rc_nil (w : World)  :
    Calls Tryz.prog 113 #[.string ⟨#[]⟩] w fun r w' => r = .returned (.tuple #[.agg #[.int .i64 0, .int .i64 0, .string ⟨#[]⟩], .int .i64 0, .int .i64 2]) ∧ Ext w w' := by
  go_enter Tryz.func113, Tryz.ntmps113
  go_wp2
  refine bodyPost_ret (v := .tuple #[.agg #[.int .i64 0, .int .i64 0, .string ⟨#[]⟩], .int .i64 0, .int .i64 2]) (by simp [results, Tryz.results113, boolI, go_sem]) rfl ⟨rfl, by repeat (first | exact Ext.refl _ | apply Ext.alloc | apply Ext.more)⟩
set_option maxHeartbeats 1000000 in
theorem rc_x (w : World) (s : ByteArray) (hsz : (s.size : Int) ≤ 4611686018427387904) (hl : 0 < s.size) (hc : 3 < (s[0].toNat : Int)) :
    Calls Tryz.prog 113 #[.string s] w fun r w' => r = .returned (.tuple #[.agg #[.int .i64 0, .int .i64 0, .string ⟨#[]⟩], .int .i64 0, .int .i64 3]) ∧ Ext w w' := by
  have hne : ¬ s = ByteArray.empty := by rintro rfl; exact absurd hl (by decide)
  have hne2 : s.toList.isEmpty = false := by rw [empty_size]; simp; omega
  go_enter Tryz.func113, Tryz.ntmps113
  go_wp2
  refine bodyPost_ret (v := .tuple #[.agg #[.int .i64 0, .int .i64 0, .string ⟨#[]⟩], .int .i64 0, .int .i64 3]) (by simp [results, Tryz.results113, boolI, go_sem]) rfl ⟨rfl, by repeat (first | exact Ext.refl _ | apply Ext.alloc | apply Ext.more)⟩
set_option maxHeartbeats 1000000 in
theorem rc_0 (w : World) (s : ByteArray) (hsz : (s.size : Int) ≤ 4611686018427387904) (hl : 0 < s.size) (hc : (s[0].toNat : Int) = 0) :
    Calls Tryz.prog 113 #[.string s] w fun r w' => r = .returned (.tuple #[.agg #[.int .i64 0, .int .i64 0, .string ⟨#[]⟩], .int .i64 1, .int .i64 0]) ∧ Ext w w' := by
  have hne : ¬ s = ByteArray.empty := by rintro rfl; exact absurd hl (by decide)
  have hne2 : s.toList.isEmpty = false := by rw [empty_size]; simp; omega
  go_enter Tryz.func113, Tryz.ntmps113
  go_wp2
  refine bodyPost_ret (v := .tuple #[.agg #[.int .i64 0, .int .i64 0, .string ⟨#[]⟩], .int .i64 1, .int .i64 0]) (by simp [results, Tryz.results113, boolI, go_sem]) rfl ⟨rfl, by repeat (first | exact Ext.refl _ | apply Ext.alloc | apply Ext.more)⟩
set_option maxHeartbeats 1000000 in
theorem rc_1e (w : World) (s : ByteArray) (hsz : (s.size : Int) ≤ 4611686018427387904) (hl : 0 < s.size) (hc : (s[0].toNat : Int) = 1) (h1 : (s.size : Int) < 2) :
    Calls Tryz.prog 113 #[.string s] w fun r w' => r = .returned (.tuple #[.agg #[.int .i64 0, .int .i64 0, .string ⟨#[]⟩], .int .i64 0, .int .i64 2]) ∧ Ext w w' := by
  have hne : ¬ s = ByteArray.empty := by rintro rfl; exact absurd hl (by decide)
  have hne2 : s.toList.isEmpty = false := by rw [empty_size]; simp; omega
  go_enter Tryz.func113, Tryz.ntmps113
  go_wp2
  refine bodyPost_ret (v := .tuple #[.agg #[.int .i64 0, .int .i64 0, .string ⟨#[]⟩], .int .i64 0, .int .i64 2]) (by simp [results, Tryz.results113, boolI, go_sem]) rfl ⟨rfl, by repeat (first | exact Ext.refl _ | apply Ext.alloc | apply Ext.more)⟩
set_option maxHeartbeats 1000000 in
theorem rc_1b (w : World) (s : ByteArray) (hsz : (s.size : Int) ≤ 4611686018427387904) (hl : 0 < s.size) (hc : (s[0].toNat : Int) = 1) (h1 : 1 < s.size) (hd : 1 < (s[1].toNat : Int)) :
    Calls Tryz.prog 113 #[.string s] w fun r w' => r = .returned (.tuple #[.agg #[.int .i64 0, .int .i64 0, .string ⟨#[]⟩], .int .i64 0, .int .i64 3]) ∧ Ext w w' := by
  have hne : ¬ s = ByteArray.empty := by rintro rfl; exact absurd hl (by decide)
  have hne2 : s.toList.isEmpty = false := by rw [empty_size]; simp; omega
  go_enter Tryz.func113, Tryz.ntmps113
  go_wp2
  refine bodyPost_ret (v := .tuple #[.agg #[.int .i64 0, .int .i64 0, .string ⟨#[]⟩], .int .i64 0, .int .i64 3]) (by simp [results, Tryz.results113, boolI, go_sem]) rfl ⟨rfl, by repeat (first | exact Ext.refl _ | apply Ext.alloc | apply Ext.more)⟩
set_option maxHeartbeats 1000000 in
theorem rc_1u0 (w : World) (s : ByteArray) (hsz : (s.size : Int) ≤ 4611686018427387904) (hl : 0 < s.size) (hc : (s[0].toNat : Int) = 1) (h1 : 1 < s.size) (hd : (s[1].toNat : Int) = 0) :
    Calls Tryz.prog 113 #[.string s] w fun r w' => r = .returned (.tuple #[.agg #[.int .i64 1, .int .i64 0, .string ⟨#[]⟩], .int .i64 2, .int .i64 0]) ∧ Ext w w' := by
  have hne : ¬ s = ByteArray.empty := by rintro rfl; exact absurd hl (by decide)
  have hne2 : s.toList.isEmpty = false := by rw [empty_size]; simp; omega
  go_enter Tryz.func113, Tryz.ntmps113
  go_wp2_with (first
    | (go_at_call 134; refine (rbool_any _ _).mono ?_; rintro e _ ⟨rfl, d, os, rfl⟩))
  refine bodyPost_ret (v := .tuple #[.agg #[.int .i64 1, .int .i64 0, .string ⟨#[]⟩], .int .i64 2, .int .i64 0]) (by simp [results, Tryz.results113, boolI, go_sem]) rfl ⟨rfl, by repeat (first | exact Ext.refl _ | apply Ext.alloc | apply Ext.more)⟩
set_option maxHeartbeats 1000000 in
theorem rc_1u1 (w : World) (s : ByteArray) (hsz : (s.size : Int) ≤ 4611686018427387904) (hl : 0 < s.size) (hc : (s[0].toNat : Int) = 1) (h1 : 1 < s.size) (hd : (s[1].toNat : Int) = 1) :
    Calls Tryz.prog 113 #[.string s] w fun r w' => r = .returned (.tuple #[.agg #[.int .i64 1, .int .i64 1, .string ⟨#[]⟩], .int .i64 2, .int .i64 0]) ∧ Ext w w' := by
  have hne : ¬ s = ByteArray.empty := by rintro rfl; exact absurd hl (by decide)
  have hne2 : s.toList.isEmpty = false := by rw [empty_size]; simp; omega
  go_enter Tryz.func113, Tryz.ntmps113
  go_wp2_with (first
    | (go_at_call 134; refine (rbool_any _ _).mono ?_; rintro e _ ⟨rfl, d, os, rfl⟩))
  refine bodyPost_ret (v := .tuple #[.agg #[.int .i64 1, .int .i64 1, .string ⟨#[]⟩], .int .i64 2, .int .i64 0]) (by simp [results, Tryz.results113, boolI, go_sem]) rfl ⟨rfl, by repeat (first | exact Ext.refl _ | apply Ext.alloc | apply Ext.more)⟩
set_option maxHeartbeats 1000000 in
theorem rc_2e (w : World) (s : ByteArray) (hsz : (s.size : Int) ≤ 4611686018427387904) (x m e : Int) (he : (e == 0) = false) (hl : 0 < s.size) (hc : (s[0].toNat : Int) = 2) (C : RowKit.Hid (∀ w, Calls Tryz.prog 135 #[.string (s.extract 1 s.size)] w fun r w' => r = .returned (.tuple #[.int .i64 x, .int .i64 m, .int .i64 e]) ∧ Ext w w'))  :
    Calls Tryz.prog 113 #[.string s] w fun r w' => r = .returned (.tuple #[.agg #[.int .i64 0, .int .i64 0, .string ⟨#[]⟩], .int .i64 0, .int .i64 e]) ∧ Ext w w' := by
  have hne : ¬ s = ByteArray.empty := by rintro rfl; exact absurd hl (by decide)
  have hne2 : s.toList.isEmpty = false := by rw [empty_size]; simp; omega
  have he' : (e != 0) = true := by simpa using he
  go_enter Tryz.func113, Tryz.ntmps113
  go_wp2_with (first
    | (go_at_call 135; refine (C.out _).mono ?_; rintro e _ ⟨rfl, d, os, rfl⟩)
    | (go_at_call 55; refine (rint_any _ _).mono ?_; rintro e _ ⟨rfl, d, os, rfl⟩))
  refine bodyPost_ret (v := .tuple #[.agg #[.int .i64 0, .int .i64 0, .string ⟨#[]⟩], .int .i64 0, .int .i64 e]) (by simp [results, Tryz.results113, boolI, go_sem]) rfl ⟨rfl, by repeat (first | exact Ext.refl _ | apply Ext.alloc | apply Ext.more)⟩
set_option maxHeartbeats 1000000 in
theorem rc_2 (w : World) (s : ByteArray) (hsz : (s.size : Int) ≤ 4611686018427387904) (x m : Int) (hm1 : 0 ≤ m) (hm2 : m ≤ s.size) (hl : 0 < s.size) (hc : (s[0].toNat : Int) = 2) (C : RowKit.Hid (∀ w, Calls Tryz.prog 135 #[.string (s.extract 1 s.size)] w fun r w' => r = .returned (.tuple #[.int .i64 x, .int .i64 m, .int .i64 0]) ∧ Ext w w'))  :
    Calls Tryz.prog 113 #[.string s] w fun r w' => r = .returned (.tuple #[.agg #[.int .i64 2, .int .i64 x, .string ⟨#[]⟩], .int .i64 (m + 1), .int .i64 0]) ∧ Ext w w' := by
  have hne : ¬ s = ByteArray.empty := by rintro rfl; exact absurd hl (by decide)
  have hne2 : s.toList.isEmpty = false := by rw [empty_size]; simp; omega
  go_enter Tryz.func113, Tryz.ntmps113
  go_wp2_with (first
    | (go_at_call 135; refine (C.out _).mono ?_; rintro e _ ⟨rfl, d, os, rfl⟩)
    | (go_at_call 55; refine (rint_any _ _).mono ?_; rintro e _ ⟨rfl, d, os, rfl⟩))
  refine bodyPost_ret (v := .tuple #[.agg #[.int .i64 2, .int .i64 x, .string ⟨#[]⟩], .int .i64 (m + 1), .int .i64 0]) (by simp [results, Tryz.results113, boolI, go_sem]) rfl ⟨rfl, by repeat (first | exact Ext.refl _ | apply Ext.alloc | apply Ext.more)⟩
set_option maxHeartbeats 1000000 in
theorem rc_3e (w : World) (s : ByteArray) (hsz : (s.size : Int) ≤ 4611686018427387904) (t : ByteArray) (m e : Int) (he : (e == 0) = false) (hl : 0 < s.size) (hc : (s[0].toNat : Int) = 3) (C : RowKit.Hid (∀ w, Calls Tryz.prog 112 #[.string (s.extract 1 s.size)] w fun r w' => r = .returned (.tuple #[.string t, .int .i64 m, .int .i64 e]) ∧ Ext w w'))  :
    Calls Tryz.prog 113 #[.string s] w fun r w' => r = .returned (.tuple #[.agg #[.int .i64 0, .int .i64 0, .string ⟨#[]⟩], .int .i64 0, .int .i64 e]) ∧ Ext w w' := by
  have hne : ¬ s = ByteArray.empty := by rintro rfl; exact absurd hl (by decide)
  have hne2 : s.toList.isEmpty = false := by rw [empty_size]; simp; omega
  have he' : (e != 0) = true := by simpa using he
  go_enter Tryz.func113, Tryz.ntmps113
  go_wp2_with (first
    | (go_at_call 112; refine (C.out _).mono ?_; rintro e _ ⟨rfl, d, os, rfl⟩))
  refine bodyPost_ret (v := .tuple #[.agg #[.int .i64 0, .int .i64 0, .string ⟨#[]⟩], .int .i64 0, .int .i64 e]) (by simp [results, Tryz.results113, boolI, go_sem]) rfl ⟨rfl, by repeat (first | exact Ext.refl _ | apply Ext.alloc | apply Ext.more)⟩
set_option maxHeartbeats 1000000 in
theorem rc_3f (w : World) (s : ByteArray) (hsz : (s.size : Int) ≤ 4611686018427387904) (t : ByteArray) (hs : 64 < (t.size : Int)) (m : Int) (hl : 0 < s.size) (hc : (s[0].toNat : Int) = 3) (C : RowKit.Hid (∀ w, Calls Tryz.prog 112 #[.string (s.extract 1 s.size)] w fun r w' => r = .returned (.tuple #[.string t, .int .i64 m, .int .i64 0]) ∧ Ext w w'))  :
    Calls Tryz.prog 113 #[.string s] w fun r w' => r = .returned (.tuple #[.agg #[.int .i64 0, .int .i64 0, .string ⟨#[]⟩], .int .i64 0, .int .i64 5]) ∧ Ext w w' := by
  have hne : ¬ s = ByteArray.empty := by rintro rfl; exact absurd hl (by decide)
  have hne2 : s.toList.isEmpty = false := by rw [empty_size]; simp; omega
  go_enter Tryz.func113, Tryz.ntmps113
  go_wp2_with (first
    | (go_at_call 112; refine (C.out _).mono ?_; rintro e _ ⟨rfl, d, os, rfl⟩))
  refine bodyPost_ret (v := .tuple #[.agg #[.int .i64 0, .int .i64 0, .string ⟨#[]⟩], .int .i64 0, .int .i64 5]) (by simp [results, Tryz.results113, boolI, go_sem]) rfl ⟨rfl, by repeat (first | exact Ext.refl _ | apply Ext.alloc | apply Ext.more)⟩
set_option maxHeartbeats 1000000 in
theorem rc_3 (w : World) (s : ByteArray) (hsz : (s.size : Int) ≤ 4611686018427387904) (t : ByteArray) (hs : (t.size : Int) ≤ 64) (m : Int) (hm1 : 0 ≤ m) (hm2 : m ≤ s.size) (hl : 0 < s.size) (hc : (s[0].toNat : Int) = 3) (C : RowKit.Hid (∀ w, Calls Tryz.prog 112 #[.string (s.extract 1 s.size)] w fun r w' => r = .returned (.tuple #[.string t, .int .i64 m, .int .i64 0]) ∧ Ext w w'))  :
    Calls Tryz.prog 113 #[.string s] w fun r w' => r = .returned (.tuple #[.agg #[.int .i64 3, .int .i64 0, .string t], .int .i64 (m + 1), .int .i64 0]) ∧ Ext w w' := by
  have hne : ¬ s = ByteArray.empty := by rintro rfl; exact absurd hl (by decide)
  have hne2 : s.toList.isEmpty = false := by rw [empty_size]; simp; omega
  go_enter Tryz.func113, Tryz.ntmps113
  go_wp2_with (first
    | (go_at_call 112; refine (C.out _).mono ?_; rintro e _ ⟨rfl, d, os, rfl⟩))
  refine bodyPost_ret (v := .tuple #[.agg #[.int .i64 3, .int .i64 0, .string t], .int .i64 (m + 1), .int .i64 0]) (by simp [results, Tryz.results113, boolI, go_sem]) rfl ⟨rfl, by repeat (first | exact Ext.refl _ | apply Ext.alloc | apply Ext.more)⟩
end Go.Proofs.YtpchohjkelopoaaGreatDoor
