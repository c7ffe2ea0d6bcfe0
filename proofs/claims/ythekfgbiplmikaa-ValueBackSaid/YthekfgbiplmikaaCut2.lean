/- The contracts of varint's zag, of the reference's Cut, and of both CutInts and CutTexts. -/
import Derived.Test.YthekfgbiplmikaaCut1
set_option linter.unusedSimpArgs false
set_option linter.unusedVariables false
namespace Go.Proofs.Ythekfgbiplmikaa
open Go.RowKit
theorem i64_xor_zero (a : Int) (h0 : 0 ≤ a) (h1 : a < 9223372036854775808) : bits BinOp.xor IntKind.i64 a 0 = a := by
  obtain ⟨n, rfl⟩ : ∃ n : Nat, a = n := ⟨a.toNat, by omega⟩
  show IntKind.i64.wrap ((BitVec.ofInt 64 (n : Int) ^^^ BitVec.ofInt 64 0).toNat : Int) = _
  have : (BitVec.ofInt 64 (n : Int) ^^^ BitVec.ofInt 64 0).toNat = n := by
    rw [show (BitVec.ofInt 64 0 : BitVec 64) = 0#64 from rfl, BitVec.xor_zero, ofInt_u64 n (by omega)]
  rw [this]
  simp [IntKind.wrap, IntKind.bits, IntKind.signed]; omega
theorem i64_xor_ones (a : Int) (h0 : 0 ≤ a) (h1 : a < 9223372036854775808) : bits BinOp.xor IntKind.i64 a (-1) = -a - 1 := by
  obtain ⟨n, rfl⟩ : ∃ n : Nat, a = n := ⟨a.toNat, by omega⟩
  show IntKind.i64.wrap ((BitVec.ofInt 64 (n : Int) ^^^ BitVec.ofInt 64 (-1)).toNat : Int) = _
  have : (BitVec.ofInt 64 (n : Int) ^^^ BitVec.ofInt 64 (-1)).toNat = 18446744073709551615 - n := by
    rw [show (BitVec.ofInt 64 (-1) : BitVec 64) = BitVec.allOnes 64 from rfl, BitVec.xor_allOnes, BitVec.toNat_not, ofInt_u64 n (by omega)]
  rw [this]
  simp [IntKind.wrap, IntKind.bits, IntKind.signed]; omega
theorem u64_and_one (v : Int) (h0 : 0 ≤ v) (h1 : v < 18446744073709551616) : bits BinOp.and IntKind.u64 v 1 = v % 2 := by
  rw [u64_and v 1 h0 h1 (by omega) (by omega)]
  have : (1 : Int).toNat = 1 := rfl
  rw [this, nat_mask1]; omega
def zagZ (v : Int) : Int := if v % 2 = 1 then -(v / 2) - 1 else v / 2
theorem zag_any (v : Int) (h0 : 0 ≤ v) (h1 : v < 18446744073709551616) (w : World) :
    Calls Try.prog 60 #[.int .u64 v] w fun e w' => e = .returned (.int .i64 (zagZ v)) ∧ Ext w w' := by
  have a1 := Lib.hid (u64_and_one v h0 h1)
  go_enter Try.func60, Try.ntmps60
  go_wp2
  go_ret
  refine ⟨ret_int ?_, Ext.refl _⟩
  show bits BinOp.xor IntKind.i64 (v / 2) (wrap64 (-wrap64 (bits BinOp.and IntKind.u64 v 1))) = _
  rw [a1.out]
  unfold wrap64
  unfold zagZ
  by_cases h : v % 2 = 1
  · rw [if_pos h, h]
    exact i64_xor_ones _ (by omega) (by omega)
  · rw [if_neg h, show v % 2 = 0 from by omega]
    exact i64_xor_zero _ (by omega) (by omega)


theorem valB_lt : ∀ l : List UInt8, valB l < 128 ^ l.length
  | [] => by simp [valB]
  | c :: l => by
    have := valB_lt l
    simp only [valB, List.length_cons, Nat.pow_succ]
    have h2 : c.toNat % 128 < 128 := Nat.mod_lt _ (by omega)
    omega
theorem valB_drop_le : ∀ (l : List UInt8) (k : Nat), valB (l.drop k) ≤ valB l
  | [], k => by simp
  | c :: l, 0 => by simp
  | c :: l, k + 1 => by
    have := valB_drop_le l k
    simp only [valB, List.drop_succ_cons]
    omega
theorem valB_down (l : List UInt8) (N j : Nat) (hN : N < l.length) (hj : j ≤ N) (hl : j < l.length) : valB ((l.take (N + 1)).drop j) = valB ((l.take (N + 1)).drop (j + 1)) * 128 + (l[j]).toNat % 128 := by
  have h : (l.take (N + 1)).drop j = l[j] :: (l.take (N + 1)).drop (j + 1) := by
    rw [List.drop_eq_getElem_cons (by simp; omega)]
    simp
  rw [h, valB]; omega
theorem cutG_fit : ∀ (l : List UInt8) (k v x n : Nat), k ≤ 9 → v < 128 ^ k → cutG k v l = (x, n, 0) → x < 18446744073709551616 := by
  intro l
  induction l with
  | nil => intro k v x n _ _ h; simp [cutG] at h
  | cons c l ih =>
    intro k v x n hk hv h
    unfold cutG at h
    have hc := c.toNat_lt
    by_cases c1 : k = 9 ∧ 1 < c.toNat
    · rw [if_pos c1] at h; simp at h
    rw [if_neg c1] at h
    by_cases c2 : 128 ≤ c.toNat
    · rw [if_pos c2] at h
      refine ih _ _ _ _ (by omega) ?_ h
      have h2 : c.toNat % 128 * 128 ^ k ≤ 127 * 128 ^ k := Nat.mul_le_mul_right _ (by omega)
      rw [Nat.pow_succ]; omega
    · rw [if_neg c2] at h
      by_cases c3 : c.toNat = 0 ∧ 0 < k
      · rw [if_pos c3] at h; simp at h
      rw [if_neg c3] at h
      simp only [Prod.mk.injEq, and_true] at h
      obtain ⟨rfl, rfl⟩ := h
      by_cases h9 : k = 9
      · subst h9
        have : c.toNat ≤ 1 := by omega
        have h2 : c.toNat * 128 ^ 9 ≤ 1 * 128 ^ 9 := Nat.mul_le_mul_right _ this
        omega
      · have hs := pow_small (k := k) (c := c.toNat) (by omega) (by omega)
        have ep : 128 ^ (k + 1) = 128 * 128 ^ k := by rw [Nat.pow_succ, Nat.mul_comm]
        have h2 : c.toNat * 128 ^ k ≤ 127 * 128 ^ k := Nat.mul_le_mul_right _ (by omega)
        have := hs.2
        omega
/-- the number that the reference's loop comes to fits -/
theorem valB_fit (l : List UInt8) (N x n : Nat) (e : Int) (h : (valB (l.take (N + 1)), N + 1, 0) = (x, n, e) ∧ cutG 0 0 l = (x, n, e)) : valB (l.take (N + 1)) < 18446744073709551616 := by
  obtain ⟨h1, h2⟩ := h
  simp only [Prod.mk.injEq] at h1
  obtain ⟨rfl, rfl, rfl⟩ := h1
  exact cutG_fit l 0 0 _ _ (by omega) (by simp) h2
theorem contN_step {l : List UInt8} {k : Nat} (hk : k < 9) (hl : k < l.length) (h : 128 ≤ (l[k]).toNat) : contN (9 - k) (l.drop k) = contN (9 - (k + 1)) (l.drop (k + 1)) + 1 := by
  rw [List.drop_eq_getElem_cons hl, show 9 - k = (9 - (k + 1)) + 1 from by omega, contN, if_pos h]
theorem contN_stop {l : List UInt8} {k : Nat} (hl : k < l.length) (h : ¬ 128 ≤ (l[k]).toNat) : contN (9 - k) (l.drop k) = 0 := by
  rw [List.drop_eq_getElem_cons hl]
  cases 9 - k with
  | zero => rfl
  | succ f => rw [contN, if_neg h]

set_option maxHeartbeats 2000000 in
set_option maxRecDepth 20000 in
theorem rcut_core (s : ByteArray) (hm : s.size ≤ maxLen) (w : World) (x n : Nat) (e : Int) (hr : cutG 0 0 s.data.toList = (x, n, e)) :
    Calls Try.prog 61 #[.string s] w fun r w' => r = .returned (.tuple #[.int .u64 (x : Int), .int .i64 (n : Int), .int .i64 e]) ∧ Ext w w' := by
  unfold maxLen at hm
  have hg := hr
  rw [cutG_ref _ _ _ (by omega)] at hg
  simp only [Nat.zero_add, Nat.sub_zero, Nat.pow_zero, Nat.mul_one] at hg
  have HG := Lib.hid hg
  have HR0 := Lib.hid hr
  have hlen : s.data.toList.length = s.size := by simp
  have HLN := Lib.hid hlen
  clear hg hr hlen
  go_enter Try.func61, Try.ntmps61
  go_wp2
  go_loop [5] (fun ii => ∃ k : Nat, ii = .int .i64 k ∧ k ≤ 8 ∧ k ≤ s.size ∧ contN 9 s.data.toList = k + contN (9 - k) (s.data.toList.drop k)) (fun ii => 9 - (intOf ii).toNat)
  case atStart => exact ⟨0, rfl, by omega, by omega, by simp⟩
  obtain ⟨k, rfl, hk, hks, hc⟩ := hrel
  have HC := Lib.hid hc
  clear hc
  by_cases hlt : k < s.size
  · have hkl : k < s.data.toList.length := by rw [HLN.out]; exact hlt
    have hg : s.data.toList[k]'hkl = s[k]'hlt := rfl
    by_cases h128 : 128 ≤ ((s[k]'hlt).toNat : Int)
    · have hst := contN_step (by omega) hkl (by rw [hg]; omega)
      have HC2 : RowKit.Hid (contN 9 s.data.toList = k + 1 + contN (9 - (k + 1)) (s.data.toList.drop (k + 1))) := Lib.hid (by rw [HC.out, hst]; omega)
      clear HC hst hg hkl
      by_cases h8 : k < 8
      · go_wp2
        go_round
        case rel => exact ⟨k + 1, by go_num, by omega, by omega, HC2.out⟩
        case measure => simp [intOf]; omega
      · have : k = 8 := by omega
        subst this
        have hN9 : contN 9 s.data.toList = 9 := by
          rw [HC2.out]
          cases s.data.toList.drop 9 <;> rfl
        have HG1 := HG.out
        rw [hN9] at HG1
        clear hN9 HC2 HG h8 hk
        by_cases h9 : 9 < s.size
        · have hN : 9 < s.size := h9
          have hd : s.data.toList.getD 9 0 = s[9]'h9 := by simp [List.getD, List.getElem?_eq_getElem (show 9 < s.data.toList.length by rw [HLN.out]; exact h9)]; rfl
          rw [hd, if_neg (by rw [HLN.out]; omega)] at HG1
          by_cases h91 : 1 < ((s[9]'h9).toNat : Int)
          · rw [if_pos ⟨rfl, by omega⟩] at HG1
            simp only [Prod.mk.injEq] at HG1
            obtain ⟨rfl, rfl, rfl⟩ := HG1
            clear hd
            go_wp2
            go_ret3
            exact ⟨rfl, Ext.refl _⟩
          rw [if_neg (by omega)] at HG1
          by_cases h90 : ((s[9]'h9).toNat : Int) = 0
          · rw [if_pos ⟨by omega, by omega⟩] at HG1
            simp only [Prod.mk.injEq] at HG1
            obtain ⟨rfl, rfl, rfl⟩ := HG1
            clear hd
            go_wp2
            go_ret3
            exact ⟨rfl, Ext.refl _⟩
          have h90' : (((s[9]'h9).toNat : Int) == 0) = false := by simpa using h90
          rw [if_neg (by omega)] at HG1
          have HR := Lib.hid (And.intro HG1 HR0.out)
          clear h90 hd HG1 HR0
          go_wp2
          have HV := Lib.hid (show valB (s.data.toList.take (9 + 1)) < 18446744073709551616 from valB_fit _ _ _ _ _ HR.out)
          go_loop [6, 7] (fun vv ii => ∃ (j V : Nat), j ≤ 9 + 1 ∧ vv = .int .u64 V ∧ ii = .int .i64 ((j : Int) - 1) ∧ V = valB ((s.data.toList.take (9 + 1)).drop j)) (fun _ ii => (intOf ii + 1).toNat)
          case atStart => exact ⟨9 + 1, 0, by omega, rfl, by go_num, by rw [List.drop_of_length_le (by simp; omega)]; rfl⟩
          case round =>
            obtain ⟨j, V, hj, rfl, rfl, hV⟩ := hrel
            have HV2 := Lib.hid hV
            clear hV
            cases j with
            | zero =>
              go_wp2
              go_ret3
              have h := HR.out.1
              simp only [Prod.mk.injEq] at h
              obtain ⟨rfl, rfl, rfl⟩ := h
              refine ⟨ret_int3 ?_ ?_ rfl, Ext.refl _⟩
              · rw [HV2.out]; simp
              · simp
            | succ j =>
              have hjs : j < s.size := by omega
              have hs := Lib.hid (valB_down s.data.toList 9 j (by simpa using hN) (by omega) (by simpa using hjs))
              have hg : s.data.toList[j]'(by simpa using hjs) = s[j]'hjs := rfl
              have hb : V * 128 + (s[j]'hjs).toNat % 128 ≤ 18446744073709551615 := by
                have h1 := hs.out
                rw [hg, ← HV2.out] at h1
                have h2 := valB_drop_le (s.data.toList.take (9 + 1)) j
                have h3 := HV.out
                omega
              have hb' : (V : Int) * 128 + ((s[j]'hjs).toNat : Int) % 128 ≤ 18446744073709551615 := by omega
              have hb0 : 0 ≤ ((s[j]'hjs).toNat : Int) % 128 := by omega
              clear hb hg
              go_wp2
              go_round
              case rel =>
                refine ⟨j, V * 128 + (s[j]'hjs).toNat % 128, by omega, ?_, by go_num, ?_⟩
                · first | rfl | go_num
                · have h1 := hs.out
                  rw [← HV2.out] at h1
                  rw [h1]; rfl
              case measure => simp [intOf] <;> omega
        · rw [if_pos (by rw [HLN.out]; omega)] at HG1
          simp only [Prod.mk.injEq] at HG1
          obtain ⟨rfl, rfl, rfl⟩ := HG1
          go_wp2
          go_ret3
          exact ⟨rfl, Ext.refl _⟩
    · have hst := contN_stop hkl (by rw [hg]; omega)
      have hNk : contN 9 s.data.toList = k := by rw [HC.out, hst]; rfl
      have HG1 := HG.out
      rw [hNk] at HG1
      have hd : s.data.toList.getD k 0 = s[k]'hlt := by simp [List.getD, List.getElem?_eq_getElem hkl]; rfl
      have hN : k < s.size := hlt
      rw [hd, if_neg (by rw [HLN.out]; omega), if_neg (by omega)] at HG1
      have hk9 : ((k : Int) == 9) = false := by simp; omega
      clear hNk hst HC HG hd hg hkl
      have h128' : ((s[k]'hlt).toNat : Int) < 128 := by omega
      clear h128
      by_cases hk0 : k = 0
      · subst hk0
        have hne : ¬ s = ByteArray.empty := by rintro rfl; exact absurd hlt (by decide)
        rw [if_neg (by omega)] at HG1
        have HR := Lib.hid (And.intro HG1 HR0.out)
        clear HG1 HR0
        go_wp2
        all_goals
          have HV := Lib.hid (show valB (s.data.toList.take (0 + 1)) < 18446744073709551616 from valB_fit _ _ _ _ _ HR.out)
          go_loop [6, 7] (fun vv ii => ∃ (j V : Nat), j ≤ 0 + 1 ∧ vv = .int .u64 V ∧ ii = .int .i64 ((j : Int) - 1) ∧ V = valB ((s.data.toList.take (0 + 1)).drop j)) (fun _ ii => (intOf ii + 1).toNat)
          case atStart => exact ⟨0 + 1, 0, by omega, rfl, by go_num, by rw [List.drop_of_length_le (by simp; omega)]; rfl⟩
          case round =>
            obtain ⟨j, V, hj, rfl, rfl, hV⟩ := hrel
            have HV2 := Lib.hid hV
            clear hV
            cases j with
            | zero =>
              go_wp2
              go_ret3
              have h := HR.out.1
              simp only [Prod.mk.injEq] at h
              obtain ⟨rfl, rfl, rfl⟩ := h
              refine ⟨ret_int3 ?_ ?_ rfl, Ext.refl _⟩
              · rw [HV2.out]; simp
              · simp
            | succ j =>
              have hjs : j < s.size := by omega
              have hs := Lib.hid (valB_down s.data.toList 0 j (by simpa using hN) (by omega) (by simpa using hjs))
              have hg : s.data.toList[j]'(by simpa using hjs) = s[j]'hjs := rfl
              have hb : V * 128 + (s[j]'hjs).toNat % 128 ≤ 18446744073709551615 := by
                have h1 := hs.out
                rw [hg, ← HV2.out] at h1
                have h2 := valB_drop_le (s.data.toList.take (0 + 1)) j
                have h3 := HV.out
                omega
              have hb' : (V : Int) * 128 + ((s[j]'hjs).toNat : Int) % 128 ≤ 18446744073709551615 := by omega
              have hb0 : 0 ≤ ((s[j]'hjs).toNat : Int) % 128 := by omega
              clear hb hg
              go_wp2
              go_round
              case rel =>
                refine ⟨j, V * 128 + (s[j]'hjs).toNat % 128, by omega, ?_, by go_num, ?_⟩
                · first | rfl | go_num
                · have h1 := hs.out
                  rw [← HV2.out] at h1
                  rw [h1]; rfl
              case measure => simp [intOf] <;> omega
      · have hk1 : 0 < k := by omega
        clear hk0
        by_cases h90 : ((s[k]'hlt).toNat : Int) = 0
        · rw [if_pos ⟨by omega, hk1⟩] at HG1
          simp only [Prod.mk.injEq] at HG1
          obtain ⟨rfl, rfl, rfl⟩ := HG1
          go_wp2
          go_ret3
          exact ⟨rfl, Ext.refl _⟩
        · have h90' : (((s[k]'hlt).toNat : Int) == 0) = false := by simpa using h90
          rw [if_neg (by omega)] at HG1
          have HR := Lib.hid (And.intro HG1 HR0.out)
          clear h90 HG1 HR0
          go_wp2
          have HV := Lib.hid (show valB (s.data.toList.take (k + 1)) < 18446744073709551616 from valB_fit _ _ _ _ _ HR.out)
          go_loop [6, 7] (fun vv ii => ∃ (j V : Nat), j ≤ k + 1 ∧ vv = .int .u64 V ∧ ii = .int .i64 ((j : Int) - 1) ∧ V = valB ((s.data.toList.take (k + 1)).drop j)) (fun _ ii => (intOf ii + 1).toNat)
          case atStart => exact ⟨k + 1, 0, by omega, rfl, by go_num, by rw [List.drop_of_length_le (by simp; omega)]; rfl⟩
          case round =>
            obtain ⟨j, V, hj, rfl, rfl, hV⟩ := hrel
            have HV2 := Lib.hid hV
            clear hV
            cases j with
            | zero =>
              go_wp2
              go_ret3
              have h := HR.out.1
              simp only [Prod.mk.injEq] at h
              obtain ⟨rfl, rfl, rfl⟩ := h
              refine ⟨ret_int3 ?_ ?_ rfl, Ext.refl _⟩
              · rw [HV2.out]; simp
              · simp
            | succ j =>
              have hjs : j < s.size := by omega
              have hs := Lib.hid (valB_down s.data.toList k j (by simpa using hN) (by omega) (by simpa using hjs))
              have hg : s.data.toList[j]'(by simpa using hjs) = s[j]'hjs := rfl
              have hb : V * 128 + (s[j]'hjs).toNat % 128 ≤ 18446744073709551615 := by
                have h1 := hs.out
                rw [hg, ← HV2.out] at h1
                have h2 := valB_drop_le (s.data.toList.take (k + 1)) j
                have h3 := HV.out
                omega
              have hb' : (V : Int) * 128 + ((s[j]'hjs).toNat : Int) % 128 ≤ 18446744073709551615 := by omega
              have hb0 : 0 ≤ ((s[j]'hjs).toNat : Int) % 128 := by omega
              clear hb hg
              go_wp2
              go_round
              case rel =>
                refine ⟨j, V * 128 + (s[j]'hjs).toNat % 128, by omega, ?_, by go_num, ?_⟩
                · first | rfl | go_num
                · have h1 := hs.out
                  rw [← HV2.out] at h1
                  rw [h1]; rfl
              case measure => simp [intOf] <;> omega
  · have hk' : k = s.size := by omega
    have hst : contN (9 - k) (s.data.toList.drop k) = 0 := by rw [List.drop_eq_nil_of_le (by rw [HLN.out]; omega)]; cases 9 - k <;> rfl
    have hNk : contN 9 s.data.toList = k := by rw [HC.out, hst]; rfl
    have HG1 := HG.out
    rw [hNk, if_pos (by rw [HLN.out]; omega)] at HG1
    simp only [Prod.mk.injEq] at HG1
    obtain ⟨rfl, rfl, rfl⟩ := HG1
    clear hst hNk HC HG hk'
    go_wp2
    go_ret3
    exact ⟨rfl, Ext.refl _⟩
end Go.Proofs.Ythekfgbiplmikaa
