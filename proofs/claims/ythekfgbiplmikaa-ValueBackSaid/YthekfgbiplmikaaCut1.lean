/- The contracts of varint's Cut and CutInt, of the reference's Cut and CutInt. -/
import Derived.Test.YthekfgbiplmikaaCutP
import Derived.Test.YthekfgbiplmikaaRow
import Derived.WalkMore
import Derived.Deep.LoopGhost
set_option linter.unusedSimpArgs false
set_option linter.unusedVariables false
namespace Go.Proofs.Ythekfgbiplmikaa
open Go.RowKit

theorem BytesAt.lt {w : World} {b off : Nat} {l : List UInt8} (h : BytesAt w b off l) (hl : 0 < l.length) : b < w.heap.size := by
  have h0 := h 0 l[0] (by simp [List.getElem?_eq_getElem hl])
  rcases Nat.lt_or_ge b w.heap.size with h' | h'
  · exact h'
  · unfold World.cell? at h0
    simp [Array.getElem?_eq_none h'] at h0
theorem BytesAt.ext {w w' : World} {b off : Nat} {l : List UInt8} (h : BytesAt w b off l) (hx : Ext w w') : BytesAt w' b off l := by
  intro j u hj
  have hb := h.lt (by have := (List.getElem?_eq_some_iff.1 hj).1; omega)
  obtain ⟨d, os, rfl⟩ := hx
  rw [more_cell _ _ _ _ _ hb]
  exact h j u hj
theorem BytesAt.drop {w : World} {b off : Nat} {l : List UInt8} (h : BytesAt w b off l) (n : Nat) : BytesAt w b (off + n) (l.drop n) := by
  intro j u hj
  rw [List.getElem?_drop] at hj
  have := h _ _ hj
  rw [Nat.add_assoc]; exact this
theorem BytesAt.take {w : World} {b off : Nat} {l : List UInt8} (h : BytesAt w b off l) (n : Nat) : BytesAt w b off (l.take n) := by
  intro j u hj
  rw [List.getElem?_take] at hj
  split at hj
  · exact h _ _ hj
  · simp at hj

theorem pow7 (k : Nat) : (2 : Int) ^ (7 * k) = ((128 ^ k : Nat) : Int) := by
  rw [Nat.pow_mul' 2 7 k |> fun h => (by rw [Int.pow_mul]; rfl : (2 : Int) ^ (7 * k) = (128 : Int) ^ k)]
  simp
theorem wrap_u64 (n : Int) : IntKind.u64.wrap n = n % 18446744073709551616 := by simp [IntKind.wrap, IntKind.bits, IntKind.signed]
theorem u64_nat (n : Nat) (h : n < 18446744073709551616) : IntKind.u64.wrap (n : Int) = (n : Int) := by rw [wrap_u64]; omega

theorem or_last (v c k : Nat) (hk : k ≤ 9) (hv : v < 128 ^ k) (h : c * 128 ^ k < 18446744073709551616) :
    bits BinOp.or IntKind.u64 (v : Int) (IntKind.u64.wrap ((c : Int) * 2 ^ (7 * k))) = ((v + c * 128 ^ k : Nat) : Int) := by
  have hp : 128 ^ k ≤ 128 ^ 9 := Nat.pow_le_pow_right (by omega) hk
  rw [pow7, ← Int.natCast_mul, u64_nat _ h, u64_or_nat _ _ (by omega) h, Nat.or_comm]
  have e : (128 : Nat) ^ k = 2 ^ (7 * k) := by rw [Nat.pow_mul]
  rw [nat_join (7 * k) (c * 128 ^ k) v (by rw [e]; exact Nat.mul_mod_left _ _) (by rw [← e]; exact hv), Nat.add_comm]
theorem and127 (c : Nat) (hc : c < 256) : bits BinOp.and IntKind.u8 (c : Int) 127 = ((c % 128 : Nat) : Int) := by
  have := u8_and_nat c 127 hc (by omega)
  rw [nat_mask7] at this
  exact this
theorem or_step (v c k : Nat) (hc : c < 256) (hk : k ≤ 9) (hv : v < 128 ^ k) (h : c % 128 * 128 ^ k < 18446744073709551616) :
    bits BinOp.or IntKind.u64 (v : Int) (IntKind.u64.wrap (IntKind.u64.wrap (bits BinOp.and IntKind.u8 (c : Int) 127) * 2 ^ (7 * k))) = ((v + c % 128 * 128 ^ k : Nat) : Int) := by
  rw [and127 c hc, u64_nat _ (by omega), or_last v (c % 128) k hk hv h]
theorem ret_int3 {k k' k'' : IntKind} {a b c a' b' c' : Int} (h : a = a') (h' : b = b') (h'' : c = c') : Ending.returned (.tuple #[.int k a, .int k' b, .int k'' c]) = .returned (.tuple #[.int k a', .int k' b', .int k'' c']) := by rw [h, h', h'']

theorem pow_small {k c : Nat} (hk : k ≤ 8) (hc : c < 128) : c * 128 ^ k < 18446744073709551616 ∧ 128 ^ (k + 1) ≤ 9223372036854775808 := by
  obtain ⟨M, hM⟩ := pow_split k hk
  have ep : 128 ^ (k + 1) = 128 * 128 ^ k := by rw [Nat.pow_succ, Nat.mul_comm]
  have hp : 0 < 128 ^ k := Nat.pow_pos (by omega)
  have h1 : 128 ^ (k + 1) ≤ 128 ^ 9 := Nat.pow_le_pow_right (by omega) (by omega)
  have h2 : c * 128 ^ k < 128 * 128 ^ k := Nat.mul_lt_mul_of_pos_right hc hp
  omega

set_option maxHeartbeats 1000000 in
set_option maxRecDepth 20000 in
theorem vcut_core (b off cap : Nat) (l : List UInt8) (w : World) (hm : l.length ≤ maxLen) (hb : BytesAt w b off l) (x n : Nat) (e : Int) (hr : cutG 0 0 l = (x, n, e)) :
    Calls Try.prog 59 #[.slice (some ⟨b, off, none⟩) l.length cap] w fun r w' => r = .returned (.tuple #[.int .u64 (x : Int), .int .i64 (n : Int), .int .i64 e]) ∧ Ext w w' := by
  unfold maxLen at hm
  obtain ⟨len, hlen⟩ : ∃ len, l.length = len := ⟨_, rfl⟩
  have HL := Lib.hid hlen
  rw [hlen] at hm ⊢
  clear hlen
  have HB := Lib.hid hb
  have HR := Lib.hid hr
  clear hb hr
  go_enter Try.func59, Try.ntmps59
  go_wp2
  go_step3
  go_wp2
  go_step3
  go_wp2
  go_loop [5, 10] (fun vv ii => ∃ (k v : Nat), k ≤ 9 ∧ k ≤ len ∧ vv = .int .u64 v ∧ ii = .int .i64 k ∧ v < 128 ^ k ∧ cutG k v (l.drop k) = (x, n, e)) (fun _ ii => len - (intOf ii).toNat)
  case atStart => exact ⟨0, 0, by omega, by omega, rfl, rfl, by simp, by simpa using HR.out⟩
  case round =>
    obtain ⟨k, v, hk9, hkn, rfl, rfl, hv, hr⟩ := hrel
    have HV := Lib.hid hv
    clear hv HR
    by_cases hlt : k < len
    · have hkl : k < l.length := by rw [HL.out]; exact hlt
      obtain ⟨u, hu⟩ : ∃ u, l[k] = u := ⟨_, rfl⟩
      have hc := HB.out k u (by rw [← hu]; exact List.getElem?_eq_getElem hkl)
      have hd : l.drop k = u :: l.drop (k + 1) := by rw [← hu]; exact List.drop_eq_getElem_cons hkl
      rw [hd] at hr
      unfold cutG at hr
      have hc2 := u.toNat_lt
      generalize u.toNat = c at hr hc hc2
      have hc3 : c < 256 := hc2
      clear hc2 hd hu hkl
      by_cases h9 : k = 9
      · subst h9
        by_cases h1 : 1 < c
        · rw [if_pos ⟨rfl, h1⟩] at hr
          simp only [Prod.mk.injEq] at hr
          obtain ⟨rfl, rfl, rfl⟩ := hr
          go_wp2
          try rw [Exit.noGoto_ret]
          go_ret3
          exact ⟨rfl, Ext.refl _⟩
        · rw [if_neg (by omega), if_neg (by omega)] at hr
          by_cases h0 : c = 0
          · subst h0
            rw [if_pos ⟨rfl, by omega⟩] at hr
            simp only [Prod.mk.injEq] at hr
            obtain ⟨rfl, rfl, rfl⟩ := hr
            go_wp2
            try rw [Exit.noGoto_ret]
            go_ret3
            exact ⟨rfl, Ext.refl _⟩
          · have e1 : c = 1 := by omega
            subst e1
            rw [if_neg (by omega)] at hr
            simp only [Prod.mk.injEq] at hr
            have Hr := Lib.hid hr
            clear hr
            go_wp2
            try rw [Exit.noGoto_ret]
            go_ret3
            obtain ⟨rfl, rfl, rfl⟩ := Hr.out
            refine ⟨ret_int3 ?_ ?_ rfl, Ext.refl _⟩
            · have := or_last v 1 9 (by omega) HV.out (by omega)
              simpa [wrap_u64] using this
            · simp
      · have h9' : ((k : Int) == 9) = false := by simp; omega
        have hk8 : k ≤ 8 := by omega
        rw [if_neg (by omega)] at hr
        clear h9 hk9
        by_cases h1 : 128 ≤ c
        · rw [if_pos h1] at hr
          have Hr := Lib.hid hr
          clear hr
          go_wp2
          go_round
          case rel =>
            have hs := pow_small hk8 (Nat.mod_lt c (show 0 < 128 by omega))
            refine ⟨k + 1, v + c % 128 * 128 ^ k, by omega, by omega, by rw [or_step v c k hc3 (by omega) HV.out hs.1], by go_num, ?_, Hr.out⟩
            have h1 := HV.out
            have h2 : c % 128 * 128 ^ k ≤ 127 * 128 ^ k := Nat.mul_le_mul_right _ (by omega)
            rw [Nat.pow_succ]; omega
          case measure => simp [intOf]; omega
        · rw [if_neg h1] at hr
          by_cases h0 : c = 0
          · subst h0
            by_cases hk0 : k = 0
            · subst hk0
              rw [Nat.add_zero] at hc
              rw [if_neg (by omega)] at hr
              simp only [Prod.mk.injEq] at hr
              have Hr := Lib.hid hr
              clear hr
              go_wp2
              try rw [Exit.noGoto_ret]
              go_ret3
              obtain ⟨rfl, rfl, rfl⟩ := Hr.out
              refine ⟨ret_int3 ?_ ?_ rfl, Ext.refl _⟩
              · have := or_last v 0 0 (by omega) HV.out (by omega)
                simpa [wrap_u64] using this
              · simp
            · have hk1 : 0 < k := by omega
              clear hk0
              rw [if_pos ⟨rfl, hk1⟩] at hr
              simp only [Prod.mk.injEq] at hr
              obtain ⟨rfl, rfl, rfl⟩ := hr
              go_wp2
              try rw [Exit.noGoto_ret]
              go_ret3
              exact ⟨rfl, Ext.refl _⟩
          · have h0' : ((c : Int) == 0) = false := by simp; omega
            rw [if_neg (by omega)] at hr
            simp only [Prod.mk.injEq] at hr
            have Hr := Lib.hid hr
            have hs := Lib.hid (pow_small hk8 (show c < 128 by omega)).1
            clear hr h0
            go_wp2
            try rw [Exit.noGoto_ret]
            go_ret3
            obtain ⟨rfl, rfl, rfl⟩ := Hr.out
            refine ⟨ret_int3 ?_ ?_ rfl, Ext.refl _⟩
            · have := or_last v c k (by omega) HV.out hs.out
              simpa using this
            · simp
    · have hk' : k = len := by omega
      have : l.drop k = [] := by apply List.drop_eq_nil_of_le; have := HL.out; omega
      rw [this] at hr
      simp only [cutG, Prod.mk.injEq] at hr
      obtain ⟨rfl, rfl, rfl⟩ := hr
      subst hk'
      clear hlt this
      go_wp2
      try rw [Exit.noGoto_ret]
      go_ret3
      exact ⟨rfl, Ext.refl _⟩
end Go.Proofs.Ythekfgbiplmikaa
