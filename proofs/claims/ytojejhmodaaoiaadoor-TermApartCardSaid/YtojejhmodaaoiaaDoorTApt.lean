/- TermApart: two texts have one number just if they are the same, whatever was asked ahead, and they keep their numbers. The row lists strconv's and math/bits' tables. -/
import Derived.Test.YtojejhmodaaoiaaDoorTmR
import Derived.Test.YtojejhmodaaoiaaDoorTie
import Derived.Test.YtojejhmodaaoiaaDoorCards
set_option linter.unusedSimpArgs false
set_option linter.unusedVariables false
namespace Go.Proofs.YtojejhmodaaoiaaDoor
open Go.RowKit

attribute [go_sem] more_more Array.size_append
theorem ofF_ok (l : List ByteArray) (s : ByteArray) (h : l.length < 65536) : ∃ l' n, ofF l s = (l', n + 1, 0) ∧ idxF l' s = n + 1 ∧ l'.length ≤ l.length + 1 ∧ ∀ t, idxF l t ≠ 0 → idxF l' t = idxF l t := by
  unfold ofF
  by_cases h0 : idxF l s ≠ 0
  · exact ⟨l, idxF l s - 1, by rw [if_pos h0]; congr 2; omega, by omega, by omega, fun t _ => rfl⟩
  · have h0' : idxF l s = 0 := by simpa using h0
    refine ⟨l ++ [s], l.length, by rw [if_neg h0, if_neg (by omega)], ?_, by simp, fun t ht => ?_⟩
    · rw [idxF_snoc, if_pos h0', if_pos rfl]
    · rw [idxF_snoc, if_neg ht]
theorem ofF_old (l : List ByteArray) (s : ByteArray) (n : Nat) (h : idxF l s = n + 1) : ofF l s = (l, n + 1, 0) := by
  unfold ofF; rw [if_pos (by omega), h]
theorem StrsAt.form {w : World} {v : Value} {l : List ByteArray} (h : StrsAt w v l) : ∃ p cap, v = .slice p l.length cap ∧ l.length ≤ cap ∧ ∀ j u, l[j]? = some u → ∃ b off, p = some ⟨b, off, none⟩ ∧ w.cell? ⟨b, off + j, none⟩ = some (.string u) := by
  rcases h with ⟨p, cap, rfl, rfl⟩ | ⟨b, off, cap, rfl, h1, h2⟩
  · exact ⟨p, cap, rfl, Nat.zero_le _, fun j u hj => by simp at hj⟩
  · exact ⟨_, cap, rfl, h1, fun j u hj => ⟨b, off, rfl, h2 j u hj⟩⟩
theorem cell_lt2 {w : World} {a : Addr} {v : Value} (h : w.cell? a = some v) : a.block < w.heap.size := by
  rcases Nat.lt_or_ge a.block w.heap.size with h' | h'
  · exact h'
  · simp [World.cell?, Array.getElem?_eq_none h'] at h

set_option maxHeartbeats 8000000 in
set_option maxRecDepth 20000 in
theorem ta_few (p : Option Addr) (n cap : Nat) (l : List ByteArray) (a b : ByteArray) (w : World) (hn : l.length = n) (hc : ∀ j u, l[j]? = some u → ∃ b off, p = some ⟨b, off, none⟩ ∧ w.cell? ⟨b, off + j, none⟩ = some (.string u)) (hz : ∀ s ∈ l, s.size ≤ 140737488351232)
    (ha : a.size ≤ 140737488351232) (hb : b.size ≤ 140737488351232) (PB : Nat) (hP : Pow10 PB w) (hpg : PB ≤ w.heap.size) (hn6 : (n : Int) ≤ 60) :
    Calls Tryd.prog 3 #[.slice p n cap, .string a, .string b] w fun e w' => e = .returned (.bool true) ∧ Ext w w' := by
  have HP := Lib.hid hP
  have HN := Lib.hid hn
  have HC := Lib.hid hc
  have HZ := Lib.hid hz
  have HA := Lib.hid ha
  have HB := Lib.hid hb
  clear hP hn hc hz ha hb
  go_enter Tryd.func3, Tryd.ntmps3
  go_wp2_with (go_at_call 6; refine (new_any _).mono ?_; rintro e w1 ⟨rfl, hT1, hx1⟩; have T1 := Lib.hid hT1; have X1 := Lib.hid hx1.below; clear hT1 hx1)
  go_loopw [8] (fun ii wr => ∃ (k : Nat) (tv : Value) (tl : List ByteArray), ii = .int .i64 (k : Int) ∧ k ≤ n ∧ k ≤ 60 ∧ tl.length ≤ k ∧ TabAt w.heap.size (w.heap.size + 1) w.heap.size tv tl wr ∧ Below w.heap.size w wr) (fun ii _ => n - (intOf ii).toNat)
  case atStart => exact ⟨0, _, [], rfl, Nat.zero_le _, Nat.zero_le _, Nat.le_refl _, T1.out, X1.out⟩
  case round =>
    obtain ⟨k, tv, tl, rfl, hk, hk60, htl, hT, hX⟩ := hrel
    have T := Lib.hid hT
    have X := Lib.hid hX
    have HTL := Lib.hid htl
    clear hT hX htl T1 X1
    by_cases hlt : k < n ∧ k < 60
    · obtain ⟨hlt1, hlt2⟩ := hlt
      have hlt3 : (k : Int) < n := by omega
      have hlt4 : (k : Int) < 60 := by omega
      obtain ⟨u, hu⟩ : ∃ u, l[k]? = some u := ⟨_, List.getElem?_eq_getElem (by have := HN.out; omega)⟩
      have hus := HZ.out u (List.mem_of_getElem? hu)
      obtain ⟨b1, o1, rfl, cu⟩ := HC.out k u hu
      have hb1 := cell_lt2 cu
      have cu' : wr.cell? ⟨b1, o1 + k, none⟩ = some (.string u) := by rw [X.out.cell (p := ⟨b1, o1 + k, none⟩) hb1]; exact cu
      have HUS := Lib.hid hus
      clear hu cu hus
      go_wp2_with fail
      obtain ⟨l2, n2, r1, _, r3, _⟩ := ofF_ok tl u (by have := HTL.out; omega)
      refine (of_r (B := w.heap.size) (bm := w.heap.size) (by have := HUS.out; unfold maxLen; omega) r1 _ T.out).mono ?_
      rintro e w2 ⟨rfl, ⟨tv2, hT2⟩, hx2⟩
      have T2 := Lib.hid hT2
      have X2 := Lib.hid (X.out.trans hx2)
      have HL2 := Lib.hid r3
      clear hT2 hx2 r1 r3
      go_wp2_with fail
      go_roundw
      case rel => exact ⟨k + 1, tv2, l2, by go_num, by omega, by omega, by have := HTL.out; have := HL2.out; omega, T2.out, X2.out⟩
      case measure => simp [intOf]; omega
    · have hkx : n = k := by omega
      subst hkx
      clear hlt
      go_wp2_with fail
      obtain ⟨l2, x, r1, r2, r3, _⟩ := ofF_ok tl a (by have := HTL.out; omega)
      refine (of_r (B := w.heap.size) (bm := w.heap.size) (by have := HA.out; unfold maxLen; omega) r1 _ T.out).mono ?_
      rintro e w2 ⟨rfl, ⟨tv2, hT2⟩, hx2⟩
      have T2 := Lib.hid hT2
      have X2 := Lib.hid (X.out.trans hx2)
      have hl2 : l2.length ≤ 61 := by have := HTL.out; omega
      have HXA := Lib.hid r2
      clear hT2 hx2 r1 r3 r2
      go_wp2_with fail
      obtain ⟨l3, y, r1, r2, r3, r4⟩ := ofF_ok l2 b (by omega)
      refine (of_r (B := w.heap.size) (bm := w.heap.size) (by have := HB.out; unfold maxLen; omega) r1 _ T2.out).mono ?_
      rintro e w3 ⟨rfl, ⟨tv3, hT3⟩, hx3⟩
      have T3 := Lib.hid hT3
      have X3 := Lib.hid (X2.out.trans hx3)
      have HYB := Lib.hid r2
      have HXA3 := Lib.hid ((r4 a (by rw [HXA.out]; omega)).trans HXA.out)
      have HL3 := Lib.hid (show l3.length ≤ 62 by omega)
      clear hT3 hx3 r1 r3 r2 r4 T X T2 X2 HXA HTL hl2
      go_wp2_with fail
      go_loopw [13] (fun ii wr => ∃ (k : Nat) (tv : Value) (tl : List ByteArray), ii = .int .i64 (k : Int) ∧ k ≤ n ∧ k ≤ 60 ∧ tl.length ≤ 62 + k ∧ idxF tl a = x + 1 ∧ idxF tl b = y + 1 ∧ TabAt w.heap.size (w.heap.size + 1) w.heap.size tv tl wr ∧ Below w.heap.size w wr) (fun ii _ => n - (intOf ii).toNat)
      case atStart => exact ⟨0, _, l3, rfl, Nat.zero_le _, Nat.zero_le _, HL3.out, HXA3.out, HYB.out, T3.out, X3.out⟩
      case round =>
        obtain ⟨k', tv, tl, rfl, hk', hk60', htl, hxa, hyb, hT, hX⟩ := hrel
        have T := Lib.hid hT
        have X := Lib.hid hX
        have HTL := Lib.hid htl
        have HXA := Lib.hid hxa
        have HYB := Lib.hid hyb
        clear hT hX htl hxa hyb T3 X3 HXA3 HL3
        by_cases hlt : k' < n ∧ k' < 60
        · obtain ⟨hlt1, hlt2⟩ := hlt
          have hlt3 : (k' : Int) < n := by omega
          have hlt4 : (k' : Int) < 60 := by omega
          obtain ⟨u, hu⟩ : ∃ u, l[k']? = some u := ⟨_, List.getElem?_eq_getElem (by have := HN.out; omega)⟩
          have hus := HZ.out u (List.mem_of_getElem? hu)
          obtain ⟨b1, o1, rfl, cu⟩ := HC.out k' u hu
          have hb1 := cell_lt2 cu
          have cu' : wr.cell? ⟨b1, o1 + k', none⟩ = some (.string u) := by rw [X.out.cell (p := ⟨b1, o1 + k', none⟩) hb1]; exact cu
          have HUS := Lib.hid hus
          clear hu cu hus
          have hcat : (9223372036854775807 < u.size + a.size) = False := by have := HUS.out; have := HA.out; simp; omega
          have hcz : (u ++ a).size = u.size + a.size := by simp
          have HCZ := Lib.hid hcz
          clear hcz
          go_wp2_with fail
          obtain ⟨l2, n2, r1, _, r3, r4⟩ := ofF_ok tl (u ++ a) (by have := HTL.out; omega)
          refine (of_r (B := w.heap.size) (bm := w.heap.size) (by have := HUS.out; have := HA.out; have := HCZ.out; unfold maxLen; omega) r1 _ T.out).mono ?_
          rintro e w2 ⟨rfl, ⟨tv2, hT2⟩, hx2⟩
          have T2 := Lib.hid hT2
          have X2 := Lib.hid (X.out.trans hx2)
          have HL2 := Lib.hid r3
          have H4 := Lib.hid r4
          clear hT2 hx2 r1 r3 r4 hcat
          go_wp2_with fail
          go_roundw
          case rel => exact ⟨k' + 1, tv2, l2, by go_num, by omega, by omega, by have := HTL.out; have := HL2.out; omega, (H4.out a (by rw [HXA.out]; omega)).trans HXA.out, (H4.out b (by rw [HYB.out]; omega)).trans HYB.out, T2.out, X2.out⟩
          case measure => simp [intOf]; omega
        · have hkx : n = k' := by omega
          subst hkx
          clear hlt
          go_wp2_with fail
          refine (of_r (B := w.heap.size) (bm := w.heap.size) (by have := HA.out; unfold maxLen; omega) (ofF_old tl a x HXA.out) _ T.out).mono ?_
          rintro e w4 ⟨rfl, ⟨tv4, hT4⟩, hx4⟩
          have T4 := Lib.hid hT4
          have X5 := Lib.hid (X.out.trans hx4)
          clear hT4 hx4
          go_wp2_with fail
          refine (text_ok w.heap.size _ w.heap.size tv4 tl y b (idxF_get tl b y HYB.out) _ T4.out).mono ?_
          rintro e _ ⟨rfl, rfl⟩
          have HPW := Lib.hid (HP.out.below X5.out hpg)
          have hsz5 := X5.out.size
          by_cases hab : a = b
          · subst hab
            have hxy : x = y := by have := HXA.out; have h2 := HYB.out; omega
            subst hxy
            go_wp2_with (go_at_call 9; refine (awake_any PB _ (HPW.out) (by omega)).mono ?_; rintro e _ ⟨rfl, d, os, rfl⟩)
            go_ret
            exact ⟨rfl, (Ext.of_below X5.out).trans (by repeat (first | exact Ext.refl _ | apply Ext.alloc | apply Ext.more))⟩
          · have hab1 : (a.toList == b.toList) = false := by
              rw [beq_eq_false_iff_ne, Lib.toList_data, Lib.toList_data]
              intro e
              exact hab (ByteArray.ext (Array.toList_inj.1 e))
            have hab2 : (a.toList = b.toList) = False := by simpa using hab1
            have hxy : ((x : Int) == (y : Int)) = false := by
              simp
              intro e
              exact hab (idxF_inj _ a b (by rw [HXA.out, HYB.out]; omega) (by rw [HXA.out]; omega))
            have hxy2 : ((x : Int) = (y : Int)) = False := by simpa using hxy
            have hxy3 : (((x : Int) + 1) == ((y : Int) + 1)) = false := by simp at hxy ⊢; omega
            clear hab
            go_wp2_with (go_at_call 9; refine (awake_any PB _ (HPW.out) (by omega)).mono ?_; rintro e _ ⟨rfl, d, os, rfl⟩)
            go_ret
            exact ⟨rfl, (Ext.of_below X5.out).trans (by repeat (first | exact Ext.refl _ | apply Ext.alloc | apply Ext.more))⟩

set_option maxHeartbeats 8000000 in
set_option maxRecDepth 20000 in
theorem ta_many (p : Option Addr) (n cap : Nat) (l : List ByteArray) (a b : ByteArray) (w : World) (hn : l.length = n) (hc : ∀ j u, l[j]? = some u → ∃ b off, p = some ⟨b, off, none⟩ ∧ w.cell? ⟨b, off + j, none⟩ = some (.string u)) (hz : ∀ s ∈ l, s.size ≤ 140737488351232)
    (ha : a.size ≤ 140737488351232) (hb : b.size ≤ 140737488351232) (PB : Nat) (hP : Pow10 PB w) (hpg : PB ≤ w.heap.size) (hn6 : (60 : Int) < n) :
    Calls Tryd.prog 3 #[.slice p n cap, .string a, .string b] w fun e w' => e = .returned (.bool true) ∧ Ext w w' := by
  have HP := Lib.hid hP
  have HN := Lib.hid hn
  have HC := Lib.hid hc
  have HZ := Lib.hid hz
  have HA := Lib.hid ha
  have HB := Lib.hid hb
  clear hP hn hc hz ha hb
  go_enter Tryd.func3, Tryd.ntmps3
  go_wp2_with (go_at_call 6; refine (new_any _).mono ?_; rintro e w1 ⟨rfl, hT1, hx1⟩; have T1 := Lib.hid hT1; have X1 := Lib.hid hx1.below; clear hT1 hx1)
  go_loopw [8] (fun ii wr => ∃ (k : Nat) (tv : Value) (tl : List ByteArray), ii = .int .i64 (k : Int) ∧ k ≤ n ∧ k ≤ 60 ∧ tl.length ≤ k ∧ TabAt w.heap.size (w.heap.size + 1) w.heap.size tv tl wr ∧ Below w.heap.size w wr) (fun ii _ => n - (intOf ii).toNat)
  case atStart => exact ⟨0, _, [], rfl, Nat.zero_le _, Nat.zero_le _, Nat.le_refl _, T1.out, X1.out⟩
  case round =>
    obtain ⟨k, tv, tl, rfl, hk, hk60, htl, hT, hX⟩ := hrel
    have T := Lib.hid hT
    have X := Lib.hid hX
    have HTL := Lib.hid htl
    clear hT hX htl T1 X1
    by_cases hlt : k < n ∧ k < 60
    · obtain ⟨hlt1, hlt2⟩ := hlt
      have hlt3 : (k : Int) < n := by omega
      have hlt4 : (k : Int) < 60 := by omega
      obtain ⟨u, hu⟩ : ∃ u, l[k]? = some u := ⟨_, List.getElem?_eq_getElem (by have := HN.out; omega)⟩
      have hus := HZ.out u (List.mem_of_getElem? hu)
      obtain ⟨b1, o1, rfl, cu⟩ := HC.out k u hu
      have hb1 := cell_lt2 cu
      have cu' : wr.cell? ⟨b1, o1 + k, none⟩ = some (.string u) := by rw [X.out.cell (p := ⟨b1, o1 + k, none⟩) hb1]; exact cu
      have HUS := Lib.hid hus
      clear hu cu hus
      go_wp2_with fail
      obtain ⟨l2, n2, r1, _, r3, _⟩ := ofF_ok tl u (by have := HTL.out; omega)
      refine (of_r (B := w.heap.size) (bm := w.heap.size) (by have := HUS.out; unfold maxLen; omega) r1 _ T.out).mono ?_
      rintro e w2 ⟨rfl, ⟨tv2, hT2⟩, hx2⟩
      have T2 := Lib.hid hT2
      have X2 := Lib.hid (X.out.trans hx2)
      have HL2 := Lib.hid r3
      clear hT2 hx2 r1 r3
      go_wp2_with fail
      go_roundw
      case rel => exact ⟨k + 1, tv2, l2, by go_num, by omega, by omega, by have := HTL.out; have := HL2.out; omega, T2.out, X2.out⟩
      case measure => simp [intOf]; omega
    · have hkx : 60 = k := by omega
      subst hkx
      clear hlt
      go_wp2_with fail
      obtain ⟨l2, x, r1, r2, r3, _⟩ := ofF_ok tl a (by have := HTL.out; omega)
      refine (of_r (B := w.heap.size) (bm := w.heap.size) (by have := HA.out; unfold maxLen; omega) r1 _ T.out).mono ?_
      rintro e w2 ⟨rfl, ⟨tv2, hT2⟩, hx2⟩
      have T2 := Lib.hid hT2
      have X2 := Lib.hid (X.out.trans hx2)
      have hl2 : l2.length ≤ 61 := by have := HTL.out; omega
      have HXA := Lib.hid r2
      clear hT2 hx2 r1 r3 r2
      go_wp2_with fail
      obtain ⟨l3, y, r1, r2, r3, r4⟩ := ofF_ok l2 b (by omega)
      refine (of_r (B := w.heap.size) (bm := w.heap.size) (by have := HB.out; unfold maxLen; omega) r1 _ T2.out).mono ?_
      rintro e w3 ⟨rfl, ⟨tv3, hT3⟩, hx3⟩
      have T3 := Lib.hid hT3
      have X3 := Lib.hid (X2.out.trans hx3)
      have HYB := Lib.hid r2
      have HXA3 := Lib.hid ((r4 a (by rw [HXA.out]; omega)).trans HXA.out)
      have HL3 := Lib.hid (show l3.length ≤ 62 by omega)
      clear hT3 hx3 r1 r3 r2 r4 T X T2 X2 HXA HTL hl2
      go_wp2_with fail
      go_loopw [13] (fun ii wr => ∃ (k : Nat) (tv : Value) (tl : List ByteArray), ii = .int .i64 (k : Int) ∧ k ≤ n ∧ k ≤ 60 ∧ tl.length ≤ 62 + k ∧ idxF tl a = x + 1 ∧ idxF tl b = y + 1 ∧ TabAt w.heap.size (w.heap.size + 1) w.heap.size tv tl wr ∧ Below w.heap.size w wr) (fun ii _ => n - (intOf ii).toNat)
      case atStart => exact ⟨0, _, l3, rfl, Nat.zero_le _, Nat.zero_le _, HL3.out, HXA3.out, HYB.out, T3.out, X3.out⟩
      case round =>
        obtain ⟨k', tv, tl, rfl, hk', hk60', htl, hxa, hyb, hT, hX⟩ := hrel
        have T := Lib.hid hT
        have X := Lib.hid hX
        have HTL := Lib.hid htl
        have HXA := Lib.hid hxa
        have HYB := Lib.hid hyb
        clear hT hX htl hxa hyb T3 X3 HXA3 HL3
        by_cases hlt : k' < n ∧ k' < 60
        · obtain ⟨hlt1, hlt2⟩ := hlt
          have hlt3 : (k' : Int) < n := by omega
          have hlt4 : (k' : Int) < 60 := by omega
          obtain ⟨u, hu⟩ : ∃ u, l[k']? = some u := ⟨_, List.getElem?_eq_getElem (by have := HN.out; omega)⟩
          have hus := HZ.out u (List.mem_of_getElem? hu)
          obtain ⟨b1, o1, rfl, cu⟩ := HC.out k' u hu
          have hb1 := cell_lt2 cu
          have cu' : wr.cell? ⟨b1, o1 + k', none⟩ = some (.string u) := by rw [X.out.cell (p := ⟨b1, o1 + k', none⟩) hb1]; exact cu
          have HUS := Lib.hid hus
          clear hu cu hus
          have hcat : (9223372036854775807 < u.size + a.size) = False := by have := HUS.out; have := HA.out; simp; omega
          have hcz : (u ++ a).size = u.size + a.size := by simp
          have HCZ := Lib.hid hcz
          clear hcz
          go_wp2_with fail
          obtain ⟨l2, n2, r1, _, r3, r4⟩ := ofF_ok tl (u ++ a) (by have := HTL.out; omega)
          refine (of_r (B := w.heap.size) (bm := w.heap.size) (by have := HUS.out; have := HA.out; have := HCZ.out; unfold maxLen; omega) r1 _ T.out).mono ?_
          rintro e w2 ⟨rfl, ⟨tv2, hT2⟩, hx2⟩
          have T2 := Lib.hid hT2
          have X2 := Lib.hid (X.out.trans hx2)
          have HL2 := Lib.hid r3
          have H4 := Lib.hid r4
          clear hT2 hx2 r1 r3 r4 hcat
          go_wp2_with fail
          go_roundw
          case rel => exact ⟨k' + 1, tv2, l2, by go_num, by omega, by omega, by have := HTL.out; have := HL2.out; omega, (H4.out a (by rw [HXA.out]; omega)).trans HXA.out, (H4.out b (by rw [HYB.out]; omega)).trans HYB.out, T2.out, X2.out⟩
          case measure => simp [intOf]; omega
        · have hkx : 60 = k' := by omega
          subst hkx
          clear hlt
          go_wp2_with fail
          refine (of_r (B := w.heap.size) (bm := w.heap.size) (by have := HA.out; unfold maxLen; omega) (ofF_old tl a x HXA.out) _ T.out).mono ?_
          rintro e w4 ⟨rfl, ⟨tv4, hT4⟩, hx4⟩
          have T4 := Lib.hid hT4
          have X5 := Lib.hid (X.out.trans hx4)
          clear hT4 hx4
          go_wp2_with fail
          refine (text_ok w.heap.size _ w.heap.size tv4 tl y b (idxF_get tl b y HYB.out) _ T4.out).mono ?_
          rintro e _ ⟨rfl, rfl⟩
          have HPW := Lib.hid (HP.out.below X5.out hpg)
          have hsz5 := X5.out.size
          by_cases hab : a = b
          · subst hab
            have hxy : x = y := by have := HXA.out; have h2 := HYB.out; omega
            subst hxy
            go_wp2_with (go_at_call 9; refine (awake_any PB _ (HPW.out) (by omega)).mono ?_; rintro e _ ⟨rfl, d, os, rfl⟩)
            go_ret
            exact ⟨rfl, (Ext.of_below X5.out).trans (by repeat (first | exact Ext.refl _ | apply Ext.alloc | apply Ext.more))⟩
          · have hab1 : (a.toList == b.toList) = false := by
              rw [beq_eq_false_iff_ne, Lib.toList_data, Lib.toList_data]
              intro e
              exact hab (ByteArray.ext (Array.toList_inj.1 e))
            have hab2 : (a.toList = b.toList) = False := by simpa using hab1
            have hxy : ((x : Int) == (y : Int)) = false := by
              simp
              intro e
              exact hab (idxF_inj _ a b (by rw [HXA.out, HYB.out]; omega) (by rw [HXA.out]; omega))
            have hxy2 : ((x : Int) = (y : Int)) = False := by simpa using hxy
            have hxy3 : (((x : Int) + 1) == ((y : Int) + 1)) = false := by simp at hxy ⊢; omega
            clear hab
            go_wp2_with (go_at_call 9; refine (awake_any PB _ (HPW.out) (by omega)).mono ?_; rintro e _ ⟨rfl, d, os, rfl⟩)
            go_ret
            exact ⟨rfl, (Ext.of_below X5.out).trans (by repeat (first | exact Ext.refl _ | apply Ext.alloc | apply Ext.more))⟩

theorem ta_walk (v : Value) (l : List ByteArray) (a b : ByteArray) (w : World) (h : StrsAt w v l) (hz : ∀ s ∈ l, s.size ≤ 140737488351232) (ha : a.size ≤ 140737488351232) (hb : b.size ≤ 140737488351232) (PB : Nat) (hP : Pow10 PB w) (hpg : PB ≤ w.heap.size) :
    Calls Tryd.prog 3 #[v, .string a, .string b] w fun e w' => e = .returned (.bool true) ∧ Ext w w' := by
  obtain ⟨p, cap, rfl, h1, h2⟩ := h.form
  rcases Nat.lt_or_ge 60 l.length with hl | hl
  · exact ta_many p _ cap l a b w rfl h2 hz ha hb PB hP hpg (by omega)
  · exact ta_few p _ cap l a b w rfl h2 hz ha hb PB hP hpg (by omega)

namespace TermApartRow
/-! ### The row, and the card -/
section
open Go.ChangeShapes Go.WideShapes Go.ChangeAt Go.RowKit Go.Joins
open Go.ChangeMaps (open_string shut_string)
theorem own : ownKnob Tryd.prog.godebug = none := by kernel_rfl
theorem laid : laidOutB Tryd.prog = true := by kernel_rfl

set_option maxRecDepth 100000 in
theorem lifted (os : Os) (started : os.Started) (H : Type) (enc : TypeId × Value → H) :
    ReturnsInHanded {} Tryd.checked os 3 .any (fun w args => (Rows.termApartSpec.pre enc Tryd.prog Tryd.f3 Rows.termApartRow.domain false w args ∧ laidMetH Tryd.prog Rows.termApartRow.laid w) ∧ sizedMet enc Tryd.prog Tryd.f3 (OpenSpec.ofChange Rows.termApartSpec) false w args) (Rows.termApartSpec.post enc Tryd.prog Tryd.f3 false true false false) := by
  refine returnsInHanded_of_change_and (C := Tryd.checked) (X := fun w _ => laidMetH Tryd.prog Rows.termApartRow.laid w) (fun _ _ _ hh h => h.of_heap hh) own started (by kernel_rfl) Tryd.func3
    (ChangeSpec.witness_shaped (enc := enc) (C := Tryd.checked) (os := os) (X := fun w _ => laidMetH Tryd.prog Rows.termApartRow.laid w) false (World.doorLaid Tryd.prog 24 os) #[.slice none 0 0, .string ⟨#[]⟩, .string ⟨#[]⟩] 8 rfl (World.shaped_of_RefB (by kernel_rfl) (by kernel_rfl)) (by kernel_rfl) (by kernel_rfl) (by kernel_rfl) (door_met os _)) ?_
  intro W base args ds gs before hval0 hW hcnd hsz0 hL _
  have hval : ∀ (j : Nat) t v, Tryd.f3.params[j]? = some t → args[j]? = some v → Value.okWide Tryd.prog W .any base t v := hval0
  have hW' := hW
  obtain ⟨p, q, hA0, hV, rfl, hfz, hnd⟩ := hW
  have hA : DataW.TrodAll enc Tryd.prog W 0 (fun _ => true) true Tryd.f3.params.toList args.toList ds p := hA0
  have hAk := hA
  have hpr : Tryd.f3.params.toList.all (fun t => Tryd.prog.readableRec t && decide (t < Tryd.prog.types.size)) = true := by kernel_rfl
  have hlt := hA.lt
  obtain ⟨rfl, rfl⟩ := trodVars_none hV
  have hsz : (DataW.weightsEach Tryd.prog (Tryd.f3.params.toList ++ []) (ds ++ [])).all (· ≤ reachBytes) = true := hsz0
  rw [Tryd.params3] at hA hval hsz
  simp only [List.append_nil] at hsz
  obtain ⟨v0, vs0, d0, ds0, p0, q0, hargs, rfl, rfl, h0, r0⟩ := trodAll_cons hA
  obtain ⟨v1, vs1, d1, ds1, p1, q1, rfl, rfl, rfl, h1, r1⟩ := trodAll_cons r0
  obtain ⟨v2, vs2, d2, ds2, p2, q2, rfl, rfl, rfl, h2, r2⟩ := trodAll_cons r1
  obtain ⟨rfl, rfl, rfl⟩ := trodAll_nil r2
  obtain rfl : args = #[v0, v1, v2] := by cases args; simp_all
  obtain ⟨ahead_l, hahead, hzahead⟩ := open_strsR Tryd.underlying22 (hval 0 22 v0 rfl rfl) h0 hsz (j := 0) rfl rfl
  obtain ⟨a, rfl, rfl, rfl, wa⟩ := open_string Tryd.underlying9 (hval 1 9 v1 rfl rfl) h1
  have sa : a.size ≤ 140737488351232 := by
    have h := sized_string hsz (j := 1) rfl rfl
    have e : reachBytes = 140737488351232 := by decide
    rw [e] at h
    simpa using h
  obtain ⟨b, rfl, rfl, rfl, wb⟩ := open_string Tryd.underlying9 (hval 2 9 v2 rfl rfl) h2
  have sb : b.size ≤ 140737488351232 := by
    have h := sized_string hsz (j := 2) rfl rfl
    have e : reachBytes = 140737488351232 := by decide
    rw [e] at h
    simpa using h
  clear hA0 hval0 hsz0
  refine (ta_walk v0 ahead_l a b W hahead hzahead sa sb W.heap.size (of_laid hL) (Nat.le_refl _)).mono fun e W' ⟨he, hx⟩ => ?_
  subst he
  exact ⟨_, rfl, _, _, _, [], _, [], hW', trodAll_mk1 (shut_bool Tryd.underlying4 _), trodAll_below laid hx.below hpr hAk hlt, rfl, hx.below.frame _, fun h => by cases h⟩

theorem row_proved : Rows.TermApartSaid :=
  OpenClaim.holds_of_wide 3 Tryd.f3 rfl rfl rfl rfl rfl rfl rfl ⟨rfl, rfl, rfl, rfl, rfl⟩ rfl rfl rfl rfl rfl (by kernel_rfl) Tryd.func3 (by kernel_rfl)
    (of_decide_eq_true (by kernel_rfl)) (by unfold Func.isWrapper; first | (rw [if_pos (by decide +kernel)]; kernel_rfl) | (rw [if_neg (by decide +kernel)]; exact ⟨rfl, rfl⟩))
    (fun os started H enc _ => lifted os started H enc)
theorem proved : Rows.TermApartCardSaid :=
  Claim7.holds_tied_plain_at .later [] Rows.termApartCard.laidKinds true Rows.termApartCard.stood.harness true
    row_proved (fun _ h => by cases h) (by kernel_rfl) (fun _ h => by cases h) termApart_row_tie rfl ⟨rfl, rfl⟩ (by kernel_rfl) rfl
    (fun f fn hf hfn => by
      obtain rfl : f = 3 := Option.some.inj ((show Tryd.prog.funcNamed "plenum/plenumlaw02.TermApart" = some 3 by kernel_rfl).symm.trans hf) |>.symm
      obtain rfl : fn = Tryd.f3 := (Option.some.inj (Tryd.func3.symm.trans hfn)).symm
      exact ⟨by kernel_rfl, fun j t ht => by
        rw [Tryd.params3] at ht
        have key : ∀ t ∈ Tryd.f3.params.toList, Tryd.prog.wantsStandIn t = false := by decide +kernel
        exact key t (by rw [Tryd.params3]; exact List.mem_of_getElem? (by simpa using ht))⟩) (by kernel_rfl)
end
#print axioms proved
end TermApartRow
end Go.Proofs.YtojejhmodaaoiaaDoor
