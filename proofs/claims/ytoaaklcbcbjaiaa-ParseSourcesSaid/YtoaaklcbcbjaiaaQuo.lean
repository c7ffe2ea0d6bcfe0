/- Quote: the program's and the document's come to quoteF. -/
import Derived.Test.YtoaaklcbcbjaiaaLexQ
import Derived.Test.YtoaaklcbcbjaiaaBld
import Derived.Outline
set_option linter.unusedSimpArgs false
set_option linter.unusedVariables false
namespace Go.Proofs.Ytoaaklcbcbjaiaa
open Go.RowKit

theorem bld_acc {B b : Nat} {acc : List UInt8} {l : List Value} {m : List UInt8} {w : World} (h : Bld B b (cellsB acc ++ l) w) (hl : l = cellsB m) : Bld B b (cellsB (acc ++ m)) w := by
  rw [cellsB_append, ← hl]; exact h
theorem quo_step (L : List UInt8) (k : Nat) (u : UInt8) (hu : L[k]? = some u) : (L.take (k + 1)).flatMap quo1 = (L.take k).flatMap quo1 ++ quo1 u := by
  rw [List.take_add_one, hu]; simp [List.flatMap_append]
theorem ok_step (L : List UInt8) (k : Nat) (u : UInt8) (hu : L[k]? = some u) (h : (L.take k).all okQ = true) : (L.take (k + 1)).all okQ = okQ u := by
  rw [List.take_add_one, hu, List.all_append, h]; simp
theorem ok_bad (L : List UInt8) (k : Nat) (u : UInt8) (hu : L[k]? = some u) (h : okQ u = false) : L.all okQ = false := by
  have hk := (List.getElem?_eq_some_iff.1 hu)
  rw [List.all_eq_false]
  exact ⟨u, List.mem_of_getElem? hu, by simp [h]⟩
theorem ok_done (L : List UInt8) (k : Nat) (hk : L.length ≤ k) (h : (L.take k).all okQ = true) : L.all okQ = true := by rwa [List.take_of_length_le hk] at h

set_option maxHeartbeats 2000000 in
set_option maxRecDepth 20000 in
theorem quote_any (s : ByteArray) (q : List UInt8) (er : Int) (hr : quoteF s.data.toList = (q, er)) (w : World) :
    Calls Try.prog 125 #[.string s] w fun e w' => e = .returned (.tuple #[.string ⟨q.toArray⟩, .int .i64 er]) ∧ Ext w w' := by
  have hl : s.data.toList.length = s.size := by simp
  unfold quoteF at hr
  by_cases h64 : 64 < s.data.toList.length
  · rw [if_pos h64] at hr
    simp only [Prod.mk.injEq] at hr
    obtain ⟨rfl, rfl⟩ := hr
    have h64' : (64 : Int) < s.size := by omega
    clear h64 hl
    go_enter Try.func125, Try.ntmps125
    go_wp2_with fail
    go_ret2
    exact ⟨rfl, by repeat (first | exact Ext.refl _ | apply Ext.alloc | apply Ext.more)⟩
  rw [if_neg h64] at hr
  have h64' : (s.size : Int) ≤ 64 := by omega
  clear h64 hl
  go_enter Try.func125, Try.ntmps125
  go_wp2_with fail
  refine (writeByte_any w.heap.size w.heap.size (cellsB []) 34 _ (Lib.fresh_isBuilder 128 5 w) (by simp [cellsB]) (by simp)).mono ?_
  rintro e w1 ⟨rfl, hB1, hbl1⟩
  have HB1 := Lib.hid hB1
  have HBL1 := Lib.hid (((Below.refl _ _).alloc (Nat.le_refl _) _).trans hbl1)
  clear hB1 hbl1
  go_wp2_with fail
  go_loopw [13] (fun ii wr => ∃ (k : Nat) (acc : List UInt8), ii = .int .i64 (k : Int) ∧ k ≤ s.size ∧ (s.data.toList.take k).all okQ = true ∧ acc = 34 :: (s.data.toList.take k).flatMap quo1 ∧ Bld w.heap.size w.heap.size (cellsB acc) wr ∧ Below w.heap.size w wr) (fun ii _ => s.size - (intOf ii).toNat)
  case atStart => exact ⟨0, [34], rfl, Nat.zero_le _, rfl, rfl, HB1.out, HBL1.out⟩
  case round =>
    obtain ⟨k, acc, rfl, hk, hok, hacc, hg, hbl⟩ := hrel
    have hal : acc.length ≤ 200 := by
      have := quo1_len (s.data.toList.take k)
      rw [hacc]; simp at this ⊢; omega
    have HAL := Lib.hid hal
    have HBL := Lib.hid hbl
    have HB := Lib.hid hg
    clear hal hbl HB1 HBL1
    have HK := Lib.hid hok
    have HAC := Lib.hid hacc
    have HGX := Lib.hid hg
    clear hok hacc hg
    by_cases hlt : k < s.size
    · have hu : s.data.toList[k]? = some (s[k]'hlt) := by rw [List.getElem?_eq_getElem (by simpa using hlt)]; rfl
      have h256 := (s[k]'hlt).toNat_lt
      have HU := Lib.hid hu
      clear hu
      by_cases c1 : (s[k]'hlt).toNat = 10
      · have e1 : ((s[k]'hlt).toNat : Int) = 10 := by first | omega | (simp; omega)
        have hq1 : quo1 (s[k]'hlt) = [92, 110] := by rw [quo1, if_pos c1]
        have hst := quo_step _ k _ HU.out
        rw [hq1] at hst
        have HST := Lib.hid hst
        have HOK := Lib.hid (by rw [ok_step _ k _ HU.out HK.out]; simp [okQ]; omega : (s.data.toList.take (k + 1)).all okQ = true)
        clear hq1 hst
        go_wp2_with fail
        refine (writeString_any w.heap.size w.heap.size (cellsB acc) ⟨#[92, 110]⟩ _ HB.out (by rw [cellsB_length]; have := HAL.out; have e : (⟨#[92, 110]⟩ : ByteArray).size = 2 := rfl; omega) (by have := HBL.out.size; omega)).mono ?_
        rintro e w2 ⟨rfl, hB2, hbl2⟩
        have HB2 := Lib.hid hB2
        have HBL2 := Lib.hid (HBL.out.trans hbl2)
        clear hB2 hbl2
        go_wp2_with fail
        go_roundw
        case rel =>
          refine ⟨k + 1, _, by go_num, by omega, HOK.out, ?_, bld_acc HB2.out (m := [92, 110]) (by rfl), HBL2.out⟩
          rw [HST.out, HAC.out]; simp
        case measure => simp [intOf]; omega
      by_cases c2 : (s[k]'hlt).toNat < 32
      · have e1 : (((s[k]'hlt).toNat : Int) == 10) = false := by first | omega | (simp; omega)
        have e2 : (((s[k]'hlt).toNat : Int) < 32) = True := by first | omega | (simp; omega)
        have hbad := Lib.hid (ok_bad _ k _ HU.out (by simp [okQ]; omega))
        go_wp2_with fail
        go_ret2
        rw [hbad.out] at hr
        simp only [Bool.false_eq_true, if_false, Prod.mk.injEq] at hr
        obtain ⟨rfl, rfl⟩ := hr
        exact ⟨rfl, Ext.of_below HBL.out⟩
      by_cases c3 : 126 < (s[k]'hlt).toNat
      · have e1 : (((s[k]'hlt).toNat : Int) == 10) = false := by first | omega | (simp; omega)
        have e2 : (((s[k]'hlt).toNat : Int) < 32) = False := by first | omega | (simp; omega)
        have e3 : (126 < ((s[k]'hlt).toNat : Int)) = True := by first | omega | (simp; omega)
        have hbad := Lib.hid (ok_bad _ k _ HU.out (by simp [okQ]; omega))
        go_wp2_with fail
        go_ret2
        rw [hbad.out] at hr
        simp only [Bool.false_eq_true, if_false, Prod.mk.injEq] at hr
        obtain ⟨rfl, rfl⟩ := hr
        exact ⟨rfl, Ext.of_below HBL.out⟩
      by_cases c4 : (s[k]'hlt).toNat = 34
      · have e1 : ((s[k]'hlt).toNat : Int) = 34 := by first | omega | (simp; omega)
        have hq1 : quo1 (s[k]'hlt) = [92, s[k]'hlt] := by rw [quo1, if_neg c1, if_pos (Or.inl c4)]
        have hst := quo_step _ k _ HU.out
        rw [hq1] at hst
        have HST := Lib.hid hst
        have HOK := Lib.hid (by rw [ok_step _ k _ HU.out HK.out]; simp [okQ]; omega : (s.data.toList.take (k + 1)).all okQ = true)
        clear hq1 hst
        go_wp2_with fail
        refine (writeByte_any w.heap.size w.heap.size (cellsB acc) _ _ HB.out (by simp only [cellsB_length, List.length_append, List.length_cons, List.length_nil]; have := HAL.out; omega) (by have := HBL.out.size; omega)).mono ?_
        rintro e w2 ⟨rfl, hB2, hbl2⟩
        have HB2 := Lib.hid hB2
        have HBL2 := Lib.hid (HBL.out.trans hbl2)
        clear hB2 hbl2
        go_wp2_with fail
        refine (writeByte_any w.heap.size w.heap.size (cellsB acc ++ [.int .u8 92]) 34 _ HB2.out (by simp only [cellsB_length, List.length_append, List.length_cons, List.length_nil]; have := HAL.out; omega) (by have := HBL2.out.size; omega)).mono ?_
        rintro e w3 ⟨rfl, hB3, hbl3⟩
        have HB3 := Lib.hid hB3
        have HBL3 := Lib.hid (HBL2.out.trans hbl3)
        clear hB3 hbl3
        go_wp2_with fail
        go_roundw
        case rel =>
          refine ⟨k + 1, _, by go_num, by omega, HOK.out, ?_, bld_acc (l := [.int .u8 92, .int .u8 34]) (by simpa using HB3.out) (m := [92, s[k]'hlt]) (by simp [cellsB, c4]), HBL3.out⟩
          rw [HST.out, HAC.out]; simp
        case measure => simp [intOf]; omega
      by_cases c5 : (s[k]'hlt).toNat = 92
      · have e1 : ((s[k]'hlt).toNat : Int) = 92 := by first | omega | (simp; omega)
        have hq1 : quo1 (s[k]'hlt) = [92, s[k]'hlt] := by rw [quo1, if_neg c1, if_pos (Or.inr c5)]
        have hst := quo_step _ k _ HU.out
        rw [hq1] at hst
        have HST := Lib.hid hst
        have HOK := Lib.hid (by rw [ok_step _ k _ HU.out HK.out]; simp [okQ]; omega : (s.data.toList.take (k + 1)).all okQ = true)
        clear hq1 hst
        go_wp2_with fail
        refine (writeByte_any w.heap.size w.heap.size (cellsB acc) _ _ HB.out (by simp only [cellsB_length, List.length_append, List.length_cons, List.length_nil]; have := HAL.out; omega) (by have := HBL.out.size; omega)).mono ?_
        rintro e w2 ⟨rfl, hB2, hbl2⟩
        have HB2 := Lib.hid hB2
        have HBL2 := Lib.hid (HBL.out.trans hbl2)
        clear hB2 hbl2
        go_wp2_with fail
        refine (writeByte_any w.heap.size w.heap.size (cellsB acc ++ [.int .u8 92]) 92 _ HB2.out (by simp only [cellsB_length, List.length_append, List.length_cons, List.length_nil]; have := HAL.out; omega) (by have := HBL2.out.size; omega)).mono ?_
        rintro e w3 ⟨rfl, hB3, hbl3⟩
        have HB3 := Lib.hid hB3
        have HBL3 := Lib.hid (HBL2.out.trans hbl3)
        clear hB3 hbl3
        go_wp2_with fail
        go_roundw
        case rel =>
          refine ⟨k + 1, _, by go_num, by omega, HOK.out, ?_, bld_acc (l := [.int .u8 92, .int .u8 92]) (by simpa using HB3.out) (m := [92, s[k]'hlt]) (by simp [cellsB, c5]), HBL3.out⟩
          rw [HST.out, HAC.out]; simp
        case measure => simp [intOf]; omega
      · have e1 : (((s[k]'hlt).toNat : Int) == 10) = false := by first | omega | (simp; omega)
        have e2 : (((s[k]'hlt).toNat : Int) < 32) = False := by first | omega | (simp; omega)
        have e3 : (126 < ((s[k]'hlt).toNat : Int)) = False := by first | omega | (simp; omega)
        have e4 : (((s[k]'hlt).toNat : Int) == 34) = false := by first | omega | (simp; omega)
        have e5 : (((s[k]'hlt).toNat : Int) == 92) = false := by first | omega | (simp; omega)
        have hq1 : quo1 (s[k]'hlt) = [s[k]'hlt] := by rw [quo1, if_neg c1, if_neg (by omega)]
        have hst := quo_step _ k _ HU.out
        rw [hq1] at hst
        have HST := Lib.hid hst
        have HOK := Lib.hid (by rw [ok_step _ k _ HU.out HK.out]; simp [okQ]; omega : (s.data.toList.take (k + 1)).all okQ = true)
        clear hq1 hst
        go_wp2_with fail
        refine (writeByte_any w.heap.size w.heap.size (cellsB acc) _ _ HB.out (by simp only [cellsB_length, List.length_append, List.length_cons, List.length_nil]; have := HAL.out; omega) (by have := HBL.out.size; omega)).mono ?_
        rintro e w2 ⟨rfl, hB2, hbl2⟩
        have HB2 := Lib.hid hB2
        have HBL2 := Lib.hid (HBL.out.trans hbl2)
        clear hB2 hbl2
        go_wp2_with fail
        go_roundw
        case rel =>
          refine ⟨k + 1, _, by go_num, by omega, HOK.out, ?_, bld_acc HB2.out (m := [s[k]'hlt]) (by rfl), HBL2.out⟩
          rw [HST.out, HAC.out]; simp
        case measure => simp [intOf]; omega
    · have hks : k = s.size := by omega
      have hd := ok_done s.data.toList k (by simp; omega) HK.out
      rw [if_pos hd] at hr
      simp only [Prod.mk.injEq] at hr
      obtain ⟨rfl, rfl⟩ := hr
      have he : acc = 34 :: s.data.toList.flatMap quo1 := by have := HAC.out; rwa [List.take_of_length_le (by simp; omega)] at this
      have HE := Lib.hid he
      subst hks
      clear hd he
      go_wp2_with fail
      refine (writeByte_any w.heap.size w.heap.size (cellsB acc) _ _ HB.out (by simp only [cellsB_length, List.length_append, List.length_cons, List.length_nil]; have := HAL.out; omega) (by have := HBL.out.size; omega)).mono ?_
      rintro e w2 ⟨rfl, hB2, hbl2⟩
      have hB3 : Bld w.heap.size w.heap.size (cellsB (acc ++ [34])) w2 := bld_acc hB2 rfl
      have HB2 := Lib.hid hB3
      have HBL2 := Lib.hid (HBL.out.trans hbl2)
      clear hB2 hbl2 hB3
      go_wp2_with fail
      refine (Try.Builder_String_any w.heap.size w.heap.size (acc ++ [34]) _ HB2.out (by have := HBL2.out.size; omega)).mono ?_
      rintro e w3 ⟨rfl, hbl3⟩
      have HBL3 := Lib.hid (HBL2.out.trans hbl3)
      clear hbl3
      go_wp2_with fail
      go_ret2
      rw [HE.out]
      exact ⟨rfl, Ext.of_below HBL3.out⟩

theorem u8_eq {u n : UInt8} (h : u.toNat = n.toNat) : (u == n) = true := by rw [beq_iff_eq]; exact UInt8.toNat_inj.1 h
theorem u8_ne {u n : UInt8} (h : u.toNat ≠ n.toNat) : (u == n) = false := by rw [beq_eq_false_iff_ne]; exact fun e => h (by rw [e])
theorem one_byte (s : ByteArray) (k : Nat) (h : k < s.size) : s.extract k (k + 1) = ⟨#[s[k]'h]⟩ := by
  apply ByteArray.ext
  apply Array.ext'
  have hd : s.data.toList.drop k = s[k]'h :: s.data.toList.drop (k + 1) := List.drop_eq_getElem_cons (by simpa using h)
  simp [List.extract_eq_take_drop, hd]
theorem ba_app (a b : List UInt8) : (⟨a.toArray⟩ : ByteArray) ++ ⟨b.toArray⟩ = ⟨(a ++ b).toArray⟩ := by
  apply ByteArray.ext
  simp
end Go.Proofs.Ytoaaklcbcbjaiaa
