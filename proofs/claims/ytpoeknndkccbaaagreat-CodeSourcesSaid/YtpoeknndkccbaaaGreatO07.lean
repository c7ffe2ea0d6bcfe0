/- Lemmas. -/
import Derived.Test.YtpoeknndkccbaaaGreatO03
import Derived.Test.YtpoeknndkccbaaaGreatO05
import Derived.Outline
import Derived.LoopTactic
set_option linter.unusedSimpArgs false
set_option linter.unusedVariables false
set_option maxHeartbeats 2000000
set_option maxRecDepth 20000
namespace Go.Proofs.YtpoeknndkccbaaaGreat
open Go.RowKit
theorem qet {B b : Nat} {acc : List UInt8} {l : List Value} {m : List UInt8} {w : World} (h : Bld B b (qaA acc ++ l) w) (hl : l = qaA m) : Bld B b (qaA (acc ++ m)) w := by
 rw [qdf, ← hl]; exact h
theorem qbH (L : List UInt8) (k : Nat) (u : UInt8) (hu : L[k]? = some u) : (L.take (k + 1)).flatMap quo1 = (L.take k).flatMap quo1 ++ quo1 u := by
 rw [List.take_add_one, hu]; simp [List.flatMap_append]
theorem ok_step (L : List UInt8) (k : Nat) (u : UInt8) (hu : L[k]? = some u) (h : (L.take k).all okQ = true) : (L.take (k + 1)).all okQ = okQ u := by
 rw [List.take_add_one, hu, List.all_append, h]; simp
theorem ok_bad (L : List UInt8) (k : Nat) (u : UInt8) (hu : L[k]? = some u) (h : okQ u = false) : L.all okQ = false := by
 have hk := (List.getElem?_eq_some_iff.1 hu)
 rw [List.all_eq_false]
 exact ⟨u, List.mem_of_getElem? hu, by simp [h]⟩
theorem ok_done (L : List UInt8) (k : Nat) (hk : L.length ≤ k) (h : (L.take k).all okQ = true) : L.all okQ = true := by rwa [List.take_of_length_le hk] at h
theorem quote_any (s : ByteArray) (q : List UInt8) (er : Int) (hr : qbQ s.data.toList = (q, er)) (w : World) :
  Calls Tryz.prog 137 #[.string s] w fun e w' => e = .returned (.tuple #[.string ⟨q.toArray⟩, .int .i64 er]) ∧ Ext w w' := by
 have hl : s.data.toList.length = s.size := by simp
 unfold qbQ at hr
 by_cases h64 : 64 < s.data.toList.length
 · rw [if_pos h64] at hr
   simp only [Prod.mk.injEq] at hr
   obtain ⟨rfl, rfl⟩ := hr
   have h64' : (64 : Int) < s.size := by omega
   clear h64 hl
   go_enter Tryz.func137, Tryz.ntmps137
   go_wp2_with fail
   go_ret2
   exact ⟨rfl, zac⟩
 rw [if_neg h64] at hr
 have h64' : (s.size : Int) ≤ 64 := by omega
 clear h64 hl
 go_enter Tryz.func137, Tryz.ntmps137
 go_wp2_with fail
 refine (qaw w.heap.size w.heap.size (qaA []) 34 _ (Lib.fresh_isBuilder 155 5 w) (by simp [qaA]) zan).mono ?_
 rintro e w1 ⟨rfl, hB1, hbl1⟩
 have HB1 := Lib.hid hB1
 have HBL1 := Lib.hid (((Below.refl _ _).alloc (Nat.le_refl _) _).trans hbl1)
 clear hB1 hbl1
 go_wp2_with fail
 go_loopw [13] (fun ii wr => ∃ (k : Nat) (acc : List UInt8), ii = .int .i64 (k : Int) ∧ k ≤ s.size ∧ (s.data.toList.take k).all okQ = true ∧ acc = 34 :: (s.data.toList.take k).flatMap quo1 ∧ Bld w.heap.size w.heap.size (qaA acc) wr ∧ Below w.heap.size w wr) (fun ii _ => s.size - (intOf ii).toNat)
 case atStart => exact ⟨0, [34], rfl, Nat.zero_le _, rfl, rfl, HB1.out, HBL1.out⟩
 case round =>
  obtain ⟨k, acc, rfl, hk, hok, hacc, hg, hbl⟩ := hrel
  have hal : acc.length ≤ 200 := by
   have := quo1_len (s.data.toList.take k)
   rw [hacc]; simp at this ⊢; omega
  have HAL := Lib.hid hal
  have HBL := Lib.hid hbl
  have HB := Lib.hid hg
  clear hal hbl HB1 HBL1
  have HK := Lib.hid hok
  have HAC := Lib.hid hacc
  have HGX := Lib.hid hg
  clear hok hacc hg
  by_cases hlt : k < s.size
  · have hu : s.data.toList[k]? = some (s[k]'hlt) := by rw [List.getElem?_eq_getElem (by simpa using hlt)]; rfl
    have h256 := (s[k]'hlt).toNat_lt
    have HU := Lib.hid hu
    clear hu
    by_cases c1 : (s[k]'hlt).toNat = 10
    · have e1 : ((s[k]'hlt).toNat : Int) = 10 := by first | omega | (simp; omega)
      have hq1 : quo1 (s[k]'hlt) = [92, 110] := by rw [quo1, if_pos c1]
      have hst := qbH _ k _ HU.out
      rw [hq1] at hst
      have HST := Lib.hid hst
      have HOK := Lib.hid (by rw [ok_step _ k _ HU.out HK.out]; simp [okQ]; omega : (s.data.toList.take (k + 1)).all okQ = true)
      clear hq1 hst
      go_wp2_with fail
      refine (qee w.heap.size w.heap.size (qaA acc) ⟨#[92, 110]⟩ _ HB.out (by rw [cellsB_length]; have := HAL.out; have e : (⟨#[92, 110]⟩ : ByteArray).size = 2 := rfl; omega) (by have := HBL.out.size; omega)).mono ?_
      rintro e w2 ⟨rfl, hB2, hbl2⟩
      have HB2 := Lib.hid hB2
      have HBL2 := Lib.hid (HBL.out.trans hbl2)
      clear hB2 hbl2
      go_wp2_with fail
      go_roundw
      case rel =>
       refine ⟨k + 1, _, by go_num, by omega, HOK.out, ?_, qet HB2.out (m := [92, 110]) (by rfl), HBL2.out⟩
       rw [HST.out, HAC.out]; simp
      case measure => simp [intOf]; omega
    by_cases c2 : (s[k]'hlt).toNat < 32
    · have e1 : (((s[k]'hlt).toNat : Int) == 10) = false := by first | omega | (simp; omega)
      have e2 : (((s[k]'hlt).toNat : Int) < 32) = True := by first | omega | (simp; omega)
      have hbad := Lib.hid (ok_bad _ k _ HU.out (by simp [okQ]; omega))
      go_wp2_with fail
      go_ret2
      rw [hbad.out] at hr
      simp only [Bool.false_eq_true, if_false, Prod.mk.injEq] at hr
      obtain ⟨rfl, rfl⟩ := hr
      exact ⟨rfl, Ext.of_below HBL.out⟩
    by_cases c3 : 126 < (s[k]'hlt).toNat
    · have e1 : (((s[k]'hlt).toNat : Int) == 10) = false := by first | omega | (simp; omega)
      have e2 : (((s[k]'hlt).toNat : Int) < 32) = False := by first | omega | (simp; omega)
      have e3 : (126 < ((s[k]'hlt).toNat : Int)) = True := by first | omega | (simp; omega)
      have hbad := Lib.hid (ok_bad _ k _ HU.out (by simp [okQ]; omega))
      go_wp2_with fail
      go_ret2
      rw [hbad.out] at hr
      simp only [Bool.false_eq_true, if_false, Prod.mk.injEq] at hr
      obtain ⟨rfl, rfl⟩ := hr
      exact ⟨rfl, Ext.of_below HBL.out⟩
    by_cases c4 : (s[k]'hlt).toNat = 34
    · have e1 : ((s[k]'hlt).toNat : Int) = 34 := by first | omega | (simp; omega)
      have hq1 : quo1 (s[k]'hlt) = [92, s[k]'hlt] := by rw [quo1, if_neg c1, if_pos (Or.inl c4)]
      have hst := qbH _ k _ HU.out
      rw [hq1] at hst
      have HST := Lib.hid hst
      have HOK := Lib.hid (by rw [ok_step _ k _ HU.out HK.out]; simp [okQ]; omega : (s.data.toList.take (k + 1)).all okQ = true)
      clear hq1 hst
      go_wp2_with fail
      refine (qaw w.heap.size w.heap.size (qaA acc) _ _ HB.out zbm (by have := HBL.out.size; omega)).mono ?_
      rintro e w2 ⟨rfl, hB2, hbl2⟩
      have HB2 := Lib.hid hB2
      have HBL2 := Lib.hid (HBL.out.trans hbl2)
      clear hB2 hbl2
      go_wp2_with fail
      refine (qaw w.heap.size w.heap.size (qaA acc ++ [.int .u8 92]) 34 _ HB2.out zbm (by have := HBL2.out.size; omega)).mono ?_
      rintro e w3 ⟨rfl, hB3, hbl3⟩
      have HB3 := Lib.hid hB3
      have HBL3 := Lib.hid (HBL2.out.trans hbl3)
      clear hB3 hbl3
      go_wp2_with fail
      go_roundw
      case rel =>
       refine ⟨k + 1, _, by go_num, by omega, HOK.out, ?_, qet (l := [.int .u8 92, .int .u8 34]) (by simpa using HB3.out) (m := [92, s[k]'hlt]) (by simp [qaA, c4]), HBL3.out⟩
       rw [HST.out, HAC.out]; simp
      case measure => simp [intOf]; omega
    by_cases c5 : (s[k]'hlt).toNat = 92
    · have e1 : ((s[k]'hlt).toNat : Int) = 92 := by first | omega | (simp; omega)
      have hq1 : quo1 (s[k]'hlt) = [92, s[k]'hlt] := by rw [quo1, if_neg c1, if_pos (Or.inr c5)]
      have hst := qbH _ k _ HU.out
      rw [hq1] at hst
      have HST := Lib.hid hst
      have HOK := Lib.hid (by rw [ok_step _ k _ HU.out HK.out]; simp [okQ]; omega : (s.data.toList.take (k + 1)).all okQ = true)
      clear hq1 hst
      go_wp2_with fail
      refine (qaw w.heap.size w.heap.size (qaA acc) _ _ HB.out zbm (by have := HBL.out.size; omega)).mono ?_
      rintro e w2 ⟨rfl, hB2, hbl2⟩
      have HB2 := Lib.hid hB2
      have HBL2 := Lib.hid (HBL.out.trans hbl2)
      clear hB2 hbl2
      go_wp2_with fail
      refine (qaw w.heap.size w.heap.size (qaA acc ++ [.int .u8 92]) 92 _ HB2.out zbm (by have := HBL2.out.size; omega)).mono ?_
      rintro e w3 ⟨rfl, hB3, hbl3⟩
      have HB3 := Lib.hid hB3
      have HBL3 := Lib.hid (HBL2.out.trans hbl3)
      clear hB3 hbl3
      go_wp2_with fail
      go_roundw
      case rel =>
       refine ⟨k + 1, _, by go_num, by omega, HOK.out, ?_, qet (l := [.int .u8 92, .int .u8 92]) (by simpa using HB3.out) (m := [92, s[k]'hlt]) (by simp [qaA, c5]), HBL3.out⟩
       rw [HST.out, HAC.out]; simp
      case measure => simp [intOf]; omega
    · have e1 : (((s[k]'hlt).toNat : Int) == 10) = false := by first | omega | (simp; omega)
      have e2 : (((s[k]'hlt).toNat : Int) < 32) = False := by first | omega | (simp; omega)
      have e3 : (126 < ((s[k]'hlt).toNat : Int)) = False := by first | omega | (simp; omega)
      have e4 : (((s[k]'hlt).toNat : Int) == 34) = false := by first | omega | (simp; omega)
      have e5 : (((s[k]'hlt).toNat : Int) == 92) = false := by first | omega | (simp; omega)
      have hq1 : quo1 (s[k]'hlt) = [s[k]'hlt] := by rw [quo1, if_neg c1, if_neg zae]
      have hst := qbH _ k _ HU.out
      rw [hq1] at hst
      have HST := Lib.hid hst
      have HOK := Lib.hid (by rw [ok_step _ k _ HU.out HK.out]; simp [okQ]; omega : (s.data.toList.take (k + 1)).all okQ = true)
      clear hq1 hst
      go_wp2_with fail
      refine (qaw w.heap.size w.heap.size (qaA acc) _ _ HB.out zbm (by have := HBL.out.size; omega)).mono ?_
      rintro e w2 ⟨rfl, hB2, hbl2⟩
      have HB2 := Lib.hid hB2
      have HBL2 := Lib.hid (HBL.out.trans hbl2)
      clear hB2 hbl2
      go_wp2_with fail
      go_roundw
      case rel =>
       refine ⟨k + 1, _, by go_num, by omega, HOK.out, ?_, qet HB2.out (m := [s[k]'hlt]) (by rfl), HBL2.out⟩
       rw [HST.out, HAC.out]; simp
      case measure => simp [intOf]; omega
  · have hks : k = s.size := by omega
    have hd := ok_done s.data.toList k zba HK.out
    rw [if_pos hd] at hr
    simp only [Prod.mk.injEq] at hr
    obtain ⟨rfl, rfl⟩ := hr
    have he : acc = 34 :: s.data.toList.flatMap quo1 := by have := HAC.out; rwa [List.take_of_length_le zba] at this
    have HE := Lib.hid he
    subst hks
    clear hd he
    go_wp2_with fail
    refine (qaw w.heap.size w.heap.size (qaA acc) _ _ HB.out zbm (by have := HBL.out.size; omega)).mono ?_
    rintro e w2 ⟨rfl, hB2, hbl2⟩
    have hB3 : Bld w.heap.size w.heap.size (qaA (acc ++ [34])) w2 := qet hB2 rfl
    have HB2 := Lib.hid hB3
    have HBL2 := Lib.hid (HBL.out.trans hbl2)
    clear hB2 hbl2 hB3
    go_wp2_with fail
    refine (Tryz.Builder_String_any w.heap.size w.heap.size (acc ++ [34]) _ HB2.out (by have := HBL2.out.size; omega)).mono ?_
    rintro e w3 ⟨rfl, hbl3⟩
    have HBL3 := Lib.hid (HBL2.out.trans hbl3)
    clear hbl3
    go_wp2_with fail
    go_ret2
    rw [HE.out]
    exact ⟨rfl, Ext.of_below HBL3.out⟩
theorem u8_eq {u n : UInt8} (h : u.toNat = n.toNat) : (u == n) = true := by rw [beq_iff_eq]; exact UInt8.toNat_inj.1 h
theorem u8_ne {u n : UInt8} (h : u.toNat ≠ n.toNat) : (u == n) = false := by rw [beq_eq_false_iff_ne]; exact fun e => h (by rw [e])
theorem one_byte (s : ByteArray) (k : Nat) (h : k < s.size) : s.extract k (k + 1) = ⟨#[s[k]'h]⟩ := by
 apply ByteArray.ext
 apply Array.ext'
 have hd : s.data.toList.drop k = s[k]'h :: s.data.toList.drop (k + 1) := List.drop_eq_getElem_cons (by simpa using h)
 simp [List.extract_eq_take_drop, hd]
theorem ba_app (a b : List UInt8) : (⟨a.toArray⟩ : ByteArray) ++ ⟨b.toArray⟩ = ⟨(a ++ b).toArray⟩ := by
 apply ByteArray.ext
 simp
end Go.Proofs.YtpoeknndkccbaaaGreat

namespace Go.Proofs.YtpoeknndkccbaaaGreat
open Go.RowKit
def wordsT : List UInt8 := [32, 97, 98, 111, 114, 116, 32, 97, 110, 100, 32, 100, 101, 108, 101, 116, 101, 32, 101, 108, 115, 101, 32, 102, 97, 108, 115, 101, 32, 102, 111, 114, 32, 103, 101, 116, 32, 104, 97, 115, 32, 105, 102, 32, 105, 110, 32, 108, 101, 110, 32, 108, 101, 116, 32, 110, 105, 108, 32, 110, 111, 116, 32, 111, 114, 32, 112, 117, 116, 32, 114, 101, 112, 101, 97, 116, 32, 114, 101, 116, 117, 114, 110, 32, 115, 99, 97, 110, 32, 115, 101, 116, 32, 115, 104, 111, 119, 32, 116, 114, 117, 101, 32]
def lowB (c : UInt8) : Bool := decide (97 ≤ c.toNat ∧ c.toNat ≤ 122)
def qcP (l : List UInt8) : Bool := wordL.any (fun x => l == x.data.toList) || l == [116, 114, 117, 101]
theorem qdI (s : ByteArray) : wordB s = qcP s.data.toList := by
 unfold wordB qcP
 simp only [Lib.toList_data]
def hitL (l : List UInt8) (k : Nat) : Bool := (wordsT.drop k).take (l.length + 2) == 32 :: l ++ [32]
theorem hit_eq (s : ByteArray) (k : Nat) (h : k + s.size + 2 ≤ 103) : ((({ data := #[32, 97, 98, 111, 114, 116, 32, 97, 110, 100, 32, 100, 101, 108, 101, 116, 101, 32, 101, 108, 115, 101, 32, 102, 97, 108, 115, 101, 32, 102, 111, 114, 32, 103, 101, 116, 32, 104, 97, 115, 32, 105, 102, 32, 105, 110, 32, 108, 101, 110, 32, 108, 101, 116, 32, 110, 105, 108, 32, 110, 111, 116, 32, 111, 114, 32, 112, 117, 116, 32, 114, 101, 112, 101, 97, 116, 32, 114, 101, 116, 117, 114, 110, 32, 115, 99, 97, 110, 32, 115, 101, 116, 32, 115, 104, 111, 119, 32, 116, 114, 117, 101, 32] } : ByteArray).extract k (k + s.size + 2)).toList == (({ data := #[32] } : ByteArray) ++ s ++ { data := #[32] }).toList) = hitL s.data.toList k := by
 unfold hitL wordsT
 simp only [Lib.toList_data]
 have e1 : (({ data := #[32, 97, 98, 111, 114, 116, 32, 97, 110, 100, 32, 100, 101, 108, 101, 116, 101, 32, 101, 108, 115, 101, 32, 102, 97, 108, 115, 101, 32, 102, 111, 114, 32, 103, 101, 116, 32, 104, 97, 115, 32, 105, 102, 32, 105, 110, 32, 108, 101, 110, 32, 108, 101, 116, 32, 110, 105, 108, 32, 110, 111, 116, 32, 111, 114, 32, 112, 117, 116, 32, 114, 101, 112, 101, 97, 116, 32, 114, 101, 116, 117, 114, 110, 32, 115, 99, 97, 110, 32, 115, 101, 116, 32, 115, 104, 111, 119, 32, 116, 114, 117, 101, 32] } : ByteArray).extract k (k + s.size + 2)).data.toList = (wordsT.drop k).take (s.data.toList.length + 2) := by
  have hl : s.data.toList.length = s.size := by simp
  have e : k + s.size + 2 - k = s.size + 2 := by omega
  rw [hl]
  simp only [ByteArray.data_extract, Array.toList_extract, List.extract_eq_take_drop, e]
  rfl
 rw [e1]
 have e2 : (({ data := #[32] } : ByteArray) ++ s ++ { data := #[32] }).data.toList = 32 :: s.data.toList ++ [32] := by simp
 rw [e2]
 rfl
def chk : Bool := (List.range 103).all fun k => (List.range 102).all fun n => !(wordsT.getD k 0 == 32 && wordsT.getD (k + n + 1) 0 == 32 && ((wordsT.drop (k + 1)).take n).all lowB) || (n == 0 || qcP ((wordsT.drop (k + 1)).take n))
theorem chk_true : chk = true := by kernel_rfl
def chk2 : Bool := (wordL.map (fun x : ByteArray => x.data.toList) ++ [[116, 114, 117, 101]]).all fun l : List UInt8 => l.all lowB && !l.isEmpty && (List.range 103).any fun k => decide (k + l.length + 2 ≤ 103) && hitL l k
theorem chk2_true : chk2 = true := by kernel_rfl
theorem isWord_mem (l : List UInt8) (h : qcP l = true) : l ∈ wordL.map (fun x : ByteArray => x.data.toList) ++ [[116, 114, 117, 101]] := by
 unfold qcP at h
 simp only [Bool.or_eq_true, List.any_eq_true, beq_iff_eq] at h
 rcases h with ⟨x, hx, rfl⟩ | rfl
 · exact List.mem_append_left _ (List.mem_map.2 ⟨x, hx, rfl⟩)
 · exact List.mem_append_right _ zan
theorem qdy (l : List UInt8) (h : qcP l = true) : l.all lowB = true ∧ l ≠ [] ∧ ∃ k, k + l.length + 2 ≤ 103 ∧ hitL l k = true := by
 have := List.all_eq_true.1 chk2_true l (isWord_mem l h)
 simp only [Bool.and_eq_true, List.any_eq_true, decide_eq_true_eq] at this
 obtain ⟨⟨h1, h2⟩, k, _, h3, h4⟩ := this
 exact ⟨h1, by simpa using h2, k, h3, h4⟩
theorem hit_word (l : List UInt8) (k : Nat) (hk : k + l.length + 2 ≤ 103) (hl : l.all lowB = true) (hne : l ≠ []) (h : hitL l k = true) : qcP l = true := by
 have hpos : 0 < l.length := by cases l <;> simp at hne ⊢
 have h1 := List.all_eq_true.1 chk_true k (List.mem_range.2 zae)
 have h2 := List.all_eq_true.1 h1 l.length (List.mem_range.2 zae)
 have he : (wordsT.drop k).take (l.length + 2) = 32 :: l ++ [32] := by simpa [hitL] using h
 have hg : ∀ j, j < l.length + 2 → wordsT[k + j]? = (32 :: l ++ [32])[j]? := by
  intro j hj
  rw [← he, List.getElem?_take, if_pos hj, List.getElem?_drop]
 have g0 : wordsT[k]? = some 32 := by have := hg 0 zae; simpa using this
 have g1 : wordsT[k + l.length + 1]? = some 32 := by
  have := hg (l.length + 1) zae
  rw [Nat.add_assoc, this]
  simp
 have gm : (wordsT.drop (k + 1)).take l.length = l := by
  have e : wordsT.drop (k + 1) = (wordsT.drop k).drop 1 := by rw [List.drop_drop]
  rw [e, List.take_drop]
  have e2 : ((wordsT.drop k).take (1 + l.length)) = ((wordsT.drop k).take (l.length + 2)).take (1 + l.length) := by rw [List.take_take]; congr 1; omega
  rw [e2, he]
  simp [List.take_append, Nat.add_comm 1]
 rw [gm, hl] at h2
 simp only [List.getD, g0, g1, Option.getD_some] at h2
 have hn0 : (l.length == 0) = false := by simpa using hne
 simpa [hn0] using h2
theorem lows_bad (s : ByteArray) (k : Nat) (h : k < s.size) (hb : lowB (s[k]'h) = false) : wordB s = false := by
 rw [qdI]
 cases hw : qcP s.data.toList
 · rfl
 · have h1 := (qdy _ hw).1
   have hu : s.data.toList[k]? = some (s[k]'h) := by rw [List.getElem?_eq_getElem (by simpa using h)]; rfl
   have := List.all_eq_true.1 h1 _ (List.mem_of_getElem? hu)
   rw [hb] at this; cases this
theorem lows_step (s : ByteArray) (k : Nat) (h : k < s.size) (ha : (s.data.toList.take k).all lowB = true) (hb : lowB (s[k]'h) = true) : (s.data.toList.take (k + 1)).all lowB = true := by
 have hu : s.data.toList[k]? = some (s[k]'h) := by rw [List.getElem?_eq_getElem (by simpa using h)]; rfl
 rw [List.take_add_one, hu, List.all_append, ha]
 simpa using hb
theorem word_hit (s : ByteArray) (k : Nat) (hk : k + s.size + 2 ≤ 103) (hl : (s.data.toList.take s.size).all lowB = true) (hne : ¬ s.toList = []) (h : hitL s.data.toList k = true) : wordB s = true := by
 rw [qdI]
 have e : s.data.toList.take s.size = s.data.toList := List.take_of_length_le zan
 rw [e] at hl
 exact hit_word _ k (by simpa using hk) hl (by rw [Lib.toList_data] at hne; exact hne) h
theorem word_nohit (s : ByteArray) (h : ∀ k, k + s.size + 2 ≤ 103 → hitL s.data.toList k = false) : wordB s = false := by
 rw [qdI]
 cases hw : qcP s.data.toList
 · rfl
 · obtain ⟨_, _, k, hk, hh⟩ := qdy _ hw
   rw [h k (by simpa using hk)] at hh; cases hh
theorem word_none (s : ByteArray) (h : s.toList = []) : wordB s = false := by
 rw [qdI]
 rw [Lib.toList_data] at h
 rw [h]; rfl
theorem qec (s : ByteArray) (hs : (s.size : Int) ≤ 100000) (w : World) : Calls Tryz.prog 82 #[.string s] w fun e w' => e = .returned (.bool (wordB s)) ∧ Ext w w' := by
 have HB := Lib.hid (lows_bad s)
 have HSt := Lib.hid (lows_step s)
 have HH := Lib.hid (word_hit s)
 have HNH := Lib.hid (word_nohit s)
 have HE := Lib.hid (hit_eq s)
 have HWN := Lib.hid (word_none s)
 generalize wordB s = B at *
 go_enter Tryz.func82, Tryz.ntmps82
 go_wp2_with fail
 go_loop [3] (fun ii => ∃ k : Nat, ii = .int .i64 k ∧ k ≤ s.size ∧ (s.data.toList.take k).all lowB = true) (fun ii => s.size - (intOf ii).toNat)
 case atStart => exact ⟨0, rfl, by omega, rfl⟩
 case round =>
  obtain ⟨k, rfl, hk, hn⟩ := hrel
  have HN := Lib.hid hn
  clear hn
  by_cases hlt : k < s.size
  · cases hlow : lowB (s[k]'hlt)
    · have hf := Lib.hid (HB.out k hlt hlow)
      by_cases q1 : (s[k]'hlt).toNat < 97
      · have e1 : (((s[k]'hlt).toNat : Int) < 97) = True := by simp; omega
        clear q1 hlow
        go_wp2_with fail
        go_ret
        exact ⟨ret_bool hf.out.symm, Ext.refl _⟩
      · have e1 : (((s[k]'hlt).toNat : Int) < 97) = False := by simp; omega
        have e2 : (122 < ((s[k]'hlt).toNat : Int)) = True := by simp [lowB] at hlow ⊢; omega
        clear q1 hlow
        go_wp2_with fail
        go_ret
        exact ⟨ret_bool hf.out.symm, Ext.refl _⟩
    · have HST := Lib.hid (HSt.out k hlt HN.out hlow)
      have e1 : (((s[k]'hlt).toNat : Int) < 97) = False := by simp [lowB] at hlow ⊢; omega
      have e2 : (122 < ((s[k]'hlt).toNat : Int)) = False := by simp [lowB] at hlow ⊢; omega
      clear hlow
      go_wp2_with fail
      go_round
      case rel => exact ⟨k + 1, by go_num, by omega, HST.out⟩
      case measure => simp [intOf]; omega
  · have hks : k = s.size := by omega
    subst hks
    go_wp2_with fail
    go_loop [4] (fun ii => ∃ k : Nat, ii = .int .i64 k ∧ k ≤ 103 ∧ ∀ j, j < k → j + s.size + 2 ≤ 103 → hitL s.data.toList j = false) (fun ii => 103 - (intOf ii).toNat)
    case atStart => exact ⟨0, rfl, by omega, fun j hj => absurd hj zae⟩
    case round =>
     obtain ⟨k, rfl, hk, hno⟩ := hrel
     have HNO := Lib.hid hno
     clear hno
     by_cases hlt : k + s.size + 2 ≤ 103
     · by_cases hnil : s.toList = []
       · have hf := Lib.hid (HWN.out hnil)
         go_wp2_with fail
         go_round
         case rel =>
          refine ⟨k + 1, by go_num, by omega, fun j hj hj2 => ?_⟩
          rcases Nat.lt_or_ge j k with h | h
          · exact HNO.out j h hj2
          · have e : j = k := by omega
            subst e
            cases hh : hitL s.data.toList j
            · rfl
            · exfalso
              have hl : s.data.toList = [] := by rw [Lib.toList_data] at hnil; exact hnil
              rw [hl] at hh
              have e2 : s.size = 0 := by rw [← ByteArray.size_data, ← Array.length_toList, hl]; rfl
              exact absurd hh (by
               have : ∀ j, j < 103 → hitL [] j = false := by decide +kernel
               simp [this j zae])
         case measure => simp [intOf]; omega
       · cases hh : hitL s.data.toList k
         · have hx := HE.out k hlt
           rw [hh] at hx
           have HHH := Lib.hid hh
           clear hh
           go_wp2_with fail
           go_round
           case rel =>
            refine ⟨k + 1, by go_num, by omega, fun j hj hj2 => ?_⟩
            rcases Nat.lt_or_ge j k with h | h
            · exact HNO.out j h hj2
            · have e : j = k := by omega
              subst e
              exact HHH.out
           case measure => simp [intOf]; omega
         · have hx := HE.out k hlt
           rw [hh] at hx
           have hf := Lib.hid (HH.out k hlt HN.out hnil hh)
           have hne : (!s.toList.isEmpty) = true := by simpa using hnil
           clear hh
           go_wp2_with fail
           go_ret
           exact ⟨ret_bool hf.out.symm, Ext.refl _⟩
     · have hf := Lib.hid (HNH.out fun j hj => HNO.out j zae hj)
       go_wp2_with fail
       go_ret
       exact ⟨ret_bool hf.out.symm, Ext.refl _⟩
theorem rword_any (s : ByteArray) (hs : (s.size : Int) ≤ 100) (w : World) : Calls Tryz.prog 82 #[.string s] w fun e w' => e = .returned (.bool (wordB s)) ∧ Ext w w' := qec s zae w
end Go.Proofs.YtpoeknndkccbaaaGreat
