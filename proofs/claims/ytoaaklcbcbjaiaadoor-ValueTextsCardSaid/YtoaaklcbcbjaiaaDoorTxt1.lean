/- value's Join, Length, Not, Show; the document's Show and Digits. -/
import Derived.Test.YtoaaklcbcbjaiaaDoorVal3
import Derived.Test.YtoaaklcbcbjaiaaDoorRef1
import Derived.Test.YtoaaklcbcbjaiaaDoorVoc2
import Derived.Test.YtoaaklcbcbjaiaaDoorShelf
import Derived.LoopTactic
import Derived.Deep.LoopGhost
import Derived.Outline
import Derived.Lib.ItoaLen
import Derived.Lib.LaidTab
set_option linter.unusedSimpArgs false
set_option linter.unusedVariables false
namespace Go.Proofs.YtoaaklcbcbjaiaaDoor
open Go.RowKit

theorem ba_app (a b : List UInt8) : (⟨a.toArray⟩ : ByteArray) ++ ⟨b.toArray⟩ = ⟨(a ++ b).toArray⟩ := by
  apply ByteArray.ext
  simp
def ofE (k i : Int) (s : ByteArray) (kind : Int) : Int := if mayB k i s = false then 1 else if k = kind then 0 else 10

theorem of_bad (k i : Int) (s : ByteArray) (kind : Int) (h : mayB k i s = false) (w : World) : Calls Tryd.prog 17 #[.agg #[.int .i64 k, .int .i64 i, .string s], .int .i64 kind] w fun e w' => e = .returned (.int .i64 1) ∧ Ext w w' := by
  have m := fun w => vmay_any k i s w
  rw [h] at m
  have M := Lib.hid m
  clear m h
  go_enter Tryd.func17, Tryd.ntmps17
  go_wp2_with (go_at_call 15; (with_reducible refine (M.out _).mono ?_); rintro e _ ⟨rfl, d, os, rfl⟩)
  go_ret
  exact ⟨rfl, by repeat (first | exact Ext.refl _ | apply Ext.alloc | apply Ext.more)⟩

theorem of_same (k i : Int) (s : ByteArray) (h : mayB k i s = true) (w : World) : Calls Tryd.prog 17 #[.agg #[.int .i64 k, .int .i64 i, .string s], .int .i64 k] w fun e w' => e = .returned (.int .i64 0) ∧ Ext w w' := by
  have m := fun w => vmay_any k i s w
  rw [h] at m
  have M := Lib.hid m
  clear m h
  go_enter Tryd.func17, Tryd.ntmps17
  go_wp2_with (go_at_call 15; (with_reducible refine (M.out _).mono ?_); rintro e _ ⟨rfl, d, os, rfl⟩)
  go_ret
  exact ⟨rfl, by repeat (first | exact Ext.refl _ | apply Ext.alloc | apply Ext.more)⟩

theorem of_other (k i : Int) (s : ByteArray) (kind : Int) (h : mayB k i s = true) (hk : (k == kind) = false) (w : World) : Calls Tryd.prog 17 #[.agg #[.int .i64 k, .int .i64 i, .string s], .int .i64 kind] w fun e w' => e = .returned (.int .i64 10) ∧ Ext w w' := by
  have m := fun w => vmay_any k i s w
  rw [h] at m
  have M := Lib.hid m
  have hk2 : (k != kind) = true := by simpa using hk
  clear m h
  go_enter Tryd.func17, Tryd.ntmps17
  go_wp2_with (go_at_call 15; (with_reducible refine (M.out _).mono ?_); rintro e _ ⟨rfl, d, os, rfl⟩)
  go_ret
  exact ⟨rfl, by repeat (first | exact Ext.refl _ | apply Ext.alloc | apply Ext.more)⟩

theorem not_err (k i : Int) (s : ByteArray) (e0 : Int) (he : (e0 == 0) = false) (O : RowKit.Hid (∀ w, Calls Tryd.prog 17 #[.agg #[.int .i64 k, .int .i64 i, .string s], .int .i64 1] w fun e w' => e = .returned (.int .i64 e0) ∧ Ext w w')) (w : World) :
    Calls Tryd.prog 7 #[.agg #[.int .i64 k, .int .i64 i, .string s]] w fun e w' => e = .returned (.tuple #[.agg #[.int .i64 0, .int .i64 0, .string ⟨#[]⟩], .int .i64 e0]) ∧ Ext w w' := by
  have he2 : (e0 != 0) = true := by simpa using he
  go_enter Tryd.func7, Tryd.ntmps7
  go_wp2_with (go_at_call 17; refine (O.out _).mono ?_; rintro e _ ⟨rfl, d, os, rfl⟩)
  refine bodyPost_ret (v := .tuple #[.agg #[.int .i64 0, .int .i64 0, .string ⟨#[]⟩], .int .i64 e0]) (by simp [results, Tryd.results7, go_sem]) rfl ⟨rfl, by repeat (first | exact Ext.refl _ | apply Ext.alloc | apply Ext.more)⟩

theorem not_ok (i : Int) (s : ByteArray) (b : Bool) (hb : (i == 0) = b) (O : RowKit.Hid (∀ w, Calls Tryd.prog 17 #[.agg #[.int .i64 1, .int .i64 i, .string s], .int .i64 1] w fun e w' => e = .returned (.int .i64 0) ∧ Ext w w')) (w : World) :
    Calls Tryd.prog 7 #[.agg #[.int .i64 1, .int .i64 i, .string s]] w fun e w' => e = .returned (.tuple #[.agg #[.int .i64 1, .int .i64 (boolI b), .string ⟨#[]⟩], .int .i64 0]) ∧ Ext w w' := by
  go_enter Tryd.func7, Tryd.ntmps7
  go_wp2_with (first
    | (go_at_call 17; refine (O.out _).mono ?_; rintro e _ ⟨rfl, d, os, rfl⟩)
    | (go_at_call 19; refine (bool_any b _).mono ?_; rintro e _ ⟨rfl, d, os, rfl⟩))
  refine bodyPost_ret (v := .tuple #[.agg #[.int .i64 1, .int .i64 (boolI b), .string ⟨#[]⟩], .int .i64 0]) (by simp [results, Tryd.results7, go_sem]) rfl ⟨rfl, by repeat (first | exact Ext.refl _ | apply Ext.alloc | apply Ext.more)⟩

theorem length_err (k i : Int) (s : ByteArray) (e0 : Int) (he : (e0 == 0) = false) (O : RowKit.Hid (∀ w, Calls Tryd.prog 17 #[.agg #[.int .i64 k, .int .i64 i, .string s], .int .i64 3] w fun e w' => e = .returned (.int .i64 e0) ∧ Ext w w')) (w : World) :
    Calls Tryd.prog 6 #[.agg #[.int .i64 k, .int .i64 i, .string s]] w fun e w' => e = .returned (.tuple #[.agg #[.int .i64 0, .int .i64 0, .string ⟨#[]⟩], .int .i64 e0]) ∧ Ext w w' := by
  have he2 : (e0 != 0) = true := by simpa using he
  go_enter Tryd.func6, Tryd.ntmps6
  go_wp2_with (go_at_call 17; refine (O.out _).mono ?_; rintro e _ ⟨rfl, d, os, rfl⟩)
  refine bodyPost_ret (v := .tuple #[.agg #[.int .i64 0, .int .i64 0, .string ⟨#[]⟩], .int .i64 e0]) (by simp [results, Tryd.results6, go_sem]) rfl ⟨rfl, by repeat (first | exact Ext.refl _ | apply Ext.alloc | apply Ext.more)⟩

theorem length_ok (i : Int) (s : ByteArray) (O : RowKit.Hid (∀ w, Calls Tryd.prog 17 #[.agg #[.int .i64 3, .int .i64 i, .string s], .int .i64 3] w fun e w' => e = .returned (.int .i64 0) ∧ Ext w w')) (w : World) :
    Calls Tryd.prog 6 #[.agg #[.int .i64 3, .int .i64 i, .string s]] w fun e w' => e = .returned (.tuple #[.agg #[.int .i64 2, .int .i64 (s.size : Int), .string ⟨#[]⟩], .int .i64 0]) ∧ Ext w w' := by
  go_enter Tryd.func6, Tryd.ntmps6
  go_wp2_with (first
    | (go_at_call 17; refine (O.out _).mono ?_; rintro e _ ⟨rfl, d, os, rfl⟩)
    | (go_at_call 18; refine (int_any _ _).mono ?_; rintro e _ ⟨rfl, d, os, rfl⟩))
  refine bodyPost_ret (v := .tuple #[.agg #[.int .i64 2, .int .i64 (s.size : Int), .string ⟨#[]⟩], .int .i64 0]) (by simp [results, Tryd.results6, go_sem]) rfl ⟨rfl, by repeat (first | exact Ext.refl _ | apply Ext.alloc | apply Ext.more)⟩

theorem join_bad1 (k i : Int) (s : ByteArray) (k' i' : Int) (s' : ByteArray) (h : mayB k i s = false) (w : World) :
    Calls Tryd.prog 5 #[.agg #[.int .i64 k, .int .i64 i, .string s], .agg #[.int .i64 k', .int .i64 i', .string s']] w fun e w' => e = .returned (.tuple #[.agg #[.int .i64 0, .int .i64 0, .string ⟨#[]⟩], .int .i64 1]) ∧ Ext w w' := by
  have m := fun w => vmay_any k i s w
  rw [h] at m
  have M := Lib.hid m
  clear m h
  go_enter Tryd.func5, Tryd.ntmps5
  go_wp2_with (go_at_call 15; refine (M.out _).mono ?_; rintro e _ ⟨rfl, d, os, rfl⟩)
  refine bodyPost_ret (v := .tuple #[.agg #[.int .i64 0, .int .i64 0, .string ⟨#[]⟩], .int .i64 1]) (by simp [results, Tryd.results5, go_sem]) rfl ⟨rfl, by repeat (first | exact Ext.refl _ | apply Ext.alloc | apply Ext.more)⟩

theorem join_bad2 (k i : Int) (s : ByteArray) (k' i' : Int) (s' : ByteArray) (h : mayB k i s = true) (h' : mayB k' i' s' = false) (w : World) :
    Calls Tryd.prog 5 #[.agg #[.int .i64 k, .int .i64 i, .string s], .agg #[.int .i64 k', .int .i64 i', .string s']] w fun e w' => e = .returned (.tuple #[.agg #[.int .i64 0, .int .i64 0, .string ⟨#[]⟩], .int .i64 1]) ∧ Ext w w' := by
  have m := fun w => vmay_any k i s w
  rw [h] at m
  have m2 := fun w => vmay_any k' i' s' w
  rw [h'] at m2
  have HM := Lib.hid m
  have HM2 := Lib.hid m2
  clear m m2 h h'
  go_enter Tryd.func5, Tryd.ntmps5
  go_wp2_with fail
  refine (HM.out _).mono ?_
  rintro e _ ⟨rfl, d, os, rfl⟩
  go_wp2_with fail
  refine (HM2.out _).mono ?_
  rintro e _ ⟨rfl, d, os, rfl⟩
  go_wp2_with fail
  refine bodyPost_ret (v := .tuple #[.agg #[.int .i64 0, .int .i64 0, .string ⟨#[]⟩], .int .i64 1]) (by simp [results, Tryd.results5, go_sem]) rfl ⟨rfl, by repeat (first | exact Ext.refl _ | apply Ext.alloc | apply Ext.more)⟩

theorem join_kind1 (k i : Int) (s : ByteArray) (k' i' : Int) (s' : ByteArray) (h : mayB k i s = true) (h' : mayB k' i' s' = true) (hk : (k == 3) = false) (w : World) :
    Calls Tryd.prog 5 #[.agg #[.int .i64 k, .int .i64 i, .string s], .agg #[.int .i64 k', .int .i64 i', .string s']] w fun e w' => e = .returned (.tuple #[.agg #[.int .i64 0, .int .i64 0, .string ⟨#[]⟩], .int .i64 10]) ∧ Ext w w' := by
  have m := fun w => vmay_any k i s w
  rw [h] at m
  have m2 := fun w => vmay_any k' i' s' w
  rw [h'] at m2
  have HM := Lib.hid m
  have HM2 := Lib.hid m2
  clear m m2 h h'
  have hk2 : (k != 3) = true := by simpa using hk
  go_enter Tryd.func5, Tryd.ntmps5
  go_wp2_with fail
  refine (HM.out _).mono ?_
  rintro e _ ⟨rfl, d, os, rfl⟩
  go_wp2_with fail
  refine (HM2.out _).mono ?_
  rintro e _ ⟨rfl, d, os, rfl⟩
  go_wp2_with fail
  refine bodyPost_ret (v := .tuple #[.agg #[.int .i64 0, .int .i64 0, .string ⟨#[]⟩], .int .i64 10]) (by simp [results, Tryd.results5, go_sem]) rfl ⟨rfl, by repeat (first | exact Ext.refl _ | apply Ext.alloc | apply Ext.more)⟩

theorem join_kind2 (k i : Int) (s : ByteArray) (k' i' : Int) (s' : ByteArray) (h : mayB k i s = true) (h' : mayB k' i' s' = true) (hk : k = 3) (hk' : (k' == 3) = false) (w : World) :
    Calls Tryd.prog 5 #[.agg #[.int .i64 k, .int .i64 i, .string s], .agg #[.int .i64 k', .int .i64 i', .string s']] w fun e w' => e = .returned (.tuple #[.agg #[.int .i64 0, .int .i64 0, .string ⟨#[]⟩], .int .i64 10]) ∧ Ext w w' := by
  have m := fun w => vmay_any k i s w
  rw [h] at m
  have m2 := fun w => vmay_any k' i' s' w
  rw [h'] at m2
  have HM := Lib.hid m
  have HM2 := Lib.hid m2
  clear m m2 h h'
  have hk2 : (k' != 3) = true := by simpa using hk'
  subst hk
  go_enter Tryd.func5, Tryd.ntmps5
  go_wp2_with fail
  refine (HM.out _).mono ?_
  rintro e _ ⟨rfl, d, os, rfl⟩
  go_wp2_with fail
  refine (HM2.out _).mono ?_
  rintro e _ ⟨rfl, d, os, rfl⟩
  go_wp2_with fail
  refine bodyPost_ret (v := .tuple #[.agg #[.int .i64 0, .int .i64 0, .string ⟨#[]⟩], .int .i64 10]) (by simp [results, Tryd.results5, go_sem]) rfl ⟨rfl, by repeat (first | exact Ext.refl _ | apply Ext.alloc | apply Ext.more)⟩

theorem join_full (k i : Int) (s : ByteArray) (k' i' : Int) (s' : ByteArray) (h : mayB k i s = true) (h' : mayB k' i' s' = true) (hk : k = 3) (hk' : k' = 3) (hs : 64 < (s ++ s').size) (hz : s.size + s'.size ≤ 1000) (w : World) :
    Calls Tryd.prog 5 #[.agg #[.int .i64 k, .int .i64 i, .string s], .agg #[.int .i64 k', .int .i64 i', .string s']] w fun e w' => e = .returned (.tuple #[.agg #[.int .i64 0, .int .i64 0, .string ⟨#[]⟩], .int .i64 5]) ∧ Ext w w' := by
  have m := fun w => vmay_any k i s w
  rw [h] at m
  have m2 := fun w => vmay_any k' i' s' w
  rw [h'] at m2
  have HM := Lib.hid m
  have HM2 := Lib.hid m2
  clear m m2 h h'
  have hz2 : (9223372036854775807 < s.size + s'.size) = False := by simp; omega
  subst hk hk'
  have T := Lib.hid (text_full (s ++ s') (by omega))
  clear hs hz
  go_enter Tryd.func5, Tryd.ntmps5
  go_wp2_with fail
  refine (HM.out _).mono ?_
  rintro e _ ⟨rfl, d, os, rfl⟩
  go_wp2_with fail
  refine (HM2.out _).mono ?_
  rintro e _ ⟨rfl, d, os, rfl⟩
  go_wp2_with (go_at_call 16; refine (T.out _).mono ?_; rintro e _ ⟨rfl, d, os, rfl⟩)
  refine bodyPost_ret (v := .tuple #[.agg #[.int .i64 0, .int .i64 0, .string ⟨#[]⟩], .int .i64 5]) (by simp [results, Tryd.results5, go_sem]) rfl ⟨rfl, by repeat (first | exact Ext.refl _ | apply Ext.alloc | apply Ext.more)⟩

theorem join_ok (k i : Int) (s : ByteArray) (k' i' : Int) (s' : ByteArray) (h : mayB k i s = true) (h' : mayB k' i' s' = true) (hk : k = 3) (hk' : k' = 3) (hs : (s ++ s').size ≤ 64) (hz : s.size + s'.size ≤ 1000) (w : World) :
    Calls Tryd.prog 5 #[.agg #[.int .i64 k, .int .i64 i, .string s], .agg #[.int .i64 k', .int .i64 i', .string s']] w fun e w' => e = .returned (.tuple #[.agg #[.int .i64 3, .int .i64 0, .string (s ++ s')], .int .i64 0]) ∧ Ext w w' := by
  have m := fun w => vmay_any k i s w
  rw [h] at m
  have m2 := fun w => vmay_any k' i' s' w
  rw [h'] at m2
  have HM := Lib.hid m
  have HM2 := Lib.hid m2
  clear m m2 h h'
  have hz2 : (9223372036854775807 < s.size + s'.size) = False := by simp; omega
  subst hk hk'
  have T := Lib.hid (text_ok (s ++ s') (by omega))
  clear hs hz
  go_enter Tryd.func5, Tryd.ntmps5
  go_wp2_with fail
  refine (HM.out _).mono ?_
  rintro e _ ⟨rfl, d, os, rfl⟩
  go_wp2_with fail
  refine (HM2.out _).mono ?_
  rintro e _ ⟨rfl, d, os, rfl⟩
  go_wp2_with (go_at_call 16; refine (T.out _).mono ?_; rintro e _ ⟨rfl, d, os, rfl⟩)
  refine bodyPost_ret (v := .tuple #[.agg #[.int .i64 3, .int .i64 0, .string (s ++ s')], .int .i64 0]) (by simp [results, Tryd.results5, go_sem]) rfl ⟨rfl, by repeat (first | exact Ext.refl _ | apply Ext.alloc | apply Ext.more)⟩

/-- the table of powers of ten lies where it was laid -/
def Pow10 (B : Nat) (w : World) : Prop := (∃ g, Tryd.prog.globalNamed "internal/strconv.uint64pow10" = some g ∧ g < B) ∧ Lib.TabIs Tryd.prog w "internal/strconv.uint64pow10" .u64 Lib.pow10Tab
theorem Pow10.below {B B' : Nat} {w w' : World} (h : Pow10 B w) (hb : Below B' w w') (hB : B ≤ B') : Pow10 B w' := by
  obtain ⟨⟨g, hg, hlt⟩, h⟩ := h
  refine ⟨⟨g, hg, hlt⟩, ?_⟩
  unfold Lib.TabIs World.var? at h ⊢
  rw [hg] at h ⊢
  simp only [Option.bind_some] at h ⊢
  rw [hb.block _ (by omega)]; exact h
theorem ext_grow {w w' : World} {k : Nat} {os : Array Obj} (h : w' = Go.Sort.grow (w.drewN k) os) : Ext w w' := ⟨_, os, h⟩
/-- what is shown of a value -/
def showS (k i : Int) (s : ByteArray) : ByteArray := if k = 0 then ⟨#[110, 105, 108]⟩ else if k = 1 then (if i = 0 then ⟨#[102, 97, 108, 115, 101]⟩ else ⟨#[116, 114, 117, 101]⟩) else if k = 2 then ⟨(Lib.itoa i).toArray⟩ else s
theorem show_bad (k i : Int) (s : ByteArray) (h : mayB k i s = false) (w : World) :
    Calls Tryd.prog 8 #[.agg #[.int .i64 k, .int .i64 i, .string s]] w fun e w' => e = .returned (.tuple #[.agg #[.int .i64 0, .int .i64 0, .string ⟨#[]⟩], .int .i64 1]) ∧ Ext w w' := by
  have m := fun w => vmay_any k i s w
  rw [h] at m
  have M := Lib.hid m
  clear m h
  go_enter Tryd.func8, Tryd.ntmps8
  go_wp2_with (go_at_call 15; (with_reducible refine (M.out _).mono ?_); rintro e _ ⟨rfl, d, os, rfl⟩)
  refine bodyPost_ret (v := .tuple #[.agg #[.int .i64 0, .int .i64 0, .string ⟨#[]⟩], .int .i64 1]) (by simp [results, Tryd.results8, go_sem]) rfl ⟨rfl, by repeat (first | exact Ext.refl _ | apply Ext.alloc | apply Ext.more)⟩


theorem show_nil (i : Int) (s : ByteArray) (w : World) (h : mayB 0 i s = true) :
    Calls Tryd.prog 8 #[.agg #[.int .i64 0, .int .i64 i, .string s]] w fun e w' => e = .returned (.tuple #[.agg #[.int .i64 3, .int .i64 0, .string ⟨#[110, 105, 108]⟩], .int .i64 0]) ∧ Ext w w' := by
  have m := fun w => vmay_any 0 i s w
  rw [h] at m
  have M := Lib.hid m
  clear m h
  have T := Lib.hid (text_ok ⟨#[110, 105, 108]⟩ (by decide))
  go_enter Tryd.func8, Tryd.ntmps8
  go_wp2_with (first
    | (go_at_call 15; (with_reducible refine (M.out _).mono ?_); rintro e _ ⟨rfl, d, os, rfl⟩)
    | (go_at_call 16; refine (T.out _).mono ?_; rintro e _ ⟨rfl, d, os, rfl⟩))
  refine bodyPost_ret (v := .tuple #[.agg #[.int .i64 3, .int .i64 0, .string ⟨#[110, 105, 108]⟩], .int .i64 0]) (by simp [results, Tryd.results8, go_sem]) rfl ⟨rfl, by repeat (first | exact Ext.refl _ | apply Ext.alloc | apply Ext.more)⟩

theorem show_false (s : ByteArray) (w : World) (h : mayB 1 0 s = true) :
    Calls Tryd.prog 8 #[.agg #[.int .i64 1, .int .i64 0, .string s]] w fun e w' => e = .returned (.tuple #[.agg #[.int .i64 3, .int .i64 0, .string ⟨#[102, 97, 108, 115, 101]⟩], .int .i64 0]) ∧ Ext w w' := by
  have m := fun w => vmay_any 1 0 s w
  rw [h] at m
  have M := Lib.hid m
  clear m h
  have fb := fun w => Tryd.strconv_FormatBool false w
  have eb : (⟨(Lib.formatBool false).toArray⟩ : ByteArray) = ⟨#[102, 97, 108, 115, 101]⟩ := by unfold Lib.formatBool; rfl
  rw [eb] at fb
  have FB := Lib.hid fb
  clear fb eb
  have T := Lib.hid (text_ok ⟨#[102, 97, 108, 115, 101]⟩ (by decide))
  go_enter Tryd.func8, Tryd.ntmps8
  go_wp2_with (first
    | (go_at_call 15; (with_reducible refine (M.out _).mono ?_); rintro e _ ⟨rfl, d, os, rfl⟩)
    | (go_at_call 20; refine (FB.out _).mono ?_; rintro e _ ⟨rfl, rfl⟩)
    | (go_at_call 16; refine (T.out _).mono ?_; rintro e _ ⟨rfl, d, os, rfl⟩))
  refine bodyPost_ret (v := .tuple #[.agg #[.int .i64 3, .int .i64 0, .string ⟨#[102, 97, 108, 115, 101]⟩], .int .i64 0]) (by simp [results, Tryd.results8, go_sem]) rfl ⟨rfl, by repeat (first | exact Ext.refl _ | apply Ext.alloc | apply Ext.more)⟩

theorem show_true (s : ByteArray) (w : World) (h : mayB 1 1 s = true) :
    Calls Tryd.prog 8 #[.agg #[.int .i64 1, .int .i64 1, .string s]] w fun e w' => e = .returned (.tuple #[.agg #[.int .i64 3, .int .i64 0, .string ⟨#[116, 114, 117, 101]⟩], .int .i64 0]) ∧ Ext w w' := by
  have m := fun w => vmay_any 1 1 s w
  rw [h] at m
  have M := Lib.hid m
  clear m h
  have fb := fun w => Tryd.strconv_FormatBool true w
  have eb : (⟨(Lib.formatBool true).toArray⟩ : ByteArray) = ⟨#[116, 114, 117, 101]⟩ := by unfold Lib.formatBool; rfl
  rw [eb] at fb
  have FB := Lib.hid fb
  clear fb eb
  have T := Lib.hid (text_ok ⟨#[116, 114, 117, 101]⟩ (by decide))
  go_enter Tryd.func8, Tryd.ntmps8
  go_wp2_with (first
    | (go_at_call 15; (with_reducible refine (M.out _).mono ?_); rintro e _ ⟨rfl, d, os, rfl⟩)
    | (go_at_call 20; refine (FB.out _).mono ?_; rintro e _ ⟨rfl, rfl⟩)
    | (go_at_call 16; refine (T.out _).mono ?_; rintro e _ ⟨rfl, d, os, rfl⟩))
  refine bodyPost_ret (v := .tuple #[.agg #[.int .i64 3, .int .i64 0, .string ⟨#[116, 114, 117, 101]⟩], .int .i64 0]) (by simp [results, Tryd.results8, go_sem]) rfl ⟨rfl, by repeat (first | exact Ext.refl _ | apply Ext.alloc | apply Ext.more)⟩

theorem show_int (i : Int) (s : ByteArray) (h0 : -9223372036854775808 ≤ i) (h1 : i ≤ 9223372036854775807) (w : World) (h : mayB 2 i s = true) (PB : Nat) (hP : Pow10 PB w) (hpg : PB ≤ w.heap.size) :
    Calls Tryd.prog 8 #[.agg #[.int .i64 2, .int .i64 i, .string s]] w fun e w' => e = .returned (.tuple #[.agg #[.int .i64 3, .int .i64 0, .string ⟨(Lib.itoa i).toArray⟩], .int .i64 0]) ∧ Ext w w' := by
  have m := fun w => vmay_any 2 i s w
  rw [h] at m
  have M := Lib.hid m
  clear m h
  have hil := Lib.itoa_length_le i h0 h1
  have T := Lib.hid (text_ok ⟨(Lib.itoa i).toArray⟩ (by have e : (⟨(Lib.itoa i).toArray⟩ : ByteArray).size = (Lib.itoa i).length := rfl; omega))
  have FI := Lib.hid (Tryd.strconv_FormatInt_10 i h0 h1)
  have HP := Lib.hid hP
  clear hil hP
  go_enter Tryd.func8, Tryd.ntmps8
  go_wp2_with (first
    | (go_at_call 15; (with_reducible refine (M.out _).mono ?_); rintro e _ ⟨rfl, d, os, rfl⟩)
    | (go_at_call 21; refine (FI.out _ ((HP.out.below ((show Ext w _ from by repeat (first | exact Ext.refl _ | apply Ext.alloc | apply Ext.more))).below hpg).2)).mono ?_; rintro e w2 ⟨rfl, kk, oo, hw2⟩; obtain ⟨d, os, rfl⟩ := ext_grow hw2; clear hw2)
    | (go_at_call 16; refine (T.out _).mono ?_; rintro e _ ⟨rfl, d, os, rfl⟩))
  refine bodyPost_ret (v := .tuple #[.agg #[.int .i64 3, .int .i64 0, .string ⟨(Lib.itoa i).toArray⟩], .int .i64 0]) (by simp [results, Tryd.results8, go_sem]) rfl ⟨rfl, by repeat (first | exact Ext.refl _ | apply Ext.alloc | apply Ext.more)⟩

theorem show_text (s : ByteArray) (w : World) (h : mayB 3 0 s = true) :
    Calls Tryd.prog 8 #[.agg #[.int .i64 3, .int .i64 0, .string s]] w fun e w' => e = .returned (.tuple #[.agg #[.int .i64 3, .int .i64 0, .string s], .int .i64 0]) ∧ Ext w w' := by
  have m := fun w => vmay_any 3 0 s w
  rw [h] at m
  have M := Lib.hid m
  clear m h
  go_enter Tryd.func8, Tryd.ntmps8
  go_wp2_with (go_at_call 15; (with_reducible refine (M.out _).mono ?_); rintro e _ ⟨rfl, d, os, rfl⟩)
  refine bodyPost_ret (v := .tuple #[.agg #[.int .i64 3, .int .i64 0, .string s], .int .i64 0]) (by simp [results, Tryd.results8, go_sem]) rfl ⟨rfl, by repeat (first | exact Ext.refl _ | apply Ext.alloc | apply Ext.more)⟩


theorem wrap_in {n : Int} (h0 : -9223372036854775808 ≤ n) (h1 : n ≤ 9223372036854775807) : wrap64 n = n := by
  unfold wrap64; omega
theorem dec_big {m : Nat} (h : ¬ m < 10) : Lib.decDigits m = Lib.decDigits (m / 10) ++ [UInt8.ofNat (48 + m % 10)] := by
  rw [Lib.decDigits, dif_neg h]
/-- what is left to be written of u: m, ahead of t -/
def NumRel (u m : Nat) (t : List UInt8) : Prop := (m ≠ 0 ∧ Lib.decDigits u = Lib.decDigits m ++ t) ∨ (m = 0 ∧ Lib.decDigits u = t)
theorem NumRel.step {u m : Nat} {t : List UInt8} (h : NumRel u m t) (h0 : m ≠ 0) : NumRel u (m / 10) (UInt8.ofNat (48 + m % 10) :: t) := by
  rcases h with ⟨_, h⟩ | ⟨h, _⟩
  · by_cases hb : m < 10
    · right
      refine ⟨by omega, ?_⟩
      rw [h, Lib.decDigits_one hb]
      have : m % 10 = m := by omega
      rw [this]; rfl
    · left
      refine ⟨by omega, ?_⟩
      rw [h, dec_big hb]; simp
  · exact absurd h h0
theorem digit_piece (d : Nat) (hd : d < 10) : (⟨#[48, 49, 50, 51, 52, 53, 54, 55, 56, 57]⟩ : ByteArray).extract d (d + 1) = ⟨#[UInt8.ofNat (48 + d)]⟩ := by
  have : ∀ d : Fin 10, ((⟨#[48, 49, 50, 51, 52, 53, 54, 55, 56, 57]⟩ : ByteArray).extract d.val (d.val + 1)) = ⟨#[UInt8.ofNat (48 + d.val)]⟩ := by decide +kernel
  exact this ⟨d, hd⟩
theorem ba_app2 (a b : List UInt8) : (⟨a.toArray⟩ : ByteArray) ++ ⟨b.toArray⟩ = ⟨(a ++ b).toArray⟩ := by
  apply ByteArray.ext
  simp
theorem dig_lt : ∀ (n u : Nat), u < 10 ^ (n + 1) → (Lib.decDigits u).length ≤ n + 1
  | 0, u, h => by rw [Lib.decDigits_one (by omega)]; simp
  | n + 1, u, h => by
    by_cases hb : u < 10
    · rw [Lib.decDigits_one hb]; simp
    · rw [dec_big hb]
      have := dig_lt n (u / 10) (by rw [Nat.pow_succ] at h; omega)
      simp; omega
theorem dig_len (u : Nat) (h : u ≤ 9223372036854775808) : (Lib.decDigits u).length ≤ 21 := by
  have := dig_lt 20 u (Nat.lt_of_le_of_lt h (by decide))
  omega
theorem numRel_len {u m : Nat} {t : List UInt8} (h : NumRel u m t) (hu : u ≤ 9223372036854775808) : t.length ≤ 21 := by
  have := dig_len u hu
  rcases h with ⟨_, h⟩ | ⟨_, h⟩ <;> rw [h] at this <;> (try simp only [List.length_append] at this) <;> omega


/-- the state of Digits' loop -/
def DigRel (u m : Nat) (t : List UInt8) : Prop := (t = [] ∧ m = u) ∨ (t ≠ [] ∧ NumRel u m t)
theorem DigRel.step {u m : Nat} {t : List UInt8} (h : DigRel u m t) (hm : 0 < m ∨ t = []) : DigRel u (m / 10) (UInt8.ofNat (48 + m % 10) :: t) := by
  right
  refine ⟨by simp, ?_⟩
  rcases h with ⟨rfl, rfl⟩ | ⟨hne, h⟩
  · by_cases h0 : m = 0
    · subst h0
      exact Or.inr ⟨rfl, by rw [Lib.decDigits_one (by omega)]⟩
    · exact NumRel.step (Or.inl ⟨h0, by simp⟩) h0
  · rcases hm with hm | hm
    · exact h.step (by omega)
    · exact absurd hm hne
theorem DigRel.len {u m : Nat} {t : List UInt8} (h : DigRel u m t) (hu : u ≤ 9223372036854775808) : t.length ≤ 21 := by
  rcases h with ⟨rfl, _⟩ | ⟨_, h⟩
  · simp
  · exact numRel_len h hu
theorem DigRel.done {u : Nat} {t : List UInt8} (h : DigRel u 0 t) (ht : t ≠ []) : Lib.decDigits u = t := by
  rcases h with ⟨h, _⟩ | ⟨_, ⟨h, _⟩ | ⟨_, h⟩⟩
  · exact absurd h ht
  · exact absurd rfl h
  · exact h

set_option maxHeartbeats 2000000 in
set_option maxRecDepth 20000 in
theorem rdig_any (a : Int) (ha : In64 a) (w : World) : Calls Tryd.prog 28 #[.int .i64 a] w fun e w' => e = .returned (.string ⟨(Lib.itoa a).toArray⟩) ∧ Ext w w' := by
  have HS := Lib.hid (fun w => size_any a ha w)
  obtain ⟨u, hu⟩ : ∃ u, a.natAbs = u := ⟨_, rfl⟩
  rw [hu] at HS
  have hu8 : u ≤ 9223372036854775808 := by obtain ⟨h1, h2⟩ := ha; omega
  have HU8 := Lib.hid hu8
  have HU := Lib.hid hu
  obtain ⟨neg, hneg⟩ : ∃ b, (decide (a < 0)) = b := ⟨_, rfl⟩
  have hneg2 : (a < 0) = (neg = true) := by rw [← hneg]; simp
  have HNG := Lib.hid hneg2
  clear ha hu hu8 hneg hneg2
  go_enter Tryd.func28, Tryd.ntmps28
  go_wp2_with (go_at_call 38; refine (HS.out _).mono ?_; rintro e _ ⟨rfl, d, os, rfl⟩)
  go_loopg [3, 4] (u + 1) (fun g nv sv wr => ∃ (m : Nat) (t : List UInt8), m ≤ u ∧ g = m + (if t.isEmpty then 1 else 0) ∧ nv = .int .u64 (m : Int) ∧ DigRel u m t ∧ sv = .string ⟨t.toArray⟩ ∧ wr = more w d os)
  case atStart => exact ⟨u, [], Nat.le_refl _, rfl, rfl, Or.inl ⟨rfl, rfl⟩, rfl, rfl⟩
  case round =>
    obtain ⟨m, t, hmu, hgk, rfl, hr, rfl, rfl⟩ := hrel
    have htl := hr.len (by have := HU8.out; omega)
    have HTL := Lib.hid htl
    have HR := Lib.hid hr
    have HMU := Lib.hid hmu
    have HGK := Lib.hid hgk
    have hcat : (9223372036854775807 < 1 + t.length) = False := by simp; omega
    have hm8 : (m : Int) ≤ 9223372036854775808 := by have := HU8.out; omega
    clear htl hr hmu hgk
    by_cases hc : 0 < m ∨ t = []
    · obtain ⟨q, hq⟩ : ∃ q, m / 10 = q := ⟨_, rfl⟩
      obtain ⟨r, hrr⟩ : ∃ r, m % 10 = r := ⟨_, rfl⟩
      have hr10 : r < 10 := by omega
      have hst := HR.out.step hc
      rw [hq, hrr] at hst
      have hp := digit_piece r hr10
      obtain ⟨c, hcc⟩ : ∃ c, UInt8.ofNat (48 + r) = c := ⟨_, rfl⟩
      rw [hcc] at hst hp
      have HST := Lib.hid hst
      have hd : (m : Int) / 10 = (q : Int) := by omega
      have ht : (m : Int) % 10 = (r : Int) := by omega
      have hlt : q + 0 < m + (if t.isEmpty then 1 else 0) := by
        rcases hc with h | h
        · split <;> omega
        · subst h; simp; omega
      have HLT := Lib.hid hlt
      have hqm : q ≤ m := by omega
      have HQM := Lib.hid hqm
      have hr9 : (r : Int) ≤ 9 := by omega
      have HQ0 := Lib.hid (show m = 0 → q = 0 ∧ r = 0 by intro h; omega)
      clear hst hcc hq hrr hlt hqm
      by_cases hc' : 0 < m
      · have hc1 : (0 : Int) < m := by omega
        clear hc hc'
        go_wp2_with fail
        go_roundg q
        case measure => have := HLT.out; have := HGK.out; omega
        case rel =>
          refine ⟨q, _, by have := HMU.out; have := HQM.out; omega, rfl, rfl, HST.out, ?_, rfl⟩
          exact congrArg Value.string (ba_app2 [c] t)
      · have htn : t = [] := hc.resolve_left hc'
        have hm0 : m = 0 := by omega
        obtain ⟨hq0, hr0⟩ := HQ0.out hm0
        subst htn hm0 hq0 hr0
        have hn1 : ((⟨([] : List UInt8).toArray⟩ : ByteArray)).toList = [] := by rw [Lib.toList_data]
        clear hc hc'
        go_wp2_with fail
        go_roundg 0
        case measure => have := HLT.out; have := HGK.out; omega
        case rel =>
          refine ⟨0, _, Nat.zero_le _, rfl, rfl, HST.out, ?_, rfl⟩
          exact congrArg Value.string (ba_app2 [c] [])
    · have hm0 : m = 0 := by omega
      have htn : t ≠ [] := fun e => hc (Or.inr e)
      subst hm0
      have HD := Lib.hid (HR.out.done htn)
      have hn1 : ((⟨t.toArray⟩ : ByteArray).toList = []) = False := by rw [Lib.toList_data]; simpa using htn
      have hn3 : (t = []) = False := by simpa using htn
      have hn4 : t.isEmpty = false := by simpa using htn
      clear hc htn
      by_cases hn : a < 0
      · have HI := Lib.hid (show Lib.itoa a = 45 :: t by unfold Lib.itoa; rw [if_pos hn, HU.out, HD.out])
        go_wp2_with fail
        go_ret
        rw [HI.out]
        exact ⟨congrArg (fun z => Ending.returned (.string z)) (ba_app2 [45] t), by repeat (first | exact Ext.refl _ | apply Ext.alloc | apply Ext.more)⟩
      · have HI := Lib.hid (show Lib.itoa a = t by unfold Lib.itoa; have e : a.toNat = u := by have := HU.out; omega
                                                   rw [if_neg hn, e, HD.out])
        go_wp2_with fail
        go_ret
        rw [HI.out]
        exact ⟨rfl, by repeat (first | exact Ext.refl _ | apply Ext.alloc | apply Ext.more)⟩
end Go.Proofs.YtoaaklcbcbjaiaaDoor
