/- The contracts of value's and the reference's small functions: May, order, Less, Compare and the makers of values. -/
import Derived.Test.YtoaaklcbcbjaiaaDoorVoc
import Derived.Test.YtoaaklcbcbjaiaaDoorRows
import Derived.Test.YtoaaklcbcbjaiaaDoorShelf
set_option linter.unusedSimpArgs false
namespace Go.Proofs.YtoaaklcbcbjaiaaDoor
open Go.RowKit

structure Val where
  k : Int
  i : Int
  s : ByteArray

theorem ret_bool {a b : Bool} (h : a = b) : Ending.returned (.bool a) = .returned (.bool b) := by rw [h]
theorem ret_int {k : IntKind} {a b : Int} (h : a = b) : Ending.returned (.int k a) = .returned (.int k b) := by rw [h]
theorem empty_size (s : ByteArray) : s.toList.isEmpty = (s.size == 0) := by
  rw [Lib.toList_data, Bool.eq_iff_iff]
  simp [← ByteArray.size_data, Array.size_eq_zero_iff]
theorem nil_size (s : ByteArray) : (s.toList = []) = (s.size = 0) := by
  rw [Lib.toList_data]
  simp [← ByteArray.size_data, Array.size_eq_zero_iff]

def mayB (k i : Int) (s : ByteArray) : Bool :=
  (k == 0 && i == 0 && s.size == 0) || (k == 1 && (i == 0 || i == 1) && s.size == 0) || (k == 2 && s.size == 0) || (k == 3 && i == 0 && decide (s.size ≤ 64))

set_option maxHeartbeats 400000 in
theorem vmay_any (k i : Int) (s : ByteArray) (w : World) :
    Calls Tryd.prog 15 #[.agg #[.int .i64 k, .int .i64 i, .string s]] w fun e w' => e = .returned (.bool (mayB k i s)) ∧ Ext w w' := by
  go_enter Tryd.func15, Tryd.ntmps15
  go_wp2
  all_goals
    go_ret
    refine ⟨ret_bool ?_, (Ext.refl _).alloc _⟩
    go_tidy
    simp_all [mayB, empty_size, nil_size]
  all_goals omega

set_option maxHeartbeats 400000 in
theorem rmay_any (k i : Int) (s : ByteArray) (w : World) :
    Calls Tryd.prog 9 #[.agg #[.int .i64 k, .int .i64 i, .string s]] w fun e w' => e = .returned (.bool (mayB k i s)) ∧ Ext w w' := by
  go_enter Tryd.func9, Tryd.ntmps9
  go_wp2
  all_goals
    go_ret
    refine ⟨ret_bool ?_, (Ext.refl _).alloc _⟩
    go_tidy
    simp_all [mayB, empty_size, nil_size]
  all_goals omega

def orderZ (k i : Int) (s : ByteArray) (k' i' : Int) (s' : ByteArray) : Int :=
  if k ≠ k' then wrap64 (k - k') else if i < i' then -1 else if i' < i then 1 else Lib.compareBytes s.data.toList s'.data.toList

set_option maxHeartbeats 400000 in
theorem order_any (k i : Int) (s : ByteArray) (k' i' : Int) (s' : ByteArray) (w : World) :
    Calls Tryd.prog 35 #[.agg #[.int .i64 k, .int .i64 i, .string s], .agg #[.int .i64 k', .int .i64 i', .string s']] w fun e w' => e = .returned (.int .i64 (orderZ k i s k' i' s')) ∧ Ext w w' := by
  go_enter Tryd.func35, Tryd.ntmps35
  go_wp2_with (go_at_call 43; refine (Tryd.strings_Compare _ _ _).mono ?_; rintro e w' ⟨rfl, rfl⟩)
  all_goals
    go_ret
    refine ⟨ret_int ?_, ((Ext.refl _).alloc _).alloc _⟩
    go_tidy
    simp_all [orderZ]
  all_goals omega

/-- the document's order -/
def rorderZ (k i : Int) (s : ByteArray) (k' i' : Int) (s' : ByteArray) : Int :=
  if k = k' ∧ i = i' ∧ s.toList = s'.toList then 0 else if k < k' ∨ k = k' ∧ (i < i' ∨ i = i' ∧ Op.bytesLess s.toList s'.toList = true) then -1 else 1

def lessB (k i : Int) (s : ByteArray) (k' i' : Int) (s' : ByteArray) : Bool := mayB k i s && mayB k' i' s' && decide (orderZ k i s k' i' s' < 0)

def eqV (k i : Int) (s : ByteArray) (k' i' : Int) (s' : ByteArray) : Bool := k == k' && i == i' && s.toList == s'.toList

set_option maxHeartbeats 400000 in
theorem is_any (k i : Int) (s : ByteArray) (e : Int) (k' i' : Int) (s' : ByteArray) (n : Int) (w : World) :
    Calls Tryd.prog 14 #[.agg #[.int .i64 k, .int .i64 i, .string s], .int .i64 e, .agg #[.int .i64 k', .int .i64 i', .string s'], .int .i64 n] w fun r w' => r = .returned (.bool (eqV k i s k' i' s' && e == n)) ∧ Ext w w' := by
  go_enter Tryd.func14, Tryd.ntmps14
  go_wp2
  all_goals
    go_ret
    refine ⟨ret_bool ?_, ((Ext.refl _).alloc _).alloc _⟩
    go_tidy
    simp_all [eqV]

def fewS (s : ByteArray) : ByteArray := if 200 < s.size then s.extract 0 200 else s

set_option maxHeartbeats 400000 in
theorem few_any (k i : Int) (s : ByteArray) (w : World) :
    Calls Tryd.prog 4 #[.agg #[.int .i64 k, .int .i64 i, .string s]] w fun r w' => r = .returned (.agg #[.int .i64 k, .int .i64 i, .string (fewS s)]) ∧ Ext w w' := by
  by_cases h : 200 < (s.size : Int)
  · have e : fewS s = s.extract 0 200 := by unfold fewS; rw [if_pos (by omega)]
    rw [e]
    clear e
    go_enter Tryd.func4, Tryd.ntmps4
    go_wp2
    refine bodyPost_ret (v := .agg #[.int .i64 k, .int .i64 i, .string (s.extract 0 200)]) (by simp [results, Tryd.results4, go_sem]) rfl ⟨rfl, by repeat (first | exact Ext.refl _ | apply Ext.alloc | apply Ext.more)⟩
  · have e : fewS s = s := by unfold fewS; rw [if_neg (by omega)]
    rw [e]
    clear e
    go_enter Tryd.func4, Tryd.ntmps4
    go_wp2
    refine bodyPost_ret (v := .agg #[.int .i64 k, .int .i64 i, .string s]) (by simp [results, Tryd.results4, go_sem]) rfl ⟨rfl, by repeat (first | exact Ext.refl _ | apply Ext.alloc | apply Ext.more)⟩

theorem int_any (n : Int) (w : World) :
    Calls Tryd.prog 18 #[.int .i64 n] w fun r w' => r = .returned (.agg #[.int .i64 2, .int .i64 n, .string ⟨#[]⟩]) ∧ Ext w w' := by
  go_enter Tryd.func18, Tryd.ntmps18
  go_wp2
  refine bodyPost_ret (v := .agg #[.int .i64 2, .int .i64 n, .string ⟨#[]⟩]) (by simp [results, Tryd.results18, go_sem]) rfl ⟨rfl, by repeat (first | exact Ext.refl _ | apply Ext.alloc | apply Ext.more)⟩

theorem rint_any (n : Int) (w : World) :
    Calls Tryd.prog 12 #[.int .i64 n] w fun r w' => r = .returned (.agg #[.int .i64 2, .int .i64 n, .string ⟨#[]⟩]) ∧ Ext w w' := by
  go_enter Tryd.func12, Tryd.ntmps12
  go_wp2
  refine bodyPost_ret (v := .agg #[.int .i64 2, .int .i64 n, .string ⟨#[]⟩]) (by simp [results, Tryd.results12, go_sem]) rfl ⟨rfl, by repeat (first | exact Ext.refl _ | apply Ext.alloc | apply Ext.more)⟩

theorem nil_any  (w : World) :
    Calls Tryd.prog 26 #[] w fun r w' => r = .returned (.agg #[.int .i64 0, .int .i64 0, .string ⟨#[]⟩]) ∧ Ext w w' := by
  go_enter Tryd.func26, Tryd.ntmps26
  go_wp2
  refine bodyPost_ret (v := .agg #[.int .i64 0, .int .i64 0, .string ⟨#[]⟩]) (by simp [results, Tryd.results26, go_sem]) rfl ⟨rfl, by repeat (first | exact Ext.refl _ | apply Ext.alloc | apply Ext.more)⟩

theorem bool_true  (w : World) :
    Calls Tryd.prog 19 #[.bool true] w fun r w' => r = .returned (.agg #[.int .i64 1, .int .i64 1, .string ⟨#[]⟩]) ∧ Ext w w' := by
  go_enter Tryd.func19, Tryd.ntmps19
  go_wp2
  refine bodyPost_ret (v := .agg #[.int .i64 1, .int .i64 1, .string ⟨#[]⟩]) (by simp [results, Tryd.results19, go_sem]) rfl ⟨rfl, by repeat (first | exact Ext.refl _ | apply Ext.alloc | apply Ext.more)⟩

theorem rbool_true  (w : World) :
    Calls Tryd.prog 13 #[.bool true] w fun r w' => r = .returned (.agg #[.int .i64 1, .int .i64 1, .string ⟨#[]⟩]) ∧ Ext w w' := by
  go_enter Tryd.func13, Tryd.ntmps13
  go_wp2
  refine bodyPost_ret (v := .agg #[.int .i64 1, .int .i64 1, .string ⟨#[]⟩]) (by simp [results, Tryd.results13, go_sem]) rfl ⟨rfl, by repeat (first | exact Ext.refl _ | apply Ext.alloc | apply Ext.more)⟩

theorem bool_false  (w : World) :
    Calls Tryd.prog 19 #[.bool false] w fun r w' => r = .returned (.agg #[.int .i64 1, .int .i64 0, .string ⟨#[]⟩]) ∧ Ext w w' := by
  go_enter Tryd.func19, Tryd.ntmps19
  go_wp2
  refine bodyPost_ret (v := .agg #[.int .i64 1, .int .i64 0, .string ⟨#[]⟩]) (by simp [results, Tryd.results19, go_sem]) rfl ⟨rfl, by repeat (first | exact Ext.refl _ | apply Ext.alloc | apply Ext.more)⟩

theorem rbool_false  (w : World) :
    Calls Tryd.prog 13 #[.bool false] w fun r w' => r = .returned (.agg #[.int .i64 1, .int .i64 0, .string ⟨#[]⟩]) ∧ Ext w w' := by
  go_enter Tryd.func13, Tryd.ntmps13
  go_wp2
  refine bodyPost_ret (v := .agg #[.int .i64 1, .int .i64 0, .string ⟨#[]⟩]) (by simp [results, Tryd.results13, go_sem]) rfl ⟨rfl, by repeat (first | exact Ext.refl _ | apply Ext.alloc | apply Ext.more)⟩

def boolI (b : Bool) : Int := if b then 1 else 0

theorem bool_any (b : Bool) (w : World) :
    Calls Tryd.prog 19 #[.bool b] w fun r w' => r = .returned (.agg #[.int .i64 1, .int .i64 (boolI b), .string ⟨#[]⟩]) ∧ Ext w w' := by
  cases b
  · exact bool_false w
  · exact bool_true w

theorem rbool_any (b : Bool) (w : World) :
    Calls Tryd.prog 13 #[.bool b] w fun r w' => r = .returned (.agg #[.int .i64 1, .int .i64 (boolI b), .string ⟨#[]⟩]) ∧ Ext w w' := by
  cases b
  · exact rbool_false w
  · exact rbool_true w

theorem text_full (s : ByteArray) (h : 64 < (s.size : Int)) (w : World) :
    Calls Tryd.prog 16 #[.string s] w fun r w' => r = .returned (.tuple #[.agg #[.int .i64 0, .int .i64 0, .string ⟨#[]⟩], .int .i64 5]) ∧ Ext w w' := by
  go_enter Tryd.func16, Tryd.ntmps16
  go_wp2
  refine bodyPost_ret (v := .tuple #[.agg #[.int .i64 0, .int .i64 0, .string ⟨#[]⟩], .int .i64 5]) (by simp [results, Tryd.results16, go_sem]) rfl ⟨rfl, by repeat (first | exact Ext.refl _ | apply Ext.alloc | apply Ext.more)⟩

theorem text_ok (s : ByteArray) (h : (s.size : Int) ≤ 64) (w : World) :
    Calls Tryd.prog 16 #[.string s] w fun r w' => r = .returned (.tuple #[.agg #[.int .i64 3, .int .i64 0, .string s], .int .i64 0]) ∧ Ext w w' := by
  go_enter Tryd.func16, Tryd.ntmps16
  go_wp2
  refine bodyPost_ret (v := .tuple #[.agg #[.int .i64 3, .int .i64 0, .string s], .int .i64 0]) (by simp [results, Tryd.results16, go_sem]) rfl ⟨rfl, by repeat (first | exact Ext.refl _ | apply Ext.alloc | apply Ext.more)⟩

def cmpIs (op o : Int) : Bool := if op = 0 then o == 0 else if op = 1 then o != 0 else if op = 2 then decide (o < 0) else if op = 3 then decide (o ≤ 0) else if op = 4 then decide (0 < o) else decide (0 ≤ o)
/-- Compare's answer, o the order -/
def cmpF (op k i : Int) (s : ByteArray) (k' i' : Int) (s' : ByteArray) (o : Int) : Val × Int :=
  if (mayB k i s && mayB k' i' s') = false then (⟨0, 0, ⟨#[]⟩⟩, 1) else if op < 0 ∨ 5 < op then (⟨0, 0, ⟨#[]⟩⟩, 4) else if 1 < op ∧ k ≠ k' then (⟨0, 0, ⟨#[]⟩⟩, 10) else (⟨1, boolI (cmpIs op o), ⟨#[]⟩⟩, 0)
def resV (x : Val × Int) : Value := .tuple #[.agg #[.int .i64 x.1.k, .int .i64 x.1.i, .string x.1.s], .int .i64 x.2]

set_option maxHeartbeats 1600000 in
theorem cmp_any' (op k i : Int) (s : ByteArray) (k' i' : Int) (s' : ByteArray) (w : World) :
    Calls Tryd.prog 25 #[.int .i64 op, .agg #[.int .i64 k, .int .i64 i, .string s], .agg #[.int .i64 k', .int .i64 i', .string s']] w fun r w' => r = .returned (resV (cmpF op k i s k' i' s' (orderZ k i s k' i' s'))) ∧ Ext w w' := by
  by_cases h1 : mayB k i s = true
  case neg =>
    have h1 : mayB k i s = false := by simpa using h1
    have hr : cmpF op k i s k' i' s' (orderZ k i s k' i' s') = (⟨0, 0, ⟨#[]⟩⟩, 1) := by simp [cmpF, h1]
    rw [hr]; clear hr
    go_enter Tryd.func25, Tryd.ntmps25
    go_wp2_with (go_at_call 15; refine (vmay_any _ _ _ _).mono ?_; rintro e _ ⟨rfl, d, os, rfl⟩)
    refine bodyPost_ret (v := .tuple #[.agg #[.int .i64 0, .int .i64 0, .string ⟨#[]⟩], .int .i64 1]) (by simp [results, Tryd.results25, go_sem]) rfl ⟨rfl, by repeat (first | exact Ext.refl _ | apply Ext.alloc | apply Ext.more)⟩
  by_cases h2 : mayB k' i' s' = true
  case neg =>
    have h2 : mayB k' i' s' = false := by simpa using h2
    have hr : cmpF op k i s k' i' s' (orderZ k i s k' i' s') = (⟨0, 0, ⟨#[]⟩⟩, 1) := by simp [cmpF, h2]
    rw [hr]; clear hr
    go_enter Tryd.func25, Tryd.ntmps25
    go_wp2_with (go_at_call 15; refine (vmay_any _ _ _ _).mono ?_; rintro e _ ⟨rfl, d, os, rfl⟩)
    refine bodyPost_ret (v := .tuple #[.agg #[.int .i64 0, .int .i64 0, .string ⟨#[]⟩], .int .i64 1]) (by simp [results, Tryd.results25, go_sem]) rfl ⟨rfl, by repeat (first | exact Ext.refl _ | apply Ext.alloc | apply Ext.more)⟩
  by_cases h3 : op < 0
  · have hr : cmpF op k i s k' i' s' (orderZ k i s k' i' s') = (⟨0, 0, ⟨#[]⟩⟩, 4) := by simp [cmpF, h1, h2, h3]
    rw [hr]; clear hr
    go_enter Tryd.func25, Tryd.ntmps25
    go_wp2_with (go_at_call 15; refine (vmay_any _ _ _ _).mono ?_; rintro e _ ⟨rfl, d, os, rfl⟩)
    refine bodyPost_ret (v := .tuple #[.agg #[.int .i64 0, .int .i64 0, .string ⟨#[]⟩], .int .i64 4]) (by simp [results, Tryd.results25, go_sem]) rfl ⟨rfl, by repeat (first | exact Ext.refl _ | apply Ext.alloc | apply Ext.more)⟩
  by_cases h4 : 5 < op
  · have hr : cmpF op k i s k' i' s' (orderZ k i s k' i' s') = (⟨0, 0, ⟨#[]⟩⟩, 4) := by simp [cmpF, h1, h2, h4]
    rw [hr]; clear hr
    go_enter Tryd.func25, Tryd.ntmps25
    go_wp2_with (go_at_call 15; refine (vmay_any _ _ _ _).mono ?_; rintro e _ ⟨rfl, d, os, rfl⟩)
    refine bodyPost_ret (v := .tuple #[.agg #[.int .i64 0, .int .i64 0, .string ⟨#[]⟩], .int .i64 4]) (by simp [results, Tryd.results25, go_sem]) rfl ⟨rfl, by repeat (first | exact Ext.refl _ | apply Ext.alloc | apply Ext.more)⟩
  by_cases h5 : 1 < op ∧ k ≠ k'
  · have hr : cmpF op k i s k' i' s' (orderZ k i s k' i' s') = (⟨0, 0, ⟨#[]⟩⟩, 10) := by simp [cmpF, h1, h2, h3, h4, h5]
    rw [hr]; clear hr
    obtain ⟨h5, h6⟩ := h5
    have h7 : (k != k') = true := by simpa using h6
    clear h6
    go_enter Tryd.func25, Tryd.ntmps25
    go_wp2_with (go_at_call 15; refine (vmay_any _ _ _ _).mono ?_; rintro e _ ⟨rfl, d, os, rfl⟩)
    refine bodyPost_ret (v := .tuple #[.agg #[.int .i64 0, .int .i64 0, .string ⟨#[]⟩], .int .i64 10]) (by simp [results, Tryd.results25, go_sem]) rfl ⟨rfl, by repeat (first | exact Ext.refl _ | apply Ext.alloc | apply Ext.more)⟩
  have h6 : 2 ≤ op → (k != k') = false := by
    intro h; simp; apply Classical.byContradiction; intro h'; exact h5 ⟨by omega, h'⟩
  have hr : cmpF op k i s k' i' s' (orderZ k i s k' i' s') = (⟨1, boolI (cmpIs op (orderZ k i s k' i' s')), ⟨#[]⟩⟩, 0) := by simp [cmpF, h1, h2, h3, h4, h5]
  rw [hr]; clear hr h5
  have hc : op = 0 ∨ op = 1 ∨ op = 2 ∨ op = 3 ∨ op = 4 ∨ op = 5 := by omega
  clear h3 h4
  rcases hc with rfl | rfl | rfl | rfl | rfl | rfl
  · have ix : ∀ (x0 x1 x2 x3 x4 x5 : Bool) (w : World), (Instr.index 48 (.agg #[.bool x0, .bool x1, .bool x2, .bool x3, .bool x4, .bool x5]) (.int .i64 0)).run Tryd.prog w = .ok (.bool x0) w := fun _ _ _ _ _ _ _ => by kernel_rfl
    clear h6
    go_enter Tryd.func25, Tryd.ntmps25
    go_wp2_with (first
      | (go_at_call 15; refine (vmay_any _ _ _ _).mono ?_; rintro e _ ⟨rfl, d, os, rfl⟩)
      | (go_at_call 35; refine (order_any _ _ _ _ _ _ _).mono ?_; rintro e _ ⟨rfl, d, os, rfl⟩)
      | (go_at_call 19; refine (bool_any _ _).mono ?_; rintro e _ ⟨rfl, d, os, rfl⟩))
    refine bodyPost_ret (v := .tuple #[.agg #[.int .i64 1, .int .i64 (boolI (cmpIs 0 (orderZ k i s k' i' s'))), .string ⟨#[]⟩], .int .i64 0]) (by simp [results, Tryd.results25, go_sem, cmpIs]) rfl ⟨rfl, by repeat (first | exact Ext.refl _ | apply Ext.alloc | apply Ext.more)⟩
  · have ix : ∀ (x0 x1 x2 x3 x4 x5 : Bool) (w : World), (Instr.index 48 (.agg #[.bool x0, .bool x1, .bool x2, .bool x3, .bool x4, .bool x5]) (.int .i64 1)).run Tryd.prog w = .ok (.bool x1) w := fun _ _ _ _ _ _ _ => by kernel_rfl
    clear h6
    go_enter Tryd.func25, Tryd.ntmps25
    go_wp2_with (first
      | (go_at_call 15; refine (vmay_any _ _ _ _).mono ?_; rintro e _ ⟨rfl, d, os, rfl⟩)
      | (go_at_call 35; refine (order_any _ _ _ _ _ _ _).mono ?_; rintro e _ ⟨rfl, d, os, rfl⟩)
      | (go_at_call 19; refine (bool_any _ _).mono ?_; rintro e _ ⟨rfl, d, os, rfl⟩))
    refine bodyPost_ret (v := .tuple #[.agg #[.int .i64 1, .int .i64 (boolI (cmpIs 1 (orderZ k i s k' i' s'))), .string ⟨#[]⟩], .int .i64 0]) (by simp [results, Tryd.results25, go_sem, cmpIs]) rfl ⟨rfl, by repeat (first | exact Ext.refl _ | apply Ext.alloc | apply Ext.more)⟩
  · have ix : ∀ (x0 x1 x2 x3 x4 x5 : Bool) (w : World), (Instr.index 48 (.agg #[.bool x0, .bool x1, .bool x2, .bool x3, .bool x4, .bool x5]) (.int .i64 2)).run Tryd.prog w = .ok (.bool x2) w := fun _ _ _ _ _ _ _ => by kernel_rfl
    replace h6 := h6 (by omega)
    go_enter Tryd.func25, Tryd.ntmps25
    go_wp2_with (first
      | (go_at_call 15; refine (vmay_any _ _ _ _).mono ?_; rintro e _ ⟨rfl, d, os, rfl⟩)
      | (go_at_call 35; refine (order_any _ _ _ _ _ _ _).mono ?_; rintro e _ ⟨rfl, d, os, rfl⟩)
      | (go_at_call 19; refine (bool_any _ _).mono ?_; rintro e _ ⟨rfl, d, os, rfl⟩))
    refine bodyPost_ret (v := .tuple #[.agg #[.int .i64 1, .int .i64 (boolI (cmpIs 2 (orderZ k i s k' i' s'))), .string ⟨#[]⟩], .int .i64 0]) (by simp [results, Tryd.results25, go_sem, cmpIs]) rfl ⟨rfl, by repeat (first | exact Ext.refl _ | apply Ext.alloc | apply Ext.more)⟩
  · have ix : ∀ (x0 x1 x2 x3 x4 x5 : Bool) (w : World), (Instr.index 48 (.agg #[.bool x0, .bool x1, .bool x2, .bool x3, .bool x4, .bool x5]) (.int .i64 3)).run Tryd.prog w = .ok (.bool x3) w := fun _ _ _ _ _ _ _ => by kernel_rfl
    replace h6 := h6 (by omega)
    go_enter Tryd.func25, Tryd.ntmps25
    go_wp2_with (first
      | (go_at_call 15; refine (vmay_any _ _ _ _).mono ?_; rintro e _ ⟨rfl, d, os, rfl⟩)
      | (go_at_call 35; refine (order_any _ _ _ _ _ _ _).mono ?_; rintro e _ ⟨rfl, d, os, rfl⟩)
      | (go_at_call 19; refine (bool_any _ _).mono ?_; rintro e _ ⟨rfl, d, os, rfl⟩))
    refine bodyPost_ret (v := .tuple #[.agg #[.int .i64 1, .int .i64 (boolI (cmpIs 3 (orderZ k i s k' i' s'))), .string ⟨#[]⟩], .int .i64 0]) (by simp [results, Tryd.results25, go_sem, cmpIs]) rfl ⟨rfl, by repeat (first | exact Ext.refl _ | apply Ext.alloc | apply Ext.more)⟩
  · have ix : ∀ (x0 x1 x2 x3 x4 x5 : Bool) (w : World), (Instr.index 48 (.agg #[.bool x0, .bool x1, .bool x2, .bool x3, .bool x4, .bool x5]) (.int .i64 4)).run Tryd.prog w = .ok (.bool x4) w := fun _ _ _ _ _ _ _ => by kernel_rfl
    replace h6 := h6 (by omega)
    go_enter Tryd.func25, Tryd.ntmps25
    go_wp2_with (first
      | (go_at_call 15; refine (vmay_any _ _ _ _).mono ?_; rintro e _ ⟨rfl, d, os, rfl⟩)
      | (go_at_call 35; refine (order_any _ _ _ _ _ _ _).mono ?_; rintro e _ ⟨rfl, d, os, rfl⟩)
      | (go_at_call 19; refine (bool_any _ _).mono ?_; rintro e _ ⟨rfl, d, os, rfl⟩))
    refine bodyPost_ret (v := .tuple #[.agg #[.int .i64 1, .int .i64 (boolI (cmpIs 4 (orderZ k i s k' i' s'))), .string ⟨#[]⟩], .int .i64 0]) (by simp [results, Tryd.results25, go_sem, cmpIs]) rfl ⟨rfl, by repeat (first | exact Ext.refl _ | apply Ext.alloc | apply Ext.more)⟩
  · have ix : ∀ (x0 x1 x2 x3 x4 x5 : Bool) (w : World), (Instr.index 48 (.agg #[.bool x0, .bool x1, .bool x2, .bool x3, .bool x4, .bool x5]) (.int .i64 5)).run Tryd.prog w = .ok (.bool x5) w := fun _ _ _ _ _ _ _ => by kernel_rfl
    replace h6 := h6 (by omega)
    go_enter Tryd.func25, Tryd.ntmps25
    go_wp2_with (first
      | (go_at_call 15; refine (vmay_any _ _ _ _).mono ?_; rintro e _ ⟨rfl, d, os, rfl⟩)
      | (go_at_call 35; refine (order_any _ _ _ _ _ _ _).mono ?_; rintro e _ ⟨rfl, d, os, rfl⟩)
      | (go_at_call 19; refine (bool_any _ _).mono ?_; rintro e _ ⟨rfl, d, os, rfl⟩))
    refine bodyPost_ret (v := .tuple #[.agg #[.int .i64 1, .int .i64 (boolI (cmpIs 5 (orderZ k i s k' i' s'))), .string ⟨#[]⟩], .int .i64 0]) (by simp [results, Tryd.results25, go_sem, cmpIs]) rfl ⟨rfl, by repeat (first | exact Ext.refl _ | apply Ext.alloc | apply Ext.more)⟩

theorem cmp_any (op k i : Int) (s : ByteArray) (k' i' : Int) (s' : ByteArray) (v : Val) (n : Int) (h : cmpF op k i s k' i' s' (orderZ k i s k' i' s') = (v, n)) (w : World) :
    Calls Tryd.prog 25 #[.int .i64 op, .agg #[.int .i64 k, .int .i64 i, .string s], .agg #[.int .i64 k', .int .i64 i', .string s']] w fun r w' => r = .returned (.tuple #[.agg #[.int .i64 v.k, .int .i64 v.i, .string v.s], .int .i64 n]) ∧ Ext w w' := by
  have := cmp_any' op k i s k' i' s' w
  rw [h] at this
  exact this
end Go.Proofs.YtoaaklcbcbjaiaaDoor
