/- The contracts of value's and the reference's small functions: May, order, Less, Compare and the makers of values. -/
import Derived.Test.YthekfgbiplmikaaVoc
import Derived.Test.YthekfgbiplmikaaRows
import Derived.Test.YthekfgbiplmikaaShelf
set_option linter.unusedSimpArgs false
namespace Go.Proofs.Ythekfgbiplmikaa
open Go.RowKit

structure Val where
  k : Int
  i : Int
  s : ByteArray

theorem ret_bool {a b : Bool} (h : a = b) : Ending.returned (.bool a) = .returned (.bool b) := by rw [h]
theorem ret_int {k : IntKind} {a b : Int} (h : a = b) : Ending.returned (.int k a) = .returned (.int k b) := by rw [h]
theorem empty_size (s : ByteArray) : s.toList.isEmpty = (s.size == 0) := by
  rw [Lib.toList_data, Bool.eq_iff_iff]
  simp [← ByteArray.size_data, Array.size_eq_zero_iff]
theorem nil_size (s : ByteArray) : (s.toList = []) = (s.size = 0) := by
  rw [Lib.toList_data]
  simp [← ByteArray.size_data, Array.size_eq_zero_iff]

def mayB (k i : Int) (s : ByteArray) : Bool :=
  (k == 0 && i == 0 && s.size == 0) || (k == 1 && (i == 0 || i == 1) && s.size == 0) || (k == 2 && s.size == 0) || (k == 3 && i == 0 && decide (s.size ≤ 64))

set_option maxHeartbeats 400000 in
theorem vmay_any (k i : Int) (s : ByteArray) (w : World) :
    Calls Try.prog 18 #[.agg #[.int .i64 k, .int .i64 i, .string s]] w fun e w' => e = .returned (.bool (mayB k i s)) ∧ Ext w w' := by
  go_enter Try.func18, Try.ntmps18
  go_wp2
  all_goals
    go_ret
    refine ⟨ret_bool ?_, (Ext.refl _).alloc _⟩
    go_tidy
    simp_all [mayB, empty_size, nil_size]
  all_goals omega

set_option maxHeartbeats 400000 in
theorem rmay_any (k i : Int) (s : ByteArray) (w : World) :
    Calls Try.prog 15 #[.agg #[.int .i64 k, .int .i64 i, .string s]] w fun e w' => e = .returned (.bool (mayB k i s)) ∧ Ext w w' := by
  go_enter Try.func15, Try.ntmps15
  go_wp2
  all_goals
    go_ret
    refine ⟨ret_bool ?_, (Ext.refl _).alloc _⟩
    go_tidy
    simp_all [mayB, empty_size, nil_size]
  all_goals omega

def orderZ (k i : Int) (s : ByteArray) (k' i' : Int) (s' : ByteArray) : Int :=
  if k ≠ k' then wrap64 (k - k') else if i < i' then -1 else if i' < i then 1 else Lib.compareBytes s.data.toList s'.data.toList

set_option maxHeartbeats 400000 in
theorem order_any (k i : Int) (s : ByteArray) (k' i' : Int) (s' : ByteArray) (w : World) :
    Calls Try.prog 36 #[.agg #[.int .i64 k, .int .i64 i, .string s], .agg #[.int .i64 k', .int .i64 i', .string s']] w fun e w' => e = .returned (.int .i64 (orderZ k i s k' i' s')) ∧ Ext w w' := by
  go_enter Try.func36, Try.ntmps36
  go_wp2_with (go_at_call 57; refine (Try.strings_Compare _ _ _).mono ?_; rintro e w' ⟨rfl, rfl⟩)
  all_goals
    go_ret
    refine ⟨ret_int ?_, ((Ext.refl _).alloc _).alloc _⟩
    go_tidy
    simp_all [orderZ]
  all_goals omega

/-- the document's order -/
def rorderZ (k i : Int) (s : ByteArray) (k' i' : Int) (s' : ByteArray) : Int :=
  if k = k' ∧ i = i' ∧ s.toList = s'.toList then 0 else if k < k' ∨ k = k' ∧ (i < i' ∨ i = i' ∧ Op.bytesLess s.toList s'.toList = true) then -1 else 1

set_option maxHeartbeats 400000 in
theorem rorder_any (k i : Int) (s : ByteArray) (k' i' : Int) (s' : ByteArray) (w : World) :
    Calls Try.prog 16 #[.agg #[.int .i64 k, .int .i64 i, .string s], .agg #[.int .i64 k', .int .i64 i', .string s']] w fun e w' => e = .returned (.int .i64 (rorderZ k i s k' i' s')) ∧ Ext w w' := by
  go_enter Try.func16, Try.ntmps16
  go_wp2
  all_goals
    go_ret
    refine ⟨ret_int ?_, ((Ext.refl _).alloc _).alloc _⟩
    go_tidy
    simp_all [rorderZ]
  all_goals omega

def lessB (k i : Int) (s : ByteArray) (k' i' : Int) (s' : ByteArray) : Bool := mayB k i s && mayB k' i' s' && decide (orderZ k i s k' i' s' < 0)

set_option maxHeartbeats 400000 in
theorem less_any (k i : Int) (s : ByteArray) (k' i' : Int) (s' : ByteArray) (w : World) :
    Calls Try.prog 19 #[.agg #[.int .i64 k, .int .i64 i, .string s], .agg #[.int .i64 k', .int .i64 i', .string s']] w fun e w' => e = .returned (.bool (lessB k i s k' i' s')) ∧ Ext w w' := by
  go_enter Try.func19, Try.ntmps19
  go_wp2_with (first
    | (go_at_call 18; refine (vmay_any _ _ _ _).mono ?_; rintro e _ ⟨rfl, d, os, rfl⟩)
    | (go_at_call 36; refine (order_any _ _ _ _ _ _ _).mono ?_; rintro e _ ⟨rfl, d, os, rfl⟩))
  all_goals
    go_ret
    refine ⟨ret_bool ?_, (by repeat (first | exact Ext.refl _ | apply Ext.alloc | apply Ext.more))⟩
    go_tidy
    simp_all [lessB]

def eqV (k i : Int) (s : ByteArray) (k' i' : Int) (s' : ByteArray) : Bool := k == k' && i == i' && s.toList == s'.toList

set_option maxHeartbeats 400000 in
theorem is_any (k i : Int) (s : ByteArray) (e : Int) (k' i' : Int) (s' : ByteArray) (n : Int) (w : World) :
    Calls Try.prog 13 #[.agg #[.int .i64 k, .int .i64 i, .string s], .int .i64 e, .agg #[.int .i64 k', .int .i64 i', .string s'], .int .i64 n] w fun r w' => r = .returned (.bool (eqV k i s k' i' s' && e == n)) ∧ Ext w w' := by
  go_enter Try.func13, Try.ntmps13
  go_wp2
  all_goals
    go_ret
    refine ⟨ret_bool ?_, ((Ext.refl _).alloc _).alloc _⟩
    go_tidy
    simp_all [eqV]

def fewS (s : ByteArray) : ByteArray := if 200 < s.size then s.extract 0 200 else s

set_option maxHeartbeats 400000 in
theorem few_any (k i : Int) (s : ByteArray) (w : World) :
    Calls Try.prog 10 #[.agg #[.int .i64 k, .int .i64 i, .string s]] w fun r w' => r = .returned (.agg #[.int .i64 k, .int .i64 i, .string (fewS s)]) ∧ Ext w w' := by
  by_cases h : 200 < (s.size : Int)
  · have e : fewS s = s.extract 0 200 := by unfold fewS; rw [if_pos (by omega)]
    rw [e]
    clear e
    go_enter Try.func10, Try.ntmps10
    go_wp2
    refine bodyPost_ret (v := .agg #[.int .i64 k, .int .i64 i, .string (s.extract 0 200)]) (by simp [results, Try.results10, go_sem]) rfl ⟨rfl, by repeat (first | exact Ext.refl _ | apply Ext.alloc | apply Ext.more)⟩
  · have e : fewS s = s := by unfold fewS; rw [if_neg (by omega)]
    rw [e]
    clear e
    go_enter Try.func10, Try.ntmps10
    go_wp2
    refine bodyPost_ret (v := .agg #[.int .i64 k, .int .i64 i, .string s]) (by simp [results, Try.results10, go_sem]) rfl ⟨rfl, by repeat (first | exact Ext.refl _ | apply Ext.alloc | apply Ext.more)⟩

theorem int_any (n : Int) (w : World) :
    Calls Try.prog 20 #[.int .i64 n] w fun r w' => r = .returned (.agg #[.int .i64 2, .int .i64 n, .string ⟨#[]⟩]) ∧ Ext w w' := by
  go_enter Try.func20, Try.ntmps20
  go_wp2
  refine bodyPost_ret (v := .agg #[.int .i64 2, .int .i64 n, .string ⟨#[]⟩]) (by simp [results, Try.results20, go_sem]) rfl ⟨rfl, by repeat (first | exact Ext.refl _ | apply Ext.alloc | apply Ext.more)⟩

theorem rint_any (n : Int) (w : World) :
    Calls Try.prog 21 #[.int .i64 n] w fun r w' => r = .returned (.agg #[.int .i64 2, .int .i64 n, .string ⟨#[]⟩]) ∧ Ext w w' := by
  go_enter Try.func21, Try.ntmps21
  go_wp2
  refine bodyPost_ret (v := .agg #[.int .i64 2, .int .i64 n, .string ⟨#[]⟩]) (by simp [results, Try.results21, go_sem]) rfl ⟨rfl, by repeat (first | exact Ext.refl _ | apply Ext.alloc | apply Ext.more)⟩

theorem nil_any  (w : World) :
    Calls Try.prog 24 #[] w fun r w' => r = .returned (.agg #[.int .i64 0, .int .i64 0, .string ⟨#[]⟩]) ∧ Ext w w' := by
  go_enter Try.func24, Try.ntmps24
  go_wp2
  refine bodyPost_ret (v := .agg #[.int .i64 0, .int .i64 0, .string ⟨#[]⟩]) (by simp [results, Try.results24, go_sem]) rfl ⟨rfl, by repeat (first | exact Ext.refl _ | apply Ext.alloc | apply Ext.more)⟩

theorem bool_true  (w : World) :
    Calls Try.prog 22 #[.bool true] w fun r w' => r = .returned (.agg #[.int .i64 1, .int .i64 1, .string ⟨#[]⟩]) ∧ Ext w w' := by
  go_enter Try.func22, Try.ntmps22
  go_wp2
  refine bodyPost_ret (v := .agg #[.int .i64 1, .int .i64 1, .string ⟨#[]⟩]) (by simp [results, Try.results22, go_sem]) rfl ⟨rfl, by repeat (first | exact Ext.refl _ | apply Ext.alloc | apply Ext.more)⟩

theorem rbool_true  (w : World) :
    Calls Try.prog 23 #[.bool true] w fun r w' => r = .returned (.agg #[.int .i64 1, .int .i64 1, .string ⟨#[]⟩]) ∧ Ext w w' := by
  go_enter Try.func23, Try.ntmps23
  go_wp2
  refine bodyPost_ret (v := .agg #[.int .i64 1, .int .i64 1, .string ⟨#[]⟩]) (by simp [results, Try.results23, go_sem]) rfl ⟨rfl, by repeat (first | exact Ext.refl _ | apply Ext.alloc | apply Ext.more)⟩

theorem bool_false  (w : World) :
    Calls Try.prog 22 #[.bool false] w fun r w' => r = .returned (.agg #[.int .i64 1, .int .i64 0, .string ⟨#[]⟩]) ∧ Ext w w' := by
  go_enter Try.func22, Try.ntmps22
  go_wp2
  refine bodyPost_ret (v := .agg #[.int .i64 1, .int .i64 0, .string ⟨#[]⟩]) (by simp [results, Try.results22, go_sem]) rfl ⟨rfl, by repeat (first | exact Ext.refl _ | apply Ext.alloc | apply Ext.more)⟩

theorem rbool_false  (w : World) :
    Calls Try.prog 23 #[.bool false] w fun r w' => r = .returned (.agg #[.int .i64 1, .int .i64 0, .string ⟨#[]⟩]) ∧ Ext w w' := by
  go_enter Try.func23, Try.ntmps23
  go_wp2
  refine bodyPost_ret (v := .agg #[.int .i64 1, .int .i64 0, .string ⟨#[]⟩]) (by simp [results, Try.results23, go_sem]) rfl ⟨rfl, by repeat (first | exact Ext.refl _ | apply Ext.alloc | apply Ext.more)⟩

def boolI (b : Bool) : Int := if b then 1 else 0

theorem bool_any (b : Bool) (w : World) :
    Calls Try.prog 22 #[.bool b] w fun r w' => r = .returned (.agg #[.int .i64 1, .int .i64 (boolI b), .string ⟨#[]⟩]) ∧ Ext w w' := by
  cases b
  · exact bool_false w
  · exact bool_true w

theorem rbool_any (b : Bool) (w : World) :
    Calls Try.prog 23 #[.bool b] w fun r w' => r = .returned (.agg #[.int .i64 1, .int .i64 (boolI b), .string ⟨#[]⟩]) ∧ Ext w w' := by
  cases b
  · exact rbool_false w
  · exact rbool_true w

theorem text_full (s : ByteArray) (h : 64 < (s.size : Int)) (w : World) :
    Calls Try.prog 17 #[.string s] w fun r w' => r = .returned (.tuple #[.agg #[.int .i64 0, .int .i64 0, .string ⟨#[]⟩], .int .i64 5]) ∧ Ext w w' := by
  go_enter Try.func17, Try.ntmps17
  go_wp2
  refine bodyPost_ret (v := .tuple #[.agg #[.int .i64 0, .int .i64 0, .string ⟨#[]⟩], .int .i64 5]) (by simp [results, Try.results17, go_sem]) rfl ⟨rfl, by repeat (first | exact Ext.refl _ | apply Ext.alloc | apply Ext.more)⟩

theorem text_ok (s : ByteArray) (h : (s.size : Int) ≤ 64) (w : World) :
    Calls Try.prog 17 #[.string s] w fun r w' => r = .returned (.tuple #[.agg #[.int .i64 3, .int .i64 0, .string s], .int .i64 0]) ∧ Ext w w' := by
  go_enter Try.func17, Try.ntmps17
  go_wp2
  refine bodyPost_ret (v := .tuple #[.agg #[.int .i64 3, .int .i64 0, .string s], .int .i64 0]) (by simp [results, Try.results17, go_sem]) rfl ⟨rfl, by repeat (first | exact Ext.refl _ | apply Ext.alloc | apply Ext.more)⟩

def cmpIs (op o : Int) : Bool := if op = 0 then o == 0 else if op = 1 then o != 0 else if op = 2 then decide (o < 0) else if op = 3 then decide (o ≤ 0) else if op = 4 then decide (0 < o) else decide (0 ≤ o)
/-- Compare's answer, o the order -/
def cmpF (op k i : Int) (s : ByteArray) (k' i' : Int) (s' : ByteArray) (o : Int) : Val × Int :=
  if (mayB k i s && mayB k' i' s') = false then (⟨0, 0, ⟨#[]⟩⟩, 1) else if op < 0 ∨ 5 < op then (⟨0, 0, ⟨#[]⟩⟩, 4) else if 1 < op ∧ k ≠ k' then (⟨0, 0, ⟨#[]⟩⟩, 10) else (⟨1, boolI (cmpIs op o), ⟨#[]⟩⟩, 0)
def resV (x : Val × Int) : Value := .tuple #[.agg #[.int .i64 x.1.k, .int .i64 x.1.i, .string x.1.s], .int .i64 x.2]

set_option maxHeartbeats 1600000 in
theorem cmp_any' (op k i : Int) (s : ByteArray) (k' i' : Int) (s' : ByteArray) (w : World) :
    Calls Try.prog 11 #[.int .i64 op, .agg #[.int .i64 k, .int .i64 i, .string s], .agg #[.int .i64 k', .int .i64 i', .string s']] w fun r w' => r = .returned (resV (cmpF op k i s k' i' s' (orderZ k i s k' i' s'))) ∧ Ext w w' := by
  by_cases h1 : mayB k i s = true
  case neg =>
    have h1 : mayB k i s = false := by simpa using h1
    have hr : cmpF op k i s k' i' s' (orderZ k i s k' i' s') = (⟨0, 0, ⟨#[]⟩⟩, 1) := by simp [cmpF, h1]
    rw [hr]; clear hr
    go_enter Try.func11, Try.ntmps11
    go_wp2_with (go_at_call 18; refine (vmay_any _ _ _ _).mono ?_; rintro e _ ⟨rfl, d, os, rfl⟩)
    refine bodyPost_ret (v := .tuple #[.agg #[.int .i64 0, .int .i64 0, .string ⟨#[]⟩], .int .i64 1]) (by simp [results, Try.results11, go_sem]) rfl ⟨rfl, by repeat (first | exact Ext.refl _ | apply Ext.alloc | apply Ext.more)⟩
  by_cases h2 : mayB k' i' s' = true
  case neg =>
    have h2 : mayB k' i' s' = false := by simpa using h2
    have hr : cmpF op k i s k' i' s' (orderZ k i s k' i' s') = (⟨0, 0, ⟨#[]⟩⟩, 1) := by simp [cmpF, h2]
    rw [hr]; clear hr
    go_enter Try.func11, Try.ntmps11
    go_wp2_with (go_at_call 18; refine (vmay_any _ _ _ _).mono ?_; rintro e _ ⟨rfl, d, os, rfl⟩)
    refine bodyPost_ret (v := .tuple #[.agg #[.int .i64 0, .int .i64 0, .string ⟨#[]⟩], .int .i64 1]) (by simp [results, Try.results11, go_sem]) rfl ⟨rfl, by repeat (first | exact Ext.refl _ | apply Ext.alloc | apply Ext.more)⟩
  by_cases h3 : op < 0
  · have hr : cmpF op k i s k' i' s' (orderZ k i s k' i' s') = (⟨0, 0, ⟨#[]⟩⟩, 4) := by simp [cmpF, h1, h2, h3]
    rw [hr]; clear hr
    go_enter Try.func11, Try.ntmps11
    go_wp2_with (go_at_call 18; refine (vmay_any _ _ _ _).mono ?_; rintro e _ ⟨rfl, d, os, rfl⟩)
    refine bodyPost_ret (v := .tuple #[.agg #[.int .i64 0, .int .i64 0, .string ⟨#[]⟩], .int .i64 4]) (by simp [results, Try.results11, go_sem]) rfl ⟨rfl, by repeat (first | exact Ext.refl _ | apply Ext.alloc | apply Ext.more)⟩
  by_cases h4 : 5 < op
  · have hr : cmpF op k i s k' i' s' (orderZ k i s k' i' s') = (⟨0, 0, ⟨#[]⟩⟩, 4) := by simp [cmpF, h1, h2, h4]
    rw [hr]; clear hr
    go_enter Try.func11, Try.ntmps11
    go_wp2_with (go_at_call 18; refine (vmay_any _ _ _ _).mono ?_; rintro e _ ⟨rfl, d, os, rfl⟩)
    refine bodyPost_ret (v := .tuple #[.agg #[.int .i64 0, .int .i64 0, .string ⟨#[]⟩], .int .i64 4]) (by simp [results, Try.results11, go_sem]) rfl ⟨rfl, by repeat (first | exact Ext.refl _ | apply Ext.alloc | apply Ext.more)⟩
  by_cases h5 : 1 < op ∧ k ≠ k'
  · have hr : cmpF op k i s k' i' s' (orderZ k i s k' i' s') = (⟨0, 0, ⟨#[]⟩⟩, 10) := by simp [cmpF, h1, h2, h3, h4, h5]
    rw [hr]; clear hr
    obtain ⟨h5, h6⟩ := h5
    have h7 : (k != k') = true := by simpa using h6
    clear h6
    go_enter Try.func11, Try.ntmps11
    go_wp2_with (go_at_call 18; refine (vmay_any _ _ _ _).mono ?_; rintro e _ ⟨rfl, d, os, rfl⟩)
    refine bodyPost_ret (v := .tuple #[.agg #[.int .i64 0, .int .i64 0, .string ⟨#[]⟩], .int .i64 10]) (by simp [results, Try.results11, go_sem]) rfl ⟨rfl, by repeat (first | exact Ext.refl _ | apply Ext.alloc | apply Ext.more)⟩
  have h6 : 2 ≤ op → (k != k') = false := by
    intro h; simp; apply Classical.byContradiction; intro h'; exact h5 ⟨by omega, h'⟩
  have hr : cmpF op k i s k' i' s' (orderZ k i s k' i' s') = (⟨1, boolI (cmpIs op (orderZ k i s k' i' s')), ⟨#[]⟩⟩, 0) := by simp [cmpF, h1, h2, h3, h4, h5]
  rw [hr]; clear hr h5
  have hc : op = 0 ∨ op = 1 ∨ op = 2 ∨ op = 3 ∨ op = 4 ∨ op = 5 := by omega
  clear h3 h4
  rcases hc with rfl | rfl | rfl | rfl | rfl | rfl
  · have ix : ∀ (x0 x1 x2 x3 x4 x5 : Bool) (w : World), (Instr.index 53 (.agg #[.bool x0, .bool x1, .bool x2, .bool x3, .bool x4, .bool x5]) (.int .i64 0)).run Try.prog w = .ok (.bool x0) w := fun _ _ _ _ _ _ _ => by kernel_rfl
    clear h6
    go_enter Try.func11, Try.ntmps11
    go_wp2_with (first
      | (go_at_call 18; refine (vmay_any _ _ _ _).mono ?_; rintro e _ ⟨rfl, d, os, rfl⟩)
      | (go_at_call 36; refine (order_any _ _ _ _ _ _ _).mono ?_; rintro e _ ⟨rfl, d, os, rfl⟩)
      | (go_at_call 22; refine (bool_any _ _).mono ?_; rintro e _ ⟨rfl, d, os, rfl⟩))
    refine bodyPost_ret (v := .tuple #[.agg #[.int .i64 1, .int .i64 (boolI (cmpIs 0 (orderZ k i s k' i' s'))), .string ⟨#[]⟩], .int .i64 0]) (by simp [results, Try.results11, go_sem, cmpIs]) rfl ⟨rfl, by repeat (first | exact Ext.refl _ | apply Ext.alloc | apply Ext.more)⟩
  · have ix : ∀ (x0 x1 x2 x3 x4 x5 : Bool) (w : World), (Instr.index 53 (.agg #[.bool x0, .bool x1, .bool x2, .bool x3, .bool x4, .bool x5]) (.int .i64 1)).run Try.prog w = .ok (.bool x1) w := fun _ _ _ _ _ _ _ => by kernel_rfl
    clear h6
    go_enter Try.func11, Try.ntmps11
    go_wp2_with (first
      | (go_at_call 18; refine (vmay_any _ _ _ _).mono ?_; rintro e _ ⟨rfl, d, os, rfl⟩)
      | (go_at_call 36; refine (order_any _ _ _ _ _ _ _).mono ?_; rintro e _ ⟨rfl, d, os, rfl⟩)
      | (go_at_call 22; refine (bool_any _ _).mono ?_; rintro e _ ⟨rfl, d, os, rfl⟩))
    refine bodyPost_ret (v := .tuple #[.agg #[.int .i64 1, .int .i64 (boolI (cmpIs 1 (orderZ k i s k' i' s'))), .string ⟨#[]⟩], .int .i64 0]) (by simp [results, Try.results11, go_sem, cmpIs]) rfl ⟨rfl, by repeat (first | exact Ext.refl _ | apply Ext.alloc | apply Ext.more)⟩
  · have ix : ∀ (x0 x1 x2 x3 x4 x5 : Bool) (w : World), (Instr.index 53 (.agg #[.bool x0, .bool x1, .bool x2, .bool x3, .bool x4, .bool x5]) (.int .i64 2)).run Try.prog w = .ok (.bool x2) w := fun _ _ _ _ _ _ _ => by kernel_rfl
    replace h6 := h6 (by omega)
    go_enter Try.func11, Try.ntmps11
    go_wp2_with (first
      | (go_at_call 18; refine (vmay_any _ _ _ _).mono ?_; rintro e _ ⟨rfl, d, os, rfl⟩)
      | (go_at_call 36; refine (order_any _ _ _ _ _ _ _).mono ?_; rintro e _ ⟨rfl, d, os, rfl⟩)
      | (go_at_call 22; refine (bool_any _ _).mono ?_; rintro e _ ⟨rfl, d, os, rfl⟩))
    refine bodyPost_ret (v := .tuple #[.agg #[.int .i64 1, .int .i64 (boolI (cmpIs 2 (orderZ k i s k' i' s'))), .string ⟨#[]⟩], .int .i64 0]) (by simp [results, Try.results11, go_sem, cmpIs]) rfl ⟨rfl, by repeat (first | exact Ext.refl _ | apply Ext.alloc | apply Ext.more)⟩
  · have ix : ∀ (x0 x1 x2 x3 x4 x5 : Bool) (w : World), (Instr.index 53 (.agg #[.bool x0, .bool x1, .bool x2, .bool x3, .bool x4, .bool x5]) (.int .i64 3)).run Try.prog w = .ok (.bool x3) w := fun _ _ _ _ _ _ _ => by kernel_rfl
    replace h6 := h6 (by omega)
    go_enter Try.func11, Try.ntmps11
    go_wp2_with (first
      | (go_at_call 18; refine (vmay_any _ _ _ _).mono ?_; rintro e _ ⟨rfl, d, os, rfl⟩)
      | (go_at_call 36; refine (order_any _ _ _ _ _ _ _).mono ?_; rintro e _ ⟨rfl, d, os, rfl⟩)
      | (go_at_call 22; refine (bool_any _ _).mono ?_; rintro e _ ⟨rfl, d, os, rfl⟩))
    refine bodyPost_ret (v := .tuple #[.agg #[.int .i64 1, .int .i64 (boolI (cmpIs 3 (orderZ k i s k' i' s'))), .string ⟨#[]⟩], .int .i64 0]) (by simp [results, Try.results11, go_sem, cmpIs]) rfl ⟨rfl, by repeat (first | exact Ext.refl _ | apply Ext.alloc | apply Ext.more)⟩
  · have ix : ∀ (x0 x1 x2 x3 x4 x5 : Bool) (w : World), (Instr.index 53 (.agg #[.bool x0, .bool x1, .bool x2, .bool x3, .bool x4, .bool x5]) (.int .i64 4)).run Try.prog w = .ok (.bool x4) w := fun _ _ _ _ _ _ _ => by kernel_rfl
    replace h6 := h6 (by omega)
    go_enter Try.func11, Try.ntmps11
    go_wp2_with (first
      | (go_at_call 18; refine (vmay_any _ _ _ _).mono ?_; rintro e _ ⟨rfl, d, os, rfl⟩)
      | (go_at_call 36; refine (order_any _ _ _ _ _ _ _).mono ?_; rintro e _ ⟨rfl, d, os, rfl⟩)
      | (go_at_call 22; refine (bool_any _ _).mono ?_; rintro e _ ⟨rfl, d, os, rfl⟩))
    refine bodyPost_ret (v := .tuple #[.agg #[.int .i64 1, .int .i64 (boolI (cmpIs 4 (orderZ k i s k' i' s'))), .string ⟨#[]⟩], .int .i64 0]) (by simp [results, Try.results11, go_sem, cmpIs]) rfl ⟨rfl, by repeat (first | exact Ext.refl _ | apply Ext.alloc | apply Ext.more)⟩
  · have ix : ∀ (x0 x1 x2 x3 x4 x5 : Bool) (w : World), (Instr.index 53 (.agg #[.bool x0, .bool x1, .bool x2, .bool x3, .bool x4, .bool x5]) (.int .i64 5)).run Try.prog w = .ok (.bool x5) w := fun _ _ _ _ _ _ _ => by kernel_rfl
    replace h6 := h6 (by omega)
    go_enter Try.func11, Try.ntmps11
    go_wp2_with (first
      | (go_at_call 18; refine (vmay_any _ _ _ _).mono ?_; rintro e _ ⟨rfl, d, os, rfl⟩)
      | (go_at_call 36; refine (order_any _ _ _ _ _ _ _).mono ?_; rintro e _ ⟨rfl, d, os, rfl⟩)
      | (go_at_call 22; refine (bool_any _ _).mono ?_; rintro e _ ⟨rfl, d, os, rfl⟩))
    refine bodyPost_ret (v := .tuple #[.agg #[.int .i64 1, .int .i64 (boolI (cmpIs 5 (orderZ k i s k' i' s'))), .string ⟨#[]⟩], .int .i64 0]) (by simp [results, Try.results11, go_sem, cmpIs]) rfl ⟨rfl, by repeat (first | exact Ext.refl _ | apply Ext.alloc | apply Ext.more)⟩

theorem cmp_any (op k i : Int) (s : ByteArray) (k' i' : Int) (s' : ByteArray) (v : Val) (n : Int) (h : cmpF op k i s k' i' s' (orderZ k i s k' i' s') = (v, n)) (w : World) :
    Calls Try.prog 11 #[.int .i64 op, .agg #[.int .i64 k, .int .i64 i, .string s], .agg #[.int .i64 k', .int .i64 i', .string s']] w fun r w' => r = .returned (.tuple #[.agg #[.int .i64 v.k, .int .i64 v.i, .string v.s], .int .i64 n]) ∧ Ext w w' := by
  have := cmp_any' op k i s k' i' s' w
  rw [h] at this
  exact this

set_option maxHeartbeats 1600000 in
theorem rcmp_any' (op k i : Int) (s : ByteArray) (k' i' : Int) (s' : ByteArray) (w : World) :
    Calls Try.prog 12 #[.int .i64 op, .agg #[.int .i64 k, .int .i64 i, .string s], .agg #[.int .i64 k', .int .i64 i', .string s']] w fun r w' => r = .returned (resV (cmpF op k i s k' i' s' (rorderZ k i s k' i' s'))) ∧ Ext w w' := by
  by_cases h1 : mayB k i s = true
  case neg =>
    have h1 : mayB k i s = false := by simpa using h1
    have hr : cmpF op k i s k' i' s' (rorderZ k i s k' i' s') = (⟨0, 0, ⟨#[]⟩⟩, 1) := by simp [cmpF, h1]
    rw [hr]; clear hr
    go_enter Try.func12, Try.ntmps12
    go_wp2_with (go_at_call 15; refine (rmay_any _ _ _ _).mono ?_; rintro e _ ⟨rfl, d, os, rfl⟩)
    refine bodyPost_ret (v := .tuple #[.agg #[.int .i64 0, .int .i64 0, .string ⟨#[]⟩], .int .i64 1]) (by simp [results, Try.results12, go_sem]) rfl ⟨rfl, by repeat (first | exact Ext.refl _ | apply Ext.alloc | apply Ext.more)⟩
  by_cases h2 : mayB k' i' s' = true
  case neg =>
    have h2 : mayB k' i' s' = false := by simpa using h2
    have hr : cmpF op k i s k' i' s' (rorderZ k i s k' i' s') = (⟨0, 0, ⟨#[]⟩⟩, 1) := by simp [cmpF, h2]
    rw [hr]; clear hr
    go_enter Try.func12, Try.ntmps12
    go_wp2_with (go_at_call 15; refine (rmay_any _ _ _ _).mono ?_; rintro e _ ⟨rfl, d, os, rfl⟩)
    refine bodyPost_ret (v := .tuple #[.agg #[.int .i64 0, .int .i64 0, .string ⟨#[]⟩], .int .i64 1]) (by simp [results, Try.results12, go_sem]) rfl ⟨rfl, by repeat (first | exact Ext.refl _ | apply Ext.alloc | apply Ext.more)⟩
  by_cases h3 : op < 0
  · have hr : cmpF op k i s k' i' s' (rorderZ k i s k' i' s') = (⟨0, 0, ⟨#[]⟩⟩, 4) := by simp [cmpF, h1, h2, h3]
    rw [hr]; clear hr
    go_enter Try.func12, Try.ntmps12
    go_wp2_with (go_at_call 15; refine (rmay_any _ _ _ _).mono ?_; rintro e _ ⟨rfl, d, os, rfl⟩)
    refine bodyPost_ret (v := .tuple #[.agg #[.int .i64 0, .int .i64 0, .string ⟨#[]⟩], .int .i64 4]) (by simp [results, Try.results12, go_sem]) rfl ⟨rfl, by repeat (first | exact Ext.refl _ | apply Ext.alloc | apply Ext.more)⟩
  by_cases h4 : 5 < op
  · have hr : cmpF op k i s k' i' s' (rorderZ k i s k' i' s') = (⟨0, 0, ⟨#[]⟩⟩, 4) := by simp [cmpF, h1, h2, h4]
    rw [hr]; clear hr
    go_enter Try.func12, Try.ntmps12
    go_wp2_with (go_at_call 15; refine (rmay_any _ _ _ _).mono ?_; rintro e _ ⟨rfl, d, os, rfl⟩)
    refine bodyPost_ret (v := .tuple #[.agg #[.int .i64 0, .int .i64 0, .string ⟨#[]⟩], .int .i64 4]) (by simp [results, Try.results12, go_sem]) rfl ⟨rfl, by repeat (first | exact Ext.refl _ | apply Ext.alloc | apply Ext.more)⟩
  by_cases h5 : 1 < op ∧ k ≠ k'
  · have hr : cmpF op k i s k' i' s' (rorderZ k i s k' i' s') = (⟨0, 0, ⟨#[]⟩⟩, 10) := by simp [cmpF, h1, h2, h3, h4, h5]
    rw [hr]; clear hr
    obtain ⟨h5, h6⟩ := h5
    have h7 : (k != k') = true := by simpa using h6
    clear h6
    go_enter Try.func12, Try.ntmps12
    go_wp2_with (go_at_call 15; refine (rmay_any _ _ _ _).mono ?_; rintro e _ ⟨rfl, d, os, rfl⟩)
    refine bodyPost_ret (v := .tuple #[.agg #[.int .i64 0, .int .i64 0, .string ⟨#[]⟩], .int .i64 10]) (by simp [results, Try.results12, go_sem]) rfl ⟨rfl, by repeat (first | exact Ext.refl _ | apply Ext.alloc | apply Ext.more)⟩
  have h6 : 2 ≤ op → (k != k') = false := by
    intro h; simp; apply Classical.byContradiction; intro h'; exact h5 ⟨by omega, h'⟩
  have hr : cmpF op k i s k' i' s' (rorderZ k i s k' i' s') = (⟨1, boolI (cmpIs op (rorderZ k i s k' i' s')), ⟨#[]⟩⟩, 0) := by simp [cmpF, h1, h2, h3, h4, h5]
  rw [hr]; clear hr h5
  have hc : op = 0 ∨ op = 1 ∨ op = 2 ∨ op = 3 ∨ op = 4 ∨ op = 5 := by omega
  clear h3 h4
  rcases hc with rfl | rfl | rfl | rfl | rfl | rfl
  · clear h6
    go_enter Try.func12, Try.ntmps12
    go_wp2_with (first
      | (go_at_call 15; refine (rmay_any _ _ _ _).mono ?_; rintro e _ ⟨rfl, d, os, rfl⟩)
      | (go_at_call 16; refine (rorder_any _ _ _ _ _ _ _).mono ?_; rintro e _ ⟨rfl, d, os, rfl⟩)
      | (go_at_call 23; refine (rbool_any _ _).mono ?_; rintro e _ ⟨rfl, d, os, rfl⟩))
    all_goals refine bodyPost_ret (v := .tuple #[.agg #[.int .i64 1, .int .i64 (boolI (cmpIs 0 (rorderZ k i s k' i' s'))), .string ⟨#[]⟩], .int .i64 0]) ?_ rfl ⟨rfl, by repeat (first | exact Ext.refl _ | apply Ext.alloc | apply Ext.more)⟩
    all_goals go_tidy
    all_goals (simp [results, Try.results12, go_sem, cmpIs, *]; try (refine congrArg boolI ?_; simp; omega))
  · clear h6
    go_enter Try.func12, Try.ntmps12
    go_wp2_with (first
      | (go_at_call 15; refine (rmay_any _ _ _ _).mono ?_; rintro e _ ⟨rfl, d, os, rfl⟩)
      | (go_at_call 16; refine (rorder_any _ _ _ _ _ _ _).mono ?_; rintro e _ ⟨rfl, d, os, rfl⟩)
      | (go_at_call 23; refine (rbool_any _ _).mono ?_; rintro e _ ⟨rfl, d, os, rfl⟩))
    all_goals refine bodyPost_ret (v := .tuple #[.agg #[.int .i64 1, .int .i64 (boolI (cmpIs 1 (rorderZ k i s k' i' s'))), .string ⟨#[]⟩], .int .i64 0]) ?_ rfl ⟨rfl, by repeat (first | exact Ext.refl _ | apply Ext.alloc | apply Ext.more)⟩
    all_goals go_tidy
    all_goals (simp [results, Try.results12, go_sem, cmpIs, *]; try (refine congrArg boolI ?_; simp; omega))
  · replace h6 := h6 (by omega)
    go_enter Try.func12, Try.ntmps12
    go_wp2_with (first
      | (go_at_call 15; refine (rmay_any _ _ _ _).mono ?_; rintro e _ ⟨rfl, d, os, rfl⟩)
      | (go_at_call 16; refine (rorder_any _ _ _ _ _ _ _).mono ?_; rintro e _ ⟨rfl, d, os, rfl⟩)
      | (go_at_call 23; refine (rbool_any _ _).mono ?_; rintro e _ ⟨rfl, d, os, rfl⟩))
    all_goals refine bodyPost_ret (v := .tuple #[.agg #[.int .i64 1, .int .i64 (boolI (cmpIs 2 (rorderZ k i s k' i' s'))), .string ⟨#[]⟩], .int .i64 0]) ?_ rfl ⟨rfl, by repeat (first | exact Ext.refl _ | apply Ext.alloc | apply Ext.more)⟩
    all_goals go_tidy
    all_goals (simp [results, Try.results12, go_sem, cmpIs, *]; try (refine congrArg boolI ?_; simp; omega))
  · replace h6 := h6 (by omega)
    go_enter Try.func12, Try.ntmps12
    go_wp2_with (first
      | (go_at_call 15; refine (rmay_any _ _ _ _).mono ?_; rintro e _ ⟨rfl, d, os, rfl⟩)
      | (go_at_call 16; refine (rorder_any _ _ _ _ _ _ _).mono ?_; rintro e _ ⟨rfl, d, os, rfl⟩)
      | (go_at_call 23; refine (rbool_any _ _).mono ?_; rintro e _ ⟨rfl, d, os, rfl⟩))
    all_goals refine bodyPost_ret (v := .tuple #[.agg #[.int .i64 1, .int .i64 (boolI (cmpIs 3 (rorderZ k i s k' i' s'))), .string ⟨#[]⟩], .int .i64 0]) ?_ rfl ⟨rfl, by repeat (first | exact Ext.refl _ | apply Ext.alloc | apply Ext.more)⟩
    all_goals go_tidy
    all_goals (simp [results, Try.results12, go_sem, cmpIs, *]; try (refine congrArg boolI ?_; simp; omega))
  · replace h6 := h6 (by omega)
    go_enter Try.func12, Try.ntmps12
    go_wp2_with (first
      | (go_at_call 15; refine (rmay_any _ _ _ _).mono ?_; rintro e _ ⟨rfl, d, os, rfl⟩)
      | (go_at_call 16; refine (rorder_any _ _ _ _ _ _ _).mono ?_; rintro e _ ⟨rfl, d, os, rfl⟩)
      | (go_at_call 23; refine (rbool_any _ _).mono ?_; rintro e _ ⟨rfl, d, os, rfl⟩))
    all_goals refine bodyPost_ret (v := .tuple #[.agg #[.int .i64 1, .int .i64 (boolI (cmpIs 4 (rorderZ k i s k' i' s'))), .string ⟨#[]⟩], .int .i64 0]) ?_ rfl ⟨rfl, by repeat (first | exact Ext.refl _ | apply Ext.alloc | apply Ext.more)⟩
    all_goals go_tidy
    all_goals (simp [results, Try.results12, go_sem, cmpIs, *]; try (refine congrArg boolI ?_; simp; omega))
  · replace h6 := h6 (by omega)
    go_enter Try.func12, Try.ntmps12
    go_wp2_with (first
      | (go_at_call 15; refine (rmay_any _ _ _ _).mono ?_; rintro e _ ⟨rfl, d, os, rfl⟩)
      | (go_at_call 16; refine (rorder_any _ _ _ _ _ _ _).mono ?_; rintro e _ ⟨rfl, d, os, rfl⟩)
      | (go_at_call 23; refine (rbool_any _ _).mono ?_; rintro e _ ⟨rfl, d, os, rfl⟩))
    all_goals refine bodyPost_ret (v := .tuple #[.agg #[.int .i64 1, .int .i64 (boolI (cmpIs 5 (rorderZ k i s k' i' s'))), .string ⟨#[]⟩], .int .i64 0]) ?_ rfl ⟨rfl, by repeat (first | exact Ext.refl _ | apply Ext.alloc | apply Ext.more)⟩
    all_goals go_tidy
    all_goals (simp [results, Try.results12, go_sem, cmpIs, *]; try (refine congrArg boolI ?_; simp; omega))

theorem rcmp_any (op k i : Int) (s : ByteArray) (k' i' : Int) (s' : ByteArray) (v : Val) (n : Int) (h : cmpF op k i s k' i' s' (rorderZ k i s k' i' s') = (v, n)) (w : World) :
    Calls Try.prog 12 #[.int .i64 op, .agg #[.int .i64 k, .int .i64 i, .string s], .agg #[.int .i64 k', .int .i64 i', .string s']] w fun r w' => r = .returned (.tuple #[.agg #[.int .i64 v.k, .int .i64 v.i, .string v.s], .int .i64 n]) ∧ Ext w w' := by
  have := rcmp_any' op k i s k' i' s' w
  rw [h] at this
  exact this
end Go.Proofs.Ythekfgbiplmikaa
