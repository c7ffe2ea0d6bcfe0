/- ValueTexts: the walks, a way each. -/
import Derived.Test.YtoaaklcbcbjaiaaDoorTxt1
set_option linter.unusedSimpArgs false
set_option linter.unusedVariables false
namespace Go.Proofs.YtoaaklcbcbjaiaaDoor
open Go.RowKit

theorem ret1 {P : Program} {f : FuncId} {args : Array Value} {v : Value} {W : World} (h : Calls P f args W fun e w' => e = .returned v ∧ Ext W w') :
    Calls P f args W (RetG W fun x _ => x = v) := h.mono fun e w' ⟨he, hx⟩ => ⟨v, he, hx, rfl⟩
attribute [go_sem] more_more Array.size_append

theorem rshow_nil (i : Int) (s : ByteArray) (w : World) : Calls Tryd.prog 11 #[.agg #[.int .i64 0, .int .i64 i, .string s]] w fun e w' => e = .returned (.string ⟨#[110, 105, 108]⟩) ∧ Ext w w' := by
  go_enter Tryd.func11, Tryd.ntmps11
  go_wp2_with fail
  go_ret
  exact ⟨rfl, by repeat (first | exact Ext.refl _ | apply Ext.alloc | apply Ext.more)⟩

theorem rshow_false (s : ByteArray) (w : World) : Calls Tryd.prog 11 #[.agg #[.int .i64 1, .int .i64 0, .string s]] w fun e w' => e = .returned (.string ⟨#[102, 97, 108, 115, 101]⟩) ∧ Ext w w' := by
  go_enter Tryd.func11, Tryd.ntmps11
  go_wp2_with fail
  go_ret
  exact ⟨rfl, by repeat (first | exact Ext.refl _ | apply Ext.alloc | apply Ext.more)⟩

theorem rshow_true (s : ByteArray) (w : World) : Calls Tryd.prog 11 #[.agg #[.int .i64 1, .int .i64 1, .string s]] w fun e w' => e = .returned (.string ⟨#[116, 114, 117, 101]⟩) ∧ Ext w w' := by
  go_enter Tryd.func11, Tryd.ntmps11
  go_wp2_with fail
  go_ret
  exact ⟨rfl, by repeat (first | exact Ext.refl _ | apply Ext.alloc | apply Ext.more)⟩

theorem rshow_int (i : Int) (s : ByteArray) (hi : In64 i) (w : World) : Calls Tryd.prog 11 #[.agg #[.int .i64 2, .int .i64 i, .string s]] w fun e w' => e = .returned (.string ⟨(Lib.itoa i).toArray⟩) ∧ Ext w w' := by
  have D := Lib.hid (fun w => rdig_any i hi w)
  clear hi
  go_enter Tryd.func11, Tryd.ntmps11
  go_wp2_with (go_at_call 28; refine (D.out _).mono ?_; rintro e _ ⟨rfl, d, os, rfl⟩)
  go_ret
  exact ⟨rfl, by repeat (first | exact Ext.refl _ | apply Ext.alloc | apply Ext.more)⟩

theorem rshow_text (i : Int) (s : ByteArray) (w : World) : Calls Tryd.prog 11 #[.agg #[.int .i64 3, .int .i64 i, .string s]] w fun e w' => e = .returned (.string s) ∧ Ext w w' := by
  go_enter Tryd.func11, Tryd.ntmps11
  go_wp2_with fail
  go_ret
  exact ⟨rfl, by repeat (first | exact Ext.refl _ | apply Ext.alloc | apply Ext.more)⟩

set_option maxHeartbeats 4000000 in
set_option maxRecDepth 20000 in
theorem vt_bad (k i : Int) (sa s : ByteArray) (k' i' : Int) (sb s' : ByteArray)   (w : World)
    (FA : RowKit.Hid (∀ w, Calls Tryd.prog 4 #[.agg #[.int .i64 k, .int .i64 i, .string sa]] w fun e w' => e = .returned (.agg #[.int .i64 k, .int .i64 i, .string s]) ∧ Ext w w'))
    (FB : RowKit.Hid (∀ w, Calls Tryd.prog 4 #[.agg #[.int .i64 k', .int .i64 i', .string sb]] w fun e w' => e = .returned (.agg #[.int .i64 k', .int .i64 i', .string s']) ∧ Ext w w'))
    (J : RowKit.Hid (∀ w, Calls Tryd.prog 5 #[.agg #[.int .i64 k, .int .i64 i, .string s], .agg #[.int .i64 k', .int .i64 i', .string s']] w fun e w' => e = .returned (.tuple #[.agg #[.int .i64 0, .int .i64 0, .string ⟨#[]⟩], .int .i64 1]) ∧ Ext w w'))
    (L : RowKit.Hid (∀ w, Calls Tryd.prog 6 #[.agg #[.int .i64 k, .int .i64 i, .string s]] w fun e w' => e = .returned (.tuple #[.agg #[.int .i64 0, .int .i64 0, .string ⟨#[]⟩], .int .i64 1]) ∧ Ext w w'))
    (O : RowKit.Hid (∀ w, Calls Tryd.prog 7 #[.agg #[.int .i64 k, .int .i64 i, .string s]] w fun e w' => e = .returned (.tuple #[.agg #[.int .i64 0, .int .i64 0, .string ⟨#[]⟩], .int .i64 1]) ∧ Ext w w'))
    (S : RowKit.Hid (∀ w, Calls Tryd.prog 8 #[.agg #[.int .i64 k, .int .i64 i, .string s]] w fun e w' => e = .returned (.tuple #[.agg #[.int .i64 0, .int .i64 0, .string ⟨#[]⟩], .int .i64 1]) ∧ Ext w w'))
    (MA : RowKit.Hid (∀ w, Calls Tryd.prog 9 #[.agg #[.int .i64 k, .int .i64 i, .string s]] w fun e w' => e = .returned (.bool false) ∧ Ext w w')) :
    Calls Tryd.prog 3 #[.agg #[.int .i64 k, .int .i64 i, .string sa], .agg #[.int .i64 k', .int .i64 i', .string sb]] w fun e w' => e = .returned (.bool true) ∧ Ext w w' := by
  go_enter Tryd.func3, Tryd.ntmps3
  go_wp2_with fail
  refine wp_region_grow 3 170 [false, false, false] (by kernel_rfl) (by kernel_rfl) rfl ?_
  simp only [List.take_succ_cons, List.take_zero, List.drop_succ_cons, List.drop_zero]
  repeat (first
    | (refine Lex.step rfl ?_; intro K hK; unfold StepG; go_simp; refine hK _ ?_; clear hK K)
    | (refine Lex.step rfl ?_; intro K hK; unfold StepG; go_simp; refine ⟨_, fun d os => ret1 (FA.out _), ?_⟩; go_simp; refine hK _ ?_; clear hK K))
  refine Lex.nil fun W hE => ?_
  obtain ⟨d3, os3, rfl⟩ := hE
  unfold FillH
  go_wp2_with (go_at_call 4; (with_reducible refine (FB.out _).mono ?_); rintro e _ ⟨rfl, d, os, rfl⟩)
  rw [ends_normal]
  go_wp2_with (first
    | (go_at_call 5; (with_reducible refine (J.out _).mono ?_); rintro e _ ⟨rfl, d, os, rfl⟩)
    | (go_at_call 6; (with_reducible refine (L.out _).mono ?_); rintro e _ ⟨rfl, d, os, rfl⟩)
    | (go_at_call 7; (with_reducible refine (O.out _).mono ?_); rintro e _ ⟨rfl, d, os, rfl⟩)
    | (go_at_call 8; (with_reducible refine (S.out _).mono ?_); rintro e _ ⟨rfl, d, os, rfl⟩)
    | (go_at_call 9; (with_reducible refine (MA.out _).mono ?_); rintro e _ ⟨rfl, d, os, rfl⟩)
    | (go_at_call 10; refine (awake_any _).mono ?_; rintro e _ ⟨rfl, d, os, rfl⟩))
  go_ret
  exact ⟨rfl, by repeat (first | exact Ext.refl _ | apply Ext.alloc | apply Ext.more)⟩

set_option maxHeartbeats 4000000 in
set_option maxRecDepth 20000 in
theorem vt_nil_b1  (sa s : ByteArray) (k' i' : Int) (sb s' : ByteArray) (hz : (9223372036854775807 < s.size + s'.size) = False)  (w : World)
    (FA : RowKit.Hid (∀ w, Calls Tryd.prog 4 #[.agg #[.int .i64 0, .int .i64 0, .string sa]] w fun e w' => e = .returned (.agg #[.int .i64 0, .int .i64 0, .string s]) ∧ Ext w w'))
    (FB : RowKit.Hid (∀ w, Calls Tryd.prog 4 #[.agg #[.int .i64 k', .int .i64 i', .string sb]] w fun e w' => e = .returned (.agg #[.int .i64 k', .int .i64 i', .string s']) ∧ Ext w w'))
    (J : RowKit.Hid (∀ w, Calls Tryd.prog 5 #[.agg #[.int .i64 0, .int .i64 0, .string s], .agg #[.int .i64 k', .int .i64 i', .string s']] w fun e w' => e = .returned (.tuple #[.agg #[.int .i64 0, .int .i64 0, .string ⟨#[]⟩], .int .i64 1]) ∧ Ext w w'))
    (L : RowKit.Hid (∀ w, Calls Tryd.prog 6 #[.agg #[.int .i64 0, .int .i64 0, .string s]] w fun e w' => e = .returned (.tuple #[.agg #[.int .i64 0, .int .i64 0, .string ⟨#[]⟩], .int .i64 10]) ∧ Ext w w'))
    (O : RowKit.Hid (∀ w, Calls Tryd.prog 7 #[.agg #[.int .i64 0, .int .i64 0, .string s]] w fun e w' => e = .returned (.tuple #[.agg #[.int .i64 0, .int .i64 0, .string ⟨#[]⟩], .int .i64 10]) ∧ Ext w w'))
    (S : RowKit.Hid (∀ w, Calls Tryd.prog 8 #[.agg #[.int .i64 0, .int .i64 0, .string s]] w fun e w' => e = .returned (.tuple #[.agg #[.int .i64 3, .int .i64 0, .string ⟨#[110, 105, 108]⟩], .int .i64 0]) ∧ Ext w w'))
    (MA : RowKit.Hid (∀ w, Calls Tryd.prog 9 #[.agg #[.int .i64 0, .int .i64 0, .string s]] w fun e w' => e = .returned (.bool true) ∧ Ext w w'))
    (RS : RowKit.Hid (∀ w, Calls Tryd.prog 11 #[.agg #[.int .i64 0, .int .i64 0, .string s]] w fun e w' => e = .returned (.string ⟨#[110, 105, 108]⟩) ∧ Ext w w'))
    (MB : RowKit.Hid (∀ w, Calls Tryd.prog 9 #[.agg #[.int .i64 k', .int .i64 i', .string s']] w fun e w' => e = .returned (.bool false) ∧ Ext w w'))
    (IS : RowKit.Hid (∀ w, Calls Tryd.prog 14 #[.agg #[.int .i64 0, .int .i64 0, .string ⟨#[]⟩], .int .i64 1, .agg #[.int .i64 0, .int .i64 0, .string ⟨#[]⟩], .int .i64 1] w fun e w' => e = .returned (.bool true) ∧ Ext w w')) :
    Calls Tryd.prog 3 #[.agg #[.int .i64 0, .int .i64 0, .string sa], .agg #[.int .i64 k', .int .i64 i', .string sb]] w fun e w' => e = .returned (.bool true) ∧ Ext w w' := by
  go_enter Tryd.func3, Tryd.ntmps3
  go_wp2_with fail
  refine wp_region_grow 3 170 [false, false, false] (by kernel_rfl) (by kernel_rfl) rfl ?_
  simp only [List.take_succ_cons, List.take_zero, List.drop_succ_cons, List.drop_zero]
  repeat (first
    | (refine Lex.step rfl ?_; intro K hK; unfold StepG; go_simp; refine hK _ ?_; clear hK K)
    | (refine Lex.step rfl ?_; intro K hK; unfold StepG; go_simp; refine ⟨_, fun d os => ret1 (FA.out _), ?_⟩; go_simp; refine hK _ ?_; clear hK K))
  refine Lex.nil fun W hE => ?_
  obtain ⟨d3, os3, rfl⟩ := hE
  unfold FillH
  go_wp2_with (go_at_call 4; (with_reducible refine (FB.out _).mono ?_); rintro e _ ⟨rfl, d, os, rfl⟩)
  rw [ends_normal]
  go_wp2_with (first
    | (go_at_call 5; (with_reducible refine (J.out _).mono ?_); rintro e _ ⟨rfl, d, os, rfl⟩)
    | (go_at_call 6; (with_reducible refine (L.out _).mono ?_); rintro e _ ⟨rfl, d, os, rfl⟩)
    | (go_at_call 7; (with_reducible refine (O.out _).mono ?_); rintro e _ ⟨rfl, d, os, rfl⟩)
    | (go_at_call 8; (with_reducible refine (S.out _).mono ?_); rintro e _ ⟨rfl, d, os, rfl⟩)
    | (go_at_call 9; (with_reducible refine (MA.out _).mono ?_); rintro e _ ⟨rfl, d, os, rfl⟩))
  refine wp_region_grow 9 170 [false, false, false, false, false, false, false, false, false] (by kernel_rfl) (by kernel_rfl) rfl ?_
  simp only [List.take_succ_cons, List.take_zero, List.drop_succ_cons, List.drop_zero]
  repeat (refine Lex.step rfl ?_; intro K hK; unfold StepG; go_simp; (first
      | refine hK _ ?_
      | (with_reducible refine ⟨_, fun d os => (ret1 (RS.out _)), ?_⟩; go_simp; refine hK _ ?_)); clear hK K)
  refine Lex.nil fun WW hE => ?_
  obtain ⟨dd, oo, rfl⟩ := hE
  unfold FillH
  go_wp2_with fail
  rw [ends_normal]
  go_wp2_with (first
    | (go_at_call 9; (with_reducible refine (MB.out _).mono ?_); rintro e _ ⟨rfl, d, os, rfl⟩)
    | (go_at_call 14; (with_reducible refine (IS.out _).mono ?_); rintro e _ ⟨rfl, d, os, rfl⟩)
    | (go_at_call 10; refine (awake_any _).mono ?_; rintro e _ ⟨rfl, d, os, rfl⟩))
  go_ret
  exact ⟨rfl, by repeat (first | exact Ext.refl _ | apply Ext.alloc | apply Ext.more)⟩

set_option maxHeartbeats 4000000 in
set_option maxRecDepth 20000 in
theorem vt_nil_b2  (sa s : ByteArray) (k' i' : Int) (sb s' : ByteArray) (hz : (9223372036854775807 < s.size + s'.size) = False)  (w : World)
    (FA : RowKit.Hid (∀ w, Calls Tryd.prog 4 #[.agg #[.int .i64 0, .int .i64 0, .string sa]] w fun e w' => e = .returned (.agg #[.int .i64 0, .int .i64 0, .string s]) ∧ Ext w w'))
    (FB : RowKit.Hid (∀ w, Calls Tryd.prog 4 #[.agg #[.int .i64 k', .int .i64 i', .string sb]] w fun e w' => e = .returned (.agg #[.int .i64 k', .int .i64 i', .string s']) ∧ Ext w w'))
    (J : RowKit.Hid (∀ w, Calls Tryd.prog 5 #[.agg #[.int .i64 0, .int .i64 0, .string s], .agg #[.int .i64 k', .int .i64 i', .string s']] w fun e w' => e = .returned (.tuple #[.agg #[.int .i64 0, .int .i64 0, .string ⟨#[]⟩], .int .i64 10]) ∧ Ext w w'))
    (L : RowKit.Hid (∀ w, Calls Tryd.prog 6 #[.agg #[.int .i64 0, .int .i64 0, .string s]] w fun e w' => e = .returned (.tuple #[.agg #[.int .i64 0, .int .i64 0, .string ⟨#[]⟩], .int .i64 10]) ∧ Ext w w'))
    (O : RowKit.Hid (∀ w, Calls Tryd.prog 7 #[.agg #[.int .i64 0, .int .i64 0, .string s]] w fun e w' => e = .returned (.tuple #[.agg #[.int .i64 0, .int .i64 0, .string ⟨#[]⟩], .int .i64 10]) ∧ Ext w w'))
    (S : RowKit.Hid (∀ w, Calls Tryd.prog 8 #[.agg #[.int .i64 0, .int .i64 0, .string s]] w fun e w' => e = .returned (.tuple #[.agg #[.int .i64 3, .int .i64 0, .string ⟨#[110, 105, 108]⟩], .int .i64 0]) ∧ Ext w w'))
    (MA : RowKit.Hid (∀ w, Calls Tryd.prog 9 #[.agg #[.int .i64 0, .int .i64 0, .string s]] w fun e w' => e = .returned (.bool true) ∧ Ext w w'))
    (RS : RowKit.Hid (∀ w, Calls Tryd.prog 11 #[.agg #[.int .i64 0, .int .i64 0, .string s]] w fun e w' => e = .returned (.string ⟨#[110, 105, 108]⟩) ∧ Ext w w'))
    (MB : RowKit.Hid (∀ w, Calls Tryd.prog 9 #[.agg #[.int .i64 k', .int .i64 i', .string s']] w fun e w' => e = .returned (.bool true) ∧ Ext w w'))
    (IS : RowKit.Hid (∀ w, Calls Tryd.prog 14 #[.agg #[.int .i64 0, .int .i64 0, .string ⟨#[]⟩], .int .i64 10, .agg #[.int .i64 0, .int .i64 0, .string ⟨#[]⟩], .int .i64 10] w fun e w' => e = .returned (.bool true) ∧ Ext w w')) :
    Calls Tryd.prog 3 #[.agg #[.int .i64 0, .int .i64 0, .string sa], .agg #[.int .i64 k', .int .i64 i', .string sb]] w fun e w' => e = .returned (.bool true) ∧ Ext w w' := by
  go_enter Tryd.func3, Tryd.ntmps3
  go_wp2_with fail
  refine wp_region_grow 3 170 [false, false, false] (by kernel_rfl) (by kernel_rfl) rfl ?_
  simp only [List.take_succ_cons, List.take_zero, List.drop_succ_cons, List.drop_zero]
  repeat (first
    | (refine Lex.step rfl ?_; intro K hK; unfold StepG; go_simp; refine hK _ ?_; clear hK K)
    | (refine Lex.step rfl ?_; intro K hK; unfold StepG; go_simp; refine ⟨_, fun d os => ret1 (FA.out _), ?_⟩; go_simp; refine hK _ ?_; clear hK K))
  refine Lex.nil fun W hE => ?_
  obtain ⟨d3, os3, rfl⟩ := hE
  unfold FillH
  go_wp2_with (go_at_call 4; (with_reducible refine (FB.out _).mono ?_); rintro e _ ⟨rfl, d, os, rfl⟩)
  rw [ends_normal]
  go_wp2_with (first
    | (go_at_call 5; (with_reducible refine (J.out _).mono ?_); rintro e _ ⟨rfl, d, os, rfl⟩)
    | (go_at_call 6; (with_reducible refine (L.out _).mono ?_); rintro e _ ⟨rfl, d, os, rfl⟩)
    | (go_at_call 7; (with_reducible refine (O.out _).mono ?_); rintro e _ ⟨rfl, d, os, rfl⟩)
    | (go_at_call 8; (with_reducible refine (S.out _).mono ?_); rintro e _ ⟨rfl, d, os, rfl⟩)
    | (go_at_call 9; (with_reducible refine (MA.out _).mono ?_); rintro e _ ⟨rfl, d, os, rfl⟩))
  refine wp_region_grow 9 170 [false, false, false, false, false, false, false, false, false] (by kernel_rfl) (by kernel_rfl) rfl ?_
  simp only [List.take_succ_cons, List.take_zero, List.drop_succ_cons, List.drop_zero]
  repeat (refine Lex.step rfl ?_; intro K hK; unfold StepG; go_simp; (first
      | refine hK _ ?_
      | (with_reducible refine ⟨_, fun d os => (ret1 (RS.out _)), ?_⟩; go_simp; refine hK _ ?_)); clear hK K)
  refine Lex.nil fun WW hE => ?_
  obtain ⟨dd, oo, rfl⟩ := hE
  unfold FillH
  go_wp2_with fail
  rw [ends_normal]
  go_wp2_with (first
    | (go_at_call 9; (with_reducible refine (MB.out _).mono ?_); rintro e _ ⟨rfl, d, os, rfl⟩)
    | (go_at_call 14; (with_reducible refine (IS.out _).mono ?_); rintro e _ ⟨rfl, d, os, rfl⟩)
    | (go_at_call 10; refine (awake_any _).mono ?_; rintro e _ ⟨rfl, d, os, rfl⟩))
  go_ret
  exact ⟨rfl, by repeat (first | exact Ext.refl _ | apply Ext.alloc | apply Ext.more)⟩

set_option maxHeartbeats 4000000 in
set_option maxRecDepth 20000 in
theorem vt_no_b1  (sa s : ByteArray) (k' i' : Int) (sb s' : ByteArray) (hz : (9223372036854775807 < s.size + s'.size) = False)  (w : World)
    (FA : RowKit.Hid (∀ w, Calls Tryd.prog 4 #[.agg #[.int .i64 1, .int .i64 0, .string sa]] w fun e w' => e = .returned (.agg #[.int .i64 1, .int .i64 0, .string s]) ∧ Ext w w'))
    (FB : RowKit.Hid (∀ w, Calls Tryd.prog 4 #[.agg #[.int .i64 k', .int .i64 i', .string sb]] w fun e w' => e = .returned (.agg #[.int .i64 k', .int .i64 i', .string s']) ∧ Ext w w'))
    (J : RowKit.Hid (∀ w, Calls Tryd.prog 5 #[.agg #[.int .i64 1, .int .i64 0, .string s], .agg #[.int .i64 k', .int .i64 i', .string s']] w fun e w' => e = .returned (.tuple #[.agg #[.int .i64 0, .int .i64 0, .string ⟨#[]⟩], .int .i64 1]) ∧ Ext w w'))
    (L : RowKit.Hid (∀ w, Calls Tryd.prog 6 #[.agg #[.int .i64 1, .int .i64 0, .string s]] w fun e w' => e = .returned (.tuple #[.agg #[.int .i64 0, .int .i64 0, .string ⟨#[]⟩], .int .i64 10]) ∧ Ext w w'))
    (O : RowKit.Hid (∀ w, Calls Tryd.prog 7 #[.agg #[.int .i64 1, .int .i64 0, .string s]] w fun e w' => e = .returned (.tuple #[.agg #[.int .i64 1, .int .i64 (boolI true), .string ⟨#[]⟩], .int .i64 0]) ∧ Ext w w'))
    (S : RowKit.Hid (∀ w, Calls Tryd.prog 8 #[.agg #[.int .i64 1, .int .i64 0, .string s]] w fun e w' => e = .returned (.tuple #[.agg #[.int .i64 3, .int .i64 0, .string ⟨#[102, 97, 108, 115, 101]⟩], .int .i64 0]) ∧ Ext w w'))
    (MA : RowKit.Hid (∀ w, Calls Tryd.prog 9 #[.agg #[.int .i64 1, .int .i64 0, .string s]] w fun e w' => e = .returned (.bool true) ∧ Ext w w'))
    (RS : RowKit.Hid (∀ w, Calls Tryd.prog 11 #[.agg #[.int .i64 1, .int .i64 0, .string s]] w fun e w' => e = .returned (.string ⟨#[102, 97, 108, 115, 101]⟩) ∧ Ext w w'))
    (MB : RowKit.Hid (∀ w, Calls Tryd.prog 9 #[.agg #[.int .i64 k', .int .i64 i', .string s']] w fun e w' => e = .returned (.bool false) ∧ Ext w w'))
    (IS : RowKit.Hid (∀ w, Calls Tryd.prog 14 #[.agg #[.int .i64 0, .int .i64 0, .string ⟨#[]⟩], .int .i64 1, .agg #[.int .i64 0, .int .i64 0, .string ⟨#[]⟩], .int .i64 1] w fun e w' => e = .returned (.bool true) ∧ Ext w w')) :
    Calls Tryd.prog 3 #[.agg #[.int .i64 1, .int .i64 0, .string sa], .agg #[.int .i64 k', .int .i64 i', .string sb]] w fun e w' => e = .returned (.bool true) ∧ Ext w w' := by
  go_enter Tryd.func3, Tryd.ntmps3
  go_wp2_with fail
  refine wp_region_grow 3 170 [false, false, false] (by kernel_rfl) (by kernel_rfl) rfl ?_
  simp only [List.take_succ_cons, List.take_zero, List.drop_succ_cons, List.drop_zero]
  repeat (first
    | (refine Lex.step rfl ?_; intro K hK; unfold StepG; go_simp; refine hK _ ?_; clear hK K)
    | (refine Lex.step rfl ?_; intro K hK; unfold StepG; go_simp; refine ⟨_, fun d os => ret1 (FA.out _), ?_⟩; go_simp; refine hK _ ?_; clear hK K))
  refine Lex.nil fun W hE => ?_
  obtain ⟨d3, os3, rfl⟩ := hE
  unfold FillH
  go_wp2_with (go_at_call 4; (with_reducible refine (FB.out _).mono ?_); rintro e _ ⟨rfl, d, os, rfl⟩)
  rw [ends_normal]
  go_wp2_with (first
    | (go_at_call 5; (with_reducible refine (J.out _).mono ?_); rintro e _ ⟨rfl, d, os, rfl⟩)
    | (go_at_call 6; (with_reducible refine (L.out _).mono ?_); rintro e _ ⟨rfl, d, os, rfl⟩)
    | (go_at_call 7; (with_reducible refine (O.out _).mono ?_); rintro e _ ⟨rfl, d, os, rfl⟩)
    | (go_at_call 8; (with_reducible refine (S.out _).mono ?_); rintro e _ ⟨rfl, d, os, rfl⟩)
    | (go_at_call 9; (with_reducible refine (MA.out _).mono ?_); rintro e _ ⟨rfl, d, os, rfl⟩))
  refine wp_region_grow 9 170 [false, false, false, false, false, false, false, false, false] (by kernel_rfl) (by kernel_rfl) rfl ?_
  simp only [List.take_succ_cons, List.take_zero, List.drop_succ_cons, List.drop_zero]
  repeat (refine Lex.step rfl ?_; intro K hK; unfold StepG; go_simp; (first
      | refine hK _ ?_
      | (with_reducible refine ⟨_, fun d os => (ret1 (RS.out _)), ?_⟩; go_simp; refine hK _ ?_)); clear hK K)
  refine Lex.nil fun WW hE => ?_
  obtain ⟨dd, oo, rfl⟩ := hE
  unfold FillH
  go_wp2_with fail
  rw [ends_normal]
  go_wp2_with fail
  refine wp_region_grow 10 170 [false, false, false, false, false, false, false, false, false, false] (by kernel_rfl) (by kernel_rfl) rfl ?_
  simp only [List.take_succ_cons, List.take_zero, List.drop_succ_cons, List.drop_zero]
  repeat (refine Lex.step rfl ?_; intro K hK; unfold StepG; go_simp; (first
      | refine hK _ ?_
      | (with_reducible refine ⟨_, fun d os => (ret1 (rbool_any _ _)), ?_⟩; go_simp; refine hK _ ?_)); clear hK K)
  refine Lex.nil fun WW hE => ?_
  obtain ⟨dd, oo, rfl⟩ := hE
  unfold FillH
  go_wp2_with fail
  rw [ends_normal]
  go_wp2_with (first
    | (go_at_call 9; (with_reducible refine (MB.out _).mono ?_); rintro e _ ⟨rfl, d, os, rfl⟩)
    | (go_at_call 14; (with_reducible refine (IS.out _).mono ?_); rintro e _ ⟨rfl, d, os, rfl⟩)
    | (go_at_call 10; refine (awake_any _).mono ?_; rintro e _ ⟨rfl, d, os, rfl⟩))
  go_ret
  exact ⟨rfl, by repeat (first | exact Ext.refl _ | apply Ext.alloc | apply Ext.more)⟩

set_option maxHeartbeats 4000000 in
set_option maxRecDepth 20000 in
theorem vt_no_b2  (sa s : ByteArray) (k' i' : Int) (sb s' : ByteArray) (hz : (9223372036854775807 < s.size + s'.size) = False)  (w : World)
    (FA : RowKit.Hid (∀ w, Calls Tryd.prog 4 #[.agg #[.int .i64 1, .int .i64 0, .string sa]] w fun e w' => e = .returned (.agg #[.int .i64 1, .int .i64 0, .string s]) ∧ Ext w w'))
    (FB : RowKit.Hid (∀ w, Calls Tryd.prog 4 #[.agg #[.int .i64 k', .int .i64 i', .string sb]] w fun e w' => e = .returned (.agg #[.int .i64 k', .int .i64 i', .string s']) ∧ Ext w w'))
    (J : RowKit.Hid (∀ w, Calls Tryd.prog 5 #[.agg #[.int .i64 1, .int .i64 0, .string s], .agg #[.int .i64 k', .int .i64 i', .string s']] w fun e w' => e = .returned (.tuple #[.agg #[.int .i64 0, .int .i64 0, .string ⟨#[]⟩], .int .i64 10]) ∧ Ext w w'))
    (L : RowKit.Hid (∀ w, Calls Tryd.prog 6 #[.agg #[.int .i64 1, .int .i64 0, .string s]] w fun e w' => e = .returned (.tuple #[.agg #[.int .i64 0, .int .i64 0, .string ⟨#[]⟩], .int .i64 10]) ∧ Ext w w'))
    (O : RowKit.Hid (∀ w, Calls Tryd.prog 7 #[.agg #[.int .i64 1, .int .i64 0, .string s]] w fun e w' => e = .returned (.tuple #[.agg #[.int .i64 1, .int .i64 (boolI true), .string ⟨#[]⟩], .int .i64 0]) ∧ Ext w w'))
    (S : RowKit.Hid (∀ w, Calls Tryd.prog 8 #[.agg #[.int .i64 1, .int .i64 0, .string s]] w fun e w' => e = .returned (.tuple #[.agg #[.int .i64 3, .int .i64 0, .string ⟨#[102, 97, 108, 115, 101]⟩], .int .i64 0]) ∧ Ext w w'))
    (MA : RowKit.Hid (∀ w, Calls Tryd.prog 9 #[.agg #[.int .i64 1, .int .i64 0, .string s]] w fun e w' => e = .returned (.bool true) ∧ Ext w w'))
    (RS : RowKit.Hid (∀ w, Calls Tryd.prog 11 #[.agg #[.int .i64 1, .int .i64 0, .string s]] w fun e w' => e = .returned (.string ⟨#[102, 97, 108, 115, 101]⟩) ∧ Ext w w'))
    (MB : RowKit.Hid (∀ w, Calls Tryd.prog 9 #[.agg #[.int .i64 k', .int .i64 i', .string s']] w fun e w' => e = .returned (.bool true) ∧ Ext w w'))
    (IS : RowKit.Hid (∀ w, Calls Tryd.prog 14 #[.agg #[.int .i64 0, .int .i64 0, .string ⟨#[]⟩], .int .i64 10, .agg #[.int .i64 0, .int .i64 0, .string ⟨#[]⟩], .int .i64 10] w fun e w' => e = .returned (.bool true) ∧ Ext w w')) :
    Calls Tryd.prog 3 #[.agg #[.int .i64 1, .int .i64 0, .string sa], .agg #[.int .i64 k', .int .i64 i', .string sb]] w fun e w' => e = .returned (.bool true) ∧ Ext w w' := by
  go_enter Tryd.func3, Tryd.ntmps3
  go_wp2_with fail
  refine wp_region_grow 3 170 [false, false, false] (by kernel_rfl) (by kernel_rfl) rfl ?_
  simp only [List.take_succ_cons, List.take_zero, List.drop_succ_cons, List.drop_zero]
  repeat (first
    | (refine Lex.step rfl ?_; intro K hK; unfold StepG; go_simp; refine hK _ ?_; clear hK K)
    | (refine Lex.step rfl ?_; intro K hK; unfold StepG; go_simp; refine ⟨_, fun d os => ret1 (FA.out _), ?_⟩; go_simp; refine hK _ ?_; clear hK K))
  refine Lex.nil fun W hE => ?_
  obtain ⟨d3, os3, rfl⟩ := hE
  unfold FillH
  go_wp2_with (go_at_call 4; (with_reducible refine (FB.out _).mono ?_); rintro e _ ⟨rfl, d, os, rfl⟩)
  rw [ends_normal]
  go_wp2_with (first
    | (go_at_call 5; (with_reducible refine (J.out _).mono ?_); rintro e _ ⟨rfl, d, os, rfl⟩)
    | (go_at_call 6; (with_reducible refine (L.out _).mono ?_); rintro e _ ⟨rfl, d, os, rfl⟩)
    | (go_at_call 7; (with_reducible refine (O.out _).mono ?_); rintro e _ ⟨rfl, d, os, rfl⟩)
    | (go_at_call 8; (with_reducible refine (S.out _).mono ?_); rintro e _ ⟨rfl, d, os, rfl⟩)
    | (go_at_call 9; (with_reducible refine (MA.out _).mono ?_); rintro e _ ⟨rfl, d, os, rfl⟩))
  refine wp_region_grow 9 170 [false, false, false, false, false, false, false, false, false] (by kernel_rfl) (by kernel_rfl) rfl ?_
  simp only [List.take_succ_cons, List.take_zero, List.drop_succ_cons, List.drop_zero]
  repeat (refine Lex.step rfl ?_; intro K hK; unfold StepG; go_simp; (first
      | refine hK _ ?_
      | (with_reducible refine ⟨_, fun d os => (ret1 (RS.out _)), ?_⟩; go_simp; refine hK _ ?_)); clear hK K)
  refine Lex.nil fun WW hE => ?_
  obtain ⟨dd, oo, rfl⟩ := hE
  unfold FillH
  go_wp2_with fail
  rw [ends_normal]
  go_wp2_with fail
  refine wp_region_grow 10 170 [false, false, false, false, false, false, false, false, false, false] (by kernel_rfl) (by kernel_rfl) rfl ?_
  simp only [List.take_succ_cons, List.take_zero, List.drop_succ_cons, List.drop_zero]
  repeat (refine Lex.step rfl ?_; intro K hK; unfold StepG; go_simp; (first
      | refine hK _ ?_
      | (with_reducible refine ⟨_, fun d os => (ret1 (rbool_any _ _)), ?_⟩; go_simp; refine hK _ ?_)); clear hK K)
  refine Lex.nil fun WW hE => ?_
  obtain ⟨dd, oo, rfl⟩ := hE
  unfold FillH
  go_wp2_with fail
  rw [ends_normal]
  go_wp2_with (first
    | (go_at_call 9; (with_reducible refine (MB.out _).mono ?_); rintro e _ ⟨rfl, d, os, rfl⟩)
    | (go_at_call 14; (with_reducible refine (IS.out _).mono ?_); rintro e _ ⟨rfl, d, os, rfl⟩)
    | (go_at_call 10; refine (awake_any _).mono ?_; rintro e _ ⟨rfl, d, os, rfl⟩))
  go_ret
  exact ⟨rfl, by repeat (first | exact Ext.refl _ | apply Ext.alloc | apply Ext.more)⟩

set_option maxHeartbeats 4000000 in
set_option maxRecDepth 20000 in
theorem vt_yes_b1  (sa s : ByteArray) (k' i' : Int) (sb s' : ByteArray) (hz : (9223372036854775807 < s.size + s'.size) = False)  (w : World)
    (FA : RowKit.Hid (∀ w, Calls Tryd.prog 4 #[.agg #[.int .i64 1, .int .i64 1, .string sa]] w fun e w' => e = .returned (.agg #[.int .i64 1, .int .i64 1, .string s]) ∧ Ext w w'))
    (FB : RowKit.Hid (∀ w, Calls Tryd.prog 4 #[.agg #[.int .i64 k', .int .i64 i', .string sb]] w fun e w' => e = .returned (.agg #[.int .i64 k', .int .i64 i', .string s']) ∧ Ext w w'))
    (J : RowKit.Hid (∀ w, Calls Tryd.prog 5 #[.agg #[.int .i64 1, .int .i64 1, .string s], .agg #[.int .i64 k', .int .i64 i', .string s']] w fun e w' => e = .returned (.tuple #[.agg #[.int .i64 0, .int .i64 0, .string ⟨#[]⟩], .int .i64 1]) ∧ Ext w w'))
    (L : RowKit.Hid (∀ w, Calls Tryd.prog 6 #[.agg #[.int .i64 1, .int .i64 1, .string s]] w fun e w' => e = .returned (.tuple #[.agg #[.int .i64 0, .int .i64 0, .string ⟨#[]⟩], .int .i64 10]) ∧ Ext w w'))
    (O : RowKit.Hid (∀ w, Calls Tryd.prog 7 #[.agg #[.int .i64 1, .int .i64 1, .string s]] w fun e w' => e = .returned (.tuple #[.agg #[.int .i64 1, .int .i64 (boolI false), .string ⟨#[]⟩], .int .i64 0]) ∧ Ext w w'))
    (S : RowKit.Hid (∀ w, Calls Tryd.prog 8 #[.agg #[.int .i64 1, .int .i64 1, .string s]] w fun e w' => e = .returned (.tuple #[.agg #[.int .i64 3, .int .i64 0, .string ⟨#[116, 114, 117, 101]⟩], .int .i64 0]) ∧ Ext w w'))
    (MA : RowKit.Hid (∀ w, Calls Tryd.prog 9 #[.agg #[.int .i64 1, .int .i64 1, .string s]] w fun e w' => e = .returned (.bool true) ∧ Ext w w'))
    (RS : RowKit.Hid (∀ w, Calls Tryd.prog 11 #[.agg #[.int .i64 1, .int .i64 1, .string s]] w fun e w' => e = .returned (.string ⟨#[116, 114, 117, 101]⟩) ∧ Ext w w'))
    (MB : RowKit.Hid (∀ w, Calls Tryd.prog 9 #[.agg #[.int .i64 k', .int .i64 i', .string s']] w fun e w' => e = .returned (.bool false) ∧ Ext w w'))
    (IS : RowKit.Hid (∀ w, Calls Tryd.prog 14 #[.agg #[.int .i64 0, .int .i64 0, .string ⟨#[]⟩], .int .i64 1, .agg #[.int .i64 0, .int .i64 0, .string ⟨#[]⟩], .int .i64 1] w fun e w' => e = .returned (.bool true) ∧ Ext w w')) :
    Calls Tryd.prog 3 #[.agg #[.int .i64 1, .int .i64 1, .string sa], .agg #[.int .i64 k', .int .i64 i', .string sb]] w fun e w' => e = .returned (.bool true) ∧ Ext w w' := by
  go_enter Tryd.func3, Tryd.ntmps3
  go_wp2_with fail
  refine wp_region_grow 3 170 [false, false, false] (by kernel_rfl) (by kernel_rfl) rfl ?_
  simp only [List.take_succ_cons, List.take_zero, List.drop_succ_cons, List.drop_zero]
  repeat (first
    | (refine Lex.step rfl ?_; intro K hK; unfold StepG; go_simp; refine hK _ ?_; clear hK K)
    | (refine Lex.step rfl ?_; intro K hK; unfold StepG; go_simp; refine ⟨_, fun d os => ret1 (FA.out _), ?_⟩; go_simp; refine hK _ ?_; clear hK K))
  refine Lex.nil fun W hE => ?_
  obtain ⟨d3, os3, rfl⟩ := hE
  unfold FillH
  go_wp2_with (go_at_call 4; (with_reducible refine (FB.out _).mono ?_); rintro e _ ⟨rfl, d, os, rfl⟩)
  rw [ends_normal]
  go_wp2_with (first
    | (go_at_call 5; (with_reducible refine (J.out _).mono ?_); rintro e _ ⟨rfl, d, os, rfl⟩)
    | (go_at_call 6; (with_reducible refine (L.out _).mono ?_); rintro e _ ⟨rfl, d, os, rfl⟩)
    | (go_at_call 7; (with_reducible refine (O.out _).mono ?_); rintro e _ ⟨rfl, d, os, rfl⟩)
    | (go_at_call 8; (with_reducible refine (S.out _).mono ?_); rintro e _ ⟨rfl, d, os, rfl⟩)
    | (go_at_call 9; (with_reducible refine (MA.out _).mono ?_); rintro e _ ⟨rfl, d, os, rfl⟩))
  refine wp_region_grow 9 170 [false, false, false, false, false, false, false, false, false] (by kernel_rfl) (by kernel_rfl) rfl ?_
  simp only [List.take_succ_cons, List.take_zero, List.drop_succ_cons, List.drop_zero]
  repeat (refine Lex.step rfl ?_; intro K hK; unfold StepG; go_simp; (first
      | refine hK _ ?_
      | (with_reducible refine ⟨_, fun d os => (ret1 (RS.out _)), ?_⟩; go_simp; refine hK _ ?_)); clear hK K)
  refine Lex.nil fun WW hE => ?_
  obtain ⟨dd, oo, rfl⟩ := hE
  unfold FillH
  go_wp2_with fail
  rw [ends_normal]
  go_wp2_with fail
  refine wp_region_grow 10 170 [false, false, false, false, false, false, false, false, false, false] (by kernel_rfl) (by kernel_rfl) rfl ?_
  simp only [List.take_succ_cons, List.take_zero, List.drop_succ_cons, List.drop_zero]
  repeat (refine Lex.step rfl ?_; intro K hK; unfold StepG; go_simp; (first
      | refine hK _ ?_
      | (with_reducible refine ⟨_, fun d os => (ret1 (rbool_any _ _)), ?_⟩; go_simp; refine hK _ ?_)); clear hK K)
  refine Lex.nil fun WW hE => ?_
  obtain ⟨dd, oo, rfl⟩ := hE
  unfold FillH
  go_wp2_with fail
  rw [ends_normal]
  go_wp2_with (first
    | (go_at_call 9; (with_reducible refine (MB.out _).mono ?_); rintro e _ ⟨rfl, d, os, rfl⟩)
    | (go_at_call 14; (with_reducible refine (IS.out _).mono ?_); rintro e _ ⟨rfl, d, os, rfl⟩)
    | (go_at_call 10; refine (awake_any _).mono ?_; rintro e _ ⟨rfl, d, os, rfl⟩))
  go_ret
  exact ⟨rfl, by repeat (first | exact Ext.refl _ | apply Ext.alloc | apply Ext.more)⟩

set_option maxHeartbeats 4000000 in
set_option maxRecDepth 20000 in
theorem vt_yes_b2  (sa s : ByteArray) (k' i' : Int) (sb s' : ByteArray) (hz : (9223372036854775807 < s.size + s'.size) = False)  (w : World)
    (FA : RowKit.Hid (∀ w, Calls Tryd.prog 4 #[.agg #[.int .i64 1, .int .i64 1, .string sa]] w fun e w' => e = .returned (.agg #[.int .i64 1, .int .i64 1, .string s]) ∧ Ext w w'))
    (FB : RowKit.Hid (∀ w, Calls Tryd.prog 4 #[.agg #[.int .i64 k', .int .i64 i', .string sb]] w fun e w' => e = .returned (.agg #[.int .i64 k', .int .i64 i', .string s']) ∧ Ext w w'))
    (J : RowKit.Hid (∀ w, Calls Tryd.prog 5 #[.agg #[.int .i64 1, .int .i64 1, .string s], .agg #[.int .i64 k', .int .i64 i', .string s']] w fun e w' => e = .returned (.tuple #[.agg #[.int .i64 0, .int .i64 0, .string ⟨#[]⟩], .int .i64 10]) ∧ Ext w w'))
    (L : RowKit.Hid (∀ w, Calls Tryd.prog 6 #[.agg #[.int .i64 1, .int .i64 1, .string s]] w fun e w' => e = .returned (.tuple #[.agg #[.int .i64 0, .int .i64 0, .string ⟨#[]⟩], .int .i64 10]) ∧ Ext w w'))
    (O : RowKit.Hid (∀ w, Calls Tryd.prog 7 #[.agg #[.int .i64 1, .int .i64 1, .string s]] w fun e w' => e = .returned (.tuple #[.agg #[.int .i64 1, .int .i64 (boolI false), .string ⟨#[]⟩], .int .i64 0]) ∧ Ext w w'))
    (S : RowKit.Hid (∀ w, Calls Tryd.prog 8 #[.agg #[.int .i64 1, .int .i64 1, .string s]] w fun e w' => e = .returned (.tuple #[.agg #[.int .i64 3, .int .i64 0, .string ⟨#[116, 114, 117, 101]⟩], .int .i64 0]) ∧ Ext w w'))
    (MA : RowKit.Hid (∀ w, Calls Tryd.prog 9 #[.agg #[.int .i64 1, .int .i64 1, .string s]] w fun e w' => e = .returned (.bool true) ∧ Ext w w'))
    (RS : RowKit.Hid (∀ w, Calls Tryd.prog 11 #[.agg #[.int .i64 1, .int .i64 1, .string s]] w fun e w' => e = .returned (.string ⟨#[116, 114, 117, 101]⟩) ∧ Ext w w'))
    (MB : RowKit.Hid (∀ w, Calls Tryd.prog 9 #[.agg #[.int .i64 k', .int .i64 i', .string s']] w fun e w' => e = .returned (.bool true) ∧ Ext w w'))
    (IS : RowKit.Hid (∀ w, Calls Tryd.prog 14 #[.agg #[.int .i64 0, .int .i64 0, .string ⟨#[]⟩], .int .i64 10, .agg #[.int .i64 0, .int .i64 0, .string ⟨#[]⟩], .int .i64 10] w fun e w' => e = .returned (.bool true) ∧ Ext w w')) :
    Calls Tryd.prog 3 #[.agg #[.int .i64 1, .int .i64 1, .string sa], .agg #[.int .i64 k', .int .i64 i', .string sb]] w fun e w' => e = .returned (.bool true) ∧ Ext w w' := by
  go_enter Tryd.func3, Tryd.ntmps3
  go_wp2_with fail
  refine wp_region_grow 3 170 [false, false, false] (by kernel_rfl) (by kernel_rfl) rfl ?_
  simp only [List.take_succ_cons, List.take_zero, List.drop_succ_cons, List.drop_zero]
  repeat (first
    | (refine Lex.step rfl ?_; intro K hK; unfold StepG; go_simp; refine hK _ ?_; clear hK K)
    | (refine Lex.step rfl ?_; intro K hK; unfold StepG; go_simp; refine ⟨_, fun d os => ret1 (FA.out _), ?_⟩; go_simp; refine hK _ ?_; clear hK K))
  refine Lex.nil fun W hE => ?_
  obtain ⟨d3, os3, rfl⟩ := hE
  unfold FillH
  go_wp2_with (go_at_call 4; (with_reducible refine (FB.out _).mono ?_); rintro e _ ⟨rfl, d, os, rfl⟩)
  rw [ends_normal]
  go_wp2_with (first
    | (go_at_call 5; (with_reducible refine (J.out _).mono ?_); rintro e _ ⟨rfl, d, os, rfl⟩)
    | (go_at_call 6; (with_reducible refine (L.out _).mono ?_); rintro e _ ⟨rfl, d, os, rfl⟩)
    | (go_at_call 7; (with_reducible refine (O.out _).mono ?_); rintro e _ ⟨rfl, d, os, rfl⟩)
    | (go_at_call 8; (with_reducible refine (S.out _).mono ?_); rintro e _ ⟨rfl, d, os, rfl⟩)
    | (go_at_call 9; (with_reducible refine (MA.out _).mono ?_); rintro e _ ⟨rfl, d, os, rfl⟩))
  refine wp_region_grow 9 170 [false, false, false, false, false, false, false, false, false] (by kernel_rfl) (by kernel_rfl) rfl ?_
  simp only [List.take_succ_cons, List.take_zero, List.drop_succ_cons, List.drop_zero]
  repeat (refine Lex.step rfl ?_; intro K hK; unfold StepG; go_simp; (first
      | refine hK _ ?_
      | (with_reducible refine ⟨_, fun d os => (ret1 (RS.out _)), ?_⟩; go_simp; refine hK _ ?_)); clear hK K)
  refine Lex.nil fun WW hE => ?_
  obtain ⟨dd, oo, rfl⟩ := hE
  unfold FillH
  go_wp2_with fail
  rw [ends_normal]
  go_wp2_with fail
  refine wp_region_grow 10 170 [false, false, false, false, false, false, false, false, false, false] (by kernel_rfl) (by kernel_rfl) rfl ?_
  simp only [List.take_succ_cons, List.take_zero, List.drop_succ_cons, List.drop_zero]
  repeat (refine Lex.step rfl ?_; intro K hK; unfold StepG; go_simp; (first
      | refine hK _ ?_
      | (with_reducible refine ⟨_, fun d os => (ret1 (rbool_any _ _)), ?_⟩; go_simp; refine hK _ ?_)); clear hK K)
  refine Lex.nil fun WW hE => ?_
  obtain ⟨dd, oo, rfl⟩ := hE
  unfold FillH
  go_wp2_with fail
  rw [ends_normal]
  go_wp2_with (first
    | (go_at_call 9; (with_reducible refine (MB.out _).mono ?_); rintro e _ ⟨rfl, d, os, rfl⟩)
    | (go_at_call 14; (with_reducible refine (IS.out _).mono ?_); rintro e _ ⟨rfl, d, os, rfl⟩)
    | (go_at_call 10; refine (awake_any _).mono ?_; rintro e _ ⟨rfl, d, os, rfl⟩))
  go_ret
  exact ⟨rfl, by repeat (first | exact Ext.refl _ | apply Ext.alloc | apply Ext.more)⟩

set_option maxHeartbeats 4000000 in
set_option maxRecDepth 20000 in
theorem vt_int_b1 (i : Int) (sa s : ByteArray) (k' i' : Int) (sb s' : ByteArray) (hz : (9223372036854775807 < s.size + s'.size) = False)  (PB : Nat) (w : World)
    (FA : RowKit.Hid (∀ w, Calls Tryd.prog 4 #[.agg #[.int .i64 2, .int .i64 i, .string sa]] w fun e w' => e = .returned (.agg #[.int .i64 2, .int .i64 i, .string s]) ∧ Ext w w'))
    (FB : RowKit.Hid (∀ w, Calls Tryd.prog 4 #[.agg #[.int .i64 k', .int .i64 i', .string sb]] w fun e w' => e = .returned (.agg #[.int .i64 k', .int .i64 i', .string s']) ∧ Ext w w'))
    (J : RowKit.Hid (∀ w, Calls Tryd.prog 5 #[.agg #[.int .i64 2, .int .i64 i, .string s], .agg #[.int .i64 k', .int .i64 i', .string s']] w fun e w' => e = .returned (.tuple #[.agg #[.int .i64 0, .int .i64 0, .string ⟨#[]⟩], .int .i64 1]) ∧ Ext w w'))
    (L : RowKit.Hid (∀ w, Calls Tryd.prog 6 #[.agg #[.int .i64 2, .int .i64 i, .string s]] w fun e w' => e = .returned (.tuple #[.agg #[.int .i64 0, .int .i64 0, .string ⟨#[]⟩], .int .i64 10]) ∧ Ext w w'))
    (O : RowKit.Hid (∀ w, Calls Tryd.prog 7 #[.agg #[.int .i64 2, .int .i64 i, .string s]] w fun e w' => e = .returned (.tuple #[.agg #[.int .i64 0, .int .i64 0, .string ⟨#[]⟩], .int .i64 10]) ∧ Ext w w'))
    (S : RowKit.Hid (∀ w, Pow10 PB w → PB ≤ w.heap.size → Calls Tryd.prog 8 #[.agg #[.int .i64 2, .int .i64 i, .string s]] w fun e w' => e = .returned (.tuple #[.agg #[.int .i64 3, .int .i64 0, .string ⟨(Lib.itoa i).toArray⟩], .int .i64 0]) ∧ Ext w w'))
    (MA : RowKit.Hid (∀ w, Calls Tryd.prog 9 #[.agg #[.int .i64 2, .int .i64 i, .string s]] w fun e w' => e = .returned (.bool true) ∧ Ext w w'))
    (HP : RowKit.Hid (Pow10 PB w)) (hpg : PB ≤ w.heap.size)
    (RS : RowKit.Hid (∀ w, Calls Tryd.prog 11 #[.agg #[.int .i64 2, .int .i64 i, .string s]] w fun e w' => e = .returned (.string ⟨(Lib.itoa i).toArray⟩) ∧ Ext w w'))
    (MB : RowKit.Hid (∀ w, Calls Tryd.prog 9 #[.agg #[.int .i64 k', .int .i64 i', .string s']] w fun e w' => e = .returned (.bool false) ∧ Ext w w'))
    (IS : RowKit.Hid (∀ w, Calls Tryd.prog 14 #[.agg #[.int .i64 0, .int .i64 0, .string ⟨#[]⟩], .int .i64 1, .agg #[.int .i64 0, .int .i64 0, .string ⟨#[]⟩], .int .i64 1] w fun e w' => e = .returned (.bool true) ∧ Ext w w')) :
    Calls Tryd.prog 3 #[.agg #[.int .i64 2, .int .i64 i, .string sa], .agg #[.int .i64 k', .int .i64 i', .string sb]] w fun e w' => e = .returned (.bool true) ∧ Ext w w' := by
  go_enter Tryd.func3, Tryd.ntmps3
  go_wp2_with fail
  refine wp_region_grow 3 170 [false, false, false] (by kernel_rfl) (by kernel_rfl) rfl ?_
  simp only [List.take_succ_cons, List.take_zero, List.drop_succ_cons, List.drop_zero]
  repeat (first
    | (refine Lex.step rfl ?_; intro K hK; unfold StepG; go_simp; refine hK _ ?_; clear hK K)
    | (refine Lex.step rfl ?_; intro K hK; unfold StepG; go_simp; refine ⟨_, fun d os => ret1 (FA.out _), ?_⟩; go_simp; refine hK _ ?_; clear hK K))
  refine Lex.nil fun W hE => ?_
  obtain ⟨d3, os3, rfl⟩ := hE
  unfold FillH
  go_wp2_with (go_at_call 4; (with_reducible refine (FB.out _).mono ?_); rintro e _ ⟨rfl, d, os, rfl⟩)
  rw [ends_normal]
  go_wp2_with (first
    | (go_at_call 5; (with_reducible refine (J.out _).mono ?_); rintro e _ ⟨rfl, d, os, rfl⟩)
    | (go_at_call 6; (with_reducible refine (L.out _).mono ?_); rintro e _ ⟨rfl, d, os, rfl⟩)
    | (go_at_call 7; (with_reducible refine (O.out _).mono ?_); rintro e _ ⟨rfl, d, os, rfl⟩)
    | (go_at_call 8; (with_reducible refine (S.out _ (HP.out.below (show Ext w _ from by repeat (first | exact Ext.refl _ | apply Ext.alloc | apply Ext.more)).below hpg) (Nat.le_trans hpg (show Ext w _ from by repeat (first | exact Ext.refl _ | apply Ext.alloc | apply Ext.more)).size)).mono ?_); rintro e _ ⟨rfl, d, os, rfl⟩)
    | (go_at_call 9; (with_reducible refine (MA.out _).mono ?_); rintro e _ ⟨rfl, d, os, rfl⟩))
  refine wp_region_grow 9 170 [false, false, false, false, false, false, false, false, false] (by kernel_rfl) (by kernel_rfl) rfl ?_
  simp only [List.take_succ_cons, List.take_zero, List.drop_succ_cons, List.drop_zero]
  repeat (refine Lex.step rfl ?_; intro K hK; unfold StepG; go_simp; (first
      | refine hK _ ?_
      | (with_reducible refine ⟨_, fun d os => (ret1 (RS.out _)), ?_⟩; go_simp; refine hK _ ?_)); clear hK K)
  refine Lex.nil fun WW hE => ?_
  obtain ⟨dd, oo, rfl⟩ := hE
  unfold FillH
  go_wp2_with fail
  rw [ends_normal]
  go_wp2_with (first
    | (go_at_call 9; (with_reducible refine (MB.out _).mono ?_); rintro e _ ⟨rfl, d, os, rfl⟩)
    | (go_at_call 14; (with_reducible refine (IS.out _).mono ?_); rintro e _ ⟨rfl, d, os, rfl⟩)
    | (go_at_call 10; refine (awake_any _).mono ?_; rintro e _ ⟨rfl, d, os, rfl⟩))
  go_ret
  exact ⟨rfl, by repeat (first | exact Ext.refl _ | apply Ext.alloc | apply Ext.more)⟩

set_option maxHeartbeats 4000000 in
set_option maxRecDepth 20000 in
theorem vt_int_b2 (i : Int) (sa s : ByteArray) (k' i' : Int) (sb s' : ByteArray) (hz : (9223372036854775807 < s.size + s'.size) = False)  (PB : Nat) (w : World)
    (FA : RowKit.Hid (∀ w, Calls Tryd.prog 4 #[.agg #[.int .i64 2, .int .i64 i, .string sa]] w fun e w' => e = .returned (.agg #[.int .i64 2, .int .i64 i, .string s]) ∧ Ext w w'))
    (FB : RowKit.Hid (∀ w, Calls Tryd.prog 4 #[.agg #[.int .i64 k', .int .i64 i', .string sb]] w fun e w' => e = .returned (.agg #[.int .i64 k', .int .i64 i', .string s']) ∧ Ext w w'))
    (J : RowKit.Hid (∀ w, Calls Tryd.prog 5 #[.agg #[.int .i64 2, .int .i64 i, .string s], .agg #[.int .i64 k', .int .i64 i', .string s']] w fun e w' => e = .returned (.tuple #[.agg #[.int .i64 0, .int .i64 0, .string ⟨#[]⟩], .int .i64 10]) ∧ Ext w w'))
    (L : RowKit.Hid (∀ w, Calls Tryd.prog 6 #[.agg #[.int .i64 2, .int .i64 i, .string s]] w fun e w' => e = .returned (.tuple #[.agg #[.int .i64 0, .int .i64 0, .string ⟨#[]⟩], .int .i64 10]) ∧ Ext w w'))
    (O : RowKit.Hid (∀ w, Calls Tryd.prog 7 #[.agg #[.int .i64 2, .int .i64 i, .string s]] w fun e w' => e = .returned (.tuple #[.agg #[.int .i64 0, .int .i64 0, .string ⟨#[]⟩], .int .i64 10]) ∧ Ext w w'))
    (S : RowKit.Hid (∀ w, Pow10 PB w → PB ≤ w.heap.size → Calls Tryd.prog 8 #[.agg #[.int .i64 2, .int .i64 i, .string s]] w fun e w' => e = .returned (.tuple #[.agg #[.int .i64 3, .int .i64 0, .string ⟨(Lib.itoa i).toArray⟩], .int .i64 0]) ∧ Ext w w'))
    (MA : RowKit.Hid (∀ w, Calls Tryd.prog 9 #[.agg #[.int .i64 2, .int .i64 i, .string s]] w fun e w' => e = .returned (.bool true) ∧ Ext w w'))
    (HP : RowKit.Hid (Pow10 PB w)) (hpg : PB ≤ w.heap.size)
    (RS : RowKit.Hid (∀ w, Calls Tryd.prog 11 #[.agg #[.int .i64 2, .int .i64 i, .string s]] w fun e w' => e = .returned (.string ⟨(Lib.itoa i).toArray⟩) ∧ Ext w w'))
    (MB : RowKit.Hid (∀ w, Calls Tryd.prog 9 #[.agg #[.int .i64 k', .int .i64 i', .string s']] w fun e w' => e = .returned (.bool true) ∧ Ext w w'))
    (IS : RowKit.Hid (∀ w, Calls Tryd.prog 14 #[.agg #[.int .i64 0, .int .i64 0, .string ⟨#[]⟩], .int .i64 10, .agg #[.int .i64 0, .int .i64 0, .string ⟨#[]⟩], .int .i64 10] w fun e w' => e = .returned (.bool true) ∧ Ext w w')) :
    Calls Tryd.prog 3 #[.agg #[.int .i64 2, .int .i64 i, .string sa], .agg #[.int .i64 k', .int .i64 i', .string sb]] w fun e w' => e = .returned (.bool true) ∧ Ext w w' := by
  go_enter Tryd.func3, Tryd.ntmps3
  go_wp2_with fail
  refine wp_region_grow 3 170 [false, false, false] (by kernel_rfl) (by kernel_rfl) rfl ?_
  simp only [List.take_succ_cons, List.take_zero, List.drop_succ_cons, List.drop_zero]
  repeat (first
    | (refine Lex.step rfl ?_; intro K hK; unfold StepG; go_simp; refine hK _ ?_; clear hK K)
    | (refine Lex.step rfl ?_; intro K hK; unfold StepG; go_simp; refine ⟨_, fun d os => ret1 (FA.out _), ?_⟩; go_simp; refine hK _ ?_; clear hK K))
  refine Lex.nil fun W hE => ?_
  obtain ⟨d3, os3, rfl⟩ := hE
  unfold FillH
  go_wp2_with (go_at_call 4; (with_reducible refine (FB.out _).mono ?_); rintro e _ ⟨rfl, d, os, rfl⟩)
  rw [ends_normal]
  go_wp2_with (first
    | (go_at_call 5; (with_reducible refine (J.out _).mono ?_); rintro e _ ⟨rfl, d, os, rfl⟩)
    | (go_at_call 6; (with_reducible refine (L.out _).mono ?_); rintro e _ ⟨rfl, d, os, rfl⟩)
    | (go_at_call 7; (with_reducible refine (O.out _).mono ?_); rintro e _ ⟨rfl, d, os, rfl⟩)
    | (go_at_call 8; (with_reducible refine (S.out _ (HP.out.below (show Ext w _ from by repeat (first | exact Ext.refl _ | apply Ext.alloc | apply Ext.more)).below hpg) (Nat.le_trans hpg (show Ext w _ from by repeat (first | exact Ext.refl _ | apply Ext.alloc | apply Ext.more)).size)).mono ?_); rintro e _ ⟨rfl, d, os, rfl⟩)
    | (go_at_call 9; (with_reducible refine (MA.out _).mono ?_); rintro e _ ⟨rfl, d, os, rfl⟩))
  refine wp_region_grow 9 170 [false, false, false, false, false, false, false, false, false] (by kernel_rfl) (by kernel_rfl) rfl ?_
  simp only [List.take_succ_cons, List.take_zero, List.drop_succ_cons, List.drop_zero]
  repeat (refine Lex.step rfl ?_; intro K hK; unfold StepG; go_simp; (first
      | refine hK _ ?_
      | (with_reducible refine ⟨_, fun d os => (ret1 (RS.out _)), ?_⟩; go_simp; refine hK _ ?_)); clear hK K)
  refine Lex.nil fun WW hE => ?_
  obtain ⟨dd, oo, rfl⟩ := hE
  unfold FillH
  go_wp2_with fail
  rw [ends_normal]
  go_wp2_with (first
    | (go_at_call 9; (with_reducible refine (MB.out _).mono ?_); rintro e _ ⟨rfl, d, os, rfl⟩)
    | (go_at_call 14; (with_reducible refine (IS.out _).mono ?_); rintro e _ ⟨rfl, d, os, rfl⟩)
    | (go_at_call 10; refine (awake_any _).mono ?_; rintro e _ ⟨rfl, d, os, rfl⟩))
  go_ret
  exact ⟨rfl, by repeat (first | exact Ext.refl _ | apply Ext.alloc | apply Ext.more)⟩

set_option maxHeartbeats 4000000 in
set_option maxRecDepth 20000 in
theorem vt_text_b1  (sa s : ByteArray) (k' i' : Int) (sb s' : ByteArray) (hz : (9223372036854775807 < s.size + s'.size) = False)  (w : World)
    (FA : RowKit.Hid (∀ w, Calls Tryd.prog 4 #[.agg #[.int .i64 3, .int .i64 0, .string sa]] w fun e w' => e = .returned (.agg #[.int .i64 3, .int .i64 0, .string s]) ∧ Ext w w'))
    (FB : RowKit.Hid (∀ w, Calls Tryd.prog 4 #[.agg #[.int .i64 k', .int .i64 i', .string sb]] w fun e w' => e = .returned (.agg #[.int .i64 k', .int .i64 i', .string s']) ∧ Ext w w'))
    (J : RowKit.Hid (∀ w, Calls Tryd.prog 5 #[.agg #[.int .i64 3, .int .i64 0, .string s], .agg #[.int .i64 k', .int .i64 i', .string s']] w fun e w' => e = .returned (.tuple #[.agg #[.int .i64 0, .int .i64 0, .string ⟨#[]⟩], .int .i64 1]) ∧ Ext w w'))
    (L : RowKit.Hid (∀ w, Calls Tryd.prog 6 #[.agg #[.int .i64 3, .int .i64 0, .string s]] w fun e w' => e = .returned (.tuple #[.agg #[.int .i64 2, .int .i64 (s.size : Int), .string ⟨#[]⟩], .int .i64 0]) ∧ Ext w w'))
    (O : RowKit.Hid (∀ w, Calls Tryd.prog 7 #[.agg #[.int .i64 3, .int .i64 0, .string s]] w fun e w' => e = .returned (.tuple #[.agg #[.int .i64 0, .int .i64 0, .string ⟨#[]⟩], .int .i64 10]) ∧ Ext w w'))
    (S : RowKit.Hid (∀ w, Calls Tryd.prog 8 #[.agg #[.int .i64 3, .int .i64 0, .string s]] w fun e w' => e = .returned (.tuple #[.agg #[.int .i64 3, .int .i64 0, .string s], .int .i64 0]) ∧ Ext w w'))
    (MA : RowKit.Hid (∀ w, Calls Tryd.prog 9 #[.agg #[.int .i64 3, .int .i64 0, .string s]] w fun e w' => e = .returned (.bool true) ∧ Ext w w'))
    (RS : RowKit.Hid (∀ w, Calls Tryd.prog 11 #[.agg #[.int .i64 3, .int .i64 0, .string s]] w fun e w' => e = .returned (.string s) ∧ Ext w w'))
    (MB : RowKit.Hid (∀ w, Calls Tryd.prog 9 #[.agg #[.int .i64 k', .int .i64 i', .string s']] w fun e w' => e = .returned (.bool false) ∧ Ext w w'))
    (IS : RowKit.Hid (∀ w, Calls Tryd.prog 14 #[.agg #[.int .i64 0, .int .i64 0, .string ⟨#[]⟩], .int .i64 1, .agg #[.int .i64 0, .int .i64 0, .string ⟨#[]⟩], .int .i64 1] w fun e w' => e = .returned (.bool true) ∧ Ext w w')) :
    Calls Tryd.prog 3 #[.agg #[.int .i64 3, .int .i64 0, .string sa], .agg #[.int .i64 k', .int .i64 i', .string sb]] w fun e w' => e = .returned (.bool true) ∧ Ext w w' := by
  go_enter Tryd.func3, Tryd.ntmps3
  go_wp2_with fail
  refine wp_region_grow 3 170 [false, false, false] (by kernel_rfl) (by kernel_rfl) rfl ?_
  simp only [List.take_succ_cons, List.take_zero, List.drop_succ_cons, List.drop_zero]
  repeat (first
    | (refine Lex.step rfl ?_; intro K hK; unfold StepG; go_simp; refine hK _ ?_; clear hK K)
    | (refine Lex.step rfl ?_; intro K hK; unfold StepG; go_simp; refine ⟨_, fun d os => ret1 (FA.out _), ?_⟩; go_simp; refine hK _ ?_; clear hK K))
  refine Lex.nil fun W hE => ?_
  obtain ⟨d3, os3, rfl⟩ := hE
  unfold FillH
  go_wp2_with (go_at_call 4; (with_reducible refine (FB.out _).mono ?_); rintro e _ ⟨rfl, d, os, rfl⟩)
  rw [ends_normal]
  go_wp2_with (first
    | (go_at_call 5; (with_reducible refine (J.out _).mono ?_); rintro e _ ⟨rfl, d, os, rfl⟩)
    | (go_at_call 6; (with_reducible refine (L.out _).mono ?_); rintro e _ ⟨rfl, d, os, rfl⟩)
    | (go_at_call 7; (with_reducible refine (O.out _).mono ?_); rintro e _ ⟨rfl, d, os, rfl⟩)
    | (go_at_call 8; (with_reducible refine (S.out _).mono ?_); rintro e _ ⟨rfl, d, os, rfl⟩)
    | (go_at_call 9; (with_reducible refine (MA.out _).mono ?_); rintro e _ ⟨rfl, d, os, rfl⟩))
  refine wp_region_grow 9 170 [false, false, false, false, false, false, false, false, false] (by kernel_rfl) (by kernel_rfl) rfl ?_
  simp only [List.take_succ_cons, List.take_zero, List.drop_succ_cons, List.drop_zero]
  repeat (refine Lex.step rfl ?_; intro K hK; unfold StepG; go_simp; (first
      | refine hK _ ?_
      | (with_reducible refine ⟨_, fun d os => (ret1 (RS.out _)), ?_⟩; go_simp; refine hK _ ?_)); clear hK K)
  refine Lex.nil fun WW hE => ?_
  obtain ⟨dd, oo, rfl⟩ := hE
  unfold FillH
  go_wp2_with fail
  rw [ends_normal]
  go_wp2_with fail
  refine wp_region_grow 10 170 [false, false, false, false, false, false, false, false, false, false] (by kernel_rfl) (by kernel_rfl) rfl ?_
  simp only [List.take_succ_cons, List.take_zero, List.drop_succ_cons, List.drop_zero]
  repeat (refine Lex.step rfl ?_; intro K hK; unfold StepG; go_simp; (first
      | refine hK _ ?_
      | (with_reducible refine ⟨_, fun d os => (ret1 (rint_any _ _)), ?_⟩; go_simp; refine hK _ ?_)); clear hK K)
  refine Lex.nil fun WW hE => ?_
  obtain ⟨dd, oo, rfl⟩ := hE
  unfold FillH
  go_wp2_with fail
  rw [ends_normal]
  go_wp2_with (first
    | (go_at_call 9; (with_reducible refine (MB.out _).mono ?_); rintro e _ ⟨rfl, d, os, rfl⟩)
    | (go_at_call 14; (with_reducible refine (IS.out _).mono ?_); rintro e _ ⟨rfl, d, os, rfl⟩)
    | (go_at_call 10; refine (awake_any _).mono ?_; rintro e _ ⟨rfl, d, os, rfl⟩))
  go_ret
  exact ⟨rfl, by repeat (first | exact Ext.refl _ | apply Ext.alloc | apply Ext.more)⟩

set_option maxHeartbeats 4000000 in
set_option maxRecDepth 20000 in
theorem vt_text_b2  (sa s : ByteArray) (k' i' : Int) (sb s' : ByteArray) (hz : (9223372036854775807 < s.size + s'.size) = False) (hk : (k' != 3) = true) (hk2 : (k' == 3) = false) (w : World)
    (FA : RowKit.Hid (∀ w, Calls Tryd.prog 4 #[.agg #[.int .i64 3, .int .i64 0, .string sa]] w fun e w' => e = .returned (.agg #[.int .i64 3, .int .i64 0, .string s]) ∧ Ext w w'))
    (FB : RowKit.Hid (∀ w, Calls Tryd.prog 4 #[.agg #[.int .i64 k', .int .i64 i', .string sb]] w fun e w' => e = .returned (.agg #[.int .i64 k', .int .i64 i', .string s']) ∧ Ext w w'))
    (J : RowKit.Hid (∀ w, Calls Tryd.prog 5 #[.agg #[.int .i64 3, .int .i64 0, .string s], .agg #[.int .i64 k', .int .i64 i', .string s']] w fun e w' => e = .returned (.tuple #[.agg #[.int .i64 0, .int .i64 0, .string ⟨#[]⟩], .int .i64 10]) ∧ Ext w w'))
    (L : RowKit.Hid (∀ w, Calls Tryd.prog 6 #[.agg #[.int .i64 3, .int .i64 0, .string s]] w fun e w' => e = .returned (.tuple #[.agg #[.int .i64 2, .int .i64 (s.size : Int), .string ⟨#[]⟩], .int .i64 0]) ∧ Ext w w'))
    (O : RowKit.Hid (∀ w, Calls Tryd.prog 7 #[.agg #[.int .i64 3, .int .i64 0, .string s]] w fun e w' => e = .returned (.tuple #[.agg #[.int .i64 0, .int .i64 0, .string ⟨#[]⟩], .int .i64 10]) ∧ Ext w w'))
    (S : RowKit.Hid (∀ w, Calls Tryd.prog 8 #[.agg #[.int .i64 3, .int .i64 0, .string s]] w fun e w' => e = .returned (.tuple #[.agg #[.int .i64 3, .int .i64 0, .string s], .int .i64 0]) ∧ Ext w w'))
    (MA : RowKit.Hid (∀ w, Calls Tryd.prog 9 #[.agg #[.int .i64 3, .int .i64 0, .string s]] w fun e w' => e = .returned (.bool true) ∧ Ext w w'))
    (RS : RowKit.Hid (∀ w, Calls Tryd.prog 11 #[.agg #[.int .i64 3, .int .i64 0, .string s]] w fun e w' => e = .returned (.string s) ∧ Ext w w'))
    (MB : RowKit.Hid (∀ w, Calls Tryd.prog 9 #[.agg #[.int .i64 k', .int .i64 i', .string s']] w fun e w' => e = .returned (.bool true) ∧ Ext w w'))
    (IS : RowKit.Hid (∀ w, Calls Tryd.prog 14 #[.agg #[.int .i64 0, .int .i64 0, .string ⟨#[]⟩], .int .i64 10, .agg #[.int .i64 0, .int .i64 0, .string ⟨#[]⟩], .int .i64 10] w fun e w' => e = .returned (.bool true) ∧ Ext w w')) :
    Calls Tryd.prog 3 #[.agg #[.int .i64 3, .int .i64 0, .string sa], .agg #[.int .i64 k', .int .i64 i', .string sb]] w fun e w' => e = .returned (.bool true) ∧ Ext w w' := by
  go_enter Tryd.func3, Tryd.ntmps3
  go_wp2_with fail
  refine wp_region_grow 3 170 [false, false, false] (by kernel_rfl) (by kernel_rfl) rfl ?_
  simp only [List.take_succ_cons, List.take_zero, List.drop_succ_cons, List.drop_zero]
  repeat (first
    | (refine Lex.step rfl ?_; intro K hK; unfold StepG; go_simp; refine hK _ ?_; clear hK K)
    | (refine Lex.step rfl ?_; intro K hK; unfold StepG; go_simp; refine ⟨_, fun d os => ret1 (FA.out _), ?_⟩; go_simp; refine hK _ ?_; clear hK K))
  refine Lex.nil fun W hE => ?_
  obtain ⟨d3, os3, rfl⟩ := hE
  unfold FillH
  go_wp2_with (go_at_call 4; (with_reducible refine (FB.out _).mono ?_); rintro e _ ⟨rfl, d, os, rfl⟩)
  rw [ends_normal]
  go_wp2_with (first
    | (go_at_call 5; (with_reducible refine (J.out _).mono ?_); rintro e _ ⟨rfl, d, os, rfl⟩)
    | (go_at_call 6; (with_reducible refine (L.out _).mono ?_); rintro e _ ⟨rfl, d, os, rfl⟩)
    | (go_at_call 7; (with_reducible refine (O.out _).mono ?_); rintro e _ ⟨rfl, d, os, rfl⟩)
    | (go_at_call 8; (with_reducible refine (S.out _).mono ?_); rintro e _ ⟨rfl, d, os, rfl⟩)
    | (go_at_call 9; (with_reducible refine (MA.out _).mono ?_); rintro e _ ⟨rfl, d, os, rfl⟩))
  refine wp_region_grow 9 170 [false, false, false, false, false, false, false, false, false] (by kernel_rfl) (by kernel_rfl) rfl ?_
  simp only [List.take_succ_cons, List.take_zero, List.drop_succ_cons, List.drop_zero]
  repeat (refine Lex.step rfl ?_; intro K hK; unfold StepG; go_simp; (first
      | refine hK _ ?_
      | (with_reducible refine ⟨_, fun d os => (ret1 (RS.out _)), ?_⟩; go_simp; refine hK _ ?_)); clear hK K)
  refine Lex.nil fun WW hE => ?_
  obtain ⟨dd, oo, rfl⟩ := hE
  unfold FillH
  go_wp2_with fail
  rw [ends_normal]
  go_wp2_with fail
  refine wp_region_grow 10 170 [false, false, false, false, false, false, false, false, false, false] (by kernel_rfl) (by kernel_rfl) rfl ?_
  simp only [List.take_succ_cons, List.take_zero, List.drop_succ_cons, List.drop_zero]
  repeat (refine Lex.step rfl ?_; intro K hK; unfold StepG; go_simp; (first
      | refine hK _ ?_
      | (with_reducible refine ⟨_, fun d os => (ret1 (rint_any _ _)), ?_⟩; go_simp; refine hK _ ?_)); clear hK K)
  refine Lex.nil fun WW hE => ?_
  obtain ⟨dd, oo, rfl⟩ := hE
  unfold FillH
  go_wp2_with fail
  rw [ends_normal]
  go_wp2_with (first
    | (go_at_call 9; (with_reducible refine (MB.out _).mono ?_); rintro e _ ⟨rfl, d, os, rfl⟩)
    | (go_at_call 14; (with_reducible refine (IS.out _).mono ?_); rintro e _ ⟨rfl, d, os, rfl⟩)
    | (go_at_call 10; refine (awake_any _).mono ?_; rintro e _ ⟨rfl, d, os, rfl⟩))
  go_ret
  exact ⟨rfl, by repeat (first | exact Ext.refl _ | apply Ext.alloc | apply Ext.more)⟩

set_option maxHeartbeats 4000000 in
set_option maxRecDepth 20000 in
theorem vt_text_b3  (sa s : ByteArray) (k' i' : Int) (sb s' : ByteArray) (hz : (9223372036854775807 < s.size + s'.size) = False) (hz2 : (64 : Int) < (s.size : Int) + (s'.size : Int)) (hs1 : (s.size : Int) ≤ 200) (hs2 : (s'.size : Int) ≤ 200) (w : World)
    (FA : RowKit.Hid (∀ w, Calls Tryd.prog 4 #[.agg #[.int .i64 3, .int .i64 0, .string sa]] w fun e w' => e = .returned (.agg #[.int .i64 3, .int .i64 0, .string s]) ∧ Ext w w'))
    (FB : RowKit.Hid (∀ w, Calls Tryd.prog 4 #[.agg #[.int .i64 3, .int .i64 i', .string sb]] w fun e w' => e = .returned (.agg #[.int .i64 3, .int .i64 i', .string s']) ∧ Ext w w'))
    (J : RowKit.Hid (∀ w, Calls Tryd.prog 5 #[.agg #[.int .i64 3, .int .i64 0, .string s], .agg #[.int .i64 3, .int .i64 i', .string s']] w fun e w' => e = .returned (.tuple #[.agg #[.int .i64 0, .int .i64 0, .string ⟨#[]⟩], .int .i64 5]) ∧ Ext w w'))
    (L : RowKit.Hid (∀ w, Calls Tryd.prog 6 #[.agg #[.int .i64 3, .int .i64 0, .string s]] w fun e w' => e = .returned (.tuple #[.agg #[.int .i64 2, .int .i64 (s.size : Int), .string ⟨#[]⟩], .int .i64 0]) ∧ Ext w w'))
    (O : RowKit.Hid (∀ w, Calls Tryd.prog 7 #[.agg #[.int .i64 3, .int .i64 0, .string s]] w fun e w' => e = .returned (.tuple #[.agg #[.int .i64 0, .int .i64 0, .string ⟨#[]⟩], .int .i64 10]) ∧ Ext w w'))
    (S : RowKit.Hid (∀ w, Calls Tryd.prog 8 #[.agg #[.int .i64 3, .int .i64 0, .string s]] w fun e w' => e = .returned (.tuple #[.agg #[.int .i64 3, .int .i64 0, .string s], .int .i64 0]) ∧ Ext w w'))
    (MA : RowKit.Hid (∀ w, Calls Tryd.prog 9 #[.agg #[.int .i64 3, .int .i64 0, .string s]] w fun e w' => e = .returned (.bool true) ∧ Ext w w'))
    (RS : RowKit.Hid (∀ w, Calls Tryd.prog 11 #[.agg #[.int .i64 3, .int .i64 0, .string s]] w fun e w' => e = .returned (.string s) ∧ Ext w w'))
    (MB : RowKit.Hid (∀ w, Calls Tryd.prog 9 #[.agg #[.int .i64 3, .int .i64 i', .string s']] w fun e w' => e = .returned (.bool true) ∧ Ext w w'))
    (IS : RowKit.Hid (∀ w, Calls Tryd.prog 14 #[.agg #[.int .i64 0, .int .i64 0, .string ⟨#[]⟩], .int .i64 5, .agg #[.int .i64 0, .int .i64 0, .string ⟨#[]⟩], .int .i64 5] w fun e w' => e = .returned (.bool true) ∧ Ext w w')) :
    Calls Tryd.prog 3 #[.agg #[.int .i64 3, .int .i64 0, .string sa], .agg #[.int .i64 3, .int .i64 i', .string sb]] w fun e w' => e = .returned (.bool true) ∧ Ext w w' := by
  go_enter Tryd.func3, Tryd.ntmps3
  go_wp2_with fail
  refine wp_region_grow 3 170 [false, false, false] (by kernel_rfl) (by kernel_rfl) rfl ?_
  simp only [List.take_succ_cons, List.take_zero, List.drop_succ_cons, List.drop_zero]
  repeat (first
    | (refine Lex.step rfl ?_; intro K hK; unfold StepG; go_simp; refine hK _ ?_; clear hK K)
    | (refine Lex.step rfl ?_; intro K hK; unfold StepG; go_simp; refine ⟨_, fun d os => ret1 (FA.out _), ?_⟩; go_simp; refine hK _ ?_; clear hK K))
  refine Lex.nil fun W hE => ?_
  obtain ⟨d3, os3, rfl⟩ := hE
  unfold FillH
  go_wp2_with (go_at_call 4; (with_reducible refine (FB.out _).mono ?_); rintro e _ ⟨rfl, d, os, rfl⟩)
  rw [ends_normal]
  go_wp2_with (first
    | (go_at_call 5; (with_reducible refine (J.out _).mono ?_); rintro e _ ⟨rfl, d, os, rfl⟩)
    | (go_at_call 6; (with_reducible refine (L.out _).mono ?_); rintro e _ ⟨rfl, d, os, rfl⟩)
    | (go_at_call 7; (with_reducible refine (O.out _).mono ?_); rintro e _ ⟨rfl, d, os, rfl⟩)
    | (go_at_call 8; (with_reducible refine (S.out _).mono ?_); rintro e _ ⟨rfl, d, os, rfl⟩)
    | (go_at_call 9; (with_reducible refine (MA.out _).mono ?_); rintro e _ ⟨rfl, d, os, rfl⟩))
  refine wp_region_grow 9 170 [false, false, false, false, false, false, false, false, false] (by kernel_rfl) (by kernel_rfl) rfl ?_
  simp only [List.take_succ_cons, List.take_zero, List.drop_succ_cons, List.drop_zero]
  repeat (refine Lex.step rfl ?_; intro K hK; unfold StepG; go_simp; (first
      | refine hK _ ?_
      | (with_reducible refine ⟨_, fun d os => (ret1 (RS.out _)), ?_⟩; go_simp; refine hK _ ?_)); clear hK K)
  refine Lex.nil fun WW hE => ?_
  obtain ⟨dd, oo, rfl⟩ := hE
  unfold FillH
  go_wp2_with fail
  rw [ends_normal]
  go_wp2_with fail
  refine wp_region_grow 10 170 [false, false, false, false, false, false, false, false, false, false] (by kernel_rfl) (by kernel_rfl) rfl ?_
  simp only [List.take_succ_cons, List.take_zero, List.drop_succ_cons, List.drop_zero]
  repeat (refine Lex.step rfl ?_; intro K hK; unfold StepG; go_simp; (first
      | refine hK _ ?_
      | (with_reducible refine ⟨_, fun d os => (ret1 (rint_any _ _)), ?_⟩; go_simp; refine hK _ ?_)); clear hK K)
  refine Lex.nil fun WW hE => ?_
  obtain ⟨dd, oo, rfl⟩ := hE
  unfold FillH
  go_wp2_with fail
  rw [ends_normal]
  go_wp2_with (first
    | (go_at_call 9; (with_reducible refine (MB.out _).mono ?_); rintro e _ ⟨rfl, d, os, rfl⟩)
    | (go_at_call 14; (with_reducible refine (IS.out _).mono ?_); rintro e _ ⟨rfl, d, os, rfl⟩)
    | (go_at_call 10; refine (awake_any _).mono ?_; rintro e _ ⟨rfl, d, os, rfl⟩))
  go_ret
  exact ⟨rfl, by repeat (first | exact Ext.refl _ | apply Ext.alloc | apply Ext.more)⟩

set_option maxHeartbeats 4000000 in
set_option maxRecDepth 20000 in
theorem vt_text_b4  (sa s : ByteArray) (k' i' : Int) (sb s' : ByteArray) (hz : (9223372036854775807 < s.size + s'.size) = False) (hz2 : (s.size : Int) + (s'.size : Int) ≤ 64) (w : World)
    (FA : RowKit.Hid (∀ w, Calls Tryd.prog 4 #[.agg #[.int .i64 3, .int .i64 0, .string sa]] w fun e w' => e = .returned (.agg #[.int .i64 3, .int .i64 0, .string s]) ∧ Ext w w'))
    (FB : RowKit.Hid (∀ w, Calls Tryd.prog 4 #[.agg #[.int .i64 3, .int .i64 i', .string sb]] w fun e w' => e = .returned (.agg #[.int .i64 3, .int .i64 i', .string s']) ∧ Ext w w'))
    (J : RowKit.Hid (∀ w, Calls Tryd.prog 5 #[.agg #[.int .i64 3, .int .i64 0, .string s], .agg #[.int .i64 3, .int .i64 i', .string s']] w fun e w' => e = .returned (.tuple #[.agg #[.int .i64 3, .int .i64 0, .string (s ++ s')], .int .i64 0]) ∧ Ext w w'))
    (L : RowKit.Hid (∀ w, Calls Tryd.prog 6 #[.agg #[.int .i64 3, .int .i64 0, .string s]] w fun e w' => e = .returned (.tuple #[.agg #[.int .i64 2, .int .i64 (s.size : Int), .string ⟨#[]⟩], .int .i64 0]) ∧ Ext w w'))
    (O : RowKit.Hid (∀ w, Calls Tryd.prog 7 #[.agg #[.int .i64 3, .int .i64 0, .string s]] w fun e w' => e = .returned (.tuple #[.agg #[.int .i64 0, .int .i64 0, .string ⟨#[]⟩], .int .i64 10]) ∧ Ext w w'))
    (S : RowKit.Hid (∀ w, Calls Tryd.prog 8 #[.agg #[.int .i64 3, .int .i64 0, .string s]] w fun e w' => e = .returned (.tuple #[.agg #[.int .i64 3, .int .i64 0, .string s], .int .i64 0]) ∧ Ext w w'))
    (MA : RowKit.Hid (∀ w, Calls Tryd.prog 9 #[.agg #[.int .i64 3, .int .i64 0, .string s]] w fun e w' => e = .returned (.bool true) ∧ Ext w w'))
    (RS : RowKit.Hid (∀ w, Calls Tryd.prog 11 #[.agg #[.int .i64 3, .int .i64 0, .string s]] w fun e w' => e = .returned (.string s) ∧ Ext w w'))
    (MB : RowKit.Hid (∀ w, Calls Tryd.prog 9 #[.agg #[.int .i64 3, .int .i64 i', .string s']] w fun e w' => e = .returned (.bool true) ∧ Ext w w'))
    (IS : RowKit.Hid (∀ w, Calls Tryd.prog 14 #[.agg #[.int .i64 3, .int .i64 0, .string (s ++ s')], .int .i64 0, .agg #[.int .i64 3, .int .i64 0, .string (s ++ s')], .int .i64 0] w fun e w' => e = .returned (.bool true) ∧ Ext w w')) :
    Calls Tryd.prog 3 #[.agg #[.int .i64 3, .int .i64 0, .string sa], .agg #[.int .i64 3, .int .i64 i', .string sb]] w fun e w' => e = .returned (.bool true) ∧ Ext w w' := by
  go_enter Tryd.func3, Tryd.ntmps3
  go_wp2_with fail
  refine wp_region_grow 3 170 [false, false, false] (by kernel_rfl) (by kernel_rfl) rfl ?_
  simp only [List.take_succ_cons, List.take_zero, List.drop_succ_cons, List.drop_zero]
  repeat (first
    | (refine Lex.step rfl ?_; intro K hK; unfold StepG; go_simp; refine hK _ ?_; clear hK K)
    | (refine Lex.step rfl ?_; intro K hK; unfold StepG; go_simp; refine ⟨_, fun d os => ret1 (FA.out _), ?_⟩; go_simp; refine hK _ ?_; clear hK K))
  refine Lex.nil fun W hE => ?_
  obtain ⟨d3, os3, rfl⟩ := hE
  unfold FillH
  go_wp2_with (go_at_call 4; (with_reducible refine (FB.out _).mono ?_); rintro e _ ⟨rfl, d, os, rfl⟩)
  rw [ends_normal]
  go_wp2_with (first
    | (go_at_call 5; (with_reducible refine (J.out _).mono ?_); rintro e _ ⟨rfl, d, os, rfl⟩)
    | (go_at_call 6; (with_reducible refine (L.out _).mono ?_); rintro e _ ⟨rfl, d, os, rfl⟩)
    | (go_at_call 7; (with_reducible refine (O.out _).mono ?_); rintro e _ ⟨rfl, d, os, rfl⟩)
    | (go_at_call 8; (with_reducible refine (S.out _).mono ?_); rintro e _ ⟨rfl, d, os, rfl⟩)
    | (go_at_call 9; (with_reducible refine (MA.out _).mono ?_); rintro e _ ⟨rfl, d, os, rfl⟩))
  refine wp_region_grow 9 170 [false, false, false, false, false, false, false, false, false] (by kernel_rfl) (by kernel_rfl) rfl ?_
  simp only [List.take_succ_cons, List.take_zero, List.drop_succ_cons, List.drop_zero]
  repeat (refine Lex.step rfl ?_; intro K hK; unfold StepG; go_simp; (first
      | refine hK _ ?_
      | (with_reducible refine ⟨_, fun d os => (ret1 (RS.out _)), ?_⟩; go_simp; refine hK _ ?_)); clear hK K)
  refine Lex.nil fun WW hE => ?_
  obtain ⟨dd, oo, rfl⟩ := hE
  unfold FillH
  go_wp2_with fail
  rw [ends_normal]
  go_wp2_with fail
  refine wp_region_grow 10 170 [false, false, false, false, false, false, false, false, false, false] (by kernel_rfl) (by kernel_rfl) rfl ?_
  simp only [List.take_succ_cons, List.take_zero, List.drop_succ_cons, List.drop_zero]
  repeat (refine Lex.step rfl ?_; intro K hK; unfold StepG; go_simp; (first
      | refine hK _ ?_
      | (with_reducible refine ⟨_, fun d os => (ret1 (rint_any _ _)), ?_⟩; go_simp; refine hK _ ?_)); clear hK K)
  refine Lex.nil fun WW hE => ?_
  obtain ⟨dd, oo, rfl⟩ := hE
  unfold FillH
  go_wp2_with fail
  rw [ends_normal]
  go_wp2_with (first
    | (go_at_call 9; (with_reducible refine (MB.out _).mono ?_); rintro e _ ⟨rfl, d, os, rfl⟩)
    | (go_at_call 14; (with_reducible refine (IS.out _).mono ?_); rintro e _ ⟨rfl, d, os, rfl⟩)
    | (go_at_call 10; refine (awake_any _).mono ?_; rintro e _ ⟨rfl, d, os, rfl⟩))
  go_ret
  exact ⟨rfl, by repeat (first | exact Ext.refl _ | apply Ext.alloc | apply Ext.more)⟩
end Go.Proofs.YtoaaklcbcbjaiaaDoor
