/-
  Proved here: 'Rows.ValueUndoSaid': for every two numbers m, n the law plenumlaw07.ValueUndo returns true.
  Conditions: none.
-/
import Derived.Test.YthekfgbiplmikaaVOrd
import Derived.Lib.SmallJoins
set_option linter.unusedSimpArgs false
set_option linter.unusedVariables false
namespace Go.Proofs.Ythekfgbiplmikaa
open Go.RowKit

theorem ret_of {P : Program} {f : FuncId} {args : Array Value} {v : Value} {w0 : World} (h : ∀ w, Calls P f args w fun e w' => e = .returned v ∧ Ext w w') :
    ∀ d os, Calls P f args (more w0 d os) (RetG (more w0 d os) fun x _ => x = v) := fun d os => (h _).mono fun e w' ⟨he, hx⟩ => ⟨v, he, hx, rfl⟩

theorem in64_of {n : Int} (h : (Lit.int .i64 n).wf = true) : In64 n := by
  unfold In64; simp only [Lit.wf, Bool.and_eq_true, decide_eq_true_eq] at h; exact h
theorem may_num (i : Int) : mayB 2 i ⟨#[]⟩ = true := by simp [mayB]; rfl
theorem op_ok {i i' : Int} {r : Int} (h : In64 r) : opF 2 i ⟨#[]⟩ 2 i' ⟨#[]⟩ (numR r) = (⟨2, r, ⟨#[]⟩⟩, 0) := by
  simp [opF, may_num, numR, h]
theorem op_over {i i' : Int} {r : Int} (h : ¬ In64 r) : opF 2 i ⟨#[]⟩ 2 i' ⟨#[]⟩ (numR r) = (⟨0, 0, ⟨#[]⟩⟩, 8) := by
  simp [opF, may_num, numR, h]
theorem op_sub {m n : Int} (hm : In64 m) : opF 2 (m + n) ⟨#[]⟩ 2 n ⟨#[]⟩ (numR (m + n - n)) = (⟨2, m, ⟨#[]⟩⟩, 0) := by
  have e : m + n - n = m := by omega
  rw [e]; exact op_ok hm
theorem op_div {m n : Int} (hm : In64 m) (hn : ¬ n = 0) (i i' : Int) : opF 2 i ⟨#[]⟩ 2 i' ⟨#[]⟩ (divR (m * n) n) = (⟨2, m, ⟨#[]⟩⟩, 0) := by
  have e : divR (m * n) n = numR m := by unfold divR; rw [if_neg hn, mul_back m n hn]
  rw [e]; exact op_ok hm
theorem op_mod {m n : Int} (hn : ¬ n = 0) (i i' : Int) : opF 2 i ⟨#[]⟩ 2 i' ⟨#[]⟩ (modR (m * n) n) = (⟨2, 0, ⟨#[]⟩⟩, 0) := by
  have e : modR (m * n) n = numR 0 := by unfold modR; rw [if_neg hn, Int.mul_tmod_left]; rfl
  rw [e]; exact op_ok (by decide)

set_option maxHeartbeats 4000000 in
set_option maxRecDepth 100000 in
theorem vundo_00 (m n x p : Int) (w : World) 
    (CAdd : RowKit.Hid (∀ w, Calls Try.prog 25 #[.agg #[.int .i64 2, .int .i64 m, .string ⟨#[]⟩], .agg #[.int .i64 2, .int .i64 n, .string ⟨#[]⟩]] w fun e w' => e = .returned (.tuple #[.agg #[.int .i64 0, .int .i64 0, .string ⟨#[]⟩], .int .i64 8]) ∧ Ext w w'))
    (CMul : RowKit.Hid (∀ w, Calls Try.prog 27 #[.agg #[.int .i64 2, .int .i64 m, .string ⟨#[]⟩], .agg #[.int .i64 2, .int .i64 n, .string ⟨#[]⟩]] w fun e w' => e = .returned (.tuple #[.agg #[.int .i64 0, .int .i64 0, .string ⟨#[]⟩], .int .i64 8]) ∧ Ext w w')) :
    Calls Try.prog 6 #[.int .i64 m, .int .i64 n] w fun e w' => e = .returned (.bool true) ∧ Ext w w' := by
  skip
  go_enter Try.func6, Try.ntmps6
  go_wp2_with (first
    | (go_at_call 14; refine (awake_any _).mono ?_; rintro e _ ⟨rfl, d, os, rfl⟩)
    | (go_at_call 20; refine (int_any _ _).mono ?_; rintro e _ ⟨rfl, d, os, rfl⟩)
    | (go_at_call 25; refine (CAdd.out _).mono ?_; rintro e _ ⟨rfl, d, os, rfl⟩)
    | (go_at_call 27; refine (CMul.out _).mono ?_; rintro e _ ⟨rfl, d, os, rfl⟩))
  go_ret
  exact ⟨rfl, by repeat (first | exact Ext.refl _ | apply Ext.alloc | apply Ext.more)⟩

set_option maxHeartbeats 4000000 in
set_option maxRecDepth 100000 in
theorem vundo_01 (m n x p : Int) (w : World) (hn : n = 0)
    (CAdd : RowKit.Hid (∀ w, Calls Try.prog 25 #[.agg #[.int .i64 2, .int .i64 m, .string ⟨#[]⟩], .agg #[.int .i64 2, .int .i64 n, .string ⟨#[]⟩]] w fun e w' => e = .returned (.tuple #[.agg #[.int .i64 0, .int .i64 0, .string ⟨#[]⟩], .int .i64 8]) ∧ Ext w w'))
    (CMul : RowKit.Hid (∀ w, Calls Try.prog 27 #[.agg #[.int .i64 2, .int .i64 m, .string ⟨#[]⟩], .agg #[.int .i64 2, .int .i64 n, .string ⟨#[]⟩]] w fun e w' => e = .returned (.tuple #[.agg #[.int .i64 2, .int .i64 p, .string ⟨#[]⟩], .int .i64 0]) ∧ Ext w w')) :
    Calls Try.prog 6 #[.int .i64 m, .int .i64 n] w fun e w' => e = .returned (.bool true) ∧ Ext w w' := by
  subst hn
  go_enter Try.func6, Try.ntmps6
  go_wp2_with (first
    | (go_at_call 14; refine (awake_any _).mono ?_; rintro e _ ⟨rfl, d, os, rfl⟩)
    | (go_at_call 20; refine (int_any _ _).mono ?_; rintro e _ ⟨rfl, d, os, rfl⟩)
    | (go_at_call 25; refine (CAdd.out _).mono ?_; rintro e _ ⟨rfl, d, os, rfl⟩)
    | (go_at_call 27; refine (CMul.out _).mono ?_; rintro e _ ⟨rfl, d, os, rfl⟩))
  go_ret
  exact ⟨rfl, by repeat (first | exact Ext.refl _ | apply Ext.alloc | apply Ext.more)⟩

set_option maxHeartbeats 4000000 in
set_option maxRecDepth 100000 in
theorem vundo_02 (m n x p : Int) (w : World) (hn : ¬ n = 0)
    (CAdd : RowKit.Hid (∀ w, Calls Try.prog 25 #[.agg #[.int .i64 2, .int .i64 m, .string ⟨#[]⟩], .agg #[.int .i64 2, .int .i64 n, .string ⟨#[]⟩]] w fun e w' => e = .returned (.tuple #[.agg #[.int .i64 0, .int .i64 0, .string ⟨#[]⟩], .int .i64 8]) ∧ Ext w w'))
    (CMul : RowKit.Hid (∀ w, Calls Try.prog 27 #[.agg #[.int .i64 2, .int .i64 m, .string ⟨#[]⟩], .agg #[.int .i64 2, .int .i64 n, .string ⟨#[]⟩]] w fun e w' => e = .returned (.tuple #[.agg #[.int .i64 2, .int .i64 p, .string ⟨#[]⟩], .int .i64 0]) ∧ Ext w w'))
    (CDiv : RowKit.Hid (∀ w, Calls Try.prog 28 #[.agg #[.int .i64 2, .int .i64 p, .string ⟨#[]⟩], .agg #[.int .i64 2, .int .i64 n, .string ⟨#[]⟩]] w fun e w' => e = .returned (.tuple #[.agg #[.int .i64 2, .int .i64 m, .string ⟨#[]⟩], .int .i64 0]) ∧ Ext w w'))
    (CMod : RowKit.Hid (∀ w, Calls Try.prog 29 #[.agg #[.int .i64 2, .int .i64 p, .string ⟨#[]⟩], .agg #[.int .i64 2, .int .i64 n, .string ⟨#[]⟩]] w fun e w' => e = .returned (.tuple #[.agg #[.int .i64 2, .int .i64 0, .string ⟨#[]⟩], .int .i64 0]) ∧ Ext w w')) :
    Calls Try.prog 6 #[.int .i64 m, .int .i64 n] w fun e w' => e = .returned (.bool true) ∧ Ext w w' := by
  skip
  go_enter Try.func6, Try.ntmps6
  go_wp2_with (first
    | (go_at_call 14; refine (awake_any _).mono ?_; rintro e _ ⟨rfl, d, os, rfl⟩)
    | (go_at_call 20; refine (int_any _ _).mono ?_; rintro e _ ⟨rfl, d, os, rfl⟩)
    | (go_at_call 25; refine (CAdd.out _).mono ?_; rintro e _ ⟨rfl, d, os, rfl⟩)
    | (go_at_call 27; refine (CMul.out _).mono ?_; rintro e _ ⟨rfl, d, os, rfl⟩)
    | (go_at_call 28; refine (CDiv.out _).mono ?_; rintro e _ ⟨rfl, d, os, rfl⟩)
    | (go_at_call 29; refine (CMod.out _).mono ?_; rintro e _ ⟨rfl, d, os, rfl⟩))
  refine wp_region_grow 10 82 (List.replicate 10 false) (by kernel_rfl) (by kernel_rfl) rfl ?_
  simp only [List.take_succ_cons, List.take_zero, List.drop_succ_cons, List.drop_zero, List.replicate_succ, List.replicate_zero]
  repeat (refine Lex.step rfl ?_; intro K hK; unfold StepG; go_simp; (first
    | refine hK _ ?_
    | (with_reducible refine ⟨_, ret_of (int_any _), ?_⟩; go_simp; refine hK _ ?_)); clear hK K)
  refine Lex.nil fun W hE => ?_
  obtain ⟨d3, os3, rfl⟩ := hE
  unfold FillH
  go_wp2_with fail
  rw [ends_normal]
  go_wp2_with (first
    | (go_at_call 14; refine (awake_any _).mono ?_; rintro e _ ⟨rfl, d, os, rfl⟩)
    | (go_at_call 20; refine (int_any _ _).mono ?_; rintro e _ ⟨rfl, d, os, rfl⟩)
    | (go_at_call 25; refine (CAdd.out _).mono ?_; rintro e _ ⟨rfl, d, os, rfl⟩)
    | (go_at_call 27; refine (CMul.out _).mono ?_; rintro e _ ⟨rfl, d, os, rfl⟩)
    | (go_at_call 28; refine (CDiv.out _).mono ?_; rintro e _ ⟨rfl, d, os, rfl⟩)
    | (go_at_call 29; refine (CMod.out _).mono ?_; rintro e _ ⟨rfl, d, os, rfl⟩))
  go_ret
  exact ⟨rfl, by repeat (first | exact Ext.refl _ | apply Ext.alloc | apply Ext.more)⟩

set_option maxHeartbeats 4000000 in
set_option maxRecDepth 100000 in
theorem vundo_10 (m n x p : Int) (w : World) 
    (CAdd : RowKit.Hid (∀ w, Calls Try.prog 25 #[.agg #[.int .i64 2, .int .i64 m, .string ⟨#[]⟩], .agg #[.int .i64 2, .int .i64 n, .string ⟨#[]⟩]] w fun e w' => e = .returned (.tuple #[.agg #[.int .i64 2, .int .i64 x, .string ⟨#[]⟩], .int .i64 0]) ∧ Ext w w'))
    (CSub : RowKit.Hid (∀ w, Calls Try.prog 26 #[.agg #[.int .i64 2, .int .i64 x, .string ⟨#[]⟩], .agg #[.int .i64 2, .int .i64 n, .string ⟨#[]⟩]] w fun e w' => e = .returned (.tuple #[.agg #[.int .i64 2, .int .i64 m, .string ⟨#[]⟩], .int .i64 0]) ∧ Ext w w'))
    (CMul : RowKit.Hid (∀ w, Calls Try.prog 27 #[.agg #[.int .i64 2, .int .i64 m, .string ⟨#[]⟩], .agg #[.int .i64 2, .int .i64 n, .string ⟨#[]⟩]] w fun e w' => e = .returned (.tuple #[.agg #[.int .i64 0, .int .i64 0, .string ⟨#[]⟩], .int .i64 8]) ∧ Ext w w')) :
    Calls Try.prog 6 #[.int .i64 m, .int .i64 n] w fun e w' => e = .returned (.bool true) ∧ Ext w w' := by
  skip
  go_enter Try.func6, Try.ntmps6
  go_wp2_with (first
    | (go_at_call 14; refine (awake_any _).mono ?_; rintro e _ ⟨rfl, d, os, rfl⟩)
    | (go_at_call 20; refine (int_any _ _).mono ?_; rintro e _ ⟨rfl, d, os, rfl⟩)
    | (go_at_call 25; refine (CAdd.out _).mono ?_; rintro e _ ⟨rfl, d, os, rfl⟩)
    | (go_at_call 26; refine (CSub.out _).mono ?_; rintro e _ ⟨rfl, d, os, rfl⟩)
    | (go_at_call 27; refine (CMul.out _).mono ?_; rintro e _ ⟨rfl, d, os, rfl⟩))
  go_ret
  exact ⟨rfl, by repeat (first | exact Ext.refl _ | apply Ext.alloc | apply Ext.more)⟩

set_option maxHeartbeats 4000000 in
set_option maxRecDepth 100000 in
theorem vundo_11 (m n x p : Int) (w : World) (hn : n = 0)
    (CAdd : RowKit.Hid (∀ w, Calls Try.prog 25 #[.agg #[.int .i64 2, .int .i64 m, .string ⟨#[]⟩], .agg #[.int .i64 2, .int .i64 n, .string ⟨#[]⟩]] w fun e w' => e = .returned (.tuple #[.agg #[.int .i64 2, .int .i64 x, .string ⟨#[]⟩], .int .i64 0]) ∧ Ext w w'))
    (CSub : RowKit.Hid (∀ w, Calls Try.prog 26 #[.agg #[.int .i64 2, .int .i64 x, .string ⟨#[]⟩], .agg #[.int .i64 2, .int .i64 n, .string ⟨#[]⟩]] w fun e w' => e = .returned (.tuple #[.agg #[.int .i64 2, .int .i64 m, .string ⟨#[]⟩], .int .i64 0]) ∧ Ext w w'))
    (CMul : RowKit.Hid (∀ w, Calls Try.prog 27 #[.agg #[.int .i64 2, .int .i64 m, .string ⟨#[]⟩], .agg #[.int .i64 2, .int .i64 n, .string ⟨#[]⟩]] w fun e w' => e = .returned (.tuple #[.agg #[.int .i64 2, .int .i64 p, .string ⟨#[]⟩], .int .i64 0]) ∧ Ext w w')) :
    Calls Try.prog 6 #[.int .i64 m, .int .i64 n] w fun e w' => e = .returned (.bool true) ∧ Ext w w' := by
  subst hn
  go_enter Try.func6, Try.ntmps6
  go_wp2_with (first
    | (go_at_call 14; refine (awake_any _).mono ?_; rintro e _ ⟨rfl, d, os, rfl⟩)
    | (go_at_call 20; refine (int_any _ _).mono ?_; rintro e _ ⟨rfl, d, os, rfl⟩)
    | (go_at_call 25; refine (CAdd.out _).mono ?_; rintro e _ ⟨rfl, d, os, rfl⟩)
    | (go_at_call 26; refine (CSub.out _).mono ?_; rintro e _ ⟨rfl, d, os, rfl⟩)
    | (go_at_call 27; refine (CMul.out _).mono ?_; rintro e _ ⟨rfl, d, os, rfl⟩))
  go_ret
  exact ⟨rfl, by repeat (first | exact Ext.refl _ | apply Ext.alloc | apply Ext.more)⟩

set_option maxHeartbeats 4000000 in
set_option maxRecDepth 100000 in
theorem vundo_12 (m n x p : Int) (w : World) (hn : ¬ n = 0)
    (CAdd : RowKit.Hid (∀ w, Calls Try.prog 25 #[.agg #[.int .i64 2, .int .i64 m, .string ⟨#[]⟩], .agg #[.int .i64 2, .int .i64 n, .string ⟨#[]⟩]] w fun e w' => e = .returned (.tuple #[.agg #[.int .i64 2, .int .i64 x, .string ⟨#[]⟩], .int .i64 0]) ∧ Ext w w'))
    (CSub : RowKit.Hid (∀ w, Calls Try.prog 26 #[.agg #[.int .i64 2, .int .i64 x, .string ⟨#[]⟩], .agg #[.int .i64 2, .int .i64 n, .string ⟨#[]⟩]] w fun e w' => e = .returned (.tuple #[.agg #[.int .i64 2, .int .i64 m, .string ⟨#[]⟩], .int .i64 0]) ∧ Ext w w'))
    (CMul : RowKit.Hid (∀ w, Calls Try.prog 27 #[.agg #[.int .i64 2, .int .i64 m, .string ⟨#[]⟩], .agg #[.int .i64 2, .int .i64 n, .string ⟨#[]⟩]] w fun e w' => e = .returned (.tuple #[.agg #[.int .i64 2, .int .i64 p, .string ⟨#[]⟩], .int .i64 0]) ∧ Ext w w'))
    (CDiv : RowKit.Hid (∀ w, Calls Try.prog 28 #[.agg #[.int .i64 2, .int .i64 p, .string ⟨#[]⟩], .agg #[.int .i64 2, .int .i64 n, .string ⟨#[]⟩]] w fun e w' => e = .returned (.tuple #[.agg #[.int .i64 2, .int .i64 m, .string ⟨#[]⟩], .int .i64 0]) ∧ Ext w w'))
    (CMod : RowKit.Hid (∀ w, Calls Try.prog 29 #[.agg #[.int .i64 2, .int .i64 p, .string ⟨#[]⟩], .agg #[.int .i64 2, .int .i64 n, .string ⟨#[]⟩]] w fun e w' => e = .returned (.tuple #[.agg #[.int .i64 2, .int .i64 0, .string ⟨#[]⟩], .int .i64 0]) ∧ Ext w w')) :
    Calls Try.prog 6 #[.int .i64 m, .int .i64 n] w fun e w' => e = .returned (.bool true) ∧ Ext w w' := by
  skip
  go_enter Try.func6, Try.ntmps6
  go_wp2_with (first
    | (go_at_call 14; refine (awake_any _).mono ?_; rintro e _ ⟨rfl, d, os, rfl⟩)
    | (go_at_call 20; refine (int_any _ _).mono ?_; rintro e _ ⟨rfl, d, os, rfl⟩)
    | (go_at_call 25; refine (CAdd.out _).mono ?_; rintro e _ ⟨rfl, d, os, rfl⟩)
    | (go_at_call 26; refine (CSub.out _).mono ?_; rintro e _ ⟨rfl, d, os, rfl⟩)
    | (go_at_call 27; refine (CMul.out _).mono ?_; rintro e _ ⟨rfl, d, os, rfl⟩)
    | (go_at_call 28; refine (CDiv.out _).mono ?_; rintro e _ ⟨rfl, d, os, rfl⟩)
    | (go_at_call 29; refine (CMod.out _).mono ?_; rintro e _ ⟨rfl, d, os, rfl⟩))
  refine wp_region_grow 10 82 (List.replicate 10 false) (by kernel_rfl) (by kernel_rfl) rfl ?_
  simp only [List.take_succ_cons, List.take_zero, List.drop_succ_cons, List.drop_zero, List.replicate_succ, List.replicate_zero]
  repeat (refine Lex.step rfl ?_; intro K hK; unfold StepG; go_simp; (first
    | refine hK _ ?_
    | (with_reducible refine ⟨_, ret_of (int_any _), ?_⟩; go_simp; refine hK _ ?_)); clear hK K)
  refine Lex.nil fun W hE => ?_
  obtain ⟨d3, os3, rfl⟩ := hE
  unfold FillH
  go_wp2_with fail
  rw [ends_normal]
  go_wp2_with (first
    | (go_at_call 14; refine (awake_any _).mono ?_; rintro e _ ⟨rfl, d, os, rfl⟩)
    | (go_at_call 20; refine (int_any _ _).mono ?_; rintro e _ ⟨rfl, d, os, rfl⟩)
    | (go_at_call 25; refine (CAdd.out _).mono ?_; rintro e _ ⟨rfl, d, os, rfl⟩)
    | (go_at_call 26; refine (CSub.out _).mono ?_; rintro e _ ⟨rfl, d, os, rfl⟩)
    | (go_at_call 27; refine (CMul.out _).mono ?_; rintro e _ ⟨rfl, d, os, rfl⟩)
    | (go_at_call 28; refine (CDiv.out _).mono ?_; rintro e _ ⟨rfl, d, os, rfl⟩)
    | (go_at_call 29; refine (CMod.out _).mono ?_; rintro e _ ⟨rfl, d, os, rfl⟩))
  go_ret
  exact ⟨rfl, by repeat (first | exact Ext.refl _ | apply Ext.alloc | apply Ext.more)⟩

theorem vundo_walk (m n : Int) (hm : In64 m) (hn : In64 n) (w : World) :
    Calls Try.prog 6 #[.int .i64 m, .int .i64 n] w fun e w' => e = .returned (.bool true) ∧ Ext w w' := by
  by_cases ha : In64 (m + n)
  · have ca := fun w => add_any 2 m ⟨#[]⟩ 2 n ⟨#[]⟩ hm hn _ _ (op_ok ha) w
    have cs := fun w => sub_any 2 (m + n) ⟨#[]⟩ 2 n ⟨#[]⟩ ha hn _ _ (op_sub hm) w
    by_cases hp : In64 (m * n)
    · have cm := fun w => mul_any 2 m ⟨#[]⟩ 2 n ⟨#[]⟩ hm hn _ _ (op_ok hp) w
      by_cases h0 : n = 0
      · exact vundo_11 m n (m + n) (m * n) w h0 (Lib.hid ca) (Lib.hid cs) (Lib.hid cm)
      · have cd := fun w => div_any 2 (m * n) ⟨#[]⟩ 2 n ⟨#[]⟩ hp hn _ _ (op_div hm h0 _ _) w
        have cr := fun w => mod_any 2 (m * n) ⟨#[]⟩ 2 n ⟨#[]⟩ hp hn _ _ (op_mod h0 _ _) w
        exact vundo_12 m n (m + n) (m * n) w h0 (Lib.hid ca) (Lib.hid cs) (Lib.hid cm) (Lib.hid cd) (Lib.hid cr)
    · have cm := fun w => mul_any 2 m ⟨#[]⟩ 2 n ⟨#[]⟩ hm hn _ _ (op_over hp) w
      exact vundo_10 m n (m + n) 0 w (Lib.hid ca) (Lib.hid cs) (Lib.hid cm)
  · have ca := fun w => add_any 2 m ⟨#[]⟩ 2 n ⟨#[]⟩ hm hn _ _ (op_over ha) w
    by_cases hp : In64 (m * n)
    · have cm := fun w => mul_any 2 m ⟨#[]⟩ 2 n ⟨#[]⟩ hm hn _ _ (op_ok hp) w
      by_cases h0 : n = 0
      · exact vundo_01 m n 0 (m * n) w h0 (Lib.hid ca) (Lib.hid cm)
      · have cd := fun w => div_any 2 (m * n) ⟨#[]⟩ 2 n ⟨#[]⟩ hp hn _ _ (op_div hm h0 _ _) w
        have cr := fun w => mod_any 2 (m * n) ⟨#[]⟩ 2 n ⟨#[]⟩ hp hn _ _ (op_mod h0 _ _) w
        exact vundo_02 m n 0 (m * n) w h0 (Lib.hid ca) (Lib.hid cm) (Lib.hid cd) (Lib.hid cr)
    · have cm := fun w => mul_any 2 m ⟨#[]⟩ 2 n ⟨#[]⟩ hm hn _ _ (op_over hp) w
      exact vundo_00 m n 0 0 w (Lib.hid ca) (Lib.hid cm)

namespace ValueUndoRow
/-! ### The row -/
section
open Go.ChangeShapes Go.WideShapes Go.ChangeAt Go.RowKit Go.Joins
open Go.ChangeMaps (open_string shut_string)
theorem own : ownKnob Try.prog.godebug = none := by kernel_rfl

set_option maxRecDepth 100000 in
theorem lifted (os : Os) (started : os.Started) (H : Type) (enc : TypeId × Value → H) :
    ReturnsInHanded {} Try.checked os 6 .any (Rows.valueUndoSpec.pre6 enc Try.prog Try.f6 Rows.valueUndoRow.domain false) (Rows.valueUndoSpec.post enc Try.prog Try.f6 false true false false) := by
  refine returnsInHanded_of_change (C := Try.checked) own started (by kernel_rfl) Try.func6
    (ChangeSpec.witness6 (enc := enc) (C := Try.checked) false ⟨#[], #[.int .i64 0, .int .i64 0], []⟩ 8 (by kernel_rfl) (by kernel_rfl) (by kernel_rfl) (by kernel_rfl)) ?_
  intro W base args ds gs before hval0 hW hcnd _
  have hval : ∀ (j : Nat) t v, Try.f6.params[j]? = some t → args[j]? = some v → Value.okWide Try.prog W .any base t v := hval0
  have hW' := hW
  obtain ⟨p, q, hA0, hV, rfl, hfz, hnd⟩ := hW
  have hA : DataW.TrodAll enc Try.prog W 0 (fun _ => true) true Try.f6.params.toList args.toList ds p := hA0
  rw [Try.params6] at hA hval
  obtain ⟨v0, vs0, d0, ds0, p0, q0, hargs, rfl, rfl, h0, r0⟩ := trodAll_cons hA
  obtain ⟨v1, vs1, d1, ds1, p1, q1, rfl, rfl, rfl, h1, r1⟩ := trodAll_cons r0
  obtain ⟨rfl, rfl, rfl⟩ := trodAll_nil r1
  obtain rfl : args = #[v0, v1] := by cases args; simp_all
  obtain ⟨rfl, rfl⟩ := trodVars_none hV
  obtain ⟨m, rfl, rfl, rfl, wm⟩ := open_int Try.underlying2 (hval 0 2 v0 rfl rfl) h0
  obtain ⟨n, rfl, rfl, rfl, wn⟩ := open_int Try.underlying2 (hval 1 2 v1 rfl rfl) h1
  clear hA0 hval0
  simp only [List.append_nil] at hW'
  refine (vundo_walk m n (in64_of wm) (in64_of wn) W).mono fun e W' ⟨he, hx⟩ => ?_
  subst he
  exact ⟨_, rfl, _, _, _, [], [], [], hW', trodAll_mk1 (shut_bool Try.underlying4 _), (trodAll_cons_mk (shut_int Try.underlying2 wm) (trodAll_cons_mk (shut_int Try.underlying2 wn) trodAll_mk0)), rfl, hx.below.frame _, fun h => by cases h⟩

theorem proved : Rows.ValueUndoSaid :=
  OpenClaim.holds_of_wide 6 Try.f6 rfl rfl rfl rfl rfl rfl rfl ⟨rfl, rfl, rfl, rfl, rfl⟩ rfl rfl rfl rfl rfl (by kernel_rfl) Try.func6 (by kernel_rfl)
    (of_decide_eq_true (by kernel_rfl)) (by unfold Func.isWrapper; first | (rw [if_pos (by decide +kernel)]; kernel_rfl) | (rw [if_neg (by decide +kernel)]; exact ⟨rfl, rfl⟩))
    (fun os started H enc _ => lifted os started H enc)
end
#print axioms proved
end ValueUndoRow
end Go.Proofs.Ythekfgbiplmikaa
