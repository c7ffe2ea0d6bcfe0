/- The chapter's examples: the law's 'awake' returns true. -/
import Derived.Test.YtoaaklcbcbjaiaaDoorVal2
import Derived.Test.YtoaaklcbcbjaiaaDoorEnc1
import Derived.Test.YtoaaklcbcbjaiaaDoorGrow
set_option linter.unusedSimpArgs false
set_option linter.unusedVariables false
namespace Go.Proofs.YtoaaklcbcbjaiaaDoor
open Go.RowKit

theorem aw_add1 (w : World) : Calls Tryd.prog 22 #[.agg #[.int .i64 2, .int .i64 2, .string ⟨#[]⟩], .agg #[.int .i64 2, .int .i64 3, .string ⟨#[]⟩]] w fun e w' => e = .returned (.tuple #[.agg #[.int .i64 2, .int .i64 5, .string ⟨#[]⟩], .int .i64 0]) ∧ Ext w w' :=
  add_any 2 2 ⟨#[]⟩ 2 3 ⟨#[]⟩ (by decide) (by decide) ⟨2, 5, ⟨#[]⟩⟩ 0 rfl w

theorem aw_add2 (w : World) : Calls Tryd.prog 22 #[.agg #[.int .i64 2, .int .i64 2, .string ⟨#[]⟩], .agg #[.int .i64 3, .int .i64 0, .string ⟨#[97]⟩]] w fun e w' => e = .returned (.tuple #[.agg #[.int .i64 0, .int .i64 0, .string ⟨#[]⟩], .int .i64 10]) ∧ Ext w w' :=
  add_any 2 2 ⟨#[]⟩ 3 0 ⟨#[97]⟩ (by decide) (by decide) ⟨0, 0, ⟨#[]⟩⟩ 10 rfl w

theorem aw_div (w : World) : Calls Tryd.prog 23 #[.agg #[.int .i64 2, .int .i64 (-7), .string ⟨#[]⟩], .agg #[.int .i64 2, .int .i64 2, .string ⟨#[]⟩]] w fun e w' => e = .returned (.tuple #[.agg #[.int .i64 2, .int .i64 (-3), .string ⟨#[]⟩], .int .i64 0]) ∧ Ext w w' :=
  div_any 2 (-7) ⟨#[]⟩ 2 2 ⟨#[]⟩ (by decide) (by decide) ⟨2, -3, ⟨#[]⟩⟩ 0 rfl w

theorem aw_mod (w : World) : Calls Tryd.prog 24 #[.agg #[.int .i64 2, .int .i64 (-7), .string ⟨#[]⟩], .agg #[.int .i64 2, .int .i64 2, .string ⟨#[]⟩]] w fun e w' => e = .returned (.tuple #[.agg #[.int .i64 2, .int .i64 (-1), .string ⟨#[]⟩], .int .i64 0]) ∧ Ext w w' :=
  mod_any 2 (-7) ⟨#[]⟩ 2 2 ⟨#[]⟩ (by decide) (by decide) ⟨2, -1, ⟨#[]⟩⟩ 0 rfl w

theorem aw_cmp0 (w : World) : Calls Tryd.prog 25 #[.int .i64 0, .agg #[.int .i64 0, .int .i64 0, .string ⟨#[]⟩], .agg #[.int .i64 2, .int .i64 0, .string ⟨#[]⟩]] w fun e w' => e = .returned (.tuple #[.agg #[.int .i64 1, .int .i64 0, .string ⟨#[]⟩], .int .i64 0]) ∧ Ext w w' :=
  cmp_any 0 0 0 ⟨#[]⟩ 2 0 ⟨#[]⟩ ⟨1, 0, ⟨#[]⟩⟩ 0 (by simp [cmpF, orderZ, wrap64, cmpIs, boolI, mayB]; decide) w

theorem aw_cmp2 (w : World) : Calls Tryd.prog 25 #[.int .i64 2, .agg #[.int .i64 0, .int .i64 0, .string ⟨#[]⟩], .agg #[.int .i64 2, .int .i64 0, .string ⟨#[]⟩]] w fun e w' => e = .returned (.tuple #[.agg #[.int .i64 0, .int .i64 0, .string ⟨#[]⟩], .int .i64 10]) ∧ Ext w w' :=
  cmp_any 2 0 0 ⟨#[]⟩ 2 0 ⟨#[]⟩ ⟨0, 0, ⟨#[]⟩⟩ 10 rfl w

theorem aw_enc1 (w : World) : Calls Tryd.prog 27 #[.agg #[.int .i64 2, .int .i64 (-1), .string ⟨#[]⟩]] w fun e w' => ∃ g cap, e = .returned (.slice (some ⟨g, 0, none⟩) 2 cap) ∧ (convert 42 9 (.slice (some ⟨g, 0, none⟩) 2 cap)).run Tryd.prog w' = .ok (.string ⟨#[2, 1]⟩) w' ∧ Ext w w' := by
  have h := enc_any 2 (-1) ⟨#[]⟩ (by decide) (by omega) (by omega) w
  have e : encB 2 (-1) ⟨#[]⟩ = [2, 1] := by
    have : putB (zigZ (-1)).toNat = [1] := by
      have : (zigZ (-1)).toNat = 1 := by decide
      rw [this, putB]; rfl
    simp [encB, this]
  rw [e] at h
  exact h.mono fun e w' ⟨g, cap, he, ho, hx⟩ => ⟨g, cap, he, conv_own Tryd.underlying42 Tryd.underlying5 Tryd.underlying9 ho, hx⟩

theorem aw_enc2 (w : World) : Calls Tryd.prog 27 #[.agg #[.int .i64 1, .int .i64 1, .string ⟨#[]⟩]] w fun e w' => ∃ g cap, e = .returned (.slice (some ⟨g, 0, none⟩) 2 cap) ∧ (convert 42 9 (.slice (some ⟨g, 0, none⟩) 2 cap)).run Tryd.prog w' = .ok (.string ⟨#[1, 1]⟩) w' ∧ Ext w w' := by
  have h := enc_any 1 1 ⟨#[]⟩ (by decide) (by omega) (by omega) w
  have e : encB 1 1 ⟨#[]⟩ = [1, 1] := by simp [encB]
  rw [e] at h
  exact h.mono fun e w' ⟨g, cap, he, ho, hx⟩ => ⟨g, cap, he, conv_own Tryd.underlying42 Tryd.underlying5 Tryd.underlying9 ho, hx⟩

theorem aw_enc3 (w : World) : Calls Tryd.prog 27 #[.agg #[.int .i64 3, .int .i64 0, .string ⟨#[97, 98]⟩]] w fun e w' => ∃ g cap, e = .returned (.slice (some ⟨g, 0, none⟩) 4 cap) ∧ (convert 42 9 (.slice (some ⟨g, 0, none⟩) 4 cap)).run Tryd.prog w' = .ok (.string ⟨#[3, 2, 97, 98]⟩) w' ∧ Ext w w' := by
  have h := enc_any 3 0 ⟨#[97, 98]⟩ (by decide) (by omega) (by omega) w
  have e : encB 3 0 ⟨#[97, 98]⟩ = [3, 2, 97, 98] := by
    have : putB (⟨#[97, 98]⟩ : ByteArray).size = [2] := by
      have : (⟨#[97, 98]⟩ : ByteArray).size = 2 := rfl
      rw [this, putB]; rfl
    simp [encB, this]
  rw [e] at h
  exact h.mono fun e w' ⟨g, cap, he, ho, hx⟩ => ⟨g, cap, he, conv_own Tryd.underlying42 Tryd.underlying5 Tryd.underlying9 ho, hx⟩

set_option maxHeartbeats 1000000 in
set_option maxRecDepth 100000 in
theorem awake_any (w : World) : Calls Tryd.prog 10 #[] w fun e w' => e = .returned (.bool true) ∧ Ext w w' := by
  have t1 : ((⟨#[97]⟩ : ByteArray).size : Int) ≤ 64 := by decide
  have t2 : ((⟨#[97, 98]⟩ : ByteArray).size : Int) ≤ 64 := by decide
  go_enter Tryd.func10, Tryd.ntmps10
  go_wp2_with (go_at_call 18; refine (int_any _ _).mono ?_; rintro e _ ⟨rfl, d, os, rfl⟩)
  refine (aw_add1 _).mono ?_; rintro e _ ⟨rfl, d, os, rfl⟩
  go_wp2_with (first
    | (go_at_call 18; refine (int_any _ _).mono ?_; rintro e _ ⟨rfl, d, os, rfl⟩)
    | (go_at_call 16; refine (text_ok _ t1 _).mono ?_; rintro e _ ⟨rfl, d, os, rfl⟩))
  refine wp_region_grow 7 113 [false, false, false, false, false, true, false] (by kernel_rfl) (by kernel_rfl) rfl ?_
  simp only [List.take_succ_cons, List.take_zero, List.drop_succ_cons, List.drop_zero]
  repeat (first
    | (refine Lex.step rfl ?_; intro K hK; unfold StepG; go_simp; refine hK _ ?_; clear hK K)
    | (refine Lex.step rfl ?_; intro K hK; unfold StepG; go_simp; refine ⟨_, fun d os => (int_any _ _).mono fun e w' ⟨he, hx⟩ => ⟨_, he, hx, rfl⟩, ?_⟩; go_simp; refine hK _ ?_; clear hK K)
    | (refine Lex.step rfl ?_; intro K hK; unfold StepG; go_simp; refine ⟨_, fun d os => (aw_add2 _).mono fun e w' ⟨he, hx⟩ => ⟨_, he, hx, rfl⟩, ?_⟩; go_simp; refine hK _ ?_; clear hK K)
    | (refine Lex.stepP rfl rfl ?_; intro K hK; go_simp; refine hK _ ?_; clear hK K))
  refine Lex.alloc 5 (.cells #[.int .i64 0, .int .i64 0, .string ⟨#[]⟩] 23) rfl rfl (fun d os => ?_) ?_
  · unfold StepG
    go_simp
    exact ⟨(Ext.refl _).alloc _, NewBlk.of_alloc _ _ _ _ _ (by simp [more_size])⟩
  refine Lex.nil fun W hE => ?_
  intro u hu
  obtain ⟨d1, os1, d2, os2, rfl, rfl⟩ := hu.split hE
  clear hu hE
  go_simp
  unfold FillH
  go_wp2_with fail
  rw [ends_normal]
  go_wp2_with (first
    | (go_at_call 18; refine (int_any _ _).mono ?_; rintro e _ ⟨rfl, d, os, rfl⟩)
    | (go_at_call 26; refine (nil_any _).mono ?_; rintro e _ ⟨rfl, d, os, rfl⟩)
    | (go_at_call 23; refine (aw_div _).mono ?_; rintro e _ ⟨rfl, d, os, rfl⟩)
    | (go_at_call 24; refine (aw_mod _).mono ?_; rintro e _ ⟨rfl, d, os, rfl⟩))
  refine (aw_cmp0 _).mono ?_; rintro e _ ⟨rfl, d, os, rfl⟩
  go_wp2_with (first
    | (go_at_call 18; refine (int_any _ _).mono ?_; rintro e _ ⟨rfl, d, os, rfl⟩)
    | (go_at_call 26; refine (nil_any _).mono ?_; rintro e _ ⟨rfl, d, os, rfl⟩))
  refine (aw_cmp2 _).mono ?_; rintro e _ ⟨rfl, d, os, rfl⟩
  go_wp2_with (go_at_call 16; refine (text_ok _ t2 _).mono ?_; rintro e _ ⟨rfl, d, os, rfl⟩)
  refine wp_region_grow 24 113 (List.replicate 24 false) (by kernel_rfl) (by kernel_rfl) rfl ?_
  simp only [List.take_succ_cons, List.take_zero, List.drop_succ_cons, List.drop_zero, List.replicate_succ, List.replicate_zero]
  repeat (first
    | (refine Lex.step rfl ?_; intro K hK; unfold StepG; go_simp; refine hK _ ?_; clear hK K)
    | (refine Lex.step rfl ?_; intro K hK; unfold StepG; go_simp; refine ⟨_, fun d os => (rint_any _ _).mono fun e w' ⟨he, hx⟩ => ⟨_, he, hx, rfl⟩, ?_⟩; go_simp; refine hK _ ?_; clear hK K)
    | (refine Lex.step rfl ?_; intro K hK; unfold StepG; go_simp; refine ⟨_, fun d os => (rbool_false _).mono fun e w' ⟨he, hx⟩ => ⟨_, he, hx, rfl⟩, ?_⟩; go_simp; refine hK _ ?_; clear hK K))
  refine Lex.nil fun W hE => ?_
  obtain ⟨d3, os3, rfl⟩ := hE
  unfold FillH
  go_wp2_with (first
    | (go_at_call 18; refine (int_any _ _).mono ?_; rintro e _ ⟨rfl, d, os, rfl⟩)
    | (go_at_call 19; refine (bool_true _).mono ?_; rintro e _ ⟨rfl, d, os, rfl⟩))
  refine (aw_enc1 _).mono ?_; rintro e _ ⟨g, cap, rfl, hcv, d, os, rfl⟩
  go_wp2_with (first
    | (go_at_call 18; refine (int_any _ _).mono ?_; rintro e _ ⟨rfl, d, os, rfl⟩)
    | (go_at_call 19; refine (bool_true _).mono ?_; rintro e _ ⟨rfl, d, os, rfl⟩))
  clear hcv
  refine (aw_enc2 _).mono ?_; rintro e _ ⟨g2, cap2, rfl, hcv2, d, os, rfl⟩
  go_wp2_with (first
    | (go_at_call 18; refine (int_any _ _).mono ?_; rintro e _ ⟨rfl, d, os, rfl⟩)
    | (go_at_call 19; refine (bool_true _).mono ?_; rintro e _ ⟨rfl, d, os, rfl⟩))
  clear hcv2
  refine (aw_enc3 _).mono ?_; rintro e _ ⟨g3, cap3, rfl, hcv3, d, os, rfl⟩
  go_wp2_with fail
  clear hcv3
  rw [ends_normal]
  go_wp2_with fail
  go_ret
  exact ⟨rfl, by repeat (first | exact Ext.refl _ | apply Ext.alloc | apply Ext.more)⟩
end Go.Proofs.YtoaaklcbcbjaiaaDoor
