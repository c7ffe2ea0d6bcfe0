/-
  Proved here: 'Rows.ValueReckonsSaid': for every two values a, b the law plenumlaw07.ValueReckons returns true.
  Conditions: none.
-/
import Derived.Test.YthekfgbiplmikaaRef3
import Derived.Test.YthekfgbiplmikaaVal3
import Derived.Lib.SmallJoins
set_option linter.unusedSimpArgs false
set_option linter.unusedVariables false
namespace Go.Proofs.Ythekfgbiplmikaa
open Go.RowKit

theorem in64_of {n : Int} (h : (Lit.int .i64 n).wf = true) : In64 n := by
  unfold In64; simp only [Lit.wf, Bool.and_eq_true, decide_eq_true_eq] at h; exact h
theorem eqV_refl (v : Val) : eqV v.k v.i v.s v.k v.i v.s = true := by simp [eqV]
theorem is_same (v : Val) (n : Int) (w : World) :
    Calls Try.prog 13 #[.agg #[.int .i64 v.k, .int .i64 v.i, .string v.s], .int .i64 n, .agg #[.int .i64 v.k, .int .i64 v.i, .string v.s], .int .i64 n] w fun r w' => r = .returned (.bool true) ∧ Ext w w' := by
  have c3 := is_any v.k v.i v.s n v.k v.i v.s n w
  rw [eqV_refl] at c3
  simp only [BEq.rfl, Bool.and_self] at c3
  exact c3

set_option maxHeartbeats 1000000 in
theorem minus_any (k i : Int) (s : ByteArray) (hi : In64 i) (v : Val) (n : Int) (h : opF 2 0 ⟨#[]⟩ k i s (numR (0 - i)) = (v, n)) (w : World) :
    Calls Try.prog 31 #[.agg #[.int .i64 k, .int .i64 i, .string s]] w fun e w' => e = .returned (.tuple #[.agg #[.int .i64 v.k, .int .i64 v.i, .string v.s], .int .i64 n]) ∧ Ext w w' := by
  have c := fun w => sub_any 2 0 ⟨#[]⟩ k i s (by decide) hi v n h w
  have C := Lib.hid c
  clear c h
  go_enter Try.func31, Try.ntmps31
  go_wp2_with fail
  refine wp_region_grow 5 9 (List.replicate 5 false) (by kernel_rfl) (by kernel_rfl) rfl ?_
  simp only [List.take_succ_cons, List.take_zero, List.drop_succ_cons, List.drop_zero, List.replicate_succ, List.replicate_zero]
  repeat (refine Lex.step rfl ?_; intro K hK; unfold StepG; go_simp; (first
    | refine hK _ ?_
    | (with_reducible refine ⟨_, ret_of (int_any _), ?_⟩; go_simp; refine hK _ ?_)
    | (with_reducible refine ⟨_, ret_of (C.out), ?_⟩; go_simp; refine hK _ ?_)); clear hK K)
  refine Lex.nil fun W hE => ?_
  obtain ⟨d3, os3, rfl⟩ := hE
  unfold FillH
  go_wp2_with (go_at_call 26; refine (C.out _).mono ?_; rintro e _ ⟨rfl, d, os, rfl⟩)
  rw [ends_normal]
  go_wp2_with fail
  refine bodyPost_ret (v := .tuple #[.agg #[.int .i64 v.k, .int .i64 v.i, .string v.s], .int .i64 n]) (by simp [results, Try.results31, go_sem]) rfl ⟨rfl, by repeat (first | exact Ext.refl _ | apply Ext.alloc | apply Ext.more)⟩

set_option maxHeartbeats 4000000 in
set_option maxRecDepth 100000 in
theorem vreck_walk (k i : Int) (s : ByteArray) (k' i' : Int) (s' : ByteArray) (hi : In64 i) (hi' : In64 i') (w : World) :
    Calls Try.prog 7 #[.agg #[.int .i64 k, .int .i64 i, .string s], .agg #[.int .i64 k', .int .i64 i', .string s']] w fun e w' => e = .returned (.bool true) ∧ Ext w w' := by
  obtain ⟨v0, n0, h0⟩ : ∃ v n, opF k i (fewS s) k' i' (fewS s') (numR (i + i')) = (v, n) := ⟨_, _, rfl⟩
  have P0 := Lib.hid fun w => add_any k i (fewS s) k' i' (fewS s') hi hi' v0 n0 h0 w
  have T0 := Lib.hid fun w => two0_any k i (fewS s) k' i' (fewS s') hi hi' v0 n0 h0 w
  obtain ⟨v1, n1, h1⟩ : ∃ v n, opF k i (fewS s) k' i' (fewS s') (numR (i - i')) = (v, n) := ⟨_, _, rfl⟩
  have P1 := Lib.hid fun w => sub_any k i (fewS s) k' i' (fewS s') hi hi' v1 n1 h1 w
  have T1 := Lib.hid fun w => two1_any k i (fewS s) k' i' (fewS s') hi hi' v1 n1 h1 w
  obtain ⟨v2, n2, h2⟩ : ∃ v n, opF k i (fewS s) k' i' (fewS s') (numR (i * i')) = (v, n) := ⟨_, _, rfl⟩
  have P2 := Lib.hid fun w => mul_any k i (fewS s) k' i' (fewS s') hi hi' v2 n2 h2 w
  have T2 := Lib.hid fun w => two2_any k i (fewS s) k' i' (fewS s') hi hi' v2 n2 h2 w
  obtain ⟨v3, n3, h3⟩ : ∃ v n, opF k i (fewS s) k' i' (fewS s') (divR i i') = (v, n) := ⟨_, _, rfl⟩
  have P3 := Lib.hid fun w => div_any k i (fewS s) k' i' (fewS s') hi hi' v3 n3 h3 w
  have T3 := Lib.hid fun w => two3_any k i (fewS s) k' i' (fewS s') hi hi' v3 n3 h3 w
  obtain ⟨v4, n4, h4⟩ : ∃ v n, opF k i (fewS s) k' i' (fewS s') (modR i i') = (v, n) := ⟨_, _, rfl⟩
  have P4 := Lib.hid fun w => mod_any k i (fewS s) k' i' (fewS s') hi hi' v4 n4 h4 w
  have T4 := Lib.hid fun w => two4_any k i (fewS s) k' i' (fewS s') hi hi' v4 n4 h4 w
  obtain ⟨v5, n5, h5⟩ : ∃ v n, opF 2 0 ⟨#[]⟩ k i (fewS s) (numR (0 - i)) = (v, n) := ⟨_, _, rfl⟩
  have P5 := Lib.hid fun w => minus_any k i (fewS s) hi v5 n5 h5 w
  have T5 := Lib.hid fun w => two1_any 2 0 ⟨#[]⟩ k i (fewS s) (by decide) hi v5 n5 h5 w
  clear h0 h1 h2 h3 h4 h5 hi hi'
  go_enter Try.func7, Try.ntmps7
  go_wp2_with fail
  refine wp_region_grow 3 133 [false, false, false] (by kernel_rfl) (by kernel_rfl) rfl ?_
  simp only [List.take_succ_cons, List.take_zero, List.drop_succ_cons, List.drop_zero]
  repeat (refine Lex.step rfl ?_; intro K hK; unfold StepG; go_simp; (first
    | refine hK _ ?_
    | (with_reducible refine ⟨_, ret_of (few_any _ _ _), ?_⟩; go_simp; refine hK _ ?_)); clear hK K)
  refine Lex.nil fun W hE => ?_
  obtain ⟨d3, os3, rfl⟩ := hE
  unfold FillH
  go_wp2_with (go_at_call 10; refine (few_any _ _ _ _).mono ?_; rintro e _ ⟨rfl, d, os, rfl⟩)
  rw [ends_normal]
  go_wp2_with (first
    | (go_at_call 25; refine (P0.out _).mono ?_; rintro e _ ⟨rfl, d, os, rfl⟩)
    | (go_at_call 26; refine (P1.out _).mono ?_; rintro e _ ⟨rfl, d, os, rfl⟩)
    | (go_at_call 27; refine (P2.out _).mono ?_; rintro e _ ⟨rfl, d, os, rfl⟩)
    | (go_at_call 28; refine (P3.out _).mono ?_; rintro e _ ⟨rfl, d, os, rfl⟩)
    | (go_at_call 29; refine (P4.out _).mono ?_; rintro e _ ⟨rfl, d, os, rfl⟩)
    | (go_at_call 31; refine (P5.out _).mono ?_; rintro e _ ⟨rfl, d, os, rfl⟩)
    | (go_at_call 30; (first | with_reducible refine (T0.out _).mono ?_ | with_reducible refine (T1.out _).mono ?_ | with_reducible refine (T2.out _).mono ?_ | with_reducible refine (T3.out _).mono ?_ | with_reducible refine (T4.out _).mono ?_ | with_reducible refine (T5.out _).mono ?_); rintro e _ ⟨rfl, d, os, rfl⟩)
    | (go_at_call 13; (first | with_reducible refine (is_same v0 n0 _).mono ?_ | with_reducible refine (is_same v1 n1 _).mono ?_ | with_reducible refine (is_same v2 n2 _).mono ?_ | with_reducible refine (is_same v3 n3 _).mono ?_ | with_reducible refine (is_same v4 n4 _).mono ?_ | with_reducible refine (is_same v5 n5 _).mono ?_); rintro e _ ⟨rfl, d, os, rfl⟩)
    | (go_at_call 14; refine (awake_any _).mono ?_; rintro e _ ⟨rfl, d, os, rfl⟩))
  refine wp_region_grow 6 133 [false, false, false, false, false, true] (by kernel_rfl) (by kernel_rfl) rfl ?_
  simp only [List.take_succ_cons, List.take_zero, List.drop_succ_cons, List.drop_zero, List.replicate_succ, List.replicate_zero]
  repeat (refine Lex.step rfl ?_; intro K hK; unfold StepG; go_simp; (first
    | refine hK _ ?_
    | (with_reducible refine ⟨_, ret_of (rint_any _), ?_⟩; go_simp; refine hK _ ?_)
    | (with_reducible refine ⟨_, ret_of (T5.out), ?_⟩; go_simp; refine hK _ ?_)); clear hK K)
  refine Lex.stepP rfl rfl ?_; intro K hK; go_simp; refine hK _ ?_; clear hK K
  refine Lex.nil fun W hE => ?_
  obtain ⟨d4, os4, rfl⟩ := hE
  unfold FillH
  go_wp2_with fail
  rw [ends_normal]
  go_wp2_with (first
    | (go_at_call 25; refine (P0.out _).mono ?_; rintro e _ ⟨rfl, d, os, rfl⟩)
    | (go_at_call 26; refine (P1.out _).mono ?_; rintro e _ ⟨rfl, d, os, rfl⟩)
    | (go_at_call 27; refine (P2.out _).mono ?_; rintro e _ ⟨rfl, d, os, rfl⟩)
    | (go_at_call 28; refine (P3.out _).mono ?_; rintro e _ ⟨rfl, d, os, rfl⟩)
    | (go_at_call 29; refine (P4.out _).mono ?_; rintro e _ ⟨rfl, d, os, rfl⟩)
    | (go_at_call 31; refine (P5.out _).mono ?_; rintro e _ ⟨rfl, d, os, rfl⟩)
    | (go_at_call 30; (first | with_reducible refine (T0.out _).mono ?_ | with_reducible refine (T1.out _).mono ?_ | with_reducible refine (T2.out _).mono ?_ | with_reducible refine (T3.out _).mono ?_ | with_reducible refine (T4.out _).mono ?_ | with_reducible refine (T5.out _).mono ?_); rintro e _ ⟨rfl, d, os, rfl⟩)
    | (go_at_call 13; (first | with_reducible refine (is_same v0 n0 _).mono ?_ | with_reducible refine (is_same v1 n1 _).mono ?_ | with_reducible refine (is_same v2 n2 _).mono ?_ | with_reducible refine (is_same v3 n3 _).mono ?_ | with_reducible refine (is_same v4 n4 _).mono ?_ | with_reducible refine (is_same v5 n5 _).mono ?_); rintro e _ ⟨rfl, d, os, rfl⟩)
    | (go_at_call 14; refine (awake_any _).mono ?_; rintro e _ ⟨rfl, d, os, rfl⟩))
  go_ret
  exact ⟨rfl, by repeat (first | exact Ext.refl _ | apply Ext.alloc | apply Ext.more)⟩

namespace ValueReckonsRow
/-! ### The row -/
section
open Go.ChangeShapes Go.WideShapes Go.ChangeAt Go.RowKit Go.Joins
open Go.ChangeMaps (open_string shut_string)
theorem own : ownKnob Try.prog.godebug = none := by kernel_rfl
theorem valueCells : Try.prog.cellsOf 23 = 3 := by kernel_rfl

set_option maxRecDepth 100000 in
theorem lifted (os : Os) (started : os.Started) (H : Type) (enc : TypeId × Value → H) :
    ReturnsInHanded {} Try.checked os 7 .any (Rows.valueReckonsSpec.pre6 enc Try.prog Try.f7 Rows.valueReckonsRow.domain false) (Rows.valueReckonsSpec.post enc Try.prog Try.f7 false true false false) := by
  refine returnsInHanded_of_change (C := Try.checked) own started (by kernel_rfl) Try.func7
    (ChangeSpec.witness6 (enc := enc) (C := Try.checked) false ⟨#[], #[.agg #[.int .i64 0, .int .i64 0, .string ⟨#[]⟩], .agg #[.int .i64 0, .int .i64 0, .string ⟨#[]⟩]], []⟩ 8 (by kernel_rfl) (by kernel_rfl) (by kernel_rfl) (by kernel_rfl)) ?_
  intro W base args ds gs before hval0 hW hcnd _
  have hval : ∀ (j : Nat) t v, Try.f7.params[j]? = some t → args[j]? = some v → Value.okWide Try.prog W .any base t v := hval0
  have hW' := hW
  obtain ⟨p, q, hA0, hV, rfl, hfz, hnd⟩ := hW
  have hA : DataW.TrodAll enc Try.prog W 0 (fun _ => true) true Try.f7.params.toList args.toList ds p := hA0
  rw [Try.params7] at hA hval
  obtain ⟨v0, vs0, d0, ds0, p0, q0, hargs, rfl, rfl, h0, r0⟩ := trodAll_cons hA
  obtain ⟨v1, vs1, d1, ds1, p1, q1, rfl, rfl, rfl, h1, r1⟩ := trodAll_cons r0
  obtain ⟨rfl, rfl, rfl⟩ := trodAll_nil r1
  obtain rfl : args = #[v0, v1] := by cases args; simp_all
  obtain ⟨rfl, rfl⟩ := trodVars_none hV
  obtain ⟨c00, c01, c02, y00, y01, y02, m0, rfl, rfl, rfl, hy00, hy01, hy02⟩ := open_agg3 Try.underlying23 (by kernel_rfl) valueCells (hval 0 23 v0 rfl rfl) h0
  obtain ⟨a_k, e00, rfl, wa_k⟩ := DataW.trod_int Try.underlying3 hy00
  obtain ⟨a_i, e01, rfl, wa_i⟩ := DataW.trod_int Try.underlying2 hy01
  obtain ⟨a_s, e02, rfl, wa_s⟩ := DataW.trod_string Try.underlying9 hy02
  simp at e00 e01 e02
  subst e00 e01 e02
  obtain ⟨c10, c11, c12, y10, y11, y12, m1, rfl, rfl, rfl, hy10, hy11, hy12⟩ := open_agg3 Try.underlying23 (by kernel_rfl) valueCells (hval 1 23 v1 rfl rfl) h1
  obtain ⟨b_k, e10, rfl, wb_k⟩ := DataW.trod_int Try.underlying3 hy10
  obtain ⟨b_i, e11, rfl, wb_i⟩ := DataW.trod_int Try.underlying2 hy11
  obtain ⟨b_s, e12, rfl, wb_s⟩ := DataW.trod_string Try.underlying9 hy12
  simp at e10 e11 e12
  subst e10 e11 e12
  clear hA0 hval0
  simp only [List.append_nil] at hW'
  refine (vreck_walk a_k a_i a_s b_k b_i b_s (in64_of wa_i) (in64_of wb_i) W).mono fun e W' ⟨he, hx⟩ => ?_
  subst he
  exact ⟨_, rfl, _, _, _, [], [], [], hW', trodAll_mk1 (shut_bool Try.underlying4 _), (trodAll_cons_mk (shut_agg3 (y0 := (.lit (.int .i64 a_k), [])) (y1 := (.lit (.int .i64 a_i), [])) (y2 := (.lit (.string a_s.data.toList), [])) Try.underlying23 (by kernel_rfl) valueCells ⟨1, by simp [DataW.trod, Try.underlying3, wa_k]⟩ ⟨1, by simp [DataW.trod, Try.underlying2, wa_i]⟩ ⟨1, by simp [DataW.trod, Try.underlying9, wa_s]⟩) (trodAll_cons_mk (shut_agg3 (y0 := (.lit (.int .i64 b_k), [])) (y1 := (.lit (.int .i64 b_i), [])) (y2 := (.lit (.string b_s.data.toList), [])) Try.underlying23 (by kernel_rfl) valueCells ⟨1, by simp [DataW.trod, Try.underlying3, wb_k]⟩ ⟨1, by simp [DataW.trod, Try.underlying2, wb_i]⟩ ⟨1, by simp [DataW.trod, Try.underlying9, wb_s]⟩) trodAll_mk0)), rfl, hx.below.frame _, fun h => by cases h⟩

theorem proved : Rows.ValueReckonsSaid :=
  OpenClaim.holds_of_wide 7 Try.f7 rfl rfl rfl rfl rfl rfl rfl ⟨rfl, rfl, rfl, rfl, rfl⟩ rfl rfl rfl rfl rfl (by kernel_rfl) Try.func7 (by kernel_rfl)
    (of_decide_eq_true (by kernel_rfl)) (by unfold Func.isWrapper; first | (rw [if_pos (by decide +kernel)]; kernel_rfl) | (rw [if_neg (by decide +kernel)]; exact ⟨rfl, rfl⟩))
    (fun os started H enc _ => lifted os started H enc)
end
#print axioms proved
end ValueReckonsRow
end Go.Proofs.Ythekfgbiplmikaa
