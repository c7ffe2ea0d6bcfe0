/-
  Proved here: 'Rows.ValueComparesSaid': for every number op and every two values a, b the law plenumlaw07.ValueCompares returns true and leaves what came in as it was.
  Conditions: none.
-/
import Derived.Test.YthekfgbiplmikaaVal3
import Derived.Lib.SmallJoins
set_option linter.unusedSimpArgs false
set_option linter.unusedVariables false
namespace Go.Proofs.Ythekfgbiplmikaa
open Go.RowKit

/-! ### the two orders agree -/
theorem bytesLess_iff : ∀ a b : List UInt8, (Lib.compareBytes a b < 0 ↔ Op.bytesLess a b = true) ∧ (Lib.compareBytes a b = 0 ↔ a = b)
  | [], [] => by simp [Lib.compareBytes, Op.bytesLess]
  | [], _ :: _ => by simp [Lib.compareBytes, Op.bytesLess]
  | _ :: _, [] => by simp [Lib.compareBytes, Op.bytesLess]
  | a :: x, b :: y => by
    have ih := bytesLess_iff x y
    unfold Lib.compareBytes Op.bytesLess
    by_cases h1 : a < b
    · have hne : a ≠ b := fun e => by subst e; exact absurd h1 (UInt8.lt_irrefl _)
      simp [h1, hne]
    · by_cases h2 : b < a
      · have hne : a ≠ b := fun e => by subst e; exact absurd h2 (UInt8.lt_irrefl _)
        simp [h1, h2, hne]
      · have he : a = b := UInt8.le_antisymm (UInt8.not_lt.1 h2) (UInt8.not_lt.1 h1)
        subst he
        simp [h1, ih.1, ih.2]

/-- of values that may be the two orders have one sign -/
theorem order_sign {k i : Int} {s : ByteArray} {k' i' : Int} {s' : ByteArray} (h : mayB k i s = true) (h' : mayB k' i' s' = true) :
    (orderZ k i s k' i' s' < 0 ↔ rorderZ k i s k' i' s' = -1) ∧ (orderZ k i s k' i' s' = 0 ↔ rorderZ k i s k' i' s' = 0) := by
  have hk : 0 ≤ k ∧ k ≤ 3 := by rcases may_cases h with h | h | h | h <;> omega
  have hk' : 0 ≤ k' ∧ k' ≤ 3 := by rcases may_cases h' with h | h | h | h <;> omega
  have hb := bytesLess_iff s.data.toList s'.data.toList
  unfold orderZ rorderZ
  simp only [Lib.toList_data]
  by_cases c1 : k = k'
  · subst c1
    by_cases c2 : i = i'
    · subst c2
      by_cases c3 : s.data.toList = s'.data.toList
      · simp only [ne_eq, not_true_eq_false, if_false, Int.lt_irrefl, true_and, c3, if_true]
        have := (bytesLess_iff s'.data.toList s'.data.toList).2.2 rfl
        rw [this]; simp
      · have e0 : ¬ Lib.compareBytes s.data.toList s'.data.toList = 0 := fun e => c3 (hb.2.1 e)
        simp only [ne_eq, not_true_eq_false, if_false, Int.lt_irrefl, true_and, c3, false_or]
        by_cases c4 : Op.bytesLess s.data.toList s'.data.toList = true
        · have := hb.1.2 c4
          simp [c4, this]; omega
        · have : ¬ Lib.compareBytes s.data.toList s'.data.toList < 0 := fun e => c4 (hb.1.1 e)
          simp [c4, this, e0]
    · rcases Int.lt_or_gt_of_ne c2 with c3 | c3
      · simp [c2, c3]
      · have : ¬ i < i' := by omega
        simp [c2, c3, this]
  · have hw : wrap64 (k - k') = k - k' := by unfold wrap64; omega
    have cn : ¬ (k = k' ∧ i = i' ∧ s.data.toList = s'.data.toList) := fun e => c1 e.1
    rw [if_pos c1, if_neg cn, hw]
    rcases Int.lt_or_gt_of_ne c1 with c3 | c3
    · rw [if_pos (Or.inl c3)]; omega
    · rw [if_neg (by rintro (h | ⟨h, _⟩) <;> omega)]; omega

theorem rorder_range (k i : Int) (s : ByteArray) (k' i' : Int) (s' : ByteArray) : rorderZ k i s k' i' s' = -1 ∨ rorderZ k i s k' i' s' = 0 ∨ rorderZ k i s k' i' s' = 1 := by
  unfold rorderZ; split
  · simp
  · split <;> simp

theorem cmp_same (op k i : Int) (s : ByteArray) (k' i' : Int) (s' : ByteArray) : cmpF op k i s k' i' s' (orderZ k i s k' i' s') = cmpF op k i s k' i' s' (rorderZ k i s k' i' s') := by
  by_cases h : mayB k i s = true
  · by_cases h' : mayB k' i' s' = true
    · have e : cmpIs op (orderZ k i s k' i' s') = cmpIs op (rorderZ k i s k' i' s') := by
        obtain ⟨h1, h2⟩ := order_sign h h'
        have h3 := rorder_range k i s k' i' s'
        generalize orderZ k i s k' i' s' = x at *
        generalize rorderZ k i s k' i' s' = y at *
        unfold cmpIs
        repeat' split
        all_goals (rw [Bool.eq_iff_iff]; simp; omega)
      unfold cmpF
      rw [e]
    · simp [cmpF, h, h']
  · simp [cmpF, h]

theorem eqV_refl (v : Val) : eqV v.k v.i v.s v.k v.i v.s = true := by simp [eqV]

set_option maxHeartbeats 1000000 in
set_option maxRecDepth 100000 in
theorem vcmp_walk (op k i : Int) (s : ByteArray) (k' i' : Int) (s' : ByteArray) (w : World) :
    Calls Try.prog 3 #[.int .i64 op, .agg #[.int .i64 k, .int .i64 i, .string s], .agg #[.int .i64 k', .int .i64 i', .string s']] w fun e w' => e = .returned (.bool true) ∧ Ext w w' := by
  obtain ⟨v, n, h1⟩ : ∃ v n, cmpF op k i (fewS s) k' i' (fewS s') (orderZ k i (fewS s) k' i' (fewS s')) = (v, n) := ⟨_, _, rfl⟩
  have h2 := h1
  rw [cmp_same] at h2
  have c1 := fun w => cmp_any op k i (fewS s) k' i' (fewS s') v n h1 w
  have c2 := fun w => rcmp_any op k i (fewS s) k' i' (fewS s') v n h2 w
  have c3 := fun w => is_any v.k v.i v.s n v.k v.i v.s n w
  rw [eqV_refl] at c3
  simp only [BEq.rfl, Bool.and_self] at c3
  have C1 := Lib.hid c1
  have C2 := Lib.hid c2
  have C3 := Lib.hid c3
  clear h1 h2 c1 c2 c3
  go_enter Try.func3, Try.ntmps3
  go_wp2_with fail
  refine wp_region_grow 3 37 [false, false, false] (by kernel_rfl) (by kernel_rfl) rfl ?_
  simp only [List.take_succ_cons, List.take_zero, List.drop_succ_cons, List.drop_zero]
  repeat (first
    | (refine Lex.step rfl ?_; intro K hK; unfold StepG; go_simp; refine hK _ ?_; clear hK K)
    | (refine Lex.step rfl ?_; intro K hK; unfold StepG; go_simp; refine ⟨_, fun d os => (few_any _ _ _ _).mono fun e w' ⟨he, hx⟩ => ⟨_, he, hx, rfl⟩, ?_⟩; go_simp; refine hK _ ?_; clear hK K))
  refine Lex.nil fun W hE => ?_
  obtain ⟨d3, os3, rfl⟩ := hE
  unfold FillH
  go_wp2_with (go_at_call 10; refine (few_any _ _ _ _).mono ?_; rintro e _ ⟨rfl, d, os, rfl⟩)
  rw [ends_normal]
  go_wp2_with (first
    | (go_at_call 11; refine (C1.out _).mono ?_; rintro e _ ⟨rfl, d, os, rfl⟩)
    | (go_at_call 12; refine (C2.out _).mono ?_; rintro e _ ⟨rfl, d, os, rfl⟩)
    | (go_at_call 13; refine (C3.out _).mono ?_; rintro e _ ⟨rfl, d, os, rfl⟩)
    | (go_at_call 14; refine (awake_any _).mono ?_; rintro e _ ⟨rfl, d, os, rfl⟩))
  go_ret
  exact ⟨rfl, by repeat (first | exact Ext.refl _ | apply Ext.alloc | apply Ext.more)⟩

namespace ValueComparesRow
/-! ### The row -/
section
open Go.ChangeShapes Go.WideShapes Go.ChangeAt Go.RowKit Go.Joins
open Go.ChangeMaps (open_string shut_string)
theorem own : ownKnob Try.prog.godebug = none := by kernel_rfl
theorem valueCells : Try.prog.cellsOf 23 = 3 := by kernel_rfl

set_option maxRecDepth 100000 in
theorem lifted (os : Os) (started : os.Started) (H : Type) (enc : TypeId × Value → H) :
    ReturnsInHanded {} Try.checked os 3 .any (Rows.valueComparesSpec.pre6 enc Try.prog Try.f3 Rows.valueComparesRow.domain false) (Rows.valueComparesSpec.post enc Try.prog Try.f3 false true false false) := by
  refine returnsInHanded_of_change (C := Try.checked) own started (by kernel_rfl) Try.func3
    (ChangeSpec.witness6 (enc := enc) (C := Try.checked) false ⟨#[], #[.int .i64 0, .agg #[.int .i64 0, .int .i64 0, .string ⟨#[]⟩], .agg #[.int .i64 0, .int .i64 0, .string ⟨#[]⟩]], []⟩ 8 (by kernel_rfl) (by kernel_rfl) (by kernel_rfl) (by kernel_rfl)) ?_
  intro W base args ds gs before hval0 hW hcnd _
  have hval : ∀ (j : Nat) t v, Try.f3.params[j]? = some t → args[j]? = some v → Value.okWide Try.prog W .any base t v := hval0
  have hW' := hW
  obtain ⟨p, q, hA0, hV, rfl, hfz, hnd⟩ := hW
  have hA : DataW.TrodAll enc Try.prog W 0 (fun _ => true) true Try.f3.params.toList args.toList ds p := hA0
  rw [Try.params3] at hA hval
  obtain ⟨v0, vs0, d0, ds0, p0, q0, hargs, rfl, rfl, h0, r0⟩ := trodAll_cons hA
  obtain ⟨v1, vs1, d1, ds1, p1, q1, rfl, rfl, rfl, h1, r1⟩ := trodAll_cons r0
  obtain ⟨v2, vs2, d2, ds2, p2, q2, rfl, rfl, rfl, h2, r2⟩ := trodAll_cons r1
  obtain ⟨rfl, rfl, rfl⟩ := trodAll_nil r2
  obtain rfl : args = #[v0, v1, v2] := by cases args; simp_all
  obtain ⟨rfl, rfl⟩ := trodVars_none hV
  obtain ⟨op, rfl, rfl, rfl, wop⟩ := open_int Try.underlying3 (hval 0 3 v0 rfl rfl) h0
  obtain ⟨c10, c11, c12, y10, y11, y12, m1, rfl, rfl, rfl, hy10, hy11, hy12⟩ := open_agg3 Try.underlying23 (by kernel_rfl) valueCells (hval 1 23 v1 rfl rfl) h1
  obtain ⟨a_k, e10, rfl, wa_k⟩ := DataW.trod_int Try.underlying3 hy10
  obtain ⟨a_i, e11, rfl, wa_i⟩ := DataW.trod_int Try.underlying2 hy11
  obtain ⟨a_s, e12, rfl, wa_s⟩ := DataW.trod_string Try.underlying9 hy12
  simp at e10 e11 e12
  subst e10 e11 e12
  obtain ⟨c20, c21, c22, y20, y21, y22, m2, rfl, rfl, rfl, hy20, hy21, hy22⟩ := open_agg3 Try.underlying23 (by kernel_rfl) valueCells (hval 2 23 v2 rfl rfl) h2
  obtain ⟨b_k, e20, rfl, wb_k⟩ := DataW.trod_int Try.underlying3 hy20
  obtain ⟨b_i, e21, rfl, wb_i⟩ := DataW.trod_int Try.underlying2 hy21
  obtain ⟨b_s, e22, rfl, wb_s⟩ := DataW.trod_string Try.underlying9 hy22
  simp at e20 e21 e22
  subst e20 e21 e22
  clear hA0 hval0
  simp only [List.append_nil] at hW'
  refine (vcmp_walk op a_k a_i a_s b_k b_i b_s W).mono fun e W' ⟨he, hx⟩ => ?_
  subst he
  exact ⟨_, rfl, _, _, _, [], [], [], hW', trodAll_mk1 (shut_bool Try.underlying4 _), (trodAll_cons_mk (shut_int Try.underlying3 wop) (trodAll_cons_mk (shut_agg3 (y0 := (.lit (.int .i64 a_k), [])) (y1 := (.lit (.int .i64 a_i), [])) (y2 := (.lit (.string a_s.data.toList), [])) Try.underlying23 (by kernel_rfl) valueCells ⟨1, by simp [DataW.trod, Try.underlying3, wa_k]⟩ ⟨1, by simp [DataW.trod, Try.underlying2, wa_i]⟩ ⟨1, by simp [DataW.trod, Try.underlying9, wa_s]⟩) (trodAll_cons_mk (shut_agg3 (y0 := (.lit (.int .i64 b_k), [])) (y1 := (.lit (.int .i64 b_i), [])) (y2 := (.lit (.string b_s.data.toList), [])) Try.underlying23 (by kernel_rfl) valueCells ⟨1, by simp [DataW.trod, Try.underlying3, wb_k]⟩ ⟨1, by simp [DataW.trod, Try.underlying2, wb_i]⟩ ⟨1, by simp [DataW.trod, Try.underlying9, wb_s]⟩) trodAll_mk0))), rfl, hx.below.frame _, fun h => by cases h⟩

theorem proved : Rows.ValueComparesSaid :=
  OpenClaim.holds_of_wide 3 Try.f3 rfl rfl rfl rfl rfl rfl rfl ⟨rfl, rfl, rfl, rfl, rfl⟩ rfl rfl rfl rfl rfl (by kernel_rfl) Try.func3 (by kernel_rfl)
    (of_decide_eq_true (by kernel_rfl)) (by unfold Func.isWrapper; first | (rw [if_pos (by decide +kernel)]; kernel_rfl) | (rw [if_neg (by decide +kernel)]; exact ⟨rfl, rfl⟩))
    (fun os started H enc _ => lifted os started H enc)
end
#print axioms proved
end ValueComparesRow
end Go.Proofs.Ythekfgbiplmikaa
