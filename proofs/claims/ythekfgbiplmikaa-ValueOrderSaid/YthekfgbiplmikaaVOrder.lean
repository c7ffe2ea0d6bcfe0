/-
  Proved here: 'Rows.ValueOrderSaid': for every three values a, b, c the law plenumlaw07.ValueOrder returns true and leaves what came in as it was.
  Conditions: none.
-/
import Derived.Test.YthekfgbiplmikaaVOrd
import Derived.Lib.SmallJoins
set_option linter.unusedSimpArgs false
set_option linter.unusedVariables false
namespace Go.Proofs.Ythekfgbiplmikaa
open Go.RowKit

theorem ret_of {P : Program} {f : FuncId} {args : Array Value} {v : Value} {w0 : World} (h : ∀ w, Calls P f args w fun e w' => e = .returned v ∧ Ext w w') :
    ∀ d os, Calls P f args (more w0 d os) (RetG (more w0 d os) fun x _ => x = v) := fun d os => (h _).mono fun e w' ⟨he, hx⟩ => ⟨v, he, hx, rfl⟩

/-! ### the order of lists of bytes, and of values -/
theorem bl_irrefl : ∀ a : List UInt8, Op.bytesLess a a = false
  | [] => by simp [Op.bytesLess]
  | a :: x => by simp [Op.bytesLess, bl_irrefl x, UInt8.lt_irrefl]

theorem bl_asymm : ∀ a b : List UInt8, Op.bytesLess a b = true → Op.bytesLess b a = false
  | [], [], h => by simp [Op.bytesLess] at h
  | [], _ :: _, _ => by simp [Op.bytesLess]
  | _ :: _, [], h => by simp [Op.bytesLess] at h
  | a :: x, b :: y, h => by
    simp only [Op.bytesLess, Bool.or_eq_true, Bool.and_eq_true, decide_eq_true_eq, beq_iff_eq] at h
    have ih := bl_asymm x y
    rcases h with h | ⟨rfl, h⟩
    · have h1 : ¬ b < a := fun e => UInt8.lt_irrefl _ (UInt8.lt_trans h e)
      have h2 : ¬ b = a := fun e => by subst e; exact UInt8.lt_irrefl _ h
      simp [Op.bytesLess, h1, h2]
    · simp [Op.bytesLess, UInt8.lt_irrefl, ih h]

theorem bl_tri : ∀ a b : List UInt8, Op.bytesLess a b = true ∨ a = b ∨ Op.bytesLess b a = true
  | [], [] => .inr (.inl rfl)
  | [], _ :: _ => by simp [Op.bytesLess]
  | _ :: _, [] => by simp [Op.bytesLess]
  | a :: x, b :: y => by
    have ih := bl_tri x y
    by_cases h1 : a < b
    · simp [Op.bytesLess, h1]
    · by_cases h2 : b < a
      · simp [Op.bytesLess, h2]
      · have he : a = b := UInt8.le_antisymm (UInt8.not_lt.1 h2) (UInt8.not_lt.1 h1)
        subst he
        rcases ih with h | h | h
        · simp [Op.bytesLess, h]
        · simp [h]
        · simp [Op.bytesLess, h]

theorem bl_trans : ∀ a b c : List UInt8, Op.bytesLess a b = true → Op.bytesLess b c = true → Op.bytesLess a c = true
  | _, _, [], _, h => by simp [Op.bytesLess] at h
  | _, [], _ :: _, h, _ => by simp [Op.bytesLess] at h
  | [], _ :: _, _ :: _, _, _ => by simp [Op.bytesLess]
  | a :: x, b :: y, c :: z, h, h' => by
    simp only [Op.bytesLess, Bool.or_eq_true, Bool.and_eq_true, decide_eq_true_eq, beq_iff_eq] at h h' ⊢
    have ih := bl_trans x y z
    rcases h with h | ⟨rfl, h⟩
    · rcases h' with h' | ⟨rfl, h'⟩
      · exact .inl (UInt8.lt_trans h h')
      · exact .inl h
    · rcases h' with h' | ⟨rfl, h'⟩
      · exact .inl h'
      · exact .inr ⟨rfl, ih h h'⟩

/-- one value is ahead of another one -/
def Ahead (k i : Int) (s : ByteArray) (k' i' : Int) (s' : ByteArray) : Prop := k < k' ∨ k = k' ∧ (i < i' ∨ i = i' ∧ Op.bytesLess s.toList s'.toList = true)

theorem rorder_ahead (k i : Int) (s : ByteArray) (k' i' : Int) (s' : ByteArray) : rorderZ k i s k' i' s' < 0 ↔ Ahead k i s k' i' s' := by
  unfold rorderZ Ahead
  by_cases h : k = k' ∧ i = i' ∧ s.toList = s'.toList
  · rw [if_pos h]
    obtain ⟨rfl, rfl, h⟩ := h
    rw [h, bl_irrefl]
    simp
  · rw [if_neg h]
    split
    · rename_i h'; simp [h']
    · rename_i h'; simp only [h', iff_false]; omega

theorem ahead_cases (k i : Int) (s : ByteArray) (k' i' : Int) (s' : ByteArray) :
    (Ahead k i s k' i' s' ∧ ¬ Ahead k' i' s' k i s ∧ ¬ (k = k' ∧ i = i' ∧ s.toList = s'.toList)) ∨ (¬ Ahead k i s k' i' s' ∧ Ahead k' i' s' k i s ∧ ¬ (k = k' ∧ i = i' ∧ s.toList = s'.toList))
    ∨ (¬ Ahead k i s k' i' s' ∧ ¬ Ahead k' i' s' k i s ∧ k = k' ∧ i = i' ∧ s.toList = s'.toList) := by
  unfold Ahead
  generalize s.toList = x
  generalize s'.toList = y
  rcases Int.lt_trichotomy k k' with hk | rfl | hk
  · left; omega
  · rcases Int.lt_trichotomy i i' with hi | rfl | hi
    · left; omega
    · rcases bl_tri x y with h | rfl | h
      · left
        have h' := bl_asymm x y h
        refine ⟨.inr ⟨rfl, .inr ⟨rfl, h⟩⟩, ?_, ?_⟩
        · rw [h']; simp
        · rintro ⟨_, _, rfl⟩; rw [h] at h'; cases h'
      · right; right
        rw [bl_irrefl]; simp
      · right; left
        have h' := bl_asymm y x h
        refine ⟨?_, .inr ⟨rfl, .inr ⟨rfl, h⟩⟩, ?_⟩
        · rw [h']; simp
        · rintro ⟨_, _, rfl⟩; rw [h] at h'; cases h'
    · right; left; omega
  · right; left; omega

theorem ahead_trans {k i : Int} {s : ByteArray} {k' i' : Int} {s' : ByteArray} {k'' i'' : Int} {s'' : ByteArray} (h : Ahead k i s k' i' s') (h' : Ahead k' i' s' k'' i'' s'') : Ahead k i s k'' i'' s'' := by
  unfold Ahead at *
  rcases h with h | ⟨rfl, h | ⟨rfl, h⟩⟩
  · left; rcases h' with h' | ⟨rfl, h'⟩ <;> omega
  · rcases h' with h' | ⟨rfl, h' | ⟨rfl, h'⟩⟩
    · exact .inl h'
    · exact .inr ⟨rfl, .inl (by omega)⟩
    · exact .inr ⟨rfl, .inl h⟩
  · rcases h' with h' | ⟨rfl, h' | ⟨rfl, h'⟩⟩
    · exact .inl h'
    · exact .inr ⟨rfl, .inl h'⟩
    · exact .inr ⟨rfl, .inr ⟨rfl, bl_trans _ _ _ h h'⟩⟩

theorem less_true {k i : Int} {s : ByteArray} {k' i' : Int} {s' : ByteArray} (h : mayB k i s = true) (h' : mayB k' i' s' = true) (ha : Ahead k i s k' i' s') : lessB k i s k' i' s' = true := by
  rw [less_order, h, h', decide_eq_true ((rorder_ahead _ _ _ _ _ _).2 ha)]; rfl
theorem less_false {k i : Int} {s : ByteArray} {k' i' : Int} {s' : ByteArray} (ha : ¬ Ahead k i s k' i' s') : lessB k i s k' i' s' = false := by
  rw [less_order, decide_eq_false (fun e => ha ((rorder_ahead _ _ _ _ _ _).1 e))]; simp
theorem bytes_ext {s s' : ByteArray} (h : s.toList = s'.toList) : s = s' := by
  rw [Lib.toList_data, Lib.toList_data] at h; exact ByteArray.ext (Array.toList_inj.1 h)

set_option maxHeartbeats 4000000 in
set_option maxRecDepth 100000 in
theorem vord_m1 (k i : Int) (s t : ByteArray) (k' i' : Int) (s' t' : ByteArray) (k'' i'' : Int) (s'' t'' : ByteArray) (w : World) 
    (Ca : RowKit.Hid (∀ w, Calls Try.prog 10 #[.agg #[.int .i64 k, .int .i64 i, .string s]] w fun e w' => e = .returned (.agg #[.int .i64 k, .int .i64 i, .string t]) ∧ Ext w w'))
    (Cb : RowKit.Hid (∀ w, Calls Try.prog 10 #[.agg #[.int .i64 k', .int .i64 i', .string s']] w fun e w' => e = .returned (.agg #[.int .i64 k', .int .i64 i', .string t']) ∧ Ext w w'))
    (Cc : RowKit.Hid (∀ w, Calls Try.prog 10 #[.agg #[.int .i64 k'', .int .i64 i'', .string s'']] w fun e w' => e = .returned (.agg #[.int .i64 k'', .int .i64 i'', .string t'']) ∧ Ext w w'))
    (Ma : RowKit.Hid (∀ w, Calls Try.prog 18 #[.agg #[.int .i64 k, .int .i64 i, .string t]] w fun e w' => e = .returned (.bool false) ∧ Ext w w')) :
    Calls Try.prog 5 #[.agg #[.int .i64 k, .int .i64 i, .string s], .agg #[.int .i64 k', .int .i64 i', .string s'], .agg #[.int .i64 k'', .int .i64 i'', .string s'']] w fun e w' => e = .returned (.bool true) ∧ Ext w w' := by
  go_enter Try.func5, Try.ntmps5
  go_wp2_with fail
  refine wp_region_grow 5 65 [false, false, false, false, false] (by kernel_rfl) (by kernel_rfl) rfl ?_
  simp only [List.take_succ_cons, List.take_zero, List.drop_succ_cons, List.drop_zero]
  repeat (refine Lex.step rfl ?_; intro K hK; unfold StepG; go_simp; (first
    | refine hK _ ?_
    | (with_reducible refine ⟨_, ret_of (Ca.out), ?_⟩; go_simp; refine hK _ ?_)
    | (with_reducible refine ⟨_, ret_of (Cb.out), ?_⟩; go_simp; refine hK _ ?_)); clear hK K)
  refine Lex.nil fun W hE => ?_
  obtain ⟨d3, os3, rfl⟩ := hE
  unfold FillH
  go_wp2_with (go_at_call 10; refine (Cc.out _).mono ?_; rintro e _ ⟨rfl, d, os, rfl⟩)
  rw [ends_normal]
  go_wp2_with (first
    | (go_at_call 14; refine (awake_any _).mono ?_; rintro e _ ⟨rfl, d, os, rfl⟩)
    | (go_at_call 18; refine (Ma.out _).mono ?_; rintro e _ ⟨rfl, d, os, rfl⟩))
  all_goals try (exfalso; simp_all; done)
  all_goals
    go_ret
    refine ⟨?_, by repeat (first | exact Ext.refl _ | apply Ext.alloc | apply Ext.more)⟩
    first | rfl | (refine ret_bool ?_; simp_all)

set_option maxHeartbeats 4000000 in
set_option maxRecDepth 100000 in
theorem vord_m2 (k i : Int) (s t : ByteArray) (k' i' : Int) (s' t' : ByteArray) (k'' i'' : Int) (s'' t'' : ByteArray) (w : World) 
    (Ca : RowKit.Hid (∀ w, Calls Try.prog 10 #[.agg #[.int .i64 k, .int .i64 i, .string s]] w fun e w' => e = .returned (.agg #[.int .i64 k, .int .i64 i, .string t]) ∧ Ext w w'))
    (Cb : RowKit.Hid (∀ w, Calls Try.prog 10 #[.agg #[.int .i64 k', .int .i64 i', .string s']] w fun e w' => e = .returned (.agg #[.int .i64 k', .int .i64 i', .string t']) ∧ Ext w w'))
    (Cc : RowKit.Hid (∀ w, Calls Try.prog 10 #[.agg #[.int .i64 k'', .int .i64 i'', .string s'']] w fun e w' => e = .returned (.agg #[.int .i64 k'', .int .i64 i'', .string t'']) ∧ Ext w w'))
    (Ma : RowKit.Hid (∀ w, Calls Try.prog 18 #[.agg #[.int .i64 k, .int .i64 i, .string t]] w fun e w' => e = .returned (.bool true) ∧ Ext w w'))
    (Mb : RowKit.Hid (∀ w, Calls Try.prog 18 #[.agg #[.int .i64 k', .int .i64 i', .string t']] w fun e w' => e = .returned (.bool false) ∧ Ext w w')) :
    Calls Try.prog 5 #[.agg #[.int .i64 k, .int .i64 i, .string s], .agg #[.int .i64 k', .int .i64 i', .string s'], .agg #[.int .i64 k'', .int .i64 i'', .string s'']] w fun e w' => e = .returned (.bool true) ∧ Ext w w' := by
  go_enter Try.func5, Try.ntmps5
  go_wp2_with fail
  refine wp_region_grow 5 65 [false, false, false, false, false] (by kernel_rfl) (by kernel_rfl) rfl ?_
  simp only [List.take_succ_cons, List.take_zero, List.drop_succ_cons, List.drop_zero]
  repeat (refine Lex.step rfl ?_; intro K hK; unfold StepG; go_simp; (first
    | refine hK _ ?_
    | (with_reducible refine ⟨_, ret_of (Ca.out), ?_⟩; go_simp; refine hK _ ?_)
    | (with_reducible refine ⟨_, ret_of (Cb.out), ?_⟩; go_simp; refine hK _ ?_)); clear hK K)
  refine Lex.nil fun W hE => ?_
  obtain ⟨d3, os3, rfl⟩ := hE
  unfold FillH
  go_wp2_with (go_at_call 10; refine (Cc.out _).mono ?_; rintro e _ ⟨rfl, d, os, rfl⟩)
  rw [ends_normal]
  go_wp2_with (first
    | (go_at_call 14; refine (awake_any _).mono ?_; rintro e _ ⟨rfl, d, os, rfl⟩)
    | (go_at_call 18; (first | with_reducible refine (Ma.out _).mono ?_ | with_reducible refine (Mb.out _).mono ?_); rintro e _ ⟨rfl, d, os, rfl⟩))
  all_goals try (exfalso; simp_all; done)
  all_goals
    go_ret
    refine ⟨?_, by repeat (first | exact Ext.refl _ | apply Ext.alloc | apply Ext.more)⟩
    first | rfl | (refine ret_bool ?_; simp_all)

set_option maxHeartbeats 4000000 in
set_option maxRecDepth 100000 in
theorem vord_m3 (k i : Int) (s t : ByteArray) (k' i' : Int) (s' t' : ByteArray) (k'' i'' : Int) (s'' t'' : ByteArray) (w : World) 
    (Ca : RowKit.Hid (∀ w, Calls Try.prog 10 #[.agg #[.int .i64 k, .int .i64 i, .string s]] w fun e w' => e = .returned (.agg #[.int .i64 k, .int .i64 i, .string t]) ∧ Ext w w'))
    (Cb : RowKit.Hid (∀ w, Calls Try.prog 10 #[.agg #[.int .i64 k', .int .i64 i', .string s']] w fun e w' => e = .returned (.agg #[.int .i64 k', .int .i64 i', .string t']) ∧ Ext w w'))
    (Cc : RowKit.Hid (∀ w, Calls Try.prog 10 #[.agg #[.int .i64 k'', .int .i64 i'', .string s'']] w fun e w' => e = .returned (.agg #[.int .i64 k'', .int .i64 i'', .string t'']) ∧ Ext w w'))
    (Ma : RowKit.Hid (∀ w, Calls Try.prog 18 #[.agg #[.int .i64 k, .int .i64 i, .string t]] w fun e w' => e = .returned (.bool true) ∧ Ext w w'))
    (Mb : RowKit.Hid (∀ w, Calls Try.prog 18 #[.agg #[.int .i64 k', .int .i64 i', .string t']] w fun e w' => e = .returned (.bool true) ∧ Ext w w'))
    (Mc : RowKit.Hid (∀ w, Calls Try.prog 18 #[.agg #[.int .i64 k'', .int .i64 i'', .string t'']] w fun e w' => e = .returned (.bool false) ∧ Ext w w')) :
    Calls Try.prog 5 #[.agg #[.int .i64 k, .int .i64 i, .string s], .agg #[.int .i64 k', .int .i64 i', .string s'], .agg #[.int .i64 k'', .int .i64 i'', .string s'']] w fun e w' => e = .returned (.bool true) ∧ Ext w w' := by
  go_enter Try.func5, Try.ntmps5
  go_wp2_with fail
  refine wp_region_grow 5 65 [false, false, false, false, false] (by kernel_rfl) (by kernel_rfl) rfl ?_
  simp only [List.take_succ_cons, List.take_zero, List.drop_succ_cons, List.drop_zero]
  repeat (refine Lex.step rfl ?_; intro K hK; unfold StepG; go_simp; (first
    | refine hK _ ?_
    | (with_reducible refine ⟨_, ret_of (Ca.out), ?_⟩; go_simp; refine hK _ ?_)
    | (with_reducible refine ⟨_, ret_of (Cb.out), ?_⟩; go_simp; refine hK _ ?_)); clear hK K)
  refine Lex.nil fun W hE => ?_
  obtain ⟨d3, os3, rfl⟩ := hE
  unfold FillH
  go_wp2_with (go_at_call 10; refine (Cc.out _).mono ?_; rintro e _ ⟨rfl, d, os, rfl⟩)
  rw [ends_normal]
  go_wp2_with (first
    | (go_at_call 14; refine (awake_any _).mono ?_; rintro e _ ⟨rfl, d, os, rfl⟩)
    | (go_at_call 18; (first | with_reducible refine (Ma.out _).mono ?_ | with_reducible refine (Mb.out _).mono ?_ | with_reducible refine (Mc.out _).mono ?_); rintro e _ ⟨rfl, d, os, rfl⟩))
  all_goals try (exfalso; simp_all; done)
  all_goals
    go_ret
    refine ⟨?_, by repeat (first | exact Ext.refl _ | apply Ext.alloc | apply Ext.more)⟩
    first | rfl | (refine ret_bool ?_; simp_all)

set_option maxHeartbeats 4000000 in
set_option maxRecDepth 100000 in
theorem vord_o1 (k i : Int) (s t : ByteArray) (k' i' : Int) (s' t' : ByteArray) (k'' i'' : Int) (s'' t'' : ByteArray) (w : World) (hne : ¬ (k = k' ∧ i = i' ∧ t.toList = t'.toList))
    (Ca : RowKit.Hid (∀ w, Calls Try.prog 10 #[.agg #[.int .i64 k, .int .i64 i, .string s]] w fun e w' => e = .returned (.agg #[.int .i64 k, .int .i64 i, .string t]) ∧ Ext w w'))
    (Cb : RowKit.Hid (∀ w, Calls Try.prog 10 #[.agg #[.int .i64 k', .int .i64 i', .string s']] w fun e w' => e = .returned (.agg #[.int .i64 k', .int .i64 i', .string t']) ∧ Ext w w'))
    (Cc : RowKit.Hid (∀ w, Calls Try.prog 10 #[.agg #[.int .i64 k'', .int .i64 i'', .string s'']] w fun e w' => e = .returned (.agg #[.int .i64 k'', .int .i64 i'', .string t'']) ∧ Ext w w'))
    (Ma : RowKit.Hid (∀ w, Calls Try.prog 18 #[.agg #[.int .i64 k, .int .i64 i, .string t]] w fun e w' => e = .returned (.bool true) ∧ Ext w w'))
    (Mb : RowKit.Hid (∀ w, Calls Try.prog 18 #[.agg #[.int .i64 k', .int .i64 i', .string t']] w fun e w' => e = .returned (.bool true) ∧ Ext w w'))
    (Mc : RowKit.Hid (∀ w, Calls Try.prog 18 #[.agg #[.int .i64 k'', .int .i64 i'', .string t'']] w fun e w' => e = .returned (.bool true) ∧ Ext w w'))
    (Lab : RowKit.Hid (∀ w, Calls Try.prog 19 #[.agg #[.int .i64 k, .int .i64 i, .string t], .agg #[.int .i64 k', .int .i64 i', .string t']] w fun e w' => e = .returned (.bool true) ∧ Ext w w'))
    (Lba : RowKit.Hid (∀ w, Calls Try.prog 19 #[.agg #[.int .i64 k', .int .i64 i', .string t'], .agg #[.int .i64 k, .int .i64 i, .string t]] w fun e w' => e = .returned (.bool false) ∧ Ext w w'))
    (Lbc : RowKit.Hid (∀ w, Calls Try.prog 19 #[.agg #[.int .i64 k', .int .i64 i', .string t'], .agg #[.int .i64 k'', .int .i64 i'', .string t'']] w fun e w' => e = .returned (.bool false) ∧ Ext w w')) :
    Calls Try.prog 5 #[.agg #[.int .i64 k, .int .i64 i, .string s], .agg #[.int .i64 k', .int .i64 i', .string s'], .agg #[.int .i64 k'', .int .i64 i'', .string s'']] w fun e w' => e = .returned (.bool true) ∧ Ext w w' := by
  go_enter Try.func5, Try.ntmps5
  go_wp2_with fail
  refine wp_region_grow 5 65 [false, false, false, false, false] (by kernel_rfl) (by kernel_rfl) rfl ?_
  simp only [List.take_succ_cons, List.take_zero, List.drop_succ_cons, List.drop_zero]
  repeat (refine Lex.step rfl ?_; intro K hK; unfold StepG; go_simp; (first
    | refine hK _ ?_
    | (with_reducible refine ⟨_, ret_of (Ca.out), ?_⟩; go_simp; refine hK _ ?_)
    | (with_reducible refine ⟨_, ret_of (Cb.out), ?_⟩; go_simp; refine hK _ ?_)); clear hK K)
  refine Lex.nil fun W hE => ?_
  obtain ⟨d3, os3, rfl⟩ := hE
  unfold FillH
  go_wp2_with (go_at_call 10; refine (Cc.out _).mono ?_; rintro e _ ⟨rfl, d, os, rfl⟩)
  rw [ends_normal]
  go_wp2_with (first
    | (go_at_call 14; refine (awake_any _).mono ?_; rintro e _ ⟨rfl, d, os, rfl⟩)
    | (go_at_call 18; (first | with_reducible refine (Ma.out _).mono ?_ | with_reducible refine (Mb.out _).mono ?_ | with_reducible refine (Mc.out _).mono ?_); rintro e _ ⟨rfl, d, os, rfl⟩)
    | (go_at_call 19; subst_vars; (first | with_reducible refine (Lab.out _).mono ?_ | with_reducible refine (Lba.out _).mono ?_ | with_reducible refine (Lbc.out _).mono ?_); rintro e _ ⟨rfl, d, os, rfl⟩))
  all_goals try (exfalso; simp_all; done)
  all_goals
    go_ret
    refine ⟨?_, by repeat (first | exact Ext.refl _ | apply Ext.alloc | apply Ext.more)⟩
    first | rfl | (refine ret_bool ?_; simp_all)

set_option maxHeartbeats 4000000 in
set_option maxRecDepth 100000 in
theorem vord_o2 (k i : Int) (s t : ByteArray) (k' i' : Int) (s' t' : ByteArray) (k'' i'' : Int) (s'' t'' : ByteArray) (w : World) (hne : ¬ (k = k' ∧ i = i' ∧ t.toList = t'.toList))
    (Ca : RowKit.Hid (∀ w, Calls Try.prog 10 #[.agg #[.int .i64 k, .int .i64 i, .string s]] w fun e w' => e = .returned (.agg #[.int .i64 k, .int .i64 i, .string t]) ∧ Ext w w'))
    (Cb : RowKit.Hid (∀ w, Calls Try.prog 10 #[.agg #[.int .i64 k', .int .i64 i', .string s']] w fun e w' => e = .returned (.agg #[.int .i64 k', .int .i64 i', .string t']) ∧ Ext w w'))
    (Cc : RowKit.Hid (∀ w, Calls Try.prog 10 #[.agg #[.int .i64 k'', .int .i64 i'', .string s'']] w fun e w' => e = .returned (.agg #[.int .i64 k'', .int .i64 i'', .string t'']) ∧ Ext w w'))
    (Ma : RowKit.Hid (∀ w, Calls Try.prog 18 #[.agg #[.int .i64 k, .int .i64 i, .string t]] w fun e w' => e = .returned (.bool true) ∧ Ext w w'))
    (Mb : RowKit.Hid (∀ w, Calls Try.prog 18 #[.agg #[.int .i64 k', .int .i64 i', .string t']] w fun e w' => e = .returned (.bool true) ∧ Ext w w'))
    (Mc : RowKit.Hid (∀ w, Calls Try.prog 18 #[.agg #[.int .i64 k'', .int .i64 i'', .string t'']] w fun e w' => e = .returned (.bool true) ∧ Ext w w'))
    (Lab : RowKit.Hid (∀ w, Calls Try.prog 19 #[.agg #[.int .i64 k, .int .i64 i, .string t], .agg #[.int .i64 k', .int .i64 i', .string t']] w fun e w' => e = .returned (.bool true) ∧ Ext w w'))
    (Lba : RowKit.Hid (∀ w, Calls Try.prog 19 #[.agg #[.int .i64 k', .int .i64 i', .string t'], .agg #[.int .i64 k, .int .i64 i, .string t]] w fun e w' => e = .returned (.bool false) ∧ Ext w w'))
    (Lbc : RowKit.Hid (∀ w, Calls Try.prog 19 #[.agg #[.int .i64 k', .int .i64 i', .string t'], .agg #[.int .i64 k'', .int .i64 i'', .string t'']] w fun e w' => e = .returned (.bool true) ∧ Ext w w'))
    (Lac : RowKit.Hid (∀ w, Calls Try.prog 19 #[.agg #[.int .i64 k, .int .i64 i, .string t], .agg #[.int .i64 k'', .int .i64 i'', .string t'']] w fun e w' => e = .returned (.bool true) ∧ Ext w w')) :
    Calls Try.prog 5 #[.agg #[.int .i64 k, .int .i64 i, .string s], .agg #[.int .i64 k', .int .i64 i', .string s'], .agg #[.int .i64 k'', .int .i64 i'', .string s'']] w fun e w' => e = .returned (.bool true) ∧ Ext w w' := by
  go_enter Try.func5, Try.ntmps5
  go_wp2_with fail
  refine wp_region_grow 5 65 [false, false, false, false, false] (by kernel_rfl) (by kernel_rfl) rfl ?_
  simp only [List.take_succ_cons, List.take_zero, List.drop_succ_cons, List.drop_zero]
  repeat (refine Lex.step rfl ?_; intro K hK; unfold StepG; go_simp; (first
    | refine hK _ ?_
    | (with_reducible refine ⟨_, ret_of (Ca.out), ?_⟩; go_simp; refine hK _ ?_)
    | (with_reducible refine ⟨_, ret_of (Cb.out), ?_⟩; go_simp; refine hK _ ?_)); clear hK K)
  refine Lex.nil fun W hE => ?_
  obtain ⟨d3, os3, rfl⟩ := hE
  unfold FillH
  go_wp2_with (go_at_call 10; refine (Cc.out _).mono ?_; rintro e _ ⟨rfl, d, os, rfl⟩)
  rw [ends_normal]
  go_wp2_with (first
    | (go_at_call 14; refine (awake_any _).mono ?_; rintro e _ ⟨rfl, d, os, rfl⟩)
    | (go_at_call 18; (first | with_reducible refine (Ma.out _).mono ?_ | with_reducible refine (Mb.out _).mono ?_ | with_reducible refine (Mc.out _).mono ?_); rintro e _ ⟨rfl, d, os, rfl⟩)
    | (go_at_call 19; subst_vars; (first | with_reducible refine (Lab.out _).mono ?_ | with_reducible refine (Lba.out _).mono ?_ | with_reducible refine (Lbc.out _).mono ?_ | with_reducible refine (Lac.out _).mono ?_); rintro e _ ⟨rfl, d, os, rfl⟩))
  all_goals try (exfalso; simp_all; done)
  all_goals
    go_ret
    refine ⟨?_, by repeat (first | exact Ext.refl _ | apply Ext.alloc | apply Ext.more)⟩
    first | rfl | (refine ret_bool ?_; simp_all)

set_option maxHeartbeats 4000000 in
set_option maxRecDepth 100000 in
theorem vord_o3 (k i : Int) (s t : ByteArray) (k' i' : Int) (s' t' : ByteArray) (k'' i'' : Int) (s'' t'' : ByteArray) (w : World) (hne : ¬ (k = k' ∧ i = i' ∧ t.toList = t'.toList))
    (Ca : RowKit.Hid (∀ w, Calls Try.prog 10 #[.agg #[.int .i64 k, .int .i64 i, .string s]] w fun e w' => e = .returned (.agg #[.int .i64 k, .int .i64 i, .string t]) ∧ Ext w w'))
    (Cb : RowKit.Hid (∀ w, Calls Try.prog 10 #[.agg #[.int .i64 k', .int .i64 i', .string s']] w fun e w' => e = .returned (.agg #[.int .i64 k', .int .i64 i', .string t']) ∧ Ext w w'))
    (Cc : RowKit.Hid (∀ w, Calls Try.prog 10 #[.agg #[.int .i64 k'', .int .i64 i'', .string s'']] w fun e w' => e = .returned (.agg #[.int .i64 k'', .int .i64 i'', .string t'']) ∧ Ext w w'))
    (Ma : RowKit.Hid (∀ w, Calls Try.prog 18 #[.agg #[.int .i64 k, .int .i64 i, .string t]] w fun e w' => e = .returned (.bool true) ∧ Ext w w'))
    (Mb : RowKit.Hid (∀ w, Calls Try.prog 18 #[.agg #[.int .i64 k', .int .i64 i', .string t']] w fun e w' => e = .returned (.bool true) ∧ Ext w w'))
    (Mc : RowKit.Hid (∀ w, Calls Try.prog 18 #[.agg #[.int .i64 k'', .int .i64 i'', .string t'']] w fun e w' => e = .returned (.bool true) ∧ Ext w w'))
    (Lab : RowKit.Hid (∀ w, Calls Try.prog 19 #[.agg #[.int .i64 k, .int .i64 i, .string t], .agg #[.int .i64 k', .int .i64 i', .string t']] w fun e w' => e = .returned (.bool false) ∧ Ext w w'))
    (Lba : RowKit.Hid (∀ w, Calls Try.prog 19 #[.agg #[.int .i64 k', .int .i64 i', .string t'], .agg #[.int .i64 k, .int .i64 i, .string t]] w fun e w' => e = .returned (.bool true) ∧ Ext w w')) :
    Calls Try.prog 5 #[.agg #[.int .i64 k, .int .i64 i, .string s], .agg #[.int .i64 k', .int .i64 i', .string s'], .agg #[.int .i64 k'', .int .i64 i'', .string s'']] w fun e w' => e = .returned (.bool true) ∧ Ext w w' := by
  go_enter Try.func5, Try.ntmps5
  go_wp2_with fail
  refine wp_region_grow 5 65 [false, false, false, false, false] (by kernel_rfl) (by kernel_rfl) rfl ?_
  simp only [List.take_succ_cons, List.take_zero, List.drop_succ_cons, List.drop_zero]
  repeat (refine Lex.step rfl ?_; intro K hK; unfold StepG; go_simp; (first
    | refine hK _ ?_
    | (with_reducible refine ⟨_, ret_of (Ca.out), ?_⟩; go_simp; refine hK _ ?_)
    | (with_reducible refine ⟨_, ret_of (Cb.out), ?_⟩; go_simp; refine hK _ ?_)); clear hK K)
  refine Lex.nil fun W hE => ?_
  obtain ⟨d3, os3, rfl⟩ := hE
  unfold FillH
  go_wp2_with (go_at_call 10; refine (Cc.out _).mono ?_; rintro e _ ⟨rfl, d, os, rfl⟩)
  rw [ends_normal]
  go_wp2_with (first
    | (go_at_call 14; refine (awake_any _).mono ?_; rintro e _ ⟨rfl, d, os, rfl⟩)
    | (go_at_call 18; (first | with_reducible refine (Ma.out _).mono ?_ | with_reducible refine (Mb.out _).mono ?_ | with_reducible refine (Mc.out _).mono ?_); rintro e _ ⟨rfl, d, os, rfl⟩)
    | (go_at_call 19; subst_vars; (first | with_reducible refine (Lab.out _).mono ?_ | with_reducible refine (Lba.out _).mono ?_); rintro e _ ⟨rfl, d, os, rfl⟩))
  all_goals try (exfalso; simp_all; done)
  all_goals
    go_ret
    refine ⟨?_, by repeat (first | exact Ext.refl _ | apply Ext.alloc | apply Ext.more)⟩
    first | rfl | (refine ret_bool ?_; simp_all)

set_option maxHeartbeats 4000000 in
set_option maxRecDepth 100000 in
theorem vord_o4 (k i : Int) (s t : ByteArray) (s' : ByteArray) (k'' i'' : Int) (s'' t'' : ByteArray) (w : World) 
    (Ca : RowKit.Hid (∀ w, Calls Try.prog 10 #[.agg #[.int .i64 k, .int .i64 i, .string s]] w fun e w' => e = .returned (.agg #[.int .i64 k, .int .i64 i, .string t]) ∧ Ext w w'))
    (Cb : RowKit.Hid (∀ w, Calls Try.prog 10 #[.agg #[.int .i64 k, .int .i64 i, .string s']] w fun e w' => e = .returned (.agg #[.int .i64 k, .int .i64 i, .string t]) ∧ Ext w w'))
    (Cc : RowKit.Hid (∀ w, Calls Try.prog 10 #[.agg #[.int .i64 k'', .int .i64 i'', .string s'']] w fun e w' => e = .returned (.agg #[.int .i64 k'', .int .i64 i'', .string t'']) ∧ Ext w w'))
    (Ma : RowKit.Hid (∀ w, Calls Try.prog 18 #[.agg #[.int .i64 k, .int .i64 i, .string t]] w fun e w' => e = .returned (.bool true) ∧ Ext w w'))
    (Mc : RowKit.Hid (∀ w, Calls Try.prog 18 #[.agg #[.int .i64 k'', .int .i64 i'', .string t'']] w fun e w' => e = .returned (.bool true) ∧ Ext w w'))
    (Lab : RowKit.Hid (∀ w, Calls Try.prog 19 #[.agg #[.int .i64 k, .int .i64 i, .string t], .agg #[.int .i64 k, .int .i64 i, .string t]] w fun e w' => e = .returned (.bool false) ∧ Ext w w')) :
    Calls Try.prog 5 #[.agg #[.int .i64 k, .int .i64 i, .string s], .agg #[.int .i64 k, .int .i64 i, .string s'], .agg #[.int .i64 k'', .int .i64 i'', .string s'']] w fun e w' => e = .returned (.bool true) ∧ Ext w w' := by
  go_enter Try.func5, Try.ntmps5
  go_wp2_with fail
  refine wp_region_grow 5 65 [false, false, false, false, false] (by kernel_rfl) (by kernel_rfl) rfl ?_
  simp only [List.take_succ_cons, List.take_zero, List.drop_succ_cons, List.drop_zero]
  repeat (refine Lex.step rfl ?_; intro K hK; unfold StepG; go_simp; (first
    | refine hK _ ?_
    | (with_reducible refine ⟨_, ret_of (Ca.out), ?_⟩; go_simp; refine hK _ ?_)
    | (with_reducible refine ⟨_, ret_of (Cb.out), ?_⟩; go_simp; refine hK _ ?_)); clear hK K)
  refine Lex.nil fun W hE => ?_
  obtain ⟨d3, os3, rfl⟩ := hE
  unfold FillH
  go_wp2_with (go_at_call 10; refine (Cc.out _).mono ?_; rintro e _ ⟨rfl, d, os, rfl⟩)
  rw [ends_normal]
  go_wp2_with (first
    | (go_at_call 14; refine (awake_any _).mono ?_; rintro e _ ⟨rfl, d, os, rfl⟩)
    | (go_at_call 18; (first | with_reducible refine (Ma.out _).mono ?_ | with_reducible refine (Mc.out _).mono ?_); rintro e _ ⟨rfl, d, os, rfl⟩)
    | (go_at_call 19; subst_vars; refine (Lab.out _).mono ?_; rintro e _ ⟨rfl, d, os, rfl⟩))
  all_goals try (exfalso; simp_all; done)
  all_goals
    go_ret
    refine ⟨?_, by repeat (first | exact Ext.refl _ | apply Ext.alloc | apply Ext.more)⟩
    first | rfl | (refine ret_bool ?_; simp_all)

theorem vord_walk (k i : Int) (s : ByteArray) (k' i' : Int) (s' : ByteArray) (k'' i'' : Int) (s'' : ByteArray) (w : World) :
    Calls Try.prog 5 #[.agg #[.int .i64 k, .int .i64 i, .string s], .agg #[.int .i64 k', .int .i64 i', .string s'], .agg #[.int .i64 k'', .int .i64 i'', .string s'']] w fun e w' => e = .returned (.bool true) ∧ Ext w w' := by
  have c0 := fun w => few_any k i s w
  have c1 := fun w => few_any k' i' s' w
  have c2 := fun w => few_any k'' i'' s'' w
  generalize fewS s = t at c0
  generalize fewS s' = t' at c1
  generalize fewS s'' = t'' at c2
  have m0 := fun w => vmay_any k i t w
  have m1 := fun w => vmay_any k' i' t' w
  have m2 := fun w => vmay_any k'' i'' t'' w
  by_cases ha : mayB k i t = true
  case neg =>
    rw [Bool.not_eq_true] at ha
    rw [ha] at m0
    exact vord_m1 k i s t k' i' s' t' k'' i'' s'' t'' w (Lib.hid c0) (Lib.hid c1) (Lib.hid c2) (Lib.hid m0)
  rw [ha] at m0
  by_cases hb : mayB k' i' t' = true
  case neg =>
    rw [Bool.not_eq_true] at hb
    rw [hb] at m1
    exact vord_m2 k i s t k' i' s' t' k'' i'' s'' t'' w (Lib.hid c0) (Lib.hid c1) (Lib.hid c2) (Lib.hid m0) (Lib.hid m1)
  rw [hb] at m1
  by_cases hc : mayB k'' i'' t'' = true
  case neg =>
    rw [Bool.not_eq_true] at hc
    rw [hc] at m2
    exact vord_m3 k i s t k' i' s' t' k'' i'' s'' t'' w (Lib.hid c0) (Lib.hid c1) (Lib.hid c2) (Lib.hid m0) (Lib.hid m1) (Lib.hid m2)
  rw [hc] at m2
  have l0 := fun w => less_any k i t k' i' t' w
  have l1 := fun w => less_any k' i' t' k i t w
  have l2 := fun w => less_any k' i' t' k'' i'' t'' w
  have l3 := fun w => less_any k i t k'' i'' t'' w
  rcases ahead_cases k i t k' i' t' with ⟨h1, h2, h3⟩ | ⟨h1, h2, h3⟩ | ⟨h1, h2, h3, h4, h5⟩
  · rw [less_true ha hb h1] at l0
    rw [less_false h2] at l1
    by_cases h4 : Ahead k' i' t' k'' i'' t''
    · rw [less_true hb hc h4] at l2
      rw [less_true ha hc (ahead_trans h1 h4)] at l3
      exact vord_o2 k i s t k' i' s' t' k'' i'' s'' t'' w h3 (Lib.hid c0) (Lib.hid c1) (Lib.hid c2) (Lib.hid m0) (Lib.hid m1) (Lib.hid m2) (Lib.hid l0) (Lib.hid l1) (Lib.hid l2) (Lib.hid l3)
    · rw [less_false h4] at l2
      exact vord_o1 k i s t k' i' s' t' k'' i'' s'' t'' w h3 (Lib.hid c0) (Lib.hid c1) (Lib.hid c2) (Lib.hid m0) (Lib.hid m1) (Lib.hid m2) (Lib.hid l0) (Lib.hid l1) (Lib.hid l2)
  · rw [less_false h1] at l0
    rw [less_true hb ha h2] at l1
    exact vord_o3 k i s t k' i' s' t' k'' i'' s'' t'' w h3 (Lib.hid c0) (Lib.hid c1) (Lib.hid c2) (Lib.hid m0) (Lib.hid m1) (Lib.hid m2) (Lib.hid l0) (Lib.hid l1)
  · obtain rfl := bytes_ext h5
    subst h3 h4
    rw [less_false h1] at l0
    exact vord_o4 k i s t s' k'' i'' s'' t'' w (Lib.hid c0) (Lib.hid c1) (Lib.hid c2) (Lib.hid m0) (Lib.hid m2) (Lib.hid l0)

namespace ValueOrderRow
/-! ### The row -/
section
open Go.ChangeShapes Go.WideShapes Go.ChangeAt Go.RowKit Go.Joins
open Go.ChangeMaps (open_string shut_string)
theorem own : ownKnob Try.prog.godebug = none := by kernel_rfl
theorem valueCells : Try.prog.cellsOf 23 = 3 := by kernel_rfl

set_option maxRecDepth 100000 in
theorem lifted (os : Os) (started : os.Started) (H : Type) (enc : TypeId × Value → H) :
    ReturnsInHanded {} Try.checked os 5 .any (Rows.valueOrderSpec.pre6 enc Try.prog Try.f5 Rows.valueOrderRow.domain false) (Rows.valueOrderSpec.post enc Try.prog Try.f5 false true false false) := by
  refine returnsInHanded_of_change (C := Try.checked) own started (by kernel_rfl) Try.func5
    (ChangeSpec.witness6 (enc := enc) (C := Try.checked) false ⟨#[], #[.agg #[.int .i64 0, .int .i64 0, .string ⟨#[]⟩], .agg #[.int .i64 0, .int .i64 0, .string ⟨#[]⟩], .agg #[.int .i64 0, .int .i64 0, .string ⟨#[]⟩]], []⟩ 8 (by kernel_rfl) (by kernel_rfl) (by kernel_rfl) (by kernel_rfl)) ?_
  intro W base args ds gs before hval0 hW hcnd _
  have hval : ∀ (j : Nat) t v, Try.f5.params[j]? = some t → args[j]? = some v → Value.okWide Try.prog W .any base t v := hval0
  have hW' := hW
  obtain ⟨p, q, hA0, hV, rfl, hfz, hnd⟩ := hW
  have hA : DataW.TrodAll enc Try.prog W 0 (fun _ => true) true Try.f5.params.toList args.toList ds p := hA0
  rw [Try.params5] at hA hval
  obtain ⟨v0, vs0, d0, ds0, p0, q0, hargs, rfl, rfl, h0, r0⟩ := trodAll_cons hA
  obtain ⟨v1, vs1, d1, ds1, p1, q1, rfl, rfl, rfl, h1, r1⟩ := trodAll_cons r0
  obtain ⟨v2, vs2, d2, ds2, p2, q2, rfl, rfl, rfl, h2, r2⟩ := trodAll_cons r1
  obtain ⟨rfl, rfl, rfl⟩ := trodAll_nil r2
  obtain rfl : args = #[v0, v1, v2] := by cases args; simp_all
  obtain ⟨rfl, rfl⟩ := trodVars_none hV
  obtain ⟨c00, c01, c02, y00, y01, y02, m0, rfl, rfl, rfl, hy00, hy01, hy02⟩ := open_agg3 Try.underlying23 (by kernel_rfl) valueCells (hval 0 23 v0 rfl rfl) h0
  obtain ⟨a_k, e00, rfl, wa_k⟩ := DataW.trod_int Try.underlying3 hy00
  obtain ⟨a_i, e01, rfl, wa_i⟩ := DataW.trod_int Try.underlying2 hy01
  obtain ⟨a_s, e02, rfl, wa_s⟩ := DataW.trod_string Try.underlying9 hy02
  simp at e00 e01 e02
  subst e00 e01 e02
  obtain ⟨c10, c11, c12, y10, y11, y12, m1, rfl, rfl, rfl, hy10, hy11, hy12⟩ := open_agg3 Try.underlying23 (by kernel_rfl) valueCells (hval 1 23 v1 rfl rfl) h1
  obtain ⟨b_k, e10, rfl, wb_k⟩ := DataW.trod_int Try.underlying3 hy10
  obtain ⟨b_i, e11, rfl, wb_i⟩ := DataW.trod_int Try.underlying2 hy11
  obtain ⟨b_s, e12, rfl, wb_s⟩ := DataW.trod_string Try.underlying9 hy12
  simp at e10 e11 e12
  subst e10 e11 e12
  obtain ⟨c20, c21, c22, y20, y21, y22, m2, rfl, rfl, rfl, hy20, hy21, hy22⟩ := open_agg3 Try.underlying23 (by kernel_rfl) valueCells (hval 2 23 v2 rfl rfl) h2
  obtain ⟨c_k, e20, rfl, wc_k⟩ := DataW.trod_int Try.underlying3 hy20
  obtain ⟨c_i, e21, rfl, wc_i⟩ := DataW.trod_int Try.underlying2 hy21
  obtain ⟨c_s, e22, rfl, wc_s⟩ := DataW.trod_string Try.underlying9 hy22
  simp at e20 e21 e22
  subst e20 e21 e22
  clear hA0 hval0
  simp only [List.append_nil] at hW'
  refine (vord_walk a_k a_i a_s b_k b_i b_s c_k c_i c_s W).mono fun e W' ⟨he, hx⟩ => ?_
  subst he
  exact ⟨_, rfl, _, _, _, [], [], [], hW', trodAll_mk1 (shut_bool Try.underlying4 _), (trodAll_cons_mk (shut_agg3 (y0 := (.lit (.int .i64 a_k), [])) (y1 := (.lit (.int .i64 a_i), [])) (y2 := (.lit (.string a_s.data.toList), [])) Try.underlying23 (by kernel_rfl) valueCells ⟨1, by simp [DataW.trod, Try.underlying3, wa_k]⟩ ⟨1, by simp [DataW.trod, Try.underlying2, wa_i]⟩ ⟨1, by simp [DataW.trod, Try.underlying9, wa_s]⟩) (trodAll_cons_mk (shut_agg3 (y0 := (.lit (.int .i64 b_k), [])) (y1 := (.lit (.int .i64 b_i), [])) (y2 := (.lit (.string b_s.data.toList), [])) Try.underlying23 (by kernel_rfl) valueCells ⟨1, by simp [DataW.trod, Try.underlying3, wb_k]⟩ ⟨1, by simp [DataW.trod, Try.underlying2, wb_i]⟩ ⟨1, by simp [DataW.trod, Try.underlying9, wb_s]⟩) (trodAll_cons_mk (shut_agg3 (y0 := (.lit (.int .i64 c_k), [])) (y1 := (.lit (.int .i64 c_i), [])) (y2 := (.lit (.string c_s.data.toList), [])) Try.underlying23 (by kernel_rfl) valueCells ⟨1, by simp [DataW.trod, Try.underlying3, wc_k]⟩ ⟨1, by simp [DataW.trod, Try.underlying2, wc_i]⟩ ⟨1, by simp [DataW.trod, Try.underlying9, wc_s]⟩) trodAll_mk0))), rfl, hx.below.frame _, fun h => by cases h⟩

theorem proved : Rows.ValueOrderSaid :=
  OpenClaim.holds_of_wide 5 Try.f5 rfl rfl rfl rfl rfl rfl rfl ⟨rfl, rfl, rfl, rfl, rfl⟩ rfl rfl rfl rfl rfl (by kernel_rfl) Try.func5 (by kernel_rfl)
    (of_decide_eq_true (by kernel_rfl)) (by unfold Func.isWrapper; first | (rw [if_pos (by decide +kernel)]; kernel_rfl) | (rw [if_neg (by decide +kernel)]; exact ⟨rfl, rfl⟩))
    (fun os started H enc _ => lifted os started H enc)
end
#print axioms proved
end ValueOrderRow
end Go.Proofs.Ythekfgbiplmikaa
