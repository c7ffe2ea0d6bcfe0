/- The small methods of the document's parser. -/
import Derived.Test.YtoaaklcbcbjaiaaRar1
import Derived.Test.YtoaaklcbcbjaiaaPar4
set_option linter.unusedSimpArgs false
set_option linter.unusedVariables false
namespace Go.Proofs.Ytoaaklcbcbjaiaa
open Go.RowKit
attribute [go_sem] more_more Array.size_append

set_option maxHeartbeats 1000000 in
theorem rfail_alive {b lb lo cap : Nat} {nv : Value} {L : Toks} {m : Nat} {N : List Nd} {w : World} {wh : Int} (h : Rt b lb lo cap nv L m N 0 wh w) (c : Int) :
    Calls Try.prog 34 #[.pointer (some ⟨b, 0, none⟩), .int .i64 c] w fun e w' => e = .returned (.tuple #[]) ∧ ∃ w1, Ext w w1 ∧ w' = (w1.setCell ⟨b, 3, none⟩ (.int .i64 c)).setCell ⟨b, 4, none⟩ (.int .i64 (tk L m).2) := by
  obtain ⟨c0, c1, c2, c3, c4, f1, f2, f3, f4, hb⟩ := h.facts
  obtain ⟨t0, t1, t2, t3, hlb⟩ := h.tokFacts
  have hp : (m : Int) < (L.length : Int) := by have := h.pos; omega
  have hp0 : 0 ≤ (m : Int) := by omega
  have hmx : (m : Int) ≤ 5000 := by have := h.ends.few; have := h.pos; omega
  have hne1 : lb ≠ b := by have := h.low; omega
  obtain ⟨⟨⟨k, ts, i⟩, a⟩, htt⟩ : ∃ tt, tk L m = tt := ⟨_, rfl⟩
  rw [htt] at t0 t1 t2 t3 ⊢
  dsimp only at t0 t1 t2 t3 ⊢
  clear htt h c2 f1 f2
  go_enter Try.func34, Try.ntmps34
  go_wp2_with fail
  refine wp_region_grow 14 27 [false, false, false, false, false, false, false, false, false, false, false, false, false, false] (by kernel_rfl) (by kernel_rfl) rfl ?_
  simp only [List.take_succ_cons, List.take_zero, List.drop_succ_cons, List.drop_zero]
  repeat (refine Lex.step rfl ?_; intro K hK; unfold StepG; go_simp; (first
      | refine hK _ ?_); clear hK K)
  refine Lex.nil fun WW hE => ?_
  obtain ⟨dd, oo, rfl⟩ := hE
  unfold FillH
  go_wp2_with fail
  rw [ends_normal]
  go_wp2_with fail
  go_end0
  exact ⟨rfl, more w dd oo, by repeat (first | exact Ext.refl _ | apply Ext.alloc | apply Ext.more), by rw [more_setCell _ _ _ _ _ _ hb, more_setCell _ _ _ _ _ _ (by simpa using hb)]⟩

set_option maxHeartbeats 1000000 in
theorem rfail_dead {b lb lo cap : Nat} {nv : Value} {L : Toks} {m : Nat} {N : List Nd} {w : World} {wh : Int} {ee : Int} (hee : ee ≠ 0) (h : Rt b lb lo cap nv L m N ee wh w) (c : Int) :
    Calls Try.prog 34 #[.pointer (some ⟨b, 0, none⟩), .int .i64 c] w fun e w' => e = .returned (.tuple #[]) ∧ Ext w w' := by
  obtain ⟨c0, c1, c2, c3, c4, f1, f2, f3, f4, hb⟩ := h.facts
  have q : (ee == 0) = false := by simpa using hee
  clear h c0 c1 c2 c4 f1 f2 f3 f4 hee
  go_enter Try.func34, Try.ntmps34
  go_wp2_with fail
  go_end0
  exact ⟨rfl, by repeat (first | exact Ext.refl _ | apply Ext.alloc | apply Ext.more)⟩

set_option maxHeartbeats 2000000 in
theorem sees_alive {b lb lo cap : Nat} {nv : Value} {L : Toks} {m : Nat} {N : List Nd} {w : World} {wh : Int} (h : Rt b lb lo cap nv L m N 0 wh w) (s : ByteArray) (hs : (s.size : Int) ≤ 100) :
    Calls Try.prog 97 #[.pointer (some ⟨b, 0, none⟩), .string s] w fun e w' => e = .returned (.bool (isP L s m)) ∧ Ext w w' := by
  obtain ⟨c0, c1, c2, c3, c4, f1, f2, f3, f4, hb⟩ := h.facts
  obtain ⟨t0, t1, t2, t3, hlb⟩ := h.tokFacts
  have hp : (m : Int) < (L.length : Int) := by have := h.pos; omega
  have hp0 : 0 ≤ (m : Int) := by omega
  have hmx : (m : Int) ≤ 5000 := by have := h.ends.few; have := h.pos; omega
  have hne1 : lb ≠ b := by have := h.low; omega
  obtain ⟨⟨⟨k, ts, i⟩, a⟩, htt⟩ : ∃ tt, tk L m = tt := ⟨_, rfl⟩
  have W := Lib.hid (rword_any s hs)
  cases hw : wordB s
  all_goals
    rw [hw] at W
    rw [isP_eq htt s _ hw]
    rw [htt] at t0 t1 t2 t3
    dsimp only at t0 t1 t2 t3 ⊢
    clear htt hw h c2 c4 f1 f2 f3 f4 hmx
  · by_cases hk : (k == 4) = true
    · rw [if_neg (by simp), hk]
      go_enter Try.func97, Try.ntmps97
      go_wp2_with fail
      refine wp_region_grow 11 36 [false, false, false, false, false, false, false, false, false, false, false] (by kernel_rfl) (by kernel_rfl) rfl ?_
      simp only [List.take_succ_cons, List.take_zero, List.drop_succ_cons, List.drop_zero]
      iterate 10 (refine Lex.step rfl ?_; intro K hK; unfold StepG; go_simp; refine hK _ ?_; clear hK K)
      refine Lex.alloc 5 (.cells #[.int .i64 0, .int .i64 0, .string ⟨#[]⟩, .int .i64 0] 57) rfl rfl (fun d os => ?_) ?_
      · unfold StepG
        go_simp
        exact ⟨(Ext.refl _).alloc _, NewBlk.of_alloc _ _ _ _ _ (by simp [more_size])⟩
      refine Lex.nil fun WW hE => ?_
      intro u hu
      obtain ⟨dt1, ot1, dt2, ot2, rfl, rfl⟩ := hu.split hE
      clear hu hE
      go_simp
      unfold FillH
      go_wp2_with fail
      rw [ends_normal]
      go_wp2_with (go_at_call 50; refine (W.out _).mono ?_; rintro e _ ⟨rfl, d, os, rfl⟩)
      go_ret
      exact ⟨ret_bool (by simp), by repeat (first | exact Ext.refl _ | apply Ext.alloc | apply Ext.more)⟩
    · have hk2 : (k == 4) = false := by simpa using hk
      clear hk
      rw [if_neg (by simp), hk2]
      go_enter Try.func97, Try.ntmps97
      go_wp2_with fail
      refine wp_region_grow 11 36 [false, false, false, false, false, false, false, false, false, false, false] (by kernel_rfl) (by kernel_rfl) rfl ?_
      simp only [List.take_succ_cons, List.take_zero, List.drop_succ_cons, List.drop_zero]
      iterate 10 (refine Lex.step rfl ?_; intro K hK; unfold StepG; go_simp; refine hK _ ?_; clear hK K)
      refine Lex.alloc 5 (.cells #[.int .i64 0, .int .i64 0, .string ⟨#[]⟩, .int .i64 0] 57) rfl rfl (fun d os => ?_) ?_
      · unfold StepG
        go_simp
        exact ⟨(Ext.refl _).alloc _, NewBlk.of_alloc _ _ _ _ _ (by simp [more_size])⟩
      refine Lex.nil fun WW hE => ?_
      intro u hu
      obtain ⟨dt1, ot1, dt2, ot2, rfl, rfl⟩ := hu.split hE
      clear hu hE
      go_simp
      unfold FillH
      go_wp2_with fail
      rw [ends_normal]
      go_wp2_with (go_at_call 50; refine (W.out _).mono ?_; rintro e _ ⟨rfl, d, os, rfl⟩)
      go_ret
      exact ⟨ret_bool (by simp), by repeat (first | exact Ext.refl _ | apply Ext.alloc | apply Ext.more)⟩
  · by_cases hk : (k == 5) = true
    · rw [if_pos rfl, hk]
      go_enter Try.func97, Try.ntmps97
      go_wp2_with fail
      refine wp_region_grow 11 36 [false, false, false, false, false, false, false, false, false, false, false] (by kernel_rfl) (by kernel_rfl) rfl ?_
      simp only [List.take_succ_cons, List.take_zero, List.drop_succ_cons, List.drop_zero]
      iterate 10 (refine Lex.step rfl ?_; intro K hK; unfold StepG; go_simp; refine hK _ ?_; clear hK K)
      refine Lex.alloc 5 (.cells #[.int .i64 0, .int .i64 0, .string ⟨#[]⟩, .int .i64 0] 57) rfl rfl (fun d os => ?_) ?_
      · unfold StepG
        go_simp
        exact ⟨(Ext.refl _).alloc _, NewBlk.of_alloc _ _ _ _ _ (by simp [more_size])⟩
      refine Lex.nil fun WW hE => ?_
      intro u hu
      obtain ⟨dt1, ot1, dt2, ot2, rfl, rfl⟩ := hu.split hE
      clear hu hE
      go_simp
      unfold FillH
      go_wp2_with fail
      rw [ends_normal]
      go_wp2_with (go_at_call 50; refine (W.out _).mono ?_; rintro e _ ⟨rfl, d, os, rfl⟩)
      go_ret
      exact ⟨ret_bool (by simp), by repeat (first | exact Ext.refl _ | apply Ext.alloc | apply Ext.more)⟩
    · have hk2 : (k == 5) = false := by simpa using hk
      clear hk
      rw [if_pos rfl, hk2]
      go_enter Try.func97, Try.ntmps97
      go_wp2_with fail
      refine wp_region_grow 11 36 [false, false, false, false, false, false, false, false, false, false, false] (by kernel_rfl) (by kernel_rfl) rfl ?_
      simp only [List.take_succ_cons, List.take_zero, List.drop_succ_cons, List.drop_zero]
      iterate 10 (refine Lex.step rfl ?_; intro K hK; unfold StepG; go_simp; refine hK _ ?_; clear hK K)
      refine Lex.alloc 5 (.cells #[.int .i64 0, .int .i64 0, .string ⟨#[]⟩, .int .i64 0] 57) rfl rfl (fun d os => ?_) ?_
      · unfold StepG
        go_simp
        exact ⟨(Ext.refl _).alloc _, NewBlk.of_alloc _ _ _ _ _ (by simp [more_size])⟩
      refine Lex.nil fun WW hE => ?_
      intro u hu
      obtain ⟨dt1, ot1, dt2, ot2, rfl, rfl⟩ := hu.split hE
      clear hu hE
      go_simp
      unfold FillH
      go_wp2_with fail
      rw [ends_normal]
      go_wp2_with (go_at_call 50; refine (W.out _).mono ?_; rintro e _ ⟨rfl, d, os, rfl⟩)
      go_ret
      exact ⟨ret_bool (by simp), by repeat (first | exact Ext.refl _ | apply Ext.alloc | apply Ext.more)⟩

set_option maxHeartbeats 2000000 in
theorem sees_dead {b lb lo cap : Nat} {nv : Value} {L : Toks} {m : Nat} {N : List Nd} {w : World} {wh : Int} {ee : Int} (hee : ee ≠ 0) (h : Rt b lb lo cap nv L m N ee wh w) (s : ByteArray) (hs : (s.size : Int) ≤ 100) :
    Calls Try.prog 97 #[.pointer (some ⟨b, 0, none⟩), .string s] w fun e w' => e = .returned (.bool false) ∧ Ext w w' := by
  obtain ⟨c0, c1, c2, c3, c4, f1, f2, f3, f4, hb⟩ := h.facts
  obtain ⟨t0, t1, t2, t3, hlb⟩ := h.tokFacts
  have hp : (m : Int) < (L.length : Int) := by have := h.pos; omega
  have hp0 : 0 ≤ (m : Int) := by omega
  have hmx : (m : Int) ≤ 5000 := by have := h.ends.few; have := h.pos; omega
  have hne1 : lb ≠ b := by have := h.low; omega
  obtain ⟨⟨⟨k, ts, i⟩, a⟩, htt⟩ : ∃ tt, tk L m = tt := ⟨_, rfl⟩
  have W := Lib.hid (rword_any s hs)
  have q : (ee == 0) = false := by simpa using hee
  cases hw : wordB s
  all_goals
    rw [hw] at W
    rw [htt] at t0 t1 t2 t3
    dsimp only at t0 t1 t2 t3 ⊢
    clear htt hw h c2 c4 f1 f2 f3 f4 hmx hee
    go_enter Try.func97, Try.ntmps97
    go_wp2_with fail
    refine wp_region_grow 11 36 [false, false, false, false, false, false, false, false, false, false, false] (by kernel_rfl) (by kernel_rfl) rfl ?_
    simp only [List.take_succ_cons, List.take_zero, List.drop_succ_cons, List.drop_zero]
    iterate 10 (refine Lex.step rfl ?_; intro K hK; unfold StepG; go_simp; refine hK _ ?_; clear hK K)
    refine Lex.alloc 5 (.cells #[.int .i64 0, .int .i64 0, .string ⟨#[]⟩, .int .i64 0] 57) rfl rfl (fun d os => ?_) ?_
    · unfold StepG
      go_simp
      exact ⟨(Ext.refl _).alloc _, NewBlk.of_alloc _ _ _ _ _ (by simp [more_size])⟩
    refine Lex.nil fun WW hE => ?_
    intro u hu
    obtain ⟨dt1, ot1, dt2, ot2, rfl, rfl⟩ := hu.split hE
    clear hu hE
    go_simp
    unfold FillH
    go_wp2_with fail
    rw [ends_normal]
    go_wp2_with (go_at_call 50; refine (W.out _).mono ?_; rintro e _ ⟨rfl, d, os, rfl⟩)
    go_ret
    exact ⟨rfl, by repeat (first | exact Ext.refl _ | apply Ext.alloc | apply Ext.more)⟩

theorem rfail_st {b lb lo cap : Nat} {nv : Value} {L : Toks} {m : Nat} {N : List Nd} {w : World} (h : Rt b lb lo cap nv L m N 0 0 w) (c : Int) (hc : c ≠ 0) :
    Calls Try.prog 34 #[.pointer (some ⟨b, 0, none⟩), .int .i64 c] w fun e w' => e = .returned (.tuple #[]) ∧ Rt b lb lo cap nv L m N c (tk L m).2 w' ∧ Kp b nv nv w w' :=
  (rfail_alive h c).mono fun e w' ⟨he, w1, hx, hw⟩ => ⟨he, hw ▸ (h.ext hx).setErr c _ hc, hw ▸ (((Kp.refl b nv w).ext hx).setB 3 _).setB 4 _⟩

set_option maxHeartbeats 1000000 in
theorem take_dead {b lb lo cap : Nat} {nv : Value} {L : Toks} {m : Nat} {N : List Nd} {w : World} {wh : Int} {ee : Int} (hee : ee ≠ 0) (h : Rt b lb lo cap nv L m N ee wh w) (s : ByteArray) (hs : (s.size : Int) ≤ 100) :
    Calls Try.prog 75 #[.pointer (some ⟨b, 0, none⟩), .string s] w fun e w' => e = .returned (.bool false) ∧ Ext w w' := by
  have I := Lib.hid (sees_dead hee h s hs)
  clear h hee
  go_enter Try.func75, Try.ntmps75
  go_wp2_with ((go_at_call 97; (with_reducible refine I.out.mono ?_); rintro e _ ⟨rfl, d, os, rfl⟩))
  go_ret
  exact ⟨rfl, by repeat (first | exact Ext.refl _ | apply Ext.alloc | apply Ext.more)⟩

set_option maxHeartbeats 1000000 in
theorem take_no {b lb lo cap : Nat} {nv : Value} {L : Toks} {m : Nat} {N : List Nd} {w : World} (h : Rt b lb lo cap nv L m N 0 0 w) (s : ByteArray) (hs : (s.size : Int) ≤ 100) (hn : isP L s m = false) :
    Calls Try.prog 75 #[.pointer (some ⟨b, 0, none⟩), .string s] w fun e w' => e = .returned (.bool false) ∧ Ext w w' := by
  have I := Lib.hid (sees_alive h s hs)
  rw [hn] at I
  clear hn h
  go_enter Try.func75, Try.ntmps75
  go_wp2_with ((go_at_call 97; (with_reducible refine I.out.mono ?_); rintro e _ ⟨rfl, d, os, rfl⟩))
  go_ret
  exact ⟨rfl, by repeat (first | exact Ext.refl _ | apply Ext.alloc | apply Ext.more)⟩

set_option maxHeartbeats 1000000 in
theorem take_yes {b lb lo cap : Nat} {nv : Value} {L : Toks} {m : Nat} {N : List Nd} {w : World} (h : Rt b lb lo cap nv L m N 0 0 w) (s : ByteArray) (hs : (s.size : Int) ≤ 100) (hn : isP L s m = true) :
    Calls Try.prog 75 #[.pointer (some ⟨b, 0, none⟩), .string s] w fun e w' => e = .returned (.bool true) ∧ Rt b lb lo cap nv L (m + 1) N 0 0 w' ∧ Kp b nv nv w w' := by
  have I := Lib.hid (sees_alive h s hs)
  have H := Lib.hid h
  have NX := Lib.hid (h.next (isP_ne hn))
  rw [hn] at I
  have hm : (m : Int) ≤ 5000 := by have := h.ends.few; have := h.pos; omega
  have hm0 : 0 ≤ (m : Int) := by omega
  obtain ⟨c0, c1, c2, c3, c4, f1, f2, f3, f4, hb⟩ := h.facts
  clear hn h c0 c2 c3 c4 f2 f3 f4
  go_enter Try.func75, Try.ntmps75
  go_wp2_with ((go_at_call 97; (with_reducible refine I.out.mono ?_); rintro e _ ⟨rfl, d, os, rfl⟩))
  go_ret
  exact ⟨rfl, by rw [← more_setCell _ _ _ _ _ _ hb]; exact (H.out.more d os).setAt (m + 1) _ (by omega) NX.out, by rw [← more_setCell _ _ _ _ _ _ hb]; exact ((Kp.refl b nv w).more d os).setB 1 _⟩

set_option maxHeartbeats 1000000 in
theorem need_dead {b lb lo cap : Nat} {nv : Value} {L : Toks} {m : Nat} {N : List Nd} {w : World} {wh : Int} {ee : Int} (hee : ee ≠ 0) (h : Rt b lb lo cap nv L m N ee wh w) (s : ByteArray) (hs : (s.size : Int) ≤ 100) :
    Calls Try.prog 71 #[.pointer (some ⟨b, 0, none⟩), .string s] w fun e w' => e = .returned (.tuple #[]) ∧ Ext w w' := by
  have I := Lib.hid (take_dead hee h s hs)
  have FL : RowKit.Hid (∀ (c : Int) w1, Ext w w1 → Calls Try.prog 34 #[.pointer (some ⟨b, 0, none⟩), .int .i64 c] w1 fun e w' => e = .returned (.tuple #[]) ∧ Ext w1 w') := Lib.hid fun c w1 hx => rfail_dead hee (h.ext hx) c
  clear h hee
  go_enter Try.func71, Try.ntmps71
  go_wp2_with (first
    | ((go_at_call 75; (with_reducible refine I.out.mono ?_); rintro e _ ⟨rfl, d, os, rfl⟩))
    | ((go_at_call 34; (with_reducible refine (FL.out _ _ (by repeat (first | exact Ext.refl _ | apply Ext.alloc | apply Ext.more))).mono ?_); rintro e _ ⟨rfl, d2, os2, rfl⟩)))
  go_end0
  exact ⟨rfl, by repeat (first | exact Ext.refl _ | apply Ext.alloc | apply Ext.more)⟩

set_option maxHeartbeats 1000000 in
theorem need_any {b lb lo cap : Nat} {nv : Value} {L : Toks} {m : Nat} {N : List Nd} {w : World} (h : Rt b lb lo cap nv L m N 0 0 w) (s : ByteArray) (hs : (s.size : Int) ≤ 100) (r : PR Unit) (hr : must1 L s m N.length = r) :
    Calls Try.prog 71 #[.pointer (some ⟨b, 0, none⟩), .string s] w (RPost unitV isUnit b lb lo cap nv L m N w r) := by
  unfold must1 at hr
  cases hn : isP L s m
  · rw [hn, if_neg (by simp)] at hr
    subst hr
    have I := Lib.hid (take_no h s hs hn)
    have FL : RowKit.Hid (∀ w1, Ext w w1 → Calls Try.prog 34 #[.pointer (some ⟨b, 0, none⟩), .int .i64 3] w1 fun e w' => e = .returned (.tuple #[]) ∧ Rt b lb lo cap nv L m N 3 (tk L m).2 w' ∧ Kp b nv nv w1 w') := Lib.hid fun w1 hx => rfail_st (h.ext hx) 3 (by decide)
    clear h hn
    go_enter Try.func71, Try.ntmps71
    go_wp2_with (first
      | ((go_at_call 75; (with_reducible refine I.out.mono ?_); rintro e _ ⟨rfl, d, os, rfl⟩))
      | ((go_at_call 34; (with_reducible refine (FL.out _ (by repeat (first | exact Ext.refl _ | apply Ext.alloc | apply Ext.more))).mono ?_); rintro e w2 ⟨rfl, hs2, hk2⟩; have HS2 := Lib.hid hs2; have HK2 := Lib.hid hk2; clear hs2 hk2)))
    go_end0
    exact RPost.err (by decide) rfl HS2.out (((Kp.refl b nv w).more _ _).trans HK2.out)
  · rw [hn, if_pos rfl] at hr
    subst hr
    have I := Lib.hid (take_yes h s hs hn)
    clear h hn
    go_enter Try.func71, Try.ntmps71
    go_wp2_with ((go_at_call 75; (with_reducible refine I.out.mono ?_); rintro e w2 ⟨rfl, hs2, hk2⟩; have HS2 := Lib.hid hs2; have HK2 := Lib.hid hk2; clear hs2 hk2))
    go_end0
    exact RPost.res rfl (HS2.out.cast (List.append_nil N).symm) HK2.out (Nat.le_succ _)

set_option maxHeartbeats 1000000 in
theorem new_any (k a c : Int) (w : World) : Calls Try.prog 70 #[.int .i64 k, .int .i64 a, .int .i64 c] w fun e w' => e = .returned (.agg #[.int .i64 k, .int .i64 a, .int .i64 c, .int .i64 (-1), .int .i64 (-1), .int .i64 0, .string ⟨#[]⟩, .string ⟨#[]⟩]) ∧ Ext w w' := by
  go_enter Try.func70, Try.ntmps70
  go_wp2_with fail
  exact bodyPost_ret (v := .agg #[.int .i64 k, .int .i64 a, .int .i64 c, .int .i64 (-1), .int .i64 (-1), .int .i64 0, .string ⟨#[]⟩, .string ⟨#[]⟩]) (by simp [results, Try.results70, go_sem]) rfl ⟨rfl, by repeat (first | exact Ext.refl _ | apply Ext.alloc | apply Ext.more)⟩
end Go.Proofs.Ytoaaklcbcbjaiaa
