/- turns, signs, sign, begins of the document's parser. -/
import Derived.Test.YtoaaklcbcbjaiaaRar3
set_option linter.unusedSimpArgs false
set_option linter.unusedVariables false
namespace Go.Proofs.Ytoaaklcbcbjaiaa
open Go.RowKit
attribute [go_sem] more_more Array.size_append

set_option maxHeartbeats 2000000 in
theorem rturns_dead {b lb lo cap : Nat} {nv : Value} {L : Toks} {m : Nat} {N : List Nd} {w : World} {wh : Int} {ee : Int} (hee : ee ≠ 0) (h : Rt b lb lo cap nv L m N ee wh w) :
    Calls Try.prog 76 #[.pointer (some ⟨b, 0, none⟩)] w fun e w' => e = .returned (.int .i64 0) ∧ Ext w w' := by
  have FL : RowKit.Hid (∀ (c : Int) w1, Ext w w1 → Calls Try.prog 34 #[.pointer (some ⟨b, 0, none⟩), .int .i64 c] w1 fun e w' => e = .returned (.tuple #[]) ∧ Ext w1 w') := Lib.hid fun c w1 hx => rfail_dead hee (h.ext hx) c
  have KD : RowKit.Hid (∀ (c : Int) w1, Ext w w1 → Calls Try.prog 69 #[.pointer (some ⟨b, 0, none⟩), .int .i64 c] w1 fun e w' => e = .returned (.agg #[.int .i64 0, .int .i64 0, .string ⟨#[]⟩, .int .i64 0]) ∧ Ext w1 w') := Lib.hid fun c w1 hx => kind_dead hee (h.ext hx) c
  obtain ⟨c0, c1, c2, c3, c4, f1, f2, f3, f4, hb⟩ := h.facts
  obtain ⟨t0, t1, t2, t3, hlb⟩ := h.tokFacts
  have hp : (m : Int) < (L.length : Int) := by have := h.pos; omega
  have hp0 : 0 ≤ (m : Int) := by omega
  have hne1 : lb ≠ b := by have := h.low; omega
  obtain ⟨⟨⟨k, ts, i⟩, a⟩, htt⟩ : ∃ tt, tk L m = tt := ⟨_, rfl⟩
  rw [htt] at t0 t1 t2 t3
  dsimp only at t0 t1 t2 t3
  clear htt h c2 c4 f1 f2 f3 f4 hee
  cases hk : (k == 2)
  · 
    go_enter Try.func76, Try.ntmps76
    go_wp2_with fail
    refine wp_region_grow 11 27 [false, false, false, false, false, false, false, false, false, false, false] (by kernel_rfl) (by kernel_rfl) rfl ?_
    simp only [List.take_succ_cons, List.take_zero, List.drop_succ_cons, List.drop_zero]
    iterate 10 (refine Lex.step rfl ?_; intro K hK; unfold StepG; go_simp; refine hK _ ?_; clear hK K)
    refine Lex.alloc 3 (.cells #[.int .i64 0, .int .i64 0, .string ⟨#[]⟩, .int .i64 0] 57) rfl rfl (fun d os => ?_) ?_
    · unfold StepG
      go_simp
      exact ⟨(Ext.refl _).alloc _, NewBlk.of_alloc _ _ _ _ _ (by simp [more_size])⟩
    refine Lex.nil fun WW hE => ?_
    intro u hu
    obtain ⟨dt1, ot1, dt2, ot2, rfl, rfl⟩ := hu.split hE
    clear hu hE
    go_simp
    unfold FillH
    go_wp2_with fail
    rw [ends_normal]
    go_wp2_with (first | ((go_at_call 34; (with_reducible refine (FL.out _ _ (by repeat (first | exact Ext.refl _ | apply Ext.alloc | apply Ext.more))).mono ?_); rintro e _ ⟨rfl, d2, os2, rfl⟩)) | ((go_at_call 69; (with_reducible refine (KD.out _ _ (by repeat (first | exact Ext.refl _ | apply Ext.alloc | apply Ext.more))).mono ?_); rintro e _ ⟨rfl, d3, os3, rfl⟩)))
    go_ret
    exact ⟨rfl, by repeat (first | exact Ext.refl _ | apply Ext.alloc | apply Ext.more)⟩
  · by_cases hi : 64 < i
    · 
      go_enter Try.func76, Try.ntmps76
      go_wp2_with fail
      refine wp_region_grow 11 27 [false, false, false, false, false, false, false, false, false, false, false] (by kernel_rfl) (by kernel_rfl) rfl ?_
      simp only [List.take_succ_cons, List.take_zero, List.drop_succ_cons, List.drop_zero]
      iterate 10 (refine Lex.step rfl ?_; intro K hK; unfold StepG; go_simp; refine hK _ ?_; clear hK K)
      refine Lex.alloc 3 (.cells #[.int .i64 0, .int .i64 0, .string ⟨#[]⟩, .int .i64 0] 57) rfl rfl (fun d os => ?_) ?_
      · unfold StepG
        go_simp
        exact ⟨(Ext.refl _).alloc _, NewBlk.of_alloc _ _ _ _ _ (by simp [more_size])⟩
      refine Lex.nil fun WW hE => ?_
      intro u hu
      obtain ⟨dt1, ot1, dt2, ot2, rfl, rfl⟩ := hu.split hE
      clear hu hE
      go_simp
      unfold FillH
      go_wp2_with fail
      rw [ends_normal]
      go_wp2_with (first | ((go_at_call 34; (with_reducible refine (FL.out _ _ (by repeat (first | exact Ext.refl _ | apply Ext.alloc | apply Ext.more))).mono ?_); rintro e _ ⟨rfl, d2, os2, rfl⟩)) | ((go_at_call 69; (with_reducible refine (KD.out _ _ (by repeat (first | exact Ext.refl _ | apply Ext.alloc | apply Ext.more))).mono ?_); rintro e _ ⟨rfl, d3, os3, rfl⟩)))
      go_ret
      exact ⟨rfl, by repeat (first | exact Ext.refl _ | apply Ext.alloc | apply Ext.more)⟩
    · have hi2 : i ≤ 64 := by omega
      clear hi
      go_enter Try.func76, Try.ntmps76
      go_wp2_with fail
      refine wp_region_grow 11 27 [false, false, false, false, false, false, false, false, false, false, false] (by kernel_rfl) (by kernel_rfl) rfl ?_
      simp only [List.take_succ_cons, List.take_zero, List.drop_succ_cons, List.drop_zero]
      iterate 10 (refine Lex.step rfl ?_; intro K hK; unfold StepG; go_simp; refine hK _ ?_; clear hK K)
      refine Lex.alloc 3 (.cells #[.int .i64 0, .int .i64 0, .string ⟨#[]⟩, .int .i64 0] 57) rfl rfl (fun d os => ?_) ?_
      · unfold StepG
        go_simp
        exact ⟨(Ext.refl _).alloc _, NewBlk.of_alloc _ _ _ _ _ (by simp [more_size])⟩
      refine Lex.nil fun WW hE => ?_
      intro u hu
      obtain ⟨dt1, ot1, dt2, ot2, rfl, rfl⟩ := hu.split hE
      clear hu hE
      go_simp
      unfold FillH
      go_wp2_with fail
      rw [ends_normal]
      go_wp2_with (first | ((go_at_call 34; (with_reducible refine (FL.out _ _ (by repeat (first | exact Ext.refl _ | apply Ext.alloc | apply Ext.more))).mono ?_); rintro e _ ⟨rfl, d2, os2, rfl⟩)) | ((go_at_call 69; (with_reducible refine (KD.out _ _ (by repeat (first | exact Ext.refl _ | apply Ext.alloc | apply Ext.more))).mono ?_); rintro e _ ⟨rfl, d3, os3, rfl⟩)))
      go_ret
      exact ⟨rfl, by repeat (first | exact Ext.refl _ | apply Ext.alloc | apply Ext.more)⟩

set_option maxHeartbeats 2000000 in
theorem rturns_any {b lb lo cap : Nat} {nv : Value} {L : Toks} {m : Nat} {N : List Nd} {w : World} (h : Rt b lb lo cap nv L m N 0 0 w) (r : PR Int) (hr : turnsP L m N.length = r) :
    Calls Try.prog 76 #[.pointer (some ⟨b, 0, none⟩)] w (RPost intV isInt b lb lo cap nv L m N w r) := by
  have FL : RowKit.Hid (∀ w1, Ext w w1 → Calls Try.prog 34 #[.pointer (some ⟨b, 0, none⟩), .int .i64 8] w1 fun e w' => e = .returned (.tuple #[]) ∧ Rt b lb lo cap nv L m N 8 (tk L m).2 w' ∧ Kp b nv nv w1 w') := Lib.hid fun w1 hx => rfail_st (h.ext hx) 8 (by decide)
  obtain ⟨c0, c1, c2, c3, c4, f1, f2, f3, f4, hb⟩ := h.facts
  obtain ⟨t0, t1, t2, t3, hlb⟩ := h.tokFacts
  have hp : (m : Int) < (L.length : Int) := by have := h.pos; omega
  have hp0 : 0 ≤ (m : Int) := by omega
  have hne1 : lb ≠ b := by have := h.low; omega
  have KA : RowKit.Hid (∀ w1, Ext w w1 → Calls Try.prog 69 #[.pointer (some ⟨b, 0, none⟩), .int .i64 2] w1 (RPost (fun t => tokV t (tk L m).2) isTok b lb lo cap nv L m N w1 (ofP L 2 m N.length))) := Lib.hid fun w1 hx => kind_any (h.ext hx) 2 (by decide) _ rfl
  have H := Lib.hid h
  obtain ⟨⟨⟨k, ts, i⟩, a⟩, htt⟩ : ∃ tt, tk L m = tt := ⟨_, rfl⟩
  unfold turnsP pbind at hr
  unfold ofP at KA hr
  rw [htt] at t0 t1 t2 t3 FL KA hr
  unfold tokV at KA
  dsimp only at t0 t1 t2 t3 FL hr KA
  clear htt h c2 c4 f1 f2 f3 f4
  by_cases hk : k = 2
  · subst hk
    by_cases hi : 64 < i
    · rw [if_pos ⟨rfl, hi⟩] at hr
      subst hr
      go_enter Try.func76, Try.ntmps76
      go_wp2_with fail
      refine wp_region_grow 11 27 [false, false, false, false, false, false, false, false, false, false, false] (by kernel_rfl) (by kernel_rfl) rfl ?_
      simp only [List.take_succ_cons, List.take_zero, List.drop_succ_cons, List.drop_zero]
      iterate 10 (refine Lex.step rfl ?_; intro K hK; unfold StepG; go_simp; refine hK _ ?_; clear hK K)
      refine Lex.alloc 3 (.cells #[.int .i64 0, .int .i64 0, .string ⟨#[]⟩, .int .i64 0] 57) rfl rfl (fun d os => ?_) ?_
      · unfold StepG
        go_simp
        exact ⟨(Ext.refl _).alloc _, NewBlk.of_alloc _ _ _ _ _ (by simp [more_size])⟩
      refine Lex.nil fun WW hE => ?_
      intro u hu
      obtain ⟨dt1, ot1, dt2, ot2, rfl, rfl⟩ := hu.split hE
      clear hu hE
      go_simp
      unfold FillH
      go_wp2_with fail
      rw [ends_normal]
      go_wp2_with ((go_at_call 34; (with_reducible refine (FL.out _ (by repeat (first | exact Ext.refl _ | apply Ext.alloc | apply Ext.more))).mono ?_); rintro e w2 ⟨rfl, hs2, hk2⟩; have HS2 := Lib.hid hs2; have HK2 := Lib.hid (((Kp.refl b nv w).ext (by repeat (first | exact Ext.refl _ | apply Ext.alloc | apply Ext.more))).trans hk2); clear hs2 hk2))
      go_at_call 69
      refine (kind_dead (by decide) HS2.out 2).mono ?_
      rintro e _ ⟨rfl, d5, os5, rfl⟩
      go_wp2_with fail
      go_ret
      exact RPost.err (by decide) ⟨_, rfl⟩ (HS2.out.more _ _) (HK2.out.more _ _)
    · rw [if_neg (by omega), if_pos rfl] at hr
      rw [if_pos rfl] at KA
      subst hr
      have hi2 : i ≤ 64 := by omega
      clear hi
      go_enter Try.func76, Try.ntmps76
      go_wp2_with fail
      refine wp_region_grow 11 27 [false, false, false, false, false, false, false, false, false, false, false] (by kernel_rfl) (by kernel_rfl) rfl ?_
      simp only [List.take_succ_cons, List.take_zero, List.drop_succ_cons, List.drop_zero]
      iterate 10 (refine Lex.step rfl ?_; intro K hK; unfold StepG; go_simp; refine hK _ ?_; clear hK K)
      refine Lex.alloc 3 (.cells #[.int .i64 0, .int .i64 0, .string ⟨#[]⟩, .int .i64 0] 57) rfl rfl (fun d os => ?_) ?_
      · unfold StepG
        go_simp
        exact ⟨(Ext.refl _).alloc _, NewBlk.of_alloc _ _ _ _ _ (by simp [more_size])⟩
      refine Lex.nil fun WW hE => ?_
      intro u hu
      obtain ⟨dt1, ot1, dt2, ot2, rfl, rfl⟩ := hu.split hE
      clear hu hE
      go_simp
      unfold FillH
      go_wp2_with fail
      rw [ends_normal]
      go_wp2_with ((go_at_call 69; refine (KA.out _ (by repeat (first | exact Ext.refl _ | apply Ext.alloc | apply Ext.more))).mono ?_; rintro e w1 ⟨rfl, nv1, hs1, hk1, _⟩; have HS1 := Lib.hid hs1; have HK1 := Lib.hid (((Kp.refl b nv w).ext (by repeat (first | exact Ext.refl _ | apply Ext.alloc | apply Ext.more))).trans hk1); clear hs1 hk1))
      go_ret
      exact RPost.res rfl HS1.out HK1.out (Nat.le_succ _)
  · rw [if_neg (by omega), if_neg hk] at hr
    rw [if_neg hk] at KA
    subst hr
    have hk2 : (k == 2) = false := by simpa using hk
    clear hk
    go_enter Try.func76, Try.ntmps76
    go_wp2_with fail
    refine wp_region_grow 11 27 [false, false, false, false, false, false, false, false, false, false, false] (by kernel_rfl) (by kernel_rfl) rfl ?_
    simp only [List.take_succ_cons, List.take_zero, List.drop_succ_cons, List.drop_zero]
    iterate 10 (refine Lex.step rfl ?_; intro K hK; unfold StepG; go_simp; refine hK _ ?_; clear hK K)
    refine Lex.alloc 3 (.cells #[.int .i64 0, .int .i64 0, .string ⟨#[]⟩, .int .i64 0] 57) rfl rfl (fun d os => ?_) ?_
    · unfold StepG
      go_simp
      exact ⟨(Ext.refl _).alloc _, NewBlk.of_alloc _ _ _ _ _ (by simp [more_size])⟩
    refine Lex.nil fun WW hE => ?_
    intro u hu
    obtain ⟨dt1, ot1, dt2, ot2, rfl, rfl⟩ := hu.split hE
    clear hu hE
    go_simp
    unfold FillH
    go_wp2_with fail
    rw [ends_normal]
    go_wp2_with ((go_at_call 69; refine (KA.out _ (by repeat (first | exact Ext.refl _ | apply Ext.alloc | apply Ext.more))).mono ?_; rintro e w1 ⟨hc, ⟨v, rfl, kq, aq, sq, iq, rfl⟩, nv1, m1, N1, hs1, hk1⟩; have HC := Lib.hid hc; have HS1 := Lib.hid hs1; have HK1 := Lib.hid (((Kp.refl b nv w).ext (by repeat (first | exact Ext.refl _ | apply Ext.alloc | apply Ext.more))).trans hk1); clear hs1 hk1 hc))
    go_ret
    exact RPost.err HC.out ⟨_, rfl⟩ HS1.out HK1.out

/-- the signs of a level -/
def SignZ (z : Int) (ss : List ByteArray) : Prop := (z = 0 ∧ ss = ssOr) ∨ (z = 1 ∧ ss = ssAnd) ∨ (z = 2 ∧ ss = ssIs) ∨ (z = 3 ∧ ss = ssJoin) ∨ (z = 4 ∧ ss = ssSum) ∨ (z = 5 ∧ ss = ssTimes)
theorem sign_mem {z : Int} {ss : List ByteArray} {s : ByteArray} (h : SignZ z ss) (hs : s ∈ ss) : (s.size : Int) ≤ 100 ∧ s.toList.isEmpty = false := by
  rcases h with ⟨_, rfl⟩ | ⟨_, rfl⟩ | ⟨_, rfl⟩ | ⟨_, rfl⟩ | ⟨_, rfl⟩ | ⟨_, rfl⟩
  · simp only [ssOr, List.mem_cons, List.not_mem_nil, or_false] at hs
    subst hs; exact ⟨by decide, by kernel_rfl⟩
  · simp only [ssAnd, List.mem_cons, List.not_mem_nil, or_false] at hs
    subst hs; exact ⟨by decide, by kernel_rfl⟩
  · simp only [ssIs, List.mem_cons, List.not_mem_nil, or_false] at hs
    rcases hs with rfl | rfl | rfl | rfl | rfl | rfl <;> exact ⟨by decide, by kernel_rfl⟩
  · simp only [ssJoin, List.mem_cons, List.not_mem_nil, or_false] at hs
    subst hs; exact ⟨by decide, by kernel_rfl⟩
  · simp only [ssSum, List.mem_cons, List.not_mem_nil, or_false] at hs
    rcases hs with rfl | rfl <;> exact ⟨by decide, by kernel_rfl⟩
  · simp only [ssTimes, List.mem_cons, List.not_mem_nil, or_false] at hs
    rcases hs with rfl | rfl | rfl <;> exact ⟨by decide, by kernel_rfl⟩
theorem sign_len {z : Int} {ss : List ByteArray} (h : SignZ z ss) : ss.length ≤ 6 := by
  rcases h with ⟨_, rfl⟩ | ⟨_, rfl⟩ | ⟨_, rfl⟩ | ⟨_, rfl⟩ | ⟨_, rfl⟩ | ⟨_, rfl⟩ <;> decide
theorem sign_get {z : Int} {ss : List ByteArray} (h : SignZ z ss) (j : Nat) : ((ss.getD j ⟨#[]⟩).size : Int) ≤ 100 := by
  by_cases hj : j < ss.length
  · refine (sign_mem h ?_).1
    simp [List.getD, List.getElem?_eq_getElem hj]
  · have : ss.getD j ⟨#[]⟩ = ⟨#[]⟩ := by simp [List.getD, List.getElem?_eq_none (Nat.le_of_not_lt hj)]
    rw [this]; decide

set_option maxHeartbeats 1000000 in
theorem signs_any (z : Int) (ss : List ByteArray) (hz : SignZ z ss) (w : World) :
    Calls Try.prog 130 #[.int .i64 z] w fun e w' => e = .returned (.slice (some ⟨w.heap.size, 0, none⟩) ss.length ss.length) ∧ w' = w.alloc (strs ss) := by
  rcases hz with ⟨rfl, rfl⟩ | ⟨rfl, rfl⟩ | ⟨rfl, rfl⟩ | ⟨rfl, rfl⟩ | ⟨rfl, rfl⟩ | ⟨rfl, rfl⟩
  all_goals
    go_enter Try.func130, Try.ntmps130
    go_wp2_with fail
    go_ret
    exact ⟨rfl, rfl⟩
def optS : Option ByteArray → Value
  | none => .string ⟨#[]⟩
  | some s => .string s
def isStr (v : Value) : Prop := ∃ s, v = .string s

set_option maxHeartbeats 2000000 in
theorem ssign_dead {b lb lo cap : Nat} {nv : Value} {L : Toks} {m : Nat} {N : List Nd} {w : World} {wh : Int} {ee : Int} (hee : ee ≠ 0) (h : Rt b lb lo cap nv L m N ee wh w) (z : Int) (ss : List ByteArray) (hz : SignZ z ss) :
    Calls Try.prog 121 #[.pointer (some ⟨b, 0, none⟩), .int .i64 z] w fun e w' => e = .returned (.string ⟨#[]⟩) ∧ Ext w w' := by
  have SG := Lib.hid (signs_any z ss hz)
  have hsm := sign_get hz
  have hss := sign_len hz
  have H := Lib.hid h
  have G := Lib.hid (h.loc (strs ss))
  have HE := Lib.hid hee
  have SM := Lib.hid hsm
  have hsz : (ss.length : Int) ≤ 6 := by omega
  clear h hee hz hsm
  go_enter Try.func121, Try.ntmps121
  go_wp2_with ((go_at_call 130; (with_reducible refine (SG.out _).mono ?_); rintro e _ ⟨rfl, rfl⟩))
  go_loopw [6] (fun i wr => ∃ j : Nat, i = .int .i64 (j : Int) ∧ j ≤ ss.length ∧ Ext (w.alloc (strs ss)) wr) (fun i _ => ss.length - (intOf i).toNat)
  case atStart => exact ⟨0, rfl, Nat.zero_le _, Ext.refl _⟩
  case round =>
    obtain ⟨j, rfl, hj, hx⟩ := hrel
    have HX := Lib.hid hx
    by_cases hlt : j < ss.length
    · have hlt2 : (j : Int) < (ss.length : Int) := by omega
      have hj0 : 0 ≤ (j : Int) := by omega
      have hcell := ((G.out.ext hx).str j hlt)
      have hsj := SM.out j
      obtain ⟨s, hs⟩ : ∃ s, ss.getD j ⟨#[]⟩ = s := ⟨_, rfl⟩
      rw [hs] at hcell hsj
      have T := Lib.hid (take_dead HE.out ((H.out.alloc _).ext hx) s hsj)
      clear hlt hs hx hsj
      go_wp2_with ((go_at_call 75; (with_reducible refine T.out.mono ?_); rintro e _ ⟨rfl, d, os, rfl⟩))
      go_roundw
      case rel => exact ⟨j + 1, by go_num, by omega, HX.out.more _ _⟩
      case measure => simp [intOf]; omega
    · have hge : (ss.length : Int) ≤ (j : Int) := by omega
      clear hx hlt
      go_wp2_with fail
      go_ret
      exact ⟨rfl, ((Ext.refl _).alloc _).trans HX.out⟩

set_option maxHeartbeats 2000000 in
theorem ssign_any {b lb lo cap : Nat} {nv : Value} {L : Toks} {m : Nat} {N : List Nd} {w : World} (h : Rt b lb lo cap nv L m N 0 0 w) (z : Int) (ss : List ByteArray) (hz : SignZ z ss) (r : PR (Option ByteArray)) (hr : oneOfP L ss m N.length = r) :
    Calls Try.prog 121 #[.pointer (some ⟨b, 0, none⟩), .int .i64 z] w (RPost optS isStr b lb lo cap nv L m N w r) := by
  have SG := Lib.hid (signs_any z ss hz)
  have hsm := sign_get hz
  have hss := sign_len hz
  have H := Lib.hid h
  have G := Lib.hid (h.loc (strs ss))
  have SM := Lib.hid hsm
  have hr2 : findP L m ss = r := hr
  have R := Lib.hid hr2
  have hsz : (ss.length : Int) ≤ 6 := by omega
  clear h hz hsm hr hr2
  go_enter Try.func121, Try.ntmps121
  go_wp2_with ((go_at_call 130; (with_reducible refine (SG.out _).mono ?_); rintro e _ ⟨rfl, rfl⟩))
  go_loopw [6] (fun i wr => ∃ j : Nat, i = .int .i64 (j : Int) ∧ j ≤ ss.length ∧ Ext (w.alloc (strs ss)) wr ∧ findP L m (ss.drop j) = r) (fun i _ => ss.length - (intOf i).toNat)
  case atStart => exact ⟨0, rfl, Nat.zero_le _, Ext.refl _, R.out⟩
  case round =>
    obtain ⟨j, rfl, hj, hx, hr⟩ := hrel
    have HX := Lib.hid hx
    by_cases hlt : j < ss.length
    · have hlt2 : (j : Int) < (ss.length : Int) := by omega
      have hj0 : 0 ≤ (j : Int) := by omega
      have hcell := ((G.out.ext hx).str j hlt)
      have hsj := SM.out j
      rw [drop_cons ss j ⟨#[]⟩ hlt] at hr
      obtain ⟨s, hs⟩ : ∃ s, ss.getD j ⟨#[]⟩ = s := ⟨_, rfl⟩
      rw [hs] at hcell hsj hr
      cases hp : isP L s m
      · rw [findP_no hp] at hr
        have R2 := Lib.hid hr
        have T := Lib.hid (take_no ((H.out.alloc (strs ss)).ext hx) s hsj hp)
        clear hlt hs hp R hr hx hsj
        go_wp2_with ((go_at_call 75; (with_reducible refine T.out.mono ?_); rintro e _ ⟨rfl, d, os, rfl⟩))
        go_roundw
        case rel => exact ⟨j + 1, by go_num, by omega, HX.out.more _ _, R2.out⟩
        case measure => simp [intOf]; omega
      · rw [findP_yes hp] at hr
        have R2 := Lib.hid hr
        have T := Lib.hid (take_yes ((H.out.alloc (strs ss)).ext hx) s hsj hp)
        have G2 := Lib.hid (G.out.ext hx)
        have JL := Lib.hid hlt
        have HSJ := Lib.hid hs
        clear hlt hs hp hr R hx hsj
        go_wp2_with ((go_at_call 75; (with_reducible refine T.out.mono ?_); rintro e w2 ⟨rfl, hs2, hk2⟩; have hcell2 := ((G2.out.kp hk2).str j JL.out); rw [HSJ.out] at hcell2; have HS2 := Lib.hid hs2; have HK2 := Lib.hid ((((Kp.refl b nv w).alloc _).ext HX.out).trans hk2); clear hs2 hk2))
        go_ret
        have := R2.out
        subst this
        exact RPost.res rfl (HS2.out.cast (List.append_nil N).symm) HK2.out (Nat.le_succ _)
    · have hge : (ss.length : Int) ≤ (j : Int) := by omega
      have e : ss.drop j = [] := List.drop_eq_nil_of_le (by omega)
      rw [e] at hr
      have R2 := Lib.hid hr
      clear hr e hx hlt
      go_wp2_with fail
      go_ret
      have := R2.out
      subst this
      exact RPost.res rfl (((H.out.alloc _).ext HX.out).cast (List.append_nil N).symm) (((Kp.refl b nv w).alloc _).ext HX.out) (Nat.le_refl _)
end Go.Proofs.Ytoaaklcbcbjaiaa
