/- Lemmas for the claim (texts Rar3, Rar4, Rar5, Rar6, Rar7, RarP, what its proof uses of them). -/
import Derived.Test.YtoaaklcbcbjaiaaQ11
set_option linter.unusedSimpArgs false
set_option linter.unusedVariables false
namespace Go.Proofs.Ytoaaklcbcbjaiaa
open Go.RowKit
attribute [go_sem] more_more Array.size_append
theorem rnv_form {b lb lo cap : Nat} {nv : Value} {L : Toks} {m : Nat} {N : List Nd} {ee wh : Int} {w : World} (h : Rt b lb lo cap nv L m N ee wh w) : ∃ len c p, nv = .slice p len c ∧ len = N.length := by
  rcases Go.Joins.ownsRow_forms h.row with ⟨rfl, h0⟩ | ⟨g1, c, rfl⟩
  · exact ⟨_, _, _, rfl, h0.symm⟩
  · exact ⟨_, _, _, rfl, rfl⟩
theorem Rt.setAny {b lb lo cap : Nat} {nv : Value} {L : Toks} {m : Nat} {N : List Nd} {ee wh : Int} {w : World} (h : Rt b lb lo cap nv L m N ee wh w) {k : Nat} (hb : k ≠ b) (hl : lb ≠ k) (hr : nv.ownBlock ≠ some k) (i : Nat) (v : Value) :
    Rt b lb lo cap nv L m N ee wh (w.setCell ⟨k, i, none⟩ v) := by
  refine ⟨h.ends, by rw [heap_set_other _ _ _ _ _ hb.symm]; exact h.blk, h.toks.of_block (heap_set_other _ _ _ _ _ hl), ?_, h.low, h.pos, h.cnt⟩
  exact h.row.kept (row := some k) ⟨rfl, rfl, rfl, by simp [World.setCell], fun j hj hn => heap_set_other _ _ _ _ _ (fun e => hn (by rw [e]))⟩ (Or.inr hr)
theorem Loc.four {b : Nat} {nv : Value} {k : Nat} {w : World} {v0 v1 v2 v3 : Value} {t : TypeId} (h : Loc b nv k (.cells #[v0, v1, v2, v3] t (0, 0)) w) : w.cell? ⟨k, 0, none⟩ = some v0 ∧ w.cell? ⟨k, 1, none⟩ = some v1 ∧ w.cell? ⟨k, 2, none⟩ = some v2 ∧ w.cell? ⟨k, 3, none⟩ = some v3 ∧
    w.frozen? ⟨k, 0, none⟩ = false ∧ w.frozen? ⟨k, 1, none⟩ = false ∧ w.frozen? ⟨k, 2, none⟩ = false ∧ w.frozen? ⟨k, 3, none⟩ = false ∧ k < w.heap.size := by
  have := h.is
  refine ⟨?_, ?_, ?_, ?_, ?_, ?_, ?_, ?_, h.lt⟩ <;> simp [World.cell?, World.frozen?, this]
set_option maxHeartbeats 2000000 in
theorem kind_dead {b lb lo cap : Nat} {nv : Value} {L : Toks} {m : Nat} {N : List Nd} {w : World} {wh : Int} {ee : Int} (hee : ee ≠ 0) (h : Rt b lb lo cap nv L m N ee wh w) (k0 : Int) :
    Calls Try.prog 69 #[.pointer (some ⟨b, 0, none⟩), .int .i64 k0] w fun e w' => e = .returned (.agg #[.int .i64 0, .int .i64 0, .string ⟨#[]⟩, .int .i64 0]) ∧ Ext w w' := by
  have FL : RowKit.Hid (∀ (c : Int) w1, Ext w w1 → Calls Try.prog 34 #[.pointer (some ⟨b, 0, none⟩), .int .i64 c] w1 fun e w' => e = .returned (.tuple #[]) ∧ Ext w1 w') := Lib.hid fun c w1 hx => rfail_dead hee (h.ext hx) c
  obtain ⟨c0, c1, c2, c3, c4, f1, f2, f3, f4, hb⟩ := h.facts
  obtain ⟨t0, t1, t2, t3, hlb⟩ := h.tokFacts
  have hp : (m : Int) < (L.length : Int) := by have := h.pos; omega
  have hp0 : 0 ≤ (m : Int) := by omega
  have hmx : (m : Int) ≤ 5000 := by have := h.ends.few; have := h.pos; omega
  have hne1 : lb ≠ b := by have := h.low; omega
  obtain ⟨⟨⟨k, ts, i⟩, a⟩, htt⟩ : ∃ tt, tk L m = tt := ⟨_, rfl⟩
  rw [htt] at t0 t1 t2 t3
  dsimp only at t0 t1 t2 t3
  have q : (ee != 0) = true := by simpa using hee
  clear htt h c2 c4 f1 f2 f3 f4 hmx hee
  cases hk : (k != k0)
  all_goals
    go_enter Try.func69, Try.ntmps69
    go_wp2_with fail
    refine wp_region_grow 11 36 [false, false, false, false, false, false, false, false, false, false, false] (by kernel_rfl) (by kernel_rfl) rfl ?_
    simp only [List.take_succ_cons, List.take_zero, List.drop_succ_cons, List.drop_zero]
    iterate 10 (refine Lex.step rfl ?_; intro K hK; unfold StepG; go_simp; refine hK _ ?_; clear hK K)
    refine Lex.alloc 5 (.cells #[.int .i64 0, .int .i64 0, .string ⟨#[]⟩, .int .i64 0] 57) rfl rfl (fun d os => ?_) ?_
    · unfold StepG
      go_simp
      exact ⟨(Ext.refl _).alloc _, NewBlk.of_alloc _ _ _ _ _ (by simp [more_size])⟩
    refine Lex.nil fun WW hE => ?_
    intro u hu
    obtain ⟨dt1, ot1, dt2, ot2, rfl, rfl⟩ := hu.split hE
    clear hu hE
    go_simp
    unfold FillH
    go_wp2_with fail
    rw [ends_normal]
    go_wp2_with ((go_at_call 34; (with_reducible refine (FL.out _ _ (by repeat (first | exact Ext.refl _ | apply Ext.alloc | apply Ext.more))).mono ?_); rintro e _ ⟨rfl, d2, os2, rfl⟩))
    exact bodyPost_ret (v := (.agg #[.int .i64 0, .int .i64 0, .string ⟨#[]⟩, .int .i64 0])) (by simp [results, Try.results69, go_sem]) rfl ⟨rfl, by repeat (first | exact Ext.refl _ | apply Ext.alloc | apply Ext.more)⟩
set_option maxHeartbeats 2000000 in
theorem kind_any {b lb lo cap : Nat} {nv : Value} {L : Toks} {m : Nat} {N : List Nd} {w : World} (h : Rt b lb lo cap nv L m N 0 0 w) (k0 : Int) (h0 : k0 ≠ 0) (r : PR Tok) (hr : ofP L k0 m N.length = r) :
    Calls Try.prog 69 #[.pointer (some ⟨b, 0, none⟩), .int .i64 k0] w (RPost (fun t => tokV t (tk L m).2) isTok b lb lo cap nv L m N w r) := by
  have FL : RowKit.Hid (∀ w1, Ext w w1 → Calls Try.prog 34 #[.pointer (some ⟨b, 0, none⟩), .int .i64 3] w1 fun e w' => e = .returned (.tuple #[]) ∧ Rt b lb lo cap nv L m N 3 (tk L m).2 w' ∧ Kp b nv nv w1 w') := Lib.hid fun w1 hx => rfail_st (h.ext hx) 3 (by decide)
  obtain ⟨c0, c1, c2, c3, c4, f1, f2, f3, f4, hb⟩ := h.facts
  obtain ⟨t0, t1, t2, t3, hlb⟩ := h.tokFacts
  have hp : (m : Int) < (L.length : Int) := by have := h.pos; omega
  have hp0 : 0 ≤ (m : Int) := by omega
  have hmx : (m : Int) ≤ 5000 := by have := h.ends.few; have := h.pos; omega
  have hne1 : lb ≠ b := by have := h.low; omega
  have hnx : (tk L m).1.k = k0 → m + 1 < L.length := fun e => h.next (by rw [e]; exact h0)
  have H := Lib.hid h
  have LZ := Lib.hid (h.loc (.cells #[.int .i64 0, .int .i64 0, .string ⟨#[]⟩, .int .i64 0] 57 (0, 0)))
  obtain ⟨⟨⟨k, ts, i⟩, a⟩, htt⟩ : ∃ tt, tk L m = tt := ⟨_, rfl⟩
  unfold ofP at hr
  rw [htt] at t0 t1 t2 t3 hr hnx FL ⊢
  unfold tokV
  dsimp only at t0 t1 t2 t3 hr hnx FL ⊢
  clear htt h c2 c4 f2 f3 f4
  by_cases hk : k = k0
  · rw [if_pos hk] at hr
    have NX := Lib.hid (hnx hk)
    subst hk
    subst hr
    clear hnx
    have hkk : (k != k) = false := by simp
    go_enter Try.func69, Try.ntmps69
    go_wp2_with fail
    refine wp_region_grow 11 36 [false, false, false, false, false, false, false, false, false, false, false] (by kernel_rfl) (by kernel_rfl) rfl ?_
    simp only [List.take_succ_cons, List.take_zero, List.drop_succ_cons, List.drop_zero]
    iterate 10 (refine Lex.step rfl ?_; intro K hK; unfold StepG; go_simp; refine hK _ ?_; clear hK K)
    refine Lex.alloc 5 (.cells #[.int .i64 0, .int .i64 0, .string ⟨#[]⟩, .int .i64 0] 57) rfl rfl (fun d os => ?_) ?_
    · unfold StepG
      go_simp
      exact ⟨(Ext.refl _).alloc _, NewBlk.of_alloc _ _ _ _ _ (by simp [more_size])⟩
    refine Lex.nil fun WW hE => ?_
    intro u hu
    obtain ⟨dt1, ot1, dt2, ot2, rfl, rfl⟩ := hu.split hE
    clear hu hE
    go_simp
    unfold FillH
    go_wp2_with fail
    rw [ends_normal]
    go_wp2_with fail
    refine bodyPost_ret (v := .agg #[.int .i64 k, .int .i64 a, .string ts, .int .i64 i]) (by simp [results, Try.results69, go_sem]) rfl ?_
    refine RPost.res (nv' := nv) rfl (Rt.cast (N := N) ?_ (List.append_nil N).symm) ?_ (Nat.le_succ _)
    · have HS := Lib.hid (H.out.setAt (m + 1) ((m : Int) + 1) (by omega) NX.out)
      repeat (first | (with_reducible exact HS.out) | (with_reducible apply Rt.alloc) | (with_reducible apply Rt.more))
    · have HK := Lib.hid ((Kp.refl b nv w).setB 1 (.int .i64 ((m : Int) + 1)))
      repeat (first | (with_reducible exact HK.out) | (with_reducible apply Kp.alloc) | (with_reducible apply Kp.more))
  · rw [if_neg hk] at hr
    subst hr
    have hkk : (k != k0) = true := by simpa using hk
    clear hnx hk
    go_enter Try.func69, Try.ntmps69
    go_wp2_with fail
    refine wp_region_grow 11 36 [false, false, false, false, false, false, false, false, false, false, false] (by kernel_rfl) (by kernel_rfl) rfl ?_
    simp only [List.take_succ_cons, List.take_zero, List.drop_succ_cons, List.drop_zero]
    iterate 10 (refine Lex.step rfl ?_; intro K hK; unfold StepG; go_simp; refine hK _ ?_; clear hK K)
    refine Lex.alloc 5 (.cells #[.int .i64 0, .int .i64 0, .string ⟨#[]⟩, .int .i64 0] 57) rfl rfl (fun d os => ?_) ?_
    · unfold StepG
      go_simp
      exact ⟨(Ext.refl _).alloc _, NewBlk.of_alloc _ _ _ _ _ (by simp [more_size])⟩
    refine Lex.nil fun WW hE => ?_
    intro u hu
    obtain ⟨dt1, ot1, dt2, ot2, rfl, rfl⟩ := hu.split hE
    clear hu hE
    go_simp
    unfold FillH
    go_wp2_with fail
    rw [ends_normal]
    go_wp2_with ((go_at_call 34; refine (FL.out _ (by repeat (first | exact Ext.refl _ | apply Ext.alloc | apply Ext.more))).mono ?_; rintro e w2 ⟨rfl, hs2, hk2⟩; have HS2 := Lib.hid hs2; have HK2 := Lib.hid hk2; have L2 := Loc.kp (show Loc b nv w.heap.size (.cells #[.int .i64 0, .int .i64 0, .string ⟨#[]⟩, .int .i64 0] 57 (0, 0)) _ from by repeat (first | (with_reducible exact LZ.out) | (with_reducible apply Loc.alloc) | (with_reducible apply Loc.more))) hk2; clear hs2 hk2; obtain ⟨u0, u1, u2, u3, u4, y0, y1, y2, y3, hbb⟩ := HS2.out.facts; obtain ⟨x0, x1, x2, x3, g0, g1, g2, g3, hx⟩ := L2.four; have L2 := Lib.hid L2; clear u0 u1 u2 u4))
    have HKW := Lib.hid (((Kp.refl b nv w).ext (by repeat (first | exact Ext.refl _ | apply Ext.alloc | apply Ext.more))).trans HK2.out)
    exact bodyPost_ret (v := (.agg #[.int .i64 0, .int .i64 0, .string ⟨#[]⟩, .int .i64 0])) (by simp [results, Try.results69, go_sem, x0, x1, x2, x3, hx]) rfl (RPost.err (by decide) ⟨_, _, _, _, rfl⟩ (nv' := nv) (m' := m) (N' := N) (by repeat (first | (with_reducible exact HS2.out) | (refine Rt.setAny ?_ L2.out.ne (by have := HS2.out.low; have := H.out.lt; have := H.out.low; omega) L2.out.nr _ _))) (by repeat (first | (with_reducible exact HKW.out) | (refine Kp.setNew ?_ (Nat.le_refl _) _ _))))
set_option maxHeartbeats 2000000 in
theorem rlay_dead {b lb lo cap : Nat} {nv : Value} {L : Toks} {m : Nat} {N : List Nd} {w : World} {wh : Int} {ee : Int} (hee : ee ≠ 0) (h : Rt b lb lo cap nv L m N ee wh w) (zk za zb zc zx zi : Int) (zs zt : ByteArray) :
    Calls Try.prog 73 #[.pointer (some ⟨b, 0, none⟩), .agg #[.int .i64 zk, .int .i64 za, .int .i64 zb, .int .i64 zc, .int .i64 zx, .int .i64 zi, .string zs, .string zt]] w fun e w' => e = .returned (.int .i64 (-1)) ∧ Ext w w' := by
  have FL : RowKit.Hid (∀ (c : Int) w1, Ext w w1 → Calls Try.prog 34 #[.pointer (some ⟨b, 0, none⟩), .int .i64 c] w1 fun e w' => e = .returned (.tuple #[]) ∧ Ext w1 w') := Lib.hid fun c w1 hx => rfail_dead hee (h.ext hx) c
  obtain ⟨len, c, p, rfl, hlen⟩ := rnv_form h
  have hcnt := h.cnt
  subst hlen
  have hcnt2 : (N.length : Int) ≤ 512 := by omega
  obtain ⟨c0, c1, c2, c3, c4, f1, f2, f3, f4, hb⟩ := h.facts
  have q : (ee != 0) = true := by simpa using hee
  clear h c0 c1 c4 f1 f2 f3 f4 hee hcnt
  by_cases h5 : 512 ≤ (N.length : Int)
  · have h6 : ((512 : Int) ≤ (N.length : Int)) = True := eq_true h5
    clear h5 hcnt2
    go_enter Try.func73, Try.ntmps73
    go_wp2_with ((go_at_call 34; (with_reducible refine (FL.out _ _ (by repeat (first | exact Ext.refl _ | apply Ext.alloc | apply Ext.more))).mono ?_); rintro e _ ⟨rfl, d2, os2, rfl⟩))
    go_ret
    exact ⟨rfl, by repeat (first | exact Ext.refl _ | apply Ext.alloc | apply Ext.more)⟩
  · have h6 : ((512 : Int) ≤ (N.length : Int)) = False := eq_false h5
    clear h5 hcnt2
    go_enter Try.func73, Try.ntmps73
    go_wp2_with ((go_at_call 34; (with_reducible refine (FL.out _ _ (by repeat (first | exact Ext.refl _ | apply Ext.alloc | apply Ext.more))).mono ?_); rintro e _ ⟨rfl, d2, os2, rfl⟩))
    go_ret
    exact ⟨rfl, by repeat (first | exact Ext.refl _ | apply Ext.alloc | apply Ext.more)⟩
set_option maxHeartbeats 2000000 in
set_option maxRecDepth 20000 in
theorem rlay_any {b lb lo cap : Nat} {nv : Value} {L : Toks} {m : Nat} {N : List Nd} {w : World} (h : Rt b lb lo cap nv L m N 0 0 w) (zk za zb zc zx zi : Int) (zs zt : ByteArray) (r : PR Int) (hr : layP L ⟨zk, za, zb, zc, zx, zi, zs, zt⟩ m N.length = r) :
    Calls Try.prog 73 #[.pointer (some ⟨b, 0, none⟩), .agg #[.int .i64 zk, .int .i64 za, .int .i64 zb, .int .i64 zc, .int .i64 zx, .int .i64 zi, .string zs, .string zt]] w (RPost intV isInt b lb lo cap nv L m N w r) := by
  have FL : RowKit.Hid (∀ w1, Ext w w1 → Calls Try.prog 34 #[.pointer (some ⟨b, 0, none⟩), .int .i64 5] w1 fun e w' => e = .returned (.tuple #[]) ∧ Rt b lb lo cap nv L m N 5 (tk L m).2 w' ∧ Kp b nv nv w1 w') := Lib.hid fun w1 hx => rfail_st (h.ext hx) 5 (by decide)
  obtain ⟨len, c, p, rfl, hlen⟩ := rnv_form h
  have hcnt := h.cnt
  subst hlen
  have H := Lib.hid h
  obtain ⟨c0, c1, c2, c3, c4, f1, f2, f3, f4, hb⟩ := h.facts
  unfold layP at hr
  by_cases h5 : N.length = 512
  · rw [if_pos h5] at hr
    subst hr
    have q5 : ((512 : Int) ≤ (N.length : Int)) = True := eq_true (by omega)
    clear h h5 c0 c1 c3 c4 f1 f3 f4 hcnt
    go_enter Try.func73, Try.ntmps73
    go_wp2_with ((go_at_call 34; refine (FL.out _ (by repeat (first | exact Ext.refl _ | apply Ext.alloc | apply Ext.more))).mono ?_; rintro e w2 ⟨rfl, hs2, hk2⟩; have HS2 := Lib.hid hs2; have HK2 := Lib.hid hk2; clear hs2 hk2; obtain ⟨u0, u1, u2, u3, u4, y0, y1, y2, y3, hbb⟩ := HS2.out.facts; clear u0 u1 u2 u4))
    go_ret
    exact RPost.err (by decide) ⟨_, rfl⟩ HS2.out (((Kp.refl b _ w).ext (by repeat (first | exact Ext.refl _ | apply Ext.alloc | apply Ext.more))).trans HK2.out)
  · rw [if_neg h5] at hr
    subst hr
    have q5 : ((512 : Int) ≤ (N.length : Int)) = False := eq_false (by omega)
    have h512 : N.length < 512 := by omega
    have H5 := Lib.hid h512
    have hmx : (N.length : Int) ≤ 511 := by omega
    obtain ⟨i0, hi, hz0, hz1, hz2⟩ := info_parts ndInfo
    clear h h5 c0 c1 c4 f1 f3 f4 h512 hcnt FL
    go_enter Try.func73, Try.ntmps73
    go_wp2_with fail
    refine wp_region_grow 7 34 [true, false, false, false, false, false, false] (by kernel_rfl) (by kernel_rfl) rfl ?_
    simp only [List.take_succ_cons, List.take_zero, List.drop_succ_cons, List.drop_zero]
    refine Lex.stepP rfl rfl ?_; intro K hK; go_simp; refine hK _ ?_; clear hK K
    iterate 5 (refine Lex.step rfl ?_; intro K hK; unfold StepG; go_simp; refine hK _ ?_; clear hK K)
    refine Lex.sliceLit 24 (.cells #[.int .i64 zk, .int .i64 za, .int .i64 zb, .int .i64 zc, .int .i64 zx, .int .i64 zi, .string zs, .string zt] 52) 1 1 rfl rfl (fun d os => ?_) ?_
    · unfold StepG
      go_simp
      exact ⟨(Ext.refl _).alloc _, NewSl.of_alloc _ _ _ _ _ _ _ (by simp [more_size])⟩
    refine Lex.nil fun WW hE => ?_
    intro u hu
    obtain ⟨d1, os1, d2, os2, rfl, rfl⟩ := hu.split hE
    clear hu hE
    go_simp
    unfold FillH
    go_wp2_with (at_builtin; refine wpList_append_own_at _ rfl _ _ 22 rfl (b + 1) 52 i0 (.agg #[.int .i64 0, .int .i64 0, .int .i64 0, .int .i64 0, .int .i64 0, .int .i64 0, .string ⟨#[]⟩, .string ⟨#[]⟩]) 8 80 Try.underlying22 hi hz0 hz1 hz2 rfl (by decide) (.slice p N.length c) N.length (ndCells N) rfl ?c0 ⟨_, 0, none⟩ 1 1 [.int .i64 zk, .int .i64 za, .int .i64 zb, .int .i64 zc, .int .i64 zx, .int .i64 zi, .string zs, .string zt] rfl rfl ?c1 ?c2 ?c3 ?c4 ?c5 ?_)
    case c0 => repeat (first | (with_reducible exact H.out.row) | (with_reducible apply own_more) | (with_reducible refine World.ownsRow.alloc ?_ _))
    case c1 => exact news_splitP (by simp [more_size])
    case c2 => intro u hu; simp at hu; rcases hu with rfl | rfl | rfl | rfl | rfl | rfl | rfl | rfl <;> rfl
    case c3 => unfold maxLen; omega
    case c4 => omega
    case c5 => simp [more_size]; omega
    intro v' w1 hown' hgrow _ hblk
    have HS : RowKit.Hid (Rt b lb lo cap v' L m (N ++ [⟨zk, za, zb, zc, zx, zi, zs, zt⟩]) 0 0 (w1.setCell ⟨b, 2, none⟩ v')) := Lib.hid (Rt.push (by repeat (first | (with_reducible exact H.out) | (with_reducible apply Rt.alloc) | (with_reducible apply Rt.more))) hown' hgrow H5.out)
    have HK : RowKit.Hid (Kp b (.slice p N.length c) v' w (w1.setCell ⟨b, 2, none⟩ v')) := Lib.hid (Kp.push (by repeat (first | (with_reducible exact Kp.refl _ _ _) | (with_reducible apply Kp.alloc) | (with_reducible apply Kp.more))) hgrow (by simp only [more_size, World.size_alloc]; exact hblk))
    obtain ⟨hc2, hb1, hb2⟩ := Rt.grownFacts (show Rt b lb lo cap (.slice p N.length c) L m N 0 0 _ from by repeat (first | (with_reducible exact H.out) | (with_reducible apply Rt.alloc) | (with_reducible apply Rt.more))) hgrow
    have hb3 : ∃ g cap1, v' = .slice (some ⟨g, 0, none⟩) (N.length + 1) cap1 := by obtain ⟨g1, cap1, rfl, _, _⟩ := hown'.form (by omega); exact ⟨_, _, rfl⟩
    obtain ⟨g1, cap1, rfl⟩ := hb3
    clear hown' hgrow hblk
    go_wp2_with fail
    first | rw [ends_normal] | skip
    go_wp2_with fail
    go_ret
    exact RPost.res (by first | rfl | (show Ending.returned (.int .i64 _) = _; exact ret_int (by omega))) HS.out HK.out (Nat.le_refl _)
end Go.Proofs.Ytoaaklcbcbjaiaa

namespace Go.Proofs.Ytoaaklcbcbjaiaa
open Go.RowKit
attribute [go_sem] more_more Array.size_append
set_option maxHeartbeats 2000000 in
theorem rturns_dead {b lb lo cap : Nat} {nv : Value} {L : Toks} {m : Nat} {N : List Nd} {w : World} {wh : Int} {ee : Int} (hee : ee ≠ 0) (h : Rt b lb lo cap nv L m N ee wh w) :
    Calls Try.prog 76 #[.pointer (some ⟨b, 0, none⟩)] w fun e w' => e = .returned (.int .i64 0) ∧ Ext w w' := by
  have FL : RowKit.Hid (∀ (c : Int) w1, Ext w w1 → Calls Try.prog 34 #[.pointer (some ⟨b, 0, none⟩), .int .i64 c] w1 fun e w' => e = .returned (.tuple #[]) ∧ Ext w1 w') := Lib.hid fun c w1 hx => rfail_dead hee (h.ext hx) c
  have KD : RowKit.Hid (∀ (c : Int) w1, Ext w w1 → Calls Try.prog 69 #[.pointer (some ⟨b, 0, none⟩), .int .i64 c] w1 fun e w' => e = .returned (.agg #[.int .i64 0, .int .i64 0, .string ⟨#[]⟩, .int .i64 0]) ∧ Ext w1 w') := Lib.hid fun c w1 hx => kind_dead hee (h.ext hx) c
  obtain ⟨c0, c1, c2, c3, c4, f1, f2, f3, f4, hb⟩ := h.facts
  obtain ⟨t0, t1, t2, t3, hlb⟩ := h.tokFacts
  have hp : (m : Int) < (L.length : Int) := by have := h.pos; omega
  have hp0 : 0 ≤ (m : Int) := by omega
  have hne1 : lb ≠ b := by have := h.low; omega
  obtain ⟨⟨⟨k, ts, i⟩, a⟩, htt⟩ : ∃ tt, tk L m = tt := ⟨_, rfl⟩
  rw [htt] at t0 t1 t2 t3
  dsimp only at t0 t1 t2 t3
  clear htt h c2 c4 f1 f2 f3 f4 hee
  cases hk : (k == 2)
  · 
    go_enter Try.func76, Try.ntmps76
    go_wp2_with fail
    refine wp_region_grow 11 27 [false, false, false, false, false, false, false, false, false, false, false] (by kernel_rfl) (by kernel_rfl) rfl ?_
    simp only [List.take_succ_cons, List.take_zero, List.drop_succ_cons, List.drop_zero]
    iterate 10 (refine Lex.step rfl ?_; intro K hK; unfold StepG; go_simp; refine hK _ ?_; clear hK K)
    refine Lex.alloc 3 (.cells #[.int .i64 0, .int .i64 0, .string ⟨#[]⟩, .int .i64 0] 57) rfl rfl (fun d os => ?_) ?_
    · unfold StepG
      go_simp
      exact ⟨(Ext.refl _).alloc _, NewBlk.of_alloc _ _ _ _ _ (by simp [more_size])⟩
    refine Lex.nil fun WW hE => ?_
    intro u hu
    obtain ⟨dt1, ot1, dt2, ot2, rfl, rfl⟩ := hu.split hE
    clear hu hE
    go_simp
    unfold FillH
    go_wp2_with fail
    rw [ends_normal]
    go_wp2_with (first | ((go_at_call 34; (with_reducible refine (FL.out _ _ (by repeat (first | exact Ext.refl _ | apply Ext.alloc | apply Ext.more))).mono ?_); rintro e _ ⟨rfl, d2, os2, rfl⟩)) | ((go_at_call 69; (with_reducible refine (KD.out _ _ (by repeat (first | exact Ext.refl _ | apply Ext.alloc | apply Ext.more))).mono ?_); rintro e _ ⟨rfl, d3, os3, rfl⟩)))
    go_ret
    exact ⟨rfl, by repeat (first | exact Ext.refl _ | apply Ext.alloc | apply Ext.more)⟩
  · by_cases hi : 64 < i
    · 
      go_enter Try.func76, Try.ntmps76
      go_wp2_with fail
      refine wp_region_grow 11 27 [false, false, false, false, false, false, false, false, false, false, false] (by kernel_rfl) (by kernel_rfl) rfl ?_
      simp only [List.take_succ_cons, List.take_zero, List.drop_succ_cons, List.drop_zero]
      iterate 10 (refine Lex.step rfl ?_; intro K hK; unfold StepG; go_simp; refine hK _ ?_; clear hK K)
      refine Lex.alloc 3 (.cells #[.int .i64 0, .int .i64 0, .string ⟨#[]⟩, .int .i64 0] 57) rfl rfl (fun d os => ?_) ?_
      · unfold StepG
        go_simp
        exact ⟨(Ext.refl _).alloc _, NewBlk.of_alloc _ _ _ _ _ (by simp [more_size])⟩
      refine Lex.nil fun WW hE => ?_
      intro u hu
      obtain ⟨dt1, ot1, dt2, ot2, rfl, rfl⟩ := hu.split hE
      clear hu hE
      go_simp
      unfold FillH
      go_wp2_with fail
      rw [ends_normal]
      go_wp2_with (first | ((go_at_call 34; (with_reducible refine (FL.out _ _ (by repeat (first | exact Ext.refl _ | apply Ext.alloc | apply Ext.more))).mono ?_); rintro e _ ⟨rfl, d2, os2, rfl⟩)) | ((go_at_call 69; (with_reducible refine (KD.out _ _ (by repeat (first | exact Ext.refl _ | apply Ext.alloc | apply Ext.more))).mono ?_); rintro e _ ⟨rfl, d3, os3, rfl⟩)))
      go_ret
      exact ⟨rfl, by repeat (first | exact Ext.refl _ | apply Ext.alloc | apply Ext.more)⟩
    · have hi2 : i ≤ 64 := by omega
      clear hi
      go_enter Try.func76, Try.ntmps76
      go_wp2_with fail
      refine wp_region_grow 11 27 [false, false, false, false, false, false, false, false, false, false, false] (by kernel_rfl) (by kernel_rfl) rfl ?_
      simp only [List.take_succ_cons, List.take_zero, List.drop_succ_cons, List.drop_zero]
      iterate 10 (refine Lex.step rfl ?_; intro K hK; unfold StepG; go_simp; refine hK _ ?_; clear hK K)
      refine Lex.alloc 3 (.cells #[.int .i64 0, .int .i64 0, .string ⟨#[]⟩, .int .i64 0] 57) rfl rfl (fun d os => ?_) ?_
      · unfold StepG
        go_simp
        exact ⟨(Ext.refl _).alloc _, NewBlk.of_alloc _ _ _ _ _ (by simp [more_size])⟩
      refine Lex.nil fun WW hE => ?_
      intro u hu
      obtain ⟨dt1, ot1, dt2, ot2, rfl, rfl⟩ := hu.split hE
      clear hu hE
      go_simp
      unfold FillH
      go_wp2_with fail
      rw [ends_normal]
      go_wp2_with (first | ((go_at_call 34; (with_reducible refine (FL.out _ _ (by repeat (first | exact Ext.refl _ | apply Ext.alloc | apply Ext.more))).mono ?_); rintro e _ ⟨rfl, d2, os2, rfl⟩)) | ((go_at_call 69; (with_reducible refine (KD.out _ _ (by repeat (first | exact Ext.refl _ | apply Ext.alloc | apply Ext.more))).mono ?_); rintro e _ ⟨rfl, d3, os3, rfl⟩)))
      go_ret
      exact ⟨rfl, by repeat (first | exact Ext.refl _ | apply Ext.alloc | apply Ext.more)⟩
set_option maxHeartbeats 2000000 in
theorem rturns_any {b lb lo cap : Nat} {nv : Value} {L : Toks} {m : Nat} {N : List Nd} {w : World} (h : Rt b lb lo cap nv L m N 0 0 w) (r : PR Int) (hr : turnsP L m N.length = r) :
    Calls Try.prog 76 #[.pointer (some ⟨b, 0, none⟩)] w (RPost intV isInt b lb lo cap nv L m N w r) := by
  have FL : RowKit.Hid (∀ w1, Ext w w1 → Calls Try.prog 34 #[.pointer (some ⟨b, 0, none⟩), .int .i64 8] w1 fun e w' => e = .returned (.tuple #[]) ∧ Rt b lb lo cap nv L m N 8 (tk L m).2 w' ∧ Kp b nv nv w1 w') := Lib.hid fun w1 hx => rfail_st (h.ext hx) 8 (by decide)
  obtain ⟨c0, c1, c2, c3, c4, f1, f2, f3, f4, hb⟩ := h.facts
  obtain ⟨t0, t1, t2, t3, hlb⟩ := h.tokFacts
  have hp : (m : Int) < (L.length : Int) := by have := h.pos; omega
  have hp0 : 0 ≤ (m : Int) := by omega
  have hne1 : lb ≠ b := by have := h.low; omega
  have KA : RowKit.Hid (∀ w1, Ext w w1 → Calls Try.prog 69 #[.pointer (some ⟨b, 0, none⟩), .int .i64 2] w1 (RPost (fun t => tokV t (tk L m).2) isTok b lb lo cap nv L m N w1 (ofP L 2 m N.length))) := Lib.hid fun w1 hx => kind_any (h.ext hx) 2 (by decide) _ rfl
  have H := Lib.hid h
  obtain ⟨⟨⟨k, ts, i⟩, a⟩, htt⟩ : ∃ tt, tk L m = tt := ⟨_, rfl⟩
  unfold turnsP pbind at hr
  unfold ofP at KA hr
  rw [htt] at t0 t1 t2 t3 FL KA hr
  unfold tokV at KA
  dsimp only at t0 t1 t2 t3 FL hr KA
  clear htt h c2 c4 f1 f2 f3 f4
  by_cases hk : k = 2
  · subst hk
    by_cases hi : 64 < i
    · rw [if_pos ⟨rfl, hi⟩] at hr
      subst hr
      go_enter Try.func76, Try.ntmps76
      go_wp2_with fail
      refine wp_region_grow 11 27 [false, false, false, false, false, false, false, false, false, false, false] (by kernel_rfl) (by kernel_rfl) rfl ?_
      simp only [List.take_succ_cons, List.take_zero, List.drop_succ_cons, List.drop_zero]
      iterate 10 (refine Lex.step rfl ?_; intro K hK; unfold StepG; go_simp; refine hK _ ?_; clear hK K)
      refine Lex.alloc 3 (.cells #[.int .i64 0, .int .i64 0, .string ⟨#[]⟩, .int .i64 0] 57) rfl rfl (fun d os => ?_) ?_
      · unfold StepG
        go_simp
        exact ⟨(Ext.refl _).alloc _, NewBlk.of_alloc _ _ _ _ _ (by simp [more_size])⟩
      refine Lex.nil fun WW hE => ?_
      intro u hu
      obtain ⟨dt1, ot1, dt2, ot2, rfl, rfl⟩ := hu.split hE
      clear hu hE
      go_simp
      unfold FillH
      go_wp2_with fail
      rw [ends_normal]
      go_wp2_with ((go_at_call 34; (with_reducible refine (FL.out _ (by repeat (first | exact Ext.refl _ | apply Ext.alloc | apply Ext.more))).mono ?_); rintro e w2 ⟨rfl, hs2, hk2⟩; have HS2 := Lib.hid hs2; have HK2 := Lib.hid (((Kp.refl b nv w).ext (by repeat (first | exact Ext.refl _ | apply Ext.alloc | apply Ext.more))).trans hk2); clear hs2 hk2))
      go_at_call 69
      refine (kind_dead (by decide) HS2.out 2).mono ?_
      rintro e _ ⟨rfl, d5, os5, rfl⟩
      go_wp2_with fail
      go_ret
      exact RPost.err (by decide) ⟨_, rfl⟩ (HS2.out.more _ _) (HK2.out.more _ _)
    · rw [if_neg (by omega), if_pos rfl] at hr
      rw [if_pos rfl] at KA
      subst hr
      have hi2 : i ≤ 64 := by omega
      clear hi
      go_enter Try.func76, Try.ntmps76
      go_wp2_with fail
      refine wp_region_grow 11 27 [false, false, false, false, false, false, false, false, false, false, false] (by kernel_rfl) (by kernel_rfl) rfl ?_
      simp only [List.take_succ_cons, List.take_zero, List.drop_succ_cons, List.drop_zero]
      iterate 10 (refine Lex.step rfl ?_; intro K hK; unfold StepG; go_simp; refine hK _ ?_; clear hK K)
      refine Lex.alloc 3 (.cells #[.int .i64 0, .int .i64 0, .string ⟨#[]⟩, .int .i64 0] 57) rfl rfl (fun d os => ?_) ?_
      · unfold StepG
        go_simp
        exact ⟨(Ext.refl _).alloc _, NewBlk.of_alloc _ _ _ _ _ (by simp [more_size])⟩
      refine Lex.nil fun WW hE => ?_
      intro u hu
      obtain ⟨dt1, ot1, dt2, ot2, rfl, rfl⟩ := hu.split hE
      clear hu hE
      go_simp
      unfold FillH
      go_wp2_with fail
      rw [ends_normal]
      go_wp2_with ((go_at_call 69; refine (KA.out _ (by repeat (first | exact Ext.refl _ | apply Ext.alloc | apply Ext.more))).mono ?_; rintro e w1 ⟨rfl, nv1, hs1, hk1, _⟩; have HS1 := Lib.hid hs1; have HK1 := Lib.hid (((Kp.refl b nv w).ext (by repeat (first | exact Ext.refl _ | apply Ext.alloc | apply Ext.more))).trans hk1); clear hs1 hk1))
      go_ret
      exact RPost.res rfl HS1.out HK1.out (Nat.le_succ _)
  · rw [if_neg (by omega), if_neg hk] at hr
    rw [if_neg hk] at KA
    subst hr
    have hk2 : (k == 2) = false := by simpa using hk
    clear hk
    go_enter Try.func76, Try.ntmps76
    go_wp2_with fail
    refine wp_region_grow 11 27 [false, false, false, false, false, false, false, false, false, false, false] (by kernel_rfl) (by kernel_rfl) rfl ?_
    simp only [List.take_succ_cons, List.take_zero, List.drop_succ_cons, List.drop_zero]
    iterate 10 (refine Lex.step rfl ?_; intro K hK; unfold StepG; go_simp; refine hK _ ?_; clear hK K)
    refine Lex.alloc 3 (.cells #[.int .i64 0, .int .i64 0, .string ⟨#[]⟩, .int .i64 0] 57) rfl rfl (fun d os => ?_) ?_
    · unfold StepG
      go_simp
      exact ⟨(Ext.refl _).alloc _, NewBlk.of_alloc _ _ _ _ _ (by simp [more_size])⟩
    refine Lex.nil fun WW hE => ?_
    intro u hu
    obtain ⟨dt1, ot1, dt2, ot2, rfl, rfl⟩ := hu.split hE
    clear hu hE
    go_simp
    unfold FillH
    go_wp2_with fail
    rw [ends_normal]
    go_wp2_with ((go_at_call 69; refine (KA.out _ (by repeat (first | exact Ext.refl _ | apply Ext.alloc | apply Ext.more))).mono ?_; rintro e w1 ⟨hc, ⟨v, rfl, kq, aq, sq, iq, rfl⟩, nv1, m1, N1, hs1, hk1⟩; have HC := Lib.hid hc; have HS1 := Lib.hid hs1; have HK1 := Lib.hid (((Kp.refl b nv w).ext (by repeat (first | exact Ext.refl _ | apply Ext.alloc | apply Ext.more))).trans hk1); clear hs1 hk1 hc))
    go_ret
    exact RPost.err HC.out ⟨_, rfl⟩ HS1.out HK1.out
/-- the signs of a level -/
def SignZ (z : Int) (ss : List ByteArray) : Prop := (z = 0 ∧ ss = ssOr) ∨ (z = 1 ∧ ss = ssAnd) ∨ (z = 2 ∧ ss = ssIs) ∨ (z = 3 ∧ ss = ssJoin) ∨ (z = 4 ∧ ss = ssSum) ∨ (z = 5 ∧ ss = ssTimes)
theorem sign_mem {z : Int} {ss : List ByteArray} {s : ByteArray} (h : SignZ z ss) (hs : s ∈ ss) : (s.size : Int) ≤ 100 ∧ s.toList.isEmpty = false := by
  rcases h with ⟨_, rfl⟩ | ⟨_, rfl⟩ | ⟨_, rfl⟩ | ⟨_, rfl⟩ | ⟨_, rfl⟩ | ⟨_, rfl⟩
  · simp only [ssOr, List.mem_cons, List.not_mem_nil, or_false] at hs
    subst hs; exact ⟨by decide, by kernel_rfl⟩
  · simp only [ssAnd, List.mem_cons, List.not_mem_nil, or_false] at hs
    subst hs; exact ⟨by decide, by kernel_rfl⟩
  · simp only [ssIs, List.mem_cons, List.not_mem_nil, or_false] at hs
    rcases hs with rfl | rfl | rfl | rfl | rfl | rfl <;> exact ⟨by decide, by kernel_rfl⟩
  · simp only [ssJoin, List.mem_cons, List.not_mem_nil, or_false] at hs
    subst hs; exact ⟨by decide, by kernel_rfl⟩
  · simp only [ssSum, List.mem_cons, List.not_mem_nil, or_false] at hs
    rcases hs with rfl | rfl <;> exact ⟨by decide, by kernel_rfl⟩
  · simp only [ssTimes, List.mem_cons, List.not_mem_nil, or_false] at hs
    rcases hs with rfl | rfl | rfl <;> exact ⟨by decide, by kernel_rfl⟩
theorem sign_len {z : Int} {ss : List ByteArray} (h : SignZ z ss) : ss.length ≤ 6 := by
  rcases h with ⟨_, rfl⟩ | ⟨_, rfl⟩ | ⟨_, rfl⟩ | ⟨_, rfl⟩ | ⟨_, rfl⟩ | ⟨_, rfl⟩ <;> decide
theorem sign_get {z : Int} {ss : List ByteArray} (h : SignZ z ss) (j : Nat) : ((ss.getD j ⟨#[]⟩).size : Int) ≤ 100 := by
  by_cases hj : j < ss.length
  · refine (sign_mem h ?_).1
    simp [List.getD, List.getElem?_eq_getElem hj]
  · have : ss.getD j ⟨#[]⟩ = ⟨#[]⟩ := by simp [List.getD, List.getElem?_eq_none (Nat.le_of_not_lt hj)]
    rw [this]; decide
set_option maxHeartbeats 1000000 in
theorem signs_any (z : Int) (ss : List ByteArray) (hz : SignZ z ss) (w : World) :
    Calls Try.prog 130 #[.int .i64 z] w fun e w' => e = .returned (.slice (some ⟨w.heap.size, 0, none⟩) ss.length ss.length) ∧ w' = w.alloc (strs ss) := by
  rcases hz with ⟨rfl, rfl⟩ | ⟨rfl, rfl⟩ | ⟨rfl, rfl⟩ | ⟨rfl, rfl⟩ | ⟨rfl, rfl⟩ | ⟨rfl, rfl⟩
  all_goals
    go_enter Try.func130, Try.ntmps130
    go_wp2_with fail
    go_ret
    exact ⟨rfl, rfl⟩
def optS : Option ByteArray → Value
  | none => .string ⟨#[]⟩
  | some s => .string s
def isStr (v : Value) : Prop := ∃ s, v = .string s
set_option maxHeartbeats 2000000 in
theorem ssign_dead {b lb lo cap : Nat} {nv : Value} {L : Toks} {m : Nat} {N : List Nd} {w : World} {wh : Int} {ee : Int} (hee : ee ≠ 0) (h : Rt b lb lo cap nv L m N ee wh w) (z : Int) (ss : List ByteArray) (hz : SignZ z ss) :
    Calls Try.prog 121 #[.pointer (some ⟨b, 0, none⟩), .int .i64 z] w fun e w' => e = .returned (.string ⟨#[]⟩) ∧ Ext w w' := by
  have SG := Lib.hid (signs_any z ss hz)
  have hsm := sign_get hz
  have hss := sign_len hz
  have H := Lib.hid h
  have G := Lib.hid (h.loc (strs ss))
  have HE := Lib.hid hee
  have SM := Lib.hid hsm
  have hsz : (ss.length : Int) ≤ 6 := by omega
  clear h hee hz hsm
  go_enter Try.func121, Try.ntmps121
  go_wp2_with ((go_at_call 130; (with_reducible refine (SG.out _).mono ?_); rintro e _ ⟨rfl, rfl⟩))
  go_loopw [6] (fun i wr => ∃ j : Nat, i = .int .i64 (j : Int) ∧ j ≤ ss.length ∧ Ext (w.alloc (strs ss)) wr) (fun i _ => ss.length - (intOf i).toNat)
  case atStart => exact ⟨0, rfl, Nat.zero_le _, Ext.refl _⟩
  case round =>
    obtain ⟨j, rfl, hj, hx⟩ := hrel
    have HX := Lib.hid hx
    by_cases hlt : j < ss.length
    · have hlt2 : (j : Int) < (ss.length : Int) := by omega
      have hj0 : 0 ≤ (j : Int) := by omega
      have hcell := ((G.out.ext hx).str j hlt)
      have hsj := SM.out j
      obtain ⟨s, hs⟩ : ∃ s, ss.getD j ⟨#[]⟩ = s := ⟨_, rfl⟩
      rw [hs] at hcell hsj
      have T := Lib.hid (take_dead HE.out ((H.out.alloc _).ext hx) s hsj)
      clear hlt hs hx hsj
      go_wp2_with ((go_at_call 75; (with_reducible refine T.out.mono ?_); rintro e _ ⟨rfl, d, os, rfl⟩))
      go_roundw
      case rel => exact ⟨j + 1, by go_num, by omega, HX.out.more _ _⟩
      case measure => simp [intOf]; omega
    · have hge : (ss.length : Int) ≤ (j : Int) := by omega
      clear hx hlt
      go_wp2_with fail
      go_ret
      exact ⟨rfl, ((Ext.refl _).alloc _).trans HX.out⟩
set_option maxHeartbeats 2000000 in
theorem ssign_any {b lb lo cap : Nat} {nv : Value} {L : Toks} {m : Nat} {N : List Nd} {w : World} (h : Rt b lb lo cap nv L m N 0 0 w) (z : Int) (ss : List ByteArray) (hz : SignZ z ss) (r : PR (Option ByteArray)) (hr : oneOfP L ss m N.length = r) :
    Calls Try.prog 121 #[.pointer (some ⟨b, 0, none⟩), .int .i64 z] w (RPost optS isStr b lb lo cap nv L m N w r) := by
  have SG := Lib.hid (signs_any z ss hz)
  have hsm := sign_get hz
  have hss := sign_len hz
  have H := Lib.hid h
  have G := Lib.hid (h.loc (strs ss))
  have SM := Lib.hid hsm
  have hr2 : findP L m ss = r := hr
  have R := Lib.hid hr2
  have hsz : (ss.length : Int) ≤ 6 := by omega
  clear h hz hsm hr hr2
  go_enter Try.func121, Try.ntmps121
  go_wp2_with ((go_at_call 130; (with_reducible refine (SG.out _).mono ?_); rintro e _ ⟨rfl, rfl⟩))
  go_loopw [6] (fun i wr => ∃ j : Nat, i = .int .i64 (j : Int) ∧ j ≤ ss.length ∧ Ext (w.alloc (strs ss)) wr ∧ findP L m (ss.drop j) = r) (fun i _ => ss.length - (intOf i).toNat)
  case atStart => exact ⟨0, rfl, Nat.zero_le _, Ext.refl _, R.out⟩
  case round =>
    obtain ⟨j, rfl, hj, hx, hr⟩ := hrel
    have HX := Lib.hid hx
    by_cases hlt : j < ss.length
    · have hlt2 : (j : Int) < (ss.length : Int) := by omega
      have hj0 : 0 ≤ (j : Int) := by omega
      have hcell := ((G.out.ext hx).str j hlt)
      have hsj := SM.out j
      rw [drop_cons ss j ⟨#[]⟩ hlt] at hr
      obtain ⟨s, hs⟩ : ∃ s, ss.getD j ⟨#[]⟩ = s := ⟨_, rfl⟩
      rw [hs] at hcell hsj hr
      cases hp : isP L s m
      · rw [findP_no hp] at hr
        have R2 := Lib.hid hr
        have T := Lib.hid (take_no ((H.out.alloc (strs ss)).ext hx) s hsj hp)
        clear hlt hs hp R hr hx hsj
        go_wp2_with ((go_at_call 75; (with_reducible refine T.out.mono ?_); rintro e _ ⟨rfl, d, os, rfl⟩))
        go_roundw
        case rel => exact ⟨j + 1, by go_num, by omega, HX.out.more _ _, R2.out⟩
        case measure => simp [intOf]; omega
      · rw [findP_yes hp] at hr
        have R2 := Lib.hid hr
        have T := Lib.hid (take_yes ((H.out.alloc (strs ss)).ext hx) s hsj hp)
        have G2 := Lib.hid (G.out.ext hx)
        have JL := Lib.hid hlt
        have HSJ := Lib.hid hs
        clear hlt hs hp hr R hx hsj
        go_wp2_with ((go_at_call 75; (with_reducible refine T.out.mono ?_); rintro e w2 ⟨rfl, hs2, hk2⟩; have hcell2 := ((G2.out.kp hk2).str j JL.out); rw [HSJ.out] at hcell2; have HS2 := Lib.hid hs2; have HK2 := Lib.hid ((((Kp.refl b nv w).alloc _).ext HX.out).trans hk2); clear hs2 hk2))
        go_ret
        have := R2.out
        subst this
        exact RPost.res rfl (HS2.out.cast (List.append_nil N).symm) HK2.out (Nat.le_succ _)
    · have hge : (ss.length : Int) ≤ (j : Int) := by omega
      have e : ss.drop j = [] := List.drop_eq_nil_of_le (by omega)
      rw [e] at hr
      have R2 := Lib.hid hr
      clear hr e hx hlt
      go_wp2_with fail
      go_ret
      have := R2.out
      subst this
      exact RPost.res rfl (((H.out.alloc _).ext HX.out).cast (List.append_nil N).symm) (((Kp.refl b nv w).alloc _).ext HX.out) (Nat.le_refl _)
end Go.Proofs.Ytoaaklcbcbjaiaa

namespace Go.Proofs.Ytoaaklcbcbjaiaa
open Go.RowKit
attribute [go_sem] more_more Array.size_append
def nine : List ByteArray := [⟨#[108, 101, 116]⟩, ⟨#[115, 101, 116]⟩, ⟨#[112, 117, 116]⟩, ⟨#[100, 101, 108, 101, 116, 101]⟩, ⟨#[97, 98, 111, 114, 116]⟩, ⟨#[114, 101, 116, 117, 114, 110]⟩, ⟨#[105, 102]⟩, ⟨#[102, 111, 114]⟩, ⟨#[114, 101, 112, 101, 97, 116]⟩]
def beginsB (L : Toks) (m : Nat) : Bool := (tk L m).1.k == 5 && nine.any fun s => (tk L m).1.s.toList == s.toList
theorem nine_snoc (t : ByteArray) (j : Nat) (h : j < nine.length) : (nine.take (j + 1)).any (fun s => t.toList == s.toList) = ((nine.take j).any (fun s => t.toList == s.toList) || t.toList == (nine.getD j ⟨#[]⟩).toList) := by
  have e : nine.take (j + 1) = nine.take j ++ [nine.getD j ⟨#[]⟩] := by
    rw [List.take_succ_eq_append_getElem h]
    congr 2
    simp [List.getD, List.getElem?_eq_getElem h]
  rw [e, List.any_append]
  simp
theorem nine_done (t : ByteArray) (j : Nat) (h : j < nine.length) (he : (t.toList == (nine.getD j ⟨#[]⟩).toList) = true) : nine.any (fun s => t.toList == s.toList) = true := by
  rw [List.any_eq_true]
  refine ⟨nine.getD j ⟨#[]⟩, ?_, he⟩
  simp [List.getD, List.getElem?_eq_getElem h]
set_option maxHeartbeats 4000000 in
set_option maxRecDepth 20000 in
theorem begins_any {b lb lo cap : Nat} {nv : Value} {L : Toks} {m : Nat} {N : List Nd} {w : World} (h : Rt b lb lo cap nv L m N 0 0 w) :
    Calls Try.prog 45 #[.pointer (some ⟨b, 0, none⟩)] w fun e w' => e = .returned (.bool (beginsB L m)) ∧ Ext w w' := by
  have H := Lib.hid h
  have G := Lib.hid (h.loc (strs nine))
  have hp : (m : Int) < (L.length : Int) := by have := h.pos; omega
  have hp0 : 0 ≤ (m : Int) := by omega
  have hnl : nine.length = 9 := rfl
  obtain ⟨⟨⟨k, ts, i⟩, a⟩, htt⟩ : ∃ tt, tk L m = tt := ⟨_, rfl⟩
  have HT := Lib.hid htt
  unfold beginsB
  rw [htt]
  dsimp only
  clear htt h
  obtain ⟨B, hB⟩ : ∃ B, (k == 5 && nine.any fun s => ts.toList == s.toList) = B := ⟨_, rfl⟩
  rw [hB]
  have HB := Lib.hid hB
  clear hB
  go_enter Try.func45, Try.ntmps45
  go_wp2_with fail
  go_loopw [7] (fun i wr => ∃ j : Nat, i = .int .i64 (j : Int) ∧ j ≤ 9 ∧ Ext (w.alloc (strs nine)) wr ∧ ((k == 5) = true → (nine.take j).any (fun s => ts.toList == s.toList) = false)) (fun i _ => 9 - (intOf i).toNat)
  case atStart => exact ⟨0, rfl, Nat.zero_le _, Ext.refl _, fun _ => rfl⟩
  case round =>
    obtain ⟨j, rfl, hj, hx, hno⟩ := hrel
    have HX := Lib.hid hx
    have HNO := Lib.hid hno
    by_cases hlt : j < 9
    · have hlt2 : (j : Int) < 9 := by omega
      have hj0 : 0 ≤ (j : Int) := by omega
      have hcell := ((G.out.ext hx).str j (by rw [hnl]; exact hlt))
      have H1 := (H.out.alloc (strs nine)).ext hx
      obtain ⟨c0, c1, c2, c3, c4, f1, f2, f3, f4, hb⟩ := H1.facts
      obtain ⟨t0, t1, t2, t3, hlb⟩ := H1.tokFacts
      rw [HT.out] at t0 t1 t2 t3
      dsimp only at t0 t1 t2 t3
      obtain ⟨s, hs⟩ : ∃ s, nine.getD j ⟨#[]⟩ = s := ⟨_, rfl⟩
      rw [hs] at hcell
      have HS := Lib.hid hs
      have HLT := Lib.hid hlt
      clear hx hno hlt hs H1 c2 c3 c4 f1 f2 f3 f4 t1 t3
      cases hk : (k == 5)
      · 
        go_wp2_with fail
        refine wp_region_grow 25 39 [false, false, false, false, false, false, false, false, false, false, false, false, false, false, false, false, false, false, false, false, false, false, false, false, false] (by kernel_rfl) (by kernel_rfl) rfl ?_
        simp only [List.take_succ_cons, List.take_zero, List.drop_succ_cons, List.drop_zero]
        repeat (refine Lex.step rfl ?_; intro K hK; unfold StepG; go_simp; (first
            | refine hK _ ?_); clear hK K)
        refine Lex.nil fun WW hE => ?_
        obtain ⟨dd, oo, rfl⟩ := hE
        unfold FillH
        go_wp2_with fail
        rw [ends_normal]
        go_wp2_with fail
        go_roundw
        case rel => exact ⟨j + 1, by go_num, by have := HLT.out; omega, HX.out.more _ _, fun h => by simp at h⟩
        case measure => have := HLT.out; simp [intOf]; omega
      · cases hq : (ts.toList == s.toList)
        · 
          go_wp2_with fail
          refine wp_region_grow 25 39 [false, false, false, false, false, false, false, false, false, false, false, false, false, false, false, false, false, false, false, false, false, false, false, false, false] (by kernel_rfl) (by kernel_rfl) rfl ?_
          simp only [List.take_succ_cons, List.take_zero, List.drop_succ_cons, List.drop_zero]
          repeat (refine Lex.step rfl ?_; intro K hK; unfold StepG; go_simp; (first
              | refine hK _ ?_); clear hK K)
          refine Lex.nil fun WW hE => ?_
          obtain ⟨dd, oo, rfl⟩ := hE
          unfold FillH
          go_wp2_with fail
          rw [ends_normal]
          go_wp2_with fail
          go_roundw
          case rel => exact ⟨j + 1, by go_num, by have := HLT.out; omega, HX.out.more _ _, fun h => by rw [nine_snoc _ _ (by rw [hnl]; exact HLT.out), HS.out, HNO.out hk]; simpa using hq⟩
          case measure => have := HLT.out; simp [intOf]; omega
        · have RR : RowKit.Hid (true = B) := Lib.hid (by rw [← HB.out, hk, nine_done ts j (by rw [hnl]; exact HLT.out) (by rw [HS.out]; exact hq)]; rfl)
          go_wp2_with fail
          refine wp_region_grow 25 39 [false, false, false, false, false, false, false, false, false, false, false, false, false, false, false, false, false, false, false, false, false, false, false, false, false] (by kernel_rfl) (by kernel_rfl) rfl ?_
          simp only [List.take_succ_cons, List.take_zero, List.drop_succ_cons, List.drop_zero]
          repeat (refine Lex.step rfl ?_; intro K hK; unfold StepG; go_simp; (first
              | refine hK _ ?_); clear hK K)
          refine Lex.nil fun WW hE => ?_
          obtain ⟨dd, oo, rfl⟩ := hE
          unfold FillH
          go_wp2_with fail
          rw [ends_normal]
          go_wp2_with fail
          go_ret
          exact ⟨ret_bool RR.out, ((Ext.refl _).alloc _).trans (HX.out.more _ _)⟩
    · have hge : (9 : Int) ≤ (j : Int) := by omega
      have RR : RowKit.Hid (false = B) := Lib.hid (by
        rw [← HB.out]
        cases hk : (k == 5)
        · rfl
        · have e : nine.take j = nine := List.take_of_length_le (by rw [hnl]; omega)
          have := hno hk
          rw [e] at this
          rw [this]; rfl)
      clear hx hno hlt
      go_wp2_with fail
      go_ret
      exact ⟨ret_bool RR.out, ((Ext.refl _).alloc _).trans HX.out⟩
end Go.Proofs.Ytoaaklcbcbjaiaa

namespace Go.Proofs.Ytoaaklcbcbjaiaa
open Go.RowKit
attribute [go_sem] more_more Array.size_append
set_option maxHeartbeats 1000000 in
theorem level_dead {b lb lo cap : Nat} {nv : Value} {L : Toks} {m : Nat} {N : List Nd} {w : World} {wh : Int} {ee : Int} (hee : ee ≠ 0) (h : Rt b lb lo cap nv L m N ee wh w) (z d : Int) :
    Calls Try.prog 96 #[.pointer (some ⟨b, 0, none⟩), .int .i64 z, .int .i64 d] w fun e w' => e = .returned (.int .i64 (-1)) ∧ Ext w w' := by
  obtain ⟨c0, c1, c2, c3, c4, f1, f2, f3, f4, hb⟩ := h.facts
  have q : (ee != 0) = true := by simpa using hee
  clear h c0 c1 c2 c4 f1 f2 f3 f4 hee
  go_enter Try.func96, Try.ntmps96
  go_wp2_with fail
  go_ret
  exact ⟨rfl, by repeat (first | exact Ext.refl _ | apply Ext.alloc | apply Ext.more)⟩
set_option maxHeartbeats 1000000 in
theorem rexpr_dead {b lb lo cap : Nat} {nv : Value} {L : Toks} {m : Nat} {N : List Nd} {w : World} {wh : Int} {ee : Int} (hee : ee ≠ 0) (h : Rt b lb lo cap nv L m N ee wh w) (d : Int) :
    Calls Try.prog 72 #[.pointer (some ⟨b, 0, none⟩), .int .i64 d] w fun e w' => e = .returned (.int .i64 (-1)) ∧ Ext w w' := by
  have FL : RowKit.Hid (∀ (c : Int) w1, Ext w w1 → Calls Try.prog 34 #[.pointer (some ⟨b, 0, none⟩), .int .i64 c] w1 fun e w' => e = .returned (.tuple #[]) ∧ Ext w1 w') := Lib.hid fun c w1 hx => rfail_dead hee (h.ext hx) c
  have LV : RowKit.Hid (∀ (z d : Int) w1, Ext w w1 → Calls Try.prog 96 #[.pointer (some ⟨b, 0, none⟩), .int .i64 z, .int .i64 d] w1 fun e w' => e = .returned (.int .i64 (-1)) ∧ Ext w1 w') := Lib.hid fun z d w1 hx => level_dead hee (h.ext hx) z d
  clear h hee
  by_cases hd : 16 < d
  · 
    go_enter Try.func72, Try.ntmps72
    go_wp2_with (first
      | ((go_at_call 34; (with_reducible refine (FL.out _ _ (by repeat (first | exact Ext.refl _ | apply Ext.alloc | apply Ext.more))).mono ?_); rintro e _ ⟨rfl, d2, os2, rfl⟩))
      | ((go_at_call 96; (with_reducible refine (LV.out _ _ _ (by repeat (first | exact Ext.refl _ | apply Ext.alloc | apply Ext.more))).mono ?_); rintro e _ ⟨rfl, d3, os3, rfl⟩)))
    go_ret
    exact ⟨rfl, by repeat (first | exact Ext.refl _ | apply Ext.alloc | apply Ext.more)⟩
  · have hd2 : d ≤ 16 := by omega
    clear hd
    go_enter Try.func72, Try.ntmps72
    go_wp2_with (first
      | ((go_at_call 34; (with_reducible refine (FL.out _ _ (by repeat (first | exact Ext.refl _ | apply Ext.alloc | apply Ext.more))).mono ?_); rintro e _ ⟨rfl, d2, os2, rfl⟩))
      | ((go_at_call 96; (with_reducible refine (LV.out _ _ _ (by repeat (first | exact Ext.refl _ | apply Ext.alloc | apply Ext.more))).mono ?_); rintro e _ ⟨rfl, d3, os3, rfl⟩)))
    go_ret
    exact ⟨rfl, by repeat (first | exact Ext.refl _ | apply Ext.alloc | apply Ext.more)⟩
/-- the contract of expr, one, block at a depth -/
def RDp (b lb lo cap : Nat) (L : Toks) (F : FuncId) (z : Int) (p : PM Int) : Prop := ∀ nv m N w, Rt b lb lo cap nv L m N 0 0 w → ∀ r, p m N.length = r → Calls Try.prog F #[.pointer (some ⟨b, 0, none⟩), .int .i64 z] w (RPost intV isInt b lb lo cap nv L m N w r)
/-- the contract of a level -/
def RLv (b lb lo cap : Nat) (L : Toks) (z d : Int) (p : PM Int) : Prop := ∀ nv m N w, Rt b lb lo cap nv L m N 0 0 w → ∀ r, p m N.length = r → Calls Try.prog 96 #[.pointer (some ⟨b, 0, none⟩), .int .i64 z, .int .i64 d] w (RPost intV isInt b lb lo cap nv L m N w r)
set_option maxHeartbeats 1000000 in
theorem level_six {b lb lo cap : Nat} {L : Toks} (d : Int) (p : PM Int) (ho : RDp b lb lo cap L 120 d p) : RLv b lb lo cap L 6 d p := by
  intro nv m N w h r hr
  have O := Lib.hid (ho nv m N w h r hr)
  obtain ⟨c0, c1, c2, c3, c4, f1, f2, f3, f4, hb⟩ := h.facts
  clear h ho hr c0 c1 c2 c4 f1 f2 f3 f4
  rcases r with ⟨e1, e2⟩ | ⟨v, m1, ns⟩
  · 
    go_enter Try.func96, Try.ntmps96
    go_wp2_with ((go_at_call 120; (with_reducible refine O.out.mono ?_); rintro e w1 ⟨hc, ⟨v, rfl, y, rfl⟩, hp⟩; have HC := Lib.hid (And.intro hc hp); clear hc hp))
    go_ret
    exact ⟨HC.out.1, ⟨_, rfl, y, rfl⟩, HC.out.2⟩
  · 
    go_enter Try.func96, Try.ntmps96
    go_wp2_with ((go_at_call 120; (with_reducible refine O.out.mono ?_); rintro e w1 ⟨he, hp⟩; have HP := Lib.hid hp; clear hp; unfold intV at he; subst he))
    go_ret
    exact ⟨rfl, HP.out⟩
theorem comp_eq {L : Toks} (cl : PM Int) (ss : List ByteArray) (m n : Nat) : (pbind cl fun a => pbind (oneOfP L ss) fun o => match o with
    | none => pok a
    | some s => pbind cl fun b => layP L (twoNd a b s)) m n = thenR (cl m n) (fun a m1 ns => prep ns (thenR (oneOfP L ss m1 (n + ns.length)) fun o m2 _ => match o with
    | none => .ok (a, m2, [])
    | some s => thenR (cl m2 (n + ns.length)) fun b m3 ns3 => prep ns3 (layP L (twoNd a b s) m3 (n + ns.length + ns3.length)))) := by
  cases h1 : cl m n with
  | error e => rw [pbind_err h1]; rfl
  | ok v =>
    obtain ⟨a, m1, ns⟩ := v
    rw [pbind_ok h1]
    show prep ns _ = prep ns _
    rcases oneOf_cases L ss m1 (n + ns.length) with h2 | ⟨s, h2⟩
    · rw [pbind_ok h2, prep_nil, h2]; rfl
    · rw [pbind_ok h2, prep_nil, h2]
      show prep ns (pbind cl (fun b => layP L (twoNd a b s)) (m1 + 1) (n + ns.length)) = _
      cases h3 : cl (m1 + 1) (n + ns.length) with
      | error e => rw [pbind_err h3]; simp only [thenR, h3]
      | ok v => obtain ⟨c, m3, ns3⟩ := v; rw [pbind_ok h3]; simp only [thenR, h3]
set_option maxHeartbeats 4000000 in
set_option maxRecDepth 20000 in
theorem level_two {b lb lo cap : Nat} {L : Toks} (z d : Int) (ss : List ByteArray) (hz : SignZ z ss) (hz2 : z ≠ 2) (cl : PM Int) (hcl : RLv b lb lo cap L (z + 1) d cl) : RLv b lb lo cap L z d (twoP L cl ss) := by
  intro nv m N w h r hr
  have hzz : 0 ≤ z ∧ z ≤ 5 := by rcases hz with ⟨rfl, _⟩ | ⟨rfl, _⟩ | ⟨rfl, _⟩ | ⟨rfl, _⟩ | ⟨rfl, _⟩ | ⟨rfl, _⟩ <;> omega
  have hz0 : 0 ≤ z := hzz.1
  have hz5 : z ≤ 5 := hzz.2
  have q6 : (z == 6) = false := by simp; omega
  have q2 : (z == 2) = false := by simpa using hz2
  have HZ := Lib.hid hz
  have HCL := Lib.hid hcl
  have SE : RowKit.Hid (∀ s, s ∈ ss → s.toList.isEmpty = false) := Lib.hid fun s hs => (sign_mem hz hs).2
  obtain ⟨r1, hr1⟩ : ∃ r1, cl m N.length = r1 := ⟨_, rfl⟩
  have C1 := Lib.hid (hcl nv m N w h r1 hr1)
  obtain ⟨c0, c1, c2, c3, c4, f1, f2, f3, f4, hb⟩ := h.facts
  have HL := Lib.hid h.ends.few
  clear h hcl hz hzz hz2 c0 c1 c2 c4 f1 f2 f3 f4
  rcases r1 with ⟨e1, e2⟩ | ⟨a1, m1, ns1⟩
  · have R2 : RowKit.Hid (.error (e1, e2) = r) := Lib.hid (by rw [← hr]; unfold twoP; rw [pbind_err hr1])
    clear hr hr1
    go_enter Try.func96, Try.ntmps96
    go_wp2_with ((go_at_call 96; (with_reducible refine (C1.out).mono ?_); rintro e w1 ⟨hc, ⟨v, rfl, y, rfl⟩, nv1, m1, N1, hs1, hk1⟩; have HC := Lib.hid hc; have HS := Lib.hid hs1; have HK := Lib.hid hk1; clear hc hs1 hk1))
    go_loopg [7] (0) (fun g x wr => x = .int .i64 y ∧ wr = w1)
    case atStart => exact ⟨rfl, rfl⟩
    case round =>
      obtain ⟨rfl, rfl⟩ := hrel
      go_wp2_with fail
      go_at_call 121
      refine (ssign_dead HC.out HS.out z ss HZ.out).mono ?_
      rintro e _ ⟨rfl, d5, os5, rfl⟩
      go_wp2_with fail
      go_ret
      have := R2.out
      subst this
      exact RPost.err HC.out ⟨_, rfl⟩ (HS.out.more _ _) (HK.out.more _ _)
  · have R2 : RowKit.Hid (prep ns1 (twoLoop L cl ss (L.length + 1) a1 m1 (N.length + ns1.length)) = r) := Lib.hid (by rw [← hr]; unfold twoP; rw [pbind_ok hr1])
    clear hr hr1
    go_enter Try.func96, Try.ntmps96
    go_wp2_with ((go_at_call 96; (with_reducible refine (C1.out).mono ?_); rintro e w1 ⟨he, nv1, hs1, hk1, hm1⟩; unfold intV at he; subst he; have HS1 := Lib.hid hs1; have HK1 := Lib.hid hk1; have HM1 := Lib.hid hm1; clear hs1 hk1 hm1))
    go_loopg [7] (L.length + 1) (fun g x wr => (∃ (y : Int) (m2 : Nat) (ns : List Nd) (nv2 : Value), x = .int .i64 y ∧ m ≤ m2 ∧ L.length + 1 ≤ m2 + g ∧ Rt b lb lo cap nv2 L m2 (N ++ ns) 0 0 wr ∧ Kp b nv nv2 w wr ∧ prep ns (twoLoop L cl ss g y m2 (N.length + ns.length)) = r) ∨
      (∃ (y c a : Int) (m2 : Nat) (N2 : List Nd) (nv2 : Value), x = .int .i64 y ∧ c ≠ 0 ∧ Rt b lb lo cap nv2 L m2 N2 c a wr ∧ Kp b nv nv2 w wr ∧ .error (c, a) = r))
    case atStart => exact Or.inl ⟨a1, m1, ns1, nv1, rfl, HM1.out, by omega, HS1.out, HK1.out, R2.out⟩
    case round =>
      rcases hrel with ⟨y, m2, ns, nv2, rfl, hm2, hg, hst, hkp, hres⟩ | ⟨y, c, a, m2, N2, nv2, rfl, hc, hst, hkp, hres⟩
      · obtain ⟨g0, rfl⟩ : ∃ g0, gk = g0 + 1 := ⟨gk - 1, by have := hst.pos; omega⟩
        have HK := Lib.hid hkp
        have HM := Lib.hid (And.intro hm2 hg)
        rcases oneOf_cases L ss m2 (N ++ ns).length with h1 | ⟨s, h1⟩
        · rw [twoL_none (by rw [← List.length_append]; exact h1)] at hres
          have RR := Lib.hid hres
          have O := Lib.hid (ssign_any hst z ss HZ.out _ h1)
          clear hres h1 hst hkp hm2 hg
          go_wp2_with ((go_at_call 121; (with_reducible refine O.out.mono ?_); rintro e w2 ⟨he, nv3, hs3, hk3, _⟩; have HS3 := Lib.hid hs3; have HK3 := Lib.hid hk3; clear hs3 hk3; unfold optS at he; subst he))
          go_ret
          have := RR.out
          subst this
          exact RPost.res rfl (HS3.out.cast (by simp)) (HK.out.trans HK3.out) HM.out.1
        · have hse : s.toList.isEmpty = false := by
            refine SE.out s ?_
            unfold oneOfP at h1
            cases hf : ss.find? (fun s => isP L s m2) with
            | none => rw [hf] at h1; simp at h1
            | some s' => rw [hf] at h1; simp at h1; rw [← h1]; exact List.mem_of_find?_eq_some hf
          have O := Lib.hid (ssign_any hst z ss HZ.out _ h1)
          rw [List.length_append] at h1
          obtain ⟨r3, hr3⟩ : ∃ r3, cl (m2 + 1) (N.length + ns.length) = r3 := ⟨_, rfl⟩
          have C3 : RowKit.Hid (∀ nv3 w3, Rt b lb lo cap nv3 L (m2 + 1) (N ++ ns ++ []) 0 0 w3 → Calls Try.prog 96 #[.pointer (some ⟨b, 0, none⟩), .int .i64 (z + 1), .int .i64 d] w3 (RPost intV isInt b lb lo cap nv3 L (m2 + 1) (N ++ ns ++ []) w3 r3)) :=
            Lib.hid fun nv3 w3 hs => HCL.out nv3 (m2 + 1) _ w3 hs r3 (by rw [List.append_nil, List.length_append]; exact hr3)
          rcases r3 with ⟨e1, e2⟩ | ⟨z3, m3, ns3⟩
          · rw [twoL_err h1 hr3] at hres
            have RR := Lib.hid hres
            clear hres h1 hst hkp hm2 hg hr3
            go_wp2_with ((go_at_call 121; (with_reducible refine O.out.mono ?_); rintro e w2 ⟨he, nv3, hs3, hk3, _⟩; have HS3 := Lib.hid hs3; have HK3 := Lib.hid hk3; clear hs3 hk3; unfold optS at he; subst he))
            refine (C3.out nv3 _ HS3.out).mono ?_
            rintro e w4 ⟨hc, ⟨v, rfl, y4, rfl⟩, nv4, m4, N4, hs4, hk4⟩
            have HC := Lib.hid hc
            have HS4 := Lib.hid hs4
            have HK4 := Lib.hid ((HK.out.trans HK3.out).trans hk4)
            clear hc hs4 hk4
            go_wp2_with (first | ((go_at_call 70; (with_reducible refine (new_any _ _ _ _).mono ?_); rintro e _ ⟨rfl, d3, os3, rfl⟩)) | ((go_at_call 73; (with_reducible refine (rlay_dead HC.out (show Rt b lb lo cap nv4 L m4 N4 e1 e2 _ from by repeat (first | (with_reducible exact HS4.out) | (with_reducible apply Rt.alloc) | (with_reducible apply Rt.more))) _ _ _ _ _ _ _ _).mono ?_); rintro e _ ⟨rfl, d6, os6, rfl⟩)))
            go_roundg g0
            case measure => omega
            case rel => exact Or.inr ⟨-1, e1, e2, m4, N4, nv4, rfl, HC.out, (by repeat (first | (with_reducible exact HS4.out) | (with_reducible apply Rt.alloc) | (with_reducible apply Rt.more))), (by repeat (first | (with_reducible exact HK4.out) | (with_reducible apply Kp.alloc) | (with_reducible apply Kp.more))), RR.out⟩
          · obtain ⟨r4, hr4⟩ : ∃ r4, layP L (twoNd y z3 s) m3 (N.length + ns.length + ns3.length) = r4 := ⟨_, rfl⟩
            have LA : RowKit.Hid (∀ nv4 w5, Rt b lb lo cap nv4 L m3 (N ++ ns ++ [] ++ ns3) 0 0 w5 → Calls Try.prog 73 #[.pointer (some ⟨b, 0, none⟩), .agg #[.int .i64 11, .int .i64 y, .int .i64 z3, .int .i64 (-1), .int .i64 (-1), .int .i64 0, .string s, .string ⟨#[]⟩]] w5 (RPost intV isInt b lb lo cap nv4 L m3 (N ++ ns ++ [] ++ ns3) w5 r4)) :=
              Lib.hid fun nv4 w5 hs => rlay_any hs _ _ _ _ _ _ _ _ r4 (by rw [← hr4]; simp [twoNd, nd, Nat.add_assoc])
            have RR : RowKit.Hid (prep ns (thenR r4 fun a1 m4 ns4 => prep (ns3 ++ ns4) (twoLoop L cl ss g0 a1 m4 (N.length + ns.length + (ns3 ++ ns4).length))) = r) := Lib.hid (by
              rw [← hres]
              congr 1
              rcases r4 with ⟨e1, e2⟩ | ⟨a1, m4, ns4⟩
              · rw [twoL_lay h1 hr3 hr4]; rfl
              · rw [twoL_ok h1 hr3 hr4]; rfl)
            clear hres h1 hst hkp hm2 hg hr3 hr4
            go_wp2_with ((go_at_call 121; (with_reducible refine O.out.mono ?_); rintro e w2 ⟨he, nv3, hs3, hk3, _⟩; have HS3 := Lib.hid hs3; have HK3 := Lib.hid hk3; clear hs3 hk3; unfold optS at he; subst he))
            refine (C3.out nv3 _ HS3.out).mono ?_
            rintro e w4 ⟨he, nv4, hs4, hk4, hm4⟩
            unfold intV at he
            subst he
            have HS4 := Lib.hid hs4
            have HK4 := Lib.hid ((HK.out.trans HK3.out).trans hk4)
            have HM4 := Lib.hid hm4
            clear hs4 hk4 hm4
            go_wp2_with ((go_at_call 70; (with_reducible refine (new_any _ _ _ _).mono ?_); rintro e _ ⟨rfl, d3, os3, rfl⟩))
            refine (LA.out nv4 _ (show Rt b lb lo cap nv4 L m3 (N ++ ns ++ [] ++ ns3) 0 0 _ from by repeat (first | (with_reducible exact HS4.out) | (with_reducible apply Rt.alloc) | (with_reducible apply Rt.more)))).mono ?_
            rcases r4 with ⟨e1, e2⟩ | ⟨a4, m4, ns4⟩
            · rintro e w5 ⟨hc, ⟨v, rfl, y5, rfl⟩, nv5, m5, N5, hs5, hk5⟩
              have HC := Lib.hid hc
              have HS5 := Lib.hid hs5
              have HK5 := Lib.hid (Kp.trans (show Kp b nv nv4 w _ from by repeat (first | (with_reducible exact HK4.out) | (with_reducible apply Kp.alloc) | (with_reducible apply Kp.more))) hk5)
              clear hc hs5 hk5
              go_wp2_with fail
              go_roundg g0
              case measure => omega
              case rel => exact Or.inr ⟨y5, e1, e2, m5, N5, nv5, rfl, HC.out, HS5.out, HK5.out, RR.out⟩
            · rintro e w5 ⟨he, nv5, hs5, hk5, hm5⟩
              unfold intV at he
              subst he
              have HS5 := Lib.hid hs5
              have HK5 := Lib.hid (Kp.trans (show Kp b nv nv4 w _ from by repeat (first | (with_reducible exact HK4.out) | (with_reducible apply Kp.alloc) | (with_reducible apply Kp.more))) hk5)
              have HM5 := Lib.hid hm5
              clear hs5 hk5 hm5
              go_wp2_with fail
              go_roundg g0
              case measure => omega
              case rel =>
                have q1 := HM5.out
                have q2 := HM4.out
                have q3 := HM.out
                have q5 := RR.out
                exact Or.inl ⟨a4, m4, ns ++ (ns3 ++ ns4), nv5, rfl, by omega, by omega, HS5.out.cast (by simp), HK5.out, by rw [← q5]; unfold thenR; dsimp only; rw [prep_prep, List.length_append, Nat.add_assoc]⟩
      · have HC := Lib.hid hc
        have HS := Lib.hid hst
        have HK := Lib.hid hkp
        have RR := Lib.hid hres
        clear hc hst hkp hres
        go_wp2_with fail
        go_at_call 121
        refine (ssign_dead HC.out HS.out z ss HZ.out).mono ?_
        rintro e _ ⟨rfl, d5, os5, rfl⟩
        go_wp2_with fail
        go_ret
        have := RR.out
        subst this
        exact RPost.err HC.out ⟨_, rfl⟩ (HS.out.more _ _) (HK.out.more _ _)
end Go.Proofs.Ytoaaklcbcbjaiaa

namespace Go.Proofs.Ytoaaklcbcbjaiaa
open Go.RowKit
attribute [go_sem] more_more Array.size_append
set_option maxHeartbeats 4000000 in
set_option maxRecDepth 20000 in
theorem level_comp {b lb lo cap : Nat} {L : Toks} (d : Int) (o : PM Int) (hcl : RLv b lb lo cap L 3 d (joinP L o)) : RLv b lb lo cap L 2 d (compP L o) := by
  intro nv m N w h r hr
  have hz : SignZ 2 ssIs := Or.inr (Or.inr (Or.inl ⟨rfl, rfl⟩))
  have HZ := Lib.hid hz
  have HCL := Lib.hid hcl
  have SE : RowKit.Hid (∀ s, s ∈ ssIs → s.toList.isEmpty = false) := Lib.hid fun s hs => (sign_mem hz hs).2
  obtain ⟨cl, hcl2⟩ : ∃ cl, joinP L o = cl := ⟨_, rfl⟩
  have hr2 : thenR (cl m N.length) (fun a m1 ns => prep ns (thenR (oneOfP L ssIs m1 (N.length + ns.length)) fun o m2 _ => match o with
    | none => .ok (a, m2, [])
    | some s => thenR (cl m2 (N.length + ns.length)) fun b m3 ns3 => prep ns3 (layP L (twoNd a b s) m3 (N.length + ns.length + ns3.length)))) = r := by
    rw [← hcl2]; exact (comp_eq (joinP L o) ssIs m N.length).symm.trans hr
  rw [hcl2] at HCL
  obtain ⟨r1, hr1⟩ : ∃ r1, cl m N.length = r1 := ⟨_, rfl⟩
  have C1 := Lib.hid (HCL.out nv m N w h r1 hr1)
  obtain ⟨c0, c1, c2, c3, c4, f1, f2, f3, f4, hb⟩ := h.facts
  rw [hr1] at hr2
  clear h hcl hz hr hcl2 hr1 c0 c1 c2 c4 f1 f2 f3 f4
  rcases r1 with ⟨e1, e2⟩ | ⟨a1, m1, ns1⟩
  · have R2 : RowKit.Hid (.error (e1, e2) = r) := Lib.hid hr2
    clear hr2
    go_enter Try.func96, Try.ntmps96
    go_wp2_with ((go_at_call 96; (with_reducible refine (C1.out).mono ?_); rintro e w1 ⟨hc, ⟨v, rfl, y, rfl⟩, nv1, m1, N1, hs1, hk1⟩; have HC := Lib.hid hc; have HS := Lib.hid hs1; have HK := Lib.hid hk1; clear hc hs1 hk1))
    go_loopg [7] (0) (fun g x wr => x = .int .i64 y ∧ wr = w1)
    case atStart => exact ⟨rfl, rfl⟩
    case round =>
      obtain ⟨rfl, rfl⟩ := hrel
      go_wp2_with fail
      go_at_call 121
      refine (ssign_dead HC.out HS.out 2 ssIs HZ.out).mono ?_
      rintro e _ ⟨rfl, d5, os5, rfl⟩
      go_wp2_with fail
      go_ret
      have := R2.out
      subst this
      exact RPost.err HC.out ⟨_, rfl⟩ (HS.out.more _ _) (HK.out.more _ _)
  · have R2 := Lib.hid hr2
    clear hr2
    go_enter Try.func96, Try.ntmps96
    go_wp2_with ((go_at_call 96; (with_reducible refine (C1.out).mono ?_); rintro e w1 ⟨he, nv1, hs1, hk1, hm1⟩; unfold intV at he; subst he; have HS1 := Lib.hid hs1; have HK1 := Lib.hid hk1; have HM1 := Lib.hid hm1; clear hs1 hk1 hm1))
    go_loopg [7] (0) (fun g x wr => x = .int .i64 a1 ∧ wr = w1)
    case atStart => exact ⟨rfl, rfl⟩
    case round =>
      obtain ⟨rfl, rfl⟩ := hrel
      rcases oneOf_cases L ssIs m1 (N ++ ns1).length with h1 | ⟨s, h1⟩
      · have O := Lib.hid (ssign_any HS1.out 2 ssIs HZ.out _ h1)
        have RR : RowKit.Hid (.ok (a1, m1, ns1) = r) := Lib.hid (by rw [← R2.out]; rw [List.length_append] at h1; simp only [thenR, h1, prep, List.append_nil])
        clear h1
        go_wp2_with ((go_at_call 121; (with_reducible refine O.out.mono ?_); rintro e w2 ⟨he, nv3, hs3, hk3, _⟩; have HS3 := Lib.hid hs3; have HK3 := Lib.hid hk3; clear hs3 hk3; unfold optS at he; subst he))
        go_ret
        have := RR.out
        subst this
        exact RPost.res rfl (HS3.out.cast (by simp)) (HK1.out.trans HK3.out) HM1.out
      · have hse : s.toList.isEmpty = false := by
          refine SE.out s ?_
          unfold oneOfP at h1
          cases hf : ssIs.find? (fun s => isP L s m1) with
          | none => rw [hf] at h1; simp at h1
          | some s' => rw [hf] at h1; simp at h1; rw [← h1]; exact List.mem_of_find?_eq_some hf
        have O := Lib.hid (ssign_any HS1.out 2 ssIs HZ.out _ h1)
        rw [List.length_append] at h1
        obtain ⟨r3, hr3⟩ : ∃ r3, cl (m1 + 1) (N.length + ns1.length) = r3 := ⟨_, rfl⟩
        have C3 : RowKit.Hid (∀ nv3 w3, Rt b lb lo cap nv3 L (m1 + 1) (N ++ ns1 ++ []) 0 0 w3 → Calls Try.prog 96 #[.pointer (some ⟨b, 0, none⟩), .int .i64 3, .int .i64 d] w3 (RPost intV isInt b lb lo cap nv3 L (m1 + 1) (N ++ ns1 ++ []) w3 r3)) :=
          Lib.hid fun nv3 w3 hs => HCL.out nv3 (m1 + 1) _ w3 hs r3 (by rw [List.append_nil, List.length_append]; exact hr3)
        have RR : RowKit.Hid (prep ns1 (thenR r3 fun b m3 ns3 => prep ns3 (layP L (twoNd a1 b s) m3 (N.length + ns1.length + ns3.length))) = r) := Lib.hid (by rw [← R2.out]; simp only [thenR, h1]; rw [hr3])
        clear h1 hr3
        rcases r3 with ⟨e1, e2⟩ | ⟨z3, m3, ns3⟩
        · go_wp2_with ((go_at_call 121; (with_reducible refine O.out.mono ?_); rintro e w2 ⟨he, nv3, hs3, hk3, _⟩; have HS3 := Lib.hid hs3; have HK3 := Lib.hid hk3; clear hs3 hk3; unfold optS at he; subst he))
          refine (C3.out nv3 _ HS3.out).mono ?_
          rintro e w4 ⟨hc, ⟨v, rfl, y4, rfl⟩, nv4, m4, N4, hs4, hk4⟩
          have HC := Lib.hid hc
          have HS4 := Lib.hid hs4
          have HK4 := Lib.hid ((HK1.out.trans HK3.out).trans hk4)
          clear hc hs4 hk4
          go_wp2_with (first | ((go_at_call 70; (with_reducible refine (new_any _ _ _ _).mono ?_); rintro e _ ⟨rfl, d3, os3, rfl⟩)) | ((go_at_call 73; (with_reducible refine (rlay_dead HC.out (show Rt b lb lo cap nv4 L m4 N4 e1 e2 _ from by repeat (first | (with_reducible exact HS4.out) | (with_reducible apply Rt.alloc) | (with_reducible apply Rt.more))) _ _ _ _ _ _ _ _).mono ?_); rintro e _ ⟨rfl, d6, os6, rfl⟩)))
          go_ret
          have := RR.out
          subst this
          exact RPost.err HC.out ⟨_, rfl⟩ (by repeat (first | (with_reducible exact HS4.out) | (with_reducible apply Rt.alloc) | (with_reducible apply Rt.more))) (by repeat (first | (with_reducible exact HK4.out) | (with_reducible apply Kp.alloc) | (with_reducible apply Kp.more)))
        · obtain ⟨r4, hr4⟩ : ∃ r4, layP L (twoNd a1 z3 s) m3 (N.length + ns1.length + ns3.length) = r4 := ⟨_, rfl⟩
          have LA : RowKit.Hid (∀ nv4 w5, Rt b lb lo cap nv4 L m3 (N ++ ns1 ++ [] ++ ns3) 0 0 w5 → Calls Try.prog 73 #[.pointer (some ⟨b, 0, none⟩), .agg #[.int .i64 11, .int .i64 a1, .int .i64 z3, .int .i64 (-1), .int .i64 (-1), .int .i64 0, .string s, .string ⟨#[]⟩]] w5 (RPost intV isInt b lb lo cap nv4 L m3 (N ++ ns1 ++ [] ++ ns3) w5 r4)) :=
            Lib.hid fun nv4 w5 hs => rlay_any hs _ _ _ _ _ _ _ _ r4 (by rw [← hr4]; simp [twoNd, nd, Nat.add_assoc])
          have RR4 : RowKit.Hid (prep ns1 (prep ns3 r4) = r) := Lib.hid (by rw [← RR.out, ← hr4]; rfl)
          clear hr4
          go_wp2_with ((go_at_call 121; (with_reducible refine O.out.mono ?_); rintro e w2 ⟨he, nv3, hs3, hk3, _⟩; have HS3 := Lib.hid hs3; have HK3 := Lib.hid hk3; clear hs3 hk3; unfold optS at he; subst he))
          refine (C3.out nv3 _ HS3.out).mono ?_
          rintro e w4 ⟨he, nv4, hs4, hk4, hm4⟩
          unfold intV at he
          subst he
          have HS4 := Lib.hid hs4
          have HK4 := Lib.hid ((HK1.out.trans HK3.out).trans hk4)
          have HM4 := Lib.hid hm4
          clear hs4 hk4 hm4
          go_wp2_with ((go_at_call 70; (with_reducible refine (new_any _ _ _ _).mono ?_); rintro e _ ⟨rfl, d3, os3, rfl⟩))
          refine (LA.out nv4 _ (show Rt b lb lo cap nv4 L m3 (N ++ ns1 ++ [] ++ ns3) 0 0 _ from by repeat (first | (with_reducible exact HS4.out) | (with_reducible apply Rt.alloc) | (with_reducible apply Rt.more)))).mono ?_
          rcases r4 with ⟨e1, e2⟩ | ⟨a4, m4, ns4⟩
          · rintro e w5 ⟨hc, ⟨v, rfl, y5, rfl⟩, nv5, m5, N5, hs5, hk5⟩
            have HC := Lib.hid hc
            have HS5 := Lib.hid hs5
            have HK5 := Lib.hid (Kp.trans (show Kp b nv nv4 w _ from by repeat (first | (with_reducible exact HK4.out) | (with_reducible apply Kp.alloc) | (with_reducible apply Kp.more))) hk5)
            clear hc hs5 hk5
            go_wp2_with fail
            go_ret
            have := RR4.out
            subst this
            exact RPost.err HC.out ⟨_, rfl⟩ HS5.out HK5.out
          · rintro e w5 ⟨he, nv5, hs5, hk5, hm5⟩
            unfold intV at he
            subst he
            have HS5 := Lib.hid hs5
            have HK5 := Lib.hid (Kp.trans (show Kp b nv nv4 w _ from by repeat (first | (with_reducible exact HK4.out) | (with_reducible apply Kp.alloc) | (with_reducible apply Kp.more))) hk5)
            have HM5 := Lib.hid hm5
            clear hs5 hk5 hm5
            go_wp2_with fail
            go_ret
            have := RR4.out
            subst this
            have q1 := HM5.out
            have q2 := HM4.out
            have q3 := HM1.out
            exact RPost.res rfl (HS5.out.cast (by simp)) HK5.out (by omega)
theorem SignZ.mk (z : Int) (ss : List ByteArray) (h : (z = 0 ∧ ss = ssOr) ∨ (z = 1 ∧ ss = ssAnd) ∨ (z = 2 ∧ ss = ssIs) ∨ (z = 3 ∧ ss = ssJoin) ∨ (z = 4 ∧ ss = ssSum) ∨ (z = 5 ∧ ss = ssTimes)) : SignZ z ss := h
theorem level_zero {b lb lo cap : Nat} {L : Toks} (d : Int) (o : PM Int) (ho : RDp b lb lo cap L 120 d o) : RLv b lb lo cap L 0 d (orP L o) := by
  have h6 := level_six d o ho
  have h5 : RLv b lb lo cap L 5 d (timesP L o) := level_two 5 d ssTimes (.mk _ _ (by simp)) (by decide) o h6
  have h4 : RLv b lb lo cap L 4 d (sumP L o) := level_two 4 d ssSum (.mk _ _ (by simp)) (by decide) _ h5
  have h3 : RLv b lb lo cap L 3 d (joinP L o) := level_two 3 d ssJoin (.mk _ _ (by simp)) (by decide) _ h4
  have h2 := level_comp d o h3
  have h1 : RLv b lb lo cap L 1 d (andP L o) := level_two 1 d ssAnd (.mk _ _ (by simp)) (by decide) _ h2
  exact level_two 0 d ssOr (.mk _ _ (by simp)) (by decide) _ h1
set_option maxHeartbeats 2000000 in
theorem rexpr_any {b lb lo cap : Nat} {L : Toks} (d : Nat) (hd : d ≤ 16) (o : PM Int) (ho : RDp b lb lo cap L 120 (d : Int) o) : RDp b lb lo cap L 72 (d : Int) (orP L o) := by
  intro nv m N w h r hr
  have O := Lib.hid (level_zero (d : Int) o ho nv m N w h r hr)
  have hd2 : (d : Int) ≤ 16 := by omega
  clear h ho hr
  rcases r with ⟨e1, e2⟩ | ⟨v, m1, ns⟩
  · 
    go_enter Try.func72, Try.ntmps72
    go_wp2_with ((go_at_call 96; (with_reducible refine O.out.mono ?_); rintro e w1 ⟨hc, ⟨v, rfl, y, rfl⟩, hp⟩; have HC := Lib.hid (And.intro hc hp); clear hc hp))
    go_ret
    exact ⟨HC.out.1, ⟨_, rfl, y, rfl⟩, HC.out.2⟩
  · 
    go_enter Try.func72, Try.ntmps72
    go_wp2_with ((go_at_call 96; (with_reducible refine O.out.mono ?_); rintro e w1 ⟨he, hp⟩; have HP := Lib.hid hp; clear hp; unfold intV at he; subst he))
    go_ret
    exact ⟨rfl, HP.out⟩
set_option maxHeartbeats 2000000 in
theorem rexpr_deep {b lb lo cap : Nat} {L : Toks} : RDp b lb lo cap L 72 (17 : Int) (pno L 14) := by
  intro nv m N w h r hr
  have FL := Lib.hid (rfail_st h 14 (by decide))
  have R := Lib.hid hr
  clear h hr
  go_enter Try.func72, Try.ntmps72
  go_wp2_with ((go_at_call 34; (with_reducible refine FL.out.mono ?_); rintro e w1 ⟨rfl, hs1, hk1⟩; have HS := Lib.hid hs1; have HK := Lib.hid hk1; clear hs1 hk1))
  refine (level_dead (by decide) HS.out _ _).mono ?_
  rintro e _ ⟨rfl, d5, os5, rfl⟩
  go_wp2_with fail
  go_ret
  have := R.out
  subst this
  exact RPost.err (by decide) ⟨_, rfl⟩ (HS.out.more _ _) (HK.out.more _ _)
end Go.Proofs.Ytoaaklcbcbjaiaa

namespace Go.Proofs.Ytoaaklcbcbjaiaa
open Go.RowKit
theorem mustP_one (L : Toks) (s : ByteArray) (m n : Nat) : mustP L [s] m n = must1 L s m n := by
  cases h : isP L s m
  · rw [mustP_no h]; unfold must1; rw [h]; rfl
  · rw [mustP_yes h]; unfold must1; rw [h]; rfl
section
variable (L : Toks)
def sOpen : ByteArray := ⟨#[40]⟩
def sShut : ByteArray := ⟨#[41]⟩
def sMinus : ByteArray := ⟨#[45]⟩
def sNot : ByteArray := ⟨#[110, 111, 116]⟩
def sNil : ByteArray := ⟨#[110, 105, 108]⟩
def sTrue : ByteArray := ⟨#[116, 114, 117, 101]⟩
def sFalse : ByteArray := ⟨#[102, 97, 108, 115, 101]⟩
def sGet : ByteArray := ⟨#[103, 101, 116]⟩
def sHas : ByteArray := ⟨#[104, 97, 115]⟩
def sLen : ByteArray := ⟨#[108, 101, 110]⟩
def sShow : ByteArray := ⟨#[115, 104, 111, 119]⟩
def callP (k : Int) (e1 : PM Int) : PM Int := pbind skipP fun _ => pbind (must1 L sOpen) fun _ => pbind e1 fun a => pbind (must1 L sShut) fun _ => layP L { nd k with a := a }
def parenP (e1 : PM Int) : PM Int := pbind skipP fun _ => pbind e1 fun a => pbind (must1 L sShut) fun _ => pok a
def wiP (k : Int) (d : Nat) (o1 : PM Int) : PM Int := pbind skipP fun _ => withinP L k d o1
def moreP (d : Nat) (e1 o1 : PM Int) : PM Int := fun m n =>
  if isP L sOpen m = true then parenP L e1 m n
  else if isP L sNot m = true then wiP L 9 d o1 m n
  else if isP L sMinus m = true then wiP L 10 d o1 m n
  else if isP L sGet m = true then callP L 5 e1 m n
  else if isP L sHas m = true then callP L 6 e1 m n
  else if isP L sLen m = true then callP L 7 e1 m n
  else if isP L sShow m = true then callP L 8 e1 m n
  else pno L 3 m n
def puP (z : Nd) : PM Int := pbind skipP fun _ => layP L z
variable {L}
theorem isP_w {s : ByteArray} (hw : wordB s = true) (m : Nat) : isP L s m = ((tk L m).1.k == 5 && (tk L m).1.s.toList == s.toList) := by unfold isP; rw [hw]; rfl
theorem isP_s {s : ByteArray} (hw : wordB s = false) (m : Nat) : isP L s m = ((tk L m).1.k == 4 && (tk L m).1.s.toList == s.toList) := by unfold isP; rw [hw]; rfl
theorem funMust (s : ByteArray) : mustP L [s] = must1 L s := by funext m n; exact mustP_one L s m n
theorem one_eq (d : Nat) (e1 o1 : PM Int) (m n : Nat) (h2 : (tk L m).1.k ≠ 2) (h3 : (tk L m).1.k ≠ 3) (h1 : (tk L m).1.k ≠ 1) :
    oneP L d e1 o1 m n = if isP L sNil m = true then puP L (nd 0) m n else if isP L sTrue m = true then puP L { nd 1 with i := 1 } m n else if isP L sFalse m = true then puP L (nd 1) m n else moreP L d e1 o1 m n := by
  have w1 : wordB sNil = true := by kernel_rfl
  have w2 : wordB sTrue = true := by kernel_rfl
  have w3 : wordB sFalse = true := by kernel_rfl
  have w4 : wordB sOpen = false := by kernel_rfl
  have w5 : wordB sNot = true := by kernel_rfl
  have w6 : wordB sMinus = false := by kernel_rfl
  have w7 : wordB sGet = true := by kernel_rfl
  have w8 : wordB sHas = true := by kernel_rfl
  have w9 : wordB sLen = true := by kernel_rfl
  have w10 : wordB sShow = true := by kernel_rfl
  have l1 : sNil.toList = [110, 105, 108] := by kernel_rfl
  have l2 : sTrue.toList = [116, 114, 117, 101] := by kernel_rfl
  have l3 : sFalse.toList = [102, 97, 108, 115, 101] := by kernel_rfl
  have l4 : sOpen.toList = [40] := by kernel_rfl
  have l5 : sNot.toList = [110, 111, 116] := by kernel_rfl
  have l6 : sMinus.toList = [45] := by kernel_rfl
  have l7 : sGet.toList = [103, 101, 116] := by kernel_rfl
  have l8 : sHas.toList = [104, 97, 115] := by kernel_rfl
  have l9 : sLen.toList = [108, 101, 110] := by kernel_rfl
  have l10 : sShow.toList = [115, 104, 111, 119] := by kernel_rfl
  unfold oneP
  rw [if_neg h2, if_neg h3, if_neg h1]
  unfold moreP
  rw [isP_w w1, isP_w w2, isP_w w3, isP_s w4, isP_w w5, isP_s w6, isP_w w7, isP_w w8, isP_w w9, isP_w w10, l1, l2, l3, l4, l5, l6, l7, l8, l9, l10]
  have s1 : (⟨#[110, 111, 116]⟩ : ByteArray) = sNot := rfl
  have s2 : (⟨#[110, 105, 108]⟩ : ByteArray) = sNil := rfl
  have s3 : (⟨#[45]⟩ : ByteArray) = sMinus := rfl
  have s4 : (⟨#[40]⟩ : ByteArray) = sOpen := rfl
  have s5 : (⟨#[41]⟩ : ByteArray) = sShut := rfl
  by_cases h4 : (tk L m).1.k = 4
  · have e4 : ((tk L m).1.k == 4) = true := by simpa using h4
    have e5 : ((tk L m).1.k == 5) = false := by rw [h4]; rfl
    rw [if_pos h4, e4, e5]
    simp only [Bool.false_and, Bool.true_and, Bool.false_eq_true, if_false]
    unfold signedP
    rw [s3, s4, s5, isP_s w6, isP_s w4, l6, l4, e4]
    simp only [Bool.true_and, funMust]
    by_cases hm : ((tk L m).1.s.toList == [45]) = true
    · have : (tk L m).1.s.toList = [45] := by simpa using hm
      rw [this]; rfl
    · rw [if_neg hm, if_neg hm]
      rfl
  · rw [if_neg h4]
    have e4 : ((tk L m).1.k == 4) = false := by simpa using h4
    rw [e4]
    simp only [Bool.false_and, Bool.false_eq_true, if_false]
    by_cases h5 : (tk L m).1.k = 5
    · have e5 : ((tk L m).1.k == 5) = true := by simpa using h5
      rw [if_pos h5, e5]
      simp only [Bool.true_and]
      unfold wordedP callF sIs
      rw [s1, s2, s4, s5, isP_w w5, isP_w w1, l5, l1, e5]
      simp only [Bool.true_and, funMust]
      obtain ⟨l, hl⟩ : ∃ l, (tk L m).1.s.toList = l := ⟨_, rfl⟩
      rw [hl]
      by_cases q1 : l = [110, 105, 108]
      · subst q1; rfl
      by_cases q2 : l = [116, 114, 117, 101]
      · subst q2; rfl
      by_cases q3 : l = [102, 97, 108, 115, 101]
      · subst q3; rfl
      by_cases q4 : l = [110, 111, 116]
      · subst q4; rfl
      by_cases q5 : l = [103, 101, 116]
      · subst q5; rfl
      by_cases q6 : l = [104, 97, 115]
      · subst q6; rfl
      by_cases q7 : l = [108, 101, 110]
      · subst q7; rfl
      by_cases q8 : l = [115, 104, 111, 119]
      · subst q8; rfl
      have b : ∀ x : List UInt8, l ≠ x → (l == x) = false := fun x hx => by simpa using hx
      rw [b _ q1, b _ q2, b _ q3, b _ q4, b _ q5, b _ q6, b _ q7, b _ q8]
      rfl
    · rw [if_neg h5]
      have e5 : ((tk L m).1.k == 5) = false := by simpa using h5
      rw [e5]
      simp only [Bool.false_and, Bool.false_eq_true, if_false]
end
end Go.Proofs.Ytoaaklcbcbjaiaa
