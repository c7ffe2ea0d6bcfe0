/- kind, lay, turns of the document's parser. -/
import Derived.Test.YtoaaklcbcbjaiaaRar2
set_option linter.unusedSimpArgs false
set_option linter.unusedVariables false
namespace Go.Proofs.Ytoaaklcbcbjaiaa
open Go.RowKit
attribute [go_sem] more_more Array.size_append

theorem rnv_form {b lb lo cap : Nat} {nv : Value} {L : Toks} {m : Nat} {N : List Nd} {ee wh : Int} {w : World} (h : Rt b lb lo cap nv L m N ee wh w) : ∃ len c p, nv = .slice p len c ∧ len = N.length := by
  rcases Go.Joins.ownsRow_forms h.row with ⟨rfl, h0⟩ | ⟨g1, c, rfl⟩
  · exact ⟨_, _, _, rfl, h0.symm⟩
  · exact ⟨_, _, _, rfl, rfl⟩
theorem Rt.setAny {b lb lo cap : Nat} {nv : Value} {L : Toks} {m : Nat} {N : List Nd} {ee wh : Int} {w : World} (h : Rt b lb lo cap nv L m N ee wh w) {k : Nat} (hb : k ≠ b) (hl : lb ≠ k) (hr : nv.ownBlock ≠ some k) (i : Nat) (v : Value) :
    Rt b lb lo cap nv L m N ee wh (w.setCell ⟨k, i, none⟩ v) := by
  refine ⟨h.ends, by rw [heap_set_other _ _ _ _ _ hb.symm]; exact h.blk, h.toks.of_block (heap_set_other _ _ _ _ _ hl), ?_, h.low, h.pos, h.cnt⟩
  exact h.row.kept (row := some k) ⟨rfl, rfl, rfl, by simp [World.setCell], fun j hj hn => heap_set_other _ _ _ _ _ (fun e => hn (by rw [e]))⟩ (Or.inr hr)
theorem Loc.four {b : Nat} {nv : Value} {k : Nat} {w : World} {v0 v1 v2 v3 : Value} {t : TypeId} (h : Loc b nv k (.cells #[v0, v1, v2, v3] t (0, 0)) w) : w.cell? ⟨k, 0, none⟩ = some v0 ∧ w.cell? ⟨k, 1, none⟩ = some v1 ∧ w.cell? ⟨k, 2, none⟩ = some v2 ∧ w.cell? ⟨k, 3, none⟩ = some v3 ∧
    w.frozen? ⟨k, 0, none⟩ = false ∧ w.frozen? ⟨k, 1, none⟩ = false ∧ w.frozen? ⟨k, 2, none⟩ = false ∧ w.frozen? ⟨k, 3, none⟩ = false ∧ k < w.heap.size := by
  have := h.is
  refine ⟨?_, ?_, ?_, ?_, ?_, ?_, ?_, ?_, h.lt⟩ <;> simp [World.cell?, World.frozen?, this]

set_option maxHeartbeats 2000000 in
theorem kind_dead {b lb lo cap : Nat} {nv : Value} {L : Toks} {m : Nat} {N : List Nd} {w : World} {wh : Int} {ee : Int} (hee : ee ≠ 0) (h : Rt b lb lo cap nv L m N ee wh w) (k0 : Int) :
    Calls Try.prog 69 #[.pointer (some ⟨b, 0, none⟩), .int .i64 k0] w fun e w' => e = .returned (.agg #[.int .i64 0, .int .i64 0, .string ⟨#[]⟩, .int .i64 0]) ∧ Ext w w' := by
  have FL : RowKit.Hid (∀ (c : Int) w1, Ext w w1 → Calls Try.prog 34 #[.pointer (some ⟨b, 0, none⟩), .int .i64 c] w1 fun e w' => e = .returned (.tuple #[]) ∧ Ext w1 w') := Lib.hid fun c w1 hx => rfail_dead hee (h.ext hx) c
  obtain ⟨c0, c1, c2, c3, c4, f1, f2, f3, f4, hb⟩ := h.facts
  obtain ⟨t0, t1, t2, t3, hlb⟩ := h.tokFacts
  have hp : (m : Int) < (L.length : Int) := by have := h.pos; omega
  have hp0 : 0 ≤ (m : Int) := by omega
  have hmx : (m : Int) ≤ 5000 := by have := h.ends.few; have := h.pos; omega
  have hne1 : lb ≠ b := by have := h.low; omega
  obtain ⟨⟨⟨k, ts, i⟩, a⟩, htt⟩ : ∃ tt, tk L m = tt := ⟨_, rfl⟩
  rw [htt] at t0 t1 t2 t3
  dsimp only at t0 t1 t2 t3
  have q : (ee != 0) = true := by simpa using hee
  clear htt h c2 c4 f1 f2 f3 f4 hmx hee
  cases hk : (k != k0)
  all_goals
    go_enter Try.func69, Try.ntmps69
    go_wp2_with fail
    refine wp_region_grow 11 36 [false, false, false, false, false, false, false, false, false, false, false] (by kernel_rfl) (by kernel_rfl) rfl ?_
    simp only [List.take_succ_cons, List.take_zero, List.drop_succ_cons, List.drop_zero]
    iterate 10 (refine Lex.step rfl ?_; intro K hK; unfold StepG; go_simp; refine hK _ ?_; clear hK K)
    refine Lex.alloc 5 (.cells #[.int .i64 0, .int .i64 0, .string ⟨#[]⟩, .int .i64 0] 57) rfl rfl (fun d os => ?_) ?_
    · unfold StepG
      go_simp
      exact ⟨(Ext.refl _).alloc _, NewBlk.of_alloc _ _ _ _ _ (by simp [more_size])⟩
    refine Lex.nil fun WW hE => ?_
    intro u hu
    obtain ⟨dt1, ot1, dt2, ot2, rfl, rfl⟩ := hu.split hE
    clear hu hE
    go_simp
    unfold FillH
    go_wp2_with fail
    rw [ends_normal]
    go_wp2_with ((go_at_call 34; (with_reducible refine (FL.out _ _ (by repeat (first | exact Ext.refl _ | apply Ext.alloc | apply Ext.more))).mono ?_); rintro e _ ⟨rfl, d2, os2, rfl⟩))
    exact bodyPost_ret (v := (.agg #[.int .i64 0, .int .i64 0, .string ⟨#[]⟩, .int .i64 0])) (by simp [results, Try.results69, go_sem]) rfl ⟨rfl, by repeat (first | exact Ext.refl _ | apply Ext.alloc | apply Ext.more)⟩

set_option maxHeartbeats 2000000 in
theorem kind_any {b lb lo cap : Nat} {nv : Value} {L : Toks} {m : Nat} {N : List Nd} {w : World} (h : Rt b lb lo cap nv L m N 0 0 w) (k0 : Int) (h0 : k0 ≠ 0) (r : PR Tok) (hr : ofP L k0 m N.length = r) :
    Calls Try.prog 69 #[.pointer (some ⟨b, 0, none⟩), .int .i64 k0] w (RPost (fun t => tokV t (tk L m).2) isTok b lb lo cap nv L m N w r) := by
  have FL : RowKit.Hid (∀ w1, Ext w w1 → Calls Try.prog 34 #[.pointer (some ⟨b, 0, none⟩), .int .i64 3] w1 fun e w' => e = .returned (.tuple #[]) ∧ Rt b lb lo cap nv L m N 3 (tk L m).2 w' ∧ Kp b nv nv w1 w') := Lib.hid fun w1 hx => rfail_st (h.ext hx) 3 (by decide)
  obtain ⟨c0, c1, c2, c3, c4, f1, f2, f3, f4, hb⟩ := h.facts
  obtain ⟨t0, t1, t2, t3, hlb⟩ := h.tokFacts
  have hp : (m : Int) < (L.length : Int) := by have := h.pos; omega
  have hp0 : 0 ≤ (m : Int) := by omega
  have hmx : (m : Int) ≤ 5000 := by have := h.ends.few; have := h.pos; omega
  have hne1 : lb ≠ b := by have := h.low; omega
  have hnx : (tk L m).1.k = k0 → m + 1 < L.length := fun e => h.next (by rw [e]; exact h0)
  have H := Lib.hid h
  have LZ := Lib.hid (h.loc (.cells #[.int .i64 0, .int .i64 0, .string ⟨#[]⟩, .int .i64 0] 57 (0, 0)))
  obtain ⟨⟨⟨k, ts, i⟩, a⟩, htt⟩ : ∃ tt, tk L m = tt := ⟨_, rfl⟩
  unfold ofP at hr
  rw [htt] at t0 t1 t2 t3 hr hnx FL ⊢
  unfold tokV
  dsimp only at t0 t1 t2 t3 hr hnx FL ⊢
  clear htt h c2 c4 f2 f3 f4
  by_cases hk : k = k0
  · rw [if_pos hk] at hr
    have NX := Lib.hid (hnx hk)
    subst hk
    subst hr
    clear hnx
    have hkk : (k != k) = false := by simp
    go_enter Try.func69, Try.ntmps69
    go_wp2_with fail
    refine wp_region_grow 11 36 [false, false, false, false, false, false, false, false, false, false, false] (by kernel_rfl) (by kernel_rfl) rfl ?_
    simp only [List.take_succ_cons, List.take_zero, List.drop_succ_cons, List.drop_zero]
    iterate 10 (refine Lex.step rfl ?_; intro K hK; unfold StepG; go_simp; refine hK _ ?_; clear hK K)
    refine Lex.alloc 5 (.cells #[.int .i64 0, .int .i64 0, .string ⟨#[]⟩, .int .i64 0] 57) rfl rfl (fun d os => ?_) ?_
    · unfold StepG
      go_simp
      exact ⟨(Ext.refl _).alloc _, NewBlk.of_alloc _ _ _ _ _ (by simp [more_size])⟩
    refine Lex.nil fun WW hE => ?_
    intro u hu
    obtain ⟨dt1, ot1, dt2, ot2, rfl, rfl⟩ := hu.split hE
    clear hu hE
    go_simp
    unfold FillH
    go_wp2_with fail
    rw [ends_normal]
    go_wp2_with fail
    refine bodyPost_ret (v := .agg #[.int .i64 k, .int .i64 a, .string ts, .int .i64 i]) (by simp [results, Try.results69, go_sem]) rfl ?_
    refine RPost.res (nv' := nv) rfl (Rt.cast (N := N) ?_ (List.append_nil N).symm) ?_ (Nat.le_succ _)
    · have HS := Lib.hid (H.out.setAt (m + 1) ((m : Int) + 1) (by omega) NX.out)
      repeat (first | (with_reducible exact HS.out) | (with_reducible apply Rt.alloc) | (with_reducible apply Rt.more))
    · have HK := Lib.hid ((Kp.refl b nv w).setB 1 (.int .i64 ((m : Int) + 1)))
      repeat (first | (with_reducible exact HK.out) | (with_reducible apply Kp.alloc) | (with_reducible apply Kp.more))
  · rw [if_neg hk] at hr
    subst hr
    have hkk : (k != k0) = true := by simpa using hk
    clear hnx hk
    go_enter Try.func69, Try.ntmps69
    go_wp2_with fail
    refine wp_region_grow 11 36 [false, false, false, false, false, false, false, false, false, false, false] (by kernel_rfl) (by kernel_rfl) rfl ?_
    simp only [List.take_succ_cons, List.take_zero, List.drop_succ_cons, List.drop_zero]
    iterate 10 (refine Lex.step rfl ?_; intro K hK; unfold StepG; go_simp; refine hK _ ?_; clear hK K)
    refine Lex.alloc 5 (.cells #[.int .i64 0, .int .i64 0, .string ⟨#[]⟩, .int .i64 0] 57) rfl rfl (fun d os => ?_) ?_
    · unfold StepG
      go_simp
      exact ⟨(Ext.refl _).alloc _, NewBlk.of_alloc _ _ _ _ _ (by simp [more_size])⟩
    refine Lex.nil fun WW hE => ?_
    intro u hu
    obtain ⟨dt1, ot1, dt2, ot2, rfl, rfl⟩ := hu.split hE
    clear hu hE
    go_simp
    unfold FillH
    go_wp2_with fail
    rw [ends_normal]
    go_wp2_with ((go_at_call 34; refine (FL.out _ (by repeat (first | exact Ext.refl _ | apply Ext.alloc | apply Ext.more))).mono ?_; rintro e w2 ⟨rfl, hs2, hk2⟩; have HS2 := Lib.hid hs2; have HK2 := Lib.hid hk2; have L2 := Loc.kp (show Loc b nv w.heap.size (.cells #[.int .i64 0, .int .i64 0, .string ⟨#[]⟩, .int .i64 0] 57 (0, 0)) _ from by repeat (first | (with_reducible exact LZ.out) | (with_reducible apply Loc.alloc) | (with_reducible apply Loc.more))) hk2; clear hs2 hk2; obtain ⟨u0, u1, u2, u3, u4, y0, y1, y2, y3, hbb⟩ := HS2.out.facts; obtain ⟨x0, x1, x2, x3, g0, g1, g2, g3, hx⟩ := L2.four; have L2 := Lib.hid L2; clear u0 u1 u2 u4))
    have HKW := Lib.hid (((Kp.refl b nv w).ext (by repeat (first | exact Ext.refl _ | apply Ext.alloc | apply Ext.more))).trans HK2.out)
    exact bodyPost_ret (v := (.agg #[.int .i64 0, .int .i64 0, .string ⟨#[]⟩, .int .i64 0])) (by simp [results, Try.results69, go_sem, x0, x1, x2, x3, hx]) rfl (RPost.err (by decide) ⟨_, _, _, _, rfl⟩ (nv' := nv) (m' := m) (N' := N) (by repeat (first | (with_reducible exact HS2.out) | (refine Rt.setAny ?_ L2.out.ne (by have := HS2.out.low; have := H.out.lt; have := H.out.low; omega) L2.out.nr _ _))) (by repeat (first | (with_reducible exact HKW.out) | (refine Kp.setNew ?_ (Nat.le_refl _) _ _))))

set_option maxHeartbeats 2000000 in
theorem rlay_dead {b lb lo cap : Nat} {nv : Value} {L : Toks} {m : Nat} {N : List Nd} {w : World} {wh : Int} {ee : Int} (hee : ee ≠ 0) (h : Rt b lb lo cap nv L m N ee wh w) (zk za zb zc zx zi : Int) (zs zt : ByteArray) :
    Calls Try.prog 73 #[.pointer (some ⟨b, 0, none⟩), .agg #[.int .i64 zk, .int .i64 za, .int .i64 zb, .int .i64 zc, .int .i64 zx, .int .i64 zi, .string zs, .string zt]] w fun e w' => e = .returned (.int .i64 (-1)) ∧ Ext w w' := by
  have FL : RowKit.Hid (∀ (c : Int) w1, Ext w w1 → Calls Try.prog 34 #[.pointer (some ⟨b, 0, none⟩), .int .i64 c] w1 fun e w' => e = .returned (.tuple #[]) ∧ Ext w1 w') := Lib.hid fun c w1 hx => rfail_dead hee (h.ext hx) c
  obtain ⟨len, c, p, rfl, hlen⟩ := rnv_form h
  have hcnt := h.cnt
  subst hlen
  have hcnt2 : (N.length : Int) ≤ 512 := by omega
  obtain ⟨c0, c1, c2, c3, c4, f1, f2, f3, f4, hb⟩ := h.facts
  have q : (ee != 0) = true := by simpa using hee
  clear h c0 c1 c4 f1 f2 f3 f4 hee hcnt
  by_cases h5 : 512 ≤ (N.length : Int)
  · have h6 : ((512 : Int) ≤ (N.length : Int)) = True := eq_true h5
    clear h5 hcnt2
    go_enter Try.func73, Try.ntmps73
    go_wp2_with ((go_at_call 34; (with_reducible refine (FL.out _ _ (by repeat (first | exact Ext.refl _ | apply Ext.alloc | apply Ext.more))).mono ?_); rintro e _ ⟨rfl, d2, os2, rfl⟩))
    go_ret
    exact ⟨rfl, by repeat (first | exact Ext.refl _ | apply Ext.alloc | apply Ext.more)⟩
  · have h6 : ((512 : Int) ≤ (N.length : Int)) = False := eq_false h5
    clear h5 hcnt2
    go_enter Try.func73, Try.ntmps73
    go_wp2_with ((go_at_call 34; (with_reducible refine (FL.out _ _ (by repeat (first | exact Ext.refl _ | apply Ext.alloc | apply Ext.more))).mono ?_); rintro e _ ⟨rfl, d2, os2, rfl⟩))
    go_ret
    exact ⟨rfl, by repeat (first | exact Ext.refl _ | apply Ext.alloc | apply Ext.more)⟩

set_option maxHeartbeats 2000000 in
set_option maxRecDepth 20000 in
theorem rlay_any {b lb lo cap : Nat} {nv : Value} {L : Toks} {m : Nat} {N : List Nd} {w : World} (h : Rt b lb lo cap nv L m N 0 0 w) (zk za zb zc zx zi : Int) (zs zt : ByteArray) (r : PR Int) (hr : layP L ⟨zk, za, zb, zc, zx, zi, zs, zt⟩ m N.length = r) :
    Calls Try.prog 73 #[.pointer (some ⟨b, 0, none⟩), .agg #[.int .i64 zk, .int .i64 za, .int .i64 zb, .int .i64 zc, .int .i64 zx, .int .i64 zi, .string zs, .string zt]] w (RPost intV isInt b lb lo cap nv L m N w r) := by
  have FL : RowKit.Hid (∀ w1, Ext w w1 → Calls Try.prog 34 #[.pointer (some ⟨b, 0, none⟩), .int .i64 5] w1 fun e w' => e = .returned (.tuple #[]) ∧ Rt b lb lo cap nv L m N 5 (tk L m).2 w' ∧ Kp b nv nv w1 w') := Lib.hid fun w1 hx => rfail_st (h.ext hx) 5 (by decide)
  obtain ⟨len, c, p, rfl, hlen⟩ := rnv_form h
  have hcnt := h.cnt
  subst hlen
  have H := Lib.hid h
  obtain ⟨c0, c1, c2, c3, c4, f1, f2, f3, f4, hb⟩ := h.facts
  unfold layP at hr
  by_cases h5 : N.length = 512
  · rw [if_pos h5] at hr
    subst hr
    have q5 : ((512 : Int) ≤ (N.length : Int)) = True := eq_true (by omega)
    clear h h5 c0 c1 c3 c4 f1 f3 f4 hcnt
    go_enter Try.func73, Try.ntmps73
    go_wp2_with ((go_at_call 34; refine (FL.out _ (by repeat (first | exact Ext.refl _ | apply Ext.alloc | apply Ext.more))).mono ?_; rintro e w2 ⟨rfl, hs2, hk2⟩; have HS2 := Lib.hid hs2; have HK2 := Lib.hid hk2; clear hs2 hk2; obtain ⟨u0, u1, u2, u3, u4, y0, y1, y2, y3, hbb⟩ := HS2.out.facts; clear u0 u1 u2 u4))
    go_ret
    exact RPost.err (by decide) ⟨_, rfl⟩ HS2.out (((Kp.refl b _ w).ext (by repeat (first | exact Ext.refl _ | apply Ext.alloc | apply Ext.more))).trans HK2.out)
  · rw [if_neg h5] at hr
    subst hr
    have q5 : ((512 : Int) ≤ (N.length : Int)) = False := eq_false (by omega)
    have h512 : N.length < 512 := by omega
    have H5 := Lib.hid h512
    have hmx : (N.length : Int) ≤ 511 := by omega
    obtain ⟨i0, hi, hz0, hz1, hz2⟩ := info_parts ndInfo
    clear h h5 c0 c1 c4 f1 f3 f4 h512 hcnt FL
    go_enter Try.func73, Try.ntmps73
    go_wp2_with fail
    refine wp_region_grow 7 34 [true, false, false, false, false, false, false] (by kernel_rfl) (by kernel_rfl) rfl ?_
    simp only [List.take_succ_cons, List.take_zero, List.drop_succ_cons, List.drop_zero]
    refine Lex.stepP rfl rfl ?_; intro K hK; go_simp; refine hK _ ?_; clear hK K
    iterate 5 (refine Lex.step rfl ?_; intro K hK; unfold StepG; go_simp; refine hK _ ?_; clear hK K)
    refine Lex.sliceLit 24 (.cells #[.int .i64 zk, .int .i64 za, .int .i64 zb, .int .i64 zc, .int .i64 zx, .int .i64 zi, .string zs, .string zt] 52) 1 1 rfl rfl (fun d os => ?_) ?_
    · unfold StepG
      go_simp
      exact ⟨(Ext.refl _).alloc _, NewSl.of_alloc _ _ _ _ _ _ _ (by simp [more_size])⟩
    refine Lex.nil fun WW hE => ?_
    intro u hu
    obtain ⟨d1, os1, d2, os2, rfl, rfl⟩ := hu.split hE
    clear hu hE
    go_simp
    unfold FillH
    go_wp2_with (at_builtin; refine wpList_append_own_at _ rfl _ _ 22 rfl (b + 1) 52 i0 (.agg #[.int .i64 0, .int .i64 0, .int .i64 0, .int .i64 0, .int .i64 0, .int .i64 0, .string ⟨#[]⟩, .string ⟨#[]⟩]) 8 80 Try.underlying22 hi hz0 hz1 hz2 rfl (by decide) (.slice p N.length c) N.length (ndCells N) rfl ?c0 ⟨_, 0, none⟩ 1 1 [.int .i64 zk, .int .i64 za, .int .i64 zb, .int .i64 zc, .int .i64 zx, .int .i64 zi, .string zs, .string zt] rfl rfl ?c1 ?c2 ?c3 ?c4 ?c5 ?_)
    case c0 => repeat (first | (with_reducible exact H.out.row) | (with_reducible apply own_more) | (with_reducible refine World.ownsRow.alloc ?_ _))
    case c1 => exact news_splitP (by simp [more_size])
    case c2 => intro u hu; simp at hu; rcases hu with rfl | rfl | rfl | rfl | rfl | rfl | rfl | rfl <;> rfl
    case c3 => unfold maxLen; omega
    case c4 => omega
    case c5 => simp [more_size]; omega
    intro v' w1 hown' hgrow _ hblk
    have HS : RowKit.Hid (Rt b lb lo cap v' L m (N ++ [⟨zk, za, zb, zc, zx, zi, zs, zt⟩]) 0 0 (w1.setCell ⟨b, 2, none⟩ v')) := Lib.hid (Rt.push (by repeat (first | (with_reducible exact H.out) | (with_reducible apply Rt.alloc) | (with_reducible apply Rt.more))) hown' hgrow H5.out)
    have HK : RowKit.Hid (Kp b (.slice p N.length c) v' w (w1.setCell ⟨b, 2, none⟩ v')) := Lib.hid (Kp.push (by repeat (first | (with_reducible exact Kp.refl _ _ _) | (with_reducible apply Kp.alloc) | (with_reducible apply Kp.more))) hgrow (by simp only [more_size, World.size_alloc]; exact hblk))
    obtain ⟨hc2, hb1, hb2⟩ := Rt.grownFacts (show Rt b lb lo cap (.slice p N.length c) L m N 0 0 _ from by repeat (first | (with_reducible exact H.out) | (with_reducible apply Rt.alloc) | (with_reducible apply Rt.more))) hgrow
    have hb3 : ∃ g cap1, v' = .slice (some ⟨g, 0, none⟩) (N.length + 1) cap1 := by obtain ⟨g1, cap1, rfl, _, _⟩ := hown'.form (by omega); exact ⟨_, _, rfl⟩
    obtain ⟨g1, cap1, rfl⟩ := hb3
    clear hown' hgrow hblk
    go_wp2_with fail
    first | rw [ends_normal] | skip
    go_wp2_with fail
    go_ret
    exact RPost.res (by first | rfl | (show Ending.returned (.int .i64 _) = _; exact ret_int (by omega))) HS.out HK.out (Nat.le_refl _)
end Go.Proofs.Ytoaaklcbcbjaiaa
