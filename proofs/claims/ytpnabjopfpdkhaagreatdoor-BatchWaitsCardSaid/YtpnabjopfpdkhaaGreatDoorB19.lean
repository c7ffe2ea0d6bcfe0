/- Lemmas for the claim (texts Pst, what its proof uses of them). -/
import Derived.Test.YtpnabjopfpdkhaaGreatDoorB18
set_option linter.unusedSimpArgs false
set_option linter.unusedVariables false
set_option maxHeartbeats 4000000
set_option maxRecDepth 20000
namespace Go.Proofs.YtpnabjopfpdkhaaGreatDoor
open Go.RowKit
attribute [go_sem] more_more Array.size_append
variable {b lb lo cap m : Nat} {nv : Value} {L : Toks} {N : List Nd} {w : World}
theorem isP_other {L : Toks} {m : Nat} {s : ByteArray} (h : (tk L m).1.s.toList ≠ s.toList) : isP L s m = false := by
 unfold isP
 have : ((tk L m).1.s.toList == s.toList) = false := by simpa using h
 rw [this, Bool.and_false]
theorem wb_let : wordB ⟨#[108, 101, 116]⟩ = true := by kernel_rfl
theorem tl_let : (⟨#[108, 101, 116]⟩ : ByteArray).toList = [108, 101, 116] := by kernel_rfl
theorem wb_set : wordB ⟨#[115, 101, 116]⟩ = true := by kernel_rfl
theorem tl_set : (⟨#[115, 101, 116]⟩ : ByteArray).toList = [115, 101, 116] := by kernel_rfl
theorem wb_if : wordB ⟨#[105, 102]⟩ = true := by kernel_rfl
theorem tl_if : (⟨#[105, 102]⟩ : ByteArray).toList = [105, 102] := by kernel_rfl
theorem wb_for : wordB ⟨#[102, 111, 114]⟩ = true := by kernel_rfl
theorem tl_for : (⟨#[102, 111, 114]⟩ : ByteArray).toList = [102, 111, 114] := by kernel_rfl
theorem skip_takes {s : ByteArray} {n : Nat} {f : Unit → PM Int} {r : PR Int} (hp : isP L s m = true) (h : pbind skipP f m n = r) : r = rb n (.ok ((), m + 1, [])) (f ()) := h.symm.trans (qcV f m n)
theorem qdo {F : List (Nat × Obj)} {m0 : Nat} {N0 : List Nd} {nv0 : Value} {w0 : World} (H : Hid (PS b lb lo cap L m0 N0 nv0 w0 F (.ok ((), m, [])) w)) (s : ByteArray) (hp : isP L s m = true) : Calls Tryz.prog 194 #[.pointer (some ⟨b, 0, none⟩), .string s] w fun e w' => e = .returned (.bool true) ∧ Hid (PS b lb lo cap L m0 N0 nv0 w0 F (.ok ((), m + 1, [])) w') := by
 obtain ⟨hm, nv, h1, h2, h3⟩ := H.out
 refine (takes_any h1 s (.ok (true, m + 1, [])) (takesP_yes hp)).mono fun e w' ⟨he, nv', hs, hk, hm'⟩ => ⟨he, Lib.hid ⟨Nat.le_trans hm hm', nv', hs.cast (by rw [List.append_nil]), h2.trans hk, fun q hq => ⟨(h3 q hq).1.kp hk, (h3 q hq).2⟩⟩⟩
theorem PS.step {w' : World} (h : St b lb lo cap nv L m N w) (hx : Ext w w') (hn : m + 1 < L.length) : Hid (PS b lb lo cap L m N nv w [] (.ok ((), m + 1, [])) (w'.setCell ⟨b, 1, none⟩ (.int .i64 ((m : Int) + 1)))) :=
 Lib.hid ⟨Nat.le_succ m, nv, ((h.ext hx).setAt (m + 1) ((m : Int) + 1) zae hn).cast (List.append_nil N).symm, ((Kp.refl b nv w).ext hx).setB 1 _, fun q hq => by cases hq⟩
theorem qcr (h : St b lb lo cap nv L m N w) (z : Int) (bl : PM Int) (hb : Dp b lb lo cap L 111 z bl) (r : PR Int) (hr : qaM L bl m N.length = r) :
  Calls Tryz.prog 167 #[.pointer (some ⟨b, 0, none⟩), .int .i64 z] w (PPost intV b lb lo cap nv L m N w r) := by
 have T0 := Lib.hid (by have := rb_begin hr; unfold qaM at this; exact this)
 have H0 := PS.begin h
 have HB := Lib.hid hb
 clear h hr hb
 go_enter Tryz.func167, Tryz.ntmps167
 go_wp2_with (first
  | (go_at_call 195; (with_reducible refine (qaH H0 _ _ zag T0).mono ?_); rintro e w1 (⟨c9, a9, rfl, HP⟩ | ⟨r1, rfl, T1, H1⟩); rotate_left)
  | (go_at_call 111; (with_reducible refine (pdp H1 HB.out T1).mono ?_); rintro e w2 (⟨c9, a9, rfl, HP⟩ | ⟨z2, r2, rfl, T2, H2⟩); rotate_left)
  | (go_at_call 195; (with_reducible refine (qaH H2 _ _ zag T2).mono ?_); rintro e w3 (⟨c9, a9, rfl, HP⟩ | ⟨r3, rfl, T3, H3⟩); rotate_left))
 all_goals first | exact ⟨rfl, HP.out⟩ | (go_ret; exact PS.fin H3 T3)
theorem names_let (h : St b lb lo cap nv L m N w) (hk5 : (tk L m).1.k = 5) (hs : (tk L m).1.s.toList = [108, 101, 116]) (z : Int) (ex : PM Int) (he : Dp b lb lo cap L 196 z ex) (r : PR Int) (hr : qbf L 20 ex m N.length = r) :
  Calls Tryz.prog 161 #[.pointer (some ⟨b, 0, none⟩), .int .i64 z] w (PPost intV b lb lo cap nv L m N w r) := by
 have T0 := Lib.hid (by unfold qbf at hr; exact qcM (s := ⟨#[108, 101, 116]⟩) (qbQ wb_let hk5 (by rw [hs, tl_let])) hr)
 have H0 := PS.begin h
 have TN : RowKit.Hid (∀ w1, Ext w w1 → Calls Tryz.prog 194 #[.pointer (some ⟨b, 0, none⟩), .string ⟨#[115, 101, 116]⟩] w1 fun e w' => e = .returned (.bool false) ∧ Ext w1 w') := Lib.hid fun w1 hx => qcj (h.ext hx) _ (isP_other (by rw [hs, tl_set]; decide))
 have HE := Lib.hid he
 clear h hr he hk5 hs
 go_enter Tryz.func161, Tryz.ntmps161
 go_wp2_with (first
  | (go_at_call 165; (with_reducible refine (qar _ _).mono ?_); rintro e wn ⟨rfl, hx⟩; have HN := PS.new (PS.ext H0 hx) (.cells #[.int .i64 20, .int .i64 (-1), .int .i64 (-1), .int .i64 (-1), .int .i64 (-1), .int .i64 0, .string ⟨#[]⟩, .string ⟨#[]⟩] 166 (0, 0)); have HX := Lib.hid hx; clear hx)
  | (go_at_call 194; (with_reducible refine (TN.out _ ((HX.out).alloc _)).mono ?_); rintro e wm ⟨rfl, hx⟩; have HM := PS.ext HN hx; obtain ⟨n0, n1, n2, n3, n4, n5, n6, n7, u0, u1, u2, u3, u5, u6, u7, hkl⟩ := PS.node HM; clear hx)
  | (go_at_call 195; (with_reducible refine (qaH HM _ _ zag T0).mono ?_); rintro e w1 (⟨c9, a9, rfl, HP⟩ | ⟨r1, rfl, T1, H1⟩); rotate_left; obtain ⟨n0, n1, n2, n3, n4, n5, n6, n7, u0, u1, u2, u3, u5, u6, u7, hkl⟩ := PS.node H1)
  | (go_at_call 112; (with_reducible refine (pof H1 1 zaj T1).mono ?_); rintro e w2 (⟨c9, a9, rfl, HP⟩ | ⟨a2, k2, s2, i2, r2, rfl, T2, H2⟩); rotate_left; obtain ⟨n0, n1, n2, n3, n4, n5, n6, n7, u0, u1, u2, u3, u5, u6, u7, hkl⟩ := PS.node H2; have S2 : Hid (PS b lb lo cap L m N nv w [(wn.heap.size, .cells #[.int .i64 20, .int .i64 (-1), .int .i64 (-1), .int .i64 (-1), .int .i64 (-1), .int .i64 0, .string s2, .string ⟨#[]⟩] 166 (0, 0))] r2 (w2.setCell ⟨wn.heap.size, 6, none⟩ (.string s2))) := PS.set H2 6 (.string s2))
  | (go_at_call 195; (with_reducible refine (qaH S2 _ _ zag T2).mono ?_); rintro e w3 (⟨c9, a9, rfl, HP⟩ | ⟨r3, rfl, T3, H3⟩); rotate_left; obtain ⟨n0, n1, n2, n3, n4, n5, n6, n7, u0, u1, u2, u3, u5, u6, u7, hkl⟩ := PS.node H3)
  | (go_at_call 196; (with_reducible refine (pdp H3 HE.out T3).mono ?_); rintro e w4 (⟨c9, a9, rfl, HP⟩ | ⟨z4, r4, rfl, T4, H4⟩); rotate_left; obtain ⟨n0, n1, n2, n3, n4, n5, n6, n7, u0, u1, u2, u3, u5, u6, u7, hkl⟩ := PS.node H4; have S4 : Hid (PS b lb lo cap L m N nv w [(wn.heap.size, .cells #[.int .i64 20, .int .i64 z4, .int .i64 (-1), .int .i64 (-1), .int .i64 (-1), .int .i64 0, .string s2, .string ⟨#[]⟩] 166 (0, 0))] r4 (w4.setCell ⟨wn.heap.size, 1, none⟩ (.int .i64 z4))) := PS.set H4 1 (.int .i64 z4))
  | (go_at_call 195; (with_reducible refine (qaH S4 _ _ zag T4).mono ?_); rintro e w5 (⟨c9, a9, rfl, HP⟩ | ⟨r5, rfl, T5, H5⟩); rotate_left; obtain ⟨n0, n1, n2, n3, n4, n5, n6, n7, u0, u1, u2, u3, u5, u6, u7, hkl⟩ := PS.node H5)
  | (go_at_call 168; (refine (play H5 _ _ _ _ _ _ _ _ T5).mono ?_); rintro e w6 (⟨c9, a9, rfl, HP⟩ | ⟨z6, rfl, HP⟩)))
 all_goals first | exact ⟨rfl, HP.out⟩ | (go_ret; exact HP.out)
theorem names_set (h : St b lb lo cap nv L m N w) (hk5 : (tk L m).1.k = 5) (hs : (tk L m).1.s.toList = [115, 101, 116]) (z : Int) (ex : PM Int) (he : Dp b lb lo cap L 196 z ex) (r : PR Int) (hr : qbf L 21 ex m N.length = r) :
  Calls Tryz.prog 161 #[.pointer (some ⟨b, 0, none⟩), .int .i64 z] w (PPost intV b lb lo cap nv L m N w r) := by
 have T0 := Lib.hid (by unfold qbf at hr; exact skip_takes (s := ⟨#[115, 101, 116]⟩) (qbQ wb_set hk5 (by rw [hs, tl_set])) hr)
 have H0 := PS.begin h
 have HY : RowKit.Hid (isP L ⟨#[115, 101, 116]⟩ m = true) := Lib.hid (qbQ wb_set hk5 (by rw [hs, tl_set]))
 have HE := Lib.hid he
 clear h hr he hk5 hs
 go_enter Tryz.func161, Tryz.ntmps161
 go_wp2_with (first
  | (go_at_call 165; (with_reducible refine (qar _ _).mono ?_); rintro e wn ⟨rfl, hx⟩; have HN := PS.new (PS.ext H0 hx) (.cells #[.int .i64 20, .int .i64 (-1), .int .i64 (-1), .int .i64 (-1), .int .i64 (-1), .int .i64 0, .string ⟨#[]⟩, .string ⟨#[]⟩] 166 (0, 0)); clear hx)
  | (go_at_call 194; (with_reducible refine (qdo HN _ HY.out).mono ?_); rintro e w1 ⟨rfl, H1⟩; obtain ⟨n0, n1, n2, n3, n4, n5, n6, n7, u0, u1, u2, u3, u5, u6, u7, hkl⟩ := PS.node H1; have S1 : Hid (PS b lb lo cap L m N nv w [(wn.heap.size, .cells #[.int .i64 21, .int .i64 (-1), .int .i64 (-1), .int .i64 (-1), .int .i64 (-1), .int .i64 0, .string ⟨#[]⟩, .string ⟨#[]⟩] 166 (0, 0))] _ (w1.setCell ⟨wn.heap.size, 0, none⟩ (.int .i64 21))) := PS.set H1 0 (.int .i64 21))
  | (go_at_call 112; (with_reducible refine (pof S1 1 zaj T0).mono ?_); rintro e w2 (⟨c9, a9, rfl, HP⟩ | ⟨a2, k2, s2, i2, r2, rfl, T2, H2⟩); rotate_left; obtain ⟨n0, n1, n2, n3, n4, n5, n6, n7, u0, u1, u2, u3, u5, u6, u7, hkl⟩ := PS.node H2; have S2 : Hid (PS b lb lo cap L m N nv w [(wn.heap.size, .cells #[.int .i64 21, .int .i64 (-1), .int .i64 (-1), .int .i64 (-1), .int .i64 (-1), .int .i64 0, .string s2, .string ⟨#[]⟩] 166 (0, 0))] r2 (w2.setCell ⟨wn.heap.size, 6, none⟩ (.string s2))) := PS.set H2 6 (.string s2))
  | (go_at_call 195; (with_reducible refine (qaH S2 _ _ zag T2).mono ?_); rintro e w3 (⟨c9, a9, rfl, HP⟩ | ⟨r3, rfl, T3, H3⟩); rotate_left; obtain ⟨n0, n1, n2, n3, n4, n5, n6, n7, u0, u1, u2, u3, u5, u6, u7, hkl⟩ := PS.node H3)
  | (go_at_call 196; (with_reducible refine (pdp H3 HE.out T3).mono ?_); rintro e w4 (⟨c9, a9, rfl, HP⟩ | ⟨z4, r4, rfl, T4, H4⟩); rotate_left; obtain ⟨n0, n1, n2, n3, n4, n5, n6, n7, u0, u1, u2, u3, u5, u6, u7, hkl⟩ := PS.node H4; have S4 : Hid (PS b lb lo cap L m N nv w [(wn.heap.size, .cells #[.int .i64 21, .int .i64 z4, .int .i64 (-1), .int .i64 (-1), .int .i64 (-1), .int .i64 0, .string s2, .string ⟨#[]⟩] 166 (0, 0))] r4 (w4.setCell ⟨wn.heap.size, 1, none⟩ (.int .i64 z4))) := PS.set H4 1 (.int .i64 z4))
  | (go_at_call 195; (with_reducible refine (qaH S4 _ _ zag T4).mono ?_); rintro e w5 (⟨c9, a9, rfl, HP⟩ | ⟨r5, rfl, T5, H5⟩); rotate_left; obtain ⟨n0, n1, n2, n3, n4, n5, n6, n7, u0, u1, u2, u3, u5, u6, u7, hkl⟩ := PS.node H5)
  | (go_at_call 168; (refine (play H5 _ _ _ _ _ _ _ _ T5).mono ?_); rintro e w6 (⟨c9, a9, rfl, HP⟩ | ⟨z6, rfl, HP⟩)))
 all_goals first | exact ⟨rfl, HP.out⟩ | (go_ret; exact HP.out)
theorem simple_put (h : St b lb lo cap nv L m N w) (hk5 : (tk L m).1.k = 5) (hs : (tk L m).1.s.toList = [112, 117, 116]) (z : Int) (ex : PM Int) (he : Dp b lb lo cap L 196 z ex) (r : PR Int) (hr : putP L ex m N.length = r) :
  Calls Tryz.prog 162 #[.pointer (some ⟨b, 0, none⟩), .int .i64 z] w (PPost intV b lb lo cap nv L m N w r) := by
 have T0 := Lib.hid (by unfold putP at hr; exact hr.symm.trans (qcV _ _ _))
 have hm : (m : Int) ≤ 5000 := by have := h.ends.few; have := h.pos; omega
 have hm0 : 0 ≤ (m : Int) := by omega
 have NX := Lib.hid (h.next (by rw [hk5]; decide))
 have HS := Lib.hid h
 have HE := Lib.hid he
 obtain ⟨⟨⟨k, ts, i⟩, a⟩, htt⟩ : ∃ tt, tk L m = tt := ⟨_, rfl⟩
 have TK : RowKit.Hid (Calls Tryz.prog 132 #[.pointer (some ⟨b, 0, none⟩)] w fun e w' => e = .returned (.agg #[.int .i64 k, .int .i64 a, .string ts, .int .i64 i]) ∧ Ext w w') := Lib.hid (by have := qaS h; rw [htt] at this; exact this)
 rw [htt] at hs
 dsimp only at hs
 have q_put : (ts.toList == [112, 117, 116]) = true := by rw [hs]; decide
 have q_delete : (ts.toList == [100, 101, 108, 101, 116, 101]) = false := by rw [hs]; decide
 have q_abort : (ts.toList == [97, 98, 111, 114, 116]) = false := by rw [hs]; decide
 clear h hr he hk5 hs htt
 go_enter Tryz.func162, Tryz.ntmps162
 go_wp2_with (first
  | (go_at_call 132; (with_reducible refine (TK.out).mono ?_); rintro e wt ⟨rfl, hx⟩; have H0 := PS.step HS.out hx NX.out; obtain ⟨c0, c1, c2, c3, f1, f2, f3, hbb⟩ := (HS.out.ext hx).facts; clear c0 c2 c3 f2 f3 hx)
  | (go_at_call 165; (with_reducible refine (qar _ _).mono ?_); rintro e wn ⟨rfl, hx⟩; have HN := PS.new (PS.ext H0 hx) (.cells #[.int .i64 22, .int .i64 (-1), .int .i64 (-1), .int .i64 (-1), .int .i64 (-1), .int .i64 0, .string ⟨#[]⟩, .string ⟨#[]⟩] 166 (0, 0)); clear hx)
  | (go_at_call 196; (with_reducible refine (pdp HN HE.out T0).mono ?_); rintro e w1 (⟨c9, a9, rfl, HP⟩ | ⟨z1, r1, rfl, T1, H1⟩); rotate_left; obtain ⟨n0, n1, n2, n3, n4, n5, n6, n7, u0, u1, u2, u3, u5, u6, u7, hkl⟩ := PS.node H1; have S1 : Hid (PS b lb lo cap L m N nv w [(wn.heap.size, .cells #[.int .i64 22, .int .i64 z1, .int .i64 (-1), .int .i64 (-1), .int .i64 (-1), .int .i64 0, .string ⟨#[]⟩, .string ⟨#[]⟩] 166 (0, 0))] r1 (w1.setCell ⟨wn.heap.size, 1, none⟩ (.int .i64 z1))) := PS.set H1 1 (.int .i64 z1))
  | (go_at_call 195; (with_reducible refine (qaH S1 _ _ zag T1).mono ?_); rintro e w2 (⟨c9, a9, rfl, HP⟩ | ⟨r2, rfl, T2, H2⟩); rotate_left; obtain ⟨n0, n1, n2, n3, n4, n5, n6, n7, u0, u1, u2, u3, u5, u6, u7, hkl⟩ := PS.node H2)
  | (go_at_call 196; (with_reducible refine (pdp H2 HE.out T2).mono ?_); rintro e w3 (⟨c9, a9, rfl, HP⟩ | ⟨z3, r3, rfl, T3, H3⟩); rotate_left; obtain ⟨n0, n1, n2, n3, n4, n5, n6, n7, u0, u1, u2, u3, u5, u6, u7, hkl⟩ := PS.node H3; have S3 : Hid (PS b lb lo cap L m N nv w [(wn.heap.size, .cells #[.int .i64 22, .int .i64 z1, .int .i64 z3, .int .i64 (-1), .int .i64 (-1), .int .i64 0, .string ⟨#[]⟩, .string ⟨#[]⟩] 166 (0, 0))] r3 (w3.setCell ⟨wn.heap.size, 2, none⟩ (.int .i64 z3))) := PS.set H3 2 (.int .i64 z3))
  | (go_at_call 195; (with_reducible refine (qaH S3 _ _ zag T3).mono ?_); rintro e w4 (⟨c9, a9, rfl, HP⟩ | ⟨r4, rfl, T4, H4⟩); rotate_left; obtain ⟨n0, n1, n2, n3, n4, n5, n6, n7, u0, u1, u2, u3, u5, u6, u7, hkl⟩ := PS.node H4)
  | (go_at_call 168; (refine (play H4 _ _ _ _ _ _ _ _ T4).mono ?_); rintro e w5 (⟨c9, a9, rfl, HP⟩ | ⟨z5, rfl, HP⟩)))
 all_goals first | exact ⟨rfl, HP.out⟩ | (go_ret; exact HP.out)
theorem qdT (h : St b lb lo cap nv L m N w) (hk5 : (tk L m).1.k = 5) (hs : (tk L m).1.s.toList = [100, 101, 108, 101, 116, 101]) (z : Int) (ex : PM Int) (he : Dp b lb lo cap L 196 z ex) (r : PR Int) (hr : qax L 23 ex m N.length = r) :
  Calls Tryz.prog 162 #[.pointer (some ⟨b, 0, none⟩), .int .i64 z] w (PPost intV b lb lo cap nv L m N w r) := by
 have T0 := Lib.hid (by unfold qax at hr; exact hr.symm.trans (qcV _ _ _))
 have hm : (m : Int) ≤ 5000 := by have := h.ends.few; have := h.pos; omega
 have hm0 : 0 ≤ (m : Int) := by omega
 have NX := Lib.hid (h.next (by rw [hk5]; decide))
 have HS := Lib.hid h
 have HE := Lib.hid he
 obtain ⟨⟨⟨k, ts, i⟩, a⟩, htt⟩ : ∃ tt, tk L m = tt := ⟨_, rfl⟩
 have TK : RowKit.Hid (Calls Tryz.prog 132 #[.pointer (some ⟨b, 0, none⟩)] w fun e w' => e = .returned (.agg #[.int .i64 k, .int .i64 a, .string ts, .int .i64 i]) ∧ Ext w w') := Lib.hid (by have := qaS h; rw [htt] at this; exact this)
 rw [htt] at hs
 dsimp only at hs
 have q_put : (ts.toList == [112, 117, 116]) = false := by rw [hs]; decide
 have q_delete : (ts.toList == [100, 101, 108, 101, 116, 101]) = true := by rw [hs]; decide
 have q_abort : (ts.toList == [97, 98, 111, 114, 116]) = false := by rw [hs]; decide
 clear h hr he hk5 hs htt
 go_enter Tryz.func162, Tryz.ntmps162
 go_wp2_with (first
  | (go_at_call 132; (with_reducible refine (TK.out).mono ?_); rintro e wt ⟨rfl, hx⟩; have H0 := PS.step HS.out hx NX.out; obtain ⟨c0, c1, c2, c3, f1, f2, f3, hbb⟩ := (HS.out.ext hx).facts; clear c0 c2 c3 f2 f3 hx)
  | (go_at_call 165; (with_reducible refine (qar _ _).mono ?_); rintro e wn ⟨rfl, hx⟩; have HN := PS.new (PS.ext H0 hx) (.cells #[.int .i64 23, .int .i64 (-1), .int .i64 (-1), .int .i64 (-1), .int .i64 (-1), .int .i64 0, .string ⟨#[]⟩, .string ⟨#[]⟩] 166 (0, 0)); clear hx)
  | (go_at_call 196; (with_reducible refine (pdp HN HE.out T0).mono ?_); rintro e w1 (⟨c9, a9, rfl, HP⟩ | ⟨z1, r1, rfl, T1, H1⟩); rotate_left; obtain ⟨n0, n1, n2, n3, n4, n5, n6, n7, u0, u1, u2, u3, u5, u6, u7, hkl⟩ := PS.node H1; have S1 : Hid (PS b lb lo cap L m N nv w [(wn.heap.size, .cells #[.int .i64 23, .int .i64 z1, .int .i64 (-1), .int .i64 (-1), .int .i64 (-1), .int .i64 0, .string ⟨#[]⟩, .string ⟨#[]⟩] 166 (0, 0))] r1 (w1.setCell ⟨wn.heap.size, 1, none⟩ (.int .i64 z1))) := PS.set H1 1 (.int .i64 z1))
  | (go_at_call 195; (with_reducible refine (qaH S1 _ _ zag T1).mono ?_); rintro e w2 (⟨c9, a9, rfl, HP⟩ | ⟨r2, rfl, T2, H2⟩); rotate_left; obtain ⟨n0, n1, n2, n3, n4, n5, n6, n7, u0, u1, u2, u3, u5, u6, u7, hkl⟩ := PS.node H2)
  | (go_at_call 168; (refine (play H2 _ _ _ _ _ _ _ _ T2).mono ?_); rintro e w3 (⟨c9, a9, rfl, HP⟩ | ⟨z3, rfl, HP⟩)))
 all_goals first | exact ⟨rfl, HP.out⟩ | (go_ret; exact HP.out)
theorem simple_abort (h : St b lb lo cap nv L m N w) (hk5 : (tk L m).1.k = 5) (hs : (tk L m).1.s.toList = [97, 98, 111, 114, 116]) (z : Int) (ex : PM Int) (he : Dp b lb lo cap L 196 z ex) (r : PR Int) (hr : qax L 27 ex m N.length = r) :
  Calls Tryz.prog 162 #[.pointer (some ⟨b, 0, none⟩), .int .i64 z] w (PPost intV b lb lo cap nv L m N w r) := by
 have T0 := Lib.hid (by unfold qax at hr; exact hr.symm.trans (qcV _ _ _))
 have hm : (m : Int) ≤ 5000 := by have := h.ends.few; have := h.pos; omega
 have hm0 : 0 ≤ (m : Int) := by omega
 have NX := Lib.hid (h.next (by rw [hk5]; decide))
 have HS := Lib.hid h
 have HE := Lib.hid he
 obtain ⟨⟨⟨k, ts, i⟩, a⟩, htt⟩ : ∃ tt, tk L m = tt := ⟨_, rfl⟩
 have TK : RowKit.Hid (Calls Tryz.prog 132 #[.pointer (some ⟨b, 0, none⟩)] w fun e w' => e = .returned (.agg #[.int .i64 k, .int .i64 a, .string ts, .int .i64 i]) ∧ Ext w w') := Lib.hid (by have := qaS h; rw [htt] at this; exact this)
 rw [htt] at hs
 dsimp only at hs
 have q_put : (ts.toList == [112, 117, 116]) = false := by rw [hs]; decide
 have q_delete : (ts.toList == [100, 101, 108, 101, 116, 101]) = false := by rw [hs]; decide
 have q_abort : (ts.toList == [97, 98, 111, 114, 116]) = true := by rw [hs]; decide
 clear h hr he hk5 hs htt
 go_enter Tryz.func162, Tryz.ntmps162
 go_wp2_with (first
  | (go_at_call 132; (with_reducible refine (TK.out).mono ?_); rintro e wt ⟨rfl, hx⟩; have H0 := PS.step HS.out hx NX.out; obtain ⟨c0, c1, c2, c3, f1, f2, f3, hbb⟩ := (HS.out.ext hx).facts; clear c0 c2 c3 f2 f3 hx)
  | (go_at_call 165; (with_reducible refine (qar _ _).mono ?_); rintro e wn ⟨rfl, hx⟩; have HN := PS.new (PS.ext H0 hx) (.cells #[.int .i64 27, .int .i64 (-1), .int .i64 (-1), .int .i64 (-1), .int .i64 (-1), .int .i64 0, .string ⟨#[]⟩, .string ⟨#[]⟩] 166 (0, 0)); clear hx)
  | (go_at_call 196; (with_reducible refine (pdp HN HE.out T0).mono ?_); rintro e w1 (⟨c9, a9, rfl, HP⟩ | ⟨z1, r1, rfl, T1, H1⟩); rotate_left; obtain ⟨n0, n1, n2, n3, n4, n5, n6, n7, u0, u1, u2, u3, u5, u6, u7, hkl⟩ := PS.node H1; have S1 : Hid (PS b lb lo cap L m N nv w [(wn.heap.size, .cells #[.int .i64 27, .int .i64 z1, .int .i64 (-1), .int .i64 (-1), .int .i64 (-1), .int .i64 0, .string ⟨#[]⟩, .string ⟨#[]⟩] 166 (0, 0))] r1 (w1.setCell ⟨wn.heap.size, 1, none⟩ (.int .i64 z1))) := PS.set H1 1 (.int .i64 z1))
  | (go_at_call 195; (with_reducible refine (qaH S1 _ _ zag T1).mono ?_); rintro e w2 (⟨c9, a9, rfl, HP⟩ | ⟨r2, rfl, T2, H2⟩); rotate_left; obtain ⟨n0, n1, n2, n3, n4, n5, n6, n7, u0, u1, u2, u3, u5, u6, u7, hkl⟩ := PS.node H2)
  | (go_at_call 168; (refine (play H2 _ _ _ _ _ _ _ _ T2).mono ?_); rintro e w3 (⟨c9, a9, rfl, HP⟩ | ⟨z3, rfl, HP⟩)))
 all_goals first | exact ⟨rfl, HP.out⟩ | (go_ret; exact HP.out)
theorem qdN (h : St b lb lo cap nv L m N w) (hk5 : (tk L m).1.k = 5) (hs : (tk L m).1.s.toList = [114, 101, 116, 117, 114, 110]) (z : Int) (ex : PM Int) (he : Dp b lb lo cap L 196 z ex) (r : PR Int) (hr : qax L 28 ex m N.length = r) :
  Calls Tryz.prog 162 #[.pointer (some ⟨b, 0, none⟩), .int .i64 z] w (PPost intV b lb lo cap nv L m N w r) := by
 have T0 := Lib.hid (by unfold qax at hr; exact hr.symm.trans (qcV _ _ _))
 have hm : (m : Int) ≤ 5000 := by have := h.ends.few; have := h.pos; omega
 have hm0 : 0 ≤ (m : Int) := by omega
 have NX := Lib.hid (h.next (by rw [hk5]; decide))
 have HS := Lib.hid h
 have HE := Lib.hid he
 obtain ⟨⟨⟨k, ts, i⟩, a⟩, htt⟩ : ∃ tt, tk L m = tt := ⟨_, rfl⟩
 have TK : RowKit.Hid (Calls Tryz.prog 132 #[.pointer (some ⟨b, 0, none⟩)] w fun e w' => e = .returned (.agg #[.int .i64 k, .int .i64 a, .string ts, .int .i64 i]) ∧ Ext w w') := Lib.hid (by have := qaS h; rw [htt] at this; exact this)
 rw [htt] at hs
 dsimp only at hs
 have q_put : (ts.toList == [112, 117, 116]) = false := by rw [hs]; decide
 have q_delete : (ts.toList == [100, 101, 108, 101, 116, 101]) = false := by rw [hs]; decide
 have q_abort : (ts.toList == [97, 98, 111, 114, 116]) = false := by rw [hs]; decide
 clear h hr he hk5 hs htt
 go_enter Tryz.func162, Tryz.ntmps162
 go_wp2_with (first
  | (go_at_call 132; (with_reducible refine (TK.out).mono ?_); rintro e wt ⟨rfl, hx⟩; have H0 := PS.step HS.out hx NX.out; obtain ⟨c0, c1, c2, c3, f1, f2, f3, hbb⟩ := (HS.out.ext hx).facts; clear c0 c2 c3 f2 f3 hx)
  | (go_at_call 165; (with_reducible refine (qar _ _).mono ?_); rintro e wn ⟨rfl, hx⟩; have HN := PS.new (PS.ext H0 hx) (.cells #[.int .i64 28, .int .i64 (-1), .int .i64 (-1), .int .i64 (-1), .int .i64 (-1), .int .i64 0, .string ⟨#[]⟩, .string ⟨#[]⟩] 166 (0, 0)); clear hx)
  | (go_at_call 196; (with_reducible refine (pdp HN HE.out T0).mono ?_); rintro e w1 (⟨c9, a9, rfl, HP⟩ | ⟨z1, r1, rfl, T1, H1⟩); rotate_left; obtain ⟨n0, n1, n2, n3, n4, n5, n6, n7, u0, u1, u2, u3, u5, u6, u7, hkl⟩ := PS.node H1; have S1 : Hid (PS b lb lo cap L m N nv w [(wn.heap.size, .cells #[.int .i64 28, .int .i64 z1, .int .i64 (-1), .int .i64 (-1), .int .i64 (-1), .int .i64 0, .string ⟨#[]⟩, .string ⟨#[]⟩] 166 (0, 0))] r1 (w1.setCell ⟨wn.heap.size, 1, none⟩ (.int .i64 z1))) := PS.set H1 1 (.int .i64 z1))
  | (go_at_call 195; (with_reducible refine (qaH S1 _ _ zag T1).mono ?_); rintro e w2 (⟨c9, a9, rfl, HP⟩ | ⟨r2, rfl, T2, H2⟩); rotate_left; obtain ⟨n0, n1, n2, n3, n4, n5, n6, n7, u0, u1, u2, u3, u5, u6, u7, hkl⟩ := PS.node H2)
  | (go_at_call 168; (refine (play H2 _ _ _ _ _ _ _ _ T2).mono ?_); rintro e w3 (⟨c9, a9, rfl, HP⟩ | ⟨z3, rfl, HP⟩)))
 all_goals first | exact ⟨rfl, HP.out⟩ | (go_ret; exact HP.out)
theorem when_any (h : St b lb lo cap nv L m N w) (hk5 : (tk L m).1.k = 5) (hs : (tk L m).1.s.toList = [105, 102]) (d : Nat) (hd : d ≤ 16) (ex bk : PM Int) (he : Dp b lb lo cap L 196 (d : Int) ex) (hb : Dp b lb lo cap L 111 ((d : Int) + 1) bk) (r : PR Int) (hr : whenP L ex (qaM L bk) m N.length = r) :
  Calls Tryz.prog 163 #[.pointer (some ⟨b, 0, none⟩), .int .i64 (d : Int)] w (PPost intV b lb lo cap nv L m N w r) := by
 have hd0 : 0 ≤ (d : Int) := by omega
 have hd1 : (d : Int) ≤ 16 := by omega
 have T0 := Lib.hid (by unfold whenP at hr; exact qcM (s := ⟨#[105, 102]⟩) (qbQ wb_if hk5 (by rw [hs, tl_if])) hr)
 have H0 := PS.begin h
 have HE := Lib.hid he
 have HB : RowKit.Hid (Dp b lb lo cap L 167 ((d : Int) + 1) (qaM L bk)) := Lib.hid fun nv m N w h r hr => qcr h _ bk hb r hr
 clear h hr he hb hk5 hs hd
 go_enter Tryz.func163, Tryz.ntmps163
 go_wp2_with (first
  | (go_at_call 195; (with_reducible refine (qaH H0 _ _ zag T0).mono ?_); rintro e w1 (⟨c9, a9, rfl, HP⟩ | ⟨r1, rfl, T1, H1⟩); rotate_left)
  | (go_at_call 165; (with_reducible refine (qar _ _).mono ?_); rintro e wn ⟨rfl, hx⟩; have HN := PS.new (PS.ext H1 hx) (.cells #[.int .i64 24, .int .i64 (-1), .int .i64 (-1), .int .i64 (-1), .int .i64 (-1), .int .i64 0, .string ⟨#[]⟩, .string ⟨#[]⟩] 166 (0, 0)); clear hx)
  | (go_at_call 196; (with_reducible refine (pdp HN HE.out T1).mono ?_); rintro e w2 (⟨c9, a9, rfl, HP⟩ | ⟨z2, r2, rfl, T2, H2⟩); rotate_left; obtain ⟨n0, n1, n2, n3, n4, n5, n6, n7, u0, u1, u2, u3, u5, u6, u7, hkl⟩ := PS.node H2; have S2 : Hid (PS b lb lo cap L m N nv w [(wn.heap.size, .cells #[.int .i64 24, .int .i64 z2, .int .i64 (-1), .int .i64 (-1), .int .i64 (-1), .int .i64 0, .string ⟨#[]⟩, .string ⟨#[]⟩] 166 (0, 0))] r2 (w2.setCell ⟨wn.heap.size, 1, none⟩ (.int .i64 z2))) := PS.set H2 1 (.int .i64 z2))
  | (go_at_call 167; (with_reducible refine (pdp S2 HB.out T2).mono ?_); rintro e w3 (⟨c9, a9, rfl, HP⟩ | ⟨z3, r3, rfl, T3, H3⟩); rotate_left; obtain ⟨n0, n1, n2, n3, n4, n5, n6, n7, u0, u1, u2, u3, u5, u6, u7, hkl⟩ := PS.node H3; have S3 : Hid (PS b lb lo cap L m N nv w [(wn.heap.size, .cells #[.int .i64 24, .int .i64 z2, .int .i64 z3, .int .i64 (-1), .int .i64 (-1), .int .i64 0, .string ⟨#[]⟩, .string ⟨#[]⟩] 166 (0, 0))] r3 (w3.setCell ⟨wn.heap.size, 2, none⟩ (.int .i64 z3))) := PS.set H3 2 (.int .i64 z3))
  | (go_at_call 194; (with_reducible refine (ptakes S3 _ T3).mono ?_); rintro e w4 (⟨c9, a9, rfl, HP⟩ | ⟨x4, r4, rfl, T4, H4⟩); rotate_left; obtain ⟨n0, n1, n2, n3, n4, n5, n6, n7, u0, u1, u2, u3, u5, u6, u7, hkl⟩ := PS.node H4; have S4 : Hid (PS b lb lo cap L m N nv w [(wn.heap.size, .cells #[.int .i64 24, .int .i64 z2, .int .i64 z3, .int .i64 (-1), .int .i64 (-1), .int .i64 1, .string ⟨#[]⟩, .string ⟨#[]⟩] 166 (0, 0))] r4 (w4.setCell ⟨wn.heap.size, 5, none⟩ (.int .i64 1))) := PS.set H4 5 (.int .i64 1); cases x4 <;> simp only [Bool.false_eq_true, if_false, if_true] at T4)
  | (go_at_call 168; (refine (play H4 _ _ _ _ _ _ _ _ T4).mono ?_); rintro e w5 (⟨c9, a9, rfl, HP⟩ | ⟨z5, rfl, HP⟩))
  | (go_at_call 167; (with_reducible refine (pdp S4 HB.out T4).mono ?_); rintro e w6 (⟨c9, a9, rfl, HP⟩ | ⟨z6, r6, rfl, T6, H6⟩); rotate_left; obtain ⟨n0, n1, n2, n3, n4, n5, n6, n7, u0, u1, u2, u3, u5, u6, u7, hkl⟩ := PS.node H6; have S6 : Hid (PS b lb lo cap L m N nv w [(wn.heap.size, .cells #[.int .i64 24, .int .i64 z2, .int .i64 z3, .int .i64 z6, .int .i64 (-1), .int .i64 1, .string ⟨#[]⟩, .string ⟨#[]⟩] 166 (0, 0))] r6 (w6.setCell ⟨wn.heap.size, 3, none⟩ (.int .i64 z6))) := PS.set H6 3 (.int .i64 z6))
  | (go_at_call 168; (refine (play S6 _ _ _ _ _ _ _ _ T6).mono ?_); rintro e w7 (⟨c9, a9, rfl, HP⟩ | ⟨z7, rfl, HP⟩)))
 all_goals first | exact ⟨rfl, HP.out⟩ | (go_ret; exact HP.out)
theorem each_any (h : St b lb lo cap nv L m N w) (hk5 : (tk L m).1.k = 5) (hs : (tk L m).1.s.toList = [102, 111, 114]) (d : Nat) (hd : d ≤ 16) (ex bk : PM Int) (he : Dp b lb lo cap L 196 (d : Int) ex) (hb : Dp b lb lo cap L 111 ((d : Int) + 1) bk) (r : PR Int) (hr : eachP L ex (qaM L bk) m N.length = r) :
  Calls Tryz.prog 164 #[.pointer (some ⟨b, 0, none⟩), .int .i64 (d : Int)] w (PPost intV b lb lo cap nv L m N w r) := by
 have hd0 : 0 ≤ (d : Int) := by omega
 have hd1 : (d : Int) ≤ 16 := by omega
 have T0 := Lib.hid (by unfold eachP at hr; exact qcM (s := ⟨#[102, 111, 114]⟩) (qbQ wb_for hk5 (by rw [hs, tl_for])) hr)
 have H0 := PS.begin h
 have HE := Lib.hid he
 have HB : RowKit.Hid (Dp b lb lo cap L 167 ((d : Int) + 1) (qaM L bk)) := Lib.hid fun nv m N w h r hr => qcr h _ bk hb r hr
 clear h hr he hb hk5 hs hd
 go_enter Tryz.func164, Tryz.ntmps164
 go_wp2_with (first
  | (go_at_call 195; (with_reducible refine (qaH H0 _ _ zag T0).mono ?_); rintro e w1 (⟨c9, a9, rfl, HP⟩ | ⟨r1, rfl, T1, H1⟩); rotate_left)
  | (go_at_call 165; (with_reducible refine (qar _ _).mono ?_); rintro e wn ⟨rfl, hx⟩; have HN := PS.new (PS.ext H1 hx) (.cells #[.int .i64 25, .int .i64 (-1), .int .i64 (-1), .int .i64 (-1), .int .i64 (-1), .int .i64 0, .string ⟨#[]⟩, .string ⟨#[]⟩] 166 (0, 0)); clear hx)
  | (go_at_call 112; (with_reducible refine (pof HN 1 zaj T1).mono ?_); rintro e w2 (⟨c9, a9, rfl, HP⟩ | ⟨a2, k2, s2, i2, r2, rfl, T2, H2⟩); rotate_left; obtain ⟨n0, n1, n2, n3, n4, n5, n6, n7, u0, u1, u2, u3, u5, u6, u7, hkl⟩ := PS.node H2; have S2 : Hid (PS b lb lo cap L m N nv w [(wn.heap.size, .cells #[.int .i64 25, .int .i64 (-1), .int .i64 (-1), .int .i64 (-1), .int .i64 (-1), .int .i64 0, .string s2, .string ⟨#[]⟩] 166 (0, 0))] r2 (w2.setCell ⟨wn.heap.size, 6, none⟩ (.string s2))) := PS.set H2 6 (.string s2))
  | (go_at_call 195; (with_reducible refine (qaH S2 _ _ zag T2).mono ?_); rintro e w3 (⟨c9, a9, rfl, HP⟩ | ⟨r3, rfl, T3, H3⟩); rotate_left; obtain ⟨n0, n1, n2, n3, n4, n5, n6, n7, u0, u1, u2, u3, u5, u6, u7, hkl⟩ := PS.node H3)
  | (go_at_call 112; (with_reducible refine (pof H3 1 zaj T3).mono ?_); rintro e w4 (⟨c9, a9, rfl, HP⟩ | ⟨a4, k4, s4, i4, r4, rfl, T4, H4⟩); rotate_left; obtain ⟨n0, n1, n2, n3, n4, n5, n6, n7, u0, u1, u2, u3, u5, u6, u7, hkl⟩ := PS.node H4; have S4 : Hid (PS b lb lo cap L m N nv w [(wn.heap.size, .cells #[.int .i64 25, .int .i64 (-1), .int .i64 (-1), .int .i64 (-1), .int .i64 (-1), .int .i64 0, .string s2, .string s4] 166 (0, 0))] r4 (w4.setCell ⟨wn.heap.size, 7, none⟩ (.string s4))) := PS.set H4 7 (.string s4))
  | (go_at_call 195; (with_reducible refine (pmust3 S4 _ _ _ _ zag T4).mono ?_); rintro e w5 (⟨c9, a9, rfl, HP⟩ | ⟨r5, rfl, T5, H5⟩); rotate_left; obtain ⟨n0, n1, n2, n3, n4, n5, n6, n7, u0, u1, u2, u3, u5, u6, u7, hkl⟩ := PS.node H5)
  | (go_at_call 196; (with_reducible refine (pdp H5 HE.out T5).mono ?_); rintro e w6 (⟨c9, a9, rfl, HP⟩ | ⟨z6, r6, rfl, T6, H6⟩); rotate_left; obtain ⟨n0, n1, n2, n3, n4, n5, n6, n7, u0, u1, u2, u3, u5, u6, u7, hkl⟩ := PS.node H6; have S6 : Hid (PS b lb lo cap L m N nv w [(wn.heap.size, .cells #[.int .i64 25, .int .i64 z6, .int .i64 (-1), .int .i64 (-1), .int .i64 (-1), .int .i64 0, .string s2, .string s4] 166 (0, 0))] r6 (w6.setCell ⟨wn.heap.size, 1, none⟩ (.int .i64 z6))) := PS.set H6 1 (.int .i64 z6))
  | (go_at_call 195; (with_reducible refine (qaH S6 _ _ zag T6).mono ?_); rintro e w7 (⟨c9, a9, rfl, HP⟩ | ⟨r7, rfl, T7, H7⟩); rotate_left; obtain ⟨n0, n1, n2, n3, n4, n5, n6, n7, u0, u1, u2, u3, u5, u6, u7, hkl⟩ := PS.node H7)
  | (go_at_call 166; (with_reducible refine (pturns H7 T7).mono ?_); rintro e w8 (⟨c9, a9, rfl, HP⟩ | ⟨z8, r8, rfl, T8, H8⟩); rotate_left; obtain ⟨n0, n1, n2, n3, n4, n5, n6, n7, u0, u1, u2, u3, u5, u6, u7, hkl⟩ := PS.node H8; have S8 : Hid (PS b lb lo cap L m N nv w [(wn.heap.size, .cells #[.int .i64 25, .int .i64 z6, .int .i64 (-1), .int .i64 (-1), .int .i64 (-1), .int .i64 z8, .string s2, .string s4] 166 (0, 0))] r8 (w8.setCell ⟨wn.heap.size, 5, none⟩ (.int .i64 z8))) := PS.set H8 5 (.int .i64 z8))
  | (go_at_call 195; (with_reducible refine (qaH S8 _ _ zag T8).mono ?_); rintro e w9 (⟨c9, a9, rfl, HP⟩ | ⟨r9, rfl, T9, H9⟩); rotate_left; obtain ⟨n0, n1, n2, n3, n4, n5, n6, n7, u0, u1, u2, u3, u5, u6, u7, hkl⟩ := PS.node H9)
  | (go_at_call 167; (with_reducible refine (pdp H9 HB.out T9).mono ?_); rintro e w10 (⟨c9, a9, rfl, HP⟩ | ⟨z10, r10, rfl, T10, H10⟩); rotate_left; obtain ⟨n0, n1, n2, n3, n4, n5, n6, n7, u0, u1, u2, u3, u5, u6, u7, hkl⟩ := PS.node H10; have S10 : Hid (PS b lb lo cap L m N nv w [(wn.heap.size, .cells #[.int .i64 25, .int .i64 z6, .int .i64 z10, .int .i64 (-1), .int .i64 (-1), .int .i64 z8, .string s2, .string s4] 166 (0, 0))] r10 (w10.setCell ⟨wn.heap.size, 2, none⟩ (.int .i64 z10))) := PS.set H10 2 (.int .i64 z10))
  | (go_at_call 168; (refine (play S10 _ _ _ _ _ _ _ _ T10).mono ?_); rintro e w11 (⟨c9, a9, rfl, HP⟩ | ⟨z11, rfl, HP⟩)))
 all_goals first | exact ⟨rfl, HP.out⟩ | (go_ret; exact HP.out)
end Go.Proofs.YtpnabjopfpdkhaaGreatDoor
