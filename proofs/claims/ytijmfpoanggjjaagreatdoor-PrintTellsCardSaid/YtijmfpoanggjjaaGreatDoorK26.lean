/- Lemmas for the claim (texts Rar9, Rar10, what its proof uses of them). -/
import Derived.Test.YtijmfpoanggjjaaGreatDoorK25
set_option linter.unusedSimpArgs false
set_option linter.unusedVariables false
namespace Go.Proofs.YtijmfpoanggjjaaGreatDoor
open Go.RowKit
attribute [go_sem] more_more Array.size_append
theorem wb_true : wordB sTrue = true := by kernel_rfl
theorem wb_false : wordB sFalse = true := by kernel_rfl
theorem tl_true : sTrue.toList = [116, 114, 117, 101] := by kernel_rfl
theorem tl_false : sFalse.toList = [102, 97, 108, 115, 101] := by kernel_rfl
theorem more_any {b lb lo cap : Nat} {nv : Value} {L : Toks} {m : Nat} {N : List Nd} {w : World} (h : Rt b lb lo cap nv L m N 0 0 w) (d : Nat) (hd : d ≤ 16) (e1 o1 : PM Int) (he : RDp b lb lo cap L 124 ((d : Int) + 1) e1) (ho : d < 16 → RDp b lb lo cap L 142 ((d : Int) + 1) o1) (r : PR Int) (hr : moreP L d e1 o1 m N.length = r) :
  Calls Tryz.prog 146 #[.pointer (some ⟨b, 0, none⟩), .int .i64 (d : Int)] w (RPost intV isInt b lb lo cap nv L m N w r) := by
 unfold moreP at hr
 cases h0 : isP L sOpen m
 · rw [h0, if_neg zbt] at hr
   cases h1 : isP L sNot m
   · rw [h1, if_neg zbt] at hr
     cases h2 : isP L sMinus m
     · rw [h2, if_neg zbt] at hr
       cases g0 : isP L sGet m
       · rw [g0, if_neg zbt] at hr
         cases g1 : isP L sHas m
         · rw [g1, if_neg zbt] at hr
           cases g2 : isP L sLen m
           · rw [g2, if_neg zbt] at hr
             cases g3 : isP L sShow m
             · rw [g3, if_neg zbt] at hr
               exact more_none h h0 h1 h2 g0 g1 g2 g3 _ r hr
             · rw [g3, if_pos rfl] at hr
               exact more_call3 h h0 h1 h2 g0 g1 g2 g3 d hd e1 he r hr
           · rw [g2, if_pos rfl] at hr
             exact more_call2 h h0 h1 h2 g0 g1 g2 d hd e1 he r hr
         · rw [g1, if_pos rfl] at hr
           exact more_call1 h h0 h1 h2 g0 g1 d hd e1 he r hr
       · rw [g0, if_pos rfl] at hr
         exact more_call0 h h0 h1 h2 g0 d hd e1 he r hr
     · rw [h2, if_pos rfl] at hr
       exact more_within1 h h0 h1 h2 d hd o1 ho r hr
   · rw [h1, if_pos rfl] at hr
     exact more_within0 h h0 h1 d hd o1 ho r hr
 · rw [h0, if_pos rfl] at hr
   exact more_paren h h0 d hd e1 he r hr
set_option maxHeartbeats 4000000 in
set_option maxRecDepth 20000 in
theorem rone_any {b lb lo cap : Nat} {nv : Value} {L : Toks} {m : Nat} {N : List Nd} {w : World} (h : Rt b lb lo cap nv L m N 0 0 w) (d : Nat) (hd : d ≤ 16) (e1 o1 : PM Int) (he : RDp b lb lo cap L 124 ((d : Int) + 1) e1) (ho : d < 16 → RDp b lb lo cap L 142 ((d : Int) + 1) o1) (r : PR Int) (hr : oneP L d e1 o1 m N.length = r) :
  Calls Tryz.prog 142 #[.pointer (some ⟨b, 0, none⟩), .int .i64 (d : Int)] w (RPost intV isInt b lb lo cap nv L m N w r) := by
 have H := Lib.hid h
 obtain ⟨c0, c1, c2, c3, c4, f1, f2, f3, f4, hb⟩ := h.facts
 obtain ⟨t0, t1, t2, t3, hlb⟩ := h.tokFacts
 have hp : (m : Int) < (L.length : Int) := by have := h.pos; omega
 have hp0 : 0 ≤ (m : Int) := by omega
 have hmx : (m : Int) ≤ 5000 := by have := h.ends.few; have := h.pos; omega
 have hne1 : lb ≠ b := by have := h.low; omega
 have NX0 : (tk L m).1.k ≠ 0 → m + 1 < L.length := h.next
 clear c2 c3 c4 f2 f3 f4
 by_cases e2 : (tk L m).1.k = 2
 · unfold oneP at hr
   rw [if_pos e2] at hr
   have NX := Lib.hid (NX0 (by rw [e2]; decide))
   obtain ⟨⟨⟨k, ts, i⟩, a⟩, htt⟩ : ∃ tt, tk L m = tt := ⟨_, rfl⟩
   rw [htt] at hr t0 t1 t2 t3 e2
   dsimp only at hr t0 t1 t2 t3 e2
   subst e2
   have HS0 := Lib.hid (h.cast (List.append_nil N).symm)
   have HK0 := Lib.hid (Kp.refl b nv w)
   have HM0 := Lib.hid (Nat.le_refl m)
   have HR0 := Lib.hid (qaz hr)
   have HS1 := Lib.hid (Rt.cast (HS0.out.setAt (m + 1) ((m : Int) + 1) zal NX.out) (show N ++ [] = N ++ ([] ++ []) by simp))
   have HK1 := Lib.hid (HK0.out.setB 1 (.int .i64 ((m : Int) + 1)))
   have HR1 := Lib.hid (qaf HR0.out (show skipP m _ = .ok ((), m + 1, []) from rfl))
   have HM1 := Lib.hid (Nat.le_succ m)
   clear NX0 htt
   clear h hr he ho
   go_enter Tryz.func142, Tryz.ntmps142
   go_wp2_with fail
   refine qaa 11 71 [false, false, false, false, false, false, false, false, false, false, false] zam zam rfl ?_
   simp only [List.take_succ_cons, List.take_zero, List.drop_succ_cons, List.drop_zero]
   iterate 10 (refine Lex.step rfl ?_; intro K hK; unfold StepG; go_simp; refine hK _ ?_; clear hK K)
   refine Lex.alloc 5 (.cells #[.int .i64 0, .int .i64 0, .string ⟨#[]⟩, .int .i64 0] 97) rfl rfl (fun d os => ?_) ?_
   · unfold StepG
     go_simp
     exact ⟨(Ext.refl _).alloc _, NewBlk.of_alloc _ _ _ _ _ zcn⟩
   refine Lex.nil fun WW hE => ?_
   intro u hu
   obtain ⟨dt1, ot1, dt2, ot2, rfl, rfl⟩ := hu.split hE
   clear hu hE
   go_simp
   unfold FillH
   go_wp2_with fail
   rw [ends_normal]
   go_wp2_with ((go_at_call 122; (with_reducible refine (qal _ _ _ _).mono ?_); rintro e _ ⟨rfl, d3, os3, rfl⟩))
   go_at_call 125
   obtain ⟨r2, h2⟩ := qaC HR1.out
   refine (qaw (show Rt b lb lo cap nv L (m + 1) (N ++ ([] ++ [])) 0 0 _ from zao) _ _ _ _ _ _ _ _ r2 zcl).mono ?_
   have HH := Lib.hid h2; clear h2
   rcases r2 with ⟨e1, e2⟩ | ⟨v2, m2, ns2⟩
   · rintro e wE ⟨hc, ⟨v, rfl, yq, rfl⟩, nvE, mE, NE, hsE, hkE⟩
     have HC := Lib.hid hc
     have HSE := Lib.hid hsE
     have HKE := Lib.hid (Kp.trans (show Kp b nv nv w _ from zaf) hkE)
     clear hc hsE hkE
     go_wp2_with (first
      | ((go_at_call 125; (with_reducible refine (qad HC.out (show Rt b lb lo cap nvE L mE NE e1 e2 _ from zae) _ _ _ _ _ _ _ _).mono ?_); rintro e _ ⟨rfl, d6, os6, rfl⟩))
      | ((go_at_call 122; (with_reducible refine (qal _ _ _ _).mono ?_); rintro e _ ⟨rfl, d3, os3, rfl⟩)))
     go_ret
     have := qaO HR1.out HH.out
     subst this
     exact RPost.err HC.out ⟨_, rfl⟩ zae zak
   rintro e w2 ⟨he, nv2, hs, hk, hm⟩
   unfold intV at he
   subst he
   have HS2 := Lib.hid (hs.cast (List.append_assoc _ _ _))
   have HM2 := Lib.hid (Nat.le_trans HM1.out hm)
   have HK2 := Lib.hid (Kp.trans (show Kp b nv nv w _ from zaf) hk)
   clear hs hk hm
   go_wp2_with fail
   go_ret
   have := qaX HR1.out HH.out
   subst this
   exact RPost.res rfl HS2.out HK2.out HM2.out
 by_cases e3 : (tk L m).1.k = 3
 · unfold oneP at hr
   rw [if_neg e2, if_pos e3] at hr
   have NX := Lib.hid (NX0 (by rw [e3]; decide))
   obtain ⟨⟨⟨k, ts, i⟩, a⟩, htt⟩ : ∃ tt, tk L m = tt := ⟨_, rfl⟩
   rw [htt] at hr t0 t1 t2 t3 e3
   dsimp only at hr t0 t1 t2 t3 e3
   subst e3
   have HS0 := Lib.hid (h.cast (List.append_nil N).symm)
   have HK0 := Lib.hid (Kp.refl b nv w)
   have HM0 := Lib.hid (Nat.le_refl m)
   have HR0 := Lib.hid (qaz hr)
   have HS1 := Lib.hid (Rt.cast (HS0.out.setAt (m + 1) ((m : Int) + 1) zal NX.out) (show N ++ [] = N ++ ([] ++ []) by simp))
   have HK1 := Lib.hid (HK0.out.setB 1 (.int .i64 ((m : Int) + 1)))
   have HR1 := Lib.hid (qaf HR0.out (show skipP m _ = .ok ((), m + 1, []) from rfl))
   have HM1 := Lib.hid (Nat.le_succ m)
   clear NX0 htt e2
   clear h hr he ho
   go_enter Tryz.func142, Tryz.ntmps142
   go_wp2_with fail
   refine qaa 11 71 [false, false, false, false, false, false, false, false, false, false, false] zam zam rfl ?_
   simp only [List.take_succ_cons, List.take_zero, List.drop_succ_cons, List.drop_zero]
   iterate 10 (refine Lex.step rfl ?_; intro K hK; unfold StepG; go_simp; refine hK _ ?_; clear hK K)
   refine Lex.alloc 5 (.cells #[.int .i64 0, .int .i64 0, .string ⟨#[]⟩, .int .i64 0] 97) rfl rfl (fun d os => ?_) ?_
   · unfold StepG
     go_simp
     exact ⟨(Ext.refl _).alloc _, NewBlk.of_alloc _ _ _ _ _ zcn⟩
   refine Lex.nil fun WW hE => ?_
   intro u hu
   obtain ⟨dt1, ot1, dt2, ot2, rfl, rfl⟩ := hu.split hE
   clear hu hE
   go_simp
   unfold FillH
   go_wp2_with fail
   rw [ends_normal]
   go_wp2_with ((go_at_call 122; (with_reducible refine (qal _ _ _ _).mono ?_); rintro e _ ⟨rfl, d3, os3, rfl⟩))
   go_at_call 125
   obtain ⟨r2, h2⟩ := qaC HR1.out
   refine (qaw (show Rt b lb lo cap nv L (m + 1) (N ++ ([] ++ [])) 0 0 _ from zao) _ _ _ _ _ _ _ _ r2 zcl).mono ?_
   have HH := Lib.hid h2; clear h2
   rcases r2 with ⟨e1, e2⟩ | ⟨v2, m2, ns2⟩
   · rintro e wE ⟨hc, ⟨v, rfl, yq, rfl⟩, nvE, mE, NE, hsE, hkE⟩
     have HC := Lib.hid hc
     have HSE := Lib.hid hsE
     have HKE := Lib.hid (Kp.trans (show Kp b nv nv w _ from zaf) hkE)
     clear hc hsE hkE
     go_wp2_with (first
      | ((go_at_call 125; (with_reducible refine (qad HC.out (show Rt b lb lo cap nvE L mE NE e1 e2 _ from zae) _ _ _ _ _ _ _ _).mono ?_); rintro e _ ⟨rfl, d6, os6, rfl⟩))
      | ((go_at_call 122; (with_reducible refine (qal _ _ _ _).mono ?_); rintro e _ ⟨rfl, d3, os3, rfl⟩)))
     go_ret
     have := qaO HR1.out HH.out
     subst this
     exact RPost.err HC.out ⟨_, rfl⟩ zae zak
   rintro e w2 ⟨he, nv2, hs, hk, hm⟩
   unfold intV at he
   subst he
   have HS2 := Lib.hid (hs.cast (List.append_assoc _ _ _))
   have HM2 := Lib.hid (Nat.le_trans HM1.out hm)
   have HK2 := Lib.hid (Kp.trans (show Kp b nv nv w _ from zaf) hk)
   clear hs hk hm
   go_wp2_with fail
   go_ret
   have := qaX HR1.out HH.out
   subst this
   exact RPost.res rfl HS2.out HK2.out HM2.out
 by_cases e1' : (tk L m).1.k = 1
 · unfold oneP at hr
   rw [if_neg e2, if_neg e3, if_pos e1'] at hr
   have NX := Lib.hid (NX0 (by rw [e1']; decide))
   obtain ⟨⟨⟨k, ts, i⟩, a⟩, htt⟩ : ∃ tt, tk L m = tt := ⟨_, rfl⟩
   rw [htt] at hr t0 t1 t2 t3 e1'
   dsimp only at hr t0 t1 t2 t3 e1'
   subst e1'
   have HS0 := Lib.hid (h.cast (List.append_nil N).symm)
   have HK0 := Lib.hid (Kp.refl b nv w)
   have HM0 := Lib.hid (Nat.le_refl m)
   have HR0 := Lib.hid (qaz hr)
   have HS1 := Lib.hid (Rt.cast (HS0.out.setAt (m + 1) ((m : Int) + 1) zal NX.out) (show N ++ [] = N ++ ([] ++ []) by simp))
   have HK1 := Lib.hid (HK0.out.setB 1 (.int .i64 ((m : Int) + 1)))
   have HR1 := Lib.hid (qaf HR0.out (show skipP m _ = .ok ((), m + 1, []) from rfl))
   have HM1 := Lib.hid (Nat.le_succ m)
   clear NX0 htt e2 e3
   clear h hr he ho
   go_enter Tryz.func142, Tryz.ntmps142
   go_wp2_with fail
   refine qaa 11 71 [false, false, false, false, false, false, false, false, false, false, false] zam zam rfl ?_
   simp only [List.take_succ_cons, List.take_zero, List.drop_succ_cons, List.drop_zero]
   iterate 10 (refine Lex.step rfl ?_; intro K hK; unfold StepG; go_simp; refine hK _ ?_; clear hK K)
   refine Lex.alloc 5 (.cells #[.int .i64 0, .int .i64 0, .string ⟨#[]⟩, .int .i64 0] 97) rfl rfl (fun d os => ?_) ?_
   · unfold StepG
     go_simp
     exact ⟨(Ext.refl _).alloc _, NewBlk.of_alloc _ _ _ _ _ zcn⟩
   refine Lex.nil fun WW hE => ?_
   intro u hu
   obtain ⟨dt1, ot1, dt2, ot2, rfl, rfl⟩ := hu.split hE
   clear hu hE
   go_simp
   unfold FillH
   go_wp2_with fail
   rw [ends_normal]
   go_wp2_with ((go_at_call 122; (with_reducible refine (qal _ _ _ _).mono ?_); rintro e _ ⟨rfl, d3, os3, rfl⟩))
   go_at_call 125
   obtain ⟨r2, h2⟩ := qaC HR1.out
   refine (qaw (show Rt b lb lo cap nv L (m + 1) (N ++ ([] ++ [])) 0 0 _ from zao) _ _ _ _ _ _ _ _ r2 zcl).mono ?_
   have HH := Lib.hid h2; clear h2
   rcases r2 with ⟨e1, e2⟩ | ⟨v2, m2, ns2⟩
   · rintro e wE ⟨hc, ⟨v, rfl, yq, rfl⟩, nvE, mE, NE, hsE, hkE⟩
     have HC := Lib.hid hc
     have HSE := Lib.hid hsE
     have HKE := Lib.hid (Kp.trans (show Kp b nv nv w _ from zaf) hkE)
     clear hc hsE hkE
     go_wp2_with (first
      | ((go_at_call 125; (with_reducible refine (qad HC.out (show Rt b lb lo cap nvE L mE NE e1 e2 _ from zae) _ _ _ _ _ _ _ _).mono ?_); rintro e _ ⟨rfl, d6, os6, rfl⟩))
      | ((go_at_call 122; (with_reducible refine (qal _ _ _ _).mono ?_); rintro e _ ⟨rfl, d3, os3, rfl⟩)))
     go_ret
     have := qaO HR1.out HH.out
     subst this
     exact RPost.err HC.out ⟨_, rfl⟩ zae zak
   rintro e w2 ⟨he, nv2, hs, hk, hm⟩
   unfold intV at he
   subst he
   have HS2 := Lib.hid (hs.cast (List.append_assoc _ _ _))
   have HM2 := Lib.hid (Nat.le_trans HM1.out hm)
   have HK2 := Lib.hid (Kp.trans (show Kp b nv nv w _ from zaf) hk)
   clear hs hk hm
   go_wp2_with fail
   go_ret
   have := qaX HR1.out HH.out
   subst this
   exact RPost.res rfl HS2.out HK2.out HM2.out
 rw [one_eq d e1 o1 m N.length e2 e3 e1'] at hr
 have q2 : ((tk L m).1.k == 2) = false := by simpa using e2
 have q3 : ((tk L m).1.k == 3) = false := by simpa using e3
 have q1 : ((tk L m).1.k == 1) = false := by simpa using e1'
 clear e2 e3 e1'
 cases p1 : isP L sNil m
 · rw [p1, if_neg zbt] at hr
   have S1 : RowKit.Hid (∀ w1, Ext w w1 → Calls Tryz.prog 139 #[.pointer (some ⟨b, 0, none⟩), .string ⟨#[110, 105, 108]⟩] w1 fun e w' => e = .returned (.bool false) ∧ Ext w1 w') := Lib.hid fun w1 hx => by have := qbd (h.ext hx) ⟨#[110, 105, 108]⟩ zaq; rw [show isP L ⟨#[110, 105, 108]⟩ m = false from p1] at this; exact this
   cases p2 : isP L sTrue m
   · rw [p2, if_neg zbt] at hr
     have S2 : RowKit.Hid (∀ w1, Ext w w1 → Calls Tryz.prog 139 #[.pointer (some ⟨b, 0, none⟩), .string ⟨#[116, 114, 117, 101]⟩] w1 fun e w' => e = .returned (.bool false) ∧ Ext w1 w') := Lib.hid fun w1 hx => by have := qbd (h.ext hx) ⟨#[116, 114, 117, 101]⟩ zaq; rw [show isP L ⟨#[116, 114, 117, 101]⟩ m = false from p2] at this; exact this
     cases p3 : isP L sFalse m
     · rw [p3, if_neg zbt] at hr
       have S3 : RowKit.Hid (∀ w1, Ext w w1 → Calls Tryz.prog 139 #[.pointer (some ⟨b, 0, none⟩), .string ⟨#[102, 97, 108, 115, 101]⟩] w1 fun e w' => e = .returned (.bool false) ∧ Ext w1 w') := Lib.hid fun w1 hx => by have := qbd (h.ext hx) ⟨#[102, 97, 108, 115, 101]⟩ zaq; rw [show isP L ⟨#[102, 97, 108, 115, 101]⟩ m = false from p3] at this; exact this
       have MA : RowKit.Hid (∀ nv w1, Rt b lb lo cap nv L m N 0 0 w1 → Calls Tryz.prog 146 #[.pointer (some ⟨b, 0, none⟩), .int .i64 (d : Int)] w1 (RPost intV isInt b lb lo cap nv L m N w1 r)) := Lib.hid fun nv w1 hs => more_any hs d hd e1 o1 he ho r hr
       have HS := H
       have HK0 := Lib.hid (Kp.refl b nv w)
       obtain ⟨⟨⟨k, ts, i⟩, a⟩, htt⟩ : ∃ tt, tk L m = tt := ⟨_, rfl⟩
       rw [htt] at t0 t1 t2 t3 q1 q2 q3
       dsimp only at t0 t1 t2 t3 q1 q2 q3
       clear p1 p2 p3 NX0 htt
       clear h hr he ho
       go_enter Tryz.func142, Tryz.ntmps142
       go_wp2_with fail
       refine qaa 11 71 [false, false, false, false, false, false, false, false, false, false, false] zam zam rfl ?_
       simp only [List.take_succ_cons, List.take_zero, List.drop_succ_cons, List.drop_zero]
       iterate 10 (refine Lex.step rfl ?_; intro K hK; unfold StepG; go_simp; refine hK _ ?_; clear hK K)
       refine Lex.alloc 5 (.cells #[.int .i64 0, .int .i64 0, .string ⟨#[]⟩, .int .i64 0] 97) rfl rfl (fun d os => ?_) ?_
       · unfold StepG
         go_simp
         exact ⟨(Ext.refl _).alloc _, NewBlk.of_alloc _ _ _ _ _ zcn⟩
       refine Lex.nil fun WW hE => ?_
       intro u hu
       obtain ⟨dt1, ot1, dt2, ot2, rfl, rfl⟩ := hu.split hE
       clear hu hE
       go_simp
       unfold FillH
       go_wp2_with fail
       rw [ends_normal]
       go_wp2_with (first
        | ((go_at_call 122; (with_reducible refine (qal _ _ _ _).mono ?_); rintro e _ ⟨rfl, d3, os3, rfl⟩))
        | ((go_at_call 139; (with_reducible refine (S1.out _ zac).mono ?_); rintro e _ ⟨rfl, d9, os9, rfl⟩))
        | ((go_at_call 139; (with_reducible refine (S2.out _ zac).mono ?_); rintro e _ ⟨rfl, d9, os9, rfl⟩))
        | ((go_at_call 139; (with_reducible refine (S3.out _ zac).mono ?_); rintro e _ ⟨rfl, d9, os9, rfl⟩)))
       go_at_call 146
       refine (MA.out _ _ (show Rt b lb lo cap nv L m N 0 0 _ from (by repeat (first | (with_reducible exact HS.out) | (with_reducible apply Rt.alloc) | (with_reducible apply Rt.more))))).mono ?_
       rcases r with ⟨z1, z2⟩ | ⟨v9, m9, ns9⟩
       · rintro e wE ⟨hc, ⟨v, rfl, yq, rfl⟩, nvE, mE, NE, hsE, hkE⟩
         have HC := Lib.hid hc
         have HSE := Lib.hid hsE
         have HKE := Lib.hid (Kp.trans (show Kp b nv nv w _ from zbe) hkE)
         clear hc hsE hkE
         go_wp2_with fail
         go_ret
         exact RPost.err HC.out ⟨_, rfl⟩ HSE.out HKE.out
       · rintro e w9 ⟨he, nv9, hs, hk, hm⟩
         unfold intV at he
         subst he
         have HS9 := Lib.hid hs
         have HK9 := Lib.hid (Kp.trans (show Kp b nv nv w _ from zbe) hk)
         have HM9 := Lib.hid hm
         clear hs hk hm
         go_wp2_with fail
         go_ret
         exact RPost.res rfl HS9.out HK9.out HM9.out
     · rw [p3, if_pos rfl] at hr
       have S3 : RowKit.Hid (∀ w1, Ext w w1 → Calls Tryz.prog 139 #[.pointer (some ⟨b, 0, none⟩), .string ⟨#[102, 97, 108, 115, 101]⟩] w1 fun e w' => e = .returned (.bool true) ∧ Ext w1 w') := Lib.hid fun w1 hx => by have := qbd (h.ext hx) ⟨#[102, 97, 108, 115, 101]⟩ zaq; rw [show isP L ⟨#[102, 97, 108, 115, 101]⟩ m = true from p3] at this; exact this
       have NX := Lib.hid (NX0 (isP_ne p3))
       have hts : (tk L m).1.s.toList = [102, 97, 108, 115, 101] := by have := p3; rw [isP_w (s := sFalse) wb_false] at this; simp only [Bool.and_eq_true, beq_iff_eq] at this; exact this.2.trans tl_false
       unfold puP at hr
       obtain ⟨⟨⟨k, ts, i⟩, a⟩, htt⟩ : ∃ tt, tk L m = tt := ⟨_, rfl⟩
       rw [htt] at t0 t1 t2 t3 q1 q2 q3 hts
       dsimp only at t0 t1 t2 t3 q1 q2 q3 hts
       have qt : (ts.toList == [116, 114, 117, 101]) = false := by rw [hts]; decide
       have HS0 := Lib.hid (h.cast (List.append_nil N).symm)
       have HK0 := Lib.hid (Kp.refl b nv w)
       have HM0 := Lib.hid (Nat.le_refl m)
       have HR0 := Lib.hid (qaz hr)
       have HS1 := Lib.hid (Rt.cast (HS0.out.setAt (m + 1) ((m : Int) + 1) zal NX.out) (show N ++ [] = N ++ ([] ++ []) by simp))
       have HK1 := Lib.hid (HK0.out.setB 1 (.int .i64 ((m : Int) + 1)))
       have HR1 := Lib.hid (qaf HR0.out (show skipP m _ = .ok ((), m + 1, []) from rfl))
       have HM1 := Lib.hid (Nat.le_succ m)
       clear p1 p2 p3 NX0 htt hts
       clear h hr he ho
       go_enter Tryz.func142, Tryz.ntmps142
       go_wp2_with fail
       refine qaa 11 71 [false, false, false, false, false, false, false, false, false, false, false] zam zam rfl ?_
       simp only [List.take_succ_cons, List.take_zero, List.drop_succ_cons, List.drop_zero]
       iterate 10 (refine Lex.step rfl ?_; intro K hK; unfold StepG; go_simp; refine hK _ ?_; clear hK K)
       refine Lex.alloc 5 (.cells #[.int .i64 0, .int .i64 0, .string ⟨#[]⟩, .int .i64 0] 97) rfl rfl (fun d os => ?_) ?_
       · unfold StepG
         go_simp
         exact ⟨(Ext.refl _).alloc _, NewBlk.of_alloc _ _ _ _ _ zcn⟩
       refine Lex.nil fun WW hE => ?_
       intro u hu
       obtain ⟨dt1, ot1, dt2, ot2, rfl, rfl⟩ := hu.split hE
       clear hu hE
       go_simp
       unfold FillH
       go_wp2_with fail
       rw [ends_normal]
       go_wp2_with (first
        | ((go_at_call 122; (with_reducible refine (qal _ _ _ _).mono ?_); rintro e _ ⟨rfl, d3, os3, rfl⟩))
        | ((go_at_call 139; (with_reducible refine (S1.out _ zac).mono ?_); rintro e _ ⟨rfl, d9, os9, rfl⟩))
        | ((go_at_call 139; (with_reducible refine (S2.out _ zac).mono ?_); rintro e _ ⟨rfl, d9, os9, rfl⟩))
        | ((go_at_call 139; (with_reducible refine (S3.out _ zac).mono ?_); rintro e _ ⟨rfl, d9, os9, rfl⟩)))
       go_at_call 125
       obtain ⟨r2, h2⟩ := qaC HR1.out
       refine (qaw (show Rt b lb lo cap nv L (m + 1) (N ++ ([] ++ [])) 0 0 _ from zao) _ _ _ _ _ _ _ _ r2 zcl).mono ?_
       have HH := Lib.hid h2; clear h2
       rcases r2 with ⟨e1, e2⟩ | ⟨v2, m2, ns2⟩
       · rintro e wE ⟨hc, ⟨v, rfl, yq, rfl⟩, nvE, mE, NE, hsE, hkE⟩
         have HC := Lib.hid hc
         have HSE := Lib.hid hsE
         have HKE := Lib.hid (Kp.trans (show Kp b nv nv w _ from zaf) hkE)
         clear hc hsE hkE
         go_wp2_with (first
          | ((go_at_call 125; (with_reducible refine (qad HC.out (show Rt b lb lo cap nvE L mE NE e1 e2 _ from zae) _ _ _ _ _ _ _ _).mono ?_); rintro e _ ⟨rfl, d6, os6, rfl⟩))
          | ((go_at_call 122; (with_reducible refine (qal _ _ _ _).mono ?_); rintro e _ ⟨rfl, d3, os3, rfl⟩)))
         go_ret
         have := qaO HR1.out HH.out
         subst this
         exact RPost.err HC.out ⟨_, rfl⟩ zae zak
       rintro e w2 ⟨he, nv2, hs, hk, hm⟩
       unfold intV at he
       subst he
       have HS2 := Lib.hid (hs.cast (List.append_assoc _ _ _))
       have HM2 := Lib.hid (Nat.le_trans HM1.out hm)
       have HK2 := Lib.hid (Kp.trans (show Kp b nv nv w _ from zaf) hk)
       clear hs hk hm
       go_wp2_with fail
       go_ret
       have := qaX HR1.out HH.out
       subst this
       exact RPost.res rfl HS2.out HK2.out HM2.out
   · rw [p2, if_pos rfl] at hr
     have S2 : RowKit.Hid (∀ w1, Ext w w1 → Calls Tryz.prog 139 #[.pointer (some ⟨b, 0, none⟩), .string ⟨#[116, 114, 117, 101]⟩] w1 fun e w' => e = .returned (.bool true) ∧ Ext w1 w') := Lib.hid fun w1 hx => by have := qbd (h.ext hx) ⟨#[116, 114, 117, 101]⟩ zaq; rw [show isP L ⟨#[116, 114, 117, 101]⟩ m = true from p2] at this; exact this
     have NX := Lib.hid (NX0 (isP_ne p2))
     have hts : (tk L m).1.s.toList = [116, 114, 117, 101] := by have := p2; rw [isP_w (s := sTrue) wb_true] at this; simp only [Bool.and_eq_true, beq_iff_eq] at this; exact this.2.trans tl_true
     unfold puP at hr
     obtain ⟨⟨⟨k, ts, i⟩, a⟩, htt⟩ : ∃ tt, tk L m = tt := ⟨_, rfl⟩
     rw [htt] at t0 t1 t2 t3 q1 q2 q3 hts
     dsimp only at t0 t1 t2 t3 q1 q2 q3 hts
     have qt : (ts.toList == [116, 114, 117, 101]) = true := by rw [hts]; decide
     have HS0 := Lib.hid (h.cast (List.append_nil N).symm)
     have HK0 := Lib.hid (Kp.refl b nv w)
     have HM0 := Lib.hid (Nat.le_refl m)
     have HR0 := Lib.hid (qaz hr)
     have HS1 := Lib.hid (Rt.cast (HS0.out.setAt (m + 1) ((m : Int) + 1) zal NX.out) (show N ++ [] = N ++ ([] ++ []) by simp))
     have HK1 := Lib.hid (HK0.out.setB 1 (.int .i64 ((m : Int) + 1)))
     have HR1 := Lib.hid (qaf HR0.out (show skipP m _ = .ok ((), m + 1, []) from rfl))
     have HM1 := Lib.hid (Nat.le_succ m)
     clear p1 p2 NX0 htt hts
     clear h hr he ho
     go_enter Tryz.func142, Tryz.ntmps142
     go_wp2_with fail
     refine qaa 11 71 [false, false, false, false, false, false, false, false, false, false, false] zam zam rfl ?_
     simp only [List.take_succ_cons, List.take_zero, List.drop_succ_cons, List.drop_zero]
     iterate 10 (refine Lex.step rfl ?_; intro K hK; unfold StepG; go_simp; refine hK _ ?_; clear hK K)
     refine Lex.alloc 5 (.cells #[.int .i64 0, .int .i64 0, .string ⟨#[]⟩, .int .i64 0] 97) rfl rfl (fun d os => ?_) ?_
     · unfold StepG
       go_simp
       exact ⟨(Ext.refl _).alloc _, NewBlk.of_alloc _ _ _ _ _ zcn⟩
     refine Lex.nil fun WW hE => ?_
     intro u hu
     obtain ⟨dt1, ot1, dt2, ot2, rfl, rfl⟩ := hu.split hE
     clear hu hE
     go_simp
     unfold FillH
     go_wp2_with fail
     rw [ends_normal]
     go_wp2_with (first
      | ((go_at_call 122; (with_reducible refine (qal _ _ _ _).mono ?_); rintro e _ ⟨rfl, d3, os3, rfl⟩))
      | ((go_at_call 139; (with_reducible refine (S1.out _ zac).mono ?_); rintro e _ ⟨rfl, d9, os9, rfl⟩))
      | ((go_at_call 139; (with_reducible refine (S2.out _ zac).mono ?_); rintro e _ ⟨rfl, d9, os9, rfl⟩)))
     go_at_call 125
     obtain ⟨r2, h2⟩ := qaC HR1.out
     refine (qaw (show Rt b lb lo cap nv L (m + 1) (N ++ ([] ++ [])) 0 0 _ from zao) _ _ _ _ _ _ _ _ r2 zcl).mono ?_
     have HH := Lib.hid h2; clear h2
     rcases r2 with ⟨e1, e2⟩ | ⟨v2, m2, ns2⟩
     · rintro e wE ⟨hc, ⟨v, rfl, yq, rfl⟩, nvE, mE, NE, hsE, hkE⟩
       have HC := Lib.hid hc
       have HSE := Lib.hid hsE
       have HKE := Lib.hid (Kp.trans (show Kp b nv nv w _ from zaf) hkE)
       clear hc hsE hkE
       go_wp2_with (first
        | ((go_at_call 125; (with_reducible refine (qad HC.out (show Rt b lb lo cap nvE L mE NE e1 e2 _ from zae) _ _ _ _ _ _ _ _).mono ?_); rintro e _ ⟨rfl, d6, os6, rfl⟩))
        | ((go_at_call 122; (with_reducible refine (qal _ _ _ _).mono ?_); rintro e _ ⟨rfl, d3, os3, rfl⟩)))
       go_ret
       have := qaO HR1.out HH.out
       subst this
       exact RPost.err HC.out ⟨_, rfl⟩ zae zak
     rintro e w2 ⟨he, nv2, hs, hk, hm⟩
     unfold intV at he
     subst he
     have HS2 := Lib.hid (hs.cast (List.append_assoc _ _ _))
     have HM2 := Lib.hid (Nat.le_trans HM1.out hm)
     have HK2 := Lib.hid (Kp.trans (show Kp b nv nv w _ from zaf) hk)
     clear hs hk hm
     go_wp2_with fail
     go_ret
     have := qaX HR1.out HH.out
     subst this
     exact RPost.res rfl HS2.out HK2.out HM2.out
 · rw [p1, if_pos rfl] at hr
   have S1 : RowKit.Hid (∀ w1, Ext w w1 → Calls Tryz.prog 139 #[.pointer (some ⟨b, 0, none⟩), .string ⟨#[110, 105, 108]⟩] w1 fun e w' => e = .returned (.bool true) ∧ Ext w1 w') := Lib.hid fun w1 hx => by have := qbd (h.ext hx) ⟨#[110, 105, 108]⟩ zaq; rw [show isP L ⟨#[110, 105, 108]⟩ m = true from p1] at this; exact this
   have NX := Lib.hid (NX0 (isP_ne p1))
   unfold puP at hr
   obtain ⟨⟨⟨k, ts, i⟩, a⟩, htt⟩ : ∃ tt, tk L m = tt := ⟨_, rfl⟩
   rw [htt] at t0 t1 t2 t3 q1 q2 q3
   dsimp only at t0 t1 t2 t3 q1 q2 q3
   have HS0 := Lib.hid (h.cast (List.append_nil N).symm)
   have HK0 := Lib.hid (Kp.refl b nv w)
   have HM0 := Lib.hid (Nat.le_refl m)
   have HR0 := Lib.hid (qaz hr)
   have HS1 := Lib.hid (Rt.cast (HS0.out.setAt (m + 1) ((m : Int) + 1) zal NX.out) (show N ++ [] = N ++ ([] ++ []) by simp))
   have HK1 := Lib.hid (HK0.out.setB 1 (.int .i64 ((m : Int) + 1)))
   have HR1 := Lib.hid (qaf HR0.out (show skipP m _ = .ok ((), m + 1, []) from rfl))
   have HM1 := Lib.hid (Nat.le_succ m)
   clear p1 NX0 htt
   clear h hr he ho
   go_enter Tryz.func142, Tryz.ntmps142
   go_wp2_with fail
   refine qaa 11 71 [false, false, false, false, false, false, false, false, false, false, false] zam zam rfl ?_
   simp only [List.take_succ_cons, List.take_zero, List.drop_succ_cons, List.drop_zero]
   iterate 10 (refine Lex.step rfl ?_; intro K hK; unfold StepG; go_simp; refine hK _ ?_; clear hK K)
   refine Lex.alloc 5 (.cells #[.int .i64 0, .int .i64 0, .string ⟨#[]⟩, .int .i64 0] 97) rfl rfl (fun d os => ?_) ?_
   · unfold StepG
     go_simp
     exact ⟨(Ext.refl _).alloc _, NewBlk.of_alloc _ _ _ _ _ zcn⟩
   refine Lex.nil fun WW hE => ?_
   intro u hu
   obtain ⟨dt1, ot1, dt2, ot2, rfl, rfl⟩ := hu.split hE
   clear hu hE
   go_simp
   unfold FillH
   go_wp2_with fail
   rw [ends_normal]
   go_wp2_with (first
    | ((go_at_call 122; (with_reducible refine (qal _ _ _ _).mono ?_); rintro e _ ⟨rfl, d3, os3, rfl⟩))
    | ((go_at_call 139; (with_reducible refine (S1.out _ zac).mono ?_); rintro e _ ⟨rfl, d9, os9, rfl⟩)))
   go_at_call 125
   obtain ⟨r2, h2⟩ := qaC HR1.out
   refine (qaw (show Rt b lb lo cap nv L (m + 1) (N ++ ([] ++ [])) 0 0 _ from zao) _ _ _ _ _ _ _ _ r2 zcl).mono ?_
   have HH := Lib.hid h2; clear h2
   rcases r2 with ⟨e1, e2⟩ | ⟨v2, m2, ns2⟩
   · rintro e wE ⟨hc, ⟨v, rfl, yq, rfl⟩, nvE, mE, NE, hsE, hkE⟩
     have HC := Lib.hid hc
     have HSE := Lib.hid hsE
     have HKE := Lib.hid (Kp.trans (show Kp b nv nv w _ from zaf) hkE)
     clear hc hsE hkE
     go_wp2_with fail
     go_ret
     have := qaO HR1.out HH.out
     subst this
     exact RPost.err HC.out ⟨_, rfl⟩ zae zak
   rintro e w2 ⟨he, nv2, hs, hk, hm⟩
   unfold intV at he
   subst he
   have HS2 := Lib.hid (hs.cast (List.append_assoc _ _ _))
   have HM2 := Lib.hid (Nat.le_trans HM1.out hm)
   have HK2 := Lib.hid (Kp.trans (show Kp b nv nv w _ from zaf) hk)
   clear hs hk hm
   go_wp2_with fail
   go_ret
   have := qaX HR1.out HH.out
   subst this
   exact RPost.res rfl HS2.out HK2.out HM2.out
end Go.Proofs.YtijmfpoanggjjaaGreatDoor

namespace Go.Proofs.YtijmfpoanggjjaaGreatDoor
open Go.RowKit
attribute [go_sem] more_more Array.size_append
theorem RDp.cast {b lb lo cap : Nat} {L : Toks} {F : FuncId} {z z' : Int} {p : PM Int} (h : RDp b lb lo cap L F z p) (e : z = z') : RDp b lb lo cap L F z' p := e ▸ h
theorem qdS (b lb lo cap : Nat) (L : Toks) : ∀ D d : Nat, d + D = 17 → RDp b lb lo cap L 124 (d : Int) (exprD L D).1 ∧ (d ≤ 16 → RDp b lb lo cap L 142 (d : Int) (exprD L D).2)
 | 0, d, hd => by
  have e : d = 17 := by omega
  subst e
  exact ⟨rexpr_deep, fun h => by omega⟩
 | D + 1, d, hd => by
  obtain ⟨h1, h2⟩ := qdS b lb lo cap L D (d + 1) zal
  have ec : ((d + 1 : Nat) : Int) = (d : Int) + 1 := by omega
  have ed : 16 - D = d := by omega
  have ho : RDp b lb lo cap L 142 (d : Int) (oneP L d (exprD L D).1 (exprD L D).2) := fun nv m N w hs r hr =>
   rone_any hs d zal _ _ (h1.cast ec) (fun h => (h2 zal).cast ec) r hr
  have e2 : exprD L (D + 1) = (orP L (oneP L (16 - D) (exprD L D).1 (exprD L D).2), oneP L (16 - D) (exprD L D).1 (exprD L D).2) := rfl
  rw [e2, ed]
  exact ⟨rexpr_any d zal _ ho, fun _ => ho⟩
set_option maxHeartbeats 2000000 in
theorem qdy {b lb lo cap : Nat} {nv : Value} {L : Toks} {m : Nat} {N : List Nd} {w : World} {wh : Int} {ee : Int} (hee : ee ≠ 0) (h : Rt b lb lo cap nv L m N ee wh w) (d : Int) :
  Calls Tryz.prog 83 #[.pointer (some ⟨b, 0, none⟩), .int .i64 d] w fun e w' => e = .returned (.int .i64 (-1)) ∧ Ext w w' := by
 have FL : RowKit.Hid (∀ (c : Int) w1, Ext w w1 → Calls Tryz.prog 84 #[.pointer (some ⟨b, 0, none⟩), .int .i64 c] w1 fun e w' => e = .returned (.tuple #[]) ∧ Ext w1 w') := Lib.hid fun c w1 hx => qbw hee (h.ext hx) c
 obtain ⟨c0, c1, c2, c3, c4, f1, f2, f3, f4, hb⟩ := h.facts
 have q : (ee == 0) = false := by simpa using hee
 have q2 : (ee != 0) = true := by simpa using hee
 clear h hee c0 c1 c2 c4 f1 f2 f3 f4
 by_cases hd : 16 < d
 · 
   go_enter Tryz.func83, Tryz.ntmps83
   go_wp2_with ((go_at_call 84; (with_reducible refine (FL.out _ _ zac).mono ?_); rintro e _ ⟨rfl, d2, os2, rfl⟩))
   go_loopg [5] (0) (fun g x wr => x = .slice none 0 0 ∧ Ext w wr)
   case atStart => exact ⟨rfl, zac⟩
   case round =>
    obtain ⟨rfl, dw, ow, rfl⟩ := hrel
    go_wp2_with fail
    go_ret
    exact ⟨rfl, zac⟩
 · have hd2 : d ≤ 16 := by omega
   clear hd
   go_enter Tryz.func83, Tryz.ntmps83
   go_wp2_with fail
   go_loopg [5] (0) (fun g x wr => x = .slice none 0 0 ∧ Ext w wr)
   case atStart => exact ⟨rfl, zac⟩
   case round =>
    obtain ⟨rfl, dw, ow, rfl⟩ := hrel
    go_wp2_with fail
    go_ret
    exact ⟨rfl, zac⟩
set_option maxHeartbeats 2000000 in
theorem braces_deadw {b lb lo cap : Nat} {nv : Value} {L : Toks} {m : Nat} {N : List Nd} {w : World} {wh : Int} {ee : Int} (hee : ee ≠ 0) (h : Rt b lb lo cap nv L m N ee wh w) (d : Int) :
  Calls Tryz.prog 126 #[.pointer (some ⟨b, 0, none⟩), .int .i64 d] w fun e w' => e = .returned (.int .i64 (-1)) ∧ Ext w w' := by
 have ND : RowKit.Hid (∀ (s : ByteArray) w1, (s.size : Int) ≤ 100 → Ext w w1 → Calls Tryz.prog 123 #[.pointer (some ⟨b, 0, none⟩), .string s] w1 fun e w' => e = .returned (.tuple #[]) ∧ Ext w1 w') := Lib.hid fun s w1 hs hx => qam hee (h.ext hx) s hs
 have BD : RowKit.Hid (∀ w1, Ext w w1 → Calls Tryz.prog 83 #[.pointer (some ⟨b, 0, none⟩), .int .i64 d] w1 fun e w' => e = .returned (.int .i64 (-1)) ∧ Ext w1 w') := Lib.hid fun w1 hx => qdy hee (h.ext hx) d
 clear h hee
 go_enter Tryz.func126, Tryz.ntmps126
 go_wp2_with (first
  | ((go_at_call 123; (with_reducible refine (ND.out _ _ zaq zac).mono ?_); rintro e _ ⟨rfl, d2, os2, rfl⟩))
  | ((go_at_call 83; (with_reducible refine (BD.out _ zac).mono ?_); rintro e _ ⟨rfl, d3, os3, rfl⟩)))
 go_ret
 exact ⟨rfl, zac⟩
set_option maxHeartbeats 2000000 in
theorem qcg {b lb lo cap : Nat} {nv : Value} {L : Toks} {m : Nat} {N : List Nd} {w : World} (h : Rt b lb lo cap nv L m N 0 0 w) (z : Int) (bl : PM Int) (hb : RDp b lb lo cap L 83 z bl) (r : PR Int) (hr : qbF L bl m N.length = r) :
  Calls Tryz.prog 126 #[.pointer (some ⟨b, 0, none⟩), .int .i64 z] w (RPost intV isInt b lb lo cap nv L m N w r) := by
 have HB := Lib.hid hb
 have HS0 := Lib.hid (h.cast (List.append_nil N).symm)
 have HK0 := Lib.hid (Kp.refl b nv w)
 have HM0 := Lib.hid (Nat.le_refl m)
 have HR0 := Lib.hid (qaz hr)
 unfold qbF at HR0
 rw [qbg, qbg] at HR0
 clear h hb hr
 go_enter Tryz.func126, Tryz.ntmps126
 go_wp2_with fail
 go_at_call 123
 obtain ⟨r1, h1⟩ := qaj HR0.out
 refine (qao (show Rt b lb lo cap nv L m (N ++ []) 0 0 _ from zbs) _ zaq r1 (by rw [List.length_append]; exact h1)).mono ?_
 have HH := Lib.hid h1; clear h1
 rcases r1 with ⟨e1, e2⟩ | ⟨v1, m1, ns1⟩
 · rintro e wE ⟨hc, ⟨v, rfl, rfl⟩, nvE, mE, NE, hsE, hkE⟩
   have HC := Lib.hid hc
   have HSE := Lib.hid hsE
   have HKE := Lib.hid (Kp.trans (show Kp b nv nv w _ from zbe) hkE)
   clear hc hsE hkE
   go_wp2_with (first
    | ((go_at_call 123; (with_reducible refine (qam HC.out (show Rt b lb lo cap nvE L mE NE e1 e2 _ from zae) _ zaq).mono ?_); rintro e _ ⟨rfl, d7, os7, rfl⟩))
    | ((go_at_call 83; (with_reducible refine (qdy HC.out (show Rt b lb lo cap nvE L mE NE e1 e2 _ from zae) _).mono ?_); rintro e _ ⟨rfl, d5, os5, rfl⟩)))
   go_ret
   have := qak HR0.out HH.out
   subst this
   exact RPost.err HC.out ⟨_, rfl⟩ zae zak
 rintro e w1 ⟨he, nv1, hs, hk, hm⟩
 unfold unitV at he
 subst he
 have HR1 := Lib.hid (qaf HR0.out HH.out)
 have HS1 := Lib.hid (hs.cast (List.append_assoc _ _ _))
 have HM1 := Lib.hid (Nat.le_trans HM0.out hm)
 have HK1 := Lib.hid (Kp.trans (show Kp b nv nv w _ from zbe) hk)
 clear hs hk hm
 go_wp2_with fail
 go_at_call 83
 obtain ⟨r2, h2⟩ := qaj HR1.out
 refine (HB.out _ _ _ _ (show Rt b lb lo cap nv1 L m1 (N ++ ([] ++ ns1)) 0 0 _ from zao) r2 zcl).mono ?_
 have HH := Lib.hid h2; clear h2
 rcases r2 with ⟨e1, e2⟩ | ⟨v2, m2, ns2⟩
 · rintro e wE ⟨hc, ⟨v, rfl, yq, rfl⟩, nvE, mE, NE, hsE, hkE⟩
   have HC := Lib.hid hc
   have HSE := Lib.hid hsE
   have HKE := Lib.hid (Kp.trans (show Kp b nv nv1 w _ from zaf) hkE)
   clear hc hsE hkE
   go_wp2_with ((go_at_call 123; (with_reducible refine (qam HC.out (show Rt b lb lo cap nvE L mE NE e1 e2 _ from zae) _ zaq).mono ?_); rintro e _ ⟨rfl, d7, os7, rfl⟩))
   go_ret
   have := qak HR1.out HH.out
   subst this
   exact RPost.err HC.out ⟨_, rfl⟩ zae zak
 rintro e w2 ⟨he, nv2, hs, hk, hm⟩
 unfold intV at he
 subst he
 have HR2 := Lib.hid (qaf HR1.out HH.out)
 have HS2 := Lib.hid (hs.cast (List.append_assoc _ _ _))
 have HM2 := Lib.hid (Nat.le_trans HM1.out hm)
 have HK2 := Lib.hid (Kp.trans (show Kp b nv nv1 w _ from zaf) hk)
 clear hs hk hm
 go_wp2_with fail
 go_at_call 123
 obtain ⟨r3, h3⟩ := qaj HR2.out
 refine (qao (show Rt b lb lo cap nv2 L m2 (N ++ (([] ++ ns1) ++ ns2)) 0 0 _ from zaw) _ zaq r3 zda).mono ?_
 have HH := Lib.hid h3; clear h3
 rcases r3 with ⟨e1, e2⟩ | ⟨v3, m3, ns3⟩
 · rintro e wE ⟨hc, ⟨v, rfl, rfl⟩, nvE, mE, NE, hsE, hkE⟩
   have HC := Lib.hid hc
   have HSE := Lib.hid hsE
   have HKE := Lib.hid (Kp.trans (show Kp b nv nv2 w _ from zaj) hkE)
   clear hc hsE hkE
   go_wp2_with fail
   go_ret
   have := qak HR2.out HH.out
   subst this
   exact RPost.err HC.out ⟨_, rfl⟩ zae zak
 rintro e w3 ⟨he, nv3, hs, hk, hm⟩
 unfold unitV at he
 subst he
 have HR3 := Lib.hid (qaf HR2.out HH.out)
 have HS3 := Lib.hid (hs.cast (List.append_assoc _ _ _))
 have HM3 := Lib.hid (Nat.le_trans HM2.out hm)
 have HK3 := Lib.hid (Kp.trans (show Kp b nv nv2 w _ from zaj) hk)
 clear hs hk hm
 go_wp2_with fail
 go_ret
 have := HR3.out
 subst this
 exact RPost.res rfl (HS3.out.cast (by simp [pok, prep])) HK3.out HM3.out
end Go.Proofs.YtijmfpoanggjjaaGreatDoor
