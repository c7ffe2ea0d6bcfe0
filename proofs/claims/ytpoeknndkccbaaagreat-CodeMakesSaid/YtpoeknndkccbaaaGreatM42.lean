/- Lemmas for the claim (texts Par7, what its proof uses of them). -/
import Derived.Test.YtpoeknndkccbaaaGreatM40
import Derived.Test.YtpoeknndkccbaaaGreatM41
set_option linter.unusedSimpArgs false
set_option linter.unusedVariables false
set_option maxHeartbeats 4000000
set_option maxRecDepth 20000
namespace Go.Proofs.YtpoeknndkccbaaaGreat
open Go.RowKit
variable {b cap g lb lo m m1 n : Nat} {nv : Value} {L : Toks} {N acc ns : List Nd} {w : World} {st : PM Int} {fi la : Int}
attribute [go_sem] more_more Array.size_append
theorem stmt_any (h : St b lb lo cap nv L m N w) (d : Nat) (hd : d ≤ 16) (ex bk : PM Int) (he : Dp b lb lo cap L 134 (d : Int) ex) (hb : Dp b lb lo cap L 49 ((d : Int) + 1) bk) (r : PR Int) (hr : stmtP L ex (qce L bk) m N.length = r) :
  Calls Tryz.prog 77 #[.pointer (some ⟨b, 0, none⟩), .int .i64 (d : Int)] w (PPost intV b lb lo cap nv L m N w r) := by
 have hm : (m : Int) ≤ 5000 := by have := h.ends.few; have := h.pos; omega
 have hm0 : 0 ≤ (m : Int) := by omega
 have hd0 : 0 ≤ (d : Int) := by omega
 have hd1 : (d : Int) ≤ 16 := by omega
 have NX0 : (tk L m).1.k ≠ 0 → m + 1 < L.length := h.next
 unfold stmtP sIs pok at hr
 obtain ⟨⟨⟨k, ts, i⟩, a⟩, htt⟩ : ∃ tt, tk L m = tt := ⟨_, rfl⟩
 have TK : RowKit.Hid (∀ w1, Ext w w1 → Calls Tryz.prog 78 #[.pointer (some ⟨b, 0, none⟩)] w1 fun e w' => e = .returned (.agg #[.int .i64 k, .int .i64 a, .string ts, .int .i64 i]) ∧ Ext w1 w') := Lib.hid fun w1 hx => by have := qbg (h.ext hx); rw [htt] at this; exact this
 rw [htt] at hr NX0
 dsimp only at hr NX0
 have HTT := Lib.hid htt
 clear htt
 by_cases e5 : k = 5
 · subst e5
   have NX := Lib.hid (NX0 zax)
   rw [if_neg zay] at hr
   clear NX0
   cases q_let : (ts.toList == [108, 101, 116])
   rotate_left
   · rw [q_let, if_pos rfl] at hr
     have HSW : RowKit.Hid (ts.toList = [108, 101, 116]) := Lib.hid (by simpa using q_let)
     refine yaj ?_; intro HS0
     have HK0 := Lib.hid (Kp.refl b nv w)
     have HM0 := Lib.hid (Nat.le_refl m)
     have HE := Lib.hid he
     have HB := Lib.hid hb
     have HR0 := Lib.hid (qao hr)
     clear h hr he hb
     go_enter Tryz.func77, Tryz.ntmps77
     go_wp2_with (((with_reducible refine (TK.out _ zac).mono ?_); rintro e _ ⟨rfl, d2, os2, rfl⟩))
     go_at_call 108
     obtain ⟨r9, h9⟩ := qar HR0.out
     refine (names_let (show St b lb lo cap nv L m (N ++ []) _ from zap) (by rw [HTT.out]) (by rw [HTT.out]; exact HSW.out) _ _ HE.out r9 zbo).mono ?_
     have HH := Lib.hid h9; clear h9
     rcases r9 with ⟨e1, e2⟩ | ⟨v9, m9, ns9⟩
     · rintro e w9 ⟨he, nv9, hk⟩
       have HKE := Lib.hid (Kp.trans (show Kp b nv nv w _ from zai) hk)
       clear hk
       unfold noV at he
       subst he
       go_wp2_with fail
       have := qax HR0.out HH.out
       subst this
       exact ⟨rfl, PPost.err rfl HKE.out⟩
     rintro e w9 ⟨he, nv9, hs, hk, hm⟩
     unfold intV at he
     subst he
     refine yai ?_; intro HS9
     have HM9 := Lib.hid (Nat.le_trans HM0.out hm)
     have HK9 := Lib.hid (Kp.trans (show Kp b nv nv w _ from zai) hk)
     clear hs hk hm
     go_wp2_with fail
     go_ret
     have := qaK HR0.out HH.out
     subst this
     exact yar
   rw [q_let, if_neg zay] at hr
   cases q_set : (ts.toList == [115, 101, 116])
   rotate_left
   · rw [q_set, if_pos rfl] at hr
     have HSW : RowKit.Hid (ts.toList = [115, 101, 116]) := Lib.hid (by simpa using q_set)
     refine yaj ?_; intro HS0
     have HK0 := Lib.hid (Kp.refl b nv w)
     have HM0 := Lib.hid (Nat.le_refl m)
     have HE := Lib.hid he
     have HB := Lib.hid hb
     have HR0 := Lib.hid (qao hr)
     clear h hr he hb
     go_enter Tryz.func77, Tryz.ntmps77
     go_wp2_with (((with_reducible refine (TK.out _ zac).mono ?_); rintro e _ ⟨rfl, d2, os2, rfl⟩))
     go_at_call 108
     obtain ⟨r9, h9⟩ := qar HR0.out
     refine (names_set (show St b lb lo cap nv L m (N ++ []) _ from zap) (by rw [HTT.out]) (by rw [HTT.out]; exact HSW.out) _ _ HE.out r9 zbo).mono ?_
     have HH := Lib.hid h9; clear h9
     rcases r9 with ⟨e1, e2⟩ | ⟨v9, m9, ns9⟩
     · rintro e w9 ⟨he, nv9, hk⟩
       have HKE := Lib.hid (Kp.trans (show Kp b nv nv w _ from zai) hk)
       clear hk
       unfold noV at he
       subst he
       go_wp2_with fail
       have := qax HR0.out HH.out
       subst this
       exact ⟨rfl, PPost.err rfl HKE.out⟩
     rintro e w9 ⟨he, nv9, hs, hk, hm⟩
     unfold intV at he
     subst he
     refine yai ?_; intro HS9
     have HM9 := Lib.hid (Nat.le_trans HM0.out hm)
     have HK9 := Lib.hid (Kp.trans (show Kp b nv nv w _ from zai) hk)
     clear hs hk hm
     go_wp2_with fail
     go_ret
     have := qaK HR0.out HH.out
     subst this
     exact yar
   rw [q_set, if_neg zay] at hr
   cases q_put : (ts.toList == [112, 117, 116])
   rotate_left
   · rw [q_put, if_pos rfl] at hr
     have HSW : RowKit.Hid (ts.toList = [112, 117, 116]) := Lib.hid (by simpa using q_put)
     refine yaj ?_; intro HS0
     have HK0 := Lib.hid (Kp.refl b nv w)
     have HM0 := Lib.hid (Nat.le_refl m)
     have HE := Lib.hid he
     have HB := Lib.hid hb
     have HR0 := Lib.hid (qao hr)
     clear h hr he hb
     go_enter Tryz.func77, Tryz.ntmps77
     go_wp2_with (((with_reducible refine (TK.out _ zac).mono ?_); rintro e _ ⟨rfl, d2, os2, rfl⟩))
     go_at_call 109
     obtain ⟨r9, h9⟩ := qar HR0.out
     refine (simple_put (show St b lb lo cap nv L m (N ++ []) _ from zap) (by rw [HTT.out]) (by rw [HTT.out]; exact HSW.out) _ _ HE.out r9 zbo).mono ?_
     have HH := Lib.hid h9; clear h9
     rcases r9 with ⟨e1, e2⟩ | ⟨v9, m9, ns9⟩
     · rintro e w9 ⟨he, nv9, hk⟩
       have HKE := Lib.hid (Kp.trans (show Kp b nv nv w _ from zai) hk)
       clear hk
       unfold noV at he
       subst he
       go_wp2_with fail
       have := qax HR0.out HH.out
       subst this
       exact ⟨rfl, PPost.err rfl HKE.out⟩
     rintro e w9 ⟨he, nv9, hs, hk, hm⟩
     unfold intV at he
     subst he
     refine yai ?_; intro HS9
     have HM9 := Lib.hid (Nat.le_trans HM0.out hm)
     have HK9 := Lib.hid (Kp.trans (show Kp b nv nv w _ from zai) hk)
     clear hs hk hm
     go_wp2_with fail
     go_ret
     have := qaK HR0.out HH.out
     subst this
     exact yar
   rw [q_put, if_neg zay] at hr
   cases q_delete : (ts.toList == [100, 101, 108, 101, 116, 101])
   rotate_left
   · rw [q_delete, if_pos rfl] at hr
     have HSW : RowKit.Hid (ts.toList = [100, 101, 108, 101, 116, 101]) := Lib.hid (by simpa using q_delete)
     refine yaj ?_; intro HS0
     have HK0 := Lib.hid (Kp.refl b nv w)
     have HM0 := Lib.hid (Nat.le_refl m)
     have HE := Lib.hid he
     have HB := Lib.hid hb
     have HR0 := Lib.hid (qao hr)
     clear h hr he hb
     go_enter Tryz.func77, Tryz.ntmps77
     go_wp2_with (((with_reducible refine (TK.out _ zac).mono ?_); rintro e _ ⟨rfl, d2, os2, rfl⟩))
     go_at_call 109
     obtain ⟨r9, h9⟩ := qar HR0.out
     refine (qed (show St b lb lo cap nv L m (N ++ []) _ from zap) (by rw [HTT.out]) (by rw [HTT.out]; exact HSW.out) _ _ HE.out r9 zbo).mono ?_
     have HH := Lib.hid h9; clear h9
     rcases r9 with ⟨e1, e2⟩ | ⟨v9, m9, ns9⟩
     · rintro e w9 ⟨he, nv9, hk⟩
       have HKE := Lib.hid (Kp.trans (show Kp b nv nv w _ from zai) hk)
       clear hk
       unfold noV at he
       subst he
       go_wp2_with fail
       have := qax HR0.out HH.out
       subst this
       exact ⟨rfl, PPost.err rfl HKE.out⟩
     rintro e w9 ⟨he, nv9, hs, hk, hm⟩
     unfold intV at he
     subst he
     refine yai ?_; intro HS9
     have HM9 := Lib.hid (Nat.le_trans HM0.out hm)
     have HK9 := Lib.hid (Kp.trans (show Kp b nv nv w _ from zai) hk)
     clear hs hk hm
     go_wp2_with fail
     go_ret
     have := qaK HR0.out HH.out
     subst this
     exact yar
   rw [q_delete, if_neg zay] at hr
   cases q_abort : (ts.toList == [97, 98, 111, 114, 116])
   rotate_left
   · rw [q_abort, if_pos rfl] at hr
     have HSW : RowKit.Hid (ts.toList = [97, 98, 111, 114, 116]) := Lib.hid (by simpa using q_abort)
     refine yaj ?_; intro HS0
     have HK0 := Lib.hid (Kp.refl b nv w)
     have HM0 := Lib.hid (Nat.le_refl m)
     have HE := Lib.hid he
     have HB := Lib.hid hb
     have HR0 := Lib.hid (qao hr)
     clear h hr he hb
     go_enter Tryz.func77, Tryz.ntmps77
     go_wp2_with (((with_reducible refine (TK.out _ zac).mono ?_); rintro e _ ⟨rfl, d2, os2, rfl⟩))
     go_at_call 109
     obtain ⟨r9, h9⟩ := qar HR0.out
     refine (simple_abort (show St b lb lo cap nv L m (N ++ []) _ from zap) (by rw [HTT.out]) (by rw [HTT.out]; exact HSW.out) _ _ HE.out r9 zbo).mono ?_
     have HH := Lib.hid h9; clear h9
     rcases r9 with ⟨e1, e2⟩ | ⟨v9, m9, ns9⟩
     · rintro e w9 ⟨he, nv9, hk⟩
       have HKE := Lib.hid (Kp.trans (show Kp b nv nv w _ from zai) hk)
       clear hk
       unfold noV at he
       subst he
       go_wp2_with fail
       have := qax HR0.out HH.out
       subst this
       exact ⟨rfl, PPost.err rfl HKE.out⟩
     rintro e w9 ⟨he, nv9, hs, hk, hm⟩
     unfold intV at he
     subst he
     refine yai ?_; intro HS9
     have HM9 := Lib.hid (Nat.le_trans HM0.out hm)
     have HK9 := Lib.hid (Kp.trans (show Kp b nv nv w _ from zai) hk)
     clear hs hk hm
     go_wp2_with fail
     go_ret
     have := qaK HR0.out HH.out
     subst this
     exact yar
   rw [q_abort, if_neg zay] at hr
   cases q_return : (ts.toList == [114, 101, 116, 117, 114, 110])
   rotate_left
   · rw [q_return, if_pos rfl] at hr
     have HSW : RowKit.Hid (ts.toList = [114, 101, 116, 117, 114, 110]) := Lib.hid (by simpa using q_return)
     refine yaj ?_; intro HS0
     have HK0 := Lib.hid (Kp.refl b nv w)
     have HM0 := Lib.hid (Nat.le_refl m)
     have HE := Lib.hid he
     have HB := Lib.hid hb
     have HR0 := Lib.hid (qao hr)
     clear h hr he hb
     go_enter Tryz.func77, Tryz.ntmps77
     go_wp2_with (((with_reducible refine (TK.out _ zac).mono ?_); rintro e _ ⟨rfl, d2, os2, rfl⟩))
     go_at_call 109
     obtain ⟨r9, h9⟩ := qar HR0.out
     refine (qeb (show St b lb lo cap nv L m (N ++ []) _ from zap) (by rw [HTT.out]) (by rw [HTT.out]; exact HSW.out) _ _ HE.out r9 zbo).mono ?_
     have HH := Lib.hid h9; clear h9
     rcases r9 with ⟨e1, e2⟩ | ⟨v9, m9, ns9⟩
     · rintro e w9 ⟨he, nv9, hk⟩
       have HKE := Lib.hid (Kp.trans (show Kp b nv nv w _ from zai) hk)
       clear hk
       unfold noV at he
       subst he
       go_wp2_with fail
       have := qax HR0.out HH.out
       subst this
       exact ⟨rfl, PPost.err rfl HKE.out⟩
     rintro e w9 ⟨he, nv9, hs, hk, hm⟩
     unfold intV at he
     subst he
     refine yai ?_; intro HS9
     have HM9 := Lib.hid (Nat.le_trans HM0.out hm)
     have HK9 := Lib.hid (Kp.trans (show Kp b nv nv w _ from zai) hk)
     clear hs hk hm
     go_wp2_with fail
     go_ret
     have := qaK HR0.out HH.out
     subst this
     exact yar
   rw [q_return, if_neg zay] at hr
   cases q_if : (ts.toList == [105, 102])
   rotate_left
   · rw [q_if, if_pos rfl] at hr
     have HSW : RowKit.Hid (ts.toList = [105, 102]) := Lib.hid (by simpa using q_if)
     refine yaj ?_; intro HS0
     have HK0 := Lib.hid (Kp.refl b nv w)
     have HM0 := Lib.hid (Nat.le_refl m)
     have HE := Lib.hid he
     have HB := Lib.hid hb
     have HR0 := Lib.hid (qao hr)
     clear h hr he hb
     go_enter Tryz.func77, Tryz.ntmps77
     go_wp2_with (((with_reducible refine (TK.out _ zac).mono ?_); rintro e _ ⟨rfl, d2, os2, rfl⟩))
     go_at_call 110
     obtain ⟨r9, h9⟩ := qar HR0.out
     refine (when_any (show St b lb lo cap nv L m (N ++ []) _ from zap) (by rw [HTT.out]) (by rw [HTT.out]; exact HSW.out) d hd _ _ HE.out HB.out r9 zbo).mono ?_
     have HH := Lib.hid h9; clear h9
     rcases r9 with ⟨e1, e2⟩ | ⟨v9, m9, ns9⟩
     · rintro e w9 ⟨he, nv9, hk⟩
       have HKE := Lib.hid (Kp.trans (show Kp b nv nv w _ from zai) hk)
       clear hk
       unfold noV at he
       subst he
       go_wp2_with fail
       have := qax HR0.out HH.out
       subst this
       exact ⟨rfl, PPost.err rfl HKE.out⟩
     rintro e w9 ⟨he, nv9, hs, hk, hm⟩
     unfold intV at he
     subst he
     refine yai ?_; intro HS9
     have HM9 := Lib.hid (Nat.le_trans HM0.out hm)
     have HK9 := Lib.hid (Kp.trans (show Kp b nv nv w _ from zai) hk)
     clear hs hk hm
     go_wp2_with fail
     go_ret
     have := qaK HR0.out HH.out
     subst this
     exact yar
   rw [q_if, if_neg zay] at hr
   cases q_for : (ts.toList == [102, 111, 114])
   rotate_left
   · rw [q_for, if_pos rfl] at hr
     have HSW : RowKit.Hid (ts.toList = [102, 111, 114]) := Lib.hid (by simpa using q_for)
     refine yaj ?_; intro HS0
     have HK0 := Lib.hid (Kp.refl b nv w)
     have HM0 := Lib.hid (Nat.le_refl m)
     have HE := Lib.hid he
     have HB := Lib.hid hb
     have HR0 := Lib.hid (qao hr)
     clear h hr he hb
     go_enter Tryz.func77, Tryz.ntmps77
     go_wp2_with (((with_reducible refine (TK.out _ zac).mono ?_); rintro e _ ⟨rfl, d2, os2, rfl⟩))
     go_at_call 111
     obtain ⟨r9, h9⟩ := qar HR0.out
     refine (each_any (show St b lb lo cap nv L m (N ++ []) _ from zap) (by rw [HTT.out]) (by rw [HTT.out]; exact HSW.out) d hd _ _ HE.out HB.out r9 zbo).mono ?_
     have HH := Lib.hid h9; clear h9
     rcases r9 with ⟨e1, e2⟩ | ⟨v9, m9, ns9⟩
     · rintro e w9 ⟨he, nv9, hk⟩
       have HKE := Lib.hid (Kp.trans (show Kp b nv nv w _ from zai) hk)
       clear hk
       unfold noV at he
       subst he
       go_wp2_with fail
       have := qax HR0.out HH.out
       subst this
       exact ⟨rfl, PPost.err rfl HKE.out⟩
     rintro e w9 ⟨he, nv9, hs, hk, hm⟩
     unfold intV at he
     subst he
     refine yai ?_; intro HS9
     have HM9 := Lib.hid (Nat.le_trans HM0.out hm)
     have HK9 := Lib.hid (Kp.trans (show Kp b nv nv w _ from zai) hk)
     clear hs hk hm
     go_wp2_with fail
     go_ret
     have := qaK HR0.out HH.out
     subst this
     exact yar
   rw [q_for, if_neg zay] at hr
   cases q_repeat : (ts.toList == [114, 101, 112, 101, 97, 116])
   rotate_left
   · rw [q_repeat, if_pos rfl] at hr
     have HSW : RowKit.Hid (ts.toList = [114, 101, 112, 101, 97, 116]) := Lib.hid (by simpa using q_repeat)
     refine yaj ?_; intro HS0
     have HK0 := Lib.hid (Kp.refl b nv w)
     have HM0 := Lib.hid (Nat.le_refl m)
     have HE := Lib.hid he
     have HB := Lib.hid hb
     have HR0 := Lib.hid (qao hr)
     unfold repeatP at HR0
     clear h hr he hb
     obtain ⟨c0, c1, c2, c3, f1, f2, f3, hb⟩ := HS0.out.facts
     clear c0 c2 c3 f2 f3
     (have HS1 := Lib.hid (St.cast (HS0.out.setAt (m + 1) ((m : Int) + 1) zaf NX.out) (show N ++ [] = N ++ ([] ++ []) by simp)))
     refine ybw ?_; intro HK1
     refine yck ?_; intro HM1
     refine yam ?_; intro HR1
     go_enter Tryz.func77, Tryz.ntmps77
     go_wp2_with (first
      | (((with_reducible refine (TK.out _ zac).mono ?_); rintro e _ ⟨rfl, d2, os2, rfl⟩))
      | (((with_reducible refine (qaD _ _).mono ?_); rintro e _ ⟨rfl, d3, os3, rfl⟩)))
     go_at_call 113
     obtain ⟨r2, h2⟩ := qal HR1.out
     have LCN := Lib.hid (St.loc (w := more ((more (w.setCell ⟨b, 1, none⟩ (.int .i64 ((m : Int) + 1))) d2 os2).alloc (.cells #[.int .i64 5, .int .i64 a, .string ts, .int .i64 i] 100 (0, 0))) d3 os3) (lb := lb) (lo := lo) (cap := cap) (L := L) (nv := nv) (show St b lb lo cap nv L (m + 1) (N ++ ([] ++ [])) _ from zan) (.cells #[.int .i64 26, .int .i64 (-1), .int .i64 (-1), .int .i64 (-1), .int .i64 (-1), .int .i64 0, .string ⟨#[]⟩, .string ⟨#[]⟩] 42 (0, 0)))
     refine (turns_any (show St b lb lo cap nv L (m + 1) (N ++ ([] ++ [])) _ from zan) r2 zcz).mono ?_
     have HH := Lib.hid h2; clear h2
     try clear c1 f1 hb
     rcases r2 with ⟨e1, e2⟩ | ⟨v2, m2, ns2⟩
     · rintro e w2 ⟨he, nv2, hk⟩
       have HKE := Lib.hid (Kp.trans (show Kp b nv nv w _ from zad) hk)
       clear hk
       unfold noV at he
       subst he
       go_wp2_with fail
       have := qak HR1.out HH.out
       subst this
       exact ⟨rfl, PPost.err rfl HKE.out⟩
     rintro e w2 ⟨he, nv2, hs, hk, hm⟩
     unfold intV at he
     subst he
     have HR2 := Lib.hid (qaj HR1.out HH.out)
     refine ybv ?_; intro HS2
     refine yco ?_; intro HM2
     have HK2 := Lib.hid (Kp.trans (show Kp b nv nv w _ from zad) hk)
     have LC2 := Lib.hid (Loc.kp (show Loc b nv (more ((more (w.setCell ⟨b, 1, none⟩ (.int .i64 ((m : Int) + 1))) d2 os2).alloc (.cells #[.int .i64 5, .int .i64 a, .string ts, .int .i64 i] 100 (0, 0))) d3 os3).heap.size (.cells #[.int .i64 26, .int .i64 (-1), .int .i64 (-1), .int .i64 (-1), .int .i64 (-1), .int .i64 0, .string ⟨#[]⟩, .string ⟨#[]⟩] 42 (0, 0)) _ from zbe) hk)
     clear LCN
     obtain ⟨kn, hkn⟩ : ∃ kn, (more ((more (w.setCell ⟨b, 1, none⟩ (.int .i64 ((m : Int) + 1))) d2 os2).alloc (.cells #[.int .i64 5, .int .i64 a, .string ts, .int .i64 i] 100 (0, 0))) d3 os3).heap.size = kn := ⟨_, rfl⟩
     rw [hkn] at LC2
     have HKW : RowKit.Hid (w.heap.size ≤ kn) := Lib.hid (by rw [← hkn]; have := (Kp.more (w1 := ((more (w.setCell ⟨b, 1, none⟩ (.int .i64 ((m : Int) + 1))) d2 os2).alloc (.cells #[.int .i64 5, .int .i64 a, .string ts, .int .i64 i] 100 (0, 0)))) (b := b) (nv := nv) (nv1 := nv) (show Kp b nv nv w _ from zad) d3 os3).size; exact this)
     have HLK : RowKit.Hid (lb ≠ kn) := Lib.hid (by have h1 := HS1.out.low; have h2 := HS1.out.lt; have h3 := (Kp.more (w1 := ((more (w.setCell ⟨b, 1, none⟩ (.int .i64 ((m : Int) + 1))) d2 os2).alloc (.cells #[.int .i64 5, .int .i64 a, .string ts, .int .i64 i] 100 (0, 0)))) (b := b) (nv := nv) (nv1 := nv) (show Kp b nv nv w _ from zad) d3 os3).size; have h4 := HS0.out.lt; rw [hkn] at h3; omega)
     simp only [more_size, World.size_setCell, World.size_alloc, Array.size_append] at hkn
     rw [hkn]
     clear hkn
     clear hs hk hm
     obtain ⟨n0, n1, n2, n3, n4, n5, n6, n7, z0, z1, z2, z3', z5, z6, z7, hkl⟩ := LC2.out.node
     go_wp2_with fail
     go_at_call 114
     obtain ⟨r3, h3⟩ := qal HR2.out
     refine (qbY (show St b lb lo cap nv2 L m2 (N ++ (([] ++ []) ++ ns2)) _ from zav) _ _ HB.out r3 zdd).mono ?_
     have HH := Lib.hid h3; clear h3
     try clear c1 f1 hb
     rcases r3 with ⟨e1, e2⟩ | ⟨v3, m3, ns3⟩
     · rintro e w3 ⟨he, nv3, hk⟩
       have HKE := Lib.hid (Kp.trans (show Kp b nv nv2 w _ from zak) hk)
       clear hk
       unfold noV at he
       subst he
       go_wp2_with fail
       have := qak HR2.out HH.out
       subst this
       exact ⟨rfl, PPost.err rfl HKE.out⟩
     rintro e w3 ⟨he, nv3, hs, hk, hm⟩
     unfold intV at he
     subst he
     have HR3 := Lib.hid (qaj HR2.out HH.out)
     refine ycb ?_; intro HS3
     refine ydb ?_; intro HM3
     have HK3 := Lib.hid (Kp.trans (show Kp b nv nv2 w _ from zak) hk)
     have LS : Loc b nv2 kn (.cells #[.int .i64 26, .int .i64 (-1), .int .i64 (-1), .int .i64 (-1), .int .i64 (-1), .int .i64 v2, .string ⟨#[]⟩, .string ⟨#[]⟩] 42 (0, 0)) _ := (Loc.set LC2.out 5 (.int .i64 v2))
     have LC3 := Lib.hid (Loc.kp (show Loc b nv2 kn (.cells #[.int .i64 26, .int .i64 (-1), .int .i64 (-1), .int .i64 (-1), .int .i64 (-1), .int .i64 v2, .string ⟨#[]⟩, .string ⟨#[]⟩] 42 (0, 0)) _ from zam) hk)
     clear LS
     clear hs hk hm
     clear n0 n1 n2 n3 n4 n5 n6 n7 z0 z1 z2 z3' z5 z6 z7
     obtain ⟨n0, n1, n2, n3, n4, n5, n6, n7, z0, z1, z2, z3', z5, z6, z7, hkl⟩ := LC3.out.node
     go_wp2_with fail
     go_at_call 115
     obtain ⟨r9, h9⟩ := qar HR3.out
     refine (qaM (show St b lb lo cap nv3 L m3 (N ++ ((([] ++ []) ++ ns2) ++ ns3)) _ from zaw) _ _ _ _ _ _ _ _ r9 zbo).mono ?_
     have HH := Lib.hid h9; clear h9
     rcases r9 with ⟨e1, e2⟩ | ⟨v9, m9, ns9⟩
     · rintro e w9 ⟨he, nv9, hk⟩
       have HKE := Lib.hid (Kp.trans (show Kp b nv nv3 w _ from zal) hk)
       clear hk
       unfold noV at he
       subst he
       go_wp2_with fail
       have := qax HR3.out HH.out
       subst this
       exact ⟨rfl, PPost.err rfl HKE.out⟩
     rintro e w9 ⟨he, nv9, hs, hk, hm⟩
     unfold intV at he
     subst he
     refine yai ?_; intro HS9
     have HM9 := Lib.hid (Nat.le_trans HM3.out hm)
     have HK9 := Lib.hid (Kp.trans (show Kp b nv nv3 w _ from zal) hk)
     clear hs hk hm
     go_wp2_with fail
     go_ret
     have := qaK HR3.out HH.out
     subst this
     exact yar
   rw [q_repeat, if_neg zay] at hr
   clear he hb
   go_enter Tryz.func77, Tryz.ntmps77
   go_wp2_with (((with_reducible refine (TK.out _ zac).mono ?_); rintro e _ ⟨rfl, d2, os2, rfl⟩))
   go_ret
   subst hr
   exact PPost.res rfl (by rw [List.append_nil]; exact h.ext zac) ((Kp.refl b nv w).ext zac) (Nat.le_refl _)
 · rw [if_pos e5] at hr
   have q5 : (k != 5) = true := by simpa using e5
   clear NX0 e5 he hb
   go_enter Tryz.func77, Tryz.ntmps77
   go_wp2_with (((with_reducible refine (TK.out _ zac).mono ?_); rintro e _ ⟨rfl, d2, os2, rfl⟩))
   go_ret
   subst hr
   exact PPost.res rfl (by rw [List.append_nil]; exact h.ext zac) ((Kp.refl b nv w).ext zac) (Nat.le_refl _)
theorem ownsRow_set {base : Nat} {e : TypeId} {size : Nat} {xs : List Value} (h : w.ownsRow base e size (.slice (some ⟨g, 0, none⟩) n cap) n xs) {i : Nat} (hi : i < n * size) (u : Value) :
  (w.setCell ⟨g, i, none⟩ u).ownsRow base e size (.slice (some ⟨g, 0, none⟩) n cap) n (xs.set i u) := by
 obtain ⟨h1, h2⟩ := h
 refine ⟨by simpa using h1, ?_⟩
 rcases h2 with ⟨h2, _⟩ | ⟨g', cap', cur, h2, hb, hg, hn, hm, hc, ht⟩
 · simp at h2
 · simp only [Value.slice.injEq, Option.some.injEq, Addr.mk.injEq, true_and, and_true] at h2
   obtain ⟨rfl, rfl⟩ := h2
   refine Or.inr ⟨g, cap, cur.setIfInBounds i u, rfl, hb, ?_, hn, hm, by simpa using hc, ?_⟩
   · simp [World.setCell, Array.getElem?_modify, hg]
   · rw [Array.toList_setIfInBounds, List.take_set, ht]
theorem qdm : ∀ (l : List Nd) (j : Nat) (v : Int), j < l.length → qad (setNext l j v) = (qad l).set (j * 8 + 4) (.int .i64 v)
 | [], j, v, h => by simp at h
 | z :: l, 0, v, _ => by simp [setNext, qad, ndL]
 | z :: l, j + 1, v, h => by
  have := qdm l j v (by simpa using h)
  have e1 : setNext (z :: l) (j + 1) v = z :: setNext l j v := by simp [setNext]
  have e2 : ∀ l, qad (z :: l) = ndL z ++ qad l := fun _ => rfl
  rw [e1, e2, e2, this, List.set_append_right _ _ (by simp [ndL]; omega)]
  congr 2
  simp [ndL]; omega
theorem setNext_length (l : List Nd) (j : Nat) (v : Int) : (setNext l j v).length = l.length := by simp [setNext]
theorem qdu (a l : List Nd) (j : Nat) (v : Int) : setNext (a ++ l) (a.length + j) v = a ++ setNext l j v := by
 simp only [setNext]
 induction a with
 | nil => simp
 | cons z a ih =>
  have e : (z :: a).length + j = (a.length + j) + 1 := by simp; omega
  rw [e, List.cons_append, List.modify_succ_cons, ih]; rfl
theorem St.setNext {c : Nat} (h : St b lb lo cap (.slice (some ⟨g, 0, none⟩) N.length c) L m N w) {j : Nat} (hj : j < N.length) (v : Int) :
  St b lb lo cap (.slice (some ⟨g, 0, none⟩) N.length c) L m (setNext N j v) (w.setCell ⟨g, j * 8 + 4, none⟩ (.int .i64 v)) := by
 have hg := h.row.lt g rfl
 refine ⟨h.ends, by rw [heap_set_other _ _ _ _ _ zaf]; exact h.blk, h.toks.of_block (heap_set_other _ _ _ _ _ (by have := h.low; omega)), ?_, h.low, h.pos, by rw [setNext_length]; exact h.cnt⟩
 rw [setNext_length, qdm _ _ _ hj]
 exact ownsRow_set h.row zaf _
theorem Kp.setRow {nv1 : Value} {w1 : World} (h : Kp b nv nv1 w w1) {g : Nat} (hg : nv1.ownBlock = some g) (i : Nat) (v : Value) : Kp b nv nv1 w (w1.setCell ⟨g, i, none⟩ v) := by
 refine ⟨h.os, h.tape, h.output, by simpa [World.setCell] using h.size, fun j hj hb hn => ?_, h.row⟩
 rw [heap_set_other _ _ _ _ _ ?_]
 · exact h.block j hj hb hn
 · intro e
   subst e
   rcases h.row with e | e
   · exact hn (e ▸ hg)
   · have := e _ hg; omega
theorem St.nextFacts {c : Nat} (h : St b lb lo cap (.slice (some ⟨g, 0, none⟩) N.length c) L m N w) {j : Nat} (hj : j < N.length) :
  (∃ x, w.cell? ⟨g, j * 8 + 4, none⟩ = some (.int .i64 x)) ∧ w.frozen? ⟨g, j * 8 + 4, none⟩ = false ∧ g < w.heap.size := by
 have hg := h.row.lt g rfl
 obtain ⟨h1, h2⟩ := h.row
 rcases h2 with ⟨h2, _⟩ | ⟨g', cap', cur, h2, hb, hgg, hn, hm, hc, ht⟩
 · simp at h2
 · simp only [Value.slice.injEq, Option.some.injEq, Addr.mk.injEq, true_and, and_true] at h2
   obtain ⟨rfl, rfl⟩ := h2
   refine ⟨?_, by simp [World.frozen?, hgg], hg.2⟩
   have : ∃ x, (qad N)[j * 8 + 4]? = some (.int .i64 x) := by
    clear h1 ht h hg hb hgg hn hm hc
    induction N generalizing j with
    | nil => simp at hj
    | cons z l ih =>
     have e2 : qad (z :: l) = ndL z ++ qad l := rfl
     cases j with
     | zero => exact ⟨z.x, by rw [e2]; rfl⟩
     | succ j =>
      obtain ⟨x, hx⟩ := ih (j := j) (by simpa using hj)
      exact ⟨x, by rw [e2, List.getElem?_append_right (by simp [ndL]; omega)]; rw [← hx]; congr 1; simp [ndL]; omega⟩
   obtain ⟨x, hx⟩ := this
   refine ⟨x, ?_⟩
   rw [← ht, List.getElem?_take] at hx
   split at hx
   · simp [World.cell?, hgg]; simpa using hx
   · simp at hx
theorem loop_err {e : Int × Int} (h : st m (n + acc.length) = .error e) : qaB st (g + 1) fi la acc m n = .error e := by rw [qaB, h]
theorem loop_end (h : st m (n + acc.length) = .ok (-1, m1, ns)) : qaB st (g + 1) fi la acc m n = .ok (fi, m1, acc ++ ns) := by rw [qaB, h]; rfl
theorem loop_fst {i : Int} (h : st m (n + acc.length) = .ok (i, m1, ns)) (hi : i ≠ -1) : qaB st (g + 1) (-1) la acc m n = qaB st g i i (acc ++ ns) m1 n := by rw [qaB, h]; dsimp only; rw [if_neg hi, if_pos rfl]
theorem loop_nxt {i : Int} (h : st m (n + acc.length) = .ok (i, m1, ns)) (hi : i ≠ -1) (hf : fi ≠ -1) : qaB st (g + 1) fi la acc m n = qaB st g fi i (setNext (acc ++ ns) (la.toNat - n) i) m1 n := by rw [qaB, h]; dsimp only; rw [if_neg hi, if_neg hf]
theorem nv_some (h : St b lb lo cap nv L m N w) (hl : 0 < N.length) : ∃ g c, nv = .slice (some ⟨g, 0, none⟩) N.length c := by
 rcases Go.Joins.ownsRow_forms h.row with ⟨rfl, h0⟩ | ⟨g1, c, rfl⟩
 · omega
 · exact ⟨_, _, rfl⟩
theorem block_any (h : St b lb lo cap nv L m N w) (d : Nat) (hd : d ≤ 16) (st : PM Int)
  (hst : Dp b lb lo cap L 77 (d : Int) st) (hok : ∀ m n v m1 ns, st m n = .ok (v, m1, ns) → (v = -1 ∧ m1 = m ∧ ns = []) ∨ (m < m1 ∧ v + 1 = (n : Int) + ns.length ∧ 0 < ns.length))
  (r : PR Int) (hr : qaB st (L.length + 1) (-1) (-1) [] m N.length = r) : Calls Tryz.prog 49 #[.pointer (some ⟨b, 0, none⟩), .int .i64 (d : Int)] w (PPost intV b lb lo cap nv L m N w r) := by
 have H := Lib.hid h
 have HT := Lib.hid hst
 have HO := Lib.hid hok
 have HR := Lib.hid hr
 have D := Lib.hid (qcs h d zaf (.ok ((), m, [])) (by unfold deepP; rw [if_neg zaf]))
 clear h hst hok hr
 go_enter Tryz.func49, Tryz.ntmps49
 go_wp2_with (((with_reducible refine D.out.mono ?_); rintro e w1 ⟨he, nv1, hs, hk, _⟩; unfold unitV at he; subst he; have HS1 := Lib.hid (hs.cast (List.append_nil _)); have HK1 := Lib.hid hk; clear hs hk))
 go_loopg [5, 6] (L.length + 1) (fun g x y wr => ∃ (fi la : Int) (acc : List Nd) (m2 : Nat) (nv2 : Value), x = .int .i64 fi ∧ y = .int .i64 la ∧ m ≤ m2 ∧ L.length + 1 ≤ m2 + g ∧ St b lb lo cap nv2 L m2 (N ++ acc) wr ∧ Kp b nv nv2 w wr ∧ qaB st g fi la acc m2 N.length = r ∧ (fi ≠ -1 → (N.length : Int) ≤ la ∧ la < (N.length : Int) + acc.length))
 case atStart => exact ⟨-1, -1, [], m, nv1, rfl, rfl, Nat.le_refl _, by omega, HS1.out.cast (List.append_nil _).symm, HK1.out, HR.out, fun h => absurd rfl h⟩
 case round =>
  obtain ⟨fi, la, acc, m2, nv2, rfl, rfl, hm2, hg, hs2, hk2, hres, hla⟩ := hrel
  obtain ⟨g0, rfl⟩ : ∃ g0, gk = g0 + 1 := ⟨gk - 1, by have := hs2.pos; omega⟩
  have HK := Lib.hid hk2
  have HM := Lib.hid (And.intro hm2 hg)
  have HLA := Lib.hid hla
  obtain ⟨r1, h1⟩ : ∃ r1, st m2 (N.length + acc.length) = r1 := ⟨_, rfl⟩
  have SC := Lib.hid (HT.out _ _ _ _ hs2 r1 (by rw [List.length_append]; exact h1))
  clear hm2 hg hs2 hk2 hla
  rcases r1 with ⟨e1, e2⟩ | ⟨v, m3, ns⟩
  · rw [loop_err h1] at hres
    subst hres
    clear h1
    go_wp2_with (((with_reducible refine SC.out.mono ?_); rintro e w2 ⟨he, nv3, hk⟩; unfold noV at he; subst he; have HK2 := Lib.hid (HK.out.trans hk); clear hk))
    exact ⟨rfl, PPost.err rfl HK2.out⟩
  by_cases hv : v = -1
  · subst hv
    rw [loop_end h1] at hres
    have RR := Lib.hid hres
    have HB := Lib.hid (HO.out _ _ _ _ _ h1)
    clear hres h1
    go_wp2_with (((with_reducible refine SC.out.mono ?_); rintro e w2 ⟨he, nv3, hs, hk, _⟩; unfold intV at he; subst he; have HS := Lib.hid (hs.cast (List.append_assoc _ _ _)); have HK2 := Lib.hid (HK.out.trans hk); clear hs hk))
    go_ret
    have := RR.out
    subst this
    refine PPost.res rfl HS.out HK2.out ?_
    have h1 := HM.out.1
    rcases HB.out with ⟨_, h2, _⟩ | ⟨h2, _⟩ <;> omega
  have HB : RowKit.Hid (m2 < m3 ∧ v + 1 = ((N.length + acc.length : Nat) : Int) + ns.length ∧ 0 < ns.length) := Lib.hid (by
   rcases HO.out _ _ _ _ _ h1 with ⟨h2, _⟩ | h2
   · exact absurd h2 hv
   · exact h2)
  have hv2 : (v == -1) = false := by simpa using hv
  by_cases hf : fi = -1
  · subst hf
    rw [loop_fst h1 hv] at hres
    have RR := Lib.hid hres
    clear hres h1 hv
    go_wp2_with (((with_reducible refine SC.out.mono ?_); rintro e w2 ⟨he, nv3, hs, hk, _⟩; unfold intV at he; subst he; have HS := Lib.hid (hs.cast (List.append_assoc _ _ _)); have HK2 := Lib.hid (HK.out.trans hk); clear hs hk))
    go_roundg g0
    case measure => omega
    case rel =>
     have h1 := HM.out
     have h2 := HB.out
     exact ⟨v, v, acc ++ ns, m3, nv3, rfl, rfl, by omega, by omega, HS.out, HK2.out, RR.out, fun _ => ⟨by omega, by simp only [List.length_append]; omega⟩⟩
  · rw [loop_nxt h1 hv hf] at hres
    have RR := Lib.hid hres
    have hf2 : (fi == -1) = false := by simpa using hf
    have HF := Lib.hid hf
    obtain ⟨j, rfl⟩ : ∃ j : Nat, la = (j : Int) := ⟨la.toNat, by have := (HLA.out hf).1; omega⟩
    clear hres h1 hv hf
    obtain ⟨M, hM⟩ : ∃ M, N ++ (acc ++ ns) = M := ⟨_, rfl⟩
    have HMM := Lib.hid hM
    have hjm : j < M.length := by have h1 := (HLA.out HF.out).2; rw [← hM]; simp only [List.length_append]; omega
    have hji : (j : Int) < (M.length : Int) := by omega
    have hj0 : 0 ≤ (j : Int) := by omega
    have HJ := Lib.hid hjm
    clear hM hjm
    go_wp2_with (((with_reducible refine SC.out.mono ?_); rintro e w2 ⟨he, nv3, hs, hk, _⟩; unfold intV at he; subst he; have HS := Lib.hid (hs.cast (List.append_assoc _ _ _)); have HK2 := Lib.hid (HK.out.trans hk); clear hs hk; rw [HMM.out] at HS; obtain ⟨gg, cc, rfl⟩ := nv_some HS.out (by have := HJ.out; omega); obtain ⟨c0, c1, c2, c3, f1, f2, f3, hb⟩ := HS.out.facts; obtain ⟨⟨xx, n4⟩, z4, hgl⟩ := HS.out.nextFacts HJ.out; clear c0 c1 c3 f1 f2 f3))
    go_roundg g0
    case measure => omega
    case rel =>
     have h1 := HM.out
     have h2 := HB.out
     have h3 := HLA.out HF.out
     have e : N ++ setNext (acc ++ ns) ((j : Int).toNat - N.length) v = setNext M j v := by
      rw [← HMM.out, ← qdu]
      congr 1
      omega
     exact ⟨fi, v, setNext (acc ++ ns) ((j : Int).toNat - N.length) v, m3, _, rfl, rfl, by omega, by omega, by rw [e]; exact HS.out.setNext HJ.out v, HK2.out.setRow rfl _ _, RR.out, fun _ => ⟨by omega, by rw [setNext_length, List.length_append]; omega⟩⟩
end Go.Proofs.YtpoeknndkccbaaaGreat
