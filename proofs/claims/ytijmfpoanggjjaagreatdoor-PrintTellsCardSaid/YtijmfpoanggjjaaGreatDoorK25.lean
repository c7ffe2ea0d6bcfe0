/- Lemmas for the claim (texts Rar8, what its proof uses of them). -/
import Derived.Test.YtijmfpoanggjjaaGreatDoorK23
import Derived.Test.YtijmfpoanggjjaaGreatDoorK24
set_option linter.unusedSimpArgs false
set_option linter.unusedVariables false
namespace Go.Proofs.YtijmfpoanggjjaaGreatDoor
open Go.RowKit
attribute [go_sem] more_more Array.size_append
theorem qao {b lb lo cap : Nat} {nv : Value} {L : Toks} {m : Nat} {N : List Nd} {w : World} (h : Rt b lb lo cap nv L m N 0 0 w) (s : ByteArray) (hs : (s.size : Int) ≤ 100) (r : PR Unit) (hr : must1 L s m N.length = r) :
  Calls Tryz.prog 123 #[.pointer (some ⟨b, 0, none⟩), .string s] w (RPost unitV isUnit b lb lo cap nv L m N w r) := need_any h s hs r hr
set_option maxHeartbeats 4000000 in
set_option maxRecDepth 20000 in
theorem more_paren {b lb lo cap : Nat} {nv : Value} {L : Toks} {m : Nat} {N : List Nd} {w : World} (h : Rt b lb lo cap nv L m N 0 0 w) (hp : isP L sOpen m = true) (d : Nat) (hd : d ≤ 16) (e1 : PM Int) (he : RDp b lb lo cap L 124 ((d : Int) + 1) e1) (r : PR Int) (hr : parenP L e1 m N.length = r) :
  Calls Tryz.prog 146 #[.pointer (some ⟨b, 0, none⟩), .int .i64 (d : Int)] w (RPost intV isInt b lb lo cap nv L m N w r) := by
 have hd0 : 0 ≤ (d : Int) := by omega
 have hd1 : (d : Int) ≤ 16 := by omega
 have TY : RowKit.Hid (∀ w1, Ext w w1 → Calls Tryz.prog 127 #[.pointer (some ⟨b, 0, none⟩), .string ⟨#[40]⟩] w1 fun e w' => e = .returned (.bool true) ∧ Rt b lb lo cap nv L (m + 1) N 0 0 w' ∧ Kp b nv nv w1 w') := Lib.hid fun w1 hx => qbn (h.ext hx) _ zaq hp
 have HE := Lib.hid he
 have HS0 := Lib.hid (h.cast (List.append_nil N).symm)
 have HK0 := Lib.hid (Kp.refl b nv w)
 have HM0 := Lib.hid (Nat.le_refl m)
 have HR0 := Lib.hid (qaz hr)
 unfold parenP at HR0
 have HR1 := Lib.hid (qaf HR0.out (show skipP m _ = .ok ((), m + 1, []) from rfl))
 have HM1 := Lib.hid (Nat.le_succ m)
 clear h he hr hp
 go_enter Tryz.func146, Tryz.ntmps146
 go_wp2_with ((go_at_call 127; (with_reducible refine (TY.out _ zac).mono ?_); rintro e w1 ⟨rfl, hs1, hk1⟩; have HS1 := Lib.hid (hs1.cast (show N = N ++ ([] ++ []) by simp)); have HK1 := Lib.hid (((Kp.refl b nv w).ext zac).trans hk1); obtain ⟨u0, u1, u2, u3, u4, y0, y1, y2, y3, hbb⟩ := hs1.facts; clear hs1 hk1 u0 u1 u2 u4 y0 y1 y2 y3))
 go_at_call 124
 obtain ⟨r2, h2⟩ := qaj HR1.out
 refine (HE.out _ _ _ _ (show Rt b lb lo cap nv L (m + 1) (N ++ ([] ++ [])) 0 0 _ from zao) r2 zcl).mono ?_
 have HH := Lib.hid h2; clear h2
 rcases r2 with ⟨e1, e2⟩ | ⟨v2, m2, ns2⟩
 · rintro e wE ⟨hc, ⟨v, rfl, yq, rfl⟩, nvE, mE, NE, hsE, hkE⟩
   have HC := Lib.hid hc
   have HSE := Lib.hid hsE
   have HKE := Lib.hid (Kp.trans (show Kp b nv nv w _ from zaf) hkE)
   clear hc hsE hkE
   go_wp2_with ((go_at_call 123; (with_reducible refine (qam HC.out (show Rt b lb lo cap nvE L mE NE e1 e2 _ from zae) _ zaq).mono ?_); rintro e _ ⟨rfl, d7, os7, rfl⟩))
   go_ret
   have := qak HR1.out HH.out
   subst this
   exact RPost.err HC.out ⟨_, rfl⟩ zae zak
 rintro e w2 ⟨he, nv2, hs, hk, hm⟩
 unfold intV at he
 subst he
 have HR2 := Lib.hid (qaf HR1.out HH.out)
 have HS2 := Lib.hid (hs.cast (List.append_assoc _ _ _))
 have HM2 := Lib.hid (Nat.le_trans HM1.out hm)
 have HK2 := Lib.hid (Kp.trans (show Kp b nv nv w _ from zaf) hk)
 clear hs hk hm
 go_wp2_with fail
 go_at_call 123
 obtain ⟨r3, h3⟩ := qaj HR2.out
 refine (qao (show Rt b lb lo cap nv2 L m2 (N ++ (([] ++ []) ++ ns2)) 0 0 _ from zaw) _ zaq r3 zda).mono ?_
 have HH := Lib.hid h3; clear h3
 rcases r3 with ⟨e1, e2⟩ | ⟨v3, m3, ns3⟩
 · rintro e wE ⟨hc, ⟨v, rfl, rfl⟩, nvE, mE, NE, hsE, hkE⟩
   have HC := Lib.hid hc
   have HSE := Lib.hid hsE
   have HKE := Lib.hid (Kp.trans (show Kp b nv nv2 w _ from zaj) hkE)
   clear hc hsE hkE
   go_wp2_with fail
   go_ret
   have := qak HR2.out HH.out
   subst this
   exact RPost.err HC.out ⟨_, rfl⟩ zae zak
 rintro e w3 ⟨he, nv3, hs, hk, hm⟩
 unfold unitV at he
 subst he
 have HR3 := Lib.hid (qaf HR2.out HH.out)
 have HS3 := Lib.hid (hs.cast (List.append_assoc _ _ _))
 have HM3 := Lib.hid (Nat.le_trans HM2.out hm)
 have HK3 := Lib.hid (Kp.trans (show Kp b nv nv2 w _ from zaj) hk)
 clear hs hk hm
 go_wp2_with fail
 go_ret
 have := HR3.out
 subst this
 exact RPost.res rfl (HS3.out.cast (by simp [pok, prep])) HK3.out HM3.out
set_option maxHeartbeats 4000000 in
set_option maxRecDepth 20000 in
theorem more_within0 {b lb lo cap : Nat} {nv : Value} {L : Toks} {m : Nat} {N : List Nd} {w : World} (h : Rt b lb lo cap nv L m N 0 0 w) (h0 : isP L sOpen m = false) (hp : isP L sNot m = true) (d : Nat) (hd : d ≤ 16) (o1 : PM Int) (ho : d < 16 → RDp b lb lo cap L 142 ((d : Int) + 1) o1) (r : PR Int) (hr : wiP L 9 d o1 m N.length = r) :
  Calls Tryz.prog 146 #[.pointer (some ⟨b, 0, none⟩), .int .i64 (d : Int)] w (RPost intV isInt b lb lo cap nv L m N w r) := by
 have T0 : RowKit.Hid (∀ w1, Ext w w1 → Calls Tryz.prog 127 #[.pointer (some ⟨b, 0, none⟩), .string ⟨#[40]⟩] w1 fun e w' => e = .returned (.bool false) ∧ Ext w1 w') := Lib.hid fun w1 hx => qat (h.ext hx) _ zaq h0
 have TY : RowKit.Hid (∀ w1, Ext w w1 → Calls Tryz.prog 127 #[.pointer (some ⟨b, 0, none⟩), .string ⟨#[110, 111, 116]⟩] w1 fun e w' => e = .returned (.bool true) ∧ Rt b lb lo cap nv L (m + 1) N 0 0 w' ∧ Kp b nv nv w1 w') := Lib.hid fun w1 hx => qbn (h.ext hx) _ zaq hp
 have HS0 := Lib.hid (h.cast (List.append_nil N).symm)
 have HK0 := Lib.hid (Kp.refl b nv w)
 have HM0 := Lib.hid (Nat.le_refl m)
 have HR0 := Lib.hid (qaz hr)
 unfold wiP at HR0
 have HR1 := Lib.hid (qaf HR0.out (show skipP m _ = .ok ((), m + 1, []) from rfl))
 have HM1 := Lib.hid (Nat.le_succ m)
 unfold qcP at HR1
 clear h hr hp h0
 by_cases hdd : d < 16
 · have HO := Lib.hid (ho hdd)
   have DP : RowKit.Hid (deepP L (d + 1) (m + 1) (N.length + (([] : List Nd) ++ []).length) = .ok ((), m + 1, [])) := Lib.hid (by unfold deepP; rw [if_neg zal])
   have hd0 : 0 ≤ (d : Int) := by omega
   have hd1 : (d : Int) ≤ 15 := by omega
   clear hdd ho hd
   go_enter Tryz.func146, Tryz.ntmps146
   go_wp2_with ((go_at_call 127; (with_reducible refine (T0.out _ zac).mono ?_); rintro e _ ⟨rfl, d9, os9, rfl⟩))
   go_loopg [6] (2) (fun g x wr => ∃ z : Int, x = .int .i64 z ∧ (z = 0) ∧ 2 ≤ z + g ∧ Ext w wr)
   case atStart => exact ⟨0, rfl, by omega, by omega, zac⟩
   case round =>
    obtain ⟨z, rfl, hz, hg, hx⟩ := hrel
    obtain ⟨dw6, ow6, rfl⟩ := hx
    have HG := Lib.hid hg
    clear hg
    subst hz
    · skip
      go_wp2_with ((go_at_call 127; (with_reducible refine (TY.out _ zac).mono ?_); rintro e w1 ⟨rfl, hs1, hk1⟩; have HS1 := Lib.hid (hs1.cast (show N = N ++ ([] ++ []) by simp)); have HK1 := Lib.hid (((Kp.refl b nv w).ext zac).trans hk1); obtain ⟨u0, u1, u2, u3, u4, y0, y1, y2, y3, hbb⟩ := hs1.facts; clear hs1 hk1 u0 u1 u2 u4 y0 y1 y2 y3))
      have HR2 := Lib.hid (qaf HR1.out DP.out)
      have HS2 := Lib.hid (HS1.out.cast (show N ++ ([] ++ []) = N ++ ([] ++ [] ++ []) by simp))
      have HK2 := HK1
      have HM2 := HM1
      go_at_call 142
      obtain ⟨r3, h3⟩ := qaj HR2.out
      refine (HO.out _ _ _ _ (show Rt b lb lo cap nv L (m + 1) (N ++ ([] ++ [] ++ [])) 0 0 _ from zaw) r3 zda).mono ?_
      have HH := Lib.hid h3; clear h3
      rcases r3 with ⟨e1, e2⟩ | ⟨v3, m3, ns3⟩
      · rintro e wE ⟨hc, ⟨v, rfl, yq, rfl⟩, nvE, mE, NE, hsE, hkE⟩
        have HC := Lib.hid hc
        have HSE := Lib.hid hsE
        have HKE := Lib.hid (Kp.trans (show Kp b nv nv w _ from zaj) hkE)
        clear hc hsE hkE
        go_wp2_with (first
         | ((go_at_call 125; (with_reducible refine (qad HC.out (show Rt b lb lo cap nvE L mE NE e1 e2 _ from zae) _ _ _ _ _ _ _ _).mono ?_); rintro e _ ⟨rfl, d6, os6, rfl⟩))
         | ((go_at_call 122; (with_reducible refine (qal _ _ _ _).mono ?_); rintro e _ ⟨rfl, d3, os3, rfl⟩)))
        go_ret
        have := qak HR2.out HH.out
        subst this
        exact RPost.err HC.out ⟨_, rfl⟩ zae zak
      rintro e w3 ⟨he, nv3, hs, hk, hm⟩
      unfold intV at he
      subst he
      have HR3 := Lib.hid (qaf HR2.out HH.out)
      have HS3 := Lib.hid (hs.cast (List.append_assoc _ _ _))
      have HM3 := Lib.hid (Nat.le_trans HM2.out hm)
      have HK3 := Lib.hid (Kp.trans (show Kp b nv nv w _ from zaj) hk)
      clear hs hk hm
      go_wp2_with ((go_at_call 122; (with_reducible refine (qal _ _ _ _).mono ?_); rintro e _ ⟨rfl, d3, os3, rfl⟩))
      go_at_call 125
      obtain ⟨r4, h4⟩ := qaC HR3.out
      refine (qaw (show Rt b lb lo cap nv3 L m3 (N ++ (([] ++ [] ++ []) ++ ns3)) 0 0 _ from zch) _ _ _ _ _ _ _ _ r4 zdh).mono ?_
      have HH := Lib.hid h4; clear h4
      rcases r4 with ⟨e1, e2⟩ | ⟨v4, m4, ns4⟩
      · rintro e wE ⟨hc, ⟨v, rfl, yq, rfl⟩, nvE, mE, NE, hsE, hkE⟩
        have HC := Lib.hid hc
        have HSE := Lib.hid hsE
        have HKE := Lib.hid (Kp.trans (show Kp b nv nv3 w _ from zbc) hkE)
        clear hc hsE hkE
        go_wp2_with fail
        go_ret
        have := qaO HR3.out HH.out
        subst this
        exact RPost.err HC.out ⟨_, rfl⟩ zae zak
      rintro e w4 ⟨he, nv4, hs, hk, hm⟩
      unfold intV at he
      subst he
      have HS4 := Lib.hid (hs.cast (List.append_assoc _ _ _))
      have HM4 := Lib.hid (Nat.le_trans HM3.out hm)
      have HK4 := Lib.hid (Kp.trans (show Kp b nv nv3 w _ from zbc) hk)
      clear hs hk hm
      go_wp2_with fail
      go_ret
      have := qaX HR3.out HH.out
      subst this
      exact RPost.res rfl HS4.out HK4.out HM4.out
 · have e : d = 16 := by omega
   subst e
   have RD : RowKit.Hid (.error (14, (tk L (m + 1)).2) = r) := Lib.hid (by rw [← HR1.out, qaH (e := (14, (tk L (m + 1)).2)) (by unfold deepP; rw [if_pos zal])]; rfl)
   clear hdd ho hd HR0 HR1
   go_enter Tryz.func146, Tryz.ntmps146
   go_wp2_with ((go_at_call 127; (with_reducible refine (T0.out _ zac).mono ?_); rintro e _ ⟨rfl, d9, os9, rfl⟩))
   go_loopg [6] (2) (fun g x wr => ∃ z : Int, x = .int .i64 z ∧ (z = 0) ∧ 2 ≤ z + g ∧ Ext w wr)
   case atStart => exact ⟨0, rfl, by omega, by omega, zac⟩
   case round =>
    obtain ⟨z, rfl, hz, hg, hx⟩ := hrel
    obtain ⟨dw6, ow6, rfl⟩ := hx
    have HG := Lib.hid hg
    clear hg
    subst hz
    · skip
      go_wp2_with ((go_at_call 127; (with_reducible refine (TY.out _ zac).mono ?_); rintro e w1 ⟨rfl, hs1, hk1⟩; have HS1 := Lib.hid (hs1.cast (show N = N ++ ([] ++ []) by simp)); have HK1 := Lib.hid (((Kp.refl b nv w).ext zac).trans hk1); obtain ⟨u0, u1, u2, u3, u4, y0, y1, y2, y3, hbb⟩ := hs1.facts; clear hs1 hk1 u0 u1 u2 u4 y0 y1 y2 y3))
      go_at_call 84
      refine (qbl (show Rt b lb lo cap nv L (m + 1) (N ++ ([] ++ [])) 0 0 _ from zao) 14 zaq).mono ?_
      rintro e w2 ⟨rfl, hs2, hk2⟩
      have HS2 := Lib.hid hs2
      have HK2 := Lib.hid (Kp.trans (show Kp b nv nv w _ from zaf) hk2)
      obtain ⟨u0, u1, u2, u4, u5, y0, y1, y2, y3, hbc⟩ := hs2.facts
      clear hs2 hk2 u0 u1 u2 u5 y0 y1 y2 y3 u3
      go_wp2_with fail
      go_ret
      have := RD.out
      subst this
      exact RPost.err zaq ⟨_, rfl⟩ HS2.out HK2.out
set_option maxHeartbeats 4000000 in
set_option maxRecDepth 20000 in
theorem more_within1 {b lb lo cap : Nat} {nv : Value} {L : Toks} {m : Nat} {N : List Nd} {w : World} (h : Rt b lb lo cap nv L m N 0 0 w) (h0 : isP L sOpen m = false) (h1 : isP L sNot m = false) (hp : isP L sMinus m = true) (d : Nat) (hd : d ≤ 16) (o1 : PM Int) (ho : d < 16 → RDp b lb lo cap L 142 ((d : Int) + 1) o1) (r : PR Int) (hr : wiP L 10 d o1 m N.length = r) :
  Calls Tryz.prog 146 #[.pointer (some ⟨b, 0, none⟩), .int .i64 (d : Int)] w (RPost intV isInt b lb lo cap nv L m N w r) := by
 have T0 : RowKit.Hid (∀ w1, Ext w w1 → Calls Tryz.prog 127 #[.pointer (some ⟨b, 0, none⟩), .string ⟨#[40]⟩] w1 fun e w' => e = .returned (.bool false) ∧ Ext w1 w') := Lib.hid fun w1 hx => qat (h.ext hx) _ zaq h0
 have T1 : RowKit.Hid (∀ w1, Ext w w1 → Calls Tryz.prog 127 #[.pointer (some ⟨b, 0, none⟩), .string ⟨#[110, 111, 116]⟩] w1 fun e w' => e = .returned (.bool false) ∧ Ext w1 w') := Lib.hid fun w1 hx => qat (h.ext hx) _ zaq h1
 have TY : RowKit.Hid (∀ w1, Ext w w1 → Calls Tryz.prog 127 #[.pointer (some ⟨b, 0, none⟩), .string ⟨#[45]⟩] w1 fun e w' => e = .returned (.bool true) ∧ Rt b lb lo cap nv L (m + 1) N 0 0 w' ∧ Kp b nv nv w1 w') := Lib.hid fun w1 hx => qbn (h.ext hx) _ zaq hp
 have HS0 := Lib.hid (h.cast (List.append_nil N).symm)
 have HK0 := Lib.hid (Kp.refl b nv w)
 have HM0 := Lib.hid (Nat.le_refl m)
 have HR0 := Lib.hid (qaz hr)
 unfold wiP at HR0
 have HR1 := Lib.hid (qaf HR0.out (show skipP m _ = .ok ((), m + 1, []) from rfl))
 have HM1 := Lib.hid (Nat.le_succ m)
 unfold qcP at HR1
 clear h hr hp h0 h1
 by_cases hdd : d < 16
 · have HO := Lib.hid (ho hdd)
   have DP : RowKit.Hid (deepP L (d + 1) (m + 1) (N.length + (([] : List Nd) ++ []).length) = .ok ((), m + 1, [])) := Lib.hid (by unfold deepP; rw [if_neg zal])
   have hd0 : 0 ≤ (d : Int) := by omega
   have hd1 : (d : Int) ≤ 15 := by omega
   clear hdd ho hd
   go_enter Tryz.func146, Tryz.ntmps146
   go_wp2_with ((go_at_call 127; (with_reducible refine (T0.out _ zac).mono ?_); rintro e _ ⟨rfl, d9, os9, rfl⟩))
   go_loopg [6] (2) (fun g x wr => ∃ z : Int, x = .int .i64 z ∧ (z = 0 ∨ z = 1) ∧ 2 ≤ z + g ∧ Ext w wr)
   case atStart => exact ⟨0, rfl, by omega, by omega, zac⟩
   case round =>
    obtain ⟨z, rfl, hz, hg, hx⟩ := hrel
    obtain ⟨dw6, ow6, rfl⟩ := hx
    have HG := Lib.hid hg
    clear hg
    rcases hz with rfl | rfl
    · go_wp2_with ((go_at_call 127; (with_reducible refine (T1.out _ zac).mono ?_); rintro e _ ⟨rfl, d9, os9, rfl⟩))
      obtain ⟨g0, rfl⟩ : ∃ g0, gk = g0 + 1 := ⟨gk - 1, by have := HG.out; omega⟩
      go_roundg g0
      case measure => omega
      case rel => exact ⟨1, by go_num, by omega, by have := HG.out; omega, zac⟩
    · skip
      go_wp2_with ((go_at_call 127; (with_reducible refine (TY.out _ zac).mono ?_); rintro e w1 ⟨rfl, hs1, hk1⟩; have HS1 := Lib.hid (hs1.cast (show N = N ++ ([] ++ []) by simp)); have HK1 := Lib.hid (((Kp.refl b nv w).ext zac).trans hk1); obtain ⟨u0, u1, u2, u3, u4, y0, y1, y2, y3, hbb⟩ := hs1.facts; clear hs1 hk1 u0 u1 u2 u4 y0 y1 y2 y3))
      have HR2 := Lib.hid (qaf HR1.out DP.out)
      have HS2 := Lib.hid (HS1.out.cast (show N ++ ([] ++ []) = N ++ ([] ++ [] ++ []) by simp))
      have HK2 := HK1
      have HM2 := HM1
      go_at_call 142
      obtain ⟨r3, h3⟩ := qaj HR2.out
      refine (HO.out _ _ _ _ (show Rt b lb lo cap nv L (m + 1) (N ++ ([] ++ [] ++ [])) 0 0 _ from zaw) r3 zda).mono ?_
      have HH := Lib.hid h3; clear h3
      rcases r3 with ⟨e1, e2⟩ | ⟨v3, m3, ns3⟩
      · rintro e wE ⟨hc, ⟨v, rfl, yq, rfl⟩, nvE, mE, NE, hsE, hkE⟩
        have HC := Lib.hid hc
        have HSE := Lib.hid hsE
        have HKE := Lib.hid (Kp.trans (show Kp b nv nv w _ from zaj) hkE)
        clear hc hsE hkE
        go_wp2_with (first
         | ((go_at_call 125; (with_reducible refine (qad HC.out (show Rt b lb lo cap nvE L mE NE e1 e2 _ from zae) _ _ _ _ _ _ _ _).mono ?_); rintro e _ ⟨rfl, d6, os6, rfl⟩))
         | ((go_at_call 122; (with_reducible refine (qal _ _ _ _).mono ?_); rintro e _ ⟨rfl, d3, os3, rfl⟩)))
        go_ret
        have := qak HR2.out HH.out
        subst this
        exact RPost.err HC.out ⟨_, rfl⟩ zae zak
      rintro e w3 ⟨he, nv3, hs, hk, hm⟩
      unfold intV at he
      subst he
      have HR3 := Lib.hid (qaf HR2.out HH.out)
      have HS3 := Lib.hid (hs.cast (List.append_assoc _ _ _))
      have HM3 := Lib.hid (Nat.le_trans HM2.out hm)
      have HK3 := Lib.hid (Kp.trans (show Kp b nv nv w _ from zaj) hk)
      clear hs hk hm
      go_wp2_with ((go_at_call 122; (with_reducible refine (qal _ _ _ _).mono ?_); rintro e _ ⟨rfl, d3, os3, rfl⟩))
      go_at_call 125
      obtain ⟨r4, h4⟩ := qaC HR3.out
      refine (qaw (show Rt b lb lo cap nv3 L m3 (N ++ (([] ++ [] ++ []) ++ ns3)) 0 0 _ from zch) _ _ _ _ _ _ _ _ r4 zdh).mono ?_
      have HH := Lib.hid h4; clear h4
      rcases r4 with ⟨e1, e2⟩ | ⟨v4, m4, ns4⟩
      · rintro e wE ⟨hc, ⟨v, rfl, yq, rfl⟩, nvE, mE, NE, hsE, hkE⟩
        have HC := Lib.hid hc
        have HSE := Lib.hid hsE
        have HKE := Lib.hid (Kp.trans (show Kp b nv nv3 w _ from zbc) hkE)
        clear hc hsE hkE
        go_wp2_with fail
        go_ret
        have := qaO HR3.out HH.out
        subst this
        exact RPost.err HC.out ⟨_, rfl⟩ zae zak
      rintro e w4 ⟨he, nv4, hs, hk, hm⟩
      unfold intV at he
      subst he
      have HS4 := Lib.hid (hs.cast (List.append_assoc _ _ _))
      have HM4 := Lib.hid (Nat.le_trans HM3.out hm)
      have HK4 := Lib.hid (Kp.trans (show Kp b nv nv3 w _ from zbc) hk)
      clear hs hk hm
      go_wp2_with fail
      go_ret
      have := qaX HR3.out HH.out
      subst this
      exact RPost.res rfl HS4.out HK4.out HM4.out
 · have e : d = 16 := by omega
   subst e
   have RD : RowKit.Hid (.error (14, (tk L (m + 1)).2) = r) := Lib.hid (by rw [← HR1.out, qaH (e := (14, (tk L (m + 1)).2)) (by unfold deepP; rw [if_pos zal])]; rfl)
   clear hdd ho hd HR0 HR1
   go_enter Tryz.func146, Tryz.ntmps146
   go_wp2_with ((go_at_call 127; (with_reducible refine (T0.out _ zac).mono ?_); rintro e _ ⟨rfl, d9, os9, rfl⟩))
   go_loopg [6] (2) (fun g x wr => ∃ z : Int, x = .int .i64 z ∧ (z = 0 ∨ z = 1) ∧ 2 ≤ z + g ∧ Ext w wr)
   case atStart => exact ⟨0, rfl, by omega, by omega, zac⟩
   case round =>
    obtain ⟨z, rfl, hz, hg, hx⟩ := hrel
    obtain ⟨dw6, ow6, rfl⟩ := hx
    have HG := Lib.hid hg
    clear hg
    rcases hz with rfl | rfl
    · go_wp2_with ((go_at_call 127; (with_reducible refine (T1.out _ zac).mono ?_); rintro e _ ⟨rfl, d9, os9, rfl⟩))
      obtain ⟨g0, rfl⟩ : ∃ g0, gk = g0 + 1 := ⟨gk - 1, by have := HG.out; omega⟩
      go_roundg g0
      case measure => omega
      case rel => exact ⟨1, by go_num, by omega, by have := HG.out; omega, zac⟩
    · skip
      go_wp2_with ((go_at_call 127; (with_reducible refine (TY.out _ zac).mono ?_); rintro e w1 ⟨rfl, hs1, hk1⟩; have HS1 := Lib.hid (hs1.cast (show N = N ++ ([] ++ []) by simp)); have HK1 := Lib.hid (((Kp.refl b nv w).ext zac).trans hk1); obtain ⟨u0, u1, u2, u3, u4, y0, y1, y2, y3, hbb⟩ := hs1.facts; clear hs1 hk1 u0 u1 u2 u4 y0 y1 y2 y3))
      go_at_call 84
      refine (qbl (show Rt b lb lo cap nv L (m + 1) (N ++ ([] ++ [])) 0 0 _ from zao) 14 zaq).mono ?_
      rintro e w2 ⟨rfl, hs2, hk2⟩
      have HS2 := Lib.hid hs2
      have HK2 := Lib.hid (Kp.trans (show Kp b nv nv w _ from zaf) hk2)
      obtain ⟨u0, u1, u2, u4, u5, y0, y1, y2, y3, hbc⟩ := hs2.facts
      clear hs2 hk2 u0 u1 u2 u5 y0 y1 y2 y3 u3
      go_wp2_with fail
      go_ret
      have := RD.out
      subst this
      exact RPost.err zaq ⟨_, rfl⟩ HS2.out HK2.out
set_option maxHeartbeats 4000000 in
set_option maxRecDepth 20000 in
theorem more_call0 {b lb lo cap : Nat} {nv : Value} {L : Toks} {m : Nat} {N : List Nd} {w : World} (h : Rt b lb lo cap nv L m N 0 0 w) (h0 : isP L sOpen m = false) (h1 : isP L sNot m = false) (h2 : isP L sMinus m = false) (hp : isP L sGet m = true) (d : Nat) (hd : d ≤ 16) (e1 : PM Int) (he : RDp b lb lo cap L 124 ((d : Int) + 1) e1) (r : PR Int) (hr : callP L 5 e1 m N.length = r) :
  Calls Tryz.prog 146 #[.pointer (some ⟨b, 0, none⟩), .int .i64 (d : Int)] w (RPost intV isInt b lb lo cap nv L m N w r) := by
 have hd0 : 0 ≤ (d : Int) := by omega
 have hd1 : (d : Int) ≤ 16 := by omega
 have T0 : RowKit.Hid (∀ w1, Ext w w1 → Calls Tryz.prog 127 #[.pointer (some ⟨b, 0, none⟩), .string ⟨#[40]⟩] w1 fun e w' => e = .returned (.bool false) ∧ Ext w1 w') := Lib.hid fun w1 hx => qat (h.ext hx) _ zaq h0
 have T1 : RowKit.Hid (∀ w1, Ext w w1 → Calls Tryz.prog 127 #[.pointer (some ⟨b, 0, none⟩), .string ⟨#[110, 111, 116]⟩] w1 fun e w' => e = .returned (.bool false) ∧ Ext w1 w') := Lib.hid fun w1 hx => qat (h.ext hx) _ zaq h1
 have T2 : RowKit.Hid (∀ w1, Ext w w1 → Calls Tryz.prog 127 #[.pointer (some ⟨b, 0, none⟩), .string ⟨#[45]⟩] w1 fun e w' => e = .returned (.bool false) ∧ Ext w1 w') := Lib.hid fun w1 hx => qat (h.ext hx) _ zaq h2
 have TY : RowKit.Hid (∀ w1, Ext w w1 → Calls Tryz.prog 127 #[.pointer (some ⟨b, 0, none⟩), .string ⟨#[103, 101, 116]⟩] w1 fun e w' => e = .returned (.bool true) ∧ Rt b lb lo cap nv L (m + 1) N 0 0 w' ∧ Kp b nv nv w1 w') := Lib.hid fun w1 hx => qbn (h.ext hx) _ zaq hp
 have HE := Lib.hid he
 have HS0 := Lib.hid (h.cast (List.append_nil N).symm)
 have HK0 := Lib.hid (Kp.refl b nv w)
 have HM0 := Lib.hid (Nat.le_refl m)
 have HR0 := Lib.hid (qaz hr)
 unfold callP at HR0
 have HR1 := Lib.hid (qaf HR0.out (show skipP m _ = .ok ((), m + 1, []) from rfl))
 have HM1 := Lib.hid (Nat.le_succ m)
 clear h he hr hp h0 h1 h2 
 go_enter Tryz.func146, Tryz.ntmps146
 go_wp2_with ((go_at_call 127; (with_reducible refine (T0.out _ zac).mono ?_); rintro e _ ⟨rfl, d9, os9, rfl⟩))
 go_loopg [6] (2) (fun g x wr => ∃ z : Int, x = .int .i64 z ∧ (z = 0 ∨ z = 1 ∨ z = 2) ∧ 2 ≤ z + g ∧ Ext w wr)
 case atStart => exact ⟨0, rfl, by omega, by omega, zac⟩
 case round =>
  obtain ⟨z, rfl, hz, hg, hx⟩ := hrel
  obtain ⟨dw6, ow6, rfl⟩ := hx
  have HG := Lib.hid hg
  clear hg
  rcases hz with rfl | rfl | rfl
  · go_wp2_with ((go_at_call 127; (with_reducible refine (T1.out _ zac).mono ?_); rintro e _ ⟨rfl, d9, os9, rfl⟩))
    obtain ⟨g0, rfl⟩ : ∃ g0, gk = g0 + 1 := ⟨gk - 1, by have := HG.out; omega⟩
    go_roundg g0
    case measure => omega
    case rel => exact ⟨1, by go_num, by omega, by have := HG.out; omega, zac⟩
  · go_wp2_with ((go_at_call 127; (with_reducible refine (T2.out _ zac).mono ?_); rintro e _ ⟨rfl, d9, os9, rfl⟩))
    obtain ⟨g0, rfl⟩ : ∃ g0, gk = g0 + 1 := ⟨gk - 1, by have := HG.out; omega⟩
    go_roundg g0
    case measure => omega
    case rel => exact ⟨2, by go_num, by omega, by have := HG.out; omega, zac⟩
  · skip
    go_wp2_with fail
    go_loopg [7] (4) (fun g x wr => ∃ z : Int, x = .int .i64 z ∧ (z = 0) ∧ 4 ≤ z + g ∧ Ext w wr)
    case atStart => exact ⟨0, rfl, by omega, by omega, zac⟩
    case round =>
     obtain ⟨z, rfl, hz, hg, hx⟩ := hrel
     obtain ⟨dw7, ow7, rfl⟩ := hx
     have HG := Lib.hid hg
     clear hg
     subst hz
     · skip
       go_wp2_with ((go_at_call 127; (with_reducible refine (TY.out _ zac).mono ?_); rintro e w1 ⟨rfl, hs1, hk1⟩; have HS1 := Lib.hid (hs1.cast (show N = N ++ ([] ++ []) by simp)); have HK1 := Lib.hid (((Kp.refl b nv w).ext zac).trans hk1); obtain ⟨u0, u1, u2, u3, u4, y0, y1, y2, y3, hbb⟩ := hs1.facts; clear hs1 hk1 u0 u1 u2 u4 y0 y1 y2 y3))
       go_at_call 123
       obtain ⟨r2, h2⟩ := qaj HR1.out
       refine (qao (show Rt b lb lo cap nv L (m + 1) (N ++ ([] ++ [])) 0 0 _ from zao) _ zaq r2 zcl).mono ?_
       have HH := Lib.hid h2; clear h2
       rcases r2 with ⟨e1, e2⟩ | ⟨v2, m2, ns2⟩
       · rintro e wE ⟨hc, ⟨v, rfl, rfl⟩, nvE, mE, NE, hsE, hkE⟩
         have HC := Lib.hid hc
         have HSE := Lib.hid hsE
         have HKE := Lib.hid (Kp.trans (show Kp b nv nv w _ from zaf) hkE)
         clear hc hsE hkE
         go_wp2_with (first
          | ((go_at_call 125; (with_reducible refine (qad HC.out (show Rt b lb lo cap nvE L mE NE e1 e2 _ from zae) _ _ _ _ _ _ _ _).mono ?_); rintro e _ ⟨rfl, d6, os6, rfl⟩))
          | ((go_at_call 123; (with_reducible refine (qam HC.out (show Rt b lb lo cap nvE L mE NE e1 e2 _ from zae) _ zaq).mono ?_); rintro e _ ⟨rfl, d7, os7, rfl⟩))
          | ((go_at_call 124; (with_reducible refine (qaB HC.out (show Rt b lb lo cap nvE L mE NE e1 e2 _ from zae) _).mono ?_); rintro e _ ⟨rfl, d8, os8, rfl⟩))
          | ((go_at_call 122; (with_reducible refine (qal _ _ _ _).mono ?_); rintro e _ ⟨rfl, d3, os3, rfl⟩)))
         go_ret
         have := qak HR1.out HH.out
         subst this
         exact RPost.err HC.out ⟨_, rfl⟩ zae zak
       rintro e w2 ⟨he, nv2, hs, hk, hm⟩
       unfold unitV at he
       subst he
       have HR2 := Lib.hid (qaf HR1.out HH.out)
       have HS2 := Lib.hid (hs.cast (List.append_assoc _ _ _))
       have HM2 := Lib.hid (Nat.le_trans HM1.out hm)
       have HK2 := Lib.hid (Kp.trans (show Kp b nv nv w _ from zaf) hk)
       clear hs hk hm
       go_wp2_with fail
       go_at_call 124
       obtain ⟨r3, h3⟩ := qaj HR2.out
       refine (HE.out _ _ _ _ (show Rt b lb lo cap nv2 L m2 (N ++ (([] ++ []) ++ ns2)) 0 0 _ from zaw) r3 zda).mono ?_
       have HH := Lib.hid h3; clear h3
       rcases r3 with ⟨e1, e2⟩ | ⟨v3, m3, ns3⟩
       · rintro e wE ⟨hc, ⟨v, rfl, yq, rfl⟩, nvE, mE, NE, hsE, hkE⟩
         have HC := Lib.hid hc
         have HSE := Lib.hid hsE
         have HKE := Lib.hid (Kp.trans (show Kp b nv nv2 w _ from zaj) hkE)
         clear hc hsE hkE
         go_wp2_with (first
          | ((go_at_call 125; (with_reducible refine (qad HC.out (show Rt b lb lo cap nvE L mE NE e1 e2 _ from zae) _ _ _ _ _ _ _ _).mono ?_); rintro e _ ⟨rfl, d6, os6, rfl⟩))
          | ((go_at_call 123; (with_reducible refine (qam HC.out (show Rt b lb lo cap nvE L mE NE e1 e2 _ from zae) _ zaq).mono ?_); rintro e _ ⟨rfl, d7, os7, rfl⟩))
          | ((go_at_call 122; (with_reducible refine (qal _ _ _ _).mono ?_); rintro e _ ⟨rfl, d3, os3, rfl⟩)))
         go_ret
         have := qak HR2.out HH.out
         subst this
         exact RPost.err HC.out ⟨_, rfl⟩ zae zak
       rintro e w3 ⟨he, nv3, hs, hk, hm⟩
       unfold intV at he
       subst he
       have HR3 := Lib.hid (qaf HR2.out HH.out)
       have HS3 := Lib.hid (hs.cast (List.append_assoc _ _ _))
       have HM3 := Lib.hid (Nat.le_trans HM2.out hm)
       have HK3 := Lib.hid (Kp.trans (show Kp b nv nv2 w _ from zaj) hk)
       clear hs hk hm
       go_wp2_with fail
       go_at_call 123
       obtain ⟨r4, h4⟩ := qaj HR3.out
       refine (qao (show Rt b lb lo cap nv3 L m3 (N ++ ((([] ++ []) ++ ns2) ++ ns3)) 0 0 _ from zch) _ zaq r4 zdh).mono ?_
       have HH := Lib.hid h4; clear h4
       rcases r4 with ⟨e1, e2⟩ | ⟨v4, m4, ns4⟩
       · rintro e wE ⟨hc, ⟨v, rfl, rfl⟩, nvE, mE, NE, hsE, hkE⟩
         have HC := Lib.hid hc
         have HSE := Lib.hid hsE
         have HKE := Lib.hid (Kp.trans (show Kp b nv nv3 w _ from zbc) hkE)
         clear hc hsE hkE
         go_wp2_with (first
          | ((go_at_call 125; (with_reducible refine (qad HC.out (show Rt b lb lo cap nvE L mE NE e1 e2 _ from zae) _ _ _ _ _ _ _ _).mono ?_); rintro e _ ⟨rfl, d6, os6, rfl⟩))
          | ((go_at_call 122; (with_reducible refine (qal _ _ _ _).mono ?_); rintro e _ ⟨rfl, d3, os3, rfl⟩)))
         go_ret
         have := qak HR3.out HH.out
         subst this
         exact RPost.err HC.out ⟨_, rfl⟩ zae zak
       rintro e w4 ⟨he, nv4, hs, hk, hm⟩
       unfold unitV at he
       subst he
       have HR4 := Lib.hid (qaf HR3.out HH.out)
       have HS4 := Lib.hid (hs.cast (List.append_assoc _ _ _))
       have HM4 := Lib.hid (Nat.le_trans HM3.out hm)
       have HK4 := Lib.hid (Kp.trans (show Kp b nv nv3 w _ from zbc) hk)
       clear hs hk hm
       go_wp2_with ((go_at_call 122; (with_reducible refine (qal _ _ _ _).mono ?_); rintro e _ ⟨rfl, d3, os3, rfl⟩))
       go_at_call 125
       obtain ⟨r5, h5⟩ := qaC HR4.out
       refine (qaw (show Rt b lb lo cap nv4 L m4 (N ++ (((([] ++ []) ++ ns2) ++ ns3) ++ ns4)) 0 0 _ from zbn) _ _ _ _ _ _ _ _ r5 zdm).mono ?_
       have HH := Lib.hid h5; clear h5
       rcases r5 with ⟨e1, e2⟩ | ⟨v5, m5, ns5⟩
       · rintro e wE ⟨hc, ⟨v, rfl, yq, rfl⟩, nvE, mE, NE, hsE, hkE⟩
         have HC := Lib.hid hc
         have HSE := Lib.hid hsE
         have HKE := Lib.hid (Kp.trans (show Kp b nv nv4 w _ from zba) hkE)
         clear hc hsE hkE
         go_wp2_with fail
         go_ret
         have := qaO HR4.out HH.out
         subst this
         exact RPost.err HC.out ⟨_, rfl⟩ zae zak
       rintro e w5 ⟨he, nv5, hs, hk, hm⟩
       unfold intV at he
       subst he
       have HS5 := Lib.hid (hs.cast (List.append_assoc _ _ _))
       have HM5 := Lib.hid (Nat.le_trans HM4.out hm)
       have HK5 := Lib.hid (Kp.trans (show Kp b nv nv4 w _ from zba) hk)
       clear hs hk hm
       go_wp2_with fail
       go_ret
       have := qaX HR4.out HH.out
       subst this
       exact RPost.res rfl HS5.out HK5.out HM5.out
set_option maxHeartbeats 4000000 in
set_option maxRecDepth 20000 in
theorem more_call1 {b lb lo cap : Nat} {nv : Value} {L : Toks} {m : Nat} {N : List Nd} {w : World} (h : Rt b lb lo cap nv L m N 0 0 w) (h0 : isP L sOpen m = false) (h1 : isP L sNot m = false) (h2 : isP L sMinus m = false) (g0 : isP L sGet m = false) (hp : isP L sHas m = true) (d : Nat) (hd : d ≤ 16) (e1 : PM Int) (he : RDp b lb lo cap L 124 ((d : Int) + 1) e1) (r : PR Int) (hr : callP L 6 e1 m N.length = r) :
  Calls Tryz.prog 146 #[.pointer (some ⟨b, 0, none⟩), .int .i64 (d : Int)] w (RPost intV isInt b lb lo cap nv L m N w r) := by
 have hd0 : 0 ≤ (d : Int) := by omega
 have hd1 : (d : Int) ≤ 16 := by omega
 have T0 : RowKit.Hid (∀ w1, Ext w w1 → Calls Tryz.prog 127 #[.pointer (some ⟨b, 0, none⟩), .string ⟨#[40]⟩] w1 fun e w' => e = .returned (.bool false) ∧ Ext w1 w') := Lib.hid fun w1 hx => qat (h.ext hx) _ zaq h0
 have T1 : RowKit.Hid (∀ w1, Ext w w1 → Calls Tryz.prog 127 #[.pointer (some ⟨b, 0, none⟩), .string ⟨#[110, 111, 116]⟩] w1 fun e w' => e = .returned (.bool false) ∧ Ext w1 w') := Lib.hid fun w1 hx => qat (h.ext hx) _ zaq h1
 have T2 : RowKit.Hid (∀ w1, Ext w w1 → Calls Tryz.prog 127 #[.pointer (some ⟨b, 0, none⟩), .string ⟨#[45]⟩] w1 fun e w' => e = .returned (.bool false) ∧ Ext w1 w') := Lib.hid fun w1 hx => qat (h.ext hx) _ zaq h2
 have G0 : RowKit.Hid (∀ w1, Ext w w1 → Calls Tryz.prog 127 #[.pointer (some ⟨b, 0, none⟩), .string ⟨#[103, 101, 116]⟩] w1 fun e w' => e = .returned (.bool false) ∧ Ext w1 w') := Lib.hid fun w1 hx => qat (h.ext hx) _ zaq g0
 have TY : RowKit.Hid (∀ w1, Ext w w1 → Calls Tryz.prog 127 #[.pointer (some ⟨b, 0, none⟩), .string ⟨#[104, 97, 115]⟩] w1 fun e w' => e = .returned (.bool true) ∧ Rt b lb lo cap nv L (m + 1) N 0 0 w' ∧ Kp b nv nv w1 w') := Lib.hid fun w1 hx => qbn (h.ext hx) _ zaq hp
 have HE := Lib.hid he
 have HS0 := Lib.hid (h.cast (List.append_nil N).symm)
 have HK0 := Lib.hid (Kp.refl b nv w)
 have HM0 := Lib.hid (Nat.le_refl m)
 have HR0 := Lib.hid (qaz hr)
 unfold callP at HR0
 have HR1 := Lib.hid (qaf HR0.out (show skipP m _ = .ok ((), m + 1, []) from rfl))
 have HM1 := Lib.hid (Nat.le_succ m)
 clear h he hr hp h0 h1 h2 g0
 go_enter Tryz.func146, Tryz.ntmps146
 go_wp2_with ((go_at_call 127; (with_reducible refine (T0.out _ zac).mono ?_); rintro e _ ⟨rfl, d9, os9, rfl⟩))
 go_loopg [6] (2) (fun g x wr => ∃ z : Int, x = .int .i64 z ∧ (z = 0 ∨ z = 1 ∨ z = 2) ∧ 2 ≤ z + g ∧ Ext w wr)
 case atStart => exact ⟨0, rfl, by omega, by omega, zac⟩
 case round =>
  obtain ⟨z, rfl, hz, hg, hx⟩ := hrel
  obtain ⟨dw6, ow6, rfl⟩ := hx
  have HG := Lib.hid hg
  clear hg
  rcases hz with rfl | rfl | rfl
  · go_wp2_with ((go_at_call 127; (with_reducible refine (T1.out _ zac).mono ?_); rintro e _ ⟨rfl, d9, os9, rfl⟩))
    obtain ⟨g0, rfl⟩ : ∃ g0, gk = g0 + 1 := ⟨gk - 1, by have := HG.out; omega⟩
    go_roundg g0
    case measure => omega
    case rel => exact ⟨1, by go_num, by omega, by have := HG.out; omega, zac⟩
  · go_wp2_with ((go_at_call 127; (with_reducible refine (T2.out _ zac).mono ?_); rintro e _ ⟨rfl, d9, os9, rfl⟩))
    obtain ⟨g0, rfl⟩ : ∃ g0, gk = g0 + 1 := ⟨gk - 1, by have := HG.out; omega⟩
    go_roundg g0
    case measure => omega
    case rel => exact ⟨2, by go_num, by omega, by have := HG.out; omega, zac⟩
  · skip
    go_wp2_with fail
    go_loopg [7] (4) (fun g x wr => ∃ z : Int, x = .int .i64 z ∧ (z = 0 ∨ z = 1) ∧ 4 ≤ z + g ∧ Ext w wr)
    case atStart => exact ⟨0, rfl, by omega, by omega, zac⟩
    case round =>
     obtain ⟨z, rfl, hz, hg, hx⟩ := hrel
     obtain ⟨dw7, ow7, rfl⟩ := hx
     have HG := Lib.hid hg
     clear hg
     rcases hz with rfl | rfl
     · go_wp2_with ((go_at_call 127; (with_reducible refine (G0.out _ zac).mono ?_); rintro e _ ⟨rfl, d9, os9, rfl⟩))
       obtain ⟨g0, rfl⟩ : ∃ g0, gk = g0 + 1 := ⟨gk - 1, by have := HG.out; omega⟩
       go_roundg g0
       case measure => omega
       case rel => exact ⟨1, by go_num, by omega, by have := HG.out; omega, zac⟩
     · skip
       go_wp2_with ((go_at_call 127; (with_reducible refine (TY.out _ zac).mono ?_); rintro e w1 ⟨rfl, hs1, hk1⟩; have HS1 := Lib.hid (hs1.cast (show N = N ++ ([] ++ []) by simp)); have HK1 := Lib.hid (((Kp.refl b nv w).ext zac).trans hk1); obtain ⟨u0, u1, u2, u3, u4, y0, y1, y2, y3, hbb⟩ := hs1.facts; clear hs1 hk1 u0 u1 u2 u4 y0 y1 y2 y3))
       go_at_call 123
       obtain ⟨r2, h2⟩ := qaj HR1.out
       refine (qao (show Rt b lb lo cap nv L (m + 1) (N ++ ([] ++ [])) 0 0 _ from zao) _ zaq r2 zcl).mono ?_
       have HH := Lib.hid h2; clear h2
       rcases r2 with ⟨e1, e2⟩ | ⟨v2, m2, ns2⟩
       · rintro e wE ⟨hc, ⟨v, rfl, rfl⟩, nvE, mE, NE, hsE, hkE⟩
         have HC := Lib.hid hc
         have HSE := Lib.hid hsE
         have HKE := Lib.hid (Kp.trans (show Kp b nv nv w _ from zaf) hkE)
         clear hc hsE hkE
         go_wp2_with (first
          | ((go_at_call 125; (with_reducible refine (qad HC.out (show Rt b lb lo cap nvE L mE NE e1 e2 _ from zae) _ _ _ _ _ _ _ _).mono ?_); rintro e _ ⟨rfl, d6, os6, rfl⟩))
          | ((go_at_call 123; (with_reducible refine (qam HC.out (show Rt b lb lo cap nvE L mE NE e1 e2 _ from zae) _ zaq).mono ?_); rintro e _ ⟨rfl, d7, os7, rfl⟩))
          | ((go_at_call 124; (with_reducible refine (qaB HC.out (show Rt b lb lo cap nvE L mE NE e1 e2 _ from zae) _).mono ?_); rintro e _ ⟨rfl, d8, os8, rfl⟩))
          | ((go_at_call 122; (with_reducible refine (qal _ _ _ _).mono ?_); rintro e _ ⟨rfl, d3, os3, rfl⟩)))
         go_ret
         have := qak HR1.out HH.out
         subst this
         exact RPost.err HC.out ⟨_, rfl⟩ zae zak
       rintro e w2 ⟨he, nv2, hs, hk, hm⟩
       unfold unitV at he
       subst he
       have HR2 := Lib.hid (qaf HR1.out HH.out)
       have HS2 := Lib.hid (hs.cast (List.append_assoc _ _ _))
       have HM2 := Lib.hid (Nat.le_trans HM1.out hm)
       have HK2 := Lib.hid (Kp.trans (show Kp b nv nv w _ from zaf) hk)
       clear hs hk hm
       go_wp2_with fail
       go_at_call 124
       obtain ⟨r3, h3⟩ := qaj HR2.out
       refine (HE.out _ _ _ _ (show Rt b lb lo cap nv2 L m2 (N ++ (([] ++ []) ++ ns2)) 0 0 _ from zaw) r3 zda).mono ?_
       have HH := Lib.hid h3; clear h3
       rcases r3 with ⟨e1, e2⟩ | ⟨v3, m3, ns3⟩
       · rintro e wE ⟨hc, ⟨v, rfl, yq, rfl⟩, nvE, mE, NE, hsE, hkE⟩
         have HC := Lib.hid hc
         have HSE := Lib.hid hsE
         have HKE := Lib.hid (Kp.trans (show Kp b nv nv2 w _ from zaj) hkE)
         clear hc hsE hkE
         go_wp2_with (first
          | ((go_at_call 125; (with_reducible refine (qad HC.out (show Rt b lb lo cap nvE L mE NE e1 e2 _ from zae) _ _ _ _ _ _ _ _).mono ?_); rintro e _ ⟨rfl, d6, os6, rfl⟩))
          | ((go_at_call 123; (with_reducible refine (qam HC.out (show Rt b lb lo cap nvE L mE NE e1 e2 _ from zae) _ zaq).mono ?_); rintro e _ ⟨rfl, d7, os7, rfl⟩))
          | ((go_at_call 122; (with_reducible refine (qal _ _ _ _).mono ?_); rintro e _ ⟨rfl, d3, os3, rfl⟩)))
         go_ret
         have := qak HR2.out HH.out
         subst this
         exact RPost.err HC.out ⟨_, rfl⟩ zae zak
       rintro e w3 ⟨he, nv3, hs, hk, hm⟩
       unfold intV at he
       subst he
       have HR3 := Lib.hid (qaf HR2.out HH.out)
       have HS3 := Lib.hid (hs.cast (List.append_assoc _ _ _))
       have HM3 := Lib.hid (Nat.le_trans HM2.out hm)
       have HK3 := Lib.hid (Kp.trans (show Kp b nv nv2 w _ from zaj) hk)
       clear hs hk hm
       go_wp2_with fail
       go_at_call 123
       obtain ⟨r4, h4⟩ := qaj HR3.out
       refine (qao (show Rt b lb lo cap nv3 L m3 (N ++ ((([] ++ []) ++ ns2) ++ ns3)) 0 0 _ from zch) _ zaq r4 zdh).mono ?_
       have HH := Lib.hid h4; clear h4
       rcases r4 with ⟨e1, e2⟩ | ⟨v4, m4, ns4⟩
       · rintro e wE ⟨hc, ⟨v, rfl, rfl⟩, nvE, mE, NE, hsE, hkE⟩
         have HC := Lib.hid hc
         have HSE := Lib.hid hsE
         have HKE := Lib.hid (Kp.trans (show Kp b nv nv3 w _ from zbc) hkE)
         clear hc hsE hkE
         go_wp2_with (first
          | ((go_at_call 125; (with_reducible refine (qad HC.out (show Rt b lb lo cap nvE L mE NE e1 e2 _ from zae) _ _ _ _ _ _ _ _).mono ?_); rintro e _ ⟨rfl, d6, os6, rfl⟩))
          | ((go_at_call 122; (with_reducible refine (qal _ _ _ _).mono ?_); rintro e _ ⟨rfl, d3, os3, rfl⟩)))
         go_ret
         have := qak HR3.out HH.out
         subst this
         exact RPost.err HC.out ⟨_, rfl⟩ zae zak
       rintro e w4 ⟨he, nv4, hs, hk, hm⟩
       unfold unitV at he
       subst he
       have HR4 := Lib.hid (qaf HR3.out HH.out)
       have HS4 := Lib.hid (hs.cast (List.append_assoc _ _ _))
       have HM4 := Lib.hid (Nat.le_trans HM3.out hm)
       have HK4 := Lib.hid (Kp.trans (show Kp b nv nv3 w _ from zbc) hk)
       clear hs hk hm
       go_wp2_with ((go_at_call 122; (with_reducible refine (qal _ _ _ _).mono ?_); rintro e _ ⟨rfl, d3, os3, rfl⟩))
       go_at_call 125
       obtain ⟨r5, h5⟩ := qaC HR4.out
       refine (qaw (show Rt b lb lo cap nv4 L m4 (N ++ (((([] ++ []) ++ ns2) ++ ns3) ++ ns4)) 0 0 _ from zbn) _ _ _ _ _ _ _ _ r5 zdm).mono ?_
       have HH := Lib.hid h5; clear h5
       rcases r5 with ⟨e1, e2⟩ | ⟨v5, m5, ns5⟩
       · rintro e wE ⟨hc, ⟨v, rfl, yq, rfl⟩, nvE, mE, NE, hsE, hkE⟩
         have HC := Lib.hid hc
         have HSE := Lib.hid hsE
         have HKE := Lib.hid (Kp.trans (show Kp b nv nv4 w _ from zba) hkE)
         clear hc hsE hkE
         go_wp2_with fail
         go_ret
         have := qaO HR4.out HH.out
         subst this
         exact RPost.err HC.out ⟨_, rfl⟩ zae zak
       rintro e w5 ⟨he, nv5, hs, hk, hm⟩
       unfold intV at he
       subst he
       have HS5 := Lib.hid (hs.cast (List.append_assoc _ _ _))
       have HM5 := Lib.hid (Nat.le_trans HM4.out hm)
       have HK5 := Lib.hid (Kp.trans (show Kp b nv nv4 w _ from zba) hk)
       clear hs hk hm
       go_wp2_with fail
       go_ret
       have := qaX HR4.out HH.out
       subst this
       exact RPost.res rfl HS5.out HK5.out HM5.out
set_option maxHeartbeats 4000000 in
set_option maxRecDepth 20000 in
theorem more_call2 {b lb lo cap : Nat} {nv : Value} {L : Toks} {m : Nat} {N : List Nd} {w : World} (h : Rt b lb lo cap nv L m N 0 0 w) (h0 : isP L sOpen m = false) (h1 : isP L sNot m = false) (h2 : isP L sMinus m = false) (g0 : isP L sGet m = false) (g1 : isP L sHas m = false) (hp : isP L sLen m = true) (d : Nat) (hd : d ≤ 16) (e1 : PM Int) (he : RDp b lb lo cap L 124 ((d : Int) + 1) e1) (r : PR Int) (hr : callP L 7 e1 m N.length = r) :
  Calls Tryz.prog 146 #[.pointer (some ⟨b, 0, none⟩), .int .i64 (d : Int)] w (RPost intV isInt b lb lo cap nv L m N w r) := by
 have hd0 : 0 ≤ (d : Int) := by omega
 have hd1 : (d : Int) ≤ 16 := by omega
 have T0 : RowKit.Hid (∀ w1, Ext w w1 → Calls Tryz.prog 127 #[.pointer (some ⟨b, 0, none⟩), .string ⟨#[40]⟩] w1 fun e w' => e = .returned (.bool false) ∧ Ext w1 w') := Lib.hid fun w1 hx => qat (h.ext hx) _ zaq h0
 have T1 : RowKit.Hid (∀ w1, Ext w w1 → Calls Tryz.prog 127 #[.pointer (some ⟨b, 0, none⟩), .string ⟨#[110, 111, 116]⟩] w1 fun e w' => e = .returned (.bool false) ∧ Ext w1 w') := Lib.hid fun w1 hx => qat (h.ext hx) _ zaq h1
 have T2 : RowKit.Hid (∀ w1, Ext w w1 → Calls Tryz.prog 127 #[.pointer (some ⟨b, 0, none⟩), .string ⟨#[45]⟩] w1 fun e w' => e = .returned (.bool false) ∧ Ext w1 w') := Lib.hid fun w1 hx => qat (h.ext hx) _ zaq h2
 have G0 : RowKit.Hid (∀ w1, Ext w w1 → Calls Tryz.prog 127 #[.pointer (some ⟨b, 0, none⟩), .string ⟨#[103, 101, 116]⟩] w1 fun e w' => e = .returned (.bool false) ∧ Ext w1 w') := Lib.hid fun w1 hx => qat (h.ext hx) _ zaq g0
 have G1 : RowKit.Hid (∀ w1, Ext w w1 → Calls Tryz.prog 127 #[.pointer (some ⟨b, 0, none⟩), .string ⟨#[104, 97, 115]⟩] w1 fun e w' => e = .returned (.bool false) ∧ Ext w1 w') := Lib.hid fun w1 hx => qat (h.ext hx) _ zaq g1
 have TY : RowKit.Hid (∀ w1, Ext w w1 → Calls Tryz.prog 127 #[.pointer (some ⟨b, 0, none⟩), .string ⟨#[108, 101, 110]⟩] w1 fun e w' => e = .returned (.bool true) ∧ Rt b lb lo cap nv L (m + 1) N 0 0 w' ∧ Kp b nv nv w1 w') := Lib.hid fun w1 hx => qbn (h.ext hx) _ zaq hp
 have HE := Lib.hid he
 have HS0 := Lib.hid (h.cast (List.append_nil N).symm)
 have HK0 := Lib.hid (Kp.refl b nv w)
 have HM0 := Lib.hid (Nat.le_refl m)
 have HR0 := Lib.hid (qaz hr)
 unfold callP at HR0
 have HR1 := Lib.hid (qaf HR0.out (show skipP m _ = .ok ((), m + 1, []) from rfl))
 have HM1 := Lib.hid (Nat.le_succ m)
 clear h he hr hp h0 h1 h2 g0 g1
 go_enter Tryz.func146, Tryz.ntmps146
 go_wp2_with ((go_at_call 127; (with_reducible refine (T0.out _ zac).mono ?_); rintro e _ ⟨rfl, d9, os9, rfl⟩))
 go_loopg [6] (2) (fun g x wr => ∃ z : Int, x = .int .i64 z ∧ (z = 0 ∨ z = 1 ∨ z = 2) ∧ 2 ≤ z + g ∧ Ext w wr)
 case atStart => exact ⟨0, rfl, by omega, by omega, zac⟩
 case round =>
  obtain ⟨z, rfl, hz, hg, hx⟩ := hrel
  obtain ⟨dw6, ow6, rfl⟩ := hx
  have HG := Lib.hid hg
  clear hg
  rcases hz with rfl | rfl | rfl
  · go_wp2_with ((go_at_call 127; (with_reducible refine (T1.out _ zac).mono ?_); rintro e _ ⟨rfl, d9, os9, rfl⟩))
    obtain ⟨g0, rfl⟩ : ∃ g0, gk = g0 + 1 := ⟨gk - 1, by have := HG.out; omega⟩
    go_roundg g0
    case measure => omega
    case rel => exact ⟨1, by go_num, by omega, by have := HG.out; omega, zac⟩
  · go_wp2_with ((go_at_call 127; (with_reducible refine (T2.out _ zac).mono ?_); rintro e _ ⟨rfl, d9, os9, rfl⟩))
    obtain ⟨g0, rfl⟩ : ∃ g0, gk = g0 + 1 := ⟨gk - 1, by have := HG.out; omega⟩
    go_roundg g0
    case measure => omega
    case rel => exact ⟨2, by go_num, by omega, by have := HG.out; omega, zac⟩
  · skip
    go_wp2_with fail
    go_loopg [7] (4) (fun g x wr => ∃ z : Int, x = .int .i64 z ∧ (z = 0 ∨ z = 1 ∨ z = 2) ∧ 4 ≤ z + g ∧ Ext w wr)
    case atStart => exact ⟨0, rfl, by omega, by omega, zac⟩
    case round =>
     obtain ⟨z, rfl, hz, hg, hx⟩ := hrel
     obtain ⟨dw7, ow7, rfl⟩ := hx
     have HG := Lib.hid hg
     clear hg
     rcases hz with rfl | rfl | rfl
     · go_wp2_with ((go_at_call 127; (with_reducible refine (G0.out _ zac).mono ?_); rintro e _ ⟨rfl, d9, os9, rfl⟩))
       obtain ⟨g0, rfl⟩ : ∃ g0, gk = g0 + 1 := ⟨gk - 1, by have := HG.out; omega⟩
       go_roundg g0
       case measure => omega
       case rel => exact ⟨1, by go_num, by omega, by have := HG.out; omega, zac⟩
     · go_wp2_with ((go_at_call 127; (with_reducible refine (G1.out _ zac).mono ?_); rintro e _ ⟨rfl, d9, os9, rfl⟩))
       obtain ⟨g0, rfl⟩ : ∃ g0, gk = g0 + 1 := ⟨gk - 1, by have := HG.out; omega⟩
       go_roundg g0
       case measure => omega
       case rel => exact ⟨2, by go_num, by omega, by have := HG.out; omega, zac⟩
     · skip
       go_wp2_with ((go_at_call 127; (with_reducible refine (TY.out _ zac).mono ?_); rintro e w1 ⟨rfl, hs1, hk1⟩; have HS1 := Lib.hid (hs1.cast (show N = N ++ ([] ++ []) by simp)); have HK1 := Lib.hid (((Kp.refl b nv w).ext zac).trans hk1); obtain ⟨u0, u1, u2, u3, u4, y0, y1, y2, y3, hbb⟩ := hs1.facts; clear hs1 hk1 u0 u1 u2 u4 y0 y1 y2 y3))
       go_at_call 123
       obtain ⟨r2, h2⟩ := qaj HR1.out
       refine (qao (show Rt b lb lo cap nv L (m + 1) (N ++ ([] ++ [])) 0 0 _ from zao) _ zaq r2 zcl).mono ?_
       have HH := Lib.hid h2; clear h2
       rcases r2 with ⟨e1, e2⟩ | ⟨v2, m2, ns2⟩
       · rintro e wE ⟨hc, ⟨v, rfl, rfl⟩, nvE, mE, NE, hsE, hkE⟩
         have HC := Lib.hid hc
         have HSE := Lib.hid hsE
         have HKE := Lib.hid (Kp.trans (show Kp b nv nv w _ from zaf) hkE)
         clear hc hsE hkE
         go_wp2_with (first
          | ((go_at_call 125; (with_reducible refine (qad HC.out (show Rt b lb lo cap nvE L mE NE e1 e2 _ from zae) _ _ _ _ _ _ _ _).mono ?_); rintro e _ ⟨rfl, d6, os6, rfl⟩))
          | ((go_at_call 123; (with_reducible refine (qam HC.out (show Rt b lb lo cap nvE L mE NE e1 e2 _ from zae) _ zaq).mono ?_); rintro e _ ⟨rfl, d7, os7, rfl⟩))
          | ((go_at_call 124; (with_reducible refine (qaB HC.out (show Rt b lb lo cap nvE L mE NE e1 e2 _ from zae) _).mono ?_); rintro e _ ⟨rfl, d8, os8, rfl⟩))
          | ((go_at_call 122; (with_reducible refine (qal _ _ _ _).mono ?_); rintro e _ ⟨rfl, d3, os3, rfl⟩)))
         go_ret
         have := qak HR1.out HH.out
         subst this
         exact RPost.err HC.out ⟨_, rfl⟩ zae zak
       rintro e w2 ⟨he, nv2, hs, hk, hm⟩
       unfold unitV at he
       subst he
       have HR2 := Lib.hid (qaf HR1.out HH.out)
       have HS2 := Lib.hid (hs.cast (List.append_assoc _ _ _))
       have HM2 := Lib.hid (Nat.le_trans HM1.out hm)
       have HK2 := Lib.hid (Kp.trans (show Kp b nv nv w _ from zaf) hk)
       clear hs hk hm
       go_wp2_with fail
       go_at_call 124
       obtain ⟨r3, h3⟩ := qaj HR2.out
       refine (HE.out _ _ _ _ (show Rt b lb lo cap nv2 L m2 (N ++ (([] ++ []) ++ ns2)) 0 0 _ from zaw) r3 zda).mono ?_
       have HH := Lib.hid h3; clear h3
       rcases r3 with ⟨e1, e2⟩ | ⟨v3, m3, ns3⟩
       · rintro e wE ⟨hc, ⟨v, rfl, yq, rfl⟩, nvE, mE, NE, hsE, hkE⟩
         have HC := Lib.hid hc
         have HSE := Lib.hid hsE
         have HKE := Lib.hid (Kp.trans (show Kp b nv nv2 w _ from zaj) hkE)
         clear hc hsE hkE
         go_wp2_with (first
          | ((go_at_call 125; (with_reducible refine (qad HC.out (show Rt b lb lo cap nvE L mE NE e1 e2 _ from zae) _ _ _ _ _ _ _ _).mono ?_); rintro e _ ⟨rfl, d6, os6, rfl⟩))
          | ((go_at_call 123; (with_reducible refine (qam HC.out (show Rt b lb lo cap nvE L mE NE e1 e2 _ from zae) _ zaq).mono ?_); rintro e _ ⟨rfl, d7, os7, rfl⟩))
          | ((go_at_call 122; (with_reducible refine (qal _ _ _ _).mono ?_); rintro e _ ⟨rfl, d3, os3, rfl⟩)))
         go_ret
         have := qak HR2.out HH.out
         subst this
         exact RPost.err HC.out ⟨_, rfl⟩ zae zak
       rintro e w3 ⟨he, nv3, hs, hk, hm⟩
       unfold intV at he
       subst he
       have HR3 := Lib.hid (qaf HR2.out HH.out)
       have HS3 := Lib.hid (hs.cast (List.append_assoc _ _ _))
       have HM3 := Lib.hid (Nat.le_trans HM2.out hm)
       have HK3 := Lib.hid (Kp.trans (show Kp b nv nv2 w _ from zaj) hk)
       clear hs hk hm
       go_wp2_with fail
       go_at_call 123
       obtain ⟨r4, h4⟩ := qaj HR3.out
       refine (qao (show Rt b lb lo cap nv3 L m3 (N ++ ((([] ++ []) ++ ns2) ++ ns3)) 0 0 _ from zch) _ zaq r4 zdh).mono ?_
       have HH := Lib.hid h4; clear h4
       rcases r4 with ⟨e1, e2⟩ | ⟨v4, m4, ns4⟩
       · rintro e wE ⟨hc, ⟨v, rfl, rfl⟩, nvE, mE, NE, hsE, hkE⟩
         have HC := Lib.hid hc
         have HSE := Lib.hid hsE
         have HKE := Lib.hid (Kp.trans (show Kp b nv nv3 w _ from zbc) hkE)
         clear hc hsE hkE
         go_wp2_with (first
          | ((go_at_call 125; (with_reducible refine (qad HC.out (show Rt b lb lo cap nvE L mE NE e1 e2 _ from zae) _ _ _ _ _ _ _ _).mono ?_); rintro e _ ⟨rfl, d6, os6, rfl⟩))
          | ((go_at_call 122; (with_reducible refine (qal _ _ _ _).mono ?_); rintro e _ ⟨rfl, d3, os3, rfl⟩)))
         go_ret
         have := qak HR3.out HH.out
         subst this
         exact RPost.err HC.out ⟨_, rfl⟩ zae zak
       rintro e w4 ⟨he, nv4, hs, hk, hm⟩
       unfold unitV at he
       subst he
       have HR4 := Lib.hid (qaf HR3.out HH.out)
       have HS4 := Lib.hid (hs.cast (List.append_assoc _ _ _))
       have HM4 := Lib.hid (Nat.le_trans HM3.out hm)
       have HK4 := Lib.hid (Kp.trans (show Kp b nv nv3 w _ from zbc) hk)
       clear hs hk hm
       go_wp2_with ((go_at_call 122; (with_reducible refine (qal _ _ _ _).mono ?_); rintro e _ ⟨rfl, d3, os3, rfl⟩))
       go_at_call 125
       obtain ⟨r5, h5⟩ := qaC HR4.out
       refine (qaw (show Rt b lb lo cap nv4 L m4 (N ++ (((([] ++ []) ++ ns2) ++ ns3) ++ ns4)) 0 0 _ from zbn) _ _ _ _ _ _ _ _ r5 zdm).mono ?_
       have HH := Lib.hid h5; clear h5
       rcases r5 with ⟨e1, e2⟩ | ⟨v5, m5, ns5⟩
       · rintro e wE ⟨hc, ⟨v, rfl, yq, rfl⟩, nvE, mE, NE, hsE, hkE⟩
         have HC := Lib.hid hc
         have HSE := Lib.hid hsE
         have HKE := Lib.hid (Kp.trans (show Kp b nv nv4 w _ from zba) hkE)
         clear hc hsE hkE
         go_wp2_with fail
         go_ret
         have := qaO HR4.out HH.out
         subst this
         exact RPost.err HC.out ⟨_, rfl⟩ zae zak
       rintro e w5 ⟨he, nv5, hs, hk, hm⟩
       unfold intV at he
       subst he
       have HS5 := Lib.hid (hs.cast (List.append_assoc _ _ _))
       have HM5 := Lib.hid (Nat.le_trans HM4.out hm)
       have HK5 := Lib.hid (Kp.trans (show Kp b nv nv4 w _ from zba) hk)
       clear hs hk hm
       go_wp2_with fail
       go_ret
       have := qaX HR4.out HH.out
       subst this
       exact RPost.res rfl HS5.out HK5.out HM5.out
set_option maxHeartbeats 4000000 in
set_option maxRecDepth 20000 in
theorem more_call3 {b lb lo cap : Nat} {nv : Value} {L : Toks} {m : Nat} {N : List Nd} {w : World} (h : Rt b lb lo cap nv L m N 0 0 w) (h0 : isP L sOpen m = false) (h1 : isP L sNot m = false) (h2 : isP L sMinus m = false) (g0 : isP L sGet m = false) (g1 : isP L sHas m = false) (g2 : isP L sLen m = false) (hp : isP L sShow m = true) (d : Nat) (hd : d ≤ 16) (e1 : PM Int) (he : RDp b lb lo cap L 124 ((d : Int) + 1) e1) (r : PR Int) (hr : callP L 8 e1 m N.length = r) :
  Calls Tryz.prog 146 #[.pointer (some ⟨b, 0, none⟩), .int .i64 (d : Int)] w (RPost intV isInt b lb lo cap nv L m N w r) := by
 have hd0 : 0 ≤ (d : Int) := by omega
 have hd1 : (d : Int) ≤ 16 := by omega
 have T0 : RowKit.Hid (∀ w1, Ext w w1 → Calls Tryz.prog 127 #[.pointer (some ⟨b, 0, none⟩), .string ⟨#[40]⟩] w1 fun e w' => e = .returned (.bool false) ∧ Ext w1 w') := Lib.hid fun w1 hx => qat (h.ext hx) _ zaq h0
 have T1 : RowKit.Hid (∀ w1, Ext w w1 → Calls Tryz.prog 127 #[.pointer (some ⟨b, 0, none⟩), .string ⟨#[110, 111, 116]⟩] w1 fun e w' => e = .returned (.bool false) ∧ Ext w1 w') := Lib.hid fun w1 hx => qat (h.ext hx) _ zaq h1
 have T2 : RowKit.Hid (∀ w1, Ext w w1 → Calls Tryz.prog 127 #[.pointer (some ⟨b, 0, none⟩), .string ⟨#[45]⟩] w1 fun e w' => e = .returned (.bool false) ∧ Ext w1 w') := Lib.hid fun w1 hx => qat (h.ext hx) _ zaq h2
 have G0 : RowKit.Hid (∀ w1, Ext w w1 → Calls Tryz.prog 127 #[.pointer (some ⟨b, 0, none⟩), .string ⟨#[103, 101, 116]⟩] w1 fun e w' => e = .returned (.bool false) ∧ Ext w1 w') := Lib.hid fun w1 hx => qat (h.ext hx) _ zaq g0
 have G1 : RowKit.Hid (∀ w1, Ext w w1 → Calls Tryz.prog 127 #[.pointer (some ⟨b, 0, none⟩), .string ⟨#[104, 97, 115]⟩] w1 fun e w' => e = .returned (.bool false) ∧ Ext w1 w') := Lib.hid fun w1 hx => qat (h.ext hx) _ zaq g1
 have G2 : RowKit.Hid (∀ w1, Ext w w1 → Calls Tryz.prog 127 #[.pointer (some ⟨b, 0, none⟩), .string ⟨#[108, 101, 110]⟩] w1 fun e w' => e = .returned (.bool false) ∧ Ext w1 w') := Lib.hid fun w1 hx => qat (h.ext hx) _ zaq g2
 have TY : RowKit.Hid (∀ w1, Ext w w1 → Calls Tryz.prog 127 #[.pointer (some ⟨b, 0, none⟩), .string ⟨#[115, 104, 111, 119]⟩] w1 fun e w' => e = .returned (.bool true) ∧ Rt b lb lo cap nv L (m + 1) N 0 0 w' ∧ Kp b nv nv w1 w') := Lib.hid fun w1 hx => qbn (h.ext hx) _ zaq hp
 have HE := Lib.hid he
 have HS0 := Lib.hid (h.cast (List.append_nil N).symm)
 have HK0 := Lib.hid (Kp.refl b nv w)
 have HM0 := Lib.hid (Nat.le_refl m)
 have HR0 := Lib.hid (qaz hr)
 unfold callP at HR0
 have HR1 := Lib.hid (qaf HR0.out (show skipP m _ = .ok ((), m + 1, []) from rfl))
 have HM1 := Lib.hid (Nat.le_succ m)
 clear h he hr hp h0 h1 h2 g0 g1 g2
 go_enter Tryz.func146, Tryz.ntmps146
 go_wp2_with ((go_at_call 127; (with_reducible refine (T0.out _ zac).mono ?_); rintro e _ ⟨rfl, d9, os9, rfl⟩))
 go_loopg [6] (2) (fun g x wr => ∃ z : Int, x = .int .i64 z ∧ (z = 0 ∨ z = 1 ∨ z = 2) ∧ 2 ≤ z + g ∧ Ext w wr)
 case atStart => exact ⟨0, rfl, by omega, by omega, zac⟩
 case round =>
  obtain ⟨z, rfl, hz, hg, hx⟩ := hrel
  obtain ⟨dw6, ow6, rfl⟩ := hx
  have HG := Lib.hid hg
  clear hg
  rcases hz with rfl | rfl | rfl
  · go_wp2_with ((go_at_call 127; (with_reducible refine (T1.out _ zac).mono ?_); rintro e _ ⟨rfl, d9, os9, rfl⟩))
    obtain ⟨g0, rfl⟩ : ∃ g0, gk = g0 + 1 := ⟨gk - 1, by have := HG.out; omega⟩
    go_roundg g0
    case measure => omega
    case rel => exact ⟨1, by go_num, by omega, by have := HG.out; omega, zac⟩
  · go_wp2_with ((go_at_call 127; (with_reducible refine (T2.out _ zac).mono ?_); rintro e _ ⟨rfl, d9, os9, rfl⟩))
    obtain ⟨g0, rfl⟩ : ∃ g0, gk = g0 + 1 := ⟨gk - 1, by have := HG.out; omega⟩
    go_roundg g0
    case measure => omega
    case rel => exact ⟨2, by go_num, by omega, by have := HG.out; omega, zac⟩
  · skip
    go_wp2_with fail
    go_loopg [7] (4) (fun g x wr => ∃ z : Int, x = .int .i64 z ∧ (z = 0 ∨ z = 1 ∨ z = 2 ∨ z = 3) ∧ 4 ≤ z + g ∧ Ext w wr)
    case atStart => exact ⟨0, rfl, by omega, by omega, zac⟩
    case round =>
     obtain ⟨z, rfl, hz, hg, hx⟩ := hrel
     obtain ⟨dw7, ow7, rfl⟩ := hx
     have HG := Lib.hid hg
     clear hg
     rcases hz with rfl | rfl | rfl | rfl
     · go_wp2_with ((go_at_call 127; (with_reducible refine (G0.out _ zac).mono ?_); rintro e _ ⟨rfl, d9, os9, rfl⟩))
       obtain ⟨g0, rfl⟩ : ∃ g0, gk = g0 + 1 := ⟨gk - 1, by have := HG.out; omega⟩
       go_roundg g0
       case measure => omega
       case rel => exact ⟨1, by go_num, by omega, by have := HG.out; omega, zac⟩
     · go_wp2_with ((go_at_call 127; (with_reducible refine (G1.out _ zac).mono ?_); rintro e _ ⟨rfl, d9, os9, rfl⟩))
       obtain ⟨g0, rfl⟩ : ∃ g0, gk = g0 + 1 := ⟨gk - 1, by have := HG.out; omega⟩
       go_roundg g0
       case measure => omega
       case rel => exact ⟨2, by go_num, by omega, by have := HG.out; omega, zac⟩
     · go_wp2_with ((go_at_call 127; (with_reducible refine (G2.out _ zac).mono ?_); rintro e _ ⟨rfl, d9, os9, rfl⟩))
       obtain ⟨g0, rfl⟩ : ∃ g0, gk = g0 + 1 := ⟨gk - 1, by have := HG.out; omega⟩
       go_roundg g0
       case measure => omega
       case rel => exact ⟨3, by go_num, by omega, by have := HG.out; omega, zac⟩
     · skip
       go_wp2_with ((go_at_call 127; (with_reducible refine (TY.out _ zac).mono ?_); rintro e w1 ⟨rfl, hs1, hk1⟩; have HS1 := Lib.hid (hs1.cast (show N = N ++ ([] ++ []) by simp)); have HK1 := Lib.hid (((Kp.refl b nv w).ext zac).trans hk1); obtain ⟨u0, u1, u2, u3, u4, y0, y1, y2, y3, hbb⟩ := hs1.facts; clear hs1 hk1 u0 u1 u2 u4 y0 y1 y2 y3))
       go_at_call 123
       obtain ⟨r2, h2⟩ := qaj HR1.out
       refine (qao (show Rt b lb lo cap nv L (m + 1) (N ++ ([] ++ [])) 0 0 _ from zao) _ zaq r2 zcl).mono ?_
       have HH := Lib.hid h2; clear h2
       rcases r2 with ⟨e1, e2⟩ | ⟨v2, m2, ns2⟩
       · rintro e wE ⟨hc, ⟨v, rfl, rfl⟩, nvE, mE, NE, hsE, hkE⟩
         have HC := Lib.hid hc
         have HSE := Lib.hid hsE
         have HKE := Lib.hid (Kp.trans (show Kp b nv nv w _ from zaf) hkE)
         clear hc hsE hkE
         go_wp2_with (first
          | ((go_at_call 125; (with_reducible refine (qad HC.out (show Rt b lb lo cap nvE L mE NE e1 e2 _ from zae) _ _ _ _ _ _ _ _).mono ?_); rintro e _ ⟨rfl, d6, os6, rfl⟩))
          | ((go_at_call 123; (with_reducible refine (qam HC.out (show Rt b lb lo cap nvE L mE NE e1 e2 _ from zae) _ zaq).mono ?_); rintro e _ ⟨rfl, d7, os7, rfl⟩))
          | ((go_at_call 124; (with_reducible refine (qaB HC.out (show Rt b lb lo cap nvE L mE NE e1 e2 _ from zae) _).mono ?_); rintro e _ ⟨rfl, d8, os8, rfl⟩))
          | ((go_at_call 122; (with_reducible refine (qal _ _ _ _).mono ?_); rintro e _ ⟨rfl, d3, os3, rfl⟩)))
         go_ret
         have := qak HR1.out HH.out
         subst this
         exact RPost.err HC.out ⟨_, rfl⟩ zae zak
       rintro e w2 ⟨he, nv2, hs, hk, hm⟩
       unfold unitV at he
       subst he
       have HR2 := Lib.hid (qaf HR1.out HH.out)
       have HS2 := Lib.hid (hs.cast (List.append_assoc _ _ _))
       have HM2 := Lib.hid (Nat.le_trans HM1.out hm)
       have HK2 := Lib.hid (Kp.trans (show Kp b nv nv w _ from zaf) hk)
       clear hs hk hm
       go_wp2_with fail
       go_at_call 124
       obtain ⟨r3, h3⟩ := qaj HR2.out
       refine (HE.out _ _ _ _ (show Rt b lb lo cap nv2 L m2 (N ++ (([] ++ []) ++ ns2)) 0 0 _ from zaw) r3 zda).mono ?_
       have HH := Lib.hid h3; clear h3
       rcases r3 with ⟨e1, e2⟩ | ⟨v3, m3, ns3⟩
       · rintro e wE ⟨hc, ⟨v, rfl, yq, rfl⟩, nvE, mE, NE, hsE, hkE⟩
         have HC := Lib.hid hc
         have HSE := Lib.hid hsE
         have HKE := Lib.hid (Kp.trans (show Kp b nv nv2 w _ from zaj) hkE)
         clear hc hsE hkE
         go_wp2_with (first
          | ((go_at_call 125; (with_reducible refine (qad HC.out (show Rt b lb lo cap nvE L mE NE e1 e2 _ from zae) _ _ _ _ _ _ _ _).mono ?_); rintro e _ ⟨rfl, d6, os6, rfl⟩))
          | ((go_at_call 123; (with_reducible refine (qam HC.out (show Rt b lb lo cap nvE L mE NE e1 e2 _ from zae) _ zaq).mono ?_); rintro e _ ⟨rfl, d7, os7, rfl⟩))
          | ((go_at_call 122; (with_reducible refine (qal _ _ _ _).mono ?_); rintro e _ ⟨rfl, d3, os3, rfl⟩)))
         go_ret
         have := qak HR2.out HH.out
         subst this
         exact RPost.err HC.out ⟨_, rfl⟩ zae zak
       rintro e w3 ⟨he, nv3, hs, hk, hm⟩
       unfold intV at he
       subst he
       have HR3 := Lib.hid (qaf HR2.out HH.out)
       have HS3 := Lib.hid (hs.cast (List.append_assoc _ _ _))
       have HM3 := Lib.hid (Nat.le_trans HM2.out hm)
       have HK3 := Lib.hid (Kp.trans (show Kp b nv nv2 w _ from zaj) hk)
       clear hs hk hm
       go_wp2_with fail
       go_at_call 123
       obtain ⟨r4, h4⟩ := qaj HR3.out
       refine (qao (show Rt b lb lo cap nv3 L m3 (N ++ ((([] ++ []) ++ ns2) ++ ns3)) 0 0 _ from zch) _ zaq r4 zdh).mono ?_
       have HH := Lib.hid h4; clear h4
       rcases r4 with ⟨e1, e2⟩ | ⟨v4, m4, ns4⟩
       · rintro e wE ⟨hc, ⟨v, rfl, rfl⟩, nvE, mE, NE, hsE, hkE⟩
         have HC := Lib.hid hc
         have HSE := Lib.hid hsE
         have HKE := Lib.hid (Kp.trans (show Kp b nv nv3 w _ from zbc) hkE)
         clear hc hsE hkE
         go_wp2_with (first
          | ((go_at_call 125; (with_reducible refine (qad HC.out (show Rt b lb lo cap nvE L mE NE e1 e2 _ from zae) _ _ _ _ _ _ _ _).mono ?_); rintro e _ ⟨rfl, d6, os6, rfl⟩))
          | ((go_at_call 122; (with_reducible refine (qal _ _ _ _).mono ?_); rintro e _ ⟨rfl, d3, os3, rfl⟩)))
         go_ret
         have := qak HR3.out HH.out
         subst this
         exact RPost.err HC.out ⟨_, rfl⟩ zae zak
       rintro e w4 ⟨he, nv4, hs, hk, hm⟩
       unfold unitV at he
       subst he
       have HR4 := Lib.hid (qaf HR3.out HH.out)
       have HS4 := Lib.hid (hs.cast (List.append_assoc _ _ _))
       have HM4 := Lib.hid (Nat.le_trans HM3.out hm)
       have HK4 := Lib.hid (Kp.trans (show Kp b nv nv3 w _ from zbc) hk)
       clear hs hk hm
       go_wp2_with ((go_at_call 122; (with_reducible refine (qal _ _ _ _).mono ?_); rintro e _ ⟨rfl, d3, os3, rfl⟩))
       go_at_call 125
       obtain ⟨r5, h5⟩ := qaC HR4.out
       refine (qaw (show Rt b lb lo cap nv4 L m4 (N ++ (((([] ++ []) ++ ns2) ++ ns3) ++ ns4)) 0 0 _ from zbn) _ _ _ _ _ _ _ _ r5 zdm).mono ?_
       have HH := Lib.hid h5; clear h5
       rcases r5 with ⟨e1, e2⟩ | ⟨v5, m5, ns5⟩
       · rintro e wE ⟨hc, ⟨v, rfl, yq, rfl⟩, nvE, mE, NE, hsE, hkE⟩
         have HC := Lib.hid hc
         have HSE := Lib.hid hsE
         have HKE := Lib.hid (Kp.trans (show Kp b nv nv4 w _ from zba) hkE)
         clear hc hsE hkE
         go_wp2_with fail
         go_ret
         have := qaO HR4.out HH.out
         subst this
         exact RPost.err HC.out ⟨_, rfl⟩ zae zak
       rintro e w5 ⟨he, nv5, hs, hk, hm⟩
       unfold intV at he
       subst he
       have HS5 := Lib.hid (hs.cast (List.append_assoc _ _ _))
       have HM5 := Lib.hid (Nat.le_trans HM4.out hm)
       have HK5 := Lib.hid (Kp.trans (show Kp b nv nv4 w _ from zba) hk)
       clear hs hk hm
       go_wp2_with fail
       go_ret
       have := qaX HR4.out HH.out
       subst this
       exact RPost.res rfl HS5.out HK5.out HM5.out
set_option maxHeartbeats 4000000 in
set_option maxRecDepth 20000 in
theorem more_none {b lb lo cap : Nat} {nv : Value} {L : Toks} {m : Nat} {N : List Nd} {w : World} (h : Rt b lb lo cap nv L m N 0 0 w) (h0 : isP L sOpen m = false) (h1 : isP L sNot m = false) (h2 : isP L sMinus m = false) (g0 : isP L sGet m = false) (g1 : isP L sHas m = false) (g2 : isP L sLen m = false) (g3 : isP L sShow m = false) (d : Int) (r : PR Int) (hr : pno L 3 m N.length = r) :
  Calls Tryz.prog 146 #[.pointer (some ⟨b, 0, none⟩), .int .i64 d] w (RPost intV isInt b lb lo cap nv L m N w r) := by
 have T0 : RowKit.Hid (∀ w1, Ext w w1 → Calls Tryz.prog 127 #[.pointer (some ⟨b, 0, none⟩), .string ⟨#[40]⟩] w1 fun e w' => e = .returned (.bool false) ∧ Ext w1 w') := Lib.hid fun w1 hx => qat (h.ext hx) _ zaq h0
 have T1 : RowKit.Hid (∀ w1, Ext w w1 → Calls Tryz.prog 127 #[.pointer (some ⟨b, 0, none⟩), .string ⟨#[110, 111, 116]⟩] w1 fun e w' => e = .returned (.bool false) ∧ Ext w1 w') := Lib.hid fun w1 hx => qat (h.ext hx) _ zaq h1
 have T2 : RowKit.Hid (∀ w1, Ext w w1 → Calls Tryz.prog 127 #[.pointer (some ⟨b, 0, none⟩), .string ⟨#[45]⟩] w1 fun e w' => e = .returned (.bool false) ∧ Ext w1 w') := Lib.hid fun w1 hx => qat (h.ext hx) _ zaq h2
 have G0 : RowKit.Hid (∀ w1, Ext w w1 → Calls Tryz.prog 127 #[.pointer (some ⟨b, 0, none⟩), .string ⟨#[103, 101, 116]⟩] w1 fun e w' => e = .returned (.bool false) ∧ Ext w1 w') := Lib.hid fun w1 hx => qat (h.ext hx) _ zaq g0
 have G1 : RowKit.Hid (∀ w1, Ext w w1 → Calls Tryz.prog 127 #[.pointer (some ⟨b, 0, none⟩), .string ⟨#[104, 97, 115]⟩] w1 fun e w' => e = .returned (.bool false) ∧ Ext w1 w') := Lib.hid fun w1 hx => qat (h.ext hx) _ zaq g1
 have G2 : RowKit.Hid (∀ w1, Ext w w1 → Calls Tryz.prog 127 #[.pointer (some ⟨b, 0, none⟩), .string ⟨#[108, 101, 110]⟩] w1 fun e w' => e = .returned (.bool false) ∧ Ext w1 w') := Lib.hid fun w1 hx => qat (h.ext hx) _ zaq g2
 have G3 : RowKit.Hid (∀ w1, Ext w w1 → Calls Tryz.prog 127 #[.pointer (some ⟨b, 0, none⟩), .string ⟨#[115, 104, 111, 119]⟩] w1 fun e w' => e = .returned (.bool false) ∧ Ext w1 w') := Lib.hid fun w1 hx => qat (h.ext hx) _ zaq g3
 have FL : RowKit.Hid (∀ w1, Ext w w1 → Calls Tryz.prog 84 #[.pointer (some ⟨b, 0, none⟩), .int .i64 3] w1 fun e w' => e = .returned (.tuple #[]) ∧ Rt b lb lo cap nv L m N 3 (tk L m).2 w' ∧ Kp b nv nv w1 w') := Lib.hid fun w1 hx => qbl (h.ext hx) 3 zaq
 have HR := Lib.hid hr
 clear h hr h0 h1 h2 g0 g1 g2 g3
 go_enter Tryz.func146, Tryz.ntmps146
 go_wp2_with ((go_at_call 127; (with_reducible refine (T0.out _ zac).mono ?_); rintro e _ ⟨rfl, d9, os9, rfl⟩))
 go_loopg [6] (2) (fun g x wr => ∃ z : Int, x = .int .i64 z ∧ (z = 0 ∨ z = 1 ∨ z = 2) ∧ 2 ≤ z + g ∧ Ext w wr)
 case atStart => exact ⟨0, rfl, by omega, by omega, zac⟩
 case round =>
  obtain ⟨z, rfl, hz, hg, hx⟩ := hrel
  obtain ⟨dw6, ow6, rfl⟩ := hx
  have HG := Lib.hid hg
  clear hg
  rcases hz with rfl | rfl | rfl
  · go_wp2_with ((go_at_call 127; (with_reducible refine (T1.out _ zac).mono ?_); rintro e _ ⟨rfl, d9, os9, rfl⟩))
    obtain ⟨g0, rfl⟩ : ∃ g0, gk = g0 + 1 := ⟨gk - 1, by have := HG.out; omega⟩
    go_roundg g0
    case measure => omega
    case rel => exact ⟨1, by go_num, by omega, by have := HG.out; omega, zac⟩
  · go_wp2_with ((go_at_call 127; (with_reducible refine (T2.out _ zac).mono ?_); rintro e _ ⟨rfl, d9, os9, rfl⟩))
    obtain ⟨g0, rfl⟩ : ∃ g0, gk = g0 + 1 := ⟨gk - 1, by have := HG.out; omega⟩
    go_roundg g0
    case measure => omega
    case rel => exact ⟨2, by go_num, by omega, by have := HG.out; omega, zac⟩
  · skip
    go_wp2_with fail
    go_loopg [7] (4) (fun g x wr => ∃ z : Int, x = .int .i64 z ∧ (z = 0 ∨ z = 1 ∨ z = 2 ∨ z = 3 ∨ z = 4) ∧ 4 ≤ z + g ∧ Ext w wr)
    case atStart => exact ⟨0, rfl, by omega, by omega, zac⟩
    case round =>
     obtain ⟨z, rfl, hz, hg, hx⟩ := hrel
     obtain ⟨dw7, ow7, rfl⟩ := hx
     have HG := Lib.hid hg
     clear hg
     rcases hz with rfl | rfl | rfl | rfl | rfl
     · go_wp2_with ((go_at_call 127; (with_reducible refine (G0.out _ zac).mono ?_); rintro e _ ⟨rfl, d9, os9, rfl⟩))
       obtain ⟨g0, rfl⟩ : ∃ g0, gk = g0 + 1 := ⟨gk - 1, by have := HG.out; omega⟩
       go_roundg g0
       case measure => omega
       case rel => exact ⟨1, by go_num, by omega, by have := HG.out; omega, zac⟩
     · go_wp2_with ((go_at_call 127; (with_reducible refine (G1.out _ zac).mono ?_); rintro e _ ⟨rfl, d9, os9, rfl⟩))
       obtain ⟨g0, rfl⟩ : ∃ g0, gk = g0 + 1 := ⟨gk - 1, by have := HG.out; omega⟩
       go_roundg g0
       case measure => omega
       case rel => exact ⟨2, by go_num, by omega, by have := HG.out; omega, zac⟩
     · go_wp2_with ((go_at_call 127; (with_reducible refine (G2.out _ zac).mono ?_); rintro e _ ⟨rfl, d9, os9, rfl⟩))
       obtain ⟨g0, rfl⟩ : ∃ g0, gk = g0 + 1 := ⟨gk - 1, by have := HG.out; omega⟩
       go_roundg g0
       case measure => omega
       case rel => exact ⟨3, by go_num, by omega, by have := HG.out; omega, zac⟩
     · go_wp2_with ((go_at_call 127; (with_reducible refine (G3.out _ zac).mono ?_); rintro e _ ⟨rfl, d9, os9, rfl⟩))
       obtain ⟨g0, rfl⟩ : ∃ g0, gk = g0 + 1 := ⟨gk - 1, by have := HG.out; omega⟩
       go_roundg g0
       case measure => omega
       case rel => exact ⟨4, by go_num, by omega, by have := HG.out; omega, zac⟩
     · skip
       go_wp2_with ((go_at_call 84; (with_reducible refine (FL.out _ zac).mono ?_); rintro e w2 ⟨rfl, hs2, hk2⟩; have HS2 := Lib.hid hs2; have HK2 := Lib.hid (((Kp.refl b nv w).ext zac).trans hk2); clear hs2 hk2))
       go_ret
       have := HR.out
       subst this
       exact RPost.err zaq ⟨_, rfl⟩ HS2.out HK2.out
end Go.Proofs.YtijmfpoanggjjaaGreatDoor
