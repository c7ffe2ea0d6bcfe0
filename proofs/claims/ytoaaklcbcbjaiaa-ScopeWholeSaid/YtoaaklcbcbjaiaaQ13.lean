/- Lemmas for the claim (texts Rar8, what its proof uses of them). -/
import Derived.Test.YtoaaklcbcbjaiaaQ12
set_option linter.unusedSimpArgs false
set_option linter.unusedVariables false
namespace Go.Proofs.Ytoaaklcbcbjaiaa
open Go.RowKit
attribute [go_sem] more_more Array.size_append
theorem needM_any {b lb lo cap : Nat} {nv : Value} {L : Toks} {m : Nat} {N : List Nd} {w : World} (h : Rt b lb lo cap nv L m N 0 0 w) (s : ByteArray) (hs : (s.size : Int) ≤ 100) (r : PR Unit) (hr : must1 L s m N.length = r) :
    Calls Try.prog 71 #[.pointer (some ⟨b, 0, none⟩), .string s] w (RPost unitV isUnit b lb lo cap nv L m N w r) := need_any h s hs r hr
set_option maxHeartbeats 4000000 in
set_option maxRecDepth 20000 in
theorem more_paren {b lb lo cap : Nat} {nv : Value} {L : Toks} {m : Nat} {N : List Nd} {w : World} (h : Rt b lb lo cap nv L m N 0 0 w) (hp : isP L sOpen m = true) (d : Nat) (hd : d ≤ 16) (e1 : PM Int) (he : RDp b lb lo cap L 72 ((d : Int) + 1) e1) (r : PR Int) (hr : parenP L e1 m N.length = r) :
    Calls Try.prog 129 #[.pointer (some ⟨b, 0, none⟩), .int .i64 (d : Int)] w (RPost intV isInt b lb lo cap nv L m N w r) := by
  have hd0 : 0 ≤ (d : Int) := by omega
  have hd1 : (d : Int) ≤ 16 := by omega
  have TY : RowKit.Hid (∀ w1, Ext w w1 → Calls Try.prog 75 #[.pointer (some ⟨b, 0, none⟩), .string ⟨#[40]⟩] w1 fun e w' => e = .returned (.bool true) ∧ Rt b lb lo cap nv L (m + 1) N 0 0 w' ∧ Kp b nv nv w1 w') := Lib.hid fun w1 hx => take_yes (h.ext hx) _ (by decide) hp
  have HE := Lib.hid he
  have HS0 := Lib.hid (h.cast (List.append_nil N).symm)
  have HK0 := Lib.hid (Kp.refl b nv w)
  have HM0 := Lib.hid (Nat.le_refl m)
  have HR0 := Lib.hid (start_hr hr)
  unfold parenP at HR0
  have HR1 := Lib.hid (step_ok HR0.out (show skipP m _ = .ok ((), m + 1, []) from rfl))
  have HM1 := Lib.hid (Nat.le_succ m)
  clear h he hr hp
  go_enter Try.func129, Try.ntmps129
  go_wp2_with ((go_at_call 75; (with_reducible refine (TY.out _ (by repeat (first | exact Ext.refl _ | apply Ext.alloc | apply Ext.more))).mono ?_); rintro e w1 ⟨rfl, hs1, hk1⟩; have HS1 := Lib.hid (hs1.cast (show N = N ++ ([] ++ []) by simp)); have HK1 := Lib.hid (((Kp.refl b nv w).ext (by repeat (first | exact Ext.refl _ | apply Ext.alloc | apply Ext.more))).trans hk1); obtain ⟨u0, u1, u2, u3, u4, y0, y1, y2, y3, hbb⟩ := hs1.facts; clear hs1 hk1 u0 u1 u2 u4 y0 y1 y2 y3))
  go_at_call 72
  obtain ⟨r2, h2⟩ := step_get HR1.out
  refine (HE.out _ _ _ _ (show Rt b lb lo cap nv L (m + 1) (N ++ ([] ++ [])) 0 0 _ from (by repeat (first | (with_reducible exact HS1.out) | (with_reducible apply Rt.alloc) | (with_reducible apply Rt.more)))) r2 (by rw [List.length_append]; exact h2)).mono ?_
  have HH := Lib.hid h2; clear h2
  rcases r2 with ⟨e1, e2⟩ | ⟨v2, m2, ns2⟩
  · rintro e wE ⟨hc, ⟨v, rfl, yq, rfl⟩, nvE, mE, NE, hsE, hkE⟩
    have HC := Lib.hid hc
    have HSE := Lib.hid hsE
    have HKE := Lib.hid (Kp.trans (show Kp b nv nv w _ from (by repeat (first | (with_reducible exact HK1.out) | (with_reducible apply Kp.alloc) | (with_reducible apply Kp.more)))) hkE)
    clear hc hsE hkE
    go_wp2_with ((go_at_call 71; (with_reducible refine (need_dead HC.out (show Rt b lb lo cap nvE L mE NE e1 e2 _ from (by repeat (first | (with_reducible exact HSE.out) | (with_reducible apply Rt.alloc) | (with_reducible apply Rt.more)))) _ (by decide)).mono ?_); rintro e _ ⟨rfl, d7, os7, rfl⟩))
    go_ret
    have := step_err HR1.out HH.out
    subst this
    exact RPost.err HC.out ⟨_, rfl⟩ (by repeat (first | (with_reducible exact HSE.out) | (with_reducible apply Rt.alloc) | (with_reducible apply Rt.more))) (by repeat (first | (with_reducible exact HKE.out) | (with_reducible apply Kp.alloc) | (with_reducible apply Kp.more)))
  rintro e w2 ⟨he, nv2, hs, hk, hm⟩
  unfold intV at he
  subst he
  have HR2 := Lib.hid (step_ok HR1.out HH.out)
  have HS2 := Lib.hid (hs.cast (List.append_assoc _ _ _))
  have HM2 := Lib.hid (Nat.le_trans HM1.out hm)
  have HK2 := Lib.hid (Kp.trans (show Kp b nv nv w _ from (by repeat (first | (with_reducible exact HK1.out) | (with_reducible apply Kp.alloc) | (with_reducible apply Kp.more)))) hk)
  clear hs hk hm
  go_wp2_with fail
  go_at_call 71
  obtain ⟨r3, h3⟩ := step_get HR2.out
  refine (needM_any (show Rt b lb lo cap nv2 L m2 (N ++ (([] ++ []) ++ ns2)) 0 0 _ from (by repeat (first | (with_reducible exact HS2.out) | (with_reducible apply Rt.alloc) | (with_reducible apply Rt.more)))) _ (by decide) r3 (by rw [List.length_append]; exact h3)).mono ?_
  have HH := Lib.hid h3; clear h3
  rcases r3 with ⟨e1, e2⟩ | ⟨v3, m3, ns3⟩
  · rintro e wE ⟨hc, ⟨v, rfl, rfl⟩, nvE, mE, NE, hsE, hkE⟩
    have HC := Lib.hid hc
    have HSE := Lib.hid hsE
    have HKE := Lib.hid (Kp.trans (show Kp b nv nv2 w _ from (by repeat (first | (with_reducible exact HK2.out) | (with_reducible apply Kp.alloc) | (with_reducible apply Kp.more)))) hkE)
    clear hc hsE hkE
    go_wp2_with fail
    go_ret
    have := step_err HR2.out HH.out
    subst this
    exact RPost.err HC.out ⟨_, rfl⟩ (by repeat (first | (with_reducible exact HSE.out) | (with_reducible apply Rt.alloc) | (with_reducible apply Rt.more))) (by repeat (first | (with_reducible exact HKE.out) | (with_reducible apply Kp.alloc) | (with_reducible apply Kp.more)))
  rintro e w3 ⟨he, nv3, hs, hk, hm⟩
  unfold unitV at he
  subst he
  have HR3 := Lib.hid (step_ok HR2.out HH.out)
  have HS3 := Lib.hid (hs.cast (List.append_assoc _ _ _))
  have HM3 := Lib.hid (Nat.le_trans HM2.out hm)
  have HK3 := Lib.hid (Kp.trans (show Kp b nv nv2 w _ from (by repeat (first | (with_reducible exact HK2.out) | (with_reducible apply Kp.alloc) | (with_reducible apply Kp.more)))) hk)
  clear hs hk hm
  go_wp2_with fail
  go_ret
  have := HR3.out
  subst this
  exact RPost.res rfl (HS3.out.cast (by simp [pok, prep])) HK3.out HM3.out
set_option maxHeartbeats 4000000 in
set_option maxRecDepth 20000 in
theorem more_within0 {b lb lo cap : Nat} {nv : Value} {L : Toks} {m : Nat} {N : List Nd} {w : World} (h : Rt b lb lo cap nv L m N 0 0 w) (h0 : isP L sOpen m = false) (hp : isP L sNot m = true) (d : Nat) (hd : d ≤ 16) (o1 : PM Int) (ho : d < 16 → RDp b lb lo cap L 120 ((d : Int) + 1) o1) (r : PR Int) (hr : wiP L 9 d o1 m N.length = r) :
    Calls Try.prog 129 #[.pointer (some ⟨b, 0, none⟩), .int .i64 (d : Int)] w (RPost intV isInt b lb lo cap nv L m N w r) := by
  have T0 : RowKit.Hid (∀ w1, Ext w w1 → Calls Try.prog 75 #[.pointer (some ⟨b, 0, none⟩), .string ⟨#[40]⟩] w1 fun e w' => e = .returned (.bool false) ∧ Ext w1 w') := Lib.hid fun w1 hx => take_no (h.ext hx) _ (by decide) h0
  have TY : RowKit.Hid (∀ w1, Ext w w1 → Calls Try.prog 75 #[.pointer (some ⟨b, 0, none⟩), .string ⟨#[110, 111, 116]⟩] w1 fun e w' => e = .returned (.bool true) ∧ Rt b lb lo cap nv L (m + 1) N 0 0 w' ∧ Kp b nv nv w1 w') := Lib.hid fun w1 hx => take_yes (h.ext hx) _ (by decide) hp
  have HS0 := Lib.hid (h.cast (List.append_nil N).symm)
  have HK0 := Lib.hid (Kp.refl b nv w)
  have HM0 := Lib.hid (Nat.le_refl m)
  have HR0 := Lib.hid (start_hr hr)
  unfold wiP at HR0
  have HR1 := Lib.hid (step_ok HR0.out (show skipP m _ = .ok ((), m + 1, []) from rfl))
  have HM1 := Lib.hid (Nat.le_succ m)
  unfold withinP at HR1
  clear h hr hp h0
  by_cases hdd : d < 16
  · have HO := Lib.hid (ho hdd)
    have DP : RowKit.Hid (deepP L (d + 1) (m + 1) (N.length + (([] : List Nd) ++ []).length) = .ok ((), m + 1, [])) := Lib.hid (by unfold deepP; rw [if_neg (by omega)])
    have hd0 : 0 ≤ (d : Int) := by omega
    have hd1 : (d : Int) ≤ 15 := by omega
    clear hdd ho hd
    go_enter Try.func129, Try.ntmps129
    go_wp2_with ((go_at_call 75; (with_reducible refine (T0.out _ (by repeat (first | exact Ext.refl _ | apply Ext.alloc | apply Ext.more))).mono ?_); rintro e _ ⟨rfl, d9, os9, rfl⟩))
    go_loopg [6] (2) (fun g x wr => ∃ z : Int, x = .int .i64 z ∧ (z = 0) ∧ 2 ≤ z + g ∧ Ext w wr)
    case atStart => exact ⟨0, rfl, by omega, by omega, by repeat (first | exact Ext.refl _ | apply Ext.alloc | apply Ext.more)⟩
    case round =>
      obtain ⟨z, rfl, hz, hg, hx⟩ := hrel
      obtain ⟨dw6, ow6, rfl⟩ := hx
      have HG := Lib.hid hg
      clear hg
      subst hz
      · skip
        go_wp2_with ((go_at_call 75; (with_reducible refine (TY.out _ (by repeat (first | exact Ext.refl _ | apply Ext.alloc | apply Ext.more))).mono ?_); rintro e w1 ⟨rfl, hs1, hk1⟩; have HS1 := Lib.hid (hs1.cast (show N = N ++ ([] ++ []) by simp)); have HK1 := Lib.hid (((Kp.refl b nv w).ext (by repeat (first | exact Ext.refl _ | apply Ext.alloc | apply Ext.more))).trans hk1); obtain ⟨u0, u1, u2, u3, u4, y0, y1, y2, y3, hbb⟩ := hs1.facts; clear hs1 hk1 u0 u1 u2 u4 y0 y1 y2 y3))
        have HR2 := Lib.hid (step_ok HR1.out DP.out)
        have HS2 := Lib.hid (HS1.out.cast (show N ++ ([] ++ []) = N ++ ([] ++ [] ++ []) by simp))
        have HK2 := HK1
        have HM2 := HM1
        go_at_call 120
        obtain ⟨r3, h3⟩ := step_get HR2.out
        refine (HO.out _ _ _ _ (show Rt b lb lo cap nv L (m + 1) (N ++ ([] ++ [] ++ [])) 0 0 _ from (by repeat (first | (with_reducible exact HS2.out) | (with_reducible apply Rt.alloc) | (with_reducible apply Rt.more)))) r3 (by rw [List.length_append]; exact h3)).mono ?_
        have HH := Lib.hid h3; clear h3
        rcases r3 with ⟨e1, e2⟩ | ⟨v3, m3, ns3⟩
        · rintro e wE ⟨hc, ⟨v, rfl, yq, rfl⟩, nvE, mE, NE, hsE, hkE⟩
          have HC := Lib.hid hc
          have HSE := Lib.hid hsE
          have HKE := Lib.hid (Kp.trans (show Kp b nv nv w _ from (by repeat (first | (with_reducible exact HK2.out) | (with_reducible apply Kp.alloc) | (with_reducible apply Kp.more)))) hkE)
          clear hc hsE hkE
          go_wp2_with (first
            | ((go_at_call 73; (with_reducible refine (rlay_dead HC.out (show Rt b lb lo cap nvE L mE NE e1 e2 _ from (by repeat (first | (with_reducible exact HSE.out) | (with_reducible apply Rt.alloc) | (with_reducible apply Rt.more)))) _ _ _ _ _ _ _ _).mono ?_); rintro e _ ⟨rfl, d6, os6, rfl⟩))
            | ((go_at_call 70; (with_reducible refine (new_any _ _ _ _).mono ?_); rintro e _ ⟨rfl, d3, os3, rfl⟩)))
          go_ret
          have := step_err HR2.out HH.out
          subst this
          exact RPost.err HC.out ⟨_, rfl⟩ (by repeat (first | (with_reducible exact HSE.out) | (with_reducible apply Rt.alloc) | (with_reducible apply Rt.more))) (by repeat (first | (with_reducible exact HKE.out) | (with_reducible apply Kp.alloc) | (with_reducible apply Kp.more)))
        rintro e w3 ⟨he, nv3, hs, hk, hm⟩
        unfold intV at he
        subst he
        have HR3 := Lib.hid (step_ok HR2.out HH.out)
        have HS3 := Lib.hid (hs.cast (List.append_assoc _ _ _))
        have HM3 := Lib.hid (Nat.le_trans HM2.out hm)
        have HK3 := Lib.hid (Kp.trans (show Kp b nv nv w _ from (by repeat (first | (with_reducible exact HK2.out) | (with_reducible apply Kp.alloc) | (with_reducible apply Kp.more)))) hk)
        clear hs hk hm
        go_wp2_with ((go_at_call 70; (with_reducible refine (new_any _ _ _ _).mono ?_); rintro e _ ⟨rfl, d3, os3, rfl⟩))
        go_at_call 73
        obtain ⟨r4, h4⟩ := step_fin HR3.out
        refine (rlay_any (show Rt b lb lo cap nv3 L m3 (N ++ (([] ++ [] ++ []) ++ ns3)) 0 0 _ from (by repeat (first | (with_reducible exact HS3.out) | (with_reducible apply Rt.alloc) | (with_reducible apply Rt.more)))) _ _ _ _ _ _ _ _ r4 (by rw [List.length_append]; exact h4)).mono ?_
        have HH := Lib.hid h4; clear h4
        rcases r4 with ⟨e1, e2⟩ | ⟨v4, m4, ns4⟩
        · rintro e wE ⟨hc, ⟨v, rfl, yq, rfl⟩, nvE, mE, NE, hsE, hkE⟩
          have HC := Lib.hid hc
          have HSE := Lib.hid hsE
          have HKE := Lib.hid (Kp.trans (show Kp b nv nv3 w _ from (by repeat (first | (with_reducible exact HK3.out) | (with_reducible apply Kp.alloc) | (with_reducible apply Kp.more)))) hkE)
          clear hc hsE hkE
          go_wp2_with fail
          go_ret
          have := fin_err HR3.out HH.out
          subst this
          exact RPost.err HC.out ⟨_, rfl⟩ (by repeat (first | (with_reducible exact HSE.out) | (with_reducible apply Rt.alloc) | (with_reducible apply Rt.more))) (by repeat (first | (with_reducible exact HKE.out) | (with_reducible apply Kp.alloc) | (with_reducible apply Kp.more)))
        rintro e w4 ⟨he, nv4, hs, hk, hm⟩
        unfold intV at he
        subst he
        have HS4 := Lib.hid (hs.cast (List.append_assoc _ _ _))
        have HM4 := Lib.hid (Nat.le_trans HM3.out hm)
        have HK4 := Lib.hid (Kp.trans (show Kp b nv nv3 w _ from (by repeat (first | (with_reducible exact HK3.out) | (with_reducible apply Kp.alloc) | (with_reducible apply Kp.more)))) hk)
        clear hs hk hm
        go_wp2_with fail
        go_ret
        have := fin_ok HR3.out HH.out
        subst this
        exact RPost.res rfl HS4.out HK4.out HM4.out
  · have e : d = 16 := by omega
    subst e
    have RD : RowKit.Hid (.error (14, (tk L (m + 1)).2) = r) := Lib.hid (by rw [← HR1.out, pbind_err (e := (14, (tk L (m + 1)).2)) (by unfold deepP; rw [if_pos (by omega)])]; rfl)
    clear hdd ho hd HR0 HR1
    go_enter Try.func129, Try.ntmps129
    go_wp2_with ((go_at_call 75; (with_reducible refine (T0.out _ (by repeat (first | exact Ext.refl _ | apply Ext.alloc | apply Ext.more))).mono ?_); rintro e _ ⟨rfl, d9, os9, rfl⟩))
    go_loopg [6] (2) (fun g x wr => ∃ z : Int, x = .int .i64 z ∧ (z = 0) ∧ 2 ≤ z + g ∧ Ext w wr)
    case atStart => exact ⟨0, rfl, by omega, by omega, by repeat (first | exact Ext.refl _ | apply Ext.alloc | apply Ext.more)⟩
    case round =>
      obtain ⟨z, rfl, hz, hg, hx⟩ := hrel
      obtain ⟨dw6, ow6, rfl⟩ := hx
      have HG := Lib.hid hg
      clear hg
      subst hz
      · skip
        go_wp2_with ((go_at_call 75; (with_reducible refine (TY.out _ (by repeat (first | exact Ext.refl _ | apply Ext.alloc | apply Ext.more))).mono ?_); rintro e w1 ⟨rfl, hs1, hk1⟩; have HS1 := Lib.hid (hs1.cast (show N = N ++ ([] ++ []) by simp)); have HK1 := Lib.hid (((Kp.refl b nv w).ext (by repeat (first | exact Ext.refl _ | apply Ext.alloc | apply Ext.more))).trans hk1); obtain ⟨u0, u1, u2, u3, u4, y0, y1, y2, y3, hbb⟩ := hs1.facts; clear hs1 hk1 u0 u1 u2 u4 y0 y1 y2 y3))
        go_at_call 34
        refine (rfail_st (show Rt b lb lo cap nv L (m + 1) (N ++ ([] ++ [])) 0 0 _ from (by repeat (first | (with_reducible exact HS1.out) | (with_reducible apply Rt.alloc) | (with_reducible apply Rt.more)))) 14 (by decide)).mono ?_
        rintro e w2 ⟨rfl, hs2, hk2⟩
        have HS2 := Lib.hid hs2
        have HK2 := Lib.hid (Kp.trans (show Kp b nv nv w _ from (by repeat (first | (with_reducible exact HK1.out) | (with_reducible apply Kp.alloc) | (with_reducible apply Kp.more)))) hk2)
        obtain ⟨u0, u1, u2, u4, u5, y0, y1, y2, y3, hbc⟩ := hs2.facts
        clear hs2 hk2 u0 u1 u2 u5 y0 y1 y2 y3 u3
        go_wp2_with fail
        go_ret
        have := RD.out
        subst this
        exact RPost.err (by decide) ⟨_, rfl⟩ HS2.out HK2.out
set_option maxHeartbeats 4000000 in
set_option maxRecDepth 20000 in
theorem more_within1 {b lb lo cap : Nat} {nv : Value} {L : Toks} {m : Nat} {N : List Nd} {w : World} (h : Rt b lb lo cap nv L m N 0 0 w) (h0 : isP L sOpen m = false) (h1 : isP L sNot m = false) (hp : isP L sMinus m = true) (d : Nat) (hd : d ≤ 16) (o1 : PM Int) (ho : d < 16 → RDp b lb lo cap L 120 ((d : Int) + 1) o1) (r : PR Int) (hr : wiP L 10 d o1 m N.length = r) :
    Calls Try.prog 129 #[.pointer (some ⟨b, 0, none⟩), .int .i64 (d : Int)] w (RPost intV isInt b lb lo cap nv L m N w r) := by
  have T0 : RowKit.Hid (∀ w1, Ext w w1 → Calls Try.prog 75 #[.pointer (some ⟨b, 0, none⟩), .string ⟨#[40]⟩] w1 fun e w' => e = .returned (.bool false) ∧ Ext w1 w') := Lib.hid fun w1 hx => take_no (h.ext hx) _ (by decide) h0
  have T1 : RowKit.Hid (∀ w1, Ext w w1 → Calls Try.prog 75 #[.pointer (some ⟨b, 0, none⟩), .string ⟨#[110, 111, 116]⟩] w1 fun e w' => e = .returned (.bool false) ∧ Ext w1 w') := Lib.hid fun w1 hx => take_no (h.ext hx) _ (by decide) h1
  have TY : RowKit.Hid (∀ w1, Ext w w1 → Calls Try.prog 75 #[.pointer (some ⟨b, 0, none⟩), .string ⟨#[45]⟩] w1 fun e w' => e = .returned (.bool true) ∧ Rt b lb lo cap nv L (m + 1) N 0 0 w' ∧ Kp b nv nv w1 w') := Lib.hid fun w1 hx => take_yes (h.ext hx) _ (by decide) hp
  have HS0 := Lib.hid (h.cast (List.append_nil N).symm)
  have HK0 := Lib.hid (Kp.refl b nv w)
  have HM0 := Lib.hid (Nat.le_refl m)
  have HR0 := Lib.hid (start_hr hr)
  unfold wiP at HR0
  have HR1 := Lib.hid (step_ok HR0.out (show skipP m _ = .ok ((), m + 1, []) from rfl))
  have HM1 := Lib.hid (Nat.le_succ m)
  unfold withinP at HR1
  clear h hr hp h0 h1
  by_cases hdd : d < 16
  · have HO := Lib.hid (ho hdd)
    have DP : RowKit.Hid (deepP L (d + 1) (m + 1) (N.length + (([] : List Nd) ++ []).length) = .ok ((), m + 1, [])) := Lib.hid (by unfold deepP; rw [if_neg (by omega)])
    have hd0 : 0 ≤ (d : Int) := by omega
    have hd1 : (d : Int) ≤ 15 := by omega
    clear hdd ho hd
    go_enter Try.func129, Try.ntmps129
    go_wp2_with ((go_at_call 75; (with_reducible refine (T0.out _ (by repeat (first | exact Ext.refl _ | apply Ext.alloc | apply Ext.more))).mono ?_); rintro e _ ⟨rfl, d9, os9, rfl⟩))
    go_loopg [6] (2) (fun g x wr => ∃ z : Int, x = .int .i64 z ∧ (z = 0 ∨ z = 1) ∧ 2 ≤ z + g ∧ Ext w wr)
    case atStart => exact ⟨0, rfl, by omega, by omega, by repeat (first | exact Ext.refl _ | apply Ext.alloc | apply Ext.more)⟩
    case round =>
      obtain ⟨z, rfl, hz, hg, hx⟩ := hrel
      obtain ⟨dw6, ow6, rfl⟩ := hx
      have HG := Lib.hid hg
      clear hg
      rcases hz with rfl | rfl
      · go_wp2_with ((go_at_call 75; (with_reducible refine (T1.out _ (by repeat (first | exact Ext.refl _ | apply Ext.alloc | apply Ext.more))).mono ?_); rintro e _ ⟨rfl, d9, os9, rfl⟩))
        obtain ⟨g0, rfl⟩ : ∃ g0, gk = g0 + 1 := ⟨gk - 1, by have := HG.out; omega⟩
        go_roundg g0
        case measure => omega
        case rel => exact ⟨1, by go_num, by omega, by have := HG.out; omega, by repeat (first | exact Ext.refl _ | apply Ext.alloc | apply Ext.more)⟩
      · skip
        go_wp2_with ((go_at_call 75; (with_reducible refine (TY.out _ (by repeat (first | exact Ext.refl _ | apply Ext.alloc | apply Ext.more))).mono ?_); rintro e w1 ⟨rfl, hs1, hk1⟩; have HS1 := Lib.hid (hs1.cast (show N = N ++ ([] ++ []) by simp)); have HK1 := Lib.hid (((Kp.refl b nv w).ext (by repeat (first | exact Ext.refl _ | apply Ext.alloc | apply Ext.more))).trans hk1); obtain ⟨u0, u1, u2, u3, u4, y0, y1, y2, y3, hbb⟩ := hs1.facts; clear hs1 hk1 u0 u1 u2 u4 y0 y1 y2 y3))
        have HR2 := Lib.hid (step_ok HR1.out DP.out)
        have HS2 := Lib.hid (HS1.out.cast (show N ++ ([] ++ []) = N ++ ([] ++ [] ++ []) by simp))
        have HK2 := HK1
        have HM2 := HM1
        go_at_call 120
        obtain ⟨r3, h3⟩ := step_get HR2.out
        refine (HO.out _ _ _ _ (show Rt b lb lo cap nv L (m + 1) (N ++ ([] ++ [] ++ [])) 0 0 _ from (by repeat (first | (with_reducible exact HS2.out) | (with_reducible apply Rt.alloc) | (with_reducible apply Rt.more)))) r3 (by rw [List.length_append]; exact h3)).mono ?_
        have HH := Lib.hid h3; clear h3
        rcases r3 with ⟨e1, e2⟩ | ⟨v3, m3, ns3⟩
        · rintro e wE ⟨hc, ⟨v, rfl, yq, rfl⟩, nvE, mE, NE, hsE, hkE⟩
          have HC := Lib.hid hc
          have HSE := Lib.hid hsE
          have HKE := Lib.hid (Kp.trans (show Kp b nv nv w _ from (by repeat (first | (with_reducible exact HK2.out) | (with_reducible apply Kp.alloc) | (with_reducible apply Kp.more)))) hkE)
          clear hc hsE hkE
          go_wp2_with (first
            | ((go_at_call 73; (with_reducible refine (rlay_dead HC.out (show Rt b lb lo cap nvE L mE NE e1 e2 _ from (by repeat (first | (with_reducible exact HSE.out) | (with_reducible apply Rt.alloc) | (with_reducible apply Rt.more)))) _ _ _ _ _ _ _ _).mono ?_); rintro e _ ⟨rfl, d6, os6, rfl⟩))
            | ((go_at_call 70; (with_reducible refine (new_any _ _ _ _).mono ?_); rintro e _ ⟨rfl, d3, os3, rfl⟩)))
          go_ret
          have := step_err HR2.out HH.out
          subst this
          exact RPost.err HC.out ⟨_, rfl⟩ (by repeat (first | (with_reducible exact HSE.out) | (with_reducible apply Rt.alloc) | (with_reducible apply Rt.more))) (by repeat (first | (with_reducible exact HKE.out) | (with_reducible apply Kp.alloc) | (with_reducible apply Kp.more)))
        rintro e w3 ⟨he, nv3, hs, hk, hm⟩
        unfold intV at he
        subst he
        have HR3 := Lib.hid (step_ok HR2.out HH.out)
        have HS3 := Lib.hid (hs.cast (List.append_assoc _ _ _))
        have HM3 := Lib.hid (Nat.le_trans HM2.out hm)
        have HK3 := Lib.hid (Kp.trans (show Kp b nv nv w _ from (by repeat (first | (with_reducible exact HK2.out) | (with_reducible apply Kp.alloc) | (with_reducible apply Kp.more)))) hk)
        clear hs hk hm
        go_wp2_with ((go_at_call 70; (with_reducible refine (new_any _ _ _ _).mono ?_); rintro e _ ⟨rfl, d3, os3, rfl⟩))
        go_at_call 73
        obtain ⟨r4, h4⟩ := step_fin HR3.out
        refine (rlay_any (show Rt b lb lo cap nv3 L m3 (N ++ (([] ++ [] ++ []) ++ ns3)) 0 0 _ from (by repeat (first | (with_reducible exact HS3.out) | (with_reducible apply Rt.alloc) | (with_reducible apply Rt.more)))) _ _ _ _ _ _ _ _ r4 (by rw [List.length_append]; exact h4)).mono ?_
        have HH := Lib.hid h4; clear h4
        rcases r4 with ⟨e1, e2⟩ | ⟨v4, m4, ns4⟩
        · rintro e wE ⟨hc, ⟨v, rfl, yq, rfl⟩, nvE, mE, NE, hsE, hkE⟩
          have HC := Lib.hid hc
          have HSE := Lib.hid hsE
          have HKE := Lib.hid (Kp.trans (show Kp b nv nv3 w _ from (by repeat (first | (with_reducible exact HK3.out) | (with_reducible apply Kp.alloc) | (with_reducible apply Kp.more)))) hkE)
          clear hc hsE hkE
          go_wp2_with fail
          go_ret
          have := fin_err HR3.out HH.out
          subst this
          exact RPost.err HC.out ⟨_, rfl⟩ (by repeat (first | (with_reducible exact HSE.out) | (with_reducible apply Rt.alloc) | (with_reducible apply Rt.more))) (by repeat (first | (with_reducible exact HKE.out) | (with_reducible apply Kp.alloc) | (with_reducible apply Kp.more)))
        rintro e w4 ⟨he, nv4, hs, hk, hm⟩
        unfold intV at he
        subst he
        have HS4 := Lib.hid (hs.cast (List.append_assoc _ _ _))
        have HM4 := Lib.hid (Nat.le_trans HM3.out hm)
        have HK4 := Lib.hid (Kp.trans (show Kp b nv nv3 w _ from (by repeat (first | (with_reducible exact HK3.out) | (with_reducible apply Kp.alloc) | (with_reducible apply Kp.more)))) hk)
        clear hs hk hm
        go_wp2_with fail
        go_ret
        have := fin_ok HR3.out HH.out
        subst this
        exact RPost.res rfl HS4.out HK4.out HM4.out
  · have e : d = 16 := by omega
    subst e
    have RD : RowKit.Hid (.error (14, (tk L (m + 1)).2) = r) := Lib.hid (by rw [← HR1.out, pbind_err (e := (14, (tk L (m + 1)).2)) (by unfold deepP; rw [if_pos (by omega)])]; rfl)
    clear hdd ho hd HR0 HR1
    go_enter Try.func129, Try.ntmps129
    go_wp2_with ((go_at_call 75; (with_reducible refine (T0.out _ (by repeat (first | exact Ext.refl _ | apply Ext.alloc | apply Ext.more))).mono ?_); rintro e _ ⟨rfl, d9, os9, rfl⟩))
    go_loopg [6] (2) (fun g x wr => ∃ z : Int, x = .int .i64 z ∧ (z = 0 ∨ z = 1) ∧ 2 ≤ z + g ∧ Ext w wr)
    case atStart => exact ⟨0, rfl, by omega, by omega, by repeat (first | exact Ext.refl _ | apply Ext.alloc | apply Ext.more)⟩
    case round =>
      obtain ⟨z, rfl, hz, hg, hx⟩ := hrel
      obtain ⟨dw6, ow6, rfl⟩ := hx
      have HG := Lib.hid hg
      clear hg
      rcases hz with rfl | rfl
      · go_wp2_with ((go_at_call 75; (with_reducible refine (T1.out _ (by repeat (first | exact Ext.refl _ | apply Ext.alloc | apply Ext.more))).mono ?_); rintro e _ ⟨rfl, d9, os9, rfl⟩))
        obtain ⟨g0, rfl⟩ : ∃ g0, gk = g0 + 1 := ⟨gk - 1, by have := HG.out; omega⟩
        go_roundg g0
        case measure => omega
        case rel => exact ⟨1, by go_num, by omega, by have := HG.out; omega, by repeat (first | exact Ext.refl _ | apply Ext.alloc | apply Ext.more)⟩
      · skip
        go_wp2_with ((go_at_call 75; (with_reducible refine (TY.out _ (by repeat (first | exact Ext.refl _ | apply Ext.alloc | apply Ext.more))).mono ?_); rintro e w1 ⟨rfl, hs1, hk1⟩; have HS1 := Lib.hid (hs1.cast (show N = N ++ ([] ++ []) by simp)); have HK1 := Lib.hid (((Kp.refl b nv w).ext (by repeat (first | exact Ext.refl _ | apply Ext.alloc | apply Ext.more))).trans hk1); obtain ⟨u0, u1, u2, u3, u4, y0, y1, y2, y3, hbb⟩ := hs1.facts; clear hs1 hk1 u0 u1 u2 u4 y0 y1 y2 y3))
        go_at_call 34
        refine (rfail_st (show Rt b lb lo cap nv L (m + 1) (N ++ ([] ++ [])) 0 0 _ from (by repeat (first | (with_reducible exact HS1.out) | (with_reducible apply Rt.alloc) | (with_reducible apply Rt.more)))) 14 (by decide)).mono ?_
        rintro e w2 ⟨rfl, hs2, hk2⟩
        have HS2 := Lib.hid hs2
        have HK2 := Lib.hid (Kp.trans (show Kp b nv nv w _ from (by repeat (first | (with_reducible exact HK1.out) | (with_reducible apply Kp.alloc) | (with_reducible apply Kp.more)))) hk2)
        obtain ⟨u0, u1, u2, u4, u5, y0, y1, y2, y3, hbc⟩ := hs2.facts
        clear hs2 hk2 u0 u1 u2 u5 y0 y1 y2 y3 u3
        go_wp2_with fail
        go_ret
        have := RD.out
        subst this
        exact RPost.err (by decide) ⟨_, rfl⟩ HS2.out HK2.out
set_option maxHeartbeats 4000000 in
set_option maxRecDepth 20000 in
theorem more_call0 {b lb lo cap : Nat} {nv : Value} {L : Toks} {m : Nat} {N : List Nd} {w : World} (h : Rt b lb lo cap nv L m N 0 0 w) (h0 : isP L sOpen m = false) (h1 : isP L sNot m = false) (h2 : isP L sMinus m = false) (hp : isP L sGet m = true) (d : Nat) (hd : d ≤ 16) (e1 : PM Int) (he : RDp b lb lo cap L 72 ((d : Int) + 1) e1) (r : PR Int) (hr : callP L 5 e1 m N.length = r) :
    Calls Try.prog 129 #[.pointer (some ⟨b, 0, none⟩), .int .i64 (d : Int)] w (RPost intV isInt b lb lo cap nv L m N w r) := by
  have hd0 : 0 ≤ (d : Int) := by omega
  have hd1 : (d : Int) ≤ 16 := by omega
  have T0 : RowKit.Hid (∀ w1, Ext w w1 → Calls Try.prog 75 #[.pointer (some ⟨b, 0, none⟩), .string ⟨#[40]⟩] w1 fun e w' => e = .returned (.bool false) ∧ Ext w1 w') := Lib.hid fun w1 hx => take_no (h.ext hx) _ (by decide) h0
  have T1 : RowKit.Hid (∀ w1, Ext w w1 → Calls Try.prog 75 #[.pointer (some ⟨b, 0, none⟩), .string ⟨#[110, 111, 116]⟩] w1 fun e w' => e = .returned (.bool false) ∧ Ext w1 w') := Lib.hid fun w1 hx => take_no (h.ext hx) _ (by decide) h1
  have T2 : RowKit.Hid (∀ w1, Ext w w1 → Calls Try.prog 75 #[.pointer (some ⟨b, 0, none⟩), .string ⟨#[45]⟩] w1 fun e w' => e = .returned (.bool false) ∧ Ext w1 w') := Lib.hid fun w1 hx => take_no (h.ext hx) _ (by decide) h2
  have TY : RowKit.Hid (∀ w1, Ext w w1 → Calls Try.prog 75 #[.pointer (some ⟨b, 0, none⟩), .string ⟨#[103, 101, 116]⟩] w1 fun e w' => e = .returned (.bool true) ∧ Rt b lb lo cap nv L (m + 1) N 0 0 w' ∧ Kp b nv nv w1 w') := Lib.hid fun w1 hx => take_yes (h.ext hx) _ (by decide) hp
  have HE := Lib.hid he
  have HS0 := Lib.hid (h.cast (List.append_nil N).symm)
  have HK0 := Lib.hid (Kp.refl b nv w)
  have HM0 := Lib.hid (Nat.le_refl m)
  have HR0 := Lib.hid (start_hr hr)
  unfold callP at HR0
  have HR1 := Lib.hid (step_ok HR0.out (show skipP m _ = .ok ((), m + 1, []) from rfl))
  have HM1 := Lib.hid (Nat.le_succ m)
  clear h he hr hp h0 h1 h2 
  go_enter Try.func129, Try.ntmps129
  go_wp2_with ((go_at_call 75; (with_reducible refine (T0.out _ (by repeat (first | exact Ext.refl _ | apply Ext.alloc | apply Ext.more))).mono ?_); rintro e _ ⟨rfl, d9, os9, rfl⟩))
  go_loopg [6] (2) (fun g x wr => ∃ z : Int, x = .int .i64 z ∧ (z = 0 ∨ z = 1 ∨ z = 2) ∧ 2 ≤ z + g ∧ Ext w wr)
  case atStart => exact ⟨0, rfl, by omega, by omega, by repeat (first | exact Ext.refl _ | apply Ext.alloc | apply Ext.more)⟩
  case round =>
    obtain ⟨z, rfl, hz, hg, hx⟩ := hrel
    obtain ⟨dw6, ow6, rfl⟩ := hx
    have HG := Lib.hid hg
    clear hg
    rcases hz with rfl | rfl | rfl
    · go_wp2_with ((go_at_call 75; (with_reducible refine (T1.out _ (by repeat (first | exact Ext.refl _ | apply Ext.alloc | apply Ext.more))).mono ?_); rintro e _ ⟨rfl, d9, os9, rfl⟩))
      obtain ⟨g0, rfl⟩ : ∃ g0, gk = g0 + 1 := ⟨gk - 1, by have := HG.out; omega⟩
      go_roundg g0
      case measure => omega
      case rel => exact ⟨1, by go_num, by omega, by have := HG.out; omega, by repeat (first | exact Ext.refl _ | apply Ext.alloc | apply Ext.more)⟩
    · go_wp2_with ((go_at_call 75; (with_reducible refine (T2.out _ (by repeat (first | exact Ext.refl _ | apply Ext.alloc | apply Ext.more))).mono ?_); rintro e _ ⟨rfl, d9, os9, rfl⟩))
      obtain ⟨g0, rfl⟩ : ∃ g0, gk = g0 + 1 := ⟨gk - 1, by have := HG.out; omega⟩
      go_roundg g0
      case measure => omega
      case rel => exact ⟨2, by go_num, by omega, by have := HG.out; omega, by repeat (first | exact Ext.refl _ | apply Ext.alloc | apply Ext.more)⟩
    · skip
      go_wp2_with fail
      go_loopg [7] (4) (fun g x wr => ∃ z : Int, x = .int .i64 z ∧ (z = 0) ∧ 4 ≤ z + g ∧ Ext w wr)
      case atStart => exact ⟨0, rfl, by omega, by omega, by repeat (first | exact Ext.refl _ | apply Ext.alloc | apply Ext.more)⟩
      case round =>
        obtain ⟨z, rfl, hz, hg, hx⟩ := hrel
        obtain ⟨dw7, ow7, rfl⟩ := hx
        have HG := Lib.hid hg
        clear hg
        subst hz
        · skip
          go_wp2_with ((go_at_call 75; (with_reducible refine (TY.out _ (by repeat (first | exact Ext.refl _ | apply Ext.alloc | apply Ext.more))).mono ?_); rintro e w1 ⟨rfl, hs1, hk1⟩; have HS1 := Lib.hid (hs1.cast (show N = N ++ ([] ++ []) by simp)); have HK1 := Lib.hid (((Kp.refl b nv w).ext (by repeat (first | exact Ext.refl _ | apply Ext.alloc | apply Ext.more))).trans hk1); obtain ⟨u0, u1, u2, u3, u4, y0, y1, y2, y3, hbb⟩ := hs1.facts; clear hs1 hk1 u0 u1 u2 u4 y0 y1 y2 y3))
          go_at_call 71
          obtain ⟨r2, h2⟩ := step_get HR1.out
          refine (needM_any (show Rt b lb lo cap nv L (m + 1) (N ++ ([] ++ [])) 0 0 _ from (by repeat (first | (with_reducible exact HS1.out) | (with_reducible apply Rt.alloc) | (with_reducible apply Rt.more)))) _ (by decide) r2 (by rw [List.length_append]; exact h2)).mono ?_
          have HH := Lib.hid h2; clear h2
          rcases r2 with ⟨e1, e2⟩ | ⟨v2, m2, ns2⟩
          · rintro e wE ⟨hc, ⟨v, rfl, rfl⟩, nvE, mE, NE, hsE, hkE⟩
            have HC := Lib.hid hc
            have HSE := Lib.hid hsE
            have HKE := Lib.hid (Kp.trans (show Kp b nv nv w _ from (by repeat (first | (with_reducible exact HK1.out) | (with_reducible apply Kp.alloc) | (with_reducible apply Kp.more)))) hkE)
            clear hc hsE hkE
            go_wp2_with (first
              | ((go_at_call 73; (with_reducible refine (rlay_dead HC.out (show Rt b lb lo cap nvE L mE NE e1 e2 _ from (by repeat (first | (with_reducible exact HSE.out) | (with_reducible apply Rt.alloc) | (with_reducible apply Rt.more)))) _ _ _ _ _ _ _ _).mono ?_); rintro e _ ⟨rfl, d6, os6, rfl⟩))
              | ((go_at_call 71; (with_reducible refine (need_dead HC.out (show Rt b lb lo cap nvE L mE NE e1 e2 _ from (by repeat (first | (with_reducible exact HSE.out) | (with_reducible apply Rt.alloc) | (with_reducible apply Rt.more)))) _ (by decide)).mono ?_); rintro e _ ⟨rfl, d7, os7, rfl⟩))
              | ((go_at_call 72; (with_reducible refine (rexpr_dead HC.out (show Rt b lb lo cap nvE L mE NE e1 e2 _ from (by repeat (first | (with_reducible exact HSE.out) | (with_reducible apply Rt.alloc) | (with_reducible apply Rt.more)))) _).mono ?_); rintro e _ ⟨rfl, d8, os8, rfl⟩))
              | ((go_at_call 70; (with_reducible refine (new_any _ _ _ _).mono ?_); rintro e _ ⟨rfl, d3, os3, rfl⟩)))
            go_ret
            have := step_err HR1.out HH.out
            subst this
            exact RPost.err HC.out ⟨_, rfl⟩ (by repeat (first | (with_reducible exact HSE.out) | (with_reducible apply Rt.alloc) | (with_reducible apply Rt.more))) (by repeat (first | (with_reducible exact HKE.out) | (with_reducible apply Kp.alloc) | (with_reducible apply Kp.more)))
          rintro e w2 ⟨he, nv2, hs, hk, hm⟩
          unfold unitV at he
          subst he
          have HR2 := Lib.hid (step_ok HR1.out HH.out)
          have HS2 := Lib.hid (hs.cast (List.append_assoc _ _ _))
          have HM2 := Lib.hid (Nat.le_trans HM1.out hm)
          have HK2 := Lib.hid (Kp.trans (show Kp b nv nv w _ from (by repeat (first | (with_reducible exact HK1.out) | (with_reducible apply Kp.alloc) | (with_reducible apply Kp.more)))) hk)
          clear hs hk hm
          go_wp2_with fail
          go_at_call 72
          obtain ⟨r3, h3⟩ := step_get HR2.out
          refine (HE.out _ _ _ _ (show Rt b lb lo cap nv2 L m2 (N ++ (([] ++ []) ++ ns2)) 0 0 _ from (by repeat (first | (with_reducible exact HS2.out) | (with_reducible apply Rt.alloc) | (with_reducible apply Rt.more)))) r3 (by rw [List.length_append]; exact h3)).mono ?_
          have HH := Lib.hid h3; clear h3
          rcases r3 with ⟨e1, e2⟩ | ⟨v3, m3, ns3⟩
          · rintro e wE ⟨hc, ⟨v, rfl, yq, rfl⟩, nvE, mE, NE, hsE, hkE⟩
            have HC := Lib.hid hc
            have HSE := Lib.hid hsE
            have HKE := Lib.hid (Kp.trans (show Kp b nv nv2 w _ from (by repeat (first | (with_reducible exact HK2.out) | (with_reducible apply Kp.alloc) | (with_reducible apply Kp.more)))) hkE)
            clear hc hsE hkE
            go_wp2_with (first
              | ((go_at_call 73; (with_reducible refine (rlay_dead HC.out (show Rt b lb lo cap nvE L mE NE e1 e2 _ from (by repeat (first | (with_reducible exact HSE.out) | (with_reducible apply Rt.alloc) | (with_reducible apply Rt.more)))) _ _ _ _ _ _ _ _).mono ?_); rintro e _ ⟨rfl, d6, os6, rfl⟩))
              | ((go_at_call 71; (with_reducible refine (need_dead HC.out (show Rt b lb lo cap nvE L mE NE e1 e2 _ from (by repeat (first | (with_reducible exact HSE.out) | (with_reducible apply Rt.alloc) | (with_reducible apply Rt.more)))) _ (by decide)).mono ?_); rintro e _ ⟨rfl, d7, os7, rfl⟩))
              | ((go_at_call 70; (with_reducible refine (new_any _ _ _ _).mono ?_); rintro e _ ⟨rfl, d3, os3, rfl⟩)))
            go_ret
            have := step_err HR2.out HH.out
            subst this
            exact RPost.err HC.out ⟨_, rfl⟩ (by repeat (first | (with_reducible exact HSE.out) | (with_reducible apply Rt.alloc) | (with_reducible apply Rt.more))) (by repeat (first | (with_reducible exact HKE.out) | (with_reducible apply Kp.alloc) | (with_reducible apply Kp.more)))
          rintro e w3 ⟨he, nv3, hs, hk, hm⟩
          unfold intV at he
          subst he
          have HR3 := Lib.hid (step_ok HR2.out HH.out)
          have HS3 := Lib.hid (hs.cast (List.append_assoc _ _ _))
          have HM3 := Lib.hid (Nat.le_trans HM2.out hm)
          have HK3 := Lib.hid (Kp.trans (show Kp b nv nv2 w _ from (by repeat (first | (with_reducible exact HK2.out) | (with_reducible apply Kp.alloc) | (with_reducible apply Kp.more)))) hk)
          clear hs hk hm
          go_wp2_with fail
          go_at_call 71
          obtain ⟨r4, h4⟩ := step_get HR3.out
          refine (needM_any (show Rt b lb lo cap nv3 L m3 (N ++ ((([] ++ []) ++ ns2) ++ ns3)) 0 0 _ from (by repeat (first | (with_reducible exact HS3.out) | (with_reducible apply Rt.alloc) | (with_reducible apply Rt.more)))) _ (by decide) r4 (by rw [List.length_append]; exact h4)).mono ?_
          have HH := Lib.hid h4; clear h4
          rcases r4 with ⟨e1, e2⟩ | ⟨v4, m4, ns4⟩
          · rintro e wE ⟨hc, ⟨v, rfl, rfl⟩, nvE, mE, NE, hsE, hkE⟩
            have HC := Lib.hid hc
            have HSE := Lib.hid hsE
            have HKE := Lib.hid (Kp.trans (show Kp b nv nv3 w _ from (by repeat (first | (with_reducible exact HK3.out) | (with_reducible apply Kp.alloc) | (with_reducible apply Kp.more)))) hkE)
            clear hc hsE hkE
            go_wp2_with (first
              | ((go_at_call 73; (with_reducible refine (rlay_dead HC.out (show Rt b lb lo cap nvE L mE NE e1 e2 _ from (by repeat (first | (with_reducible exact HSE.out) | (with_reducible apply Rt.alloc) | (with_reducible apply Rt.more)))) _ _ _ _ _ _ _ _).mono ?_); rintro e _ ⟨rfl, d6, os6, rfl⟩))
              | ((go_at_call 70; (with_reducible refine (new_any _ _ _ _).mono ?_); rintro e _ ⟨rfl, d3, os3, rfl⟩)))
            go_ret
            have := step_err HR3.out HH.out
            subst this
            exact RPost.err HC.out ⟨_, rfl⟩ (by repeat (first | (with_reducible exact HSE.out) | (with_reducible apply Rt.alloc) | (with_reducible apply Rt.more))) (by repeat (first | (with_reducible exact HKE.out) | (with_reducible apply Kp.alloc) | (with_reducible apply Kp.more)))
          rintro e w4 ⟨he, nv4, hs, hk, hm⟩
          unfold unitV at he
          subst he
          have HR4 := Lib.hid (step_ok HR3.out HH.out)
          have HS4 := Lib.hid (hs.cast (List.append_assoc _ _ _))
          have HM4 := Lib.hid (Nat.le_trans HM3.out hm)
          have HK4 := Lib.hid (Kp.trans (show Kp b nv nv3 w _ from (by repeat (first | (with_reducible exact HK3.out) | (with_reducible apply Kp.alloc) | (with_reducible apply Kp.more)))) hk)
          clear hs hk hm
          go_wp2_with ((go_at_call 70; (with_reducible refine (new_any _ _ _ _).mono ?_); rintro e _ ⟨rfl, d3, os3, rfl⟩))
          go_at_call 73
          obtain ⟨r5, h5⟩ := step_fin HR4.out
          refine (rlay_any (show Rt b lb lo cap nv4 L m4 (N ++ (((([] ++ []) ++ ns2) ++ ns3) ++ ns4)) 0 0 _ from (by repeat (first | (with_reducible exact HS4.out) | (with_reducible apply Rt.alloc) | (with_reducible apply Rt.more)))) _ _ _ _ _ _ _ _ r5 (by rw [List.length_append]; exact h5)).mono ?_
          have HH := Lib.hid h5; clear h5
          rcases r5 with ⟨e1, e2⟩ | ⟨v5, m5, ns5⟩
          · rintro e wE ⟨hc, ⟨v, rfl, yq, rfl⟩, nvE, mE, NE, hsE, hkE⟩
            have HC := Lib.hid hc
            have HSE := Lib.hid hsE
            have HKE := Lib.hid (Kp.trans (show Kp b nv nv4 w _ from (by repeat (first | (with_reducible exact HK4.out) | (with_reducible apply Kp.alloc) | (with_reducible apply Kp.more)))) hkE)
            clear hc hsE hkE
            go_wp2_with fail
            go_ret
            have := fin_err HR4.out HH.out
            subst this
            exact RPost.err HC.out ⟨_, rfl⟩ (by repeat (first | (with_reducible exact HSE.out) | (with_reducible apply Rt.alloc) | (with_reducible apply Rt.more))) (by repeat (first | (with_reducible exact HKE.out) | (with_reducible apply Kp.alloc) | (with_reducible apply Kp.more)))
          rintro e w5 ⟨he, nv5, hs, hk, hm⟩
          unfold intV at he
          subst he
          have HS5 := Lib.hid (hs.cast (List.append_assoc _ _ _))
          have HM5 := Lib.hid (Nat.le_trans HM4.out hm)
          have HK5 := Lib.hid (Kp.trans (show Kp b nv nv4 w _ from (by repeat (first | (with_reducible exact HK4.out) | (with_reducible apply Kp.alloc) | (with_reducible apply Kp.more)))) hk)
          clear hs hk hm
          go_wp2_with fail
          go_ret
          have := fin_ok HR4.out HH.out
          subst this
          exact RPost.res rfl HS5.out HK5.out HM5.out
set_option maxHeartbeats 4000000 in
set_option maxRecDepth 20000 in
theorem more_call1 {b lb lo cap : Nat} {nv : Value} {L : Toks} {m : Nat} {N : List Nd} {w : World} (h : Rt b lb lo cap nv L m N 0 0 w) (h0 : isP L sOpen m = false) (h1 : isP L sNot m = false) (h2 : isP L sMinus m = false) (g0 : isP L sGet m = false) (hp : isP L sHas m = true) (d : Nat) (hd : d ≤ 16) (e1 : PM Int) (he : RDp b lb lo cap L 72 ((d : Int) + 1) e1) (r : PR Int) (hr : callP L 6 e1 m N.length = r) :
    Calls Try.prog 129 #[.pointer (some ⟨b, 0, none⟩), .int .i64 (d : Int)] w (RPost intV isInt b lb lo cap nv L m N w r) := by
  have hd0 : 0 ≤ (d : Int) := by omega
  have hd1 : (d : Int) ≤ 16 := by omega
  have T0 : RowKit.Hid (∀ w1, Ext w w1 → Calls Try.prog 75 #[.pointer (some ⟨b, 0, none⟩), .string ⟨#[40]⟩] w1 fun e w' => e = .returned (.bool false) ∧ Ext w1 w') := Lib.hid fun w1 hx => take_no (h.ext hx) _ (by decide) h0
  have T1 : RowKit.Hid (∀ w1, Ext w w1 → Calls Try.prog 75 #[.pointer (some ⟨b, 0, none⟩), .string ⟨#[110, 111, 116]⟩] w1 fun e w' => e = .returned (.bool false) ∧ Ext w1 w') := Lib.hid fun w1 hx => take_no (h.ext hx) _ (by decide) h1
  have T2 : RowKit.Hid (∀ w1, Ext w w1 → Calls Try.prog 75 #[.pointer (some ⟨b, 0, none⟩), .string ⟨#[45]⟩] w1 fun e w' => e = .returned (.bool false) ∧ Ext w1 w') := Lib.hid fun w1 hx => take_no (h.ext hx) _ (by decide) h2
  have G0 : RowKit.Hid (∀ w1, Ext w w1 → Calls Try.prog 75 #[.pointer (some ⟨b, 0, none⟩), .string ⟨#[103, 101, 116]⟩] w1 fun e w' => e = .returned (.bool false) ∧ Ext w1 w') := Lib.hid fun w1 hx => take_no (h.ext hx) _ (by decide) g0
  have TY : RowKit.Hid (∀ w1, Ext w w1 → Calls Try.prog 75 #[.pointer (some ⟨b, 0, none⟩), .string ⟨#[104, 97, 115]⟩] w1 fun e w' => e = .returned (.bool true) ∧ Rt b lb lo cap nv L (m + 1) N 0 0 w' ∧ Kp b nv nv w1 w') := Lib.hid fun w1 hx => take_yes (h.ext hx) _ (by decide) hp
  have HE := Lib.hid he
  have HS0 := Lib.hid (h.cast (List.append_nil N).symm)
  have HK0 := Lib.hid (Kp.refl b nv w)
  have HM0 := Lib.hid (Nat.le_refl m)
  have HR0 := Lib.hid (start_hr hr)
  unfold callP at HR0
  have HR1 := Lib.hid (step_ok HR0.out (show skipP m _ = .ok ((), m + 1, []) from rfl))
  have HM1 := Lib.hid (Nat.le_succ m)
  clear h he hr hp h0 h1 h2 g0
  go_enter Try.func129, Try.ntmps129
  go_wp2_with ((go_at_call 75; (with_reducible refine (T0.out _ (by repeat (first | exact Ext.refl _ | apply Ext.alloc | apply Ext.more))).mono ?_); rintro e _ ⟨rfl, d9, os9, rfl⟩))
  go_loopg [6] (2) (fun g x wr => ∃ z : Int, x = .int .i64 z ∧ (z = 0 ∨ z = 1 ∨ z = 2) ∧ 2 ≤ z + g ∧ Ext w wr)
  case atStart => exact ⟨0, rfl, by omega, by omega, by repeat (first | exact Ext.refl _ | apply Ext.alloc | apply Ext.more)⟩
  case round =>
    obtain ⟨z, rfl, hz, hg, hx⟩ := hrel
    obtain ⟨dw6, ow6, rfl⟩ := hx
    have HG := Lib.hid hg
    clear hg
    rcases hz with rfl | rfl | rfl
    · go_wp2_with ((go_at_call 75; (with_reducible refine (T1.out _ (by repeat (first | exact Ext.refl _ | apply Ext.alloc | apply Ext.more))).mono ?_); rintro e _ ⟨rfl, d9, os9, rfl⟩))
      obtain ⟨g0, rfl⟩ : ∃ g0, gk = g0 + 1 := ⟨gk - 1, by have := HG.out; omega⟩
      go_roundg g0
      case measure => omega
      case rel => exact ⟨1, by go_num, by omega, by have := HG.out; omega, by repeat (first | exact Ext.refl _ | apply Ext.alloc | apply Ext.more)⟩
    · go_wp2_with ((go_at_call 75; (with_reducible refine (T2.out _ (by repeat (first | exact Ext.refl _ | apply Ext.alloc | apply Ext.more))).mono ?_); rintro e _ ⟨rfl, d9, os9, rfl⟩))
      obtain ⟨g0, rfl⟩ : ∃ g0, gk = g0 + 1 := ⟨gk - 1, by have := HG.out; omega⟩
      go_roundg g0
      case measure => omega
      case rel => exact ⟨2, by go_num, by omega, by have := HG.out; omega, by repeat (first | exact Ext.refl _ | apply Ext.alloc | apply Ext.more)⟩
    · skip
      go_wp2_with fail
      go_loopg [7] (4) (fun g x wr => ∃ z : Int, x = .int .i64 z ∧ (z = 0 ∨ z = 1) ∧ 4 ≤ z + g ∧ Ext w wr)
      case atStart => exact ⟨0, rfl, by omega, by omega, by repeat (first | exact Ext.refl _ | apply Ext.alloc | apply Ext.more)⟩
      case round =>
        obtain ⟨z, rfl, hz, hg, hx⟩ := hrel
        obtain ⟨dw7, ow7, rfl⟩ := hx
        have HG := Lib.hid hg
        clear hg
        rcases hz with rfl | rfl
        · go_wp2_with ((go_at_call 75; (with_reducible refine (G0.out _ (by repeat (first | exact Ext.refl _ | apply Ext.alloc | apply Ext.more))).mono ?_); rintro e _ ⟨rfl, d9, os9, rfl⟩))
          obtain ⟨g0, rfl⟩ : ∃ g0, gk = g0 + 1 := ⟨gk - 1, by have := HG.out; omega⟩
          go_roundg g0
          case measure => omega
          case rel => exact ⟨1, by go_num, by omega, by have := HG.out; omega, by repeat (first | exact Ext.refl _ | apply Ext.alloc | apply Ext.more)⟩
        · skip
          go_wp2_with ((go_at_call 75; (with_reducible refine (TY.out _ (by repeat (first | exact Ext.refl _ | apply Ext.alloc | apply Ext.more))).mono ?_); rintro e w1 ⟨rfl, hs1, hk1⟩; have HS1 := Lib.hid (hs1.cast (show N = N ++ ([] ++ []) by simp)); have HK1 := Lib.hid (((Kp.refl b nv w).ext (by repeat (first | exact Ext.refl _ | apply Ext.alloc | apply Ext.more))).trans hk1); obtain ⟨u0, u1, u2, u3, u4, y0, y1, y2, y3, hbb⟩ := hs1.facts; clear hs1 hk1 u0 u1 u2 u4 y0 y1 y2 y3))
          go_at_call 71
          obtain ⟨r2, h2⟩ := step_get HR1.out
          refine (needM_any (show Rt b lb lo cap nv L (m + 1) (N ++ ([] ++ [])) 0 0 _ from (by repeat (first | (with_reducible exact HS1.out) | (with_reducible apply Rt.alloc) | (with_reducible apply Rt.more)))) _ (by decide) r2 (by rw [List.length_append]; exact h2)).mono ?_
          have HH := Lib.hid h2; clear h2
          rcases r2 with ⟨e1, e2⟩ | ⟨v2, m2, ns2⟩
          · rintro e wE ⟨hc, ⟨v, rfl, rfl⟩, nvE, mE, NE, hsE, hkE⟩
            have HC := Lib.hid hc
            have HSE := Lib.hid hsE
            have HKE := Lib.hid (Kp.trans (show Kp b nv nv w _ from (by repeat (first | (with_reducible exact HK1.out) | (with_reducible apply Kp.alloc) | (with_reducible apply Kp.more)))) hkE)
            clear hc hsE hkE
            go_wp2_with (first
              | ((go_at_call 73; (with_reducible refine (rlay_dead HC.out (show Rt b lb lo cap nvE L mE NE e1 e2 _ from (by repeat (first | (with_reducible exact HSE.out) | (with_reducible apply Rt.alloc) | (with_reducible apply Rt.more)))) _ _ _ _ _ _ _ _).mono ?_); rintro e _ ⟨rfl, d6, os6, rfl⟩))
              | ((go_at_call 71; (with_reducible refine (need_dead HC.out (show Rt b lb lo cap nvE L mE NE e1 e2 _ from (by repeat (first | (with_reducible exact HSE.out) | (with_reducible apply Rt.alloc) | (with_reducible apply Rt.more)))) _ (by decide)).mono ?_); rintro e _ ⟨rfl, d7, os7, rfl⟩))
              | ((go_at_call 72; (with_reducible refine (rexpr_dead HC.out (show Rt b lb lo cap nvE L mE NE e1 e2 _ from (by repeat (first | (with_reducible exact HSE.out) | (with_reducible apply Rt.alloc) | (with_reducible apply Rt.more)))) _).mono ?_); rintro e _ ⟨rfl, d8, os8, rfl⟩))
              | ((go_at_call 70; (with_reducible refine (new_any _ _ _ _).mono ?_); rintro e _ ⟨rfl, d3, os3, rfl⟩)))
            go_ret
            have := step_err HR1.out HH.out
            subst this
            exact RPost.err HC.out ⟨_, rfl⟩ (by repeat (first | (with_reducible exact HSE.out) | (with_reducible apply Rt.alloc) | (with_reducible apply Rt.more))) (by repeat (first | (with_reducible exact HKE.out) | (with_reducible apply Kp.alloc) | (with_reducible apply Kp.more)))
          rintro e w2 ⟨he, nv2, hs, hk, hm⟩
          unfold unitV at he
          subst he
          have HR2 := Lib.hid (step_ok HR1.out HH.out)
          have HS2 := Lib.hid (hs.cast (List.append_assoc _ _ _))
          have HM2 := Lib.hid (Nat.le_trans HM1.out hm)
          have HK2 := Lib.hid (Kp.trans (show Kp b nv nv w _ from (by repeat (first | (with_reducible exact HK1.out) | (with_reducible apply Kp.alloc) | (with_reducible apply Kp.more)))) hk)
          clear hs hk hm
          go_wp2_with fail
          go_at_call 72
          obtain ⟨r3, h3⟩ := step_get HR2.out
          refine (HE.out _ _ _ _ (show Rt b lb lo cap nv2 L m2 (N ++ (([] ++ []) ++ ns2)) 0 0 _ from (by repeat (first | (with_reducible exact HS2.out) | (with_reducible apply Rt.alloc) | (with_reducible apply Rt.more)))) r3 (by rw [List.length_append]; exact h3)).mono ?_
          have HH := Lib.hid h3; clear h3
          rcases r3 with ⟨e1, e2⟩ | ⟨v3, m3, ns3⟩
          · rintro e wE ⟨hc, ⟨v, rfl, yq, rfl⟩, nvE, mE, NE, hsE, hkE⟩
            have HC := Lib.hid hc
            have HSE := Lib.hid hsE
            have HKE := Lib.hid (Kp.trans (show Kp b nv nv2 w _ from (by repeat (first | (with_reducible exact HK2.out) | (with_reducible apply Kp.alloc) | (with_reducible apply Kp.more)))) hkE)
            clear hc hsE hkE
            go_wp2_with (first
              | ((go_at_call 73; (with_reducible refine (rlay_dead HC.out (show Rt b lb lo cap nvE L mE NE e1 e2 _ from (by repeat (first | (with_reducible exact HSE.out) | (with_reducible apply Rt.alloc) | (with_reducible apply Rt.more)))) _ _ _ _ _ _ _ _).mono ?_); rintro e _ ⟨rfl, d6, os6, rfl⟩))
              | ((go_at_call 71; (with_reducible refine (need_dead HC.out (show Rt b lb lo cap nvE L mE NE e1 e2 _ from (by repeat (first | (with_reducible exact HSE.out) | (with_reducible apply Rt.alloc) | (with_reducible apply Rt.more)))) _ (by decide)).mono ?_); rintro e _ ⟨rfl, d7, os7, rfl⟩))
              | ((go_at_call 70; (with_reducible refine (new_any _ _ _ _).mono ?_); rintro e _ ⟨rfl, d3, os3, rfl⟩)))
            go_ret
            have := step_err HR2.out HH.out
            subst this
            exact RPost.err HC.out ⟨_, rfl⟩ (by repeat (first | (with_reducible exact HSE.out) | (with_reducible apply Rt.alloc) | (with_reducible apply Rt.more))) (by repeat (first | (with_reducible exact HKE.out) | (with_reducible apply Kp.alloc) | (with_reducible apply Kp.more)))
          rintro e w3 ⟨he, nv3, hs, hk, hm⟩
          unfold intV at he
          subst he
          have HR3 := Lib.hid (step_ok HR2.out HH.out)
          have HS3 := Lib.hid (hs.cast (List.append_assoc _ _ _))
          have HM3 := Lib.hid (Nat.le_trans HM2.out hm)
          have HK3 := Lib.hid (Kp.trans (show Kp b nv nv2 w _ from (by repeat (first | (with_reducible exact HK2.out) | (with_reducible apply Kp.alloc) | (with_reducible apply Kp.more)))) hk)
          clear hs hk hm
          go_wp2_with fail
          go_at_call 71
          obtain ⟨r4, h4⟩ := step_get HR3.out
          refine (needM_any (show Rt b lb lo cap nv3 L m3 (N ++ ((([] ++ []) ++ ns2) ++ ns3)) 0 0 _ from (by repeat (first | (with_reducible exact HS3.out) | (with_reducible apply Rt.alloc) | (with_reducible apply Rt.more)))) _ (by decide) r4 (by rw [List.length_append]; exact h4)).mono ?_
          have HH := Lib.hid h4; clear h4
          rcases r4 with ⟨e1, e2⟩ | ⟨v4, m4, ns4⟩
          · rintro e wE ⟨hc, ⟨v, rfl, rfl⟩, nvE, mE, NE, hsE, hkE⟩
            have HC := Lib.hid hc
            have HSE := Lib.hid hsE
            have HKE := Lib.hid (Kp.trans (show Kp b nv nv3 w _ from (by repeat (first | (with_reducible exact HK3.out) | (with_reducible apply Kp.alloc) | (with_reducible apply Kp.more)))) hkE)
            clear hc hsE hkE
            go_wp2_with (first
              | ((go_at_call 73; (with_reducible refine (rlay_dead HC.out (show Rt b lb lo cap nvE L mE NE e1 e2 _ from (by repeat (first | (with_reducible exact HSE.out) | (with_reducible apply Rt.alloc) | (with_reducible apply Rt.more)))) _ _ _ _ _ _ _ _).mono ?_); rintro e _ ⟨rfl, d6, os6, rfl⟩))
              | ((go_at_call 70; (with_reducible refine (new_any _ _ _ _).mono ?_); rintro e _ ⟨rfl, d3, os3, rfl⟩)))
            go_ret
            have := step_err HR3.out HH.out
            subst this
            exact RPost.err HC.out ⟨_, rfl⟩ (by repeat (first | (with_reducible exact HSE.out) | (with_reducible apply Rt.alloc) | (with_reducible apply Rt.more))) (by repeat (first | (with_reducible exact HKE.out) | (with_reducible apply Kp.alloc) | (with_reducible apply Kp.more)))
          rintro e w4 ⟨he, nv4, hs, hk, hm⟩
          unfold unitV at he
          subst he
          have HR4 := Lib.hid (step_ok HR3.out HH.out)
          have HS4 := Lib.hid (hs.cast (List.append_assoc _ _ _))
          have HM4 := Lib.hid (Nat.le_trans HM3.out hm)
          have HK4 := Lib.hid (Kp.trans (show Kp b nv nv3 w _ from (by repeat (first | (with_reducible exact HK3.out) | (with_reducible apply Kp.alloc) | (with_reducible apply Kp.more)))) hk)
          clear hs hk hm
          go_wp2_with ((go_at_call 70; (with_reducible refine (new_any _ _ _ _).mono ?_); rintro e _ ⟨rfl, d3, os3, rfl⟩))
          go_at_call 73
          obtain ⟨r5, h5⟩ := step_fin HR4.out
          refine (rlay_any (show Rt b lb lo cap nv4 L m4 (N ++ (((([] ++ []) ++ ns2) ++ ns3) ++ ns4)) 0 0 _ from (by repeat (first | (with_reducible exact HS4.out) | (with_reducible apply Rt.alloc) | (with_reducible apply Rt.more)))) _ _ _ _ _ _ _ _ r5 (by rw [List.length_append]; exact h5)).mono ?_
          have HH := Lib.hid h5; clear h5
          rcases r5 with ⟨e1, e2⟩ | ⟨v5, m5, ns5⟩
          · rintro e wE ⟨hc, ⟨v, rfl, yq, rfl⟩, nvE, mE, NE, hsE, hkE⟩
            have HC := Lib.hid hc
            have HSE := Lib.hid hsE
            have HKE := Lib.hid (Kp.trans (show Kp b nv nv4 w _ from (by repeat (first | (with_reducible exact HK4.out) | (with_reducible apply Kp.alloc) | (with_reducible apply Kp.more)))) hkE)
            clear hc hsE hkE
            go_wp2_with fail
            go_ret
            have := fin_err HR4.out HH.out
            subst this
            exact RPost.err HC.out ⟨_, rfl⟩ (by repeat (first | (with_reducible exact HSE.out) | (with_reducible apply Rt.alloc) | (with_reducible apply Rt.more))) (by repeat (first | (with_reducible exact HKE.out) | (with_reducible apply Kp.alloc) | (with_reducible apply Kp.more)))
          rintro e w5 ⟨he, nv5, hs, hk, hm⟩
          unfold intV at he
          subst he
          have HS5 := Lib.hid (hs.cast (List.append_assoc _ _ _))
          have HM5 := Lib.hid (Nat.le_trans HM4.out hm)
          have HK5 := Lib.hid (Kp.trans (show Kp b nv nv4 w _ from (by repeat (first | (with_reducible exact HK4.out) | (with_reducible apply Kp.alloc) | (with_reducible apply Kp.more)))) hk)
          clear hs hk hm
          go_wp2_with fail
          go_ret
          have := fin_ok HR4.out HH.out
          subst this
          exact RPost.res rfl HS5.out HK5.out HM5.out
set_option maxHeartbeats 4000000 in
set_option maxRecDepth 20000 in
theorem more_call2 {b lb lo cap : Nat} {nv : Value} {L : Toks} {m : Nat} {N : List Nd} {w : World} (h : Rt b lb lo cap nv L m N 0 0 w) (h0 : isP L sOpen m = false) (h1 : isP L sNot m = false) (h2 : isP L sMinus m = false) (g0 : isP L sGet m = false) (g1 : isP L sHas m = false) (hp : isP L sLen m = true) (d : Nat) (hd : d ≤ 16) (e1 : PM Int) (he : RDp b lb lo cap L 72 ((d : Int) + 1) e1) (r : PR Int) (hr : callP L 7 e1 m N.length = r) :
    Calls Try.prog 129 #[.pointer (some ⟨b, 0, none⟩), .int .i64 (d : Int)] w (RPost intV isInt b lb lo cap nv L m N w r) := by
  have hd0 : 0 ≤ (d : Int) := by omega
  have hd1 : (d : Int) ≤ 16 := by omega
  have T0 : RowKit.Hid (∀ w1, Ext w w1 → Calls Try.prog 75 #[.pointer (some ⟨b, 0, none⟩), .string ⟨#[40]⟩] w1 fun e w' => e = .returned (.bool false) ∧ Ext w1 w') := Lib.hid fun w1 hx => take_no (h.ext hx) _ (by decide) h0
  have T1 : RowKit.Hid (∀ w1, Ext w w1 → Calls Try.prog 75 #[.pointer (some ⟨b, 0, none⟩), .string ⟨#[110, 111, 116]⟩] w1 fun e w' => e = .returned (.bool false) ∧ Ext w1 w') := Lib.hid fun w1 hx => take_no (h.ext hx) _ (by decide) h1
  have T2 : RowKit.Hid (∀ w1, Ext w w1 → Calls Try.prog 75 #[.pointer (some ⟨b, 0, none⟩), .string ⟨#[45]⟩] w1 fun e w' => e = .returned (.bool false) ∧ Ext w1 w') := Lib.hid fun w1 hx => take_no (h.ext hx) _ (by decide) h2
  have G0 : RowKit.Hid (∀ w1, Ext w w1 → Calls Try.prog 75 #[.pointer (some ⟨b, 0, none⟩), .string ⟨#[103, 101, 116]⟩] w1 fun e w' => e = .returned (.bool false) ∧ Ext w1 w') := Lib.hid fun w1 hx => take_no (h.ext hx) _ (by decide) g0
  have G1 : RowKit.Hid (∀ w1, Ext w w1 → Calls Try.prog 75 #[.pointer (some ⟨b, 0, none⟩), .string ⟨#[104, 97, 115]⟩] w1 fun e w' => e = .returned (.bool false) ∧ Ext w1 w') := Lib.hid fun w1 hx => take_no (h.ext hx) _ (by decide) g1
  have TY : RowKit.Hid (∀ w1, Ext w w1 → Calls Try.prog 75 #[.pointer (some ⟨b, 0, none⟩), .string ⟨#[108, 101, 110]⟩] w1 fun e w' => e = .returned (.bool true) ∧ Rt b lb lo cap nv L (m + 1) N 0 0 w' ∧ Kp b nv nv w1 w') := Lib.hid fun w1 hx => take_yes (h.ext hx) _ (by decide) hp
  have HE := Lib.hid he
  have HS0 := Lib.hid (h.cast (List.append_nil N).symm)
  have HK0 := Lib.hid (Kp.refl b nv w)
  have HM0 := Lib.hid (Nat.le_refl m)
  have HR0 := Lib.hid (start_hr hr)
  unfold callP at HR0
  have HR1 := Lib.hid (step_ok HR0.out (show skipP m _ = .ok ((), m + 1, []) from rfl))
  have HM1 := Lib.hid (Nat.le_succ m)
  clear h he hr hp h0 h1 h2 g0 g1
  go_enter Try.func129, Try.ntmps129
  go_wp2_with ((go_at_call 75; (with_reducible refine (T0.out _ (by repeat (first | exact Ext.refl _ | apply Ext.alloc | apply Ext.more))).mono ?_); rintro e _ ⟨rfl, d9, os9, rfl⟩))
  go_loopg [6] (2) (fun g x wr => ∃ z : Int, x = .int .i64 z ∧ (z = 0 ∨ z = 1 ∨ z = 2) ∧ 2 ≤ z + g ∧ Ext w wr)
  case atStart => exact ⟨0, rfl, by omega, by omega, by repeat (first | exact Ext.refl _ | apply Ext.alloc | apply Ext.more)⟩
  case round =>
    obtain ⟨z, rfl, hz, hg, hx⟩ := hrel
    obtain ⟨dw6, ow6, rfl⟩ := hx
    have HG := Lib.hid hg
    clear hg
    rcases hz with rfl | rfl | rfl
    · go_wp2_with ((go_at_call 75; (with_reducible refine (T1.out _ (by repeat (first | exact Ext.refl _ | apply Ext.alloc | apply Ext.more))).mono ?_); rintro e _ ⟨rfl, d9, os9, rfl⟩))
      obtain ⟨g0, rfl⟩ : ∃ g0, gk = g0 + 1 := ⟨gk - 1, by have := HG.out; omega⟩
      go_roundg g0
      case measure => omega
      case rel => exact ⟨1, by go_num, by omega, by have := HG.out; omega, by repeat (first | exact Ext.refl _ | apply Ext.alloc | apply Ext.more)⟩
    · go_wp2_with ((go_at_call 75; (with_reducible refine (T2.out _ (by repeat (first | exact Ext.refl _ | apply Ext.alloc | apply Ext.more))).mono ?_); rintro e _ ⟨rfl, d9, os9, rfl⟩))
      obtain ⟨g0, rfl⟩ : ∃ g0, gk = g0 + 1 := ⟨gk - 1, by have := HG.out; omega⟩
      go_roundg g0
      case measure => omega
      case rel => exact ⟨2, by go_num, by omega, by have := HG.out; omega, by repeat (first | exact Ext.refl _ | apply Ext.alloc | apply Ext.more)⟩
    · skip
      go_wp2_with fail
      go_loopg [7] (4) (fun g x wr => ∃ z : Int, x = .int .i64 z ∧ (z = 0 ∨ z = 1 ∨ z = 2) ∧ 4 ≤ z + g ∧ Ext w wr)
      case atStart => exact ⟨0, rfl, by omega, by omega, by repeat (first | exact Ext.refl _ | apply Ext.alloc | apply Ext.more)⟩
      case round =>
        obtain ⟨z, rfl, hz, hg, hx⟩ := hrel
        obtain ⟨dw7, ow7, rfl⟩ := hx
        have HG := Lib.hid hg
        clear hg
        rcases hz with rfl | rfl | rfl
        · go_wp2_with ((go_at_call 75; (with_reducible refine (G0.out _ (by repeat (first | exact Ext.refl _ | apply Ext.alloc | apply Ext.more))).mono ?_); rintro e _ ⟨rfl, d9, os9, rfl⟩))
          obtain ⟨g0, rfl⟩ : ∃ g0, gk = g0 + 1 := ⟨gk - 1, by have := HG.out; omega⟩
          go_roundg g0
          case measure => omega
          case rel => exact ⟨1, by go_num, by omega, by have := HG.out; omega, by repeat (first | exact Ext.refl _ | apply Ext.alloc | apply Ext.more)⟩
        · go_wp2_with ((go_at_call 75; (with_reducible refine (G1.out _ (by repeat (first | exact Ext.refl _ | apply Ext.alloc | apply Ext.more))).mono ?_); rintro e _ ⟨rfl, d9, os9, rfl⟩))
          obtain ⟨g0, rfl⟩ : ∃ g0, gk = g0 + 1 := ⟨gk - 1, by have := HG.out; omega⟩
          go_roundg g0
          case measure => omega
          case rel => exact ⟨2, by go_num, by omega, by have := HG.out; omega, by repeat (first | exact Ext.refl _ | apply Ext.alloc | apply Ext.more)⟩
        · skip
          go_wp2_with ((go_at_call 75; (with_reducible refine (TY.out _ (by repeat (first | exact Ext.refl _ | apply Ext.alloc | apply Ext.more))).mono ?_); rintro e w1 ⟨rfl, hs1, hk1⟩; have HS1 := Lib.hid (hs1.cast (show N = N ++ ([] ++ []) by simp)); have HK1 := Lib.hid (((Kp.refl b nv w).ext (by repeat (first | exact Ext.refl _ | apply Ext.alloc | apply Ext.more))).trans hk1); obtain ⟨u0, u1, u2, u3, u4, y0, y1, y2, y3, hbb⟩ := hs1.facts; clear hs1 hk1 u0 u1 u2 u4 y0 y1 y2 y3))
          go_at_call 71
          obtain ⟨r2, h2⟩ := step_get HR1.out
          refine (needM_any (show Rt b lb lo cap nv L (m + 1) (N ++ ([] ++ [])) 0 0 _ from (by repeat (first | (with_reducible exact HS1.out) | (with_reducible apply Rt.alloc) | (with_reducible apply Rt.more)))) _ (by decide) r2 (by rw [List.length_append]; exact h2)).mono ?_
          have HH := Lib.hid h2; clear h2
          rcases r2 with ⟨e1, e2⟩ | ⟨v2, m2, ns2⟩
          · rintro e wE ⟨hc, ⟨v, rfl, rfl⟩, nvE, mE, NE, hsE, hkE⟩
            have HC := Lib.hid hc
            have HSE := Lib.hid hsE
            have HKE := Lib.hid (Kp.trans (show Kp b nv nv w _ from (by repeat (first | (with_reducible exact HK1.out) | (with_reducible apply Kp.alloc) | (with_reducible apply Kp.more)))) hkE)
            clear hc hsE hkE
            go_wp2_with (first
              | ((go_at_call 73; (with_reducible refine (rlay_dead HC.out (show Rt b lb lo cap nvE L mE NE e1 e2 _ from (by repeat (first | (with_reducible exact HSE.out) | (with_reducible apply Rt.alloc) | (with_reducible apply Rt.more)))) _ _ _ _ _ _ _ _).mono ?_); rintro e _ ⟨rfl, d6, os6, rfl⟩))
              | ((go_at_call 71; (with_reducible refine (need_dead HC.out (show Rt b lb lo cap nvE L mE NE e1 e2 _ from (by repeat (first | (with_reducible exact HSE.out) | (with_reducible apply Rt.alloc) | (with_reducible apply Rt.more)))) _ (by decide)).mono ?_); rintro e _ ⟨rfl, d7, os7, rfl⟩))
              | ((go_at_call 72; (with_reducible refine (rexpr_dead HC.out (show Rt b lb lo cap nvE L mE NE e1 e2 _ from (by repeat (first | (with_reducible exact HSE.out) | (with_reducible apply Rt.alloc) | (with_reducible apply Rt.more)))) _).mono ?_); rintro e _ ⟨rfl, d8, os8, rfl⟩))
              | ((go_at_call 70; (with_reducible refine (new_any _ _ _ _).mono ?_); rintro e _ ⟨rfl, d3, os3, rfl⟩)))
            go_ret
            have := step_err HR1.out HH.out
            subst this
            exact RPost.err HC.out ⟨_, rfl⟩ (by repeat (first | (with_reducible exact HSE.out) | (with_reducible apply Rt.alloc) | (with_reducible apply Rt.more))) (by repeat (first | (with_reducible exact HKE.out) | (with_reducible apply Kp.alloc) | (with_reducible apply Kp.more)))
          rintro e w2 ⟨he, nv2, hs, hk, hm⟩
          unfold unitV at he
          subst he
          have HR2 := Lib.hid (step_ok HR1.out HH.out)
          have HS2 := Lib.hid (hs.cast (List.append_assoc _ _ _))
          have HM2 := Lib.hid (Nat.le_trans HM1.out hm)
          have HK2 := Lib.hid (Kp.trans (show Kp b nv nv w _ from (by repeat (first | (with_reducible exact HK1.out) | (with_reducible apply Kp.alloc) | (with_reducible apply Kp.more)))) hk)
          clear hs hk hm
          go_wp2_with fail
          go_at_call 72
          obtain ⟨r3, h3⟩ := step_get HR2.out
          refine (HE.out _ _ _ _ (show Rt b lb lo cap nv2 L m2 (N ++ (([] ++ []) ++ ns2)) 0 0 _ from (by repeat (first | (with_reducible exact HS2.out) | (with_reducible apply Rt.alloc) | (with_reducible apply Rt.more)))) r3 (by rw [List.length_append]; exact h3)).mono ?_
          have HH := Lib.hid h3; clear h3
          rcases r3 with ⟨e1, e2⟩ | ⟨v3, m3, ns3⟩
          · rintro e wE ⟨hc, ⟨v, rfl, yq, rfl⟩, nvE, mE, NE, hsE, hkE⟩
            have HC := Lib.hid hc
            have HSE := Lib.hid hsE
            have HKE := Lib.hid (Kp.trans (show Kp b nv nv2 w _ from (by repeat (first | (with_reducible exact HK2.out) | (with_reducible apply Kp.alloc) | (with_reducible apply Kp.more)))) hkE)
            clear hc hsE hkE
            go_wp2_with (first
              | ((go_at_call 73; (with_reducible refine (rlay_dead HC.out (show Rt b lb lo cap nvE L mE NE e1 e2 _ from (by repeat (first | (with_reducible exact HSE.out) | (with_reducible apply Rt.alloc) | (with_reducible apply Rt.more)))) _ _ _ _ _ _ _ _).mono ?_); rintro e _ ⟨rfl, d6, os6, rfl⟩))
              | ((go_at_call 71; (with_reducible refine (need_dead HC.out (show Rt b lb lo cap nvE L mE NE e1 e2 _ from (by repeat (first | (with_reducible exact HSE.out) | (with_reducible apply Rt.alloc) | (with_reducible apply Rt.more)))) _ (by decide)).mono ?_); rintro e _ ⟨rfl, d7, os7, rfl⟩))
              | ((go_at_call 70; (with_reducible refine (new_any _ _ _ _).mono ?_); rintro e _ ⟨rfl, d3, os3, rfl⟩)))
            go_ret
            have := step_err HR2.out HH.out
            subst this
            exact RPost.err HC.out ⟨_, rfl⟩ (by repeat (first | (with_reducible exact HSE.out) | (with_reducible apply Rt.alloc) | (with_reducible apply Rt.more))) (by repeat (first | (with_reducible exact HKE.out) | (with_reducible apply Kp.alloc) | (with_reducible apply Kp.more)))
          rintro e w3 ⟨he, nv3, hs, hk, hm⟩
          unfold intV at he
          subst he
          have HR3 := Lib.hid (step_ok HR2.out HH.out)
          have HS3 := Lib.hid (hs.cast (List.append_assoc _ _ _))
          have HM3 := Lib.hid (Nat.le_trans HM2.out hm)
          have HK3 := Lib.hid (Kp.trans (show Kp b nv nv2 w _ from (by repeat (first | (with_reducible exact HK2.out) | (with_reducible apply Kp.alloc) | (with_reducible apply Kp.more)))) hk)
          clear hs hk hm
          go_wp2_with fail
          go_at_call 71
          obtain ⟨r4, h4⟩ := step_get HR3.out
          refine (needM_any (show Rt b lb lo cap nv3 L m3 (N ++ ((([] ++ []) ++ ns2) ++ ns3)) 0 0 _ from (by repeat (first | (with_reducible exact HS3.out) | (with_reducible apply Rt.alloc) | (with_reducible apply Rt.more)))) _ (by decide) r4 (by rw [List.length_append]; exact h4)).mono ?_
          have HH := Lib.hid h4; clear h4
          rcases r4 with ⟨e1, e2⟩ | ⟨v4, m4, ns4⟩
          · rintro e wE ⟨hc, ⟨v, rfl, rfl⟩, nvE, mE, NE, hsE, hkE⟩
            have HC := Lib.hid hc
            have HSE := Lib.hid hsE
            have HKE := Lib.hid (Kp.trans (show Kp b nv nv3 w _ from (by repeat (first | (with_reducible exact HK3.out) | (with_reducible apply Kp.alloc) | (with_reducible apply Kp.more)))) hkE)
            clear hc hsE hkE
            go_wp2_with (first
              | ((go_at_call 73; (with_reducible refine (rlay_dead HC.out (show Rt b lb lo cap nvE L mE NE e1 e2 _ from (by repeat (first | (with_reducible exact HSE.out) | (with_reducible apply Rt.alloc) | (with_reducible apply Rt.more)))) _ _ _ _ _ _ _ _).mono ?_); rintro e _ ⟨rfl, d6, os6, rfl⟩))
              | ((go_at_call 70; (with_reducible refine (new_any _ _ _ _).mono ?_); rintro e _ ⟨rfl, d3, os3, rfl⟩)))
            go_ret
            have := step_err HR3.out HH.out
            subst this
            exact RPost.err HC.out ⟨_, rfl⟩ (by repeat (first | (with_reducible exact HSE.out) | (with_reducible apply Rt.alloc) | (with_reducible apply Rt.more))) (by repeat (first | (with_reducible exact HKE.out) | (with_reducible apply Kp.alloc) | (with_reducible apply Kp.more)))
          rintro e w4 ⟨he, nv4, hs, hk, hm⟩
          unfold unitV at he
          subst he
          have HR4 := Lib.hid (step_ok HR3.out HH.out)
          have HS4 := Lib.hid (hs.cast (List.append_assoc _ _ _))
          have HM4 := Lib.hid (Nat.le_trans HM3.out hm)
          have HK4 := Lib.hid (Kp.trans (show Kp b nv nv3 w _ from (by repeat (first | (with_reducible exact HK3.out) | (with_reducible apply Kp.alloc) | (with_reducible apply Kp.more)))) hk)
          clear hs hk hm
          go_wp2_with ((go_at_call 70; (with_reducible refine (new_any _ _ _ _).mono ?_); rintro e _ ⟨rfl, d3, os3, rfl⟩))
          go_at_call 73
          obtain ⟨r5, h5⟩ := step_fin HR4.out
          refine (rlay_any (show Rt b lb lo cap nv4 L m4 (N ++ (((([] ++ []) ++ ns2) ++ ns3) ++ ns4)) 0 0 _ from (by repeat (first | (with_reducible exact HS4.out) | (with_reducible apply Rt.alloc) | (with_reducible apply Rt.more)))) _ _ _ _ _ _ _ _ r5 (by rw [List.length_append]; exact h5)).mono ?_
          have HH := Lib.hid h5; clear h5
          rcases r5 with ⟨e1, e2⟩ | ⟨v5, m5, ns5⟩
          · rintro e wE ⟨hc, ⟨v, rfl, yq, rfl⟩, nvE, mE, NE, hsE, hkE⟩
            have HC := Lib.hid hc
            have HSE := Lib.hid hsE
            have HKE := Lib.hid (Kp.trans (show Kp b nv nv4 w _ from (by repeat (first | (with_reducible exact HK4.out) | (with_reducible apply Kp.alloc) | (with_reducible apply Kp.more)))) hkE)
            clear hc hsE hkE
            go_wp2_with fail
            go_ret
            have := fin_err HR4.out HH.out
            subst this
            exact RPost.err HC.out ⟨_, rfl⟩ (by repeat (first | (with_reducible exact HSE.out) | (with_reducible apply Rt.alloc) | (with_reducible apply Rt.more))) (by repeat (first | (with_reducible exact HKE.out) | (with_reducible apply Kp.alloc) | (with_reducible apply Kp.more)))
          rintro e w5 ⟨he, nv5, hs, hk, hm⟩
          unfold intV at he
          subst he
          have HS5 := Lib.hid (hs.cast (List.append_assoc _ _ _))
          have HM5 := Lib.hid (Nat.le_trans HM4.out hm)
          have HK5 := Lib.hid (Kp.trans (show Kp b nv nv4 w _ from (by repeat (first | (with_reducible exact HK4.out) | (with_reducible apply Kp.alloc) | (with_reducible apply Kp.more)))) hk)
          clear hs hk hm
          go_wp2_with fail
          go_ret
          have := fin_ok HR4.out HH.out
          subst this
          exact RPost.res rfl HS5.out HK5.out HM5.out
set_option maxHeartbeats 4000000 in
set_option maxRecDepth 20000 in
theorem more_call3 {b lb lo cap : Nat} {nv : Value} {L : Toks} {m : Nat} {N : List Nd} {w : World} (h : Rt b lb lo cap nv L m N 0 0 w) (h0 : isP L sOpen m = false) (h1 : isP L sNot m = false) (h2 : isP L sMinus m = false) (g0 : isP L sGet m = false) (g1 : isP L sHas m = false) (g2 : isP L sLen m = false) (hp : isP L sShow m = true) (d : Nat) (hd : d ≤ 16) (e1 : PM Int) (he : RDp b lb lo cap L 72 ((d : Int) + 1) e1) (r : PR Int) (hr : callP L 8 e1 m N.length = r) :
    Calls Try.prog 129 #[.pointer (some ⟨b, 0, none⟩), .int .i64 (d : Int)] w (RPost intV isInt b lb lo cap nv L m N w r) := by
  have hd0 : 0 ≤ (d : Int) := by omega
  have hd1 : (d : Int) ≤ 16 := by omega
  have T0 : RowKit.Hid (∀ w1, Ext w w1 → Calls Try.prog 75 #[.pointer (some ⟨b, 0, none⟩), .string ⟨#[40]⟩] w1 fun e w' => e = .returned (.bool false) ∧ Ext w1 w') := Lib.hid fun w1 hx => take_no (h.ext hx) _ (by decide) h0
  have T1 : RowKit.Hid (∀ w1, Ext w w1 → Calls Try.prog 75 #[.pointer (some ⟨b, 0, none⟩), .string ⟨#[110, 111, 116]⟩] w1 fun e w' => e = .returned (.bool false) ∧ Ext w1 w') := Lib.hid fun w1 hx => take_no (h.ext hx) _ (by decide) h1
  have T2 : RowKit.Hid (∀ w1, Ext w w1 → Calls Try.prog 75 #[.pointer (some ⟨b, 0, none⟩), .string ⟨#[45]⟩] w1 fun e w' => e = .returned (.bool false) ∧ Ext w1 w') := Lib.hid fun w1 hx => take_no (h.ext hx) _ (by decide) h2
  have G0 : RowKit.Hid (∀ w1, Ext w w1 → Calls Try.prog 75 #[.pointer (some ⟨b, 0, none⟩), .string ⟨#[103, 101, 116]⟩] w1 fun e w' => e = .returned (.bool false) ∧ Ext w1 w') := Lib.hid fun w1 hx => take_no (h.ext hx) _ (by decide) g0
  have G1 : RowKit.Hid (∀ w1, Ext w w1 → Calls Try.prog 75 #[.pointer (some ⟨b, 0, none⟩), .string ⟨#[104, 97, 115]⟩] w1 fun e w' => e = .returned (.bool false) ∧ Ext w1 w') := Lib.hid fun w1 hx => take_no (h.ext hx) _ (by decide) g1
  have G2 : RowKit.Hid (∀ w1, Ext w w1 → Calls Try.prog 75 #[.pointer (some ⟨b, 0, none⟩), .string ⟨#[108, 101, 110]⟩] w1 fun e w' => e = .returned (.bool false) ∧ Ext w1 w') := Lib.hid fun w1 hx => take_no (h.ext hx) _ (by decide) g2
  have TY : RowKit.Hid (∀ w1, Ext w w1 → Calls Try.prog 75 #[.pointer (some ⟨b, 0, none⟩), .string ⟨#[115, 104, 111, 119]⟩] w1 fun e w' => e = .returned (.bool true) ∧ Rt b lb lo cap nv L (m + 1) N 0 0 w' ∧ Kp b nv nv w1 w') := Lib.hid fun w1 hx => take_yes (h.ext hx) _ (by decide) hp
  have HE := Lib.hid he
  have HS0 := Lib.hid (h.cast (List.append_nil N).symm)
  have HK0 := Lib.hid (Kp.refl b nv w)
  have HM0 := Lib.hid (Nat.le_refl m)
  have HR0 := Lib.hid (start_hr hr)
  unfold callP at HR0
  have HR1 := Lib.hid (step_ok HR0.out (show skipP m _ = .ok ((), m + 1, []) from rfl))
  have HM1 := Lib.hid (Nat.le_succ m)
  clear h he hr hp h0 h1 h2 g0 g1 g2
  go_enter Try.func129, Try.ntmps129
  go_wp2_with ((go_at_call 75; (with_reducible refine (T0.out _ (by repeat (first | exact Ext.refl _ | apply Ext.alloc | apply Ext.more))).mono ?_); rintro e _ ⟨rfl, d9, os9, rfl⟩))
  go_loopg [6] (2) (fun g x wr => ∃ z : Int, x = .int .i64 z ∧ (z = 0 ∨ z = 1 ∨ z = 2) ∧ 2 ≤ z + g ∧ Ext w wr)
  case atStart => exact ⟨0, rfl, by omega, by omega, by repeat (first | exact Ext.refl _ | apply Ext.alloc | apply Ext.more)⟩
  case round =>
    obtain ⟨z, rfl, hz, hg, hx⟩ := hrel
    obtain ⟨dw6, ow6, rfl⟩ := hx
    have HG := Lib.hid hg
    clear hg
    rcases hz with rfl | rfl | rfl
    · go_wp2_with ((go_at_call 75; (with_reducible refine (T1.out _ (by repeat (first | exact Ext.refl _ | apply Ext.alloc | apply Ext.more))).mono ?_); rintro e _ ⟨rfl, d9, os9, rfl⟩))
      obtain ⟨g0, rfl⟩ : ∃ g0, gk = g0 + 1 := ⟨gk - 1, by have := HG.out; omega⟩
      go_roundg g0
      case measure => omega
      case rel => exact ⟨1, by go_num, by omega, by have := HG.out; omega, by repeat (first | exact Ext.refl _ | apply Ext.alloc | apply Ext.more)⟩
    · go_wp2_with ((go_at_call 75; (with_reducible refine (T2.out _ (by repeat (first | exact Ext.refl _ | apply Ext.alloc | apply Ext.more))).mono ?_); rintro e _ ⟨rfl, d9, os9, rfl⟩))
      obtain ⟨g0, rfl⟩ : ∃ g0, gk = g0 + 1 := ⟨gk - 1, by have := HG.out; omega⟩
      go_roundg g0
      case measure => omega
      case rel => exact ⟨2, by go_num, by omega, by have := HG.out; omega, by repeat (first | exact Ext.refl _ | apply Ext.alloc | apply Ext.more)⟩
    · skip
      go_wp2_with fail
      go_loopg [7] (4) (fun g x wr => ∃ z : Int, x = .int .i64 z ∧ (z = 0 ∨ z = 1 ∨ z = 2 ∨ z = 3) ∧ 4 ≤ z + g ∧ Ext w wr)
      case atStart => exact ⟨0, rfl, by omega, by omega, by repeat (first | exact Ext.refl _ | apply Ext.alloc | apply Ext.more)⟩
      case round =>
        obtain ⟨z, rfl, hz, hg, hx⟩ := hrel
        obtain ⟨dw7, ow7, rfl⟩ := hx
        have HG := Lib.hid hg
        clear hg
        rcases hz with rfl | rfl | rfl | rfl
        · go_wp2_with ((go_at_call 75; (with_reducible refine (G0.out _ (by repeat (first | exact Ext.refl _ | apply Ext.alloc | apply Ext.more))).mono ?_); rintro e _ ⟨rfl, d9, os9, rfl⟩))
          obtain ⟨g0, rfl⟩ : ∃ g0, gk = g0 + 1 := ⟨gk - 1, by have := HG.out; omega⟩
          go_roundg g0
          case measure => omega
          case rel => exact ⟨1, by go_num, by omega, by have := HG.out; omega, by repeat (first | exact Ext.refl _ | apply Ext.alloc | apply Ext.more)⟩
        · go_wp2_with ((go_at_call 75; (with_reducible refine (G1.out _ (by repeat (first | exact Ext.refl _ | apply Ext.alloc | apply Ext.more))).mono ?_); rintro e _ ⟨rfl, d9, os9, rfl⟩))
          obtain ⟨g0, rfl⟩ : ∃ g0, gk = g0 + 1 := ⟨gk - 1, by have := HG.out; omega⟩
          go_roundg g0
          case measure => omega
          case rel => exact ⟨2, by go_num, by omega, by have := HG.out; omega, by repeat (first | exact Ext.refl _ | apply Ext.alloc | apply Ext.more)⟩
        · go_wp2_with ((go_at_call 75; (with_reducible refine (G2.out _ (by repeat (first | exact Ext.refl _ | apply Ext.alloc | apply Ext.more))).mono ?_); rintro e _ ⟨rfl, d9, os9, rfl⟩))
          obtain ⟨g0, rfl⟩ : ∃ g0, gk = g0 + 1 := ⟨gk - 1, by have := HG.out; omega⟩
          go_roundg g0
          case measure => omega
          case rel => exact ⟨3, by go_num, by omega, by have := HG.out; omega, by repeat (first | exact Ext.refl _ | apply Ext.alloc | apply Ext.more)⟩
        · skip
          go_wp2_with ((go_at_call 75; (with_reducible refine (TY.out _ (by repeat (first | exact Ext.refl _ | apply Ext.alloc | apply Ext.more))).mono ?_); rintro e w1 ⟨rfl, hs1, hk1⟩; have HS1 := Lib.hid (hs1.cast (show N = N ++ ([] ++ []) by simp)); have HK1 := Lib.hid (((Kp.refl b nv w).ext (by repeat (first | exact Ext.refl _ | apply Ext.alloc | apply Ext.more))).trans hk1); obtain ⟨u0, u1, u2, u3, u4, y0, y1, y2, y3, hbb⟩ := hs1.facts; clear hs1 hk1 u0 u1 u2 u4 y0 y1 y2 y3))
          go_at_call 71
          obtain ⟨r2, h2⟩ := step_get HR1.out
          refine (needM_any (show Rt b lb lo cap nv L (m + 1) (N ++ ([] ++ [])) 0 0 _ from (by repeat (first | (with_reducible exact HS1.out) | (with_reducible apply Rt.alloc) | (with_reducible apply Rt.more)))) _ (by decide) r2 (by rw [List.length_append]; exact h2)).mono ?_
          have HH := Lib.hid h2; clear h2
          rcases r2 with ⟨e1, e2⟩ | ⟨v2, m2, ns2⟩
          · rintro e wE ⟨hc, ⟨v, rfl, rfl⟩, nvE, mE, NE, hsE, hkE⟩
            have HC := Lib.hid hc
            have HSE := Lib.hid hsE
            have HKE := Lib.hid (Kp.trans (show Kp b nv nv w _ from (by repeat (first | (with_reducible exact HK1.out) | (with_reducible apply Kp.alloc) | (with_reducible apply Kp.more)))) hkE)
            clear hc hsE hkE
            go_wp2_with (first
              | ((go_at_call 73; (with_reducible refine (rlay_dead HC.out (show Rt b lb lo cap nvE L mE NE e1 e2 _ from (by repeat (first | (with_reducible exact HSE.out) | (with_reducible apply Rt.alloc) | (with_reducible apply Rt.more)))) _ _ _ _ _ _ _ _).mono ?_); rintro e _ ⟨rfl, d6, os6, rfl⟩))
              | ((go_at_call 71; (with_reducible refine (need_dead HC.out (show Rt b lb lo cap nvE L mE NE e1 e2 _ from (by repeat (first | (with_reducible exact HSE.out) | (with_reducible apply Rt.alloc) | (with_reducible apply Rt.more)))) _ (by decide)).mono ?_); rintro e _ ⟨rfl, d7, os7, rfl⟩))
              | ((go_at_call 72; (with_reducible refine (rexpr_dead HC.out (show Rt b lb lo cap nvE L mE NE e1 e2 _ from (by repeat (first | (with_reducible exact HSE.out) | (with_reducible apply Rt.alloc) | (with_reducible apply Rt.more)))) _).mono ?_); rintro e _ ⟨rfl, d8, os8, rfl⟩))
              | ((go_at_call 70; (with_reducible refine (new_any _ _ _ _).mono ?_); rintro e _ ⟨rfl, d3, os3, rfl⟩)))
            go_ret
            have := step_err HR1.out HH.out
            subst this
            exact RPost.err HC.out ⟨_, rfl⟩ (by repeat (first | (with_reducible exact HSE.out) | (with_reducible apply Rt.alloc) | (with_reducible apply Rt.more))) (by repeat (first | (with_reducible exact HKE.out) | (with_reducible apply Kp.alloc) | (with_reducible apply Kp.more)))
          rintro e w2 ⟨he, nv2, hs, hk, hm⟩
          unfold unitV at he
          subst he
          have HR2 := Lib.hid (step_ok HR1.out HH.out)
          have HS2 := Lib.hid (hs.cast (List.append_assoc _ _ _))
          have HM2 := Lib.hid (Nat.le_trans HM1.out hm)
          have HK2 := Lib.hid (Kp.trans (show Kp b nv nv w _ from (by repeat (first | (with_reducible exact HK1.out) | (with_reducible apply Kp.alloc) | (with_reducible apply Kp.more)))) hk)
          clear hs hk hm
          go_wp2_with fail
          go_at_call 72
          obtain ⟨r3, h3⟩ := step_get HR2.out
          refine (HE.out _ _ _ _ (show Rt b lb lo cap nv2 L m2 (N ++ (([] ++ []) ++ ns2)) 0 0 _ from (by repeat (first | (with_reducible exact HS2.out) | (with_reducible apply Rt.alloc) | (with_reducible apply Rt.more)))) r3 (by rw [List.length_append]; exact h3)).mono ?_
          have HH := Lib.hid h3; clear h3
          rcases r3 with ⟨e1, e2⟩ | ⟨v3, m3, ns3⟩
          · rintro e wE ⟨hc, ⟨v, rfl, yq, rfl⟩, nvE, mE, NE, hsE, hkE⟩
            have HC := Lib.hid hc
            have HSE := Lib.hid hsE
            have HKE := Lib.hid (Kp.trans (show Kp b nv nv2 w _ from (by repeat (first | (with_reducible exact HK2.out) | (with_reducible apply Kp.alloc) | (with_reducible apply Kp.more)))) hkE)
            clear hc hsE hkE
            go_wp2_with (first
              | ((go_at_call 73; (with_reducible refine (rlay_dead HC.out (show Rt b lb lo cap nvE L mE NE e1 e2 _ from (by repeat (first | (with_reducible exact HSE.out) | (with_reducible apply Rt.alloc) | (with_reducible apply Rt.more)))) _ _ _ _ _ _ _ _).mono ?_); rintro e _ ⟨rfl, d6, os6, rfl⟩))
              | ((go_at_call 71; (with_reducible refine (need_dead HC.out (show Rt b lb lo cap nvE L mE NE e1 e2 _ from (by repeat (first | (with_reducible exact HSE.out) | (with_reducible apply Rt.alloc) | (with_reducible apply Rt.more)))) _ (by decide)).mono ?_); rintro e _ ⟨rfl, d7, os7, rfl⟩))
              | ((go_at_call 70; (with_reducible refine (new_any _ _ _ _).mono ?_); rintro e _ ⟨rfl, d3, os3, rfl⟩)))
            go_ret
            have := step_err HR2.out HH.out
            subst this
            exact RPost.err HC.out ⟨_, rfl⟩ (by repeat (first | (with_reducible exact HSE.out) | (with_reducible apply Rt.alloc) | (with_reducible apply Rt.more))) (by repeat (first | (with_reducible exact HKE.out) | (with_reducible apply Kp.alloc) | (with_reducible apply Kp.more)))
          rintro e w3 ⟨he, nv3, hs, hk, hm⟩
          unfold intV at he
          subst he
          have HR3 := Lib.hid (step_ok HR2.out HH.out)
          have HS3 := Lib.hid (hs.cast (List.append_assoc _ _ _))
          have HM3 := Lib.hid (Nat.le_trans HM2.out hm)
          have HK3 := Lib.hid (Kp.trans (show Kp b nv nv2 w _ from (by repeat (first | (with_reducible exact HK2.out) | (with_reducible apply Kp.alloc) | (with_reducible apply Kp.more)))) hk)
          clear hs hk hm
          go_wp2_with fail
          go_at_call 71
          obtain ⟨r4, h4⟩ := step_get HR3.out
          refine (needM_any (show Rt b lb lo cap nv3 L m3 (N ++ ((([] ++ []) ++ ns2) ++ ns3)) 0 0 _ from (by repeat (first | (with_reducible exact HS3.out) | (with_reducible apply Rt.alloc) | (with_reducible apply Rt.more)))) _ (by decide) r4 (by rw [List.length_append]; exact h4)).mono ?_
          have HH := Lib.hid h4; clear h4
          rcases r4 with ⟨e1, e2⟩ | ⟨v4, m4, ns4⟩
          · rintro e wE ⟨hc, ⟨v, rfl, rfl⟩, nvE, mE, NE, hsE, hkE⟩
            have HC := Lib.hid hc
            have HSE := Lib.hid hsE
            have HKE := Lib.hid (Kp.trans (show Kp b nv nv3 w _ from (by repeat (first | (with_reducible exact HK3.out) | (with_reducible apply Kp.alloc) | (with_reducible apply Kp.more)))) hkE)
            clear hc hsE hkE
            go_wp2_with (first
              | ((go_at_call 73; (with_reducible refine (rlay_dead HC.out (show Rt b lb lo cap nvE L mE NE e1 e2 _ from (by repeat (first | (with_reducible exact HSE.out) | (with_reducible apply Rt.alloc) | (with_reducible apply Rt.more)))) _ _ _ _ _ _ _ _).mono ?_); rintro e _ ⟨rfl, d6, os6, rfl⟩))
              | ((go_at_call 70; (with_reducible refine (new_any _ _ _ _).mono ?_); rintro e _ ⟨rfl, d3, os3, rfl⟩)))
            go_ret
            have := step_err HR3.out HH.out
            subst this
            exact RPost.err HC.out ⟨_, rfl⟩ (by repeat (first | (with_reducible exact HSE.out) | (with_reducible apply Rt.alloc) | (with_reducible apply Rt.more))) (by repeat (first | (with_reducible exact HKE.out) | (with_reducible apply Kp.alloc) | (with_reducible apply Kp.more)))
          rintro e w4 ⟨he, nv4, hs, hk, hm⟩
          unfold unitV at he
          subst he
          have HR4 := Lib.hid (step_ok HR3.out HH.out)
          have HS4 := Lib.hid (hs.cast (List.append_assoc _ _ _))
          have HM4 := Lib.hid (Nat.le_trans HM3.out hm)
          have HK4 := Lib.hid (Kp.trans (show Kp b nv nv3 w _ from (by repeat (first | (with_reducible exact HK3.out) | (with_reducible apply Kp.alloc) | (with_reducible apply Kp.more)))) hk)
          clear hs hk hm
          go_wp2_with ((go_at_call 70; (with_reducible refine (new_any _ _ _ _).mono ?_); rintro e _ ⟨rfl, d3, os3, rfl⟩))
          go_at_call 73
          obtain ⟨r5, h5⟩ := step_fin HR4.out
          refine (rlay_any (show Rt b lb lo cap nv4 L m4 (N ++ (((([] ++ []) ++ ns2) ++ ns3) ++ ns4)) 0 0 _ from (by repeat (first | (with_reducible exact HS4.out) | (with_reducible apply Rt.alloc) | (with_reducible apply Rt.more)))) _ _ _ _ _ _ _ _ r5 (by rw [List.length_append]; exact h5)).mono ?_
          have HH := Lib.hid h5; clear h5
          rcases r5 with ⟨e1, e2⟩ | ⟨v5, m5, ns5⟩
          · rintro e wE ⟨hc, ⟨v, rfl, yq, rfl⟩, nvE, mE, NE, hsE, hkE⟩
            have HC := Lib.hid hc
            have HSE := Lib.hid hsE
            have HKE := Lib.hid (Kp.trans (show Kp b nv nv4 w _ from (by repeat (first | (with_reducible exact HK4.out) | (with_reducible apply Kp.alloc) | (with_reducible apply Kp.more)))) hkE)
            clear hc hsE hkE
            go_wp2_with fail
            go_ret
            have := fin_err HR4.out HH.out
            subst this
            exact RPost.err HC.out ⟨_, rfl⟩ (by repeat (first | (with_reducible exact HSE.out) | (with_reducible apply Rt.alloc) | (with_reducible apply Rt.more))) (by repeat (first | (with_reducible exact HKE.out) | (with_reducible apply Kp.alloc) | (with_reducible apply Kp.more)))
          rintro e w5 ⟨he, nv5, hs, hk, hm⟩
          unfold intV at he
          subst he
          have HS5 := Lib.hid (hs.cast (List.append_assoc _ _ _))
          have HM5 := Lib.hid (Nat.le_trans HM4.out hm)
          have HK5 := Lib.hid (Kp.trans (show Kp b nv nv4 w _ from (by repeat (first | (with_reducible exact HK4.out) | (with_reducible apply Kp.alloc) | (with_reducible apply Kp.more)))) hk)
          clear hs hk hm
          go_wp2_with fail
          go_ret
          have := fin_ok HR4.out HH.out
          subst this
          exact RPost.res rfl HS5.out HK5.out HM5.out
set_option maxHeartbeats 4000000 in
set_option maxRecDepth 20000 in
theorem more_none {b lb lo cap : Nat} {nv : Value} {L : Toks} {m : Nat} {N : List Nd} {w : World} (h : Rt b lb lo cap nv L m N 0 0 w) (h0 : isP L sOpen m = false) (h1 : isP L sNot m = false) (h2 : isP L sMinus m = false) (g0 : isP L sGet m = false) (g1 : isP L sHas m = false) (g2 : isP L sLen m = false) (g3 : isP L sShow m = false) (d : Int) (r : PR Int) (hr : pno L 3 m N.length = r) :
    Calls Try.prog 129 #[.pointer (some ⟨b, 0, none⟩), .int .i64 d] w (RPost intV isInt b lb lo cap nv L m N w r) := by
  have T0 : RowKit.Hid (∀ w1, Ext w w1 → Calls Try.prog 75 #[.pointer (some ⟨b, 0, none⟩), .string ⟨#[40]⟩] w1 fun e w' => e = .returned (.bool false) ∧ Ext w1 w') := Lib.hid fun w1 hx => take_no (h.ext hx) _ (by decide) h0
  have T1 : RowKit.Hid (∀ w1, Ext w w1 → Calls Try.prog 75 #[.pointer (some ⟨b, 0, none⟩), .string ⟨#[110, 111, 116]⟩] w1 fun e w' => e = .returned (.bool false) ∧ Ext w1 w') := Lib.hid fun w1 hx => take_no (h.ext hx) _ (by decide) h1
  have T2 : RowKit.Hid (∀ w1, Ext w w1 → Calls Try.prog 75 #[.pointer (some ⟨b, 0, none⟩), .string ⟨#[45]⟩] w1 fun e w' => e = .returned (.bool false) ∧ Ext w1 w') := Lib.hid fun w1 hx => take_no (h.ext hx) _ (by decide) h2
  have G0 : RowKit.Hid (∀ w1, Ext w w1 → Calls Try.prog 75 #[.pointer (some ⟨b, 0, none⟩), .string ⟨#[103, 101, 116]⟩] w1 fun e w' => e = .returned (.bool false) ∧ Ext w1 w') := Lib.hid fun w1 hx => take_no (h.ext hx) _ (by decide) g0
  have G1 : RowKit.Hid (∀ w1, Ext w w1 → Calls Try.prog 75 #[.pointer (some ⟨b, 0, none⟩), .string ⟨#[104, 97, 115]⟩] w1 fun e w' => e = .returned (.bool false) ∧ Ext w1 w') := Lib.hid fun w1 hx => take_no (h.ext hx) _ (by decide) g1
  have G2 : RowKit.Hid (∀ w1, Ext w w1 → Calls Try.prog 75 #[.pointer (some ⟨b, 0, none⟩), .string ⟨#[108, 101, 110]⟩] w1 fun e w' => e = .returned (.bool false) ∧ Ext w1 w') := Lib.hid fun w1 hx => take_no (h.ext hx) _ (by decide) g2
  have G3 : RowKit.Hid (∀ w1, Ext w w1 → Calls Try.prog 75 #[.pointer (some ⟨b, 0, none⟩), .string ⟨#[115, 104, 111, 119]⟩] w1 fun e w' => e = .returned (.bool false) ∧ Ext w1 w') := Lib.hid fun w1 hx => take_no (h.ext hx) _ (by decide) g3
  have FL : RowKit.Hid (∀ w1, Ext w w1 → Calls Try.prog 34 #[.pointer (some ⟨b, 0, none⟩), .int .i64 3] w1 fun e w' => e = .returned (.tuple #[]) ∧ Rt b lb lo cap nv L m N 3 (tk L m).2 w' ∧ Kp b nv nv w1 w') := Lib.hid fun w1 hx => rfail_st (h.ext hx) 3 (by decide)
  have HR := Lib.hid hr
  clear h hr h0 h1 h2 g0 g1 g2 g3
  go_enter Try.func129, Try.ntmps129
  go_wp2_with ((go_at_call 75; (with_reducible refine (T0.out _ (by repeat (first | exact Ext.refl _ | apply Ext.alloc | apply Ext.more))).mono ?_); rintro e _ ⟨rfl, d9, os9, rfl⟩))
  go_loopg [6] (2) (fun g x wr => ∃ z : Int, x = .int .i64 z ∧ (z = 0 ∨ z = 1 ∨ z = 2) ∧ 2 ≤ z + g ∧ Ext w wr)
  case atStart => exact ⟨0, rfl, by omega, by omega, by repeat (first | exact Ext.refl _ | apply Ext.alloc | apply Ext.more)⟩
  case round =>
    obtain ⟨z, rfl, hz, hg, hx⟩ := hrel
    obtain ⟨dw6, ow6, rfl⟩ := hx
    have HG := Lib.hid hg
    clear hg
    rcases hz with rfl | rfl | rfl
    · go_wp2_with ((go_at_call 75; (with_reducible refine (T1.out _ (by repeat (first | exact Ext.refl _ | apply Ext.alloc | apply Ext.more))).mono ?_); rintro e _ ⟨rfl, d9, os9, rfl⟩))
      obtain ⟨g0, rfl⟩ : ∃ g0, gk = g0 + 1 := ⟨gk - 1, by have := HG.out; omega⟩
      go_roundg g0
      case measure => omega
      case rel => exact ⟨1, by go_num, by omega, by have := HG.out; omega, by repeat (first | exact Ext.refl _ | apply Ext.alloc | apply Ext.more)⟩
    · go_wp2_with ((go_at_call 75; (with_reducible refine (T2.out _ (by repeat (first | exact Ext.refl _ | apply Ext.alloc | apply Ext.more))).mono ?_); rintro e _ ⟨rfl, d9, os9, rfl⟩))
      obtain ⟨g0, rfl⟩ : ∃ g0, gk = g0 + 1 := ⟨gk - 1, by have := HG.out; omega⟩
      go_roundg g0
      case measure => omega
      case rel => exact ⟨2, by go_num, by omega, by have := HG.out; omega, by repeat (first | exact Ext.refl _ | apply Ext.alloc | apply Ext.more)⟩
    · skip
      go_wp2_with fail
      go_loopg [7] (4) (fun g x wr => ∃ z : Int, x = .int .i64 z ∧ (z = 0 ∨ z = 1 ∨ z = 2 ∨ z = 3 ∨ z = 4) ∧ 4 ≤ z + g ∧ Ext w wr)
      case atStart => exact ⟨0, rfl, by omega, by omega, by repeat (first | exact Ext.refl _ | apply Ext.alloc | apply Ext.more)⟩
      case round =>
        obtain ⟨z, rfl, hz, hg, hx⟩ := hrel
        obtain ⟨dw7, ow7, rfl⟩ := hx
        have HG := Lib.hid hg
        clear hg
        rcases hz with rfl | rfl | rfl | rfl | rfl
        · go_wp2_with ((go_at_call 75; (with_reducible refine (G0.out _ (by repeat (first | exact Ext.refl _ | apply Ext.alloc | apply Ext.more))).mono ?_); rintro e _ ⟨rfl, d9, os9, rfl⟩))
          obtain ⟨g0, rfl⟩ : ∃ g0, gk = g0 + 1 := ⟨gk - 1, by have := HG.out; omega⟩
          go_roundg g0
          case measure => omega
          case rel => exact ⟨1, by go_num, by omega, by have := HG.out; omega, by repeat (first | exact Ext.refl _ | apply Ext.alloc | apply Ext.more)⟩
        · go_wp2_with ((go_at_call 75; (with_reducible refine (G1.out _ (by repeat (first | exact Ext.refl _ | apply Ext.alloc | apply Ext.more))).mono ?_); rintro e _ ⟨rfl, d9, os9, rfl⟩))
          obtain ⟨g0, rfl⟩ : ∃ g0, gk = g0 + 1 := ⟨gk - 1, by have := HG.out; omega⟩
          go_roundg g0
          case measure => omega
          case rel => exact ⟨2, by go_num, by omega, by have := HG.out; omega, by repeat (first | exact Ext.refl _ | apply Ext.alloc | apply Ext.more)⟩
        · go_wp2_with ((go_at_call 75; (with_reducible refine (G2.out _ (by repeat (first | exact Ext.refl _ | apply Ext.alloc | apply Ext.more))).mono ?_); rintro e _ ⟨rfl, d9, os9, rfl⟩))
          obtain ⟨g0, rfl⟩ : ∃ g0, gk = g0 + 1 := ⟨gk - 1, by have := HG.out; omega⟩
          go_roundg g0
          case measure => omega
          case rel => exact ⟨3, by go_num, by omega, by have := HG.out; omega, by repeat (first | exact Ext.refl _ | apply Ext.alloc | apply Ext.more)⟩
        · go_wp2_with ((go_at_call 75; (with_reducible refine (G3.out _ (by repeat (first | exact Ext.refl _ | apply Ext.alloc | apply Ext.more))).mono ?_); rintro e _ ⟨rfl, d9, os9, rfl⟩))
          obtain ⟨g0, rfl⟩ : ∃ g0, gk = g0 + 1 := ⟨gk - 1, by have := HG.out; omega⟩
          go_roundg g0
          case measure => omega
          case rel => exact ⟨4, by go_num, by omega, by have := HG.out; omega, by repeat (first | exact Ext.refl _ | apply Ext.alloc | apply Ext.more)⟩
        · skip
          go_wp2_with ((go_at_call 34; (with_reducible refine (FL.out _ (by repeat (first | exact Ext.refl _ | apply Ext.alloc | apply Ext.more))).mono ?_); rintro e w2 ⟨rfl, hs2, hk2⟩; have HS2 := Lib.hid hs2; have HK2 := Lib.hid (((Kp.refl b nv w).ext (by repeat (first | exact Ext.refl _ | apply Ext.alloc | apply Ext.more))).trans hk2); clear hs2 hk2))
          go_ret
          have := HR.out
          subst this
          exact RPost.err (by decide) ⟨_, rfl⟩ HS2.out HK2.out
end Go.Proofs.Ytoaaklcbcbjaiaa
