/- The document's parser: exprs whole, braces, a block where something is wrong already. -/
import Derived.Test.YtoaaklcbcbjaiaaRar9
set_option linter.unusedSimpArgs false
set_option linter.unusedVariables false
namespace Go.Proofs.Ytoaaklcbcbjaiaa
open Go.RowKit
attribute [go_sem] more_more Array.size_append

theorem RDp.cast {b lb lo cap : Nat} {L : Toks} {F : FuncId} {z z' : Int} {p : PM Int} (h : RDp b lb lo cap L F z p) (e : z = z') : RDp b lb lo cap L F z' p := e ▸ h
theorem rexprs_any (b lb lo cap : Nat) (L : Toks) : ∀ D d : Nat, d + D = 17 → RDp b lb lo cap L 72 (d : Int) (exprD L D).1 ∧ (d ≤ 16 → RDp b lb lo cap L 120 (d : Int) (exprD L D).2)
  | 0, d, hd => by
    have e : d = 17 := by omega
    subst e
    exact ⟨rexpr_deep, fun h => by omega⟩
  | D + 1, d, hd => by
    obtain ⟨h1, h2⟩ := rexprs_any b lb lo cap L D (d + 1) (by omega)
    have ec : ((d + 1 : Nat) : Int) = (d : Int) + 1 := by omega
    have ed : 16 - D = d := by omega
    have ho : RDp b lb lo cap L 120 (d : Int) (oneP L d (exprD L D).1 (exprD L D).2) := fun nv m N w hs r hr =>
      rone_any hs d (by omega) _ _ (h1.cast ec) (fun h => (h2 (by omega)).cast ec) r hr
    have e2 : exprD L (D + 1) = (orP L (oneP L (16 - D) (exprD L D).1 (exprD L D).2), oneP L (16 - D) (exprD L D).1 (exprD L D).2) := rfl
    rw [e2, ed]
    exact ⟨rexpr_any d (by omega) _ ho, fun _ => ho⟩

set_option maxHeartbeats 2000000 in
theorem rblock_dead {b lb lo cap : Nat} {nv : Value} {L : Toks} {m : Nat} {N : List Nd} {w : World} {wh : Int} {ee : Int} (hee : ee ≠ 0) (h : Rt b lb lo cap nv L m N ee wh w) (d : Int) :
    Calls Try.prog 33 #[.pointer (some ⟨b, 0, none⟩), .int .i64 d] w fun e w' => e = .returned (.int .i64 (-1)) ∧ Ext w w' := by
  have FL : RowKit.Hid (∀ (c : Int) w1, Ext w w1 → Calls Try.prog 34 #[.pointer (some ⟨b, 0, none⟩), .int .i64 c] w1 fun e w' => e = .returned (.tuple #[]) ∧ Ext w1 w') := Lib.hid fun c w1 hx => rfail_dead hee (h.ext hx) c
  obtain ⟨c0, c1, c2, c3, c4, f1, f2, f3, f4, hb⟩ := h.facts
  have q : (ee == 0) = false := by simpa using hee
  have q2 : (ee != 0) = true := by simpa using hee
  clear h hee c0 c1 c2 c4 f1 f2 f3 f4
  by_cases hd : 16 < d
  · 
    go_enter Try.func33, Try.ntmps33
    go_wp2_with ((go_at_call 34; (with_reducible refine (FL.out _ _ (by repeat (first | exact Ext.refl _ | apply Ext.alloc | apply Ext.more))).mono ?_); rintro e _ ⟨rfl, d2, os2, rfl⟩))
    go_loopg [5] (0) (fun g x wr => x = .slice none 0 0 ∧ Ext w wr)
    case atStart => exact ⟨rfl, by repeat (first | exact Ext.refl _ | apply Ext.alloc | apply Ext.more)⟩
    case round =>
      obtain ⟨rfl, dw, ow, rfl⟩ := hrel
      go_wp2_with fail
      go_ret
      exact ⟨rfl, by repeat (first | exact Ext.refl _ | apply Ext.alloc | apply Ext.more)⟩
  · have hd2 : d ≤ 16 := by omega
    clear hd
    go_enter Try.func33, Try.ntmps33
    go_wp2_with fail
    go_loopg [5] (0) (fun g x wr => x = .slice none 0 0 ∧ Ext w wr)
    case atStart => exact ⟨rfl, by repeat (first | exact Ext.refl _ | apply Ext.alloc | apply Ext.more)⟩
    case round =>
      obtain ⟨rfl, dw, ow, rfl⟩ := hrel
      go_wp2_with fail
      go_ret
      exact ⟨rfl, by repeat (first | exact Ext.refl _ | apply Ext.alloc | apply Ext.more)⟩

set_option maxHeartbeats 2000000 in
theorem braces_deadw {b lb lo cap : Nat} {nv : Value} {L : Toks} {m : Nat} {N : List Nd} {w : World} {wh : Int} {ee : Int} (hee : ee ≠ 0) (h : Rt b lb lo cap nv L m N ee wh w) (d : Int) :
    Calls Try.prog 74 #[.pointer (some ⟨b, 0, none⟩), .int .i64 d] w fun e w' => e = .returned (.int .i64 (-1)) ∧ Ext w w' := by
  have ND : RowKit.Hid (∀ (s : ByteArray) w1, (s.size : Int) ≤ 100 → Ext w w1 → Calls Try.prog 71 #[.pointer (some ⟨b, 0, none⟩), .string s] w1 fun e w' => e = .returned (.tuple #[]) ∧ Ext w1 w') := Lib.hid fun s w1 hs hx => need_dead hee (h.ext hx) s hs
  have BD : RowKit.Hid (∀ w1, Ext w w1 → Calls Try.prog 33 #[.pointer (some ⟨b, 0, none⟩), .int .i64 d] w1 fun e w' => e = .returned (.int .i64 (-1)) ∧ Ext w1 w') := Lib.hid fun w1 hx => rblock_dead hee (h.ext hx) d
  clear h hee
  go_enter Try.func74, Try.ntmps74
  go_wp2_with (first
    | ((go_at_call 71; (with_reducible refine (ND.out _ _ (by decide) (by repeat (first | exact Ext.refl _ | apply Ext.alloc | apply Ext.more))).mono ?_); rintro e _ ⟨rfl, d2, os2, rfl⟩))
    | ((go_at_call 33; (with_reducible refine (BD.out _ (by repeat (first | exact Ext.refl _ | apply Ext.alloc | apply Ext.more))).mono ?_); rintro e _ ⟨rfl, d3, os3, rfl⟩)))
  go_ret
  exact ⟨rfl, by repeat (first | exact Ext.refl _ | apply Ext.alloc | apply Ext.more)⟩

set_option maxHeartbeats 2000000 in
theorem braces_any {b lb lo cap : Nat} {nv : Value} {L : Toks} {m : Nat} {N : List Nd} {w : World} (h : Rt b lb lo cap nv L m N 0 0 w) (z : Int) (bl : PM Int) (hb : RDp b lb lo cap L 33 z bl) (r : PR Int) (hr : bracedP L bl m N.length = r) :
    Calls Try.prog 74 #[.pointer (some ⟨b, 0, none⟩), .int .i64 z] w (RPost intV isInt b lb lo cap nv L m N w r) := by
  have HB := Lib.hid hb
  have HS0 := Lib.hid (h.cast (List.append_nil N).symm)
  have HK0 := Lib.hid (Kp.refl b nv w)
  have HM0 := Lib.hid (Nat.le_refl m)
  have HR0 := Lib.hid (start_hr hr)
  unfold bracedP at HR0
  rw [funMust, funMust] at HR0
  clear h hb hr
  go_enter Try.func74, Try.ntmps74
  go_wp2_with fail
  go_at_call 71
  obtain ⟨r1, h1⟩ := step_get HR0.out
  refine (needM_any (show Rt b lb lo cap nv L m (N ++ []) 0 0 _ from (by repeat (first | (with_reducible exact HS0.out) | (with_reducible apply Rt.alloc) | (with_reducible apply Rt.more)))) _ (by decide) r1 (by rw [List.length_append]; exact h1)).mono ?_
  have HH := Lib.hid h1; clear h1
  rcases r1 with ⟨e1, e2⟩ | ⟨v1, m1, ns1⟩
  · rintro e wE ⟨hc, ⟨v, rfl, rfl⟩, nvE, mE, NE, hsE, hkE⟩
    have HC := Lib.hid hc
    have HSE := Lib.hid hsE
    have HKE := Lib.hid (Kp.trans (show Kp b nv nv w _ from (by repeat (first | (with_reducible exact HK0.out) | (with_reducible apply Kp.alloc) | (with_reducible apply Kp.more)))) hkE)
    clear hc hsE hkE
    go_wp2_with (first
      | ((go_at_call 71; (with_reducible refine (need_dead HC.out (show Rt b lb lo cap nvE L mE NE e1 e2 _ from (by repeat (first | (with_reducible exact HSE.out) | (with_reducible apply Rt.alloc) | (with_reducible apply Rt.more)))) _ (by decide)).mono ?_); rintro e _ ⟨rfl, d7, os7, rfl⟩))
      | ((go_at_call 33; (with_reducible refine (rblock_dead HC.out (show Rt b lb lo cap nvE L mE NE e1 e2 _ from (by repeat (first | (with_reducible exact HSE.out) | (with_reducible apply Rt.alloc) | (with_reducible apply Rt.more)))) _).mono ?_); rintro e _ ⟨rfl, d5, os5, rfl⟩)))
    go_ret
    have := step_err HR0.out HH.out
    subst this
    exact RPost.err HC.out ⟨_, rfl⟩ (by repeat (first | (with_reducible exact HSE.out) | (with_reducible apply Rt.alloc) | (with_reducible apply Rt.more))) (by repeat (first | (with_reducible exact HKE.out) | (with_reducible apply Kp.alloc) | (with_reducible apply Kp.more)))
  rintro e w1 ⟨he, nv1, hs, hk, hm⟩
  unfold unitV at he
  subst he
  have HR1 := Lib.hid (step_ok HR0.out HH.out)
  have HS1 := Lib.hid (hs.cast (List.append_assoc _ _ _))
  have HM1 := Lib.hid (Nat.le_trans HM0.out hm)
  have HK1 := Lib.hid (Kp.trans (show Kp b nv nv w _ from (by repeat (first | (with_reducible exact HK0.out) | (with_reducible apply Kp.alloc) | (with_reducible apply Kp.more)))) hk)
  clear hs hk hm
  go_wp2_with fail
  go_at_call 33
  obtain ⟨r2, h2⟩ := step_get HR1.out
  refine (HB.out _ _ _ _ (show Rt b lb lo cap nv1 L m1 (N ++ ([] ++ ns1)) 0 0 _ from (by repeat (first | (with_reducible exact HS1.out) | (with_reducible apply Rt.alloc) | (with_reducible apply Rt.more)))) r2 (by rw [List.length_append]; exact h2)).mono ?_
  have HH := Lib.hid h2; clear h2
  rcases r2 with ⟨e1, e2⟩ | ⟨v2, m2, ns2⟩
  · rintro e wE ⟨hc, ⟨v, rfl, yq, rfl⟩, nvE, mE, NE, hsE, hkE⟩
    have HC := Lib.hid hc
    have HSE := Lib.hid hsE
    have HKE := Lib.hid (Kp.trans (show Kp b nv nv1 w _ from (by repeat (first | (with_reducible exact HK1.out) | (with_reducible apply Kp.alloc) | (with_reducible apply Kp.more)))) hkE)
    clear hc hsE hkE
    go_wp2_with ((go_at_call 71; (with_reducible refine (need_dead HC.out (show Rt b lb lo cap nvE L mE NE e1 e2 _ from (by repeat (first | (with_reducible exact HSE.out) | (with_reducible apply Rt.alloc) | (with_reducible apply Rt.more)))) _ (by decide)).mono ?_); rintro e _ ⟨rfl, d7, os7, rfl⟩))
    go_ret
    have := step_err HR1.out HH.out
    subst this
    exact RPost.err HC.out ⟨_, rfl⟩ (by repeat (first | (with_reducible exact HSE.out) | (with_reducible apply Rt.alloc) | (with_reducible apply Rt.more))) (by repeat (first | (with_reducible exact HKE.out) | (with_reducible apply Kp.alloc) | (with_reducible apply Kp.more)))
  rintro e w2 ⟨he, nv2, hs, hk, hm⟩
  unfold intV at he
  subst he
  have HR2 := Lib.hid (step_ok HR1.out HH.out)
  have HS2 := Lib.hid (hs.cast (List.append_assoc _ _ _))
  have HM2 := Lib.hid (Nat.le_trans HM1.out hm)
  have HK2 := Lib.hid (Kp.trans (show Kp b nv nv1 w _ from (by repeat (first | (with_reducible exact HK1.out) | (with_reducible apply Kp.alloc) | (with_reducible apply Kp.more)))) hk)
  clear hs hk hm
  go_wp2_with fail
  go_at_call 71
  obtain ⟨r3, h3⟩ := step_get HR2.out
  refine (needM_any (show Rt b lb lo cap nv2 L m2 (N ++ (([] ++ ns1) ++ ns2)) 0 0 _ from (by repeat (first | (with_reducible exact HS2.out) | (with_reducible apply Rt.alloc) | (with_reducible apply Rt.more)))) _ (by decide) r3 (by rw [List.length_append]; exact h3)).mono ?_
  have HH := Lib.hid h3; clear h3
  rcases r3 with ⟨e1, e2⟩ | ⟨v3, m3, ns3⟩
  · rintro e wE ⟨hc, ⟨v, rfl, rfl⟩, nvE, mE, NE, hsE, hkE⟩
    have HC := Lib.hid hc
    have HSE := Lib.hid hsE
    have HKE := Lib.hid (Kp.trans (show Kp b nv nv2 w _ from (by repeat (first | (with_reducible exact HK2.out) | (with_reducible apply Kp.alloc) | (with_reducible apply Kp.more)))) hkE)
    clear hc hsE hkE
    go_wp2_with fail
    go_ret
    have := step_err HR2.out HH.out
    subst this
    exact RPost.err HC.out ⟨_, rfl⟩ (by repeat (first | (with_reducible exact HSE.out) | (with_reducible apply Rt.alloc) | (with_reducible apply Rt.more))) (by repeat (first | (with_reducible exact HKE.out) | (with_reducible apply Kp.alloc) | (with_reducible apply Kp.more)))
  rintro e w3 ⟨he, nv3, hs, hk, hm⟩
  unfold unitV at he
  subst he
  have HR3 := Lib.hid (step_ok HR2.out HH.out)
  have HS3 := Lib.hid (hs.cast (List.append_assoc _ _ _))
  have HM3 := Lib.hid (Nat.le_trans HM2.out hm)
  have HK3 := Lib.hid (Kp.trans (show Kp b nv nv2 w _ from (by repeat (first | (with_reducible exact HK2.out) | (with_reducible apply Kp.alloc) | (with_reducible apply Kp.more)))) hk)
  clear hs hk hm
  go_wp2_with fail
  go_ret
  have := HR3.out
  subst this
  exact RPost.res rfl (HS3.out.cast (by simp [pok, prep])) HK3.out HM3.out
end Go.Proofs.Ytoaaklcbcbjaiaa
