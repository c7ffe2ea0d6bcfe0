/- Lemmas for the claim (texts Par5, what its proof uses of them). -/
import Derived.Test.YtpoeknndkccbaaaGreatS25
set_option linter.unusedSimpArgs false
set_option linter.unusedVariables false
namespace Go.Proofs.YtpoeknndkccbaaaGreat
open Go.RowKit
attribute [go_sem] more_more Array.size_append
theorem qal {α : Type} {p : PM α} {m : Nat} {N : List Nd} {r : PR α} (hr : p m N.length = r) : prep [] (p m (N.length + ([] : List Nd).length)) = r := by rw [qaY]; exact hr
theorem qai {α β : Type} {NS : List Nd} {p : PM α} {f : α → PM β} {m n : Nat} {r : PR β} (hr : prep NS (pbind p f m n) = r) : ∃ r1, p m n = r1 := ⟨_, rfl⟩
theorem qam {α : Type} {NS : List Nd} {p : PM α} {m n : Nat} {r : PR α} (hr : prep NS (p m n) = r) : ∃ r1, p m n = r1 := ⟨_, rfl⟩
theorem qah {α β : Type} {NS : List Nd} {p : PM α} {f : α → PM β} {m n : Nat} {r : PR β} {c a : Int} (hr : prep NS (pbind p f m n) = r) (h : p m n = .error (c, a)) : .error (c, a) = r := by
 rw [qaL h] at hr; exact hr
theorem qag {α β : Type} {N NS ns : List Nd} {p : PM α} {f : α → PM β} {m m1 : Nat} {v : α} {r : PR β} (hr : prep NS (pbind p f m (N.length + NS.length)) = r) (h : p m (N.length + NS.length) = .ok (v, m1, ns)) :
  prep (NS ++ ns) (f v m1 (N.length + (NS ++ ns).length)) = r := by
 rw [qay h, qcm] at hr
 rw [List.length_append, ← Nat.add_assoc]; exact hr
theorem qap {α : Type} {NS : List Nd} {p : PM α} {m n : Nat} {r : PR α} {c a : Int} (hr : prep NS (p m n) = r) (h : p m n = .error (c, a)) : .error (c, a) = r := by
 rw [h] at hr; exact hr
theorem qaz {α : Type} {NS ns : List Nd} {p : PM α} {m m1 n : Nat} {v : α} {r : PR α} (hr : prep NS (p m n) = r) (h : p m n = .ok (v, m1, ns)) : .ok (v, m1, NS ++ ns) = r := by
 rw [h] at hr; exact hr
theorem deep1_any {b lb lo cap : Nat} {nv : Value} {L : Toks} {m : Nat} {N : List Nd} {w : World} (h : St b lb lo cap nv L m N w) (d : Nat) (hd : d ≤ 17) (z : Int) (hz : z = (d : Int)) (r : PR Unit) (hr : deepP L d m N.length = r) :
  Calls Tryz.prog 76 #[.pointer (some ⟨b, 0, none⟩), .int .i64 z] w (PPost unitV b lb lo cap nv L m N w r) := by subst hz; exact qbS h d hd r hr
/-- a call of expr, one or block, at whatever state -/
def Dp (b lb lo cap : Nat) (L : Toks) (F : FuncId) (z : Int) (p : PM Int) : Prop := ∀ nv m N w, St b lb lo cap nv L m N w → ∀ r, p m N.length = r → Calls Tryz.prog F #[.pointer (some ⟨b, 0, none⟩), .int .i64 z] w (PPost intV b lb lo cap nv L m N w r)
theorem deep_lt {L : Toks} {d m n : Nat} {v : Unit × Nat × List Nd} (h : deepP L (d + 1) m n = .ok v) : d < 16 := by unfold deepP at h; split at h <;> simp at h <;> omega
theorem qcA {L : Toks} {s : ByteArray} {m n : Nat} (h : isP L s m = true) : mustP L [s] m n = .ok ((), m + 1, []) := by rw [mustP_yes h]; rfl
theorem qci {L : Toks} {s : ByteArray} {m : Nat} (hw : wordB s = true) (hk : (tk L m).1.k = 5) (hs : (tk L m).1.s.toList = s.toList) : isP L s m = true := by
 unfold isP; rw [hw, hk, hs]; simp
theorem strs_one {b lb lo cap : Nat} {nv : Value} {L : Toks} {m : Nat} {N : List Nd} {w : World} (h : St b lb lo cap nv L m N w) (s : ByteArray) : Loc b nv w.heap.size (strs [s]) (w.alloc (.cells #[.string s] 9 (0, 0))) := h.loc (strs [s])
theorem qan {b lb lo cap : Nat} {nv : Value} {L : Toks} {m : Nat} {N : List Nd} {w : World} (h : St b lb lo cap nv L m N w) (s : ByteArray) (z : Nat) (hz : z = w.heap.size) (r : PR Unit) (hr : mustP L [s] m N.length = r) :
  Calls Tryz.prog 133 #[.pointer (some ⟨b, 0, none⟩), .slice (some ⟨z, 0, none⟩) 1 1] (w.alloc (.cells #[.string s] 9 (0, 0))) (PPost unitV b lb lo cap nv L m N (w.alloc (.cells #[.string s] 9 (0, 0))) r) := by
 subst hz
 exact must_any (h.alloc _) [s] w.heap.size 1 (strs_one h s) zbj r hr
set_option maxHeartbeats 2000000 in
set_option maxRecDepth 20000 in
theorem qcY {b lb lo cap : Nat} {nv : Value} {L : Toks} {m : Nat} {N : List Nd} {w : World} (h : St b lb lo cap nv L m N w) (k : Int) (d : Nat) (hd : d ≤ 16) (o1 : PM Int) (ho : d < 16 → Dp b lb lo cap L 143 ((d : Int) + 1) o1) (r : PR Int) (hr : qcG L k d o1 m N.length = r) :
  Calls Tryz.prog 156 #[.pointer (some ⟨b, 0, none⟩), .int .i64 k, .int .i64 (d : Int)] w (PPost intV b lb lo cap nv L m N w r) := by
 have HS0 := Lib.hid (h.cast (List.append_nil N).symm)
 have HK0 := Lib.hid (Kp.refl b nv w)
 have HM0 := Lib.hid (Nat.le_refl m)
 have HO := Lib.hid ho
 have HR0 := Lib.hid (qal hr)
 unfold qcG at HR0
 have hd0 : 0 ≤ (d : Int) := by omega
 have hd1 : (d : Int) ≤ 16 := by omega
 clear h hr ho
 go_enter Tryz.func156, Tryz.ntmps156
 go_wp2_with fail
 go_at_call 76
 obtain ⟨r1, h1⟩ := qai HR0.out
 refine (deep1_any (show St b lb lo cap nv L m (N ++ []) _ from zap) (d + 1) zah _ zah r1 (by rw [List.length_append]; exact h1)).mono ?_
 have HH := Lib.hid h1; clear h1
 try clear c1 f1 hb
 rcases r1 with ⟨e1, e2⟩ | ⟨v1, m1, ns1⟩
 · rintro e w1 ⟨he, nv1, hk⟩
   have HKE := Lib.hid (Kp.trans (show Kp b nv nv w _ from zag) hk)
   clear hk
   unfold noV at he
   subst he
   go_wp2_with fail
   have := qah HR0.out HH.out
   subst this
   exact ⟨rfl, PPost.err rfl HKE.out⟩
 rintro e w1 ⟨he, nv1, hs, hk, hm⟩
 unfold unitV at he
 subst he
 have HR1 := Lib.hid (qag HR0.out HH.out)
 have HS1 := Lib.hid (hs.cast (List.append_assoc _ _ _))
 have HM1 := Lib.hid (Nat.le_trans HM0.out hm)
 have HK1 := Lib.hid (Kp.trans (show Kp b nv nv w _ from zag) hk)
 clear hs hk hm
 have HD := Lib.hid (deep_lt HH.out)
 go_wp2_with ((go_at_call 112; (with_reducible refine (qas _ _).mono ?_); rintro e _ ⟨rfl, d3, os3, rfl⟩))
 go_at_call 143
 obtain ⟨r2, h2⟩ := qai HR1.out
 have LCN := Lib.hid (St.loc (w := more w1 d3 os3) (lb := lb) (lo := lo) (cap := cap) (L := L) (nv := nv1) (show St b lb lo cap nv1 L m1 (N ++ ([] ++ ns1)) _ from zan) (.cells #[.int .i64 k, .int .i64 (-1), .int .i64 (-1), .int .i64 (-1), .int .i64 (-1), .int .i64 0, .string ⟨#[]⟩, .string ⟨#[]⟩] 42 (0, 0)))
 refine (HO.out HD.out _ _ _ _ (show St b lb lo cap nv1 L m1 (N ++ ([] ++ ns1)) _ from zan) r2 zci).mono ?_
 have HH := Lib.hid h2; clear h2
 try clear c1 f1 hb
 rcases r2 with ⟨e1, e2⟩ | ⟨v2, m2, ns2⟩
 · rintro e w2 ⟨he, nv2, hk⟩
   have HKE := Lib.hid (Kp.trans (show Kp b nv nv1 w _ from zac) hk)
   clear hk
   unfold noV at he
   subst he
   go_wp2_with fail
   have := qah HR1.out HH.out
   subst this
   exact ⟨rfl, PPost.err rfl HKE.out⟩
 rintro e w2 ⟨he, nv2, hs, hk, hm⟩
 unfold intV at he
 subst he
 have HR2 := Lib.hid (qag HR1.out HH.out)
 have HS2 := Lib.hid (hs.cast (List.append_assoc _ _ _))
 have HM2 := Lib.hid (Nat.le_trans HM1.out hm)
 have HK2 := Lib.hid (Kp.trans (show Kp b nv nv1 w _ from zac) hk)
 have LC2 := Lib.hid (Loc.kp (show Loc b nv1 (more w1 d3 os3).heap.size (.cells #[.int .i64 k, .int .i64 (-1), .int .i64 (-1), .int .i64 (-1), .int .i64 (-1), .int .i64 0, .string ⟨#[]⟩, .string ⟨#[]⟩] 42 (0, 0)) _ from zbd) hk)
 clear LCN
 obtain ⟨kn, hkn⟩ : ∃ kn, (more w1 d3 os3).heap.size = kn := ⟨_, rfl⟩
 rw [hkn] at LC2
 have HKW : RowKit.Hid (w.heap.size ≤ kn) := Lib.hid zbu
 have HLK : RowKit.Hid (lb ≠ kn) := Lib.hid zbp
 simp only [more_size, World.size_setCell, World.size_alloc, Array.size_append] at hkn
 rw [hkn]
 clear hkn
 clear hs hk hm
 obtain ⟨n0, n1, n2, n3, n4, n5, n6, n7, z0, z1, z2, z3', z5, z6, z7, hkl⟩ := LC2.out.node
 go_wp2_with fail
 go_at_call 115
 obtain ⟨r9, h9⟩ := qam HR2.out
 refine (qaD (show St b lb lo cap nv2 L m2 (N ++ (([] ++ ns1) ++ ns2)) _ from zay) _ _ _ _ _ _ _ _ r9 zbm).mono ?_
 have HH := Lib.hid h9; clear h9
 rcases r9 with ⟨e1, e2⟩ | ⟨v9, m9, ns9⟩
 · rintro e w9 ⟨he, nv9, hk⟩
   have HKE := Lib.hid (Kp.trans (show Kp b nv nv2 w _ from zaj) hk)
   clear hk
   unfold noV at he
   subst he
   go_wp2_with fail
   have := qap HR2.out HH.out
   subst this
   exact ⟨rfl, PPost.err rfl HKE.out⟩
 rintro e w9 ⟨he, nv9, hs, hk, hm⟩
 unfold intV at he
 subst he
 have HS9 := Lib.hid (hs.cast (List.append_assoc _ _ _))
 have HM9 := Lib.hid (Nat.le_trans HM2.out hm)
 have HK9 := Lib.hid (Kp.trans (show Kp b nv nv2 w _ from zaj) hk)
 clear hs hk hm
 go_wp2_with fail
 go_ret
 have := qaz HR2.out HH.out
 subst this
 exact PPost.res rfl HS9.out HK9.out HM9.out
set_option maxHeartbeats 1000000 in
theorem call_any (s : ByteArray) (w : World) : Calls Tryz.prog 157 #[.string s] w fun e w' => e = .returned (.int .i64 (callF s)) ∧ Ext w w' := by
 unfold callF sIs
 cases h1 : (s.toList == [103, 101, 116])
 · cases h2 : (s.toList == [104, 97, 115])
   · cases h3 : (s.toList == [108, 101, 110])
     · cases h4 : (s.toList == [115, 104, 111, 119])
       all_goals
        go_enter Tryz.func157, Tryz.ntmps157
        go_wp2_with fail
        go_ret
        exact ⟨rfl, zab⟩
     · 
       go_enter Tryz.func157, Tryz.ntmps157
       go_wp2_with fail
       go_ret
       exact ⟨rfl, zab⟩
   · 
     go_enter Tryz.func157, Tryz.ntmps157
     go_wp2_with fail
     go_ret
     exact ⟨rfl, zab⟩
 · 
   go_enter Tryz.func157, Tryz.ntmps157
   go_wp2_with fail
   go_ret
   exact ⟨rfl, zab⟩
theorem qbh {L : Toks} {s : ByteArray} {m n : Nat} (h : isP L s m = true) : takesP L s m n = .ok (true, m + 1, []) := by unfold takesP; rw [if_pos h]
set_option maxHeartbeats 2000000 in
set_option maxRecDepth 20000 in
theorem signed_any {b lb lo cap : Nat} {nv : Value} {L : Toks} {m : Nat} {N : List Nd} {w : World} (h : St b lb lo cap nv L m N w) (d : Nat) (hd : d ≤ 16) (e1 o1 : PM Int) (ho : d < 16 → Dp b lb lo cap L 143 ((d : Int) + 1) o1) (he : Dp b lb lo cap L 134 ((d : Int) + 1) e1) (r : PR Int) (hr : qce L d e1 o1 m N.length = r) :
  Calls Tryz.prog 152 #[.pointer (some ⟨b, 0, none⟩), .int .i64 (d : Int)] w (PPost intV b lb lo cap nv L m N w r) := by
 have hd0 : 0 ≤ (d : Int) := by omega
 have hd1 : (d : Int) ≤ 16 := by omega
 unfold qce at hr
 cases hp : isP L ⟨#[45]⟩ m
 · rw [hp, if_neg zbj] at hr
   have TN : RowKit.Hid (∀ w1, Ext w w1 → Calls Tryz.prog 132 #[.pointer (some ⟨b, 0, none⟩), .string ⟨#[45]⟩] w1 fun e w' => e = .returned (.bool false) ∧ Ext w1 w') := Lib.hid fun w1 hx => qaW (h.ext hx) _ hp
   cases hq : isP L ⟨#[40]⟩ m
   · rw [hq, if_neg zbj] at hr
     have TN2 : RowKit.Hid (∀ w1, Ext w w1 → Calls Tryz.prog 132 #[.pointer (some ⟨b, 0, none⟩), .string ⟨#[40]⟩] w1 fun e w' => e = .returned (.bool false) ∧ Ext w1 w') := Lib.hid fun w1 hx => qaW (h.ext hx) _ hq
     have FL : RowKit.Hid (∀ (c : Int) w1, Ext w w1 → Calls Tryz.prog 79 #[.pointer (some ⟨b, 0, none⟩), .int .i64 c] w1 fun e w' => e = noV c (tk L m).2 ∧ Ext w1 w') := Lib.hid fun c w1 hx => qaQ (h.ext hx) c
     unfold pno at hr
     clear hp hq h ho he
     go_enter Tryz.func152, Tryz.ntmps152
     go_wp2_with (first | ((go_at_call 132; (with_reducible refine (TN.out _ zab).mono ?_); rintro e _ ⟨rfl, d7, os7, rfl⟩)) | ((go_at_call 132; (with_reducible refine (TN2.out _ zab).mono ?_); rintro e _ ⟨rfl, d7, os7, rfl⟩)) | (go_at_call 79; refine (FL.out _ _ zab).mono ?_; rintro e _ ⟨he, d3, os3, rfl⟩; unfold noV at he; subst he))
     subst hr
     exact ⟨rfl, PPost.err rfl ((Kp.refl b nv w).ext zab)⟩
   · rw [hq, if_pos rfl] at hr
     have HS0 := Lib.hid (h.cast (List.append_nil N).symm)
     have HK0 := Lib.hid (Kp.refl b nv w)
     have HM0 := Lib.hid (Nat.le_refl m)
     have HO := Lib.hid ho
     have HE := Lib.hid he
     have HR0 := Lib.hid (qal hr)
     clear h hr ho he
     go_enter Tryz.func152, Tryz.ntmps152
     go_wp2_with ((go_at_call 132; (with_reducible refine (TN.out _ zab).mono ?_); rintro e _ ⟨rfl, d7, os7, rfl⟩))
     first | skip
     go_at_call 132
     have h1 := qbh (n := N.length + ([] : List Nd).length) hq
     refine (qbd (show St b lb lo cap nv L m (N ++ []) _ from zap) _ _ (Eq.trans (by rw [List.length_append]) h1)).mono ?_
     have HH := Lib.hid h1; clear h1
     try clear c1 f1 hb
     rintro e w1 ⟨he, nv1, hs, hk, hm⟩
     subst he
     have HR1 := Lib.hid (qag HR0.out (show skipP m _ = .ok ((), m + 1, []) from rfl))
     have HS1 := Lib.hid (hs.cast (List.append_assoc _ _ _))
     have HM1 := Lib.hid (Nat.le_trans HM0.out hm)
     have HK1 := Lib.hid (Kp.trans (show Kp b nv nv w _ from zag) hk)
     clear hs hk hm
     go_wp2_with fail
     go_at_call 134
     obtain ⟨r2, h2⟩ := qai HR1.out
     refine (HE.out _ _ _ _ (show St b lb lo cap nv1 L (m + 1) (N ++ ([] ++ [])) _ from zan) r2 zci).mono ?_
     have HH := Lib.hid h2; clear h2
     try clear c1 f1 hb
     rcases r2 with ⟨e1, e2⟩ | ⟨v2, m2, ns2⟩
     · rintro e w2 ⟨he, nv2, hk⟩
       have HKE := Lib.hid (Kp.trans (show Kp b nv nv1 w _ from zac) hk)
       clear hk
       unfold noV at he
       subst he
       go_wp2_with fail
       have := qah HR1.out HH.out
       subst this
       exact ⟨rfl, PPost.err rfl HKE.out⟩
     rintro e w2 ⟨he, nv2, hs, hk, hm⟩
     unfold intV at he
     subst he
     have HR2 := Lib.hid (qag HR1.out HH.out)
     have HS2 := Lib.hid (hs.cast (List.append_assoc _ _ _))
     have HM2 := Lib.hid (Nat.le_trans HM1.out hm)
     have HK2 := Lib.hid (Kp.trans (show Kp b nv nv1 w _ from zac) hk)
     clear hs hk hm
     go_wp2_with fail
     go_at_call 133
     obtain ⟨r3, h3⟩ := qai HR2.out
     refine (qan (show St b lb lo cap nv2 L m2 (N ++ (([] ++ []) ++ ns2)) _ from zcj) _ _ zaq r3 zcl).mono ?_
     have HH := Lib.hid h3; clear h3
     try clear c1 f1 hb
     rcases r3 with ⟨e1, e2⟩ | ⟨v3, m3, ns3⟩
     · rintro e w3 ⟨he, nv3, hk⟩
       have HKE := Lib.hid (Kp.trans (show Kp b nv nv2 w _ from zbg) hk)
       clear hk
       unfold noV at he
       subst he
       go_wp2_with fail
       have := qah HR2.out HH.out
       subst this
       exact ⟨rfl, PPost.err rfl HKE.out⟩
     rintro e w3 ⟨he, nv3, hs, hk, hm⟩
     unfold unitV at he
     subst he
     have HR3 := Lib.hid (qag HR2.out HH.out)
     have HS3 := Lib.hid (hs.cast (List.append_assoc _ _ _))
     have HM3 := Lib.hid (Nat.le_trans HM2.out hm)
     have HK3 := Lib.hid (Kp.trans (show Kp b nv nv2 w _ from zbg) hk)
     clear hs hk hm
     go_wp2_with fail
     go_ret
     have := HR3.out
     subst this
     exact PPost.res rfl (HS3.out.cast (by simp [pok, prep])) HK3.out HM3.out
 · rw [hp, if_pos rfl] at hr
   have HS0 := Lib.hid (h.cast (List.append_nil N).symm)
   have HK0 := Lib.hid (Kp.refl b nv w)
   have HM0 := Lib.hid (Nat.le_refl m)
   have HO := Lib.hid ho
   have HE := Lib.hid he
   have HR0 := Lib.hid (qal hr)
   clear h hr ho he
   go_enter Tryz.func152, Tryz.ntmps152
   go_wp2_with fail
   go_at_call 132
   have h1 := qbh (n := N.length + ([] : List Nd).length) hp
   refine (qbd (show St b lb lo cap nv L m (N ++ []) _ from zap) _ _ (Eq.trans (by rw [List.length_append]) h1)).mono ?_
   have HH := Lib.hid h1; clear h1
   try clear c1 f1 hb
   rintro e w1 ⟨he, nv1, hs, hk, hm⟩
   subst he
   have HR1 := Lib.hid (qag HR0.out (show skipP m _ = .ok ((), m + 1, []) from rfl))
   have HS1 := Lib.hid (hs.cast (List.append_assoc _ _ _))
   have HM1 := Lib.hid (Nat.le_trans HM0.out hm)
   have HK1 := Lib.hid (Kp.trans (show Kp b nv nv w _ from zag) hk)
   clear hs hk hm
   go_wp2_with fail
   go_at_call 156
   obtain ⟨r9, h9⟩ := qam HR1.out
   refine (qcY (show St b lb lo cap nv1 L (m + 1) (N ++ ([] ++ [])) _ from zan) _ d hd _ HO.out r9 zbm).mono ?_
   have HH := Lib.hid h9; clear h9
   rcases r9 with ⟨e1, e2⟩ | ⟨v9, m9, ns9⟩
   · rintro e w9 ⟨he, nv9, hk⟩
     have HKE := Lib.hid (Kp.trans (show Kp b nv nv1 w _ from zac) hk)
     clear hk
     unfold noV at he
     subst he
     go_wp2_with fail
     have := qap HR1.out HH.out
     subst this
     exact ⟨rfl, PPost.err rfl HKE.out⟩
   rintro e w9 ⟨he, nv9, hs, hk, hm⟩
   unfold intV at he
   subst he
   have HS9 := Lib.hid (hs.cast (List.append_assoc _ _ _))
   have HM9 := Lib.hid (Nat.le_trans HM1.out hm)
   have HK9 := Lib.hid (Kp.trans (show Kp b nv nv1 w _ from zac) hk)
   clear hs hk hm
   go_wp2_with fail
   go_ret
   have := qaz HR1.out HH.out
   subst this
   exact PPost.res rfl HS9.out HK9.out HM9.out
set_option maxHeartbeats 1000000 in
set_option maxRecDepth 20000 in
theorem worded_any {b lb lo cap : Nat} {nv : Value} {L : Toks} {m : Nat} {N : List Nd} {w : World} (h : St b lb lo cap nv L m N w) (hk5 : (tk L m).1.k = 5) (d : Nat) (hd : d ≤ 16) (e1 o1 : PM Int) (ho : d < 16 → Dp b lb lo cap L 143 ((d : Int) + 1) o1) (he : Dp b lb lo cap L 134 ((d : Int) + 1) e1) (r : PR Int) (hr : qcg L d e1 o1 m N.length = r) :
  Calls Tryz.prog 153 #[.pointer (some ⟨b, 0, none⟩), .int .i64 (d : Int)] w (PPost intV b lb lo cap nv L m N w r) := by
 have hd0 : 0 ≤ (d : Int) := by omega
 have hd1 : (d : Int) ≤ 16 := by omega
 have hm : (m : Int) ≤ 5000 := by have := h.ends.few; have := h.pos; omega
 have hm0 : 0 ≤ (m : Int) := by omega
 have NX := Lib.hid (h.next (by rw [hk5]; decide))
 have FL : RowKit.Hid (∀ (c : Int) w1, Ext w w1 → Calls Tryz.prog 79 #[.pointer (some ⟨b, 0, none⟩), .int .i64 c] w1 fun e w' => e = noV c (tk L m).2 ∧ Ext w1 w') := Lib.hid fun c w1 hx => qaQ (h.ext hx) c
 unfold qcg pno at hr
 obtain ⟨⟨⟨k, ts, i⟩, a⟩, htt⟩ : ∃ tt, tk L m = tt := ⟨_, rfl⟩
 have TK : RowKit.Hid (∀ w1, Ext w w1 → Calls Tryz.prog 78 #[.pointer (some ⟨b, 0, none⟩)] w1 fun e w' => e = .returned (.agg #[.int .i64 k, .int .i64 a, .string ts, .int .i64 i]) ∧ Ext w1 w') := Lib.hid fun w1 hx => by have := qaP (h.ext hx); rw [htt] at this; exact this
 rw [htt] at hr FL
 dsimp only at hr FL
 have CA := Lib.hid (call_any ts)
 clear htt hk5
 by_cases hc : callF ts = -1
 · rw [if_pos hc] at hr
   rw [hc] at CA
   clear hc
   cases hp : isP L ⟨#[110, 111, 116]⟩ m
   · rw [hp, if_neg zbj] at hr
     have TN : RowKit.Hid (∀ w1, Ext w w1 → Calls Tryz.prog 132 #[.pointer (some ⟨b, 0, none⟩), .string ⟨#[110, 111, 116]⟩] w1 fun e w' => e = .returned (.bool false) ∧ Ext w1 w') := Lib.hid fun w1 hx => qaW (h.ext hx) _ hp
     cases hq : isP L ⟨#[110, 105, 108]⟩ m
     · rw [hq, if_neg zbj] at hr
       have TN2 : RowKit.Hid (∀ w1, Ext w w1 → Calls Tryz.prog 132 #[.pointer (some ⟨b, 0, none⟩), .string ⟨#[110, 105, 108]⟩] w1 fun e w' => e = .returned (.bool false) ∧ Ext w1 w') := Lib.hid fun w1 hx => qaW (h.ext hx) _ hq
       unfold sIs at hr
       cases h1 : (ts.toList == [116, 114, 117, 101])
       · rw [h1, if_neg zbj] at hr
         cases h2 : (ts.toList == [102, 97, 108, 115, 101])
         · rw [h2, if_neg zbj] at hr
           clear hp hq h ho he
           go_enter Tryz.func153, Tryz.ntmps153
           go_wp2_with (first
            | ((go_at_call 78; (with_reducible refine (TK.out _ zab).mono ?_); rintro e _ ⟨rfl, d2, os2, rfl⟩))
            | ((go_at_call 157; (with_reducible refine (CA.out _).mono ?_); rintro e _ ⟨rfl, d5, os5, rfl⟩))
            | ((go_at_call 132; (with_reducible refine (TN.out _ zab).mono ?_); rintro e _ ⟨rfl, d7, os7, rfl⟩))
            | ((go_at_call 132; (with_reducible refine (TN2.out _ zab).mono ?_); rintro e _ ⟨rfl, d7, os7, rfl⟩))
            | ((go_at_call 79; (with_reducible refine (FL.out _ _ zab).mono ?_); rintro e _ ⟨he, d3, os3, rfl⟩; unfold noV at he; subst he)))
           subst hr
           exact ⟨rfl, PPost.err rfl ((Kp.refl b nv w).ext zab)⟩
         · rw [h2, if_pos rfl] at hr
           clear hp hq
           have HS0 := Lib.hid (h.cast (List.append_nil N).symm)
           have HK0 := Lib.hid (Kp.refl b nv w)
           have HM0 := Lib.hid (Nat.le_refl m)
           have HO := Lib.hid ho
           have HE := Lib.hid he
           have HR0 := Lib.hid (qal hr)
           clear h hr ho he
           obtain ⟨c0, c1, c2, c3, f1, f2, f3, hb⟩ := HS0.out.facts
           clear c0 c2 c3 f2 f3
           have HS1 := Lib.hid (St.cast (HS0.out.setAt (m + 1) ((m : Int) + 1) zah NX.out) (show N ++ [] = N ++ ([] ++ []) by simp))
           have HK1 := Lib.hid (HK0.out.setB 1 (.int .i64 ((m : Int) + 1)))
           have HM1 := Lib.hid (Nat.le_trans HM0.out (Nat.le_succ m))
           have HR1 := Lib.hid (qag HR0.out (show skipP m _ = .ok ((), m + 1, []) from rfl))
           go_enter Tryz.func153, Tryz.ntmps153
           go_wp2_with (first
            | ((go_at_call 78; (with_reducible refine (TK.out _ zab).mono ?_); rintro e _ ⟨rfl, d2, os2, rfl⟩))
            | ((go_at_call 157; (with_reducible refine (CA.out _).mono ?_); rintro e _ ⟨rfl, d5, os5, rfl⟩))
            | ((go_at_call 132; (with_reducible refine (TN.out _ zab).mono ?_); rintro e _ ⟨rfl, d7, os7, rfl⟩))
            | ((go_at_call 132; (with_reducible refine (TN2.out _ zab).mono ?_); rintro e _ ⟨rfl, d7, os7, rfl⟩))
            | ((go_at_call 112; (with_reducible refine (qas _ _).mono ?_); rintro e _ ⟨rfl, d3, os3, rfl⟩)))
           go_at_call 115
           obtain ⟨r9, h9⟩ := qam HR1.out
           refine (qaD (show St b lb lo cap nv L (m + 1) (N ++ ([] ++ [])) _ from zan) _ _ _ _ _ _ _ _ r9 zbm).mono ?_
           have HH := Lib.hid h9; clear h9
           rcases r9 with ⟨e1, e2⟩ | ⟨v9, m9, ns9⟩
           · rintro e w9 ⟨he, nv9, hk⟩
             have HKE := Lib.hid (Kp.trans (show Kp b nv nv w _ from zac) hk)
             clear hk
             unfold noV at he
             subst he
             go_wp2_with fail
             have := qap HR1.out HH.out
             subst this
             exact ⟨rfl, PPost.err rfl HKE.out⟩
           rintro e w9 ⟨he, nv9, hs, hk, hm⟩
           unfold intV at he
           subst he
           have HS9 := Lib.hid (hs.cast (List.append_assoc _ _ _))
           have HM9 := Lib.hid (Nat.le_trans HM1.out hm)
           have HK9 := Lib.hid (Kp.trans (show Kp b nv nv w _ from zac) hk)
           clear hs hk hm
           go_wp2_with fail
           go_ret
           have := qaz HR1.out HH.out
           subst this
           exact PPost.res rfl HS9.out HK9.out HM9.out
       · rw [h1, if_pos rfl] at hr
         clear hp hq
         have HS0 := Lib.hid (h.cast (List.append_nil N).symm)
         have HK0 := Lib.hid (Kp.refl b nv w)
         have HM0 := Lib.hid (Nat.le_refl m)
         have HO := Lib.hid ho
         have HE := Lib.hid he
         have HR0 := Lib.hid (qal hr)
         clear h hr ho he
         obtain ⟨c0, c1, c2, c3, f1, f2, f3, hb⟩ := HS0.out.facts
         clear c0 c2 c3 f2 f3
         have HS1 := Lib.hid (St.cast (HS0.out.setAt (m + 1) ((m : Int) + 1) zah NX.out) (show N ++ [] = N ++ ([] ++ []) by simp))
         have HK1 := Lib.hid (HK0.out.setB 1 (.int .i64 ((m : Int) + 1)))
         have HM1 := Lib.hid (Nat.le_trans HM0.out (Nat.le_succ m))
         have HR1 := Lib.hid (qag HR0.out (show skipP m _ = .ok ((), m + 1, []) from rfl))
         go_enter Tryz.func153, Tryz.ntmps153
         go_wp2_with (first
          | ((go_at_call 78; (with_reducible refine (TK.out _ zab).mono ?_); rintro e _ ⟨rfl, d2, os2, rfl⟩))
          | ((go_at_call 157; (with_reducible refine (CA.out _).mono ?_); rintro e _ ⟨rfl, d5, os5, rfl⟩))
          | ((go_at_call 132; (with_reducible refine (TN.out _ zab).mono ?_); rintro e _ ⟨rfl, d7, os7, rfl⟩))
          | ((go_at_call 132; (with_reducible refine (TN2.out _ zab).mono ?_); rintro e _ ⟨rfl, d7, os7, rfl⟩))
          | ((go_at_call 112; (with_reducible refine (qas _ _).mono ?_); rintro e _ ⟨rfl, d3, os3, rfl⟩)))
         go_at_call 115
         obtain ⟨r9, h9⟩ := qam HR1.out
         refine (qaD (show St b lb lo cap nv L (m + 1) (N ++ ([] ++ [])) _ from zan) _ _ _ _ _ _ _ _ r9 zbm).mono ?_
         have HH := Lib.hid h9; clear h9
         rcases r9 with ⟨e1, e2⟩ | ⟨v9, m9, ns9⟩
         · rintro e w9 ⟨he, nv9, hk⟩
           have HKE := Lib.hid (Kp.trans (show Kp b nv nv w _ from zac) hk)
           clear hk
           unfold noV at he
           subst he
           go_wp2_with fail
           have := qap HR1.out HH.out
           subst this
           exact ⟨rfl, PPost.err rfl HKE.out⟩
         rintro e w9 ⟨he, nv9, hs, hk, hm⟩
         unfold intV at he
         subst he
         have HS9 := Lib.hid (hs.cast (List.append_assoc _ _ _))
         have HM9 := Lib.hid (Nat.le_trans HM1.out hm)
         have HK9 := Lib.hid (Kp.trans (show Kp b nv nv w _ from zac) hk)
         clear hs hk hm
         go_wp2_with fail
         go_ret
         have := qaz HR1.out HH.out
         subst this
         exact PPost.res rfl HS9.out HK9.out HM9.out
     · rw [hq, if_pos rfl] at hr
       clear hp
       have HS0 := Lib.hid (h.cast (List.append_nil N).symm)
       have HK0 := Lib.hid (Kp.refl b nv w)
       have HM0 := Lib.hid (Nat.le_refl m)
       have HO := Lib.hid ho
       have HE := Lib.hid he
       have HR0 := Lib.hid (qal hr)
       clear h hr ho he
       go_enter Tryz.func153, Tryz.ntmps153
       go_wp2_with (first
        | ((go_at_call 78; (with_reducible refine (TK.out _ zab).mono ?_); rintro e _ ⟨rfl, d2, os2, rfl⟩))
        | ((go_at_call 157; (with_reducible refine (CA.out _).mono ?_); rintro e _ ⟨rfl, d5, os5, rfl⟩))
        | ((go_at_call 132; (with_reducible refine (TN.out _ zab).mono ?_); rintro e _ ⟨rfl, d7, os7, rfl⟩)))
       go_at_call 132
       have h1 := qbh (n := N.length + ([] : List Nd).length) hq
       refine (qbd (show St b lb lo cap nv L m (N ++ []) _ from zap) _ _ (Eq.trans (by rw [List.length_append]) h1)).mono ?_
       have HH := Lib.hid h1; clear h1
       try clear c1 f1 hb
       rintro e w1 ⟨he, nv1, hs, hk, hm⟩
       subst he
       have HR1 := Lib.hid (qag HR0.out (show skipP m _ = .ok ((), m + 1, []) from rfl))
       have HS1 := Lib.hid (hs.cast (List.append_assoc _ _ _))
       have HM1 := Lib.hid (Nat.le_trans HM0.out hm)
       have HK1 := Lib.hid (Kp.trans (show Kp b nv nv w _ from zag) hk)
       clear hs hk hm
       go_wp2_with ((go_at_call 112; (with_reducible refine (qas _ _).mono ?_); rintro e _ ⟨rfl, d3, os3, rfl⟩))
       go_at_call 115
       obtain ⟨r9, h9⟩ := qam HR1.out
       refine (qaD (show St b lb lo cap nv1 L (m + 1) (N ++ ([] ++ [])) _ from zan) _ _ _ _ _ _ _ _ r9 zbm).mono ?_
       have HH := Lib.hid h9; clear h9
       rcases r9 with ⟨e1, e2⟩ | ⟨v9, m9, ns9⟩
       · rintro e w9 ⟨he, nv9, hk⟩
         have HKE := Lib.hid (Kp.trans (show Kp b nv nv1 w _ from zac) hk)
         clear hk
         unfold noV at he
         subst he
         go_wp2_with fail
         have := qap HR1.out HH.out
         subst this
         exact ⟨rfl, PPost.err rfl HKE.out⟩
       rintro e w9 ⟨he, nv9, hs, hk, hm⟩
       unfold intV at he
       subst he
       have HS9 := Lib.hid (hs.cast (List.append_assoc _ _ _))
       have HM9 := Lib.hid (Nat.le_trans HM1.out hm)
       have HK9 := Lib.hid (Kp.trans (show Kp b nv nv1 w _ from zac) hk)
       clear hs hk hm
       go_wp2_with fail
       go_ret
       have := qaz HR1.out HH.out
       subst this
       exact PPost.res rfl HS9.out HK9.out HM9.out
   · rw [hp, if_pos rfl] at hr
     have HS0 := Lib.hid (h.cast (List.append_nil N).symm)
     have HK0 := Lib.hid (Kp.refl b nv w)
     have HM0 := Lib.hid (Nat.le_refl m)
     have HO := Lib.hid ho
     have HE := Lib.hid he
     have HR0 := Lib.hid (qal hr)
     clear h hr ho he
     go_enter Tryz.func153, Tryz.ntmps153
     go_wp2_with (first
      | ((go_at_call 78; (with_reducible refine (TK.out _ zab).mono ?_); rintro e _ ⟨rfl, d2, os2, rfl⟩))
      | ((go_at_call 157; (with_reducible refine (CA.out _).mono ?_); rintro e _ ⟨rfl, d5, os5, rfl⟩)))
     go_at_call 132
     have h1 := qbh (n := N.length + ([] : List Nd).length) hp
     refine (qbd (show St b lb lo cap nv L m (N ++ []) _ from zap) _ _ (Eq.trans (by rw [List.length_append]) h1)).mono ?_
     have HH := Lib.hid h1; clear h1
     try clear c1 f1 hb
     rintro e w1 ⟨he, nv1, hs, hk, hm⟩
     subst he
     have HR1 := Lib.hid (qag HR0.out (show skipP m _ = .ok ((), m + 1, []) from rfl))
     have HS1 := Lib.hid (hs.cast (List.append_assoc _ _ _))
     have HM1 := Lib.hid (Nat.le_trans HM0.out hm)
     have HK1 := Lib.hid (Kp.trans (show Kp b nv nv w _ from zag) hk)
     clear hs hk hm
     go_wp2_with fail
     go_at_call 156
     obtain ⟨r9, h9⟩ := qam HR1.out
     refine (qcY (show St b lb lo cap nv1 L (m + 1) (N ++ ([] ++ [])) _ from zan) _ d hd _ HO.out r9 zbm).mono ?_
     have HH := Lib.hid h9; clear h9
     rcases r9 with ⟨e1, e2⟩ | ⟨v9, m9, ns9⟩
     · rintro e w9 ⟨he, nv9, hk⟩
       have HKE := Lib.hid (Kp.trans (show Kp b nv nv1 w _ from zac) hk)
       clear hk
       unfold noV at he
       subst he
       go_wp2_with fail
       have := qap HR1.out HH.out
       subst this
       exact ⟨rfl, PPost.err rfl HKE.out⟩
     rintro e w9 ⟨he, nv9, hs, hk, hm⟩
     unfold intV at he
     subst he
     have HS9 := Lib.hid (hs.cast (List.append_assoc _ _ _))
     have HM9 := Lib.hid (Nat.le_trans HM1.out hm)
     have HK9 := Lib.hid (Kp.trans (show Kp b nv nv1 w _ from zac) hk)
     clear hs hk hm
     go_wp2_with fail
     go_ret
     have := qaz HR1.out HH.out
     subst this
     exact PPost.res rfl HS9.out HK9.out HM9.out
 · rw [if_neg hc] at hr
   have hc2 : (callF ts != -1) = true := by simpa using hc
   obtain ⟨kk, hkk⟩ : ∃ kk, callF ts = kk := ⟨_, rfl⟩
   rw [hkk] at hr CA hc2
   clear hc hkk
   have HS0 := Lib.hid (h.cast (List.append_nil N).symm)
   have HK0 := Lib.hid (Kp.refl b nv w)
   have HM0 := Lib.hid (Nat.le_refl m)
   have HO := Lib.hid ho
   have HE := Lib.hid he
   have HR0 := Lib.hid (qal hr)
   clear h hr ho he
   obtain ⟨c0, c1, c2, c3, f1, f2, f3, hb⟩ := HS0.out.facts
   clear c0 c2 c3 f2 f3
   have HS1 := Lib.hid (St.cast (HS0.out.setAt (m + 1) ((m : Int) + 1) zah NX.out) (show N ++ [] = N ++ ([] ++ []) by simp))
   have HK1 := Lib.hid (HK0.out.setB 1 (.int .i64 ((m : Int) + 1)))
   have HM1 := Lib.hid (Nat.le_trans HM0.out (Nat.le_succ m))
   have HR1 := Lib.hid (qag HR0.out (show skipP m _ = .ok ((), m + 1, []) from rfl))
   go_enter Tryz.func153, Tryz.ntmps153
   go_wp2_with (first
    | ((go_at_call 78; (with_reducible refine (TK.out _ zab).mono ?_); rintro e _ ⟨rfl, d2, os2, rfl⟩))
    | ((go_at_call 157; (with_reducible refine (CA.out _).mono ?_); rintro e _ ⟨rfl, d5, os5, rfl⟩)))
   go_at_call 133
   obtain ⟨r2, h2⟩ := qai HR1.out
   refine (qan (show St b lb lo cap nv L (m + 1) (N ++ ([] ++ [])) _ from zan) _ _ zaq r2 zci).mono ?_
   have HH := Lib.hid h2; clear h2
   try clear c1 f1 hb
   rcases r2 with ⟨e1, e2⟩ | ⟨v2, m2, ns2⟩
   · rintro e w2 ⟨he, nv2, hk⟩
     have HKE := Lib.hid (Kp.trans (show Kp b nv nv w _ from zac) hk)
     clear hk
     unfold noV at he
     subst he
     go_wp2_with fail
     have := qah HR1.out HH.out
     subst this
     exact ⟨rfl, PPost.err rfl HKE.out⟩
   rintro e w2 ⟨he, nv2, hs, hk, hm⟩
   unfold unitV at he
   subst he
   have HR2 := Lib.hid (qag HR1.out HH.out)
   have HS2 := Lib.hid (hs.cast (List.append_assoc _ _ _))
   have HM2 := Lib.hid (Nat.le_trans HM1.out hm)
   have HK2 := Lib.hid (Kp.trans (show Kp b nv nv w _ from zac) hk)
   clear hs hk hm
   go_wp2_with ((go_at_call 112; (with_reducible refine (qas _ _).mono ?_); rintro e _ ⟨rfl, d3, os3, rfl⟩))
   go_at_call 134
   obtain ⟨r3, h3⟩ := qai HR2.out
   have LCN := Lib.hid (St.loc (w := more w2 d3 os3) (lb := lb) (lo := lo) (cap := cap) (L := L) (nv := nv2) (show St b lb lo cap nv2 L m2 (N ++ (([] ++ []) ++ ns2)) _ from zcj) (.cells #[.int .i64 kk, .int .i64 (-1), .int .i64 (-1), .int .i64 (-1), .int .i64 (-1), .int .i64 0, .string ⟨#[]⟩, .string ⟨#[]⟩] 42 (0, 0)))
   refine (HE.out _ _ _ _ (show St b lb lo cap nv2 L m2 (N ++ (([] ++ []) ++ ns2)) _ from zcj) r3 zcl).mono ?_
   have HH := Lib.hid h3; clear h3
   try clear c1 f1 hb
   rcases r3 with ⟨e1, e2⟩ | ⟨v3, m3, ns3⟩
   · rintro e w3 ⟨he, nv3, hk⟩
     have HKE := Lib.hid (Kp.trans (show Kp b nv nv2 w _ from zbg) hk)
     clear hk
     unfold noV at he
     subst he
     go_wp2_with fail
     have := qah HR2.out HH.out
     subst this
     exact ⟨rfl, PPost.err rfl HKE.out⟩
   rintro e w3 ⟨he, nv3, hs, hk, hm⟩
   unfold intV at he
   subst he
   have HR3 := Lib.hid (qag HR2.out HH.out)
   have HS3 := Lib.hid (hs.cast (List.append_assoc _ _ _))
   have HM3 := Lib.hid (Nat.le_trans HM2.out hm)
   have HK3 := Lib.hid (Kp.trans (show Kp b nv nv2 w _ from zbg) hk)
   have LC3 := Lib.hid (Loc.kp (show Loc b nv2 (more w2 d3 os3).heap.size (.cells #[.int .i64 kk, .int .i64 (-1), .int .i64 (-1), .int .i64 (-1), .int .i64 (-1), .int .i64 0, .string ⟨#[]⟩, .string ⟨#[]⟩] 42 (0, 0)) _ from zbd) hk)
   clear LCN
   obtain ⟨kn, hkn⟩ : ∃ kn, (more w2 d3 os3).heap.size = kn := ⟨_, rfl⟩
   rw [hkn] at LC3
   have HKW : RowKit.Hid (w.heap.size ≤ kn) := Lib.hid (by rw [← hkn]; have := (Kp.more (w1 := w2) (b := b) (nv := nv) (nv1 := nv2) (show Kp b nv nv2 w _ from zbg) d3 os3).size; exact this)
   have HLK : RowKit.Hid (lb ≠ kn) := Lib.hid (by have h1 := HS2.out.low; have h2 := HS2.out.lt; have h3 := (Kp.more (w1 := w2) (b := b) (nv := nv) (nv1 := nv2) (show Kp b nv nv2 w _ from zbg) d3 os3).size; have h4 := HS0.out.lt; rw [hkn] at h3; omega)
   simp only [more_size, World.size_setCell, World.size_alloc, Array.size_append] at hkn
   rw [hkn]
   clear hkn
   clear hs hk hm
   obtain ⟨n0, n1, n2, n3, n4, n5, n6, n7, z0, z1, z2, z3', z5, z6, z7, hkl⟩ := LC3.out.node
   go_wp2_with fail
   go_at_call 133
   obtain ⟨r4, h4⟩ := qai HR3.out
   refine (qan (show St b lb lo cap nv3 L m3 (N ++ ((([] ++ []) ++ ns2) ++ ns3)) _ from zaz) _ _ zaq r4 (by rw [List.length_append]; exact h4)).mono ?_
   have HH := Lib.hid h4; clear h4
   try clear c1 f1 hb
   rcases r4 with ⟨e1, e2⟩ | ⟨v4, m4, ns4⟩
   · rintro e w4 ⟨he, nv4, hk⟩
     have HKE := Lib.hid (Kp.trans (show Kp b nv nv3 w _ from zak) hk)
     clear hk
     unfold noV at he
     subst he
     go_wp2_with fail
     have := qah HR3.out HH.out
     subst this
     exact ⟨rfl, PPost.err rfl HKE.out⟩
   rintro e w4 ⟨he, nv4, hs, hk, hm⟩
   unfold unitV at he
   subst he
   have HR4 := Lib.hid (qag HR3.out HH.out)
   have HS4 := Lib.hid (hs.cast (List.append_assoc _ _ _))
   have HM4 := Lib.hid (Nat.le_trans HM3.out hm)
   have HK4 := Lib.hid (Kp.trans (show Kp b nv nv3 w _ from zak) hk)
   have LS : Loc b nv3 kn (.cells #[.int .i64 kk, .int .i64 v3, .int .i64 (-1), .int .i64 (-1), .int .i64 (-1), .int .i64 0, .string ⟨#[]⟩, .string ⟨#[]⟩] 42 (0, 0)) _ := (Loc.set LC3.out 1 (.int .i64 v3))
   have LC4 := Lib.hid (Loc.kp (show Loc b nv3 kn (.cells #[.int .i64 kk, .int .i64 v3, .int .i64 (-1), .int .i64 (-1), .int .i64 (-1), .int .i64 0, .string ⟨#[]⟩, .string ⟨#[]⟩] 42 (0, 0)) _ from zal) hk)
   clear LS
   clear hs hk hm
   clear n0 n1 n2 n3 n4 n5 n6 n7 z0 z1 z2 z3' z5 z6 z7
   obtain ⟨n0, n1, n2, n3, n4, n5, n6, n7, z0, z1, z2, z3', z5, z6, z7, hkl⟩ := LC4.out.node
   go_wp2_with fail
   go_at_call 115
   obtain ⟨r9, h9⟩ := qam HR4.out
   refine (qaD (show St b lb lo cap nv4 L m4 (N ++ (((([] ++ []) ++ ns2) ++ ns3) ++ ns4)) _ from zbl) _ _ _ _ _ _ _ _ r9 zbm).mono ?_
   have HH := Lib.hid h9; clear h9
   rcases r9 with ⟨e1, e2⟩ | ⟨v9, m9, ns9⟩
   · rintro e w9 ⟨he, nv9, hk⟩
     have HKE := Lib.hid (Kp.trans (show Kp b nv nv4 w _ from zao) hk)
     clear hk
     unfold noV at he
     subst he
     go_wp2_with fail
     have := qap HR4.out HH.out
     subst this
     exact ⟨rfl, PPost.err rfl HKE.out⟩
   rintro e w9 ⟨he, nv9, hs, hk, hm⟩
   unfold intV at he
   subst he
   have HS9 := Lib.hid (hs.cast (List.append_assoc _ _ _))
   have HM9 := Lib.hid (Nat.le_trans HM4.out hm)
   have HK9 := Lib.hid (Kp.trans (show Kp b nv nv4 w _ from zao) hk)
   clear hs hk hm
   go_wp2_with fail
   go_ret
   have := qaz HR4.out HH.out
   subst this
   exact PPost.res rfl HS9.out HK9.out HM9.out
set_option maxHeartbeats 4000000 in
set_option maxRecDepth 20000 in
theorem one_any {b lb lo cap : Nat} {nv : Value} {L : Toks} {m : Nat} {N : List Nd} {w : World} (h : St b lb lo cap nv L m N w) (d : Nat) (hd : d ≤ 16) (e1 o1 : PM Int) (ho : d < 16 → Dp b lb lo cap L 143 ((d : Int) + 1) o1) (he : Dp b lb lo cap L 134 ((d : Int) + 1) e1) (r : PR Int) (hr : oneP L d e1 o1 m N.length = r) :
  Calls Tryz.prog 143 #[.pointer (some ⟨b, 0, none⟩), .int .i64 (d : Int)] w (PPost intV b lb lo cap nv L m N w r) := by
 have hm : (m : Int) ≤ 5000 := by have := h.ends.few; have := h.pos; omega
 have hm0 : 0 ≤ (m : Int) := by omega
 have NX0 : (tk L m).1.k ≠ 0 → m + 1 < L.length := h.next
 have FL : RowKit.Hid (∀ (c : Int) w1, Ext w w1 → Calls Tryz.prog 79 #[.pointer (some ⟨b, 0, none⟩), .int .i64 c] w1 fun e w' => e = noV c (tk L m).2 ∧ Ext w1 w') := Lib.hid fun c w1 hx => qaQ (h.ext hx) c
 unfold oneP pno at hr
 have SG : (tk L m).1.k = 4 → ∀ nv w1 r, St b lb lo cap nv L m (N ++ []) w1 → qce L d e1 o1 m (N ++ []).length = r → Calls Tryz.prog 152 #[.pointer (some ⟨b, 0, none⟩), .int .i64 (d : Int)] w1 (PPost intV b lb lo cap nv L m (N ++ []) w1 r) := fun _ nv w1 r hs hr => signed_any hs d hd e1 o1 ho he r hr
 have WG : (tk L m).1.k = 5 → ∀ nv w1 r, St b lb lo cap nv L m (N ++ []) w1 → qcg L d e1 o1 m (N ++ []).length = r → Calls Tryz.prog 153 #[.pointer (some ⟨b, 0, none⟩), .int .i64 (d : Int)] w1 (PPost intV b lb lo cap nv L m (N ++ []) w1 r) := fun hk nv w1 r hs hr => worded_any hs hk d hd e1 o1 ho he r hr
 obtain ⟨⟨⟨k, ts, i⟩, a⟩, htt⟩ : ∃ tt, tk L m = tt := ⟨_, rfl⟩
 have TK : RowKit.Hid (∀ w1, Ext w w1 → Calls Tryz.prog 78 #[.pointer (some ⟨b, 0, none⟩)] w1 fun e w' => e = .returned (.agg #[.int .i64 k, .int .i64 a, .string ts, .int .i64 i]) ∧ Ext w1 w') := Lib.hid fun w1 hx => by have := qaP (h.ext hx); rw [htt] at this; exact this
 rw [htt] at hr FL NX0 SG WG
 dsimp only at hr FL NX0 SG WG
 have SG := Lib.hid SG
 have WG := Lib.hid WG
 clear htt ho he
 by_cases e2 : k = 2
 · subst e2
   have NX := Lib.hid (NX0 zbf)
   rw [if_pos rfl] at hr
   clear NX0
   have HS0 := Lib.hid (h.cast (List.append_nil N).symm)
   have HK0 := Lib.hid (Kp.refl b nv w)
   have HM0 := Lib.hid (Nat.le_refl m)
   have HR0 := Lib.hid (qal hr)
   clear h hr 
   obtain ⟨c0, c1, c2, c3, f1, f2, f3, hb⟩ := HS0.out.facts
   clear c0 c2 c3 f2 f3
   have HS1 := Lib.hid (St.cast (HS0.out.setAt (m + 1) ((m : Int) + 1) zah NX.out) (show N ++ [] = N ++ ([] ++ []) by simp))
   have HK1 := Lib.hid (HK0.out.setB 1 (.int .i64 ((m : Int) + 1)))
   have HM1 := Lib.hid (Nat.le_trans HM0.out (Nat.le_succ m))
   have HR1 := Lib.hid (qag HR0.out (show skipP m _ = .ok ((), m + 1, []) from rfl))
   go_enter Tryz.func143, Tryz.ntmps143
   go_wp2_with (first
    | ((go_at_call 78; (with_reducible refine (TK.out _ zab).mono ?_); rintro e _ ⟨rfl, d2, os2, rfl⟩))
    | ((go_at_call 112; (with_reducible refine (qas _ _).mono ?_); rintro e _ ⟨rfl, d3, os3, rfl⟩)))
   go_at_call 115
   obtain ⟨r9, h9⟩ := qam HR1.out
   refine (qaD (show St b lb lo cap nv L (m + 1) (N ++ ([] ++ [])) _ from zan) _ _ _ _ _ _ _ _ r9 zbm).mono ?_
   have HH := Lib.hid h9; clear h9
   rcases r9 with ⟨e1, e2⟩ | ⟨v9, m9, ns9⟩
   · rintro e w9 ⟨he, nv9, hk⟩
     have HKE := Lib.hid (Kp.trans (show Kp b nv nv w _ from zac) hk)
     clear hk
     unfold noV at he
     subst he
     go_wp2_with fail
     have := qap HR1.out HH.out
     subst this
     exact ⟨rfl, PPost.err rfl HKE.out⟩
   rintro e w9 ⟨he, nv9, hs, hk, hm⟩
   unfold intV at he
   subst he
   have HS9 := Lib.hid (hs.cast (List.append_assoc _ _ _))
   have HM9 := Lib.hid (Nat.le_trans HM1.out hm)
   have HK9 := Lib.hid (Kp.trans (show Kp b nv nv w _ from zac) hk)
   clear hs hk hm
   go_wp2_with fail
   go_ret
   have := qaz HR1.out HH.out
   subst this
   exact PPost.res rfl HS9.out HK9.out HM9.out
 · rw [if_neg e2] at hr
   have q2 : (k == 2) = false := by simpa using e2
   by_cases e3 : k = 3
   · subst e3
     have NX := Lib.hid (NX0 zbf)
     rw [if_pos rfl] at hr
     clear NX0 e2
     have HS0 := Lib.hid (h.cast (List.append_nil N).symm)
     have HK0 := Lib.hid (Kp.refl b nv w)
     have HM0 := Lib.hid (Nat.le_refl m)
     have HR0 := Lib.hid (qal hr)
     clear h hr 
     obtain ⟨c0, c1, c2, c3, f1, f2, f3, hb⟩ := HS0.out.facts
     clear c0 c2 c3 f2 f3
     have HS1 := Lib.hid (St.cast (HS0.out.setAt (m + 1) ((m : Int) + 1) zah NX.out) (show N ++ [] = N ++ ([] ++ []) by simp))
     have HK1 := Lib.hid (HK0.out.setB 1 (.int .i64 ((m : Int) + 1)))
     have HM1 := Lib.hid (Nat.le_trans HM0.out (Nat.le_succ m))
     have HR1 := Lib.hid (qag HR0.out (show skipP m _ = .ok ((), m + 1, []) from rfl))
     go_enter Tryz.func143, Tryz.ntmps143
     go_wp2_with (first
      | ((go_at_call 78; (with_reducible refine (TK.out _ zab).mono ?_); rintro e _ ⟨rfl, d2, os2, rfl⟩))
      | ((go_at_call 112; (with_reducible refine (qas _ _).mono ?_); rintro e _ ⟨rfl, d3, os3, rfl⟩)))
     go_at_call 115
     obtain ⟨r9, h9⟩ := qam HR1.out
     refine (qaD (show St b lb lo cap nv L (m + 1) (N ++ ([] ++ [])) _ from zan) _ _ _ _ _ _ _ _ r9 zbm).mono ?_
     have HH := Lib.hid h9; clear h9
     rcases r9 with ⟨e1, e2⟩ | ⟨v9, m9, ns9⟩
     · rintro e w9 ⟨he, nv9, hk⟩
       have HKE := Lib.hid (Kp.trans (show Kp b nv nv w _ from zac) hk)
       clear hk
       unfold noV at he
       subst he
       go_wp2_with fail
       have := qap HR1.out HH.out
       subst this
       exact ⟨rfl, PPost.err rfl HKE.out⟩
     rintro e w9 ⟨he, nv9, hs, hk, hm⟩
     unfold intV at he
     subst he
     have HS9 := Lib.hid (hs.cast (List.append_assoc _ _ _))
     have HM9 := Lib.hid (Nat.le_trans HM1.out hm)
     have HK9 := Lib.hid (Kp.trans (show Kp b nv nv w _ from zac) hk)
     clear hs hk hm
     go_wp2_with fail
     go_ret
     have := qaz HR1.out HH.out
     subst this
     exact PPost.res rfl HS9.out HK9.out HM9.out
   · rw [if_neg e3] at hr
     have q3 : (k == 3) = false := by simpa using e3
     by_cases e1 : k = 1
     · subst e1
       have NX := Lib.hid (NX0 zbf)
       rw [if_pos rfl] at hr
       clear NX0 e2 e3
       have HS0 := Lib.hid (h.cast (List.append_nil N).symm)
       have HK0 := Lib.hid (Kp.refl b nv w)
       have HM0 := Lib.hid (Nat.le_refl m)
       have HR0 := Lib.hid (qal hr)
       clear h hr 
       obtain ⟨c0, c1, c2, c3, f1, f2, f3, hb⟩ := HS0.out.facts
       clear c0 c2 c3 f2 f3
       have HS1 := Lib.hid (St.cast (HS0.out.setAt (m + 1) ((m : Int) + 1) zah NX.out) (show N ++ [] = N ++ ([] ++ []) by simp))
       have HK1 := Lib.hid (HK0.out.setB 1 (.int .i64 ((m : Int) + 1)))
       have HM1 := Lib.hid (Nat.le_trans HM0.out (Nat.le_succ m))
       have HR1 := Lib.hid (qag HR0.out (show skipP m _ = .ok ((), m + 1, []) from rfl))
       go_enter Tryz.func143, Tryz.ntmps143
       go_wp2_with (first
        | ((go_at_call 78; (with_reducible refine (TK.out _ zab).mono ?_); rintro e _ ⟨rfl, d2, os2, rfl⟩))
        | ((go_at_call 112; (with_reducible refine (qas _ _).mono ?_); rintro e _ ⟨rfl, d3, os3, rfl⟩)))
       go_at_call 115
       obtain ⟨r9, h9⟩ := qam HR1.out
       refine (qaD (show St b lb lo cap nv L (m + 1) (N ++ ([] ++ [])) _ from zan) _ _ _ _ _ _ _ _ r9 zbm).mono ?_
       have HH := Lib.hid h9; clear h9
       rcases r9 with ⟨e1, e2⟩ | ⟨v9, m9, ns9⟩
       · rintro e w9 ⟨he, nv9, hk⟩
         have HKE := Lib.hid (Kp.trans (show Kp b nv nv w _ from zac) hk)
         clear hk
         unfold noV at he
         subst he
         go_wp2_with fail
         have := qap HR1.out HH.out
         subst this
         exact ⟨rfl, PPost.err rfl HKE.out⟩
       rintro e w9 ⟨he, nv9, hs, hk, hm⟩
       unfold intV at he
       subst he
       have HS9 := Lib.hid (hs.cast (List.append_assoc _ _ _))
       have HM9 := Lib.hid (Nat.le_trans HM1.out hm)
       have HK9 := Lib.hid (Kp.trans (show Kp b nv nv w _ from zac) hk)
       clear hs hk hm
       go_wp2_with fail
       go_ret
       have := qaz HR1.out HH.out
       subst this
       exact PPost.res rfl HS9.out HK9.out HM9.out
     · rw [if_neg e1] at hr
       have q1 : (k == 1) = false := by simpa using e1
       by_cases e4 : k = 4
       · subst e4
         rw [if_pos rfl] at hr
         clear NX0 e1 e2 e3
         have HS0 := Lib.hid (h.cast (List.append_nil N).symm)
         have HK0 := Lib.hid (Kp.refl b nv w)
         have HM0 := Lib.hid (Nat.le_refl m)
         have HR0 := Lib.hid (qal hr)
         clear h hr 
         go_enter Tryz.func143, Tryz.ntmps143
         go_wp2_with ((go_at_call 78; (with_reducible refine (TK.out _ zab).mono ?_); rintro e _ ⟨rfl, d2, os2, rfl⟩))
         go_at_call 152
         obtain ⟨r9, h9⟩ := qam HR0.out
         refine (SG.out (by first | rfl | trivial) _ _ r9 (show St b lb lo cap nv L m (N ++ []) _ from zap) zbm).mono ?_
         have HH := Lib.hid h9; clear h9
         rcases r9 with ⟨e1, e2⟩ | ⟨v9, m9, ns9⟩
         · rintro e w9 ⟨he, nv9, hk⟩
           have HKE := Lib.hid (Kp.trans (show Kp b nv nv w _ from zag) hk)
           clear hk
           unfold noV at he
           subst he
           go_wp2_with fail
           have := qap HR0.out HH.out
           subst this
           exact ⟨rfl, PPost.err rfl HKE.out⟩
         rintro e w9 ⟨he, nv9, hs, hk, hm⟩
         unfold intV at he
         subst he
         have HS9 := Lib.hid (hs.cast (List.append_assoc _ _ _))
         have HM9 := Lib.hid (Nat.le_trans HM0.out hm)
         have HK9 := Lib.hid (Kp.trans (show Kp b nv nv w _ from zag) hk)
         clear hs hk hm
         go_wp2_with fail
         go_ret
         have := qaz HR0.out HH.out
         subst this
         exact PPost.res rfl HS9.out HK9.out HM9.out
       · rw [if_neg e4] at hr
         have q4 : (k == 4) = false := by simpa using e4
         by_cases e5 : k = 5
         · subst e5
           rw [if_pos rfl] at hr
           clear NX0 e1 e2 e3 e4
           have HS0 := Lib.hid (h.cast (List.append_nil N).symm)
           have HK0 := Lib.hid (Kp.refl b nv w)
           have HM0 := Lib.hid (Nat.le_refl m)
           have HR0 := Lib.hid (qal hr)
           clear h hr 
           go_enter Tryz.func143, Tryz.ntmps143
           go_wp2_with ((go_at_call 78; (with_reducible refine (TK.out _ zab).mono ?_); rintro e _ ⟨rfl, d2, os2, rfl⟩))
           go_at_call 153
           obtain ⟨r9, h9⟩ := qam HR0.out
           refine (WG.out (by first | rfl | trivial) _ _ r9 (show St b lb lo cap nv L m (N ++ []) _ from zap) zbm).mono ?_
           have HH := Lib.hid h9; clear h9
           rcases r9 with ⟨e1, e2⟩ | ⟨v9, m9, ns9⟩
           · rintro e w9 ⟨he, nv9, hk⟩
             have HKE := Lib.hid (Kp.trans (show Kp b nv nv w _ from zag) hk)
             clear hk
             unfold noV at he
             subst he
             go_wp2_with fail
             have := qap HR0.out HH.out
             subst this
             exact ⟨rfl, PPost.err rfl HKE.out⟩
           rintro e w9 ⟨he, nv9, hs, hk, hm⟩
           unfold intV at he
           subst he
           have HS9 := Lib.hid (hs.cast (List.append_assoc _ _ _))
           have HM9 := Lib.hid (Nat.le_trans HM0.out hm)
           have HK9 := Lib.hid (Kp.trans (show Kp b nv nv w _ from zag) hk)
           clear hs hk hm
           go_wp2_with fail
           go_ret
           have := qaz HR0.out HH.out
           subst this
           exact PPost.res rfl HS9.out HK9.out HM9.out
         · rw [if_neg e5] at hr
           have q5 : (k == 5) = false := by simpa using e5
           clear NX0 e1 e2 e3 e4 e5
           go_enter Tryz.func143, Tryz.ntmps143
           go_wp2_with (first
            | ((go_at_call 78; (with_reducible refine (TK.out _ zab).mono ?_); rintro e _ ⟨rfl, d2, os2, rfl⟩))
            | ((go_at_call 79; (with_reducible refine (FL.out _ _ zab).mono ?_); rintro e _ ⟨he, d3, os3, rfl⟩; unfold noV at he; subst he)))
           subst hr
           exact ⟨rfl, PPost.err rfl ((Kp.refl b nv w).ext zab)⟩
end Go.Proofs.YtpoeknndkccbaaaGreat
