/- Lemmas for the claim (texts Par6, what its proof uses of them). -/
import Derived.Test.YtpoeknndkccbaaaGreatM39
set_option linter.unusedSimpArgs false
set_option linter.unusedVariables false
set_option maxHeartbeats 2000000
set_option maxRecDepth 20000
namespace Go.Proofs.YtpoeknndkccbaaaGreat
open Go.RowKit
variable {L : Toks} {b cap lb lo m : Nat} {nv : Value} {N : List Nd} {w : World}
attribute [go_sem] more_more Array.size_append
theorem isP_other {s : ByteArray} (h : (tk L m).1.s.toList ≠ s.toList) : isP L s m = false := by
 unfold isP
 have : ((tk L m).1.s.toList == s.toList) = false := by simpa using h
 rw [this, Bool.and_false]
theorem must3_any (h : St b lb lo cap nv L m N w) (s1 s2 s3 : ByteArray) (z : Nat) (hz : z = w.heap.size) (r : PR Unit) (hr : mustP L [s1, s2, s3] m N.length = r) :
  Calls Tryz.prog 133 #[.pointer (some ⟨b, 0, none⟩), .slice (some ⟨z, 0, none⟩) 3 3] (w.alloc (.cells #[.string s1, .string s2, .string s3] 9 (0, 0))) (PPost unitV b lb lo cap nv L m N (w.alloc (.cells #[.string s1, .string s2, .string s3] 9 (0, 0))) r) := by
 subst hz
 exact must_any (h.alloc _) [s1, s2, s3] w.heap.size 3 (h.loc (strs [s1, s2, s3])) zay r hr
theorem wb_let : wordB ⟨#[108, 101, 116]⟩ = true := by kernel_rfl
theorem tl_let : ((⟨#[108, 101, 116]⟩ : ByteArray)).toList = [108, 101, 116] := by kernel_rfl
theorem wb_set : wordB ⟨#[115, 101, 116]⟩ = true := by kernel_rfl
theorem tl_set : ((⟨#[115, 101, 116]⟩ : ByteArray)).toList = [115, 101, 116] := by kernel_rfl
theorem wb_if : wordB ⟨#[105, 102]⟩ = true := by kernel_rfl
theorem tl_if : ((⟨#[105, 102]⟩ : ByteArray)).toList = [105, 102] := by kernel_rfl
theorem wb_for : wordB ⟨#[102, 111, 114]⟩ = true := by kernel_rfl
theorem tl_for : ((⟨#[102, 111, 114]⟩ : ByteArray)).toList = [102, 111, 114] := by kernel_rfl
theorem qbY (h : St b lb lo cap nv L m N w) (z : Int) (bl : PM Int) (hb : Dp b lb lo cap L 49 z bl) (r : PR Int) (hr : qce L bl m N.length = r) :
  Calls Tryz.prog 114 #[.pointer (some ⟨b, 0, none⟩), .int .i64 z] w (PPost intV b lb lo cap nv L m N w r) := by
 refine yaj ?_; intro HS0
 have HK0 := Lib.hid (Kp.refl b nv w)
 have HM0 := Lib.hid (Nat.le_refl m)
 have HB := Lib.hid hb
 have HR0 := Lib.hid (qao hr)
 unfold qce at HR0
 clear h hr hb
 go_enter Tryz.func114, Tryz.ntmps114
 go_wp2_with fail
 go_at_call 133
 obtain ⟨r1, h1⟩ := qal HR0.out
 refine (qav (show St b lb lo cap nv L m (N ++ []) _ from zap) _ _ zaq r1 (by rw [List.length_append]; exact h1)).mono ?_
 have HH := Lib.hid h1; clear h1
 try clear c1 f1 hb
 rcases r1 with ⟨e1, e2⟩ | ⟨v1, m1, ns1⟩
 · rintro e w1 ⟨he, nv1, hk⟩
   have HKE := Lib.hid (Kp.trans (show Kp b nv nv w _ from zai) hk)
   clear hk
   unfold noV at he
   subst he
   go_wp2_with fail
   have := qak HR0.out HH.out
   subst this
   exact ⟨rfl, PPost.err rfl HKE.out⟩
 rintro e w1 ⟨he, nv1, hs, hk, hm⟩
 unfold unitV at he
 subst he
 have HR1 := Lib.hid (qaj HR0.out HH.out)
 refine ycy ?_; intro HS1
 have HM1 := Lib.hid (Nat.le_trans HM0.out hm)
 have HK1 := Lib.hid (Kp.trans (show Kp b nv nv w _ from zai) hk)
 clear hs hk hm
 go_wp2_with fail
 go_at_call 49
 obtain ⟨r2, h2⟩ := qal HR1.out
 refine (HB.out _ _ _ _ (show St b lb lo cap nv1 L m1 (N ++ ([] ++ ns1)) _ from zan) r2 zcz).mono ?_
 have HH := Lib.hid h2; clear h2
 try clear c1 f1 hb
 rcases r2 with ⟨e1, e2⟩ | ⟨v2, m2, ns2⟩
 · rintro e w2 ⟨he, nv2, hk⟩
   have HKE := Lib.hid (Kp.trans (show Kp b nv nv1 w _ from zad) hk)
   clear hk
   unfold noV at he
   subst he
   go_wp2_with fail
   have := qak HR1.out HH.out
   subst this
   exact ⟨rfl, PPost.err rfl HKE.out⟩
 rintro e w2 ⟨he, nv2, hs, hk, hm⟩
 unfold intV at he
 subst he
 have HR2 := Lib.hid (qaj HR1.out HH.out)
 refine ybv ?_; intro HS2
 refine yco ?_; intro HM2
 have HK2 := Lib.hid (Kp.trans (show Kp b nv nv1 w _ from zad) hk)
 clear hs hk hm
 go_wp2_with fail
 go_at_call 133
 obtain ⟨r3, h3⟩ := qal HR2.out
 refine (qav (show St b lb lo cap nv2 L m2 (N ++ (([] ++ ns1) ++ ns2)) _ from zda) _ _ zaq r3 zdd).mono ?_
 have HH := Lib.hid h3; clear h3
 try clear c1 f1 hb
 rcases r3 with ⟨e1, e2⟩ | ⟨v3, m3, ns3⟩
 · rintro e w3 ⟨he, nv3, hk⟩
   have HKE := Lib.hid (Kp.trans (show Kp b nv nv2 w _ from zbh) hk)
   clear hk
   unfold noV at he
   subst he
   go_wp2_with fail
   have := qak HR2.out HH.out
   subst this
   exact ⟨rfl, PPost.err rfl HKE.out⟩
 rintro e w3 ⟨he, nv3, hs, hk, hm⟩
 unfold unitV at he
 subst he
 have HR3 := Lib.hid (qaj HR2.out HH.out)
 refine ycb ?_; intro HS3
 refine ydb ?_; intro HM3
 have HK3 := Lib.hid (Kp.trans (show Kp b nv nv2 w _ from zbh) hk)
 clear hs hk hm
 go_wp2_with fail
 go_ret
 have := HR3.out
 subst this
 exact PPost.res rfl (HS3.out.cast (by simp [pok, prep])) HK3.out HM3.out
theorem names_let (h : St b lb lo cap nv L m N w) (hk5 : (tk L m).1.k = 5) (hs : (tk L m).1.s.toList = [108, 101, 116]) (z : Int) (ex : PM Int) (he : Dp b lb lo cap L 134 z ex) (r : PR Int) (hr : qdb L 20 ex m N.length = r) :
  Calls Tryz.prog 108 #[.pointer (some ⟨b, 0, none⟩), .int .i64 z] w (PPost intV b lb lo cap nv L m N w r) := by
 have hp : isP L ⟨#[108, 101, 116]⟩ m = true := qcN wb_let hk5 (by rw [hs, tl_let])
 have hq : isP L ⟨#[115, 101, 116]⟩ m = false := isP_other (by rw [hs, tl_set]; decide)
 have TN : RowKit.Hid (∀ w1, Ext w w1 → Calls Tryz.prog 132 #[.pointer (some ⟨b, 0, none⟩), .string ⟨#[115, 101, 116]⟩] w1 fun e w' => e = .returned (.bool false) ∧ Ext w1 w') := Lib.hid fun w1 hx => qbr (h.ext hx) _ hq
 clear hq
 clear hk5 hs
 refine yaj ?_; intro HS0
 have HK0 := Lib.hid (Kp.refl b nv w)
 have HM0 := Lib.hid (Nat.le_refl m)
 have HE := Lib.hid he
 have HR0 := Lib.hid (qao hr)
 unfold qdb at HR0
 clear h hr he
 go_enter Tryz.func108, Tryz.ntmps108
 go_wp2_with (first
  | (((with_reducible refine (qaD _ _).mono ?_); rintro e _ ⟨rfl, d3, os3, rfl⟩))
  | (((with_reducible refine (TN.out _ zac).mono ?_); rintro e _ ⟨rfl, d7, os7, rfl⟩)))
 go_at_call 133
 have h1 := qdq (n := N.length + ([] : List Nd).length) hp
 have LCN := Lib.hid (St.loc (w := more w d3 os3) (lb := lb) (lo := lo) (cap := cap) (L := L) (nv := nv) (show St b lb lo cap nv L m (N ++ []) _ from zap) (.cells #[.int .i64 20, .int .i64 (-1), .int .i64 (-1), .int .i64 (-1), .int .i64 (-1), .int .i64 0, .string ⟨#[]⟩, .string ⟨#[]⟩] 42 (0, 0)))
 refine (qav (show St b lb lo cap nv L m (N ++ []) _ from zap) _ _ zaq _ (Eq.trans (by rw [List.length_append]) h1)).mono ?_
 have HH := Lib.hid h1; clear h1
 try clear c1 f1 hb
 rintro e w1 ⟨he, nv1, hs, hk, hm⟩
 unfold unitV at he
 subst he
 refine yam ?_; intro HR1
 refine ycy ?_; intro HS1
 have HM1 := Lib.hid (Nat.le_trans HM0.out hm)
 have HK1 := Lib.hid (Kp.trans (show Kp b nv nv w _ from zai) hk)
 have LC1 := Lib.hid (Loc.kp (show Loc b nv (more w d3 os3).heap.size (.cells #[.int .i64 20, .int .i64 (-1), .int .i64 (-1), .int .i64 (-1), .int .i64 (-1), .int .i64 0, .string ⟨#[]⟩, .string ⟨#[]⟩] 42 (0, 0)) _ from zbe) hk)
 clear LCN
 obtain ⟨kn, hkn⟩ : ∃ kn, (more w d3 os3).heap.size = kn := ⟨_, rfl⟩
 rw [hkn] at LC1
 have HKW : RowKit.Hid (w.heap.size ≤ kn) := Lib.hid (by rw [← hkn]; have := (Kp.more (w1 := w) (b := b) (nv := nv) (nv1 := nv) (show Kp b nv nv w _ from zai) d3 os3).size; exact this)
 have HLK : RowKit.Hid (lb ≠ kn) := Lib.hid (by have h1 := HS0.out.low; have h2 := HS0.out.lt; have h3 := (Kp.more (w1 := w) (b := b) (nv := nv) (nv1 := nv) (show Kp b nv nv w _ from zai) d3 os3).size; have h4 := HS0.out.lt; rw [hkn] at h3; omega)
 simp only [more_size, World.size_setCell, Array.size_append] at hkn
 rw [hkn]
 clear hkn
 clear hs hk hm
 obtain ⟨n0, n1, n2, n3, n4, n5, n6, n7, z0, z1, z2, z3', z5, z6, z7, hkl⟩ := LC1.out.node
 go_wp2_with fail
 go_at_call 50
 obtain ⟨r2, h2⟩ := qal HR1.out
 refine (of_any (show St b lb lo cap nv1 L (m + 1) (N ++ ([] ++ [])) _ from by repeat (first | (with_reducible exact HS1.out) | (with_reducible apply St.alloc) | (with_reducible apply St.more) | (refine St.setLoc ?_ LC1.out HLK.out _ _))) 1 zax r2 zcz).mono ?_
 have HH := Lib.hid h2; clear h2
 try clear c1 f1 hb
 rcases r2 with ⟨e1, e2⟩ | ⟨v2, m2, ns2⟩
 · rintro e w2 ⟨he, nv2, hk⟩
   have HKE := Lib.hid (Kp.trans (show Kp b nv nv1 w _ from zcf) hk)
   clear hk
   unfold noV at he
   subst he
   go_wp2_with fail
   have := qak HR1.out HH.out
   subst this
   exact ⟨rfl, PPost.err rfl HKE.out⟩
 rintro e w2 ⟨he, nv2, hs, hk, hm⟩
 dsimp only at he
 unfold tokV at he
 subst he
 have HR2 := Lib.hid (qaj HR1.out HH.out)
 refine ybv ?_; intro HS2
 refine yco ?_; intro HM2
 have HK2 := Lib.hid (Kp.trans (show Kp b nv nv1 w _ from zcf) hk)
 have LS : Loc b nv1 kn (.cells #[.int .i64 20, .int .i64 (-1), .int .i64 (-1), .int .i64 (-1), .int .i64 (-1), .int .i64 0, .string ⟨#[]⟩, .string ⟨#[]⟩] 42 (0, 0)) _ := LC1.out
 have LC2 := Lib.hid (Loc.kp (show Loc b nv1 kn (.cells #[.int .i64 20, .int .i64 (-1), .int .i64 (-1), .int .i64 (-1), .int .i64 (-1), .int .i64 0, .string ⟨#[]⟩, .string ⟨#[]⟩] 42 (0, 0)) _ from zam) hk)
 clear LS
 clear hs hk hm
 clear n0 n1 n2 n3 n4 n5 n6 n7 z0 z1 z2 z3' z5 z6 z7
 obtain ⟨n0, n1, n2, n3, n4, n5, n6, n7, z0, z1, z2, z3', z5, z6, z7, hkl⟩ := LC2.out.node
 go_wp2_with fail
 go_at_call 133
 obtain ⟨r3, h3⟩ := qal HR2.out
 refine (qav (show St b lb lo cap nv2 L m2 (N ++ (([] ++ []) ++ ns2)) _ from zav) _ _ zaq r3 zdd).mono ?_
 have HH := Lib.hid h3; clear h3
 try clear c1 f1 hb
 rcases r3 with ⟨e1, e2⟩ | ⟨v3, m3, ns3⟩
 · rintro e w3 ⟨he, nv3, hk⟩
   have HKE := Lib.hid (Kp.trans (show Kp b nv nv2 w _ from zak) hk)
   clear hk
   unfold noV at he
   subst he
   go_wp2_with fail
   have := qak HR2.out HH.out
   subst this
   exact ⟨rfl, PPost.err rfl HKE.out⟩
 rintro e w3 ⟨he, nv3, hs, hk, hm⟩
 unfold unitV at he
 subst he
 have HR3 := Lib.hid (qaj HR2.out HH.out)
 refine ycb ?_; intro HS3
 refine ydb ?_; intro HM3
 have HK3 := Lib.hid (Kp.trans (show Kp b nv nv2 w _ from zak) hk)
 have LS : Loc b nv2 kn (.cells #[.int .i64 20, .int .i64 (-1), .int .i64 (-1), .int .i64 (-1), .int .i64 (-1), .int .i64 0, .string v2.s, .string ⟨#[]⟩] 42 (0, 0)) _ := (Loc.set LC2.out 6 (.string v2.s))
 have LC3 := Lib.hid (Loc.kp (show Loc b nv2 kn (.cells #[.int .i64 20, .int .i64 (-1), .int .i64 (-1), .int .i64 (-1), .int .i64 (-1), .int .i64 0, .string v2.s, .string ⟨#[]⟩] 42 (0, 0)) _ from zam) hk)
 clear LS
 clear hs hk hm
 clear n0 n1 n2 n3 n4 n5 n6 n7 z0 z1 z2 z3' z5 z6 z7
 go_wp2_with fail
 go_at_call 134
 obtain ⟨r4, h4⟩ := qal HR3.out
 refine (HE.out _ _ _ _ (show St b lb lo cap nv3 L m3 (N ++ ((([] ++ []) ++ ns2) ++ ns3)) _ from zaw) r4 (by rw [List.length_append]; exact h4)).mono ?_
 have HH := Lib.hid h4; clear h4
 try clear c1 f1 hb
 rcases r4 with ⟨e1, e2⟩ | ⟨v4, m4, ns4⟩
 · rintro e w4 ⟨he, nv4, hk⟩
   have HKE := Lib.hid (Kp.trans (show Kp b nv nv3 w _ from zal) hk)
   clear hk
   unfold noV at he
   subst he
   go_wp2_with fail
   have := qak HR3.out HH.out
   subst this
   exact ⟨rfl, PPost.err rfl HKE.out⟩
 rintro e w4 ⟨he, nv4, hs, hk, hm⟩
 unfold intV at he
 subst he
 have HR4 := Lib.hid (qaj HR3.out HH.out)
 have HS4 := Lib.hid (hs.cast (List.append_assoc _ _ _))
 have HM4 := Lib.hid (Nat.le_trans HM3.out hm)
 have HK4 := Lib.hid (Kp.trans (show Kp b nv nv3 w _ from zal) hk)
 have LS : Loc b nv3 kn (.cells #[.int .i64 20, .int .i64 (-1), .int .i64 (-1), .int .i64 (-1), .int .i64 (-1), .int .i64 0, .string v2.s, .string ⟨#[]⟩] 42 (0, 0)) _ := LC3.out
 have LC4 := Lib.hid (Loc.kp (show Loc b nv3 kn (.cells #[.int .i64 20, .int .i64 (-1), .int .i64 (-1), .int .i64 (-1), .int .i64 (-1), .int .i64 0, .string v2.s, .string ⟨#[]⟩] 42 (0, 0)) _ from zam) hk)
 clear LS
 clear hs hk hm
 obtain ⟨n0, n1, n2, n3, n4, n5, n6, n7, z0, z1, z2, z3', z5, z6, z7, hkl⟩ := LC4.out.node
 go_wp2_with fail
 go_at_call 133
 obtain ⟨r5, h5⟩ := qal HR4.out
 refine (qav (show St b lb lo cap nv4 L m4 (N ++ (((([] ++ []) ++ ns2) ++ ns3) ++ ns4)) _ from zbn) _ _ zaq r5 (by rw [List.length_append]; exact h5)).mono ?_
 have HH := Lib.hid h5; clear h5
 try clear c1 f1 hb
 rcases r5 with ⟨e1, e2⟩ | ⟨v5, m5, ns5⟩
 · rintro e w5 ⟨he, nv5, hk⟩
   have HKE := Lib.hid (Kp.trans (show Kp b nv nv4 w _ from zao) hk)
   clear hk
   unfold noV at he
   subst he
   go_wp2_with fail
   have := qak HR4.out HH.out
   subst this
   exact ⟨rfl, PPost.err rfl HKE.out⟩
 rintro e w5 ⟨he, nv5, hs, hk, hm⟩
 unfold unitV at he
 subst he
 have HR5 := Lib.hid (qaj HR4.out HH.out)
 have HS5 := Lib.hid (hs.cast (List.append_assoc _ _ _))
 have HM5 := Lib.hid (Nat.le_trans HM4.out hm)
 have HK5 := Lib.hid (Kp.trans (show Kp b nv nv4 w _ from zao) hk)
 have LS : Loc b nv4 kn (.cells #[.int .i64 20, .int .i64 v4, .int .i64 (-1), .int .i64 (-1), .int .i64 (-1), .int .i64 0, .string v2.s, .string ⟨#[]⟩] 42 (0, 0)) _ := (Loc.set LC4.out 1 (.int .i64 v4))
 have LC5 := Lib.hid (Loc.kp (show Loc b nv4 kn (.cells #[.int .i64 20, .int .i64 v4, .int .i64 (-1), .int .i64 (-1), .int .i64 (-1), .int .i64 0, .string v2.s, .string ⟨#[]⟩] 42 (0, 0)) _ from zam) hk)
 clear LS
 clear hs hk hm
 clear n0 n1 n2 n3 n4 n5 n6 n7 z0 z1 z2 z3' z5 z6 z7
 obtain ⟨n0, n1, n2, n3, n4, n5, n6, n7, z0, z1, z2, z3', z5, z6, z7, hkl⟩ := LC5.out.node
 go_wp2_with fail
 go_at_call 115
 obtain ⟨r9, h9⟩ := qar HR5.out
 refine (qaM (show St b lb lo cap nv5 L m5 (N ++ ((((([] ++ []) ++ ns2) ++ ns3) ++ ns4) ++ ns5)) _ from zcc) _ _ _ _ _ _ _ _ r9 zbo).mono ?_
 have HH := Lib.hid h9; clear h9
 rcases r9 with ⟨e1, e2⟩ | ⟨v9, m9, ns9⟩
 · rintro e w9 ⟨he, nv9, hk⟩
   have HKE := Lib.hid (Kp.trans (show Kp b nv nv5 w _ from zat) hk)
   clear hk
   unfold noV at he
   subst he
   go_wp2_with fail
   have := qax HR5.out HH.out
   subst this
   exact ⟨rfl, PPost.err rfl HKE.out⟩
 rintro e w9 ⟨he, nv9, hs, hk, hm⟩
 unfold intV at he
 subst he
 refine yai ?_; intro HS9
 have HM9 := Lib.hid (Nat.le_trans HM5.out hm)
 have HK9 := Lib.hid (Kp.trans (show Kp b nv nv5 w _ from zat) hk)
 clear hs hk hm
 go_wp2_with fail
 go_ret
 have := qaK HR5.out HH.out
 subst this
 exact yar
theorem names_set (h : St b lb lo cap nv L m N w) (hk5 : (tk L m).1.k = 5) (hs : (tk L m).1.s.toList = [115, 101, 116]) (z : Int) (ex : PM Int) (he : Dp b lb lo cap L 134 z ex) (r : PR Int) (hr : qdb L 21 ex m N.length = r) :
  Calls Tryz.prog 108 #[.pointer (some ⟨b, 0, none⟩), .int .i64 z] w (PPost intV b lb lo cap nv L m N w r) := by
 have hp : isP L ⟨#[115, 101, 116]⟩ m = true := qcN wb_set hk5 (by rw [hs, tl_set])
 clear hk5 hs
 refine yaj ?_; intro HS0
 have HK0 := Lib.hid (Kp.refl b nv w)
 have HM0 := Lib.hid (Nat.le_refl m)
 have HE := Lib.hid he
 have HR0 := Lib.hid (qao hr)
 unfold qdb at HR0
 clear h hr he
 go_enter Tryz.func108, Tryz.ntmps108
 go_wp2_with (((with_reducible refine (qaD _ _).mono ?_); rintro e _ ⟨rfl, d3, os3, rfl⟩))
 go_at_call 132
 have h1 := qbC (n := N.length + ([] : List Nd).length) hp
 have LCN := Lib.hid (St.loc (w := more w d3 os3) (lb := lb) (lo := lo) (cap := cap) (L := L) (nv := nv) (show St b lb lo cap nv L m (N ++ []) _ from zap) (.cells #[.int .i64 20, .int .i64 (-1), .int .i64 (-1), .int .i64 (-1), .int .i64 (-1), .int .i64 0, .string ⟨#[]⟩, .string ⟨#[]⟩] 42 (0, 0)))
 refine (qbB (show St b lb lo cap nv L m (N ++ []) _ from zap) _ _ (Eq.trans (by rw [List.length_append]) h1)).mono ?_
 have HH := Lib.hid h1; clear h1
 try clear c1 f1 hb
 rintro e w1 ⟨he, nv1, hs, hk, hm⟩
 subst he
 refine yam ?_; intro HR1
 refine ycy ?_; intro HS1
 have HM1 := Lib.hid (Nat.le_trans HM0.out hm)
 have HK1 := Lib.hid (Kp.trans (show Kp b nv nv w _ from zai) hk)
 have LC1 := Lib.hid (Loc.kp (show Loc b nv (more w d3 os3).heap.size (.cells #[.int .i64 20, .int .i64 (-1), .int .i64 (-1), .int .i64 (-1), .int .i64 (-1), .int .i64 0, .string ⟨#[]⟩, .string ⟨#[]⟩] 42 (0, 0)) _ from zbe) hk)
 clear LCN
 obtain ⟨kn, hkn⟩ : ∃ kn, (more w d3 os3).heap.size = kn := ⟨_, rfl⟩
 rw [hkn] at LC1
 have HKW : RowKit.Hid (w.heap.size ≤ kn) := Lib.hid (by rw [← hkn]; have := (Kp.more (w1 := w) (b := b) (nv := nv) (nv1 := nv) (show Kp b nv nv w _ from zai) d3 os3).size; exact this)
 have HLK : RowKit.Hid (lb ≠ kn) := Lib.hid (by have h1 := HS0.out.low; have h2 := HS0.out.lt; have h3 := (Kp.more (w1 := w) (b := b) (nv := nv) (nv1 := nv) (show Kp b nv nv w _ from zai) d3 os3).size; have h4 := HS0.out.lt; rw [hkn] at h3; omega)
 simp only [more_size, World.size_setCell, Array.size_append] at hkn
 rw [hkn]
 clear hkn
 clear hs hk hm
 obtain ⟨n0, n1, n2, n3, n4, n5, n6, n7, z0, z1, z2, z3', z5, z6, z7, hkl⟩ := LC1.out.node
 go_wp2_with fail
 go_at_call 50
 obtain ⟨r2, h2⟩ := qal HR1.out
 refine (of_any (show St b lb lo cap nv1 L (m + 1) (N ++ ([] ++ [])) _ from by repeat (first | (with_reducible exact HS1.out) | (with_reducible apply St.alloc) | (with_reducible apply St.more) | (refine St.setLoc ?_ LC1.out HLK.out _ _))) 1 zax r2 zcz).mono ?_
 have HH := Lib.hid h2; clear h2
 try clear c1 f1 hb
 rcases r2 with ⟨e1, e2⟩ | ⟨v2, m2, ns2⟩
 · rintro e w2 ⟨he, nv2, hk⟩
   have HKE := Lib.hid (Kp.trans (show Kp b nv nv1 w _ from zcf) hk)
   clear hk
   unfold noV at he
   subst he
   go_wp2_with fail
   have := qak HR1.out HH.out
   subst this
   exact ⟨rfl, PPost.err rfl HKE.out⟩
 rintro e w2 ⟨he, nv2, hs, hk, hm⟩
 dsimp only at he
 unfold tokV at he
 subst he
 have HR2 := Lib.hid (qaj HR1.out HH.out)
 refine ybv ?_; intro HS2
 refine yco ?_; intro HM2
 have HK2 := Lib.hid (Kp.trans (show Kp b nv nv1 w _ from zcf) hk)
 have LS : Loc b nv1 kn (.cells #[.int .i64 21, .int .i64 (-1), .int .i64 (-1), .int .i64 (-1), .int .i64 (-1), .int .i64 0, .string ⟨#[]⟩, .string ⟨#[]⟩] 42 (0, 0)) _ := (Loc.set LC1.out 0 (.int .i64 21))
 have LC2 := Lib.hid (Loc.kp (show Loc b nv1 kn (.cells #[.int .i64 21, .int .i64 (-1), .int .i64 (-1), .int .i64 (-1), .int .i64 (-1), .int .i64 0, .string ⟨#[]⟩, .string ⟨#[]⟩] 42 (0, 0)) _ from zam) hk)
 clear LS
 clear hs hk hm
 clear n0 n1 n2 n3 n4 n5 n6 n7 z0 z1 z2 z3' z5 z6 z7
 obtain ⟨n0, n1, n2, n3, n4, n5, n6, n7, z0, z1, z2, z3', z5, z6, z7, hkl⟩ := LC2.out.node
 go_wp2_with fail
 go_at_call 133
 obtain ⟨r3, h3⟩ := qal HR2.out
 refine (qav (show St b lb lo cap nv2 L m2 (N ++ (([] ++ []) ++ ns2)) _ from zav) _ _ zaq r3 zdd).mono ?_
 have HH := Lib.hid h3; clear h3
 try clear c1 f1 hb
 rcases r3 with ⟨e1, e2⟩ | ⟨v3, m3, ns3⟩
 · rintro e w3 ⟨he, nv3, hk⟩
   have HKE := Lib.hid (Kp.trans (show Kp b nv nv2 w _ from zak) hk)
   clear hk
   unfold noV at he
   subst he
   go_wp2_with fail
   have := qak HR2.out HH.out
   subst this
   exact ⟨rfl, PPost.err rfl HKE.out⟩
 rintro e w3 ⟨he, nv3, hs, hk, hm⟩
 unfold unitV at he
 subst he
 have HR3 := Lib.hid (qaj HR2.out HH.out)
 refine ycb ?_; intro HS3
 refine ydb ?_; intro HM3
 have HK3 := Lib.hid (Kp.trans (show Kp b nv nv2 w _ from zak) hk)
 have LS : Loc b nv2 kn (.cells #[.int .i64 21, .int .i64 (-1), .int .i64 (-1), .int .i64 (-1), .int .i64 (-1), .int .i64 0, .string v2.s, .string ⟨#[]⟩] 42 (0, 0)) _ := (Loc.set LC2.out 6 (.string v2.s))
 have LC3 := Lib.hid (Loc.kp (show Loc b nv2 kn (.cells #[.int .i64 21, .int .i64 (-1), .int .i64 (-1), .int .i64 (-1), .int .i64 (-1), .int .i64 0, .string v2.s, .string ⟨#[]⟩] 42 (0, 0)) _ from zam) hk)
 clear LS
 clear hs hk hm
 clear n0 n1 n2 n3 n4 n5 n6 n7 z0 z1 z2 z3' z5 z6 z7
 go_wp2_with fail
 go_at_call 134
 obtain ⟨r4, h4⟩ := qal HR3.out
 refine (HE.out _ _ _ _ (show St b lb lo cap nv3 L m3 (N ++ ((([] ++ []) ++ ns2) ++ ns3)) _ from zaw) r4 (by rw [List.length_append]; exact h4)).mono ?_
 have HH := Lib.hid h4; clear h4
 try clear c1 f1 hb
 rcases r4 with ⟨e1, e2⟩ | ⟨v4, m4, ns4⟩
 · rintro e w4 ⟨he, nv4, hk⟩
   have HKE := Lib.hid (Kp.trans (show Kp b nv nv3 w _ from zal) hk)
   clear hk
   unfold noV at he
   subst he
   go_wp2_with fail
   have := qak HR3.out HH.out
   subst this
   exact ⟨rfl, PPost.err rfl HKE.out⟩
 rintro e w4 ⟨he, nv4, hs, hk, hm⟩
 unfold intV at he
 subst he
 have HR4 := Lib.hid (qaj HR3.out HH.out)
 have HS4 := Lib.hid (hs.cast (List.append_assoc _ _ _))
 have HM4 := Lib.hid (Nat.le_trans HM3.out hm)
 have HK4 := Lib.hid (Kp.trans (show Kp b nv nv3 w _ from zal) hk)
 have LS : Loc b nv3 kn (.cells #[.int .i64 21, .int .i64 (-1), .int .i64 (-1), .int .i64 (-1), .int .i64 (-1), .int .i64 0, .string v2.s, .string ⟨#[]⟩] 42 (0, 0)) _ := LC3.out
 have LC4 := Lib.hid (Loc.kp (show Loc b nv3 kn (.cells #[.int .i64 21, .int .i64 (-1), .int .i64 (-1), .int .i64 (-1), .int .i64 (-1), .int .i64 0, .string v2.s, .string ⟨#[]⟩] 42 (0, 0)) _ from zam) hk)
 clear LS
 clear hs hk hm
 obtain ⟨n0, n1, n2, n3, n4, n5, n6, n7, z0, z1, z2, z3', z5, z6, z7, hkl⟩ := LC4.out.node
 go_wp2_with fail
 go_at_call 133
 obtain ⟨r5, h5⟩ := qal HR4.out
 refine (qav (show St b lb lo cap nv4 L m4 (N ++ (((([] ++ []) ++ ns2) ++ ns3) ++ ns4)) _ from zbn) _ _ zaq r5 (by rw [List.length_append]; exact h5)).mono ?_
 have HH := Lib.hid h5; clear h5
 try clear c1 f1 hb
 rcases r5 with ⟨e1, e2⟩ | ⟨v5, m5, ns5⟩
 · rintro e w5 ⟨he, nv5, hk⟩
   have HKE := Lib.hid (Kp.trans (show Kp b nv nv4 w _ from zao) hk)
   clear hk
   unfold noV at he
   subst he
   go_wp2_with fail
   have := qak HR4.out HH.out
   subst this
   exact ⟨rfl, PPost.err rfl HKE.out⟩
 rintro e w5 ⟨he, nv5, hs, hk, hm⟩
 unfold unitV at he
 subst he
 have HR5 := Lib.hid (qaj HR4.out HH.out)
 have HS5 := Lib.hid (hs.cast (List.append_assoc _ _ _))
 have HM5 := Lib.hid (Nat.le_trans HM4.out hm)
 have HK5 := Lib.hid (Kp.trans (show Kp b nv nv4 w _ from zao) hk)
 have LS : Loc b nv4 kn (.cells #[.int .i64 21, .int .i64 v4, .int .i64 (-1), .int .i64 (-1), .int .i64 (-1), .int .i64 0, .string v2.s, .string ⟨#[]⟩] 42 (0, 0)) _ := (Loc.set LC4.out 1 (.int .i64 v4))
 have LC5 := Lib.hid (Loc.kp (show Loc b nv4 kn (.cells #[.int .i64 21, .int .i64 v4, .int .i64 (-1), .int .i64 (-1), .int .i64 (-1), .int .i64 0, .string v2.s, .string ⟨#[]⟩] 42 (0, 0)) _ from zam) hk)
 clear LS
 clear hs hk hm
 clear n0 n1 n2 n3 n4 n5 n6 n7 z0 z1 z2 z3' z5 z6 z7
 obtain ⟨n0, n1, n2, n3, n4, n5, n6, n7, z0, z1, z2, z3', z5, z6, z7, hkl⟩ := LC5.out.node
 go_wp2_with fail
 go_at_call 115
 obtain ⟨r9, h9⟩ := qar HR5.out
 refine (qaM (show St b lb lo cap nv5 L m5 (N ++ ((((([] ++ []) ++ ns2) ++ ns3) ++ ns4) ++ ns5)) _ from zcc) _ _ _ _ _ _ _ _ r9 zbo).mono ?_
 have HH := Lib.hid h9; clear h9
 rcases r9 with ⟨e1, e2⟩ | ⟨v9, m9, ns9⟩
 · rintro e w9 ⟨he, nv9, hk⟩
   have HKE := Lib.hid (Kp.trans (show Kp b nv nv5 w _ from zat) hk)
   clear hk
   unfold noV at he
   subst he
   go_wp2_with fail
   have := qax HR5.out HH.out
   subst this
   exact ⟨rfl, PPost.err rfl HKE.out⟩
 rintro e w9 ⟨he, nv9, hs, hk, hm⟩
 unfold intV at he
 subst he
 refine yai ?_; intro HS9
 have HM9 := Lib.hid (Nat.le_trans HM5.out hm)
 have HK9 := Lib.hid (Kp.trans (show Kp b nv nv5 w _ from zat) hk)
 clear hs hk hm
 go_wp2_with fail
 go_ret
 have := qaK HR5.out HH.out
 subst this
 exact yar
theorem simple_put (h : St b lb lo cap nv L m N w) (hk5 : (tk L m).1.k = 5) (hs : (tk L m).1.s.toList = [112, 117, 116]) (z : Int) (ex : PM Int) (he : Dp b lb lo cap L 134 z ex) (r : PR Int) (hr : putP L ex m N.length = r) :
  Calls Tryz.prog 109 #[.pointer (some ⟨b, 0, none⟩), .int .i64 z] w (PPost intV b lb lo cap nv L m N w r) := by
 have hm : (m : Int) ≤ 5000 := by have := h.ends.few; have := h.pos; omega
 have hm0 : 0 ≤ (m : Int) := by omega
 have NX := Lib.hid (h.next (by rw [hk5]; decide))
 obtain ⟨⟨⟨k, ts, i⟩, a⟩, htt⟩ : ∃ tt, tk L m = tt := ⟨_, rfl⟩
 have TK : RowKit.Hid (∀ w1, Ext w w1 → Calls Tryz.prog 78 #[.pointer (some ⟨b, 0, none⟩)] w1 fun e w' => e = .returned (.agg #[.int .i64 k, .int .i64 a, .string ts, .int .i64 i]) ∧ Ext w1 w') := Lib.hid fun w1 hx => by have := qbg (h.ext hx); rw [htt] at this; exact this
 rw [htt] at hs
 dsimp only at hs
 have q_put : (ts.toList == [112, 117, 116]) = true := by rw [hs]; decide
 have q_delete : (ts.toList == [100, 101, 108, 101, 116, 101]) = false := by rw [hs]; decide
 have q_abort : (ts.toList == [97, 98, 111, 114, 116]) = false := by rw [hs]; decide
 clear htt hk5 hs
 refine yaj ?_; intro HS0
 have HK0 := Lib.hid (Kp.refl b nv w)
 have HM0 := Lib.hid (Nat.le_refl m)
 have HE := Lib.hid he
 have HR0 := Lib.hid (qao hr)
 unfold putP at HR0
 clear h hr he
 obtain ⟨c0, c1, c2, c3, f1, f2, f3, hb⟩ := HS0.out.facts
 clear c0 c2 c3 f2 f3
 (have HS1 := Lib.hid (St.cast (HS0.out.setAt (m + 1) ((m : Int) + 1) zaf NX.out) (show N ++ [] = N ++ ([] ++ []) by simp)))
 refine ybw ?_; intro HK1
 refine yck ?_; intro HM1
 refine yam ?_; intro HR1
 go_enter Tryz.func109, Tryz.ntmps109
 go_wp2_with (first
  | (((with_reducible refine (TK.out _ zac).mono ?_); rintro e _ ⟨rfl, d2, os2, rfl⟩))
  | (((with_reducible refine (qaD _ _).mono ?_); rintro e _ ⟨rfl, d3, os3, rfl⟩)))
 go_at_call 134
 obtain ⟨r2, h2⟩ := qal HR1.out
 have LCN := Lib.hid (St.loc (w := more (w.setCell ⟨b, 1, none⟩ (.int .i64 ((m : Int) + 1))) d3 (os2 ++ os3)) (lb := lb) (lo := lo) (cap := cap) (L := L) (nv := nv) (show St b lb lo cap nv L (m + 1) (N ++ ([] ++ [])) _ from zan) (.cells #[.int .i64 22, .int .i64 (-1), .int .i64 (-1), .int .i64 (-1), .int .i64 (-1), .int .i64 0, .string ⟨#[]⟩, .string ⟨#[]⟩] 42 (0, 0)))
 refine (HE.out _ _ _ _ (show St b lb lo cap nv L (m + 1) (N ++ ([] ++ [])) _ from zan) r2 zcz).mono ?_
 have HH := Lib.hid h2; clear h2
 try clear c1 f1 hb
 rcases r2 with ⟨e1, e2⟩ | ⟨v2, m2, ns2⟩
 · rintro e w2 ⟨he, nv2, hk⟩
   have HKE := Lib.hid (Kp.trans (show Kp b nv nv w _ from zad) hk)
   clear hk
   unfold noV at he
   subst he
   go_wp2_with fail
   have := qak HR1.out HH.out
   subst this
   exact ⟨rfl, PPost.err rfl HKE.out⟩
 rintro e w2 ⟨he, nv2, hs, hk, hm⟩
 unfold intV at he
 subst he
 have HR2 := Lib.hid (qaj HR1.out HH.out)
 refine ybv ?_; intro HS2
 refine yco ?_; intro HM2
 have HK2 := Lib.hid (Kp.trans (show Kp b nv nv w _ from zad) hk)
 have LC2 := Lib.hid (Loc.kp (show Loc b nv (more (w.setCell ⟨b, 1, none⟩ (.int .i64 ((m : Int) + 1))) d3 (os2 ++ os3)).heap.size (.cells #[.int .i64 22, .int .i64 (-1), .int .i64 (-1), .int .i64 (-1), .int .i64 (-1), .int .i64 0, .string ⟨#[]⟩, .string ⟨#[]⟩] 42 (0, 0)) _ from zbe) hk)
 clear LCN
 obtain ⟨kn, hkn⟩ : ∃ kn, (more (w.setCell ⟨b, 1, none⟩ (.int .i64 ((m : Int) + 1))) d3 (os2 ++ os3)).heap.size = kn := ⟨_, rfl⟩
 rw [hkn] at LC2
 have HKW : RowKit.Hid (w.heap.size ≤ kn) := Lib.hid zba
 have HLK : RowKit.Hid (lb ≠ kn) := Lib.hid zau
 simp only [more_size, World.size_setCell, Array.size_append] at hkn
 rw [hkn]
 clear hkn
 clear hs hk hm
 obtain ⟨n0, n1, n2, n3, n4, n5, n6, n7, z0, z1, z2, z3', z5, z6, z7, hkl⟩ := LC2.out.node
 go_wp2_with fail
 go_at_call 133
 obtain ⟨r3, h3⟩ := qal HR2.out
 refine (qav (show St b lb lo cap nv2 L m2 (N ++ (([] ++ []) ++ ns2)) _ from zav) _ _ zaq r3 zdd).mono ?_
 have HH := Lib.hid h3; clear h3
 try clear c1 f1 hb
 rcases r3 with ⟨e1, e2⟩ | ⟨v3, m3, ns3⟩
 · rintro e w3 ⟨he, nv3, hk⟩
   have HKE := Lib.hid (Kp.trans (show Kp b nv nv2 w _ from zak) hk)
   clear hk
   unfold noV at he
   subst he
   go_wp2_with fail
   have := qak HR2.out HH.out
   subst this
   exact ⟨rfl, PPost.err rfl HKE.out⟩
 rintro e w3 ⟨he, nv3, hs, hk, hm⟩
 unfold unitV at he
 subst he
 have HR3 := Lib.hid (qaj HR2.out HH.out)
 refine ycb ?_; intro HS3
 refine ydb ?_; intro HM3
 have HK3 := Lib.hid (Kp.trans (show Kp b nv nv2 w _ from zak) hk)
 have LS : Loc b nv2 kn (.cells #[.int .i64 22, .int .i64 v2, .int .i64 (-1), .int .i64 (-1), .int .i64 (-1), .int .i64 0, .string ⟨#[]⟩, .string ⟨#[]⟩] 42 (0, 0)) _ := (Loc.set LC2.out 1 (.int .i64 v2))
 have LC3 := Lib.hid (Loc.kp (show Loc b nv2 kn (.cells #[.int .i64 22, .int .i64 v2, .int .i64 (-1), .int .i64 (-1), .int .i64 (-1), .int .i64 0, .string ⟨#[]⟩, .string ⟨#[]⟩] 42 (0, 0)) _ from zam) hk)
 clear LS
 clear hs hk hm
 clear n0 n1 n2 n3 n4 n5 n6 n7 z0 z1 z2 z3' z5 z6 z7
 go_wp2_with fail
 go_at_call 134
 obtain ⟨r4, h4⟩ := qal HR3.out
 refine (HE.out _ _ _ _ (show St b lb lo cap nv3 L m3 (N ++ ((([] ++ []) ++ ns2) ++ ns3)) _ from zaw) r4 (by rw [List.length_append]; exact h4)).mono ?_
 have HH := Lib.hid h4; clear h4
 try clear c1 f1 hb
 rcases r4 with ⟨e1, e2⟩ | ⟨v4, m4, ns4⟩
 · rintro e w4 ⟨he, nv4, hk⟩
   have HKE := Lib.hid (Kp.trans (show Kp b nv nv3 w _ from zal) hk)
   clear hk
   unfold noV at he
   subst he
   go_wp2_with fail
   have := qak HR3.out HH.out
   subst this
   exact ⟨rfl, PPost.err rfl HKE.out⟩
 rintro e w4 ⟨he, nv4, hs, hk, hm⟩
 unfold intV at he
 subst he
 have HR4 := Lib.hid (qaj HR3.out HH.out)
 have HS4 := Lib.hid (hs.cast (List.append_assoc _ _ _))
 have HM4 := Lib.hid (Nat.le_trans HM3.out hm)
 have HK4 := Lib.hid (Kp.trans (show Kp b nv nv3 w _ from zal) hk)
 have LS : Loc b nv3 kn (.cells #[.int .i64 22, .int .i64 v2, .int .i64 (-1), .int .i64 (-1), .int .i64 (-1), .int .i64 0, .string ⟨#[]⟩, .string ⟨#[]⟩] 42 (0, 0)) _ := LC3.out
 have LC4 := Lib.hid (Loc.kp (show Loc b nv3 kn (.cells #[.int .i64 22, .int .i64 v2, .int .i64 (-1), .int .i64 (-1), .int .i64 (-1), .int .i64 0, .string ⟨#[]⟩, .string ⟨#[]⟩] 42 (0, 0)) _ from zam) hk)
 clear LS
 clear hs hk hm
 obtain ⟨n0, n1, n2, n3, n4, n5, n6, n7, z0, z1, z2, z3', z5, z6, z7, hkl⟩ := LC4.out.node
 go_wp2_with fail
 go_at_call 133
 obtain ⟨r5, h5⟩ := qal HR4.out
 refine (qav (show St b lb lo cap nv4 L m4 (N ++ (((([] ++ []) ++ ns2) ++ ns3) ++ ns4)) _ from zbn) _ _ zaq r5 (by rw [List.length_append]; exact h5)).mono ?_
 have HH := Lib.hid h5; clear h5
 try clear c1 f1 hb
 rcases r5 with ⟨e1, e2⟩ | ⟨v5, m5, ns5⟩
 · rintro e w5 ⟨he, nv5, hk⟩
   have HKE := Lib.hid (Kp.trans (show Kp b nv nv4 w _ from zao) hk)
   clear hk
   unfold noV at he
   subst he
   go_wp2_with fail
   have := qak HR4.out HH.out
   subst this
   exact ⟨rfl, PPost.err rfl HKE.out⟩
 rintro e w5 ⟨he, nv5, hs, hk, hm⟩
 unfold unitV at he
 subst he
 have HR5 := Lib.hid (qaj HR4.out HH.out)
 have HS5 := Lib.hid (hs.cast (List.append_assoc _ _ _))
 have HM5 := Lib.hid (Nat.le_trans HM4.out hm)
 have HK5 := Lib.hid (Kp.trans (show Kp b nv nv4 w _ from zao) hk)
 have LS : Loc b nv4 kn (.cells #[.int .i64 22, .int .i64 v2, .int .i64 v4, .int .i64 (-1), .int .i64 (-1), .int .i64 0, .string ⟨#[]⟩, .string ⟨#[]⟩] 42 (0, 0)) _ := (Loc.set LC4.out 2 (.int .i64 v4))
 have LC5 := Lib.hid (Loc.kp (show Loc b nv4 kn (.cells #[.int .i64 22, .int .i64 v2, .int .i64 v4, .int .i64 (-1), .int .i64 (-1), .int .i64 0, .string ⟨#[]⟩, .string ⟨#[]⟩] 42 (0, 0)) _ from zam) hk)
 clear LS
 clear hs hk hm
 clear n0 n1 n2 n3 n4 n5 n6 n7 z0 z1 z2 z3' z5 z6 z7
 obtain ⟨n0, n1, n2, n3, n4, n5, n6, n7, z0, z1, z2, z3', z5, z6, z7, hkl⟩ := LC5.out.node
 go_wp2_with fail
 go_at_call 115
 obtain ⟨r9, h9⟩ := qar HR5.out
 refine (qaM (show St b lb lo cap nv5 L m5 (N ++ ((((([] ++ []) ++ ns2) ++ ns3) ++ ns4) ++ ns5)) _ from zcc) _ _ _ _ _ _ _ _ r9 zbo).mono ?_
 have HH := Lib.hid h9; clear h9
 rcases r9 with ⟨e1, e2⟩ | ⟨v9, m9, ns9⟩
 · rintro e w9 ⟨he, nv9, hk⟩
   have HKE := Lib.hid (Kp.trans (show Kp b nv nv5 w _ from zat) hk)
   clear hk
   unfold noV at he
   subst he
   go_wp2_with fail
   have := qax HR5.out HH.out
   subst this
   exact ⟨rfl, PPost.err rfl HKE.out⟩
 rintro e w9 ⟨he, nv9, hs, hk, hm⟩
 unfold intV at he
 subst he
 refine yai ?_; intro HS9
 have HM9 := Lib.hid (Nat.le_trans HM5.out hm)
 have HK9 := Lib.hid (Kp.trans (show Kp b nv nv5 w _ from zat) hk)
 clear hs hk hm
 go_wp2_with fail
 go_ret
 have := qaK HR5.out HH.out
 subst this
 exact yar
theorem qed (h : St b lb lo cap nv L m N w) (hk5 : (tk L m).1.k = 5) (hs : (tk L m).1.s.toList = [100, 101, 108, 101, 116, 101]) (z : Int) (ex : PM Int) (he : Dp b lb lo cap L 134 z ex) (r : PR Int) (hr : qbv L 23 ex m N.length = r) :
  Calls Tryz.prog 109 #[.pointer (some ⟨b, 0, none⟩), .int .i64 z] w (PPost intV b lb lo cap nv L m N w r) := by
 have hm : (m : Int) ≤ 5000 := by have := h.ends.few; have := h.pos; omega
 have hm0 : 0 ≤ (m : Int) := by omega
 have NX := Lib.hid (h.next (by rw [hk5]; decide))
 obtain ⟨⟨⟨k, ts, i⟩, a⟩, htt⟩ : ∃ tt, tk L m = tt := ⟨_, rfl⟩
 have TK : RowKit.Hid (∀ w1, Ext w w1 → Calls Tryz.prog 78 #[.pointer (some ⟨b, 0, none⟩)] w1 fun e w' => e = .returned (.agg #[.int .i64 k, .int .i64 a, .string ts, .int .i64 i]) ∧ Ext w1 w') := Lib.hid fun w1 hx => by have := qbg (h.ext hx); rw [htt] at this; exact this
 rw [htt] at hs
 dsimp only at hs
 have q_put : (ts.toList == [112, 117, 116]) = false := by rw [hs]; decide
 have q_delete : (ts.toList == [100, 101, 108, 101, 116, 101]) = true := by rw [hs]; decide
 have q_abort : (ts.toList == [97, 98, 111, 114, 116]) = false := by rw [hs]; decide
 clear htt hk5 hs
 refine yaj ?_; intro HS0
 have HK0 := Lib.hid (Kp.refl b nv w)
 have HM0 := Lib.hid (Nat.le_refl m)
 have HE := Lib.hid he
 have HR0 := Lib.hid (qao hr)
 unfold qbv at HR0
 clear h hr he
 obtain ⟨c0, c1, c2, c3, f1, f2, f3, hb⟩ := HS0.out.facts
 clear c0 c2 c3 f2 f3
 (have HS1 := Lib.hid (St.cast (HS0.out.setAt (m + 1) ((m : Int) + 1) zaf NX.out) (show N ++ [] = N ++ ([] ++ []) by simp)))
 refine ybw ?_; intro HK1
 refine yck ?_; intro HM1
 refine yam ?_; intro HR1
 go_enter Tryz.func109, Tryz.ntmps109
 go_wp2_with (first
  | (((with_reducible refine (TK.out _ zac).mono ?_); rintro e _ ⟨rfl, d2, os2, rfl⟩))
  | (((with_reducible refine (qaD _ _).mono ?_); rintro e _ ⟨rfl, d3, os3, rfl⟩)))
 go_at_call 134
 obtain ⟨r2, h2⟩ := qal HR1.out
 have LCN := Lib.hid (St.loc (w := more (w.setCell ⟨b, 1, none⟩ (.int .i64 ((m : Int) + 1))) d3 (os2 ++ os3)) (lb := lb) (lo := lo) (cap := cap) (L := L) (nv := nv) (show St b lb lo cap nv L (m + 1) (N ++ ([] ++ [])) _ from zan) (.cells #[.int .i64 23, .int .i64 (-1), .int .i64 (-1), .int .i64 (-1), .int .i64 (-1), .int .i64 0, .string ⟨#[]⟩, .string ⟨#[]⟩] 42 (0, 0)))
 refine (HE.out _ _ _ _ (show St b lb lo cap nv L (m + 1) (N ++ ([] ++ [])) _ from zan) r2 zcz).mono ?_
 have HH := Lib.hid h2; clear h2
 try clear c1 f1 hb
 rcases r2 with ⟨e1, e2⟩ | ⟨v2, m2, ns2⟩
 · rintro e w2 ⟨he, nv2, hk⟩
   have HKE := Lib.hid (Kp.trans (show Kp b nv nv w _ from zad) hk)
   clear hk
   unfold noV at he
   subst he
   go_wp2_with fail
   have := qak HR1.out HH.out
   subst this
   exact ⟨rfl, PPost.err rfl HKE.out⟩
 rintro e w2 ⟨he, nv2, hs, hk, hm⟩
 unfold intV at he
 subst he
 have HR2 := Lib.hid (qaj HR1.out HH.out)
 refine ybv ?_; intro HS2
 refine yco ?_; intro HM2
 have HK2 := Lib.hid (Kp.trans (show Kp b nv nv w _ from zad) hk)
 have LC2 := Lib.hid (Loc.kp (show Loc b nv (more (w.setCell ⟨b, 1, none⟩ (.int .i64 ((m : Int) + 1))) d3 (os2 ++ os3)).heap.size (.cells #[.int .i64 23, .int .i64 (-1), .int .i64 (-1), .int .i64 (-1), .int .i64 (-1), .int .i64 0, .string ⟨#[]⟩, .string ⟨#[]⟩] 42 (0, 0)) _ from zbe) hk)
 clear LCN
 obtain ⟨kn, hkn⟩ : ∃ kn, (more (w.setCell ⟨b, 1, none⟩ (.int .i64 ((m : Int) + 1))) d3 (os2 ++ os3)).heap.size = kn := ⟨_, rfl⟩
 rw [hkn] at LC2
 have HKW : RowKit.Hid (w.heap.size ≤ kn) := Lib.hid zba
 have HLK : RowKit.Hid (lb ≠ kn) := Lib.hid zau
 simp only [more_size, World.size_setCell, Array.size_append] at hkn
 rw [hkn]
 clear hkn
 clear hs hk hm
 obtain ⟨n0, n1, n2, n3, n4, n5, n6, n7, z0, z1, z2, z3', z5, z6, z7, hkl⟩ := LC2.out.node
 go_wp2_with fail
 go_at_call 133
 obtain ⟨r3, h3⟩ := qal HR2.out
 refine (qav (show St b lb lo cap nv2 L m2 (N ++ (([] ++ []) ++ ns2)) _ from zav) _ _ zaq r3 zdd).mono ?_
 have HH := Lib.hid h3; clear h3
 try clear c1 f1 hb
 rcases r3 with ⟨e1, e2⟩ | ⟨v3, m3, ns3⟩
 · rintro e w3 ⟨he, nv3, hk⟩
   have HKE := Lib.hid (Kp.trans (show Kp b nv nv2 w _ from zak) hk)
   clear hk
   unfold noV at he
   subst he
   go_wp2_with fail
   have := qak HR2.out HH.out
   subst this
   exact ⟨rfl, PPost.err rfl HKE.out⟩
 rintro e w3 ⟨he, nv3, hs, hk, hm⟩
 unfold unitV at he
 subst he
 have HR3 := Lib.hid (qaj HR2.out HH.out)
 refine ycb ?_; intro HS3
 refine ydb ?_; intro HM3
 have HK3 := Lib.hid (Kp.trans (show Kp b nv nv2 w _ from zak) hk)
 have LS : Loc b nv2 kn (.cells #[.int .i64 23, .int .i64 v2, .int .i64 (-1), .int .i64 (-1), .int .i64 (-1), .int .i64 0, .string ⟨#[]⟩, .string ⟨#[]⟩] 42 (0, 0)) _ := (Loc.set LC2.out 1 (.int .i64 v2))
 have LC3 := Lib.hid (Loc.kp (show Loc b nv2 kn (.cells #[.int .i64 23, .int .i64 v2, .int .i64 (-1), .int .i64 (-1), .int .i64 (-1), .int .i64 0, .string ⟨#[]⟩, .string ⟨#[]⟩] 42 (0, 0)) _ from zam) hk)
 clear LS
 clear hs hk hm
 clear n0 n1 n2 n3 n4 n5 n6 n7 z0 z1 z2 z3' z5 z6 z7
 obtain ⟨n0, n1, n2, n3, n4, n5, n6, n7, z0, z1, z2, z3', z5, z6, z7, hkl⟩ := LC3.out.node
 go_wp2_with fail
 go_at_call 115
 obtain ⟨r9, h9⟩ := qar HR3.out
 refine (qaM (show St b lb lo cap nv3 L m3 (N ++ ((([] ++ []) ++ ns2) ++ ns3)) _ from zaw) _ _ _ _ _ _ _ _ r9 zbo).mono ?_
 have HH := Lib.hid h9; clear h9
 rcases r9 with ⟨e1, e2⟩ | ⟨v9, m9, ns9⟩
 · rintro e w9 ⟨he, nv9, hk⟩
   have HKE := Lib.hid (Kp.trans (show Kp b nv nv3 w _ from zal) hk)
   clear hk
   unfold noV at he
   subst he
   go_wp2_with fail
   have := qax HR3.out HH.out
   subst this
   exact ⟨rfl, PPost.err rfl HKE.out⟩
 rintro e w9 ⟨he, nv9, hs, hk, hm⟩
 unfold intV at he
 subst he
 refine yai ?_; intro HS9
 have HM9 := Lib.hid (Nat.le_trans HM3.out hm)
 have HK9 := Lib.hid (Kp.trans (show Kp b nv nv3 w _ from zal) hk)
 clear hs hk hm
 go_wp2_with fail
 go_ret
 have := qaK HR3.out HH.out
 subst this
 exact yar
theorem simple_abort (h : St b lb lo cap nv L m N w) (hk5 : (tk L m).1.k = 5) (hs : (tk L m).1.s.toList = [97, 98, 111, 114, 116]) (z : Int) (ex : PM Int) (he : Dp b lb lo cap L 134 z ex) (r : PR Int) (hr : qbv L 27 ex m N.length = r) :
  Calls Tryz.prog 109 #[.pointer (some ⟨b, 0, none⟩), .int .i64 z] w (PPost intV b lb lo cap nv L m N w r) := by
 have hm : (m : Int) ≤ 5000 := by have := h.ends.few; have := h.pos; omega
 have hm0 : 0 ≤ (m : Int) := by omega
 have NX := Lib.hid (h.next (by rw [hk5]; decide))
 obtain ⟨⟨⟨k, ts, i⟩, a⟩, htt⟩ : ∃ tt, tk L m = tt := ⟨_, rfl⟩
 have TK : RowKit.Hid (∀ w1, Ext w w1 → Calls Tryz.prog 78 #[.pointer (some ⟨b, 0, none⟩)] w1 fun e w' => e = .returned (.agg #[.int .i64 k, .int .i64 a, .string ts, .int .i64 i]) ∧ Ext w1 w') := Lib.hid fun w1 hx => by have := qbg (h.ext hx); rw [htt] at this; exact this
 rw [htt] at hs
 dsimp only at hs
 have q_put : (ts.toList == [112, 117, 116]) = false := by rw [hs]; decide
 have q_delete : (ts.toList == [100, 101, 108, 101, 116, 101]) = false := by rw [hs]; decide
 have q_abort : (ts.toList == [97, 98, 111, 114, 116]) = true := by rw [hs]; decide
 clear htt hk5 hs
 refine yaj ?_; intro HS0
 have HK0 := Lib.hid (Kp.refl b nv w)
 have HM0 := Lib.hid (Nat.le_refl m)
 have HE := Lib.hid he
 have HR0 := Lib.hid (qao hr)
 unfold qbv at HR0
 clear h hr he
 obtain ⟨c0, c1, c2, c3, f1, f2, f3, hb⟩ := HS0.out.facts
 clear c0 c2 c3 f2 f3
 (have HS1 := Lib.hid (St.cast (HS0.out.setAt (m + 1) ((m : Int) + 1) zaf NX.out) (show N ++ [] = N ++ ([] ++ []) by simp)))
 refine ybw ?_; intro HK1
 refine yck ?_; intro HM1
 refine yam ?_; intro HR1
 go_enter Tryz.func109, Tryz.ntmps109
 go_wp2_with (first
  | (((with_reducible refine (TK.out _ zac).mono ?_); rintro e _ ⟨rfl, d2, os2, rfl⟩))
  | (((with_reducible refine (qaD _ _).mono ?_); rintro e _ ⟨rfl, d3, os3, rfl⟩)))
 go_at_call 134
 obtain ⟨r2, h2⟩ := qal HR1.out
 have LCN := Lib.hid (St.loc (w := more (w.setCell ⟨b, 1, none⟩ (.int .i64 ((m : Int) + 1))) d3 (os2 ++ os3)) (lb := lb) (lo := lo) (cap := cap) (L := L) (nv := nv) (show St b lb lo cap nv L (m + 1) (N ++ ([] ++ [])) _ from zan) (.cells #[.int .i64 27, .int .i64 (-1), .int .i64 (-1), .int .i64 (-1), .int .i64 (-1), .int .i64 0, .string ⟨#[]⟩, .string ⟨#[]⟩] 42 (0, 0)))
 refine (HE.out _ _ _ _ (show St b lb lo cap nv L (m + 1) (N ++ ([] ++ [])) _ from zan) r2 zcz).mono ?_
 have HH := Lib.hid h2; clear h2
 try clear c1 f1 hb
 rcases r2 with ⟨e1, e2⟩ | ⟨v2, m2, ns2⟩
 · rintro e w2 ⟨he, nv2, hk⟩
   have HKE := Lib.hid (Kp.trans (show Kp b nv nv w _ from zad) hk)
   clear hk
   unfold noV at he
   subst he
   go_wp2_with fail
   have := qak HR1.out HH.out
   subst this
   exact ⟨rfl, PPost.err rfl HKE.out⟩
 rintro e w2 ⟨he, nv2, hs, hk, hm⟩
 unfold intV at he
 subst he
 have HR2 := Lib.hid (qaj HR1.out HH.out)
 refine ybv ?_; intro HS2
 refine yco ?_; intro HM2
 have HK2 := Lib.hid (Kp.trans (show Kp b nv nv w _ from zad) hk)
 have LC2 := Lib.hid (Loc.kp (show Loc b nv (more (w.setCell ⟨b, 1, none⟩ (.int .i64 ((m : Int) + 1))) d3 (os2 ++ os3)).heap.size (.cells #[.int .i64 27, .int .i64 (-1), .int .i64 (-1), .int .i64 (-1), .int .i64 (-1), .int .i64 0, .string ⟨#[]⟩, .string ⟨#[]⟩] 42 (0, 0)) _ from zbe) hk)
 clear LCN
 obtain ⟨kn, hkn⟩ : ∃ kn, (more (w.setCell ⟨b, 1, none⟩ (.int .i64 ((m : Int) + 1))) d3 (os2 ++ os3)).heap.size = kn := ⟨_, rfl⟩
 rw [hkn] at LC2
 have HKW : RowKit.Hid (w.heap.size ≤ kn) := Lib.hid zba
 have HLK : RowKit.Hid (lb ≠ kn) := Lib.hid zau
 simp only [more_size, World.size_setCell, Array.size_append] at hkn
 rw [hkn]
 clear hkn
 clear hs hk hm
 obtain ⟨n0, n1, n2, n3, n4, n5, n6, n7, z0, z1, z2, z3', z5, z6, z7, hkl⟩ := LC2.out.node
 go_wp2_with fail
 go_at_call 133
 obtain ⟨r3, h3⟩ := qal HR2.out
 refine (qav (show St b lb lo cap nv2 L m2 (N ++ (([] ++ []) ++ ns2)) _ from zav) _ _ zaq r3 zdd).mono ?_
 have HH := Lib.hid h3; clear h3
 try clear c1 f1 hb
 rcases r3 with ⟨e1, e2⟩ | ⟨v3, m3, ns3⟩
 · rintro e w3 ⟨he, nv3, hk⟩
   have HKE := Lib.hid (Kp.trans (show Kp b nv nv2 w _ from zak) hk)
   clear hk
   unfold noV at he
   subst he
   go_wp2_with fail
   have := qak HR2.out HH.out
   subst this
   exact ⟨rfl, PPost.err rfl HKE.out⟩
 rintro e w3 ⟨he, nv3, hs, hk, hm⟩
 unfold unitV at he
 subst he
 have HR3 := Lib.hid (qaj HR2.out HH.out)
 refine ycb ?_; intro HS3
 refine ydb ?_; intro HM3
 have HK3 := Lib.hid (Kp.trans (show Kp b nv nv2 w _ from zak) hk)
 have LS : Loc b nv2 kn (.cells #[.int .i64 27, .int .i64 v2, .int .i64 (-1), .int .i64 (-1), .int .i64 (-1), .int .i64 0, .string ⟨#[]⟩, .string ⟨#[]⟩] 42 (0, 0)) _ := (Loc.set LC2.out 1 (.int .i64 v2))
 have LC3 := Lib.hid (Loc.kp (show Loc b nv2 kn (.cells #[.int .i64 27, .int .i64 v2, .int .i64 (-1), .int .i64 (-1), .int .i64 (-1), .int .i64 0, .string ⟨#[]⟩, .string ⟨#[]⟩] 42 (0, 0)) _ from zam) hk)
 clear LS
 clear hs hk hm
 clear n0 n1 n2 n3 n4 n5 n6 n7 z0 z1 z2 z3' z5 z6 z7
 obtain ⟨n0, n1, n2, n3, n4, n5, n6, n7, z0, z1, z2, z3', z5, z6, z7, hkl⟩ := LC3.out.node
 go_wp2_with fail
 go_at_call 115
 obtain ⟨r9, h9⟩ := qar HR3.out
 refine (qaM (show St b lb lo cap nv3 L m3 (N ++ ((([] ++ []) ++ ns2) ++ ns3)) _ from zaw) _ _ _ _ _ _ _ _ r9 zbo).mono ?_
 have HH := Lib.hid h9; clear h9
 rcases r9 with ⟨e1, e2⟩ | ⟨v9, m9, ns9⟩
 · rintro e w9 ⟨he, nv9, hk⟩
   have HKE := Lib.hid (Kp.trans (show Kp b nv nv3 w _ from zal) hk)
   clear hk
   unfold noV at he
   subst he
   go_wp2_with fail
   have := qax HR3.out HH.out
   subst this
   exact ⟨rfl, PPost.err rfl HKE.out⟩
 rintro e w9 ⟨he, nv9, hs, hk, hm⟩
 unfold intV at he
 subst he
 refine yai ?_; intro HS9
 have HM9 := Lib.hid (Nat.le_trans HM3.out hm)
 have HK9 := Lib.hid (Kp.trans (show Kp b nv nv3 w _ from zal) hk)
 clear hs hk hm
 go_wp2_with fail
 go_ret
 have := qaK HR3.out HH.out
 subst this
 exact yar
theorem qeb (h : St b lb lo cap nv L m N w) (hk5 : (tk L m).1.k = 5) (hs : (tk L m).1.s.toList = [114, 101, 116, 117, 114, 110]) (z : Int) (ex : PM Int) (he : Dp b lb lo cap L 134 z ex) (r : PR Int) (hr : qbv L 28 ex m N.length = r) :
  Calls Tryz.prog 109 #[.pointer (some ⟨b, 0, none⟩), .int .i64 z] w (PPost intV b lb lo cap nv L m N w r) := by
 have hm : (m : Int) ≤ 5000 := by have := h.ends.few; have := h.pos; omega
 have hm0 : 0 ≤ (m : Int) := by omega
 have NX := Lib.hid (h.next (by rw [hk5]; decide))
 obtain ⟨⟨⟨k, ts, i⟩, a⟩, htt⟩ : ∃ tt, tk L m = tt := ⟨_, rfl⟩
 have TK : RowKit.Hid (∀ w1, Ext w w1 → Calls Tryz.prog 78 #[.pointer (some ⟨b, 0, none⟩)] w1 fun e w' => e = .returned (.agg #[.int .i64 k, .int .i64 a, .string ts, .int .i64 i]) ∧ Ext w1 w') := Lib.hid fun w1 hx => by have := qbg (h.ext hx); rw [htt] at this; exact this
 rw [htt] at hs
 dsimp only at hs
 have q_put : (ts.toList == [112, 117, 116]) = false := by rw [hs]; decide
 have q_delete : (ts.toList == [100, 101, 108, 101, 116, 101]) = false := by rw [hs]; decide
 have q_abort : (ts.toList == [97, 98, 111, 114, 116]) = false := by rw [hs]; decide
 clear htt hk5 hs
 refine yaj ?_; intro HS0
 have HK0 := Lib.hid (Kp.refl b nv w)
 have HM0 := Lib.hid (Nat.le_refl m)
 have HE := Lib.hid he
 have HR0 := Lib.hid (qao hr)
 unfold qbv at HR0
 clear h hr he
 obtain ⟨c0, c1, c2, c3, f1, f2, f3, hb⟩ := HS0.out.facts
 clear c0 c2 c3 f2 f3
 (have HS1 := Lib.hid (St.cast (HS0.out.setAt (m + 1) ((m : Int) + 1) zaf NX.out) (show N ++ [] = N ++ ([] ++ []) by simp)))
 refine ybw ?_; intro HK1
 refine yck ?_; intro HM1
 refine yam ?_; intro HR1
 go_enter Tryz.func109, Tryz.ntmps109
 go_wp2_with (first
  | (((with_reducible refine (TK.out _ zac).mono ?_); rintro e _ ⟨rfl, d2, os2, rfl⟩))
  | (((with_reducible refine (qaD _ _).mono ?_); rintro e _ ⟨rfl, d3, os3, rfl⟩)))
 go_at_call 134
 obtain ⟨r2, h2⟩ := qal HR1.out
 have LCN := Lib.hid (St.loc (w := more (w.setCell ⟨b, 1, none⟩ (.int .i64 ((m : Int) + 1))) d3 (os2 ++ os3)) (lb := lb) (lo := lo) (cap := cap) (L := L) (nv := nv) (show St b lb lo cap nv L (m + 1) (N ++ ([] ++ [])) _ from zan) (.cells #[.int .i64 28, .int .i64 (-1), .int .i64 (-1), .int .i64 (-1), .int .i64 (-1), .int .i64 0, .string ⟨#[]⟩, .string ⟨#[]⟩] 42 (0, 0)))
 refine (HE.out _ _ _ _ (show St b lb lo cap nv L (m + 1) (N ++ ([] ++ [])) _ from zan) r2 zcz).mono ?_
 have HH := Lib.hid h2; clear h2
 try clear c1 f1 hb
 rcases r2 with ⟨e1, e2⟩ | ⟨v2, m2, ns2⟩
 · rintro e w2 ⟨he, nv2, hk⟩
   have HKE := Lib.hid (Kp.trans (show Kp b nv nv w _ from zad) hk)
   clear hk
   unfold noV at he
   subst he
   go_wp2_with fail
   have := qak HR1.out HH.out
   subst this
   exact ⟨rfl, PPost.err rfl HKE.out⟩
 rintro e w2 ⟨he, nv2, hs, hk, hm⟩
 unfold intV at he
 subst he
 have HR2 := Lib.hid (qaj HR1.out HH.out)
 refine ybv ?_; intro HS2
 refine yco ?_; intro HM2
 have HK2 := Lib.hid (Kp.trans (show Kp b nv nv w _ from zad) hk)
 have LC2 := Lib.hid (Loc.kp (show Loc b nv (more (w.setCell ⟨b, 1, none⟩ (.int .i64 ((m : Int) + 1))) d3 (os2 ++ os3)).heap.size (.cells #[.int .i64 28, .int .i64 (-1), .int .i64 (-1), .int .i64 (-1), .int .i64 (-1), .int .i64 0, .string ⟨#[]⟩, .string ⟨#[]⟩] 42 (0, 0)) _ from zbe) hk)
 clear LCN
 obtain ⟨kn, hkn⟩ : ∃ kn, (more (w.setCell ⟨b, 1, none⟩ (.int .i64 ((m : Int) + 1))) d3 (os2 ++ os3)).heap.size = kn := ⟨_, rfl⟩
 rw [hkn] at LC2
 have HKW : RowKit.Hid (w.heap.size ≤ kn) := Lib.hid zba
 have HLK : RowKit.Hid (lb ≠ kn) := Lib.hid zau
 simp only [more_size, World.size_setCell, Array.size_append] at hkn
 rw [hkn]
 clear hkn
 clear hs hk hm
 obtain ⟨n0, n1, n2, n3, n4, n5, n6, n7, z0, z1, z2, z3', z5, z6, z7, hkl⟩ := LC2.out.node
 go_wp2_with fail
 go_at_call 133
 obtain ⟨r3, h3⟩ := qal HR2.out
 refine (qav (show St b lb lo cap nv2 L m2 (N ++ (([] ++ []) ++ ns2)) _ from zav) _ _ zaq r3 zdd).mono ?_
 have HH := Lib.hid h3; clear h3
 try clear c1 f1 hb
 rcases r3 with ⟨e1, e2⟩ | ⟨v3, m3, ns3⟩
 · rintro e w3 ⟨he, nv3, hk⟩
   have HKE := Lib.hid (Kp.trans (show Kp b nv nv2 w _ from zak) hk)
   clear hk
   unfold noV at he
   subst he
   go_wp2_with fail
   have := qak HR2.out HH.out
   subst this
   exact ⟨rfl, PPost.err rfl HKE.out⟩
 rintro e w3 ⟨he, nv3, hs, hk, hm⟩
 unfold unitV at he
 subst he
 have HR3 := Lib.hid (qaj HR2.out HH.out)
 refine ycb ?_; intro HS3
 refine ydb ?_; intro HM3
 have HK3 := Lib.hid (Kp.trans (show Kp b nv nv2 w _ from zak) hk)
 have LS : Loc b nv2 kn (.cells #[.int .i64 28, .int .i64 v2, .int .i64 (-1), .int .i64 (-1), .int .i64 (-1), .int .i64 0, .string ⟨#[]⟩, .string ⟨#[]⟩] 42 (0, 0)) _ := (Loc.set LC2.out 1 (.int .i64 v2))
 have LC3 := Lib.hid (Loc.kp (show Loc b nv2 kn (.cells #[.int .i64 28, .int .i64 v2, .int .i64 (-1), .int .i64 (-1), .int .i64 (-1), .int .i64 0, .string ⟨#[]⟩, .string ⟨#[]⟩] 42 (0, 0)) _ from zam) hk)
 clear LS
 clear hs hk hm
 clear n0 n1 n2 n3 n4 n5 n6 n7 z0 z1 z2 z3' z5 z6 z7
 obtain ⟨n0, n1, n2, n3, n4, n5, n6, n7, z0, z1, z2, z3', z5, z6, z7, hkl⟩ := LC3.out.node
 go_wp2_with fail
 go_at_call 115
 obtain ⟨r9, h9⟩ := qar HR3.out
 refine (qaM (show St b lb lo cap nv3 L m3 (N ++ ((([] ++ []) ++ ns2) ++ ns3)) _ from zaw) _ _ _ _ _ _ _ _ r9 zbo).mono ?_
 have HH := Lib.hid h9; clear h9
 rcases r9 with ⟨e1, e2⟩ | ⟨v9, m9, ns9⟩
 · rintro e w9 ⟨he, nv9, hk⟩
   have HKE := Lib.hid (Kp.trans (show Kp b nv nv3 w _ from zal) hk)
   clear hk
   unfold noV at he
   subst he
   go_wp2_with fail
   have := qax HR3.out HH.out
   subst this
   exact ⟨rfl, PPost.err rfl HKE.out⟩
 rintro e w9 ⟨he, nv9, hs, hk, hm⟩
 unfold intV at he
 subst he
 refine yai ?_; intro HS9
 have HM9 := Lib.hid (Nat.le_trans HM3.out hm)
 have HK9 := Lib.hid (Kp.trans (show Kp b nv nv3 w _ from zal) hk)
 clear hs hk hm
 go_wp2_with fail
 go_ret
 have := qaK HR3.out HH.out
 subst this
 exact yar
theorem ite_t {α : Type} {NS : List Nd} {p q : PM α} {n : Nat} {r : PR α} (h : prep NS ((if true = true then p else q) m n) = r) : prep NS (p m n) = r := h
theorem ite_f {α : Type} {NS : List Nd} {p q : PM α} {n : Nat} {r : PR α} (h : prep NS ((if false = true then p else q) m n) = r) : prep NS (q m n) = r := h
theorem when_any (h : St b lb lo cap nv L m N w) (hk5 : (tk L m).1.k = 5) (hs : (tk L m).1.s.toList = [105, 102]) (d : Nat) (hd : d ≤ 16) (ex bk : PM Int) (he : Dp b lb lo cap L 134 (d : Int) ex) (hb : Dp b lb lo cap L 49 ((d : Int) + 1) bk) (r : PR Int) (hr : whenP L ex (qce L bk) m N.length = r) :
  Calls Tryz.prog 110 #[.pointer (some ⟨b, 0, none⟩), .int .i64 (d : Int)] w (PPost intV b lb lo cap nv L m N w r) := by
 have hp : isP L ⟨#[105, 102]⟩ m = true := qcN wb_if hk5 (by rw [hs, tl_if])
 have hd0 : 0 ≤ (d : Int) := by omega
 have hd1 : (d : Int) ≤ 16 := by omega
 clear hk5 hs
 refine yaj ?_; intro HS0
 have HK0 := Lib.hid (Kp.refl b nv w)
 have HM0 := Lib.hid (Nat.le_refl m)
 have HE := Lib.hid he
 have HB := Lib.hid hb
 have HR0 := Lib.hid (qao hr)
 unfold whenP at HR0
 clear h hr he hb
 go_enter Tryz.func110, Tryz.ntmps110
 go_wp2_with fail
 go_at_call 133
 have h1 := qdq (n := N.length + ([] : List Nd).length) hp
 refine (qav (show St b lb lo cap nv L m (N ++ []) _ from zap) _ _ zaq _ (Eq.trans (by rw [List.length_append]) h1)).mono ?_
 have HH := Lib.hid h1; clear h1
 try clear c1 f1 hb
 rintro e w1 ⟨he, nv1, hs, hk, hm⟩
 unfold unitV at he
 subst he
 refine yam ?_; intro HR1
 refine ycy ?_; intro HS1
 have HM1 := Lib.hid (Nat.le_trans HM0.out hm)
 have HK1 := Lib.hid (Kp.trans (show Kp b nv nv w _ from zai) hk)
 clear hs hk hm
 go_wp2_with (((with_reducible refine (qaD _ _).mono ?_); rintro e _ ⟨rfl, d3, os3, rfl⟩))
 go_at_call 134
 obtain ⟨r2, h2⟩ := qal HR1.out
 have LCN := Lib.hid (St.loc (w := more w1 d3 os3) (lb := lb) (lo := lo) (cap := cap) (L := L) (nv := nv1) (show St b lb lo cap nv1 L (m + 1) (N ++ ([] ++ [])) _ from zan) (.cells #[.int .i64 24, .int .i64 (-1), .int .i64 (-1), .int .i64 (-1), .int .i64 (-1), .int .i64 0, .string ⟨#[]⟩, .string ⟨#[]⟩] 42 (0, 0)))
 refine (HE.out _ _ _ _ (show St b lb lo cap nv1 L (m + 1) (N ++ ([] ++ [])) _ from zan) r2 zcz).mono ?_
 have HH := Lib.hid h2; clear h2
 try clear c1 f1 hb
 rcases r2 with ⟨e1, e2⟩ | ⟨v2, m2, ns2⟩
 · rintro e w2 ⟨he, nv2, hk⟩
   have HKE := Lib.hid (Kp.trans (show Kp b nv nv1 w _ from zad) hk)
   clear hk
   unfold noV at he
   subst he
   go_wp2_with fail
   have := qak HR1.out HH.out
   subst this
   exact ⟨rfl, PPost.err rfl HKE.out⟩
 rintro e w2 ⟨he, nv2, hs, hk, hm⟩
 unfold intV at he
 subst he
 have HR2 := Lib.hid (qaj HR1.out HH.out)
 refine ybv ?_; intro HS2
 refine yco ?_; intro HM2
 have HK2 := Lib.hid (Kp.trans (show Kp b nv nv1 w _ from zad) hk)
 have LC2 := Lib.hid (Loc.kp (show Loc b nv1 (more w1 d3 os3).heap.size (.cells #[.int .i64 24, .int .i64 (-1), .int .i64 (-1), .int .i64 (-1), .int .i64 (-1), .int .i64 0, .string ⟨#[]⟩, .string ⟨#[]⟩] 42 (0, 0)) _ from zbe) hk)
 clear LCN
 obtain ⟨kn, hkn⟩ : ∃ kn, (more w1 d3 os3).heap.size = kn := ⟨_, rfl⟩
 rw [hkn] at LC2
 have HKW : RowKit.Hid (w.heap.size ≤ kn) := Lib.hid zby
 have HLK : RowKit.Hid (lb ≠ kn) := Lib.hid zbs
 simp only [more_size, World.size_setCell, Array.size_append] at hkn
 rw [hkn]
 clear hkn
 clear hs hk hm
 obtain ⟨n0, n1, n2, n3, n4, n5, n6, n7, z0, z1, z2, z3', z5, z6, z7, hkl⟩ := LC2.out.node
 go_wp2_with fail
 go_at_call 114
 obtain ⟨r3, h3⟩ := qal HR2.out
 refine (qbY (show St b lb lo cap nv2 L m2 (N ++ (([] ++ []) ++ ns2)) _ from zav) _ _ HB.out r3 zdd).mono ?_
 have HH := Lib.hid h3; clear h3
 try clear c1 f1 hb
 rcases r3 with ⟨e1, e2⟩ | ⟨v3, m3, ns3⟩
 · rintro e w3 ⟨he, nv3, hk⟩
   have HKE := Lib.hid (Kp.trans (show Kp b nv nv2 w _ from zak) hk)
   clear hk
   unfold noV at he
   subst he
   go_wp2_with fail
   have := qak HR2.out HH.out
   subst this
   exact ⟨rfl, PPost.err rfl HKE.out⟩
 rintro e w3 ⟨he, nv3, hs, hk, hm⟩
 unfold intV at he
 subst he
 have HR3 := Lib.hid (qaj HR2.out HH.out)
 refine ycb ?_; intro HS3
 refine ydb ?_; intro HM3
 have HK3 := Lib.hid (Kp.trans (show Kp b nv nv2 w _ from zak) hk)
 have LS : Loc b nv2 kn (.cells #[.int .i64 24, .int .i64 v2, .int .i64 (-1), .int .i64 (-1), .int .i64 (-1), .int .i64 0, .string ⟨#[]⟩, .string ⟨#[]⟩] 42 (0, 0)) _ := (Loc.set LC2.out 1 (.int .i64 v2))
 have LC3 := Lib.hid (Loc.kp (show Loc b nv2 kn (.cells #[.int .i64 24, .int .i64 v2, .int .i64 (-1), .int .i64 (-1), .int .i64 (-1), .int .i64 0, .string ⟨#[]⟩, .string ⟨#[]⟩] 42 (0, 0)) _ from zam) hk)
 clear LS
 clear hs hk hm
 clear n0 n1 n2 n3 n4 n5 n6 n7 z0 z1 z2 z3' z5 z6 z7
 obtain ⟨n0, n1, n2, n3, n4, n5, n6, n7, z0, z1, z2, z3', z5, z6, z7, hkl⟩ := LC3.out.node
 go_wp2_with fail
 go_at_call 132
 obtain ⟨r4, h4⟩ := qal HR3.out
 refine (qbB (show St b lb lo cap nv3 L m3 (N ++ ((([] ++ []) ++ ns2) ++ ns3)) _ from zaw) _ r4 (by rw [List.length_append]; exact h4)).mono ?_
 have HH := Lib.hid h4; clear h4
 try clear c1 f1 hb
 rcases r4 with ⟨e1, e2⟩ | ⟨v4, m4, ns4⟩
 · rintro e w4 ⟨he, nv4, hk⟩
   have HKE := Lib.hid (Kp.trans (show Kp b nv nv3 w _ from zal) hk)
   clear hk
   unfold noV at he
   subst he
   go_wp2_with fail
   have := qak HR3.out HH.out
   subst this
   exact ⟨rfl, PPost.err rfl HKE.out⟩
 rintro e w4 ⟨he, nv4, hs, hk, hm⟩
 subst he
 have HR4 := Lib.hid (qaj HR3.out HH.out)
 have HS4 := Lib.hid (hs.cast (List.append_assoc _ _ _))
 have HM4 := Lib.hid (Nat.le_trans HM3.out hm)
 have HK4 := Lib.hid (Kp.trans (show Kp b nv nv3 w _ from zal) hk)
 have LS : Loc b nv3 kn (.cells #[.int .i64 24, .int .i64 v2, .int .i64 v3, .int .i64 (-1), .int .i64 (-1), .int .i64 0, .string ⟨#[]⟩, .string ⟨#[]⟩] 42 (0, 0)) _ := (Loc.set LC3.out 2 (.int .i64 v3))
 have LC4 := Lib.hid (Loc.kp (show Loc b nv3 kn (.cells #[.int .i64 24, .int .i64 v2, .int .i64 v3, .int .i64 (-1), .int .i64 (-1), .int .i64 0, .string ⟨#[]⟩, .string ⟨#[]⟩] 42 (0, 0)) _ from zam) hk)
 clear LS
 clear hs hk hm
 clear n0 n1 n2 n3 n4 n5 n6 n7 z0 z1 z2 z3' z5 z6 z7
 obtain ⟨n0, n1, n2, n3, n4, n5, n6, n7, z0, z1, z2, z3', z5, z6, z7, hkl⟩ := LC4.out.node
 cases v4
 · have HR4 := Lib.hid (ite_f HR4.out)
   go_wp2_with fail
   go_at_call 115
   obtain ⟨r9, h9⟩ := qar HR4.out
   refine (qaM (show St b lb lo cap nv4 L m4 (N ++ (((([] ++ []) ++ ns2) ++ ns3) ++ ns4)) _ from zbn) _ _ _ _ _ _ _ _ r9 zbo).mono ?_
   have HH := Lib.hid h9; clear h9
   rcases r9 with ⟨e1, e2⟩ | ⟨v9, m9, ns9⟩
   · rintro e w9 ⟨he, nv9, hk⟩
     have HKE := Lib.hid (Kp.trans (show Kp b nv nv4 w _ from zao) hk)
     clear hk
     unfold noV at he
     subst he
     go_wp2_with fail
     have := qax HR4.out HH.out
     subst this
     exact ⟨rfl, PPost.err rfl HKE.out⟩
   rintro e w9 ⟨he, nv9, hs, hk, hm⟩
   unfold intV at he
   subst he
   refine yai ?_; intro HS9
   have HM9 := Lib.hid (Nat.le_trans HM4.out hm)
   have HK9 := Lib.hid (Kp.trans (show Kp b nv nv4 w _ from zao) hk)
   clear hs hk hm
   go_wp2_with fail
   go_ret
   have := qaK HR4.out HH.out
   subst this
   exact yar
 · have HR4 := Lib.hid (ite_t HR4.out)
   go_wp2_with fail
   go_at_call 114
   obtain ⟨r5, h5⟩ := qal HR4.out
   refine (qbY (show St b lb lo cap nv4 L m4 (N ++ (((([] ++ []) ++ ns2) ++ ns3) ++ ns4)) _ from zbn) _ _ HB.out r5 (by rw [List.length_append]; exact h5)).mono ?_
   have HH := Lib.hid h5; clear h5
   try clear c1 f1 hb
   rcases r5 with ⟨e1, e2⟩ | ⟨v5, m5, ns5⟩
   · rintro e w5 ⟨he, nv5, hk⟩
     have HKE := Lib.hid (Kp.trans (show Kp b nv nv4 w _ from zao) hk)
     clear hk
     unfold noV at he
     subst he
     go_wp2_with fail
     have := qak HR4.out HH.out
     subst this
     exact ⟨rfl, PPost.err rfl HKE.out⟩
   rintro e w5 ⟨he, nv5, hs, hk, hm⟩
   unfold intV at he
   subst he
   have HR5 := Lib.hid (qaj HR4.out HH.out)
   have HS5 := Lib.hid (hs.cast (List.append_assoc _ _ _))
   have HM5 := Lib.hid (Nat.le_trans HM4.out hm)
   have HK5 := Lib.hid (Kp.trans (show Kp b nv nv4 w _ from zao) hk)
   have LS : Loc b nv4 kn (.cells #[.int .i64 24, .int .i64 v2, .int .i64 v3, .int .i64 (-1), .int .i64 (-1), .int .i64 1, .string ⟨#[]⟩, .string ⟨#[]⟩] 42 (0, 0)) _ := (Loc.set LC4.out 5 (.int .i64 1))
   have LC5 := Lib.hid (Loc.kp (show Loc b nv4 kn (.cells #[.int .i64 24, .int .i64 v2, .int .i64 v3, .int .i64 (-1), .int .i64 (-1), .int .i64 1, .string ⟨#[]⟩, .string ⟨#[]⟩] 42 (0, 0)) _ from zam) hk)
   clear LS
   clear hs hk hm
   clear n0 n1 n2 n3 n4 n5 n6 n7 z0 z1 z2 z3' z5 z6 z7
   obtain ⟨n0, n1, n2, n3, n4, n5, n6, n7, z0, z1, z2, z3', z5, z6, z7, hkl⟩ := LC5.out.node
   go_wp2_with fail
   go_at_call 115
   obtain ⟨r9, h9⟩ := qar HR5.out
   refine (qaM (show St b lb lo cap nv5 L m5 (N ++ ((((([] ++ []) ++ ns2) ++ ns3) ++ ns4) ++ ns5)) _ from zcc) _ _ _ _ _ _ _ _ r9 zbo).mono ?_
   have HH := Lib.hid h9; clear h9
   rcases r9 with ⟨e1, e2⟩ | ⟨v9, m9, ns9⟩
   · rintro e w9 ⟨he, nv9, hk⟩
     have HKE := Lib.hid (Kp.trans (show Kp b nv nv5 w _ from zat) hk)
     clear hk
     unfold noV at he
     subst he
     go_wp2_with fail
     have := qax HR5.out HH.out
     subst this
     exact ⟨rfl, PPost.err rfl HKE.out⟩
   rintro e w9 ⟨he, nv9, hs, hk, hm⟩
   unfold intV at he
   subst he
   refine yai ?_; intro HS9
   have HM9 := Lib.hid (Nat.le_trans HM5.out hm)
   have HK9 := Lib.hid (Kp.trans (show Kp b nv nv5 w _ from zat) hk)
   clear hs hk hm
   go_wp2_with fail
   go_ret
   have := qaK HR5.out HH.out
   subst this
   exact yar
theorem each_any (h : St b lb lo cap nv L m N w) (hk5 : (tk L m).1.k = 5) (hs : (tk L m).1.s.toList = [102, 111, 114]) (d : Nat) (hd : d ≤ 16) (ex bk : PM Int) (he : Dp b lb lo cap L 134 (d : Int) ex) (hb : Dp b lb lo cap L 49 ((d : Int) + 1) bk) (r : PR Int) (hr : eachP L ex (qce L bk) m N.length = r) :
  Calls Tryz.prog 111 #[.pointer (some ⟨b, 0, none⟩), .int .i64 (d : Int)] w (PPost intV b lb lo cap nv L m N w r) := by
 have hp : isP L ⟨#[102, 111, 114]⟩ m = true := qcN wb_for hk5 (by rw [hs, tl_for])
 have hd0 : 0 ≤ (d : Int) := by omega
 have hd1 : (d : Int) ≤ 16 := by omega
 clear hk5 hs
 refine yaj ?_; intro HS0
 have HK0 := Lib.hid (Kp.refl b nv w)
 have HM0 := Lib.hid (Nat.le_refl m)
 have HE := Lib.hid he
 have HB := Lib.hid hb
 have HR0 := Lib.hid (qao hr)
 unfold eachP at HR0
 clear h hr he hb
 go_enter Tryz.func111, Tryz.ntmps111
 go_wp2_with fail
 go_at_call 133
 have h1 := qdq (n := N.length + ([] : List Nd).length) hp
 refine (qav (show St b lb lo cap nv L m (N ++ []) _ from zap) _ _ zaq _ (Eq.trans (by rw [List.length_append]) h1)).mono ?_
 have HH := Lib.hid h1; clear h1
 try clear c1 f1 hb
 rintro e w1 ⟨he, nv1, hs, hk, hm⟩
 unfold unitV at he
 subst he
 refine yam ?_; intro HR1
 refine ycy ?_; intro HS1
 have HM1 := Lib.hid (Nat.le_trans HM0.out hm)
 have HK1 := Lib.hid (Kp.trans (show Kp b nv nv w _ from zai) hk)
 clear hs hk hm
 go_wp2_with (((with_reducible refine (qaD _ _).mono ?_); rintro e _ ⟨rfl, d3, os3, rfl⟩))
 go_at_call 50
 obtain ⟨r2, h2⟩ := qal HR1.out
 have LCN := Lib.hid (St.loc (w := more w1 d3 os3) (lb := lb) (lo := lo) (cap := cap) (L := L) (nv := nv1) (show St b lb lo cap nv1 L (m + 1) (N ++ ([] ++ [])) _ from zan) (.cells #[.int .i64 25, .int .i64 (-1), .int .i64 (-1), .int .i64 (-1), .int .i64 (-1), .int .i64 0, .string ⟨#[]⟩, .string ⟨#[]⟩] 42 (0, 0)))
 refine (of_any (show St b lb lo cap nv1 L (m + 1) (N ++ ([] ++ [])) _ from zan) 1 zax r2 zcz).mono ?_
 have HH := Lib.hid h2; clear h2
 try clear c1 f1 hb
 rcases r2 with ⟨e1, e2⟩ | ⟨v2, m2, ns2⟩
 · rintro e w2 ⟨he, nv2, hk⟩
   have HKE := Lib.hid (Kp.trans (show Kp b nv nv1 w _ from zad) hk)
   clear hk
   unfold noV at he
   subst he
   go_wp2_with fail
   have := qak HR1.out HH.out
   subst this
   exact ⟨rfl, PPost.err rfl HKE.out⟩
 rintro e w2 ⟨he, nv2, hs, hk, hm⟩
 dsimp only at he
 unfold tokV at he
 subst he
 have HR2 := Lib.hid (qaj HR1.out HH.out)
 refine ybv ?_; intro HS2
 refine yco ?_; intro HM2
 have HK2 := Lib.hid (Kp.trans (show Kp b nv nv1 w _ from zad) hk)
 have LC2 := Lib.hid (Loc.kp (show Loc b nv1 (more w1 d3 os3).heap.size (.cells #[.int .i64 25, .int .i64 (-1), .int .i64 (-1), .int .i64 (-1), .int .i64 (-1), .int .i64 0, .string ⟨#[]⟩, .string ⟨#[]⟩] 42 (0, 0)) _ from zbe) hk)
 clear LCN
 obtain ⟨kn, hkn⟩ : ∃ kn, (more w1 d3 os3).heap.size = kn := ⟨_, rfl⟩
 rw [hkn] at LC2
 have HKW : RowKit.Hid (w.heap.size ≤ kn) := Lib.hid zby
 have HLK : RowKit.Hid (lb ≠ kn) := Lib.hid zbs
 simp only [more_size, World.size_setCell, Array.size_append] at hkn
 rw [hkn]
 clear hkn
 clear hs hk hm
 obtain ⟨n0, n1, n2, n3, n4, n5, n6, n7, z0, z1, z2, z3', z5, z6, z7, hkl⟩ := LC2.out.node
 go_wp2_with fail
 go_at_call 133
 obtain ⟨r3, h3⟩ := qal HR2.out
 refine (qav (show St b lb lo cap nv2 L m2 (N ++ (([] ++ []) ++ ns2)) _ from zav) _ _ zaq r3 zdd).mono ?_
 have HH := Lib.hid h3; clear h3
 try clear c1 f1 hb
 rcases r3 with ⟨e1, e2⟩ | ⟨v3, m3, ns3⟩
 · rintro e w3 ⟨he, nv3, hk⟩
   have HKE := Lib.hid (Kp.trans (show Kp b nv nv2 w _ from zak) hk)
   clear hk
   unfold noV at he
   subst he
   go_wp2_with fail
   have := qak HR2.out HH.out
   subst this
   exact ⟨rfl, PPost.err rfl HKE.out⟩
 rintro e w3 ⟨he, nv3, hs, hk, hm⟩
 unfold unitV at he
 subst he
 have HR3 := Lib.hid (qaj HR2.out HH.out)
 refine ycb ?_; intro HS3
 refine ydb ?_; intro HM3
 have HK3 := Lib.hid (Kp.trans (show Kp b nv nv2 w _ from zak) hk)
 have LS : Loc b nv2 kn (.cells #[.int .i64 25, .int .i64 (-1), .int .i64 (-1), .int .i64 (-1), .int .i64 (-1), .int .i64 0, .string v2.s, .string ⟨#[]⟩] 42 (0, 0)) _ := (Loc.set LC2.out 6 (.string v2.s))
 have LC3 := Lib.hid (Loc.kp (show Loc b nv2 kn (.cells #[.int .i64 25, .int .i64 (-1), .int .i64 (-1), .int .i64 (-1), .int .i64 (-1), .int .i64 0, .string v2.s, .string ⟨#[]⟩] 42 (0, 0)) _ from zam) hk)
 clear LS
 clear hs hk hm
 clear n0 n1 n2 n3 n4 n5 n6 n7 z0 z1 z2 z3' z5 z6 z7
 go_wp2_with fail
 go_at_call 50
 obtain ⟨r4, h4⟩ := qal HR3.out
 refine (of_any (show St b lb lo cap nv3 L m3 (N ++ ((([] ++ []) ++ ns2) ++ ns3)) _ from zaw) 1 zax r4 (by rw [List.length_append]; exact h4)).mono ?_
 have HH := Lib.hid h4; clear h4
 try clear c1 f1 hb
 rcases r4 with ⟨e1, e2⟩ | ⟨v4, m4, ns4⟩
 · rintro e w4 ⟨he, nv4, hk⟩
   have HKE := Lib.hid (Kp.trans (show Kp b nv nv3 w _ from zal) hk)
   clear hk
   unfold noV at he
   subst he
   go_wp2_with fail
   have := qak HR3.out HH.out
   subst this
   exact ⟨rfl, PPost.err rfl HKE.out⟩
 rintro e w4 ⟨he, nv4, hs, hk, hm⟩
 dsimp only at he
 unfold tokV at he
 subst he
 have HR4 := Lib.hid (qaj HR3.out HH.out)
 have HS4 := Lib.hid (hs.cast (List.append_assoc _ _ _))
 have HM4 := Lib.hid (Nat.le_trans HM3.out hm)
 have HK4 := Lib.hid (Kp.trans (show Kp b nv nv3 w _ from zal) hk)
 have LS : Loc b nv3 kn (.cells #[.int .i64 25, .int .i64 (-1), .int .i64 (-1), .int .i64 (-1), .int .i64 (-1), .int .i64 0, .string v2.s, .string ⟨#[]⟩] 42 (0, 0)) _ := LC3.out
 have LC4 := Lib.hid (Loc.kp (show Loc b nv3 kn (.cells #[.int .i64 25, .int .i64 (-1), .int .i64 (-1), .int .i64 (-1), .int .i64 (-1), .int .i64 0, .string v2.s, .string ⟨#[]⟩] 42 (0, 0)) _ from zam) hk)
 clear LS
 clear hs hk hm
 obtain ⟨n0, n1, n2, n3, n4, n5, n6, n7, z0, z1, z2, z3', z5, z6, z7, hkl⟩ := LC4.out.node
 go_wp2_with fail
 go_at_call 133
 obtain ⟨r5, h5⟩ := qal HR4.out
 refine (must3_any (show St b lb lo cap nv4 L m4 (N ++ (((([] ++ []) ++ ns2) ++ ns3) ++ ns4)) _ from zbn) _ _ _ _ zaq r5 (by rw [List.length_append]; exact h5)).mono ?_
 have HH := Lib.hid h5; clear h5
 try clear c1 f1 hb
 rcases r5 with ⟨e1, e2⟩ | ⟨v5, m5, ns5⟩
 · rintro e w5 ⟨he, nv5, hk⟩
   have HKE := Lib.hid (Kp.trans (show Kp b nv nv4 w _ from zao) hk)
   clear hk
   unfold noV at he
   subst he
   go_wp2_with fail
   have := qak HR4.out HH.out
   subst this
   exact ⟨rfl, PPost.err rfl HKE.out⟩
 rintro e w5 ⟨he, nv5, hs, hk, hm⟩
 unfold unitV at he
 subst he
 have HR5 := Lib.hid (qaj HR4.out HH.out)
 have HS5 := Lib.hid (hs.cast (List.append_assoc _ _ _))
 have HM5 := Lib.hid (Nat.le_trans HM4.out hm)
 have HK5 := Lib.hid (Kp.trans (show Kp b nv nv4 w _ from zao) hk)
 have LS : Loc b nv4 kn (.cells #[.int .i64 25, .int .i64 (-1), .int .i64 (-1), .int .i64 (-1), .int .i64 (-1), .int .i64 0, .string v2.s, .string v4.s] 42 (0, 0)) _ := (Loc.set LC4.out 7 (.string v4.s))
 have LC5 := Lib.hid (Loc.kp (show Loc b nv4 kn (.cells #[.int .i64 25, .int .i64 (-1), .int .i64 (-1), .int .i64 (-1), .int .i64 (-1), .int .i64 0, .string v2.s, .string v4.s] 42 (0, 0)) _ from zam) hk)
 clear LS
 clear hs hk hm
 clear n0 n1 n2 n3 n4 n5 n6 n7 z0 z1 z2 z3' z5 z6 z7
 go_wp2_with fail
 go_at_call 134
 obtain ⟨r6, h6⟩ := qal HR5.out
 refine (HE.out _ _ _ _ (show St b lb lo cap nv5 L m5 (N ++ ((((([] ++ []) ++ ns2) ++ ns3) ++ ns4) ++ ns5)) _ from zcc) r6 (by rw [List.length_append]; exact h6)).mono ?_
 have HH := Lib.hid h6; clear h6
 try clear c1 f1 hb
 rcases r6 with ⟨e1, e2⟩ | ⟨v6, m6, ns6⟩
 · rintro e w6 ⟨he, nv6, hk⟩
   have HKE := Lib.hid (Kp.trans (show Kp b nv nv5 w _ from zat) hk)
   clear hk
   unfold noV at he
   subst he
   go_wp2_with fail
   have := qak HR5.out HH.out
   subst this
   exact ⟨rfl, PPost.err rfl HKE.out⟩
 rintro e w6 ⟨he, nv6, hs, hk, hm⟩
 unfold intV at he
 subst he
 have HR6 := Lib.hid (qaj HR5.out HH.out)
 have HS6 := Lib.hid (hs.cast (List.append_assoc _ _ _))
 have HM6 := Lib.hid (Nat.le_trans HM5.out hm)
 have HK6 := Lib.hid (Kp.trans (show Kp b nv nv5 w _ from zat) hk)
 have LS : Loc b nv5 kn (.cells #[.int .i64 25, .int .i64 (-1), .int .i64 (-1), .int .i64 (-1), .int .i64 (-1), .int .i64 0, .string v2.s, .string v4.s] 42 (0, 0)) _ := LC5.out
 have LC6 := Lib.hid (Loc.kp (show Loc b nv5 kn (.cells #[.int .i64 25, .int .i64 (-1), .int .i64 (-1), .int .i64 (-1), .int .i64 (-1), .int .i64 0, .string v2.s, .string v4.s] 42 (0, 0)) _ from zam) hk)
 clear LS
 clear hs hk hm
 obtain ⟨n0, n1, n2, n3, n4, n5, n6, n7, z0, z1, z2, z3', z5, z6, z7, hkl⟩ := LC6.out.node
 go_wp2_with fail
 go_at_call 133
 obtain ⟨r7, h7⟩ := qal HR6.out
 refine (qav (show St b lb lo cap nv6 L m6 (N ++ (((((([] ++ []) ++ ns2) ++ ns3) ++ ns4) ++ ns5) ++ ns6)) _ from by repeat (first | (with_reducible exact HS6.out) | (with_reducible apply St.alloc) | (with_reducible apply St.more) | (refine St.setLoc ?_ LC6.out HLK.out _ _))) _ _ zaq r7 (by rw [List.length_append]; exact h7)).mono ?_
 have HH := Lib.hid h7; clear h7
 try clear c1 f1 hb
 rcases r7 with ⟨e1, e2⟩ | ⟨v7, m7, ns7⟩
 · rintro e w7 ⟨he, nv7, hk⟩
   have HKE := Lib.hid (Kp.trans (show Kp b nv nv6 w _ from by repeat (first | (with_reducible exact HK6.out) | (with_reducible apply Kp.alloc) | (with_reducible apply Kp.more) | (with_reducible refine Kp.setB ?_ 1 _) | (refine Kp.setNew ?_ HKW.out _ _))) hk)
   clear hk
   unfold noV at he
   subst he
   go_wp2_with fail
   have := qak HR6.out HH.out
   subst this
   exact ⟨rfl, PPost.err rfl HKE.out⟩
 rintro e w7 ⟨he, nv7, hs, hk, hm⟩
 unfold unitV at he
 subst he
 have HR7 := Lib.hid (qaj HR6.out HH.out)
 have HS7 := Lib.hid (hs.cast (List.append_assoc _ _ _))
 have HM7 := Lib.hid (Nat.le_trans HM6.out hm)
 have HK7 := Lib.hid (Kp.trans (show Kp b nv nv6 w _ from by repeat (first | (with_reducible exact HK6.out) | (with_reducible apply Kp.alloc) | (with_reducible apply Kp.more) | (with_reducible refine Kp.setB ?_ 1 _) | (refine Kp.setNew ?_ HKW.out _ _))) hk)
 have LS : Loc b nv6 kn (.cells #[.int .i64 25, .int .i64 v6, .int .i64 (-1), .int .i64 (-1), .int .i64 (-1), .int .i64 0, .string v2.s, .string v4.s] 42 (0, 0)) _ := (Loc.set LC6.out 1 (.int .i64 v6))
 have LC7 := Lib.hid (Loc.kp (show Loc b nv6 kn (.cells #[.int .i64 25, .int .i64 v6, .int .i64 (-1), .int .i64 (-1), .int .i64 (-1), .int .i64 0, .string v2.s, .string v4.s] 42 (0, 0)) _ from zam) hk)
 clear LS
 clear hs hk hm
 clear n0 n1 n2 n3 n4 n5 n6 n7 z0 z1 z2 z3' z5 z6 z7
 go_wp2_with fail
 go_at_call 113
 obtain ⟨r8, h8⟩ := qal HR7.out
 refine (turns_any (show St b lb lo cap nv7 L m7 (N ++ ((((((([] ++ []) ++ ns2) ++ ns3) ++ ns4) ++ ns5) ++ ns6) ++ ns7)) _ from by repeat (first | (with_reducible exact HS7.out) | (with_reducible apply St.alloc) | (with_reducible apply St.more) | (refine St.setLoc ?_ LC7.out HLK.out _ _))) r8 (by rw [List.length_append]; exact h8)).mono ?_
 have HH := Lib.hid h8; clear h8
 try clear c1 f1 hb
 rcases r8 with ⟨e1, e2⟩ | ⟨v8, m8, ns8⟩
 · rintro e w8 ⟨he, nv8, hk⟩
   have HKE := Lib.hid (Kp.trans (show Kp b nv nv7 w _ from by repeat (first | (with_reducible exact HK7.out) | (with_reducible apply Kp.alloc) | (with_reducible apply Kp.more) | (with_reducible refine Kp.setB ?_ 1 _) | (refine Kp.setNew ?_ HKW.out _ _))) hk)
   clear hk
   unfold noV at he
   subst he
   go_wp2_with fail
   have := qak HR7.out HH.out
   subst this
   exact ⟨rfl, PPost.err rfl HKE.out⟩
 rintro e w8 ⟨he, nv8, hs, hk, hm⟩
 unfold intV at he
 subst he
 have HR8 := Lib.hid (qaj HR7.out HH.out)
 have HS8 := Lib.hid (hs.cast (List.append_assoc _ _ _))
 have HM8 := Lib.hid (Nat.le_trans HM7.out hm)
 have HK8 := Lib.hid (Kp.trans (show Kp b nv nv7 w _ from by repeat (first | (with_reducible exact HK7.out) | (with_reducible apply Kp.alloc) | (with_reducible apply Kp.more) | (with_reducible refine Kp.setB ?_ 1 _) | (refine Kp.setNew ?_ HKW.out _ _))) hk)
 have LS : Loc b nv7 kn (.cells #[.int .i64 25, .int .i64 v6, .int .i64 (-1), .int .i64 (-1), .int .i64 (-1), .int .i64 0, .string v2.s, .string v4.s] 42 (0, 0)) _ := LC7.out
 have LC8 := Lib.hid (Loc.kp (show Loc b nv7 kn (.cells #[.int .i64 25, .int .i64 v6, .int .i64 (-1), .int .i64 (-1), .int .i64 (-1), .int .i64 0, .string v2.s, .string v4.s] 42 (0, 0)) _ from zam) hk)
 clear LS
 clear hs hk hm
 obtain ⟨n0, n1, n2, n3, n4, n5, n6, n7, z0, z1, z2, z3', z5, z6, z7, hkl⟩ := LC8.out.node
 go_wp2_with fail
 go_at_call 133
 obtain ⟨r9, h9⟩ := qal HR8.out
 refine (qav (show St b lb lo cap nv8 L m8 (N ++ (((((((([] ++ []) ++ ns2) ++ ns3) ++ ns4) ++ ns5) ++ ns6) ++ ns7) ++ ns8)) _ from by repeat (first | (with_reducible exact HS8.out) | (with_reducible apply St.alloc) | (with_reducible apply St.more) | (refine St.setLoc ?_ LC8.out HLK.out _ _))) _ _ zaq r9 zbo).mono ?_
 have HH := Lib.hid h9; clear h9
 try clear c1 f1 hb
 rcases r9 with ⟨e1, e2⟩ | ⟨v9, m9, ns9⟩
 · rintro e w9 ⟨he, nv9, hk⟩
   have HKE := Lib.hid (Kp.trans (show Kp b nv nv8 w _ from by repeat (first | (with_reducible exact HK8.out) | (with_reducible apply Kp.alloc) | (with_reducible apply Kp.more) | (with_reducible refine Kp.setB ?_ 1 _) | (refine Kp.setNew ?_ HKW.out _ _))) hk)
   clear hk
   unfold noV at he
   subst he
   go_wp2_with fail
   have := qak HR8.out HH.out
   subst this
   exact ⟨rfl, PPost.err rfl HKE.out⟩
 rintro e w9 ⟨he, nv9, hs, hk, hm⟩
 unfold unitV at he
 subst he
 have HR9 := Lib.hid (qaj HR8.out HH.out)
 refine yai ?_; intro HS9
 have HM9 := Lib.hid (Nat.le_trans HM8.out hm)
 have HK9 := Lib.hid (Kp.trans (show Kp b nv nv8 w _ from by repeat (first | (with_reducible exact HK8.out) | (with_reducible apply Kp.alloc) | (with_reducible apply Kp.more) | (with_reducible refine Kp.setB ?_ 1 _) | (refine Kp.setNew ?_ HKW.out _ _))) hk)
 have LS : Loc b nv8 kn (.cells #[.int .i64 25, .int .i64 v6, .int .i64 (-1), .int .i64 (-1), .int .i64 (-1), .int .i64 v8, .string v2.s, .string v4.s] 42 (0, 0)) _ := (Loc.set LC8.out 5 (.int .i64 v8))
 have LC9 := Lib.hid (Loc.kp (show Loc b nv8 kn (.cells #[.int .i64 25, .int .i64 v6, .int .i64 (-1), .int .i64 (-1), .int .i64 (-1), .int .i64 v8, .string v2.s, .string v4.s] 42 (0, 0)) _ from zam) hk)
 clear LS
 clear hs hk hm
 clear n0 n1 n2 n3 n4 n5 n6 n7 z0 z1 z2 z3' z5 z6 z7
 go_wp2_with fail
 go_at_call 114
 obtain ⟨r10, h10⟩ := qal HR9.out
 refine (qbY (show St b lb lo cap nv9 L m9 (N ++ ((((((((([] ++ []) ++ ns2) ++ ns3) ++ ns4) ++ ns5) ++ ns6) ++ ns7) ++ ns8) ++ ns9)) _ from by repeat (first | (with_reducible exact HS9.out) | (with_reducible apply St.alloc) | (with_reducible apply St.more) | (refine St.setLoc ?_ LC9.out HLK.out _ _))) _ _ HB.out r10 (by rw [List.length_append]; exact h10)).mono ?_
 have HH := Lib.hid h10; clear h10
 try clear c1 f1 hb
 rcases r10 with ⟨e1, e2⟩ | ⟨v10, m10, ns10⟩
 · rintro e w10 ⟨he, nv10, hk⟩
   have HKE := Lib.hid (Kp.trans (show Kp b nv nv9 w _ from by repeat (first | (with_reducible exact HK9.out) | (with_reducible apply Kp.alloc) | (with_reducible apply Kp.more) | (with_reducible refine Kp.setB ?_ 1 _) | (refine Kp.setNew ?_ HKW.out _ _))) hk)
   clear hk
   unfold noV at he
   subst he
   go_wp2_with fail
   have := qak HR9.out HH.out
   subst this
   exact ⟨rfl, PPost.err rfl HKE.out⟩
 rintro e w10 ⟨he, nv10, hs, hk, hm⟩
 unfold intV at he
 subst he
 have HR10 := Lib.hid (qaj HR9.out HH.out)
 have HS10 := Lib.hid (hs.cast (List.append_assoc _ _ _))
 have HM10 := Lib.hid (Nat.le_trans HM9.out hm)
 have HK10 := Lib.hid (Kp.trans (show Kp b nv nv9 w _ from by repeat (first | (with_reducible exact HK9.out) | (with_reducible apply Kp.alloc) | (with_reducible apply Kp.more) | (with_reducible refine Kp.setB ?_ 1 _) | (refine Kp.setNew ?_ HKW.out _ _))) hk)
 have LS : Loc b nv9 kn (.cells #[.int .i64 25, .int .i64 v6, .int .i64 (-1), .int .i64 (-1), .int .i64 (-1), .int .i64 v8, .string v2.s, .string v4.s] 42 (0, 0)) _ := LC9.out
 have LC10 := Lib.hid (Loc.kp (show Loc b nv9 kn (.cells #[.int .i64 25, .int .i64 v6, .int .i64 (-1), .int .i64 (-1), .int .i64 (-1), .int .i64 v8, .string v2.s, .string v4.s] 42 (0, 0)) _ from zam) hk)
 clear LS
 clear hs hk hm
 obtain ⟨n0, n1, n2, n3, n4, n5, n6, n7, z0, z1, z2, z3', z5, z6, z7, hkl⟩ := LC10.out.node
 go_wp2_with fail
 go_at_call 115
 obtain ⟨r9, h9⟩ := qar HR10.out
 refine (qaM (show St b lb lo cap nv10 L m10 (N ++ (((((((((([] ++ []) ++ ns2) ++ ns3) ++ ns4) ++ ns5) ++ ns6) ++ ns7) ++ ns8) ++ ns9) ++ ns10)) _ from by repeat (first | (with_reducible exact HS10.out) | (with_reducible apply St.alloc) | (with_reducible apply St.more) | (refine St.setLoc ?_ LC10.out HLK.out _ _))) _ _ _ _ _ _ _ _ r9 zbo).mono ?_
 have HH := Lib.hid h9; clear h9
 rcases r9 with ⟨e1, e2⟩ | ⟨v9, m9, ns9⟩
 · rintro e w9 ⟨he, nv9, hk⟩
   have HKE := Lib.hid (Kp.trans (show Kp b nv nv10 w _ from by repeat (first | (with_reducible exact HK10.out) | (with_reducible apply Kp.alloc) | (with_reducible apply Kp.more) | (with_reducible refine Kp.setB ?_ 1 _) | (refine Kp.setNew ?_ HKW.out _ _))) hk)
   clear hk
   unfold noV at he
   subst he
   go_wp2_with fail
   have := qax HR10.out HH.out
   subst this
   exact ⟨rfl, PPost.err rfl HKE.out⟩
 rintro e w9 ⟨he, nv9, hs, hk, hm⟩
 unfold intV at he
 subst he
 refine yai ?_; intro HS9
 have HM9 := Lib.hid (Nat.le_trans HM10.out hm)
 have HK9 := Lib.hid (Kp.trans (show Kp b nv nv10 w _ from by repeat (first | (with_reducible exact HK10.out) | (with_reducible apply Kp.alloc) | (with_reducible apply Kp.more) | (with_reducible refine Kp.setB ?_ 1 _) | (refine Kp.setNew ?_ HKW.out _ _))) hk)
 clear hs hk hm
 go_wp2_with fail
 go_ret
 have := qaK HR10.out HH.out
 subst this
 exact yar
end Go.Proofs.YtpoeknndkccbaaaGreat
