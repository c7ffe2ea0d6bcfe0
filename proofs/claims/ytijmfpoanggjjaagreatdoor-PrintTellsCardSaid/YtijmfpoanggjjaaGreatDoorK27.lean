/- Lemmas for the claim (texts Rar11, what its proof uses of them). -/
import Derived.Test.YtijmfpoanggjjaaGreatDoorK03
import Derived.Test.YtijmfpoanggjjaaGreatDoorK26
set_option linter.unusedSimpArgs false
set_option linter.unusedVariables false
namespace Go.Proofs.YtijmfpoanggjjaaGreatDoor
open Go.RowKit
attribute [go_sem] more_more Array.size_append
theorem qaq {b lb lo cap : Nat} {nv : Value} {L : Toks} {m : Nat} {N : List Nd} {w : World} {wh : Int} {ee : Int} (hee : ee ≠ 0) (h : Rt b lb lo cap nv L m N ee wh w) (d : Int) : Calls Tryz.prog 126 #[.pointer (some ⟨b, 0, none⟩), .int .i64 d] w fun e w' => e = .returned (.int .i64 (-1)) ∧ Ext w w' := braces_deadw hee h d
theorem qbu {L : Toks} {m n : Nat} (h : (tk L m).1.k = 5) : ofP L 5 m n = .ok ((tk L m).1, m + 1, []) := by unfold ofP; rw [if_pos h]
set_option maxHeartbeats 4000000 in
set_option maxRecDepth 20000 in
theorem rstmt_let {b lb lo cap : Nat} {nv : Value} {L : Toks} {m : Nat} {N : List Nd} {w : World} (h : Rt b lb lo cap nv L m N 0 0 w) (hk5 : (tk L m).1.k = 5) (hs : (tk L m).1.s.toList = [108, 101, 116]) (d : Int) (ex : PM Int) (he : RDp b lb lo cap L 124 d ex) (r : PR Int) (hr : qda L 20 ex m N.length = r) :
  Calls Tryz.prog 113 #[.pointer (some ⟨b, 0, none⟩), .int .i64 d] w (RPost intV isInt b lb lo cap nv L m N w r) := by
 have HE := Lib.hid he
 clear he
 have q_let : ((tk L m).1.s.toList == [108, 101, 116]) = true := by rw [hs]; decide
 have q_set : ((tk L m).1.s.toList == [115, 101, 116]) = false := by rw [hs]; decide
 have q_put : ((tk L m).1.s.toList == [112, 117, 116]) = false := by rw [hs]; decide
 have q_if : ((tk L m).1.s.toList == [105, 102]) = false := by rw [hs]; decide
 have q_for : ((tk L m).1.s.toList == [102, 111, 114]) = false := by rw [hs]; decide
 have q_repeat : ((tk L m).1.s.toList == [114, 101, 112, 101, 97, 116]) = false := by rw [hs]; decide
 have q_delete : ((tk L m).1.s.toList == [100, 101, 108, 101, 116, 101]) = false := by rw [hs]; decide
 have q_abort : ((tk L m).1.s.toList == [97, 98, 111, 114, 116]) = false := by rw [hs]; decide
 have hk5 := hk5
 have HS0 := Lib.hid (h.cast (List.append_nil N).symm)
 have HK0 := Lib.hid (Kp.refl b nv w)
 have HM0 := Lib.hid (Nat.le_refl m)
 have HR0 := Lib.hid (qaz hr)
 unfold qda at HR0
 obtain ⟨ts, hts⟩ : ∃ ts, (tk L m).1.s = ts := ⟨_, rfl⟩
 have HTS := Lib.hid hts
 rw [hts] at q_let
 rw [hts] at q_set
 rw [hts] at q_put
 rw [hts] at q_if
 rw [hts] at q_for
 rw [hts] at q_repeat
 rw [hts] at q_delete
 rw [hts] at q_abort
 clear h hr hs hts
 rw [qbg, qbg] at HR0
 go_enter Tryz.func113, Tryz.ntmps113
 go_wp2_with fail
 go_at_call 121
 have h1 := qbu (n := N.length + ([] : List Nd).length) hk5
 refine (qaT (show Rt b lb lo cap nv L m (N ++ []) 0 0 _ from zbs) 5 zaq _ (Eq.trans (by rw [List.length_append]) h1)).mono ?_
 have HH := Lib.hid h1; clear h1
 rintro e w1 ⟨he, nv1, hs, hk, hm⟩
 dsimp only at he
 unfold tokV at he
 subst he
 have HR1 := Lib.hid (qaf HR0.out (show skipP m _ = .ok ((), m + 1, []) from rfl))
 have HS1 := Lib.hid (hs.cast (List.append_assoc _ _ _))
 have HM1 := Lib.hid (Nat.le_trans HM0.out hm)
 have HK1 := Lib.hid (Kp.trans (show Kp b nv nv w _ from zbe) hk)
 clear hs hk hm
 rw [HTS.out]
 go_wp2_with ((go_at_call 122; (with_reducible refine (qal _ _ _ _).mono ?_); rintro e _ ⟨rfl, d3, os3, rfl⟩))
 go_at_call 121
 obtain ⟨r2, h2⟩ := qaj HR1.out
 have LCN := Lib.hid (Rt.loc (w := more w1 d3 os3) (lb := lb) (lo := lo) (cap := cap) (L := L) (nv := nv1) (show Rt b lb lo cap nv1 L (m + 1) (N ++ ([] ++ [])) 0 0 _ from zao) (.cells #[.int .i64 20, .int .i64 (-1), .int .i64 (-1), .int .i64 (-1), .int .i64 (-1), .int .i64 0, .string ⟨#[]⟩, .string ⟨#[]⟩] 34 (0, 0)))
 refine (qaT (show Rt b lb lo cap nv1 L (m + 1) (N ++ ([] ++ [])) 0 0 _ from zao) 1 zaq r2 zcl).mono ?_
 have HH := Lib.hid h2; clear h2
 rcases r2 with ⟨e1, e2⟩ | ⟨v2, m2, ns2⟩
 · rintro e wE ⟨hc, ⟨v, rfl, kq, aq, sq, iq, rfl⟩, nvE, mE, NE, hsE, hkE⟩
   have HC := Lib.hid hc
   have HSE := Lib.hid hsE
   have HKE := Lib.hid (Kp.trans (show Kp b nv nv1 w _ from zaf) hkE)
   have LCE := Lib.hid (Loc.kp (show Loc b nv1 (more w1 d3 os3).heap.size (.cells #[.int .i64 20, .int .i64 (-1), .int .i64 (-1), .int .i64 (-1), .int .i64 (-1), .int .i64 0, .string ⟨#[]⟩, .string ⟨#[]⟩] 34 (0, 0)) _ from zaz) hkE)
   clear LCN
   obtain ⟨kn, hkn⟩ : ∃ kn, (more w1 d3 os3).heap.size = kn := ⟨_, rfl⟩
   rw [hkn] at LCE
   have HKW : RowKit.Hid (w.heap.size ≤ kn) := Lib.hid zax
   have HLK : RowKit.Hid (lb ≠ kn) := Lib.hid zat
   simp only [more_size, World.size_setCell, World.size_alloc, Array.size_append] at hkn
   rw [hkn]
   clear hkn
   obtain ⟨n0, n1, n2, n3, n4, n5, n6, n7, z0, z1, z2, z3', z5, z6, z7, hkl⟩ := LCE.out.node
   clear hc hsE hkE
   go_wp2_with (first
    | ((go_at_call 125; (with_reducible refine (qad HC.out (show Rt b lb lo cap nvE L mE NE e1 e2 _ from zab) _ _ _ _ _ _ _ _).mono ?_); rintro e _ ⟨rfl, d6, os6, rfl⟩))
    | ((go_at_call 123; (with_reducible refine (qam HC.out (show Rt b lb lo cap nvE L mE NE e1 e2 _ from zab) _ zaq).mono ?_); rintro e _ ⟨rfl, d7, os7, rfl⟩))
    | ((go_at_call 124; (with_reducible refine (qaB HC.out (show Rt b lb lo cap nvE L mE NE e1 e2 _ from zab) _).mono ?_); rintro e _ ⟨rfl, d8, os8, rfl⟩)))
   go_ret
   have := qak HR1.out HH.out
   subst this
   exact RPost.err (nv' := nvE) (m' := mE) (N' := NE) HC.out ⟨_, rfl⟩ zab zai
 rintro e w2 ⟨he, nv2, hs, hk, hm⟩
 dsimp only at he
 unfold tokV at he
 subst he
 have HR2 := Lib.hid (qaf HR1.out HH.out)
 have HS2 := Lib.hid (hs.cast (List.append_assoc _ _ _))
 have HM2 := Lib.hid (Nat.le_trans HM1.out hm)
 have HK2 := Lib.hid (Kp.trans (show Kp b nv nv1 w _ from zaf) hk)
 have LC2 := Lib.hid (Loc.kp (show Loc b nv1 (more w1 d3 os3).heap.size (.cells #[.int .i64 20, .int .i64 (-1), .int .i64 (-1), .int .i64 (-1), .int .i64 (-1), .int .i64 0, .string ⟨#[]⟩, .string ⟨#[]⟩] 34 (0, 0)) _ from zaz) hk)
 clear LCN
 obtain ⟨kn, hkn⟩ : ∃ kn, (more w1 d3 os3).heap.size = kn := ⟨_, rfl⟩
 rw [hkn] at LC2
 have HKW : RowKit.Hid (w.heap.size ≤ kn) := Lib.hid zax
 have HLK : RowKit.Hid (lb ≠ kn) := Lib.hid zat
 simp only [more_size, World.size_setCell, World.size_alloc, Array.size_append] at hkn
 rw [hkn]
 clear hkn
 clear hs hk hm
 obtain ⟨n0, n1, n2, n3, n4, n5, n6, n7, z0, z1, z2, z3', z5, z6, z7, hkl⟩ := LC2.out.node
 go_wp2_with fail
 go_at_call 123
 obtain ⟨r3, h3⟩ := qaj HR2.out
 refine (qao (show Rt b lb lo cap nv2 L m2 (N ++ (([] ++ []) ++ ns2)) 0 0 _ from zcq) _ zaq r3 zda).mono ?_
 have HH := Lib.hid h3; clear h3
 rcases r3 with ⟨e1, e2⟩ | ⟨v3, m3, ns3⟩
 · rintro e wE ⟨hc, ⟨v, rfl, rfl⟩, nvE, mE, NE, hsE, hkE⟩
   have HC := Lib.hid hc
   have HSE := Lib.hid hsE
   have HKE := Lib.hid (Kp.trans (show Kp b nv nv2 w _ from zbq) hkE)
   clear n0 n1 n2 n3 n4 n5 n6 n7 z0 z1 z2 z3' z5 z6 z7
   have LS : Loc b nv2 kn (.cells #[.int .i64 20, .int .i64 (-1), .int .i64 (-1), .int .i64 (-1), .int .i64 (-1), .int .i64 0, .string v2.s, .string ⟨#[]⟩] 34 (0, 0)) _ := (Loc.set LC2.out 6 (.string v2.s))
   have LCE := Lib.hid (Loc.kp (show Loc b nv2 kn (.cells #[.int .i64 20, .int .i64 (-1), .int .i64 (-1), .int .i64 (-1), .int .i64 (-1), .int .i64 0, .string v2.s, .string ⟨#[]⟩] 34 (0, 0)) _ from zag) hkE)
   clear LS
   obtain ⟨n0, n1, n2, n3, n4, n5, n6, n7, z0, z1, z2, z3', z5, z6, z7, hkl⟩ := LCE.out.node
   clear hc hsE hkE
   go_wp2_with (first
    | ((go_at_call 125; (with_reducible refine (qad HC.out (show Rt b lb lo cap nvE L mE NE e1 e2 _ from zab) _ _ _ _ _ _ _ _).mono ?_); rintro e _ ⟨rfl, d6, os6, rfl⟩))
    | ((go_at_call 123; (with_reducible refine (qam HC.out (show Rt b lb lo cap nvE L mE NE e1 e2 _ from zab) _ zaq).mono ?_); rintro e _ ⟨rfl, d7, os7, rfl⟩))
    | ((go_at_call 124; (with_reducible refine (qaB HC.out (show Rt b lb lo cap nvE L mE NE e1 e2 _ from zab) _).mono ?_); rintro e _ ⟨rfl, d8, os8, rfl⟩)))
   go_ret
   have := qak HR2.out HH.out
   subst this
   exact RPost.err (nv' := nvE) (m' := mE) (N' := NE) HC.out ⟨_, rfl⟩ zab zai
 rintro e w3 ⟨he, nv3, hs, hk, hm⟩
 unfold unitV at he
 subst he
 have HR3 := Lib.hid (qaf HR2.out HH.out)
 have HS3 := Lib.hid (hs.cast (List.append_assoc _ _ _))
 have HM3 := Lib.hid (Nat.le_trans HM2.out hm)
 have HK3 := Lib.hid (Kp.trans (show Kp b nv nv2 w _ from zbq) hk)
 clear n0 n1 n2 n3 n4 n5 n6 n7 z0 z1 z2 z3' z5 z6 z7
 have LS : Loc b nv2 kn (.cells #[.int .i64 20, .int .i64 (-1), .int .i64 (-1), .int .i64 (-1), .int .i64 (-1), .int .i64 0, .string v2.s, .string ⟨#[]⟩] 34 (0, 0)) _ := (Loc.set LC2.out 6 (.string v2.s))
 have LC3 := Lib.hid (Loc.kp (show Loc b nv2 kn (.cells #[.int .i64 20, .int .i64 (-1), .int .i64 (-1), .int .i64 (-1), .int .i64 (-1), .int .i64 0, .string v2.s, .string ⟨#[]⟩] 34 (0, 0)) _ from zag) hk)
 clear LS
 clear hs hk hm
 obtain ⟨n0, n1, n2, n3, n4, n5, n6, n7, z0, z1, z2, z3', z5, z6, z7, hkl⟩ := LC3.out.node
 go_wp2_with fail
 go_at_call 124
 obtain ⟨r4, h4⟩ := qaj HR3.out
 refine (HE.out _ _ _ _ (show Rt b lb lo cap nv3 L m3 (N ++ ((([] ++ []) ++ ns2) ++ ns3)) 0 0 _ from zbh) r4 zdh).mono ?_
 have HH := Lib.hid h4; clear h4
 rcases r4 with ⟨e1, e2⟩ | ⟨v4, m4, ns4⟩
 · rintro e wE ⟨hc, ⟨v, rfl, yq, rfl⟩, nvE, mE, NE, hsE, hkE⟩
   have HC := Lib.hid hc
   have HSE := Lib.hid hsE
   have HKE := Lib.hid (Kp.trans (show Kp b nv nv3 w _ from zas) hkE)
   clear n0 n1 n2 n3 n4 n5 n6 n7 z0 z1 z2 z3' z5 z6 z7
   have LS : Loc b nv3 kn (.cells #[.int .i64 20, .int .i64 (-1), .int .i64 (-1), .int .i64 (-1), .int .i64 (-1), .int .i64 0, .string v2.s, .string ⟨#[]⟩] 34 (0, 0)) _ := LC3.out
   have LCE := Lib.hid (Loc.kp (show Loc b nv3 kn (.cells #[.int .i64 20, .int .i64 (-1), .int .i64 (-1), .int .i64 (-1), .int .i64 (-1), .int .i64 0, .string v2.s, .string ⟨#[]⟩] 34 (0, 0)) _ from zag) hkE)
   clear LS
   obtain ⟨n0, n1, n2, n3, n4, n5, n6, n7, z0, z1, z2, z3', z5, z6, z7, hkl⟩ := LCE.out.node
   clear hc hsE hkE
   go_wp2_with (first
    | ((go_at_call 125; (with_reducible refine (qad HC.out (show Rt b lb lo cap nvE L mE NE e1 e2 _ from zab) _ _ _ _ _ _ _ _).mono ?_); rintro e _ ⟨rfl, d6, os6, rfl⟩))
    | ((go_at_call 123; (with_reducible refine (qam HC.out (show Rt b lb lo cap nvE L mE NE e1 e2 _ from zab) _ zaq).mono ?_); rintro e _ ⟨rfl, d7, os7, rfl⟩)))
   go_ret
   have := qak HR3.out HH.out
   subst this
   exact RPost.err (nv' := nvE) (m' := mE) (N' := NE) HC.out ⟨_, rfl⟩ zab zai
 rintro e w4 ⟨he, nv4, hs, hk, hm⟩
 unfold intV at he
 subst he
 have HR4 := Lib.hid (qaf HR3.out HH.out)
 have HS4 := Lib.hid (hs.cast (List.append_assoc _ _ _))
 have HM4 := Lib.hid (Nat.le_trans HM3.out hm)
 have HK4 := Lib.hid (Kp.trans (show Kp b nv nv3 w _ from zas) hk)
 clear n0 n1 n2 n3 n4 n5 n6 n7 z0 z1 z2 z3' z5 z6 z7
 have LS : Loc b nv3 kn (.cells #[.int .i64 20, .int .i64 (-1), .int .i64 (-1), .int .i64 (-1), .int .i64 (-1), .int .i64 0, .string v2.s, .string ⟨#[]⟩] 34 (0, 0)) _ := LC3.out
 have LC4 := Lib.hid (Loc.kp (show Loc b nv3 kn (.cells #[.int .i64 20, .int .i64 (-1), .int .i64 (-1), .int .i64 (-1), .int .i64 (-1), .int .i64 0, .string v2.s, .string ⟨#[]⟩] 34 (0, 0)) _ from zag) hk)
 clear LS
 clear hs hk hm
 obtain ⟨n0, n1, n2, n3, n4, n5, n6, n7, z0, z1, z2, z3', z5, z6, z7, hkl⟩ := LC4.out.node
 go_wp2_with fail
 go_at_call 123
 obtain ⟨r5, h5⟩ := qaj HR4.out
 refine (qao (show Rt b lb lo cap nv4 L m4 (N ++ (((([] ++ []) ++ ns2) ++ ns3) ++ ns4)) 0 0 _ from zcd) _ zaq r5 zdm).mono ?_
 have HH := Lib.hid h5; clear h5
 rcases r5 with ⟨e1, e2⟩ | ⟨v5, m5, ns5⟩
 · rintro e wE ⟨hc, ⟨v, rfl, rfl⟩, nvE, mE, NE, hsE, hkE⟩
   have HC := Lib.hid hc
   have HSE := Lib.hid hsE
   have HKE := Lib.hid (Kp.trans (show Kp b nv nv4 w _ from zbd) hkE)
   clear n0 n1 n2 n3 n4 n5 n6 n7 z0 z1 z2 z3' z5 z6 z7
   have LS : Loc b nv4 kn (.cells #[.int .i64 20, .int .i64 v4, .int .i64 (-1), .int .i64 (-1), .int .i64 (-1), .int .i64 0, .string v2.s, .string ⟨#[]⟩] 34 (0, 0)) _ := (Loc.set LC4.out 1 (.int .i64 v4))
   have LCE := Lib.hid (Loc.kp (show Loc b nv4 kn (.cells #[.int .i64 20, .int .i64 v4, .int .i64 (-1), .int .i64 (-1), .int .i64 (-1), .int .i64 0, .string v2.s, .string ⟨#[]⟩] 34 (0, 0)) _ from zag) hkE)
   clear LS
   obtain ⟨n0, n1, n2, n3, n4, n5, n6, n7, z0, z1, z2, z3', z5, z6, z7, hkl⟩ := LCE.out.node
   clear hc hsE hkE
   go_wp2_with ((go_at_call 125; (with_reducible refine (qad HC.out (show Rt b lb lo cap nvE L mE NE e1 e2 _ from zab) _ _ _ _ _ _ _ _).mono ?_); rintro e _ ⟨rfl, d6, os6, rfl⟩))
   go_ret
   have := qak HR4.out HH.out
   subst this
   exact RPost.err (nv' := nvE) (m' := mE) (N' := NE) HC.out ⟨_, rfl⟩ zab zai
 rintro e w5 ⟨he, nv5, hs, hk, hm⟩
 unfold unitV at he
 subst he
 have HR5 := Lib.hid (qaf HR4.out HH.out)
 have HS5 := Lib.hid (hs.cast (List.append_assoc _ _ _))
 have HM5 := Lib.hid (Nat.le_trans HM4.out hm)
 have HK5 := Lib.hid (Kp.trans (show Kp b nv nv4 w _ from zbd) hk)
 clear n0 n1 n2 n3 n4 n5 n6 n7 z0 z1 z2 z3' z5 z6 z7
 have LS : Loc b nv4 kn (.cells #[.int .i64 20, .int .i64 v4, .int .i64 (-1), .int .i64 (-1), .int .i64 (-1), .int .i64 0, .string v2.s, .string ⟨#[]⟩] 34 (0, 0)) _ := (Loc.set LC4.out 1 (.int .i64 v4))
 have LC5 := Lib.hid (Loc.kp (show Loc b nv4 kn (.cells #[.int .i64 20, .int .i64 v4, .int .i64 (-1), .int .i64 (-1), .int .i64 (-1), .int .i64 0, .string v2.s, .string ⟨#[]⟩] 34 (0, 0)) _ from zag) hk)
 clear LS
 clear hs hk hm
 obtain ⟨n0, n1, n2, n3, n4, n5, n6, n7, z0, z1, z2, z3', z5, z6, z7, hkl⟩ := LC5.out.node
 go_wp2_with fail
 go_at_call 125
 obtain ⟨r6, h6⟩ := qaC HR5.out
 refine (qaw (show Rt b lb lo cap nv5 L m5 (N ++ ((((([] ++ []) ++ ns2) ++ ns3) ++ ns4) ++ ns5)) 0 0 _ from zcr) _ _ _ _ _ _ _ _ r6 (by rw [List.length_append]; exact h6)).mono ?_
 have HH := Lib.hid h6; clear h6
 rcases r6 with ⟨e1, e2⟩ | ⟨v6, m6, ns6⟩
 · rintro e wE ⟨hc, ⟨v, rfl, yq, rfl⟩, nvE, mE, NE, hsE, hkE⟩
   have HC := Lib.hid hc
   have HSE := Lib.hid hsE
   have HKE := Lib.hid (Kp.trans (show Kp b nv nv5 w _ from zbr) hkE)
   clear n0 n1 n2 n3 n4 n5 n6 n7 z0 z1 z2 z3' z5 z6 z7
   have LS : Loc b nv5 kn (.cells #[.int .i64 20, .int .i64 v4, .int .i64 (-1), .int .i64 (-1), .int .i64 (-1), .int .i64 0, .string v2.s, .string ⟨#[]⟩] 34 (0, 0)) _ := LC5.out
   have LCE := Lib.hid (Loc.kp (show Loc b nv5 kn (.cells #[.int .i64 20, .int .i64 v4, .int .i64 (-1), .int .i64 (-1), .int .i64 (-1), .int .i64 0, .string v2.s, .string ⟨#[]⟩] 34 (0, 0)) _ from zag) hkE)
   clear LS
   obtain ⟨n0, n1, n2, n3, n4, n5, n6, n7, z0, z1, z2, z3', z5, z6, z7, hkl⟩ := LCE.out.node
   clear hc hsE hkE
   go_wp2_with fail
   go_ret
   have := qaO HR5.out HH.out
   subst this
   exact RPost.err (nv' := nvE) (m' := mE) (N' := NE) HC.out ⟨_, rfl⟩ zab zai
 rintro e w6 ⟨he, nv6, hs, hk, hm⟩
 unfold intV at he
 subst he
 have HS6 := Lib.hid (hs.cast (List.append_assoc _ _ _))
 have HM6 := Lib.hid (Nat.le_trans HM5.out hm)
 have HK6 := Lib.hid (Kp.trans (show Kp b nv nv5 w _ from zbr) hk)
 clear n0 n1 n2 n3 n4 n5 n6 n7 z0 z1 z2 z3' z5 z6 z7
 have LS : Loc b nv5 kn (.cells #[.int .i64 20, .int .i64 v4, .int .i64 (-1), .int .i64 (-1), .int .i64 (-1), .int .i64 0, .string v2.s, .string ⟨#[]⟩] 34 (0, 0)) _ := LC5.out
 have LC6 := Lib.hid (Loc.kp (show Loc b nv5 kn (.cells #[.int .i64 20, .int .i64 v4, .int .i64 (-1), .int .i64 (-1), .int .i64 (-1), .int .i64 0, .string v2.s, .string ⟨#[]⟩] 34 (0, 0)) _ from zag) hk)
 clear LS
 clear hs hk hm
 go_wp2_with fail
 go_ret
 have := qaX HR5.out HH.out
 subst this
 exact RPost.res rfl HS6.out HK6.out HM6.out
set_option maxHeartbeats 4000000 in
set_option maxRecDepth 20000 in
theorem rstmt_set {b lb lo cap : Nat} {nv : Value} {L : Toks} {m : Nat} {N : List Nd} {w : World} (h : Rt b lb lo cap nv L m N 0 0 w) (hk5 : (tk L m).1.k = 5) (hs : (tk L m).1.s.toList = [115, 101, 116]) (d : Int) (ex : PM Int) (he : RDp b lb lo cap L 124 d ex) (r : PR Int) (hr : qda L 21 ex m N.length = r) :
  Calls Tryz.prog 113 #[.pointer (some ⟨b, 0, none⟩), .int .i64 d] w (RPost intV isInt b lb lo cap nv L m N w r) := by
 have HE := Lib.hid he
 clear he
 have q_let : ((tk L m).1.s.toList == [108, 101, 116]) = false := by rw [hs]; decide
 have q_set : ((tk L m).1.s.toList == [115, 101, 116]) = true := by rw [hs]; decide
 have q_put : ((tk L m).1.s.toList == [112, 117, 116]) = false := by rw [hs]; decide
 have q_if : ((tk L m).1.s.toList == [105, 102]) = false := by rw [hs]; decide
 have q_for : ((tk L m).1.s.toList == [102, 111, 114]) = false := by rw [hs]; decide
 have q_repeat : ((tk L m).1.s.toList == [114, 101, 112, 101, 97, 116]) = false := by rw [hs]; decide
 have q_delete : ((tk L m).1.s.toList == [100, 101, 108, 101, 116, 101]) = false := by rw [hs]; decide
 have q_abort : ((tk L m).1.s.toList == [97, 98, 111, 114, 116]) = false := by rw [hs]; decide
 have hk5 := hk5
 have HS0 := Lib.hid (h.cast (List.append_nil N).symm)
 have HK0 := Lib.hid (Kp.refl b nv w)
 have HM0 := Lib.hid (Nat.le_refl m)
 have HR0 := Lib.hid (qaz hr)
 unfold qda at HR0
 obtain ⟨ts, hts⟩ : ∃ ts, (tk L m).1.s = ts := ⟨_, rfl⟩
 have HTS := Lib.hid hts
 rw [hts] at q_let
 rw [hts] at q_set
 rw [hts] at q_put
 rw [hts] at q_if
 rw [hts] at q_for
 rw [hts] at q_repeat
 rw [hts] at q_delete
 rw [hts] at q_abort
 clear h hr hs hts
 rw [qbg, qbg] at HR0
 go_enter Tryz.func113, Tryz.ntmps113
 go_wp2_with fail
 go_at_call 121
 have h1 := qbu (n := N.length + ([] : List Nd).length) hk5
 refine (qaT (show Rt b lb lo cap nv L m (N ++ []) 0 0 _ from zbs) 5 zaq _ (Eq.trans (by rw [List.length_append]) h1)).mono ?_
 have HH := Lib.hid h1; clear h1
 rintro e w1 ⟨he, nv1, hs, hk, hm⟩
 dsimp only at he
 unfold tokV at he
 subst he
 have HR1 := Lib.hid (qaf HR0.out (show skipP m _ = .ok ((), m + 1, []) from rfl))
 have HS1 := Lib.hid (hs.cast (List.append_assoc _ _ _))
 have HM1 := Lib.hid (Nat.le_trans HM0.out hm)
 have HK1 := Lib.hid (Kp.trans (show Kp b nv nv w _ from zbe) hk)
 clear hs hk hm
 rw [HTS.out]
 go_wp2_with ((go_at_call 122; (with_reducible refine (qal _ _ _ _).mono ?_); rintro e _ ⟨rfl, d3, os3, rfl⟩))
 go_at_call 121
 obtain ⟨r2, h2⟩ := qaj HR1.out
 have LCN := Lib.hid (Rt.loc (w := more w1 d3 os3) (lb := lb) (lo := lo) (cap := cap) (L := L) (nv := nv1) (show Rt b lb lo cap nv1 L (m + 1) (N ++ ([] ++ [])) 0 0 _ from zao) (.cells #[.int .i64 21, .int .i64 (-1), .int .i64 (-1), .int .i64 (-1), .int .i64 (-1), .int .i64 0, .string ⟨#[]⟩, .string ⟨#[]⟩] 34 (0, 0)))
 refine (qaT (show Rt b lb lo cap nv1 L (m + 1) (N ++ ([] ++ [])) 0 0 _ from zao) 1 zaq r2 zcl).mono ?_
 have HH := Lib.hid h2; clear h2
 rcases r2 with ⟨e1, e2⟩ | ⟨v2, m2, ns2⟩
 · rintro e wE ⟨hc, ⟨v, rfl, kq, aq, sq, iq, rfl⟩, nvE, mE, NE, hsE, hkE⟩
   have HC := Lib.hid hc
   have HSE := Lib.hid hsE
   have HKE := Lib.hid (Kp.trans (show Kp b nv nv1 w _ from zaf) hkE)
   have LCE := Lib.hid (Loc.kp (show Loc b nv1 (more w1 d3 os3).heap.size (.cells #[.int .i64 21, .int .i64 (-1), .int .i64 (-1), .int .i64 (-1), .int .i64 (-1), .int .i64 0, .string ⟨#[]⟩, .string ⟨#[]⟩] 34 (0, 0)) _ from zaz) hkE)
   clear LCN
   obtain ⟨kn, hkn⟩ : ∃ kn, (more w1 d3 os3).heap.size = kn := ⟨_, rfl⟩
   rw [hkn] at LCE
   have HKW : RowKit.Hid (w.heap.size ≤ kn) := Lib.hid zax
   have HLK : RowKit.Hid (lb ≠ kn) := Lib.hid zat
   simp only [more_size, World.size_setCell, World.size_alloc, Array.size_append] at hkn
   rw [hkn]
   clear hkn
   obtain ⟨n0, n1, n2, n3, n4, n5, n6, n7, z0, z1, z2, z3', z5, z6, z7, hkl⟩ := LCE.out.node
   clear hc hsE hkE
   go_wp2_with (first
    | ((go_at_call 125; (with_reducible refine (qad HC.out (show Rt b lb lo cap nvE L mE NE e1 e2 _ from zab) _ _ _ _ _ _ _ _).mono ?_); rintro e _ ⟨rfl, d6, os6, rfl⟩))
    | ((go_at_call 123; (with_reducible refine (qam HC.out (show Rt b lb lo cap nvE L mE NE e1 e2 _ from zab) _ zaq).mono ?_); rintro e _ ⟨rfl, d7, os7, rfl⟩))
    | ((go_at_call 124; (with_reducible refine (qaB HC.out (show Rt b lb lo cap nvE L mE NE e1 e2 _ from zab) _).mono ?_); rintro e _ ⟨rfl, d8, os8, rfl⟩)))
   go_ret
   have := qak HR1.out HH.out
   subst this
   exact RPost.err (nv' := nvE) (m' := mE) (N' := NE) HC.out ⟨_, rfl⟩ zab zai
 rintro e w2 ⟨he, nv2, hs, hk, hm⟩
 dsimp only at he
 unfold tokV at he
 subst he
 have HR2 := Lib.hid (qaf HR1.out HH.out)
 have HS2 := Lib.hid (hs.cast (List.append_assoc _ _ _))
 have HM2 := Lib.hid (Nat.le_trans HM1.out hm)
 have HK2 := Lib.hid (Kp.trans (show Kp b nv nv1 w _ from zaf) hk)
 have LC2 := Lib.hid (Loc.kp (show Loc b nv1 (more w1 d3 os3).heap.size (.cells #[.int .i64 21, .int .i64 (-1), .int .i64 (-1), .int .i64 (-1), .int .i64 (-1), .int .i64 0, .string ⟨#[]⟩, .string ⟨#[]⟩] 34 (0, 0)) _ from zaz) hk)
 clear LCN
 obtain ⟨kn, hkn⟩ : ∃ kn, (more w1 d3 os3).heap.size = kn := ⟨_, rfl⟩
 rw [hkn] at LC2
 have HKW : RowKit.Hid (w.heap.size ≤ kn) := Lib.hid zax
 have HLK : RowKit.Hid (lb ≠ kn) := Lib.hid zat
 simp only [more_size, World.size_setCell, World.size_alloc, Array.size_append] at hkn
 rw [hkn]
 clear hkn
 clear hs hk hm
 obtain ⟨n0, n1, n2, n3, n4, n5, n6, n7, z0, z1, z2, z3', z5, z6, z7, hkl⟩ := LC2.out.node
 go_wp2_with fail
 go_at_call 123
 obtain ⟨r3, h3⟩ := qaj HR2.out
 refine (qao (show Rt b lb lo cap nv2 L m2 (N ++ (([] ++ []) ++ ns2)) 0 0 _ from zcq) _ zaq r3 zda).mono ?_
 have HH := Lib.hid h3; clear h3
 rcases r3 with ⟨e1, e2⟩ | ⟨v3, m3, ns3⟩
 · rintro e wE ⟨hc, ⟨v, rfl, rfl⟩, nvE, mE, NE, hsE, hkE⟩
   have HC := Lib.hid hc
   have HSE := Lib.hid hsE
   have HKE := Lib.hid (Kp.trans (show Kp b nv nv2 w _ from zbq) hkE)
   clear n0 n1 n2 n3 n4 n5 n6 n7 z0 z1 z2 z3' z5 z6 z7
   have LS : Loc b nv2 kn (.cells #[.int .i64 21, .int .i64 (-1), .int .i64 (-1), .int .i64 (-1), .int .i64 (-1), .int .i64 0, .string v2.s, .string ⟨#[]⟩] 34 (0, 0)) _ := (Loc.set LC2.out 6 (.string v2.s))
   have LCE := Lib.hid (Loc.kp (show Loc b nv2 kn (.cells #[.int .i64 21, .int .i64 (-1), .int .i64 (-1), .int .i64 (-1), .int .i64 (-1), .int .i64 0, .string v2.s, .string ⟨#[]⟩] 34 (0, 0)) _ from zag) hkE)
   clear LS
   obtain ⟨n0, n1, n2, n3, n4, n5, n6, n7, z0, z1, z2, z3', z5, z6, z7, hkl⟩ := LCE.out.node
   clear hc hsE hkE
   go_wp2_with (first
    | ((go_at_call 125; (with_reducible refine (qad HC.out (show Rt b lb lo cap nvE L mE NE e1 e2 _ from zab) _ _ _ _ _ _ _ _).mono ?_); rintro e _ ⟨rfl, d6, os6, rfl⟩))
    | ((go_at_call 123; (with_reducible refine (qam HC.out (show Rt b lb lo cap nvE L mE NE e1 e2 _ from zab) _ zaq).mono ?_); rintro e _ ⟨rfl, d7, os7, rfl⟩))
    | ((go_at_call 124; (with_reducible refine (qaB HC.out (show Rt b lb lo cap nvE L mE NE e1 e2 _ from zab) _).mono ?_); rintro e _ ⟨rfl, d8, os8, rfl⟩)))
   go_ret
   have := qak HR2.out HH.out
   subst this
   exact RPost.err (nv' := nvE) (m' := mE) (N' := NE) HC.out ⟨_, rfl⟩ zab zai
 rintro e w3 ⟨he, nv3, hs, hk, hm⟩
 unfold unitV at he
 subst he
 have HR3 := Lib.hid (qaf HR2.out HH.out)
 have HS3 := Lib.hid (hs.cast (List.append_assoc _ _ _))
 have HM3 := Lib.hid (Nat.le_trans HM2.out hm)
 have HK3 := Lib.hid (Kp.trans (show Kp b nv nv2 w _ from zbq) hk)
 clear n0 n1 n2 n3 n4 n5 n6 n7 z0 z1 z2 z3' z5 z6 z7
 have LS : Loc b nv2 kn (.cells #[.int .i64 21, .int .i64 (-1), .int .i64 (-1), .int .i64 (-1), .int .i64 (-1), .int .i64 0, .string v2.s, .string ⟨#[]⟩] 34 (0, 0)) _ := (Loc.set LC2.out 6 (.string v2.s))
 have LC3 := Lib.hid (Loc.kp (show Loc b nv2 kn (.cells #[.int .i64 21, .int .i64 (-1), .int .i64 (-1), .int .i64 (-1), .int .i64 (-1), .int .i64 0, .string v2.s, .string ⟨#[]⟩] 34 (0, 0)) _ from zag) hk)
 clear LS
 clear hs hk hm
 obtain ⟨n0, n1, n2, n3, n4, n5, n6, n7, z0, z1, z2, z3', z5, z6, z7, hkl⟩ := LC3.out.node
 go_wp2_with fail
 go_at_call 124
 obtain ⟨r4, h4⟩ := qaj HR3.out
 refine (HE.out _ _ _ _ (show Rt b lb lo cap nv3 L m3 (N ++ ((([] ++ []) ++ ns2) ++ ns3)) 0 0 _ from zbh) r4 zdh).mono ?_
 have HH := Lib.hid h4; clear h4
 rcases r4 with ⟨e1, e2⟩ | ⟨v4, m4, ns4⟩
 · rintro e wE ⟨hc, ⟨v, rfl, yq, rfl⟩, nvE, mE, NE, hsE, hkE⟩
   have HC := Lib.hid hc
   have HSE := Lib.hid hsE
   have HKE := Lib.hid (Kp.trans (show Kp b nv nv3 w _ from zas) hkE)
   clear n0 n1 n2 n3 n4 n5 n6 n7 z0 z1 z2 z3' z5 z6 z7
   have LS : Loc b nv3 kn (.cells #[.int .i64 21, .int .i64 (-1), .int .i64 (-1), .int .i64 (-1), .int .i64 (-1), .int .i64 0, .string v2.s, .string ⟨#[]⟩] 34 (0, 0)) _ := LC3.out
   have LCE := Lib.hid (Loc.kp (show Loc b nv3 kn (.cells #[.int .i64 21, .int .i64 (-1), .int .i64 (-1), .int .i64 (-1), .int .i64 (-1), .int .i64 0, .string v2.s, .string ⟨#[]⟩] 34 (0, 0)) _ from zag) hkE)
   clear LS
   obtain ⟨n0, n1, n2, n3, n4, n5, n6, n7, z0, z1, z2, z3', z5, z6, z7, hkl⟩ := LCE.out.node
   clear hc hsE hkE
   go_wp2_with (first
    | ((go_at_call 125; (with_reducible refine (qad HC.out (show Rt b lb lo cap nvE L mE NE e1 e2 _ from zab) _ _ _ _ _ _ _ _).mono ?_); rintro e _ ⟨rfl, d6, os6, rfl⟩))
    | ((go_at_call 123; (with_reducible refine (qam HC.out (show Rt b lb lo cap nvE L mE NE e1 e2 _ from zab) _ zaq).mono ?_); rintro e _ ⟨rfl, d7, os7, rfl⟩)))
   go_ret
   have := qak HR3.out HH.out
   subst this
   exact RPost.err (nv' := nvE) (m' := mE) (N' := NE) HC.out ⟨_, rfl⟩ zab zai
 rintro e w4 ⟨he, nv4, hs, hk, hm⟩
 unfold intV at he
 subst he
 have HR4 := Lib.hid (qaf HR3.out HH.out)
 have HS4 := Lib.hid (hs.cast (List.append_assoc _ _ _))
 have HM4 := Lib.hid (Nat.le_trans HM3.out hm)
 have HK4 := Lib.hid (Kp.trans (show Kp b nv nv3 w _ from zas) hk)
 clear n0 n1 n2 n3 n4 n5 n6 n7 z0 z1 z2 z3' z5 z6 z7
 have LS : Loc b nv3 kn (.cells #[.int .i64 21, .int .i64 (-1), .int .i64 (-1), .int .i64 (-1), .int .i64 (-1), .int .i64 0, .string v2.s, .string ⟨#[]⟩] 34 (0, 0)) _ := LC3.out
 have LC4 := Lib.hid (Loc.kp (show Loc b nv3 kn (.cells #[.int .i64 21, .int .i64 (-1), .int .i64 (-1), .int .i64 (-1), .int .i64 (-1), .int .i64 0, .string v2.s, .string ⟨#[]⟩] 34 (0, 0)) _ from zag) hk)
 clear LS
 clear hs hk hm
 obtain ⟨n0, n1, n2, n3, n4, n5, n6, n7, z0, z1, z2, z3', z5, z6, z7, hkl⟩ := LC4.out.node
 go_wp2_with fail
 go_at_call 123
 obtain ⟨r5, h5⟩ := qaj HR4.out
 refine (qao (show Rt b lb lo cap nv4 L m4 (N ++ (((([] ++ []) ++ ns2) ++ ns3) ++ ns4)) 0 0 _ from zcd) _ zaq r5 zdm).mono ?_
 have HH := Lib.hid h5; clear h5
 rcases r5 with ⟨e1, e2⟩ | ⟨v5, m5, ns5⟩
 · rintro e wE ⟨hc, ⟨v, rfl, rfl⟩, nvE, mE, NE, hsE, hkE⟩
   have HC := Lib.hid hc
   have HSE := Lib.hid hsE
   have HKE := Lib.hid (Kp.trans (show Kp b nv nv4 w _ from zbd) hkE)
   clear n0 n1 n2 n3 n4 n5 n6 n7 z0 z1 z2 z3' z5 z6 z7
   have LS : Loc b nv4 kn (.cells #[.int .i64 21, .int .i64 v4, .int .i64 (-1), .int .i64 (-1), .int .i64 (-1), .int .i64 0, .string v2.s, .string ⟨#[]⟩] 34 (0, 0)) _ := (Loc.set LC4.out 1 (.int .i64 v4))
   have LCE := Lib.hid (Loc.kp (show Loc b nv4 kn (.cells #[.int .i64 21, .int .i64 v4, .int .i64 (-1), .int .i64 (-1), .int .i64 (-1), .int .i64 0, .string v2.s, .string ⟨#[]⟩] 34 (0, 0)) _ from zag) hkE)
   clear LS
   obtain ⟨n0, n1, n2, n3, n4, n5, n6, n7, z0, z1, z2, z3', z5, z6, z7, hkl⟩ := LCE.out.node
   clear hc hsE hkE
   go_wp2_with ((go_at_call 125; (with_reducible refine (qad HC.out (show Rt b lb lo cap nvE L mE NE e1 e2 _ from zab) _ _ _ _ _ _ _ _).mono ?_); rintro e _ ⟨rfl, d6, os6, rfl⟩))
   go_ret
   have := qak HR4.out HH.out
   subst this
   exact RPost.err (nv' := nvE) (m' := mE) (N' := NE) HC.out ⟨_, rfl⟩ zab zai
 rintro e w5 ⟨he, nv5, hs, hk, hm⟩
 unfold unitV at he
 subst he
 have HR5 := Lib.hid (qaf HR4.out HH.out)
 have HS5 := Lib.hid (hs.cast (List.append_assoc _ _ _))
 have HM5 := Lib.hid (Nat.le_trans HM4.out hm)
 have HK5 := Lib.hid (Kp.trans (show Kp b nv nv4 w _ from zbd) hk)
 clear n0 n1 n2 n3 n4 n5 n6 n7 z0 z1 z2 z3' z5 z6 z7
 have LS : Loc b nv4 kn (.cells #[.int .i64 21, .int .i64 v4, .int .i64 (-1), .int .i64 (-1), .int .i64 (-1), .int .i64 0, .string v2.s, .string ⟨#[]⟩] 34 (0, 0)) _ := (Loc.set LC4.out 1 (.int .i64 v4))
 have LC5 := Lib.hid (Loc.kp (show Loc b nv4 kn (.cells #[.int .i64 21, .int .i64 v4, .int .i64 (-1), .int .i64 (-1), .int .i64 (-1), .int .i64 0, .string v2.s, .string ⟨#[]⟩] 34 (0, 0)) _ from zag) hk)
 clear LS
 clear hs hk hm
 obtain ⟨n0, n1, n2, n3, n4, n5, n6, n7, z0, z1, z2, z3', z5, z6, z7, hkl⟩ := LC5.out.node
 go_wp2_with fail
 go_at_call 125
 obtain ⟨r6, h6⟩ := qaC HR5.out
 refine (qaw (show Rt b lb lo cap nv5 L m5 (N ++ ((((([] ++ []) ++ ns2) ++ ns3) ++ ns4) ++ ns5)) 0 0 _ from zcr) _ _ _ _ _ _ _ _ r6 (by rw [List.length_append]; exact h6)).mono ?_
 have HH := Lib.hid h6; clear h6
 rcases r6 with ⟨e1, e2⟩ | ⟨v6, m6, ns6⟩
 · rintro e wE ⟨hc, ⟨v, rfl, yq, rfl⟩, nvE, mE, NE, hsE, hkE⟩
   have HC := Lib.hid hc
   have HSE := Lib.hid hsE
   have HKE := Lib.hid (Kp.trans (show Kp b nv nv5 w _ from zbr) hkE)
   clear n0 n1 n2 n3 n4 n5 n6 n7 z0 z1 z2 z3' z5 z6 z7
   have LS : Loc b nv5 kn (.cells #[.int .i64 21, .int .i64 v4, .int .i64 (-1), .int .i64 (-1), .int .i64 (-1), .int .i64 0, .string v2.s, .string ⟨#[]⟩] 34 (0, 0)) _ := LC5.out
   have LCE := Lib.hid (Loc.kp (show Loc b nv5 kn (.cells #[.int .i64 21, .int .i64 v4, .int .i64 (-1), .int .i64 (-1), .int .i64 (-1), .int .i64 0, .string v2.s, .string ⟨#[]⟩] 34 (0, 0)) _ from zag) hkE)
   clear LS
   obtain ⟨n0, n1, n2, n3, n4, n5, n6, n7, z0, z1, z2, z3', z5, z6, z7, hkl⟩ := LCE.out.node
   clear hc hsE hkE
   go_wp2_with fail
   go_ret
   have := qaO HR5.out HH.out
   subst this
   exact RPost.err (nv' := nvE) (m' := mE) (N' := NE) HC.out ⟨_, rfl⟩ zab zai
 rintro e w6 ⟨he, nv6, hs, hk, hm⟩
 unfold intV at he
 subst he
 have HS6 := Lib.hid (hs.cast (List.append_assoc _ _ _))
 have HM6 := Lib.hid (Nat.le_trans HM5.out hm)
 have HK6 := Lib.hid (Kp.trans (show Kp b nv nv5 w _ from zbr) hk)
 clear n0 n1 n2 n3 n4 n5 n6 n7 z0 z1 z2 z3' z5 z6 z7
 have LS : Loc b nv5 kn (.cells #[.int .i64 21, .int .i64 v4, .int .i64 (-1), .int .i64 (-1), .int .i64 (-1), .int .i64 0, .string v2.s, .string ⟨#[]⟩] 34 (0, 0)) _ := LC5.out
 have LC6 := Lib.hid (Loc.kp (show Loc b nv5 kn (.cells #[.int .i64 21, .int .i64 v4, .int .i64 (-1), .int .i64 (-1), .int .i64 (-1), .int .i64 0, .string v2.s, .string ⟨#[]⟩] 34 (0, 0)) _ from zag) hk)
 clear LS
 clear hs hk hm
 go_wp2_with fail
 go_ret
 have := qaX HR5.out HH.out
 subst this
 exact RPost.res rfl HS6.out HK6.out HM6.out
theorem rtake_any {b lb lo cap : Nat} {nv : Value} {L : Toks} {m : Nat} {N : List Nd} {w : World} (h : Rt b lb lo cap nv L m N 0 0 w) (s : ByteArray) (hs : (s.size : Int) ≤ 100) (r : PR Bool) (hr : takesP L s m N.length = r) :
  Calls Tryz.prog 127 #[.pointer (some ⟨b, 0, none⟩), .string s] w (RPost (fun x => .bool x) (fun v => v = .bool false) b lb lo cap nv L m N w r) := by
 unfold takesP at hr
 cases hp : isP L s m
 · rw [hp, if_neg zbt] at hr
   subst hr
   exact (qat h s hs hp).mono fun e w' ⟨he, hx⟩ => RPost.res he ((h.ext hx).cast (List.append_nil N).symm) ((Kp.refl b nv w).ext hx) (Nat.le_refl _)
 · rw [hp, if_pos rfl] at hr
   subst hr
   exact (qbn h s hs hp).mono fun e w' ⟨he, hs, hk⟩ => RPost.res he (hs.cast (List.append_nil N).symm) hk (Nat.le_succ _)
theorem must3_bind {α : Type} (L : Toks) (a b c : ByteArray) (f : Unit → PM α) : pbind (mustP L [a, b, c]) f = pbind (must1 L a) fun _ => pbind (must1 L b) fun _ => pbind (must1 L c) f := by
 funext m n
 have pe : ∀ {s : ByteArray} {m n : Nat}, isP L s m = false → must1 L s m n = .error (3, (tk L m).2) := fun h => by unfold must1; rw [h]; rfl
 have po : ∀ {s : ByteArray} {m n : Nat}, isP L s m = true → must1 L s m n = .ok ((), m + 1, []) := fun h => by unfold must1; rw [h]; rfl
 cases h1 : isP L a m
 · rw [qaH (qcU h1), qaH (pe h1)]
 · rw [qaG (po h1), qbm]
   dsimp only [List.length_nil, Nat.add_zero]
   cases h2 : isP L b (m + 1)
   · rw [qaH ((qbD h1).trans (qcU h2)), qaH (pe h2)]
   · rw [qaG (po h2), qbm]
     dsimp only [List.length_nil, Nat.add_zero]
     cases h3 : isP L c (m + 1 + 1)
     · rw [qaH (((qbD h1).trans (qbD h2)).trans (qcU h3)), qaH (pe h3)]
     · rw [qaG (((qbD h1).trans (qbD h2)).trans (must1_yes h3)), qaG (po h3)]
set_option maxHeartbeats 4000000 in
set_option maxRecDepth 20000 in
theorem rstmt_put {b lb lo cap : Nat} {nv : Value} {L : Toks} {m : Nat} {N : List Nd} {w : World} (h : Rt b lb lo cap nv L m N 0 0 w) (hk5 : (tk L m).1.k = 5) (hs : (tk L m).1.s.toList = [112, 117, 116]) (d : Nat) (hd : d ≤ 16) (ex : PM Int) (he : RDp b lb lo cap L 124 (d : Int) ex) (r : PR Int) (hr : putP L ex m N.length = r) :
  Calls Tryz.prog 113 #[.pointer (some ⟨b, 0, none⟩), .int .i64 (d : Int)] w (RPost intV isInt b lb lo cap nv L m N w r) := by
 have hd0 : 0 ≤ (d : Int) := by omega
 have hd1 : (d : Int) ≤ 16 := by omega
 have HE := Lib.hid he
 clear he
 have q_let : ((tk L m).1.s.toList == [108, 101, 116]) = false := by rw [hs]; decide
 have q_set : ((tk L m).1.s.toList == [115, 101, 116]) = false := by rw [hs]; decide
 have q_put : ((tk L m).1.s.toList == [112, 117, 116]) = true := by rw [hs]; decide
 have q_if : ((tk L m).1.s.toList == [105, 102]) = false := by rw [hs]; decide
 have q_for : ((tk L m).1.s.toList == [102, 111, 114]) = false := by rw [hs]; decide
 have q_repeat : ((tk L m).1.s.toList == [114, 101, 112, 101, 97, 116]) = false := by rw [hs]; decide
 have q_delete : ((tk L m).1.s.toList == [100, 101, 108, 101, 116, 101]) = false := by rw [hs]; decide
 have q_abort : ((tk L m).1.s.toList == [97, 98, 111, 114, 116]) = false := by rw [hs]; decide
 have hk5 := hk5
 have HS0 := Lib.hid (h.cast (List.append_nil N).symm)
 have HK0 := Lib.hid (Kp.refl b nv w)
 have HM0 := Lib.hid (Nat.le_refl m)
 have HR0 := Lib.hid (qaz hr)
 unfold putP at HR0
 obtain ⟨ts, hts⟩ : ∃ ts, (tk L m).1.s = ts := ⟨_, rfl⟩
 have HTS := Lib.hid hts
 rw [hts] at q_let
 rw [hts] at q_set
 rw [hts] at q_put
 rw [hts] at q_if
 rw [hts] at q_for
 rw [hts] at q_repeat
 rw [hts] at q_delete
 rw [hts] at q_abort
 clear h hr hs hts
 rw [qbg, qbg] at HR0
 go_enter Tryz.func113, Tryz.ntmps113
 go_wp2_with fail
 go_at_call 121
 have h1 := qbu (n := N.length + ([] : List Nd).length) hk5
 refine (qaT (show Rt b lb lo cap nv L m (N ++ []) 0 0 _ from zbs) 5 zaq _ (Eq.trans (by rw [List.length_append]) h1)).mono ?_
 have HH := Lib.hid h1; clear h1
 rintro e w1 ⟨he, nv1, hs, hk, hm⟩
 dsimp only at he
 unfold tokV at he
 subst he
 have HR1 := Lib.hid (qaf HR0.out (show skipP m _ = .ok ((), m + 1, []) from rfl))
 have HS1 := Lib.hid (hs.cast (List.append_assoc _ _ _))
 have HM1 := Lib.hid (Nat.le_trans HM0.out hm)
 have HK1 := Lib.hid (Kp.trans (show Kp b nv nv w _ from zbe) hk)
 clear hs hk hm
 rw [HTS.out]
 go_wp2_with fail
 go_at_call 124
 obtain ⟨r2, h2⟩ := qaj HR1.out
 refine (HE.out _ _ _ _ (show Rt b lb lo cap nv1 L (m + 1) (N ++ ([] ++ [])) 0 0 _ from zao) r2 zcl).mono ?_
 have HH := Lib.hid h2; clear h2
 rcases r2 with ⟨e1, e2⟩ | ⟨v2, m2, ns2⟩
 · rintro e wE ⟨hc, ⟨v, rfl, yq, rfl⟩, nvE, mE, NE, hsE, hkE⟩
   have HC := Lib.hid hc
   have HSE := Lib.hid hsE
   have HKE := Lib.hid (Kp.trans (show Kp b nv nv1 w _ from zaf) hkE)
   clear hc hsE hkE
   go_wp2_with (first
    | ((go_at_call 125; (with_reducible refine (qad HC.out (show Rt b lb lo cap nvE L mE NE e1 e2 _ from zae) _ _ _ _ _ _ _ _).mono ?_); rintro e _ ⟨rfl, d6, os6, rfl⟩))
    | ((go_at_call 123; (with_reducible refine (qam HC.out (show Rt b lb lo cap nvE L mE NE e1 e2 _ from zae) _ zaq).mono ?_); rintro e _ ⟨rfl, d7, os7, rfl⟩))
    | ((go_at_call 124; (with_reducible refine (qaB HC.out (show Rt b lb lo cap nvE L mE NE e1 e2 _ from zae) _).mono ?_); rintro e _ ⟨rfl, d8, os8, rfl⟩))
    | ((go_at_call 122; (with_reducible refine (qal _ _ _ _).mono ?_); rintro e _ ⟨rfl, d3, os3, rfl⟩)))
   go_ret
   have := qak HR1.out HH.out
   subst this
   exact RPost.err (nv' := nvE) (m' := mE) (N' := NE) HC.out ⟨_, rfl⟩ zae zak
 rintro e w2 ⟨he, nv2, hs, hk, hm⟩
 unfold intV at he
 subst he
 have HR2 := Lib.hid (qaf HR1.out HH.out)
 have HS2 := Lib.hid (hs.cast (List.append_assoc _ _ _))
 have HM2 := Lib.hid (Nat.le_trans HM1.out hm)
 have HK2 := Lib.hid (Kp.trans (show Kp b nv nv1 w _ from zaf) hk)
 clear hs hk hm
 go_wp2_with fail
 go_at_call 123
 obtain ⟨r3, h3⟩ := qaj HR2.out
 refine (qao (show Rt b lb lo cap nv2 L m2 (N ++ (([] ++ []) ++ ns2)) 0 0 _ from zaw) _ zaq r3 zda).mono ?_
 have HH := Lib.hid h3; clear h3
 rcases r3 with ⟨e1, e2⟩ | ⟨v3, m3, ns3⟩
 · rintro e wE ⟨hc, ⟨v, rfl, rfl⟩, nvE, mE, NE, hsE, hkE⟩
   have HC := Lib.hid hc
   have HSE := Lib.hid hsE
   have HKE := Lib.hid (Kp.trans (show Kp b nv nv2 w _ from zaj) hkE)
   clear hc hsE hkE
   go_wp2_with (first
    | ((go_at_call 125; (with_reducible refine (qad HC.out (show Rt b lb lo cap nvE L mE NE e1 e2 _ from zae) _ _ _ _ _ _ _ _).mono ?_); rintro e _ ⟨rfl, d6, os6, rfl⟩))
    | ((go_at_call 123; (with_reducible refine (qam HC.out (show Rt b lb lo cap nvE L mE NE e1 e2 _ from zae) _ zaq).mono ?_); rintro e _ ⟨rfl, d7, os7, rfl⟩))
    | ((go_at_call 124; (with_reducible refine (qaB HC.out (show Rt b lb lo cap nvE L mE NE e1 e2 _ from zae) _).mono ?_); rintro e _ ⟨rfl, d8, os8, rfl⟩))
    | ((go_at_call 122; (with_reducible refine (qal _ _ _ _).mono ?_); rintro e _ ⟨rfl, d3, os3, rfl⟩)))
   go_ret
   have := qak HR2.out HH.out
   subst this
   exact RPost.err (nv' := nvE) (m' := mE) (N' := NE) HC.out ⟨_, rfl⟩ zae zak
 rintro e w3 ⟨he, nv3, hs, hk, hm⟩
 unfold unitV at he
 subst he
 have HR3 := Lib.hid (qaf HR2.out HH.out)
 have HS3 := Lib.hid (hs.cast (List.append_assoc _ _ _))
 have HM3 := Lib.hid (Nat.le_trans HM2.out hm)
 have HK3 := Lib.hid (Kp.trans (show Kp b nv nv2 w _ from zaj) hk)
 clear hs hk hm
 go_wp2_with fail
 go_at_call 124
 obtain ⟨r4, h4⟩ := qaj HR3.out
 refine (HE.out _ _ _ _ (show Rt b lb lo cap nv3 L m3 (N ++ ((([] ++ []) ++ ns2) ++ ns3)) 0 0 _ from zch) r4 zdh).mono ?_
 have HH := Lib.hid h4; clear h4
 rcases r4 with ⟨e1, e2⟩ | ⟨v4, m4, ns4⟩
 · rintro e wE ⟨hc, ⟨v, rfl, yq, rfl⟩, nvE, mE, NE, hsE, hkE⟩
   have HC := Lib.hid hc
   have HSE := Lib.hid hsE
   have HKE := Lib.hid (Kp.trans (show Kp b nv nv3 w _ from zbc) hkE)
   clear hc hsE hkE
   go_wp2_with (first
    | ((go_at_call 125; (with_reducible refine (qad HC.out (show Rt b lb lo cap nvE L mE NE e1 e2 _ from zae) _ _ _ _ _ _ _ _).mono ?_); rintro e _ ⟨rfl, d6, os6, rfl⟩))
    | ((go_at_call 123; (with_reducible refine (qam HC.out (show Rt b lb lo cap nvE L mE NE e1 e2 _ from zae) _ zaq).mono ?_); rintro e _ ⟨rfl, d7, os7, rfl⟩))
    | ((go_at_call 122; (with_reducible refine (qal _ _ _ _).mono ?_); rintro e _ ⟨rfl, d3, os3, rfl⟩)))
   go_ret
   have := qak HR3.out HH.out
   subst this
   exact RPost.err (nv' := nvE) (m' := mE) (N' := NE) HC.out ⟨_, rfl⟩ zae zak
 rintro e w4 ⟨he, nv4, hs, hk, hm⟩
 unfold intV at he
 subst he
 have HR4 := Lib.hid (qaf HR3.out HH.out)
 have HS4 := Lib.hid (hs.cast (List.append_assoc _ _ _))
 have HM4 := Lib.hid (Nat.le_trans HM3.out hm)
 have HK4 := Lib.hid (Kp.trans (show Kp b nv nv3 w _ from zbc) hk)
 clear hs hk hm
 go_wp2_with fail
 go_at_call 123
 obtain ⟨r5, h5⟩ := qaj HR4.out
 refine (qao (show Rt b lb lo cap nv4 L m4 (N ++ (((([] ++ []) ++ ns2) ++ ns3) ++ ns4)) 0 0 _ from zbn) _ zaq r5 zdm).mono ?_
 have HH := Lib.hid h5; clear h5
 rcases r5 with ⟨e1, e2⟩ | ⟨v5, m5, ns5⟩
 · rintro e wE ⟨hc, ⟨v, rfl, rfl⟩, nvE, mE, NE, hsE, hkE⟩
   have HC := Lib.hid hc
   have HSE := Lib.hid hsE
   have HKE := Lib.hid (Kp.trans (show Kp b nv nv4 w _ from zba) hkE)
   clear hc hsE hkE
   go_wp2_with (first
    | ((go_at_call 125; (with_reducible refine (qad HC.out (show Rt b lb lo cap nvE L mE NE e1 e2 _ from zae) _ _ _ _ _ _ _ _).mono ?_); rintro e _ ⟨rfl, d6, os6, rfl⟩))
    | ((go_at_call 122; (with_reducible refine (qal _ _ _ _).mono ?_); rintro e _ ⟨rfl, d3, os3, rfl⟩)))
   go_ret
   have := qak HR4.out HH.out
   subst this
   exact RPost.err (nv' := nvE) (m' := mE) (N' := NE) HC.out ⟨_, rfl⟩ zae zak
 rintro e w5 ⟨he, nv5, hs, hk, hm⟩
 unfold unitV at he
 subst he
 have HR5 := Lib.hid (qaf HR4.out HH.out)
 have HS5 := Lib.hid (hs.cast (List.append_assoc _ _ _))
 have HM5 := Lib.hid (Nat.le_trans HM4.out hm)
 have HK5 := Lib.hid (Kp.trans (show Kp b nv nv4 w _ from zba) hk)
 clear hs hk hm
 go_wp2_with ((go_at_call 122; (with_reducible refine (qal _ _ _ _).mono ?_); rintro e _ ⟨rfl, d3, os3, rfl⟩))
 go_at_call 125
 obtain ⟨r6, h6⟩ := qaC HR5.out
 refine (qaw (show Rt b lb lo cap nv5 L m5 (N ++ ((((([] ++ []) ++ ns2) ++ ns3) ++ ns4) ++ ns5)) 0 0 _ from (by repeat (first | (with_reducible exact HS5.out) | (with_reducible apply Rt.alloc) | (with_reducible apply Rt.more)))) _ _ _ _ _ _ _ _ r6 (by rw [List.length_append]; exact h6)).mono ?_
 have HH := Lib.hid h6; clear h6
 rcases r6 with ⟨e1, e2⟩ | ⟨v6, m6, ns6⟩
 · rintro e wE ⟨hc, ⟨v, rfl, yq, rfl⟩, nvE, mE, NE, hsE, hkE⟩
   have HC := Lib.hid hc
   have HSE := Lib.hid hsE
   have HKE := Lib.hid (Kp.trans (show Kp b nv nv5 w _ from (by repeat (first | (with_reducible exact HK5.out) | (with_reducible apply Kp.alloc) | (with_reducible apply Kp.more)))) hkE)
   clear hc hsE hkE
   go_wp2_with fail
   go_ret
   have := qaO HR5.out HH.out
   subst this
   exact RPost.err (nv' := nvE) (m' := mE) (N' := NE) HC.out ⟨_, rfl⟩ zae zak
 rintro e w6 ⟨he, nv6, hs, hk, hm⟩
 unfold intV at he
 subst he
 have HS6 := Lib.hid (hs.cast (List.append_assoc _ _ _))
 have HM6 := Lib.hid (Nat.le_trans HM5.out hm)
 have HK6 := Lib.hid (Kp.trans (show Kp b nv nv5 w _ from (by repeat (first | (with_reducible exact HK5.out) | (with_reducible apply Kp.alloc) | (with_reducible apply Kp.more)))) hk)
 clear hs hk hm
 go_wp2_with fail
 go_ret
 have := qaX HR5.out HH.out
 subst this
 exact RPost.res rfl HS6.out HK6.out HM6.out
set_option maxHeartbeats 4000000 in
set_option maxRecDepth 20000 in
theorem rstmt_delete {b lb lo cap : Nat} {nv : Value} {L : Toks} {m : Nat} {N : List Nd} {w : World} (h : Rt b lb lo cap nv L m N 0 0 w) (hk5 : (tk L m).1.k = 5) (hs : (tk L m).1.s.toList = [100, 101, 108, 101, 116, 101]) (d : Nat) (hd : d ≤ 16) (ex : PM Int) (he : RDp b lb lo cap L 124 (d : Int) ex) (r : PR Int) (hr : qbK L 23 ex m N.length = r) :
  Calls Tryz.prog 113 #[.pointer (some ⟨b, 0, none⟩), .int .i64 (d : Int)] w (RPost intV isInt b lb lo cap nv L m N w r) := by
 have hd0 : 0 ≤ (d : Int) := by omega
 have hd1 : (d : Int) ≤ 16 := by omega
 have HE := Lib.hid he
 clear he
 have q_let : ((tk L m).1.s.toList == [108, 101, 116]) = false := by rw [hs]; decide
 have q_set : ((tk L m).1.s.toList == [115, 101, 116]) = false := by rw [hs]; decide
 have q_put : ((tk L m).1.s.toList == [112, 117, 116]) = false := by rw [hs]; decide
 have q_if : ((tk L m).1.s.toList == [105, 102]) = false := by rw [hs]; decide
 have q_for : ((tk L m).1.s.toList == [102, 111, 114]) = false := by rw [hs]; decide
 have q_repeat : ((tk L m).1.s.toList == [114, 101, 112, 101, 97, 116]) = false := by rw [hs]; decide
 have q_delete : ((tk L m).1.s.toList == [100, 101, 108, 101, 116, 101]) = true := by rw [hs]; decide
 have q_abort : ((tk L m).1.s.toList == [97, 98, 111, 114, 116]) = false := by rw [hs]; decide
 have hk5 := hk5
 have HS0 := Lib.hid (h.cast (List.append_nil N).symm)
 have HK0 := Lib.hid (Kp.refl b nv w)
 have HM0 := Lib.hid (Nat.le_refl m)
 have HR0 := Lib.hid (qaz hr)
 unfold qbK at HR0
 obtain ⟨ts, hts⟩ : ∃ ts, (tk L m).1.s = ts := ⟨_, rfl⟩
 have HTS := Lib.hid hts
 rw [hts] at q_let
 rw [hts] at q_set
 rw [hts] at q_put
 rw [hts] at q_if
 rw [hts] at q_for
 rw [hts] at q_repeat
 rw [hts] at q_delete
 rw [hts] at q_abort
 clear h hr hs hts
 rw [qbg] at HR0
 go_enter Tryz.func113, Tryz.ntmps113
 go_wp2_with fail
 go_at_call 121
 have h1 := qbu (n := N.length + ([] : List Nd).length) hk5
 refine (qaT (show Rt b lb lo cap nv L m (N ++ []) 0 0 _ from zbs) 5 zaq _ (Eq.trans (by rw [List.length_append]) h1)).mono ?_
 have HH := Lib.hid h1; clear h1
 rintro e w1 ⟨he, nv1, hs, hk, hm⟩
 dsimp only at he
 unfold tokV at he
 subst he
 have HR1 := Lib.hid (qaf HR0.out (show skipP m _ = .ok ((), m + 1, []) from rfl))
 have HS1 := Lib.hid (hs.cast (List.append_assoc _ _ _))
 have HM1 := Lib.hid (Nat.le_trans HM0.out hm)
 have HK1 := Lib.hid (Kp.trans (show Kp b nv nv w _ from zbe) hk)
 clear hs hk hm
 rw [HTS.out]
 go_wp2_with fail
 go_at_call 124
 obtain ⟨r2, h2⟩ := qaj HR1.out
 refine (HE.out _ _ _ _ (show Rt b lb lo cap nv1 L (m + 1) (N ++ ([] ++ [])) 0 0 _ from zao) r2 zcl).mono ?_
 have HH := Lib.hid h2; clear h2
 rcases r2 with ⟨e1, e2⟩ | ⟨v2, m2, ns2⟩
 · rintro e wE ⟨hc, ⟨v, rfl, yq, rfl⟩, nvE, mE, NE, hsE, hkE⟩
   have HC := Lib.hid hc
   have HSE := Lib.hid hsE
   have HKE := Lib.hid (Kp.trans (show Kp b nv nv1 w _ from zaf) hkE)
   clear hc hsE hkE
   go_wp2_with (first
    | ((go_at_call 125; (with_reducible refine (qad HC.out (show Rt b lb lo cap nvE L mE NE e1 e2 _ from zae) _ _ _ _ _ _ _ _).mono ?_); rintro e _ ⟨rfl, d6, os6, rfl⟩))
    | ((go_at_call 123; (with_reducible refine (qam HC.out (show Rt b lb lo cap nvE L mE NE e1 e2 _ from zae) _ zaq).mono ?_); rintro e _ ⟨rfl, d7, os7, rfl⟩))
    | ((go_at_call 122; (with_reducible refine (qal _ _ _ _).mono ?_); rintro e _ ⟨rfl, d3, os3, rfl⟩)))
   go_ret
   have := qak HR1.out HH.out
   subst this
   exact RPost.err (nv' := nvE) (m' := mE) (N' := NE) HC.out ⟨_, rfl⟩ zae zak
 rintro e w2 ⟨he, nv2, hs, hk, hm⟩
 unfold intV at he
 subst he
 have HR2 := Lib.hid (qaf HR1.out HH.out)
 have HS2 := Lib.hid (hs.cast (List.append_assoc _ _ _))
 have HM2 := Lib.hid (Nat.le_trans HM1.out hm)
 have HK2 := Lib.hid (Kp.trans (show Kp b nv nv1 w _ from zaf) hk)
 clear hs hk hm
 go_wp2_with ((go_at_call 122; (with_reducible refine (qal _ _ _ _).mono ?_); rintro e _ ⟨rfl, d3, os3, rfl⟩))
 go_at_call 123
 obtain ⟨r3, h3⟩ := qaj HR2.out
 have LCN := Lib.hid (Rt.loc (w := more w2 d3 os3) (lb := lb) (lo := lo) (cap := cap) (L := L) (nv := nv2) (show Rt b lb lo cap nv2 L m2 (N ++ (([] ++ []) ++ ns2)) 0 0 _ from zaw) (.cells #[.int .i64 23, .int .i64 v2, .int .i64 (-1), .int .i64 (-1), .int .i64 (-1), .int .i64 0, .string ⟨#[]⟩, .string ⟨#[]⟩] 34 (0, 0)))
 refine (qao (show Rt b lb lo cap nv2 L m2 (N ++ (([] ++ []) ++ ns2)) 0 0 _ from zaw) _ zaq r3 zda).mono ?_
 have HH := Lib.hid h3; clear h3
 rcases r3 with ⟨e1, e2⟩ | ⟨v3, m3, ns3⟩
 · rintro e wE ⟨hc, ⟨v, rfl, rfl⟩, nvE, mE, NE, hsE, hkE⟩
   have HC := Lib.hid hc
   have HSE := Lib.hid hsE
   have HKE := Lib.hid (Kp.trans (show Kp b nv nv2 w _ from zaj) hkE)
   have LCE := Lib.hid (Loc.kp (show Loc b nv2 (more w2 d3 os3).heap.size (.cells #[.int .i64 23, .int .i64 v2, .int .i64 (-1), .int .i64 (-1), .int .i64 (-1), .int .i64 0, .string ⟨#[]⟩, .string ⟨#[]⟩] 34 (0, 0)) _ from zaz) hkE)
   clear LCN
   obtain ⟨kn, hkn⟩ : ∃ kn, (more w2 d3 os3).heap.size = kn := ⟨_, rfl⟩
   rw [hkn] at LCE
   have HKW : RowKit.Hid (w.heap.size ≤ kn) := Lib.hid zay
   have HLK : RowKit.Hid (lb ≠ kn) := Lib.hid zau
   simp only [more_size, World.size_setCell, World.size_alloc, Array.size_append] at hkn
   rw [hkn]
   clear hkn
   obtain ⟨n0, n1, n2, n3, n4, n5, n6, n7, z0, z1, z2, z3', z5, z6, z7, hkl⟩ := LCE.out.node
   clear hc hsE hkE
   go_wp2_with ((go_at_call 125; (with_reducible refine (qad HC.out (show Rt b lb lo cap nvE L mE NE e1 e2 _ from zab) _ _ _ _ _ _ _ _).mono ?_); rintro e _ ⟨rfl, d6, os6, rfl⟩))
   go_ret
   have := qak HR2.out HH.out
   subst this
   exact RPost.err (nv' := nvE) (m' := mE) (N' := NE) HC.out ⟨_, rfl⟩ zab zai
 rintro e w3 ⟨he, nv3, hs, hk, hm⟩
 unfold unitV at he
 subst he
 have HR3 := Lib.hid (qaf HR2.out HH.out)
 have HS3 := Lib.hid (hs.cast (List.append_assoc _ _ _))
 have HM3 := Lib.hid (Nat.le_trans HM2.out hm)
 have HK3 := Lib.hid (Kp.trans (show Kp b nv nv2 w _ from zaj) hk)
 have LC3 := Lib.hid (Loc.kp (show Loc b nv2 (more w2 d3 os3).heap.size (.cells #[.int .i64 23, .int .i64 v2, .int .i64 (-1), .int .i64 (-1), .int .i64 (-1), .int .i64 0, .string ⟨#[]⟩, .string ⟨#[]⟩] 34 (0, 0)) _ from zaz) hk)
 clear LCN
 obtain ⟨kn, hkn⟩ : ∃ kn, (more w2 d3 os3).heap.size = kn := ⟨_, rfl⟩
 rw [hkn] at LC3
 have HKW : RowKit.Hid (w.heap.size ≤ kn) := Lib.hid zay
 have HLK : RowKit.Hid (lb ≠ kn) := Lib.hid zau
 simp only [more_size, World.size_setCell, World.size_alloc, Array.size_append] at hkn
 rw [hkn]
 clear hkn
 clear hs hk hm
 obtain ⟨n0, n1, n2, n3, n4, n5, n6, n7, z0, z1, z2, z3', z5, z6, z7, hkl⟩ := LC3.out.node
 go_wp2_with fail
 go_at_call 125
 obtain ⟨r4, h4⟩ := qaC HR3.out
 refine (qaw (show Rt b lb lo cap nv3 L m3 (N ++ ((([] ++ []) ++ ns2) ++ ns3)) 0 0 _ from zbh) _ _ _ _ _ _ _ _ r4 zdh).mono ?_
 have HH := Lib.hid h4; clear h4
 rcases r4 with ⟨e1, e2⟩ | ⟨v4, m4, ns4⟩
 · rintro e wE ⟨hc, ⟨v, rfl, yq, rfl⟩, nvE, mE, NE, hsE, hkE⟩
   have HC := Lib.hid hc
   have HSE := Lib.hid hsE
   have HKE := Lib.hid (Kp.trans (show Kp b nv nv3 w _ from zas) hkE)
   clear n0 n1 n2 n3 n4 n5 n6 n7 z0 z1 z2 z3' z5 z6 z7
   have LS : Loc b nv3 kn (.cells #[.int .i64 23, .int .i64 v2, .int .i64 (-1), .int .i64 (-1), .int .i64 (-1), .int .i64 0, .string ⟨#[]⟩, .string ⟨#[]⟩] 34 (0, 0)) _ := LC3.out
   have LCE := Lib.hid (Loc.kp (show Loc b nv3 kn (.cells #[.int .i64 23, .int .i64 v2, .int .i64 (-1), .int .i64 (-1), .int .i64 (-1), .int .i64 0, .string ⟨#[]⟩, .string ⟨#[]⟩] 34 (0, 0)) _ from zag) hkE)
   clear LS
   obtain ⟨n0, n1, n2, n3, n4, n5, n6, n7, z0, z1, z2, z3', z5, z6, z7, hkl⟩ := LCE.out.node
   clear hc hsE hkE
   go_wp2_with fail
   go_ret
   have := qaO HR3.out HH.out
   subst this
   exact RPost.err (nv' := nvE) (m' := mE) (N' := NE) HC.out ⟨_, rfl⟩ zab zai
 rintro e w4 ⟨he, nv4, hs, hk, hm⟩
 unfold intV at he
 subst he
 have HS4 := Lib.hid (hs.cast (List.append_assoc _ _ _))
 have HM4 := Lib.hid (Nat.le_trans HM3.out hm)
 have HK4 := Lib.hid (Kp.trans (show Kp b nv nv3 w _ from zas) hk)
 clear n0 n1 n2 n3 n4 n5 n6 n7 z0 z1 z2 z3' z5 z6 z7
 have LS : Loc b nv3 kn (.cells #[.int .i64 23, .int .i64 v2, .int .i64 (-1), .int .i64 (-1), .int .i64 (-1), .int .i64 0, .string ⟨#[]⟩, .string ⟨#[]⟩] 34 (0, 0)) _ := LC3.out
 have LC4 := Lib.hid (Loc.kp (show Loc b nv3 kn (.cells #[.int .i64 23, .int .i64 v2, .int .i64 (-1), .int .i64 (-1), .int .i64 (-1), .int .i64 0, .string ⟨#[]⟩, .string ⟨#[]⟩] 34 (0, 0)) _ from zag) hk)
 clear LS
 clear hs hk hm
 go_wp2_with fail
 go_ret
 have := qaX HR3.out HH.out
 subst this
 exact RPost.res rfl HS4.out HK4.out HM4.out
set_option maxHeartbeats 4000000 in
set_option maxRecDepth 20000 in
theorem rstmt_abort {b lb lo cap : Nat} {nv : Value} {L : Toks} {m : Nat} {N : List Nd} {w : World} (h : Rt b lb lo cap nv L m N 0 0 w) (hk5 : (tk L m).1.k = 5) (hs : (tk L m).1.s.toList = [97, 98, 111, 114, 116]) (d : Nat) (hd : d ≤ 16) (ex : PM Int) (he : RDp b lb lo cap L 124 (d : Int) ex) (r : PR Int) (hr : qbK L 27 ex m N.length = r) :
  Calls Tryz.prog 113 #[.pointer (some ⟨b, 0, none⟩), .int .i64 (d : Int)] w (RPost intV isInt b lb lo cap nv L m N w r) := by
 have hd0 : 0 ≤ (d : Int) := by omega
 have hd1 : (d : Int) ≤ 16 := by omega
 have HE := Lib.hid he
 clear he
 have q_let : ((tk L m).1.s.toList == [108, 101, 116]) = false := by rw [hs]; decide
 have q_set : ((tk L m).1.s.toList == [115, 101, 116]) = false := by rw [hs]; decide
 have q_put : ((tk L m).1.s.toList == [112, 117, 116]) = false := by rw [hs]; decide
 have q_if : ((tk L m).1.s.toList == [105, 102]) = false := by rw [hs]; decide
 have q_for : ((tk L m).1.s.toList == [102, 111, 114]) = false := by rw [hs]; decide
 have q_repeat : ((tk L m).1.s.toList == [114, 101, 112, 101, 97, 116]) = false := by rw [hs]; decide
 have q_delete : ((tk L m).1.s.toList == [100, 101, 108, 101, 116, 101]) = false := by rw [hs]; decide
 have q_abort : ((tk L m).1.s.toList == [97, 98, 111, 114, 116]) = true := by rw [hs]; decide
 have hk5 := hk5
 have HS0 := Lib.hid (h.cast (List.append_nil N).symm)
 have HK0 := Lib.hid (Kp.refl b nv w)
 have HM0 := Lib.hid (Nat.le_refl m)
 have HR0 := Lib.hid (qaz hr)
 unfold qbK at HR0
 obtain ⟨ts, hts⟩ : ∃ ts, (tk L m).1.s = ts := ⟨_, rfl⟩
 have HTS := Lib.hid hts
 rw [hts] at q_let
 rw [hts] at q_set
 rw [hts] at q_put
 rw [hts] at q_if
 rw [hts] at q_for
 rw [hts] at q_repeat
 rw [hts] at q_delete
 rw [hts] at q_abort
 clear h hr hs hts
 rw [qbg] at HR0
 go_enter Tryz.func113, Tryz.ntmps113
 go_wp2_with fail
 go_at_call 121
 have h1 := qbu (n := N.length + ([] : List Nd).length) hk5
 refine (qaT (show Rt b lb lo cap nv L m (N ++ []) 0 0 _ from zbs) 5 zaq _ (Eq.trans (by rw [List.length_append]) h1)).mono ?_
 have HH := Lib.hid h1; clear h1
 rintro e w1 ⟨he, nv1, hs, hk, hm⟩
 dsimp only at he
 unfold tokV at he
 subst he
 have HR1 := Lib.hid (qaf HR0.out (show skipP m _ = .ok ((), m + 1, []) from rfl))
 have HS1 := Lib.hid (hs.cast (List.append_assoc _ _ _))
 have HM1 := Lib.hid (Nat.le_trans HM0.out hm)
 have HK1 := Lib.hid (Kp.trans (show Kp b nv nv w _ from zbe) hk)
 clear hs hk hm
 rw [HTS.out]
 go_wp2_with fail
 go_at_call 124
 obtain ⟨r2, h2⟩ := qaj HR1.out
 refine (HE.out _ _ _ _ (show Rt b lb lo cap nv1 L (m + 1) (N ++ ([] ++ [])) 0 0 _ from zao) r2 zcl).mono ?_
 have HH := Lib.hid h2; clear h2
 rcases r2 with ⟨e1, e2⟩ | ⟨v2, m2, ns2⟩
 · rintro e wE ⟨hc, ⟨v, rfl, yq, rfl⟩, nvE, mE, NE, hsE, hkE⟩
   have HC := Lib.hid hc
   have HSE := Lib.hid hsE
   have HKE := Lib.hid (Kp.trans (show Kp b nv nv1 w _ from zaf) hkE)
   clear hc hsE hkE
   go_wp2_with (first
    | ((go_at_call 125; (with_reducible refine (qad HC.out (show Rt b lb lo cap nvE L mE NE e1 e2 _ from zae) _ _ _ _ _ _ _ _).mono ?_); rintro e _ ⟨rfl, d6, os6, rfl⟩))
    | ((go_at_call 123; (with_reducible refine (qam HC.out (show Rt b lb lo cap nvE L mE NE e1 e2 _ from zae) _ zaq).mono ?_); rintro e _ ⟨rfl, d7, os7, rfl⟩))
    | ((go_at_call 122; (with_reducible refine (qal _ _ _ _).mono ?_); rintro e _ ⟨rfl, d3, os3, rfl⟩)))
   go_ret
   have := qak HR1.out HH.out
   subst this
   exact RPost.err (nv' := nvE) (m' := mE) (N' := NE) HC.out ⟨_, rfl⟩ zae zak
 rintro e w2 ⟨he, nv2, hs, hk, hm⟩
 unfold intV at he
 subst he
 have HR2 := Lib.hid (qaf HR1.out HH.out)
 have HS2 := Lib.hid (hs.cast (List.append_assoc _ _ _))
 have HM2 := Lib.hid (Nat.le_trans HM1.out hm)
 have HK2 := Lib.hid (Kp.trans (show Kp b nv nv1 w _ from zaf) hk)
 clear hs hk hm
 go_wp2_with ((go_at_call 122; (with_reducible refine (qal _ _ _ _).mono ?_); rintro e _ ⟨rfl, d3, os3, rfl⟩))
 go_at_call 123
 obtain ⟨r3, h3⟩ := qaj HR2.out
 have LCN := Lib.hid (Rt.loc (w := more w2 d3 os3) (lb := lb) (lo := lo) (cap := cap) (L := L) (nv := nv2) (show Rt b lb lo cap nv2 L m2 (N ++ (([] ++ []) ++ ns2)) 0 0 _ from zaw) (.cells #[.int .i64 27, .int .i64 v2, .int .i64 (-1), .int .i64 (-1), .int .i64 (-1), .int .i64 0, .string ⟨#[]⟩, .string ⟨#[]⟩] 34 (0, 0)))
 refine (qao (show Rt b lb lo cap nv2 L m2 (N ++ (([] ++ []) ++ ns2)) 0 0 _ from zaw) _ zaq r3 zda).mono ?_
 have HH := Lib.hid h3; clear h3
 rcases r3 with ⟨e1, e2⟩ | ⟨v3, m3, ns3⟩
 · rintro e wE ⟨hc, ⟨v, rfl, rfl⟩, nvE, mE, NE, hsE, hkE⟩
   have HC := Lib.hid hc
   have HSE := Lib.hid hsE
   have HKE := Lib.hid (Kp.trans (show Kp b nv nv2 w _ from zaj) hkE)
   have LCE := Lib.hid (Loc.kp (show Loc b nv2 (more w2 d3 os3).heap.size (.cells #[.int .i64 27, .int .i64 v2, .int .i64 (-1), .int .i64 (-1), .int .i64 (-1), .int .i64 0, .string ⟨#[]⟩, .string ⟨#[]⟩] 34 (0, 0)) _ from zaz) hkE)
   clear LCN
   obtain ⟨kn, hkn⟩ : ∃ kn, (more w2 d3 os3).heap.size = kn := ⟨_, rfl⟩
   rw [hkn] at LCE
   have HKW : RowKit.Hid (w.heap.size ≤ kn) := Lib.hid zay
   have HLK : RowKit.Hid (lb ≠ kn) := Lib.hid zau
   simp only [more_size, World.size_setCell, World.size_alloc, Array.size_append] at hkn
   rw [hkn]
   clear hkn
   obtain ⟨n0, n1, n2, n3, n4, n5, n6, n7, z0, z1, z2, z3', z5, z6, z7, hkl⟩ := LCE.out.node
   clear hc hsE hkE
   go_wp2_with ((go_at_call 125; (with_reducible refine (qad HC.out (show Rt b lb lo cap nvE L mE NE e1 e2 _ from zab) _ _ _ _ _ _ _ _).mono ?_); rintro e _ ⟨rfl, d6, os6, rfl⟩))
   go_ret
   have := qak HR2.out HH.out
   subst this
   exact RPost.err (nv' := nvE) (m' := mE) (N' := NE) HC.out ⟨_, rfl⟩ zab zai
 rintro e w3 ⟨he, nv3, hs, hk, hm⟩
 unfold unitV at he
 subst he
 have HR3 := Lib.hid (qaf HR2.out HH.out)
 have HS3 := Lib.hid (hs.cast (List.append_assoc _ _ _))
 have HM3 := Lib.hid (Nat.le_trans HM2.out hm)
 have HK3 := Lib.hid (Kp.trans (show Kp b nv nv2 w _ from zaj) hk)
 have LC3 := Lib.hid (Loc.kp (show Loc b nv2 (more w2 d3 os3).heap.size (.cells #[.int .i64 27, .int .i64 v2, .int .i64 (-1), .int .i64 (-1), .int .i64 (-1), .int .i64 0, .string ⟨#[]⟩, .string ⟨#[]⟩] 34 (0, 0)) _ from zaz) hk)
 clear LCN
 obtain ⟨kn, hkn⟩ : ∃ kn, (more w2 d3 os3).heap.size = kn := ⟨_, rfl⟩
 rw [hkn] at LC3
 have HKW : RowKit.Hid (w.heap.size ≤ kn) := Lib.hid zay
 have HLK : RowKit.Hid (lb ≠ kn) := Lib.hid zau
 simp only [more_size, World.size_setCell, World.size_alloc, Array.size_append] at hkn
 rw [hkn]
 clear hkn
 clear hs hk hm
 obtain ⟨n0, n1, n2, n3, n4, n5, n6, n7, z0, z1, z2, z3', z5, z6, z7, hkl⟩ := LC3.out.node
 go_wp2_with fail
 go_at_call 125
 obtain ⟨r4, h4⟩ := qaC HR3.out
 refine (qaw (show Rt b lb lo cap nv3 L m3 (N ++ ((([] ++ []) ++ ns2) ++ ns3)) 0 0 _ from zbh) _ _ _ _ _ _ _ _ r4 zdh).mono ?_
 have HH := Lib.hid h4; clear h4
 rcases r4 with ⟨e1, e2⟩ | ⟨v4, m4, ns4⟩
 · rintro e wE ⟨hc, ⟨v, rfl, yq, rfl⟩, nvE, mE, NE, hsE, hkE⟩
   have HC := Lib.hid hc
   have HSE := Lib.hid hsE
   have HKE := Lib.hid (Kp.trans (show Kp b nv nv3 w _ from zas) hkE)
   clear n0 n1 n2 n3 n4 n5 n6 n7 z0 z1 z2 z3' z5 z6 z7
   have LS : Loc b nv3 kn (.cells #[.int .i64 27, .int .i64 v2, .int .i64 (-1), .int .i64 (-1), .int .i64 (-1), .int .i64 0, .string ⟨#[]⟩, .string ⟨#[]⟩] 34 (0, 0)) _ := LC3.out
   have LCE := Lib.hid (Loc.kp (show Loc b nv3 kn (.cells #[.int .i64 27, .int .i64 v2, .int .i64 (-1), .int .i64 (-1), .int .i64 (-1), .int .i64 0, .string ⟨#[]⟩, .string ⟨#[]⟩] 34 (0, 0)) _ from zag) hkE)
   clear LS
   obtain ⟨n0, n1, n2, n3, n4, n5, n6, n7, z0, z1, z2, z3', z5, z6, z7, hkl⟩ := LCE.out.node
   clear hc hsE hkE
   go_wp2_with fail
   go_ret
   have := qaO HR3.out HH.out
   subst this
   exact RPost.err (nv' := nvE) (m' := mE) (N' := NE) HC.out ⟨_, rfl⟩ zab zai
 rintro e w4 ⟨he, nv4, hs, hk, hm⟩
 unfold intV at he
 subst he
 have HS4 := Lib.hid (hs.cast (List.append_assoc _ _ _))
 have HM4 := Lib.hid (Nat.le_trans HM3.out hm)
 have HK4 := Lib.hid (Kp.trans (show Kp b nv nv3 w _ from zas) hk)
 clear n0 n1 n2 n3 n4 n5 n6 n7 z0 z1 z2 z3' z5 z6 z7
 have LS : Loc b nv3 kn (.cells #[.int .i64 27, .int .i64 v2, .int .i64 (-1), .int .i64 (-1), .int .i64 (-1), .int .i64 0, .string ⟨#[]⟩, .string ⟨#[]⟩] 34 (0, 0)) _ := LC3.out
 have LC4 := Lib.hid (Loc.kp (show Loc b nv3 kn (.cells #[.int .i64 27, .int .i64 v2, .int .i64 (-1), .int .i64 (-1), .int .i64 (-1), .int .i64 0, .string ⟨#[]⟩, .string ⟨#[]⟩] 34 (0, 0)) _ from zag) hk)
 clear LS
 clear hs hk hm
 go_wp2_with fail
 go_ret
 have := qaX HR3.out HH.out
 subst this
 exact RPost.res rfl HS4.out HK4.out HM4.out
set_option maxHeartbeats 4000000 in
set_option maxRecDepth 20000 in
theorem rstmt_return {b lb lo cap : Nat} {nv : Value} {L : Toks} {m : Nat} {N : List Nd} {w : World} (h : Rt b lb lo cap nv L m N 0 0 w) (hk5 : (tk L m).1.k = 5) (hs : (tk L m).1.s.toList = [114, 101, 116, 117, 114, 110]) (d : Nat) (hd : d ≤ 16) (ex : PM Int) (he : RDp b lb lo cap L 124 (d : Int) ex) (r : PR Int) (hr : qbK L 28 ex m N.length = r) :
  Calls Tryz.prog 113 #[.pointer (some ⟨b, 0, none⟩), .int .i64 (d : Int)] w (RPost intV isInt b lb lo cap nv L m N w r) := by
 have hd0 : 0 ≤ (d : Int) := by omega
 have hd1 : (d : Int) ≤ 16 := by omega
 have HE := Lib.hid he
 clear he
 have q_let : ((tk L m).1.s.toList == [108, 101, 116]) = false := by rw [hs]; decide
 have q_set : ((tk L m).1.s.toList == [115, 101, 116]) = false := by rw [hs]; decide
 have q_put : ((tk L m).1.s.toList == [112, 117, 116]) = false := by rw [hs]; decide
 have q_if : ((tk L m).1.s.toList == [105, 102]) = false := by rw [hs]; decide
 have q_for : ((tk L m).1.s.toList == [102, 111, 114]) = false := by rw [hs]; decide
 have q_repeat : ((tk L m).1.s.toList == [114, 101, 112, 101, 97, 116]) = false := by rw [hs]; decide
 have q_delete : ((tk L m).1.s.toList == [100, 101, 108, 101, 116, 101]) = false := by rw [hs]; decide
 have q_abort : ((tk L m).1.s.toList == [97, 98, 111, 114, 116]) = false := by rw [hs]; decide
 have hk5 := hk5
 have HS0 := Lib.hid (h.cast (List.append_nil N).symm)
 have HK0 := Lib.hid (Kp.refl b nv w)
 have HM0 := Lib.hid (Nat.le_refl m)
 have HR0 := Lib.hid (qaz hr)
 unfold qbK at HR0
 obtain ⟨ts, hts⟩ : ∃ ts, (tk L m).1.s = ts := ⟨_, rfl⟩
 have HTS := Lib.hid hts
 rw [hts] at q_let
 rw [hts] at q_set
 rw [hts] at q_put
 rw [hts] at q_if
 rw [hts] at q_for
 rw [hts] at q_repeat
 rw [hts] at q_delete
 rw [hts] at q_abort
 clear h hr hs hts
 rw [qbg] at HR0
 go_enter Tryz.func113, Tryz.ntmps113
 go_wp2_with fail
 go_at_call 121
 have h1 := qbu (n := N.length + ([] : List Nd).length) hk5
 refine (qaT (show Rt b lb lo cap nv L m (N ++ []) 0 0 _ from zbs) 5 zaq _ (Eq.trans (by rw [List.length_append]) h1)).mono ?_
 have HH := Lib.hid h1; clear h1
 rintro e w1 ⟨he, nv1, hs, hk, hm⟩
 dsimp only at he
 unfold tokV at he
 subst he
 have HR1 := Lib.hid (qaf HR0.out (show skipP m _ = .ok ((), m + 1, []) from rfl))
 have HS1 := Lib.hid (hs.cast (List.append_assoc _ _ _))
 have HM1 := Lib.hid (Nat.le_trans HM0.out hm)
 have HK1 := Lib.hid (Kp.trans (show Kp b nv nv w _ from zbe) hk)
 clear hs hk hm
 rw [HTS.out]
 go_wp2_with fail
 go_at_call 124
 obtain ⟨r2, h2⟩ := qaj HR1.out
 refine (HE.out _ _ _ _ (show Rt b lb lo cap nv1 L (m + 1) (N ++ ([] ++ [])) 0 0 _ from zao) r2 zcl).mono ?_
 have HH := Lib.hid h2; clear h2
 rcases r2 with ⟨e1, e2⟩ | ⟨v2, m2, ns2⟩
 · rintro e wE ⟨hc, ⟨v, rfl, yq, rfl⟩, nvE, mE, NE, hsE, hkE⟩
   have HC := Lib.hid hc
   have HSE := Lib.hid hsE
   have HKE := Lib.hid (Kp.trans (show Kp b nv nv1 w _ from zaf) hkE)
   clear hc hsE hkE
   go_wp2_with (first
    | ((go_at_call 125; (with_reducible refine (qad HC.out (show Rt b lb lo cap nvE L mE NE e1 e2 _ from zae) _ _ _ _ _ _ _ _).mono ?_); rintro e _ ⟨rfl, d6, os6, rfl⟩))
    | ((go_at_call 123; (with_reducible refine (qam HC.out (show Rt b lb lo cap nvE L mE NE e1 e2 _ from zae) _ zaq).mono ?_); rintro e _ ⟨rfl, d7, os7, rfl⟩))
    | ((go_at_call 122; (with_reducible refine (qal _ _ _ _).mono ?_); rintro e _ ⟨rfl, d3, os3, rfl⟩)))
   go_ret
   have := qak HR1.out HH.out
   subst this
   exact RPost.err (nv' := nvE) (m' := mE) (N' := NE) HC.out ⟨_, rfl⟩ zae zak
 rintro e w2 ⟨he, nv2, hs, hk, hm⟩
 unfold intV at he
 subst he
 have HR2 := Lib.hid (qaf HR1.out HH.out)
 have HS2 := Lib.hid (hs.cast (List.append_assoc _ _ _))
 have HM2 := Lib.hid (Nat.le_trans HM1.out hm)
 have HK2 := Lib.hid (Kp.trans (show Kp b nv nv1 w _ from zaf) hk)
 clear hs hk hm
 go_wp2_with ((go_at_call 122; (with_reducible refine (qal _ _ _ _).mono ?_); rintro e _ ⟨rfl, d3, os3, rfl⟩))
 go_at_call 123
 obtain ⟨r3, h3⟩ := qaj HR2.out
 have LCN := Lib.hid (Rt.loc (w := more w2 d3 os3) (lb := lb) (lo := lo) (cap := cap) (L := L) (nv := nv2) (show Rt b lb lo cap nv2 L m2 (N ++ (([] ++ []) ++ ns2)) 0 0 _ from zaw) (.cells #[.int .i64 28, .int .i64 v2, .int .i64 (-1), .int .i64 (-1), .int .i64 (-1), .int .i64 0, .string ⟨#[]⟩, .string ⟨#[]⟩] 34 (0, 0)))
 refine (qao (show Rt b lb lo cap nv2 L m2 (N ++ (([] ++ []) ++ ns2)) 0 0 _ from zaw) _ zaq r3 zda).mono ?_
 have HH := Lib.hid h3; clear h3
 rcases r3 with ⟨e1, e2⟩ | ⟨v3, m3, ns3⟩
 · rintro e wE ⟨hc, ⟨v, rfl, rfl⟩, nvE, mE, NE, hsE, hkE⟩
   have HC := Lib.hid hc
   have HSE := Lib.hid hsE
   have HKE := Lib.hid (Kp.trans (show Kp b nv nv2 w _ from zaj) hkE)
   have LCE := Lib.hid (Loc.kp (show Loc b nv2 (more w2 d3 os3).heap.size (.cells #[.int .i64 28, .int .i64 v2, .int .i64 (-1), .int .i64 (-1), .int .i64 (-1), .int .i64 0, .string ⟨#[]⟩, .string ⟨#[]⟩] 34 (0, 0)) _ from zaz) hkE)
   clear LCN
   obtain ⟨kn, hkn⟩ : ∃ kn, (more w2 d3 os3).heap.size = kn := ⟨_, rfl⟩
   rw [hkn] at LCE
   have HKW : RowKit.Hid (w.heap.size ≤ kn) := Lib.hid zay
   have HLK : RowKit.Hid (lb ≠ kn) := Lib.hid zau
   simp only [more_size, World.size_setCell, World.size_alloc, Array.size_append] at hkn
   rw [hkn]
   clear hkn
   obtain ⟨n0, n1, n2, n3, n4, n5, n6, n7, z0, z1, z2, z3', z5, z6, z7, hkl⟩ := LCE.out.node
   clear hc hsE hkE
   go_wp2_with ((go_at_call 125; (with_reducible refine (qad HC.out (show Rt b lb lo cap nvE L mE NE e1 e2 _ from zab) _ _ _ _ _ _ _ _).mono ?_); rintro e _ ⟨rfl, d6, os6, rfl⟩))
   go_ret
   have := qak HR2.out HH.out
   subst this
   exact RPost.err (nv' := nvE) (m' := mE) (N' := NE) HC.out ⟨_, rfl⟩ zab zai
 rintro e w3 ⟨he, nv3, hs, hk, hm⟩
 unfold unitV at he
 subst he
 have HR3 := Lib.hid (qaf HR2.out HH.out)
 have HS3 := Lib.hid (hs.cast (List.append_assoc _ _ _))
 have HM3 := Lib.hid (Nat.le_trans HM2.out hm)
 have HK3 := Lib.hid (Kp.trans (show Kp b nv nv2 w _ from zaj) hk)
 have LC3 := Lib.hid (Loc.kp (show Loc b nv2 (more w2 d3 os3).heap.size (.cells #[.int .i64 28, .int .i64 v2, .int .i64 (-1), .int .i64 (-1), .int .i64 (-1), .int .i64 0, .string ⟨#[]⟩, .string ⟨#[]⟩] 34 (0, 0)) _ from zaz) hk)
 clear LCN
 obtain ⟨kn, hkn⟩ : ∃ kn, (more w2 d3 os3).heap.size = kn := ⟨_, rfl⟩
 rw [hkn] at LC3
 have HKW : RowKit.Hid (w.heap.size ≤ kn) := Lib.hid zay
 have HLK : RowKit.Hid (lb ≠ kn) := Lib.hid zau
 simp only [more_size, World.size_setCell, World.size_alloc, Array.size_append] at hkn
 rw [hkn]
 clear hkn
 clear hs hk hm
 obtain ⟨n0, n1, n2, n3, n4, n5, n6, n7, z0, z1, z2, z3', z5, z6, z7, hkl⟩ := LC3.out.node
 go_wp2_with fail
 go_at_call 125
 obtain ⟨r4, h4⟩ := qaC HR3.out
 refine (qaw (show Rt b lb lo cap nv3 L m3 (N ++ ((([] ++ []) ++ ns2) ++ ns3)) 0 0 _ from zbh) _ _ _ _ _ _ _ _ r4 zdh).mono ?_
 have HH := Lib.hid h4; clear h4
 rcases r4 with ⟨e1, e2⟩ | ⟨v4, m4, ns4⟩
 · rintro e wE ⟨hc, ⟨v, rfl, yq, rfl⟩, nvE, mE, NE, hsE, hkE⟩
   have HC := Lib.hid hc
   have HSE := Lib.hid hsE
   have HKE := Lib.hid (Kp.trans (show Kp b nv nv3 w _ from zas) hkE)
   clear n0 n1 n2 n3 n4 n5 n6 n7 z0 z1 z2 z3' z5 z6 z7
   have LS : Loc b nv3 kn (.cells #[.int .i64 28, .int .i64 v2, .int .i64 (-1), .int .i64 (-1), .int .i64 (-1), .int .i64 0, .string ⟨#[]⟩, .string ⟨#[]⟩] 34 (0, 0)) _ := LC3.out
   have LCE := Lib.hid (Loc.kp (show Loc b nv3 kn (.cells #[.int .i64 28, .int .i64 v2, .int .i64 (-1), .int .i64 (-1), .int .i64 (-1), .int .i64 0, .string ⟨#[]⟩, .string ⟨#[]⟩] 34 (0, 0)) _ from zag) hkE)
   clear LS
   obtain ⟨n0, n1, n2, n3, n4, n5, n6, n7, z0, z1, z2, z3', z5, z6, z7, hkl⟩ := LCE.out.node
   clear hc hsE hkE
   go_wp2_with fail
   go_ret
   have := qaO HR3.out HH.out
   subst this
   exact RPost.err (nv' := nvE) (m' := mE) (N' := NE) HC.out ⟨_, rfl⟩ zab zai
 rintro e w4 ⟨he, nv4, hs, hk, hm⟩
 unfold intV at he
 subst he
 have HS4 := Lib.hid (hs.cast (List.append_assoc _ _ _))
 have HM4 := Lib.hid (Nat.le_trans HM3.out hm)
 have HK4 := Lib.hid (Kp.trans (show Kp b nv nv3 w _ from zas) hk)
 clear n0 n1 n2 n3 n4 n5 n6 n7 z0 z1 z2 z3' z5 z6 z7
 have LS : Loc b nv3 kn (.cells #[.int .i64 28, .int .i64 v2, .int .i64 (-1), .int .i64 (-1), .int .i64 (-1), .int .i64 0, .string ⟨#[]⟩, .string ⟨#[]⟩] 34 (0, 0)) _ := LC3.out
 have LC4 := Lib.hid (Loc.kp (show Loc b nv3 kn (.cells #[.int .i64 28, .int .i64 v2, .int .i64 (-1), .int .i64 (-1), .int .i64 (-1), .int .i64 0, .string ⟨#[]⟩, .string ⟨#[]⟩] 34 (0, 0)) _ from zag) hk)
 clear LS
 clear hs hk hm
 go_wp2_with fail
 go_ret
 have := qaX HR3.out HH.out
 subst this
 exact RPost.res rfl HS4.out HK4.out HM4.out
set_option maxHeartbeats 4000000 in
set_option maxRecDepth 20000 in
theorem rstmt_if {b lb lo cap : Nat} {nv : Value} {L : Toks} {m : Nat} {N : List Nd} {w : World} (h : Rt b lb lo cap nv L m N 0 0 w) (hk5 : (tk L m).1.k = 5) (hs : (tk L m).1.s.toList = [105, 102]) (d : Nat) (hd : d ≤ 16) (ex : PM Int) (he : RDp b lb lo cap L 124 (d : Int) ex) (bk : PM Int) (hb : RDp b lb lo cap L 83 ((d : Int) + 1) bk) (r : PR Int) (hr : whenP L ex (qbF L bk) m N.length = r) :
  Calls Tryz.prog 113 #[.pointer (some ⟨b, 0, none⟩), .int .i64 (d : Int)] w (RPost intV isInt b lb lo cap nv L m N w r) := by
 have hd0 : 0 ≤ (d : Int) := by omega
 have hd1 : (d : Int) ≤ 16 := by omega
 have HE := Lib.hid he
 clear he
 have HB := Lib.hid hb
 clear hb
 have q_let : ((tk L m).1.s.toList == [108, 101, 116]) = false := by rw [hs]; decide
 have q_set : ((tk L m).1.s.toList == [115, 101, 116]) = false := by rw [hs]; decide
 have q_put : ((tk L m).1.s.toList == [112, 117, 116]) = false := by rw [hs]; decide
 have q_if : ((tk L m).1.s.toList == [105, 102]) = true := by rw [hs]; decide
 have q_for : ((tk L m).1.s.toList == [102, 111, 114]) = false := by rw [hs]; decide
 have q_repeat : ((tk L m).1.s.toList == [114, 101, 112, 101, 97, 116]) = false := by rw [hs]; decide
 have q_delete : ((tk L m).1.s.toList == [100, 101, 108, 101, 116, 101]) = false := by rw [hs]; decide
 have q_abort : ((tk L m).1.s.toList == [97, 98, 111, 114, 116]) = false := by rw [hs]; decide
 have hk5 := hk5
 have HS0 := Lib.hid (h.cast (List.append_nil N).symm)
 have HK0 := Lib.hid (Kp.refl b nv w)
 have HM0 := Lib.hid (Nat.le_refl m)
 have HR0 := Lib.hid (qaz hr)
 unfold whenP at HR0
 obtain ⟨ts, hts⟩ : ∃ ts, (tk L m).1.s = ts := ⟨_, rfl⟩
 have HTS := Lib.hid hts
 rw [hts] at q_let
 rw [hts] at q_set
 rw [hts] at q_put
 rw [hts] at q_if
 rw [hts] at q_for
 rw [hts] at q_repeat
 rw [hts] at q_delete
 rw [hts] at q_abort
 clear h hr hs hts
 go_enter Tryz.func113, Tryz.ntmps113
 go_wp2_with fail
 go_at_call 121
 have h1 := qbu (n := N.length + ([] : List Nd).length) hk5
 refine (qaT (show Rt b lb lo cap nv L m (N ++ []) 0 0 _ from zbs) 5 zaq _ (Eq.trans (by rw [List.length_append]) h1)).mono ?_
 have HH := Lib.hid h1; clear h1
 rintro e w1 ⟨he, nv1, hs, hk, hm⟩
 dsimp only at he
 unfold tokV at he
 subst he
 have HR1 := Lib.hid (qaf HR0.out (show skipP m _ = .ok ((), m + 1, []) from rfl))
 have HS1 := Lib.hid (hs.cast (List.append_assoc _ _ _))
 have HM1 := Lib.hid (Nat.le_trans HM0.out hm)
 have HK1 := Lib.hid (Kp.trans (show Kp b nv nv w _ from zbe) hk)
 clear hs hk hm
 rw [HTS.out]
 go_wp2_with fail
 go_at_call 124
 obtain ⟨r2, h2⟩ := qaj HR1.out
 refine (HE.out _ _ _ _ (show Rt b lb lo cap nv1 L (m + 1) (N ++ ([] ++ [])) 0 0 _ from zao) r2 zcl).mono ?_
 have HH := Lib.hid h2; clear h2
 rcases r2 with ⟨e1, e2⟩ | ⟨v2, m2, ns2⟩
 · rintro e wE ⟨hc, ⟨v, rfl, yq, rfl⟩, nvE, mE, NE, hsE, hkE⟩
   have HC := Lib.hid hc
   have HSE := Lib.hid hsE
   have HKE := Lib.hid (Kp.trans (show Kp b nv nv1 w _ from zaf) hkE)
   clear hc hsE hkE
   go_wp2_with (first
    | ((go_at_call 125; (with_reducible refine (qad HC.out (show Rt b lb lo cap nvE L mE NE e1 e2 _ from zae) _ _ _ _ _ _ _ _).mono ?_); rintro e _ ⟨rfl, d6, os6, rfl⟩))
    | ((go_at_call 127; (with_reducible refine (qcD HC.out (show Rt b lb lo cap nvE L mE NE e1 e2 _ from zae) _ zaq).mono ?_); rintro e _ ⟨rfl, d9, os9, rfl⟩))
    | ((go_at_call 126; (with_reducible refine (qaq HC.out (show Rt b lb lo cap nvE L mE NE e1 e2 _ from zae) _).mono ?_); rintro e _ ⟨rfl, d2, os2, rfl⟩))
    | ((go_at_call 122; (with_reducible refine (qal _ _ _ _).mono ?_); rintro e _ ⟨rfl, d3, os3, rfl⟩)))
   go_ret
   have := qak HR1.out HH.out
   subst this
   exact RPost.err (nv' := nvE) (m' := mE) (N' := NE) HC.out ⟨_, rfl⟩ zae zak
 rintro e w2 ⟨he, nv2, hs, hk, hm⟩
 unfold intV at he
 subst he
 have HR2 := Lib.hid (qaf HR1.out HH.out)
 have HS2 := Lib.hid (hs.cast (List.append_assoc _ _ _))
 have HM2 := Lib.hid (Nat.le_trans HM1.out hm)
 have HK2 := Lib.hid (Kp.trans (show Kp b nv nv1 w _ from zaf) hk)
 clear hs hk hm
 go_wp2_with ((go_at_call 122; (with_reducible refine (qal _ _ _ _).mono ?_); rintro e _ ⟨rfl, d3, os3, rfl⟩))
 go_at_call 126
 obtain ⟨r3, h3⟩ := qaj HR2.out
 have LCN := Lib.hid (Rt.loc (w := more w2 d3 os3) (lb := lb) (lo := lo) (cap := cap) (L := L) (nv := nv2) (show Rt b lb lo cap nv2 L m2 (N ++ (([] ++ []) ++ ns2)) 0 0 _ from zaw) (.cells #[.int .i64 24, .int .i64 v2, .int .i64 (-1), .int .i64 (-1), .int .i64 (-1), .int .i64 0, .string ⟨#[]⟩, .string ⟨#[]⟩] 34 (0, 0)))
 refine (qcg (show Rt b lb lo cap nv2 L m2 (N ++ (([] ++ []) ++ ns2)) 0 0 _ from zaw) _ _ HB.out r3 zda).mono ?_
 have HH := Lib.hid h3; clear h3
 rcases r3 with ⟨e1, e2⟩ | ⟨v3, m3, ns3⟩
 · rintro e wE ⟨hc, ⟨v, rfl, yq, rfl⟩, nvE, mE, NE, hsE, hkE⟩
   have HC := Lib.hid hc
   have HSE := Lib.hid hsE
   have HKE := Lib.hid (Kp.trans (show Kp b nv nv2 w _ from zaj) hkE)
   have LCE := Lib.hid (Loc.kp (show Loc b nv2 (more w2 d3 os3).heap.size (.cells #[.int .i64 24, .int .i64 v2, .int .i64 (-1), .int .i64 (-1), .int .i64 (-1), .int .i64 0, .string ⟨#[]⟩, .string ⟨#[]⟩] 34 (0, 0)) _ from zaz) hkE)
   clear LCN
   obtain ⟨kn, hkn⟩ : ∃ kn, (more w2 d3 os3).heap.size = kn := ⟨_, rfl⟩
   rw [hkn] at LCE
   have HKW : RowKit.Hid (w.heap.size ≤ kn) := Lib.hid zay
   have HLK : RowKit.Hid (lb ≠ kn) := Lib.hid zau
   simp only [more_size, World.size_setCell, World.size_alloc, Array.size_append] at hkn
   rw [hkn]
   clear hkn
   obtain ⟨n0, n1, n2, n3, n4, n5, n6, n7, z0, z1, z2, z3', z5, z6, z7, hkl⟩ := LCE.out.node
   clear hc hsE hkE
   go_wp2_with (first
    | ((go_at_call 125; (with_reducible refine (qad HC.out (show Rt b lb lo cap nvE L mE NE e1 e2 _ from zab) _ _ _ _ _ _ _ _).mono ?_); rintro e _ ⟨rfl, d6, os6, rfl⟩))
    | ((go_at_call 127; (with_reducible refine (qcD HC.out (show Rt b lb lo cap nvE L mE NE e1 e2 _ from zab) _ zaq).mono ?_); rintro e _ ⟨rfl, d9, os9, rfl⟩))
    | ((go_at_call 126; (with_reducible refine (qaq HC.out (show Rt b lb lo cap nvE L mE NE e1 e2 _ from zab) _).mono ?_); rintro e _ ⟨rfl, d2, os2, rfl⟩)))
   go_ret
   have := qak HR2.out HH.out
   subst this
   exact RPost.err (nv' := nvE) (m' := mE) (N' := NE) HC.out ⟨_, rfl⟩ zab zai
 rintro e w3 ⟨he, nv3, hs, hk, hm⟩
 unfold intV at he
 subst he
 have HR3 := Lib.hid (qaf HR2.out HH.out)
 have HS3 := Lib.hid (hs.cast (List.append_assoc _ _ _))
 have HM3 := Lib.hid (Nat.le_trans HM2.out hm)
 have HK3 := Lib.hid (Kp.trans (show Kp b nv nv2 w _ from zaj) hk)
 have LC3 := Lib.hid (Loc.kp (show Loc b nv2 (more w2 d3 os3).heap.size (.cells #[.int .i64 24, .int .i64 v2, .int .i64 (-1), .int .i64 (-1), .int .i64 (-1), .int .i64 0, .string ⟨#[]⟩, .string ⟨#[]⟩] 34 (0, 0)) _ from zaz) hk)
 clear LCN
 obtain ⟨kn, hkn⟩ : ∃ kn, (more w2 d3 os3).heap.size = kn := ⟨_, rfl⟩
 rw [hkn] at LC3
 have HKW : RowKit.Hid (w.heap.size ≤ kn) := Lib.hid zay
 have HLK : RowKit.Hid (lb ≠ kn) := Lib.hid zau
 simp only [more_size, World.size_setCell, World.size_alloc, Array.size_append] at hkn
 rw [hkn]
 clear hkn
 clear hs hk hm
 obtain ⟨n0, n1, n2, n3, n4, n5, n6, n7, z0, z1, z2, z3', z5, z6, z7, hkl⟩ := LC3.out.node
 go_wp2_with fail
 go_at_call 127
 obtain ⟨r4, h4⟩ := qaj HR3.out
 refine (rtake_any (show Rt b lb lo cap nv3 L m3 (N ++ ((([] ++ []) ++ ns2) ++ ns3)) 0 0 _ from zbh) _ zaq r4 zdh).mono ?_
 have HH := Lib.hid h4; clear h4
 rcases r4 with ⟨e1, e2⟩ | ⟨v4, m4, ns4⟩
 · rintro e wE ⟨hc, ⟨v, rfl, rfl⟩, nvE, mE, NE, hsE, hkE⟩
   have HC := Lib.hid hc
   have HSE := Lib.hid hsE
   have HKE := Lib.hid (Kp.trans (show Kp b nv nv3 w _ from zas) hkE)
   clear n0 n1 n2 n3 n4 n5 n6 n7 z0 z1 z2 z3' z5 z6 z7
   have LS : Loc b nv3 kn (.cells #[.int .i64 24, .int .i64 v2, .int .i64 v3, .int .i64 (-1), .int .i64 (-1), .int .i64 0, .string ⟨#[]⟩, .string ⟨#[]⟩] 34 (0, 0)) _ := (Loc.set LC3.out 2 (.int .i64 v3))
   have LCE := Lib.hid (Loc.kp (show Loc b nv3 kn (.cells #[.int .i64 24, .int .i64 v2, .int .i64 v3, .int .i64 (-1), .int .i64 (-1), .int .i64 0, .string ⟨#[]⟩, .string ⟨#[]⟩] 34 (0, 0)) _ from zag) hkE)
   clear LS
   obtain ⟨n0, n1, n2, n3, n4, n5, n6, n7, z0, z1, z2, z3', z5, z6, z7, hkl⟩ := LCE.out.node
   clear hc hsE hkE
   go_wp2_with (first
    | ((go_at_call 125; (with_reducible refine (qad HC.out (show Rt b lb lo cap nvE L mE NE e1 e2 _ from zab) _ _ _ _ _ _ _ _).mono ?_); rintro e _ ⟨rfl, d6, os6, rfl⟩))
    | ((go_at_call 126; (with_reducible refine (qaq HC.out (show Rt b lb lo cap nvE L mE NE e1 e2 _ from zab) _).mono ?_); rintro e _ ⟨rfl, d2, os2, rfl⟩)))
   go_ret
   have := qak HR3.out HH.out
   subst this
   exact RPost.err (nv' := nvE) (m' := mE) (N' := NE) HC.out ⟨_, rfl⟩ zab zai
 rintro e w4 ⟨he, nv4, hs, hk, hm⟩
 dsimp only at he
 subst he
 have HR4 := Lib.hid (qaf HR3.out HH.out)
 have HS4 := Lib.hid (hs.cast (List.append_assoc _ _ _))
 have HM4 := Lib.hid (Nat.le_trans HM3.out hm)
 have HK4 := Lib.hid (Kp.trans (show Kp b nv nv3 w _ from zas) hk)
 clear n0 n1 n2 n3 n4 n5 n6 n7 z0 z1 z2 z3' z5 z6 z7
 have LS : Loc b nv3 kn (.cells #[.int .i64 24, .int .i64 v2, .int .i64 v3, .int .i64 (-1), .int .i64 (-1), .int .i64 0, .string ⟨#[]⟩, .string ⟨#[]⟩] 34 (0, 0)) _ := (Loc.set LC3.out 2 (.int .i64 v3))
 have LC4 := Lib.hid (Loc.kp (show Loc b nv3 kn (.cells #[.int .i64 24, .int .i64 v2, .int .i64 v3, .int .i64 (-1), .int .i64 (-1), .int .i64 0, .string ⟨#[]⟩, .string ⟨#[]⟩] 34 (0, 0)) _ from zag) hk)
 clear LS
 clear hs hk hm
 obtain ⟨n0, n1, n2, n3, n4, n5, n6, n7, z0, z1, z2, z3', z5, z6, z7, hkl⟩ := LC4.out.node
 cases v4
 · have HR4 := Lib.hid (ite_f HR4.out)
   go_wp2_with fail
   go_at_call 125
   obtain ⟨r5, h5⟩ := qaC HR4.out
   refine (qaw (show Rt b lb lo cap nv4 L m4 (N ++ (((([] ++ []) ++ ns2) ++ ns3) ++ ns4)) 0 0 _ from zcd) _ _ _ _ _ _ _ _ r5 zdm).mono ?_
   have HH := Lib.hid h5; clear h5
   rcases r5 with ⟨e1, e2⟩ | ⟨v5, m5, ns5⟩
   · rintro e wE ⟨hc, ⟨v, rfl, yq, rfl⟩, nvE, mE, NE, hsE, hkE⟩
     have HC := Lib.hid hc
     have HSE := Lib.hid hsE
     have HKE := Lib.hid (Kp.trans (show Kp b nv nv4 w _ from zbd) hkE)
     clear n0 n1 n2 n3 n4 n5 n6 n7 z0 z1 z2 z3' z5 z6 z7
     have LS : Loc b nv4 kn (.cells #[.int .i64 24, .int .i64 v2, .int .i64 v3, .int .i64 (-1), .int .i64 (-1), .int .i64 0, .string ⟨#[]⟩, .string ⟨#[]⟩] 34 (0, 0)) _ := LC4.out
     have LCE := Lib.hid (Loc.kp (show Loc b nv4 kn (.cells #[.int .i64 24, .int .i64 v2, .int .i64 v3, .int .i64 (-1), .int .i64 (-1), .int .i64 0, .string ⟨#[]⟩, .string ⟨#[]⟩] 34 (0, 0)) _ from zag) hkE)
     clear LS
     obtain ⟨n0, n1, n2, n3, n4, n5, n6, n7, z0, z1, z2, z3', z5, z6, z7, hkl⟩ := LCE.out.node
     clear hc hsE hkE
     go_wp2_with (first
      | ((go_at_call 125; (with_reducible refine (qad HC.out (show Rt b lb lo cap nvE L mE NE e1 e2 _ from zab) _ _ _ _ _ _ _ _).mono ?_); rintro e _ ⟨rfl, d6, os6, rfl⟩))
      | ((go_at_call 126; (with_reducible refine (qaq HC.out (show Rt b lb lo cap nvE L mE NE e1 e2 _ from zab) _).mono ?_); rintro e _ ⟨rfl, d2, os2, rfl⟩)))
     go_ret
     have := qaO HR4.out HH.out
     subst this
     exact RPost.err (nv' := nvE) (m' := mE) (N' := NE) HC.out ⟨_, rfl⟩ zab zai
   rintro e w5 ⟨he, nv5, hs, hk, hm⟩
   unfold intV at he
   subst he
   have HS5 := Lib.hid (hs.cast (List.append_assoc _ _ _))
   have HM5 := Lib.hid (Nat.le_trans HM4.out hm)
   have HK5 := Lib.hid (Kp.trans (show Kp b nv nv4 w _ from zbd) hk)
   clear n0 n1 n2 n3 n4 n5 n6 n7 z0 z1 z2 z3' z5 z6 z7
   have LS : Loc b nv4 kn (.cells #[.int .i64 24, .int .i64 v2, .int .i64 v3, .int .i64 (-1), .int .i64 (-1), .int .i64 0, .string ⟨#[]⟩, .string ⟨#[]⟩] 34 (0, 0)) _ := LC4.out
   have LC5 := Lib.hid (Loc.kp (show Loc b nv4 kn (.cells #[.int .i64 24, .int .i64 v2, .int .i64 v3, .int .i64 (-1), .int .i64 (-1), .int .i64 0, .string ⟨#[]⟩, .string ⟨#[]⟩] 34 (0, 0)) _ from zag) hk)
   clear LS
   clear hs hk hm
   go_wp2_with fail
   go_ret
   have := qaX HR4.out HH.out
   subst this
   exact RPost.res rfl HS5.out HK5.out HM5.out
 · have HR4 := Lib.hid (ite_t HR4.out)
   go_wp2_with fail
   go_at_call 126
   obtain ⟨r5, h5⟩ := qaj HR4.out
   refine (qcg (show Rt b lb lo cap nv4 L m4 (N ++ (((([] ++ []) ++ ns2) ++ ns3) ++ ns4)) 0 0 _ from zcd) _ _ HB.out r5 zdm).mono ?_
   have HH := Lib.hid h5; clear h5
   rcases r5 with ⟨e1, e2⟩ | ⟨v5, m5, ns5⟩
   · rintro e wE ⟨hc, ⟨v, rfl, yq, rfl⟩, nvE, mE, NE, hsE, hkE⟩
     have HC := Lib.hid hc
     have HSE := Lib.hid hsE
     have HKE := Lib.hid (Kp.trans (show Kp b nv nv4 w _ from zbd) hkE)
     clear n0 n1 n2 n3 n4 n5 n6 n7 z0 z1 z2 z3' z5 z6 z7
     have LS : Loc b nv4 kn (.cells #[.int .i64 24, .int .i64 v2, .int .i64 v3, .int .i64 (-1), .int .i64 (-1), .int .i64 1, .string ⟨#[]⟩, .string ⟨#[]⟩] 34 (0, 0)) _ := (Loc.set LC4.out 5 (.int .i64 1))
     have LCE := Lib.hid (Loc.kp (show Loc b nv4 kn (.cells #[.int .i64 24, .int .i64 v2, .int .i64 v3, .int .i64 (-1), .int .i64 (-1), .int .i64 1, .string ⟨#[]⟩, .string ⟨#[]⟩] 34 (0, 0)) _ from zag) hkE)
     clear LS
     obtain ⟨n0, n1, n2, n3, n4, n5, n6, n7, z0, z1, z2, z3', z5, z6, z7, hkl⟩ := LCE.out.node
     clear hc hsE hkE
     go_wp2_with ((go_at_call 125; (with_reducible refine (qad HC.out (show Rt b lb lo cap nvE L mE NE e1 e2 _ from zab) _ _ _ _ _ _ _ _).mono ?_); rintro e _ ⟨rfl, d6, os6, rfl⟩))
     go_ret
     have := qak HR4.out HH.out
     subst this
     exact RPost.err (nv' := nvE) (m' := mE) (N' := NE) HC.out ⟨_, rfl⟩ zab zai
   rintro e w5 ⟨he, nv5, hs, hk, hm⟩
   unfold intV at he
   subst he
   have HR5 := Lib.hid (qaf HR4.out HH.out)
   have HS5 := Lib.hid (hs.cast (List.append_assoc _ _ _))
   have HM5 := Lib.hid (Nat.le_trans HM4.out hm)
   have HK5 := Lib.hid (Kp.trans (show Kp b nv nv4 w _ from zbd) hk)
   clear n0 n1 n2 n3 n4 n5 n6 n7 z0 z1 z2 z3' z5 z6 z7
   have LS : Loc b nv4 kn (.cells #[.int .i64 24, .int .i64 v2, .int .i64 v3, .int .i64 (-1), .int .i64 (-1), .int .i64 1, .string ⟨#[]⟩, .string ⟨#[]⟩] 34 (0, 0)) _ := (Loc.set LC4.out 5 (.int .i64 1))
   have LC5 := Lib.hid (Loc.kp (show Loc b nv4 kn (.cells #[.int .i64 24, .int .i64 v2, .int .i64 v3, .int .i64 (-1), .int .i64 (-1), .int .i64 1, .string ⟨#[]⟩, .string ⟨#[]⟩] 34 (0, 0)) _ from zag) hk)
   clear LS
   clear hs hk hm
   obtain ⟨n0, n1, n2, n3, n4, n5, n6, n7, z0, z1, z2, z3', z5, z6, z7, hkl⟩ := LC5.out.node
   go_wp2_with fail
   go_at_call 125
   obtain ⟨r6, h6⟩ := qaC HR5.out
   refine (qaw (show Rt b lb lo cap nv5 L m5 (N ++ ((((([] ++ []) ++ ns2) ++ ns3) ++ ns4) ++ ns5)) 0 0 _ from zcr) _ _ _ _ _ _ _ _ r6 (by rw [List.length_append]; exact h6)).mono ?_
   have HH := Lib.hid h6; clear h6
   rcases r6 with ⟨e1, e2⟩ | ⟨v6, m6, ns6⟩
   · rintro e wE ⟨hc, ⟨v, rfl, yq, rfl⟩, nvE, mE, NE, hsE, hkE⟩
     have HC := Lib.hid hc
     have HSE := Lib.hid hsE
     have HKE := Lib.hid (Kp.trans (show Kp b nv nv5 w _ from zbr) hkE)
     clear n0 n1 n2 n3 n4 n5 n6 n7 z0 z1 z2 z3' z5 z6 z7
     have LS : Loc b nv5 kn (.cells #[.int .i64 24, .int .i64 v2, .int .i64 v3, .int .i64 v5, .int .i64 (-1), .int .i64 1, .string ⟨#[]⟩, .string ⟨#[]⟩] 34 (0, 0)) _ := (Loc.set LC5.out 3 (.int .i64 v5))
     have LCE := Lib.hid (Loc.kp (show Loc b nv5 kn (.cells #[.int .i64 24, .int .i64 v2, .int .i64 v3, .int .i64 v5, .int .i64 (-1), .int .i64 1, .string ⟨#[]⟩, .string ⟨#[]⟩] 34 (0, 0)) _ from zag) hkE)
     clear LS
     obtain ⟨n0, n1, n2, n3, n4, n5, n6, n7, z0, z1, z2, z3', z5, z6, z7, hkl⟩ := LCE.out.node
     clear hc hsE hkE
     go_wp2_with fail
     go_ret
     have := qaO HR5.out HH.out
     subst this
     exact RPost.err (nv' := nvE) (m' := mE) (N' := NE) HC.out ⟨_, rfl⟩ zab zai
   rintro e w6 ⟨he, nv6, hs, hk, hm⟩
   unfold intV at he
   subst he
   have HS6 := Lib.hid (hs.cast (List.append_assoc _ _ _))
   have HM6 := Lib.hid (Nat.le_trans HM5.out hm)
   have HK6 := Lib.hid (Kp.trans (show Kp b nv nv5 w _ from zbr) hk)
   clear n0 n1 n2 n3 n4 n5 n6 n7 z0 z1 z2 z3' z5 z6 z7
   have LS : Loc b nv5 kn (.cells #[.int .i64 24, .int .i64 v2, .int .i64 v3, .int .i64 v5, .int .i64 (-1), .int .i64 1, .string ⟨#[]⟩, .string ⟨#[]⟩] 34 (0, 0)) _ := (Loc.set LC5.out 3 (.int .i64 v5))
   have LC6 := Lib.hid (Loc.kp (show Loc b nv5 kn (.cells #[.int .i64 24, .int .i64 v2, .int .i64 v3, .int .i64 v5, .int .i64 (-1), .int .i64 1, .string ⟨#[]⟩, .string ⟨#[]⟩] 34 (0, 0)) _ from zag) hk)
   clear LS
   clear hs hk hm
   go_wp2_with fail
   go_ret
   have := qaX HR5.out HH.out
   subst this
   exact RPost.res rfl HS6.out HK6.out HM6.out
set_option maxHeartbeats 4000000 in
set_option maxRecDepth 20000 in
theorem rstmt_for {b lb lo cap : Nat} {nv : Value} {L : Toks} {m : Nat} {N : List Nd} {w : World} (h : Rt b lb lo cap nv L m N 0 0 w) (hk5 : (tk L m).1.k = 5) (hs : (tk L m).1.s.toList = [102, 111, 114]) (d : Nat) (hd : d ≤ 16) (ex : PM Int) (he : RDp b lb lo cap L 124 (d : Int) ex) (bk : PM Int) (hb : RDp b lb lo cap L 83 ((d : Int) + 1) bk) (r : PR Int) (hr : eachP L ex (qbF L bk) m N.length = r) :
  Calls Tryz.prog 113 #[.pointer (some ⟨b, 0, none⟩), .int .i64 (d : Int)] w (RPost intV isInt b lb lo cap nv L m N w r) := by
 have hd0 : 0 ≤ (d : Int) := by omega
 have hd1 : (d : Int) ≤ 16 := by omega
 have HE := Lib.hid he
 clear he
 have HB := Lib.hid hb
 clear hb
 have q_let : ((tk L m).1.s.toList == [108, 101, 116]) = false := by rw [hs]; decide
 have q_set : ((tk L m).1.s.toList == [115, 101, 116]) = false := by rw [hs]; decide
 have q_put : ((tk L m).1.s.toList == [112, 117, 116]) = false := by rw [hs]; decide
 have q_if : ((tk L m).1.s.toList == [105, 102]) = false := by rw [hs]; decide
 have q_for : ((tk L m).1.s.toList == [102, 111, 114]) = true := by rw [hs]; decide
 have q_repeat : ((tk L m).1.s.toList == [114, 101, 112, 101, 97, 116]) = false := by rw [hs]; decide
 have q_delete : ((tk L m).1.s.toList == [100, 101, 108, 101, 116, 101]) = false := by rw [hs]; decide
 have q_abort : ((tk L m).1.s.toList == [97, 98, 111, 114, 116]) = false := by rw [hs]; decide
 have hk5 := hk5
 have HS0 := Lib.hid (h.cast (List.append_nil N).symm)
 have HK0 := Lib.hid (Kp.refl b nv w)
 have HM0 := Lib.hid (Nat.le_refl m)
 have HR0 := Lib.hid (qaz hr)
 unfold eachP at HR0
 obtain ⟨ts, hts⟩ : ∃ ts, (tk L m).1.s = ts := ⟨_, rfl⟩
 have HTS := Lib.hid hts
 rw [hts] at q_let
 rw [hts] at q_set
 rw [hts] at q_put
 rw [hts] at q_if
 rw [hts] at q_for
 rw [hts] at q_repeat
 rw [hts] at q_delete
 rw [hts] at q_abort
 clear h hr hs hts
 simp only [must3_bind, qbg] at HR0
 go_enter Tryz.func113, Tryz.ntmps113
 go_wp2_with fail
 go_at_call 121
 have h1 := qbu (n := N.length + ([] : List Nd).length) hk5
 refine (qaT (show Rt b lb lo cap nv L m (N ++ []) 0 0 _ from zbs) 5 zaq _ (Eq.trans (by rw [List.length_append]) h1)).mono ?_
 have HH := Lib.hid h1; clear h1
 rintro e w1 ⟨he, nv1, hs, hk, hm⟩
 dsimp only at he
 unfold tokV at he
 subst he
 have HR1 := Lib.hid (qaf HR0.out (show skipP m _ = .ok ((), m + 1, []) from rfl))
 have HS1 := Lib.hid (hs.cast (List.append_assoc _ _ _))
 have HM1 := Lib.hid (Nat.le_trans HM0.out hm)
 have HK1 := Lib.hid (Kp.trans (show Kp b nv nv w _ from zbe) hk)
 clear hs hk hm
 rw [HTS.out]
 go_wp2_with ((go_at_call 122; (with_reducible refine (qal _ _ _ _).mono ?_); rintro e _ ⟨rfl, d3, os3, rfl⟩))
 go_at_call 121
 obtain ⟨r2, h2⟩ := qaj HR1.out
 have LCN := Lib.hid (Rt.loc (w := more w1 d3 os3) (lb := lb) (lo := lo) (cap := cap) (L := L) (nv := nv1) (show Rt b lb lo cap nv1 L (m + 1) (N ++ ([] ++ [])) 0 0 _ from zao) (.cells #[.int .i64 25, .int .i64 (-1), .int .i64 (-1), .int .i64 (-1), .int .i64 (-1), .int .i64 0, .string ⟨#[]⟩, .string ⟨#[]⟩] 34 (0, 0)))
 refine (qaT (show Rt b lb lo cap nv1 L (m + 1) (N ++ ([] ++ [])) 0 0 _ from zao) 1 zaq r2 zcl).mono ?_
 have HH := Lib.hid h2; clear h2
 rcases r2 with ⟨e1, e2⟩ | ⟨v2, m2, ns2⟩
 · rintro e wE ⟨hc, ⟨v, rfl, kq, aq, sq, iq, rfl⟩, nvE, mE, NE, hsE, hkE⟩
   have HC := Lib.hid hc
   have HSE := Lib.hid hsE
   have HKE := Lib.hid (Kp.trans (show Kp b nv nv1 w _ from zaf) hkE)
   have LCE := Lib.hid (Loc.kp (show Loc b nv1 (more w1 d3 os3).heap.size (.cells #[.int .i64 25, .int .i64 (-1), .int .i64 (-1), .int .i64 (-1), .int .i64 (-1), .int .i64 0, .string ⟨#[]⟩, .string ⟨#[]⟩] 34 (0, 0)) _ from zaz) hkE)
   clear LCN
   obtain ⟨kn, hkn⟩ : ∃ kn, (more w1 d3 os3).heap.size = kn := ⟨_, rfl⟩
   rw [hkn] at LCE
   have HKW : RowKit.Hid (w.heap.size ≤ kn) := Lib.hid zax
   have HLK : RowKit.Hid (lb ≠ kn) := Lib.hid zat
   simp only [more_size, World.size_setCell, World.size_alloc, Array.size_append] at hkn
   rw [hkn]
   clear hkn
   obtain ⟨n0, n1, n2, n3, n4, n5, n6, n7, z0, z1, z2, z3', z5, z6, z7, hkl⟩ := LCE.out.node
   clear hc hsE hkE
   go_wp2_with (first
    | ((go_at_call 125; (with_reducible refine (qad HC.out (show Rt b lb lo cap nvE L mE NE e1 e2 _ from zab) _ _ _ _ _ _ _ _).mono ?_); rintro e _ ⟨rfl, d6, os6, rfl⟩))
    | ((go_at_call 123; (with_reducible refine (qam HC.out (show Rt b lb lo cap nvE L mE NE e1 e2 _ from zab) _ zaq).mono ?_); rintro e _ ⟨rfl, d7, os7, rfl⟩))
    | ((go_at_call 124; (with_reducible refine (qaB HC.out (show Rt b lb lo cap nvE L mE NE e1 e2 _ from zab) _).mono ?_); rintro e _ ⟨rfl, d8, os8, rfl⟩))
    | ((go_at_call 121; (with_reducible refine (qcy HC.out (show Rt b lb lo cap nvE L mE NE e1 e2 _ from zab) _).mono ?_); rintro e _ ⟨rfl, d5, os5, rfl⟩))
    | ((go_at_call 128; (with_reducible refine (qaV HC.out (show Rt b lb lo cap nvE L mE NE e1 e2 _ from zab)).mono ?_); rintro e _ ⟨rfl, d4, os4, rfl⟩))
    | ((go_at_call 126; (with_reducible refine (qaq HC.out (show Rt b lb lo cap nvE L mE NE e1 e2 _ from zab) _).mono ?_); rintro e _ ⟨rfl, d2, os2, rfl⟩)))
   go_ret
   have := qak HR1.out HH.out
   subst this
   exact RPost.err (nv' := nvE) (m' := mE) (N' := NE) HC.out ⟨_, rfl⟩ zab zai
 rintro e w2 ⟨he, nv2, hs, hk, hm⟩
 dsimp only at he
 unfold tokV at he
 subst he
 have HR2 := Lib.hid (qaf HR1.out HH.out)
 have HS2 := Lib.hid (hs.cast (List.append_assoc _ _ _))
 have HM2 := Lib.hid (Nat.le_trans HM1.out hm)
 have HK2 := Lib.hid (Kp.trans (show Kp b nv nv1 w _ from zaf) hk)
 have LC2 := Lib.hid (Loc.kp (show Loc b nv1 (more w1 d3 os3).heap.size (.cells #[.int .i64 25, .int .i64 (-1), .int .i64 (-1), .int .i64 (-1), .int .i64 (-1), .int .i64 0, .string ⟨#[]⟩, .string ⟨#[]⟩] 34 (0, 0)) _ from zaz) hk)
 clear LCN
 obtain ⟨kn, hkn⟩ : ∃ kn, (more w1 d3 os3).heap.size = kn := ⟨_, rfl⟩
 rw [hkn] at LC2
 have HKW : RowKit.Hid (w.heap.size ≤ kn) := Lib.hid zax
 have HLK : RowKit.Hid (lb ≠ kn) := Lib.hid zat
 simp only [more_size, World.size_setCell, World.size_alloc, Array.size_append] at hkn
 rw [hkn]
 clear hkn
 clear hs hk hm
 obtain ⟨n0, n1, n2, n3, n4, n5, n6, n7, z0, z1, z2, z3', z5, z6, z7, hkl⟩ := LC2.out.node
 go_wp2_with fail
 go_at_call 123
 obtain ⟨r3, h3⟩ := qaj HR2.out
 refine (qao (show Rt b lb lo cap nv2 L m2 (N ++ (([] ++ []) ++ ns2)) 0 0 _ from zcq) _ zaq r3 zda).mono ?_
 have HH := Lib.hid h3; clear h3
 rcases r3 with ⟨e1, e2⟩ | ⟨v3, m3, ns3⟩
 · rintro e wE ⟨hc, ⟨v, rfl, rfl⟩, nvE, mE, NE, hsE, hkE⟩
   have HC := Lib.hid hc
   have HSE := Lib.hid hsE
   have HKE := Lib.hid (Kp.trans (show Kp b nv nv2 w _ from zbq) hkE)
   clear n0 n1 n2 n3 n4 n5 n6 n7 z0 z1 z2 z3' z5 z6 z7
   have LS : Loc b nv2 kn (.cells #[.int .i64 25, .int .i64 (-1), .int .i64 (-1), .int .i64 (-1), .int .i64 (-1), .int .i64 0, .string v2.s, .string ⟨#[]⟩] 34 (0, 0)) _ := (Loc.set LC2.out 6 (.string v2.s))
   have LCE := Lib.hid (Loc.kp (show Loc b nv2 kn (.cells #[.int .i64 25, .int .i64 (-1), .int .i64 (-1), .int .i64 (-1), .int .i64 (-1), .int .i64 0, .string v2.s, .string ⟨#[]⟩] 34 (0, 0)) _ from zag) hkE)
   clear LS
   obtain ⟨n0, n1, n2, n3, n4, n5, n6, n7, z0, z1, z2, z3', z5, z6, z7, hkl⟩ := LCE.out.node
   clear hc hsE hkE
   go_wp2_with (first
    | ((go_at_call 125; (with_reducible refine (qad HC.out (show Rt b lb lo cap nvE L mE NE e1 e2 _ from zab) _ _ _ _ _ _ _ _).mono ?_); rintro e _ ⟨rfl, d6, os6, rfl⟩))
    | ((go_at_call 123; (with_reducible refine (qam HC.out (show Rt b lb lo cap nvE L mE NE e1 e2 _ from zab) _ zaq).mono ?_); rintro e _ ⟨rfl, d7, os7, rfl⟩))
    | ((go_at_call 124; (with_reducible refine (qaB HC.out (show Rt b lb lo cap nvE L mE NE e1 e2 _ from zab) _).mono ?_); rintro e _ ⟨rfl, d8, os8, rfl⟩))
    | ((go_at_call 121; (with_reducible refine (qcy HC.out (show Rt b lb lo cap nvE L mE NE e1 e2 _ from zab) _).mono ?_); rintro e _ ⟨rfl, d5, os5, rfl⟩))
    | ((go_at_call 128; (with_reducible refine (qaV HC.out (show Rt b lb lo cap nvE L mE NE e1 e2 _ from zab)).mono ?_); rintro e _ ⟨rfl, d4, os4, rfl⟩))
    | ((go_at_call 126; (with_reducible refine (qaq HC.out (show Rt b lb lo cap nvE L mE NE e1 e2 _ from zab) _).mono ?_); rintro e _ ⟨rfl, d2, os2, rfl⟩)))
   go_ret
   have := qak HR2.out HH.out
   subst this
   exact RPost.err (nv' := nvE) (m' := mE) (N' := NE) HC.out ⟨_, rfl⟩ zab zai
 rintro e w3 ⟨he, nv3, hs, hk, hm⟩
 unfold unitV at he
 subst he
 have HR3 := Lib.hid (qaf HR2.out HH.out)
 have HS3 := Lib.hid (hs.cast (List.append_assoc _ _ _))
 have HM3 := Lib.hid (Nat.le_trans HM2.out hm)
 have HK3 := Lib.hid (Kp.trans (show Kp b nv nv2 w _ from zbq) hk)
 clear n0 n1 n2 n3 n4 n5 n6 n7 z0 z1 z2 z3' z5 z6 z7
 have LS : Loc b nv2 kn (.cells #[.int .i64 25, .int .i64 (-1), .int .i64 (-1), .int .i64 (-1), .int .i64 (-1), .int .i64 0, .string v2.s, .string ⟨#[]⟩] 34 (0, 0)) _ := (Loc.set LC2.out 6 (.string v2.s))
 have LC3 := Lib.hid (Loc.kp (show Loc b nv2 kn (.cells #[.int .i64 25, .int .i64 (-1), .int .i64 (-1), .int .i64 (-1), .int .i64 (-1), .int .i64 0, .string v2.s, .string ⟨#[]⟩] 34 (0, 0)) _ from zag) hk)
 clear LS
 clear hs hk hm
 obtain ⟨n0, n1, n2, n3, n4, n5, n6, n7, z0, z1, z2, z3', z5, z6, z7, hkl⟩ := LC3.out.node
 go_wp2_with fail
 go_at_call 121
 obtain ⟨r4, h4⟩ := qaj HR3.out
 refine (qaT (show Rt b lb lo cap nv3 L m3 (N ++ ((([] ++ []) ++ ns2) ++ ns3)) 0 0 _ from zbh) 1 zaq r4 zdh).mono ?_
 have HH := Lib.hid h4; clear h4
 rcases r4 with ⟨e1, e2⟩ | ⟨v4, m4, ns4⟩
 · rintro e wE ⟨hc, ⟨v, rfl, kq, aq, sq, iq, rfl⟩, nvE, mE, NE, hsE, hkE⟩
   have HC := Lib.hid hc
   have HSE := Lib.hid hsE
   have HKE := Lib.hid (Kp.trans (show Kp b nv nv3 w _ from zas) hkE)
   clear n0 n1 n2 n3 n4 n5 n6 n7 z0 z1 z2 z3' z5 z6 z7
   have LS : Loc b nv3 kn (.cells #[.int .i64 25, .int .i64 (-1), .int .i64 (-1), .int .i64 (-1), .int .i64 (-1), .int .i64 0, .string v2.s, .string ⟨#[]⟩] 34 (0, 0)) _ := LC3.out
   have LCE := Lib.hid (Loc.kp (show Loc b nv3 kn (.cells #[.int .i64 25, .int .i64 (-1), .int .i64 (-1), .int .i64 (-1), .int .i64 (-1), .int .i64 0, .string v2.s, .string ⟨#[]⟩] 34 (0, 0)) _ from zag) hkE)
   clear LS
   obtain ⟨n0, n1, n2, n3, n4, n5, n6, n7, z0, z1, z2, z3', z5, z6, z7, hkl⟩ := LCE.out.node
   clear hc hsE hkE
   go_wp2_with (first
    | ((go_at_call 125; (with_reducible refine (qad HC.out (show Rt b lb lo cap nvE L mE NE e1 e2 _ from zab) _ _ _ _ _ _ _ _).mono ?_); rintro e _ ⟨rfl, d6, os6, rfl⟩))
    | ((go_at_call 123; (with_reducible refine (qam HC.out (show Rt b lb lo cap nvE L mE NE e1 e2 _ from zab) _ zaq).mono ?_); rintro e _ ⟨rfl, d7, os7, rfl⟩))
    | ((go_at_call 124; (with_reducible refine (qaB HC.out (show Rt b lb lo cap nvE L mE NE e1 e2 _ from zab) _).mono ?_); rintro e _ ⟨rfl, d8, os8, rfl⟩))
    | ((go_at_call 128; (with_reducible refine (qaV HC.out (show Rt b lb lo cap nvE L mE NE e1 e2 _ from zab)).mono ?_); rintro e _ ⟨rfl, d4, os4, rfl⟩))
    | ((go_at_call 126; (with_reducible refine (qaq HC.out (show Rt b lb lo cap nvE L mE NE e1 e2 _ from zab) _).mono ?_); rintro e _ ⟨rfl, d2, os2, rfl⟩)))
   go_ret
   have := qak HR3.out HH.out
   subst this
   exact RPost.err (nv' := nvE) (m' := mE) (N' := NE) HC.out ⟨_, rfl⟩ zab zai
 rintro e w4 ⟨he, nv4, hs, hk, hm⟩
 dsimp only at he
 unfold tokV at he
 subst he
 have HR4 := Lib.hid (qaf HR3.out HH.out)
 have HS4 := Lib.hid (hs.cast (List.append_assoc _ _ _))
 have HM4 := Lib.hid (Nat.le_trans HM3.out hm)
 have HK4 := Lib.hid (Kp.trans (show Kp b nv nv3 w _ from zas) hk)
 clear n0 n1 n2 n3 n4 n5 n6 n7 z0 z1 z2 z3' z5 z6 z7
 have LS : Loc b nv3 kn (.cells #[.int .i64 25, .int .i64 (-1), .int .i64 (-1), .int .i64 (-1), .int .i64 (-1), .int .i64 0, .string v2.s, .string ⟨#[]⟩] 34 (0, 0)) _ := LC3.out
 have LC4 := Lib.hid (Loc.kp (show Loc b nv3 kn (.cells #[.int .i64 25, .int .i64 (-1), .int .i64 (-1), .int .i64 (-1), .int .i64 (-1), .int .i64 0, .string v2.s, .string ⟨#[]⟩] 34 (0, 0)) _ from zag) hk)
 clear LS
 clear hs hk hm
 obtain ⟨n0, n1, n2, n3, n4, n5, n6, n7, z0, z1, z2, z3', z5, z6, z7, hkl⟩ := LC4.out.node
 go_wp2_with fail
 go_at_call 123
 obtain ⟨r5, h5⟩ := qaj HR4.out
 refine (qao (show Rt b lb lo cap nv4 L m4 (N ++ (((([] ++ []) ++ ns2) ++ ns3) ++ ns4)) 0 0 _ from zcd) _ zaq r5 zdm).mono ?_
 have HH := Lib.hid h5; clear h5
 rcases r5 with ⟨e1, e2⟩ | ⟨v5, m5, ns5⟩
 · rintro e wE ⟨hc, ⟨v, rfl, rfl⟩, nvE, mE, NE, hsE, hkE⟩
   have HC := Lib.hid hc
   have HSE := Lib.hid hsE
   have HKE := Lib.hid (Kp.trans (show Kp b nv nv4 w _ from zbd) hkE)
   clear n0 n1 n2 n3 n4 n5 n6 n7 z0 z1 z2 z3' z5 z6 z7
   have LS : Loc b nv4 kn (.cells #[.int .i64 25, .int .i64 (-1), .int .i64 (-1), .int .i64 (-1), .int .i64 (-1), .int .i64 0, .string v2.s, .string v4.s] 34 (0, 0)) _ := (Loc.set LC4.out 7 (.string v4.s))
   have LCE := Lib.hid (Loc.kp (show Loc b nv4 kn (.cells #[.int .i64 25, .int .i64 (-1), .int .i64 (-1), .int .i64 (-1), .int .i64 (-1), .int .i64 0, .string v2.s, .string v4.s] 34 (0, 0)) _ from zag) hkE)
   clear LS
   obtain ⟨n0, n1, n2, n3, n4, n5, n6, n7, z0, z1, z2, z3', z5, z6, z7, hkl⟩ := LCE.out.node
   clear hc hsE hkE
   go_wp2_with (first
    | ((go_at_call 125; (with_reducible refine (qad HC.out (show Rt b lb lo cap nvE L mE NE e1 e2 _ from zab) _ _ _ _ _ _ _ _).mono ?_); rintro e _ ⟨rfl, d6, os6, rfl⟩))
    | ((go_at_call 123; (with_reducible refine (qam HC.out (show Rt b lb lo cap nvE L mE NE e1 e2 _ from zab) _ zaq).mono ?_); rintro e _ ⟨rfl, d7, os7, rfl⟩))
    | ((go_at_call 124; (with_reducible refine (qaB HC.out (show Rt b lb lo cap nvE L mE NE e1 e2 _ from zab) _).mono ?_); rintro e _ ⟨rfl, d8, os8, rfl⟩))
    | ((go_at_call 128; (with_reducible refine (qaV HC.out (show Rt b lb lo cap nvE L mE NE e1 e2 _ from zab)).mono ?_); rintro e _ ⟨rfl, d4, os4, rfl⟩))
    | ((go_at_call 126; (with_reducible refine (qaq HC.out (show Rt b lb lo cap nvE L mE NE e1 e2 _ from zab) _).mono ?_); rintro e _ ⟨rfl, d2, os2, rfl⟩)))
   go_ret
   have := qak HR4.out HH.out
   subst this
   exact RPost.err (nv' := nvE) (m' := mE) (N' := NE) HC.out ⟨_, rfl⟩ zab zai
 rintro e w5 ⟨he, nv5, hs, hk, hm⟩
 unfold unitV at he
 subst he
 have HR5 := Lib.hid (qaf HR4.out HH.out)
 have HS5 := Lib.hid (hs.cast (List.append_assoc _ _ _))
 have HM5 := Lib.hid (Nat.le_trans HM4.out hm)
 have HK5 := Lib.hid (Kp.trans (show Kp b nv nv4 w _ from zbd) hk)
 clear n0 n1 n2 n3 n4 n5 n6 n7 z0 z1 z2 z3' z5 z6 z7
 have LS : Loc b nv4 kn (.cells #[.int .i64 25, .int .i64 (-1), .int .i64 (-1), .int .i64 (-1), .int .i64 (-1), .int .i64 0, .string v2.s, .string v4.s] 34 (0, 0)) _ := (Loc.set LC4.out 7 (.string v4.s))
 have LC5 := Lib.hid (Loc.kp (show Loc b nv4 kn (.cells #[.int .i64 25, .int .i64 (-1), .int .i64 (-1), .int .i64 (-1), .int .i64 (-1), .int .i64 0, .string v2.s, .string v4.s] 34 (0, 0)) _ from zag) hk)
 clear LS
 clear hs hk hm
 obtain ⟨n0, n1, n2, n3, n4, n5, n6, n7, z0, z1, z2, z3', z5, z6, z7, hkl⟩ := LC5.out.node
 go_wp2_with fail
 go_at_call 123
 obtain ⟨r6, h6⟩ := qaj HR5.out
 refine (qao (show Rt b lb lo cap nv5 L m5 (N ++ ((((([] ++ []) ++ ns2) ++ ns3) ++ ns4) ++ ns5)) 0 0 _ from zcr) _ zaq r6 (by rw [List.length_append]; exact h6)).mono ?_
 have HH := Lib.hid h6; clear h6
 rcases r6 with ⟨e1, e2⟩ | ⟨v6, m6, ns6⟩
 · rintro e wE ⟨hc, ⟨v, rfl, rfl⟩, nvE, mE, NE, hsE, hkE⟩
   have HC := Lib.hid hc
   have HSE := Lib.hid hsE
   have HKE := Lib.hid (Kp.trans (show Kp b nv nv5 w _ from zbr) hkE)
   clear n0 n1 n2 n3 n4 n5 n6 n7 z0 z1 z2 z3' z5 z6 z7
   have LS : Loc b nv5 kn (.cells #[.int .i64 25, .int .i64 (-1), .int .i64 (-1), .int .i64 (-1), .int .i64 (-1), .int .i64 0, .string v2.s, .string v4.s] 34 (0, 0)) _ := LC5.out
   have LCE := Lib.hid (Loc.kp (show Loc b nv5 kn (.cells #[.int .i64 25, .int .i64 (-1), .int .i64 (-1), .int .i64 (-1), .int .i64 (-1), .int .i64 0, .string v2.s, .string v4.s] 34 (0, 0)) _ from zag) hkE)
   clear LS
   obtain ⟨n0, n1, n2, n3, n4, n5, n6, n7, z0, z1, z2, z3', z5, z6, z7, hkl⟩ := LCE.out.node
   clear hc hsE hkE
   go_wp2_with (first
    | ((go_at_call 125; (with_reducible refine (qad HC.out (show Rt b lb lo cap nvE L mE NE e1 e2 _ from zab) _ _ _ _ _ _ _ _).mono ?_); rintro e _ ⟨rfl, d6, os6, rfl⟩))
    | ((go_at_call 123; (with_reducible refine (qam HC.out (show Rt b lb lo cap nvE L mE NE e1 e2 _ from zab) _ zaq).mono ?_); rintro e _ ⟨rfl, d7, os7, rfl⟩))
    | ((go_at_call 124; (with_reducible refine (qaB HC.out (show Rt b lb lo cap nvE L mE NE e1 e2 _ from zab) _).mono ?_); rintro e _ ⟨rfl, d8, os8, rfl⟩))
    | ((go_at_call 128; (with_reducible refine (qaV HC.out (show Rt b lb lo cap nvE L mE NE e1 e2 _ from zab)).mono ?_); rintro e _ ⟨rfl, d4, os4, rfl⟩))
    | ((go_at_call 126; (with_reducible refine (qaq HC.out (show Rt b lb lo cap nvE L mE NE e1 e2 _ from zab) _).mono ?_); rintro e _ ⟨rfl, d2, os2, rfl⟩)))
   go_ret
   have := qak HR5.out HH.out
   subst this
   exact RPost.err (nv' := nvE) (m' := mE) (N' := NE) HC.out ⟨_, rfl⟩ zab zai
 rintro e w6 ⟨he, nv6, hs, hk, hm⟩
 unfold unitV at he
 subst he
 have HR6 := Lib.hid (qaf HR5.out HH.out)
 have HS6 := Lib.hid (hs.cast (List.append_assoc _ _ _))
 have HM6 := Lib.hid (Nat.le_trans HM5.out hm)
 have HK6 := Lib.hid (Kp.trans (show Kp b nv nv5 w _ from zbr) hk)
 clear n0 n1 n2 n3 n4 n5 n6 n7 z0 z1 z2 z3' z5 z6 z7
 have LS : Loc b nv5 kn (.cells #[.int .i64 25, .int .i64 (-1), .int .i64 (-1), .int .i64 (-1), .int .i64 (-1), .int .i64 0, .string v2.s, .string v4.s] 34 (0, 0)) _ := LC5.out
 have LC6 := Lib.hid (Loc.kp (show Loc b nv5 kn (.cells #[.int .i64 25, .int .i64 (-1), .int .i64 (-1), .int .i64 (-1), .int .i64 (-1), .int .i64 0, .string v2.s, .string v4.s] 34 (0, 0)) _ from zag) hk)
 clear LS
 clear hs hk hm
 obtain ⟨n0, n1, n2, n3, n4, n5, n6, n7, z0, z1, z2, z3', z5, z6, z7, hkl⟩ := LC6.out.node
 go_wp2_with fail
 go_at_call 123
 obtain ⟨r7, h7⟩ := qaj HR6.out
 refine (qao (show Rt b lb lo cap nv6 L m6 (N ++ (((((([] ++ []) ++ ns2) ++ ns3) ++ ns4) ++ ns5) ++ ns6)) 0 0 _ from (by repeat (first | (with_reducible exact HS6.out) | (with_reducible apply Rt.alloc) | (with_reducible apply Rt.more) | (refine Rt.setAny ?_ LC6.out.ne HLK.out LC6.out.nr _ _)))) _ zaq r7 (by rw [List.length_append]; exact h7)).mono ?_
 have HH := Lib.hid h7; clear h7
 rcases r7 with ⟨e1, e2⟩ | ⟨v7, m7, ns7⟩
 · rintro e wE ⟨hc, ⟨v, rfl, rfl⟩, nvE, mE, NE, hsE, hkE⟩
   have HC := Lib.hid hc
   have HSE := Lib.hid hsE
   have HKE := Lib.hid (Kp.trans (show Kp b nv nv6 w _ from (by repeat (first | (with_reducible exact HK6.out) | (with_reducible apply Kp.alloc) | (with_reducible apply Kp.more) | (refine Kp.setNew ?_ HKW.out _ _)))) hkE)
   clear n0 n1 n2 n3 n4 n5 n6 n7 z0 z1 z2 z3' z5 z6 z7
   have LS : Loc b nv6 kn (.cells #[.int .i64 25, .int .i64 (-1), .int .i64 (-1), .int .i64 (-1), .int .i64 (-1), .int .i64 0, .string v2.s, .string v4.s] 34 (0, 0)) _ := LC6.out
   have LCE := Lib.hid (Loc.kp (show Loc b nv6 kn (.cells #[.int .i64 25, .int .i64 (-1), .int .i64 (-1), .int .i64 (-1), .int .i64 (-1), .int .i64 0, .string v2.s, .string v4.s] 34 (0, 0)) _ from zag) hkE)
   clear LS
   obtain ⟨n0, n1, n2, n3, n4, n5, n6, n7, z0, z1, z2, z3', z5, z6, z7, hkl⟩ := LCE.out.node
   clear hc hsE hkE
   go_wp2_with (first
    | ((go_at_call 125; (with_reducible refine (qad HC.out (show Rt b lb lo cap nvE L mE NE e1 e2 _ from zab) _ _ _ _ _ _ _ _).mono ?_); rintro e _ ⟨rfl, d6, os6, rfl⟩))
    | ((go_at_call 123; (with_reducible refine (qam HC.out (show Rt b lb lo cap nvE L mE NE e1 e2 _ from zab) _ zaq).mono ?_); rintro e _ ⟨rfl, d7, os7, rfl⟩))
    | ((go_at_call 124; (with_reducible refine (qaB HC.out (show Rt b lb lo cap nvE L mE NE e1 e2 _ from zab) _).mono ?_); rintro e _ ⟨rfl, d8, os8, rfl⟩))
    | ((go_at_call 128; (with_reducible refine (qaV HC.out (show Rt b lb lo cap nvE L mE NE e1 e2 _ from zab)).mono ?_); rintro e _ ⟨rfl, d4, os4, rfl⟩))
    | ((go_at_call 126; (with_reducible refine (qaq HC.out (show Rt b lb lo cap nvE L mE NE e1 e2 _ from zab) _).mono ?_); rintro e _ ⟨rfl, d2, os2, rfl⟩)))
   go_ret
   have := qak HR6.out HH.out
   subst this
   exact RPost.err (nv' := nvE) (m' := mE) (N' := NE) HC.out ⟨_, rfl⟩ zab zai
 rintro e w7 ⟨he, nv7, hs, hk, hm⟩
 unfold unitV at he
 subst he
 have HR7 := Lib.hid (qaf HR6.out HH.out)
 have HS7 := Lib.hid (hs.cast (List.append_assoc _ _ _))
 have HM7 := Lib.hid (Nat.le_trans HM6.out hm)
 have HK7 := Lib.hid (Kp.trans (show Kp b nv nv6 w _ from (by repeat (first | (with_reducible exact HK6.out) | (with_reducible apply Kp.alloc) | (with_reducible apply Kp.more) | (refine Kp.setNew ?_ HKW.out _ _)))) hk)
 clear n0 n1 n2 n3 n4 n5 n6 n7 z0 z1 z2 z3' z5 z6 z7
 have LS : Loc b nv6 kn (.cells #[.int .i64 25, .int .i64 (-1), .int .i64 (-1), .int .i64 (-1), .int .i64 (-1), .int .i64 0, .string v2.s, .string v4.s] 34 (0, 0)) _ := LC6.out
 have LC7 := Lib.hid (Loc.kp (show Loc b nv6 kn (.cells #[.int .i64 25, .int .i64 (-1), .int .i64 (-1), .int .i64 (-1), .int .i64 (-1), .int .i64 0, .string v2.s, .string v4.s] 34 (0, 0)) _ from zag) hk)
 clear LS
 clear hs hk hm
 obtain ⟨n0, n1, n2, n3, n4, n5, n6, n7, z0, z1, z2, z3', z5, z6, z7, hkl⟩ := LC7.out.node
 go_wp2_with fail
 go_at_call 124
 obtain ⟨r8, h8⟩ := qaj HR7.out
 refine (HE.out _ _ _ _ (show Rt b lb lo cap nv7 L m7 (N ++ ((((((([] ++ []) ++ ns2) ++ ns3) ++ ns4) ++ ns5) ++ ns6) ++ ns7)) 0 0 _ from (by repeat (first | (with_reducible exact HS7.out) | (with_reducible apply Rt.alloc) | (with_reducible apply Rt.more) | (refine Rt.setAny ?_ LC7.out.ne HLK.out LC7.out.nr _ _)))) r8 (by rw [List.length_append]; exact h8)).mono ?_
 have HH := Lib.hid h8; clear h8
 rcases r8 with ⟨e1, e2⟩ | ⟨v8, m8, ns8⟩
 · rintro e wE ⟨hc, ⟨v, rfl, yq, rfl⟩, nvE, mE, NE, hsE, hkE⟩
   have HC := Lib.hid hc
   have HSE := Lib.hid hsE
   have HKE := Lib.hid (Kp.trans (show Kp b nv nv7 w _ from (by repeat (first | (with_reducible exact HK7.out) | (with_reducible apply Kp.alloc) | (with_reducible apply Kp.more) | (refine Kp.setNew ?_ HKW.out _ _)))) hkE)
   clear n0 n1 n2 n3 n4 n5 n6 n7 z0 z1 z2 z3' z5 z6 z7
   have LS : Loc b nv7 kn (.cells #[.int .i64 25, .int .i64 (-1), .int .i64 (-1), .int .i64 (-1), .int .i64 (-1), .int .i64 0, .string v2.s, .string v4.s] 34 (0, 0)) _ := LC7.out
   have LCE := Lib.hid (Loc.kp (show Loc b nv7 kn (.cells #[.int .i64 25, .int .i64 (-1), .int .i64 (-1), .int .i64 (-1), .int .i64 (-1), .int .i64 0, .string v2.s, .string v4.s] 34 (0, 0)) _ from zag) hkE)
   clear LS
   obtain ⟨n0, n1, n2, n3, n4, n5, n6, n7, z0, z1, z2, z3', z5, z6, z7, hkl⟩ := LCE.out.node
   clear hc hsE hkE
   go_wp2_with (first
    | ((go_at_call 125; (with_reducible refine (qad HC.out (show Rt b lb lo cap nvE L mE NE e1 e2 _ from zab) _ _ _ _ _ _ _ _).mono ?_); rintro e _ ⟨rfl, d6, os6, rfl⟩))
    | ((go_at_call 123; (with_reducible refine (qam HC.out (show Rt b lb lo cap nvE L mE NE e1 e2 _ from zab) _ zaq).mono ?_); rintro e _ ⟨rfl, d7, os7, rfl⟩))
    | ((go_at_call 128; (with_reducible refine (qaV HC.out (show Rt b lb lo cap nvE L mE NE e1 e2 _ from zab)).mono ?_); rintro e _ ⟨rfl, d4, os4, rfl⟩))
    | ((go_at_call 126; (with_reducible refine (qaq HC.out (show Rt b lb lo cap nvE L mE NE e1 e2 _ from zab) _).mono ?_); rintro e _ ⟨rfl, d2, os2, rfl⟩)))
   go_ret
   have := qak HR7.out HH.out
   subst this
   exact RPost.err (nv' := nvE) (m' := mE) (N' := NE) HC.out ⟨_, rfl⟩ zab zai
 rintro e w8 ⟨he, nv8, hs, hk, hm⟩
 unfold intV at he
 subst he
 have HR8 := Lib.hid (qaf HR7.out HH.out)
 have HS8 := Lib.hid (hs.cast (List.append_assoc _ _ _))
 have HM8 := Lib.hid (Nat.le_trans HM7.out hm)
 have HK8 := Lib.hid (Kp.trans (show Kp b nv nv7 w _ from (by repeat (first | (with_reducible exact HK7.out) | (with_reducible apply Kp.alloc) | (with_reducible apply Kp.more) | (refine Kp.setNew ?_ HKW.out _ _)))) hk)
 clear n0 n1 n2 n3 n4 n5 n6 n7 z0 z1 z2 z3' z5 z6 z7
 have LS : Loc b nv7 kn (.cells #[.int .i64 25, .int .i64 (-1), .int .i64 (-1), .int .i64 (-1), .int .i64 (-1), .int .i64 0, .string v2.s, .string v4.s] 34 (0, 0)) _ := LC7.out
 have LC8 := Lib.hid (Loc.kp (show Loc b nv7 kn (.cells #[.int .i64 25, .int .i64 (-1), .int .i64 (-1), .int .i64 (-1), .int .i64 (-1), .int .i64 0, .string v2.s, .string v4.s] 34 (0, 0)) _ from zag) hk)
 clear LS
 clear hs hk hm
 obtain ⟨n0, n1, n2, n3, n4, n5, n6, n7, z0, z1, z2, z3', z5, z6, z7, hkl⟩ := LC8.out.node
 go_wp2_with fail
 go_at_call 123
 obtain ⟨r9, h9⟩ := qaj HR8.out
 refine (qao (show Rt b lb lo cap nv8 L m8 (N ++ (((((((([] ++ []) ++ ns2) ++ ns3) ++ ns4) ++ ns5) ++ ns6) ++ ns7) ++ ns8)) 0 0 _ from (by repeat (first | (with_reducible exact HS8.out) | (with_reducible apply Rt.alloc) | (with_reducible apply Rt.more) | (refine Rt.setAny ?_ LC8.out.ne HLK.out LC8.out.nr _ _)))) _ zaq r9 (by rw [List.length_append]; exact h9)).mono ?_
 have HH := Lib.hid h9; clear h9
 rcases r9 with ⟨e1, e2⟩ | ⟨v9, m9, ns9⟩
 · rintro e wE ⟨hc, ⟨v, rfl, rfl⟩, nvE, mE, NE, hsE, hkE⟩
   have HC := Lib.hid hc
   have HSE := Lib.hid hsE
   have HKE := Lib.hid (Kp.trans (show Kp b nv nv8 w _ from (by repeat (first | (with_reducible exact HK8.out) | (with_reducible apply Kp.alloc) | (with_reducible apply Kp.more) | (refine Kp.setNew ?_ HKW.out _ _)))) hkE)
   clear n0 n1 n2 n3 n4 n5 n6 n7 z0 z1 z2 z3' z5 z6 z7
   have LS : Loc b nv8 kn (.cells #[.int .i64 25, .int .i64 v8, .int .i64 (-1), .int .i64 (-1), .int .i64 (-1), .int .i64 0, .string v2.s, .string v4.s] 34 (0, 0)) _ := (Loc.set LC8.out 1 (.int .i64 v8))
   have LCE := Lib.hid (Loc.kp (show Loc b nv8 kn (.cells #[.int .i64 25, .int .i64 v8, .int .i64 (-1), .int .i64 (-1), .int .i64 (-1), .int .i64 0, .string v2.s, .string v4.s] 34 (0, 0)) _ from zag) hkE)
   clear LS
   obtain ⟨n0, n1, n2, n3, n4, n5, n6, n7, z0, z1, z2, z3', z5, z6, z7, hkl⟩ := LCE.out.node
   clear hc hsE hkE
   go_wp2_with (first
    | ((go_at_call 125; (with_reducible refine (qad HC.out (show Rt b lb lo cap nvE L mE NE e1 e2 _ from zab) _ _ _ _ _ _ _ _).mono ?_); rintro e _ ⟨rfl, d6, os6, rfl⟩))
    | ((go_at_call 123; (with_reducible refine (qam HC.out (show Rt b lb lo cap nvE L mE NE e1 e2 _ from zab) _ zaq).mono ?_); rintro e _ ⟨rfl, d7, os7, rfl⟩))
    | ((go_at_call 128; (with_reducible refine (qaV HC.out (show Rt b lb lo cap nvE L mE NE e1 e2 _ from zab)).mono ?_); rintro e _ ⟨rfl, d4, os4, rfl⟩))
    | ((go_at_call 126; (with_reducible refine (qaq HC.out (show Rt b lb lo cap nvE L mE NE e1 e2 _ from zab) _).mono ?_); rintro e _ ⟨rfl, d2, os2, rfl⟩)))
   go_ret
   have := qak HR8.out HH.out
   subst this
   exact RPost.err (nv' := nvE) (m' := mE) (N' := NE) HC.out ⟨_, rfl⟩ zab zai
 rintro e w9 ⟨he, nv9, hs, hk, hm⟩
 unfold unitV at he
 subst he
 have HR9 := Lib.hid (qaf HR8.out HH.out)
 have HS9 := Lib.hid (hs.cast (List.append_assoc _ _ _))
 have HM9 := Lib.hid (Nat.le_trans HM8.out hm)
 have HK9 := Lib.hid (Kp.trans (show Kp b nv nv8 w _ from (by repeat (first | (with_reducible exact HK8.out) | (with_reducible apply Kp.alloc) | (with_reducible apply Kp.more) | (refine Kp.setNew ?_ HKW.out _ _)))) hk)
 clear n0 n1 n2 n3 n4 n5 n6 n7 z0 z1 z2 z3' z5 z6 z7
 have LS : Loc b nv8 kn (.cells #[.int .i64 25, .int .i64 v8, .int .i64 (-1), .int .i64 (-1), .int .i64 (-1), .int .i64 0, .string v2.s, .string v4.s] 34 (0, 0)) _ := (Loc.set LC8.out 1 (.int .i64 v8))
 have LC9 := Lib.hid (Loc.kp (show Loc b nv8 kn (.cells #[.int .i64 25, .int .i64 v8, .int .i64 (-1), .int .i64 (-1), .int .i64 (-1), .int .i64 0, .string v2.s, .string v4.s] 34 (0, 0)) _ from zag) hk)
 clear LS
 clear hs hk hm
 obtain ⟨n0, n1, n2, n3, n4, n5, n6, n7, z0, z1, z2, z3', z5, z6, z7, hkl⟩ := LC9.out.node
 go_wp2_with fail
 go_at_call 128
 obtain ⟨r10, h10⟩ := qaj HR9.out
 refine (qdP (show Rt b lb lo cap nv9 L m9 (N ++ ((((((((([] ++ []) ++ ns2) ++ ns3) ++ ns4) ++ ns5) ++ ns6) ++ ns7) ++ ns8) ++ ns9)) 0 0 _ from (by repeat (first | (with_reducible exact HS9.out) | (with_reducible apply Rt.alloc) | (with_reducible apply Rt.more) | (refine Rt.setAny ?_ LC9.out.ne HLK.out LC9.out.nr _ _)))) r10 (by rw [List.length_append]; exact h10)).mono ?_
 have HH := Lib.hid h10; clear h10
 rcases r10 with ⟨e1, e2⟩ | ⟨v10, m10, ns10⟩
 · rintro e wE ⟨hc, ⟨v, rfl, yq, rfl⟩, nvE, mE, NE, hsE, hkE⟩
   have HC := Lib.hid hc
   have HSE := Lib.hid hsE
   have HKE := Lib.hid (Kp.trans (show Kp b nv nv9 w _ from (by repeat (first | (with_reducible exact HK9.out) | (with_reducible apply Kp.alloc) | (with_reducible apply Kp.more) | (refine Kp.setNew ?_ HKW.out _ _)))) hkE)
   clear n0 n1 n2 n3 n4 n5 n6 n7 z0 z1 z2 z3' z5 z6 z7
   have LS : Loc b nv9 kn (.cells #[.int .i64 25, .int .i64 v8, .int .i64 (-1), .int .i64 (-1), .int .i64 (-1), .int .i64 0, .string v2.s, .string v4.s] 34 (0, 0)) _ := LC9.out
   have LCE := Lib.hid (Loc.kp (show Loc b nv9 kn (.cells #[.int .i64 25, .int .i64 v8, .int .i64 (-1), .int .i64 (-1), .int .i64 (-1), .int .i64 0, .string v2.s, .string v4.s] 34 (0, 0)) _ from zag) hkE)
   clear LS
   obtain ⟨n0, n1, n2, n3, n4, n5, n6, n7, z0, z1, z2, z3', z5, z6, z7, hkl⟩ := LCE.out.node
   clear hc hsE hkE
   go_wp2_with (first
    | ((go_at_call 125; (with_reducible refine (qad HC.out (show Rt b lb lo cap nvE L mE NE e1 e2 _ from zab) _ _ _ _ _ _ _ _).mono ?_); rintro e _ ⟨rfl, d6, os6, rfl⟩))
    | ((go_at_call 123; (with_reducible refine (qam HC.out (show Rt b lb lo cap nvE L mE NE e1 e2 _ from zab) _ zaq).mono ?_); rintro e _ ⟨rfl, d7, os7, rfl⟩))
    | ((go_at_call 126; (with_reducible refine (qaq HC.out (show Rt b lb lo cap nvE L mE NE e1 e2 _ from zab) _).mono ?_); rintro e _ ⟨rfl, d2, os2, rfl⟩)))
   go_ret
   have := qak HR9.out HH.out
   subst this
   exact RPost.err (nv' := nvE) (m' := mE) (N' := NE) HC.out ⟨_, rfl⟩ zab zai
 rintro e w10 ⟨he, nv10, hs, hk, hm⟩
 unfold intV at he
 subst he
 have HR10 := Lib.hid (qaf HR9.out HH.out)
 have HS10 := Lib.hid (hs.cast (List.append_assoc _ _ _))
 have HM10 := Lib.hid (Nat.le_trans HM9.out hm)
 have HK10 := Lib.hid (Kp.trans (show Kp b nv nv9 w _ from (by repeat (first | (with_reducible exact HK9.out) | (with_reducible apply Kp.alloc) | (with_reducible apply Kp.more) | (refine Kp.setNew ?_ HKW.out _ _)))) hk)
 clear n0 n1 n2 n3 n4 n5 n6 n7 z0 z1 z2 z3' z5 z6 z7
 have LS : Loc b nv9 kn (.cells #[.int .i64 25, .int .i64 v8, .int .i64 (-1), .int .i64 (-1), .int .i64 (-1), .int .i64 0, .string v2.s, .string v4.s] 34 (0, 0)) _ := LC9.out
 have LC10 := Lib.hid (Loc.kp (show Loc b nv9 kn (.cells #[.int .i64 25, .int .i64 v8, .int .i64 (-1), .int .i64 (-1), .int .i64 (-1), .int .i64 0, .string v2.s, .string v4.s] 34 (0, 0)) _ from zag) hk)
 clear LS
 clear hs hk hm
 obtain ⟨n0, n1, n2, n3, n4, n5, n6, n7, z0, z1, z2, z3', z5, z6, z7, hkl⟩ := LC10.out.node
 go_wp2_with fail
 go_at_call 123
 obtain ⟨r11, h11⟩ := qaj HR10.out
 refine (qao (show Rt b lb lo cap nv10 L m10 (N ++ (((((((((([] ++ []) ++ ns2) ++ ns3) ++ ns4) ++ ns5) ++ ns6) ++ ns7) ++ ns8) ++ ns9) ++ ns10)) 0 0 _ from (by repeat (first | (with_reducible exact HS10.out) | (with_reducible apply Rt.alloc) | (with_reducible apply Rt.more) | (refine Rt.setAny ?_ LC10.out.ne HLK.out LC10.out.nr _ _)))) _ zaq r11 (by rw [List.length_append]; exact h11)).mono ?_
 have HH := Lib.hid h11; clear h11
 rcases r11 with ⟨e1, e2⟩ | ⟨v11, m11, ns11⟩
 · rintro e wE ⟨hc, ⟨v, rfl, rfl⟩, nvE, mE, NE, hsE, hkE⟩
   have HC := Lib.hid hc
   have HSE := Lib.hid hsE
   have HKE := Lib.hid (Kp.trans (show Kp b nv nv10 w _ from (by repeat (first | (with_reducible exact HK10.out) | (with_reducible apply Kp.alloc) | (with_reducible apply Kp.more) | (refine Kp.setNew ?_ HKW.out _ _)))) hkE)
   clear n0 n1 n2 n3 n4 n5 n6 n7 z0 z1 z2 z3' z5 z6 z7
   have LS : Loc b nv10 kn (.cells #[.int .i64 25, .int .i64 v8, .int .i64 (-1), .int .i64 (-1), .int .i64 (-1), .int .i64 v10, .string v2.s, .string v4.s] 34 (0, 0)) _ := (Loc.set LC10.out 5 (.int .i64 v10))
   have LCE := Lib.hid (Loc.kp (show Loc b nv10 kn (.cells #[.int .i64 25, .int .i64 v8, .int .i64 (-1), .int .i64 (-1), .int .i64 (-1), .int .i64 v10, .string v2.s, .string v4.s] 34 (0, 0)) _ from zag) hkE)
   clear LS
   obtain ⟨n0, n1, n2, n3, n4, n5, n6, n7, z0, z1, z2, z3', z5, z6, z7, hkl⟩ := LCE.out.node
   clear hc hsE hkE
   go_wp2_with (first
    | ((go_at_call 125; (with_reducible refine (qad HC.out (show Rt b lb lo cap nvE L mE NE e1 e2 _ from zab) _ _ _ _ _ _ _ _).mono ?_); rintro e _ ⟨rfl, d6, os6, rfl⟩))
    | ((go_at_call 126; (with_reducible refine (qaq HC.out (show Rt b lb lo cap nvE L mE NE e1 e2 _ from zab) _).mono ?_); rintro e _ ⟨rfl, d2, os2, rfl⟩)))
   go_ret
   have := qak HR10.out HH.out
   subst this
   exact RPost.err (nv' := nvE) (m' := mE) (N' := NE) HC.out ⟨_, rfl⟩ zab zai
 rintro e w11 ⟨he, nv11, hs, hk, hm⟩
 unfold unitV at he
 subst he
 have HR11 := Lib.hid (qaf HR10.out HH.out)
 have HS11 := Lib.hid (hs.cast (List.append_assoc _ _ _))
 have HM11 := Lib.hid (Nat.le_trans HM10.out hm)
 have HK11 := Lib.hid (Kp.trans (show Kp b nv nv10 w _ from (by repeat (first | (with_reducible exact HK10.out) | (with_reducible apply Kp.alloc) | (with_reducible apply Kp.more) | (refine Kp.setNew ?_ HKW.out _ _)))) hk)
 clear n0 n1 n2 n3 n4 n5 n6 n7 z0 z1 z2 z3' z5 z6 z7
 have LS : Loc b nv10 kn (.cells #[.int .i64 25, .int .i64 v8, .int .i64 (-1), .int .i64 (-1), .int .i64 (-1), .int .i64 v10, .string v2.s, .string v4.s] 34 (0, 0)) _ := (Loc.set LC10.out 5 (.int .i64 v10))
 have LC11 := Lib.hid (Loc.kp (show Loc b nv10 kn (.cells #[.int .i64 25, .int .i64 v8, .int .i64 (-1), .int .i64 (-1), .int .i64 (-1), .int .i64 v10, .string v2.s, .string v4.s] 34 (0, 0)) _ from zag) hk)
 clear LS
 clear hs hk hm
 obtain ⟨n0, n1, n2, n3, n4, n5, n6, n7, z0, z1, z2, z3', z5, z6, z7, hkl⟩ := LC11.out.node
 go_wp2_with fail
 go_at_call 126
 obtain ⟨r12, h12⟩ := qaj HR11.out
 refine (qcg (show Rt b lb lo cap nv11 L m11 (N ++ ((((((((((([] ++ []) ++ ns2) ++ ns3) ++ ns4) ++ ns5) ++ ns6) ++ ns7) ++ ns8) ++ ns9) ++ ns10) ++ ns11)) 0 0 _ from (by repeat (first | (with_reducible exact HS11.out) | (with_reducible apply Rt.alloc) | (with_reducible apply Rt.more) | (refine Rt.setAny ?_ LC11.out.ne HLK.out LC11.out.nr _ _)))) _ _ HB.out r12 (by rw [List.length_append]; exact h12)).mono ?_
 have HH := Lib.hid h12; clear h12
 rcases r12 with ⟨e1, e2⟩ | ⟨v12, m12, ns12⟩
 · rintro e wE ⟨hc, ⟨v, rfl, yq, rfl⟩, nvE, mE, NE, hsE, hkE⟩
   have HC := Lib.hid hc
   have HSE := Lib.hid hsE
   have HKE := Lib.hid (Kp.trans (show Kp b nv nv11 w _ from (by repeat (first | (with_reducible exact HK11.out) | (with_reducible apply Kp.alloc) | (with_reducible apply Kp.more) | (refine Kp.setNew ?_ HKW.out _ _)))) hkE)
   clear n0 n1 n2 n3 n4 n5 n6 n7 z0 z1 z2 z3' z5 z6 z7
   have LS : Loc b nv11 kn (.cells #[.int .i64 25, .int .i64 v8, .int .i64 (-1), .int .i64 (-1), .int .i64 (-1), .int .i64 v10, .string v2.s, .string v4.s] 34 (0, 0)) _ := LC11.out
   have LCE := Lib.hid (Loc.kp (show Loc b nv11 kn (.cells #[.int .i64 25, .int .i64 v8, .int .i64 (-1), .int .i64 (-1), .int .i64 (-1), .int .i64 v10, .string v2.s, .string v4.s] 34 (0, 0)) _ from zag) hkE)
   clear LS
   obtain ⟨n0, n1, n2, n3, n4, n5, n6, n7, z0, z1, z2, z3', z5, z6, z7, hkl⟩ := LCE.out.node
   clear hc hsE hkE
   go_wp2_with ((go_at_call 125; (with_reducible refine (qad HC.out (show Rt b lb lo cap nvE L mE NE e1 e2 _ from zab) _ _ _ _ _ _ _ _).mono ?_); rintro e _ ⟨rfl, d6, os6, rfl⟩))
   go_ret
   have := qak HR11.out HH.out
   subst this
   exact RPost.err (nv' := nvE) (m' := mE) (N' := NE) HC.out ⟨_, rfl⟩ zab zai
 rintro e w12 ⟨he, nv12, hs, hk, hm⟩
 unfold intV at he
 subst he
 have HR12 := Lib.hid (qaf HR11.out HH.out)
 have HS12 := Lib.hid (hs.cast (List.append_assoc _ _ _))
 have HM12 := Lib.hid (Nat.le_trans HM11.out hm)
 have HK12 := Lib.hid (Kp.trans (show Kp b nv nv11 w _ from (by repeat (first | (with_reducible exact HK11.out) | (with_reducible apply Kp.alloc) | (with_reducible apply Kp.more) | (refine Kp.setNew ?_ HKW.out _ _)))) hk)
 clear n0 n1 n2 n3 n4 n5 n6 n7 z0 z1 z2 z3' z5 z6 z7
 have LS : Loc b nv11 kn (.cells #[.int .i64 25, .int .i64 v8, .int .i64 (-1), .int .i64 (-1), .int .i64 (-1), .int .i64 v10, .string v2.s, .string v4.s] 34 (0, 0)) _ := LC11.out
 have LC12 := Lib.hid (Loc.kp (show Loc b nv11 kn (.cells #[.int .i64 25, .int .i64 v8, .int .i64 (-1), .int .i64 (-1), .int .i64 (-1), .int .i64 v10, .string v2.s, .string v4.s] 34 (0, 0)) _ from zag) hk)
 clear LS
 clear hs hk hm
 obtain ⟨n0, n1, n2, n3, n4, n5, n6, n7, z0, z1, z2, z3', z5, z6, z7, hkl⟩ := LC12.out.node
 go_wp2_with fail
 go_at_call 125
 obtain ⟨r13, h13⟩ := qaC HR12.out
 refine (qaw (show Rt b lb lo cap nv12 L m12 (N ++ (((((((((((([] ++ []) ++ ns2) ++ ns3) ++ ns4) ++ ns5) ++ ns6) ++ ns7) ++ ns8) ++ ns9) ++ ns10) ++ ns11) ++ ns12)) 0 0 _ from (by repeat (first | (with_reducible exact HS12.out) | (with_reducible apply Rt.alloc) | (with_reducible apply Rt.more) | (refine Rt.setAny ?_ LC12.out.ne HLK.out LC12.out.nr _ _)))) _ _ _ _ _ _ _ _ r13 (by rw [List.length_append]; exact h13)).mono ?_
 have HH := Lib.hid h13; clear h13
 rcases r13 with ⟨e1, e2⟩ | ⟨v13, m13, ns13⟩
 · rintro e wE ⟨hc, ⟨v, rfl, yq, rfl⟩, nvE, mE, NE, hsE, hkE⟩
   have HC := Lib.hid hc
   have HSE := Lib.hid hsE
   have HKE := Lib.hid (Kp.trans (show Kp b nv nv12 w _ from (by repeat (first | (with_reducible exact HK12.out) | (with_reducible apply Kp.alloc) | (with_reducible apply Kp.more) | (refine Kp.setNew ?_ HKW.out _ _)))) hkE)
   clear n0 n1 n2 n3 n4 n5 n6 n7 z0 z1 z2 z3' z5 z6 z7
   have LS : Loc b nv12 kn (.cells #[.int .i64 25, .int .i64 v8, .int .i64 v12, .int .i64 (-1), .int .i64 (-1), .int .i64 v10, .string v2.s, .string v4.s] 34 (0, 0)) _ := (Loc.set LC12.out 2 (.int .i64 v12))
   have LCE := Lib.hid (Loc.kp (show Loc b nv12 kn (.cells #[.int .i64 25, .int .i64 v8, .int .i64 v12, .int .i64 (-1), .int .i64 (-1), .int .i64 v10, .string v2.s, .string v4.s] 34 (0, 0)) _ from zag) hkE)
   clear LS
   obtain ⟨n0, n1, n2, n3, n4, n5, n6, n7, z0, z1, z2, z3', z5, z6, z7, hkl⟩ := LCE.out.node
   clear hc hsE hkE
   go_wp2_with fail
   go_ret
   have := qaO HR12.out HH.out
   subst this
   exact RPost.err (nv' := nvE) (m' := mE) (N' := NE) HC.out ⟨_, rfl⟩ zab zai
 rintro e w13 ⟨he, nv13, hs, hk, hm⟩
 unfold intV at he
 subst he
 have HS13 := Lib.hid (hs.cast (List.append_assoc _ _ _))
 have HM13 := Lib.hid (Nat.le_trans HM12.out hm)
 have HK13 := Lib.hid (Kp.trans (show Kp b nv nv12 w _ from (by repeat (first | (with_reducible exact HK12.out) | (with_reducible apply Kp.alloc) | (with_reducible apply Kp.more) | (refine Kp.setNew ?_ HKW.out _ _)))) hk)
 clear n0 n1 n2 n3 n4 n5 n6 n7 z0 z1 z2 z3' z5 z6 z7
 have LS : Loc b nv12 kn (.cells #[.int .i64 25, .int .i64 v8, .int .i64 v12, .int .i64 (-1), .int .i64 (-1), .int .i64 v10, .string v2.s, .string v4.s] 34 (0, 0)) _ := (Loc.set LC12.out 2 (.int .i64 v12))
 have LC13 := Lib.hid (Loc.kp (show Loc b nv12 kn (.cells #[.int .i64 25, .int .i64 v8, .int .i64 v12, .int .i64 (-1), .int .i64 (-1), .int .i64 v10, .string v2.s, .string v4.s] 34 (0, 0)) _ from zag) hk)
 clear LS
 clear hs hk hm
 go_wp2_with fail
 go_ret
 have := qaX HR12.out HH.out
 subst this
 exact RPost.res rfl HS13.out HK13.out HM13.out
set_option maxHeartbeats 4000000 in
set_option maxRecDepth 20000 in
theorem rstmt_repeat {b lb lo cap : Nat} {nv : Value} {L : Toks} {m : Nat} {N : List Nd} {w : World} (h : Rt b lb lo cap nv L m N 0 0 w) (hk5 : (tk L m).1.k = 5) (hs : (tk L m).1.s.toList = [114, 101, 112, 101, 97, 116]) (d : Nat) (hd : d ≤ 16) (bk : PM Int) (hb : RDp b lb lo cap L 83 ((d : Int) + 1) bk) (r : PR Int) (hr : qdZ L (qbF L bk) m N.length = r) :
  Calls Tryz.prog 113 #[.pointer (some ⟨b, 0, none⟩), .int .i64 (d : Int)] w (RPost intV isInt b lb lo cap nv L m N w r) := by
 have hd0 : 0 ≤ (d : Int) := by omega
 have hd1 : (d : Int) ≤ 16 := by omega
 have HB := Lib.hid hb
 clear hb
 have q_let : ((tk L m).1.s.toList == [108, 101, 116]) = false := by rw [hs]; decide
 have q_set : ((tk L m).1.s.toList == [115, 101, 116]) = false := by rw [hs]; decide
 have q_put : ((tk L m).1.s.toList == [112, 117, 116]) = false := by rw [hs]; decide
 have q_if : ((tk L m).1.s.toList == [105, 102]) = false := by rw [hs]; decide
 have q_for : ((tk L m).1.s.toList == [102, 111, 114]) = false := by rw [hs]; decide
 have q_repeat : ((tk L m).1.s.toList == [114, 101, 112, 101, 97, 116]) = true := by rw [hs]; decide
 have q_delete : ((tk L m).1.s.toList == [100, 101, 108, 101, 116, 101]) = false := by rw [hs]; decide
 have q_abort : ((tk L m).1.s.toList == [97, 98, 111, 114, 116]) = false := by rw [hs]; decide
 have hk5 := hk5
 have HS0 := Lib.hid (h.cast (List.append_nil N).symm)
 have HK0 := Lib.hid (Kp.refl b nv w)
 have HM0 := Lib.hid (Nat.le_refl m)
 have HR0 := Lib.hid (qaz hr)
 unfold qdZ at HR0
 obtain ⟨ts, hts⟩ : ∃ ts, (tk L m).1.s = ts := ⟨_, rfl⟩
 have HTS := Lib.hid hts
 rw [hts] at q_let
 rw [hts] at q_set
 rw [hts] at q_put
 rw [hts] at q_if
 rw [hts] at q_for
 rw [hts] at q_repeat
 rw [hts] at q_delete
 rw [hts] at q_abort
 clear h hr hs hts
 go_enter Tryz.func113, Tryz.ntmps113
 go_wp2_with fail
 go_at_call 121
 have h1 := qbu (n := N.length + ([] : List Nd).length) hk5
 refine (qaT (show Rt b lb lo cap nv L m (N ++ []) 0 0 _ from zbs) 5 zaq _ (Eq.trans (by rw [List.length_append]) h1)).mono ?_
 have HH := Lib.hid h1; clear h1
 rintro e w1 ⟨he, nv1, hs, hk, hm⟩
 dsimp only at he
 unfold tokV at he
 subst he
 have HR1 := Lib.hid (qaf HR0.out (show skipP m _ = .ok ((), m + 1, []) from rfl))
 have HS1 := Lib.hid (hs.cast (List.append_assoc _ _ _))
 have HM1 := Lib.hid (Nat.le_trans HM0.out hm)
 have HK1 := Lib.hid (Kp.trans (show Kp b nv nv w _ from zbe) hk)
 clear hs hk hm
 rw [HTS.out]
 go_wp2_with ((go_at_call 122; (with_reducible refine (qal _ _ _ _).mono ?_); rintro e _ ⟨rfl, d3, os3, rfl⟩))
 go_at_call 128
 obtain ⟨r2, h2⟩ := qaj HR1.out
 have LCN := Lib.hid (Rt.loc (w := more w1 d3 os3) (lb := lb) (lo := lo) (cap := cap) (L := L) (nv := nv1) (show Rt b lb lo cap nv1 L (m + 1) (N ++ ([] ++ [])) 0 0 _ from zao) (.cells #[.int .i64 26, .int .i64 (-1), .int .i64 (-1), .int .i64 (-1), .int .i64 (-1), .int .i64 0, .string ⟨#[]⟩, .string ⟨#[]⟩] 34 (0, 0)))
 refine (qdP (show Rt b lb lo cap nv1 L (m + 1) (N ++ ([] ++ [])) 0 0 _ from zao) r2 zcl).mono ?_
 have HH := Lib.hid h2; clear h2
 rcases r2 with ⟨e1, e2⟩ | ⟨v2, m2, ns2⟩
 · rintro e wE ⟨hc, ⟨v, rfl, yq, rfl⟩, nvE, mE, NE, hsE, hkE⟩
   have HC := Lib.hid hc
   have HSE := Lib.hid hsE
   have HKE := Lib.hid (Kp.trans (show Kp b nv nv1 w _ from zaf) hkE)
   have LCE := Lib.hid (Loc.kp (show Loc b nv1 (more w1 d3 os3).heap.size (.cells #[.int .i64 26, .int .i64 (-1), .int .i64 (-1), .int .i64 (-1), .int .i64 (-1), .int .i64 0, .string ⟨#[]⟩, .string ⟨#[]⟩] 34 (0, 0)) _ from zaz) hkE)
   clear LCN
   obtain ⟨kn, hkn⟩ : ∃ kn, (more w1 d3 os3).heap.size = kn := ⟨_, rfl⟩
   rw [hkn] at LCE
   have HKW : RowKit.Hid (w.heap.size ≤ kn) := Lib.hid zax
   have HLK : RowKit.Hid (lb ≠ kn) := Lib.hid zat
   simp only [more_size, World.size_setCell, World.size_alloc, Array.size_append] at hkn
   rw [hkn]
   clear hkn
   obtain ⟨n0, n1, n2, n3, n4, n5, n6, n7, z0, z1, z2, z3', z5, z6, z7, hkl⟩ := LCE.out.node
   clear hc hsE hkE
   go_wp2_with (first
    | ((go_at_call 125; (with_reducible refine (qad HC.out (show Rt b lb lo cap nvE L mE NE e1 e2 _ from zab) _ _ _ _ _ _ _ _).mono ?_); rintro e _ ⟨rfl, d6, os6, rfl⟩))
    | ((go_at_call 126; (with_reducible refine (qaq HC.out (show Rt b lb lo cap nvE L mE NE e1 e2 _ from zab) _).mono ?_); rintro e _ ⟨rfl, d2, os2, rfl⟩)))
   go_ret
   have := qak HR1.out HH.out
   subst this
   exact RPost.err (nv' := nvE) (m' := mE) (N' := NE) HC.out ⟨_, rfl⟩ zab zai
 rintro e w2 ⟨he, nv2, hs, hk, hm⟩
 unfold intV at he
 subst he
 have HR2 := Lib.hid (qaf HR1.out HH.out)
 have HS2 := Lib.hid (hs.cast (List.append_assoc _ _ _))
 have HM2 := Lib.hid (Nat.le_trans HM1.out hm)
 have HK2 := Lib.hid (Kp.trans (show Kp b nv nv1 w _ from zaf) hk)
 have LC2 := Lib.hid (Loc.kp (show Loc b nv1 (more w1 d3 os3).heap.size (.cells #[.int .i64 26, .int .i64 (-1), .int .i64 (-1), .int .i64 (-1), .int .i64 (-1), .int .i64 0, .string ⟨#[]⟩, .string ⟨#[]⟩] 34 (0, 0)) _ from zaz) hk)
 clear LCN
 obtain ⟨kn, hkn⟩ : ∃ kn, (more w1 d3 os3).heap.size = kn := ⟨_, rfl⟩
 rw [hkn] at LC2
 have HKW : RowKit.Hid (w.heap.size ≤ kn) := Lib.hid zax
 have HLK : RowKit.Hid (lb ≠ kn) := Lib.hid zat
 simp only [more_size, World.size_setCell, World.size_alloc, Array.size_append] at hkn
 rw [hkn]
 clear hkn
 clear hs hk hm
 obtain ⟨n0, n1, n2, n3, n4, n5, n6, n7, z0, z1, z2, z3', z5, z6, z7, hkl⟩ := LC2.out.node
 go_wp2_with fail
 go_at_call 126
 obtain ⟨r3, h3⟩ := qaj HR2.out
 refine (qcg (show Rt b lb lo cap nv2 L m2 (N ++ (([] ++ []) ++ ns2)) 0 0 _ from zcq) _ _ HB.out r3 zda).mono ?_
 have HH := Lib.hid h3; clear h3
 rcases r3 with ⟨e1, e2⟩ | ⟨v3, m3, ns3⟩
 · rintro e wE ⟨hc, ⟨v, rfl, yq, rfl⟩, nvE, mE, NE, hsE, hkE⟩
   have HC := Lib.hid hc
   have HSE := Lib.hid hsE
   have HKE := Lib.hid (Kp.trans (show Kp b nv nv2 w _ from zbq) hkE)
   clear n0 n1 n2 n3 n4 n5 n6 n7 z0 z1 z2 z3' z5 z6 z7
   have LS : Loc b nv2 kn (.cells #[.int .i64 26, .int .i64 (-1), .int .i64 (-1), .int .i64 (-1), .int .i64 (-1), .int .i64 v2, .string ⟨#[]⟩, .string ⟨#[]⟩] 34 (0, 0)) _ := (Loc.set LC2.out 5 (.int .i64 v2))
   have LCE := Lib.hid (Loc.kp (show Loc b nv2 kn (.cells #[.int .i64 26, .int .i64 (-1), .int .i64 (-1), .int .i64 (-1), .int .i64 (-1), .int .i64 v2, .string ⟨#[]⟩, .string ⟨#[]⟩] 34 (0, 0)) _ from zag) hkE)
   clear LS
   obtain ⟨n0, n1, n2, n3, n4, n5, n6, n7, z0, z1, z2, z3', z5, z6, z7, hkl⟩ := LCE.out.node
   clear hc hsE hkE
   go_wp2_with ((go_at_call 125; (with_reducible refine (qad HC.out (show Rt b lb lo cap nvE L mE NE e1 e2 _ from zab) _ _ _ _ _ _ _ _).mono ?_); rintro e _ ⟨rfl, d6, os6, rfl⟩))
   go_ret
   have := qak HR2.out HH.out
   subst this
   exact RPost.err (nv' := nvE) (m' := mE) (N' := NE) HC.out ⟨_, rfl⟩ zab zai
 rintro e w3 ⟨he, nv3, hs, hk, hm⟩
 unfold intV at he
 subst he
 have HR3 := Lib.hid (qaf HR2.out HH.out)
 have HS3 := Lib.hid (hs.cast (List.append_assoc _ _ _))
 have HM3 := Lib.hid (Nat.le_trans HM2.out hm)
 have HK3 := Lib.hid (Kp.trans (show Kp b nv nv2 w _ from zbq) hk)
 clear n0 n1 n2 n3 n4 n5 n6 n7 z0 z1 z2 z3' z5 z6 z7
 have LS : Loc b nv2 kn (.cells #[.int .i64 26, .int .i64 (-1), .int .i64 (-1), .int .i64 (-1), .int .i64 (-1), .int .i64 v2, .string ⟨#[]⟩, .string ⟨#[]⟩] 34 (0, 0)) _ := (Loc.set LC2.out 5 (.int .i64 v2))
 have LC3 := Lib.hid (Loc.kp (show Loc b nv2 kn (.cells #[.int .i64 26, .int .i64 (-1), .int .i64 (-1), .int .i64 (-1), .int .i64 (-1), .int .i64 v2, .string ⟨#[]⟩, .string ⟨#[]⟩] 34 (0, 0)) _ from zag) hk)
 clear LS
 clear hs hk hm
 obtain ⟨n0, n1, n2, n3, n4, n5, n6, n7, z0, z1, z2, z3', z5, z6, z7, hkl⟩ := LC3.out.node
 go_wp2_with fail
 go_at_call 125
 obtain ⟨r4, h4⟩ := qaC HR3.out
 refine (qaw (show Rt b lb lo cap nv3 L m3 (N ++ ((([] ++ []) ++ ns2) ++ ns3)) 0 0 _ from zbh) _ _ _ _ _ _ _ _ r4 zdh).mono ?_
 have HH := Lib.hid h4; clear h4
 rcases r4 with ⟨e1, e2⟩ | ⟨v4, m4, ns4⟩
 · rintro e wE ⟨hc, ⟨v, rfl, yq, rfl⟩, nvE, mE, NE, hsE, hkE⟩
   have HC := Lib.hid hc
   have HSE := Lib.hid hsE
   have HKE := Lib.hid (Kp.trans (show Kp b nv nv3 w _ from zas) hkE)
   clear n0 n1 n2 n3 n4 n5 n6 n7 z0 z1 z2 z3' z5 z6 z7
   have LS : Loc b nv3 kn (.cells #[.int .i64 26, .int .i64 (-1), .int .i64 v3, .int .i64 (-1), .int .i64 (-1), .int .i64 v2, .string ⟨#[]⟩, .string ⟨#[]⟩] 34 (0, 0)) _ := (Loc.set LC3.out 2 (.int .i64 v3))
   have LCE := Lib.hid (Loc.kp (show Loc b nv3 kn (.cells #[.int .i64 26, .int .i64 (-1), .int .i64 v3, .int .i64 (-1), .int .i64 (-1), .int .i64 v2, .string ⟨#[]⟩, .string ⟨#[]⟩] 34 (0, 0)) _ from zag) hkE)
   clear LS
   obtain ⟨n0, n1, n2, n3, n4, n5, n6, n7, z0, z1, z2, z3', z5, z6, z7, hkl⟩ := LCE.out.node
   clear hc hsE hkE
   go_wp2_with fail
   go_ret
   have := qaO HR3.out HH.out
   subst this
   exact RPost.err (nv' := nvE) (m' := mE) (N' := NE) HC.out ⟨_, rfl⟩ zab zai
 rintro e w4 ⟨he, nv4, hs, hk, hm⟩
 unfold intV at he
 subst he
 have HS4 := Lib.hid (hs.cast (List.append_assoc _ _ _))
 have HM4 := Lib.hid (Nat.le_trans HM3.out hm)
 have HK4 := Lib.hid (Kp.trans (show Kp b nv nv3 w _ from zas) hk)
 clear n0 n1 n2 n3 n4 n5 n6 n7 z0 z1 z2 z3' z5 z6 z7
 have LS : Loc b nv3 kn (.cells #[.int .i64 26, .int .i64 (-1), .int .i64 v3, .int .i64 (-1), .int .i64 (-1), .int .i64 v2, .string ⟨#[]⟩, .string ⟨#[]⟩] 34 (0, 0)) _ := (Loc.set LC3.out 2 (.int .i64 v3))
 have LC4 := Lib.hid (Loc.kp (show Loc b nv3 kn (.cells #[.int .i64 26, .int .i64 (-1), .int .i64 v3, .int .i64 (-1), .int .i64 (-1), .int .i64 v2, .string ⟨#[]⟩, .string ⟨#[]⟩] 34 (0, 0)) _ from zag) hk)
 clear LS
 clear hs hk hm
 go_wp2_with fail
 go_ret
 have := qaX HR3.out HH.out
 subst this
 exact RPost.res rfl HS4.out HK4.out HM4.out
end Go.Proofs.YtijmfpoanggjjaaGreatDoor
