/- Lemmas for the claim (texts Rf4, what its proof uses of them). -/
import Derived.Test.YtpoeknndkccbaaaGreatM30
set_option linter.unusedSimpArgs false
set_option linter.unusedVariables false
set_option maxHeartbeats 4000000
set_option maxRecDepth 20000
namespace Go.Proofs.YtpoeknndkccbaaaGreat
open Go.RowKit
attribute [go_sem] more_more Array.size_append
theorem rnode11 {ns : List Nd} {nv : Value} (fi : Int) {w : World} (hr : w.ownsRow 0 42 8 nv ns.length (qad ns)) {j : Nat} {za zb zc zx zi : Int} {zs zt : ByteArray} (hz : ns[j]? = some (⟨11, za, zb, zc, zx, zi, zs, zt⟩ : Nd)) :
  Calls Tryz.prog 43 #[.agg #[nv, .int .i64 fi], .int .i64 (j : Int)] w fun e w' => e = .returned (.bool (nodeB ns j (⟨11, za, zb, zc, zx, zi, zs, zt⟩ : Nd))) ∧ Ext w w' := by
 obtain ⟨r, hr0⟩ : ∃ r, nodeB ns j (⟨11, za, zb, zc, zx, zi, zs, zt⟩ : Nd) = r := ⟨_, rfl⟩
 rw [hr0]
 have hjn := (List.getElem?_eq_some_iff.1 hz).1
 obtain ⟨G, c, rfl, hG, -⟩ := qat hr hjn
 obtain ⟨a0, a1, a2, a3, a4, a5, a6, a7⟩ := nd_at hr hz
 dsimp only at a0 a1 a2 a3 a4 a5 a6 a7
 refine ybt ?_; intro hj1
 have hj0 : 0 ≤ (j : Int) := by omega
 have HR := Lib.hid hr
 clear hr hz hjn
 obtain ⟨ab, hab⟩ : ∃ b, qab ns za 0 j false = b := ⟨_, rfl⟩
 refine ycn ?_; intro EA
 rw [hab] at EA
 have EA := Lib.hid EA
 have HA := Lib.hid hab
 clear hab
 obtain ⟨bb, hbb⟩ : ∃ b, qab ns zb 0 j false = b := ⟨_, rfl⟩
 have EB := fun W (hx : Ext w W) => qbG fi (own_ext HR.out hx) zb j (Int.le_of_lt hj1)
 rw [hbb] at EB
 have EB := Lib.hid EB
 have HB := Lib.hid hbb
 clear hbb
 obtain ⟨cc, hcc⟩ : ∃ b, qaZ 11 zs = b := ⟨_, rfl⟩
 have NC := fun (za zb zc zx zi : Int) (zt : ByteArray) W => rclose_any 11 za zb zc zx zi zs zt W
 rw [hcc] at NC
 have NC := Lib.hid NC
 have HS := Lib.hid hcc
 clear hcc
 have HR0 := Lib.hid hr0
 clear hr0
 cases ab
 · go_enter Tryz.func43, Tryz.ntmps43
   go_wp2_with (first | ((with_reducible refine (EA.out _ zaa).mono ?_); rintro e' _ ⟨rfl, d1, os1, rfl⟩) | ((with_reducible refine (EB.out _ zaa).mono ?_); rintro e' _ ⟨rfl, d1, os1, rfl⟩) | ((with_reducible refine (NC.out _ _ _ _ _ _ _).mono ?_); rintro e' _ ⟨rfl, d1, os1, rfl⟩))
   go_ret
   exact ⟨ret_bool zbz, zaa⟩
 · cases bb
   · go_enter Tryz.func43, Tryz.ntmps43
     go_wp2_with (first | ((with_reducible refine (EA.out _ zaa).mono ?_); rintro e' _ ⟨rfl, d1, os1, rfl⟩) | ((with_reducible refine (EB.out _ zaa).mono ?_); rintro e' _ ⟨rfl, d1, os1, rfl⟩) | ((with_reducible refine (NC.out _ _ _ _ _ _ _).mono ?_); rintro e' _ ⟨rfl, d1, os1, rfl⟩))
     go_ret
     exact ⟨ret_bool zcw, zaa⟩
   · by_cases hc : zc = -1
     · subst hc
       by_cases hx : zx = -1
       · subst hx
         by_cases hi : zi = 0
         · subst hi
           by_cases he : zt.toList = []
           · have HTN := Lib.hid (show (zt.toList = []) = True by simpa using he)
             have p13zt : zt.toList = [] := he
             have p14zt : zt.toList.isEmpty = true := by rw [he]; rfl
             clear he
             by_cases hc : 0 ≤ cc
             · have HQ := Lib.hid (show (0 ≤ cc) = True by simpa using hc)
               go_enter Tryz.func43, Tryz.ntmps43
               go_wp2_with (first | ((with_reducible refine (EA.out _ zaa).mono ?_); rintro e' _ ⟨rfl, d1, os1, rfl⟩) | ((with_reducible refine (EB.out _ zaa).mono ?_); rintro e' _ ⟨rfl, d1, os1, rfl⟩) | ((with_reducible refine (NC.out _ _ _ _ _ _ _).mono ?_); rintro e' _ ⟨rfl, d1, os1, rfl⟩))
               go_ret
               exact ⟨ret_bool (by rw [← HR0.out]; simp [nodeB, qaf, aB, bB, cB, xB, qae, numOk, txt1, txt2, shA, shB, shBB, shBC, shS, shT, HA.out, HB.out, HTN.out, HS.out, HQ.out]), zaa⟩
             · have HQ := Lib.hid (show (0 ≤ cc) = False by simpa using hc)
               have p15 : (0 ≤ cc) = False := by simpa using hc
               clear hc
               go_enter Tryz.func43, Tryz.ntmps43
               go_wp2_with (first | ((with_reducible refine (EA.out _ zaa).mono ?_); rintro e' _ ⟨rfl, d1, os1, rfl⟩) | ((with_reducible refine (EB.out _ zaa).mono ?_); rintro e' _ ⟨rfl, d1, os1, rfl⟩) | ((with_reducible refine (NC.out _ _ _ _ _ _ _).mono ?_); rintro e' _ ⟨rfl, d1, os1, rfl⟩))
               go_ret
               exact ⟨ret_bool (by rw [← HR0.out]; simp [nodeB, qaf, aB, bB, cB, xB, qae, numOk, txt1, txt2, shA, shB, shBB, shBC, shS, shT, HA.out, HB.out, HTN.out, HS.out, HQ.out]), zaa⟩
           · have HTN := Lib.hid (show (zt.toList = []) = False by simpa using he)
             refine yas ?_; intro p13zt
             refine yaq ?_; intro p14zt
             clear he
             go_enter Tryz.func43, Tryz.ntmps43
             go_wp2_with (first | ((with_reducible refine (EA.out _ zaa).mono ?_); rintro e' _ ⟨rfl, d1, os1, rfl⟩) | ((with_reducible refine (EB.out _ zaa).mono ?_); rintro e' _ ⟨rfl, d1, os1, rfl⟩) | ((with_reducible refine (NC.out _ _ _ _ _ _ _).mono ?_); rintro e' _ ⟨rfl, d1, os1, rfl⟩))
             go_ret
             exact ⟨ret_bool zcv, zaa⟩
         · have p11 : (zi != 0) = true := by rw [bne_iff_ne]; exact hi
           refine ybm ?_; intro HI
           clear hi
           go_enter Tryz.func43, Tryz.ntmps43
           go_wp2_with (first | ((with_reducible refine (EA.out _ zaa).mono ?_); rintro e' _ ⟨rfl, d1, os1, rfl⟩) | ((with_reducible refine (EB.out _ zaa).mono ?_); rintro e' _ ⟨rfl, d1, os1, rfl⟩) | ((with_reducible refine (NC.out _ _ _ _ _ _ _).mono ?_); rintro e' _ ⟨rfl, d1, os1, rfl⟩))
           go_ret
           exact ydo
       · have p4 : (zx == -1) = false := by simpa using hx
         have p5 : (zx != -1) = true := by rw [bne_iff_ne]; exact hx
         refine ybk ?_; intro HNX
         clear hx
         go_enter Tryz.func43, Tryz.ntmps43
         go_wp2_with (first | ((with_reducible refine (EA.out _ zaa).mono ?_); rintro e' _ ⟨rfl, d1, os1, rfl⟩) | ((with_reducible refine (EB.out _ zaa).mono ?_); rintro e' _ ⟨rfl, d1, os1, rfl⟩) | ((with_reducible refine (NC.out _ _ _ _ _ _ _).mono ?_); rintro e' _ ⟨rfl, d1, os1, rfl⟩))
         go_ret
         exact ⟨ret_bool (by rw [← HR0.out]; simp [nodeB, qaf, aB, bB, cB, xB, qae, numOk, txt1, txt2, shA, shB, shBB, shBC, shS, shT, HA.out, HB.out, HNX.out]), zaa⟩
     · have p1 : (zc == -1) = false := by simpa using hc
       have p2 : (zc != -1) = true := by rw [bne_iff_ne]; exact hc
       refine ybn ?_; intro HNC
       clear hc
       go_enter Tryz.func43, Tryz.ntmps43
       go_wp2_with (first | ((with_reducible refine (EA.out _ zaa).mono ?_); rintro e' _ ⟨rfl, d1, os1, rfl⟩) | ((with_reducible refine (EB.out _ zaa).mono ?_); rintro e' _ ⟨rfl, d1, os1, rfl⟩) | ((with_reducible refine (NC.out _ _ _ _ _ _ _).mono ?_); rintro e' _ ⟨rfl, d1, os1, rfl⟩))
       go_ret
       exact ydj
theorem rnode22 {ns : List Nd} {nv : Value} (fi : Int) {w : World} (hr : w.ownsRow 0 42 8 nv ns.length (qad ns)) {j : Nat} {za zb zc zx zi : Int} {zs zt : ByteArray} (hz : ns[j]? = some (⟨22, za, zb, zc, zx, zi, zs, zt⟩ : Nd)) :
  Calls Tryz.prog 43 #[.agg #[nv, .int .i64 fi], .int .i64 (j : Int)] w fun e w' => e = .returned (.bool (nodeB ns j (⟨22, za, zb, zc, zx, zi, zs, zt⟩ : Nd))) ∧ Ext w w' := by
 obtain ⟨r, hr0⟩ : ∃ r, nodeB ns j (⟨22, za, zb, zc, zx, zi, zs, zt⟩ : Nd) = r := ⟨_, rfl⟩
 rw [hr0]
 have hjn := (List.getElem?_eq_some_iff.1 hz).1
 obtain ⟨G, c, rfl, hG, -⟩ := qat hr hjn
 obtain ⟨a0, a1, a2, a3, a4, a5, a6, a7⟩ := nd_at hr hz
 dsimp only at a0 a1 a2 a3 a4 a5 a6 a7
 refine ybt ?_; intro hj1
 have hj0 : 0 ≤ (j : Int) := by omega
 have HR := Lib.hid hr
 clear hr hz hjn
 obtain ⟨ab, hab⟩ : ∃ b, qab ns za 0 j false = b := ⟨_, rfl⟩
 refine ycn ?_; intro EA
 rw [hab] at EA
 have EA := Lib.hid EA
 have HA := Lib.hid hab
 clear hab
 obtain ⟨bb, hbb⟩ : ∃ b, qab ns zb 0 j false = b := ⟨_, rfl⟩
 have EB := fun W (hx : Ext w W) => qbG fi (own_ext HR.out hx) zb j (Int.le_of_lt hj1)
 rw [hbb] at EB
 have EB := Lib.hid EB
 have HB := Lib.hid hbb
 clear hbb
 have HR0 := Lib.hid hr0
 clear hr0
 cases ab
 · go_enter Tryz.func43, Tryz.ntmps43
   go_wp2_with (first | ((with_reducible refine (EA.out _ zaa).mono ?_); rintro e' _ ⟨rfl, d1, os1, rfl⟩) | ((with_reducible refine (EB.out _ zaa).mono ?_); rintro e' _ ⟨rfl, d1, os1, rfl⟩))
   go_ret
   exact ⟨ret_bool zbz, zaa⟩
 · cases bb
   · go_enter Tryz.func43, Tryz.ntmps43
     go_wp2_with (first | ((with_reducible refine (EA.out _ zaa).mono ?_); rintro e' _ ⟨rfl, d1, os1, rfl⟩) | ((with_reducible refine (EB.out _ zaa).mono ?_); rintro e' _ ⟨rfl, d1, os1, rfl⟩))
     go_ret
     exact ⟨ret_bool zcw, zaa⟩
   · by_cases hc : zc = -1
     · subst hc
       by_cases hx : zx = -1
       · subst hx
         by_cases hi : zi = 0
         · subst hi
           by_cases he : zt.toList = []
           · have HTN := Lib.hid (show (zt.toList = []) = True by simpa using he)
             have p13zt : zt.toList = [] := he
             have p14zt : zt.toList.isEmpty = true := by rw [he]; rfl
             clear he
             by_cases he : zs.toList = []
             · have HSN := Lib.hid (show (zs.toList = []) = True by simpa using he)
               have p13zs : zs.toList = [] := he
               have p14zs : zs.toList.isEmpty = true := by rw [he]; rfl
               clear he
               go_enter Tryz.func43, Tryz.ntmps43
               go_wp2_with (first | ((with_reducible refine (EA.out _ zaa).mono ?_); rintro e' _ ⟨rfl, d1, os1, rfl⟩) | ((with_reducible refine (EB.out _ zaa).mono ?_); rintro e' _ ⟨rfl, d1, os1, rfl⟩))
               go_ret
               exact ⟨ret_bool zbx, zaa⟩
             · have HSN := Lib.hid (show (zs.toList = []) = False by simpa using he)
               refine ybb ?_; intro p13zs
               refine yba ?_; intro p14zs
               clear he
               go_enter Tryz.func43, Tryz.ntmps43
               go_wp2_with (first | ((with_reducible refine (EA.out _ zaa).mono ?_); rintro e' _ ⟨rfl, d1, os1, rfl⟩) | ((with_reducible refine (EB.out _ zaa).mono ?_); rintro e' _ ⟨rfl, d1, os1, rfl⟩))
               go_ret
               exact ⟨ret_bool zbx, zaa⟩
           · have HTN := Lib.hid (show (zt.toList = []) = False by simpa using he)
             refine yas ?_; intro p13zt
             refine yaq ?_; intro p14zt
             clear he
             go_enter Tryz.func43, Tryz.ntmps43
             go_wp2_with (first | ((with_reducible refine (EA.out _ zaa).mono ?_); rintro e' _ ⟨rfl, d1, os1, rfl⟩) | ((with_reducible refine (EB.out _ zaa).mono ?_); rintro e' _ ⟨rfl, d1, os1, rfl⟩))
             go_ret
             exact ⟨ret_bool zcv, zaa⟩
         · have p11 : (zi != 0) = true := by rw [bne_iff_ne]; exact hi
           refine ybm ?_; intro HI
           clear hi
           go_enter Tryz.func43, Tryz.ntmps43
           go_wp2_with (first | ((with_reducible refine (EA.out _ zaa).mono ?_); rintro e' _ ⟨rfl, d1, os1, rfl⟩) | ((with_reducible refine (EB.out _ zaa).mono ?_); rintro e' _ ⟨rfl, d1, os1, rfl⟩))
           go_ret
           exact ydo
       · have p4 : (zx == -1) = false := by simpa using hx
         have p5 : (zx != -1) = true := by rw [bne_iff_ne]; exact hx
         refine ybk ?_; intro HNX
         clear hx
         by_cases hx1 : zx ≤ (j : Int)
         · have HX := Lib.hid (show qab ns zx ((j : Int) + 1) ns.length true = false by unfold qab; rw [show decide ((j : Int) + 1 ≤ zx) = false by (simp; omega)]; rfl)
           go_enter Tryz.func43, Tryz.ntmps43
           go_wp2_with (first | ((with_reducible refine (EA.out _ zaa).mono ?_); rintro e' _ ⟨rfl, d1, os1, rfl⟩) | ((with_reducible refine (EB.out _ zaa).mono ?_); rintro e' _ ⟨rfl, d1, os1, rfl⟩))
           go_ret
           exact ⟨ret_bool zbd, zaa⟩
         · by_cases hx2 : (ns.length : Int) ≤ zx
           · have HX := Lib.hid (show qab ns zx ((j : Int) + 1) ns.length true = false by unfold qab; rw [show decide (zx < (ns.length : Int)) = false by (simp; omega), Bool.and_false]; rfl)
             have p6 : (zx ≤ (j : Int)) = False := by simp; omega
             have p7 : (ns.length : Int) ≤ zx := hx2
             clear hx1 hx2
             go_enter Tryz.func43, Tryz.ntmps43
             go_wp2_with (first | ((with_reducible refine (EA.out _ zaa).mono ?_); rintro e' _ ⟨rfl, d1, os1, rfl⟩) | ((with_reducible refine (EB.out _ zaa).mono ?_); rintro e' _ ⟨rfl, d1, os1, rfl⟩))
             go_ret
             exact ⟨ret_bool zbd, zaa⟩
           · obtain ⟨x, rfl⟩ : ∃ x : Nat, zx = (x : Int) := ⟨zx.toNat, by omega⟩
             obtain ⟨g1, c1, hv, -, hcx⟩ := qat HR.out (k := x) zaf
             cases hv
             obtain ⟨kk, hkk⟩ : ∃ b, qbf ns (x : Int) = b := ⟨_, rfl⟩
             rw [hkk] at hcx
             have p6 : ((x : Int) ≤ (j : Int)) = False := by simp; omega
             have p7 : ((ns.length : Int) ≤ (x : Int)) = False := by simp; omega
             have p8 : 0 ≤ (x : Int) := by omega
             have p9 : (x : Int) < (ns.length : Int) := by omega
             have p6' : (x ≤ j) = False := by simp; omega
             have p7' : (ns.length ≤ x) = False := by simp; omega
             by_cases hkk2 : kk < 20
             · have HX := Lib.hid (show qab ns (x : Int) ((j : Int) + 1) ns.length true = false by unfold qab; rw [hkk]; have hd : decide (20 ≤ kk) = false := zbl; simp [hd])
               clear hkk hx1 hx2
               go_enter Tryz.func43, Tryz.ntmps43
               go_wp2_with (first | ((with_reducible refine (EA.out _ zaa).mono ?_); rintro e' _ ⟨rfl, d1, os1, rfl⟩) | ((with_reducible refine (EB.out _ zaa).mono ?_); rintro e' _ ⟨rfl, d1, os1, rfl⟩))
               go_ret
               exact ⟨ret_bool zbd, zaa⟩
             · have p10 : (kk < 20) = False := by simp; omega
               have HX := Lib.hid (show qab ns (x : Int) ((j : Int) + 1) ns.length true = true by unfold qab; rw [hkk]; have hd : decide (20 ≤ kk) = true := zbl; rw [hd, show decide ((j : Int) + 1 ≤ (x : Int)) = true by (simp; omega), show decide ((x : Int) < (ns.length : Int)) = true by (simp; omega)]; rfl)
               clear hkk hx1 hx2 hkk2
               by_cases hi : zi = 0
               · subst hi
                 by_cases he : zt.toList = []
                 · have HTN := Lib.hid (show (zt.toList = []) = True by simpa using he)
                   have p13zt : zt.toList = [] := he
                   have p14zt : zt.toList.isEmpty = true := by rw [he]; rfl
                   clear he
                   by_cases he : zs.toList = []
                   · have HSN := Lib.hid (show (zs.toList = []) = True by simpa using he)
                     have p13zs : zs.toList = [] := he
                     have p14zs : zs.toList.isEmpty = true := by rw [he]; rfl
                     clear he
                     go_enter Tryz.func43, Tryz.ntmps43
                     go_wp2_with (first | ((with_reducible refine (EA.out _ zaa).mono ?_); rintro e' _ ⟨rfl, d1, os1, rfl⟩) | ((with_reducible refine (EB.out _ zaa).mono ?_); rintro e' _ ⟨rfl, d1, os1, rfl⟩))
                     go_ret
                     exact ⟨ret_bool zbu, zaa⟩
                   · have HSN := Lib.hid (show (zs.toList = []) = False by simpa using he)
                     refine ybb ?_; intro p13zs
                     refine yba ?_; intro p14zs
                     clear he
                     go_enter Tryz.func43, Tryz.ntmps43
                     go_wp2_with (first | ((with_reducible refine (EA.out _ zaa).mono ?_); rintro e' _ ⟨rfl, d1, os1, rfl⟩) | ((with_reducible refine (EB.out _ zaa).mono ?_); rintro e' _ ⟨rfl, d1, os1, rfl⟩))
                     go_ret
                     exact ⟨ret_bool zbu, zaa⟩
                 · have HTN := Lib.hid (show (zt.toList = []) = False by simpa using he)
                   refine yas ?_; intro p13zt
                   refine yaq ?_; intro p14zt
                   clear he
                   go_enter Tryz.func43, Tryz.ntmps43
                   go_wp2_with (first | ((with_reducible refine (EA.out _ zaa).mono ?_); rintro e' _ ⟨rfl, d1, os1, rfl⟩) | ((with_reducible refine (EB.out _ zaa).mono ?_); rintro e' _ ⟨rfl, d1, os1, rfl⟩))
                   go_ret
                   exact yde
               · have p11 : (zi != 0) = true := by rw [bne_iff_ne]; exact hi
                 refine ybm ?_; intro HI
                 clear hi
                 go_enter Tryz.func43, Tryz.ntmps43
                 go_wp2_with (first | ((with_reducible refine (EA.out _ zaa).mono ?_); rintro e' _ ⟨rfl, d1, os1, rfl⟩) | ((with_reducible refine (EB.out _ zaa).mono ?_); rintro e' _ ⟨rfl, d1, os1, rfl⟩))
                 go_ret
                 exact ⟨ret_bool (by rw [← HR0.out]; simp [nodeB, qaf, aB, bB, cB, xB, qae, numOk, txt1, txt2, shA, shB, shBB, shBC, shS, shT, HA.out, HB.out, HNX.out, HX.out, HI.out]), zaa⟩
     · have p1 : (zc == -1) = false := by simpa using hc
       have p2 : (zc != -1) = true := by rw [bne_iff_ne]; exact hc
       refine ybn ?_; intro HNC
       clear hc
       go_enter Tryz.func43, Tryz.ntmps43
       go_wp2_with (first | ((with_reducible refine (EA.out _ zaa).mono ?_); rintro e' _ ⟨rfl, d1, os1, rfl⟩) | ((with_reducible refine (EB.out _ zaa).mono ?_); rintro e' _ ⟨rfl, d1, os1, rfl⟩))
       go_ret
       exact ydj
end Go.Proofs.YtpoeknndkccbaaaGreat
