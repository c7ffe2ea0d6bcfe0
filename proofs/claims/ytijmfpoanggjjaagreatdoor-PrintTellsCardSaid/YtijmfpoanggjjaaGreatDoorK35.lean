/- Lemmas for the claim (texts Rf2, what its proof uses of them). -/
import Derived.Test.YtijmfpoanggjjaaGreatDoorK34
set_option linter.unusedSimpArgs false
set_option linter.unusedVariables false
namespace Go.Proofs.YtijmfpoanggjjaaGreatDoor
open Go.RowKit
attribute [go_sem] more_more Array.size_append
set_option maxHeartbeats 4000000 in
set_option maxRecDepth 20000 in
theorem rnode0 {ns : List Nd} {nv : Value} (fi : Int) {w : World} (hr : w.ownsRow 0 34 8 nv ns.length (qac ns)) {j : Nat} {za zb zc zx zi : Int} {zs zt : ByteArray} (hz : ns[j]? = some (⟨0, za, zb, zc, zx, zi, zs, zt⟩ : Nd)) :
  Calls Tryz.prog 23 #[.agg #[nv, .int .i64 fi], .int .i64 (j : Int)] w fun e w' => e = .returned (.bool (nodeB ns j (⟨0, za, zb, zc, zx, zi, zs, zt⟩ : Nd))) ∧ Ext w w' := by
 obtain ⟨r, hr0⟩ : ∃ r, nodeB ns j (⟨0, za, zb, zc, zx, zi, zs, zt⟩ : Nd) = r := ⟨_, rfl⟩
 rw [hr0]
 have hjn := (List.getElem?_eq_some_iff.1 hz).1
 obtain ⟨G, c, rfl, hG, -⟩ := qai hr hjn
 obtain ⟨a0, a1, a2, a3, a4, a5, a6, a7⟩ := nd_at hr hz
 dsimp only at a0 a1 a2 a3 a4 a5 a6 a7
 have hj1 : (j : Int) < (ns.length : Int) := by omega
 have hj0 : 0 ≤ (j : Int) := by omega
 have HR := Lib.hid hr
 clear hr hz hjn
 have HR0 := Lib.hid hr0
 clear hr0
 by_cases ha : za = -1
 · subst ha
   by_cases hb : zb = -1
   · subst hb
     by_cases hc : zc = -1
     · subst hc
       by_cases hx : zx = -1
       · subst hx
         by_cases hi : zi = 0
         · subst hi
           by_cases he : zt.toList = []
           · have HTN := Lib.hid (show (zt.toList = []) = True by simpa using he)
             have p13zt : zt.toList = [] := he
             have p14zt : zt.toList.isEmpty = true := by rw [he]; rfl
             clear he
             by_cases he : zs.toList = []
             · have HSN := Lib.hid (show (zs.toList = []) = True by simpa using he)
               have p13zs : zs.toList = [] := he
               have p14zs : zs.toList.isEmpty = true := by rw [he]; rfl
               clear he
               go_enter Tryz.func23, Tryz.ntmps23
               go_wp2_with fail
               go_ret
               exact ⟨ret_bool zcj, zaa⟩
             · have HSN := Lib.hid (show (zs.toList = []) = False by simpa using he)
               have p13zs : (zs.toList = []) = False := by simpa using he
               have p14zs : zs.toList.isEmpty = false := by simpa using he
               clear he
               go_enter Tryz.func23, Tryz.ntmps23
               go_wp2_with fail
               go_ret
               exact ⟨ret_bool zcj, zaa⟩
           · have HTN := Lib.hid (show (zt.toList = []) = False by simpa using he)
             have p13zt : (zt.toList = []) = False := by simpa using he
             have p14zt : zt.toList.isEmpty = false := by simpa using he
             clear he
             go_enter Tryz.func23, Tryz.ntmps23
             go_wp2_with fail
             go_ret
             exact ⟨ret_bool zcx, zaa⟩
         · have p11 : (zi != 0) = true := by rw [bne_iff_ne]; exact hi
           have HI := Lib.hid (show (zi = 0) = False by simpa using hi)
           clear hi
           go_enter Tryz.func23, Tryz.ntmps23
           go_wp2_with fail
           go_ret
           exact ⟨ret_bool zdk, zaa⟩
       · have p4 : (zx == -1) = false := by simpa using hx
         have p5 : (zx != -1) = true := by rw [bne_iff_ne]; exact hx
         have HNX := Lib.hid (show (zx = -1) = False by simpa using hx)
         clear hx
         go_enter Tryz.func23, Tryz.ntmps23
         go_wp2_with fail
         go_ret
         exact ⟨ret_bool zcy, zaa⟩
     · have p1 : (zc == -1) = false := by simpa using hc
       have p2 : (zc != -1) = true := by rw [bne_iff_ne]; exact hc
       have HNC := Lib.hid (show (zc = -1) = False by simpa using hc)
       clear hc
       go_enter Tryz.func23, Tryz.ntmps23
       go_wp2_with fail
       go_ret
       exact ⟨ret_bool zcz, zaa⟩
   · have HN := Lib.hid (show (zb == -1) = false by simpa using hb)
     have p1 : (zb == -1) = false := by simpa using hb
     have p2 : (zb != -1) = true := by rw [bne_iff_ne]; exact hb
     clear hb
     go_enter Tryz.func23, Tryz.ntmps23
     go_wp2_with fail
     go_ret
     exact ⟨ret_bool zbi, zaa⟩
 · have HN := Lib.hid (show (za == -1) = false by simpa using ha)
   have p1 : (za == -1) = false := by simpa using ha
   have p2 : (za != -1) = true := by rw [bne_iff_ne]; exact ha
   clear ha
   go_enter Tryz.func23, Tryz.ntmps23
   go_wp2_with fail
   go_ret
   exact ⟨ret_bool zbi, zaa⟩
set_option maxHeartbeats 4000000 in
set_option maxRecDepth 20000 in
theorem rnode1 {ns : List Nd} {nv : Value} (fi : Int) {w : World} (hr : w.ownsRow 0 34 8 nv ns.length (qac ns)) {j : Nat} {za zb zc zx zi : Int} {zs zt : ByteArray} (hz : ns[j]? = some (⟨1, za, zb, zc, zx, zi, zs, zt⟩ : Nd)) :
  Calls Tryz.prog 23 #[.agg #[nv, .int .i64 fi], .int .i64 (j : Int)] w fun e w' => e = .returned (.bool (nodeB ns j (⟨1, za, zb, zc, zx, zi, zs, zt⟩ : Nd))) ∧ Ext w w' := by
 obtain ⟨r, hr0⟩ : ∃ r, nodeB ns j (⟨1, za, zb, zc, zx, zi, zs, zt⟩ : Nd) = r := ⟨_, rfl⟩
 rw [hr0]
 have hjn := (List.getElem?_eq_some_iff.1 hz).1
 obtain ⟨G, c, rfl, hG, -⟩ := qai hr hjn
 obtain ⟨a0, a1, a2, a3, a4, a5, a6, a7⟩ := nd_at hr hz
 dsimp only at a0 a1 a2 a3 a4 a5 a6 a7
 have hj1 : (j : Int) < (ns.length : Int) := by omega
 have hj0 : 0 ≤ (j : Int) := by omega
 have HR := Lib.hid hr
 clear hr hz hjn
 have HR0 := Lib.hid hr0
 clear hr0
 by_cases ha : za = -1
 · subst ha
   by_cases hb : zb = -1
   · subst hb
     by_cases hc : zc = -1
     · subst hc
       by_cases hx : zx = -1
       · subst hx
         by_cases hi : zi = 0
         · subst hi
           by_cases he : zt.toList = []
           · have HTN := Lib.hid (show (zt.toList = []) = True by simpa using he)
             have p13zt : zt.toList = [] := he
             have p14zt : zt.toList.isEmpty = true := by rw [he]; rfl
             clear he
             by_cases he : zs.toList = []
             · have HSN := Lib.hid (show (zs.toList = []) = True by simpa using he)
               have p13zs : zs.toList = [] := he
               have p14zs : zs.toList.isEmpty = true := by rw [he]; rfl
               clear he
               go_enter Tryz.func23, Tryz.ntmps23
               go_wp2_with fail
               go_ret
               exact ⟨ret_bool zcj, zaa⟩
             · have HSN := Lib.hid (show (zs.toList = []) = False by simpa using he)
               have p13zs : (zs.toList = []) = False := by simpa using he
               have p14zs : zs.toList.isEmpty = false := by simpa using he
               clear he
               go_enter Tryz.func23, Tryz.ntmps23
               go_wp2_with fail
               go_ret
               exact ⟨ret_bool zcj, zaa⟩
           · have HTN := Lib.hid (show (zt.toList = []) = False by simpa using he)
             have p13zt : (zt.toList = []) = False := by simpa using he
             have p14zt : zt.toList.isEmpty = false := by simpa using he
             clear he
             go_enter Tryz.func23, Tryz.ntmps23
             go_wp2_with fail
             go_ret
             exact ⟨ret_bool zcx, zaa⟩
         · by_cases hi1 : zi = 1
           · subst hi1
             clear hi
             by_cases he : zt.toList = []
             · have HTN := Lib.hid (show (zt.toList = []) = True by simpa using he)
               have p13zt : zt.toList = [] := he
               have p14zt : zt.toList.isEmpty = true := by rw [he]; rfl
               clear he
               by_cases he : zs.toList = []
               · have HSN := Lib.hid (show (zs.toList = []) = True by simpa using he)
                 have p13zs : zs.toList = [] := he
                 have p14zs : zs.toList.isEmpty = true := by rw [he]; rfl
                 clear he
                 go_enter Tryz.func23, Tryz.ntmps23
                 go_wp2_with fail
                 go_ret
                 exact ⟨ret_bool zcj, zaa⟩
               · have HSN := Lib.hid (show (zs.toList = []) = False by simpa using he)
                 have p13zs : (zs.toList = []) = False := by simpa using he
                 have p14zs : zs.toList.isEmpty = false := by simpa using he
                 clear he
                 go_enter Tryz.func23, Tryz.ntmps23
                 go_wp2_with fail
                 go_ret
                 exact ⟨ret_bool zcj, zaa⟩
             · have HTN := Lib.hid (show (zt.toList = []) = False by simpa using he)
               have p13zt : (zt.toList = []) = False := by simpa using he
               have p14zt : zt.toList.isEmpty = false := by simpa using he
               clear he
               go_enter Tryz.func23, Tryz.ntmps23
               go_wp2_with fail
               go_ret
               exact ⟨ret_bool zcx, zaa⟩
           · have p11 : (zi != 0) = true := by rw [bne_iff_ne]; exact hi
             have p12 : (zi != 1) = true := by rw [bne_iff_ne]; exact hi1
             have HI := Lib.hid (show (zi = 0) = False by simpa using hi)
             have HI1 := Lib.hid (show (zi = 1) = False by simpa using hi1)
             clear hi hi1
             go_enter Tryz.func23, Tryz.ntmps23
             go_wp2_with fail
             go_ret
             exact ⟨ret_bool (by rw [← HR0.out]; simp [nodeB, qag, aB, bB, cB, xB, qae, numOk, txt1, txt2, shA, shB, shBB, shBC, shS, shT, HI.out, HI1.out]), zaa⟩
       · have p4 : (zx == -1) = false := by simpa using hx
         have p5 : (zx != -1) = true := by rw [bne_iff_ne]; exact hx
         have HNX := Lib.hid (show (zx = -1) = False by simpa using hx)
         clear hx
         go_enter Tryz.func23, Tryz.ntmps23
         go_wp2_with fail
         go_ret
         exact ⟨ret_bool zcy, zaa⟩
     · have p1 : (zc == -1) = false := by simpa using hc
       have p2 : (zc != -1) = true := by rw [bne_iff_ne]; exact hc
       have HNC := Lib.hid (show (zc = -1) = False by simpa using hc)
       clear hc
       go_enter Tryz.func23, Tryz.ntmps23
       go_wp2_with fail
       go_ret
       exact ⟨ret_bool zcz, zaa⟩
   · have HN := Lib.hid (show (zb == -1) = false by simpa using hb)
     have p1 : (zb == -1) = false := by simpa using hb
     have p2 : (zb != -1) = true := by rw [bne_iff_ne]; exact hb
     clear hb
     go_enter Tryz.func23, Tryz.ntmps23
     go_wp2_with fail
     go_ret
     exact ⟨ret_bool zbi, zaa⟩
 · have HN := Lib.hid (show (za == -1) = false by simpa using ha)
   have p1 : (za == -1) = false := by simpa using ha
   have p2 : (za != -1) = true := by rw [bne_iff_ne]; exact ha
   clear ha
   go_enter Tryz.func23, Tryz.ntmps23
   go_wp2_with fail
   go_ret
   exact ⟨ret_bool zbi, zaa⟩
set_option maxHeartbeats 4000000 in
set_option maxRecDepth 20000 in
theorem rnode2 {ns : List Nd} {nv : Value} (fi : Int) {w : World} (hr : w.ownsRow 0 34 8 nv ns.length (qac ns)) {j : Nat} {za zb zc zx zi : Int} {zs zt : ByteArray} (hz : ns[j]? = some (⟨2, za, zb, zc, zx, zi, zs, zt⟩ : Nd)) :
  Calls Tryz.prog 23 #[.agg #[nv, .int .i64 fi], .int .i64 (j : Int)] w fun e w' => e = .returned (.bool (nodeB ns j (⟨2, za, zb, zc, zx, zi, zs, zt⟩ : Nd))) ∧ Ext w w' := by
 obtain ⟨r, hr0⟩ : ∃ r, nodeB ns j (⟨2, za, zb, zc, zx, zi, zs, zt⟩ : Nd) = r := ⟨_, rfl⟩
 rw [hr0]
 have hjn := (List.getElem?_eq_some_iff.1 hz).1
 obtain ⟨G, c, rfl, hG, -⟩ := qai hr hjn
 obtain ⟨a0, a1, a2, a3, a4, a5, a6, a7⟩ := nd_at hr hz
 dsimp only at a0 a1 a2 a3 a4 a5 a6 a7
 have hj1 : (j : Int) < (ns.length : Int) := by omega
 have hj0 : 0 ≤ (j : Int) := by omega
 have HR := Lib.hid hr
 clear hr hz hjn
 have HR0 := Lib.hid hr0
 clear hr0
 by_cases ha : za = -1
 · subst ha
   by_cases hb : zb = -1
   · subst hb
     by_cases hc : zc = -1
     · subst hc
       by_cases hx : zx = -1
       · subst hx
         by_cases hi : zi < 0
         · have HI := Lib.hid (show (0 ≤ zi) = False by simp; omega)
           go_enter Tryz.func23, Tryz.ntmps23
           go_wp2_with fail
           go_ret
           exact ⟨ret_bool zdk, zaa⟩
         · have p11 : (zi < 0) = False := by simp; omega
           have HI := Lib.hid (show (0 ≤ zi) = True by simp; omega)
           clear hi
           by_cases he : zt.toList = []
           · have HTN := Lib.hid (show (zt.toList = []) = True by simpa using he)
             have p13zt : zt.toList = [] := he
             have p14zt : zt.toList.isEmpty = true := by rw [he]; rfl
             clear he
             by_cases he : zs.toList = []
             · have HSN := Lib.hid (show (zs.toList = []) = True by simpa using he)
               have p13zs : zs.toList = [] := he
               have p14zs : zs.toList.isEmpty = true := by rw [he]; rfl
               clear he
               go_enter Tryz.func23, Tryz.ntmps23
               go_wp2_with fail
               go_ret
               exact ⟨ret_bool (by rw [← HR0.out]; simp [nodeB, qag, aB, bB, cB, xB, qae, numOk, txt1, txt2, shA, shB, shBB, shBC, shS, shT, HI.out, HTN.out, HSN.out]), zaa⟩
             · have HSN := Lib.hid (show (zs.toList = []) = False by simpa using he)
               have p13zs : (zs.toList = []) = False := by simpa using he
               have p14zs : zs.toList.isEmpty = false := by simpa using he
               clear he
               go_enter Tryz.func23, Tryz.ntmps23
               go_wp2_with fail
               go_ret
               exact ⟨ret_bool (by rw [← HR0.out]; simp [nodeB, qag, aB, bB, cB, xB, qae, numOk, txt1, txt2, shA, shB, shBB, shBC, shS, shT, HI.out, HTN.out, HSN.out]), zaa⟩
           · have HTN := Lib.hid (show (zt.toList = []) = False by simpa using he)
             have p13zt : (zt.toList = []) = False := by simpa using he
             have p14zt : zt.toList.isEmpty = false := by simpa using he
             clear he
             go_enter Tryz.func23, Tryz.ntmps23
             go_wp2_with fail
             go_ret
             exact ⟨ret_bool (by rw [← HR0.out]; simp [nodeB, qag, aB, bB, cB, xB, qae, numOk, txt1, txt2, shA, shB, shBB, shBC, shS, shT, HI.out, HTN.out]), zaa⟩
       · have p4 : (zx == -1) = false := by simpa using hx
         have p5 : (zx != -1) = true := by rw [bne_iff_ne]; exact hx
         have HNX := Lib.hid (show (zx = -1) = False by simpa using hx)
         clear hx
         go_enter Tryz.func23, Tryz.ntmps23
         go_wp2_with fail
         go_ret
         exact ⟨ret_bool zcy, zaa⟩
     · have p1 : (zc == -1) = false := by simpa using hc
       have p2 : (zc != -1) = true := by rw [bne_iff_ne]; exact hc
       have HNC := Lib.hid (show (zc = -1) = False by simpa using hc)
       clear hc
       go_enter Tryz.func23, Tryz.ntmps23
       go_wp2_with fail
       go_ret
       exact ⟨ret_bool zcz, zaa⟩
   · have HN := Lib.hid (show (zb == -1) = false by simpa using hb)
     have p1 : (zb == -1) = false := by simpa using hb
     have p2 : (zb != -1) = true := by rw [bne_iff_ne]; exact hb
     clear hb
     go_enter Tryz.func23, Tryz.ntmps23
     go_wp2_with fail
     go_ret
     exact ⟨ret_bool zbi, zaa⟩
 · have HN := Lib.hid (show (za == -1) = false by simpa using ha)
   have p1 : (za == -1) = false := by simpa using ha
   have p2 : (za != -1) = true := by rw [bne_iff_ne]; exact ha
   clear ha
   go_enter Tryz.func23, Tryz.ntmps23
   go_wp2_with fail
   go_ret
   exact ⟨ret_bool zbi, zaa⟩
set_option maxHeartbeats 4000000 in
set_option maxRecDepth 20000 in
theorem rnode3 {ns : List Nd} {nv : Value} (fi : Int) {w : World} (hr : w.ownsRow 0 34 8 nv ns.length (qac ns)) {j : Nat} {za zb zc zx zi : Int} {zs zt : ByteArray} (hz : ns[j]? = some (⟨3, za, zb, zc, zx, zi, zs, zt⟩ : Nd)) :
  Calls Tryz.prog 23 #[.agg #[nv, .int .i64 fi], .int .i64 (j : Int)] w fun e w' => e = .returned (.bool (nodeB ns j (⟨3, za, zb, zc, zx, zi, zs, zt⟩ : Nd))) ∧ Ext w w' := by
 obtain ⟨r, hr0⟩ : ∃ r, nodeB ns j (⟨3, za, zb, zc, zx, zi, zs, zt⟩ : Nd) = r := ⟨_, rfl⟩
 rw [hr0]
 have hjn := (List.getElem?_eq_some_iff.1 hz).1
 obtain ⟨G, c, rfl, hG, -⟩ := qai hr hjn
 obtain ⟨a0, a1, a2, a3, a4, a5, a6, a7⟩ := nd_at hr hz
 dsimp only at a0 a1 a2 a3 a4 a5 a6 a7
 have hj1 : (j : Int) < (ns.length : Int) := by omega
 have hj0 : 0 ≤ (j : Int) := by omega
 have HR := Lib.hid hr
 clear hr hz hjn
 obtain ⟨q, er, hq⟩ : ∃ q er, qbA zs.data.toList = (q, er) := ⟨_, _, rfl⟩
 have NQ := Lib.hid (fun W => qdV zs q er hq W)
 have HS := Lib.hid (show qdR zs = (er == 0) by unfold qdR; rw [hq])
 clear hq
 have HR0 := Lib.hid hr0
 clear hr0
 by_cases ha : za = -1
 · subst ha
   by_cases hb : zb = -1
   · subst hb
     by_cases hc : zc = -1
     · subst hc
       by_cases hx : zx = -1
       · subst hx
         by_cases hi : zi = 0
         · subst hi
           by_cases he : zt.toList = []
           · have HTN := Lib.hid (show (zt.toList = []) = True by simpa using he)
             have p13zt : zt.toList = [] := he
             have p14zt : zt.toList.isEmpty = true := by rw [he]; rfl
             clear he
             by_cases hq : er = 0
             · subst hq
               go_enter Tryz.func23, Tryz.ntmps23
               go_wp2_with (go_at_call 28; (with_reducible refine (NQ.out _).mono ?_); rintro e' _ ⟨rfl, rfl⟩)
               go_ret
               exact ⟨ret_bool (by rw [← HR0.out]; simp [nodeB, qag, aB, bB, cB, xB, qae, numOk, txt1, txt2, shA, shB, shBB, shBC, shS, shT, HTN.out, HS.out]), zaa⟩
             · have HQ := Lib.hid (show (er = 0) = False by simpa using hq)
               have p15 : (er == 0) = false := by simpa using hq
               clear hq
               go_enter Tryz.func23, Tryz.ntmps23
               go_wp2_with (go_at_call 28; (with_reducible refine (NQ.out _).mono ?_); rintro e' _ ⟨rfl, rfl⟩)
               go_ret
               exact ⟨ret_bool (by rw [← HR0.out]; simp [nodeB, qag, aB, bB, cB, xB, qae, numOk, txt1, txt2, shA, shB, shBB, shBC, shS, shT, HTN.out, HS.out, HQ.out]), zaa⟩
           · have HTN := Lib.hid (show (zt.toList = []) = False by simpa using he)
             have p13zt : (zt.toList = []) = False := by simpa using he
             have p14zt : zt.toList.isEmpty = false := by simpa using he
             clear he
             go_enter Tryz.func23, Tryz.ntmps23
             go_wp2_with (go_at_call 28; (with_reducible refine (NQ.out _).mono ?_); rintro e' _ ⟨rfl, rfl⟩)
             go_ret
             exact ⟨ret_bool zcx, zaa⟩
         · have p11 : (zi != 0) = true := by rw [bne_iff_ne]; exact hi
           have HI := Lib.hid (show (zi = 0) = False by simpa using hi)
           clear hi
           go_enter Tryz.func23, Tryz.ntmps23
           go_wp2_with (go_at_call 28; (with_reducible refine (NQ.out _).mono ?_); rintro e' _ ⟨rfl, rfl⟩)
           go_ret
           exact ⟨ret_bool zdk, zaa⟩
       · have p4 : (zx == -1) = false := by simpa using hx
         have p5 : (zx != -1) = true := by rw [bne_iff_ne]; exact hx
         have HNX := Lib.hid (show (zx = -1) = False by simpa using hx)
         clear hx
         go_enter Tryz.func23, Tryz.ntmps23
         go_wp2_with (go_at_call 28; (with_reducible refine (NQ.out _).mono ?_); rintro e' _ ⟨rfl, rfl⟩)
         go_ret
         exact ⟨ret_bool zcy, zaa⟩
     · have p1 : (zc == -1) = false := by simpa using hc
       have p2 : (zc != -1) = true := by rw [bne_iff_ne]; exact hc
       have HNC := Lib.hid (show (zc = -1) = False by simpa using hc)
       clear hc
       go_enter Tryz.func23, Tryz.ntmps23
       go_wp2_with (go_at_call 28; (with_reducible refine (NQ.out _).mono ?_); rintro e' _ ⟨rfl, rfl⟩)
       go_ret
       exact ⟨ret_bool zcz, zaa⟩
   · have HN := Lib.hid (show (zb == -1) = false by simpa using hb)
     have p1 : (zb == -1) = false := by simpa using hb
     have p2 : (zb != -1) = true := by rw [bne_iff_ne]; exact hb
     clear hb
     go_enter Tryz.func23, Tryz.ntmps23
     go_wp2_with (go_at_call 28; (with_reducible refine (NQ.out _).mono ?_); rintro e' _ ⟨rfl, rfl⟩)
     go_ret
     exact ⟨ret_bool zbi, zaa⟩
 · have HN := Lib.hid (show (za == -1) = false by simpa using ha)
   have p1 : (za == -1) = false := by simpa using ha
   have p2 : (za != -1) = true := by rw [bne_iff_ne]; exact ha
   clear ha
   go_enter Tryz.func23, Tryz.ntmps23
   go_wp2_with (go_at_call 28; (with_reducible refine (NQ.out _).mono ?_); rintro e' _ ⟨rfl, rfl⟩)
   go_ret
   exact ⟨ret_bool zbi, zaa⟩
set_option maxHeartbeats 4000000 in
set_option maxRecDepth 20000 in
theorem rnode4 {ns : List Nd} {nv : Value} (fi : Int) {w : World} (hr : w.ownsRow 0 34 8 nv ns.length (qac ns)) {j : Nat} {za zb zc zx zi : Int} {zs zt : ByteArray} (hz : ns[j]? = some (⟨4, za, zb, zc, zx, zi, zs, zt⟩ : Nd)) :
  Calls Tryz.prog 23 #[.agg #[nv, .int .i64 fi], .int .i64 (j : Int)] w fun e w' => e = .returned (.bool (nodeB ns j (⟨4, za, zb, zc, zx, zi, zs, zt⟩ : Nd))) ∧ Ext w w' := by
 obtain ⟨r, hr0⟩ : ∃ r, nodeB ns j (⟨4, za, zb, zc, zx, zi, zs, zt⟩ : Nd) = r := ⟨_, rfl⟩
 rw [hr0]
 have hjn := (List.getElem?_eq_some_iff.1 hz).1
 obtain ⟨G, c, rfl, hG, -⟩ := qai hr hjn
 obtain ⟨a0, a1, a2, a3, a4, a5, a6, a7⟩ := nd_at hr hz
 dsimp only at a0 a1 a2 a3 a4 a5 a6 a7
 have hj1 : (j : Int) < (ns.length : Int) := by omega
 have hj0 : 0 ≤ (j : Int) := by omega
 have HR := Lib.hid hr
 clear hr hz hjn
 obtain ⟨sb, hsb⟩ : ∃ b, nameOk zs = b := ⟨_, rfl⟩
 have NS := fun W => name16 zs W
 rw [hsb] at NS
 have NS := Lib.hid NS
 have HS := Lib.hid hsb
 clear hsb
 have HR0 := Lib.hid hr0
 clear hr0
 by_cases ha : za = -1
 · subst ha
   by_cases hb : zb = -1
   · subst hb
     by_cases hc : zc = -1
     · subst hc
       by_cases hx : zx = -1
       · subst hx
         by_cases hi : zi = 0
         · subst hi
           by_cases he : zt.toList = []
           · have HTN := Lib.hid (show (zt.toList = []) = True by simpa using he)
             have p13zt : zt.toList = [] := he
             have p14zt : zt.toList.isEmpty = true := by rw [he]; rfl
             clear he
             cases sb
             · go_enter Tryz.func23, Tryz.ntmps23
               go_wp2_with (go_at_call 44; (with_reducible refine (NS.out _).mono ?_); rintro e' _ ⟨rfl, d1, os1, rfl⟩)
               go_ret
               exact ⟨ret_bool (by rw [← HR0.out]; simp [nodeB, qag, aB, bB, cB, xB, qae, numOk, txt1, txt2, shA, shB, shBB, shBC, shS, shT, HTN.out, HS.out]), zaa⟩
             · go_enter Tryz.func23, Tryz.ntmps23
               go_wp2_with (go_at_call 44; (with_reducible refine (NS.out _).mono ?_); rintro e' _ ⟨rfl, d1, os1, rfl⟩)
               go_ret
               exact ⟨ret_bool (by rw [← HR0.out]; simp [nodeB, qag, aB, bB, cB, xB, qae, numOk, txt1, txt2, shA, shB, shBB, shBC, shS, shT, HTN.out, HS.out]), zaa⟩
           · have HTN := Lib.hid (show (zt.toList = []) = False by simpa using he)
             have p13zt : (zt.toList = []) = False := by simpa using he
             have p14zt : zt.toList.isEmpty = false := by simpa using he
             clear he
             go_enter Tryz.func23, Tryz.ntmps23
             go_wp2_with (go_at_call 44; (with_reducible refine (NS.out _).mono ?_); rintro e' _ ⟨rfl, d1, os1, rfl⟩)
             go_ret
             exact ⟨ret_bool zcx, zaa⟩
         · have p11 : (zi != 0) = true := by rw [bne_iff_ne]; exact hi
           have HI := Lib.hid (show (zi = 0) = False by simpa using hi)
           clear hi
           go_enter Tryz.func23, Tryz.ntmps23
           go_wp2_with (go_at_call 44; (with_reducible refine (NS.out _).mono ?_); rintro e' _ ⟨rfl, d1, os1, rfl⟩)
           go_ret
           exact ⟨ret_bool zdk, zaa⟩
       · have p4 : (zx == -1) = false := by simpa using hx
         have p5 : (zx != -1) = true := by rw [bne_iff_ne]; exact hx
         have HNX := Lib.hid (show (zx = -1) = False by simpa using hx)
         clear hx
         go_enter Tryz.func23, Tryz.ntmps23
         go_wp2_with (go_at_call 44; (with_reducible refine (NS.out _).mono ?_); rintro e' _ ⟨rfl, d1, os1, rfl⟩)
         go_ret
         exact ⟨ret_bool zcy, zaa⟩
     · have p1 : (zc == -1) = false := by simpa using hc
       have p2 : (zc != -1) = true := by rw [bne_iff_ne]; exact hc
       have HNC := Lib.hid (show (zc = -1) = False by simpa using hc)
       clear hc
       go_enter Tryz.func23, Tryz.ntmps23
       go_wp2_with (go_at_call 44; (with_reducible refine (NS.out _).mono ?_); rintro e' _ ⟨rfl, d1, os1, rfl⟩)
       go_ret
       exact ⟨ret_bool zcz, zaa⟩
   · have HN := Lib.hid (show (zb == -1) = false by simpa using hb)
     have p1 : (zb == -1) = false := by simpa using hb
     have p2 : (zb != -1) = true := by rw [bne_iff_ne]; exact hb
     clear hb
     go_enter Tryz.func23, Tryz.ntmps23
     go_wp2_with (go_at_call 44; (with_reducible refine (NS.out _).mono ?_); rintro e' _ ⟨rfl, d1, os1, rfl⟩)
     go_ret
     exact ⟨ret_bool zbi, zaa⟩
 · have HN := Lib.hid (show (za == -1) = false by simpa using ha)
   have p1 : (za == -1) = false := by simpa using ha
   have p2 : (za != -1) = true := by rw [bne_iff_ne]; exact ha
   clear ha
   go_enter Tryz.func23, Tryz.ntmps23
   go_wp2_with (go_at_call 44; (with_reducible refine (NS.out _).mono ?_); rintro e' _ ⟨rfl, d1, os1, rfl⟩)
   go_ret
   exact ⟨ret_bool zbi, zaa⟩
end Go.Proofs.YtijmfpoanggjjaaGreatDoor
