/- Lemmas for the claim (texts Rf2, what its proof uses of them). -/
import Derived.Test.YtpoeknndkccbaaaGreatM30
set_option linter.unusedSimpArgs false
set_option linter.unusedVariables false
set_option maxHeartbeats 4000000
set_option maxRecDepth 20000
namespace Go.Proofs.YtpoeknndkccbaaaGreat
open Go.RowKit
variable {ns : List Nd} {nv : Value}
attribute [go_sem] more_more Array.size_append
theorem rnode0 (fi : Int) {w : World} (hr : w.ownsRow 0 42 8 nv ns.length (qad ns)) {j : Nat} {za zb zc zx zi : Int} {zs zt : ByteArray} (hz : ns[j]? = some (⟨0, za, zb, zc, zx, zi, zs, zt⟩ : Nd)) :
  Calls Tryz.prog 43 #[.agg #[nv, .int .i64 fi], .int .i64 (j : Int)] w fun e w' => e = .returned (.bool (nodeB ns j (⟨0, za, zb, zc, zx, zi, zs, zt⟩ : Nd))) ∧ Ext w w' := by
 obtain ⟨r, hr0⟩ : ∃ r, nodeB ns j (⟨0, za, zb, zc, zx, zi, zs, zt⟩ : Nd) = r := ⟨_, rfl⟩
 rw [hr0]
 have hjn := (List.getElem?_eq_some_iff.1 hz).1
 obtain ⟨G, c, rfl, hG, -⟩ := qat hr hjn
 obtain ⟨a0, a1, a2, a3, a4, a5, a6, a7⟩ := nd_at hr hz
 dsimp only at a0 a1 a2 a3 a4 a5 a6 a7
 refine ybt ?_; intro hj1
 have hj0 : 0 ≤ (j : Int) := by omega
 have HR := Lib.hid hr
 clear hr hz hjn
 have HR0 := Lib.hid hr0
 clear hr0
 by_cases ha : za = -1
 · subst ha
   by_cases hb : zb = -1
   · subst hb
     by_cases hc : zc = -1
     · subst hc
       by_cases hx : zx = -1
       · subst hx
         by_cases hi : zi = 0
         · subst hi
           by_cases he : zt.toList = []
           · have HTN := Lib.hid (show (zt.toList = []) = True by simpa using he)
             have p13zt : zt.toList = [] := he
             have p14zt : zt.toList.isEmpty = true := by rw [he]; rfl
             clear he
             by_cases he : zs.toList = []
             · have HSN := Lib.hid (show (zs.toList = []) = True by simpa using he)
               have p13zs : zs.toList = [] := he
               have p14zs : zs.toList.isEmpty = true := by rw [he]; rfl
               clear he
               go_enter Tryz.func43, Tryz.ntmps43
               go_wp2_with fail
               go_ret
               exact ⟨ret_bool zce, zaa⟩
             · have HSN := Lib.hid (show (zs.toList = []) = False by simpa using he)
               refine ybb ?_; intro p13zs
               refine yba ?_; intro p14zs
               clear he
               go_enter Tryz.func43, Tryz.ntmps43
               go_wp2_with fail
               go_ret
               exact ⟨ret_bool zce, zaa⟩
           · have HTN := Lib.hid (show (zt.toList = []) = False by simpa using he)
             refine yas ?_; intro p13zt
             refine yaq ?_; intro p14zt
             clear he
             go_enter Tryz.func43, Tryz.ntmps43
             go_wp2_with fail
             go_ret
             exact ⟨ret_bool zco, zaa⟩
         · have p11 : (zi != 0) = true := by rw [bne_iff_ne]; exact hi
           refine ybm ?_; intro HI
           clear hi
           go_enter Tryz.func43, Tryz.ntmps43
           go_wp2_with fail
           go_ret
           exact ⟨ret_bool zcy, zaa⟩
       · have p4 : (zx == -1) = false := by simpa using hx
         have p5 : (zx != -1) = true := by rw [bne_iff_ne]; exact hx
         refine ybk ?_; intro HNX
         clear hx
         go_enter Tryz.func43, Tryz.ntmps43
         go_wp2_with fail
         go_ret
         exact ⟨ret_bool zcp, zaa⟩
     · have p1 : (zc == -1) = false := by simpa using hc
       have p2 : (zc != -1) = true := by rw [bne_iff_ne]; exact hc
       refine ybn ?_; intro HNC
       clear hc
       go_enter Tryz.func43, Tryz.ntmps43
       go_wp2_with fail
       go_ret
       exact ⟨ret_bool zcq, zaa⟩
   · have HN := Lib.hid (show (zb == -1) = false by simpa using hb)
     have p1 : (zb == -1) = false := by simpa using hb
     have p2 : (zb != -1) = true := by rw [bne_iff_ne]; exact hb
     clear hb
     go_enter Tryz.func43, Tryz.ntmps43
     go_wp2_with fail
     go_ret
     exact ⟨ret_bool zbb, zaa⟩
 · have HN := Lib.hid (show (za == -1) = false by simpa using ha)
   have p1 : (za == -1) = false := by simpa using ha
   have p2 : (za != -1) = true := by rw [bne_iff_ne]; exact ha
   clear ha
   go_enter Tryz.func43, Tryz.ntmps43
   go_wp2_with fail
   go_ret
   exact ⟨ret_bool zbb, zaa⟩
theorem rnode1 (fi : Int) {w : World} (hr : w.ownsRow 0 42 8 nv ns.length (qad ns)) {j : Nat} {za zb zc zx zi : Int} {zs zt : ByteArray} (hz : ns[j]? = some (⟨1, za, zb, zc, zx, zi, zs, zt⟩ : Nd)) :
  Calls Tryz.prog 43 #[.agg #[nv, .int .i64 fi], .int .i64 (j : Int)] w fun e w' => e = .returned (.bool (nodeB ns j (⟨1, za, zb, zc, zx, zi, zs, zt⟩ : Nd))) ∧ Ext w w' := by
 obtain ⟨r, hr0⟩ : ∃ r, nodeB ns j (⟨1, za, zb, zc, zx, zi, zs, zt⟩ : Nd) = r := ⟨_, rfl⟩
 rw [hr0]
 have hjn := (List.getElem?_eq_some_iff.1 hz).1
 obtain ⟨G, c, rfl, hG, -⟩ := qat hr hjn
 obtain ⟨a0, a1, a2, a3, a4, a5, a6, a7⟩ := nd_at hr hz
 dsimp only at a0 a1 a2 a3 a4 a5 a6 a7
 refine ybt ?_; intro hj1
 have hj0 : 0 ≤ (j : Int) := by omega
 have HR := Lib.hid hr
 clear hr hz hjn
 have HR0 := Lib.hid hr0
 clear hr0
 by_cases ha : za = -1
 · subst ha
   by_cases hb : zb = -1
   · subst hb
     by_cases hc : zc = -1
     · subst hc
       by_cases hx : zx = -1
       · subst hx
         by_cases hi : zi = 0
         · subst hi
           by_cases he : zt.toList = []
           · have HTN := Lib.hid (show (zt.toList = []) = True by simpa using he)
             have p13zt : zt.toList = [] := he
             have p14zt : zt.toList.isEmpty = true := by rw [he]; rfl
             clear he
             by_cases he : zs.toList = []
             · have HSN := Lib.hid (show (zs.toList = []) = True by simpa using he)
               have p13zs : zs.toList = [] := he
               have p14zs : zs.toList.isEmpty = true := by rw [he]; rfl
               clear he
               go_enter Tryz.func43, Tryz.ntmps43
               go_wp2_with fail
               go_ret
               exact ⟨ret_bool zce, zaa⟩
             · have HSN := Lib.hid (show (zs.toList = []) = False by simpa using he)
               refine ybb ?_; intro p13zs
               refine yba ?_; intro p14zs
               clear he
               go_enter Tryz.func43, Tryz.ntmps43
               go_wp2_with fail
               go_ret
               exact ⟨ret_bool zce, zaa⟩
           · have HTN := Lib.hid (show (zt.toList = []) = False by simpa using he)
             refine yas ?_; intro p13zt
             refine yaq ?_; intro p14zt
             clear he
             go_enter Tryz.func43, Tryz.ntmps43
             go_wp2_with fail
             go_ret
             exact ⟨ret_bool zco, zaa⟩
         · by_cases hi1 : zi = 1
           · subst hi1
             clear hi
             by_cases he : zt.toList = []
             · have HTN := Lib.hid (show (zt.toList = []) = True by simpa using he)
               have p13zt : zt.toList = [] := he
               have p14zt : zt.toList.isEmpty = true := by rw [he]; rfl
               clear he
               by_cases he : zs.toList = []
               · have HSN := Lib.hid (show (zs.toList = []) = True by simpa using he)
                 have p13zs : zs.toList = [] := he
                 have p14zs : zs.toList.isEmpty = true := by rw [he]; rfl
                 clear he
                 go_enter Tryz.func43, Tryz.ntmps43
                 go_wp2_with fail
                 go_ret
                 exact ⟨ret_bool zce, zaa⟩
               · have HSN := Lib.hid (show (zs.toList = []) = False by simpa using he)
                 refine ybb ?_; intro p13zs
                 refine yba ?_; intro p14zs
                 clear he
                 go_enter Tryz.func43, Tryz.ntmps43
                 go_wp2_with fail
                 go_ret
                 exact ⟨ret_bool zce, zaa⟩
             · have HTN := Lib.hid (show (zt.toList = []) = False by simpa using he)
               refine yas ?_; intro p13zt
               refine yaq ?_; intro p14zt
               clear he
               go_enter Tryz.func43, Tryz.ntmps43
               go_wp2_with fail
               go_ret
               exact ⟨ret_bool zco, zaa⟩
           · have p11 : (zi != 0) = true := by rw [bne_iff_ne]; exact hi
             have p12 : (zi != 1) = true := by rw [bne_iff_ne]; exact hi1
             refine ybm ?_; intro HI
             have HI1 := Lib.hid (show (zi = 1) = False by simpa using hi1)
             clear hi hi1
             go_enter Tryz.func43, Tryz.ntmps43
             go_wp2_with fail
             go_ret
             exact ⟨ret_bool (by rw [← HR0.out]; simp [nodeB, qaf, aB, bB, cB, xB, qae, numOk, txt1, txt2, shA, shB, shBB, shBC, shS, shT, HI.out, HI1.out]), zaa⟩
       · have p4 : (zx == -1) = false := by simpa using hx
         have p5 : (zx != -1) = true := by rw [bne_iff_ne]; exact hx
         refine ybk ?_; intro HNX
         clear hx
         go_enter Tryz.func43, Tryz.ntmps43
         go_wp2_with fail
         go_ret
         exact ⟨ret_bool zcp, zaa⟩
     · have p1 : (zc == -1) = false := by simpa using hc
       have p2 : (zc != -1) = true := by rw [bne_iff_ne]; exact hc
       refine ybn ?_; intro HNC
       clear hc
       go_enter Tryz.func43, Tryz.ntmps43
       go_wp2_with fail
       go_ret
       exact ⟨ret_bool zcq, zaa⟩
   · have HN := Lib.hid (show (zb == -1) = false by simpa using hb)
     have p1 : (zb == -1) = false := by simpa using hb
     have p2 : (zb != -1) = true := by rw [bne_iff_ne]; exact hb
     clear hb
     go_enter Tryz.func43, Tryz.ntmps43
     go_wp2_with fail
     go_ret
     exact ⟨ret_bool zbb, zaa⟩
 · have HN := Lib.hid (show (za == -1) = false by simpa using ha)
   have p1 : (za == -1) = false := by simpa using ha
   have p2 : (za != -1) = true := by rw [bne_iff_ne]; exact ha
   clear ha
   go_enter Tryz.func43, Tryz.ntmps43
   go_wp2_with fail
   go_ret
   exact ⟨ret_bool zbb, zaa⟩
theorem rnode2 (fi : Int) {w : World} (hr : w.ownsRow 0 42 8 nv ns.length (qad ns)) {j : Nat} {za zb zc zx zi : Int} {zs zt : ByteArray} (hz : ns[j]? = some (⟨2, za, zb, zc, zx, zi, zs, zt⟩ : Nd)) :
  Calls Tryz.prog 43 #[.agg #[nv, .int .i64 fi], .int .i64 (j : Int)] w fun e w' => e = .returned (.bool (nodeB ns j (⟨2, za, zb, zc, zx, zi, zs, zt⟩ : Nd))) ∧ Ext w w' := by
 obtain ⟨r, hr0⟩ : ∃ r, nodeB ns j (⟨2, za, zb, zc, zx, zi, zs, zt⟩ : Nd) = r := ⟨_, rfl⟩
 rw [hr0]
 have hjn := (List.getElem?_eq_some_iff.1 hz).1
 obtain ⟨G, c, rfl, hG, -⟩ := qat hr hjn
 obtain ⟨a0, a1, a2, a3, a4, a5, a6, a7⟩ := nd_at hr hz
 dsimp only at a0 a1 a2 a3 a4 a5 a6 a7
 refine ybt ?_; intro hj1
 have hj0 : 0 ≤ (j : Int) := by omega
 have HR := Lib.hid hr
 clear hr hz hjn
 have HR0 := Lib.hid hr0
 clear hr0
 by_cases ha : za = -1
 · subst ha
   by_cases hb : zb = -1
   · subst hb
     by_cases hc : zc = -1
     · subst hc
       by_cases hx : zx = -1
       · subst hx
         by_cases hi : zi < 0
         · have HI := Lib.hid (show (0 ≤ zi) = False by simp; omega)
           go_enter Tryz.func43, Tryz.ntmps43
           go_wp2_with fail
           go_ret
           exact ⟨ret_bool zcy, zaa⟩
         · have p11 : (zi < 0) = False := by simp; omega
           have HI := Lib.hid (show (0 ≤ zi) = True by simp; omega)
           clear hi
           by_cases he : zt.toList = []
           · have HTN := Lib.hid (show (zt.toList = []) = True by simpa using he)
             have p13zt : zt.toList = [] := he
             have p14zt : zt.toList.isEmpty = true := by rw [he]; rfl
             clear he
             by_cases he : zs.toList = []
             · have HSN := Lib.hid (show (zs.toList = []) = True by simpa using he)
               have p13zs : zs.toList = [] := he
               have p14zs : zs.toList.isEmpty = true := by rw [he]; rfl
               clear he
               go_enter Tryz.func43, Tryz.ntmps43
               go_wp2_with fail
               go_ret
               exact ⟨ret_bool (by rw [← HR0.out]; simp [nodeB, qaf, aB, bB, cB, xB, qae, numOk, txt1, txt2, shA, shB, shBB, shBC, shS, shT, HI.out, HTN.out, HSN.out]), zaa⟩
             · have HSN := Lib.hid (show (zs.toList = []) = False by simpa using he)
               refine ybb ?_; intro p13zs
               refine yba ?_; intro p14zs
               clear he
               go_enter Tryz.func43, Tryz.ntmps43
               go_wp2_with fail
               go_ret
               exact ⟨ret_bool (by rw [← HR0.out]; simp [nodeB, qaf, aB, bB, cB, xB, qae, numOk, txt1, txt2, shA, shB, shBB, shBC, shS, shT, HI.out, HTN.out, HSN.out]), zaa⟩
           · have HTN := Lib.hid (show (zt.toList = []) = False by simpa using he)
             refine yas ?_; intro p13zt
             refine yaq ?_; intro p14zt
             clear he
             go_enter Tryz.func43, Tryz.ntmps43
             go_wp2_with fail
             go_ret
             exact ⟨ret_bool (by rw [← HR0.out]; simp [nodeB, qaf, aB, bB, cB, xB, qae, numOk, txt1, txt2, shA, shB, shBB, shBC, shS, shT, HI.out, HTN.out]), zaa⟩
       · have p4 : (zx == -1) = false := by simpa using hx
         have p5 : (zx != -1) = true := by rw [bne_iff_ne]; exact hx
         refine ybk ?_; intro HNX
         clear hx
         go_enter Tryz.func43, Tryz.ntmps43
         go_wp2_with fail
         go_ret
         exact ⟨ret_bool zcp, zaa⟩
     · have p1 : (zc == -1) = false := by simpa using hc
       have p2 : (zc != -1) = true := by rw [bne_iff_ne]; exact hc
       refine ybn ?_; intro HNC
       clear hc
       go_enter Tryz.func43, Tryz.ntmps43
       go_wp2_with fail
       go_ret
       exact ⟨ret_bool zcq, zaa⟩
   · have HN := Lib.hid (show (zb == -1) = false by simpa using hb)
     have p1 : (zb == -1) = false := by simpa using hb
     have p2 : (zb != -1) = true := by rw [bne_iff_ne]; exact hb
     clear hb
     go_enter Tryz.func43, Tryz.ntmps43
     go_wp2_with fail
     go_ret
     exact ⟨ret_bool zbb, zaa⟩
 · have HN := Lib.hid (show (za == -1) = false by simpa using ha)
   have p1 : (za == -1) = false := by simpa using ha
   have p2 : (za != -1) = true := by rw [bne_iff_ne]; exact ha
   clear ha
   go_enter Tryz.func43, Tryz.ntmps43
   go_wp2_with fail
   go_ret
   exact ⟨ret_bool zbb, zaa⟩
theorem rnode3 (fi : Int) {w : World} (hr : w.ownsRow 0 42 8 nv ns.length (qad ns)) {j : Nat} {za zb zc zx zi : Int} {zs zt : ByteArray} (hz : ns[j]? = some (⟨3, za, zb, zc, zx, zi, zs, zt⟩ : Nd)) :
  Calls Tryz.prog 43 #[.agg #[nv, .int .i64 fi], .int .i64 (j : Int)] w fun e w' => e = .returned (.bool (nodeB ns j (⟨3, za, zb, zc, zx, zi, zs, zt⟩ : Nd))) ∧ Ext w w' := by
 obtain ⟨r, hr0⟩ : ∃ r, nodeB ns j (⟨3, za, zb, zc, zx, zi, zs, zt⟩ : Nd) = r := ⟨_, rfl⟩
 rw [hr0]
 have hjn := (List.getElem?_eq_some_iff.1 hz).1
 obtain ⟨G, c, rfl, hG, -⟩ := qat hr hjn
 obtain ⟨a0, a1, a2, a3, a4, a5, a6, a7⟩ := nd_at hr hz
 dsimp only at a0 a1 a2 a3 a4 a5 a6 a7
 refine ybt ?_; intro hj1
 have hj0 : 0 ≤ (j : Int) := by omega
 have HR := Lib.hid hr
 clear hr hz hjn
 obtain ⟨q, er, hq⟩ : ∃ q er, qcI zs.data.toList = (q, er) := ⟨_, _, rfl⟩
 have NQ := Lib.hid (fun W => rquote_any zs q er hq W)
 have HS := Lib.hid (show qcE zs = (er == 0) by unfold qcE; rw [hq])
 clear hq
 have HR0 := Lib.hid hr0
 clear hr0
 by_cases ha : za = -1
 · subst ha
   by_cases hb : zb = -1
   · subst hb
     by_cases hc : zc = -1
     · subst hc
       by_cases hx : zx = -1
       · subst hx
         by_cases hi : zi = 0
         · subst hi
           by_cases he : zt.toList = []
           · have HTN := Lib.hid (show (zt.toList = []) = True by simpa using he)
             have p13zt : zt.toList = [] := he
             have p14zt : zt.toList.isEmpty = true := by rw [he]; rfl
             clear he
             by_cases hq : er = 0
             · subst hq
               go_enter Tryz.func43, Tryz.ntmps43
               go_wp2_with ((with_reducible refine (NQ.out _).mono ?_); rintro e' _ ⟨rfl, rfl⟩)
               go_ret
               exact yds
             · have HQ := Lib.hid (show (er = 0) = False by simpa using hq)
               have p15 : (er == 0) = false := by simpa using hq
               clear hq
               go_enter Tryz.func43, Tryz.ntmps43
               go_wp2_with ((with_reducible refine (NQ.out _).mono ?_); rintro e' _ ⟨rfl, rfl⟩)
               go_ret
               exact ⟨ret_bool (by rw [← HR0.out]; simp [nodeB, qaf, aB, bB, cB, xB, qae, numOk, txt1, txt2, shA, shB, shBB, shBC, shS, shT, HTN.out, HS.out, HQ.out]), zaa⟩
           · have HTN := Lib.hid (show (zt.toList = []) = False by simpa using he)
             refine yas ?_; intro p13zt
             refine yaq ?_; intro p14zt
             clear he
             go_enter Tryz.func43, Tryz.ntmps43
             go_wp2_with ((with_reducible refine (NQ.out _).mono ?_); rintro e' _ ⟨rfl, rfl⟩)
             go_ret
             exact ⟨ret_bool zco, zaa⟩
         · have p11 : (zi != 0) = true := by rw [bne_iff_ne]; exact hi
           refine ybm ?_; intro HI
           clear hi
           go_enter Tryz.func43, Tryz.ntmps43
           go_wp2_with ((with_reducible refine (NQ.out _).mono ?_); rintro e' _ ⟨rfl, rfl⟩)
           go_ret
           exact ⟨ret_bool zcy, zaa⟩
       · have p4 : (zx == -1) = false := by simpa using hx
         have p5 : (zx != -1) = true := by rw [bne_iff_ne]; exact hx
         refine ybk ?_; intro HNX
         clear hx
         go_enter Tryz.func43, Tryz.ntmps43
         go_wp2_with ((with_reducible refine (NQ.out _).mono ?_); rintro e' _ ⟨rfl, rfl⟩)
         go_ret
         exact ⟨ret_bool zcp, zaa⟩
     · have p1 : (zc == -1) = false := by simpa using hc
       have p2 : (zc != -1) = true := by rw [bne_iff_ne]; exact hc
       refine ybn ?_; intro HNC
       clear hc
       go_enter Tryz.func43, Tryz.ntmps43
       go_wp2_with ((with_reducible refine (NQ.out _).mono ?_); rintro e' _ ⟨rfl, rfl⟩)
       go_ret
       exact ⟨ret_bool zcq, zaa⟩
   · have HN := Lib.hid (show (zb == -1) = false by simpa using hb)
     have p1 : (zb == -1) = false := by simpa using hb
     have p2 : (zb != -1) = true := by rw [bne_iff_ne]; exact hb
     clear hb
     go_enter Tryz.func43, Tryz.ntmps43
     go_wp2_with ((with_reducible refine (NQ.out _).mono ?_); rintro e' _ ⟨rfl, rfl⟩)
     go_ret
     exact ⟨ret_bool zbb, zaa⟩
 · have HN := Lib.hid (show (za == -1) = false by simpa using ha)
   have p1 : (za == -1) = false := by simpa using ha
   have p2 : (za != -1) = true := by rw [bne_iff_ne]; exact ha
   clear ha
   go_enter Tryz.func43, Tryz.ntmps43
   go_wp2_with ((with_reducible refine (NQ.out _).mono ?_); rintro e' _ ⟨rfl, rfl⟩)
   go_ret
   exact ⟨ret_bool zbb, zaa⟩
theorem rnode4 (fi : Int) {w : World} (hr : w.ownsRow 0 42 8 nv ns.length (qad ns)) {j : Nat} {za zb zc zx zi : Int} {zs zt : ByteArray} (hz : ns[j]? = some (⟨4, za, zb, zc, zx, zi, zs, zt⟩ : Nd)) :
  Calls Tryz.prog 43 #[.agg #[nv, .int .i64 fi], .int .i64 (j : Int)] w fun e w' => e = .returned (.bool (nodeB ns j (⟨4, za, zb, zc, zx, zi, zs, zt⟩ : Nd))) ∧ Ext w w' := by
 obtain ⟨r, hr0⟩ : ∃ r, nodeB ns j (⟨4, za, zb, zc, zx, zi, zs, zt⟩ : Nd) = r := ⟨_, rfl⟩
 rw [hr0]
 have hjn := (List.getElem?_eq_some_iff.1 hz).1
 obtain ⟨G, c, rfl, hG, -⟩ := qat hr hjn
 obtain ⟨a0, a1, a2, a3, a4, a5, a6, a7⟩ := nd_at hr hz
 dsimp only at a0 a1 a2 a3 a4 a5 a6 a7
 refine ybt ?_; intro hj1
 have hj0 : 0 ≤ (j : Int) := by omega
 have HR := Lib.hid hr
 clear hr hz hjn
 obtain ⟨sb, hsb⟩ : ∃ b, nameOk zs = b := ⟨_, rfl⟩
 have NS := fun W => name16 zs W
 rw [hsb] at NS
 have NS := Lib.hid NS
 have HS := Lib.hid hsb
 clear hsb
 have HR0 := Lib.hid hr0
 clear hr0
 by_cases ha : za = -1
 · subst ha
   by_cases hb : zb = -1
   · subst hb
     by_cases hc : zc = -1
     · subst hc
       by_cases hx : zx = -1
       · subst hx
         by_cases hi : zi = 0
         · subst hi
           by_cases he : zt.toList = []
           · have HTN := Lib.hid (show (zt.toList = []) = True by simpa using he)
             have p13zt : zt.toList = [] := he
             have p14zt : zt.toList.isEmpty = true := by rw [he]; rfl
             clear he
             cases sb
             · go_enter Tryz.func43, Tryz.ntmps43
               go_wp2_with ((with_reducible refine (NS.out _).mono ?_); rintro e' _ ⟨rfl, d1, os1, rfl⟩)
               go_ret
               exact yds
             · go_enter Tryz.func43, Tryz.ntmps43
               go_wp2_with ((with_reducible refine (NS.out _).mono ?_); rintro e' _ ⟨rfl, d1, os1, rfl⟩)
               go_ret
               exact yds
           · have HTN := Lib.hid (show (zt.toList = []) = False by simpa using he)
             refine yas ?_; intro p13zt
             refine yaq ?_; intro p14zt
             clear he
             go_enter Tryz.func43, Tryz.ntmps43
             go_wp2_with ((with_reducible refine (NS.out _).mono ?_); rintro e' _ ⟨rfl, d1, os1, rfl⟩)
             go_ret
             exact ⟨ret_bool zco, zaa⟩
         · have p11 : (zi != 0) = true := by rw [bne_iff_ne]; exact hi
           refine ybm ?_; intro HI
           clear hi
           go_enter Tryz.func43, Tryz.ntmps43
           go_wp2_with ((with_reducible refine (NS.out _).mono ?_); rintro e' _ ⟨rfl, d1, os1, rfl⟩)
           go_ret
           exact ⟨ret_bool zcy, zaa⟩
       · have p4 : (zx == -1) = false := by simpa using hx
         have p5 : (zx != -1) = true := by rw [bne_iff_ne]; exact hx
         refine ybk ?_; intro HNX
         clear hx
         go_enter Tryz.func43, Tryz.ntmps43
         go_wp2_with ((with_reducible refine (NS.out _).mono ?_); rintro e' _ ⟨rfl, d1, os1, rfl⟩)
         go_ret
         exact ⟨ret_bool zcp, zaa⟩
     · have p1 : (zc == -1) = false := by simpa using hc
       have p2 : (zc != -1) = true := by rw [bne_iff_ne]; exact hc
       refine ybn ?_; intro HNC
       clear hc
       go_enter Tryz.func43, Tryz.ntmps43
       go_wp2_with ((with_reducible refine (NS.out _).mono ?_); rintro e' _ ⟨rfl, d1, os1, rfl⟩)
       go_ret
       exact ⟨ret_bool zcq, zaa⟩
   · have HN := Lib.hid (show (zb == -1) = false by simpa using hb)
     have p1 : (zb == -1) = false := by simpa using hb
     have p2 : (zb != -1) = true := by rw [bne_iff_ne]; exact hb
     clear hb
     go_enter Tryz.func43, Tryz.ntmps43
     go_wp2_with ((with_reducible refine (NS.out _).mono ?_); rintro e' _ ⟨rfl, d1, os1, rfl⟩)
     go_ret
     exact ⟨ret_bool zbb, zaa⟩
 · have HN := Lib.hid (show (za == -1) = false by simpa using ha)
   have p1 : (za == -1) = false := by simpa using ha
   have p2 : (za != -1) = true := by rw [bne_iff_ne]; exact ha
   clear ha
   go_enter Tryz.func43, Tryz.ntmps43
   go_wp2_with ((with_reducible refine (NS.out _).mono ?_); rintro e' _ ⟨rfl, d1, os1, rfl⟩)
   go_ret
   exact ⟨ret_bool zbb, zaa⟩
end Go.Proofs.YtpoeknndkccbaaaGreat
