/- Lemmas for the claim (texts Rf3, what its proof uses of them). -/
import Derived.Test.YtijmfpoanggjjaaGreatDoorK34
set_option linter.unusedSimpArgs false
set_option linter.unusedVariables false
namespace Go.Proofs.YtijmfpoanggjjaaGreatDoor
open Go.RowKit
attribute [go_sem] more_more Array.size_append
set_option maxHeartbeats 4000000 in
set_option maxRecDepth 20000 in
theorem qdT {ns : List Nd} {nv : Value} (fi : Int) {w : World} (hr : w.ownsRow 0 34 8 nv ns.length (qac ns)) {j : Nat} {zk : Int} (hk : zk = 5 ∨ zk = 6 ∨ zk = 7 ∨ zk = 8 ∨ zk = 9 ∨ zk = 10) {za zb zc zx zi : Int} {zs zt : ByteArray} (hz : ns[j]? = some (⟨zk, za, zb, zc, zx, zi, zs, zt⟩ : Nd)) :
  Calls Tryz.prog 23 #[.agg #[nv, .int .i64 fi], .int .i64 (j : Int)] w fun e w' => e = .returned (.bool (nodeB ns j (⟨zk, za, zb, zc, zx, zi, zs, zt⟩ : Nd))) ∧ Ext w w' := by
 obtain ⟨r, hr0⟩ : ∃ r, nodeB ns j (⟨zk, za, zb, zc, zx, zi, zs, zt⟩ : Nd) = r := ⟨_, rfl⟩
 rw [hr0]
 have hjn := (List.getElem?_eq_some_iff.1 hz).1
 obtain ⟨G, c, rfl, hG, -⟩ := qai hr hjn
 obtain ⟨a0, a1, a2, a3, a4, a5, a6, a7⟩ := nd_at hr hz
 dsimp only at a0 a1 a2 a3 a4 a5 a6 a7
 have hj1 : (j : Int) < (ns.length : Int) := by omega
 have hj0 : 0 ≤ (j : Int) := by omega
 have HR := Lib.hid hr
 clear hr hz hjn
 obtain ⟨ab, hab⟩ : ∃ b, qab ns za 0 j false = b := ⟨_, rfl⟩
 have EA := fun W (hx : Ext w W) => qbQ fi (own_ext HR.out hx) za j (Int.le_of_lt hj1)
 rw [hab] at EA
 have EA := Lib.hid EA
 have HA := Lib.hid hab
 clear hab
 have HR0 := Lib.hid hr0
 clear hr0
 rcases hk with rfl | rfl | rfl | rfl | rfl | rfl
 all_goals
  cases ab
  · go_enter Tryz.func23, Tryz.ntmps23
    go_wp2_with (go_at_call 43; (with_reducible refine (EA.out _ zaa).mono ?_); rintro e' _ ⟨rfl, d1, os1, rfl⟩)
    go_ret
    exact ⟨ret_bool zce, zaa⟩
  · by_cases hb : zb = -1
    · subst hb
      by_cases hc : zc = -1
      · subst hc
        by_cases hx : zx = -1
        · subst hx
          by_cases hi : zi = 0
          · subst hi
            by_cases he : zt.toList = []
            · have HTN := Lib.hid (show (zt.toList = []) = True by simpa using he)
              have p13zt : zt.toList = [] := he
              have p14zt : zt.toList.isEmpty = true := by rw [he]; rfl
              clear he
              by_cases he : zs.toList = []
              · have HSN := Lib.hid (show (zs.toList = []) = True by simpa using he)
                have p13zs : zs.toList = [] := he
                have p14zs : zs.toList.isEmpty = true := by rw [he]; rfl
                clear he
                go_enter Tryz.func23, Tryz.ntmps23
                go_wp2_with (go_at_call 43; (with_reducible refine (EA.out _ zaa).mono ?_); rintro e' _ ⟨rfl, d1, os1, rfl⟩)
                go_ret
                exact ⟨ret_bool zdf, zaa⟩
              · have HSN := Lib.hid (show (zs.toList = []) = False by simpa using he)
                have p13zs : (zs.toList = []) = False := by simpa using he
                have p14zs : zs.toList.isEmpty = false := by simpa using he
                clear he
                go_enter Tryz.func23, Tryz.ntmps23
                go_wp2_with (go_at_call 43; (with_reducible refine (EA.out _ zaa).mono ?_); rintro e' _ ⟨rfl, d1, os1, rfl⟩)
                go_ret
                exact ⟨ret_bool zdf, zaa⟩
            · have HTN := Lib.hid (show (zt.toList = []) = False by simpa using he)
              have p13zt : (zt.toList = []) = False := by simpa using he
              have p14zt : zt.toList.isEmpty = false := by simpa using he
              clear he
              go_enter Tryz.func23, Tryz.ntmps23
              go_wp2_with (go_at_call 43; (with_reducible refine (EA.out _ zaa).mono ?_); rintro e' _ ⟨rfl, d1, os1, rfl⟩)
              go_ret
              exact ⟨ret_bool (by rw [← HR0.out]; simp [nodeB, qag, aB, bB, cB, xB, qae, numOk, txt1, txt2, shA, shB, shBB, shBC, shS, shT, HA.out, HTN.out]), zaa⟩
          · have p11 : (zi != 0) = true := by rw [bne_iff_ne]; exact hi
            have HI := Lib.hid (show (zi = 0) = False by simpa using hi)
            clear hi
            go_enter Tryz.func23, Tryz.ntmps23
            go_wp2_with (go_at_call 43; (with_reducible refine (EA.out _ zaa).mono ?_); rintro e' _ ⟨rfl, d1, os1, rfl⟩)
            go_ret
            exact ⟨ret_bool (by rw [← HR0.out]; simp [nodeB, qag, aB, bB, cB, xB, qae, numOk, txt1, txt2, shA, shB, shBB, shBC, shS, shT, HA.out, HI.out]), zaa⟩
        · have p4 : (zx == -1) = false := by simpa using hx
          have p5 : (zx != -1) = true := by rw [bne_iff_ne]; exact hx
          have HNX := Lib.hid (show (zx = -1) = False by simpa using hx)
          clear hx
          go_enter Tryz.func23, Tryz.ntmps23
          go_wp2_with (go_at_call 43; (with_reducible refine (EA.out _ zaa).mono ?_); rintro e' _ ⟨rfl, d1, os1, rfl⟩)
          go_ret
          exact ⟨ret_bool (by rw [← HR0.out]; simp [nodeB, qag, aB, bB, cB, xB, qae, numOk, txt1, txt2, shA, shB, shBB, shBC, shS, shT, HA.out, HNX.out]), zaa⟩
      · have p1 : (zc == -1) = false := by simpa using hc
        have p2 : (zc != -1) = true := by rw [bne_iff_ne]; exact hc
        have HNC := Lib.hid (show (zc = -1) = False by simpa using hc)
        clear hc
        go_enter Tryz.func23, Tryz.ntmps23
        go_wp2_with (go_at_call 43; (with_reducible refine (EA.out _ zaa).mono ?_); rintro e' _ ⟨rfl, d1, os1, rfl⟩)
        go_ret
        exact ⟨ret_bool (by rw [← HR0.out]; simp [nodeB, qag, aB, bB, cB, xB, qae, numOk, txt1, txt2, shA, shB, shBB, shBC, shS, shT, HA.out, HNC.out]), zaa⟩
    · have HN := Lib.hid (show (zb == -1) = false by simpa using hb)
      have p1 : (zb == -1) = false := by simpa using hb
      have p2 : (zb != -1) = true := by rw [bne_iff_ne]; exact hb
      clear hb
      go_enter Tryz.func23, Tryz.ntmps23
      go_wp2_with (go_at_call 43; (with_reducible refine (EA.out _ zaa).mono ?_); rintro e' _ ⟨rfl, d1, os1, rfl⟩)
      go_ret
      exact ⟨ret_bool (by rw [← HR0.out]; simp [nodeB, qag, aB, bB, cB, xB, qae, numOk, txt1, txt2, shA, shB, shBB, shBC, shS, shT, HA.out, HN.out]), zaa⟩
end Go.Proofs.YtijmfpoanggjjaaGreatDoor
