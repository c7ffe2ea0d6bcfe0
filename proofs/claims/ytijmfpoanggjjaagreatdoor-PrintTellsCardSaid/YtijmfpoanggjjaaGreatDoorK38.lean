/- Lemmas for the claim (texts Rf5, what its proof uses of them). -/
import Derived.Test.YtijmfpoanggjjaaGreatDoorK34
set_option linter.unusedSimpArgs false
set_option linter.unusedVariables false
namespace Go.Proofs.YtijmfpoanggjjaaGreatDoor
open Go.RowKit
attribute [go_sem] more_more Array.size_append
set_option maxHeartbeats 4000000 in
set_option maxRecDepth 20000 in
theorem rnode20 {ns : List Nd} {nv : Value} (fi : Int) {w : World} (hr : w.ownsRow 0 34 8 nv ns.length (qac ns)) {j : Nat} {zk : Int} (hk : zk = 20 ∨ zk = 21) {za zb zc zx zi : Int} {zs zt : ByteArray} (hz : ns[j]? = some (⟨zk, za, zb, zc, zx, zi, zs, zt⟩ : Nd)) :
  Calls Tryz.prog 23 #[.agg #[nv, .int .i64 fi], .int .i64 (j : Int)] w fun e w' => e = .returned (.bool (nodeB ns j (⟨zk, za, zb, zc, zx, zi, zs, zt⟩ : Nd))) ∧ Ext w w' := by
 obtain ⟨r, hr0⟩ : ∃ r, nodeB ns j (⟨zk, za, zb, zc, zx, zi, zs, zt⟩ : Nd) = r := ⟨_, rfl⟩
 rw [hr0]
 have hjn := (List.getElem?_eq_some_iff.1 hz).1
 obtain ⟨G, c, rfl, hG, -⟩ := qai hr hjn
 obtain ⟨a0, a1, a2, a3, a4, a5, a6, a7⟩ := nd_at hr hz
 dsimp only at a0 a1 a2 a3 a4 a5 a6 a7
 have hj1 : (j : Int) < (ns.length : Int) := by omega
 have hj0 : 0 ≤ (j : Int) := by omega
 have HR := Lib.hid hr
 clear hr hz hjn
 obtain ⟨ab, hab⟩ : ∃ b, qab ns za 0 j false = b := ⟨_, rfl⟩
 have EA := fun W (hx : Ext w W) => qbQ fi (own_ext HR.out hx) za j (Int.le_of_lt hj1)
 rw [hab] at EA
 have EA := Lib.hid EA
 have HA := Lib.hid hab
 clear hab
 obtain ⟨sb, hsb⟩ : ∃ b, nameOk zs = b := ⟨_, rfl⟩
 have NS := fun W => name16 zs W
 rw [hsb] at NS
 have NS := Lib.hid NS
 have HS := Lib.hid hsb
 clear hsb
 have HR0 := Lib.hid hr0
 clear hr0
 rcases hk with rfl | rfl
 all_goals
  cases ab
  · go_enter Tryz.func23, Tryz.ntmps23
    go_wp2_with (first | (go_at_call 43; (with_reducible refine (EA.out _ zaa).mono ?_); rintro e' _ ⟨rfl, d1, os1, rfl⟩) | (go_at_call 44; (with_reducible refine (NS.out _).mono ?_); rintro e' _ ⟨rfl, d1, os1, rfl⟩))
    go_ret
    exact ⟨ret_bool zce, zaa⟩
  · by_cases hb : zb = -1
    · subst hb
      by_cases hc : zc = -1
      · subst hc
        by_cases hx : zx = -1
        · subst hx
          by_cases hi : zi = 0
          · subst hi
            by_cases he : zt.toList = []
            · have HTN := Lib.hid (show (zt.toList = []) = True by simpa using he)
              have p13zt : zt.toList = [] := he
              have p14zt : zt.toList.isEmpty = true := by rw [he]; rfl
              clear he
              cases sb
              · go_enter Tryz.func23, Tryz.ntmps23
                go_wp2_with (first | (go_at_call 43; (with_reducible refine (EA.out _ zaa).mono ?_); rintro e' _ ⟨rfl, d1, os1, rfl⟩) | (go_at_call 44; (with_reducible refine (NS.out _).mono ?_); rintro e' _ ⟨rfl, d1, os1, rfl⟩))
                go_ret
                exact ⟨ret_bool (by rw [← HR0.out]; simp [nodeB, qag, aB, bB, cB, xB, qae, numOk, txt1, txt2, shA, shB, shBB, shBC, shS, shT, HA.out, HTN.out, HS.out]), zaa⟩
              · go_enter Tryz.func23, Tryz.ntmps23
                go_wp2_with (first | (go_at_call 43; (with_reducible refine (EA.out _ zaa).mono ?_); rintro e' _ ⟨rfl, d1, os1, rfl⟩) | (go_at_call 44; (with_reducible refine (NS.out _).mono ?_); rintro e' _ ⟨rfl, d1, os1, rfl⟩))
                go_ret
                exact ⟨ret_bool (by rw [← HR0.out]; simp [nodeB, qag, aB, bB, cB, xB, qae, numOk, txt1, txt2, shA, shB, shBB, shBC, shS, shT, HA.out, HTN.out, HS.out]), zaa⟩
            · have HTN := Lib.hid (show (zt.toList = []) = False by simpa using he)
              have p13zt : (zt.toList = []) = False := by simpa using he
              have p14zt : zt.toList.isEmpty = false := by simpa using he
              clear he
              go_enter Tryz.func23, Tryz.ntmps23
              go_wp2_with (first | (go_at_call 43; (with_reducible refine (EA.out _ zaa).mono ?_); rintro e' _ ⟨rfl, d1, os1, rfl⟩) | (go_at_call 44; (with_reducible refine (NS.out _).mono ?_); rintro e' _ ⟨rfl, d1, os1, rfl⟩))
              go_ret
              exact ⟨ret_bool (by rw [← HR0.out]; simp [nodeB, qag, aB, bB, cB, xB, qae, numOk, txt1, txt2, shA, shB, shBB, shBC, shS, shT, HA.out, HTN.out]), zaa⟩
          · have p11 : (zi != 0) = true := by rw [bne_iff_ne]; exact hi
            have HI := Lib.hid (show (zi = 0) = False by simpa using hi)
            clear hi
            go_enter Tryz.func23, Tryz.ntmps23
            go_wp2_with (first | (go_at_call 43; (with_reducible refine (EA.out _ zaa).mono ?_); rintro e' _ ⟨rfl, d1, os1, rfl⟩) | (go_at_call 44; (with_reducible refine (NS.out _).mono ?_); rintro e' _ ⟨rfl, d1, os1, rfl⟩))
            go_ret
            exact ⟨ret_bool (by rw [← HR0.out]; simp [nodeB, qag, aB, bB, cB, xB, qae, numOk, txt1, txt2, shA, shB, shBB, shBC, shS, shT, HA.out, HI.out]), zaa⟩
        · have p4 : (zx == -1) = false := by simpa using hx
          have p5 : (zx != -1) = true := by rw [bne_iff_ne]; exact hx
          have HNX := Lib.hid (show (zx = -1) = False by simpa using hx)
          clear hx
          by_cases hx1 : zx ≤ (j : Int)
          · have HX := Lib.hid (show qab ns zx ((j : Int) + 1) ns.length true = false by unfold qab; rw [show decide ((j : Int) + 1 ≤ zx) = false by (simp; omega)]; rfl)
            go_enter Tryz.func23, Tryz.ntmps23
            go_wp2_with (first | (go_at_call 43; (with_reducible refine (EA.out _ zaa).mono ?_); rintro e' _ ⟨rfl, d1, os1, rfl⟩) | (go_at_call 44; (with_reducible refine (NS.out _).mono ?_); rintro e' _ ⟨rfl, d1, os1, rfl⟩))
            go_ret
            exact ⟨ret_bool zcg, zaa⟩
          · by_cases hx2 : (ns.length : Int) ≤ zx
            · have HX := Lib.hid (show qab ns zx ((j : Int) + 1) ns.length true = false by unfold qab; rw [show decide (zx < (ns.length : Int)) = false by (simp; omega), Bool.and_false]; rfl)
              have p6 : (zx ≤ (j : Int)) = False := by simp; omega
              have p7 : (ns.length : Int) ≤ zx := hx2
              clear hx1 hx2
              go_enter Tryz.func23, Tryz.ntmps23
              go_wp2_with (first | (go_at_call 43; (with_reducible refine (EA.out _ zaa).mono ?_); rintro e' _ ⟨rfl, d1, os1, rfl⟩) | (go_at_call 44; (with_reducible refine (NS.out _).mono ?_); rintro e' _ ⟨rfl, d1, os1, rfl⟩))
              go_ret
              exact ⟨ret_bool zcg, zaa⟩
            · obtain ⟨x, rfl⟩ : ∃ x : Nat, zx = (x : Int) := ⟨zx.toNat, by omega⟩
              obtain ⟨g1, c1, hv, -, hcx⟩ := qai HR.out (k := x) zal
              cases hv
              obtain ⟨kk, hkk⟩ : ∃ b, qaD ns (x : Int) = b := ⟨_, rfl⟩
              rw [hkk] at hcx
              have p6 : ((x : Int) ≤ (j : Int)) = False := by simp; omega
              have p7 : ((ns.length : Int) ≤ (x : Int)) = False := by simp; omega
              have p8 : 0 ≤ (x : Int) := by omega
              have p9 : (x : Int) < (ns.length : Int) := by omega
              have p6' : (x ≤ j) = False := by simp; omega
              have p7' : (ns.length ≤ x) = False := by simp; omega
              by_cases hkk2 : kk < 20
              · have HX := Lib.hid (show qab ns (x : Int) ((j : Int) + 1) ns.length true = false by unfold qab; rw [hkk]; have hd : decide (20 ≤ kk) = false := zby; simp [hd])
                clear hkk hx1 hx2
                go_enter Tryz.func23, Tryz.ntmps23
                go_wp2_with (first | (go_at_call 43; (with_reducible refine (EA.out _ zaa).mono ?_); rintro e' _ ⟨rfl, d1, os1, rfl⟩) | (go_at_call 44; (with_reducible refine (NS.out _).mono ?_); rintro e' _ ⟨rfl, d1, os1, rfl⟩))
                go_ret
                exact ⟨ret_bool zcg, zaa⟩
              · have p10 : (kk < 20) = False := by simp; omega
                have HX := Lib.hid (show qab ns (x : Int) ((j : Int) + 1) ns.length true = true by unfold qab; rw [hkk]; have hd : decide (20 ≤ kk) = true := zby; rw [hd, show decide ((j : Int) + 1 ≤ (x : Int)) = true by (simp; omega), show decide ((x : Int) < (ns.length : Int)) = true by (simp; omega)]; rfl)
                clear hkk hx1 hx2 hkk2
                by_cases hi : zi = 0
                · subst hi
                  by_cases he : zt.toList = []
                  · have HTN := Lib.hid (show (zt.toList = []) = True by simpa using he)
                    have p13zt : zt.toList = [] := he
                    have p14zt : zt.toList.isEmpty = true := by rw [he]; rfl
                    clear he
                    cases sb
                    · go_enter Tryz.func23, Tryz.ntmps23
                      go_wp2_with (first | (go_at_call 43; (with_reducible refine (EA.out _ zaa).mono ?_); rintro e' _ ⟨rfl, d1, os1, rfl⟩) | (go_at_call 44; (with_reducible refine (NS.out _).mono ?_); rintro e' _ ⟨rfl, d1, os1, rfl⟩))
                      go_ret
                      exact ⟨ret_bool (by rw [← HR0.out]; simp [nodeB, qag, aB, bB, cB, xB, qae, numOk, txt1, txt2, shA, shB, shBB, shBC, shS, shT, HA.out, HNX.out, HX.out, HTN.out, HS.out]), zaa⟩
                    · go_enter Tryz.func23, Tryz.ntmps23
                      go_wp2_with (first | (go_at_call 43; (with_reducible refine (EA.out _ zaa).mono ?_); rintro e' _ ⟨rfl, d1, os1, rfl⟩) | (go_at_call 44; (with_reducible refine (NS.out _).mono ?_); rintro e' _ ⟨rfl, d1, os1, rfl⟩))
                      go_ret
                      exact ⟨ret_bool (by rw [← HR0.out]; simp [nodeB, qag, aB, bB, cB, xB, qae, numOk, txt1, txt2, shA, shB, shBB, shBC, shS, shT, HA.out, HNX.out, HX.out, HTN.out, HS.out]), zaa⟩
                  · have HTN := Lib.hid (show (zt.toList = []) = False by simpa using he)
                    have p13zt : (zt.toList = []) = False := by simpa using he
                    have p14zt : zt.toList.isEmpty = false := by simpa using he
                    clear he
                    go_enter Tryz.func23, Tryz.ntmps23
                    go_wp2_with (first | (go_at_call 43; (with_reducible refine (EA.out _ zaa).mono ?_); rintro e' _ ⟨rfl, d1, os1, rfl⟩) | (go_at_call 44; (with_reducible refine (NS.out _).mono ?_); rintro e' _ ⟨rfl, d1, os1, rfl⟩))
                    go_ret
                    exact ⟨ret_bool (by rw [← HR0.out]; simp [nodeB, qag, aB, bB, cB, xB, qae, numOk, txt1, txt2, shA, shB, shBB, shBC, shS, shT, HA.out, HNX.out, HX.out, HTN.out]), zaa⟩
                · have p11 : (zi != 0) = true := by rw [bne_iff_ne]; exact hi
                  have HI := Lib.hid (show (zi = 0) = False by simpa using hi)
                  clear hi
                  go_enter Tryz.func23, Tryz.ntmps23
                  go_wp2_with (first | (go_at_call 43; (with_reducible refine (EA.out _ zaa).mono ?_); rintro e' _ ⟨rfl, d1, os1, rfl⟩) | (go_at_call 44; (with_reducible refine (NS.out _).mono ?_); rintro e' _ ⟨rfl, d1, os1, rfl⟩))
                  go_ret
                  exact ⟨ret_bool (by rw [← HR0.out]; simp [nodeB, qag, aB, bB, cB, xB, qae, numOk, txt1, txt2, shA, shB, shBB, shBC, shS, shT, HA.out, HNX.out, HX.out, HI.out]), zaa⟩
      · have p1 : (zc == -1) = false := by simpa using hc
        have p2 : (zc != -1) = true := by rw [bne_iff_ne]; exact hc
        have HNC := Lib.hid (show (zc = -1) = False by simpa using hc)
        clear hc
        go_enter Tryz.func23, Tryz.ntmps23
        go_wp2_with (first | (go_at_call 43; (with_reducible refine (EA.out _ zaa).mono ?_); rintro e' _ ⟨rfl, d1, os1, rfl⟩) | (go_at_call 44; (with_reducible refine (NS.out _).mono ?_); rintro e' _ ⟨rfl, d1, os1, rfl⟩))
        go_ret
        exact ⟨ret_bool (by rw [← HR0.out]; simp [nodeB, qag, aB, bB, cB, xB, qae, numOk, txt1, txt2, shA, shB, shBB, shBC, shS, shT, HA.out, HNC.out]), zaa⟩
    · have HN := Lib.hid (show (zb == -1) = false by simpa using hb)
      have p1 : (zb == -1) = false := by simpa using hb
      have p2 : (zb != -1) = true := by rw [bne_iff_ne]; exact hb
      clear hb
      go_enter Tryz.func23, Tryz.ntmps23
      go_wp2_with (first | (go_at_call 43; (with_reducible refine (EA.out _ zaa).mono ?_); rintro e' _ ⟨rfl, d1, os1, rfl⟩) | (go_at_call 44; (with_reducible refine (NS.out _).mono ?_); rintro e' _ ⟨rfl, d1, os1, rfl⟩))
      go_ret
      exact ⟨ret_bool (by rw [← HR0.out]; simp [nodeB, qag, aB, bB, cB, xB, qae, numOk, txt1, txt2, shA, shB, shBB, shBC, shS, shT, HA.out, HN.out]), zaa⟩
end Go.Proofs.YtijmfpoanggjjaaGreatDoor
