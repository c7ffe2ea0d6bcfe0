/- Lemmas for the claim (texts RfA, what its proof uses of them). -/
import Derived.Test.YtijmfpoanggjjaaGreatDoorK42
set_option linter.unusedSimpArgs false
set_option linter.unusedVariables false
namespace Go.Proofs.YtijmfpoanggjjaaGreatDoor
open Go.RowKit
attribute [go_sem] more_more Array.size_append
theorem qeo {ns : List Nd} {fi : Int} (h : qcq ns = false ∨ onceB ns fi = false ∨ blkB ns fi ns.length = false ∨ 512 < ns.length) : mayB ns fi = false := by
 unfold mayB
 rcases h with h | h | h | h
 · rw [h]; simp
 · rw [h]; simp
 · rw [h]; simp
 · have : decide (ns.length ≤ 512) = false := by simp; omega
   rw [this]; rfl
theorem mayB_yes {ns : List Nd} {fi : Int} (h1 : ns.length ≤ 512) (h2 : qcq ns = true) (h3 : blkB ns fi ns.length = true) (h4 : onceB ns fi = true) : mayB ns fi = true := by
 unfold mayB
 rw [h2, h3, h4, show decide (ns.length ≤ 512) = true by simpa using h1]
 rfl
theorem rmay_long {ns : List Nd} {nv : Value} (fi : Int) {w : World} (hr : w.ownsRow 0 34 8 nv ns.length (qac ns)) (hn : 512 < ns.length) : Calls Tryz.prog 9 #[.agg #[nv, .int .i64 fi]] w fun e w' => e = .returned (.bool (mayB ns fi)) ∧ Ext w w' := by
 rw [qeo (Or.inr (Or.inr (Or.inr hn)))]
 obtain ⟨pv, pc, rfl⟩ := qau hr
 have hnl : (512 : Int) < (ns.length : Int) := by omega
 have hnl2 : (512 < ns.length) = True := by simp; omega
 clear hr hn
 go_enter Tryz.func9, Tryz.ntmps9
 go_wp2_with fail
 go_ret
 exact ⟨rfl, zaa⟩
set_option maxHeartbeats 4000000 in
set_option maxRecDepth 20000 in
theorem rmay_short {ns : List Nd} {nv : Value} (fi : Int) {w : World} (hr : w.ownsRow 0 34 8 nv ns.length (qac ns)) (hn : ns.length ≤ 512) : Calls Tryz.prog 9 #[.agg #[nv, .int .i64 fi]] w fun e w' => e = .returned (.bool (mayB ns fi)) ∧ Ext w w' := by
 obtain ⟨rm, hrm⟩ : ∃ r, mayB ns fi = r := ⟨_, rfl⟩
 rw [hrm]
 have HRM := Lib.hid hrm
 clear hrm
 have HR := Lib.hid hr
 have HN := Lib.hid hn
 have BK := fun W (hx : Ext w W) => qcA fi (own_ext HR.out hx) fi (ns.length : Int) (Int.le_refl _)
 obtain ⟨pv, pc, rfl⟩ := qau hr
 have hnl : ((512 : Int) < (ns.length : Int)) = False := by simp; omega
 have hnl2 : (512 < ns.length) = False := by simp; omega
 have hnl3 : (ns.length : Int) ≤ 512 := by omega
 clear hr hn
 by_cases hb : blkB ns fi ns.length = false
 · have HV := Lib.hid (show rm = false from HRM.out.symm.trans (qeo (Or.inr (Or.inr (Or.inl hb)))))
   rw [hb] at BK
   have BK := Lib.hid BK
   clear hb
   go_enter Tryz.func9, Tryz.ntmps9
   go_wp2_with (go_at_call 22; (with_reducible refine (BK.out _ zaa).mono ?_); rintro e' _ ⟨rfl, d1, os1, rfl⟩)
   go_ret
   exact ⟨ret_bool HV.out.symm, zaa⟩
 have hb1 : blkB ns fi ns.length = true := by simpa using hb
 rw [hb1] at BK
 have BK := Lib.hid BK
 have HB := Lib.hid hb1
 clear hb hb1
 go_enter Tryz.func9, Tryz.ntmps9
 go_wp2_with (go_at_call 22; (with_reducible refine (BK.out _ zaa).mono ?_); rintro e' _ ⟨rfl, d1, os1, rfl⟩)
 go_loopw [3] (fun i wr => ∃ (m : Nat), m ≤ ns.length ∧ i = .int .i64 (m : Int) ∧ RowKit.Hid (∀ j, j < m → (∀ z, ns[j]? = some z → nodeB ns j z = true) ∧ pone fi j + pcnt ns j = 1) ∧ Ext w wr ∧ KB w.heap.size #[.slice pv ns.length pc, .int .i64 fi] 24 wr) (fun i _ => ns.length - (intOf i).toNat)
 case atStart => exact ⟨0, Nat.zero_le _, rfl, Lib.hid fun j hj => absurd hj (Nat.not_lt_zero _), zaa, KB.of_ext (KB.new _ _ _) zaa⟩
 case round =>
  obtain ⟨m, hm, rfl, HF, hx, hkb⟩ := hrel
  have HX := Lib.hid hx
  have KP := Lib.hid hkb
  have xp0 := hkb.cell 0 _ rfl
  have xp1 := hkb.cell 1 _ rfl
  have lp := hkb.lt
  clear hkb hx
  by_cases hlt : m < ns.length
  · obtain ⟨z, hz⟩ : ∃ z, ns[m]? = some z := ⟨ns[m]'hlt, List.getElem?_eq_getElem hlt⟩
    have ND := fun W (hx : Ext wr W) => rnode_any fi (own_ext HR.out (HX.out.trans hx)) hz
    have HD := Lib.hid (fun W (hx : Ext wr W) => had_any fi (own_ext HR.out (HX.out.trans hx)) HN.out (m : Int))
    have HM := Lib.hid hlt
    have hm1 : (m : Int) < (ns.length : Int) := by omega
    have hm0 : 0 ≤ (m : Int) := by omega
    cases hnb : nodeB ns m z
    · rw [hnb] at ND
      have HV := Lib.hid (show rm = false from HRM.out.symm.trans (qeo (Or.inl (nodesB_no hz hnb))))
      have ND := Lib.hid ND
      clear hnb hz hlt hm
      go_wp2_with (go_at_call 23; (with_reducible refine (ND.out _ zaa).mono ?_); rintro e' _ ⟨rfl, d1, os1, rfl⟩)
      go_ret
      exact ⟨ret_bool HV.out.symm, HX.out.trans zaa⟩
    · rw [hnb] at ND
      have ND := Lib.hid ND
      by_cases ho : pone fi m + pcnt ns m = 1
      · rw [ho] at HD
        have HO := Lib.hid ho
        have HNB := Lib.hid hnb
        have HZ := Lib.hid hz
        clear hnb hz hlt hm ho
        go_wp2_with (first | (go_at_call 23; (with_reducible refine (ND.out _ zaa).mono ?_); rintro e' _ ⟨rfl, d1, os1, rfl⟩) | (go_at_call 24; (with_reducible refine (HD.out _ zaa).mono ?_); rintro e' _ ⟨rfl, d1, os1, rfl⟩))
        go_roundw
        case rel => exact ⟨m + 1, by have := HM.out; omega, by go_num, Lib.hid fun j hj => by
         by_cases e : j = m
         · subst e; exact ⟨fun y hy => by have := HZ.out; rw [hy] at this; cases this; exact HNB.out, HO.out⟩
         · exact HF.out j zal, HX.out.trans zaa, KB.of_ext KP.out zaa⟩
        case measure => have := HM.out; simp [intOf]; omega
      · have HV := Lib.hid (show rm = false from HRM.out.symm.trans (qeo (Or.inr (Or.inl (allB_no hlt ho)))))
        obtain ⟨q, hq⟩ : ∃ q, pone fi m + pcnt ns m = q := ⟨_, rfl⟩
        rw [hq] at HD ho
        have hq1 : ((q : Int) != 1) = true := by rw [bne_iff_ne]; omega
        have hq2 : (q != 1) = true := by rw [bne_iff_ne]; omega
        clear hnb hz hlt hm ho hq
        go_wp2_with (first | (go_at_call 23; (with_reducible refine (ND.out _ zaa).mono ?_); rintro e' _ ⟨rfl, d1, os1, rfl⟩) | (go_at_call 24; (with_reducible refine (HD.out _ zaa).mono ?_); rintro e' _ ⟨rfl, d1, os1, rfl⟩))
        go_ret
        exact ⟨ret_bool HV.out.symm, HX.out.trans zaa⟩
  · have hme : m = ns.length := by omega
    subst hme
    have HV := Lib.hid (show rm = true from HRM.out.symm.trans (mayB_yes HN.out (qdI fun j z hz => (HF.out j (List.getElem?_eq_some_iff.1 hz).1).1 z hz) HB.out (allB_yes fun j hj => (HF.out j hj).2)))
    clear hlt hm
    go_wp2_with fail
    go_ret
    exact ⟨ret_bool HV.out.symm, HX.out⟩
theorem qcF {ns : List Nd} {nv : Value} (fi : Int) {w : World} (hr : w.ownsRow 0 34 8 nv ns.length (qac ns)) : Calls Tryz.prog 9 #[.agg #[nv, .int .i64 fi]] w fun e w' => e = .returned (.bool (mayB ns fi)) ∧ Ext w w' := by
 by_cases hn : ns.length ≤ 512
 · exact rmay_short fi hr hn
 · exact rmay_long fi hr zal
end Go.Proofs.YtijmfpoanggjjaaGreatDoor
