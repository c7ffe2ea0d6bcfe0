/- Lemmas for the claim (texts Cnt, what its proof uses of them). -/
import Derived.Test.YtijmfpoanggjjaaGreatDoorK03
import Derived.Test.YtijmfpoanggjjaaGreatDoorK16
import Derived.LoopTactic
set_option linter.unusedSimpArgs false
set_option linter.unusedVariables false
namespace Go.Proofs.YtijmfpoanggjjaaGreatDoor
open Go.RowKit
attribute [go_sem] more_more Array.size_append
def cntK (l : List Nd) (k : Int) : Nat := (l.map fun z => pone z.k k).sum
theorem qdz {l : List Nd} {m : Nat} {z : Nd} (h : l[m]? = some z) (k : Int) : cntK (l.take (m + 1)) k = cntK (l.take m) k + pone z.k k := by
 unfold cntK
 rw [List.take_add_one, h]
 simp
theorem cntK_le (l : List Nd) (k : Int) : cntK l k ≤ l.length := by
  unfold cntK
  induction l with
  | nil => simp
  | cons a l ih => simp only [List.map_cons, List.sum_cons, List.length_cons]; have : pone a.k k ≤ 1 := by unfold pone; split <;> omega
                   omega
theorem mayB_partsC {ns : List Nd} {fi : Int} (h : mayB ns fi = true) : ns.length ≤ 512 := by
 unfold mayB at h
 simp only [Bool.and_eq_true, decide_eq_true_eq] at h
 exact h.1.1.1
def qdo (ns : List Nd) (fi k : Int) : Int := if mayB ns fi = true then (cntK ns k : Int) else 0
set_option maxHeartbeats 4000000 in
set_option maxRecDepth 20000 in
theorem pcount_any {ns : List Nd} {nv : Value} (fi : Int) {w : World} (hr : w.ownsRow 0 34 8 nv ns.length (qac ns)) (hs : ∀ z ∈ ns, z.s.size ≤ maxLen) (k : Int) : Calls Tryz.prog 16 #[.agg #[nv, .int .i64 fi], .int .i64 k] w fun e w' => e = .returned (.int .i64 (qdo ns fi k)) ∧ Ext w w' := by
  have HR := Lib.hid hr
  have M := fun W (hx : Ext w W) => qcK fi W (own_ext HR.out hx) rfl hs
  obtain ⟨pv, pc, rfl⟩ := qau hr
  clear hr
  by_cases hm : mayB ns fi = true
  · have hn : (ns.length : Int) ≤ 512 := by have := (mayB_partsC hm); omega
    have HC := Lib.hid (show qdo ns fi k = (cntK ns k : Int) by unfold qdo; rw [if_pos hm])
    rw [hm] at M
    have M := Lib.hid M
    rw [HC.out]
    clear hm hs
    go_enter Tryz.func16, Tryz.ntmps16
    go_wp2_with ((go_at_call 13; (with_reducible refine (M.out _ zaa).mono ?_); rintro e' W1 ⟨rfl, hx⟩; have HX := Lib.hid ((show Ext w _ from zaa).trans hx); have KP := Lib.hid (KB.of_ext (KB.new w #[.slice pv ns.length pc, .int .i64 fi] 24) hx); have xp0 := KP.out.cell 0 _ rfl; have lp := KP.out.lt; clear hx))
    go_loopw [5, 7, 14] (fun c _ i wr => ∃ (m : Nat), m ≤ ns.length ∧ i = .int .i64 (m : Int) ∧ c = .int .i64 ((cntK (ns.take m) k : Nat) : Int) ∧ Ext w wr) (fun _ _ i _ => ns.length - (intOf i).toNat)
    case atStart => exact ⟨0, Nat.zero_le _, rfl, rfl, HX.out⟩
    case round =>
      obtain ⟨m, hm, rfl, rfl, hx⟩ := hrel
      have HX2 := Lib.hid hx
      by_cases hlt : m < ns.length
      · obtain ⟨z, hz⟩ : ∃ z, ns[m]? = some z := ⟨ns[m]'hlt, List.getElem?_eq_getElem hlt⟩
        have hrw := own_ext HR.out hx
        obtain ⟨G, cp, hpv⟩ : ∃ G cp, Value.slice pv ns.length pc = .slice (some ⟨G, 0, none⟩) ns.length cp := by
          rcases Go.Joins.ownsRow_forms HR.out with ⟨h1, h0⟩ | ⟨g1, c1, h0⟩
          · omega
          · exact ⟨g1, c1, h0⟩
        have hpv1 : pv = some ⟨G, 0, none⟩ := by simp only [Value.slice.injEq] at hpv; exact hpv.1
        subst hpv1
        have hG := (hrw.lt G rfl).2
        obtain ⟨a0, a1, a2, a3, a4, a5, a6, a7⟩ := nd_at hrw hz
        have HST := Lib.hid (qdz hz k)
        obtain ⟨q, hq⟩ : ∃ q, cntK (ns.take m) k = q := ⟨_, rfl⟩
        have hq1 : (q : Int) ≤ 512 := by have := cntK_le (ns.take m) k; have h2 : (ns.take m).length ≤ ns.length := by simp; omega
                                         omega
        rw [hq] at HST ⊢
        obtain ⟨zk, za, zb, zc, zx, zi, zs, zt⟩ := z
        dsimp only at a0 a1 a2 a3 a4 a5 a6 a7 HST
        have HM := Lib.hid hlt
        have hm1 : (m : Int) < (ns.length : Int) := by omega
        have hm0 : 0 ≤ (m : Int) := by omega
        clear hx hrw hpv hz hq hlt hm
        by_cases hk : zk = k
        · subst hk
          have HS3 := Lib.hid (show cntK (ns.take (m + 1)) zk = q + 1 by rw [HST.out]; unfold pone; simp)
          go_wp2_with fail
          go_roundw
          case rel => exact ⟨m + 1, by have := HM.out; omega, by go_num, by rw [HS3.out]; go_num, HX2.out.trans zaa⟩
          case measure => have := HM.out; simp [intOf]; omega
        · have hk2 : (zk == k) = false := by simpa using hk
          have HS3 := Lib.hid (show cntK (ns.take (m + 1)) k = q by rw [HST.out]; unfold pone; simp [hk])
          clear hk
          go_wp2_with fail
          go_roundw
          case rel => exact ⟨m + 1, by have := HM.out; omega, by go_num, by rw [HS3.out], HX2.out.trans zaa⟩
          case measure => have := HM.out; simp [intOf]; omega
      · have hme : m = ns.length := by omega
        subst hme
        rw [List.take_length]
        clear hlt hm hx
        go_wp2_with fail
        go_ret
        exact ⟨rfl, HX2.out⟩
  · have hm0 : mayB ns fi = false := by simpa using hm
    have HC := Lib.hid (show qdo ns fi k = 0 by unfold qdo; rw [if_neg hm])
    rw [hm0] at M
    have M := Lib.hid M
    rw [HC.out]
    clear hm hm0 hs
    go_enter Tryz.func16, Tryz.ntmps16
    go_wp2_with ((go_at_call 13; (with_reducible refine (M.out _ zaa).mono ?_); rintro e' _ ⟨rfl, d1, os1, rfl⟩))
    go_ret
    exact ⟨rfl, zaa⟩
end Go.Proofs.YtijmfpoanggjjaaGreatDoor
