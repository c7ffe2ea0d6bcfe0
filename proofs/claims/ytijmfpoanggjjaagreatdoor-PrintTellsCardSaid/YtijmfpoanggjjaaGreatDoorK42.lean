/- Lemmas for the claim (texts Rf9, what its proof uses of them). -/
import Derived.Test.YtijmfpoanggjjaaGreatDoorK35
import Derived.Test.YtijmfpoanggjjaaGreatDoorK36
import Derived.Test.YtijmfpoanggjjaaGreatDoorK37
import Derived.Test.YtijmfpoanggjjaaGreatDoorK38
import Derived.Test.YtijmfpoanggjjaaGreatDoorK39
import Derived.Test.YtijmfpoanggjjaaGreatDoorK40
import Derived.Test.YtijmfpoanggjjaaGreatDoorK41
import Derived.LoopTactic
import Derived.Deep.LoopGhost
set_option linter.unusedSimpArgs false
set_option linter.unusedVariables false
namespace Go.Proofs.YtijmfpoanggjjaaGreatDoor
open Go.RowKit
attribute [go_sem] more_more Array.size_append
set_option maxHeartbeats 4000000 in
set_option maxRecDepth 20000 in
theorem rnode_none {ns : List Nd} {nv : Value} (fi : Int) {w : World} (hr : w.ownsRow 0 34 8 nv ns.length (qac ns)) {j : Nat} {zk za zb zc zx zi : Int} {zs zt : ByteArray} (hz : ns[j]? = some (⟨zk, za, zb, zc, zx, zi, zs, zt⟩ : Nd)) (h : ¬ (zk = 0 ∨ zk = 1 ∨ zk = 2 ∨ zk = 3 ∨ zk = 4 ∨ zk = 5 ∨ zk = 6 ∨ zk = 7 ∨ zk = 8 ∨ zk = 9 ∨ zk = 10 ∨ zk = 11 ∨ zk = 20 ∨ zk = 21 ∨ zk = 22 ∨ zk = 23 ∨ zk = 24 ∨ zk = 25 ∨ zk = 26 ∨ zk = 27 ∨ zk = 28)) :
  Calls Tryz.prog 23 #[.agg #[nv, .int .i64 fi], .int .i64 (j : Int)] w fun e w' => e = .returned (.bool (nodeB ns j ⟨zk, za, zb, zc, zx, zi, zs, zt⟩)) ∧ Ext w w' := by
 have hv : nodeB ns j ⟨zk, za, zb, zc, zx, zi, zs, zt⟩ = false := by
  have : qae zk = false := by
   unfold qae
   simp
   omega
  unfold nodeB qag
  simp only [this, Bool.false_and]
 rw [hv]
 have hjn := (List.getElem?_eq_some_iff.1 hz).1
 obtain ⟨G, c, rfl, hG, -⟩ := qai hr hjn
 obtain ⟨a0, a1, a2, a3, a4, a5, a6, a7⟩ := nd_at hr hz
 dsimp only at a0 a1 a2 a3 a4 a5 a6 a7
 have hj1 : (j : Int) < (ns.length : Int) := by omega
 have hj0 : 0 ≤ (j : Int) := by omega
 clear hr hz hjn hv
 have h3 : zk < 0 ∨ 28 < zk ∨ (11 < zk ∧ zk < 20) := by omega
 rcases h3 with h3 | h3 | ⟨h3, h4⟩
 · clear h
   go_enter Tryz.func23, Tryz.ntmps23
   go_wp2_with fail
   go_ret
   exact ⟨rfl, zaa⟩
 · have h5 : (zk < 0) = False := by simp; omega
   clear h
   go_enter Tryz.func23, Tryz.ntmps23
   go_wp2_with fail
   go_ret
   exact ⟨rfl, zaa⟩
 · have h5 : (zk < 0) = False := by simp; omega
   have h6 : (28 < zk) = False := by simp; omega
   clear h
   go_enter Tryz.func23, Tryz.ntmps23
   go_wp2_with fail
   go_ret
   exact ⟨rfl, zaa⟩
theorem rnode_any {ns : List Nd} {nv : Value} (fi : Int) {w : World} (hr : w.ownsRow 0 34 8 nv ns.length (qac ns)) {j : Nat} {z : Nd} (hz : ns[j]? = some z) :
  Calls Tryz.prog 23 #[.agg #[nv, .int .i64 fi], .int .i64 (j : Int)] w fun e w' => e = .returned (.bool (nodeB ns j z)) ∧ Ext w w' := by
 obtain ⟨zk, za, zb, zc, zx, zi, zs, zt⟩ := z
 by_cases h : zk = 0 ∨ zk = 1 ∨ zk = 2 ∨ zk = 3 ∨ zk = 4 ∨ zk = 5 ∨ zk = 6 ∨ zk = 7 ∨ zk = 8 ∨ zk = 9 ∨ zk = 10 ∨ zk = 11 ∨ zk = 20 ∨ zk = 21 ∨ zk = 22 ∨ zk = 23 ∨ zk = 24 ∨ zk = 25 ∨ zk = 26 ∨ zk = 27 ∨ zk = 28
 · rcases h with h | h | h | h | h | h | h | h | h | h | h | h | h | h | h | h | h | h | h | h | h
   · subst h; exact rnode0 fi hr hz
   · subst h; exact rnode1 fi hr hz
   · subst h; exact rnode2 fi hr hz
   · subst h; exact rnode3 fi hr hz
   · subst h; exact rnode4 fi hr hz
   · exact qdT fi hr zal hz
   · exact qdT fi hr zal hz
   · exact qdT fi hr zal hz
   · exact qdT fi hr zal hz
   · exact qdT fi hr zal hz
   · exact qdT fi hr zal hz
   · subst h; exact rnode11 fi hr hz
   · exact rnode20 fi hr zal hz
   · exact rnode20 fi hr zal hz
   · subst h; exact rnode22 fi hr hz
   · exact rnode23 fi hr zal hz
   · subst h; exact rnode24 fi hr hz
   · subst h; exact rnode25 fi hr hz
   · subst h; exact rnode26 fi hr hz
   · exact rnode23 fi hr zal hz
   · exact rnode23 fi hr zal hz
 · exact rnode_none fi hr hz h
def kidsL (z : Nd) : List Int := [z.a, z.b, z.c, z.x]
def preL (l : List Int) (m : Nat) (k : Int) : Nat := ((l.take m).map fun a => pone a k).sum
theorem preL_succ (l : List Int) (m : Nat) (k a : Int) (h : l[m]? = some a) : preL l (m + 1) k = preL l m k + pone a k := by
 unfold preL
 rw [List.take_add_one, h]
 simp
theorem preL_all (z : Nd) (k : Int) : preL (kidsL z) 4 k = prefs z k := by
 unfold preL kidsL prefs
 simp
 omega
theorem preL_le (l : List Int) (m : Nat) (k : Int) : preL l m k ≤ l.length := by
  unfold preL
  have h : ∀ l : List Int, (l.map fun a => pone a k).sum ≤ l.length := by
    intro l
    induction l with
    | nil => simp
    | cons a l ih => simp only [List.map_cons, List.sum_cons, List.length_cons]; have : pone a k ≤ 1 := by unfold pone; split <;> omega
                     omega
  exact Nat.le_trans (h _) zby
theorem pone_le (a k : Int) : pone a k ≤ 1 := by unfold pone; split <;> omega
set_option maxHeartbeats 4000000 in
set_option maxRecDepth 20000 in
theorem had_any {ns : List Nd} {nv : Value} (fi : Int) {w : World} (hr : w.ownsRow 0 34 8 nv ns.length (qac ns)) (hn : ns.length ≤ 512) (k : Int) : Calls Tryz.prog 24 #[.agg #[nv, .int .i64 fi], .int .i64 k] w fun e w' => e = .returned (.int .i64 ((pone fi k + pcnt ns k : Nat) : Int)) ∧ Ext w w' := by
 have HR := Lib.hid hr
 have HN := Lib.hid hn
 have hnl : (ns.length : Int) ≤ 512 := by omega
 obtain ⟨pv, pc, rfl⟩ := qau hr
 have h0 : ∃ c0 : Nat, pone fi k = c0 := ⟨_, rfl⟩
 clear hr hn
 have main : ∀ (c0 : Nat), pone fi k = c0 → ∀ (a : Bool), (fi == k) = a → Calls Tryz.prog 24 #[.agg #[.slice pv ns.length pc, .int .i64 fi], .int .i64 k] w fun e w' => e = .returned (.int .i64 ((c0 + pcnt ns k : Nat) : Int)) ∧ Ext w w' := by
  intro c0 hc0 a ha
  have hv : (c0 : Int) = if a = true then 1 else 0 := by
   rw [← hc0, ← ha]
   unfold pone
   by_cases e : fi = k
   · subst e; simp
   · simp [e]
  have HV := Lib.hid hv
  have hc1 : (c0 : Int) ≤ 1 := by have := pone_le fi k; omega
  have hc2 : 0 ≤ (c0 : Int) := by omega
  clear hc0 hv h0
  cases a
  all_goals
   have hv := HV.out
   simp only [Bool.false_eq_true, if_false, if_true] at hv
   have HV2 := Lib.hid hv
   clear hv
   go_enter Tryz.func24, Tryz.ntmps24
   go_wp2_with fail
   go_loopw [5, 6, 7, 9] (fun c i _ _ wr => ∃ (m : Nat), m ≤ ns.length ∧ i = .int .i64 (m : Int) ∧ c = .int .i64 ((c0 + pcnt (ns.take m) k : Nat) : Int) ∧ Ext w wr ∧ KB w.heap.size #[.slice pv ns.length pc, .int .i64 fi] 24 wr) (fun _ i _ _ _ => ns.length - (intOf i).toNat)
   case atStart => exact ⟨0, Nat.zero_le _, rfl, by have := HV2.out; simp [pcnt, this], zaa, KB.new _ _ _⟩
   case round =>
    obtain ⟨m, hm, rfl, rfl, hx, hkb⟩ := hrel
    have HX := Lib.hid hx
    have KP := Lib.hid hkb
    have xp0 := hkb.cell 0 _ rfl
    have lp := hkb.lt
    clear hkb
    by_cases hlt : m < ns.length
    · obtain ⟨z, hz⟩ : ∃ z, ns[m]? = some z := ⟨ns[m]'hlt, List.getElem?_eq_getElem hlt⟩
      have hrw := own_ext HR.out hx
      obtain ⟨G, cp, hpv, -, -⟩ := qai HR.out hlt
      have hpv1 : pv = some ⟨G, 0, none⟩ := by simp only [Value.slice.injEq] at hpv; exact hpv.1
      subst hpv1
      have hG := (hrw.lt G rfl).2
      obtain ⟨a0, a1, a2, a3, a4, a5, a6, a7⟩ := nd_at hrw hz
      have HST := Lib.hid (pcnt_take ns m z hz k)
      have HPA := Lib.hid (preL_all z k)
      obtain ⟨zk, za, zb, zc, zx, zi, zs, zt⟩ := z
      dsimp only at a0 a1 a2 a3 a4 a5 a6 a7
      have HM := Lib.hid hlt
      have hm1 : (m : Int) < (ns.length : Int) := by omega
      have hm0 : 0 ≤ (m : Int) := by omega
      obtain ⟨q, hq⟩ : ∃ q, pcnt (ns.take m) k = q := ⟨_, rfl⟩
      have hq1 : (q : Int) ≤ 2048 := by have := pcnt_le (ns.take m) k; have := HN.out; simp at *; omega
      rw [hq] at HST ⊢
      clear hx hrw hpv hz hq hlt hm
      go_wp2_with fail
      obtain ⟨W5, hW5⟩ : ∃ W5 : World, W5 = wr.alloc (.cells #[.int .i64 zk, .int .i64 za, .int .i64 zb, .int .i64 zc, .int .i64 zx, .int .i64 zi, .string zs, .string zt] 34 (0, 0)) := ⟨_, rfl⟩
      go_loopw [5, 9, 38] (fun c _ i wi => ∃ (r : Nat), r ≤ 4 ∧ i = .int .i64 (r : Int) ∧ c = .int .i64 ((c0 + q + preL (kidsL ⟨zk, za, zb, zc, zx, zi, zs, zt⟩) r k : Nat) : Int) ∧ wi = (wr.alloc (.cells #[.int .i64 zk, .int .i64 za, .int .i64 zb, .int .i64 zc, .int .i64 zx, .int .i64 zi, .string zs, .string zt] 34 (0, 0))).alloc (.cells #[.int .i64 za, .int .i64 zb, .int .i64 zc, .int .i64 zx] 3 (0, 0))) (fun _ _ i _ => 4 - (intOf i).toNat)
      case atStart => exact ⟨0, Nat.zero_le _, rfl, by simp [preL], rfl⟩
      case round =>
       obtain ⟨r, hr4, rfl, rfl, rfl⟩ := hrel
       have HL4 := Lib.hid (preL_le (kidsL ⟨zk, za, zb, zc, zx, zi, zs, zt⟩) r k)
       by_cases hr : r < 4
       · obtain ⟨y, hy, hyc⟩ : ∃ y : Int, (kidsL ⟨zk, za, zb, zc, zx, zi, zs, zt⟩)[r]? = some y ∧ (#[.int .i64 za, .int .i64 zb, .int .i64 zc, .int .i64 zx] : Array Value)[r]? = some (.int .i64 y) := by
           have h4 : r = 0 ∨ r = 1 ∨ r = 2 ∨ r = 3 := by omega
           rcases h4 with rfl | rfl | rfl | rfl <;> exact ⟨_, rfl, rfl⟩
         have HS2 := Lib.hid (preL_succ _ r k y hy)
         have kq := KB.new (wr.alloc (.cells #[.int .i64 zk, .int .i64 za, .int .i64 zb, .int .i64 zc, .int .i64 zx, .int .i64 zi, .string zs, .string zt] 34 (0, 0))) #[.int .i64 za, .int .i64 zb, .int .i64 zc, .int .i64 zx] 3
         have xq := kq.cell r _ hyc
         obtain ⟨p, hp⟩ : ∃ p, preL (kidsL ⟨zk, za, zb, zc, zx, zi, zs, zt⟩) r k = p := ⟨_, rfl⟩
         rw [hp] at HS2 HL4 ⊢
         have hp4 : (p : Int) ≤ 4 := by have := HL4.out; simp [kidsL] at this; omega
         have HR4 := Lib.hid hr
         have hr1 : (r : Int) < 4 := by omega
         have hr0 : 0 ≤ (r : Int) := by omega
         rw [World.size_alloc] at xq
         clear hy hyc kq hp hr hr4
         by_cases hyk : y = k
         · subst hyk
           have HS3 := Lib.hid (show preL (kidsL ⟨zk, za, zb, zc, zx, zi, zs, zt⟩) (r + 1) y = p + 1 by rw [HS2.out]; unfold pone; simp)
           go_wp2_with fail
           go_roundw
           case rel => exact ⟨r + 1, by have := HR4.out; omega, by go_num, by rw [HS3.out]; go_num, (by first | trivial | rfl)⟩
           case measure => have := HR4.out; simp [intOf]; omega
         · have hyk2 : (y == k) = false := by simpa using hyk
           have HS3 := Lib.hid (show preL (kidsL ⟨zk, za, zb, zc, zx, zi, zs, zt⟩) (r + 1) k = p by rw [HS2.out]; unfold pone; simp [hyk])
           clear hyk
           go_wp2_with fail
           go_roundw
           case rel => exact ⟨r + 1, by have := HR4.out; omega, by go_num, by rw [HS3.out], (by first | trivial | rfl)⟩
           case measure => have := HR4.out; simp [intOf]; omega
       · have hre : r = 4 := by omega
         subst hre
         have HPB := HPA.out
         rw [HPB]
         obtain ⟨p, hp⟩ : ∃ p, prefs ⟨zk, za, zb, zc, zx, zi, zs, zt⟩ k = p := ⟨_, rfl⟩
         rw [hp] at HST ⊢
         clear hp hr hr4 HPB
         go_wp2_with fail
         go_roundw
         case rel => exact ⟨m + 1, by have := HM.out; omega, by go_num, by rw [HST.out]; go_num, HX.out.trans zaa, KB.of_ext KP.out zaa⟩
         case measure => have := HM.out; simp [intOf]; omega
    · have hme : m = ns.length := by omega
      subst hme
      rw [List.take_length]
      clear hlt hm hx
      go_wp2_with fail
      go_ret
      exact ⟨rfl, HX.out⟩
 exact main _ rfl _ rfl
end Go.Proofs.YtijmfpoanggjjaaGreatDoor
