/- PrintTells: the text of any program, and of any expr of it, is the document's, or it is refused. No condition. -/
import Derived.Test.YtijmfpoanggjjaaGreatDoorK01
import Derived.Test.YtijmfpoanggjjaaGreatDoorK09
import Derived.Test.YtijmfpoanggjjaaGreatDoorK33
import Derived.Test.YtijmfpoanggjjaaGreatDoorK43
import Derived.Test.YtijmfpoanggjjaaGreatDoorK45
import Derived.Test.YtijmfpoanggjjaaGreatDoorK46
import Derived.Test.YtijmfpoanggjjaaGreatDoorK49
import Derived.Test.YtijmfpoanggjjaaGreatDoorRows
import Derived.Lib.LaidTab
import Derived.Stop.LaidErr
import Derived.Stop.Joined
import Derived.LaidMore
import Derived.LaidLaws
import Derived.ChangeSame
import Derived.ChangeVars
import Derived.JoinedOf
import Derived.RowKitTokens
import Derived.OpenShut
import Derived.Test.YtijmfpoanggjjaaGreatDoorTie
import Derived.Test.YtijmfpoanggjjaaGreatDoorCards
import Derived.RegionTactic
import Derived.LoopTactic
set_option linter.unusedSimpArgs false
set_option linter.unusedVariables false
namespace Go.Proofs.YtijmfpoanggjjaaGreatDoor
open Go.RowKit
attribute [go_sem] more_more Array.size_append
set_option maxHeartbeats 8000000 in
set_option maxRecDepth 20000 in
theorem ptells_no (w : World) (p1 : Option Addr) (n c1 : Nat) (ns : List Nd) (fi i : Int) (hr : NdsIn w p1 n c1 ns) (h64 : ∀ z ∈ ns, In64 z.i) (hP : Pow10 w.heap.size w) (hm : mayB (fewN ns) fi = false) :
  Calls Tryz.prog 3 #[.agg #[.slice p1 n c1, .int .i64 fi], .int .i64 i] w fun e w' => e = .returned (.bool true) ∧ Ext w w' := by
 have FW := Lib.hid (fun W' (hx : Ext w W') => qcv fi W' (hr.ext hx))
 have HS := Lib.hid (qcO ns h64)
 have HPP := Lib.hid hP
 have HM := Lib.hid hm
 have HL := Lib.hid (show (fewN ns).length ≤ 514 by unfold fewN; simp; omega)
 have AW := Lib.hid (fun W (hx : Ext w W) => qbN W (Pow10.ext (B := 0) HPP.out hx))
 clear hr h64 hP hm
 go_enter Tryz.func3, Tryz.ntmps3
 go_wp2_with fail
 go_at_call 6
 refine (FW.out _ zaa).mono ?_
 rintro e' w1 ⟨nv, rfl, hrow, hx⟩
 obtain ⟨p2, c2, hv⟩ := qau hrow
 subst hv
 have KX := Lib.hid ((KB.new w #[.slice p1 n c1, .int .i64 fi] 24).of_ext hx)
 have lk := KX.out.lt
 have k0f := KX.out.frozen 0
 have k1f := KX.out.frozen 1
 have k0c := KX.out.cell 0 _ rfl
 have k1c := KX.out.cell 1 _ rfl
 have HR := Lib.hid (show (w1.setCell ⟨w.heap.size, 0, none⟩ (.slice p2 (fewN ns).length c2)).ownsRow 0 34 8 (.slice p2 (fewN ns).length c2) (fewN ns).length (qac (fewN ns)) from qaQ hrow fun k hk _ => heap_set_other _ _ _ _ _ (fun e => qaF hrow KX.out zaq (by rw [← e]; exact hk)))
 have HX := Lib.hid (show Ext w (w1.setCell ⟨w.heap.size, 0, none⟩ (.slice p2 (fewN ns).length c2)) from (((Ext.refl w).alloc _).trans hx).setCell (Nat.le_refl _) _)
 have KX1 := Lib.hid (KX.out.setAt 0 (.slice p2 (fewN ns).length c2) zbt)
 obtain ⟨NS, hNS⟩ : ∃ l, fewN ns = l := ⟨_, rfl⟩
 rw [hNS] at HR HX KX1 HS HM HL ⊢
 clear hrow hx hNS FW
 go_wp2_with fail
 generalize hW1 : w1.setCell ⟨w.heap.size, 0, none⟩ (.slice p2 NS.length c2) = W1 at *
 clear lk k0f k1f k0c k1c KX
 have lk := KX1.out.lt
 have k0c := KX1.out.cell 0 (.slice p2 NS.length c2) rfl
 have k1c := KX1.out.cell 1 (.int .i64 fi) rfl
 clear hW1
 have SO := fun W (hx : Ext W1 W) => qbG fi W (own_ext HR.out hx) rfl HS.out (Pow10.ext (B := 0) HPP.out (HX.out.trans hx))
 have EX := fun W (hx : Ext W1 W) => qbV fi i W (own_ext HR.out hx) rfl HS.out (Pow10.ext (B := 0) HPP.out (HX.out.trans hx))
 have RM := fun W (hx : Ext W1 W) => qcF fi (own_ext HR.out hx)
 rw [HM.out] at RM
 have RM := Lib.hid RM
 have hnl : (NS.length : Int) ≤ 514 := by have := HL.out; omega
 have e1 : srcF NS fi = ([], 1) := by unfold srcF; rw [HM.out]; rfl
 have e2 : exF NS fi i = ([], 1) := by unfold exF; rw [HM.out]; rfl
 rw [e1] at SO
 rw [e2] at EX
 have SO := Lib.hid SO
 have EX := Lib.hid EX
 clear e1 e2
 go_wp2_with (first
  | ((go_at_call 7; (with_reducible refine (SO.out _ zaa).mono ?_); rintro e' _ ⟨rfl, d1, os1, rfl⟩))
  | ((go_at_call 8; (with_reducible refine (EX.out _ zaa).mono ?_); rintro e' _ ⟨rfl, d1, os1, rfl⟩))
  | ((go_at_call 9; (with_reducible refine (RM.out _ zaa).mono ?_); rintro e' _ ⟨rfl, d1, os1, rfl⟩))
  | ((go_at_call 10; (with_reducible refine (AW.out _ (HX.out.trans zaa)).mono ?_); rintro e' _ ⟨rfl, d1, os1, rfl⟩)))
 go_ret
 exact ⟨rfl, HX.out.trans zaa⟩
set_option maxHeartbeats 8000000 in
set_option maxRecDepth 20000 in
theorem ptells_out (w : World) (p1 : Option Addr) (n c1 : Nat) (ns : List Nd) (fi i : Int) (hr : NdsIn w p1 n c1 ns) (h64 : ∀ z ∈ ns, In64 z.i) (hP : Pow10 w.heap.size w) (hm : mayB (fewN ns) fi = true) (hi : i < 0 ∨ ((fewN ns).length : Int) ≤ i) :
  Calls Tryz.prog 3 #[.agg #[.slice p1 n c1, .int .i64 fi], .int .i64 i] w fun e w' => e = .returned (.bool true) ∧ Ext w w' := by
 have FW := Lib.hid (fun W' (hx : Ext w W') => qcv fi W' (hr.ext hx))
 have HS := Lib.hid (qcO ns h64)
 have HPP := Lib.hid hP
 have HM := Lib.hid hm
 have HL := Lib.hid (show (fewN ns).length ≤ 514 by unfold fewN; simp; omega)
 have AW := Lib.hid (fun W (hx : Ext w W) => qbN W (Pow10.ext (B := 0) HPP.out hx))
 clear hr h64 hP hm
 go_enter Tryz.func3, Tryz.ntmps3
 go_wp2_with fail
 go_at_call 6
 refine (FW.out _ zaa).mono ?_
 rintro e' w1 ⟨nv, rfl, hrow, hx⟩
 obtain ⟨p2, c2, hv⟩ := qau hrow
 subst hv
 have KX := Lib.hid ((KB.new w #[.slice p1 n c1, .int .i64 fi] 24).of_ext hx)
 have lk := KX.out.lt
 have k0f := KX.out.frozen 0
 have k1f := KX.out.frozen 1
 have k0c := KX.out.cell 0 _ rfl
 have k1c := KX.out.cell 1 _ rfl
 have HR := Lib.hid (show (w1.setCell ⟨w.heap.size, 0, none⟩ (.slice p2 (fewN ns).length c2)).ownsRow 0 34 8 (.slice p2 (fewN ns).length c2) (fewN ns).length (qac (fewN ns)) from qaQ hrow fun k hk _ => heap_set_other _ _ _ _ _ (fun e => qaF hrow KX.out zaq (by rw [← e]; exact hk)))
 have HX := Lib.hid (show Ext w (w1.setCell ⟨w.heap.size, 0, none⟩ (.slice p2 (fewN ns).length c2)) from (((Ext.refl w).alloc _).trans hx).setCell (Nat.le_refl _) _)
 have KX1 := Lib.hid (KX.out.setAt 0 (.slice p2 (fewN ns).length c2) zbt)
 obtain ⟨NS, hNS⟩ : ∃ l, fewN ns = l := ⟨_, rfl⟩
 rw [hNS] at HR HX KX1 HS HM HL hi ⊢
 clear hrow hx hNS FW
 go_wp2_with fail
 generalize hW1 : w1.setCell ⟨w.heap.size, 0, none⟩ (.slice p2 NS.length c2) = W1 at *
 clear lk k0f k1f k0c k1c KX
 have lk := KX1.out.lt
 have k0c := KX1.out.cell 0 (.slice p2 NS.length c2) rfl
 have k1c := KX1.out.cell 1 (.int .i64 fi) rfl
 clear hW1
 have SO := fun W (hx : Ext W1 W) => qbG fi W (own_ext HR.out hx) rfl HS.out (Pow10.ext (B := 0) HPP.out (HX.out.trans hx))
 have EX := fun W (hx : Ext W1 W) => qbV fi i W (own_ext HR.out hx) rfl HS.out (Pow10.ext (B := 0) HPP.out (HX.out.trans hx))
 have RM := fun W (hx : Ext W1 W) => qcF fi (own_ext HR.out hx)
 rw [HM.out] at RM
 have RM := Lib.hid RM
 have hnl : (NS.length : Int) ≤ 514 := by have := HL.out; omega
 obtain ⟨m, hm1, ht⟩ := qcW HM.out
 obtain ⟨b1, b2, b3, -⟩ := qbk HM.out
 have RB := Lib.hid (fun W (hx : Ext W1 W) => qcQ (fi := fi) (HR.out.mono (Nat.zero_le _)) HS.out b2 b1 NS.length fi m ht hm1 hm1 (qdG b3) W hx)
 have e1 : srcF NS fi = (txB NS NS.length fi, 0) := by unfold srcF; rw [HM.out]; rfl
 rw [e1] at SO
 have SO := Lib.hid SO
 have e2 : exF NS fi i = ([], 4) := by unfold exF; rw [HM.out, if_pos rfl, if_neg zal]
 rw [e2] at EX
 have EX := Lib.hid EX
 clear e1 e2 hm1 ht b1 b2 b3
 rcases hi with hi | hi
 · go_wp2_with (first
     | ((go_at_call 7; (with_reducible refine (SO.out _ zaa).mono ?_); rintro e' _ ⟨rfl, d1, os1, rfl⟩))
     | ((go_at_call 8; (with_reducible refine (EX.out _ zaa).mono ?_); rintro e' _ ⟨rfl, d1, os1, rfl⟩))
     | ((go_at_call 9; (with_reducible refine (RM.out _ zaa).mono ?_); rintro e' _ ⟨rfl, d1, os1, rfl⟩))
     | ((go_at_call 10; (with_reducible refine (AW.out _ (HX.out.trans zaa)).mono ?_); rintro e' _ ⟨rfl, d1, os1, rfl⟩))
     | ((go_at_call 11; (with_reducible refine (RB.out _ zaa).mono ?_); rintro e' _ ⟨rfl, d1, os1, rfl⟩)))
   go_ret
   exact ⟨rfl, HX.out.trans zaa⟩
 have hi0 : (i < 0) = False := by simp; omega
 go_wp2_with (first
  | ((go_at_call 7; (with_reducible refine (SO.out _ zaa).mono ?_); rintro e' _ ⟨rfl, d1, os1, rfl⟩))
  | ((go_at_call 8; (with_reducible refine (EX.out _ zaa).mono ?_); rintro e' _ ⟨rfl, d1, os1, rfl⟩))
  | ((go_at_call 9; (with_reducible refine (RM.out _ zaa).mono ?_); rintro e' _ ⟨rfl, d1, os1, rfl⟩))
  | ((go_at_call 10; (with_reducible refine (AW.out _ (HX.out.trans zaa)).mono ?_); rintro e' _ ⟨rfl, d1, os1, rfl⟩))
  | ((go_at_call 11; (with_reducible refine (RB.out _ zaa).mono ?_); rintro e' _ ⟨rfl, d1, os1, rfl⟩)))
 go_ret
 exact ⟨rfl, HX.out.trans zaa⟩
set_option maxHeartbeats 8000000 in
set_option maxRecDepth 20000 in
theorem ptells_stm (w : World) (p1 : Option Addr) (n c1 : Nat) (ns : List Nd) (fi i : Int) (hr : NdsIn w p1 n c1 ns) (h64 : ∀ z ∈ ns, In64 z.i) (hP : Pow10 w.heap.size w) (hm : mayB (fewN ns) fi = true) (h0 : 0 ≤ i) (h1 : i < ((fewN ns).length : Int)) (hk : 20 ≤ qaD (fewN ns) i) :
  Calls Tryz.prog 3 #[.agg #[.slice p1 n c1, .int .i64 fi], .int .i64 i] w fun e w' => e = .returned (.bool true) ∧ Ext w w' := by
 have FW := Lib.hid (fun W' (hx : Ext w W') => qcv fi W' (hr.ext hx))
 have HS := Lib.hid (qcO ns h64)
 have HPP := Lib.hid hP
 have HM := Lib.hid hm
 have HL := Lib.hid (show (fewN ns).length ≤ 514 by unfold fewN; simp; omega)
 have AW := Lib.hid (fun W (hx : Ext w W) => qbN W (Pow10.ext (B := 0) HPP.out hx))
 clear hr h64 hP hm
 go_enter Tryz.func3, Tryz.ntmps3
 go_wp2_with fail
 go_at_call 6
 refine (FW.out _ zaa).mono ?_
 rintro e' w1 ⟨nv, rfl, hrow, hx⟩
 obtain ⟨p2, c2, hv⟩ := qau hrow
 subst hv
 have KX := Lib.hid ((KB.new w #[.slice p1 n c1, .int .i64 fi] 24).of_ext hx)
 have lk := KX.out.lt
 have k0f := KX.out.frozen 0
 have k1f := KX.out.frozen 1
 have k0c := KX.out.cell 0 _ rfl
 have k1c := KX.out.cell 1 _ rfl
 have HR := Lib.hid (show (w1.setCell ⟨w.heap.size, 0, none⟩ (.slice p2 (fewN ns).length c2)).ownsRow 0 34 8 (.slice p2 (fewN ns).length c2) (fewN ns).length (qac (fewN ns)) from qaQ hrow fun k hk _ => heap_set_other _ _ _ _ _ (fun e => qaF hrow KX.out zaq (by rw [← e]; exact hk)))
 have HX := Lib.hid (show Ext w (w1.setCell ⟨w.heap.size, 0, none⟩ (.slice p2 (fewN ns).length c2)) from (((Ext.refl w).alloc _).trans hx).setCell (Nat.le_refl _) _)
 have KX1 := Lib.hid (KX.out.setAt 0 (.slice p2 (fewN ns).length c2) zbt)
 obtain ⟨NS, hNS⟩ : ∃ l, fewN ns = l := ⟨_, rfl⟩
 rw [hNS] at HR HX KX1 HS HM HL h1 hk ⊢
 clear hrow hx hNS FW
 go_wp2_with fail
 generalize hW1 : w1.setCell ⟨w.heap.size, 0, none⟩ (.slice p2 NS.length c2) = W1 at *
 clear lk k0f k1f k0c k1c KX
 have lk := KX1.out.lt
 have k0c := KX1.out.cell 0 (.slice p2 NS.length c2) rfl
 have k1c := KX1.out.cell 1 (.int .i64 fi) rfl
 clear hW1
 have SO := fun W (hx : Ext W1 W) => qbG fi W (own_ext HR.out hx) rfl HS.out (Pow10.ext (B := 0) HPP.out (HX.out.trans hx))
 have EX := fun W (hx : Ext W1 W) => qbV fi i W (own_ext HR.out hx) rfl HS.out (Pow10.ext (B := 0) HPP.out (HX.out.trans hx))
 have RM := fun W (hx : Ext W1 W) => qcF fi (own_ext HR.out hx)
 rw [HM.out] at RM
 have RM := Lib.hid RM
 have hnl : (NS.length : Int) ≤ 514 := by have := HL.out; omega
 obtain ⟨m, hm1, ht⟩ := qcW HM.out
 obtain ⟨b1, b2, b3, -⟩ := qbk HM.out
 have RB := Lib.hid (fun W (hx : Ext W1 W) => qcQ (fi := fi) (HR.out.mono (Nat.zero_le _)) HS.out b2 b1 NS.length fi m ht hm1 hm1 (qdG b3) W hx)
 have e1 : srcF NS fi = (txB NS NS.length fi, 0) := by unfold srcF; rw [HM.out]; rfl
 rw [e1] at SO
 have SO := Lib.hid SO
 obtain ⟨j, rfl⟩ : ∃ j : Nat, i = (j : Int) := ⟨i.toNat, by omega⟩
 have hjl : j < NS.length := by omega
 obtain ⟨G, cp, hpv, -, -⟩ := qai HR.out hjl
 have hpv1 : p2 = some ⟨G, 0, none⟩ := by simp only [Value.slice.injEq] at hpv; exact hpv.1
 subst hpv1
 have hG := (HR.out.lt G rfl).2
 have hck : ∀ W, Ext W1 W → W.cell? ⟨G, j * 8, none⟩ = some (.int .i64 (qaD NS (j : Int))) := fun W hx => by
  obtain ⟨G2, cp2, hv, -, hc⟩ := qai (own_ext HR.out hx) hjl
  cases hv
  exact hc
 obtain ⟨kk, hkk⟩ : ∃ k, qaD NS (j : Int) = k := ⟨_, rfl⟩
 rw [hkk] at hck hk
 have hck0 := hck W1 (Ext.refl _)
 have hj1 : (j : Int) < (NS.length : Int) := by omega
 have hj0 : 0 ≤ (j : Int) := by omega
 have hj2 : ((NS.length : Int) ≤ (j : Int)) = False := by simp; omega
 have hj3 : (NS.length ≤ j) = False := by simp; omega
 have e2 : exF NS fi j = ([], 4) := by unfold exF; rw [HM.out, if_pos rfl, if_neg (by rw [hkk]; omega)]
 rw [e2] at EX
 have EX := Lib.hid EX
 clear e1 e2 hm1 ht b1 b2 b3 h0 h1 hkk hck hpv hjl
 go_wp2_with (first
  | ((go_at_call 7; (with_reducible refine (SO.out _ zaa).mono ?_); rintro e' _ ⟨rfl, d1, os1, rfl⟩))
  | ((go_at_call 8; (with_reducible refine (EX.out _ zaa).mono ?_); rintro e' _ ⟨rfl, d1, os1, rfl⟩))
  | ((go_at_call 9; (with_reducible refine (RM.out _ zaa).mono ?_); rintro e' _ ⟨rfl, d1, os1, rfl⟩))
  | ((go_at_call 10; (with_reducible refine (AW.out _ (HX.out.trans zaa)).mono ?_); rintro e' _ ⟨rfl, d1, os1, rfl⟩))
  | ((go_at_call 11; (with_reducible refine (RB.out _ zaa).mono ?_); rintro e' _ ⟨rfl, d1, os1, rfl⟩)))
 go_ret
 exact ⟨rfl, HX.out.trans zaa⟩
set_option maxHeartbeats 8000000 in
set_option maxRecDepth 20000 in
theorem ptells_ex (w : World) (p1 : Option Addr) (n c1 : Nat) (ns : List Nd) (fi i : Int) (hr : NdsIn w p1 n c1 ns) (h64 : ∀ z ∈ ns, In64 z.i) (hP : Pow10 w.heap.size w) (hm : mayB (fewN ns) fi = true) (h0 : 0 ≤ i) (h1 : i < ((fewN ns).length : Int)) (hk : qaD (fewN ns) i < 20) :
  Calls Tryz.prog 3 #[.agg #[.slice p1 n c1, .int .i64 fi], .int .i64 i] w fun e w' => e = .returned (.bool true) ∧ Ext w w' := by
 have FW := Lib.hid (fun W' (hx : Ext w W') => qcv fi W' (hr.ext hx))
 have HS := Lib.hid (qcO ns h64)
 have HPP := Lib.hid hP
 have HM := Lib.hid hm
 have HL := Lib.hid (show (fewN ns).length ≤ 514 by unfold fewN; simp; omega)
 have AW := Lib.hid (fun W (hx : Ext w W) => qbN W (Pow10.ext (B := 0) HPP.out hx))
 clear hr h64 hP hm
 go_enter Tryz.func3, Tryz.ntmps3
 go_wp2_with fail
 go_at_call 6
 refine (FW.out _ zaa).mono ?_
 rintro e' w1 ⟨nv, rfl, hrow, hx⟩
 obtain ⟨p2, c2, hv⟩ := qau hrow
 subst hv
 have KX := Lib.hid ((KB.new w #[.slice p1 n c1, .int .i64 fi] 24).of_ext hx)
 have lk := KX.out.lt
 have k0f := KX.out.frozen 0
 have k1f := KX.out.frozen 1
 have k0c := KX.out.cell 0 _ rfl
 have k1c := KX.out.cell 1 _ rfl
 have HR := Lib.hid (show (w1.setCell ⟨w.heap.size, 0, none⟩ (.slice p2 (fewN ns).length c2)).ownsRow 0 34 8 (.slice p2 (fewN ns).length c2) (fewN ns).length (qac (fewN ns)) from qaQ hrow fun k hk _ => heap_set_other _ _ _ _ _ (fun e => qaF hrow KX.out zaq (by rw [← e]; exact hk)))
 have HX := Lib.hid (show Ext w (w1.setCell ⟨w.heap.size, 0, none⟩ (.slice p2 (fewN ns).length c2)) from (((Ext.refl w).alloc _).trans hx).setCell (Nat.le_refl _) _)
 have KX1 := Lib.hid (KX.out.setAt 0 (.slice p2 (fewN ns).length c2) zbt)
 obtain ⟨NS, hNS⟩ : ∃ l, fewN ns = l := ⟨_, rfl⟩
 rw [hNS] at HR HX KX1 HS HM HL h1 hk ⊢
 clear hrow hx hNS FW
 go_wp2_with fail
 generalize hW1 : w1.setCell ⟨w.heap.size, 0, none⟩ (.slice p2 NS.length c2) = W1 at *
 clear lk k0f k1f k0c k1c KX
 have lk := KX1.out.lt
 have k0c := KX1.out.cell 0 (.slice p2 NS.length c2) rfl
 have k1c := KX1.out.cell 1 (.int .i64 fi) rfl
 clear hW1
 have SO := fun W (hx : Ext W1 W) => qbG fi W (own_ext HR.out hx) rfl HS.out (Pow10.ext (B := 0) HPP.out (HX.out.trans hx))
 have EX := fun W (hx : Ext W1 W) => qbV fi i W (own_ext HR.out hx) rfl HS.out (Pow10.ext (B := 0) HPP.out (HX.out.trans hx))
 have RM := fun W (hx : Ext W1 W) => qcF fi (own_ext HR.out hx)
 rw [HM.out] at RM
 have RM := Lib.hid RM
 have hnl : (NS.length : Int) ≤ 514 := by have := HL.out; omega
 obtain ⟨m, hm1, ht⟩ := qcW HM.out
 obtain ⟨b1, b2, b3, -⟩ := qbk HM.out
 have RB := Lib.hid (fun W (hx : Ext W1 W) => qcQ (fi := fi) (HR.out.mono (Nat.zero_le _)) HS.out b2 b1 NS.length fi m ht hm1 hm1 (qdG b3) W hx)
 have e1 : srcF NS fi = (txB NS NS.length fi, 0) := by unfold srcF; rw [HM.out]; rfl
 rw [e1] at SO
 have SO := Lib.hid SO
 obtain ⟨j, rfl⟩ : ∃ j : Nat, i = (j : Int) := ⟨i.toNat, by omega⟩
 have hjl : j < NS.length := by omega
 obtain ⟨G, cp, hpv, -, -⟩ := qai HR.out hjl
 have hpv1 : p2 = some ⟨G, 0, none⟩ := by simp only [Value.slice.injEq] at hpv; exact hpv.1
 subst hpv1
 have hG := (HR.out.lt G rfl).2
 have hck : ∀ W, Ext W1 W → W.cell? ⟨G, j * 8, none⟩ = some (.int .i64 (qaD NS (j : Int))) := fun W hx => by
  obtain ⟨G2, cp2, hv, -, hc⟩ := qai (own_ext HR.out hx) hjl
  cases hv
  exact hc
 obtain ⟨kk, hkk⟩ : ∃ k, qaD NS (j : Int) = k := ⟨_, rfl⟩
 rw [hkk] at hck hk
 have hck0 := hck W1 (Ext.refl _)
 have hj1 : (j : Int) < (NS.length : Int) := by omega
 have hj0 : 0 ≤ (j : Int) := by omega
 have hj2 : ((NS.length : Int) ≤ (j : Int)) = False := by simp; omega
 have hj3 : (NS.length ≤ j) = False := by simp; omega
 have e2 : exF NS fi j = (txE NS NS.length j, 0) := by unfold exF; rw [HM.out, if_pos rfl, if_pos (by rw [hkk]; omega)]
 rw [e2] at EX
 have EX := Lib.hid EX
 obtain ⟨m2, hm2, ht2⟩ := tr_at HM.out hjl (by rw [hkk]; exact hk)
 have RE := Lib.hid (fun W (hx : Ext W1 W) => qdv (fi := fi) (HR.out.mono (Nat.zero_le _)) HS.out b2 NS.length j m2 ht2 hm2 zal ⟨by omega, by rw [hkk]; exact hk⟩ W hx)
 have hk2 : (20 ≤ kk) = False := by simp; omega
 clear e1 e2 hm1 ht b1 b2 b3 h0 h1 hkk hck hpv hjl hm2 ht2 hk
 go_wp2_with (first
  | ((go_at_call 7; (with_reducible refine (SO.out _ zaa).mono ?_); rintro e' _ ⟨rfl, d1, os1, rfl⟩))
  | ((go_at_call 8; (with_reducible refine (EX.out _ zaa).mono ?_); rintro e' _ ⟨rfl, d1, os1, rfl⟩))
  | ((go_at_call 9; (with_reducible refine (RM.out _ zaa).mono ?_); rintro e' _ ⟨rfl, d1, os1, rfl⟩))
  | ((go_at_call 10; (with_reducible refine (AW.out _ (HX.out.trans zaa)).mono ?_); rintro e' _ ⟨rfl, d1, os1, rfl⟩))
  | ((go_at_call 11; (with_reducible refine (RB.out _ zaa).mono ?_); rintro e' _ ⟨rfl, d1, os1, rfl⟩))
  | ((go_at_call 12; (with_reducible refine (RE.out _ zaa).mono ?_); rintro e' _ ⟨rfl, d1, os1, rfl⟩)))
 go_ret
 exact ⟨rfl, HX.out.trans zaa⟩
theorem ptells_walk (w : World) (p1 : Option Addr) (n c1 : Nat) (ns : List Nd) (fi i : Int) (hr : NdsIn w p1 n c1 ns) (h64 : ∀ z ∈ ns, In64 z.i) (hP : Pow10 w.heap.size w) :
  Calls Tryz.prog 3 #[.agg #[.slice p1 n c1, .int .i64 fi], .int .i64 i] w fun e w' => e = .returned (.bool true) ∧ Ext w w' := by
 by_cases hm : mayB (fewN ns) fi = true
 · by_cases hi : i < 0 ∨ ((fewN ns).length : Int) ≤ i
   · exact ptells_out w p1 n c1 ns fi i hr h64 hP hm hi
   · by_cases hk : 20 ≤ qaD (fewN ns) i
     · exact ptells_stm w p1 n c1 ns fi i hr h64 hP hm zal zal hk
     · exact ptells_ex w p1 n c1 ns fi i hr h64 hP hm zal zal zal
 · exact ptells_no w p1 n c1 ns fi i hr h64 hP (by simpa using hm)
open Go.ChangeShapes Go.WideShapes Go.ChangeAt Go.Joins
/-- what the condition gives -/
theorem qcz {W : World} (h : laidMetH Tryz.prog Rows.printTellsRow.laid W) : Pow10 W.heap.size W := by
 rw [MakeChecks.laidMetH_plain _ _ _ zam] at h
 have h3 := laidMet.tail (laidMet.tail h)
 have hg : Tryz.prog.globalNamed "internal/strconv.uint64pow10" = some 0 := by kernel_rfl
 have hgt : (Tryz.prog.globals[0]?).map (·.type) = some 143 := by kernel_rfl
 have t := Lib.tabIs_of_head (k := .u64) (zs := Lib.pow10Tab) hg hgt Tryz.underlying143 Tryz.underlying83 zam zam h3
 refine ⟨⟨0, hg, ?_⟩, t⟩
 unfold Lib.TabIs World.var? at t
 rw [hg] at t
 simp only [Option.bind_some] at t
 rcases Nat.lt_or_ge 0 W.heap.size with h | h
 · exact h
 · rw [Array.getElem?_eq_none h] at t; cases t
theorem door_met (os : Os) (args : Array Value) : laidMetH Tryz.prog Rows.printTellsRow.laid ((World.doorLaid Tryz.prog 24 os).forCall (fun _ _ => 0) ⟨#[], args, []⟩).memory :=
 laidMetH_of_parts3 (fuel := 8) (laidMet_of_run' 8 zam zam) zam zam
namespace PrintTellsRow
/-! ### The row, and the card -/
section
open Go.ChangeShapes Go.WideShapes Go.ChangeAt Go.RowKit Go.Joins
open Go.ChangeMaps (open_string shut_string)
theorem own : ownKnob Tryz.prog.godebug = none := by kernel_rfl
theorem laid : laidOutB Tryz.prog = true := by kernel_rfl
theorem progCells : Tryz.prog.cellsOf 24 = 2 := by kernel_rfl
set_option maxRecDepth 100000 in
theorem lifted (os : Os) (started : os.Started) (H : Type) (enc : TypeId × Value → H) :
  ReturnsInHanded {} Tryz.checked os 3 .any (fun w args => (Rows.printTellsSpec.pre enc Tryz.prog Tryz.f3 Rows.printTellsRow.domain false w args ∧ laidMetH Tryz.prog Rows.printTellsRow.laid w) ∧ sizedMet enc Tryz.prog Tryz.f3 (OpenSpec.ofChange Rows.printTellsSpec) false w args) (Rows.printTellsSpec.post enc Tryz.prog Tryz.f3 false true false false) := by
 refine returnsInHanded_of_change_and (C := Tryz.checked) (X := fun w _ => laidMetH Tryz.prog Rows.printTellsRow.laid w) (fun _ _ _ hh h => h.of_heap hh) own started zam Tryz.func3
  (ChangeSpec.witness_shaped (enc := enc) (C := Tryz.checked) (os := os) (X := fun w _ => laidMetH Tryz.prog Rows.printTellsRow.laid w) false (World.doorLaid Tryz.prog 24 os) #[.agg #[.slice none 0 0, .int .i64 0], .int .i64 0] 8 rfl (World.shaped_of_RefB zam zam) zam zam zam (door_met os _)) ?_
 intro W base args ds gs before hval0 hW hcnd hsz0 hL _
 have hval : ∀ (j : Nat) t v, Tryz.f3.params[j]? = some t → args[j]? = some v → Value.okWide Tryz.prog W .any base t v := hval0
 have hW' := hW
 obtain ⟨p, q, hA0, hV, rfl, hfz, hnd⟩ := hW
 have hA : DataW.TrodAll enc Tryz.prog W 0 (fun _ => true) true Tryz.f3.params.toList args.toList ds p := hA0
 have hAk := hA
 have hpr : Tryz.f3.params.toList.all (fun t => Tryz.prog.readableRec t && decide (t < Tryz.prog.types.size)) = true := by kernel_rfl
 have hlt := hA.lt
 obtain ⟨rfl, rfl⟩ := trodVars_none hV
 have hsz : (DataW.weightsEach Tryz.prog (Tryz.f3.params.toList ++ []) (ds ++ [])).all (· ≤ reachBytes) = true := hsz0
 rw [Tryz.params3] at hA hval hsz
 simp only [List.append_nil] at hsz
 obtain ⟨v0, vs0, d0, ds0, p0, q0, hargs, rfl, rfl, h0, r0⟩ := trodAll_cons hA
 obtain ⟨v1, vs1, d1, ds1, p1, q1, rfl, rfl, rfl, h1, r1⟩ := trodAll_cons r0
 obtain ⟨rfl, rfl, rfl⟩ := trodAll_nil r1
 obtain rfl : args = #[v0, v1] := by cases args; simp_all
 obtain ⟨c00, c01, y00, y01, m0, rfl, rfl, rfl, hy00, hy01⟩ := open_agg2 Tryz.underlying24 zam progCells (hval 0 24 v0 rfl rfl) h0
 obtain ⟨p_fi, e01, rfl, wp_fi⟩ := DataW.trod_int Tryz.underlying3 hy01
 obtain ⟨p_p, p_n, p_c, p_ns, e00, hp, h64p⟩ := qcR hy00
 simp at e01
 subst e00 e01
 obtain ⟨kd, rfl, rfl, rfl, wkd⟩ := open_int Tryz.underlying3 (hval 1 3 v1 rfl rfl) h1
 clear hA0 hval0 hsz0
 refine (ptells_walk W p_p p_n p_c p_ns p_fi kd hp h64p (qcz hL)).mono fun e W' ⟨he, hx⟩ => ?_
 subst he
 exact ⟨_, rfl, _, _, _, [], _, [], hW', trodAll_mk1 (shut_bool Tryz.underlying4 _), qbO laid hx.below hpr hAk hlt, rfl, hx.below.frame _, fun h => by cases h⟩
theorem row_proved : Rows.PrintTellsSaid :=
 OpenClaim.holds_of_wide 3 Tryz.f3 rfl rfl rfl rfl rfl rfl rfl ⟨rfl, rfl, rfl, rfl, rfl⟩ rfl rfl rfl rfl rfl zam Tryz.func3 zam
  (of_decide_eq_true zam) (by unfold Func.isWrapper; first | (rw [if_pos (by decide +kernel)]; kernel_rfl) | (rw [if_neg (by decide +kernel)]; exact ⟨rfl, rfl⟩))
  (fun os started H enc _ => lifted os started H enc)
theorem proved : Rows.PrintTellsCardSaid :=
 Claim7.holds_tied_plain_at .later [] Rows.printTellsCard.laidKinds true Rows.printTellsCard.stood.harness Rows.printTellsCard.stood.looks
  row_proved (fun _ h => by cases h) zam (fun _ h => by cases h) printTells_row_tie rfl ⟨rfl, rfl⟩ zam rfl
  (fun f fn hf hfn => by
   obtain rfl : f = 3 := Option.some.inj ((show Tryz.prog.funcNamed "plenum/plenumlaw18.PrintTells" = some 3 by kernel_rfl).symm.trans hf) |>.symm
   obtain rfl : fn = Tryz.f3 := (Option.some.inj (Tryz.func3.symm.trans hfn)).symm
   exact ⟨by kernel_rfl, fun j t ht => by
    rw [Tryz.params3] at ht
    have key : ∀ t ∈ Tryz.f3.params.toList, Tryz.prog.wantsStandIn t = false := by decide +kernel
    exact key t (by rw [Tryz.params3]; exact List.mem_of_getElem? (by simpa using ht))⟩) zam
end
#print axioms proved
end PrintTellsRow
end Go.Proofs.YtijmfpoanggjjaaGreatDoor
