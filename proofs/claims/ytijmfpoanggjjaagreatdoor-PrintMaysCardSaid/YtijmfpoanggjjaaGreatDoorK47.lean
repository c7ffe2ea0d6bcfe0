/- PrintMays: whether any program may be, how close its exprs bind, and how many nodes of a kind it has, is as the document says. No condition. -/
import Derived.Test.YtijmfpoanggjjaaGreatDoorK01
import Derived.Test.YtijmfpoanggjjaaGreatDoorK09
import Derived.Test.YtijmfpoanggjjaaGreatDoorK33
import Derived.Test.YtijmfpoanggjjaaGreatDoorK43
import Derived.Test.YtijmfpoanggjjaaGreatDoorK44
import Derived.Test.YtijmfpoanggjjaaGreatDoorK45
import Derived.Test.YtijmfpoanggjjaaGreatDoorK46
import Derived.Test.YtijmfpoanggjjaaGreatDoorRows
import Derived.Lib.LaidTab
import Derived.Stop.LaidErr
import Derived.Stop.Joined
import Derived.LaidMore
import Derived.LaidLaws
import Derived.ChangeSame
import Derived.ChangeVars
import Derived.JoinedOf
import Derived.RowKitTokens
import Derived.OpenShut
import Derived.Test.YtijmfpoanggjjaaGreatDoorTie
import Derived.Test.YtijmfpoanggjjaaGreatDoorCards
import Derived.RegionTactic
import Derived.LoopTactic
set_option linter.unusedSimpArgs false
set_option linter.unusedVariables false
namespace Go.Proofs.YtijmfpoanggjjaaGreatDoor
open Go.RowKit
attribute [go_sem] more_more Array.size_append
set_option maxHeartbeats 8000000 in
set_option maxRecDepth 20000 in
theorem pmays_walk (w : World) (p1 : Option Addr) (n c1 : Nat) (ns : List Nd) (fi kd : Int) (hr : NdsIn w p1 n c1 ns) (h64 : ∀ z ∈ ns, In64 z.i) (hP : Pow10 w.heap.size w) :
    Calls Tryz.prog 4 #[.agg #[.slice p1 n c1, .int .i64 fi], .int .i64 kd] w fun e w' => e = .returned (.bool true) ∧ Ext w w' := by
  have FW := Lib.hid (fun W' (hx : Ext w W') => qcv fi W' (hr.ext hx))
  have HS := Lib.hid (qcO ns h64)
  have HZ := Lib.hid (show ∀ z ∈ fewN ns, z.s.size ≤ maxLen from fun z hz => by have := (qcO ns h64 z hz).1; unfold maxLen; omega)
  have HPP := Lib.hid hP
  have HL := Lib.hid (show (fewN ns).length ≤ 514 by unfold fewN; simp; omega)
  have AW := Lib.hid (fun W (hx : Ext w W) => qbN W (Pow10.ext (B := 0) HPP.out hx))
  clear hr h64 hP
  go_enter Tryz.func4, Tryz.ntmps4
  go_wp2_with fail
  go_at_call 6
  refine (FW.out _ zaa).mono ?_
  rintro e' w1 ⟨nv, rfl, hrow, hx⟩
  obtain ⟨p2, c2, hv⟩ := qau hrow
  subst hv
  have KX := Lib.hid ((KB.new w #[.slice p1 n c1, .int .i64 fi] 24).of_ext hx)
  have lk := KX.out.lt
  have k0f := KX.out.frozen 0
  have k1f := KX.out.frozen 1
  have k0c := KX.out.cell 0 _ rfl
  have k1c := KX.out.cell 1 _ rfl
  have HR := Lib.hid (show (w1.setCell ⟨w.heap.size, 0, none⟩ (.slice p2 (fewN ns).length c2)).ownsRow 0 34 8 (.slice p2 (fewN ns).length c2) (fewN ns).length (qac (fewN ns)) from qaQ hrow fun k hk _ => heap_set_other _ _ _ _ _ (fun e => qaF hrow KX.out zaq (by rw [← e]; exact hk)))
  have HX := Lib.hid (show Ext w (w1.setCell ⟨w.heap.size, 0, none⟩ (.slice p2 (fewN ns).length c2)) from (((Ext.refl w).alloc _).trans hx).setCell (Nat.le_refl _) _)
  have KX1 := Lib.hid (KX.out.setAt 0 (.slice p2 (fewN ns).length c2) zbt)
  obtain ⟨NS, hNS⟩ : ∃ l, fewN ns = l := ⟨_, rfl⟩
  rw [hNS] at HR HX KX1 HS HZ HL ⊢
  clear hrow hx hNS FW
  go_wp2_with fail
  generalize hW1 : w1.setCell ⟨w.heap.size, 0, none⟩ (.slice p2 NS.length c2) = W1 at *
  clear lk k0f k1f k0c k1c KX
  have lk := KX1.out.lt
  have k0c := KX1.out.cell 0 (.slice p2 NS.length c2) rfl
  have k1c := KX1.out.cell 1 (.int .i64 fi) rfl
  clear hW1
  have RM := fun W (hx : Ext W1 W) => qcF fi (own_ext HR.out hx)
  have MM := fun W (hx : Ext W1 W) => qcK fi W (own_ext HR.out hx) rfl HZ.out
  have CN := fun W (hx : Ext W1 W) => pcount_any fi (own_ext HR.out hx) HZ.out kd
  obtain ⟨m, hm⟩ : ∃ m, mayB NS fi = m := ⟨_, rfl⟩
  have HCF := Lib.hid (show qdo NS fi kd = if m = true then (cntK NS kd : Int) else 0 by rw [← hm]; rfl)
  rw [hm] at RM MM
  obtain ⟨cf, hcf⟩ : ∃ c, qdo NS fi kd = c := ⟨_, rfl⟩
  rw [hcf] at CN HCF
  have RM := Lib.hid RM
  have MM := Lib.hid MM
  have CN := Lib.hid CN
  have hnl : (NS.length : Int) ≤ 514 := by have := HL.out; omega
  clear hm hcf
  have C2 := Lib.hid (fun zk za zb zc zx zi zs zt W => qbL zk za zb zc zx zi zs zt W)
  cases m
  · have hcf := HCF.out
    simp only [Bool.false_eq_true, if_false, if_true] at hcf
    have HCF2 := Lib.hid hcf
    clear hcf
    go_wp2_with (first
      | ((go_at_call 9; (with_reducible refine (RM.out _ zaa).mono ?_); rintro e' _ ⟨rfl, d1, os1, rfl⟩))
      | ((go_at_call 13; (with_reducible refine (MM.out _ zaa).mono ?_); rintro e' _ ⟨rfl, d2, os2, rfl⟩)))
    go_loopw [6, 7] (fun c i wr => ∃ (k : Nat), k ≤ NS.length ∧ i = .int .i64 (k : Int) ∧ c = .int .i64 ((0 : Nat) : Int) ∧ Ext W1 wr) (fun _ i _ => NS.length - (intOf i).toNat)
    case atStart => exact ⟨0, Nat.zero_le _, rfl, rfl, zaa⟩
    case round =>
      obtain ⟨k, hk, rfl, rfl, hx⟩ := hrel
      have HX3 := Lib.hid hx
      have KP := Lib.hid (KX1.out.of_ext hx)
      have xp0 := KP.out.cell 0 (.slice p2 NS.length c2) rfl
      have xp1 := KP.out.cell 1 (.int .i64 fi) rfl
      have lp := KP.out.lt
      by_cases hlt : k < NS.length
      · obtain ⟨z, hz⟩ : ∃ z, NS[k]? = some z := ⟨NS[k]'hlt, List.getElem?_eq_getElem hlt⟩
        have hrw := own_ext HR.out hx
        obtain ⟨G, cp, hpv, -, -⟩ := qai HR.out hlt
        have hpv1 : p2 = some ⟨G, 0, none⟩ := by simp only [Value.slice.injEq] at hpv; exact hpv.1
        subst hpv1
        have hG := (hrw.lt G rfl).2
        obtain ⟨a0, a1, a2, a3, a4, a5, a6, a7⟩ := nd_at hrw hz
        have HST := Lib.hid (qdz hz kd)
        have hzs := (HS.out z (List.mem_of_getElem? hz)).1
        obtain ⟨zk, za, zb, zc, zx, zi, zs, zt⟩ := z
        dsimp only at a0 a1 a2 a3 a4 a5 a6 a7 HST hzs
        have C1 := Lib.hid (fun W => close_any zk za zb zc zx zi zs zt zcw W)
        obtain ⟨q, hq⟩ : ∃ q, cntK (NS.take k) kd = q := ⟨_, rfl⟩
        have hq1 : (q : Int) ≤ 514 := by have := cntK_le (NS.take k) kd; have h2 : (NS.take k).length ≤ NS.length := by simp; omega
                                         omega
        rw [hq] at HST
        have HM := Lib.hid hlt
        have hm1 : (k : Int) < (NS.length : Int) := by omega
        have hm0 : 0 ≤ (k : Int) := by omega
        obtain ⟨cl, hcl⟩ : ∃ c, qar zk zs = c := ⟨_, rfl⟩
        rw [hcl] at C1
        have C2 := Lib.hid (fun W => C2.out zk za zb zc zx zi zs zt W)
        rw [hcl] at C2
        clear hx hrw hpv hz hq hlt hk hzs hcl
        by_cases hk2 : zk = kd
        · subst hk2
          go_wp2_with fail
          refine qaa 13 57 [false, false, false, false, false, false, false, false, false, false, false, false, false] zam zam rfl ?_
          simp only [List.take_succ_cons, List.take_zero, List.drop_succ_cons, List.drop_zero]
          repeat (refine Lex.step rfl ?_; intro K hK; unfold StepG; go_simp; (first
              | refine hK _ ?_
              | (with_reducible refine ⟨_, fun d os => (ret1 (C1.out _)), ?_⟩; go_simp; refine hK _ ?_)
              | (with_reducible refine ⟨_, fun d os => (ret1 (C2.out _)), ?_⟩; go_simp; refine hK _ ?_)); clear hK K)
          refine Lex.nil fun WW hE => ?_
          obtain ⟨dd, oo, rfl⟩ := hE
          unfold FillH
          go_wp2_with fail
          rw [ends_normal]
          go_wp2_with fail
          go_roundw
          case rel => exact ⟨k + 1, by have := HM.out; omega, by go_num, rfl, HX3.out.trans zaa⟩
          case measure => have := HM.out; simp [intOf]; omega
        · have hk3 : (zk == kd) = false := by simpa using hk2
          clear hk2
          go_wp2_with fail
          refine qaa 13 57 [false, false, false, false, false, false, false, false, false, false, false, false, false] zam zam rfl ?_
          simp only [List.take_succ_cons, List.take_zero, List.drop_succ_cons, List.drop_zero]
          repeat (refine Lex.step rfl ?_; intro K hK; unfold StepG; go_simp; (first
              | refine hK _ ?_
              | (with_reducible refine ⟨_, fun d os => (ret1 (C1.out _)), ?_⟩; go_simp; refine hK _ ?_)
              | (with_reducible refine ⟨_, fun d os => (ret1 (C2.out _)), ?_⟩; go_simp; refine hK _ ?_)); clear hK K)
          refine Lex.nil fun WW hE => ?_
          obtain ⟨dd, oo, rfl⟩ := hE
          unfold FillH
          go_wp2_with fail
          rw [ends_normal]
          go_wp2_with fail
          go_roundw
          case rel => exact ⟨k + 1, by have := HM.out; omega, by go_num, rfl, HX3.out.trans zaa⟩
          case measure => have := HM.out; simp [intOf]; omega
      · have hke : k = NS.length := by omega
        subst hke
        skip
        have hcf := HCF2.out
        subst hcf
        clear hlt hk hx
        go_wp2_with (first
          | ((go_at_call 16; (with_reducible refine (CN.out _ (HX3.out.trans zaa)).mono ?_); rintro e' _ ⟨rfl, d3, os3, rfl⟩))
          | ((go_at_call 10; (with_reducible refine (AW.out _ (HX.out.trans (HX3.out.trans zaa))).mono ?_); rintro e' _ ⟨rfl, d4, os4, rfl⟩)))
        go_ret
        exact ⟨rfl, HX.out.trans (HX3.out.trans zaa)⟩
  · have hcf := HCF.out
    simp only [Bool.false_eq_true, if_false, if_true] at hcf
    have HCF2 := Lib.hid hcf
    clear hcf
    go_wp2_with (first
      | ((go_at_call 9; (with_reducible refine (RM.out _ zaa).mono ?_); rintro e' _ ⟨rfl, d1, os1, rfl⟩))
      | ((go_at_call 13; (with_reducible refine (MM.out _ zaa).mono ?_); rintro e' _ ⟨rfl, d2, os2, rfl⟩)))
    go_loopw [6, 7] (fun c i wr => ∃ (k : Nat), k ≤ NS.length ∧ i = .int .i64 (k : Int) ∧ c = .int .i64 ((cntK (NS.take k) kd : Nat) : Int) ∧ Ext W1 wr) (fun _ i _ => NS.length - (intOf i).toNat)
    case atStart => exact ⟨0, Nat.zero_le _, rfl, rfl, zaa⟩
    case round =>
      obtain ⟨k, hk, rfl, rfl, hx⟩ := hrel
      have HX3 := Lib.hid hx
      have KP := Lib.hid (KX1.out.of_ext hx)
      have xp0 := KP.out.cell 0 (.slice p2 NS.length c2) rfl
      have xp1 := KP.out.cell 1 (.int .i64 fi) rfl
      have lp := KP.out.lt
      by_cases hlt : k < NS.length
      · obtain ⟨z, hz⟩ : ∃ z, NS[k]? = some z := ⟨NS[k]'hlt, List.getElem?_eq_getElem hlt⟩
        have hrw := own_ext HR.out hx
        obtain ⟨G, cp, hpv, -, -⟩ := qai HR.out hlt
        have hpv1 : p2 = some ⟨G, 0, none⟩ := by simp only [Value.slice.injEq] at hpv; exact hpv.1
        subst hpv1
        have hG := (hrw.lt G rfl).2
        obtain ⟨a0, a1, a2, a3, a4, a5, a6, a7⟩ := nd_at hrw hz
        have HST := Lib.hid (qdz hz kd)
        have hzs := (HS.out z (List.mem_of_getElem? hz)).1
        obtain ⟨zk, za, zb, zc, zx, zi, zs, zt⟩ := z
        dsimp only at a0 a1 a2 a3 a4 a5 a6 a7 HST hzs
        have C1 := Lib.hid (fun W => close_any zk za zb zc zx zi zs zt zcw W)
        obtain ⟨q, hq⟩ : ∃ q, cntK (NS.take k) kd = q := ⟨_, rfl⟩
        have hq1 : (q : Int) ≤ 514 := by have := cntK_le (NS.take k) kd; have h2 : (NS.take k).length ≤ NS.length := by simp; omega
                                         omega
        rw [hq] at HST ⊢
        have HM := Lib.hid hlt
        have hm1 : (k : Int) < (NS.length : Int) := by omega
        have hm0 : 0 ≤ (k : Int) := by omega
        obtain ⟨cl, hcl⟩ : ∃ c, qar zk zs = c := ⟨_, rfl⟩
        rw [hcl] at C1
        have C2 := Lib.hid (fun W => C2.out zk za zb zc zx zi zs zt W)
        rw [hcl] at C2
        clear hx hrw hpv hz hq hlt hk hzs hcl
        by_cases hk2 : zk = kd
        · subst hk2
          have HS3 := Lib.hid (show cntK (NS.take (k + 1)) zk = q + 1 by rw [HST.out]; unfold pone; simp)
          go_wp2_with fail
          refine qaa 13 57 [false, false, false, false, false, false, false, false, false, false, false, false, false] zam zam rfl ?_
          simp only [List.take_succ_cons, List.take_zero, List.drop_succ_cons, List.drop_zero]
          repeat (refine Lex.step rfl ?_; intro K hK; unfold StepG; go_simp; (first
              | refine hK _ ?_
              | (with_reducible refine ⟨_, fun d os => (ret1 (C1.out _)), ?_⟩; go_simp; refine hK _ ?_)
              | (with_reducible refine ⟨_, fun d os => (ret1 (C2.out _)), ?_⟩; go_simp; refine hK _ ?_)); clear hK K)
          refine Lex.nil fun WW hE => ?_
          obtain ⟨dd, oo, rfl⟩ := hE
          unfold FillH
          go_wp2_with fail
          rw [ends_normal]
          go_wp2_with fail
          go_roundw
          case rel => exact ⟨k + 1, by have := HM.out; omega, by go_num, by rw [HS3.out]; go_num, HX3.out.trans zaa⟩
          case measure => have := HM.out; simp [intOf]; omega
        · have hk3 : (zk == kd) = false := by simpa using hk2
          have HS3 := Lib.hid (show cntK (NS.take (k + 1)) kd = q by rw [HST.out]; unfold pone; simp [hk2])
          clear hk2
          go_wp2_with fail
          refine qaa 13 57 [false, false, false, false, false, false, false, false, false, false, false, false, false] zam zam rfl ?_
          simp only [List.take_succ_cons, List.take_zero, List.drop_succ_cons, List.drop_zero]
          repeat (refine Lex.step rfl ?_; intro K hK; unfold StepG; go_simp; (first
              | refine hK _ ?_
              | (with_reducible refine ⟨_, fun d os => (ret1 (C1.out _)), ?_⟩; go_simp; refine hK _ ?_)
              | (with_reducible refine ⟨_, fun d os => (ret1 (C2.out _)), ?_⟩; go_simp; refine hK _ ?_)); clear hK K)
          refine Lex.nil fun WW hE => ?_
          obtain ⟨dd, oo, rfl⟩ := hE
          unfold FillH
          go_wp2_with fail
          rw [ends_normal]
          go_wp2_with fail
          go_roundw
          case rel => exact ⟨k + 1, by have := HM.out; omega, by go_num, by rw [HS3.out], HX3.out.trans zaa⟩
          case measure => have := HM.out; simp [intOf]; omega
      · have hke : k = NS.length := by omega
        subst hke
        rw [List.take_length]
        have hcf := HCF2.out
        subst hcf
        clear hlt hk hx
        go_wp2_with (first
          | ((go_at_call 16; (with_reducible refine (CN.out _ (HX3.out.trans zaa)).mono ?_); rintro e' _ ⟨rfl, d3, os3, rfl⟩))
          | ((go_at_call 10; (with_reducible refine (AW.out _ (HX.out.trans (HX3.out.trans zaa))).mono ?_); rintro e' _ ⟨rfl, d4, os4, rfl⟩)))
        go_ret
        exact ⟨rfl, HX.out.trans (HX3.out.trans zaa)⟩
open Go.ChangeShapes Go.WideShapes Go.ChangeAt Go.Joins
/-- what the condition gives -/
theorem qcJ {W : World} (h : laidMetH Tryz.prog Rows.printMaysRow.laid W) : Pow10 W.heap.size W := by
 rw [MakeChecks.laidMetH_plain _ _ _ zam] at h
 have h3 := laidMet.tail (laidMet.tail h)
 have hg : Tryz.prog.globalNamed "internal/strconv.uint64pow10" = some 0 := by kernel_rfl
 have hgt : (Tryz.prog.globals[0]?).map (·.type) = some 143 := by kernel_rfl
 have t := Lib.tabIs_of_head (k := .u64) (zs := Lib.pow10Tab) hg hgt Tryz.underlying143 Tryz.underlying83 zam zam h3
 refine ⟨⟨0, hg, ?_⟩, t⟩
 unfold Lib.TabIs World.var? at t
 rw [hg] at t
 simp only [Option.bind_some] at t
 rcases Nat.lt_or_ge 0 W.heap.size with h | h
 · exact h
 · rw [Array.getElem?_eq_none h] at t; cases t
theorem door_met (os : Os) (args : Array Value) : laidMetH Tryz.prog Rows.printMaysRow.laid ((World.doorLaid Tryz.prog 24 os).forCall (fun _ _ => 0) ⟨#[], args, []⟩).memory :=
 laidMetH_of_parts3 (fuel := 8) (laidMet_of_run' 8 zam zam) zam zam
namespace PrintMaysRow
/-! ### The row, and the card -/
section
open Go.ChangeShapes Go.WideShapes Go.ChangeAt Go.RowKit Go.Joins
open Go.ChangeMaps (open_string shut_string)
theorem own : ownKnob Tryz.prog.godebug = none := by kernel_rfl
theorem laid : laidOutB Tryz.prog = true := by kernel_rfl
theorem progCells : Tryz.prog.cellsOf 24 = 2 := by kernel_rfl
set_option maxRecDepth 100000 in
theorem lifted (os : Os) (started : os.Started) (H : Type) (enc : TypeId × Value → H) :
  ReturnsInHanded {} Tryz.checked os 4 .any (fun w args => (Rows.printMaysSpec.pre enc Tryz.prog Tryz.f4 Rows.printMaysRow.domain false w args ∧ laidMetH Tryz.prog Rows.printMaysRow.laid w) ∧ sizedMet enc Tryz.prog Tryz.f4 (OpenSpec.ofChange Rows.printMaysSpec) false w args) (Rows.printMaysSpec.post enc Tryz.prog Tryz.f4 false true false false) := by
 refine returnsInHanded_of_change_and (C := Tryz.checked) (X := fun w _ => laidMetH Tryz.prog Rows.printMaysRow.laid w) (fun _ _ _ hh h => h.of_heap hh) own started zam Tryz.func4
  (ChangeSpec.witness_shaped (enc := enc) (C := Tryz.checked) (os := os) (X := fun w _ => laidMetH Tryz.prog Rows.printMaysRow.laid w) false (World.doorLaid Tryz.prog 24 os) #[.agg #[.slice none 0 0, .int .i64 0], .int .i64 0] 8 rfl (World.shaped_of_RefB zam zam) zam zam zam (door_met os _)) ?_
 intro W base args ds gs before hval0 hW hcnd hsz0 hL _
 have hval : ∀ (j : Nat) t v, Tryz.f4.params[j]? = some t → args[j]? = some v → Value.okWide Tryz.prog W .any base t v := hval0
 have hW' := hW
 obtain ⟨p, q, hA0, hV, rfl, hfz, hnd⟩ := hW
 have hA : DataW.TrodAll enc Tryz.prog W 0 (fun _ => true) true Tryz.f4.params.toList args.toList ds p := hA0
 have hAk := hA
 have hpr : Tryz.f4.params.toList.all (fun t => Tryz.prog.readableRec t && decide (t < Tryz.prog.types.size)) = true := by kernel_rfl
 have hlt := hA.lt
 obtain ⟨rfl, rfl⟩ := trodVars_none hV
 have hsz : (DataW.weightsEach Tryz.prog (Tryz.f4.params.toList ++ []) (ds ++ [])).all (· ≤ reachBytes) = true := hsz0
 rw [Tryz.params4] at hA hval hsz
 simp only [List.append_nil] at hsz
 obtain ⟨v0, vs0, d0, ds0, p0, q0, hargs, rfl, rfl, h0, r0⟩ := trodAll_cons hA
 obtain ⟨v1, vs1, d1, ds1, p1, q1, rfl, rfl, rfl, h1, r1⟩ := trodAll_cons r0
 obtain ⟨rfl, rfl, rfl⟩ := trodAll_nil r1
 obtain rfl : args = #[v0, v1] := by cases args; simp_all
 obtain ⟨c00, c01, y00, y01, m0, rfl, rfl, rfl, hy00, hy01⟩ := open_agg2 Tryz.underlying24 zam progCells (hval 0 24 v0 rfl rfl) h0
 obtain ⟨p_fi, e01, rfl, wp_fi⟩ := DataW.trod_int Tryz.underlying3 hy01
 obtain ⟨p_p, p_n, p_c, p_ns, e00, hp, h64p⟩ := qcR hy00
 simp at e01
 subst e00 e01
 obtain ⟨kd, rfl, rfl, rfl, wkd⟩ := open_int Tryz.underlying3 (hval 1 3 v1 rfl rfl) h1
 clear hA0 hval0 hsz0
 refine (pmays_walk W p_p p_n p_c p_ns p_fi kd hp h64p (qcJ hL)).mono fun e W' ⟨he, hx⟩ => ?_
 subst he
 exact ⟨_, rfl, _, _, _, [], _, [], hW', trodAll_mk1 (shut_bool Tryz.underlying4 _), qbO laid hx.below hpr hAk hlt, rfl, hx.below.frame _, fun h => by cases h⟩
theorem row_proved : Rows.PrintMaysSaid :=
 OpenClaim.holds_of_wide 4 Tryz.f4 rfl rfl rfl rfl rfl rfl rfl ⟨rfl, rfl, rfl, rfl, rfl⟩ rfl rfl rfl rfl rfl zam Tryz.func4 zam
  (of_decide_eq_true zam) (by unfold Func.isWrapper; first | (rw [if_pos (by decide +kernel)]; kernel_rfl) | (rw [if_neg (by decide +kernel)]; exact ⟨rfl, rfl⟩))
  (fun os started H enc _ => lifted os started H enc)
theorem proved : Rows.PrintMaysCardSaid :=
 Claim7.holds_tied_plain_at .later [] Rows.printMaysCard.laidKinds true Rows.printMaysCard.stood.harness Rows.printMaysCard.stood.looks
  row_proved (fun _ h => by cases h) zam (fun _ h => by cases h) printMays_row_tie rfl ⟨rfl, rfl⟩ zam rfl
  (fun f fn hf hfn => by
   obtain rfl : f = 4 := Option.some.inj ((show Tryz.prog.funcNamed "plenum/plenumlaw18.PrintMays" = some 4 by kernel_rfl).symm.trans hf) |>.symm
   obtain rfl : fn = Tryz.f4 := (Option.some.inj (Tryz.func4.symm.trans hfn)).symm
   exact ⟨by kernel_rfl, fun j t ht => by
    rw [Tryz.params4] at ht
    have key : ∀ t ∈ Tryz.f4.params.toList, Tryz.prog.wantsStandIn t = false := by decide +kernel
    exact key t (by rw [Tryz.params4]; exact List.mem_of_getElem? (by simpa using ht))⟩) zam
end
#print axioms proved
end PrintMaysRow
end Go.Proofs.YtijmfpoanggjjaaGreatDoor
