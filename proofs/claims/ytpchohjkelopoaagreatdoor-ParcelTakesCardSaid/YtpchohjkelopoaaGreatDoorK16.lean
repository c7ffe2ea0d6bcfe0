/- Lemmas for the claim (texts Pa4, Pa5, what its proof uses of them). -/
import Derived.Test.YtpchohjkelopoaaGreatDoorK15
import Derived.Deep.MidRow
set_option linter.unusedSimpArgs false
set_option linter.unusedVariables false
set_option maxRecDepth 20000
namespace Go.Proofs.YtpchohjkelopoaaGreatDoor
open Go.RowKit
attribute [go_sem] more_more Array.size_append
/-- a trunk's versions, as an array -/
def vrC (V : Nat → Int) : Array Value := #[.int .i64 (V 0), .int .i64 (V 1), .int .i64 (V 2), .int .i64 (V 3), .int .i64 (V 4), .int .i64 (V 5), .int .i64 (V 6), .int .i64 (V 7), .int .i64 (V 8), .int .i64 (V 9), .int .i64 (V 10), .int .i64 (V 11), .int .i64 (V 12), .int .i64 (V 13), .int .i64 (V 14), .int .i64 (V 15)]
theorem vrC_get (V : Nat → Int) (k : Nat) (hk : k < 16) : (vrC V)[k]? = some (.int .i64 (V k)) := by
  match k, hk with
  | 0, _ => rfl
  | 1, _ => rfl
  | 2, _ => rfl
  | 3, _ => rfl
  | 4, _ => rfl
  | 5, _ => rfl
  | 6, _ => rfl
  | 7, _ => rfl
  | 8, _ => rfl
  | 9, _ => rfl
  | 10, _ => rfl
  | 11, _ => rfl
  | 12, _ => rfl
  | 13, _ => rfl
  | 14, _ => rfl
  | 15, _ => rfl
  | k + 16, h => exact absurd h (by omega)
theorem vrC_sub (v : Nat → Value) (V : Nat → Int) (a b c : Int) : ∀ j u, (vrC V).toList[j]? = some u → (stC v V a b c)[16 + j]? = some u := by
  intro j u h
  have hj : j < 16 := by have := (List.getElem?_eq_some_iff.1 h).1; simpa [vrC] using this
  rw [stC_ver v V a b c j hj, ← vrC_get V j hj, ← Array.getElem?_toList, h]
theorem idx_ver (V : Nat → Int) (k : Nat) (hk : k < 16) (W : World) : (Instr.index 23 (.agg (vrC V)) (.int .i64 (k : Int))).run Tryz.prog W = .ok (.int .i64 (V k)) W := by
  match k, hk with
  | 0, _ => exact (fun W => by kernel_rfl : ∀ W : World, (Instr.index 23 (.agg (vrC V)) (.int .i64 0)).run Tryz.prog W = .ok (.int .i64 (V 0)) W) W
  | 1, _ => exact (fun W => by kernel_rfl : ∀ W : World, (Instr.index 23 (.agg (vrC V)) (.int .i64 1)).run Tryz.prog W = .ok (.int .i64 (V 1)) W) W
  | 2, _ => exact (fun W => by kernel_rfl : ∀ W : World, (Instr.index 23 (.agg (vrC V)) (.int .i64 2)).run Tryz.prog W = .ok (.int .i64 (V 2)) W) W
  | 3, _ => exact (fun W => by kernel_rfl : ∀ W : World, (Instr.index 23 (.agg (vrC V)) (.int .i64 3)).run Tryz.prog W = .ok (.int .i64 (V 3)) W) W
  | 4, _ => exact (fun W => by kernel_rfl : ∀ W : World, (Instr.index 23 (.agg (vrC V)) (.int .i64 4)).run Tryz.prog W = .ok (.int .i64 (V 4)) W) W
  | 5, _ => exact (fun W => by kernel_rfl : ∀ W : World, (Instr.index 23 (.agg (vrC V)) (.int .i64 5)).run Tryz.prog W = .ok (.int .i64 (V 5)) W) W
  | 6, _ => exact (fun W => by kernel_rfl : ∀ W : World, (Instr.index 23 (.agg (vrC V)) (.int .i64 6)).run Tryz.prog W = .ok (.int .i64 (V 6)) W) W
  | 7, _ => exact (fun W => by kernel_rfl : ∀ W : World, (Instr.index 23 (.agg (vrC V)) (.int .i64 7)).run Tryz.prog W = .ok (.int .i64 (V 7)) W) W
  | 8, _ => exact (fun W => by kernel_rfl : ∀ W : World, (Instr.index 23 (.agg (vrC V)) (.int .i64 8)).run Tryz.prog W = .ok (.int .i64 (V 8)) W) W
  | 9, _ => exact (fun W => by kernel_rfl : ∀ W : World, (Instr.index 23 (.agg (vrC V)) (.int .i64 9)).run Tryz.prog W = .ok (.int .i64 (V 9)) W) W
  | 10, _ => exact (fun W => by kernel_rfl : ∀ W : World, (Instr.index 23 (.agg (vrC V)) (.int .i64 10)).run Tryz.prog W = .ok (.int .i64 (V 10)) W) W
  | 11, _ => exact (fun W => by kernel_rfl : ∀ W : World, (Instr.index 23 (.agg (vrC V)) (.int .i64 11)).run Tryz.prog W = .ok (.int .i64 (V 11)) W) W
  | 12, _ => exact (fun W => by kernel_rfl : ∀ W : World, (Instr.index 23 (.agg (vrC V)) (.int .i64 12)).run Tryz.prog W = .ok (.int .i64 (V 12)) W) W
  | 13, _ => exact (fun W => by kernel_rfl : ∀ W : World, (Instr.index 23 (.agg (vrC V)) (.int .i64 13)).run Tryz.prog W = .ok (.int .i64 (V 13)) W) W
  | 14, _ => exact (fun W => by kernel_rfl : ∀ W : World, (Instr.index 23 (.agg (vrC V)) (.int .i64 14)).run Tryz.prog W = .ok (.int .i64 (V 14)) W) W
  | 15, _ => exact (fun W => by kernel_rfl : ∀ W : World, (Instr.index 23 (.agg (vrC V)) (.int .i64 15)).run Tryz.prog W = .ok (.int .i64 (V 15)) W) W
  | k + 16, h => exact absurd h (by omega)
theorem stepG_load_mid {P : Program} {ops : Array Oper} {o : Oper} {a : Act} {W : World} (hw : Region.wanted o (yielded ops a.tmps) = true) (ty : TypeId) (x : Operand) (ho : o.op = .load ty x) (b off : Nat) (hx : a.eval x = .pointer (some ⟨b, off, none⟩)) (cs : List Value) (d : TypeDesc) (hc : W.rangeAt b off cs)
    (hu : P.underlying ty = some d) (hd : d.isRow = true) (hi : (P.info? ty).map (·.size) = some cs.length) (v : Value) (hv : v = .agg cs.toArray) : StepG P ops o a W (fun x _ => x = v) := by
  unfold StepG
  rw [if_pos hw]
  unfold execOp
  simp only [ho, hx, Instr.loadAt, Instr.sureAddr, Sem.run_bind, Sem.run_pure, Result.andThen_ok, run_loadVar_mid W b off ty cs d hc hu hd hi]
  exact ⟨Ext.refl _, hv.symm⟩
theorem st_range {N : Nat} {v : Nat → Value} {V : Nat → Int} {a b c : Int} {W : World} (h : StBlk W N v V a b c) : W.rangeAt N 0 (trC v V).toList := by
  have := World.rangeAt_of_block (w := W) h 0 32
  rw [show ((stC v V a b c).extract 0 (0 + 32)).toList = (trC v V).toList by kernel_rfl] at this
  exact this
set_option maxHeartbeats 4000000 in
theorem stmay_any (bs : Nat → Nat) (v : Nat → Value) (T : Nat → List It) (V : Nat → Int) (a b c : Int) (SB : Nat) (w : World) (hS : SignsAt SB w) (hSB : SB ≤ w.heap.size) (h : LvsAt w bs v T) :
    Calls Tryz.prog 60 #[.agg (stC v V a b c)] w fun e w' => e = .returned (.bool (storeB T V a b c)) ∧ Ext w w' := by
  rw [storeB_eq]
  have TM := Lib.hid fun (W : World) (hx : Ext w W) => tmay_any bs v T V SB W (hS.ext hx hSB) (Nat.le_trans hSB hx.size) (h.ext hx)
  have WA := Lib.hid fun W => within_any a 2147483647 W
  have WB := Lib.hid fun W => within_any b 65536 W
  have WC := Lib.hid fun W => within_any c 1024 W
  have HL := Lib.hid h
  have HS := Lib.hid hS
  clear h hS
  cases htb : trunkB T V with
  | false =>
    rw [htb] at TM
    clear htb
    go_enter Tryz.func60, Tryz.ntmps60
    go_wp2_with (first
    | (refine wpList_load_sub rfl 29 _ rfl w.heap.size 0 rfl 56 (stC v V a b c) (trC v V) (0, 0) _ (heap_alloc_new w _) Tryz.underlying29 rfl (by kernel_rfl) (stC_tr v V a b c) ?_)
    | (go_at_call 52; refine (TM.out _ (by repeat (first | exact Ext.refl _ | apply Ext.alloc | apply Ext.more | apply Ext.drewN))).mono ?_; rintro e w1 ⟨rfl, hx⟩; have HX1 := Lib.hid (((Ext.refl w).alloc _).trans hx); have hb1 : StBlk w1 w.heap.size v V a b c := StBlk.ext (show StBlk (w.alloc (.cells (stC v V a b c) 56)) w.heap.size v V a b c from heap_alloc_new w _) hx; obtain ⟨t32, t33, t34⟩ := hb1.tail; have hgN := lt_of_heap hb1; have HB1 := Lib.hid hb1; clear hx hb1)
    | (go_at_call 87; with_reducible refine (WA.out _).mono ?_; rintro e _ ⟨rfl, rfl⟩)
    | (go_at_call 87; with_reducible refine (WB.out _).mono ?_; rintro e _ ⟨rfl, rfl⟩)
    | (go_at_call 87; with_reducible refine (WC.out _).mono ?_; rintro e _ ⟨rfl, rfl⟩))
    go_ret
    exact ⟨rfl, HX1.out⟩
  | true =>
  rw [htb] at TM
  have HTB := Lib.hid htb
  clear htb
  cases ha : inB a 2147483647 with
  | false =>
    rw [ha] at WA
    clear ha
    go_enter Tryz.func60, Tryz.ntmps60
    go_wp2_with (first
    | (refine wpList_load_sub rfl 29 _ rfl w.heap.size 0 rfl 56 (stC v V a b c) (trC v V) (0, 0) _ (heap_alloc_new w _) Tryz.underlying29 rfl (by kernel_rfl) (stC_tr v V a b c) ?_)
    | (go_at_call 52; refine (TM.out _ (by repeat (first | exact Ext.refl _ | apply Ext.alloc | apply Ext.more | apply Ext.drewN))).mono ?_; rintro e w1 ⟨rfl, hx⟩; have HX1 := Lib.hid (((Ext.refl w).alloc _).trans hx); have hb1 : StBlk w1 w.heap.size v V a b c := StBlk.ext (show StBlk (w.alloc (.cells (stC v V a b c) 56)) w.heap.size v V a b c from heap_alloc_new w _) hx; obtain ⟨t32, t33, t34⟩ := hb1.tail; have hgN := lt_of_heap hb1; have HB1 := Lib.hid hb1; clear hx hb1)
    | (go_at_call 87; with_reducible refine (WA.out _).mono ?_; rintro e _ ⟨rfl, rfl⟩)
    | (go_at_call 87; with_reducible refine (WB.out _).mono ?_; rintro e _ ⟨rfl, rfl⟩)
    | (go_at_call 87; with_reducible refine (WC.out _).mono ?_; rintro e _ ⟨rfl, rfl⟩))
    go_ret
    exact ⟨rfl, HX1.out⟩
  | true =>
  rw [ha] at WA
  clear ha
  cases hb : inB b 65536 with
  | false =>
    rw [hb] at WB
    clear hb
    go_enter Tryz.func60, Tryz.ntmps60
    go_wp2_with (first
    | (refine wpList_load_sub rfl 29 _ rfl w.heap.size 0 rfl 56 (stC v V a b c) (trC v V) (0, 0) _ (heap_alloc_new w _) Tryz.underlying29 rfl (by kernel_rfl) (stC_tr v V a b c) ?_)
    | (go_at_call 52; refine (TM.out _ (by repeat (first | exact Ext.refl _ | apply Ext.alloc | apply Ext.more | apply Ext.drewN))).mono ?_; rintro e w1 ⟨rfl, hx⟩; have HX1 := Lib.hid (((Ext.refl w).alloc _).trans hx); have hb1 : StBlk w1 w.heap.size v V a b c := StBlk.ext (show StBlk (w.alloc (.cells (stC v V a b c) 56)) w.heap.size v V a b c from heap_alloc_new w _) hx; obtain ⟨t32, t33, t34⟩ := hb1.tail; have hgN := lt_of_heap hb1; have HB1 := Lib.hid hb1; clear hx hb1)
    | (go_at_call 87; with_reducible refine (WA.out _).mono ?_; rintro e _ ⟨rfl, rfl⟩)
    | (go_at_call 87; with_reducible refine (WB.out _).mono ?_; rintro e _ ⟨rfl, rfl⟩)
    | (go_at_call 87; with_reducible refine (WC.out _).mono ?_; rintro e _ ⟨rfl, rfl⟩))
    go_ret
    exact ⟨rfl, HX1.out⟩
  | true =>
  rw [hb] at WB
  clear hb
  cases hc : inB c 1024 with
  | false =>
    rw [hc] at WC
    clear hc
    go_enter Tryz.func60, Tryz.ntmps60
    go_wp2_with (first
    | (refine wpList_load_sub rfl 29 _ rfl w.heap.size 0 rfl 56 (stC v V a b c) (trC v V) (0, 0) _ (heap_alloc_new w _) Tryz.underlying29 rfl (by kernel_rfl) (stC_tr v V a b c) ?_)
    | (go_at_call 52; refine (TM.out _ (by repeat (first | exact Ext.refl _ | apply Ext.alloc | apply Ext.more | apply Ext.drewN))).mono ?_; rintro e w1 ⟨rfl, hx⟩; have HX1 := Lib.hid (((Ext.refl w).alloc _).trans hx); have hb1 : StBlk w1 w.heap.size v V a b c := StBlk.ext (show StBlk (w.alloc (.cells (stC v V a b c) 56)) w.heap.size v V a b c from heap_alloc_new w _) hx; obtain ⟨t32, t33, t34⟩ := hb1.tail; have hgN := lt_of_heap hb1; have HB1 := Lib.hid hb1; clear hx hb1)
    | (go_at_call 87; with_reducible refine (WA.out _).mono ?_; rintro e _ ⟨rfl, rfl⟩)
    | (go_at_call 87; with_reducible refine (WB.out _).mono ?_; rintro e _ ⟨rfl, rfl⟩)
    | (go_at_call 87; with_reducible refine (WC.out _).mono ?_; rintro e _ ⟨rfl, rfl⟩))
    go_ret
    exact ⟨rfl, HX1.out⟩
  | true =>
  rw [hc] at WC
  clear hc
  simp only [Bool.true_and]
  obtain ⟨r, hr⟩ : ∃ r, (versB V a && decide ((wtK T 16 : Int) ≤ b) && decide ((ctK T 16 : Int) ≤ c)) = r := ⟨_, rfl⟩
  rw [hr]
  have HR := Lib.hid hr
  clear hr
  go_enter Tryz.func60, Tryz.ntmps60
  go_wp2_with (first
    | (refine wpList_load_sub rfl 23 _ rfl w.heap.size 16 rfl 56 (stC v V a b c) (vrC V) (0, 0) _ HB1.out Tryz.underlying23 rfl (by kernel_rfl) (vrC_sub v V a b c) ?_)
    | (refine wpList_load_sub rfl 29 _ rfl w.heap.size 0 rfl 56 (stC v V a b c) (trC v V) (0, 0) _ (heap_alloc_new w _) Tryz.underlying29 rfl (by kernel_rfl) (stC_tr v V a b c) ?_)
    | (go_at_call 52; refine (TM.out _ (by repeat (first | exact Ext.refl _ | apply Ext.alloc | apply Ext.more | apply Ext.drewN))).mono ?_; rintro e w1 ⟨rfl, hx⟩; have HX1 := Lib.hid (((Ext.refl w).alloc _).trans hx); have hb1 : StBlk w1 w.heap.size v V a b c := StBlk.ext (show StBlk (w.alloc (.cells (stC v V a b c) 56)) w.heap.size v V a b c from heap_alloc_new w _) hx; obtain ⟨t32, t33, t34⟩ := hb1.tail; have hgN := lt_of_heap hb1; have HB1 := Lib.hid hb1; clear hx hb1)
    | (go_at_call 87; with_reducible refine (WA.out _).mono ?_; rintro e _ ⟨rfl, rfl⟩)
    | (go_at_call 87; with_reducible refine (WB.out _).mono ?_; rintro e _ ⟨rfl, rfl⟩)
    | (go_at_call 87; with_reducible refine (WC.out _).mono ?_; rintro e _ ⟨rfl, rfl⟩))
  obtain ⟨N, hN⟩ : ∃ N, w.heap.size = N := ⟨_, rfl⟩
  have HN := Lib.hid hN
  rw [hN] at HB1 t32 t33 t34 hgN
  rw [hN]
  clear hN
  go_loopw [30] (fun ii wr => ∃ k : Nat, ii = .int .i64 (k : Int) ∧ k ≤ 16 ∧ Hid ((∀ j, j < k → V j ≤ a) ∧ Ext w1 wr)) (fun ii _ => 16 - (intOf ii).toNat)
  case atStart => exact ⟨0, rfl, Nat.zero_le _, Lib.hid ⟨fun j hj => absurd hj (Nat.not_lt_zero j), Ext.refl _⟩⟩
  case round =>
    obtain ⟨k, rfl, hk16, hH⟩ := hrel
    have HEX := Lib.hid hH.out.2
    have hbr := HB1.out.ext HEX.out
    obtain ⟨u32, u33, u34⟩ := hbr.tail
    have hgr := lt_of_heap hbr
    have HBR := Lib.hid hbr
    clear hbr
    by_cases hk : k < 16
    · have hix := fun W => idx_ver V k hk W
      have hkI : (k : Int) < 16 := by omega
      have hk0 : (0 : Int) ≤ (k : Int) := by omega
      by_cases hgt : a < V k
      · have hre : r = false := by rw [← HR.out, versB_no hk hgt]; rfl
        subst hre
        go_wp2_with fail
        go_ret
        exact ⟨rfl, HX1.out.trans HEX.out⟩
      · have HLE := Lib.hid (show V k ≤ a by omega)
        go_wp2_with fail
        go_roundw
        case rel =>
          refine ⟨k + 1, by go_num, by omega, Lib.hid ⟨fun j hj => ?_, HEX.out⟩⟩
          by_cases hjk : j = k
          · rw [hjk]; exact HLE.out
          · exact hH.out.1 j (by omega)
        case measure => simp [intOf]; omega
    · have hkn : k = 16 := by omega
      subst hkn
      have hv : versB V a = true := versB_yes hH.out.1
      have HR2 := Lib.hid (show (decide ((wtK T 16 : Int) ≤ b) && decide ((ctK T 16 : Int) ≤ c)) = r by rw [← HR.out, hv]; rfl)
      clear hv
      have hx1 := HX1.out.trans HEX.out
      have WTC := Lib.hid fun (W : World) (hx : Ext wr W) => tweight_any bs v T V SB W (HS.out.ext (hx1.trans hx) hSB) (Nat.le_trans hSB (hx1.trans hx).size) (HL.out.ext (hx1.trans hx)) HTB.out
      have CTC := Lib.hid fun (W : World) (hx : Ext wr W) => tcount_any bs v T V SB W (HS.out.ext (hx1.trans hx) hSB) (Nat.le_trans hSB (hx1.trans hx).size) (HL.out.ext (hx1.trans hx)) HTB.out
      have HRG := Lib.hid fun (d : Nat) (os : Array Obj) => st_range (HBR.out.ext ((Ext.refl wr).more d os))
      have HXR := Lib.hid hx1
      obtain ⟨wt, hwt⟩ : ∃ wt, wtK T 16 = wt := ⟨_, rfl⟩
      obtain ⟨ct, hct⟩ : ∃ ct, ctK T 16 = ct := ⟨_, rfl⟩
      rw [hwt] at WTC HR2
      rw [hct] at CTC HR2
      clear hx1 hwt hct
      cases hw : decide ((wt : Int) ≤ b) with
      | false =>
        have hre : r = false := by rw [← HR2.out, hw]; rfl
        subst hre
        go_wp2_with fail
        refine wp_region_grow 12 52 [false, false, false, false, false, false, false, false, false, false, false, false] (by kernel_rfl) (by kernel_rfl) rfl ?_
        simp only [List.take_succ_cons, List.take_zero, List.drop_succ_cons, List.drop_zero]
        repeat (refine Lex.step rfl ?_; intro K hK; (first
            | (refine ⟨.agg (trC v V), fun d os => stepG_load_mid (by rfl) 29 _ rfl N 0 rfl (trC v V).toList _ (HRG.out d os) Tryz.underlying29 rfl (by kernel_rfl) _ rfl, ?_⟩; go_simp; refine hK _ ?_)
            | (unfold StepG; go_simp; refine hK _ ?_)
            | (unfold StepG; go_simp; with_reducible refine ⟨_, fun d os => (ret1 (WTC.out _ ((Ext.refl _).more _ _))), ?_⟩; go_simp; refine hK _ ?_)); clear hK K)
        refine Lex.nil fun WW hE => ?_
        obtain ⟨dd, oo, rfl⟩ := hE
        unfold FillH
        go_wp2_with fail
        rw [ends_normal]
        go_wp2_with fail
        go_ret
        exact ⟨rfl, HXR.out.more _ _⟩
      | true =>
        have hre : r = decide ((ct : Int) ≤ c) := by rw [← HR2.out, hw]; rfl
        subst hre
        go_wp2_with fail
        refine wp_region_grow 12 52 [false, false, false, false, false, false, false, false, false, false, false, false] (by kernel_rfl) (by kernel_rfl) rfl ?_
        simp only [List.take_succ_cons, List.take_zero, List.drop_succ_cons, List.drop_zero]
        repeat (refine Lex.step rfl ?_; intro K hK; (first
            | (refine ⟨.agg (trC v V), fun d os => stepG_load_mid (by rfl) 29 _ rfl N 0 rfl (trC v V).toList _ (HRG.out d os) Tryz.underlying29 rfl (by kernel_rfl) _ rfl, ?_⟩; go_simp; refine hK _ ?_)
            | (unfold StepG; go_simp; refine hK _ ?_)
            | (unfold StepG; go_simp; with_reducible refine ⟨_, fun d os => (ret1 (WTC.out _ ((Ext.refl _).more _ _))), ?_⟩; go_simp; refine hK _ ?_)
            | (unfold StepG; go_simp; with_reducible refine ⟨_, fun d os => (ret1 (CTC.out _ ((Ext.refl _).more _ _))), ?_⟩; go_simp; refine hK _ ?_)); clear hK K)
        refine Lex.nil fun WW hE => ?_
        obtain ⟨dd, oo, rfl⟩ := hE
        unfold FillH
        go_wp2_with fail
        rw [ends_normal]
        go_wp2_with fail
        go_ret
        exact ⟨rfl, HXR.out.more _ _⟩
end Go.Proofs.YtpchohjkelopoaaGreatDoor

set_option maxRecDepth 20000
namespace Go.Proofs.YtpchohjkelopoaaGreatDoor
open Go.RowKit
attribute [go_sem] more_more Array.size_append
/-- a slice of so many, perhaps nil -/
def SlFact0 (L : Nat) : Fact := fun v W => ∃ p cap, v = .slice p L cap
theorem SlFact0.upc (L : Nat) : Upc (SlFact0 L) := fun v W W' hx h => h
set_option maxHeartbeats 4000000 in
theorem srmay_any (bs : Nat → Nat) (v : Nat → Value) (T : Nat → List It) (V : Nat → Int) (a b c : Int) (w : World) (hlen : ∀ k, k < 16 → (T k).length ≤ 9223372036854775807) (h : LvsAt w bs v T) :
    Calls Tryz.prog 23 #[.agg (stC v V a b c)] w fun e w' => e = .returned (.bool (storeB T V a b c)) ∧ Ext w w' := by
  rw [storeB_eq]
  have TM := Lib.hid fun (W : World) (hx : Ext w W) => rtmay_any bs v T V W hlen (h.ext hx)
  have WA := Lib.hid fun W => rin_any a 2147483647 W
  have WB := Lib.hid fun W => rin_any b 65536 W
  have WC := Lib.hid fun W => rin_any c 1024 W
  have HL := Lib.hid h
  clear h hlen
  cases htb : trunkB T V with
  | false =>
    rw [htb] at TM
    clear htb
    simp only [Bool.false_and, Bool.and_false, Bool.true_and]
    go_enter Tryz.func23, Tryz.ntmps23
    go_wp2_with (first
    | (refine wpList_load_sub rfl 29 _ rfl w.heap.size 0 rfl 56 (stC v V a b c) (trC v V) (0, 0) _ (heap_alloc_new w _) Tryz.underlying29 rfl (by kernel_rfl) (stC_tr v V a b c) ?_)
    | (go_at_call 11; refine (TM.out _ (by repeat (first | exact Ext.refl _ | apply Ext.alloc | apply Ext.more | apply Ext.drewN))).mono ?_; rintro e w1 ⟨rfl, hx⟩; have HX1 := Lib.hid (((Ext.refl w).alloc _).trans hx); have hb1 : StBlk w1 w.heap.size v V a b c := StBlk.ext (show StBlk (w.alloc (.cells (stC v V a b c) 56)) w.heap.size v V a b c from heap_alloc_new w _) hx; obtain ⟨t32, t33, t34⟩ := hb1.tail; have hgN := lt_of_heap hb1; have HB1 := Lib.hid hb1; clear hx hb1)
    | (go_at_call 61; with_reducible refine (WA.out _).mono ?_; rintro e _ ⟨rfl, rfl⟩)
    | (go_at_call 61; with_reducible refine (WB.out _).mono ?_; rintro e _ ⟨rfl, rfl⟩)
    | (go_at_call 61; with_reducible refine (WC.out _).mono ?_; rintro e _ ⟨rfl, rfl⟩))
    go_ret
    exact ⟨rfl, HX1.out⟩
  | true =>
  rw [htb] at TM
  have HTB := Lib.hid htb
  clear htb
  cases ha : inB a 2147483647 with
  | false =>
    rw [ha] at WA
    clear ha
    simp only [Bool.false_and, Bool.and_false, Bool.true_and]
    go_enter Tryz.func23, Tryz.ntmps23
    go_wp2_with (first
    | (refine wpList_load_sub rfl 29 _ rfl w.heap.size 0 rfl 56 (stC v V a b c) (trC v V) (0, 0) _ (heap_alloc_new w _) Tryz.underlying29 rfl (by kernel_rfl) (stC_tr v V a b c) ?_)
    | (go_at_call 11; refine (TM.out _ (by repeat (first | exact Ext.refl _ | apply Ext.alloc | apply Ext.more | apply Ext.drewN))).mono ?_; rintro e w1 ⟨rfl, hx⟩; have HX1 := Lib.hid (((Ext.refl w).alloc _).trans hx); have hb1 : StBlk w1 w.heap.size v V a b c := StBlk.ext (show StBlk (w.alloc (.cells (stC v V a b c) 56)) w.heap.size v V a b c from heap_alloc_new w _) hx; obtain ⟨t32, t33, t34⟩ := hb1.tail; have hgN := lt_of_heap hb1; have HB1 := Lib.hid hb1; clear hx hb1)
    | (go_at_call 61; with_reducible refine (WA.out _).mono ?_; rintro e _ ⟨rfl, rfl⟩)
    | (go_at_call 61; with_reducible refine (WB.out _).mono ?_; rintro e _ ⟨rfl, rfl⟩)
    | (go_at_call 61; with_reducible refine (WC.out _).mono ?_; rintro e _ ⟨rfl, rfl⟩))
    go_ret
    exact ⟨rfl, HX1.out⟩
  | true =>
  rw [ha] at WA
  clear ha
  cases hb : inB b 65536 with
  | false =>
    rw [hb] at WB
    clear hb
    simp only [Bool.false_and, Bool.and_false, Bool.true_and]
    go_enter Tryz.func23, Tryz.ntmps23
    go_wp2_with (first
    | (refine wpList_load_sub rfl 29 _ rfl w.heap.size 0 rfl 56 (stC v V a b c) (trC v V) (0, 0) _ (heap_alloc_new w _) Tryz.underlying29 rfl (by kernel_rfl) (stC_tr v V a b c) ?_)
    | (go_at_call 11; refine (TM.out _ (by repeat (first | exact Ext.refl _ | apply Ext.alloc | apply Ext.more | apply Ext.drewN))).mono ?_; rintro e w1 ⟨rfl, hx⟩; have HX1 := Lib.hid (((Ext.refl w).alloc _).trans hx); have hb1 : StBlk w1 w.heap.size v V a b c := StBlk.ext (show StBlk (w.alloc (.cells (stC v V a b c) 56)) w.heap.size v V a b c from heap_alloc_new w _) hx; obtain ⟨t32, t33, t34⟩ := hb1.tail; have hgN := lt_of_heap hb1; have HB1 := Lib.hid hb1; clear hx hb1)
    | (go_at_call 61; with_reducible refine (WA.out _).mono ?_; rintro e _ ⟨rfl, rfl⟩)
    | (go_at_call 61; with_reducible refine (WB.out _).mono ?_; rintro e _ ⟨rfl, rfl⟩)
    | (go_at_call 61; with_reducible refine (WC.out _).mono ?_; rintro e _ ⟨rfl, rfl⟩))
    go_ret
    exact ⟨rfl, HX1.out⟩
  | true =>
  rw [hb] at WB
  clear hb
  cases hc : inB c 1024 with
  | false =>
    rw [hc] at WC
    clear hc
    simp only [Bool.false_and, Bool.and_false, Bool.true_and]
    go_enter Tryz.func23, Tryz.ntmps23
    go_wp2_with (first
    | (refine wpList_load_sub rfl 29 _ rfl w.heap.size 0 rfl 56 (stC v V a b c) (trC v V) (0, 0) _ (heap_alloc_new w _) Tryz.underlying29 rfl (by kernel_rfl) (stC_tr v V a b c) ?_)
    | (go_at_call 11; refine (TM.out _ (by repeat (first | exact Ext.refl _ | apply Ext.alloc | apply Ext.more | apply Ext.drewN))).mono ?_; rintro e w1 ⟨rfl, hx⟩; have HX1 := Lib.hid (((Ext.refl w).alloc _).trans hx); have hb1 : StBlk w1 w.heap.size v V a b c := StBlk.ext (show StBlk (w.alloc (.cells (stC v V a b c) 56)) w.heap.size v V a b c from heap_alloc_new w _) hx; obtain ⟨t32, t33, t34⟩ := hb1.tail; have hgN := lt_of_heap hb1; have HB1 := Lib.hid hb1; clear hx hb1)
    | (go_at_call 61; with_reducible refine (WA.out _).mono ?_; rintro e _ ⟨rfl, rfl⟩)
    | (go_at_call 61; with_reducible refine (WB.out _).mono ?_; rintro e _ ⟨rfl, rfl⟩)
    | (go_at_call 61; with_reducible refine (WC.out _).mono ?_; rintro e _ ⟨rfl, rfl⟩))
    go_ret
    exact ⟨rfl, HX1.out⟩
  | true =>
  rw [hc] at WC
  clear hc
  simp only [Bool.true_and]
  obtain ⟨r, hr⟩ : ∃ r, (versB V a && decide ((wtK T 16 : Int) ≤ b) && decide ((ctK T 16 : Int) ≤ c)) = r := ⟨_, rfl⟩
  rw [hr]
  have HR := Lib.hid hr
  clear hr
  go_enter Tryz.func23, Tryz.ntmps23
  go_wp2_with (first
    | (refine wpList_load_sub rfl 29 _ rfl w.heap.size 0 rfl 56 (stC v V a b c) (trC v V) (0, 0) _ (heap_alloc_new w _) Tryz.underlying29 rfl (by kernel_rfl) (stC_tr v V a b c) ?_)
    | (go_at_call 11; refine (TM.out _ (by repeat (first | exact Ext.refl _ | apply Ext.alloc | apply Ext.more | apply Ext.drewN))).mono ?_; rintro e w1 ⟨rfl, hx⟩; have HX1 := Lib.hid (((Ext.refl w).alloc _).trans hx); have hb1 : StBlk w1 w.heap.size v V a b c := StBlk.ext (show StBlk (w.alloc (.cells (stC v V a b c) 56)) w.heap.size v V a b c from heap_alloc_new w _) hx; obtain ⟨t32, t33, t34⟩ := hb1.tail; have hgN := lt_of_heap hb1; have HB1 := Lib.hid hb1; clear hx hb1)
    | (go_at_call 61; with_reducible refine (WA.out _).mono ?_; rintro e _ ⟨rfl, rfl⟩)
    | (go_at_call 61; with_reducible refine (WB.out _).mono ?_; rintro e _ ⟨rfl, rfl⟩)
    | (go_at_call 61; with_reducible refine (WC.out _).mono ?_; rintro e _ ⟨rfl, rfl⟩))
  obtain ⟨N, hN⟩ : ∃ N, w.heap.size = N := ⟨_, rfl⟩
  have HN := Lib.hid hN
  rw [hN] at HB1 t32 t33 t34 hgN
  rw [hN]
  clear hN
  go_loopw [3] (fun ii wr => ∃ k : Nat, ii = .int .i64 (k : Int) ∧ k ≤ 16 ∧ Hid ((∀ j, j < k → V j ≤ a) ∧ Ext w1 wr)) (fun ii _ => 16 - (intOf ii).toNat)
  case atStart => exact ⟨0, rfl, Nat.zero_le _, Lib.hid ⟨fun j hj => absurd hj (Nat.not_lt_zero j), Ext.refl _⟩⟩
  case round =>
    obtain ⟨k, rfl, hk16, hH⟩ := hrel
    have HEX := Lib.hid hH.out.2
    have hbr := HB1.out.ext HEX.out
    obtain ⟨u32, u33, u34⟩ := hbr.tail
    have hgr := lt_of_heap hbr
    have HBR := Lib.hid hbr
    clear hbr
    by_cases hk : k < 16
    · have hcv := HBR.out.ver k hk
      have hkI : (k : Int) < 16 := by omega
      have hk0 : (0 : Int) ≤ (k : Int) := by omega
      by_cases hgt : a < V k
      · have hre : r = false := by rw [← HR.out, versB_no hk hgt]; rfl
        subst hre
        go_wp2_with fail
        refine wp_region_grow 7 53 [false, false, false, false, false, false, false] (by kernel_rfl) (by kernel_rfl) rfl ?_
        simp only [List.take_succ_cons, List.take_zero, List.drop_succ_cons, List.drop_zero]
        repeat (refine Lex.step rfl ?_; intro K hK; unfold StepG; go_simp; (first
            | refine hK _ ?_); clear hK K)
        refine Lex.nil fun WW hE => ?_
        obtain ⟨dd, oo, rfl⟩ := hE
        unfold FillH
        go_wp2_with fail
        rw [ends_normal]
        go_wp2_with fail
        go_ret
        exact ⟨rfl, (HX1.out.trans HEX.out).more _ _⟩
      · have HLE := Lib.hid (show V k ≤ a by omega)
        go_wp2_with fail
        refine wp_region_grow 7 53 [false, false, false, false, false, false, false] (by kernel_rfl) (by kernel_rfl) rfl ?_
        simp only [List.take_succ_cons, List.take_zero, List.drop_succ_cons, List.drop_zero]
        repeat (refine Lex.step rfl ?_; intro K hK; unfold StepG; go_simp; (first
            | refine hK _ ?_); clear hK K)
        refine Lex.nil fun WW hE => ?_
        obtain ⟨dd, oo, rfl⟩ := hE
        unfold FillH
        go_wp2_with fail
        rw [ends_normal]
        go_wp2_with fail
        go_roundw
        case rel =>
          refine ⟨k + 1, by go_num, by omega, Lib.hid ⟨fun j hj => ?_, HEX.out.more _ _⟩⟩
          by_cases hjk : j = k
          · rw [hjk]; exact HLE.out
          · exact hH.out.1 j (by omega)
        case measure => simp [intOf]; omega
    · have hkn : k = 16 := by omega
      subst hkn
      have hv : versB V a = true := versB_yes hH.out.1
      have HR2 := Lib.hid (show (decide ((wtK T 16 : Int) ≤ b) && decide ((ctK T 16 : Int) ≤ c)) = r by rw [← HR.out, hv]; rfl)
      clear hv
      have hx1 := HX1.out.trans HEX.out
      have WTC := Lib.hid fun (W : World) (hx : Ext wr W) => rweight_any bs v T V W (HL.out.ext (hx1.trans hx)) HTB.out
      have CTC := Lib.hid fun (W : World) (hx : Ext wr W) => rall_any bs v T V W (HL.out.ext (hx1.trans hx)) HTB.out
      have HRG := Lib.hid fun (d : Nat) (os : Array Obj) => st_range (HBR.out.ext ((Ext.refl wr).more d os))
      have HXR := Lib.hid hx1
      obtain ⟨wt, hwt⟩ : ∃ wt, wtK T 16 = wt := ⟨_, rfl⟩
      obtain ⟨ct, hct⟩ : ∃ ct, ctK T 16 = ct := ⟨_, rfl⟩
      rw [hwt] at WTC HR2
      rw [hct] at CTC HR2
      have CTL := Lib.hid fun (d : Nat) (os : Array Obj) => (CTC.out (more wr d os) ((Ext.refl _).more _ _)).mono fun e w' ⟨v', h1, h2, h3⟩ => (⟨v', h1, h3, own_sl h2⟩ : RetG (more wr d os) (SlFact0 ct) e w')
      clear hx1 hwt hct
      cases hw : decide ((wt : Int) ≤ b) with
      | false =>
        have hre : r = false := by rw [← HR2.out, hw]; rfl
        subst hre
        go_wp2_with fail
        refine wp_region_grow 13 53 [false, false, false, false, false, false, false, false, false, false, false, false, false] (by kernel_rfl) (by kernel_rfl) rfl ?_
        simp only [List.take_succ_cons, List.take_zero, List.drop_succ_cons, List.drop_zero]
        repeat (refine Lex.step rfl ?_; intro K hK; (first
            | (refine ⟨.agg (trC v V), fun d os => stepG_load_mid (by rfl) 29 _ rfl N 0 rfl (trC v V).toList _ (HRG.out d os) Tryz.underlying29 rfl (by kernel_rfl) _ rfl, ?_⟩; go_simp; refine hK _ ?_)
            | (unfold StepG; go_simp; refine hK _ ?_)
            | (unfold StepG; go_simp; with_reducible refine ⟨_, fun d os => (ret1 (WTC.out _ ((Ext.refl _).more _ _))), ?_⟩; go_simp; refine hK _ ?_)); clear hK K)
        refine Lex.nil fun WW hE => ?_
        obtain ⟨dd, oo, rfl⟩ := hE
        unfold FillH
        go_wp2_with fail
        rw [ends_normal]
        go_wp2_with fail
        go_ret
        exact ⟨rfl, HXR.out.more _ _⟩
      | true =>
        have hre : r = decide ((ct : Int) ≤ c) := by rw [← HR2.out, hw]; rfl
        subst hre
        go_wp2_with fail
        refine wp_region_grow 13 53 [false, false, false, false, false, false, false, false, false, false, false, false, false] (by kernel_rfl) (by kernel_rfl) rfl ?_
        simp only [List.take_succ_cons, List.take_zero, List.drop_succ_cons, List.drop_zero]
        refine Lex.step rfl ?_; intro K hK; unfold StepG; go_simp; refine hK _ ?_; clear hK K
        refine Lex.step rfl ?_; intro K hK; (refine ⟨.agg (trC v V), fun d os => stepG_load_mid (by rfl) 29 _ rfl N 0 rfl (trC v V).toList _ (HRG.out d os) Tryz.underlying29 rfl (by kernel_rfl) _ rfl, ?_⟩; go_simp; refine hK _ ?_); clear hK K
        refine Lex.step rfl ?_; intro K hK; unfold StepG; go_simp; with_reducible refine ⟨_, fun d os => (ret1 (WTC.out _ ((Ext.refl _).more _ _))), ?_⟩; go_simp; refine hK _ ?_; clear hK K
        refine Lex.step rfl ?_; intro K hK; unfold StepG; go_simp; refine hK _ ?_; clear hK K
        refine Lex.step rfl ?_; intro K hK; unfold StepG; go_simp; refine hK _ ?_; clear hK K
        refine Lex.step rfl ?_; intro K hK; unfold StepG; go_simp; refine hK _ ?_; clear hK K
        refine Lex.step rfl ?_; intro K hK; unfold StepG; go_simp; refine hK _ ?_; clear hK K
        refine Lex.step rfl ?_; intro K hK; unfold StepG; go_simp; refine hK _ ?_; clear hK K
        refine Lex.step rfl ?_; intro K hK; (refine ⟨.agg (trC v V), fun d os => stepG_load_mid (by rfl) 29 _ rfl N 0 rfl (trC v V).toList _ (HRG.out d os) Tryz.underlying29 rfl (by kernel_rfl) _ rfl, ?_⟩; go_simp; refine hK _ ?_); clear hK K
        refine Lex.gap 47 (SlFact0 ct) rfl (SlFact0.upc _) rfl (fun d os => ?_) ?_
        · unfold StepG
          go_simp
          exact CTL.out d os
        refine Lex.go1 (.int .i64 (ct : Int)) 47 _ rfl (fun u d os hu => ?_) ?_
        · obtain ⟨g1, cap1, rfl⟩ := hu
          unfold StepG
          go_simp
        refine Lex.step rfl ?_; intro K hK; unfold StepG; go_simp; refine hK _ ?_; clear hK K
        refine Lex.step rfl ?_; intro K hK; unfold StepG; go_simp; refine hK _ ?_; clear hK K
        refine Lex.nil fun WW hE => ?_
        obtain ⟨dd, oo, rfl⟩ := hE
        unfold FillH
        rintro _ ⟨g1, cap1, rfl⟩
        unfold FillH
        go_wp2_with fail
        rw [ends_normal]
        go_wp2_with fail
        go_ret
        exact ⟨rfl, HXR.out.more _ _⟩
end Go.Proofs.YtpchohjkelopoaaGreatDoor
