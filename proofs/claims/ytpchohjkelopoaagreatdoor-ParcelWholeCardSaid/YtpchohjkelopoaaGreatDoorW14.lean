/- Lemmas for the claim (texts Pa5, what its proof uses of them). -/
import Derived.Test.YtpchohjkelopoaaGreatDoorW13
set_option linter.unusedSimpArgs false
set_option linter.unusedVariables false
set_option maxRecDepth 20000
namespace Go.Proofs.YtpchohjkelopoaaGreatDoor
open Go.RowKit
attribute [go_sem] more_more Array.size_append
/-- a slice of so many, perhaps nil -/
def SlFact0 (L : Nat) : Fact := fun v W => ∃ p cap, v = .slice p L cap
theorem SlFact0.upc (L : Nat) : Upc (SlFact0 L) := fun v W W' hx h => h
set_option maxHeartbeats 4000000 in
theorem srmay_any (bs : Nat → Nat) (v : Nat → Value) (T : Nat → List It) (V : Nat → Int) (a b c : Int) (w : World) (hlen : ∀ k, k < 16 → (T k).length ≤ 9223372036854775807) (h : LvsAt w bs v T) :
    Calls Tryz.prog 23 #[.agg (stC v V a b c)] w fun e w' => e = .returned (.bool (storeB T V a b c)) ∧ Ext w w' := by
  rw [storeB_eq]
  have TM := Lib.hid fun (W : World) (hx : Ext w W) => rtmay_any bs v T V W hlen (h.ext hx)
  have WA := Lib.hid fun W => rin_any a 2147483647 W
  have WB := Lib.hid fun W => rin_any b 65536 W
  have WC := Lib.hid fun W => rin_any c 1024 W
  have HL := Lib.hid h
  clear h hlen
  cases htb : trunkB T V with
  | false =>
    rw [htb] at TM
    clear htb
    simp only [Bool.false_and, Bool.and_false, Bool.true_and]
    go_enter Tryz.func23, Tryz.ntmps23
    go_wp2_with (first
    | (refine wpList_load_sub rfl 29 _ rfl w.heap.size 0 rfl 56 (stC v V a b c) (trC v V) (0, 0) _ (heap_alloc_new w _) Tryz.underlying29 rfl (by kernel_rfl) (stC_tr v V a b c) ?_)
    | (go_at_call 11; refine (TM.out _ (by repeat (first | exact Ext.refl _ | apply Ext.alloc | apply Ext.more | apply Ext.drewN))).mono ?_; rintro e w1 ⟨rfl, hx⟩; have HX1 := Lib.hid (((Ext.refl w).alloc _).trans hx); have hb1 : StBlk w1 w.heap.size v V a b c := StBlk.ext (show StBlk (w.alloc (.cells (stC v V a b c) 56)) w.heap.size v V a b c from heap_alloc_new w _) hx; obtain ⟨t32, t33, t34⟩ := hb1.tail; have hgN := lt_of_heap hb1; have HB1 := Lib.hid hb1; clear hx hb1)
    | (go_at_call 61; with_reducible refine (WA.out _).mono ?_; rintro e _ ⟨rfl, rfl⟩)
    | (go_at_call 61; with_reducible refine (WB.out _).mono ?_; rintro e _ ⟨rfl, rfl⟩)
    | (go_at_call 61; with_reducible refine (WC.out _).mono ?_; rintro e _ ⟨rfl, rfl⟩))
    go_ret
    exact ⟨rfl, HX1.out⟩
  | true =>
  rw [htb] at TM
  have HTB := Lib.hid htb
  clear htb
  cases ha : inB a 2147483647 with
  | false =>
    rw [ha] at WA
    clear ha
    simp only [Bool.false_and, Bool.and_false, Bool.true_and]
    go_enter Tryz.func23, Tryz.ntmps23
    go_wp2_with (first
    | (refine wpList_load_sub rfl 29 _ rfl w.heap.size 0 rfl 56 (stC v V a b c) (trC v V) (0, 0) _ (heap_alloc_new w _) Tryz.underlying29 rfl (by kernel_rfl) (stC_tr v V a b c) ?_)
    | (go_at_call 11; refine (TM.out _ (by repeat (first | exact Ext.refl _ | apply Ext.alloc | apply Ext.more | apply Ext.drewN))).mono ?_; rintro e w1 ⟨rfl, hx⟩; have HX1 := Lib.hid (((Ext.refl w).alloc _).trans hx); have hb1 : StBlk w1 w.heap.size v V a b c := StBlk.ext (show StBlk (w.alloc (.cells (stC v V a b c) 56)) w.heap.size v V a b c from heap_alloc_new w _) hx; obtain ⟨t32, t33, t34⟩ := hb1.tail; have hgN := lt_of_heap hb1; have HB1 := Lib.hid hb1; clear hx hb1)
    | (go_at_call 61; with_reducible refine (WA.out _).mono ?_; rintro e _ ⟨rfl, rfl⟩)
    | (go_at_call 61; with_reducible refine (WB.out _).mono ?_; rintro e _ ⟨rfl, rfl⟩)
    | (go_at_call 61; with_reducible refine (WC.out _).mono ?_; rintro e _ ⟨rfl, rfl⟩))
    go_ret
    exact ⟨rfl, HX1.out⟩
  | true =>
  rw [ha] at WA
  clear ha
  cases hb : inB b 65536 with
  | false =>
    rw [hb] at WB
    clear hb
    simp only [Bool.false_and, Bool.and_false, Bool.true_and]
    go_enter Tryz.func23, Tryz.ntmps23
    go_wp2_with (first
    | (refine wpList_load_sub rfl 29 _ rfl w.heap.size 0 rfl 56 (stC v V a b c) (trC v V) (0, 0) _ (heap_alloc_new w _) Tryz.underlying29 rfl (by kernel_rfl) (stC_tr v V a b c) ?_)
    | (go_at_call 11; refine (TM.out _ (by repeat (first | exact Ext.refl _ | apply Ext.alloc | apply Ext.more | apply Ext.drewN))).mono ?_; rintro e w1 ⟨rfl, hx⟩; have HX1 := Lib.hid (((Ext.refl w).alloc _).trans hx); have hb1 : StBlk w1 w.heap.size v V a b c := StBlk.ext (show StBlk (w.alloc (.cells (stC v V a b c) 56)) w.heap.size v V a b c from heap_alloc_new w _) hx; obtain ⟨t32, t33, t34⟩ := hb1.tail; have hgN := lt_of_heap hb1; have HB1 := Lib.hid hb1; clear hx hb1)
    | (go_at_call 61; with_reducible refine (WA.out _).mono ?_; rintro e _ ⟨rfl, rfl⟩)
    | (go_at_call 61; with_reducible refine (WB.out _).mono ?_; rintro e _ ⟨rfl, rfl⟩)
    | (go_at_call 61; with_reducible refine (WC.out _).mono ?_; rintro e _ ⟨rfl, rfl⟩))
    go_ret
    exact ⟨rfl, HX1.out⟩
  | true =>
  rw [hb] at WB
  clear hb
  cases hc : inB c 1024 with
  | false =>
    rw [hc] at WC
    clear hc
    simp only [Bool.false_and, Bool.and_false, Bool.true_and]
    go_enter Tryz.func23, Tryz.ntmps23
    go_wp2_with (first
    | (refine wpList_load_sub rfl 29 _ rfl w.heap.size 0 rfl 56 (stC v V a b c) (trC v V) (0, 0) _ (heap_alloc_new w _) Tryz.underlying29 rfl (by kernel_rfl) (stC_tr v V a b c) ?_)
    | (go_at_call 11; refine (TM.out _ (by repeat (first | exact Ext.refl _ | apply Ext.alloc | apply Ext.more | apply Ext.drewN))).mono ?_; rintro e w1 ⟨rfl, hx⟩; have HX1 := Lib.hid (((Ext.refl w).alloc _).trans hx); have hb1 : StBlk w1 w.heap.size v V a b c := StBlk.ext (show StBlk (w.alloc (.cells (stC v V a b c) 56)) w.heap.size v V a b c from heap_alloc_new w _) hx; obtain ⟨t32, t33, t34⟩ := hb1.tail; have hgN := lt_of_heap hb1; have HB1 := Lib.hid hb1; clear hx hb1)
    | (go_at_call 61; with_reducible refine (WA.out _).mono ?_; rintro e _ ⟨rfl, rfl⟩)
    | (go_at_call 61; with_reducible refine (WB.out _).mono ?_; rintro e _ ⟨rfl, rfl⟩)
    | (go_at_call 61; with_reducible refine (WC.out _).mono ?_; rintro e _ ⟨rfl, rfl⟩))
    go_ret
    exact ⟨rfl, HX1.out⟩
  | true =>
  rw [hc] at WC
  clear hc
  simp only [Bool.true_and]
  obtain ⟨r, hr⟩ : ∃ r, (versB V a && decide ((wtK T 16 : Int) ≤ b) && decide ((ctK T 16 : Int) ≤ c)) = r := ⟨_, rfl⟩
  rw [hr]
  have HR := Lib.hid hr
  clear hr
  go_enter Tryz.func23, Tryz.ntmps23
  go_wp2_with (first
    | (refine wpList_load_sub rfl 29 _ rfl w.heap.size 0 rfl 56 (stC v V a b c) (trC v V) (0, 0) _ (heap_alloc_new w _) Tryz.underlying29 rfl (by kernel_rfl) (stC_tr v V a b c) ?_)
    | (go_at_call 11; refine (TM.out _ (by repeat (first | exact Ext.refl _ | apply Ext.alloc | apply Ext.more | apply Ext.drewN))).mono ?_; rintro e w1 ⟨rfl, hx⟩; have HX1 := Lib.hid (((Ext.refl w).alloc _).trans hx); have hb1 : StBlk w1 w.heap.size v V a b c := StBlk.ext (show StBlk (w.alloc (.cells (stC v V a b c) 56)) w.heap.size v V a b c from heap_alloc_new w _) hx; obtain ⟨t32, t33, t34⟩ := hb1.tail; have hgN := lt_of_heap hb1; have HB1 := Lib.hid hb1; clear hx hb1)
    | (go_at_call 61; with_reducible refine (WA.out _).mono ?_; rintro e _ ⟨rfl, rfl⟩)
    | (go_at_call 61; with_reducible refine (WB.out _).mono ?_; rintro e _ ⟨rfl, rfl⟩)
    | (go_at_call 61; with_reducible refine (WC.out _).mono ?_; rintro e _ ⟨rfl, rfl⟩))
  obtain ⟨N, hN⟩ : ∃ N, w.heap.size = N := ⟨_, rfl⟩
  have HN := Lib.hid hN
  rw [hN] at HB1 t32 t33 t34 hgN
  rw [hN]
  clear hN
  go_loopw [3] (fun ii wr => ∃ k : Nat, ii = .int .i64 (k : Int) ∧ k ≤ 16 ∧ Hid ((∀ j, j < k → V j ≤ a) ∧ Ext w1 wr)) (fun ii _ => 16 - (intOf ii).toNat)
  case atStart => exact ⟨0, rfl, Nat.zero_le _, Lib.hid ⟨fun j hj => absurd hj (Nat.not_lt_zero j), Ext.refl _⟩⟩
  case round =>
    obtain ⟨k, rfl, hk16, hH⟩ := hrel
    have HEX := Lib.hid hH.out.2
    have hbr := HB1.out.ext HEX.out
    obtain ⟨u32, u33, u34⟩ := hbr.tail
    have hgr := lt_of_heap hbr
    have HBR := Lib.hid hbr
    clear hbr
    by_cases hk : k < 16
    · have hcv := HBR.out.ver k hk
      have hkI : (k : Int) < 16 := by omega
      have hk0 : (0 : Int) ≤ (k : Int) := by omega
      by_cases hgt : a < V k
      · have hre : r = false := by rw [← HR.out, versB_no hk hgt]; rfl
        subst hre
        go_wp2_with fail
        refine wp_region_grow 7 53 [false, false, false, false, false, false, false] (by kernel_rfl) (by kernel_rfl) rfl ?_
        simp only [List.take_succ_cons, List.take_zero, List.drop_succ_cons, List.drop_zero]
        repeat (refine Lex.step rfl ?_; intro K hK; unfold StepG; go_simp; (first
            | refine hK _ ?_); clear hK K)
        refine Lex.nil fun WW hE => ?_
        obtain ⟨dd, oo, rfl⟩ := hE
        unfold FillH
        go_wp2_with fail
        rw [ends_normal]
        go_wp2_with fail
        go_ret
        exact ⟨rfl, (HX1.out.trans HEX.out).more _ _⟩
      · have HLE := Lib.hid (show V k ≤ a by omega)
        go_wp2_with fail
        refine wp_region_grow 7 53 [false, false, false, false, false, false, false] (by kernel_rfl) (by kernel_rfl) rfl ?_
        simp only [List.take_succ_cons, List.take_zero, List.drop_succ_cons, List.drop_zero]
        repeat (refine Lex.step rfl ?_; intro K hK; unfold StepG; go_simp; (first
            | refine hK _ ?_); clear hK K)
        refine Lex.nil fun WW hE => ?_
        obtain ⟨dd, oo, rfl⟩ := hE
        unfold FillH
        go_wp2_with fail
        rw [ends_normal]
        go_wp2_with fail
        go_roundw
        case rel =>
          refine ⟨k + 1, by go_num, by omega, Lib.hid ⟨fun j hj => ?_, HEX.out.more _ _⟩⟩
          by_cases hjk : j = k
          · rw [hjk]; exact HLE.out
          · exact hH.out.1 j (by omega)
        case measure => simp [intOf]; omega
    · have hkn : k = 16 := by omega
      subst hkn
      have hv : versB V a = true := versB_yes hH.out.1
      have HR2 := Lib.hid (show (decide ((wtK T 16 : Int) ≤ b) && decide ((ctK T 16 : Int) ≤ c)) = r by rw [← HR.out, hv]; rfl)
      clear hv
      have hx1 := HX1.out.trans HEX.out
      have WTC := Lib.hid fun (W : World) (hx : Ext wr W) => rweight_any bs v T V W (HL.out.ext (hx1.trans hx)) HTB.out
      have CTC := Lib.hid fun (W : World) (hx : Ext wr W) => rall_any bs v T V W (HL.out.ext (hx1.trans hx)) HTB.out
      have HRG := Lib.hid fun (d : Nat) (os : Array Obj) => st_range (HBR.out.ext ((Ext.refl wr).more d os))
      have HXR := Lib.hid hx1
      obtain ⟨wt, hwt⟩ : ∃ wt, wtK T 16 = wt := ⟨_, rfl⟩
      obtain ⟨ct, hct⟩ : ∃ ct, ctK T 16 = ct := ⟨_, rfl⟩
      rw [hwt] at WTC HR2
      rw [hct] at CTC HR2
      have CTL := Lib.hid fun (d : Nat) (os : Array Obj) => (CTC.out (more wr d os) ((Ext.refl _).more _ _)).mono fun e w' ⟨v', h1, h2, h3⟩ => (⟨v', h1, h3, own_sl h2⟩ : RetG (more wr d os) (SlFact0 ct) e w')
      clear hx1 hwt hct
      cases hw : decide ((wt : Int) ≤ b) with
      | false =>
        have hre : r = false := by rw [← HR2.out, hw]; rfl
        subst hre
        go_wp2_with fail
        refine wp_region_grow 13 53 [false, false, false, false, false, false, false, false, false, false, false, false, false] (by kernel_rfl) (by kernel_rfl) rfl ?_
        simp only [List.take_succ_cons, List.take_zero, List.drop_succ_cons, List.drop_zero]
        repeat (refine Lex.step rfl ?_; intro K hK; (first
            | (refine ⟨.agg (trC v V), fun d os => stepG_load_mid (by rfl) 29 _ rfl N 0 rfl (trC v V).toList _ (HRG.out d os) Tryz.underlying29 rfl (by kernel_rfl) _ rfl, ?_⟩; go_simp; refine hK _ ?_)
            | (unfold StepG; go_simp; refine hK _ ?_)
            | (unfold StepG; go_simp; with_reducible refine ⟨_, fun d os => (ret1 (WTC.out _ ((Ext.refl _).more _ _))), ?_⟩; go_simp; refine hK _ ?_)); clear hK K)
        refine Lex.nil fun WW hE => ?_
        obtain ⟨dd, oo, rfl⟩ := hE
        unfold FillH
        go_wp2_with fail
        rw [ends_normal]
        go_wp2_with fail
        go_ret
        exact ⟨rfl, HXR.out.more _ _⟩
      | true =>
        have hre : r = decide ((ct : Int) ≤ c) := by rw [← HR2.out, hw]; rfl
        subst hre
        go_wp2_with fail
        refine wp_region_grow 13 53 [false, false, false, false, false, false, false, false, false, false, false, false, false] (by kernel_rfl) (by kernel_rfl) rfl ?_
        simp only [List.take_succ_cons, List.take_zero, List.drop_succ_cons, List.drop_zero]
        refine Lex.step rfl ?_; intro K hK; unfold StepG; go_simp; refine hK _ ?_; clear hK K
        refine Lex.step rfl ?_; intro K hK; (refine ⟨.agg (trC v V), fun d os => stepG_load_mid (by rfl) 29 _ rfl N 0 rfl (trC v V).toList _ (HRG.out d os) Tryz.underlying29 rfl (by kernel_rfl) _ rfl, ?_⟩; go_simp; refine hK _ ?_); clear hK K
        refine Lex.step rfl ?_; intro K hK; unfold StepG; go_simp; with_reducible refine ⟨_, fun d os => (ret1 (WTC.out _ ((Ext.refl _).more _ _))), ?_⟩; go_simp; refine hK _ ?_; clear hK K
        refine Lex.step rfl ?_; intro K hK; unfold StepG; go_simp; refine hK _ ?_; clear hK K
        refine Lex.step rfl ?_; intro K hK; unfold StepG; go_simp; refine hK _ ?_; clear hK K
        refine Lex.step rfl ?_; intro K hK; unfold StepG; go_simp; refine hK _ ?_; clear hK K
        refine Lex.step rfl ?_; intro K hK; unfold StepG; go_simp; refine hK _ ?_; clear hK K
        refine Lex.step rfl ?_; intro K hK; unfold StepG; go_simp; refine hK _ ?_; clear hK K
        refine Lex.step rfl ?_; intro K hK; (refine ⟨.agg (trC v V), fun d os => stepG_load_mid (by rfl) 29 _ rfl N 0 rfl (trC v V).toList _ (HRG.out d os) Tryz.underlying29 rfl (by kernel_rfl) _ rfl, ?_⟩; go_simp; refine hK _ ?_); clear hK K
        refine Lex.gap 47 (SlFact0 ct) rfl (SlFact0.upc _) rfl (fun d os => ?_) ?_
        · unfold StepG
          go_simp
          exact CTL.out d os
        refine Lex.go1 (.int .i64 (ct : Int)) 47 _ rfl (fun u d os hu => ?_) ?_
        · obtain ⟨g1, cap1, rfl⟩ := hu
          unfold StepG
          go_simp
        refine Lex.step rfl ?_; intro K hK; unfold StepG; go_simp; refine hK _ ?_; clear hK K
        refine Lex.step rfl ?_; intro K hK; unfold StepG; go_simp; refine hK _ ?_; clear hK K
        refine Lex.nil fun WW hE => ?_
        obtain ⟨dd, oo, rfl⟩ := hE
        unfold FillH
        rintro _ ⟨g1, cap1, rfl⟩
        unfold FillH
        go_wp2_with fail
        rw [ends_normal]
        go_wp2_with fail
        go_ret
        exact ⟨rfl, HXR.out.more _ _⟩
end Go.Proofs.YtpchohjkelopoaaGreatDoor
