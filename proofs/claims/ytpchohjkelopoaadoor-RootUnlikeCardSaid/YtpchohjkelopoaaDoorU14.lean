/- The chapter's examples: law12.awake; law12.same. -/
import Derived.Test.YtpchohjkelopoaaDoorU07
import Derived.Test.YtpchohjkelopoaaDoorU13
set_option linter.unusedSimpArgs false
set_option linter.unusedVariables false
set_option maxRecDepth 20000
namespace Go.Proofs.YtpchohjkelopoaaDoor
open Go.RowKit
attribute [go_sem] more_more Array.size_append
theorem wpList_load_rowG {P : Program} {ops : Array Oper} {rest : List Oper} {o : Oper} {a : Act} {w : World} {Q : Exit → Act → World → Prop} (hw : Region.wanted o (yielded ops a.tmps) = true) (ty : TypeId) (x : Operand) (ho : o.op = .load ty x)
    (g : Nat) (hx : a.eval x = .pointer (some ⟨g, 0, none⟩)) (t : TypeId) (cs : Array Value) (fr : Nat × Nat) (d : TypeDesc) (hg : w.heap[g]? = some (.cells cs t fr))
    (hu : P.underlying ty = some d) (hd : (match d with | .struct _ | .array _ _ => true | _ => false) = true) (hi : (P.info? ty).map (·.size) = some cs.size)
    (h : wpList P ops Q rest (a.put o.dst (.agg cs)) w) : wpList P ops Q (o :: rest) a w := by
  unfold wpList
  rw [if_pos hw]
  exact Or.inl (wp_load_row ty x ho g hx t cs fr d hg hu hd hi h)
/-! ### the examples -/
def aw2 : List ByteArray := [⟨#[48, 44]⟩, ⟨#[49,44,49,44,49,44,49,44,49,44,49,44,49,44,49,44,49,44,49,44,49,44,49,44,49,44,49,44,49,44,49,44]⟩]
theorem aw_root : rootT [] (tOf []) zeroV = (aw2, 2, List.replicate 16 1, 0) := by
  rw [tOf_nil]; unfold aw2; decide +kernel
theorem aw_leaves2 : leavesF aw2 2 = (some (List.replicate 16 1), 0) := by unfold aw2; decide +kernel
theorem aw_leaves1 : leavesF aw2 1 = (none, 3) := by unfold aw2; decide +kernel
theorem aw_chunks1 : rchunksF aw2 1 = (some (0, []), 0) := by unfold aw2; decide +kernel
theorem bkF_rep {l : List ByteArray} {n : Int} {p : Int × List It} (h : bkStep l n = (some p, 0)) : ∀ k, bkF l (List.replicate k n) = (some (List.replicate k p), 0)
  | 0 => rfl
  | k + 1 => by
    rw [List.replicate_succ, List.replicate_succ]
    unfold bkF
    rw [h, bkF_rep h k]
theorem leafOf_nil : leafOfF [] = ([], 0, 0) := by
  rw [leafOfF_ok (L := []) (n := 0) rfl (fun j d h => by omega)]
  rw [if_neg (by decide)]
  rfl
theorem aw_step : bkStep aw2 1 = (some (0, []), 0) := by
  have h : (leafOfF (([] : List ByteArray).map txt)).2.1 = 0 := by rw [List.map_nil, leafOf_nil]
  rw [bkStep_yes aw_chunks1 h]
  rw [List.map_nil, leafOf_nil]
theorem aw_back : backF aw2 2 = (tOf (List.replicate 16 (0, [])), vOf (List.replicate 16 (0, [])), 0) := by
  rw [backF_yes aw_leaves2, bkF_rep aw_step]
  unfold backQ
  simp only
  rw [if_pos (by decide +kernel)]
theorem aw_t : tOf (List.replicate 16 (0, [])) = tOf [] := by
  rw [tOf_nil]
  funext j
  unfold tOf
  rw [List.getElem?_replicate]
  split <;> rename_i h
  · split at h
    · simp at h; rw [← h]
    · cases h
  · rfl
theorem aw_v (v : Nat → Value) : trC v (vOf (List.replicate 16 (0, []))) = trC v zeroV := rfl
theorem nil_trunk : trunkB (tOf []) zeroV = true := by decide +kernel
set_option maxHeartbeats 2000000 in
theorem awake12_any (B0 : Nat) (w : World) (h0 : B0 ≤ w.heap.size) (hS : SignsAt B0 w) (hE : ErrsAt B0 w) (hP : Pow10 B0 w) :
    Calls Tryd.prog 6 #[] w fun e w' => e = .returned (.bool true) ∧ Below w.heap.size w w' := by
  have NC := Lib.hid (new_any w)
  have HS := Lib.hid hS
  have HE := Lib.hid hE
  have HP := Lib.hid hP
  clear hS hE hP
  go_enter Tryd.func6, Tryd.ntmps6
  go_wp2_with (first
    | (go_at_call 5; refine NC.out.mono ?_; rintro e w1 ⟨rfl, hT, hx⟩; have HX := Lib.hid hx; have RC := Lib.hid (rof_root _ _ _ _ [] (fun _ => 0) nilV (tOf []) zeroV B0 B0 w1 hT (HS.out.ext hx h0) h0 (HP.out.below hx.below h0) h0 (lvs_nil _ _) (lvty_nil _ _) nil_trunk (by decide) _ aw_root); have HT := Lib.hid hT; clear hT hx)
    | (refine wpList_buildTo rfl 40 #[] rfl _ rfl (trC nilV zeroV) (by kernel_rfl) ?_)
    | (go_at_call 7; refine RC.out.mono ?_; rintro e w2 ⟨lv, tv2, rfl, hown, hT2, hst⟩; have hb2 := HX.out.below.trans (hst.below HT.out); obtain ⟨g, cap, rfl, hgl, hc16, hcm, HA⟩ := ints_row (n := 16) rfl (by omega) hown; have h02 := Nat.le_trans h0 hb2.size; have BC := Lib.hid (back_any _ _ _ _ aw2 2 w2 hT2 (by decide) B0 B0 B0 (HS.out.below hb2 h0) h02 (HE.out.below hb2 h0) h02 (HP.out.below hb2 h0) h02); rw [aw_back] at BC; have LC := Lib.hid fun (W : World) (hx : Ext w2 W) => leaves_any _ _ _ _ aw2 1 W (hT2.ext hx) (by decide) B0 B0 (HE.out.below (hb2.trans (hx.below.mono hb2.size)) h0) (Nat.le_trans h02 hx.size) (HP.out.below (hb2.trans (hx.below.mono hb2.size)) h0) (Nat.le_trans h02 hx.size) _ aw_leaves1; have HB2 := Lib.hid hb2; clear hown hT2 hst hb2)
    | (go_at_call 8; refine BC.out.mono ?_; rintro e w3 ⟨bs, v, rfl, hl, hy, hx⟩; dsimp only; rw [aw_v v]; rw [aw_t] at hl; have HL3 := Lib.hid hl; have HX3 := Lib.hid hx; clear hl hy hx)
    | (refine wpList_store_rowTo rfl 40 _ _ rfl rfl w3.heap.size (trC v zeroV) rfl rfl 40 (trC nilV zeroV) (heap_alloc_new w3 _) (by kernel_rfl) rfl (trC_one _ _ HL3.out.one) ?_)
    | (go_at_call 9; have hx34 : Ext w2 ((w3.alloc (.cells (trC nilV zeroV) 40)).setRow w3.heap.size (trC v zeroV)) := (HX3.out.alloc _).setRow HX3.out.size _; have h4 : TrBlk ((w3.alloc (.cells (trC nilV zeroV) 40)).setRow w3.heap.size (trC v zeroV)) w3.heap.size v zeroV := TrBlk.setRow (v := nilV) (V := zeroV) (heap_alloc_new w3 _) v zeroV; have hx33 : Ext w3 ((w3.alloc (.cells (trC nilV zeroV) 40)).setRow w3.heap.size (trC v zeroV)) := ((Ext.refl w3).alloc _).setRow (Nat.le_refl _) _; refine (LC.out _ hx34).mono ?_; rintro e w5 ⟨rfl, hx5⟩; have HX5 := Lib.hid (hx34.trans hx5); have HB5 := Lib.hid (h4.ext hx5); have c0 := cell_ext (HA.out 0 1 rfl) HX5.out; have c15 := cell_ext (HA.out 15 1 rfl) HX5.out; have hg5 := World.block_lt_of_cell? _ _ c0; have SC := Lib.hid (tsame_any bs (fun _ => 0) v nilV (tOf []) zeroV w5 (HL3.out.ext (hx33.trans hx5)) (lvs_nil _ _) (fun k _ => by rw [tOf_nil]; simp)); clear hx34 h4 hx33 hx5)
    | (refine wpList_load_rowG rfl 40 _ rfl w3.heap.size rfl 40 (trC v zeroV) (0, 0) _ HB5.out Tryd.underlying40 rfl (by kernel_rfl) ?_)
    | (go_at_call 10; refine SC.out.mono ?_; rintro e w6 ⟨rfl, hx6⟩; have HX6 := Lib.hid hx6; clear hx6))
  go_ret
  exact ⟨rfl, HB2.out.trans ((HX5.out.trans HX6.out).below.mono HB2.out.size)⟩
end Go.Proofs.YtpchohjkelopoaaDoor
