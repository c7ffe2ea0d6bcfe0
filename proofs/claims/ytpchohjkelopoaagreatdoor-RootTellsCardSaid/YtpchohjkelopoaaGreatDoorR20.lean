/- Lemmas for the claim (texts RT1, what its proof uses of them). -/
import Derived.Test.YtpchohjkelopoaaGreatDoorR18
import Derived.Deep.RegionHeld3
import Derived.Deep.MidRow
import Derived.Deep.DeepCutAuto
set_option linter.unusedSimpArgs false
set_option linter.unusedVariables false
set_option maxRecDepth 20000
namespace Go.Proofs.YtpchohjkelopoaaGreatDoor
open Go.RowKit
attribute [go_sem] more_more Array.size_append
/-- what is told: texts, a trunk, a bucket, a version -/
def tlC (tv : Value) (v : Nat → Value) (V : Nat → Int) (bk ver : Int) : Array Value := #[tv, v 0, v 1, v 2, v 3, v 4, v 5, v 6, v 7, v 8, v 9, v 10, v 11, v 12, v 13, v 14, v 15, .int .i64 (V 0), .int .i64 (V 1), .int .i64 (V 2), .int .i64 (V 3), .int .i64 (V 4), .int .i64 (V 5), .int .i64 (V 6), .int .i64 (V 7), .int .i64 (V 8), .int .i64 (V 9), .int .i64 (V 10), .int .i64 (V 11), .int .i64 (V 12), .int .i64 (V 13), .int .i64 (V 14), .int .i64 (V 15), .int .i64 bk, .int .i64 ver]
def TlBlk (N : Nat) (tv : Value) (v : Nat → Value) (V : Nat → Int) (bk ver : Int) (W : World) : Prop := W.heap[N]? = some (.cells (tlC tv v V bk ver) 82 (0, 0))
theorem tl_cell {N : Nat} {tv : Value} {v : Nat → Value} {V : Nat → Int} {bk ver : Int} {W : World} (h : TlBlk N tv v V bk ver W) (j : Nat) : W.cell? ⟨N, j, none⟩ = (tlC tv v V bk ver)[j]? := cell_of_row W N j _ _ _ h
theorem tl_range {N : Nat} {tv : Value} {v : Nat → Value} {V : Nat → Int} {bk ver : Int} {W : World} (h : TlBlk N tv v V bk ver W) : W.rangeAt N 1 (trC v V).toList := by
  have := World.rangeAt_of_block (w := W) h 1 32
  rw [show ((tlC tv v V bk ver).extract 1 (1 + 32)).toList = (trC v V).toList by kernel_rfl] at this
  exact this
theorem tl_ext {N : Nat} {tv : Value} {v : Nat → Value} {V : Nat → Int} {bk ver : Int} {W W' : World} (h : TlBlk N tv v V bk ver W) (hx : Ext W W') : TlBlk N tv v V bk ver W' := by
  unfold TlBlk at h ⊢
  rw [hx.below.block N (lt_of_heap h)]; exact h
theorem tl_row {N g : Nat} {tv : Value} {v v2 : Nat → Value} {V V2 : Nat → Int} {bk ver : Int} {W : World} (h : TlBlk N tv v V bk ver W) (h2 : TrBlk W g v2 V2) (x : Array Value) : TlBlk N tv v V bk ver (W.setRow g x) := by
  unfold TlBlk at h ⊢
  unfold TrBlk at h2
  rw [setRow_other _ _ _ _ (fun e => by rw [e, h2] at h; simp at h)]; exact h
theorem StrsAt.ext {w w' : World} {v : Value} {l : List ByteArray} (h : StrsAt w v l) (hx : Ext w w') : StrsAt w' v l := by
  rcases h with h | ⟨b, off, cap, h1, h2, h3⟩
  · exact Or.inl h
  · exact Or.inr ⟨b, off, cap, h1, h2, fun j u hj => cell_ext (h3 j u hj) hx⟩
/-- blocks that hold neither a table nor texts are as they were -/
def Kept (w w' : World) : Prop := ∀ (k : Nat) (cur : Array Value) (T : TypeId) (fz : Nat × Nat), w.heap[k]? = some (.cells cur T fz) → T ≠ 132 → T ≠ 9 → w'.heap[k]? = w.heap[k]?
theorem Kept.tab {B bt bm : Nat} {tv : Value} {l : List ByteArray} {w w' : World} (h : TabAt B bt bm tv l w) (hk : TabKept bt bm tv.ownBlock w w') : Kept w w' := fun _ _ _ _ hb h1 h2 => kept_ty h hk hb h1 h2
theorem Kept.str {w w' : World} {B n size : Nat} {v : Value} {xs : List Value} (h : w.ownsRow B 9 size v n xs) (hg : w.grownBy w' v.ownBlock) : Kept w w' := fun _ _ _ _ hb _ h2 => blk_str h hg hb h2
theorem TrBlk.kept {w w' : World} {N : Nat} {v : Nat → Value} {V : Nat → Int} (h : TrBlk w N v V) (hk : Kept w w') : TrBlk w' N v V := by
  unfold TrBlk at h ⊢
  rw [hk N _ _ _ h (by decide) (by decide)]; exact h
theorem LvTy.kept {w w' : World} {bs : Nat → Nat} {T : Nat → List It} (h : LvTy w bs T) (hk : Kept w w') : LvTy w' bs T := fun k hk16 hl => by
  obtain ⟨cur, fz, hc⟩ := h k hk16 hl
  exact ⟨cur, fz, by rw [hk _ _ _ _ hc (by decide) (by decide)]; exact hc⟩
theorem LvsAt.kept {w w' : World} {bs : Nat → Nat} {v : Nat → Value} {T : Nat → List It} (h : LvsAt w bs v T) (hy : LvTy w bs T) (hk : Kept w w') : LvsAt w' bs v T := fun k hk16 => (h k hk16).of_block fun hl => by
  obtain ⟨cur, fz, hc⟩ := hy k hk16 hl
  exact hk _ _ _ _ hc (by decide) (by decide)
theorem own_kept {w w' : World} {base size n : Nat} {v : Value} {e : TypeId} {xs : List Value} (h : w.ownsRow base e size v n xs) (hk : Kept w w') (h1 : e ≠ 132) (h2 : e ≠ 9) : w'.ownsRow base e size v n xs :=
  own_block h fun k hb => by
    obtain ⟨cur, hc⟩ := own_type h hb
    exact hk _ _ _ _ hc h1 h2
/-- behind what the program does to a table -/
theorem mid_step {B bt bm : Nat} {tv tv' lv : Value} {l l' : List ByteArray} {w w' : World} (h : Both B bt bm tv lv l w) (ht : TabAt B bt bm tv' l' w') (hs : TabStep bt bm tv w tv' w') : (∃ tv2, Mid B bt bm tv2 lv l l' w') ∧ Below B w w' ∧ Kept w w' := by
  obtain ⟨_, a, b⟩ := mid_of (r := (l', 0, 0)) (e := .returned (.tuple #[.int .i64 ((0 : Nat) : Int), .int .i64 0])) h ⟨rfl, tv', ht, hs.1, hs.2⟩
  exact ⟨a, b, Kept.tab h.1 hs.1⟩
/-- behind what the document does to its list -/
theorem both_step {B bt bm : Nat} {tv lv lv' : Value} {l l' : List ByteArray} {w w' : World} (h : Mid B bt bm tv lv l l' w) (ho : w'.ownsRow B 9 1 lv' l'.length (l'.map Value.string)) (hg : w.grownBy w' lv.ownBlock) (hk : lv'.ownBlock = lv.ownBlock ∨ ∃ k, lv'.ownBlock = some k ∧ w.heap.size ≤ k) : Both B bt bm tv lv' l' w' ∧ Below B w w' ∧ Kept w w' := by
  obtain ⟨⟨lv2, he, hb⟩, b⟩ := both_of (n := 0) (er := 0) (e := .returned (.tuple #[lv', .int .i64 ((0 : Nat) : Int), .int .i64 0])) h ⟨lv', rfl, ho, hg, hk⟩
  simp only [Ending.returned.injEq, Value.tuple.injEq, Array.mk.injEq, List.cons.injEq, and_true] at he
  obtain rfl := he
  exact ⟨hb, b, Kept.str h.2.1 hg⟩
/-- the state of the walk: a table and the document's list, a trunk, its leaves -/
def RtState (BW bt bm : Nat) (tv lv : Value) (l : List ByteArray) (g : Nat) (bs : Nat → Nat) (v : Nat → Value) (T : Nat → List It) (V : Nat → Int) (w W : World) : Prop :=
  Both BW bt bm tv lv l W ∧ TrBlk W g v V ∧ LvsAt W bs v T ∧ LvTy W bs T ∧ Below w.heap.size w W ∧ BW ≤ W.heap.size
theorem RtState.ext {BW bt bm : Nat} {tv lv : Value} {l : List ByteArray} {g : Nat} {bs : Nat → Nat} {v : Nat → Value} {T : Nat → List It} {V : Nat → Int} {w W W' : World} (h : RtState BW bt bm tv lv l g bs v T V w W) (hx : Ext W W') : RtState BW bt bm tv lv l g bs v T V w W' :=
  ⟨h.1.ext hx, h.2.1.ext hx, h.2.2.1.ext hx, h.2.2.2.1.ext hx, h.2.2.2.2.1.trans (hx.below.mono h.2.2.2.2.1.size), Nat.le_trans h.2.2.2.2.2 hx.size⟩
set_option maxHeartbeats 8000000 in
theorem rt_walk (B0 : Nat) (tv : Value) (ts : List ByteArray) (bs : Nat → Nat) (v : Nat → Value) (T : Nat → List It) (V : Nat → Int) (bk ver : Int) (w : World) (hv : StrsAt w tv ts) (hs : ∀ s ∈ ts, s.size ≤ 140737488351232) (he : Env B0 w) (h : ∀ k, k < 16 → LfIn w (bs k) (v k) (T k)) :
    Calls Tryz.prog 6 #[.agg (tlC tv v V bk ver)] w fun e w' => e = .returned (.bool true) ∧ Ext w w' := by
  have HF := Lib.hid fun (W : World) (hx : Ext w W) => few_any bs v T V W (fun k hk => (h k hk).ext hx)
  have TC := Lib.hid fun (W : World) (hx : Ext w W) => table12_any tv ts W (hv.ext hx) hs
  have HE := Lib.hid he
  obtain ⟨l, hl⟩ : ∃ l, tabF 60 ts = l := ⟨_, rfl⟩
  have hsz : ∀ s ∈ l, s.size ≤ 600 := by rw [← hl]; exact tabF_sz 60 ts
  have hln : l.length ≤ 60 := by rw [← hl]; exact tabF_len 60 ts
  have HSZ := Lib.hid hsz
  unfold TablePost at TC
  rw [hl] at TC
  obtain ⟨T2, hT2⟩ : ∃ T2 : Nat → List It, (fun k => fewF (T k)) = T2 := ⟨_, rfl⟩
  have HTL := Lib.hid (show ∀ k, (T2 k).length ≤ 66 from fun k => by rw [← hT2]; exact fewF_len _)
  rw [hT2] at HF
  clear h hv hs he hl hsz hT2
  go_enter Tryz.func6, Tryz.ntmps6
  go_upto_region 1 with fail
  obtain ⟨N, hN⟩ : ∃ N, w.heap.size = N := ⟨_, rfl⟩
  have hS : TlBlk N tv v V bk ver (w.alloc (.cells (tlC tv v V bk ver) 82)) := by unfold TlBlk; rw [← hN]; exact heap_alloc_new w _
  rw [hN]
  clear hN
  go_cut [3, 4, 5, 6] (fun s3 s4 s5 s6 wx => s3 = tv ∧ s5 = .int .i64 bk ∧ s6 = .int .i64 ver ∧ ∃ g bs' v', s4 = .pointer (some ⟨g, 0, none⟩) ∧ TrBlk wx g v' V ∧ LvsAt wx bs' v' T2 ∧ LvTy wx bs' T2 ∧ Ext w wx)
  case first =>
    have HX0 := Lib.hid ((Ext.refl w).alloc (.cells (tlC tv v V bk ver) 82))
    obtain ⟨W0, hW0⟩ : ∃ W0, w.alloc (.cells (tlC tv v V bk ver) 82) = W0 := ⟨_, rfl⟩
    rw [hW0] at hS HX0
    show Code.wp _ _ _ _ (w.alloc (.cells (tlC tv v V bk ver) 82))
    rw [hW0]
    clear hW0
    refine wp_region_held_drew (S := TlBlk N tv v V bk ver) (by kernel_rfl) (tl_ext hS (Ext.refl _).drew) (fun hS => ?_)
    have HXD := Lib.hid HX0.out.drew
    refine wpAnyH_take (i := 0) (oi := _) (v := .pointer (some ⟨N, 0, none⟩)) rfl (by kernel_rfl) (by kernel_rfl) (by kernel_rfl) (fun _ _ _ h => h) (Or.inl ⟨by rfl, fun W hW => by go_simp⟩) hS ?_
    try simp only [Act.put, List.getElem_toArray, List.getElem_cons_succ, List.getElem_cons_zero, List.setIfInBounds_toArray, List.set_cons_zero, List.set_cons_succ]
    refine wpAnyH_take (i := 1) (oi := _) (v := tv) rfl (by kernel_rfl) (by kernel_rfl) (by kernel_rfl) (fun _ _ _ h => h) (Or.inl ⟨by rfl, fun W hW => by have hc := tl_cell hW 0; simp only [tlC, List.getElem?_toArray, List.getElem?_cons_succ, List.getElem?_cons_zero] at hc; go_simp⟩) hS ?_
    try simp only [Act.put, List.getElem_toArray, List.getElem_cons_succ, List.getElem_cons_zero, List.setIfInBounds_toArray, List.set_cons_zero, List.set_cons_succ]
    refine wpAnyH_take (i := 2) (oi := _) (v := .pointer (some ⟨N, 1, none⟩)) rfl (by kernel_rfl) (by kernel_rfl) (by kernel_rfl) (fun _ _ _ h => h) (Or.inl ⟨by rfl, fun W hW => by go_simp⟩) hS ?_
    try simp only [Act.put, List.getElem_toArray, List.getElem_cons_succ, List.getElem_cons_zero, List.setIfInBounds_toArray, List.set_cons_zero, List.set_cons_succ]
    refine wpAnyH_take (i := 3) (oi := _) (v := .agg (trC v V)) rfl (by kernel_rfl) (by kernel_rfl) (by kernel_rfl) (fun _ _ _ h => h) (yieldsIf_load_mid (by rfl) _ _ rfl N 1 rfl (trC v V).toList _ (fun W hW => tl_range hW) Tryz.underlying29 rfl (by kernel_rfl)) hS ?_
    try simp only [Act.put, List.getElem_toArray, List.getElem_cons_succ, List.getElem_cons_zero, List.setIfInBounds_toArray, List.set_cons_zero, List.set_cons_succ]
    refine wpAnyH_take (i := 5) (oi := _) (v := .pointer (some ⟨N, 33, none⟩)) rfl (by kernel_rfl) (by kernel_rfl) (by kernel_rfl) (fun _ _ _ h => h) (Or.inl ⟨by rfl, fun W hW => by go_simp⟩) hS ?_
    try simp only [Act.put, List.getElem_toArray, List.getElem_cons_succ, List.getElem_cons_zero, List.setIfInBounds_toArray, List.set_cons_zero, List.set_cons_succ]
    refine wpAnyH_take (i := 6) (oi := _) (v := .int .i64 bk) rfl (by kernel_rfl) (by kernel_rfl) (by kernel_rfl) (fun _ _ _ h => h) (Or.inl ⟨by rfl, fun W hW => by have hc := tl_cell hW 33; simp only [tlC, List.getElem?_toArray, List.getElem?_cons_succ, List.getElem?_cons_zero] at hc; go_simp⟩) hS ?_
    try simp only [Act.put, List.getElem_toArray, List.getElem_cons_succ, List.getElem_cons_zero, List.setIfInBounds_toArray, List.set_cons_zero, List.set_cons_succ]
    refine wpAnyH_take (i := 7) (oi := _) (v := .pointer (some ⟨N, 34, none⟩)) rfl (by kernel_rfl) (by kernel_rfl) (by kernel_rfl) (fun _ _ _ h => h) (Or.inl ⟨by rfl, fun W hW => by go_simp⟩) hS ?_
    try simp only [Act.put, List.getElem_toArray, List.getElem_cons_succ, List.getElem_cons_zero, List.setIfInBounds_toArray, List.set_cons_zero, List.set_cons_succ]
    refine wpAnyH_take (i := 8) (oi := _) (v := .int .i64 ver) rfl (by kernel_rfl) (by kernel_rfl) (by kernel_rfl) (fun _ _ _ h => h) (Or.inl ⟨by rfl, fun W hW => by have hc := tl_cell hW 34; simp only [tlC, List.getElem?_toArray, List.getElem?_cons_succ, List.getElem?_cons_zero] at hc; go_simp⟩) hS ?_
    try simp only [Act.put, List.getElem_toArray, List.getElem_cons_succ, List.getElem_cons_zero, List.setIfInBounds_toArray, List.set_cons_zero, List.set_cons_succ]
    refine wpAnyH_ready (rs := [4, 9]) (by kernel_rfl) (by simp) ?_
    refine AllReadyH.cons (o := _) rfl (fun K hK => ?_) (AllReadyH.cons (o := _) rfl (fun K hK => ?_) AllReadyH.nil)
    · rw [if_pos (by rfl)]
      go_simp
      refine (HF.out _ (by repeat (first | exact Ext.refl _ | exact HXD.out | exact HX0.out | apply Ext.alloc | apply Ext.drew))).mono ?_
      rintro e W1 ⟨bs', v', rfl, hl, hy, hx⟩
      have HLV := Lib.hid (And.intro hl (And.intro hy hx))
      clear hl hy hx
      refine hK.out _ _ (tl_ext hS HLV.out.2.2) (fun hS1 => ?_)
      clear hK K
      try simp only [Act.put, List.getElem_toArray, List.getElem_cons_succ, List.getElem_cons_zero, List.setIfInBounds_toArray, List.set_cons_zero, List.set_cons_succ]
      refine wpAnyH_ready (rs := [9]) (by kernel_rfl) (by simp) ?_
      refine AllReadyH.cons (o := _) rfl (fun K hK => ?_) AllReadyH.nil
      rw [if_pos (by rfl)]
      go_simp
      refine hK.out _ _ (tl_ext hS1 ((Ext.refl _).alloc _)) (fun hS2 => ?_)
      clear hK K
      try simp only [Act.put, List.getElem_toArray, List.getElem_cons_succ, List.getElem_cons_zero, List.setIfInBounds_toArray, List.set_cons_zero, List.set_cons_succ]
      refine wpAnyH_take (i := 10) (oi := _) (v := tv) rfl (by kernel_rfl) (by kernel_rfl) (by kernel_rfl) (fun _ _ _ h => h) (Or.inl ⟨by rfl, fun W hW => by go_simp⟩) hS2 ?_
      try simp only [Act.put, List.getElem_toArray, List.getElem_cons_succ, List.getElem_cons_zero, List.setIfInBounds_toArray, List.set_cons_zero, List.set_cons_succ]
      have hblk : TrBlk (W1.alloc (.cells (trC nilV zeroV) 29)) W1.heap.size nilV zeroV := heap_alloc_new W1 _
      refine wpAnyH_ready (rs := [11]) (by kernel_rfl) (by simp) ?_
      refine AllReadyH.cons (o := _) rfl (fun K hK => ?_) AllReadyH.nil
      rw [if_pos (by rfl)]
      refine wp_store_row 29 _ _ rfl W1.heap.size (trC v' V) rfl rfl 29 (trC nilV zeroV) hblk (by kernel_rfl) rfl (trC_one v' V HLV.out.1.one) ?_
      refine hK.out _ _ (tl_row hS2 hblk _) (fun hS3 => ?_)
      clear hK K
      try simp only [Act.put, List.getElem_toArray, List.getElem_cons_succ, List.getElem_cons_zero, List.setIfInBounds_toArray, List.set_cons_zero, List.set_cons_succ]
      refine wpAnyH_take (i := 12) (oi := _) (v := .int .i64 bk) rfl (by kernel_rfl) (by kernel_rfl) (by kernel_rfl) (fun _ _ _ h => h) (Or.inl ⟨by rfl, fun W hW => by go_simp⟩) hS3 ?_
      try simp only [Act.put, List.getElem_toArray, List.getElem_cons_succ, List.getElem_cons_zero, List.setIfInBounds_toArray, List.set_cons_zero, List.set_cons_succ]
      refine wpAnyH_take (i := 13) (oi := _) (v := .int .i64 ver) rfl (by kernel_rfl) (by kernel_rfl) (by kernel_rfl) (fun _ _ _ h => h) (Or.inl ⟨by rfl, fun W hW => by go_simp⟩) hS3 ?_
      try simp only [Act.put, List.getElem_toArray, List.getElem_cons_succ, List.getElem_cons_zero, List.setIfInBounds_toArray, List.set_cons_zero, List.set_cons_succ]
      refine wpAnyH_done (by kernel_rfl) ?_ _
      go_wp2_with fail
      go_meet
      refine ⟨rfl, rfl, rfl, W1.heap.size, bs', v', rfl, hblk.setRow v' V, (LvsAt.otherRow (HLV.out.1.ext ((Ext.refl _).alloc _)) (HLV.out.2.1.ext ((Ext.refl _).alloc _)) hblk _).1, (LvsAt.otherRow (HLV.out.1.ext ((Ext.refl _).alloc _)) (HLV.out.2.1.ext ((Ext.refl _).alloc _)) hblk _).2, ((HXD.out.trans HLV.out.2.2).alloc _).setRow (HXD.out.trans HLV.out.2.2).size _⟩
    · rw [if_pos (by rfl)]
      go_simp
      refine hK.out _ _ (tl_ext hS ((Ext.refl _).alloc _)) (fun hS1 => ?_)
      clear hK K
      try simp only [Act.put, List.getElem_toArray, List.getElem_cons_succ, List.getElem_cons_zero, List.setIfInBounds_toArray, List.set_cons_zero, List.set_cons_succ]
      have hblk0 : TrBlk (W0.alloc (.cells (trC nilV zeroV) 29)).drew W0.heap.size nilV zeroV := heap_alloc_new W0 _
      refine wpAnyH_ready (rs := [4]) (by kernel_rfl) (by simp) ?_
      refine AllReadyH.cons (o := _) rfl (fun K hK => ?_) AllReadyH.nil
      rw [if_pos (by rfl)]
      go_simp
      refine (HF.out _ (by repeat (first | exact Ext.refl _ | exact HXD.out | exact HX0.out | apply Ext.alloc | apply Ext.drew))).mono ?_
      rintro e W1 ⟨bs', v', rfl, hl, hy, hx⟩
      have HLV := Lib.hid (And.intro hl (And.intro hy hx))
      clear hl hy hx
      refine hK.out _ _ (tl_ext hS1 HLV.out.2.2) (fun hS2 => ?_)
      clear hK K
      try simp only [Act.put, List.getElem_toArray, List.getElem_cons_succ, List.getElem_cons_zero, List.setIfInBounds_toArray, List.set_cons_zero, List.set_cons_succ]
      refine wpAnyH_take (i := 10) (oi := _) (v := tv) rfl (by kernel_rfl) (by kernel_rfl) (by kernel_rfl) (fun _ _ _ h => h) (Or.inl ⟨by rfl, fun W hW => by go_simp⟩) hS2 ?_
      try simp only [Act.put, List.getElem_toArray, List.getElem_cons_succ, List.getElem_cons_zero, List.setIfInBounds_toArray, List.set_cons_zero, List.set_cons_succ]
      have hblk : TrBlk W1 W0.heap.size nilV zeroV := hblk0.ext HLV.out.2.2
      refine wpAnyH_ready (rs := [11]) (by kernel_rfl) (by simp) ?_
      refine AllReadyH.cons (o := _) rfl (fun K hK => ?_) AllReadyH.nil
      rw [if_pos (by rfl)]
      refine wp_store_row 29 _ _ rfl W0.heap.size (trC v' V) rfl rfl 29 (trC nilV zeroV) hblk (by kernel_rfl) rfl (trC_one v' V HLV.out.1.one) ?_
      refine hK.out _ _ (tl_row hS2 hblk _) (fun hS3 => ?_)
      clear hK K
      try simp only [Act.put, List.getElem_toArray, List.getElem_cons_succ, List.getElem_cons_zero, List.setIfInBounds_toArray, List.set_cons_zero, List.set_cons_succ]
      refine wpAnyH_take (i := 12) (oi := _) (v := .int .i64 bk) rfl (by kernel_rfl) (by kernel_rfl) (by kernel_rfl) (fun _ _ _ h => h) (Or.inl ⟨by rfl, fun W hW => by go_simp⟩) hS3 ?_
      try simp only [Act.put, List.getElem_toArray, List.getElem_cons_succ, List.getElem_cons_zero, List.setIfInBounds_toArray, List.set_cons_zero, List.set_cons_succ]
      refine wpAnyH_take (i := 13) (oi := _) (v := .int .i64 ver) rfl (by kernel_rfl) (by kernel_rfl) (by kernel_rfl) (fun _ _ _ h => h) (Or.inl ⟨by rfl, fun W hW => by go_simp⟩) hS3 ?_
      try simp only [Act.put, List.getElem_toArray, List.getElem_cons_succ, List.getElem_cons_zero, List.setIfInBounds_toArray, List.set_cons_zero, List.set_cons_succ]
      refine wpAnyH_done (by kernel_rfl) ?_ _
      go_wp2_with fail
      go_meet
      refine ⟨rfl, rfl, rfl, W0.heap.size, bs', v', rfl, hblk.setRow v' V, (LvsAt.otherRow HLV.out.1 HLV.out.2.1 hblk _).1, (LvsAt.otherRow HLV.out.1 HLV.out.2.1 hblk _).2, ((HX0.out.alloc _).drew.trans HLV.out.2.2).setRow HX0.out.size _⟩
  case rest =>
    obtain ⟨rfl, rfl, rfl, g, bs2, v2, rfl, hblk, hlv, hly, hx⟩ := hcut
    have HB0 := Lib.hid hblk
    have HL0 := Lib.hid hlv
    have HY0 := Lib.hid hly
    have HX0 := Lib.hid hx
    clear hblk hlv hly hx
    by_cases hb0 : bk < 0
    · have hb1 : ¬ (0 ≤ bk) := by omega
      clear hb0
      go_upto_region 14 with (first
        | (go_at_call 33; refine (TC.out _ HX0.out).mono ?_; rintro e w1 ⟨bt, bm, tv1, lv1, rfl, hB, hb⟩; have hx1 := Ext.of_below hb; have HS1 : Hid (RtState wc.heap.size bt bm tv1 lv1 l g bs2 v2 T2 V w w1) := Lib.hid ⟨hB, HB0.out.ext hx1, HL0.out.ext hx1, HY0.out.ext hx1, (HX0.out.trans hx1).below, hb.size⟩; have hgw1 := lt_of_heap HS1.out.2.1; have HE1 := Lib.hid (HE.out.ext (Ext.of_below HS1.out.2.2.2.2.1)); clear hB hb hx1))
      have hEw := HE.out.ext (Ext.of_below HS1.out.2.2.2.2.1)
      have HEw := Lib.hid hEw
      have hgw := lt_of_heap HS1.out.2.1
      have HBW : Hid (B0 ≤ wc.heap.size) := Lib.hid (Nat.le_trans HE.out.size HX0.out.size)
      obtain ⟨pl, cl, rfl, _, _⟩ := own_texts HS1.out.1.2.1
      clear hEw
      cases htb : trunkB T2 V with
      | false =>
        have RO := Lib.hid (rofno_any bt bs2 v2 T2 V B0 w1 HEw.out.signs HEw.out.size HS1.out.2.2.1 htb)
        have HTB := Lib.hid htb
        clear htb
        go_wp2_with (first
          | (refine wpList_load_row rfl 29 _ rfl g rfl 29 (trC v2 V) (0, 0) _ HS1.out.2.1 Tryz.underlying29 rfl (by kernel_rfl) ?_)
          | (go_at_call 37; refine RO.out.mono ?_; rintro e w5 ⟨rfl, hx5⟩; have HS5 := Lib.hid (HS1.out.ext hx5); have MY := Lib.hid (rtmay_any bs2 v2 T2 V w5 (fun k _ => Nat.le_trans (HTL.out k) (by decide)) HS5.out.2.2.1); rw [HTB.out] at MY; clear hx5)
          | (refine wpList_load_row rfl 29 _ rfl g rfl 29 (trC v2 V) (0, 0) _ HS5.out.2.1 Tryz.underlying29 rfl (by kernel_rfl) ?_)
          | (go_at_call 11; refine MY.out.mono ?_; rintro e w6 ⟨rfl, hx6⟩; have HS6 := Lib.hid (HS5.out.ext hx6); have hE6 := HE.out.ext (Ext.of_below HS6.out.2.2.2.2.1); have AC := Lib.hid (awake12_any B0 w6 hE6.size hE6.signs hE6.errs hE6.pow); have NC := Lib.hid (count_any _ _ _ _ _ w6 HS6.out.1.1); clear hx6 hE6)
          | (go_at_call 31; refine NC.out.mono ?_; rintro e _ ⟨rfl, rfl⟩)
          | (go_at_call 38; refine AC.out.mono ?_; rintro e wz ⟨rfl, hbz⟩; have HBZ := Lib.hid (HS6.out.2.2.2.2.1.trans (hbz.mono HS6.out.2.2.2.2.1.size)); clear hbz))
        go_ret
        exact ⟨rfl, Ext.of_below HBZ.out⟩
      | true =>
        obtain ⟨r, hr⟩ : ∃ r, rootT l T2 V = r := ⟨_, rfl⟩
        have RO := Lib.hid (rof_root _ _ _ _ l bs2 v2 T2 V B0 B0 w1 HS1.out.1.1 HEw.out.signs HBW.out HEw.out.pow HBW.out HS1.out.2.2.1 HS1.out.2.2.2.1 htb (by omega) r hr)
        have HTBT := Lib.hid htb
        have HRR := Lib.hid hr
        clear htb hr
        obtain ⟨yl, n5, ls, e5⟩ := r
        go_wp2_with (first
          | (refine wpList_load_row rfl 29 _ rfl g rfl 29 (trC v2 V) (0, 0) _ HS1.out.2.1 Tryz.underlying29 rfl (by kernel_rfl) ?_)
          | (go_at_call 37; refine RO.out.mono ?_; rintro e w5 ⟨av, tv5, rfl, hown, hT5, hst⟩; obtain ⟨hM5, hb5, hk5⟩ := mid_step HS1.out.1 hT5 hst; have HM5 := Lib.hid hM5; have HA5 := Lib.hid hown; have HT5 := Lib.hid (HS1.out.2.1.kept hk5); have HL5 := Lib.hid (HS1.out.2.2.1.kept HS1.out.2.2.2.1 hk5); have HY5 := Lib.hid (HS1.out.2.2.2.1.kept hk5); have HB5 := Lib.hid (HS1.out.2.2.2.2.1.trans (hb5.mono (Nat.le_trans HX0.out.size (Nat.le_refl _)))); have HW5 := Lib.hid (Nat.le_trans HS1.out.2.2.2.2.2 hb5.size); have MY := Lib.hid (rtmay_any bs2 v2 T2 V w5 (fun k _ => Nat.le_trans (HTL.out k) (by decide)) HL5.out); rw [HTBT.out] at MY; have hgw5 := lt_of_heap HT5.out; obtain ⟨pa, ca, rfl⟩ := own_sl hown; clear hown hT5 hst hM5 hb5 hk5)
          | (refine wpList_load_row rfl 29 _ rfl g rfl 29 (trC v2 V) (0, 0) _ HT5.out Tryz.underlying29 rfl (by kernel_rfl) ?_)
          | (go_at_call 11; refine MY.out.mono ?_; rintro e w6 ⟨rfl, hx6⟩; have HX6 := Lib.hid hx6; have HT6 := Lib.hid (HT5.out.ext hx6); have HM6 : Hid (∃ tv6, Mid wc.heap.size bt bm tv6 _ l yl w6) := Lib.hid (by obtain ⟨tv6, hm⟩ := HM5.out; exact ⟨tv6, hm.ext hx6⟩); have RR := Lib.hid (drof_root wc.heap.size _ l bs2 v2 T2 V w6 (Nat.le_trans HW5.out hx6.size) (by obtain ⟨_, hm⟩ := HM6.out; exact hm.2.1) (by omega) (HL5.out.ext hx6) (HY5.out.ext hx6) HTBT.out _ HRR.out); clear hx6)
          | (refine wpList_load_row rfl 29 _ rfl g rfl 29 (trC v2 V) (0, 0) _ HT6.out Tryz.underlying29 rfl (by kernel_rfl) ?_)
          | (go_at_call 39; refine RR.out.mono ?_; rintro e w7 ⟨lv7, nv, rfl, ho, hn, hg7, hk7⟩; have HST7 : Hid (∃ tv7, Both wc.heap.size bt bm tv7 lv7 yl w7 ∧ Below wc.heap.size w6 w7 ∧ Kept w6 w7) := Lib.hid (by obtain ⟨tv6, hm⟩ := HM6.out; exact ⟨tv6, both_step hm ho hg7 hk7⟩); have HN7 := Lib.hid hn; obtain ⟨p7, c7, rfl, _, hc7⟩ := own_texts ho; have HC7 := Lib.hid hc7; obtain ⟨pn, cn, rfl⟩ := own_sl hn; clear ho hn hg7 hk7 hc7)
          | (go_at_call 40; have hA7 : w7.ownsRow w1.heap.size 3 1 _ ls.length (cellsI ls) := own_kept (own_ext HA5.out HX6.out) (by obtain ⟨_, _, _, hk⟩ := HST7.out; exact hk) (by decide) (by decide); refine (same12_any _ _ ls w7 (own_maxl hA7) (ints_own hA7) (ints_own HN7.out)).mono ?_; rintro e w8 ⟨rfl, hx8⟩; have HX8 := Lib.hid hx8; have NC : Hid (Calls Tryz.prog 31 #[.pointer (some ⟨bt, 0, none⟩)] w8 fun e w' => e = .returned (.int .i64 (yl.length : Int)) ∧ w8 = w') := Lib.hid (by obtain ⟨_, hb7, _⟩ := HST7.out; exact count_any _ _ _ _ _ w8 (hb7.1.ext hx8)); clear hA7 hx8)
          | (go_at_call 31; refine NC.out.mono ?_; rintro e _ ⟨rfl, rfl⟩))
        obtain ⟨m, hm⟩ : ∃ m, yl.length = m := ⟨_, rfl⟩
        have HM := Lib.hid hm
        have hmI : m ≤ 65536 := by obtain ⟨_, hb7, _⟩ := HST7.out; have := hb7.1.2.2.2.2.2.2.2.2.2; omega
        have HB8 : Hid (Below w.heap.size w w8) := Lib.hid (by
          obtain ⟨_, _, hb7, _⟩ := HST7.out
          have e6 := HB5.out.trans (HX6.out.below.mono HB5.out.size)
          have e7 := e6.trans (hb7.mono HX0.out.size)
          exact e7.trans (HX8.out.below.mono e7.size))
        rw [hm]
        clear hm
        go_loopw [21] (fun ii wr => ∃ k : Nat, ii = .int .i64 (k : Int) ∧ k ≤ m ∧ Ext w8 wr) (fun ii _ => m - (intOf ii).toNat)
        case atStart => exact ⟨0, rfl, Nat.zero_le _, Ext.refl _⟩
        case round =>
          obtain ⟨k, rfl, hk, hext⟩ := hrel
          have HEX := Lib.hid hext
          clear hext
          have hmI3 : (m : Int) ≤ 65536 := by omega
          by_cases hlt : k < m
          · obtain ⟨s, hs⟩ : ∃ s, yl[k]? = some s := ⟨_, List.getElem?_eq_getElem (by have := HM.out; omega)⟩
            obtain ⟨b, off, rfl, c1⟩ := HC7.out k s hs
            have a1 := cell_ext c1 (HX8.out.trans HEX.out)
            have hg := World.block_lt_of_cell? _ _ a1
            have hkI : (k : Int) < (m : Int) := by omega
            have hk0 : (0 : Int) ≤ (k : Int) := by omega
            have TC2 := Lib.hid (show Calls Tryz.prog 41 #[.pointer (some ⟨bt, 0, none⟩), .int .i64 ((k : Int) + 1)] wr fun e w' => e = .returned (.tuple #[.string s, .int .i64 0]) ∧ wr = w' from by
              obtain ⟨_, hb7, _⟩ := HST7.out
              exact ttext_ok _ _ _ _ yl k s hs wr (hb7.1.ext (HX8.out.trans HEX.out)))
            have HLT := Lib.hid hlt
            clear hs hlt c1
            go_wp2_with (go_at_call 41; refine TC2.out.mono ?_; rintro e _ ⟨rfl, rfl⟩)
            go_roundw
            case rel => exact ⟨k + 1, by go_num, by have := HLT.out; omega, HEX.out⟩
            case measure => have := HLT.out; simp [intOf]; omega
          · have hje : k = m := by omega
            subst hje
            have hx1 := HX8.out
            have hbz0 := HB8.out.trans (HEX.out.below.mono HB8.out.size)
            have he1 := HE.out.ext (Ext.of_below hbz0)
            have AC := Lib.hid (awake12_any B0 wr he1.size he1.signs he1.errs he1.pow)
            have HBR := Lib.hid hbz0
            clear hx1 he1 hlt hbz0
            go_wp2_with (go_at_call 38; refine AC.out.mono ?_; rintro e wz ⟨rfl, hbz⟩; have HBZ := Lib.hid (HBR.out.trans (hbz.mono HBR.out.size)); clear hbz)
            go_ret
            exact ⟨rfl, Ext.of_below HBZ.out⟩
    by_cases hb1 : 16 ≤ bk
    · have hb2 : 0 ≤ bk := by omega
      clear hb0
      go_upto_region 14 with (first
        | (go_at_call 33; refine (TC.out _ HX0.out).mono ?_; rintro e w1 ⟨bt, bm, tv1, lv1, rfl, hB, hb⟩; have hx1 := Ext.of_below hb; have HS1 : Hid (RtState wc.heap.size bt bm tv1 lv1 l g bs2 v2 T2 V w w1) := Lib.hid ⟨hB, HB0.out.ext hx1, HL0.out.ext hx1, HY0.out.ext hx1, (HX0.out.trans hx1).below, hb.size⟩; have hgw1 := lt_of_heap HS1.out.2.1; have HE1 := Lib.hid (HE.out.ext (Ext.of_below HS1.out.2.2.2.2.1)); clear hB hb hx1))
      have hEw := HE.out.ext (Ext.of_below HS1.out.2.2.2.2.1)
      have HEw := Lib.hid hEw
      have hgw := lt_of_heap HS1.out.2.1
      have HBW : Hid (B0 ≤ wc.heap.size) := Lib.hid (Nat.le_trans HE.out.size HX0.out.size)
      obtain ⟨pl, cl, rfl, _, _⟩ := own_texts HS1.out.1.2.1
      clear hEw
      cases htb : trunkB T2 V with
      | false =>
        have RO := Lib.hid (rofno_any bt bs2 v2 T2 V B0 w1 HEw.out.signs HEw.out.size HS1.out.2.2.1 htb)
        have HTB := Lib.hid htb
        clear htb
        go_wp2_with (first
          | (refine wpList_load_row rfl 29 _ rfl g rfl 29 (trC v2 V) (0, 0) _ HS1.out.2.1 Tryz.underlying29 rfl (by kernel_rfl) ?_)
          | (go_at_call 37; refine RO.out.mono ?_; rintro e w5 ⟨rfl, hx5⟩; have HS5 := Lib.hid (HS1.out.ext hx5); have MY := Lib.hid (rtmay_any bs2 v2 T2 V w5 (fun k _ => Nat.le_trans (HTL.out k) (by decide)) HS5.out.2.2.1); rw [HTB.out] at MY; clear hx5)
          | (refine wpList_load_row rfl 29 _ rfl g rfl 29 (trC v2 V) (0, 0) _ HS5.out.2.1 Tryz.underlying29 rfl (by kernel_rfl) ?_)
          | (go_at_call 11; refine MY.out.mono ?_; rintro e w6 ⟨rfl, hx6⟩; have HS6 := Lib.hid (HS5.out.ext hx6); have hE6 := HE.out.ext (Ext.of_below HS6.out.2.2.2.2.1); have AC := Lib.hid (awake12_any B0 w6 hE6.size hE6.signs hE6.errs hE6.pow); have NC := Lib.hid (count_any _ _ _ _ _ w6 HS6.out.1.1); clear hx6 hE6)
          | (go_at_call 31; refine NC.out.mono ?_; rintro e _ ⟨rfl, rfl⟩)
          | (go_at_call 38; refine AC.out.mono ?_; rintro e wz ⟨rfl, hbz⟩; have HBZ := Lib.hid (HS6.out.2.2.2.2.1.trans (hbz.mono HS6.out.2.2.2.2.1.size)); clear hbz))
        go_ret
        exact ⟨rfl, Ext.of_below HBZ.out⟩
      | true =>
        obtain ⟨r, hr⟩ : ∃ r, rootT l T2 V = r := ⟨_, rfl⟩
        have RO := Lib.hid (rof_root _ _ _ _ l bs2 v2 T2 V B0 B0 w1 HS1.out.1.1 HEw.out.signs HBW.out HEw.out.pow HBW.out HS1.out.2.2.1 HS1.out.2.2.2.1 htb (by omega) r hr)
        have HTBT := Lib.hid htb
        have HRR := Lib.hid hr
        clear htb hr
        obtain ⟨yl, n5, ls, e5⟩ := r
        go_wp2_with (first
          | (refine wpList_load_row rfl 29 _ rfl g rfl 29 (trC v2 V) (0, 0) _ HS1.out.2.1 Tryz.underlying29 rfl (by kernel_rfl) ?_)
          | (go_at_call 37; refine RO.out.mono ?_; rintro e w5 ⟨av, tv5, rfl, hown, hT5, hst⟩; obtain ⟨hM5, hb5, hk5⟩ := mid_step HS1.out.1 hT5 hst; have HM5 := Lib.hid hM5; have HA5 := Lib.hid hown; have HT5 := Lib.hid (HS1.out.2.1.kept hk5); have HL5 := Lib.hid (HS1.out.2.2.1.kept HS1.out.2.2.2.1 hk5); have HY5 := Lib.hid (HS1.out.2.2.2.1.kept hk5); have HB5 := Lib.hid (HS1.out.2.2.2.2.1.trans (hb5.mono (Nat.le_trans HX0.out.size (Nat.le_refl _)))); have HW5 := Lib.hid (Nat.le_trans HS1.out.2.2.2.2.2 hb5.size); have MY := Lib.hid (rtmay_any bs2 v2 T2 V w5 (fun k _ => Nat.le_trans (HTL.out k) (by decide)) HL5.out); rw [HTBT.out] at MY; have hgw5 := lt_of_heap HT5.out; obtain ⟨pa, ca, rfl⟩ := own_sl hown; clear hown hT5 hst hM5 hb5 hk5)
          | (refine wpList_load_row rfl 29 _ rfl g rfl 29 (trC v2 V) (0, 0) _ HT5.out Tryz.underlying29 rfl (by kernel_rfl) ?_)
          | (go_at_call 11; refine MY.out.mono ?_; rintro e w6 ⟨rfl, hx6⟩; have HX6 := Lib.hid hx6; have HT6 := Lib.hid (HT5.out.ext hx6); have HM6 : Hid (∃ tv6, Mid wc.heap.size bt bm tv6 _ l yl w6) := Lib.hid (by obtain ⟨tv6, hm⟩ := HM5.out; exact ⟨tv6, hm.ext hx6⟩); have RR := Lib.hid (drof_root wc.heap.size _ l bs2 v2 T2 V w6 (Nat.le_trans HW5.out hx6.size) (by obtain ⟨_, hm⟩ := HM6.out; exact hm.2.1) (by omega) (HL5.out.ext hx6) (HY5.out.ext hx6) HTBT.out _ HRR.out); clear hx6)
          | (refine wpList_load_row rfl 29 _ rfl g rfl 29 (trC v2 V) (0, 0) _ HT6.out Tryz.underlying29 rfl (by kernel_rfl) ?_)
          | (go_at_call 39; refine RR.out.mono ?_; rintro e w7 ⟨lv7, nv, rfl, ho, hn, hg7, hk7⟩; have HST7 : Hid (∃ tv7, Both wc.heap.size bt bm tv7 lv7 yl w7 ∧ Below wc.heap.size w6 w7 ∧ Kept w6 w7) := Lib.hid (by obtain ⟨tv6, hm⟩ := HM6.out; exact ⟨tv6, both_step hm ho hg7 hk7⟩); have HN7 := Lib.hid hn; obtain ⟨p7, c7, rfl, _, hc7⟩ := own_texts ho; have HC7 := Lib.hid hc7; obtain ⟨pn, cn, rfl⟩ := own_sl hn; clear ho hn hg7 hk7 hc7)
          | (go_at_call 40; have hA7 : w7.ownsRow w1.heap.size 3 1 _ ls.length (cellsI ls) := own_kept (own_ext HA5.out HX6.out) (by obtain ⟨_, _, _, hk⟩ := HST7.out; exact hk) (by decide) (by decide); refine (same12_any _ _ ls w7 (own_maxl hA7) (ints_own hA7) (ints_own HN7.out)).mono ?_; rintro e w8 ⟨rfl, hx8⟩; have HX8 := Lib.hid hx8; have NC : Hid (Calls Tryz.prog 31 #[.pointer (some ⟨bt, 0, none⟩)] w8 fun e w' => e = .returned (.int .i64 (yl.length : Int)) ∧ w8 = w') := Lib.hid (by obtain ⟨_, hb7, _⟩ := HST7.out; exact count_any _ _ _ _ _ w8 (hb7.1.ext hx8)); clear hA7 hx8)
          | (go_at_call 31; refine NC.out.mono ?_; rintro e _ ⟨rfl, rfl⟩))
        obtain ⟨m, hm⟩ : ∃ m, yl.length = m := ⟨_, rfl⟩
        have HM := Lib.hid hm
        have hmI : m ≤ 65536 := by obtain ⟨_, hb7, _⟩ := HST7.out; have := hb7.1.2.2.2.2.2.2.2.2.2; omega
        have HB8 : Hid (Below w.heap.size w w8) := Lib.hid (by
          obtain ⟨_, _, hb7, _⟩ := HST7.out
          have e6 := HB5.out.trans (HX6.out.below.mono HB5.out.size)
          have e7 := e6.trans (hb7.mono HX0.out.size)
          exact e7.trans (HX8.out.below.mono e7.size))
        rw [hm]
        clear hm
        go_loopw [21] (fun ii wr => ∃ k : Nat, ii = .int .i64 (k : Int) ∧ k ≤ m ∧ Ext w8 wr) (fun ii _ => m - (intOf ii).toNat)
        case atStart => exact ⟨0, rfl, Nat.zero_le _, Ext.refl _⟩
        case round =>
          obtain ⟨k, rfl, hk, hext⟩ := hrel
          have HEX := Lib.hid hext
          clear hext
          have hmI3 : (m : Int) ≤ 65536 := by omega
          by_cases hlt : k < m
          · obtain ⟨s, hs⟩ : ∃ s, yl[k]? = some s := ⟨_, List.getElem?_eq_getElem (by have := HM.out; omega)⟩
            obtain ⟨b, off, rfl, c1⟩ := HC7.out k s hs
            have a1 := cell_ext c1 (HX8.out.trans HEX.out)
            have hg := World.block_lt_of_cell? _ _ a1
            have hkI : (k : Int) < (m : Int) := by omega
            have hk0 : (0 : Int) ≤ (k : Int) := by omega
            have TC2 := Lib.hid (show Calls Tryz.prog 41 #[.pointer (some ⟨bt, 0, none⟩), .int .i64 ((k : Int) + 1)] wr fun e w' => e = .returned (.tuple #[.string s, .int .i64 0]) ∧ wr = w' from by
              obtain ⟨_, hb7, _⟩ := HST7.out
              exact ttext_ok _ _ _ _ yl k s hs wr (hb7.1.ext (HX8.out.trans HEX.out)))
            have HLT := Lib.hid hlt
            clear hs hlt c1
            go_wp2_with (go_at_call 41; refine TC2.out.mono ?_; rintro e _ ⟨rfl, rfl⟩)
            go_roundw
            case rel => exact ⟨k + 1, by go_num, by have := HLT.out; omega, HEX.out⟩
            case measure => have := HLT.out; simp [intOf]; omega
          · have hje : k = m := by omega
            subst hje
            have hx1 := HX8.out
            have hbz0 := HB8.out.trans (HEX.out.below.mono HB8.out.size)
            have he1 := HE.out.ext (Ext.of_below hbz0)
            have AC := Lib.hid (awake12_any B0 wr he1.size he1.signs he1.errs he1.pow)
            have HBR := Lib.hid hbz0
            clear hx1 he1 hlt hbz0
            go_wp2_with (go_at_call 38; refine AC.out.mono ?_; rintro e wz ⟨rfl, hbz⟩; have HBZ := Lib.hid (HBR.out.trans (hbz.mono HBR.out.size)); clear hbz)
            go_ret
            exact ⟨rfl, Ext.of_below HBZ.out⟩
    obtain ⟨k, rfl⟩ := Int.eq_ofNat_of_zero_le (show 0 ≤ bk by omega)
    have hk : k < 16 := by omega
    have hk0 : (0 : Int) ≤ (k : Int) := by omega
    have hk1 : (k : Int) < 16 := by omega
    clear hb0 hb1
    cases hlb : leafB (T2 k) with
    | false =>
      have HLB := Lib.hid hlb
      have HNO := Lib.hid (show leafB (T2 k) = false ∨ ver < 0 ∨ 2147483647 < ver from Or.inl hlb)
      clear hlb
      go_upto_region 14 with (first
        | (go_at_call 33; refine (TC.out _ HX0.out).mono ?_; rintro e w1 ⟨bt, bm, tv1, lv1, rfl, hB, hb⟩; have hx1 := Ext.of_below hb; have HS1 : Hid (RtState wc.heap.size bt bm tv1 lv1 l g bs2 v2 T2 V w w1) := Lib.hid ⟨hB, HB0.out.ext hx1, HL0.out.ext hx1, HY0.out.ext hx1, (HX0.out.trans hx1).below, hb.size⟩; have hgw1 := lt_of_heap HS1.out.2.1; have HE1 := Lib.hid (HE.out.ext (Ext.of_below HS1.out.2.2.2.2.1)); have hcl1 := HS1.out.2.1.leaf k hk; clear hB hb hx1)
        | (go_at_call 34; refine (rleafno_any bt (bs2 k) (v2 k) (T2 k) ver B0 w1 HE1.out.signs HE1.out.size (HS1.out.2.2.1 k hk) (HNO.out)).mono ?_; rintro e w2 ⟨rfl, hx2⟩; have HS2 := Lib.hid (HS1.out.ext hx2); have hcl2 := HS2.out.2.1.leaf k hk; have hgw2 := lt_of_heap HS2.out.2.1; clear hx2)
        | (go_at_call 35; refine (rlis_any (bs2 k) (v2 k) (T2 k) w2 (HS2.out.2.2.1 k hk)).mono ?_; rw [HLB.out]; rintro e w3 ⟨rfl, hx3⟩; have HS3 := Lib.hid (HS2.out.ext hx3); clear hx3))
      have hEw := HE.out.ext (Ext.of_below HS3.out.2.2.2.2.1)
      have HEw := Lib.hid hEw
      have hgw := lt_of_heap HS3.out.2.1
      have HBW : Hid (B0 ≤ wc.heap.size) := Lib.hid (Nat.le_trans HE.out.size HX0.out.size)
      obtain ⟨pl, cl, rfl, _, _⟩ := own_texts HS3.out.1.2.1
      clear hEw
      cases htb : trunkB T2 V with
      | false =>
        have RO := Lib.hid (rofno_any bt bs2 v2 T2 V B0 w3 HEw.out.signs HEw.out.size HS3.out.2.2.1 htb)
        have HTB := Lib.hid htb
        clear htb
        go_wp2_with (first
          | (refine wpList_load_row rfl 29 _ rfl g rfl 29 (trC v2 V) (0, 0) _ HS3.out.2.1 Tryz.underlying29 rfl (by kernel_rfl) ?_)
          | (go_at_call 37; refine RO.out.mono ?_; rintro e w5 ⟨rfl, hx5⟩; have HS5 := Lib.hid (HS3.out.ext hx5); have MY := Lib.hid (rtmay_any bs2 v2 T2 V w5 (fun k _ => Nat.le_trans (HTL.out k) (by decide)) HS5.out.2.2.1); rw [HTB.out] at MY; clear hx5)
          | (refine wpList_load_row rfl 29 _ rfl g rfl 29 (trC v2 V) (0, 0) _ HS5.out.2.1 Tryz.underlying29 rfl (by kernel_rfl) ?_)
          | (go_at_call 11; refine MY.out.mono ?_; rintro e w6 ⟨rfl, hx6⟩; have HS6 := Lib.hid (HS5.out.ext hx6); have hE6 := HE.out.ext (Ext.of_below HS6.out.2.2.2.2.1); have AC := Lib.hid (awake12_any B0 w6 hE6.size hE6.signs hE6.errs hE6.pow); have NC := Lib.hid (count_any _ _ _ _ _ w6 HS6.out.1.1); clear hx6 hE6)
          | (go_at_call 31; refine NC.out.mono ?_; rintro e _ ⟨rfl, rfl⟩)
          | (go_at_call 38; refine AC.out.mono ?_; rintro e wz ⟨rfl, hbz⟩; have HBZ := Lib.hid (HS6.out.2.2.2.2.1.trans (hbz.mono HS6.out.2.2.2.2.1.size)); clear hbz))
        go_ret
        exact ⟨rfl, Ext.of_below HBZ.out⟩
      | true =>
        obtain ⟨r, hr⟩ : ∃ r, rootT l T2 V = r := ⟨_, rfl⟩
        have RO := Lib.hid (rof_root _ _ _ _ l bs2 v2 T2 V B0 B0 w3 HS3.out.1.1 HEw.out.signs HBW.out HEw.out.pow HBW.out HS3.out.2.2.1 HS3.out.2.2.2.1 htb (by omega) r hr)
        have HTBT := Lib.hid htb
        have HRR := Lib.hid hr
        clear htb hr
        obtain ⟨yl, n5, ls, e5⟩ := r
        go_wp2_with (first
          | (refine wpList_load_row rfl 29 _ rfl g rfl 29 (trC v2 V) (0, 0) _ HS3.out.2.1 Tryz.underlying29 rfl (by kernel_rfl) ?_)
          | (go_at_call 37; refine RO.out.mono ?_; rintro e w5 ⟨av, tv5, rfl, hown, hT5, hst⟩; obtain ⟨hM5, hb5, hk5⟩ := mid_step HS3.out.1 hT5 hst; have HM5 := Lib.hid hM5; have HA5 := Lib.hid hown; have HT5 := Lib.hid (HS3.out.2.1.kept hk5); have HL5 := Lib.hid (HS3.out.2.2.1.kept HS3.out.2.2.2.1 hk5); have HY5 := Lib.hid (HS3.out.2.2.2.1.kept hk5); have HB5 := Lib.hid (HS3.out.2.2.2.2.1.trans (hb5.mono (Nat.le_trans HX0.out.size (Nat.le_refl _)))); have HW5 := Lib.hid (Nat.le_trans HS3.out.2.2.2.2.2 hb5.size); have MY := Lib.hid (rtmay_any bs2 v2 T2 V w5 (fun k _ => Nat.le_trans (HTL.out k) (by decide)) HL5.out); rw [HTBT.out] at MY; have hgw5 := lt_of_heap HT5.out; obtain ⟨pa, ca, rfl⟩ := own_sl hown; clear hown hT5 hst hM5 hb5 hk5)
          | (refine wpList_load_row rfl 29 _ rfl g rfl 29 (trC v2 V) (0, 0) _ HT5.out Tryz.underlying29 rfl (by kernel_rfl) ?_)
          | (go_at_call 11; refine MY.out.mono ?_; rintro e w6 ⟨rfl, hx6⟩; have HX6 := Lib.hid hx6; have HT6 := Lib.hid (HT5.out.ext hx6); have HM6 : Hid (∃ tv6, Mid wc.heap.size bt bm tv6 _ l yl w6) := Lib.hid (by obtain ⟨tv6, hm⟩ := HM5.out; exact ⟨tv6, hm.ext hx6⟩); have RR := Lib.hid (drof_root wc.heap.size _ l bs2 v2 T2 V w6 (Nat.le_trans HW5.out hx6.size) (by obtain ⟨_, hm⟩ := HM6.out; exact hm.2.1) (by omega) (HL5.out.ext hx6) (HY5.out.ext hx6) HTBT.out _ HRR.out); clear hx6)
          | (refine wpList_load_row rfl 29 _ rfl g rfl 29 (trC v2 V) (0, 0) _ HT6.out Tryz.underlying29 rfl (by kernel_rfl) ?_)
          | (go_at_call 39; refine RR.out.mono ?_; rintro e w7 ⟨lv7, nv, rfl, ho, hn, hg7, hk7⟩; have HST7 : Hid (∃ tv7, Both wc.heap.size bt bm tv7 lv7 yl w7 ∧ Below wc.heap.size w6 w7 ∧ Kept w6 w7) := Lib.hid (by obtain ⟨tv6, hm⟩ := HM6.out; exact ⟨tv6, both_step hm ho hg7 hk7⟩); have HN7 := Lib.hid hn; obtain ⟨p7, c7, rfl, _, hc7⟩ := own_texts ho; have HC7 := Lib.hid hc7; obtain ⟨pn, cn, rfl⟩ := own_sl hn; clear ho hn hg7 hk7 hc7)
          | (go_at_call 40; have hA7 : w7.ownsRow w3.heap.size 3 1 _ ls.length (cellsI ls) := own_kept (own_ext HA5.out HX6.out) (by obtain ⟨_, _, _, hk⟩ := HST7.out; exact hk) (by decide) (by decide); refine (same12_any _ _ ls w7 (own_maxl hA7) (ints_own hA7) (ints_own HN7.out)).mono ?_; rintro e w8 ⟨rfl, hx8⟩; have HX8 := Lib.hid hx8; have NC : Hid (Calls Tryz.prog 31 #[.pointer (some ⟨bt, 0, none⟩)] w8 fun e w' => e = .returned (.int .i64 (yl.length : Int)) ∧ w8 = w') := Lib.hid (by obtain ⟨_, hb7, _⟩ := HST7.out; exact count_any _ _ _ _ _ w8 (hb7.1.ext hx8)); clear hA7 hx8)
          | (go_at_call 31; refine NC.out.mono ?_; rintro e _ ⟨rfl, rfl⟩))
        obtain ⟨m, hm⟩ : ∃ m, yl.length = m := ⟨_, rfl⟩
        have HM := Lib.hid hm
        have hmI : m ≤ 65536 := by obtain ⟨_, hb7, _⟩ := HST7.out; have := hb7.1.2.2.2.2.2.2.2.2.2; omega
        have HB8 : Hid (Below w.heap.size w w8) := Lib.hid (by
          obtain ⟨_, _, hb7, _⟩ := HST7.out
          have e6 := HB5.out.trans (HX6.out.below.mono HB5.out.size)
          have e7 := e6.trans (hb7.mono HX0.out.size)
          exact e7.trans (HX8.out.below.mono e7.size))
        rw [hm]
        clear hm
        go_loopw [21] (fun ii wr => ∃ k : Nat, ii = .int .i64 (k : Int) ∧ k ≤ m ∧ Ext w8 wr) (fun ii _ => m - (intOf ii).toNat)
        case atStart => exact ⟨0, rfl, Nat.zero_le _, Ext.refl _⟩
        case round =>
          obtain ⟨k, rfl, hk, hext⟩ := hrel
          have HEX := Lib.hid hext
          clear hext
          have hmI3 : (m : Int) ≤ 65536 := by omega
          by_cases hlt : k < m
          · obtain ⟨s, hs⟩ : ∃ s, yl[k]? = some s := ⟨_, List.getElem?_eq_getElem (by have := HM.out; omega)⟩
            obtain ⟨b, off, rfl, c1⟩ := HC7.out k s hs
            have a1 := cell_ext c1 (HX8.out.trans HEX.out)
            have hg := World.block_lt_of_cell? _ _ a1
            have hkI : (k : Int) < (m : Int) := by omega
            have hk0 : (0 : Int) ≤ (k : Int) := by omega
            have TC2 := Lib.hid (show Calls Tryz.prog 41 #[.pointer (some ⟨bt, 0, none⟩), .int .i64 ((k : Int) + 1)] wr fun e w' => e = .returned (.tuple #[.string s, .int .i64 0]) ∧ wr = w' from by
              obtain ⟨_, hb7, _⟩ := HST7.out
              exact ttext_ok _ _ _ _ yl k s hs wr (hb7.1.ext (HX8.out.trans HEX.out)))
            have HLT := Lib.hid hlt
            clear hs hlt c1
            go_wp2_with (go_at_call 41; refine TC2.out.mono ?_; rintro e _ ⟨rfl, rfl⟩)
            go_roundw
            case rel => exact ⟨k + 1, by go_num, by have := HLT.out; omega, HEX.out⟩
            case measure => have := HLT.out; simp [intOf]; omega
          · have hje : k = m := by omega
            subst hje
            have hx1 := HX8.out
            have hbz0 := HB8.out.trans (HEX.out.below.mono HB8.out.size)
            have he1 := HE.out.ext (Ext.of_below hbz0)
            have AC := Lib.hid (awake12_any B0 wr he1.size he1.signs he1.errs he1.pow)
            have HBR := Lib.hid hbz0
            clear hx1 he1 hlt hbz0
            go_wp2_with (go_at_call 38; refine AC.out.mono ?_; rintro e wz ⟨rfl, hbz⟩; have HBZ := Lib.hid (HBR.out.trans (hbz.mono HBR.out.size)); clear hbz)
            go_ret
            exact ⟨rfl, Ext.of_below HBZ.out⟩
    | true =>
      have HLB := Lib.hid hlb
      by_cases hv0 : ver < 0
      · have HNO := Lib.hid (show leafB (T2 k) = false ∨ ver < 0 ∨ 2147483647 < ver from Or.inr (Or.inl hv0))
        clear hlb
        go_upto_region 14 with (first
          | (go_at_call 33; refine (TC.out _ HX0.out).mono ?_; rintro e w1 ⟨bt, bm, tv1, lv1, rfl, hB, hb⟩; have hx1 := Ext.of_below hb; have HS1 : Hid (RtState wc.heap.size bt bm tv1 lv1 l g bs2 v2 T2 V w w1) := Lib.hid ⟨hB, HB0.out.ext hx1, HL0.out.ext hx1, HY0.out.ext hx1, (HX0.out.trans hx1).below, hb.size⟩; have hgw1 := lt_of_heap HS1.out.2.1; have HE1 := Lib.hid (HE.out.ext (Ext.of_below HS1.out.2.2.2.2.1)); have hcl1 := HS1.out.2.1.leaf k hk; clear hB hb hx1)
          | (go_at_call 34; refine (rleafno_any bt (bs2 k) (v2 k) (T2 k) ver B0 w1 HE1.out.signs HE1.out.size (HS1.out.2.2.1 k hk) (HNO.out)).mono ?_; rintro e w2 ⟨rfl, hx2⟩; have HS2 := Lib.hid (HS1.out.ext hx2); have hcl2 := HS2.out.2.1.leaf k hk; have hgw2 := lt_of_heap HS2.out.2.1; clear hx2)
          | (go_at_call 35; refine (rlis_any (bs2 k) (v2 k) (T2 k) w2 (HS2.out.2.2.1 k hk)).mono ?_; rw [HLB.out]; rintro e w3 ⟨rfl, hx3⟩; have HS3 := Lib.hid (HS2.out.ext hx3); clear hx3))
        have hEw := HE.out.ext (Ext.of_below HS3.out.2.2.2.2.1)
        have HEw := Lib.hid hEw
        have hgw := lt_of_heap HS3.out.2.1
        have HBW : Hid (B0 ≤ wc.heap.size) := Lib.hid (Nat.le_trans HE.out.size HX0.out.size)
        obtain ⟨pl, cl, rfl, _, _⟩ := own_texts HS3.out.1.2.1
        clear hEw
        cases htb : trunkB T2 V with
        | false =>
          have RO := Lib.hid (rofno_any bt bs2 v2 T2 V B0 w3 HEw.out.signs HEw.out.size HS3.out.2.2.1 htb)
          have HTB := Lib.hid htb
          clear htb
          go_wp2_with (first
            | (refine wpList_load_row rfl 29 _ rfl g rfl 29 (trC v2 V) (0, 0) _ HS3.out.2.1 Tryz.underlying29 rfl (by kernel_rfl) ?_)
            | (go_at_call 37; refine RO.out.mono ?_; rintro e w5 ⟨rfl, hx5⟩; have HS5 := Lib.hid (HS3.out.ext hx5); have MY := Lib.hid (rtmay_any bs2 v2 T2 V w5 (fun k _ => Nat.le_trans (HTL.out k) (by decide)) HS5.out.2.2.1); rw [HTB.out] at MY; clear hx5)
            | (refine wpList_load_row rfl 29 _ rfl g rfl 29 (trC v2 V) (0, 0) _ HS5.out.2.1 Tryz.underlying29 rfl (by kernel_rfl) ?_)
            | (go_at_call 11; refine MY.out.mono ?_; rintro e w6 ⟨rfl, hx6⟩; have HS6 := Lib.hid (HS5.out.ext hx6); have hE6 := HE.out.ext (Ext.of_below HS6.out.2.2.2.2.1); have AC := Lib.hid (awake12_any B0 w6 hE6.size hE6.signs hE6.errs hE6.pow); have NC := Lib.hid (count_any _ _ _ _ _ w6 HS6.out.1.1); clear hx6 hE6)
            | (go_at_call 31; refine NC.out.mono ?_; rintro e _ ⟨rfl, rfl⟩)
            | (go_at_call 38; refine AC.out.mono ?_; rintro e wz ⟨rfl, hbz⟩; have HBZ := Lib.hid (HS6.out.2.2.2.2.1.trans (hbz.mono HS6.out.2.2.2.2.1.size)); clear hbz))
          go_ret
          exact ⟨rfl, Ext.of_below HBZ.out⟩
        | true =>
          obtain ⟨r, hr⟩ : ∃ r, rootT l T2 V = r := ⟨_, rfl⟩
          have RO := Lib.hid (rof_root _ _ _ _ l bs2 v2 T2 V B0 B0 w3 HS3.out.1.1 HEw.out.signs HBW.out HEw.out.pow HBW.out HS3.out.2.2.1 HS3.out.2.2.2.1 htb (by omega) r hr)
          have HTBT := Lib.hid htb
          have HRR := Lib.hid hr
          clear htb hr
          obtain ⟨yl, n5, ls, e5⟩ := r
          go_wp2_with (first
            | (refine wpList_load_row rfl 29 _ rfl g rfl 29 (trC v2 V) (0, 0) _ HS3.out.2.1 Tryz.underlying29 rfl (by kernel_rfl) ?_)
            | (go_at_call 37; refine RO.out.mono ?_; rintro e w5 ⟨av, tv5, rfl, hown, hT5, hst⟩; obtain ⟨hM5, hb5, hk5⟩ := mid_step HS3.out.1 hT5 hst; have HM5 := Lib.hid hM5; have HA5 := Lib.hid hown; have HT5 := Lib.hid (HS3.out.2.1.kept hk5); have HL5 := Lib.hid (HS3.out.2.2.1.kept HS3.out.2.2.2.1 hk5); have HY5 := Lib.hid (HS3.out.2.2.2.1.kept hk5); have HB5 := Lib.hid (HS3.out.2.2.2.2.1.trans (hb5.mono (Nat.le_trans HX0.out.size (Nat.le_refl _)))); have HW5 := Lib.hid (Nat.le_trans HS3.out.2.2.2.2.2 hb5.size); have MY := Lib.hid (rtmay_any bs2 v2 T2 V w5 (fun k _ => Nat.le_trans (HTL.out k) (by decide)) HL5.out); rw [HTBT.out] at MY; have hgw5 := lt_of_heap HT5.out; obtain ⟨pa, ca, rfl⟩ := own_sl hown; clear hown hT5 hst hM5 hb5 hk5)
            | (refine wpList_load_row rfl 29 _ rfl g rfl 29 (trC v2 V) (0, 0) _ HT5.out Tryz.underlying29 rfl (by kernel_rfl) ?_)
            | (go_at_call 11; refine MY.out.mono ?_; rintro e w6 ⟨rfl, hx6⟩; have HX6 := Lib.hid hx6; have HT6 := Lib.hid (HT5.out.ext hx6); have HM6 : Hid (∃ tv6, Mid wc.heap.size bt bm tv6 _ l yl w6) := Lib.hid (by obtain ⟨tv6, hm⟩ := HM5.out; exact ⟨tv6, hm.ext hx6⟩); have RR := Lib.hid (drof_root wc.heap.size _ l bs2 v2 T2 V w6 (Nat.le_trans HW5.out hx6.size) (by obtain ⟨_, hm⟩ := HM6.out; exact hm.2.1) (by omega) (HL5.out.ext hx6) (HY5.out.ext hx6) HTBT.out _ HRR.out); clear hx6)
            | (refine wpList_load_row rfl 29 _ rfl g rfl 29 (trC v2 V) (0, 0) _ HT6.out Tryz.underlying29 rfl (by kernel_rfl) ?_)
            | (go_at_call 39; refine RR.out.mono ?_; rintro e w7 ⟨lv7, nv, rfl, ho, hn, hg7, hk7⟩; have HST7 : Hid (∃ tv7, Both wc.heap.size bt bm tv7 lv7 yl w7 ∧ Below wc.heap.size w6 w7 ∧ Kept w6 w7) := Lib.hid (by obtain ⟨tv6, hm⟩ := HM6.out; exact ⟨tv6, both_step hm ho hg7 hk7⟩); have HN7 := Lib.hid hn; obtain ⟨p7, c7, rfl, _, hc7⟩ := own_texts ho; have HC7 := Lib.hid hc7; obtain ⟨pn, cn, rfl⟩ := own_sl hn; clear ho hn hg7 hk7 hc7)
            | (go_at_call 40; have hA7 : w7.ownsRow w3.heap.size 3 1 _ ls.length (cellsI ls) := own_kept (own_ext HA5.out HX6.out) (by obtain ⟨_, _, _, hk⟩ := HST7.out; exact hk) (by decide) (by decide); refine (same12_any _ _ ls w7 (own_maxl hA7) (ints_own hA7) (ints_own HN7.out)).mono ?_; rintro e w8 ⟨rfl, hx8⟩; have HX8 := Lib.hid hx8; have NC : Hid (Calls Tryz.prog 31 #[.pointer (some ⟨bt, 0, none⟩)] w8 fun e w' => e = .returned (.int .i64 (yl.length : Int)) ∧ w8 = w') := Lib.hid (by obtain ⟨_, hb7, _⟩ := HST7.out; exact count_any _ _ _ _ _ w8 (hb7.1.ext hx8)); clear hA7 hx8)
            | (go_at_call 31; refine NC.out.mono ?_; rintro e _ ⟨rfl, rfl⟩))
          obtain ⟨m, hm⟩ : ∃ m, yl.length = m := ⟨_, rfl⟩
          have HM := Lib.hid hm
          have hmI : m ≤ 65536 := by obtain ⟨_, hb7, _⟩ := HST7.out; have := hb7.1.2.2.2.2.2.2.2.2.2; omega
          have HB8 : Hid (Below w.heap.size w w8) := Lib.hid (by
            obtain ⟨_, _, hb7, _⟩ := HST7.out
            have e6 := HB5.out.trans (HX6.out.below.mono HB5.out.size)
            have e7 := e6.trans (hb7.mono HX0.out.size)
            exact e7.trans (HX8.out.below.mono e7.size))
          rw [hm]
          clear hm
          go_loopw [21] (fun ii wr => ∃ k : Nat, ii = .int .i64 (k : Int) ∧ k ≤ m ∧ Ext w8 wr) (fun ii _ => m - (intOf ii).toNat)
          case atStart => exact ⟨0, rfl, Nat.zero_le _, Ext.refl _⟩
          case round =>
            obtain ⟨k, rfl, hk, hext⟩ := hrel
            have HEX := Lib.hid hext
            clear hext
            have hmI3 : (m : Int) ≤ 65536 := by omega
            by_cases hlt : k < m
            · obtain ⟨s, hs⟩ : ∃ s, yl[k]? = some s := ⟨_, List.getElem?_eq_getElem (by have := HM.out; omega)⟩
              obtain ⟨b, off, rfl, c1⟩ := HC7.out k s hs
              have a1 := cell_ext c1 (HX8.out.trans HEX.out)
              have hg := World.block_lt_of_cell? _ _ a1
              have hkI : (k : Int) < (m : Int) := by omega
              have hk0 : (0 : Int) ≤ (k : Int) := by omega
              have TC2 := Lib.hid (show Calls Tryz.prog 41 #[.pointer (some ⟨bt, 0, none⟩), .int .i64 ((k : Int) + 1)] wr fun e w' => e = .returned (.tuple #[.string s, .int .i64 0]) ∧ wr = w' from by
                obtain ⟨_, hb7, _⟩ := HST7.out
                exact ttext_ok _ _ _ _ yl k s hs wr (hb7.1.ext (HX8.out.trans HEX.out)))
              have HLT := Lib.hid hlt
              clear hs hlt c1
              go_wp2_with (go_at_call 41; refine TC2.out.mono ?_; rintro e _ ⟨rfl, rfl⟩)
              go_roundw
              case rel => exact ⟨k + 1, by go_num, by have := HLT.out; omega, HEX.out⟩
              case measure => have := HLT.out; simp [intOf]; omega
            · have hje : k = m := by omega
              subst hje
              have hx1 := HX8.out
              have hbz0 := HB8.out.trans (HEX.out.below.mono HB8.out.size)
              have he1 := HE.out.ext (Ext.of_below hbz0)
              have AC := Lib.hid (awake12_any B0 wr he1.size he1.signs he1.errs he1.pow)
              have HBR := Lib.hid hbz0
              clear hx1 he1 hlt hbz0
              go_wp2_with (go_at_call 38; refine AC.out.mono ?_; rintro e wz ⟨rfl, hbz⟩; have HBZ := Lib.hid (HBR.out.trans (hbz.mono HBR.out.size)); clear hbz)
              go_ret
              exact ⟨rfl, Ext.of_below HBZ.out⟩
      by_cases hv1 : 2147483647 < ver
      · have HNO := Lib.hid (show leafB (T2 k) = false ∨ ver < 0 ∨ 2147483647 < ver from Or.inr (Or.inr hv1))
        have hv2 : 0 ≤ ver := by omega
        clear hlb hv0
        go_upto_region 14 with (first
          | (go_at_call 33; refine (TC.out _ HX0.out).mono ?_; rintro e w1 ⟨bt, bm, tv1, lv1, rfl, hB, hb⟩; have hx1 := Ext.of_below hb; have HS1 : Hid (RtState wc.heap.size bt bm tv1 lv1 l g bs2 v2 T2 V w w1) := Lib.hid ⟨hB, HB0.out.ext hx1, HL0.out.ext hx1, HY0.out.ext hx1, (HX0.out.trans hx1).below, hb.size⟩; have hgw1 := lt_of_heap HS1.out.2.1; have HE1 := Lib.hid (HE.out.ext (Ext.of_below HS1.out.2.2.2.2.1)); have hcl1 := HS1.out.2.1.leaf k hk; clear hB hb hx1)
          | (go_at_call 34; refine (rleafno_any bt (bs2 k) (v2 k) (T2 k) ver B0 w1 HE1.out.signs HE1.out.size (HS1.out.2.2.1 k hk) (HNO.out)).mono ?_; rintro e w2 ⟨rfl, hx2⟩; have HS2 := Lib.hid (HS1.out.ext hx2); have hcl2 := HS2.out.2.1.leaf k hk; have hgw2 := lt_of_heap HS2.out.2.1; clear hx2)
          | (go_at_call 35; refine (rlis_any (bs2 k) (v2 k) (T2 k) w2 (HS2.out.2.2.1 k hk)).mono ?_; rw [HLB.out]; rintro e w3 ⟨rfl, hx3⟩; have HS3 := Lib.hid (HS2.out.ext hx3); clear hx3))
        have hEw := HE.out.ext (Ext.of_below HS3.out.2.2.2.2.1)
        have HEw := Lib.hid hEw
        have hgw := lt_of_heap HS3.out.2.1
        have HBW : Hid (B0 ≤ wc.heap.size) := Lib.hid (Nat.le_trans HE.out.size HX0.out.size)
        obtain ⟨pl, cl, rfl, _, _⟩ := own_texts HS3.out.1.2.1
        clear hEw
        cases htb : trunkB T2 V with
        | false =>
          have RO := Lib.hid (rofno_any bt bs2 v2 T2 V B0 w3 HEw.out.signs HEw.out.size HS3.out.2.2.1 htb)
          have HTB := Lib.hid htb
          clear htb
          go_wp2_with (first
            | (refine wpList_load_row rfl 29 _ rfl g rfl 29 (trC v2 V) (0, 0) _ HS3.out.2.1 Tryz.underlying29 rfl (by kernel_rfl) ?_)
            | (go_at_call 37; refine RO.out.mono ?_; rintro e w5 ⟨rfl, hx5⟩; have HS5 := Lib.hid (HS3.out.ext hx5); have MY := Lib.hid (rtmay_any bs2 v2 T2 V w5 (fun k _ => Nat.le_trans (HTL.out k) (by decide)) HS5.out.2.2.1); rw [HTB.out] at MY; clear hx5)
            | (refine wpList_load_row rfl 29 _ rfl g rfl 29 (trC v2 V) (0, 0) _ HS5.out.2.1 Tryz.underlying29 rfl (by kernel_rfl) ?_)
            | (go_at_call 11; refine MY.out.mono ?_; rintro e w6 ⟨rfl, hx6⟩; have HS6 := Lib.hid (HS5.out.ext hx6); have hE6 := HE.out.ext (Ext.of_below HS6.out.2.2.2.2.1); have AC := Lib.hid (awake12_any B0 w6 hE6.size hE6.signs hE6.errs hE6.pow); have NC := Lib.hid (count_any _ _ _ _ _ w6 HS6.out.1.1); clear hx6 hE6)
            | (go_at_call 31; refine NC.out.mono ?_; rintro e _ ⟨rfl, rfl⟩)
            | (go_at_call 38; refine AC.out.mono ?_; rintro e wz ⟨rfl, hbz⟩; have HBZ := Lib.hid (HS6.out.2.2.2.2.1.trans (hbz.mono HS6.out.2.2.2.2.1.size)); clear hbz))
          go_ret
          exact ⟨rfl, Ext.of_below HBZ.out⟩
        | true =>
          obtain ⟨r, hr⟩ : ∃ r, rootT l T2 V = r := ⟨_, rfl⟩
          have RO := Lib.hid (rof_root _ _ _ _ l bs2 v2 T2 V B0 B0 w3 HS3.out.1.1 HEw.out.signs HBW.out HEw.out.pow HBW.out HS3.out.2.2.1 HS3.out.2.2.2.1 htb (by omega) r hr)
          have HTBT := Lib.hid htb
          have HRR := Lib.hid hr
          clear htb hr
          obtain ⟨yl, n5, ls, e5⟩ := r
          go_wp2_with (first
            | (refine wpList_load_row rfl 29 _ rfl g rfl 29 (trC v2 V) (0, 0) _ HS3.out.2.1 Tryz.underlying29 rfl (by kernel_rfl) ?_)
            | (go_at_call 37; refine RO.out.mono ?_; rintro e w5 ⟨av, tv5, rfl, hown, hT5, hst⟩; obtain ⟨hM5, hb5, hk5⟩ := mid_step HS3.out.1 hT5 hst; have HM5 := Lib.hid hM5; have HA5 := Lib.hid hown; have HT5 := Lib.hid (HS3.out.2.1.kept hk5); have HL5 := Lib.hid (HS3.out.2.2.1.kept HS3.out.2.2.2.1 hk5); have HY5 := Lib.hid (HS3.out.2.2.2.1.kept hk5); have HB5 := Lib.hid (HS3.out.2.2.2.2.1.trans (hb5.mono (Nat.le_trans HX0.out.size (Nat.le_refl _)))); have HW5 := Lib.hid (Nat.le_trans HS3.out.2.2.2.2.2 hb5.size); have MY := Lib.hid (rtmay_any bs2 v2 T2 V w5 (fun k _ => Nat.le_trans (HTL.out k) (by decide)) HL5.out); rw [HTBT.out] at MY; have hgw5 := lt_of_heap HT5.out; obtain ⟨pa, ca, rfl⟩ := own_sl hown; clear hown hT5 hst hM5 hb5 hk5)
            | (refine wpList_load_row rfl 29 _ rfl g rfl 29 (trC v2 V) (0, 0) _ HT5.out Tryz.underlying29 rfl (by kernel_rfl) ?_)
            | (go_at_call 11; refine MY.out.mono ?_; rintro e w6 ⟨rfl, hx6⟩; have HX6 := Lib.hid hx6; have HT6 := Lib.hid (HT5.out.ext hx6); have HM6 : Hid (∃ tv6, Mid wc.heap.size bt bm tv6 _ l yl w6) := Lib.hid (by obtain ⟨tv6, hm⟩ := HM5.out; exact ⟨tv6, hm.ext hx6⟩); have RR := Lib.hid (drof_root wc.heap.size _ l bs2 v2 T2 V w6 (Nat.le_trans HW5.out hx6.size) (by obtain ⟨_, hm⟩ := HM6.out; exact hm.2.1) (by omega) (HL5.out.ext hx6) (HY5.out.ext hx6) HTBT.out _ HRR.out); clear hx6)
            | (refine wpList_load_row rfl 29 _ rfl g rfl 29 (trC v2 V) (0, 0) _ HT6.out Tryz.underlying29 rfl (by kernel_rfl) ?_)
            | (go_at_call 39; refine RR.out.mono ?_; rintro e w7 ⟨lv7, nv, rfl, ho, hn, hg7, hk7⟩; have HST7 : Hid (∃ tv7, Both wc.heap.size bt bm tv7 lv7 yl w7 ∧ Below wc.heap.size w6 w7 ∧ Kept w6 w7) := Lib.hid (by obtain ⟨tv6, hm⟩ := HM6.out; exact ⟨tv6, both_step hm ho hg7 hk7⟩); have HN7 := Lib.hid hn; obtain ⟨p7, c7, rfl, _, hc7⟩ := own_texts ho; have HC7 := Lib.hid hc7; obtain ⟨pn, cn, rfl⟩ := own_sl hn; clear ho hn hg7 hk7 hc7)
            | (go_at_call 40; have hA7 : w7.ownsRow w3.heap.size 3 1 _ ls.length (cellsI ls) := own_kept (own_ext HA5.out HX6.out) (by obtain ⟨_, _, _, hk⟩ := HST7.out; exact hk) (by decide) (by decide); refine (same12_any _ _ ls w7 (own_maxl hA7) (ints_own hA7) (ints_own HN7.out)).mono ?_; rintro e w8 ⟨rfl, hx8⟩; have HX8 := Lib.hid hx8; have NC : Hid (Calls Tryz.prog 31 #[.pointer (some ⟨bt, 0, none⟩)] w8 fun e w' => e = .returned (.int .i64 (yl.length : Int)) ∧ w8 = w') := Lib.hid (by obtain ⟨_, hb7, _⟩ := HST7.out; exact count_any _ _ _ _ _ w8 (hb7.1.ext hx8)); clear hA7 hx8)
            | (go_at_call 31; refine NC.out.mono ?_; rintro e _ ⟨rfl, rfl⟩))
          obtain ⟨m, hm⟩ : ∃ m, yl.length = m := ⟨_, rfl⟩
          have HM := Lib.hid hm
          have hmI : m ≤ 65536 := by obtain ⟨_, hb7, _⟩ := HST7.out; have := hb7.1.2.2.2.2.2.2.2.2.2; omega
          have HB8 : Hid (Below w.heap.size w w8) := Lib.hid (by
            obtain ⟨_, _, hb7, _⟩ := HST7.out
            have e6 := HB5.out.trans (HX6.out.below.mono HB5.out.size)
            have e7 := e6.trans (hb7.mono HX0.out.size)
            exact e7.trans (HX8.out.below.mono e7.size))
          rw [hm]
          clear hm
          go_loopw [21] (fun ii wr => ∃ k : Nat, ii = .int .i64 (k : Int) ∧ k ≤ m ∧ Ext w8 wr) (fun ii _ => m - (intOf ii).toNat)
          case atStart => exact ⟨0, rfl, Nat.zero_le _, Ext.refl _⟩
          case round =>
            obtain ⟨k, rfl, hk, hext⟩ := hrel
            have HEX := Lib.hid hext
            clear hext
            have hmI3 : (m : Int) ≤ 65536 := by omega
            by_cases hlt : k < m
            · obtain ⟨s, hs⟩ : ∃ s, yl[k]? = some s := ⟨_, List.getElem?_eq_getElem (by have := HM.out; omega)⟩
              obtain ⟨b, off, rfl, c1⟩ := HC7.out k s hs
              have a1 := cell_ext c1 (HX8.out.trans HEX.out)
              have hg := World.block_lt_of_cell? _ _ a1
              have hkI : (k : Int) < (m : Int) := by omega
              have hk0 : (0 : Int) ≤ (k : Int) := by omega
              have TC2 := Lib.hid (show Calls Tryz.prog 41 #[.pointer (some ⟨bt, 0, none⟩), .int .i64 ((k : Int) + 1)] wr fun e w' => e = .returned (.tuple #[.string s, .int .i64 0]) ∧ wr = w' from by
                obtain ⟨_, hb7, _⟩ := HST7.out
                exact ttext_ok _ _ _ _ yl k s hs wr (hb7.1.ext (HX8.out.trans HEX.out)))
              have HLT := Lib.hid hlt
              clear hs hlt c1
              go_wp2_with (go_at_call 41; refine TC2.out.mono ?_; rintro e _ ⟨rfl, rfl⟩)
              go_roundw
              case rel => exact ⟨k + 1, by go_num, by have := HLT.out; omega, HEX.out⟩
              case measure => have := HLT.out; simp [intOf]; omega
            · have hje : k = m := by omega
              subst hje
              have hx1 := HX8.out
              have hbz0 := HB8.out.trans (HEX.out.below.mono HB8.out.size)
              have he1 := HE.out.ext (Ext.of_below hbz0)
              have AC := Lib.hid (awake12_any B0 wr he1.size he1.signs he1.errs he1.pow)
              have HBR := Lib.hid hbz0
              clear hx1 he1 hlt hbz0
              go_wp2_with (go_at_call 38; refine AC.out.mono ?_; rintro e wz ⟨rfl, hbz⟩; have HBZ := Lib.hid (HBR.out.trans (hbz.mono HBR.out.size)); clear hbz)
              go_ret
              exact ⟨rfl, Ext.of_below HBZ.out⟩
      obtain ⟨ro, hro⟩ : ∃ ro, leafT l (T2 k) ver = ro := ⟨_, rfl⟩
      have HRO := Lib.hid hro
      have hv0 : 0 ≤ ver := by omega
      have hv1 : ver ≤ 2147483647 := by omega
      have HBW0 : Hid (B0 ≤ wc.heap.size) := Lib.hid (Nat.le_trans HE.out.size HX0.out.size)
      have hl3 := (leafT_len l (T2 k) ver (leafB_may hlb).1).1
      rw [hro] at hl3
      clear hlb hro
      obtain ⟨l3, n3, e3⟩ := ro
      dsimp only at hl3
      go_upto_region 14 with (first
        | (go_at_call 33; refine (TC.out _ HX0.out).mono ?_; rintro e w1 ⟨bt, bm, tv1, lv1, rfl, hB, hb⟩; have hx1 := Ext.of_below hb; have HS1 : Hid (RtState wc.heap.size bt bm tv1 lv1 l g bs2 v2 T2 V w w1) := Lib.hid ⟨hB, HB0.out.ext hx1, HL0.out.ext hx1, HY0.out.ext hx1, (HX0.out.trans hx1).below, hb.size⟩; have hgw1 := lt_of_heap HS1.out.2.1; have HE1 := Lib.hid (HE.out.ext (Ext.of_below HS1.out.2.2.2.2.1)); have hcl1 := HS1.out.2.1.leaf k hk; clear hB hb hx1)
        | (go_at_call 34; refine (rleaf_any _ _ _ _ l (bs2 k) (v2 k) (T2 k) ver B0 B0 w1 HS1.out.1.1 HE1.out.signs HBW0.out HE1.out.pow HBW0.out (HS1.out.2.2.1 k hk) HLB.out hv0 hv1 _ HRO.out).mono ?_; rintro e w2 ⟨rfl, tv2, ht2, hs2⟩; obtain ⟨hM2, hb2, hk2⟩ := mid_step HS1.out.1 ht2 hs2; have HM2 := Lib.hid hM2; have HT2 := Lib.hid (HS1.out.2.1.kept hk2); have HL2 := Lib.hid (HS1.out.2.2.1.kept HS1.out.2.2.2.1 hk2); have HY2 := Lib.hid (HS1.out.2.2.2.1.kept hk2); have HB2 := Lib.hid (HS1.out.2.2.2.2.1.trans (hb2.mono HX0.out.size)); have HW2 := Lib.hid (Nat.le_trans HS1.out.2.2.2.2.2 hb2.size); have hcl2 := HT2.out.leaf k hk; have hgw2 := lt_of_heap HT2.out; clear ht2 hs2 hM2 hb2 hk2)
        | (go_at_call 35; refine (rlis_any (bs2 k) (v2 k) (T2 k) w2 (HL2.out k hk)).mono ?_; rw [HLB.out]; rintro e w3 ⟨rfl, hx3⟩; have HX3 := Lib.hid hx3; have HM3 : Hid (∃ tv3, Mid wc.heap.size bt bm tv3 lv1 l l3 w3) := Lib.hid (by obtain ⟨tv3, hm⟩ := HM2.out; exact ⟨tv3, hm.ext hx3⟩); have hcl3 := (HT2.out.ext hx3).leaf k hk; have hgw3 := lt_of_heap (HT2.out.ext hx3); clear hx3)
        | (go_at_call 36; refine (drleaf_any wc.heap.size lv1 l (bs2 k) (v2 k) (T2 k) ver w3 (Nat.le_trans HW2.out HX3.out.size) (by obtain ⟨_, hm⟩ := HM3.out; exact hm.2.1) (by omega) ((HL2.out k hk).ext HX3.out) HLB.out hv0 hv1 _ HRO.out).mono ?_; rintro e w4 ⟨lv4, rfl, ho, hg4, hk4⟩; have HS4 : Hid (∃ tv4, RtState wc.heap.size bt bm tv4 lv4 l3 g bs2 v2 T2 V w w4) := Lib.hid (by obtain ⟨tv3, hm⟩ := HM3.out; obtain ⟨h1, h2, h3⟩ := both_step hm ho hg4 hk4; have hb3 := HB2.out.trans (HX3.out.below.mono HB2.out.size); exact ⟨tv3, h1, (HT2.out.ext HX3.out).kept h3, (HL2.out.ext HX3.out).kept (HY2.out.ext HX3.out) h3, (HY2.out.ext HX3.out).kept h3, hb3.trans (h2.mono HX0.out.size), Nat.le_trans (Nat.le_trans HW2.out HX3.out.size) h2.size⟩); clear ho hg4 hk4))
      obtain ⟨tv4, HS4'⟩ : ∃ tv4, Hid (RtState wc.heap.size bt bm tv4 lv4 l3 g bs2 v2 T2 V w w4) := HS4.out
      have hEw := HE.out.ext (Ext.of_below HS4'.out.2.2.2.2.1)
      have HEw := Lib.hid hEw
      have hgw := lt_of_heap HS4'.out.2.1
      have HBW : Hid (B0 ≤ wc.heap.size) := Lib.hid (Nat.le_trans HE.out.size HX0.out.size)
      obtain ⟨pl, cl, rfl, _, _⟩ := own_texts HS4'.out.1.2.1
      clear hEw
      cases htb : trunkB T2 V with
      | false =>
        have RO := Lib.hid (rofno_any bt bs2 v2 T2 V B0 w4 HEw.out.signs HEw.out.size HS4'.out.2.2.1 htb)
        have HTB := Lib.hid htb
        clear htb
        go_wp2_with (first
          | (refine wpList_load_row rfl 29 _ rfl g rfl 29 (trC v2 V) (0, 0) _ HS4'.out.2.1 Tryz.underlying29 rfl (by kernel_rfl) ?_)
          | (go_at_call 37; refine RO.out.mono ?_; rintro e w5 ⟨rfl, hx5⟩; have HS5 := Lib.hid (HS4'.out.ext hx5); have MY := Lib.hid (rtmay_any bs2 v2 T2 V w5 (fun k _ => Nat.le_trans (HTL.out k) (by decide)) HS5.out.2.2.1); rw [HTB.out] at MY; clear hx5)
          | (refine wpList_load_row rfl 29 _ rfl g rfl 29 (trC v2 V) (0, 0) _ HS5.out.2.1 Tryz.underlying29 rfl (by kernel_rfl) ?_)
          | (go_at_call 11; refine MY.out.mono ?_; rintro e w6 ⟨rfl, hx6⟩; have HS6 := Lib.hid (HS5.out.ext hx6); have hE6 := HE.out.ext (Ext.of_below HS6.out.2.2.2.2.1); have AC := Lib.hid (awake12_any B0 w6 hE6.size hE6.signs hE6.errs hE6.pow); have NC := Lib.hid (count_any _ _ _ _ _ w6 HS6.out.1.1); clear hx6 hE6)
          | (go_at_call 31; refine NC.out.mono ?_; rintro e _ ⟨rfl, rfl⟩)
          | (go_at_call 38; refine AC.out.mono ?_; rintro e wz ⟨rfl, hbz⟩; have HBZ := Lib.hid (HS6.out.2.2.2.2.1.trans (hbz.mono HS6.out.2.2.2.2.1.size)); clear hbz))
        go_ret
        exact ⟨rfl, Ext.of_below HBZ.out⟩
      | true =>
        obtain ⟨r, hr⟩ : ∃ r, rootT l3 T2 V = r := ⟨_, rfl⟩
        have RO := Lib.hid (rof_root _ _ _ _ l3 bs2 v2 T2 V B0 B0 w4 HS4'.out.1.1 HEw.out.signs HBW.out HEw.out.pow HBW.out HS4'.out.2.2.1 HS4'.out.2.2.2.1 htb (by omega) r hr)
        have HTBT := Lib.hid htb
        have HRR := Lib.hid hr
        clear htb hr
        obtain ⟨yl, n5, ls, e5⟩ := r
        go_wp2_with (first
          | (refine wpList_load_row rfl 29 _ rfl g rfl 29 (trC v2 V) (0, 0) _ HS4'.out.2.1 Tryz.underlying29 rfl (by kernel_rfl) ?_)
          | (go_at_call 37; refine RO.out.mono ?_; rintro e w5 ⟨av, tv5, rfl, hown, hT5, hst⟩; obtain ⟨hM5, hb5, hk5⟩ := mid_step HS4'.out.1 hT5 hst; have HM5 := Lib.hid hM5; have HA5 := Lib.hid hown; have HT5 := Lib.hid (HS4'.out.2.1.kept hk5); have HL5 := Lib.hid (HS4'.out.2.2.1.kept HS4'.out.2.2.2.1 hk5); have HY5 := Lib.hid (HS4'.out.2.2.2.1.kept hk5); have HB5 := Lib.hid (HS4'.out.2.2.2.2.1.trans (hb5.mono (Nat.le_trans HX0.out.size (Nat.le_refl _)))); have HW5 := Lib.hid (Nat.le_trans HS4'.out.2.2.2.2.2 hb5.size); have MY := Lib.hid (rtmay_any bs2 v2 T2 V w5 (fun k _ => Nat.le_trans (HTL.out k) (by decide)) HL5.out); rw [HTBT.out] at MY; have hgw5 := lt_of_heap HT5.out; obtain ⟨pa, ca, rfl⟩ := own_sl hown; clear hown hT5 hst hM5 hb5 hk5)
          | (refine wpList_load_row rfl 29 _ rfl g rfl 29 (trC v2 V) (0, 0) _ HT5.out Tryz.underlying29 rfl (by kernel_rfl) ?_)
          | (go_at_call 11; refine MY.out.mono ?_; rintro e w6 ⟨rfl, hx6⟩; have HX6 := Lib.hid hx6; have HT6 := Lib.hid (HT5.out.ext hx6); have HM6 : Hid (∃ tv6, Mid wc.heap.size bt bm tv6 _ l3 yl w6) := Lib.hid (by obtain ⟨tv6, hm⟩ := HM5.out; exact ⟨tv6, hm.ext hx6⟩); have RR := Lib.hid (drof_root wc.heap.size _ l3 bs2 v2 T2 V w6 (Nat.le_trans HW5.out hx6.size) (by obtain ⟨_, hm⟩ := HM6.out; exact hm.2.1) (by omega) (HL5.out.ext hx6) (HY5.out.ext hx6) HTBT.out _ HRR.out); clear hx6)
          | (refine wpList_load_row rfl 29 _ rfl g rfl 29 (trC v2 V) (0, 0) _ HT6.out Tryz.underlying29 rfl (by kernel_rfl) ?_)
          | (go_at_call 39; refine RR.out.mono ?_; rintro e w7 ⟨lv7, nv, rfl, ho, hn, hg7, hk7⟩; have HST7 : Hid (∃ tv7, Both wc.heap.size bt bm tv7 lv7 yl w7 ∧ Below wc.heap.size w6 w7 ∧ Kept w6 w7) := Lib.hid (by obtain ⟨tv6, hm⟩ := HM6.out; exact ⟨tv6, both_step hm ho hg7 hk7⟩); have HN7 := Lib.hid hn; obtain ⟨p7, c7, rfl, _, hc7⟩ := own_texts ho; have HC7 := Lib.hid hc7; obtain ⟨pn, cn, rfl⟩ := own_sl hn; clear ho hn hg7 hk7 hc7)
          | (go_at_call 40; have hA7 : w7.ownsRow w4.heap.size 3 1 _ ls.length (cellsI ls) := own_kept (own_ext HA5.out HX6.out) (by obtain ⟨_, _, _, hk⟩ := HST7.out; exact hk) (by decide) (by decide); refine (same12_any _ _ ls w7 (own_maxl hA7) (ints_own hA7) (ints_own HN7.out)).mono ?_; rintro e w8 ⟨rfl, hx8⟩; have HX8 := Lib.hid hx8; have NC : Hid (Calls Tryz.prog 31 #[.pointer (some ⟨bt, 0, none⟩)] w8 fun e w' => e = .returned (.int .i64 (yl.length : Int)) ∧ w8 = w') := Lib.hid (by obtain ⟨_, hb7, _⟩ := HST7.out; exact count_any _ _ _ _ _ w8 (hb7.1.ext hx8)); clear hA7 hx8)
          | (go_at_call 31; refine NC.out.mono ?_; rintro e _ ⟨rfl, rfl⟩))
        obtain ⟨m, hm⟩ : ∃ m, yl.length = m := ⟨_, rfl⟩
        have HM := Lib.hid hm
        have hmI : m ≤ 65536 := by obtain ⟨_, hb7, _⟩ := HST7.out; have := hb7.1.2.2.2.2.2.2.2.2.2; omega
        have HB8 : Hid (Below w.heap.size w w8) := Lib.hid (by
          obtain ⟨_, _, hb7, _⟩ := HST7.out
          have e6 := HB5.out.trans (HX6.out.below.mono HB5.out.size)
          have e7 := e6.trans (hb7.mono HX0.out.size)
          exact e7.trans (HX8.out.below.mono e7.size))
        rw [hm]
        clear hm
        go_loopw [21] (fun ii wr => ∃ k : Nat, ii = .int .i64 (k : Int) ∧ k ≤ m ∧ Ext w8 wr) (fun ii _ => m - (intOf ii).toNat)
        case atStart => exact ⟨0, rfl, Nat.zero_le _, Ext.refl _⟩
        case round =>
          obtain ⟨k, rfl, hk, hext⟩ := hrel
          have HEX := Lib.hid hext
          clear hext
          have hmI3 : (m : Int) ≤ 65536 := by omega
          by_cases hlt : k < m
          · obtain ⟨s, hs⟩ : ∃ s, yl[k]? = some s := ⟨_, List.getElem?_eq_getElem (by have := HM.out; omega)⟩
            obtain ⟨b, off, rfl, c1⟩ := HC7.out k s hs
            have a1 := cell_ext c1 (HX8.out.trans HEX.out)
            have hg := World.block_lt_of_cell? _ _ a1
            have hkI : (k : Int) < (m : Int) := by omega
            have hk0 : (0 : Int) ≤ (k : Int) := by omega
            have TC2 := Lib.hid (show Calls Tryz.prog 41 #[.pointer (some ⟨bt, 0, none⟩), .int .i64 ((k : Int) + 1)] wr fun e w' => e = .returned (.tuple #[.string s, .int .i64 0]) ∧ wr = w' from by
              obtain ⟨_, hb7, _⟩ := HST7.out
              exact ttext_ok _ _ _ _ yl k s hs wr (hb7.1.ext (HX8.out.trans HEX.out)))
            have HLT := Lib.hid hlt
            clear hs hlt c1
            go_wp2_with (go_at_call 41; refine TC2.out.mono ?_; rintro e _ ⟨rfl, rfl⟩)
            go_roundw
            case rel => exact ⟨k + 1, by go_num, by have := HLT.out; omega, HEX.out⟩
            case measure => have := HLT.out; simp [intOf]; omega
          · have hje : k = m := by omega
            subst hje
            have hx1 := HX8.out
            have hbz0 := HB8.out.trans (HEX.out.below.mono HB8.out.size)
            have he1 := HE.out.ext (Ext.of_below hbz0)
            have AC := Lib.hid (awake12_any B0 wr he1.size he1.signs he1.errs he1.pow)
            have HBR := Lib.hid hbz0
            clear hx1 he1 hlt hbz0
            go_wp2_with (go_at_call 38; refine AC.out.mono ?_; rintro e wz ⟨rfl, hbz⟩; have HBZ := Lib.hid (HBR.out.trans (hbz.mono HBR.out.size)); clear hbz)
            go_ret
            exact ⟨rfl, Ext.of_below HBZ.out⟩
end Go.Proofs.YtpchohjkelopoaaGreatDoor
