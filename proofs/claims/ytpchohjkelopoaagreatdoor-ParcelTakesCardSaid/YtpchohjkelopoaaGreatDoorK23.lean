/- Lemmas for the claim (texts PaN, what its proof uses of them). -/
import Derived.Test.YtpchohjkelopoaaGreatDoorK21
set_option linter.unusedSimpArgs false
set_option linter.unusedVariables false
set_option maxRecDepth 20000
namespace Go.Proofs.YtpchohjkelopoaaGreatDoor
open Go.RowKit
attribute [go_sem] more_more Array.size_append
theorem alloc_at (W : World) (o : Obj) {M : Nat} (h : W.heap.size = M) : (W.alloc o).heap[M]? = some o := by rw [← h]; exact heap_alloc_new W o
theorem AvBlk.otherRow {w : World} {N M : Nat} {L : Nat → Int} (h : AvBlk w N L) (hne : N ≠ M) (x : Array Value) : AvBlk (w.setRow M x) N L := by
  unfold AvBlk at h ⊢
  rw [setRow_other _ _ _ _ hne]; exact h
theorem leavesT_len (T : Nat → List It) (V : Nat → Int) : ∀ (bs : List Nat) (l : List ByteArray), (leavesT T V bs l).2.2 = 0 → (leavesT T V bs l).2.1.length = bs.length
  | [], _, _ => rfl
  | b :: bs, l, h => by
    unfold leavesT at h ⊢
    split
    · next h1 => rw [if_pos h1] at h; exact absurd h h1
    · next h1 =>
      rw [if_neg h1] at h
      split
      · next h2 => rw [if_pos h2] at h; exact absurd h h2
      · next h2 => simp [leavesT_len T V bs _ (by simpa using h2)]
def RCratePost (B : Nat) (lv : Value) (r : List ByteArray × Cr × Int) (w : World) (e : Ending) (w' : World) : Prop :=
  ∃ v' bs v, e = .returned (.tuple #[v', .agg (r.2.1.cells v), .int .i64 r.2.2]) ∧ w'.ownsRow B 9 1 v' r.1.length (r.1.map Value.string) ∧ w.grownBy w' lv.ownBlock ∧ (v'.ownBlock = lv.ownBlock ∨ ∃ k, v'.ownBlock = some k ∧ w.heap.size ≤ k) ∧ LvsAt w' bs v r.2.1.T ∧ LvTy w' bs r.2.1.T
set_option maxHeartbeats 8000000 in
theorem rbegin_any (B : Nat) (lv : Value) (l : List ByteArray) (a b c : Int) (L : Nat → Int) (bs : Nat → Nat) (v : Nat → Value) (T : Nat → List It) (V : Nat → Int) (w : World) (hBw : B ≤ w.heap.size) (hown : w.ownsRow B 9 1 lv l.length (l.map Value.string)) (hll : l.length ≤ 700)
    (h : LvsAt w bs v T) (hy : LvTy w bs T) (hyes : trunkB T V = true) (r : List ByteArray × Cr × Int) (hr : beginF l ⟨a, b, c, L⟩ T V = r) :
    Calls Tryz.prog 14 #[lv, .agg (mfC a b c L), .agg (trC v V)] w (RCratePost B lv r w) := by
  obtain ⟨q, hq⟩ : ∃ q, leavesT T V (List.range 16) l = q := ⟨_, rfl⟩
  have hln := leavesT_len T V (List.range 16) l
  have LV := Lib.hid fun (W : World) (hx : Ext w W) => rleaves15_any B lv l bs v T V W (Nat.le_trans hBw hx.size) (own_ext hown hx) hll (h.ext hx) (hy.ext hx) hyes q hq
  unfold beginF at hr
  rw [hq] at hr hln
  have HR := Lib.hid hr
  have HOWN := Lib.hid hown
  have HL := Lib.hid h
  have HY := Lib.hid hy
  have HD : ∀ (o3 : Obj) (W : World), W = (((w.alloc (.cells (mfC a b c L) 25)).alloc (.cells (trC v V) 29)).alloc o3) → MfBlk W w.heap.size a b c L ∧ TrBlk W (w.heap.size + 1) v V ∧ W.heap[w.heap.size + 1 + 1]? = some o3 ∧ Ext w W := fun o3 W e => by
    rw [e]; exact ⟨(three_boxes o3).1, (three_boxes o3).2.1, (three_boxes o3).2.2, ((((Ext.refl w).alloc _).alloc _).alloc _)⟩
  have HD := Lib.hid HD
  clear h hy hyes hr hown hq
  obtain ⟨l3, ns, e3⟩ := q
  go_enter Tryz.func14, Tryz.ntmps14
  by_cases he : e3 = 0
  case neg =>
    have he' : (e3 != 0) = true := by simpa using he
    have HRE := Lib.hid (show r = (l3, Cr.none, e3) by have := HR.out; simpa [he] using this.symm)
    clear he hln
    go_wp2_with (first
    | (refine wpList_load_row rfl 29 _ rfl (w.heap.size + 1) rfl 29 (trC v V) (0, 0) _ ((HD.out _ _ rfl).2.1) Tryz.underlying29 rfl (by kernel_rfl) ?_)
    | (go_at_call 56; refine (LV.out _ (by repeat (first | exact Ext.refl _ | apply Ext.alloc | apply Ext.more | apply Ext.drewN))).mono ?_; rintro e w3 ⟨v3, rfl, ho3, hg3, hk3⟩; have H3 := Lib.hid (And.intro ho3 (And.intro hg3 hk3)); obtain ⟨d1, d2, d3, d4⟩ := HD.out _ _ rfl; have HKT := Lib.hid (fun (g : Nat) (cur : Array Value) (ty : TypeId) (fz : Nat × Nat) (hb : _ = some (.cells cur ty fz)) (h1 : ty ≠ 9) => (blk_str (own_ext HOWN.out d4) hg3 (k := g) hb h1).trans hb); have HA3 : Hid (MfBlk w3 w.heap.size a b c L) := Lib.hid (HKT.out _ _ _ _ d1 (by decide)); have HT3 : Hid (TrBlk w3 (w.heap.size + 1) v V) := Lib.hid (HKT.out _ _ _ _ d2 (by decide)); have HB3 : Hid (CrBlk w3 (w.heap.size + 1 + 1) 0 0 0 zeroV noG nilV zeroV) := Lib.hid (show w3.heap[w.heap.size + 1 + 1]? = some (.cells (crC 0 0 0 zeroV noG nilV zeroV) 39 (0, 0)) from (HKT.out _ _ _ _ d3 (by decide)).trans (by kernel_rfl)); have hwz := lt_of_heap HB3.out; have HV4 : Hid (AvBlk ((w3.alloc (.cells #[.int .i64 0, .int .i64 0, .int .i64 0, .int .i64 0, .int .i64 0, .int .i64 0, .int .i64 0, .int .i64 0, .int .i64 0, .int .i64 0, .int .i64 0, .int .i64 0, .int .i64 0, .int .i64 0, .int .i64 0, .int .i64 0] 23)).setRow w3.heap.size (lsC (nsF ns))) w3.heap.size (nsF ns)) := Lib.hid (AvBlk.setRow (show AvBlk (w3.alloc (.cells #[.int .i64 0, .int .i64 0, .int .i64 0, .int .i64 0, .int .i64 0, .int .i64 0, .int .i64 0, .int .i64 0, .int .i64 0, .int .i64 0, .int .i64 0, .int .i64 0, .int .i64 0, .int .i64 0, .int .i64 0, .int .i64 0] 23)) w3.heap.size zeroV from heap_alloc_new w3 _) (nsF ns)); have hxa := (Ext.refl w3).alloc (.cells #[.int .i64 0, .int .i64 0, .int .i64 0, .int .i64 0, .int .i64 0, .int .i64 0, .int .i64 0, .int .i64 0, .int .i64 0, .int .i64 0, .int .i64 0, .int .i64 0, .int .i64 0, .int .i64 0, .int .i64 0, .int .i64 0] 23); have HA4 : Hid (MfBlk ((w3.alloc (.cells #[.int .i64 0, .int .i64 0, .int .i64 0, .int .i64 0, .int .i64 0, .int .i64 0, .int .i64 0, .int .i64 0, .int .i64 0, .int .i64 0, .int .i64 0, .int .i64 0, .int .i64 0, .int .i64 0, .int .i64 0, .int .i64 0] 23)).setRow w3.heap.size (lsC (nsF ns))) w.heap.size a b c L) := Lib.hid (MfBlk.otherRow (HA3.out.ext hxa) (show w.heap.size ≠ w3.heap.size by omega) _); have HT4 : Hid (TrBlk ((w3.alloc (.cells #[.int .i64 0, .int .i64 0, .int .i64 0, .int .i64 0, .int .i64 0, .int .i64 0, .int .i64 0, .int .i64 0, .int .i64 0, .int .i64 0, .int .i64 0, .int .i64 0, .int .i64 0, .int .i64 0, .int .i64 0, .int .i64 0] 23)).setRow w3.heap.size (lsC (nsF ns))) (w.heap.size + 1) v V) := Lib.hid (TrBlk.otherRow (HT3.out.ext hxa) (show w.heap.size + 1 ≠ w3.heap.size by omega) _); have HB4 : Hid (CrBlk ((w3.alloc (.cells #[.int .i64 0, .int .i64 0, .int .i64 0, .int .i64 0, .int .i64 0, .int .i64 0, .int .i64 0, .int .i64 0, .int .i64 0, .int .i64 0, .int .i64 0, .int .i64 0, .int .i64 0, .int .i64 0, .int .i64 0, .int .i64 0] 23)).setRow w3.heap.size (lsC (nsF ns))) (w.heap.size + 1 + 1) 0 0 0 zeroV noG nilV zeroV) := Lib.hid (CrBlk.otherRow (HB3.out.ext hxa) (show w.heap.size + 1 + 1 ≠ w3.heap.size by omega) _); have HO4 : Hid (((w3.alloc (.cells #[.int .i64 0, .int .i64 0, .int .i64 0, .int .i64 0, .int .i64 0, .int .i64 0, .int .i64 0, .int .i64 0, .int .i64 0, .int .i64 0, .int .i64 0, .int .i64 0, .int .i64 0, .int .i64 0, .int .i64 0, .int .i64 0] 23)).setRow w3.heap.size (lsC (nsF ns))).ownsRow B 9 1 v3 l3.length (l3.map Value.string)) := Lib.hid (own_afterR (own_ext ho3 hxa) (heap_alloc_new w3 _) (by decide) _); have HG4 : Hid (w.grownBy ((w3.alloc (.cells #[.int .i64 0, .int .i64 0, .int .i64 0, .int .i64 0, .int .i64 0, .int .i64 0, .int .i64 0, .int .i64 0, .int .i64 0, .int .i64 0, .int .i64 0, .int .i64 0, .int .i64 0, .int .i64 0, .int .i64 0, .int .i64 0] 23)).setRow w3.heap.size (lsC (nsF ns))) lv.ownBlock) := Lib.hid (rstep_new (rstep_new (rstep_trans (v := lv) (v1 := lv) (rstep_ext d4) (Or.inl rfl) hg3) (rstep_ext (row := none) hxa) (fun k h => by cases h)) (grown_row _ w3.heap.size _) (fun k hk => by (obtain rfl := Option.some.inj hk); omega)); have HK4 : Hid (v3.ownBlock = lv.ownBlock ∨ ∃ k, v3.ownBlock = some k ∧ w.heap.size ≤ k) := Lib.hid (rstep_own (w := w) (v := lv) d4.size (Or.inl rfl) hk3); have H30 := Lib.hid hg3; clear ho3 hg3 hk3 hxa d1 d2 d3 d4)
    | (refine wpList_store_rowTo rfl 23 _ _ rfl rfl (w3.heap.size) (lsC (nsF ns)) rfl rfl 23 (lsC zeroV) (heap_alloc_new w3 _) (by kernel_rfl) rfl (ls_all _) ?_)
    | (refine wpList_buildTo rfl 39 #[] rfl _ rfl (crC 0 0 0 zeroV noG nilV zeroV) (by kernel_rfl) ?_)
    | (refine wpList_store_rowTo rfl 39 _ _ rfl rfl (w.heap.size + 1 + 1) (crC 0 0 0 zeroV noG nilV zeroV) rfl rfl 39 (crC 0 0 0 zeroV noG nilV zeroV) (HB4.out) (by kernel_rfl) rfl (zcr_one) ?_))
    rw [HRE.out]
    have hst := rstep_new HG4.out (grown_row _ (w.heap.size + 1 + 1) (crC 0 0 0 zeroV noG nilV zeroV)) (fun k hk => by obtain rfl := Option.some.inj hk; omega)
    exact bodyPost_ret (results_slot_cell_slot (p := 7) (q := 8) (r := 6) (ty := 39) rfl _ _ ⟨w.heap.size + 1 + 1, 0, none⟩ _ rfl (cr_load (HB4.out.setRow 0 0 0 zeroV noG nilV zeroV)) _ _ rfl rfl) rfl ⟨v3, fun _ => 0, nilV, rfl, own_afterR HO4.out HB4.out (by decide) _, hst, HK4.out, lvs_nil _ _, lvty_nil _ _⟩
  subst he
  have HLN := Lib.hid (show ns.length = 16 by have := hln rfl; simpa using this)
  have HRE := Lib.hid (show r = (l3, ⟨⟨a, b, c, L⟩, gotG ns L, haveT (gotG ns L) T, haveV (gotG ns L) V⟩, 0) by have := HR.out; simpa using this.symm)
  clear hln
  go_wp2_with (first
    | (refine wpList_load_row rfl 29 _ rfl (w.heap.size + 1) rfl 29 (trC v V) (0, 0) _ ((HD.out _ _ rfl).2.1) Tryz.underlying29 rfl (by kernel_rfl) ?_)
    | (go_at_call 56; refine (LV.out _ (by repeat (first | exact Ext.refl _ | apply Ext.alloc | apply Ext.more | apply Ext.drewN))).mono ?_; rintro e w3 ⟨v3, rfl, ho3, hg3, hk3⟩; have H3 := Lib.hid (And.intro ho3 (And.intro hg3 hk3)); obtain ⟨d1, d2, d3, d4⟩ := HD.out _ _ rfl; have HKT := Lib.hid (fun (g : Nat) (cur : Array Value) (ty : TypeId) (fz : Nat × Nat) (hb : _ = some (.cells cur ty fz)) (h1 : ty ≠ 9) => (blk_str (own_ext HOWN.out d4) hg3 (k := g) hb h1).trans hb); have HA3 : Hid (MfBlk w3 w.heap.size a b c L) := Lib.hid (HKT.out _ _ _ _ d1 (by decide)); have HT3 : Hid (TrBlk w3 (w.heap.size + 1) v V) := Lib.hid (HKT.out _ _ _ _ d2 (by decide)); have HB3 : Hid (CrBlk w3 (w.heap.size + 1 + 1) 0 0 0 zeroV noG nilV zeroV) := Lib.hid (show w3.heap[w.heap.size + 1 + 1]? = some (.cells (crC 0 0 0 zeroV noG nilV zeroV) 39 (0, 0)) from (HKT.out _ _ _ _ d3 (by decide)).trans (by kernel_rfl)); have hwz := lt_of_heap HB3.out; have HV4 : Hid (AvBlk ((w3.alloc (.cells #[.int .i64 0, .int .i64 0, .int .i64 0, .int .i64 0, .int .i64 0, .int .i64 0, .int .i64 0, .int .i64 0, .int .i64 0, .int .i64 0, .int .i64 0, .int .i64 0, .int .i64 0, .int .i64 0, .int .i64 0, .int .i64 0] 23)).setRow w3.heap.size (lsC (nsF ns))) w3.heap.size (nsF ns)) := Lib.hid (AvBlk.setRow (show AvBlk (w3.alloc (.cells #[.int .i64 0, .int .i64 0, .int .i64 0, .int .i64 0, .int .i64 0, .int .i64 0, .int .i64 0, .int .i64 0, .int .i64 0, .int .i64 0, .int .i64 0, .int .i64 0, .int .i64 0, .int .i64 0, .int .i64 0, .int .i64 0] 23)) w3.heap.size zeroV from heap_alloc_new w3 _) (nsF ns)); have hxa := (Ext.refl w3).alloc (.cells #[.int .i64 0, .int .i64 0, .int .i64 0, .int .i64 0, .int .i64 0, .int .i64 0, .int .i64 0, .int .i64 0, .int .i64 0, .int .i64 0, .int .i64 0, .int .i64 0, .int .i64 0, .int .i64 0, .int .i64 0, .int .i64 0] 23); have HA4 : Hid (MfBlk ((w3.alloc (.cells #[.int .i64 0, .int .i64 0, .int .i64 0, .int .i64 0, .int .i64 0, .int .i64 0, .int .i64 0, .int .i64 0, .int .i64 0, .int .i64 0, .int .i64 0, .int .i64 0, .int .i64 0, .int .i64 0, .int .i64 0, .int .i64 0] 23)).setRow w3.heap.size (lsC (nsF ns))) w.heap.size a b c L) := Lib.hid (MfBlk.otherRow (HA3.out.ext hxa) (show w.heap.size ≠ w3.heap.size by omega) _); have HT4 : Hid (TrBlk ((w3.alloc (.cells #[.int .i64 0, .int .i64 0, .int .i64 0, .int .i64 0, .int .i64 0, .int .i64 0, .int .i64 0, .int .i64 0, .int .i64 0, .int .i64 0, .int .i64 0, .int .i64 0, .int .i64 0, .int .i64 0, .int .i64 0, .int .i64 0] 23)).setRow w3.heap.size (lsC (nsF ns))) (w.heap.size + 1) v V) := Lib.hid (TrBlk.otherRow (HT3.out.ext hxa) (show w.heap.size + 1 ≠ w3.heap.size by omega) _); have HB4 : Hid (CrBlk ((w3.alloc (.cells #[.int .i64 0, .int .i64 0, .int .i64 0, .int .i64 0, .int .i64 0, .int .i64 0, .int .i64 0, .int .i64 0, .int .i64 0, .int .i64 0, .int .i64 0, .int .i64 0, .int .i64 0, .int .i64 0, .int .i64 0, .int .i64 0] 23)).setRow w3.heap.size (lsC (nsF ns))) (w.heap.size + 1 + 1) 0 0 0 zeroV noG nilV zeroV) := Lib.hid (CrBlk.otherRow (HB3.out.ext hxa) (show w.heap.size + 1 + 1 ≠ w3.heap.size by omega) _); have HO4 : Hid (((w3.alloc (.cells #[.int .i64 0, .int .i64 0, .int .i64 0, .int .i64 0, .int .i64 0, .int .i64 0, .int .i64 0, .int .i64 0, .int .i64 0, .int .i64 0, .int .i64 0, .int .i64 0, .int .i64 0, .int .i64 0, .int .i64 0, .int .i64 0] 23)).setRow w3.heap.size (lsC (nsF ns))).ownsRow B 9 1 v3 l3.length (l3.map Value.string)) := Lib.hid (own_afterR (own_ext ho3 hxa) (heap_alloc_new w3 _) (by decide) _); have HG4 : Hid (w.grownBy ((w3.alloc (.cells #[.int .i64 0, .int .i64 0, .int .i64 0, .int .i64 0, .int .i64 0, .int .i64 0, .int .i64 0, .int .i64 0, .int .i64 0, .int .i64 0, .int .i64 0, .int .i64 0, .int .i64 0, .int .i64 0, .int .i64 0, .int .i64 0] 23)).setRow w3.heap.size (lsC (nsF ns))) lv.ownBlock) := Lib.hid (rstep_new (rstep_new (rstep_trans (v := lv) (v1 := lv) (rstep_ext d4) (Or.inl rfl) hg3) (rstep_ext (row := none) hxa) (fun k h => by cases h)) (grown_row _ w3.heap.size _) (fun k hk => by (obtain rfl := Option.some.inj hk); omega)); have HK4 : Hid (v3.ownBlock = lv.ownBlock ∨ ∃ k, v3.ownBlock = some k ∧ w.heap.size ≤ k) := Lib.hid (rstep_own (w := w) (v := lv) d4.size (Or.inl rfl) hk3); have H30 := Lib.hid hg3; clear ho3 hg3 hk3 hxa d1 d2 d3 d4)
    | (refine wpList_store_rowTo rfl 23 _ _ rfl rfl (w3.heap.size) (lsC (nsF ns)) rfl rfl 23 (lsC zeroV) (heap_alloc_new w3 _) (by kernel_rfl) rfl (ls_all _) ?_)
    | (refine wpList_load_row rfl 25 _ rfl (w.heap.size) rfl 25 (mfC a b c L) (0, 0) _ (HA4.out) Tryz.underlying25 rfl (by kernel_rfl) ?_)
    | (refine wpList_buildTo rfl 39 _ rfl _ rfl (crC a b c L noG nilV zeroV) (by kernel_rfl) ?_)
    | (refine wpList_store_rowTo rfl 39 _ _ rfl rfl (w3.heap.size + 1) (crC a b c L noG nilV zeroV) rfl rfl 39 (crC 0 0 0 zeroV noG nilV zeroV) ((alloc_at ((w3.alloc (.cells #[.int .i64 0, .int .i64 0, .int .i64 0, .int .i64 0, .int .i64 0, .int .i64 0, .int .i64 0, .int .i64 0, .int .i64 0, .int .i64 0, .int .i64 0, .int .i64 0, .int .i64 0, .int .i64 0, .int .i64 0, .int .i64 0] 23)).setRow w3.heap.size (lsC (nsF ns))) _ (by simp))) (by kernel_rfl) rfl (crC_one _ _ _ _ _ _ _ nil_one) ?_))
  obtain ⟨N, hN⟩ : ∃ N, w.heap.size = N := ⟨_, rfl⟩
  obtain ⟨M, hM⟩ : ∃ M, w3.heap.size = M := ⟨_, rfl⟩
  have HN := Lib.hid hN
  have hNM : N + 1 + 1 < M := by omega
  rw [hN] at HA4 HT4 HB4
  have hv2 : AvBlk ((w3.alloc (.cells #[.int .i64 0, .int .i64 0, .int .i64 0, .int .i64 0, .int .i64 0, .int .i64 0, .int .i64 0, .int .i64 0, .int .i64 0, .int .i64 0, .int .i64 0, .int .i64 0, .int .i64 0, .int .i64 0, .int .i64 0, .int .i64 0] 23)).setRow w3.heap.size (lsC (nsF ns))) w3.heap.size (nsF ns) := HV4.out
  have hle0 : w.heap.size ≤ w3.heap.size + 1 := by omega
  go_loopw [13] (fun ii wr => ∃ (k : Nat) (vk : Nat → Value), ii = .int .i64 (k : Int) ∧ k ≤ 16 ∧ Hid ((MfBlk wr N a b c L ∧ TrBlk wr (N + 1) v V ∧ CrBlk wr (N + 1 + 1) 0 0 0 zeroV noG nilV zeroV ∧ AvBlk wr M (nsF ns) ∧ CrBlk wr (M + 1) a b c L (gotG (ns.take k) L) vk (haveV (gotG (ns.take k) L) V)) ∧ (LvsAt wr bs vk (haveT (gotG (ns.take k) L) T) ∧ LvTy wr bs (haveT (gotG (ns.take k) L) T)) ∧ wr.ownsRow B 9 1 v3 l3.length (l3.map Value.string) ∧ w.grownBy wr lv.ownBlock ∧ (LvsAt wr bs v T ∧ LvTy wr bs T))) (fun ii _ => 16 - (intOf ii).toNat)
  case atStart =>
    have hsz : ((w3.alloc (.cells #[.int .i64 0, .int .i64 0, .int .i64 0, .int .i64 0, .int .i64 0, .int .i64 0, .int .i64 0, .int .i64 0, .int .i64 0, .int .i64 0, .int .i64 0, .int .i64 0, .int .i64 0, .int .i64 0, .int .i64 0, .int .i64 0] 23)).setRow w3.heap.size (lsC (nsF ns))).heap.size = w3.heap.size + 1 := by simp
    have hx1 := fun (o : Obj) => (Ext.refl ((w3.alloc (.cells #[.int .i64 0, .int .i64 0, .int .i64 0, .int .i64 0, .int .i64 0, .int .i64 0, .int .i64 0, .int .i64 0, .int .i64 0, .int .i64 0, .int .i64 0, .int .i64 0, .int .i64 0, .int .i64 0, .int .i64 0, .int .i64 0] 23)).setRow w3.heap.size (lsC (nsF ns)))).alloc o
    have hl4 : LvsAt ((w3.alloc (.cells #[.int .i64 0, .int .i64 0, .int .i64 0, .int .i64 0, .int .i64 0, .int .i64 0, .int .i64 0, .int .i64 0, .int .i64 0, .int .i64 0, .int .i64 0, .int .i64 0, .int .i64 0, .int .i64 0, .int .i64 0, .int .i64 0] 23)).setRow w3.heap.size (lsC (nsF ns))) bs v T ∧ LvTy ((w3.alloc (.cells #[.int .i64 0, .int .i64 0, .int .i64 0, .int .i64 0, .int .i64 0, .int .i64 0, .int .i64 0, .int .i64 0, .int .i64 0, .int .i64 0, .int .i64 0, .int .i64 0, .int .i64 0, .int .i64 0, .int .i64 0, .int .i64 0] 23)).setRow w3.heap.size (lsC (nsF ns))) bs T := by
      have k1 := LvsAt.keep (HL.out.ext (HD.out _ _ rfl).2.2.2) (HY.out.ext (HD.out _ _ rfl).2.2.2) (fun g cur fz hg => blk_str (own_ext HOWN.out (HD.out _ _ rfl).2.2.2) H30.out hg (by decide))
      exact LvsAt.rowT (k1.1.ext ((Ext.refl w3).alloc _)) (k1.2.ext ((Ext.refl w3).alloc _)) (heap_alloc_new w3 _) (by decide) _
    have hca := fun (o : Obj) => alloc_at ((w3.alloc (.cells #[.int .i64 0, .int .i64 0, .int .i64 0, .int .i64 0, .int .i64 0, .int .i64 0, .int .i64 0, .int .i64 0, .int .i64 0, .int .i64 0, .int .i64 0, .int .i64 0, .int .i64 0, .int .i64 0, .int .i64 0, .int .i64 0] 23)).setRow w3.heap.size (lsC (nsF ns))) o hsz
    refine ⟨0, nilV, rfl, Nat.zero_le _, Lib.hid ⟨⟨?_, ?_, ?_, ?_, ?_⟩, ?_, ?_, ?_, ?_⟩⟩
    · exact MfBlk.otherRow (HA4.out.ext (hx1 _)) (show N ≠ w3.heap.size + 1 by omega) _
    · exact TrBlk.otherRow (HT4.out.ext (hx1 _)) (show N + 1 ≠ w3.heap.size + 1 by omega) _
    · exact CrBlk.otherRow (HB4.out.ext (hx1 _)) (show N + 1 + 1 ≠ w3.heap.size + 1 by omega) _
    · rw [← hM]; exact AvBlk.otherRow (hv2.ext (hx1 _)) (show w3.heap.size ≠ w3.heap.size + 1 by omega) _
    · rw [List.take_zero, gotG_nil, haveV_no, ← hM]; exact setRow_heap _ _ _ _ _ _ (hca _)
    · rw [List.take_zero, gotG_nil, haveT_no]; exact ⟨lvs_nil _ _, lvty_nil _ _⟩
    · exact own_afterR (own_ext HO4.out (hx1 _)) (hca _) (by decide) _
    · exact rstep_new (rstep_new HG4.out (rstep_ext (row := none) (hx1 _)) (fun k h => by cases h)) (grown_row _ (w3.heap.size + 1) _) (fun k hk => by obtain rfl := Option.some.inj hk; exact hle0)
    · exact LvsAt.rowT (hl4.1.ext (hx1 _)) (hl4.2.ext (hx1 _)) (hca _) (by decide) _
  case round =>
    obtain ⟨k, vk, rfl, hk16, hH⟩ := hrel
    rw [hN, hM]
    clear hN hM hv2
    obtain ⟨hA, hT, hB, hV, hC⟩ := hH.out.1
    have HA := Lib.hid hA
    have HT := Lib.hid hT
    have HB := Lib.hid hB
    have HV := Lib.hid hV
    have HC := Lib.hid hC
    clear hA hT hB hV hC
    have hkI2 : (k : Int) ≤ 16 := by omega
    by_cases hk : k < 16
    · have hkI : (k : Int) < 16 := by omega
      have hk0 : (0 : Int) ≤ (k : Int) := by omega
      have cM := HV.out.cell k hk
      have cL := (HA.out.cell (3 + k)).trans (mfC_get a b c L k hk)
      have hNw := lt_of_heap HA.out
      have hMw := lt_of_heap HV.out
      obtain ⟨z, hz⟩ : ∃ z, ns[k]? = some z := ⟨_, List.getElem?_eq_getElem (by have := HLN.out; omega)⟩
      have hnz : nsF ns k = z := by unfold nsF; rw [hz]
      have HTK := Lib.hid (show ns.take (k + 1) = ns.take k ++ [z] by rw [List.take_add_one, hz]; rfl)
      have HLK := Lib.hid (show (ns.take k).length = k by have := HLN.out; simp; omega)
      have HGO := Lib.hid (show gotG (ns.take k) L k = false from gotG_out (by rw [HLK.out]; exact Nat.le_refl _))
      rw [hnz] at cM
      clear hz hnz
      by_cases heq : z = L k
      case neg =>
        have heq' : (z == L k) = false := by simpa using heq
        have HEQ := Lib.hid heq'
        go_wp2_with fail
        refine wp_region_grow 8 61 [false, false, false, false, false, false, false, false] (by kernel_rfl) (by kernel_rfl) rfl ?_
        simp only [List.take_succ_cons, List.take_zero, List.drop_succ_cons, List.drop_zero]
        repeat (refine Lex.step rfl ?_; intro K hK; (first
      | (unfold StepG; go_simp; refine hK _ ?_)); clear hK K)
        refine Lex.nil fun WW hE => ?_
        obtain ⟨dd, oo, rfl⟩ := hE
        unfold FillH
        go_wp2_with fail
        rw [ends_normal]
        go_wp2_with fail
        go_roundw
        case rel =>
          have hx := (Ext.refl wr).more dd oo
          refine ⟨k + 1, vk, by go_num, by omega, Lib.hid ⟨⟨HA.out.ext hx, HT.out.ext hx, HB.out.ext hx, HV.out.ext hx, ?_⟩, ?_, own_ext hH.out.2.2.1 hx, rstep_new hH.out.2.2.2.1 (rstep_ext (row := none) hx) (fun k h => by cases h), hH.out.2.2.2.2.1.ext hx, hH.out.2.2.2.2.2.ext hx⟩⟩
          · rw [HTK.out, gotG_snoc HLK.out, HEQ.out, upd_same HGO.out]; exact HC.out.ext hx
          · rw [HTK.out, gotG_snoc HLK.out, HEQ.out, upd_same HGO.out]; exact ⟨hH.out.2.1.1.ext hx, hH.out.2.1.2.ext hx⟩
        case measure => simp [intOf]; omega
      have HEQ := Lib.hid (show (z == L k) = true by simpa using heq)
      have hcg := HC.out.cellG k hk
      have hcl := HC.out.cellLeaf k hk
      have hcv := HC.out.cellVer k hk
      have hfg := HC.out.frozen (19 + k)
      have hfl := HC.out.frozen (35 + k)
      have hfv := HC.out.frozen (51 + k)
      have hCw := lt_of_heap HC.out
      have tl := HT.out.leaf k hk
      have tv := HT.out.ver k hk
      have hTw := lt_of_heap HT.out
      have hone := hH.out.2.2.2.2.1.one k hk
      go_wp2_with fail
      refine wp_region_grow 8 61 [false, false, false, false, false, false, false, false] (by kernel_rfl) (by kernel_rfl) rfl ?_
      simp only [List.take_succ_cons, List.take_zero, List.drop_succ_cons, List.drop_zero]
      repeat (refine Lex.step rfl ?_; intro K hK; (first
      | (unfold StepG; go_simp; refine hK _ ?_)); clear hK K)
      refine Lex.nil fun WW hE => ?_
      obtain ⟨dd, oo, rfl⟩ := hE
      have hx := (Ext.refl wr).more dd oo
      obtain ⟨W1, hW1⟩ : ∃ W1, more wr dd oo = W1 := ⟨_, rfl⟩
      rw [hW1] at hx ⊢
      have hA1 := HA.out.ext hx
      have hT1 := HT.out.ext hx
      have hB1 := HB.out.ext hx
      have hV1 := HV.out.ext hx
      have hC1 := HC.out.ext hx
      clear hcg hcl hcv hfg hfl hfv hCw tl tv hTw cM cL hNw hMw hW1
      have hcg := hC1.cellG k hk
      have hcl := hC1.cellLeaf k hk
      have hcv := hC1.cellVer k hk
      have hfg := hC1.frozen (19 + k)
      have hfl := hC1.frozen (35 + k)
      have hfv := hC1.frozen (51 + k)
      have hCw := lt_of_heap hC1
      obtain ⟨pk, ck, hvk⟩ : ∃ p cap, v k = .slice p (T k).length cap := by obtain ⟨_, p, cap, e, _⟩ := hH.out.2.2.2.2.1 k hk; exact ⟨p, cap, e⟩
      have tl := hT1.leaf k hk
      rw [hvk] at tl
      have HVK := Lib.hid hvk
      clear hvk hone
      have tv := hT1.ver k hk
      have hTw := lt_of_heap hT1
      have HX1 := Lib.hid hx
      have HA1 := Lib.hid hA1
      have HT1 := Lib.hid hT1
      have HB1 := Lib.hid hB1
      have HV1 := Lib.hid hV1
      have HC1 := Lib.hid hC1
      clear hA1 hT1 hB1 hV1 hC1 hx
      unfold FillH
      go_wp2_with fail
      rw [ends_normal]
      go_wp2_with fail
      go_roundw
      case rel =>
        have D1 := HC1.out.setG k hk true
        have D2 := D1.setLeaf k hk (.slice pk (T k).length ck)
        have D3 := D2.setVer k hk (V k)
        obtain ⟨e1, e2⟩ := LvsAt.upd (bs := bs) (hH.out.2.1.1.ext HX1.out) (hH.out.2.1.2.ext HX1.out) (k := k) (b := bs k) (x := .slice pk (T k).length ck) (l := T k) (by rw [← HVK.out]; exact (hH.out.2.2.2.2.1 k hk).ext HX1.out) (fun hl => (hH.out.2.2.2.2.2.ext HX1.out) k hk hl)
        rw [upd_same (f := bs) rfl] at e1 e2
        obtain ⟨e3, e4⟩ := LvsAt.keep e1 e2 (cell_keep (i := 19 + k) (x := .bool true) HC1.out (by decide))
        obtain ⟨e5, e6⟩ := LvsAt.keep e3 e4 (cell_keep (i := 35 + k) (x := .slice pk (T k).length ck) D1 (by decide))
        obtain ⟨e7, e8⟩ := LvsAt.keep e5 e6 (cell_keep (i := 51 + k) (x := .int .i64 (V k)) D2 (by decide))
        obtain ⟨f3, f4⟩ := LvsAt.keep (hH.out.2.2.2.2.1.ext HX1.out) (hH.out.2.2.2.2.2.ext HX1.out) (cell_keep (i := 19 + k) (x := .bool true) HC1.out (by decide))
        obtain ⟨f5, f6⟩ := LvsAt.keep f3 f4 (cell_keep (i := 35 + k) (x := .slice pk (T k).length ck) D1 (by decide))
        obtain ⟨f7, f8⟩ := LvsAt.keep f5 f6 (cell_keep (i := 51 + k) (x := .int .i64 (V k)) D2 (by decide))
        have hro : ∀ q, some (M + 1) = some q → w.heap.size ≤ q := fun q hq => by obtain rfl := Option.some.inj hq; rw [HN.out]; omega
        refine ⟨k + 1, upd vk k (.slice pk (T k).length ck), by go_num, by omega, Lib.hid ⟨⟨?_, ?_, ?_, ?_, ?_⟩, ?_, ?_, ?_, f7, f8⟩⟩
        · exact ((HA1.out.other (show N ≠ M + 1 by omega) _).other (show N ≠ M + 1 by omega) _).other (show N ≠ M + 1 by omega) _
        · exact ((HT1.out.other (show N + 1 ≠ M + 1 by omega) _).other (show N + 1 ≠ M + 1 by omega) _).other (show N + 1 ≠ M + 1 by omega) _
        · exact ((HB1.out.other (show N + 1 + 1 ≠ M + 1 by omega) _).other (show N + 1 + 1 ≠ M + 1 by omega) _).other (show N + 1 + 1 ≠ M + 1 by omega) _
        · exact ((HV1.out.other (show M ≠ M + 1 by omega) _).other (show M ≠ M + 1 by omega) _).other (show M ≠ M + 1 by omega) _
        · rw [HTK.out, gotG_snoc HLK.out, HEQ.out, haveV_upd]; exact D3
        · rw [HTK.out, gotG_snoc HLK.out, HEQ.out, haveT_upd]; exact ⟨e7, e8⟩
        · exact own_afterC (own_afterC (own_afterC (own_ext hH.out.2.2.1 HX1.out) HC1.out (by decide) _) D1 (by decide) _) D2 (by decide) _
        · exact rstep_new (rstep_new (rstep_new (rstep_new hH.out.2.2.2.1 (rstep_ext (row := none) HX1.out) (fun k h => by cases h)) (grown_cellw _ (M + 1) (19 + k) _) hro) (grown_cellw _ (M + 1) (35 + k) _) hro) (grown_cellw _ (M + 1) (51 + k) _) hro
      case measure => simp [intOf]; omega
    have hkn : k = 16 := by omega
    subst hkn
    have htk : ns.take 16 = ns := List.take_of_length_le (by rw [HLN.out]; exact Nat.le_refl _)
    rw [htk] at HC hH
    have HRG := Lib.hid fun (d : Nat) (os : Array Obj) => row_range (HC.out.ext ((Ext.refl wr).more d os))
    clear htk
    go_wp2_with fail
    refine wp_region_grow 3 61 [false, false, false] (by kernel_rfl) (by kernel_rfl) rfl ?_
    simp only [List.take_succ_cons, List.take_zero, List.drop_succ_cons, List.drop_zero]
    repeat (refine Lex.step rfl ?_; intro K hK; (first
      | (refine ⟨.agg (crC a b c L (gotG ns L) vk (haveV (gotG ns L) V)), fun d os => stepG_load_mid (by rfl) 39 _ rfl (M + 1) 0 rfl (crC a b c L (gotG ns L) vk (haveV (gotG ns L) V)).toList _ (HRG.out d os) Tryz.underlying39 rfl (by kernel_rfl) _ rfl, ?_⟩; go_simp; refine hK _ ?_)
      | (unfold StepG; go_simp; refine hK _ ?_)); clear hK K)
    refine Lex.nil fun WW hE => ?_
    obtain ⟨dd, oo, rfl⟩ := hE
    unfold FillH
    go_wp2_with (first
    | (refine wpList_store_rowTo rfl 39 _ _ rfl rfl (N + 1 + 1) (crC a b c L (gotG ns L) vk (haveV (gotG ns L) V)) rfl rfl 39 (crC 0 0 0 zeroV noG nilV zeroV) ((HB.out.ext ((Ext.refl wr).more dd oo))) (by kernel_rfl) rfl (crC_one _ _ _ _ _ _ _ hH.out.2.1.1.one) ?_))
    rw [ends_normal]
    go_wp2_with fail
    have hx := (Ext.refl wr).more dd oo
    have hB4 := HB.out.ext hx
    have hst := rstep_new (rstep_new hH.out.2.2.2.1 (rstep_ext (row := none) hx) (fun k h => by cases h)) (grown_row _ (N + 1 + 1) (crC a b c L (gotG ns L) vk (haveV (gotG ns L) V))) (fun k hk => by obtain rfl := Option.some.inj hk; rw [HN.out]; omega)
    rw [HRE.out]
    obtain ⟨e1, e2⟩ := LvsAt.rowT (hH.out.2.1.1.ext hx) (hH.out.2.1.2.ext hx) hB4 (by decide) (crC a b c L (gotG ns L) vk (haveV (gotG ns L) V))
    exact bodyPost_ret (results_slot_cell_slot (p := 7) (q := 8) (r := 6) (ty := 39) rfl _ _ ⟨N + 1 + 1, 0, none⟩ _ rfl (cr_load (hB4.setRow a b c L (gotG ns L) vk (haveV (gotG ns L) V))) _ _ rfl rfl) rfl ⟨v3, bs, vk, rfl, own_afterR (own_ext hH.out.2.2.1 hx) hB4 (by decide) _, hst, HK4.out, e1, e2⟩
end Go.Proofs.YtpchohjkelopoaaGreatDoor
