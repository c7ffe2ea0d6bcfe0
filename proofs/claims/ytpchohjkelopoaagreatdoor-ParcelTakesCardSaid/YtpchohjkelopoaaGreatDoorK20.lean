/- Lemmas for the claim (texts PaH, PaI, PaJ, what its proof uses of them). -/
import Derived.Test.YtpchohjkelopoaaGreatDoorK19
import Derived.Deep.RegionHeldLaw
import Derived.Deep.AppendLies
set_option linter.unusedSimpArgs false
set_option linter.unusedVariables false
set_option maxRecDepth 20000
namespace Go.Proofs.YtpchohjkelopoaaGreatDoor
open Go.RowKit
attribute [go_sem] more_more Array.size_append
/-- a store -/
structure Sto where
  T : Nat → List It
  V : Nat → Int
  a : Int
  b : Int
  c : Int
def Sto.none : Sto := ⟨tOf [], zeroV, 0, 0, 0⟩
/-- what Done says of a crate -/
def doneF (a b c : Int) (g : Nat → Bool) (T : Nat → List It) (V : Nat → Int) : Sto × Int :=
  if 0 < (needK g 16).length then (Sto.none, 20) else if storeB T V a b c = true then (⟨T, V, a, b, c⟩, 0) else (Sto.none, 1)
theorem needK_all {g : Nat → Bool} : ∀ k, (∀ j, j < k → g j = true) → needK g k = []
  | 0, _ => rfl
  | k + 1, h => by rw [needK_yes (h k (Nat.lt_succ_self k))]; exact needK_all k fun j hj => h j (by omega)
theorem needK_some {g : Nat → Bool} {k : Nat} (hk : g k = false) : ∀ n, k < n → 0 < (needK g n).length
  | 0, h => absurd h (Nat.not_lt_zero _)
  | n + 1, h => by
    by_cases e : k = n
    · rw [← e, needK_no hk]; simp
    · have := needK_some hk n (by omega)
      cases hg : g n with
      | true => rw [needK_yes hg]; exact this
      | false => rw [needK_no hg]; simp
def DonePost (w w' : World) (e : Ending) (r : Sto × Int) : Prop :=
  ∃ bs v, e = .returned (.tuple #[.agg (stC v r.1.V r.1.a r.1.b r.1.c), .int .i64 r.2]) ∧ LvsAt w' bs v r.1.T ∧ LvTy w' bs r.1.T ∧ Ext w w'
theorem DonePost.no {w w' : World} {er : Int} (hx : Ext w w') : DonePost w w' (.returned (.tuple #[.agg (stC nilV zeroV 0 0 0), .int .i64 er])) (Sto.none, er) :=
  ⟨fun _ => 0, nilV, rfl, lvs_nil _ _, lvty_nil _ _, hx⟩
theorem zst_one : (stC nilV zeroV 0 0 0).all (·.oneCell') = true := by kernel_rfl
set_option maxHeartbeats 4000000 in
theorem done_any (a b c : Int) (L : Nat → Int) (g : Nat → Bool) (bs : Nat → Nat) (v : Nat → Value) (T : Nat → List It) (V : Nat → Int) (SB : Nat) (w : World) (hS : SignsAt SB w) (hSB : SB ≤ w.heap.size) (h : LvsAt w bs v T) (hy : LvTy w bs T) (r : Sto × Int) (hr : doneF a b c g T V = r) :
    Calls Tryz.prog 19 #[.agg (crC a b c L g v V)] w fun e w' => DonePost w w' e r := by
  have NC := Lib.hid fun (W : World) => need_any a b c L g v V W
  have MC := Lib.hid fun (W : World) (hx : Ext w W) => stmay_any bs v T V a b c SB W (hS.ext hx hSB) (Nat.le_trans hSB hx.size) (h.ext hx)
  have HL := Lib.hid h
  have HY := Lib.hid hy
  have q1 : CrBlk ((w.alloc (.cells (crC a b c L g v V) 39)).alloc (.cells (stC nilV zeroV 0 0 0) 56)) w.heap.size a b c L g v V := two_boxes.1
  have q2 : StBlk ((w.alloc (.cells (crC a b c L g v V) 39)).alloc (.cells (stC nilV zeroV 0 0 0) 56)) (w.heap.size + 1) nilV zeroV 0 0 0 := two_boxes.2
  have Q1 := Lib.hid q1
  have Q2 := Lib.hid q2
  unfold doneF at hr
  have hln := needK_len g 16
  clear h hS q1 q2 hy
  by_cases hne : 0 < (needK g 16).length
  · have hneI : (0 : Int) < ((needK g 16).length : Int) := by omega
    rw [if_pos hne] at hr
    subst hr
    obtain ⟨m, hm⟩ : ∃ m, (needK g 16).length = m := ⟨_, rfl⟩
    rw [hm] at hneI NC
    clear hne hm hln
    go_enter Tryz.func19, Tryz.ntmps19
    go_wp2_with (first
    | (refine wpList_load_row rfl 39 _ rfl w.heap.size rfl 39 (crC a b c L g v V) (0, 0) _ (Q1.out) Tryz.underlying39 rfl (by kernel_rfl) ?_)
    | (go_at_call 18; refine (NC.out _).mono ?_; rintro e w1 ⟨nv, rfl, ho, hx⟩; obtain ⟨pn, cn, rfl⟩ := own_sl ho; have HX := Lib.hid ((((Ext.refl w).alloc _).alloc _).trans hx); have HB := Lib.hid (Q2.out.ext hx); clear ho hx)
    | (refine wpList_buildTo rfl 56 #[] rfl _ rfl (stC nilV zeroV 0 0 0) (by kernel_rfl) ?_)
    | (refine wpList_store_rowTo rfl 56 _ _ rfl rfl (w.heap.size + 1) (stC nilV zeroV 0 0 0) rfl rfl 56 (stC nilV zeroV 0 0 0) (HB.out) (by kernel_rfl) rfl (zst_one) ?_))
    exact bodyPost_ret (results_cell_slot (p := 2) (q := 3) (ty := 56) rfl _ _ ⟨w.heap.size + 1, 0, none⟩ _ rfl (st_loadS (StBlk.setT (v2 := nilV) (V2 := zeroV) (a2 := 0) (b2 := 0) (c2 := 0) HB.out)) _ rfl) rfl (DonePost.no (HX.out.setRow (Nat.le_succ _) _))
  · have hz : (needK g 16).length = 0 := by omega
    rw [if_neg hne] at hr
    rw [hz] at NC
    clear hne hz hln
    by_cases hst : storeB T V a b c = true
    · rw [hst] at MC
      rw [if_pos hst] at hr
      subst hr
      clear hst
      go_enter Tryz.func19, Tryz.ntmps19
      go_wp2_with (first
    | (refine wpList_load_row rfl 39 _ rfl w.heap.size rfl 39 (crC a b c L g v V) (0, 0) _ (Q1.out) Tryz.underlying39 rfl (by kernel_rfl) ?_)
    | (go_at_call 18; refine (NC.out _).mono ?_; rintro e w1 ⟨nv, rfl, ho, hx⟩; obtain ⟨pn, cn, rfl⟩ := own_sl ho; have HX := Lib.hid ((((Ext.refl w).alloc _).alloc _).trans hx); have HB := Lib.hid (Q2.out.ext hx); have HC := Lib.hid (Q1.out.ext hx); have ca := HC.out.cell 0; have cb := HC.out.cell 1; have cc := HC.out.cell 2; (try rw [show (crC a b c L g v V)[0]? = some (.int .i64 a) from rfl] at ca); (try rw [show (crC a b c L g v V)[1]? = some (.int .i64 b) from rfl] at cb); (try rw [show (crC a b c L g v V)[2]? = some (.int .i64 c) from rfl] at cc); have hwz := lt_of_heap HC.out; clear ho hx)
    | (refine wpList_load_sub rfl 29 _ rfl (w.heap.size) 35 rfl 39 (crC a b c L g v V) (trC v V) (0, 0) _ (HC.out) Tryz.underlying29 rfl (by kernel_rfl) (crC_tr a b c L g v V) ?_)
    | (refine wpList_buildTo rfl 56 _ rfl _ rfl (stC v V a b c) (by kernel_rfl) ?_)
    | (refine wpList_store_rowTo rfl 56 _ _ rfl rfl (w1.heap.size) (stC v V a b c) rfl rfl 56 (stC nilV zeroV 0 0 0) (heap_alloc_new w1 _) (by kernel_rfl) rfl (stC_one v V a b c HL.out.one) ?_)
    | (have HM := Lib.hid (StBlk.setT (v2 := v) (V2 := V) (a2 := a) (b2 := b) (c2 := c) (show StBlk (w1.alloc (.cells (stC nilV zeroV 0 0 0) 56)) w1.heap.size nilV zeroV 0 0 0 from heap_alloc_new w1 _)); refine wpList_load_row rfl 56 _ rfl w1.heap.size rfl 56 (stC v V a b c) (0, 0) _ (HM.out) Tryz.underlying56 rfl (by kernel_rfl) ?_)
    | (go_at_call 60; refine (MC.out _ ((HX.out.alloc _).setRow HX.out.size _)).mono ?_; rintro e w2 ⟨rfl, hx⟩; have HX2 := Lib.hid (((HX.out.alloc _).setRow HX.out.size _).trans hx); have HM2 := Lib.hid (HM.out.ext hx); have HB2 := Lib.hid (StBlk.ext (StBlk.otherRow (HB.out.ext ((Ext.refl w1).alloc _)) (show w.heap.size + 1 ≠ w1.heap.size by have := lt_of_heap HB.out; omega) (stC v V a b c)) hx); clear hx)
    | (refine wpList_load_row rfl 56 _ rfl w1.heap.size rfl 56 (stC v V a b c) (0, 0) _ (HM2.out) Tryz.underlying56 rfl (by kernel_rfl) ?_)
    | (refine wpList_store_rowTo rfl 56 _ _ rfl rfl (w.heap.size + 1) (stC v V a b c) rfl rfl 56 (stC nilV zeroV 0 0 0) (HB2.out) (by kernel_rfl) rfl (stC_one v V a b c HL.out.one) ?_))
      obtain ⟨e1, e2⟩ := LvsAt.rowT (HL.out.ext HX2.out) (HY.out.ext HX2.out) HB2.out (by decide) (stC v V a b c)
      exact bodyPost_ret (results_cell_slot (p := 2) (q := 3) (ty := 56) rfl _ _ ⟨w.heap.size + 1, 0, none⟩ _ rfl (st_loadS (StBlk.setT (v2 := v) (V2 := V) (a2 := a) (b2 := b) (c2 := c) HB2.out)) _ rfl) rfl ⟨bs, v, rfl, e1, e2, HX2.out.setRow (Nat.le_succ _) _⟩
    · have hst' : storeB T V a b c = false := by simpa using hst
      rw [hst'] at MC
      rw [if_neg hst] at hr
      subst hr
      clear hst hst'
      go_enter Tryz.func19, Tryz.ntmps19
      go_wp2_with (first
    | (refine wpList_load_row rfl 39 _ rfl w.heap.size rfl 39 (crC a b c L g v V) (0, 0) _ (Q1.out) Tryz.underlying39 rfl (by kernel_rfl) ?_)
    | (go_at_call 18; refine (NC.out _).mono ?_; rintro e w1 ⟨nv, rfl, ho, hx⟩; obtain ⟨pn, cn, rfl⟩ := own_sl ho; have HX := Lib.hid ((((Ext.refl w).alloc _).alloc _).trans hx); have HB := Lib.hid (Q2.out.ext hx); have HC := Lib.hid (Q1.out.ext hx); have ca := HC.out.cell 0; have cb := HC.out.cell 1; have cc := HC.out.cell 2; (try rw [show (crC a b c L g v V)[0]? = some (.int .i64 a) from rfl] at ca); (try rw [show (crC a b c L g v V)[1]? = some (.int .i64 b) from rfl] at cb); (try rw [show (crC a b c L g v V)[2]? = some (.int .i64 c) from rfl] at cc); have hwz := lt_of_heap HC.out; clear ho hx)
    | (refine wpList_load_sub rfl 29 _ rfl (w.heap.size) 35 rfl 39 (crC a b c L g v V) (trC v V) (0, 0) _ (HC.out) Tryz.underlying29 rfl (by kernel_rfl) (crC_tr a b c L g v V) ?_)
    | (refine wpList_buildTo rfl 56 #[] rfl _ rfl (stC nilV zeroV 0 0 0) (by kernel_rfl) ?_)
    | (refine wpList_buildTo rfl 56 _ rfl _ rfl (stC v V a b c) (by kernel_rfl) ?_)
    | (refine wpList_store_rowTo rfl 56 _ _ rfl rfl (w1.heap.size) (stC v V a b c) rfl rfl 56 (stC nilV zeroV 0 0 0) (heap_alloc_new w1 _) (by kernel_rfl) rfl (stC_one v V a b c HL.out.one) ?_)
    | (have HM := Lib.hid (StBlk.setT (v2 := v) (V2 := V) (a2 := a) (b2 := b) (c2 := c) (show StBlk (w1.alloc (.cells (stC nilV zeroV 0 0 0) 56)) w1.heap.size nilV zeroV 0 0 0 from heap_alloc_new w1 _)); refine wpList_load_row rfl 56 _ rfl w1.heap.size rfl 56 (stC v V a b c) (0, 0) _ (HM.out) Tryz.underlying56 rfl (by kernel_rfl) ?_)
    | (go_at_call 60; refine (MC.out _ ((HX.out.alloc _).setRow HX.out.size _)).mono ?_; rintro e w2 ⟨rfl, hx⟩; have HX2 := Lib.hid (((HX.out.alloc _).setRow HX.out.size _).trans hx); have HM2 := Lib.hid (HM.out.ext hx); have HB2 := Lib.hid (StBlk.ext (StBlk.otherRow (HB.out.ext ((Ext.refl w1).alloc _)) (show w.heap.size + 1 ≠ w1.heap.size by have := lt_of_heap HB.out; omega) (stC v V a b c)) hx); clear hx)
    | (refine wpList_buildTo rfl 56 #[] rfl _ rfl (stC nilV zeroV 0 0 0) (by kernel_rfl) ?_)
    | (refine wpList_store_rowTo rfl 56 _ _ rfl rfl (w.heap.size + 1) (stC nilV zeroV 0 0 0) rfl rfl 56 (stC nilV zeroV 0 0 0) (HB2.out) (by kernel_rfl) rfl (zst_one) ?_))
      exact bodyPost_ret (results_cell_slot (p := 2) (q := 3) (ty := 56) rfl _ _ ⟨w.heap.size + 1, 0, none⟩ _ rfl (st_loadS (StBlk.setT (v2 := nilV) (V2 := zeroV) (a2 := 0) (b2 := 0) (c2 := 0) HB2.out)) _ rfl) rfl (DonePost.no (HX2.out.setRow (Nat.le_succ _) _))
set_option maxHeartbeats 4000000 in
theorem rdone_any (a b c : Int) (L : Nat → Int) (g : Nat → Bool) (bs : Nat → Nat) (v : Nat → Value) (T : Nat → List It) (V : Nat → Int) (w : World) (hlen : ∀ k, k < 16 → (T k).length ≤ 9223372036854775807) (h : LvsAt w bs v T) (hy : LvTy w bs T) (r : Sto × Int) (hr : doneF a b c g T V = r) :
    Calls Tryz.prog 20 #[.agg (crC a b c L g v V)] w fun e w' => DonePost w w' e r := by
  have MC := Lib.hid fun (W : World) (hx : Ext w W) => srmay_any bs v T V a b c W hlen (h.ext hx)
  have HL := Lib.hid h
  have HY := Lib.hid hy
  have q1 : CrBlk ((w.alloc (.cells (crC a b c L g v V) 39)).alloc (.cells (stC nilV zeroV 0 0 0) 56)) w.heap.size a b c L g v V := two_boxes.1
  have q2 : StBlk ((w.alloc (.cells (crC a b c L g v V) 39)).alloc (.cells (stC nilV zeroV 0 0 0) 56)) (w.heap.size + 1) nilV zeroV 0 0 0 := two_boxes.2
  unfold doneF at hr
  have HR := Lib.hid hr
  have hx0 := ((Ext.refl w).alloc (.cells (crC a b c L g v V) 39)).alloc (.cells (stC nilV zeroV 0 0 0) 56)
  obtain ⟨W0, hW0⟩ : ∃ W0, (w.alloc (.cells (crC a b c L g v V) 39)).alloc (.cells (stC nilV zeroV 0 0 0) 56) = W0 := ⟨_, rfl⟩
  rw [hW0] at q1 q2 hx0
  have HX0 := Lib.hid hx0
  have Q1 := Lib.hid q1
  have Q2 := Lib.hid q2
  clear h q1 q2 hr hlen hy hx0
  go_enter Tryz.func20, Tryz.ntmps20
  go_wp2_with fail
  obtain ⟨N, hN⟩ : ∃ N, w.heap.size = N := ⟨_, rfl⟩
  have HN := Lib.hid hN
  rw [hN] at Q1 Q2
  go_loopw [4] (fun ii wr => ∃ k : Nat, ii = .int .i64 (k : Int) ∧ k ≤ 16 ∧ wr = W0 ∧ ∀ j, j < k → g j = true) (fun ii _ => 16 - (intOf ii).toNat)
  case atStart => exact ⟨0, rfl, Nat.zero_le _, hW0, fun j hj => absurd hj (Nat.not_lt_zero j)⟩
  case round =>
    obtain ⟨k, rfl, hk16, rfl, hall⟩ := hrel
    rw [hN]
    clear hW0 hN
    have HALL := Lib.hid hall
    clear hall
    have hNw := lt_of_heap Q1.out
    by_cases hk : k < 16
    · have hkI : (k : Int) < 16 := by omega
      have hk0 : (0 : Int) ≤ (k : Int) := by omega
      have hcg := Q1.out.cellG k hk
      cases hg : g k with
      | true =>
        rw [hg] at hcg
        go_wp2_with fail
        go_roundw
        case rel => exact ⟨k + 1, by go_num, by omega, (by first | trivial | rfl), fun j hj => by
          by_cases e : j = k
          · rw [e]; exact hg
          · exact HALL.out j (by omega)⟩
        case measure => simp [intOf]; omega
      | false =>
        rw [hg] at hcg
        have hr := HR.out
        rw [if_pos (needK_some hg 16 hk)] at hr
        subst hr
        clear hg HALL
        go_wp2_with (first
    | (refine wpList_buildTo rfl 56 #[] rfl _ rfl (stC nilV zeroV 0 0 0) (by kernel_rfl) ?_)
    | (refine wpList_store_rowTo rfl 56 _ _ rfl rfl (N + 1) (stC nilV zeroV 0 0 0) rfl rfl 56 (stC nilV zeroV 0 0 0) (Q2.out) (by kernel_rfl) rfl (zst_one) ?_))
        exact bodyPost_ret (results_cell_slot (p := 2) (q := 3) (ty := 56) rfl _ _ ⟨N + 1, 0, none⟩ _ rfl (st_loadS (StBlk.setT (v2 := nilV) (V2 := zeroV) (a2 := 0) (b2 := 0) (c2 := 0) Q2.out)) _ rfl) rfl (DonePost.no (HX0.out.setRow (by rw [HN.out]; exact Nat.le_succ _) _))
    · obtain rfl : k = 16 := by omega
      have hr := HR.out
      rw [needK_all 16 HALL.out, if_neg (by simp)] at hr
      have ca := Q1.out.cell 0
      have cb := Q1.out.cell 1
      have cc := Q1.out.cell 2
      rw [show (crC a b c L g v V)[0]? = some (.int .i64 a) from rfl] at ca
      rw [show (crC a b c L g v V)[1]? = some (.int .i64 b) from rfl] at cb
      rw [show (crC a b c L g v V)[2]? = some (.int .i64 c) from rfl] at cc
      clear HALL HR
      by_cases hst : storeB T V a b c = true
      · rw [hst] at MC
        rw [if_pos hst] at hr
        subst hr
        clear hst
        go_wp2_with (first
    | (refine wpList_load_sub rfl 29 _ rfl (N) 35 rfl 39 (crC a b c L g v V) (trC v V) (0, 0) _ (Q1.out) Tryz.underlying29 rfl (by kernel_rfl) (crC_tr a b c L g v V) ?_)
    | (refine wpList_buildTo rfl 56 _ rfl _ rfl (stC v V a b c) (by kernel_rfl) ?_)
    | (refine wpList_store_rowTo rfl 56 _ _ rfl rfl (wr.heap.size) (stC v V a b c) rfl rfl 56 (stC nilV zeroV 0 0 0) (heap_alloc_new wr _) (by kernel_rfl) rfl (stC_one v V a b c HL.out.one) ?_)
    | (have HM := Lib.hid (StBlk.setT (v2 := v) (V2 := V) (a2 := a) (b2 := b) (c2 := c) (show StBlk (wr.alloc (.cells (stC nilV zeroV 0 0 0) 56)) wr.heap.size nilV zeroV 0 0 0 from heap_alloc_new wr _)); refine wpList_load_row rfl 56 _ rfl wr.heap.size rfl 56 (stC v V a b c) (0, 0) _ (HM.out) Tryz.underlying56 rfl (by kernel_rfl) ?_)
    | (go_at_call 23; refine (MC.out _ ((HX0.out.alloc _).setRow HX0.out.size _)).mono ?_; rintro e w2 ⟨rfl, hx⟩; have HX2 := Lib.hid (((HX0.out.alloc _).setRow HX0.out.size _).trans hx); have HM2 := Lib.hid (HM.out.ext hx); have HB2 := Lib.hid (StBlk.ext (StBlk.otherRow (Q2.out.ext ((Ext.refl wr).alloc _)) (show N + 1 ≠ wr.heap.size by have := lt_of_heap Q2.out; omega) (stC v V a b c)) hx); clear hx)
    | (refine wpList_load_row rfl 56 _ rfl wr.heap.size rfl 56 (stC v V a b c) (0, 0) _ (HM2.out) Tryz.underlying56 rfl (by kernel_rfl) ?_)
    | (refine wpList_store_rowTo rfl 56 _ _ rfl rfl (N + 1) (stC v V a b c) rfl rfl 56 (stC nilV zeroV 0 0 0) (HB2.out) (by kernel_rfl) rfl (stC_one v V a b c HL.out.one) ?_))
        obtain ⟨e1, e2⟩ := LvsAt.rowT (HL.out.ext HX2.out) (HY.out.ext HX2.out) HB2.out (by decide) (stC v V a b c)
        exact bodyPost_ret (results_cell_slot (p := 2) (q := 3) (ty := 56) rfl _ _ ⟨N + 1, 0, none⟩ _ rfl (st_loadS (StBlk.setT (v2 := v) (V2 := V) (a2 := a) (b2 := b) (c2 := c) HB2.out)) _ rfl) rfl ⟨bs, v, rfl, e1, e2, HX2.out.setRow (by rw [HN.out]; exact Nat.le_succ _) _⟩
      · have hst' : storeB T V a b c = false := by simpa using hst
        rw [hst'] at MC
        rw [if_neg hst] at hr
        subst hr
        clear hst hst'
        go_wp2_with (first
    | (refine wpList_load_sub rfl 29 _ rfl (N) 35 rfl 39 (crC a b c L g v V) (trC v V) (0, 0) _ (Q1.out) Tryz.underlying29 rfl (by kernel_rfl) (crC_tr a b c L g v V) ?_)
    | (refine wpList_buildTo rfl 56 #[] rfl _ rfl (stC nilV zeroV 0 0 0) (by kernel_rfl) ?_)
    | (refine wpList_buildTo rfl 56 _ rfl _ rfl (stC v V a b c) (by kernel_rfl) ?_)
    | (refine wpList_store_rowTo rfl 56 _ _ rfl rfl (wr.heap.size) (stC v V a b c) rfl rfl 56 (stC nilV zeroV 0 0 0) (heap_alloc_new wr _) (by kernel_rfl) rfl (stC_one v V a b c HL.out.one) ?_)
    | (have HM := Lib.hid (StBlk.setT (v2 := v) (V2 := V) (a2 := a) (b2 := b) (c2 := c) (show StBlk (wr.alloc (.cells (stC nilV zeroV 0 0 0) 56)) wr.heap.size nilV zeroV 0 0 0 from heap_alloc_new wr _)); refine wpList_load_row rfl 56 _ rfl wr.heap.size rfl 56 (stC v V a b c) (0, 0) _ (HM.out) Tryz.underlying56 rfl (by kernel_rfl) ?_)
    | (go_at_call 23; refine (MC.out _ ((HX0.out.alloc _).setRow HX0.out.size _)).mono ?_; rintro e w2 ⟨rfl, hx⟩; have HX2 := Lib.hid (((HX0.out.alloc _).setRow HX0.out.size _).trans hx); have HM2 := Lib.hid (HM.out.ext hx); have HB2 := Lib.hid (StBlk.ext (StBlk.otherRow (Q2.out.ext ((Ext.refl wr).alloc _)) (show N + 1 ≠ wr.heap.size by have := lt_of_heap Q2.out; omega) (stC v V a b c)) hx); clear hx)
    | (refine wpList_store_rowTo rfl 56 _ _ rfl rfl (N + 1) (stC nilV zeroV 0 0 0) rfl rfl 56 (stC nilV zeroV 0 0 0) (HB2.out) (by kernel_rfl) rfl (zst_one) ?_))
        exact bodyPost_ret (results_cell_slot (p := 2) (q := 3) (ty := 56) rfl _ _ ⟨N + 1, 0, none⟩ _ rfl (st_loadS (StBlk.setT (v2 := nilV) (V2 := zeroV) (a2 := 0) (b2 := 0) (c2 := 0) HB2.out)) _ rfl) rfl (DonePost.no (HX2.out.setRow (by rw [HN.out]; exact Nat.le_succ _) _))
end Go.Proofs.YtpchohjkelopoaaGreatDoor

set_option maxRecDepth 20000
namespace Go.Proofs.YtpchohjkelopoaaGreatDoor
open Go.RowKit
attribute [go_sem] more_more Array.size_append
theorem grown_same {w w1 w2 : World} {M : Nat} (h : w.grownBy w1 (some M)) (k : w1.grownBy w2 (some M)) : w.grownBy w2 (some M) := by
  obtain ⟨h1, h2, h3, h4, h5⟩ := h
  obtain ⟨k1, k2, k3, k4, k5⟩ := k
  exact ⟨k1.trans h1, k2.trans h2, k3.trans h3, Nat.le_trans h4 k4, fun j hj hn => (k5 j (by omega) hn).trans (h5 j hj hn)⟩
theorem keepT {w w' : World} {M : Nat} (hg : w.grownBy w' (some M)) {cur cur2 : Array Value} {T T2 : TypeId} {fz fz2 : Nat × Nat} (hM : w.heap[M]? = some (.cells cur T fz)) {k : Nat} (hb : w.heap[k]? = some (.cells cur2 T2 fz2)) (hne : T2 ≠ T) : w'.heap[k]? = w.heap[k]? :=
  hg.block k (lt_of_heap hb) (fun e => by
    have e2 : M = k := Option.some.inj e.symm
    rw [e2, hb] at hM
    simp at hM
    exact hne hM.2.1)
theorem keepT2 {w w' : World} {M k : Nat} (hg : w.grownBy w' (some M)) (hk : k < w.heap.size) (hne : k ≠ M) : w'.heap[k]? = w.heap[k]? :=
  hg.block k hk (fun e => hne (Option.some.inj e))
/-- texts, the first j of them -/
def psT (L : List (List UInt8)) (j : Nat) : List Value := ((bas L).take j).map Value.string
theorem psT_snoc {L : List (List UInt8)} {j : Nat} {c : List UInt8} (h : L[j]? = some c) : psT L (j + 1) = psT L j ++ [.string ⟨c.toArray⟩] := by
  unfold psT bas
  rw [List.take_add_one, List.getElem?_map, h]; simp
theorem psT_all (L : List (List UInt8)) {m : Nat} (h : L.length = m) : psT L m = (bas L).map Value.string := by
  unfold psT
  rw [List.take_of_length_le (by unfold bas; rw [List.length_map, h]; exact Nat.le_refl _)]
/-- a parcel's block -/
def PcBlk (w : World) (M : Nat) (bk ver : Int) (cv : Value) : Prop := w.heap[M]? = some (.cells #[.int .i64 bk, .int .i64 ver, cv] 50 (0, 0))
theorem PcBlk.cell {w : World} {M : Nat} {bk ver : Int} {cv : Value} (h : PcBlk w M bk ver cv) : w.cell? ⟨M, 0, none⟩ = some (.int .i64 bk) ∧ w.cell? ⟨M, 1, none⟩ = some (.int .i64 ver) ∧ w.cell? ⟨M, 2, none⟩ = some cv ∧ w.frozen? ⟨M, 0, none⟩ = false ∧ w.frozen? ⟨M, 1, none⟩ = false ∧ w.frozen? ⟨M, 2, none⟩ = false ∧ M < w.heap.size :=
  ⟨cell_of_row w M 0 _ _ _ h, cell_of_row w M 1 _ _ _ h, cell_of_row w M 2 _ _ _ h, by unfold PcBlk at h; simp [World.frozen?, h], by unfold PcBlk at h; simp [World.frozen?, h], by unfold PcBlk at h; simp [World.frozen?, h], lt_of_heap h⟩
theorem PcBlk.set {w : World} {M : Nat} {bk ver : Int} {cv : Value} (h : PcBlk w M bk ver cv) (x : Value) : PcBlk (w.setCell ⟨M, 2, none⟩ x) M bk ver x := by
  unfold PcBlk at h ⊢
  simp [World.setCell, Array.getElem?_modify, h]
theorem PcBlk.block {w w' : World} {M : Nat} {bk ver : Int} {cv : Value} (h : PcBlk w M bk ver cv) (e : w'.heap[M]? = w.heap[M]?) : PcBlk w' M bk ver cv := by
  unfold PcBlk at h ⊢
  rw [e]; exact h
theorem PcBlk.set3 {w : World} {M : Nat} {bk ver : Int} {cv : Value} (h : PcBlk w M bk ver cv) (b' v' : Int) (c' : Value) : PcBlk (((w.setCell ⟨M, 0, none⟩ (.int .i64 b')).setCell ⟨M, 1, none⟩ (.int .i64 v')).setCell ⟨M, 2, none⟩ c') M b' v' c' := by
  unfold PcBlk at h ⊢
  simp [World.setCell, Array.getElem?_modify, h]
theorem ext_set3 {w w1 : World} (h : Ext w w1) {M : Nat} (hM : w.heap.size ≤ M) (x y z : Value) : Ext w (((w1.setCell ⟨M, 0, none⟩ x).setCell ⟨M, 1, none⟩ y).setCell ⟨M, 2, none⟩ z) :=
  ((h.setCell (p := ⟨M, 0, none⟩) hM _).setCell (p := ⟨M, 1, none⟩) hM _).setCell (p := ⟨M, 2, none⟩) hM _
theorem pc_load {w : World} {M : Nat} {bk ver : Int} {cv : Value} (h : PcBlk w M bk ver cv) : (loadVar 50 ⟨M, 0, none⟩).run Tryz.prog w = .ok (.agg #[.int .i64 bk, .int .i64 ver, cv]) w :=
  run_loadVar_row w M 50 50 _ (0, 0) _ h Tryz.underlying50 rfl (by kernel_rfl)
theorem st_leaf (v : Nat → Value) (V : Nat → Int) (a b c : Int) (k : Nat) (hk : k < 16) : (stC v V a b c)[k]? = some (v k) := by
  have := stC_tr v V a b c k (v k) (by rw [Array.getElem?_toList]; exact trC_leaf v V k hk)
  rwa [Nat.zero_add] at this
set_option maxHeartbeats 4000000 in
theorem cut15_ok (bs : Nat → Nat) (v : Nat → Value) (T : Nat → List It) (V : Nat → Int) (a b c : Int) (k : Nat) (hk : k < 16) (SB : Nat) (w : World) (hS : SignsAt SB w) (hSB : SB ≤ w.heap.size) (h : LvsAt w bs v T) (hyes : storeB T V a b c = true) :
    Calls Tryz.prog 26 #[.agg (stC v V a b c), .int .i64 (k : Int)] w fun e w' => ∃ cv, e = .returned (.tuple #[.agg #[.int .i64 (k : Int), .int .i64 (V k), cv], .int .i64 0]) ∧ w'.ownsRow w.heap.size 9 1 cv (bas (chunksF (T k))).length ((bas (chunksF (T k))).map Value.string) ∧ Ext w w' := by
  have SM := Lib.hid fun (W : World) (hx : Ext w W) => stmay_any bs v T V a b c SB W (hS.ext hx hSB) (Nat.le_trans hSB hx.size) (h.ext hx)
  rw [hyes] at SM
  have htr : trunkB T V = true := by
    unfold storeB at hyes
    simp only [Bool.and_eq_true] at hyes
    exact hyes.1.1.1.1.1.1
  obtain ⟨fl, f0, f1⟩ := fits_parts (trunk_fits htr k hk)
  have CH := Lib.hid fun (W : World) (hx : Ext w W) => chunks_any (bs k) (v k) (T k) SB W (hS.ext hx hSB) (Nat.le_trans hSB hx.size) ((h k hk).ext hx) fl
  obtain ⟨L, hL⟩ : ∃ L, chunksF (T k) = L := ⟨_, rfl⟩
  have hLn : L.length ≤ 8 := by have := (leafB_may fl).1; rw [← hL]; unfold chunksF; simp; omega
  have hLs : ∀ c ∈ L, c.length ≤ 4000 := by
    intro c hc
    rw [← hL] at hc
    unfold chunksF at hc
    obtain ⟨j, _, rfl⟩ := List.mem_map.1 hc
    unfold chunkN
    have := chunk_len (T k) (h k hk).1 (leafB_may fl).2 (8 * j) 8
    simp only [List.length_cons]; omega
  rw [hL] at CH ⊢
  obtain ⟨i1, hi1, hy0, hy1, hy2⟩ := info_parts strInfo15
  obtain ⟨m, hm⟩ : ∃ m, L.length = m := ⟨_, rfl⟩
  have hbl : (bas L).length = m := by unfold bas; rw [List.length_map, hm]
  rw [hbl]
  have HMM := Lib.hid hm
  have HLS := Lib.hid hLs
  rw [hm] at hLn
  have HB0 : ∀ w1, Ext ((w.alloc (.cells (stC v V a b c) 56)).alloc (.cells #[.int .i64 0, .int .i64 0, .slice none 0 0] 50)) w1 → StBlk w1 w.heap.size v V a b c ∧ PcBlk w1 (w.heap.size + 1) 0 0 (.slice none 0 0) := fun w1 hx => ⟨(hx.below.block _ (lt_of_heap two_boxes.1)).trans two_boxes.1, (hx.below.block _ (lt_of_heap two_boxes.2)).trans two_boxes.2⟩
  have hkI : (k : Int) < 16 := by omega
  have hk0 : (0 : Int) ≤ (k : Int) := by omega
  have hk1 : ((k : Int) < 0) = False := eq_false (by omega)
  clear hyes hS htr fl f0 f1 hL hLs hm hbl
  have hOne := (h.one k hk)
  clear h
  go_enter Tryz.func26, Tryz.ntmps26
  go_wp2_with (first
    | (refine wpList_load_row rfl 56 _ rfl w.heap.size rfl 56 (stC v V a b c) (0, 0) _ (two_boxes.1) Tryz.underlying56 rfl (by kernel_rfl) ?_)
    | (go_at_call 60; refine (SM.out _ (by repeat (first | exact Ext.refl _ | apply Ext.alloc | apply Ext.more | apply Ext.drewN))).mono ?_; rintro e w1 ⟨rfl, hx⟩; have HX := Lib.hid ((((Ext.refl w).alloc _).alloc _).trans hx); have hb := (HB0 _ hx); have HB := Lib.hid hb.2; have HA := Lib.hid hb.1; have hcv := hb.1.ver k hk; have hcl : w1.cell? ⟨w.heap.size, k, none⟩ = some (v k) := (hb.1.cell k).trans (st_leaf v V a b c k hk); have hwz := lt_of_heap hb.1; clear hx hb)
    | (go_at_call 64; refine (CH.out _ (HX.out.alloc _)).mono ?_; rintro e w2 ⟨cv, vs, rfl, hcv2, hbys, hx2⟩; obtain ⟨pc, capc, rfl, hcapc, hpc⟩ := own_form hcv2; rw [HMM.out] at hcapc hcv2 hpc ⊢; have HCV := Lib.hid (hcv2.mono (base' := 0) (Nat.zero_le _)); have HBY := Lib.hid hbys.mono0; have HPC := Lib.hid hpc; have HX2 := Lib.hid ((HX.out.alloc _).trans hx2); have HM2 := Lib.hid ((hx2.below.block _ (lt_of_heap (heap_alloc_new w1 _))).trans (heap_alloc_new w1 _)); have HB2 := Lib.hid (PcBlk.block HB.out (((Ext.refl w1).alloc _ |>.trans hx2).below.block _ (lt_of_heap HB.out))); clear hcv2 hbys hpc hx2))
  obtain ⟨N, hN⟩ : ∃ N, w.heap.size = N := ⟨_, rfl⟩
  obtain ⟨M, hM⟩ : ∃ M, w1.heap.size = M := ⟨_, rfl⟩
  have HN := Lib.hid hN
  rw [hM] at HM2
  rw [hN] at HB2
  have hNM : N + 1 < M := by have := lt_of_heap HB.out; omega
  have hMw : M < w2.heap.size := lt_of_heap HM2.out
  go_loopw [36] (fun ii wr => ∃ (j : Nat) (cv : Value), ii = .int .i64 (j : Int) ∧ j ≤ m ∧ Hid (PcBlk wr M (k : Int) (V k) cv ∧ wr.ownsRow w2.heap.size 9 1 cv j (psT L j) ∧ w2.grownBy wr (some M) ∧ Ext w wr)) (fun ii _ => m - (intOf ii).toNat)
  case atStart => exact ⟨0, .slice none 0 0, rfl, Nat.zero_le _, Lib.hid ⟨HM2.out, World.ownsRow_nil _ _ _ _, rstep_ext (Ext.refl _), HX2.out⟩⟩
  case round =>
    obtain ⟨j, cv, rfl, hj, hH⟩ := hrel
    rw [hN, hM]
    clear hN hM
    have hjI : (j : Int) ≤ 8 := by omega
    have hwl := hH.out.2.2.1.size
    have hMr : M < wr.heap.size := by omega
    by_cases hlt : j < m
    · obtain ⟨c, hc⟩ : ∃ c, L[j]? = some c := ⟨_, List.getElem?_eq_getElem (by have := HMM.out; omega)⟩
      obtain ⟨vc, hvc⟩ : ∃ vc, vs[j]? = some vc := ⟨_, List.getElem?_eq_getElem (by have := HBY.out.1; have := HMM.out; omega)⟩
      obtain ⟨g, rfl⟩ := HPC.out (by omega)
      have hrow := own_block HCV.out (w' := wr) (fun q hq => by obtain ⟨cur, hcu⟩ := own_type HCV.out hq; exact keepT hH.out.2.2.1 HM2.out hcu (by decide))
      have hby := HBY.out.kept (w' := wr) (fun b cur fz _ hb => keepT hH.out.2.2.1 HM2.out hb (by decide))
      obtain ⟨b1, o1, c1, rfl, hcc, _, hbb, _⟩ := hby.2 j vc c hvc hc
      have hcell : wr.cell? ⟨g, j, none⟩ = some (.slice (some ⟨b1, o1, none⟩) c.length c1) := by have := hrow.cells (g := g) rfl j _ hvc; rwa [Addr.add_lit, Nat.zero_add] at this
      have hgw := World.block_lt_of_cell? _ _ hcell
      have hconv := conv_at (P := Tryz.prog) (src := 135) (dst := 9) (cap := c1) Tryz.underlying135 Tryz.underlying5 Tryz.underlying9 hbb _ rfl
      obtain ⟨d0, d1, d2, f0, f1, f2, _⟩ := hH.out.1.cell
      have HSN := Lib.hid (psT_snoc hc)
      obtain ⟨s, hs⟩ : ∃ s : ByteArray, (⟨c.toArray⟩ : ByteArray) = s := ⟨_, rfl⟩
      rw [hs] at hconv HSN
      have hj0 : (0 : Int) ≤ (j : Int) := by omega
      have hj1 : (j : Int) < (m : Int) := by omega
      obtain ⟨pv, cpv, hcvf⟩ := own_sl hH.out.2.1
      subst hcvf
      clear hc hvc hcc hbb hrow hby hs
      go_wp2_with (at_builtin; refine Hid.out ?_)
      refine Lib.hid ?_
      refine wpList_append_own_at _ rfl _ _ 22 rfl w2.heap.size 9 i1 (.string ⟨#[]⟩) 1 16 Tryz.underlying22 hi1 hy0 hy1 hy2 rfl (by decide) _ j _ rfl (hH.out.2.1.alloc _) ⟨wr.heap.size, 0, none⟩ 1 1 [.string s] rfl rfl ?c1 ?c2 ?c3 ?c4 ?c5 ?_
      case c1 => exact cell_one_new _ _ _
      case c2 => first | rfl | (intro u hu; simp at hu; subst hu; rfl)
      case c3 => unfold maxLen; omega
      case c4 => omega
      case c5 => simp; omega
      intro v4 w4 hown4 hgrow4 _ _
      obtain ⟨p4, c4, hv4⟩ := own_sl hown4
      subst hv4
      have hax := (Ext.refl wr).alloc (.cells #[.string s] 9)
      have hgrow4 : (wr.alloc (.cells #[.string s] 9)).grownBy w4 (Value.slice pv j cpv).ownBlock := hgrow4
      have hrb : ∀ q, (Value.slice pv j cpv).ownBlock = some q → w2.heap.size ≤ q := fun q hq => (hH.out.2.1.lt q hq).1
      have hP4 : PcBlk w4 M (k : Int) (V k) (.slice pv j cpv) := PcBlk.block (PcBlk.block hH.out.1 (hax.below.block _ hMr)) (hgrow4.block M (by rw [World.size_alloc]; omega) (fun e => by have := hrb M e.symm; omega))
      have hG4 : w2.grownBy w4 (some M) := rstep_new (rstep_new hH.out.2.2.1 (rstep_ext (row := none) hax) (fun q h => by cases h)) hgrow4 hrb
      have hX4 : Ext w w4 := Ext.grown (hH.out.2.2.2.alloc _) hgrow4 (fun q hq => by have := hrb q hq; have := HX2.out.size; omega)
      have HO4 := Lib.hid hown4
      obtain ⟨e0, e1, e2, g0, g1, g2, hM4⟩ := hP4.cell
      have HP4 := Lib.hid hP4
      have HG4 := Lib.hid hG4
      have HX4 := Lib.hid hX4
      have hs4 : w2.heap.size ≤ w4.heap.size := hG4.size
      clear hown4 hgrow4 hax hP4 hG4 hX4 hrb
      go_wp2_with fail
      go_roundw
      case rel =>
        refine ⟨j + 1, .slice p4 (j + 1) c4, by go_num, by omega, Lib.hid ⟨HP4.out.set _, ?_, grown_same HG4.out (grown_cellw w4 M 2 _), HX4.out.setCell (p := ⟨M, 2, none⟩) (by rw [HN.out]; show N ≤ M; omega) _⟩⟩
        rw [HSN.out]
        exact own_block HO4.out (fun q hq => Go.Deep.blk_setCell_other _ _ _ _ (show q ≠ M by have := (HO4.out.lt q hq).1; omega))
      case measure => simp [intOf]; omega
    · have hjm : j = m := by omega
      have hnl : ¬ ((j : Int) < (m : Int)) := by omega
      rw [hjm] at hH
      have HRW := Lib.hid (psT_all L HMM.out)
      obtain ⟨d0, d1, d2, f0, f1, f2, _⟩ := hH.out.1.cell
      have hB4 : PcBlk wr (N + 1) 0 0 (.slice none 0 0) := HB2.out.block (keepT2 hH.out.2.2.1 (lt_of_heap HB2.out) (by omega))
      obtain ⟨e0, e1, e2, g0, g1, g2, hN4⟩ := hB4.cell
      have HB4 := Lib.hid hB4
      obtain ⟨pv, cpv, hcvf⟩ := own_sl hH.out.2.1
      subst hcvf
      clear hjm hB4
      go_wp2_with fail
      refine bodyPost_ret (results_cell_slot (p := 4) (q := 5) (ty := 50) rfl _ _ ⟨N + 1, 0, none⟩ _ rfl (pc_load (HB4.out.set3 (k : Int) (V k) (.slice pv m cpv))) _ rfl) rfl ⟨_, rfl, ?_, ext_set3 hH.out.2.2.2 (by rw [HN.out]; exact Nat.le_succ _) _ _ _⟩
      rw [← HRW.out]
      refine own_mono (own_block hH.out.2.1 (fun q hq => ?_)) HX2.out.size
      have := (hH.out.2.1.lt q hq).1
      rw [Go.Deep.blk_setCell_other _ _ _ _ (show q ≠ N + 1 by omega), Go.Deep.blk_setCell_other _ _ _ _ (show q ≠ N + 1 by omega), Go.Deep.blk_setCell_other _ _ _ _ (show q ≠ N + 1 by omega)]
end Go.Proofs.YtpchohjkelopoaaGreatDoor

set_option maxRecDepth 20000
namespace Go.Proofs.YtpchohjkelopoaaGreatDoor
open Go.RowKit
attribute [go_sem] more_more Array.size_append
end Go.Proofs.YtpchohjkelopoaaGreatDoor
