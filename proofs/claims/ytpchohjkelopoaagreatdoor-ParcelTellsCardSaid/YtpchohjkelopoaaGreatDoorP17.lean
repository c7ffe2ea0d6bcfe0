/- Lemmas for the claim (texts PaD, PaE, PaF, PaG, PaQ, PaH, what its proof uses of them). -/
import Derived.Test.YtpchohjkelopoaaGreatDoorP16
import Derived.Stop.BytesEq
import Derived.Deep.DeepCutAuto
import Derived.Deep.RegionHeldLaw
set_option linter.unusedSimpArgs false
set_option linter.unusedVariables false
set_option maxRecDepth 20000
namespace Go.Proofs.YtpchohjkelopoaaGreatDoor
open Go.RowKit
attribute [go_sem] more_more Array.size_append
theorem grown_cellw (w : World) (M i : Nat) (x : Value) : w.grownBy (w.setCell ⟨M, i, none⟩ x) (some M) := ⟨rfl, rfl, rfl, by simp [World.setCell], fun j hj hn => Go.Deep.blk_setCell_other _ _ _ _ (fun e => hn (by rw [e]))⟩
theorem grown_row (w : World) (M : Nat) (x : Array Value) : w.grownBy (w.setRow M x) (some M) := ⟨rfl, rfl, rfl, by simp [World.setRow], fun j hj hn => setRow_other _ _ _ _ (fun e => hn (by rw [e]))⟩
/-- a table stays behind a write into another block -/
theorem tab_after {B bt bm : Nat} {tv0 tv : Value} {l : List ByteArray} {w0 w w' : World} {M : Nat} (ht : TabAt B bt bm tv l w) (hs : TabStep bt bm tv0 w0 tv w) (hg : w.grownBy w' (some M)) (hM : w0.heap.size ≤ M) {cur : Array Value} {T : TypeId} {fz : Nat × Nat} (hb : w.heap[M]? = some (.cells cur T fz)) (h1 : T ≠ 132) (h2 : T ≠ 9) :
    TabAt B bt bm tv l w' ∧ TabStep bt bm tv0 w0 tv w' :=
  ⟨tab_grown ht hg (fun k hk => by obtain rfl := Option.some.inj hk; exact tab_other ht hb h1 h2), hs.grown hg (fun k hk => by obtain rfl := Option.some.inj hk; exact hM)⟩
/-- numbers, by their places -/
def nsF (ns : List Int) : Nat → Int := fun j => match ns[j]? with | some z => z | none => 0
theorem nsF_nil : nsF [] = zeroV := by funext j; simp [nsF, zeroV]
theorem nsF_snoc {ns : List Int} {k : Nat} (hk : ns.length = k) (z : Int) : nsF (ns ++ [z]) = upd (nsF ns) k z := by
  funext j
  unfold nsF upd
  by_cases h : j = k
  · rw [if_pos h, h, ← hk]; simp
  · rw [if_neg h]
    by_cases h2 : j < k
    · rw [List.getElem?_append_left (by omega)]
    · have e1 : (ns ++ [z])[j]? = none := List.getElem?_eq_none (by simp; omega)
      have e2 : ns[j]? = none := List.getElem?_eq_none (by omega)
      simp only [e1, e2]
/-- a manifest -/
structure Mf where
  a : Int
  b : Int
  c : Int
  L : Nat → Int
def Mf.cells (m : Mf) : Array Value := mfC m.a m.b m.c m.L
def Mf.none : Mf := ⟨0, 0, 0, zeroV⟩
def maniF (l : List ByteArray) (T : Nat → List It) (V : Nat → Int) (a b c : Int) : List ByteArray × Mf × Int :=
  if (leavesT T V (List.range 16) l).2.2 ≠ 0 then ((leavesT T V (List.range 16) l).1, Mf.none, (leavesT T V (List.range 16) l).2.2)
  else ((leavesT T V (List.range 16) l).1, ⟨a, b, c, nsF (leavesT T V (List.range 16) l).2.1⟩, 0)
/-- what parcel.Of hands back -/
def ManiPost (B bt bm : Nat) (tv : Value) (r : List ByteArray × Mf × Int) (w : World) (e : Ending) (w' : World) : Prop :=
  ∃ tv', e = .returned (.tuple #[.agg r.2.1.cells, .int .i64 r.2.2]) ∧ TabAt B bt bm tv' r.1 w' ∧ TabStep bt bm tv w tv' w'
theorem st_lv (v : Nat → Value) (V : Nat → Int) (a b c : Int) : ∀ j u, (lvL v)[j]? = some u → (stC v V a b c)[0 + j]? = some u := fun j u h => by
  have h1 := lvL_get v V j u h
  rw [Nat.zero_add] at h1
  exact stC_tr v V a b c j u (by rw [Array.getElem?_toList]; exact h1)
theorem pof_door (w : World) (v : Nat → Value) (V : Nat → Int) (a b c : Int) (o2 : Obj) (h2 : o2 = .cells (mfC 0 0 0 zeroV) 25) :
    StBlk ((w.alloc (.cells (stC v V a b c) 56)).alloc o2) w.heap.size v V a b c ∧ MfBlk ((w.alloc (.cells (stC v V a b c) 56)).alloc o2) (w.heap.size + 1) 0 0 0 zeroV := by
  subst h2
  refine ⟨(heap_alloc_old _ _ (by simp)).trans (heap_alloc_new w _), ?_⟩
  have := heap_alloc_new (w.alloc (.cells (stC v V a b c) 56)) (.cells (mfC 0 0 0 zeroV) 25)
  rw [World.size_alloc] at this
  exact this
set_option maxHeartbeats 2000000 in
theorem pof_no (bt : Nat) (bs : Nat → Nat) (v : Nat → Value) (T : Nat → List It) (V : Nat → Int) (a b c : Int) (SB : Nat) (w : World) (hS : SignsAt SB w) (hSB : SB ≤ w.heap.size) (h : LvsAt w bs v T) (hno : storeB T V a b c = false) :
    Calls Tryz.prog 25 #[.pointer (some ⟨bt, 0, none⟩), .agg (stC v V a b c)] w fun e w' => e = .returned (.tuple #[.agg (mfC 0 0 0 zeroV), .int .i64 1]) ∧ Ext w w' := by
  have SM := Lib.hid fun (W : World) (hx : Ext w W) => stmay_any bs v T V a b c SB W (hS.ext hx hSB) (Nat.le_trans hSB hx.size) (h.ext hx)
  rw [hno] at SM
  have hd := fun o2 h2 => pof_door w v V a b c o2 h2
  have HD := Lib.hid hd
  clear h hno hd hS
  go_enter Tryz.func25, Tryz.ntmps25
  go_wp2_with (first
    | (refine wpList_load_row rfl 56 _ rfl w.heap.size rfl 56 (stC v V a b c) (0, 0) _ (HD.out _ rfl).1 Tryz.underlying56 rfl (by kernel_rfl) ?_)
    | (go_at_call 60; refine (SM.out _ (by repeat (first | exact Ext.refl _ | apply Ext.alloc | apply Ext.more | apply Ext.drewN))).mono ?_; rintro e w1 ⟨rfl, hx⟩; have HX := Lib.hid (((Ext.refl w).alloc _).alloc _ |>.trans hx); have HB := Lib.hid ((HD.out _ rfl).2.ext hx); clear hx)
    | (refine wpList_buildTo rfl 25 #[] rfl _ rfl (mfC 0 0 0 zeroV) (by kernel_rfl) ?_)
    | (refine wpList_store_rowTo rfl 25 _ _ rfl rfl (w.heap.size + 1) (mfC 0 0 0 zeroV) rfl rfl 25 (mfC 0 0 0 zeroV) HB.out (by kernel_rfl) rfl (mfC_one _ _ _ _) ?_))
  exact bodyPost_ret (results_cell_slot (p := 4) (q := 5) (ty := 25) rfl _ _ ⟨w.heap.size + 1, 0, none⟩ _ rfl (mf_load (HB.out.setRow 0 0 0 zeroV)) _ rfl) rfl ⟨rfl, HX.out.setRow (Nat.le_add_right _ _) _⟩
set_option maxHeartbeats 4000000 in
theorem pof_any (B bt bm : Nat) (tv : Value) (l : List ByteArray) (bs : Nat → Nat) (v : Nat → Value) (T : Nat → List It) (V : Nat → Int) (a b c : Int) (SB PB : Nat) (w : World) (hT : TabAt B bt bm tv l w) (hS : SignsAt SB w) (hSB : SB ≤ B) (hP : Pow10 PB w) (hPB : PB ≤ B)
    (h : LvsAt w bs v T) (hy : LvTy w bs T) (hyes : storeB T V a b c = true) (hll : l.length ≤ 800) (r : List ByteArray × Mf × Int) (hr : maniF l T V a b c = r) :
    Calls Tryz.prog 25 #[.pointer (some ⟨bt, 0, none⟩), .agg (stC v V a b c)] w (ManiPost B bt bm tv r w) := by
  have hBw : B ≤ w.heap.size := by have h1 := hT.cells; obtain ⟨a1, _⟩ := hT; omega
  have SM := Lib.hid fun (W : World) (hx : Ext w W) => stmay_any bs v T V a b c SB W (hS.ext hx (Nat.le_trans hSB hBw)) (Nat.le_trans (Nat.le_trans hSB hBw) hx.size) (h.ext hx)
  rw [hyes] at SM
  have htr : trunkB T V = true := by
    unfold storeB at hyes
    simp only [Bool.and_eq_true] at hyes
    exact hyes.1.1.1.1.1.1
  obtain ⟨q, hq⟩ : ∃ q, leavesT T V (List.range 16) l = q := ⟨_, rfl⟩
  unfold maniF at hr
  rw [hq] at hr
  have hd := fun o2 h2 => pof_door w v V a b c o2 h2
  have HD := Lib.hid hd
  have HQ := Lib.hid hq
  have HR := Lib.hid hr
  have HT := Lib.hid hT
  have HS := Lib.hid hS
  have HP := Lib.hid hP
  have HL := Lib.hid h
  have HY := Lib.hid hy
  have HYES := Lib.hid htr
  clear h hy hyes hq hr hT hS hP hd htr
  go_enter Tryz.func25, Tryz.ntmps25
  go_wp2_with (first
    | (refine wpList_load_row rfl 56 _ rfl w.heap.size rfl 56 (stC v V a b c) (0, 0) _ (HD.out _ rfl).1 Tryz.underlying56 rfl (by kernel_rfl) ?_)
    | (go_at_call 60; refine (SM.out _ (by repeat (first | exact Ext.refl _ | apply Ext.alloc | apply Ext.more | apply Ext.drewN))).mono ?_; rintro e w1 ⟨rfl, hx⟩; have HX := Lib.hid (((Ext.refl w).alloc _).alloc _ |>.trans hx); have HA := Lib.hid ((HD.out _ rfl).1.ext hx); have HB := Lib.hid ((HD.out _ rfl).2.ext hx); obtain ⟨ca, cb, cc⟩ := HA.out.tail; have hwz := lt_of_heap HA.out; clear hx)
    | (refine wpList_buildTo rfl 25 _ rfl _ rfl (mfC a b c zeroV) (by kernel_rfl) ?_)
    | (refine wpList_store_rowTo rfl 25 _ _ rfl rfl w1.heap.size (mfC a b c zeroV) rfl rfl 25 (mfC 0 0 0 zeroV) (heap_alloc_new w1 _) (by kernel_rfl) rfl (mfC_one _ _ _ _) ?_)
    | (refine wpList_load_part rfl 27 _ rfl w.heap.size 0 rfl 56 (stC v V a b c) (lvL v) (0, 0) _ (HA.out.ext (((Ext.refl w1).alloc _).setRow (Nat.le_refl _) _)) Tryz.underlying27 rfl (by kernel_rfl) (st_lv v V a b c) ?_))
  obtain ⟨N, hN⟩ : ∃ N, w.heap.size = N := ⟨_, rfl⟩
  obtain ⟨M, hM⟩ : ∃ M, w1.heap.size = M := ⟨_, rfl⟩
  have HN := Lib.hid hN
  have HM := Lib.hid hM
  have hNM : N + 1 < M := by have := lt_of_heap HB.out; omega
  go_loopw [25] (fun ii wr => ∃ (k : Nat) (lk : List ByteArray) (tvk : Value) (ns : List Int), ii = .int .i64 (k : Int) ∧ k ≤ 16 ∧ Hid (TabAt B bt bm tvk lk wr ∧ TabStep bt bm tv w tvk wr ∧ StBlk wr N v V a b c ∧ MfBlk wr (N + 1) 0 0 0 zeroV ∧ MfBlk wr M a b c (nsF ns) ∧ ns.length = k ∧ (∀ z ∈ ns, 0 ≤ z ∧ z ≤ 1000) ∧ lk.length ≤ l.length + 9 * k ∧ preT ns (leavesT T V ((List.range 16).drop k) lk) = q)) (fun ii _ => 16 - (intOf ii).toNat)
  case atStart =>
    have hx1 := (Ext.refl w1).alloc (.cells (mfC 0 0 0 zeroV) 25)
    have hx2 := hx1.setRow (g := w1.heap.size) (Nat.le_refl _) (mfC a b c zeroV)
    have hm := MfBlk.setRow (heap_alloc_new w1 (.cells (mfC 0 0 0 zeroV) 25)) a b c zeroV
    refine ⟨0, l, tv, [], rfl, Nat.zero_le _, Lib.hid ⟨HT.out.ext (HX.out.trans hx2), (TabStep.refl bt bm tv w).ext (HX.out.trans hx2), ?_, ?_, ?_, rfl, by simp, by omega, by rw [List.drop_zero, ← preL_nil]; exact HQ.out⟩⟩
    · rw [← hN]; exact HA.out.ext hx2
    · rw [← hN]; exact HB.out.ext hx2
    · rw [← hM, nsF_nil]; exact hm
  case round =>
    obtain ⟨k, lk, tvk, ns, rfl, hk16, hH⟩ := hrel
    rw [hN, hM]
    clear hN hM
    have hbl := hH.out.2.1.below HT.out
    have hkI2 : (k : Int) ≤ 16 := by omega
    have hB3 := hH.out.2.2.2.1
    by_cases hk : k < 16
    · have hcv := hH.out.2.2.1.ver k hk
      have hNw : N < wr.heap.size := lt_of_heap hH.out.2.2.1
      have hix := fun W => idx_lv v k hk W
      have hkI : (k : Int) < 16 := by omega
      have hk0 : (0 : Int) ≤ (k : Int) := by omega
      obtain ⟨ro, hro⟩ : ∃ ro, leafT lk (T k) (V k) = ro := ⟨_, rfl⟩
      obtain ⟨fl, f0, f1⟩ := fits_parts (trunk_fits HYES.out k hk)
      have LC := Lib.hid (rleaf_any B bt bm tvk lk (bs k) (v k) (T k) (V k) SB PB wr hH.out.1 (HS.out.below hbl hSB) hSB (HP.out.below hbl hPB) hPB (lf_tab HT.out hH.out.2.1.1 HL.out HY.out hk) fl f0 f1 ro hro)
      have hbd := leafT_len lk (T k) (V k) (leafB_may fl).1
      rw [hro] at hbd
      have HRO := Lib.hid hro
      have HBD := Lib.hid hbd
      obtain ⟨l3, n3, e3⟩ := ro
      dsimp only at hbd
      have hn3 : (n3 : Int) ≤ 1000 := by have := hH.out.2.2.2.2.2.2.2.1; omega
      clear hro hbd fl f0 f1 hbl hB3
      by_cases he : e3 = 0
      case neg =>
        have he' : (e3 != 0) = true := by simpa using he
        have hre : r = (l3, Mf.none, e3) := by
          have h1 := hH.out.2.2.2.2.2.2.2.2
          rw [drop_range k hk, preL_err (by rw [HRO.out]; exact he), HRO.out] at h1
          have h2 := HR.out
          rw [← h1] at h2
          simp only [ne_eq, he, not_false_eq_true, if_true] at h2
          exact h2.symm
        have HRE := Lib.hid hre
        clear he hre
        go_wp2_with (first
          | (go_at_call 34; refine (LC.out).mono ?_; rintro e w3 ⟨rfl, tv3, ht3, hk3, ho3⟩; have H3 := Lib.hid (And.intro ht3 (And.intro hk3 ho3)); have HB3 : Hid (MfBlk w3 (N + 1) 0 0 0 zeroV) := Lib.hid (by unfold MfBlk; rw [kept_ty hH.out.1 hk3 hH.out.2.2.2.1 (by decide) (by decide)]; exact hH.out.2.2.2.1); clear ht3 hk3 ho3)
          | (refine wpList_buildTo rfl 25 #[] rfl _ rfl (mfC 0 0 0 zeroV) (by kernel_rfl) ?_)
          | (refine wpList_store_rowTo rfl 25 _ _ rfl rfl (N + 1) (mfC 0 0 0 zeroV) rfl rfl 25 (mfC 0 0 0 zeroV) HB3.out (by kernel_rfl) rfl (mfC_one _ _ _ _) ?_))
        rw [HRE.out]
        have hta := tab_after H3.out.1 (hH.out.2.1.trans ⟨H3.out.2.1, H3.out.2.2⟩) (grown_row w3 (N + 1) (mfC 0 0 0 zeroV)) (by rw [HN.out]; exact Nat.le_succ _) HB3.out (by decide) (by decide)
        exact bodyPost_ret (results_cell_slot (p := 4) (q := 5) (ty := 25) rfl _ _ ⟨N + 1, 0, none⟩ _ rfl (mf_load (HB3.out.setRow 0 0 0 zeroV)) _ rfl) rfl ⟨tv3, rfl, hta⟩
      subst he
      go_wp2_with (go_at_call 34; refine (LC.out).mono ?_; rintro e w3 ⟨rfl, tv3, ht3, hk3, ho3⟩; have H3 := Lib.hid (And.intro ht3 (And.intro hk3 ho3)); have HKT := Lib.hid (fun (g : Nat) (cur : Array Value) (ty : TypeId) (fz : Nat × Nat) (hb : wr.heap[g]? = some (.cells cur ty fz)) (h1 : ty ≠ 132) (h2 : ty ≠ 9) => (kept_ty hH.out.1 hk3 hb h1 h2).trans hb); have HMB : Hid (MfBlk w3 M a b c (nsF ns)) := Lib.hid (HKT.out _ _ _ _ hH.out.2.2.2.2.1 (by decide) (by decide)); have hc3 := (HMB.out.cell (3 + k)).trans (mfC_get a b c (nsF ns) k hk); have hf3 := HMB.out.frozen (3 + k); have hMw := lt_of_heap HMB.out; clear ht3 hk3 ho3)
      go_roundw
      case rel =>
        have hta := tab_after H3.out.1 (hH.out.2.1.trans ⟨H3.out.2.1, H3.out.2.2⟩) (grown_cellw w3 M (3 + k) (.int .i64 (n3 : Int))) (by rw [HN.out]; omega) HMB.out (by decide) (by decide)
        refine ⟨k + 1, l3, tv3, ns ++ [(n3 : Int)], by go_num, by omega, Lib.hid ⟨hta.1, hta.2, ?_, ?_, ?_, by simp [hH.out.2.2.2.2.2.1], ?_, ?_, ?_⟩⟩
        · exact (Go.Deep.blk_setCell_other _ _ _ _ (show N ≠ M by omega)).trans (HKT.out _ _ _ _ hH.out.2.2.1 (by decide) (by decide))
        · exact (Go.Deep.blk_setCell_other _ _ _ _ (show N + 1 ≠ M by omega)).trans (HKT.out _ _ _ _ hH.out.2.2.2.1 (by decide) (by decide))
        · rw [nsF_snoc hH.out.2.2.2.2.2.1]; exact HMB.out.set k hk _
        · intro z hz
          rcases List.mem_append.1 hz with h | h
          · exact hH.out.2.2.2.2.2.2.1 z h
          · simp at h; subst h; omega
        · have h1 := hH.out.2.2.2.2.2.2.2.1
          have h2 := HBD.out.1
          (try dsimp only at h2)
          omega
        · have h1 := hH.out.2.2.2.2.2.2.2.2
          rw [drop_range k hk, preL_step (by rw [HRO.out]), HRO.out] at h1
          exact h1
      case measure => simp [intOf]; omega
    have hkn : k = 16 := by omega
    have hqq : q = (lk, ns, 0) := by
      have h1 := hH.out.2.2.2.2.2.2.2.2
      rw [hkn] at h1
      rw [← h1, show (List.range 16).drop 16 = [] from rfl]
      simp [leavesT, preT]
    have hr2 := HR.out
    rw [hqq] at hr2
    simp only [ne_eq, not_true_eq_false, if_false] at hr2
    have HR2 := Lib.hid hr2
    clear hqq hr2 hbl
    subst hkn
    go_wp2_with (first
      | (refine wpList_load_row rfl 25 _ rfl M rfl 25 (mfC a b c (nsF ns)) (0, 0) _ hH.out.2.2.2.2.1 Tryz.underlying25 rfl (by kernel_rfl) ?_)
      | (refine wpList_store_rowTo rfl 25 _ _ rfl rfl (N + 1) (mfC a b c (nsF ns)) rfl rfl 25 (mfC 0 0 0 zeroV) hB3 (by kernel_rfl) rfl (mfC_one _ _ _ _) ?_))
    rw [← HR2.out]
    have hta := tab_after hH.out.1 hH.out.2.1 (grown_row wr (N + 1) (mfC a b c (nsF ns))) (by rw [HN.out]; exact Nat.le_succ _) hB3 (by decide) (by decide)
    exact bodyPost_ret (results_cell_slot (p := 4) (q := 5) (ty := 25) rfl _ _ ⟨N + 1, 0, none⟩ _ rfl (mf_load (hB3.setRow a b c (nsF ns))) _ rfl) rfl ⟨tvk, rfl, hta⟩
end Go.Proofs.YtpchohjkelopoaaGreatDoor

set_option maxRecDepth 20000
namespace Go.Proofs.YtpchohjkelopoaaGreatDoor
open Go.RowKit
attribute [go_sem] more_more Array.size_append
theorem idx_gt (g : Nat → Bool) (k : Nat) (hk : k < 16) (W : World) : (Instr.index 37 (.agg (gtC g)) (.int .i64 (k : Int))).run Tryz.prog W = .ok (.bool (g k)) W := by
  match k, hk with
  | 0, _ => exact (fun W => by kernel_rfl : ∀ W : World, (Instr.index 37 (.agg (gtC g)) (.int .i64 0)).run Tryz.prog W = .ok (.bool (g 0)) W) W
  | 1, _ => exact (fun W => by kernel_rfl : ∀ W : World, (Instr.index 37 (.agg (gtC g)) (.int .i64 1)).run Tryz.prog W = .ok (.bool (g 1)) W) W
  | 2, _ => exact (fun W => by kernel_rfl : ∀ W : World, (Instr.index 37 (.agg (gtC g)) (.int .i64 2)).run Tryz.prog W = .ok (.bool (g 2)) W) W
  | 3, _ => exact (fun W => by kernel_rfl : ∀ W : World, (Instr.index 37 (.agg (gtC g)) (.int .i64 3)).run Tryz.prog W = .ok (.bool (g 3)) W) W
  | 4, _ => exact (fun W => by kernel_rfl : ∀ W : World, (Instr.index 37 (.agg (gtC g)) (.int .i64 4)).run Tryz.prog W = .ok (.bool (g 4)) W) W
  | 5, _ => exact (fun W => by kernel_rfl : ∀ W : World, (Instr.index 37 (.agg (gtC g)) (.int .i64 5)).run Tryz.prog W = .ok (.bool (g 5)) W) W
  | 6, _ => exact (fun W => by kernel_rfl : ∀ W : World, (Instr.index 37 (.agg (gtC g)) (.int .i64 6)).run Tryz.prog W = .ok (.bool (g 6)) W) W
  | 7, _ => exact (fun W => by kernel_rfl : ∀ W : World, (Instr.index 37 (.agg (gtC g)) (.int .i64 7)).run Tryz.prog W = .ok (.bool (g 7)) W) W
  | 8, _ => exact (fun W => by kernel_rfl : ∀ W : World, (Instr.index 37 (.agg (gtC g)) (.int .i64 8)).run Tryz.prog W = .ok (.bool (g 8)) W) W
  | 9, _ => exact (fun W => by kernel_rfl : ∀ W : World, (Instr.index 37 (.agg (gtC g)) (.int .i64 9)).run Tryz.prog W = .ok (.bool (g 9)) W) W
  | 10, _ => exact (fun W => by kernel_rfl : ∀ W : World, (Instr.index 37 (.agg (gtC g)) (.int .i64 10)).run Tryz.prog W = .ok (.bool (g 10)) W) W
  | 11, _ => exact (fun W => by kernel_rfl : ∀ W : World, (Instr.index 37 (.agg (gtC g)) (.int .i64 11)).run Tryz.prog W = .ok (.bool (g 11)) W) W
  | 12, _ => exact (fun W => by kernel_rfl : ∀ W : World, (Instr.index 37 (.agg (gtC g)) (.int .i64 12)).run Tryz.prog W = .ok (.bool (g 12)) W) W
  | 13, _ => exact (fun W => by kernel_rfl : ∀ W : World, (Instr.index 37 (.agg (gtC g)) (.int .i64 13)).run Tryz.prog W = .ok (.bool (g 13)) W) W
  | 14, _ => exact (fun W => by kernel_rfl : ∀ W : World, (Instr.index 37 (.agg (gtC g)) (.int .i64 14)).run Tryz.prog W = .ok (.bool (g 14)) W) W
  | 15, _ => exact (fun W => by kernel_rfl : ∀ W : World, (Instr.index 37 (.agg (gtC g)) (.int .i64 15)).run Tryz.prog W = .ok (.bool (g 15)) W) W
  | k + 16, h => exact absurd h (by omega)
/-- the buckets that did not come, of the first k -/
def needK (g : Nat → Bool) (k : Nat) : List Int := ((List.range k).filter fun j => !g j).map fun (j : Nat) => (j : Int)
theorem needK_yes {g : Nat → Bool} {k : Nat} (h : g k = true) : needK g (k + 1) = needK g k := by
  unfold needK; rw [List.range_succ, List.filter_append]; simp [h]
theorem needK_no {g : Nat → Bool} {k : Nat} (h : g k = false) : needK g (k + 1) = needK g k ++ [(k : Int)] := by
  unfold needK; rw [List.range_succ, List.filter_append]; simp [h]
theorem needK_len (g : Nat → Bool) (k : Nat) : (needK g k).length ≤ k := by
  unfold needK; rw [List.length_map]; exact Nat.le_trans (List.length_filter_le _ _) (by simp)
set_option maxHeartbeats 2000000 in
theorem need_any (a b c : Int) (L : Nat → Int) (g : Nat → Bool) (v : Nat → Value) (V : Nat → Int) (w : World) :
    Calls Tryz.prog 18 #[.agg (crC a b c L g v V)] w fun e w' => ∃ nv, e = .returned nv ∧ w'.ownsRow w.heap.size 3 1 nv (needK g 16).length (cellsI (needK g 16)) ∧ Ext w w' := by
  obtain ⟨i1, hi1, hy0, hy1, hy2⟩ := info_parts intInfo
  go_enter Tryz.func18, Tryz.ntmps18
  go_wp2_with (refine wpList_load_sub rfl 37 _ rfl w.heap.size 19 rfl 39 (crC a b c L g v V) (gtC g) (0, 0) _ (heap_alloc_new w _) Tryz.underlying37 rfl (by kernel_rfl) (crC_gt a b c L g v V) ?_)
  obtain ⟨N, hN⟩ : ∃ N, w.heap.size = N := ⟨_, rfl⟩
  have HN := Lib.hid hN
  go_loopw [3, 8] (fun ov ii wr => ∃ (k : Nat), ii = .int .i64 (k : Int) ∧ k ≤ 16 ∧ Hid (wr.ownsRow N 3 1 ov (needK g k).length (cellsI (needK g k)) ∧ Ext w wr)) (fun _ ii _ => 16 - (intOf ii).toNat)
  case atStart => exact ⟨0, rfl, Nat.zero_le _, Lib.hid ⟨show World.ownsRow _ N 3 1 (.slice none 0 0) 0 [] from World.ownsRow_nil _ _ _ _, (Ext.refl w).alloc _⟩⟩
  case round =>
    obtain ⟨k, rfl, hk16, hH⟩ := hrel
    obtain ⟨ov, hov⟩ : ∃ x, x = u3 := ⟨_, rfl⟩
    subst hov
    rw [hN]
    clear hN
    by_cases hk : k < 16
    · have hix := fun W => idx_gt g k hk W
      have hkI : (k : Int) < 16 := by omega
      have hk0 : (0 : Int) ≤ (k : Int) := by omega
      cases hg : g k with
      | true =>
        rw [hg] at hix
        go_wp2_with fail
        go_roundw
        case rel => exact ⟨k + 1, by go_num, by omega, Lib.hid ⟨by rw [needK_yes hg]; exact hH.out.1, hH.out.2⟩⟩
        case measure => simp [intOf]; omega
      | false =>
        rw [hg] at hix
        have hln := needK_len g k
        have HSN := Lib.hid (needK_no hg)
        clear hg
        go_wp2_with (at_builtin; refine wpList_append_own_at _ rfl _ _ 53 rfl N 3 i1 (.int .i64 0) 1 8 Tryz.underlying53 hi1 hy0 hy1 hy2 rfl (by decide) _ _ _ rfl (hH.out.1.alloc _) ⟨wr.heap.size, 0, none⟩ 1 1 [.int .i64 (k : Int)] rfl rfl ?c1 ?c2 ?c3 ?c4 ?c5 ?_)
        case c1 => exact cell_one_new _ _ _
        case c2 => first | rfl | (intro u hu; simp at hu; subst hu; rfl)
        case c3 => unfold maxLen; omega
        case c4 => omega
        case c5 => have h1 := hH.out.2.size; have h2 := HN.out; simp; omega
        intro v4 w4 hown4 hgrow4 _ _
        have HO := Lib.hid hown4
        have HX : Hid (Ext w w4) := Lib.hid (Ext.grown ((hH.out.2).alloc _) hgrow4 (fun k hk => by have := (hH.out.1.lt k hk).1; have := HN.out; omega))
        clear hown4 hgrow4
        go_wp2_with fail
        go_roundw
        case rel => exact ⟨k + 1, by go_num, by omega, Lib.hid ⟨by rw [HSN.out, cellsI_snoc, List.length_append]; exact HO.out, HX.out⟩⟩
        case measure => simp [intOf]; omega
    · obtain rfl : k = 16 := by omega
      go_wp2_with fail
      go_ret
      exact ⟨_, rfl, by rw [HN.out]; exact hH.out.1, hH.out.2⟩
theorem own_mono {w : World} {base base' n size : Nat} {v : Value} {e : TypeId} {xs : List Value} (h : w.ownsRow base e size v n xs) (hb : base' ≤ base) : w.ownsRow base' e size v n xs := by
  refine ⟨h.1, ?_⟩
  rcases h.2 with h2 | ⟨g, cap, cur, a1, a2, a3⟩
  · exact Or.inl h2
  · exact Or.inr ⟨g, cap, cur, a1, Nat.le_trans hb a2, a3⟩
/-- what items hands back -/
def ItemsPost (w w' : World) (e : Ending) (r : List It × Int × Int) (ver : Int) : Prop :=
  ∃ lv, e = .returned (.tuple #[lv, .bool (r.2.1 == 0 && decide (0 ≤ ver) && decide (ver ≤ 2147483647))]) ∧ (r.2.1 = 0 → w'.ownsRow w.heap.size 152 5 lv r.1.length (itCells r.1) ∧ ∀ x ∈ r.1, ItOk x) ∧ Ext w w'
set_option maxHeartbeats 4000000 in
theorem items_pany (bk ver : Int) (pv : Value) (base : Nat) (ts : List ByteArray) (SB : Nat) (w : World) (hS : SignsAt SB w) (hSB : SB ≤ w.heap.size) (hrow : w.ownsRow base 9 1 pv ts.length (ts.map Value.string)) (hn : ts.length ≤ 100000) (hz : ∀ s ∈ ts, s.size ≤ 100000) (r : List It × Int × Int) (hr : leafOfF (ts.map txt) = r) :
    Calls Tryz.prog 57 #[.agg #[.int .i64 bk, .int .i64 ver, pv]] w fun e w' => ItemsPost w w' e r ver := by
  obtain ⟨i1, hi1, hy0, hy1, hy2⟩ := info_parts bysInfo'
  obtain ⟨m, hm⟩ : ∃ m, ts.length = m := ⟨_, rfl⟩
  obtain ⟨p2, c2, rfl, hc2, hcell⟩ := own_texts hrow
  have HM := Lib.hid hm
  rw [hm] at hn hc2 ⊢
  have HCL := Lib.hid hcell
  have HTS := Lib.hid hz
  have HS := Lib.hid hS
  have HRL := Lib.hid hr
  clear hm hrow hcell hz hS hr
  go_enter Tryz.func57, Tryz.ntmps57
  go_wp2_with fail
  obtain ⟨N, hN⟩ : ∃ N, w.heap.size = N := ⟨_, rfl⟩
  have HN := Lib.hid hN
  obtain ⟨W0, hW0⟩ : ∃ W0, w.alloc (.cells #[.int .i64 bk, .int .i64 ver, .slice p2 m c2] 50) = W0 := ⟨_, rfl⟩
  have HX0 : Hid (Ext w W0) := Lib.hid (by rw [← hW0]; exact (Ext.refl _).alloc _)
  have hs0 : W0.heap.size = N + 1 := by rw [← hW0, World.size_alloc, hN]
  have hc0 : W0.cell? ⟨N, 1, none⟩ = some (.int .i64 ver) := by rw [← hW0, ← hN]; exact cell_of_row _ _ 1 _ _ _ (heap_alloc_new w _)
  have HS0 := Lib.hid hs0
  have HC0 := Lib.hid hc0
  rw [hW0]
  clear hW0 hs0 hc0
  go_loopw [4, 13] (fun cv ii wr => ∃ (i : Nat) (vs : List Value), ii = .int .i64 (i : Int) ∧ i ≤ m ∧ Hid (wr.ownsRow (N + 1) 135 1 cv i vs ∧ Bys (N + 1) wr vs ((ts.take i).map txt) ∧ Ext W0 wr)) (fun _ ii _ => m - (intOf ii).toNat)
  case atStart => exact ⟨0, [], rfl, Nat.zero_le _, Lib.hid ⟨World.ownsRow_nil _ _ _ _, Bys.nil _ _, Ext.refl _⟩⟩
  case round =>
    obtain ⟨i, vs, rfl, him, hI⟩ := hrel
    obtain ⟨cv, hcv⟩ : ∃ x, x = u4 := ⟨_, rfl⟩
    subst hcv
    rw [hN]
    have HEX3 := Lib.hid hI.out.2.2
    have hszN : N + 1 ≤ wr.heap.size := by have := HEX3.out.size; have := HS0.out; omega
    clear hN
    by_cases hlt : i < m
    · obtain ⟨s, hs⟩ : ∃ s, ts[i]? = some s := ⟨_, List.getElem?_eq_getElem (by have := HM.out; omega)⟩
      obtain ⟨b3, o3, rfl, c3⟩ := HCL.out i s hs
      have c3' := cell_ext c3 (HX0.out.trans HEX3.out)
      have hb3 := World.block_lt_of_cell? _ _ c3'
      have hiI : (i : Int) < m := by omega
      have hi0 : (0 : Int) ≤ (i : Int) := by omega
      have hss := HTS.out s (List.mem_of_getElem? hs)
      have hcv := conv_bytes s
      have HSN := Lib.hid (show (ts.take (i + 1)).map txt = (ts.take i).map txt ++ [txt s] by rw [List.take_add_one, hs]; simp)
      obtain ⟨gc, hgc⟩ : ∃ gc, grownCap wr s.size 0 5 = gc := ⟨_, rfl⟩
      obtain ⟨ob, hob⟩ : ∃ ob, bytesObj wr s = ob := ⟨_, rfl⟩
      have hcv2 : (convert 9 135 (.string s)).run Tryz.prog wr = .ok (.slice (some ⟨wr.heap.size, 0, none⟩) s.size gc) (more wr (wr.drawn + 1) #[ob]) := by rw [hcv wr, hgc, hob]
      have HSL : Hid (SlB (N + 1) (more wr (wr.drawn + 1) #[ob]) (.slice (some ⟨wr.heap.size, 0, none⟩) s.size gc) (txt s)) := Lib.hid (by rw [← hgc, ← hob]; exact SlB.conv wr s hszN (grownCap_ge _ _ _ _))
      clear hs c3 hcv hgc hob
      go_wp2_with (at_builtin; refine Hid.out ?_)
      refine Lib.hid ?_
      have hw0 := own_more hI.out.1 (wr.drawn + 1) #[ob]
      refine wpList_append_own_at _ rfl _ _ 133 rfl (N + 1) 135 i1 (.slice none 0 0) 1 24 Tryz.underlying133 hi1 hy0 hy1 hy2 rfl (by decide) _ i vs rfl (hw0.alloc _) ⟨wr.heap.size + 1, 0, none⟩ 1 1 [.slice (some ⟨wr.heap.size, 0, none⟩) s.size gc] rfl rfl ?c1 ?c2 ?c3 ?c4 ?c5 ?_
      case c1 => exact news_at (by simp [more_size])
      case c2 => first | rfl | (intro u hu; simp at hu; subst hu; rfl)
      case c3 => unfold maxLen; omega
      case c4 => omega
      case c5 => simp [more_size]; omega
      intro v4 w4 hown4 hgrow4 _ _
      have HX4 : Hid (Ext W0 w4) := Lib.hid (Ext.grown ((by repeat (first | exact HEX3.out | apply Ext.alloc | apply Ext.more | apply Ext.drewN)) : Ext W0 _) hgrow4 (fun k hk => by have := (hw0.lt k hk).1; have := HS0.out; omega))
      have HO4 := Lib.hid hown4
      have HB4 : Hid (Bys (N + 1) w4 (vs ++ [.slice (some ⟨wr.heap.size, 0, none⟩) s.size gc]) ((ts.take (i + 1)).map txt)) := Lib.hid (by
        rw [HSN.out]
        exact Bys.grown (((hI.out.2.1.ext ((Ext.refl wr).more _ _)).snoc HSL.out).ext ((Ext.refl _).alloc _)) hgrow4 (hw0.alloc _) (by decide))
      clear hown4 hgrow4 hw0 hcv2
      go_wp2_with fail
      go_roundw
      case rel => exact ⟨i + 1, _, by go_num, by omega, Lib.hid ⟨HO4.out, HB4.out, HX4.out⟩⟩
      case measure => simp [intOf]; omega
    · have hin : i = m := by omega
      have hnl : ¬ ((i : Int) < (m : Int)) := by omega
      have htk : (ts.take i).map txt = ts.map txt := by rw [List.take_of_length_le (by have := HM.out; omega)]
      have hlen : i = (ts.map txt).length := by have := HM.out; simp; omega
      have hx3 := HX0.out.trans HEX3.out
      have LC2 := Lib.hid (lof_any _ (ts.map txt) vs (N + 1) SB wr (HS.out.ext hx3 hSB) (Nat.le_trans hSB hx3.size) (by rw [← hlen]; exact hI.out.1) (by rw [← htk]; exact hI.out.2.1) (by rw [← hlen]; omega) (by intro c hc; obtain ⟨s, hs, rfl⟩ := List.mem_map.1 hc; have := HTS.out s hs; unfold txt; rw [ba_len]; omega) _ HRL.out)
      have HX3 := Lib.hid hx3
      have c1 := cell_ext HC0.out HEX3.out
      have hNw := World.block_lt_of_cell? _ _ c1
      clear htk hlen hx3 hin HRL
      obtain ⟨li, el, pl⟩ := r
      have fin : ∀ (lv : Value) (w4 : World) (b : Bool), (el == 0 && decide (0 ≤ ver) && decide (ver ≤ 2147483647)) = b → (el = 0 → w4.ownsRow wr.heap.size 152 5 lv li.length (itCells li) ∧ ∀ x ∈ li, ItOk x) → Ext wr w4 → ItemsPost w w4 (.returned (.tuple #[lv, .bool b])) (li, el, pl) ver := by
        intro lv w4 b hb hok hx
        exact ⟨lv, by rw [hb], fun h => ⟨own_mono (hok h).1 HX3.out.size, (hok h).2⟩, HX3.out.trans hx⟩
      have FIN := Lib.hid fin
      clear fin
      by_cases hel : el = 0
      · by_cases h0 : 0 ≤ ver
        · by_cases h1 : ver ≤ 2147483647
          · have HBB := Lib.hid (show (el == 0 && decide (0 ≤ ver) && decide (ver ≤ 2147483647)) = true by simp [hel, h0, h1])
            have he2 : (el == 0) = true := by simpa using hel
            go_wp2_with (go_at_call 74; refine LC2.out.mono ?_; rintro e w4 ⟨lv, rfl, hok, -, hx4⟩; dsimp only at hok ⊢; have HOK := Lib.hid hok; have HX4 := Lib.hid hx4; have c4 := cell_ext c1 hx4; have hN4 := World.block_lt_of_cell? _ _ c4; clear hok hx4)
            go_region
            all_goals go_wp2_with fail
            all_goals go_ret2
            all_goals exact FIN.out _ _ _ (by first | exact HBB.out | (rw [HBB.out]; simp [h1])) (fun h => ⟨own_ext (HOK.out h).1 (by repeat (first | exact Ext.refl _ | apply Ext.drew | apply Ext.drewN | apply Ext.more)), (HOK.out h).2⟩) (by repeat (first | exact HX4.out | apply Ext.alloc | apply Ext.more | apply Ext.drew | apply Ext.drewN))
          · have HBB := Lib.hid (show (el == 0 && decide (0 ≤ ver) && decide (ver ≤ 2147483647)) = false by simp [h1])
            have he2 : (el == 0) = true := by simpa using hel
            go_wp2_with (go_at_call 74; refine LC2.out.mono ?_; rintro e w4 ⟨lv, rfl, hok, -, hx4⟩; dsimp only at hok ⊢; have HOK := Lib.hid hok; have HX4 := Lib.hid hx4; have c4 := cell_ext c1 hx4; have hN4 := World.block_lt_of_cell? _ _ c4; clear hok hx4)
            go_region
            all_goals go_wp2_with fail
            all_goals go_ret2
            all_goals exact FIN.out _ _ _ (by first | exact HBB.out | (rw [HBB.out]; simp [h1])) (fun h => ⟨own_ext (HOK.out h).1 (by repeat (first | exact Ext.refl _ | apply Ext.drew | apply Ext.drewN | apply Ext.more)), (HOK.out h).2⟩) (by repeat (first | exact HX4.out | apply Ext.alloc | apply Ext.more | apply Ext.drew | apply Ext.drewN))
        · have hd0 : decide (0 ≤ ver) = false := decide_eq_false h0
          have HBB := Lib.hid (show (el == 0 && decide (0 ≤ ver) && decide (ver ≤ 2147483647)) = false by simp [h0])
          have he2 : (el == 0) = true := by simpa using hel
          go_wp2_with (go_at_call 74; refine LC2.out.mono ?_; rintro e w4 ⟨lv, rfl, hok, -, hx4⟩; dsimp only at hok ⊢; have HOK := Lib.hid hok; have HX4 := Lib.hid hx4; have c4 := cell_ext c1 hx4; have hN4 := World.block_lt_of_cell? _ _ c4; clear hok hx4)
          go_region
          all_goals go_wp2_with fail
          all_goals go_ret2
          all_goals exact FIN.out _ _ _ (by first | exact HBB.out | (rw [HBB.out]; simp [h1])) (fun h => ⟨own_ext (HOK.out h).1 (by repeat (first | exact Ext.refl _ | apply Ext.drew | apply Ext.drewN | apply Ext.more)), (HOK.out h).2⟩) (by repeat (first | exact HX4.out | apply Ext.alloc | apply Ext.more | apply Ext.drew | apply Ext.drewN))
      · have he2 : (el == 0) = false := by simpa using hel
        have HBB := Lib.hid (show (el == 0 && decide (0 ≤ ver) && decide (ver ≤ 2147483647)) = false by simp [he2])
        go_wp2_with (go_at_call 74; refine LC2.out.mono ?_; rintro e w4 ⟨lv, rfl, hok, -, hx4⟩; dsimp only at hok ⊢; have HOK := Lib.hid hok; have HX4 := Lib.hid hx4; have c4 := cell_ext c1 hx4; have hN4 := World.block_lt_of_cell? _ _ c4; clear hok hx4)
        go_region
        all_goals go_wp2_with fail
        all_goals go_ret2
        all_goals exact FIN.out lv w4.drew false HBB.out (fun h => absurd h hel) HX4.out.drew
end Go.Proofs.YtpchohjkelopoaaGreatDoor

set_option maxRecDepth 20000
namespace Go.Proofs.YtpchohjkelopoaaGreatDoor
open Go.RowKit
attribute [go_sem] more_more Array.size_append
theorem strInfo15 : (Tryz.prog.info? 9).map (fun i => (i.zero, i.size, i.bytes)) = some (some (.string ⟨#[]⟩), 1, 16) := by kernel_rfl
end Go.Proofs.YtpchohjkelopoaaGreatDoor

set_option maxRecDepth 20000
namespace Go.Proofs.YtpchohjkelopoaaGreatDoor
open Go.RowKit
attribute [go_sem] more_more Array.size_append
theorem arr_self {P : Program} (w : World) (d : Nat) (t e : TypeId) (n : Nat) (ht : P.underlying t = some (.array n e)) (hsz : ∀ w, (sizeOf e).run P w = .ok 1 w) (xs : Array Value)
    (h : ∀ i, i < n → ∃ v, (part e xs (i * 1)).run P w = .ok v w ∧ (Op.equalIn d e v v).run P w = .ok true w) :
    (Op.equalIn (d + 1) t (.agg xs) (.agg xs)).run P w = .ok true w := by
  rw [Op.equalIn]
  simp only [Sem.run_bind, run_underlying ht, Result.andThen_ok, hsz, Std.Legacy.Range.forIn_eq_forIn_range', Std.Legacy.Range.size, Nat.sub_zero, Nat.add_sub_cancel, Nat.div_one]
  have hl : ∀ i ∈ List.range' 0 n 1, i < n := fun i hi => by simpa using (List.mem_range'_1.1 hi).2
  generalize List.range' 0 n 1 = l at hl ⊢
  induction l with
  | nil => simp
  | cons i l ih =>
    obtain ⟨v, h1, h2⟩ := h i (hl i (by simp))
    simp only [List.forIn_cons, Sem.run_bind, h1, h2, Result.andThen_ok]
    simp only [Bool.not_true, Bool.false_eq_true, if_false, Sem.run_pure, Result.andThen_ok]
    exact ih fun j hj => hl j (by simp [hj])
theorem int_size (w : World) : (sizeOf 3).run Tryz.prog w = .ok 1 w := by kernel_rfl
theorem part_one {P : Program} {e : TypeId} {xs : Array Value} {i : Nat} {v : Value} (w : World) (h : (isAgg e).run P w = .ok false w) (hv : xs[i]? = some v) : (part e xs i).run P w = .ok v w := by
  simp [part, h, hv]
def lsC (L : Nat → Int) : Array Value := #[.int .i64 (L 0), .int .i64 (L 1), .int .i64 (L 2), .int .i64 (L 3), .int .i64 (L 4), .int .i64 (L 5), .int .i64 (L 6), .int .i64 (L 7), .int .i64 (L 8), .int .i64 (L 9), .int .i64 (L 10), .int .i64 (L 11), .int .i64 (L 12), .int .i64 (L 13), .int .i64 (L 14), .int .i64 (L 15)]
theorem lsC_get (L : Nat → Int) (k : Nat) (hk : k < 16) : (lsC L)[k]? = some (.int .i64 (L k)) := by
  match k, hk with
  | 0, _ => rfl
  | 1, _ => rfl
  | 2, _ => rfl
  | 3, _ => rfl
  | 4, _ => rfl
  | 5, _ => rfl
  | 6, _ => rfl
  | 7, _ => rfl
  | 8, _ => rfl
  | 9, _ => rfl
  | 10, _ => rfl
  | 11, _ => rfl
  | 12, _ => rfl
  | 13, _ => rfl
  | 14, _ => rfl
  | 15, _ => rfl
  | k + 16, h => exact absurd h (by omega)
theorem agg_int (w : World) : (isAgg 3).run Tryz.prog w = .ok false w := by kernel_rfl
theorem ls_self (L : Nat → Int) (d : Nat) (w : World) : (Op.equalIn (d + 2) 23 (.agg (lsC L)) (.agg (lsC L))).run Tryz.prog w = .ok true w :=
  arr_self w (d + 1) 23 3 16 Tryz.underlying23 int_size _ fun i hi => ⟨_, part_one w (agg_int w) (by rw [Nat.mul_one]; exact lsC_get L i hi), by rw [run_equalIn_int w d 3 .i64 .i64 _ _ Tryz.underlying3]; simp⟩
theorem mf_part (a b c : Int) (L : Nat → Int) (w : World) : (part 23 (mfC a b c L) 3).run Tryz.prog w = .ok (.agg (lsC L)) w := by kernel_rfl
theorem mf_fields : (Tryz.prog.fieldsOf 25).toList.map (fun f => (f.name, f.type, f.offset)) = [("Ver", 3, 0), ("Bytes", 3, 1), ("Keys", 3, 2), ("Leaves", 23, 3)] := by kernel_rfl
theorem eqFields_one {P : Program} (w : World) (d : Nat) (xs : Array Value) : ∀ (fs : List Field), (∀ f ∈ fs, ∃ v, (part f.type xs f.offset).run P w = .ok v w ∧ (Op.equalIn d f.type v v).run P w = .ok true w) → (Op.eqFields d xs xs fs).run P w = .ok true w
  | [], _ => by simp [Op.eqFields]
  | f :: fs, h => by
    obtain ⟨v, h1, h2⟩ := h f (by simp)
    have ih := eqFields_one w d xs fs (fun g hg => h g (by simp [hg]))
    unfold Op.eqFields
    split
    · simp only [Sem.run_bind, h1, h2, Result.andThen_ok, Bool.not_true, Bool.false_eq_true, if_false]
      exact ih
    · exact ih
theorem mf_selfd (d : Nat) (a b c : Int) (L : Nat → Int) (w : World) : (Op.equalIn (d + 3) 25 (.agg (mfC a b c L)) (.agg (mfC a b c L))).run Tryz.prog w = .ok true w := by
  rw [run_equalIn_agg w (d + 2) 25 _ _ (by kernel_rfl) (by kernel_rfl)]
  refine eqFields_one w (d + 2) _ _ fun f hf => ?_
  have hm : (f.name, f.type, f.offset) ∈ (Tryz.prog.fieldsOf 25).toList.map (fun f => (f.name, f.type, f.offset)) := List.mem_map.2 ⟨f, hf, rfl⟩
  rw [mf_fields] at hm
  simp only [List.mem_cons, Prod.mk.injEq, List.not_mem_nil, or_false] at hm
  rcases hm with ⟨_, ht, ho⟩ | ⟨_, ht, ho⟩ | ⟨_, ht, ho⟩ | ⟨_, ht, ho⟩
  · rw [ht, ho]; exact ⟨.int .i64 a, part_one w (agg_int w) rfl, by rw [run_equalIn_int w (d + 1) 3 .i64 .i64 _ _ Tryz.underlying3]; simp⟩
  · rw [ht, ho]; exact ⟨.int .i64 b, part_one w (agg_int w) rfl, by rw [run_equalIn_int w (d + 1) 3 .i64 .i64 _ _ Tryz.underlying3]; simp⟩
  · rw [ht, ho]; exact ⟨.int .i64 c, part_one w (agg_int w) rfl, by rw [run_equalIn_int w (d + 1) 3 .i64 .i64 _ _ Tryz.underlying3]; simp⟩
  · rw [ht, ho]; exact ⟨_, mf_part a b c L w, ls_self L d w⟩
theorem mf_self (a b c : Int) (L : Nat → Int) (w : World) : (binOp .eql 25 (.agg (mfC a b c L)) (.agg (mfC a b c L))).run Tryz.prog w = .ok (.bool true) w := by
  rw [run_eql_struct, show (10000 : Nat) = 9997 + 3 from rfl, mf_selfd]
  rfl
theorem mf_same (a b c : Int) (L : Nat → Int) (w : World) : (binOp .neq 25 (.agg (mfC a b c L)) (.agg (mfC a b c L))).run Tryz.prog w = .ok (.bool false) w := by
  rw [run_neq_struct, show (10000 : Nat) = 9997 + 3 from rfl, mf_selfd]
  rfl
theorem wpList_load_subG {P : Program} {ops : Array Oper} {rest : List Oper} {o : Oper} {a : Act} {w : World} {Q : Exit → Act → World → Prop} (hw : Region.wanted o (yielded ops a.tmps) = true) (ty : TypeId) (x : Operand) (ho : o.op = .load ty x)
    (g off : Nat) (hx : a.eval x = .pointer (some ⟨g, off, none⟩)) (t : TypeId) (cs sub : Array Value) (fr : Nat × Nat) (d : TypeDesc) (hg : w.heap[g]? = some (.cells cs t fr))
    (hu : P.underlying ty = some d) (hd : (match d with | .struct _ | .array _ _ => true | _ => false) = true) (hi : (P.info? ty).map (·.size) = some sub.size) (hl : ∀ j v, sub.toList[j]? = some v → cs[off + j]? = some v)
    (h : wpList P ops Q rest (a.put o.dst (.agg sub)) w) : wpList P ops Q (o :: rest) a w := by
  have hlc : (loadCells ⟨g, off, none⟩ sub.toList.length).run P w = .ok sub.toList.toArray w :=
    run_loadCells_list (P := P) w ⟨g, off, none⟩ sub.toList (fun j v hv => by
      rw [Addr.add_lit, cell_of_row w g (off + j) cs t fr hg]
      exact hl j v hv)
  have hr : (loadVar ty ⟨g, off, none⟩).run P w = .ok (.agg sub) w := by
    cases hq : P.info? ty with
    | none => simp [hq] at hi
    | some i =>
      have hs : i.size = sub.size := by simpa [hq] using hi
      have hagg : (isAgg ty).run P w = .ok true w := by
        unfold isAgg
        rw [Sem.run_bind, run_underlying hu w]
        cases d <;> simp_all
      have hlc' : (loadCells ⟨g, off, none⟩ sub.size).run P w = .ok sub w := by simpa using hlc
      simp [loadVar, Sem.run_bind, hagg, sizeOf, typeInfo, hq, hs, hlc']
  unfold wpList
  rw [if_pos hw]
  refine Or.inl ?_
  unfold Oper.wp execOp
  simp only [ho, hx, Instr.loadAt, Instr.sureAddr, Sem.run_bind, Sem.run_pure, Result.andThen_ok, hr]
  exact h
theorem two_boxes {w : World} {xs ys : Array Value} {t t' : TypeId} : ((w.alloc (.cells xs t)).alloc (.cells ys t')).heap[w.heap.size]? = some (.cells xs t (0, 0)) ∧ ((w.alloc (.cells xs t)).alloc (.cells ys t')).heap[w.heap.size + 1]? = some (.cells ys t' (0, 0)) := by
  refine ⟨(heap_alloc_old _ _ (by simp)).trans (heap_alloc_new w _), ?_⟩
  have := heap_alloc_new (w.alloc (.cells xs t)) (.cells ys t')
  rw [World.size_alloc] at this
  exact this
set_option maxHeartbeats 4000000 in
theorem rsame13_any (a b c : Int) (bs bs' : Nat → Nat) (v v' : Nat → Value) (T : Nat → List It) (V : Nat → Int) (w : World) (h : LvsAt w bs v T) (h' : LvsAt w bs' v' T) (hlen : ∀ k, k < 16 → (T k).length ≤ 9223372036854775807) :
    Calls Tryz.prog 21 #[.agg (stC v V a b c), .agg (stC v' V a b c)] w fun e w' => e = .returned (.bool true) ∧ Ext w w' := by
  have SC := Lib.hid fun (W : World) (hx : Ext w W) => tsame_any bs bs' v v' T V W (h.ext hx) (h'.ext hx) hlen
  have q1 : ∀ x ys, StBlk ((w.alloc (.cells (stC v V a b c) 56)).alloc (.cells ys x)) w.heap.size v V a b c := fun x ys => two_boxes.1
  have q2 : StBlk ((w.alloc (.cells (stC v V a b c) 56)).alloc (.cells (stC v' V a b c) 56)) (w.heap.size + 1) v' V a b c := two_boxes.2
  obtain ⟨c1, c2, c3⟩ := (q1 56 (stC v' V a b c)).tail
  obtain ⟨d1, d2, d3⟩ := q2.tail
  clear h h' hlen q1 q2
  go_enter Tryz.func21, Tryz.ntmps21
  go_wp2_with (first
    | (refine wpList_load_subG rfl 29 _ rfl (w.heap.size) 0 rfl 56 (stC v V a b c) (trC v V) (0, 0) _ (two_boxes.1) Tryz.underlying29 rfl (by kernel_rfl) (stC_tr v V a b c) ?_)
    | (refine wpList_load_subG rfl 29 _ rfl (w.heap.size + 1) 0 rfl 56 (stC v' V a b c) (trC v' V) (0, 0) _ (two_boxes.2) Tryz.underlying29 rfl (by kernel_rfl) (stC_tr v' V a b c) ?_)
    | (go_at_call 48; refine (SC.out _ (by repeat (first | exact Ext.refl _ | apply Ext.alloc | apply Ext.more | apply Ext.drewN))).mono ?_; rintro e w1 ⟨rfl, hx⟩; have HX := Lib.hid ((((Ext.refl w).alloc _).alloc _).trans hx); clear hx))
  go_ret
  exact ⟨rfl, HX.out⟩
end Go.Proofs.YtpchohjkelopoaaGreatDoor

set_option maxRecDepth 20000
namespace Go.Proofs.YtpchohjkelopoaaGreatDoor
open Go.RowKit
attribute [go_sem] more_more Array.size_append
theorem rbucket_a (w : World) : Calls Tryz.prog 109 #[.string ⟨#[97]⟩] w fun e w' => e = .returned (.int .i64 1) ∧ Ext w w' := by
  go_enter Tryz.func109, Tryz.ntmps109
  go_wp2
  all_goals (go_ret; exact ⟨by kernel_rfl, by repeat (first | exact Ext.refl _ | apply Ext.alloc | apply Ext.more)⟩)
theorem rat_nil (p : Option Addr) (cap : Nat) (k : ByteArray) (w : World) : Calls Tryz.prog 133 #[.slice p 0 cap, .string k] w fun e w' => e = .returned (.int .i64 (-1)) ∧ Ext w w' := by
  go_enter Tryz.func133, Tryz.ntmps133
  go_wp2_with fail
  go_loopw [5] (fun ii wr => ii = .int .i64 0 ∧ Ext w wr) (fun _ _ => 0)
  case atStart => exact ⟨rfl, by repeat (first | exact Ext.refl _ | apply Ext.alloc | apply Ext.more)⟩
  case round =>
    obtain ⟨rfl, hx⟩ := hrel
    have HX := Lib.hid hx
    clear hx
    go_wp2_with fail
    go_ret
    exact ⟨rfl, HX.out⟩
set_option maxHeartbeats 2000000 in
theorem rget_nil (k : ByteArray) (w : World) : Calls Tryz.prog 108 #[.agg (trC nilV zeroV), .string k] w fun e w' => e = .returned (.tuple #[.agg #[.string ⟨#[]⟩, .int .i64 0, .int .i64 0, .string ⟨#[]⟩, .int .i64 0], .bool false]) ∧ Ext w w' := by
  have hb := two_boxes (w := w) (xs := trC nilV zeroV) (ys := #[.string ⟨#[]⟩, .int .i64 0, .int .i64 0, .string ⟨#[]⟩, .int .i64 0]) (t := 29) (t' := 152)
  have hx0 : Ext w ((w.alloc (.cells (trC nilV zeroV) 29)).alloc (.cells #[.string ⟨#[]⟩, .int .i64 0, .int .i64 0, .string ⟨#[]⟩, .int .i64 0] 152)) := ((Ext.refl w).alloc _).alloc _
  have HB := Lib.hid hb
  have HX0 := Lib.hid hx0
  have AT := Lib.hid fun (W : World) => rat_nil none 0 k W
  clear hb hx0
  go_enter Tryz.func108, Tryz.ntmps108
  go_wp2_with fail
  go_loopw [6] (fun ii wr => ∃ j : Nat, ii = .int .i64 (j : Int) ∧ j ≤ 16 ∧ Hid (Ext ((w.alloc (.cells (trC nilV zeroV) 29)).alloc (.cells #[.string ⟨#[]⟩, .int .i64 0, .int .i64 0, .string ⟨#[]⟩, .int .i64 0] 152)) wr)) (fun ii _ => 16 - (intOf ii).toNat)
  case atStart => exact ⟨0, rfl, Nat.zero_le _, Lib.hid (Ext.refl _)⟩
  case round =>
    obtain ⟨j, rfl, hj, hH⟩ := hrel
    by_cases hlt : j < 16
    · have hjI : (j : Int) < 16 := by omega
      have hj0 : (0 : Int) ≤ (j : Int) := by omega
      have hT : TrBlk wr w.heap.size nilV zeroV := TrBlk.ext (show TrBlk _ w.heap.size nilV zeroV from HB.out.1) hH.out
      have hcl : wr.cell? ⟨w.heap.size, j, none⟩ = some (.slice none 0 0) := hT.leaf j hlt
      have hw := lt_of_heap hT
      clear hT
      go_wp2_with (go_at_call 133; refine (AT.out _).mono ?_; rintro e w2 ⟨rfl, hx⟩; have HX := Lib.hid (hH.out.trans hx); clear hx)
      go_roundw
      case rel => exact ⟨j + 1, by go_num, by omega, HX⟩
      case measure => simp [intOf]; omega
    · obtain rfl : j = 16 := by omega
      have hb : wr.heap[w.heap.size + 1]? = some (.cells #[.string ⟨#[]⟩, .int .i64 0, .int .i64 0, .string ⟨#[]⟩, .int .i64 0] 152 (0, 0)) := by rw [hH.out.below.block _ (lt_of_heap HB.out.2)]; exact HB.out.2
      have HB1 := Lib.hid hb
      clear hb
      go_wp2_with (first
        | (refine wpList_buildTo rfl 152 #[] rfl _ rfl (#[.string ⟨#[]⟩, .int .i64 0, .int .i64 0, .string ⟨#[]⟩, .int .i64 0]) (by kernel_rfl) ?_)
        | (refine wpList_store_rowTo rfl 152 _ _ rfl rfl (w.heap.size + 1) (#[.string ⟨#[]⟩, .int .i64 0, .int .i64 0, .string ⟨#[]⟩, .int .i64 0]) rfl rfl 152 (#[.string ⟨#[]⟩, .int .i64 0, .int .i64 0, .string ⟨#[]⟩, .int .i64 0]) (HB1.out) (by kernel_rfl) rfl ((by kernel_rfl)) ?_))
      exact bodyPost_ret (results_cell_slot (p := 4) (q := 5) (ty := 152) rfl _ _ ⟨w.heap.size + 1, 0, none⟩ _ rfl (run_loadVar_row _ (w.heap.size + 1) 152 152 #[.string ⟨#[]⟩, .int .i64 0, .int .i64 0, .string ⟨#[]⟩, .int .i64 0] (0, 0) _ (setRow_heap _ _ _ _ _ _ HB1.out) Tryz.underlying152 rfl (by kernel_rfl)) _ rfl) rfl ⟨rfl, (HX0.out.trans hH.out).setRow (Nat.le_succ _) _⟩
set_option maxHeartbeats 2000000 in
theorem rwith_nil (x : It) (p : Option Addr) (cap : Nat) (w : World) :
    Calls Tryz.prog 111 #[.slice p 0 cap, itV x] w fun e w' => ∃ v', e = .returned v' ∧ w'.ownsRow w.heap.size 152 5 v' 1 (itCells [x]) ∧ Ext w w' := by
  obtain ⟨i1, hi1, hy0, hy1, hy2⟩ := info_parts itInfo
  unfold itV
  go_enter Tryz.func111, Tryz.ntmps111
  go_wp2_with fail
  have hb := heap_alloc_new w (.cells #[.string x.k, .int .i64 x.vk, .int .i64 x.vi, .string x.vs, .int .i64 x.ver] 152)
  have hx0 : Ext w (w.alloc (.cells #[.string x.k, .int .i64 x.vk, .int .i64 x.vi, .string x.vs, .int .i64 x.ver] 152)) := (Ext.refl w).alloc _
  obtain ⟨W0, hW0⟩ : ∃ W0, w.alloc (.cells #[.string x.k, .int .i64 x.vk, .int .i64 x.vi, .string x.vs, .int .i64 x.ver] 152) = W0 := ⟨_, rfl⟩
  rw [hW0] at hb hx0 ⊢
  obtain ⟨N, hN⟩ : ∃ N, w.heap.size = N := ⟨_, rfl⟩
  rw [hN] at hb ⊢
  have HX0 := Lib.hid hx0
  have HB := Lib.hid hb
  have HN := Lib.hid hN
  clear hx0 hb hW0 hN
  go_loopw [5, 6] (fun out ii wr => out = .slice none 0 0 ∧ ii = .int .i64 0 ∧ wr = W0) (fun _ _ _ => 0)
  case atStart => exact ⟨rfl, rfl, rfl⟩
  case round =>
    obtain ⟨rfl, rfl, rfl⟩ := hrel
    have hg := lt_of_heap HB.out
    have hc := fun j => cell_of_row wr N j _ _ _ HB.out
    have a0 : wr.cell? ⟨N, 0, none⟩ = some (.string x.k) := hc 0
    have a1 : wr.cell? ⟨N, 1, none⟩ = some (.int .i64 x.vk) := hc 1
    have a2 : wr.cell? ⟨N, 2, none⟩ = some (.int .i64 x.vi) := hc 2
    have a3 : wr.cell? ⟨N, 3, none⟩ = some (.string x.vs) := hc 3
    have a4 : wr.cell? ⟨N, 4, none⟩ = some (.int .i64 x.ver) := hc 4
    clear hc
    go_wp2_with (first
      | (refine wpList_load_row rfl 152 _ rfl (N) rfl 152 (#[.string x.k, .int .i64 x.vk, .int .i64 x.vi, .string x.vs, .int .i64 x.ver]) (0, 0) _ (HB.out) Tryz.underlying152 rfl (by kernel_rfl) ?_)
      | (at_builtin; go_loud (refine wpList_append_own_at _ rfl _ _ 26 rfl N 152 i1 (.agg #[.string ⟨#[]⟩, .int .i64 0, .int .i64 0, .string ⟨#[]⟩, .int .i64 0]) 5 56 Tryz.underlying26 hi1 hy0 hy1 hy2 rfl (by decide) (.slice none 0 0) 0 [] rfl (World.ownsRow_nil _ _ _ _) ⟨wr.heap.size, 0, none⟩ 1 1 (itL x) rfl rfl ?c1 ?c2 ?c3 ?c4 ?c5 ?_)))
    case c1 => exact news_it rfl
    case c2 => intro u hu; simp [itL] at hu; rcases hu with rfl | rfl | rfl | rfl | rfl <;> rfl
    case c3 => unfold maxLen; omega
    case c4 => omega
    case c5 => have := HX0.out.size; simp; omega
    intro v' w1 hown' hgrow' _ _
    have HX1 : Hid (Ext w w1) := Lib.hid ((HX0.out.alloc _).grown hgrow' (fun q hq => by cases hq))
    have HO1 := Lib.hid hown'
    clear hown' hgrow' a0 a1 a2 a3 a4
    go_wp2_with fail
    go_loopw [5, 7] (fun out ii wr => out = v' ∧ ii = .int .i64 0 ∧ wr = w1) (fun _ _ _ => 0)
    case atStart => exact ⟨rfl, rfl, rfl⟩
    case round =>
      obtain ⟨rfl, rfl, rfl⟩ := hrel
      go_wp2_with fail
      go_ret
      refine ⟨_, rfl, ?_, HX1.out⟩
      have := HO1.out
      simpa [itCells, HN.out] using this
end Go.Proofs.YtpchohjkelopoaaGreatDoor

set_option maxRecDepth 20000
namespace Go.Proofs.YtpchohjkelopoaaGreatDoor
open Go.RowKit
attribute [go_sem] more_more Array.size_append
/-- a store -/
structure Sto where
  T : Nat → List It
  V : Nat → Int
  a : Int
  b : Int
  c : Int
def Sto.none : Sto := ⟨tOf [], zeroV, 0, 0, 0⟩
/-- what Done says of a crate -/
def doneF (a b c : Int) (g : Nat → Bool) (T : Nat → List It) (V : Nat → Int) : Sto × Int :=
  if 0 < (needK g 16).length then (Sto.none, 20) else if storeB T V a b c = true then (⟨T, V, a, b, c⟩, 0) else (Sto.none, 1)
theorem needK_all {g : Nat → Bool} : ∀ k, (∀ j, j < k → g j = true) → needK g k = []
  | 0, _ => rfl
  | k + 1, h => by rw [needK_yes (h k (Nat.lt_succ_self k))]; exact needK_all k fun j hj => h j (by omega)
def DonePost (w w' : World) (e : Ending) (r : Sto × Int) : Prop :=
  ∃ bs v, e = .returned (.tuple #[.agg (stC v r.1.V r.1.a r.1.b r.1.c), .int .i64 r.2]) ∧ LvsAt w' bs v r.1.T ∧ LvTy w' bs r.1.T ∧ Ext w w'
theorem DonePost.no {w w' : World} {er : Int} (hx : Ext w w') : DonePost w w' (.returned (.tuple #[.agg (stC nilV zeroV 0 0 0), .int .i64 er])) (Sto.none, er) :=
  ⟨fun _ => 0, nilV, rfl, lvs_nil _ _, lvty_nil _ _, hx⟩
theorem zst_one : (stC nilV zeroV 0 0 0).all (·.oneCell') = true := by kernel_rfl
set_option maxHeartbeats 4000000 in
theorem done_any (a b c : Int) (L : Nat → Int) (g : Nat → Bool) (bs : Nat → Nat) (v : Nat → Value) (T : Nat → List It) (V : Nat → Int) (SB : Nat) (w : World) (hS : SignsAt SB w) (hSB : SB ≤ w.heap.size) (h : LvsAt w bs v T) (hy : LvTy w bs T) (r : Sto × Int) (hr : doneF a b c g T V = r) :
    Calls Tryz.prog 19 #[.agg (crC a b c L g v V)] w fun e w' => DonePost w w' e r := by
  have NC := Lib.hid fun (W : World) => need_any a b c L g v V W
  have MC := Lib.hid fun (W : World) (hx : Ext w W) => stmay_any bs v T V a b c SB W (hS.ext hx hSB) (Nat.le_trans hSB hx.size) (h.ext hx)
  have HL := Lib.hid h
  have HY := Lib.hid hy
  have q1 : CrBlk ((w.alloc (.cells (crC a b c L g v V) 39)).alloc (.cells (stC nilV zeroV 0 0 0) 56)) w.heap.size a b c L g v V := two_boxes.1
  have q2 : StBlk ((w.alloc (.cells (crC a b c L g v V) 39)).alloc (.cells (stC nilV zeroV 0 0 0) 56)) (w.heap.size + 1) nilV zeroV 0 0 0 := two_boxes.2
  have Q1 := Lib.hid q1
  have Q2 := Lib.hid q2
  unfold doneF at hr
  have hln := needK_len g 16
  clear h hS q1 q2 hy
  by_cases hne : 0 < (needK g 16).length
  · have hneI : (0 : Int) < ((needK g 16).length : Int) := by omega
    rw [if_pos hne] at hr
    subst hr
    obtain ⟨m, hm⟩ : ∃ m, (needK g 16).length = m := ⟨_, rfl⟩
    rw [hm] at hneI NC
    clear hne hm hln
    go_enter Tryz.func19, Tryz.ntmps19
    go_wp2_with (first
    | (refine wpList_load_row rfl 39 _ rfl w.heap.size rfl 39 (crC a b c L g v V) (0, 0) _ (Q1.out) Tryz.underlying39 rfl (by kernel_rfl) ?_)
    | (go_at_call 18; refine (NC.out _).mono ?_; rintro e w1 ⟨nv, rfl, ho, hx⟩; obtain ⟨pn, cn, rfl⟩ := own_sl ho; have HX := Lib.hid ((((Ext.refl w).alloc _).alloc _).trans hx); have HB := Lib.hid (Q2.out.ext hx); clear ho hx)
    | (refine wpList_buildTo rfl 56 #[] rfl _ rfl (stC nilV zeroV 0 0 0) (by kernel_rfl) ?_)
    | (refine wpList_store_rowTo rfl 56 _ _ rfl rfl (w.heap.size + 1) (stC nilV zeroV 0 0 0) rfl rfl 56 (stC nilV zeroV 0 0 0) (HB.out) (by kernel_rfl) rfl (zst_one) ?_))
    exact bodyPost_ret (results_cell_slot (p := 2) (q := 3) (ty := 56) rfl _ _ ⟨w.heap.size + 1, 0, none⟩ _ rfl (st_loadS (StBlk.setT (v2 := nilV) (V2 := zeroV) (a2 := 0) (b2 := 0) (c2 := 0) HB.out)) _ rfl) rfl (DonePost.no (HX.out.setRow (Nat.le_succ _) _))
  · have hz : (needK g 16).length = 0 := by omega
    rw [if_neg hne] at hr
    rw [hz] at NC
    clear hne hz hln
    by_cases hst : storeB T V a b c = true
    · rw [hst] at MC
      rw [if_pos hst] at hr
      subst hr
      clear hst
      go_enter Tryz.func19, Tryz.ntmps19
      go_wp2_with (first
    | (refine wpList_load_row rfl 39 _ rfl w.heap.size rfl 39 (crC a b c L g v V) (0, 0) _ (Q1.out) Tryz.underlying39 rfl (by kernel_rfl) ?_)
    | (go_at_call 18; refine (NC.out _).mono ?_; rintro e w1 ⟨nv, rfl, ho, hx⟩; obtain ⟨pn, cn, rfl⟩ := own_sl ho; have HX := Lib.hid ((((Ext.refl w).alloc _).alloc _).trans hx); have HB := Lib.hid (Q2.out.ext hx); have HC := Lib.hid (Q1.out.ext hx); have ca := HC.out.cell 0; have cb := HC.out.cell 1; have cc := HC.out.cell 2; (try rw [show (crC a b c L g v V)[0]? = some (.int .i64 a) from rfl] at ca); (try rw [show (crC a b c L g v V)[1]? = some (.int .i64 b) from rfl] at cb); (try rw [show (crC a b c L g v V)[2]? = some (.int .i64 c) from rfl] at cc); have hwz := lt_of_heap HC.out; clear ho hx)
    | (refine wpList_load_sub rfl 29 _ rfl (w.heap.size) 35 rfl 39 (crC a b c L g v V) (trC v V) (0, 0) _ (HC.out) Tryz.underlying29 rfl (by kernel_rfl) (crC_tr a b c L g v V) ?_)
    | (refine wpList_buildTo rfl 56 _ rfl _ rfl (stC v V a b c) (by kernel_rfl) ?_)
    | (refine wpList_store_rowTo rfl 56 _ _ rfl rfl (w1.heap.size) (stC v V a b c) rfl rfl 56 (stC nilV zeroV 0 0 0) (heap_alloc_new w1 _) (by kernel_rfl) rfl (stC_one v V a b c HL.out.one) ?_)
    | (have HM := Lib.hid (StBlk.setT (v2 := v) (V2 := V) (a2 := a) (b2 := b) (c2 := c) (show StBlk (w1.alloc (.cells (stC nilV zeroV 0 0 0) 56)) w1.heap.size nilV zeroV 0 0 0 from heap_alloc_new w1 _)); refine wpList_load_row rfl 56 _ rfl w1.heap.size rfl 56 (stC v V a b c) (0, 0) _ (HM.out) Tryz.underlying56 rfl (by kernel_rfl) ?_)
    | (go_at_call 60; refine (MC.out _ ((HX.out.alloc _).setRow HX.out.size _)).mono ?_; rintro e w2 ⟨rfl, hx⟩; have HX2 := Lib.hid (((HX.out.alloc _).setRow HX.out.size _).trans hx); have HM2 := Lib.hid (HM.out.ext hx); have HB2 := Lib.hid (StBlk.ext (StBlk.otherRow (HB.out.ext ((Ext.refl w1).alloc _)) (show w.heap.size + 1 ≠ w1.heap.size by have := lt_of_heap HB.out; omega) (stC v V a b c)) hx); clear hx)
    | (refine wpList_load_row rfl 56 _ rfl w1.heap.size rfl 56 (stC v V a b c) (0, 0) _ (HM2.out) Tryz.underlying56 rfl (by kernel_rfl) ?_)
    | (refine wpList_store_rowTo rfl 56 _ _ rfl rfl (w.heap.size + 1) (stC v V a b c) rfl rfl 56 (stC nilV zeroV 0 0 0) (HB2.out) (by kernel_rfl) rfl (stC_one v V a b c HL.out.one) ?_))
      obtain ⟨e1, e2⟩ := LvsAt.rowT (HL.out.ext HX2.out) (HY.out.ext HX2.out) HB2.out (by decide) (stC v V a b c)
      exact bodyPost_ret (results_cell_slot (p := 2) (q := 3) (ty := 56) rfl _ _ ⟨w.heap.size + 1, 0, none⟩ _ rfl (st_loadS (StBlk.setT (v2 := v) (V2 := V) (a2 := a) (b2 := b) (c2 := c) HB2.out)) _ rfl) rfl ⟨bs, v, rfl, e1, e2, HX2.out.setRow (Nat.le_succ _) _⟩
    · have hst' : storeB T V a b c = false := by simpa using hst
      rw [hst'] at MC
      rw [if_neg hst] at hr
      subst hr
      clear hst hst'
      go_enter Tryz.func19, Tryz.ntmps19
      go_wp2_with (first
    | (refine wpList_load_row rfl 39 _ rfl w.heap.size rfl 39 (crC a b c L g v V) (0, 0) _ (Q1.out) Tryz.underlying39 rfl (by kernel_rfl) ?_)
    | (go_at_call 18; refine (NC.out _).mono ?_; rintro e w1 ⟨nv, rfl, ho, hx⟩; obtain ⟨pn, cn, rfl⟩ := own_sl ho; have HX := Lib.hid ((((Ext.refl w).alloc _).alloc _).trans hx); have HB := Lib.hid (Q2.out.ext hx); have HC := Lib.hid (Q1.out.ext hx); have ca := HC.out.cell 0; have cb := HC.out.cell 1; have cc := HC.out.cell 2; (try rw [show (crC a b c L g v V)[0]? = some (.int .i64 a) from rfl] at ca); (try rw [show (crC a b c L g v V)[1]? = some (.int .i64 b) from rfl] at cb); (try rw [show (crC a b c L g v V)[2]? = some (.int .i64 c) from rfl] at cc); have hwz := lt_of_heap HC.out; clear ho hx)
    | (refine wpList_load_sub rfl 29 _ rfl (w.heap.size) 35 rfl 39 (crC a b c L g v V) (trC v V) (0, 0) _ (HC.out) Tryz.underlying29 rfl (by kernel_rfl) (crC_tr a b c L g v V) ?_)
    | (refine wpList_buildTo rfl 56 #[] rfl _ rfl (stC nilV zeroV 0 0 0) (by kernel_rfl) ?_)
    | (refine wpList_buildTo rfl 56 _ rfl _ rfl (stC v V a b c) (by kernel_rfl) ?_)
    | (refine wpList_store_rowTo rfl 56 _ _ rfl rfl (w1.heap.size) (stC v V a b c) rfl rfl 56 (stC nilV zeroV 0 0 0) (heap_alloc_new w1 _) (by kernel_rfl) rfl (stC_one v V a b c HL.out.one) ?_)
    | (have HM := Lib.hid (StBlk.setT (v2 := v) (V2 := V) (a2 := a) (b2 := b) (c2 := c) (show StBlk (w1.alloc (.cells (stC nilV zeroV 0 0 0) 56)) w1.heap.size nilV zeroV 0 0 0 from heap_alloc_new w1 _)); refine wpList_load_row rfl 56 _ rfl w1.heap.size rfl 56 (stC v V a b c) (0, 0) _ (HM.out) Tryz.underlying56 rfl (by kernel_rfl) ?_)
    | (go_at_call 60; refine (MC.out _ ((HX.out.alloc _).setRow HX.out.size _)).mono ?_; rintro e w2 ⟨rfl, hx⟩; have HX2 := Lib.hid (((HX.out.alloc _).setRow HX.out.size _).trans hx); have HM2 := Lib.hid (HM.out.ext hx); have HB2 := Lib.hid (StBlk.ext (StBlk.otherRow (HB.out.ext ((Ext.refl w1).alloc _)) (show w.heap.size + 1 ≠ w1.heap.size by have := lt_of_heap HB.out; omega) (stC v V a b c)) hx); clear hx)
    | (refine wpList_buildTo rfl 56 #[] rfl _ rfl (stC nilV zeroV 0 0 0) (by kernel_rfl) ?_)
    | (refine wpList_store_rowTo rfl 56 _ _ rfl rfl (w.heap.size + 1) (stC nilV zeroV 0 0 0) rfl rfl 56 (stC nilV zeroV 0 0 0) (HB2.out) (by kernel_rfl) rfl (zst_one) ?_))
      exact bodyPost_ret (results_cell_slot (p := 2) (q := 3) (ty := 56) rfl _ _ ⟨w.heap.size + 1, 0, none⟩ _ rfl (st_loadS (StBlk.setT (v2 := nilV) (V2 := zeroV) (a2 := 0) (b2 := 0) (c2 := 0) HB2.out)) _ rfl) rfl (DonePost.no (HX2.out.setRow (Nat.le_succ _) _))
end Go.Proofs.YtpchohjkelopoaaGreatDoor
