/- Lemmas for the claim (texts PaP, what its proof uses of them). -/
import Derived.Test.YtpchohjkelopoaaGreatDoorK24
import Derived.Deep.DeepCutAuto
set_option linter.unusedSimpArgs false
set_option linter.unusedVariables false
set_option maxRecDepth 20000
namespace Go.Proofs.YtpchohjkelopoaaGreatDoor
open Go.RowKit
attribute [go_sem] more_more Array.size_append
theorem RCratePost.no {B : Nat} {lv v' : Value} {l : List ByteArray} {er : Int} {w w' : World} (h1 : w'.ownsRow B 9 1 v' l.length (l.map Value.string)) (h2 : w.grownBy w' lv.ownBlock) (h3 : v'.ownBlock = lv.ownBlock ∨ ∃ k, v'.ownBlock = some k ∧ w.heap.size ≤ k) : RCratePost B lv (l, Cr.none, er) w (.returned (.tuple #[v', .agg (Cr.none.cells nilV), .int .i64 er])) w' :=
  ⟨v', fun _ => 0, nilV, rfl, h1, h2, h3, lvs_nil _ _, lvty_nil _ _⟩
set_option maxHeartbeats 8000000 in
theorem rtake_any (B : Nat) (lv : Value) (l : List ByteArray) (a b c : Int) (L : Nat → Int) (g : Nat → Bool) (bs : Nat → Nat) (v : Nat → Value) (T : Nat → List It) (V : Nat → Int) (bk ver : Int) (pv : Value) (base : Nat) (ts : List ByteArray) (w : World) (hBw : B ≤ w.heap.size) (hown : w.ownsRow B 9 1 lv l.length (l.map Value.string)) (h : LvsAt w bs v T) (hy : LvTy w bs T) (hlen : ∀ k, k < 16 → (T k).length ≤ 9223372036854775807) (hrow : w.ownsRow base 9 1 pv ts.length (ts.map Value.string)) (hn : ts.length ≤ 100000) (hz : ∀ s ∈ ts, s.size ≤ 100000) (hll : l.length ≤ 900) (r : List ByteArray × Cr × Int) (hr : takeF l ⟨⟨a, b, c, L⟩, g, T, V⟩ bk ver ts = r) :
    Calls Tryz.prog 17 #[lv, .agg (crC a b c L g v V), .agg #[.int .i64 bk, .int .i64 ver, pv]] w (RCratePost B lv r w) := by
  unfold takeF at hr
  dsimp only at hr
  have HD : ∀ (o3 : Obj) (W : World), W = (((w.alloc (.cells (crC a b c L g v V) 39)).alloc (.cells #[.int .i64 bk, .int .i64 ver, pv] 50)).alloc o3) → CrBlk W w.heap.size a b c L g v V ∧ PcBlk W (w.heap.size + 1) bk ver pv ∧ W.heap[w.heap.size + 1 + 1]? = some o3 ∧ Ext w W := fun o3 W e => by
    rw [e]; exact ⟨(three_boxes o3).1, (three_boxes o3).2.1, (three_boxes o3).2.2, ((((Ext.refl w).alloc _).alloc _).alloc _)⟩
  obtain ⟨e1, e2, e3, e4⟩ := HD (.cells Tryz.zeroCells39 39) _ rfl
  have e3 : CrBlk (((w.alloc (.cells (crC a b c L g v V) 39)).alloc (.cells #[.int .i64 bk, .int .i64 ver, pv] 50)).alloc (.cells Tryz.zeroCells39 39)) (w.heap.size + 1 + 1) 0 0 0 zeroV noG nilV zeroV := e3.trans (by kernel_rfl)
  obtain ⟨p0, p1, p2, f0, f1, f2, hNw⟩ := e2.cell
  obtain ⟨pq, cq, hpv⟩ := own_sl hrow
  subst hpv
  have E1 := Lib.hid e1
  have E2 := Lib.hid e2
  have E3 := Lib.hid e3
  have E4 := Lib.hid e4
  have HL := Lib.hid h
  have HY := Lib.hid hy
  have HLEN := Lib.hid hlen
  have HOWN := Lib.hid hown
  have HROW := Lib.hid hrow
  have HZ := Lib.hid hz
  clear h hy hlen hown hrow hz HD e1 e2 e3 e4
  by_cases hb : bk < 0 ∨ 15 < bk
  · rw [if_pos hb] at hr
    subst hr
    by_cases h0 : bk < 0
    · clear hb
      go_enter Tryz.func17, Tryz.ntmps17
      go_wp2_with (first
    | (refine wpList_buildTo rfl 39 #[] rfl _ rfl (crC 0 0 0 zeroV noG nilV zeroV) (by kernel_rfl) ?_)
    | (refine wpList_store_rowTo rfl 39 _ _ rfl rfl (w.heap.size + 1 + 1) (crC 0 0 0 zeroV noG nilV zeroV) rfl rfl 39 (crC 0 0 0 zeroV noG nilV zeroV) (E3.out) (by kernel_rfl) rfl (zcr_one) ?_))
      exact bodyPost_ret (results_slot_cell_slot (p := 7) (q := 8) (r := 6) (ty := 39) rfl _ _ ⟨w.heap.size + 1 + 1, 0, none⟩ _ rfl (cr_load (E3.out.setRow 0 0 0 zeroV noG nilV zeroV)) _ _ rfl rfl) rfl (RCratePost.no (own_afterR (own_ext HOWN.out E4.out) E3.out (by decide) _) (rstep_new (rstep_ext E4.out) (grown_row _ (w.heap.size + 1 + 1) (crC 0 0 0 zeroV noG nilV zeroV)) (fun k hk => by obtain rfl := Option.some.inj hk; omega)) (Or.inl rfl))
    · have h16 : (15 : Int) < bk := by omega
      have h0' : (bk < 0) = False := eq_false h0
      clear hb h0
      go_enter Tryz.func17, Tryz.ntmps17
      go_wp2_with (first
    | (refine wpList_buildTo rfl 39 #[] rfl _ rfl (crC 0 0 0 zeroV noG nilV zeroV) (by kernel_rfl) ?_)
    | (refine wpList_store_rowTo rfl 39 _ _ rfl rfl (w.heap.size + 1 + 1) (crC 0 0 0 zeroV noG nilV zeroV) rfl rfl 39 (crC 0 0 0 zeroV noG nilV zeroV) (E3.out) (by kernel_rfl) rfl (zcr_one) ?_))
      exact bodyPost_ret (results_slot_cell_slot (p := 7) (q := 8) (r := 6) (ty := 39) rfl _ _ ⟨w.heap.size + 1 + 1, 0, none⟩ _ rfl (cr_load (E3.out.setRow 0 0 0 zeroV noG nilV zeroV)) _ _ rfl rfl) rfl (RCratePost.no (own_afterR (own_ext HOWN.out E4.out) E3.out (by decide) _) (rstep_new (rstep_ext E4.out) (grown_row _ (w.heap.size + 1 + 1) (crC 0 0 0 zeroV noG nilV zeroV)) (fun k hk => by obtain rfl := Option.some.inj hk; omega)) (Or.inl rfl))
  rw [if_neg hb] at hr
  obtain ⟨k, rfl⟩ : ∃ k : Nat, bk = (k : Int) := ⟨bk.toNat, by omega⟩
  have hk : k < 16 := by omega
  simp only [Int.toNat_natCast] at hr
  have hkI : (k : Int) < 16 := by omega
  have hk0 : (0 : Int) ≤ (k : Int) := by omega
  have hk1 : ((k : Int) < 0) = False := eq_false (by omega)
  have hk2 : ((15 : Int) < (k : Int)) = False := eq_false (by omega)
  have cg := E1.out.cellG k hk
  have hCw := lt_of_heap E1.out
  clear hb
  by_cases hg : g k = true
  · rw [if_pos hg] at hr
    subst hr
    rw [hg] at cg
    clear hg
    go_enter Tryz.func17, Tryz.ntmps17
    go_wp2_with (first
    | (refine wpList_buildTo rfl 39 #[] rfl _ rfl (crC 0 0 0 zeroV noG nilV zeroV) (by kernel_rfl) ?_)
    | (refine wpList_store_rowTo rfl 39 _ _ rfl rfl (w.heap.size + 1 + 1) (crC 0 0 0 zeroV noG nilV zeroV) rfl rfl 39 (crC 0 0 0 zeroV noG nilV zeroV) (E3.out) (by kernel_rfl) rfl (zcr_one) ?_))
    exact bodyPost_ret (results_slot_cell_slot (p := 7) (q := 8) (r := 6) (ty := 39) rfl _ _ ⟨w.heap.size + 1 + 1, 0, none⟩ _ rfl (cr_load (E3.out.setRow 0 0 0 zeroV noG nilV zeroV)) _ _ rfl rfl) rfl (RCratePost.no (own_afterR (own_ext HOWN.out E4.out) E3.out (by decide) _) (rstep_new (rstep_ext E4.out) (grown_row _ (w.heap.size + 1 + 1) (crC 0 0 0 zeroV noG nilV zeroV)) (fun k hk => by obtain rfl := Option.some.inj hk; omega)) (Or.inl rfl))
  rw [if_neg hg] at hr
  have hg' : g k = false := by simpa using hg
  rw [hg'] at cg
  clear hg
  obtain ⟨ri, hri⟩ : ∃ ri, leafOfF (ts.map txt) = ri := ⟨_, rfl⟩
  have hlb := leafOfF_leafB (L := ts.map txt)
  rw [hri] at hr hlb
  have IT := Lib.hid fun (W : World) (hx : Ext w W) => rlof_any (.slice pq ts.length cq) (ts.map txt) base W (by rw [txt_map, List.length_map]; exact own_ext HROW.out hx) (by rw [List.length_map]; exact hn) (by intro c hc; obtain ⟨s, hs, rfl⟩ := List.mem_map.1 hc; have := HZ.out s hs; unfold txt; rw [ba_len]; omega) ri hri
  obtain ⟨li, ei, pi⟩ := ri
  dsimp only at hr hlb
  clear hri hn
  by_cases hei : ei = 0
  case neg =>
    have hc : (ei == 0 && decide (0 ≤ ver) && decide (ver ≤ 2147483647)) = false := by simp [hei]
    have he' : (ei != 0) = true := by simpa using hei
    rw [if_pos hc] at hr
    subst hr
    have HEI := Lib.hid hei
    clear hlb hc hei
    go_enter Tryz.func17, Tryz.ntmps17
    go_wp2_with (first
    | (go_at_call 59; refine (IT.out _ E4.out).mono ?_; rintro e w1 ⟨iv, rfl, -, hno, hx⟩; obtain rfl := hno HEI.out; have E41 := Lib.hid (E4.out.trans hx); have e21 := PcBlk.block E2.out (hx.below.block _ (lt_of_heap E2.out)); obtain ⟨q0, q1, q2, _, _, _, hq⟩ := e21.cell; have E31 := Lib.hid (E3.out.ext hx); clear hno hx e21)
    | (refine wpList_buildTo rfl 39 #[] rfl _ rfl (crC 0 0 0 zeroV noG nilV zeroV) (by kernel_rfl) ?_)
    | (refine wpList_store_rowTo rfl 39 _ _ rfl rfl (w.heap.size + 1 + 1) (crC 0 0 0 zeroV noG nilV zeroV) rfl rfl 39 (crC 0 0 0 zeroV noG nilV zeroV) (E31.out) (by kernel_rfl) rfl (zcr_one) ?_))
    exact bodyPost_ret (results_slot_cell_slot (p := 7) (q := 8) (r := 6) (ty := 39) rfl _ _ ⟨w.heap.size + 1 + 1, 0, none⟩ _ rfl (cr_load (E31.out.setRow 0 0 0 zeroV noG nilV zeroV)) _ _ rfl rfl) rfl (RCratePost.no (own_afterR (own_ext HOWN.out E41.out) E31.out (by decide) _) (rstep_new (rstep_ext E41.out) (grown_row _ (w.heap.size + 1 + 1) (crC 0 0 0 zeroV noG nilV zeroV)) (fun k hk => by obtain rfl := Option.some.inj hk; omega)) (Or.inl rfl))
  subst hei
  by_cases hv0 : ver < 0
  · have hc : ((0 : Int) == 0 && decide (0 ≤ ver) && decide (ver ≤ 2147483647)) = false := by simp; omega
    rw [if_pos hc] at hr
    subst hr
    clear hlb hc
    go_enter Tryz.func17, Tryz.ntmps17
    go_wp2_with (first
    | (go_at_call 59; refine (IT.out _ E4.out).mono ?_; rintro e w1 ⟨iv, rfl, hok, -, hx⟩; obtain ⟨hown, hio⟩ := hok rfl; obtain ⟨pp, cc, rfl⟩ := own_sl hown; obtain ⟨b1, o1, o2, _⟩ := own_lf hown rfl hio; have HLF := Lib.hid o1; have HLT := Lib.hid o2; have E41 := Lib.hid (E4.out.trans hx); have E11 := Lib.hid (E1.out.ext hx); have e21 := PcBlk.block E2.out (hx.below.block _ (lt_of_heap E2.out)); obtain ⟨q0, q1, q2, _, _, _, hq⟩ := e21.cell; have E21 := Lib.hid e21; have E31 := Lib.hid (E3.out.ext hx); clear hok hx hown hio o1 o2 e21)
    | (refine wpList_buildTo rfl 39 #[] rfl _ rfl (crC 0 0 0 zeroV noG nilV zeroV) (by kernel_rfl) ?_)
    | (refine wpList_store_rowTo rfl 39 _ _ rfl rfl (w.heap.size + 1 + 1) (crC 0 0 0 zeroV noG nilV zeroV) rfl rfl 39 (crC 0 0 0 zeroV noG nilV zeroV) (E31.out) (by kernel_rfl) rfl (zcr_one) ?_))
    exact bodyPost_ret (results_slot_cell_slot (p := 7) (q := 8) (r := 6) (ty := 39) rfl _ _ ⟨w.heap.size + 1 + 1, 0, none⟩ _ rfl (cr_load (E31.out.setRow 0 0 0 zeroV noG nilV zeroV)) _ _ rfl rfl) rfl (RCratePost.no (own_afterR (own_ext HOWN.out E41.out) E31.out (by decide) _) (rstep_new (rstep_ext E41.out) (grown_row _ (w.heap.size + 1 + 1) (crC 0 0 0 zeroV noG nilV zeroV)) (fun k hk => by obtain rfl := Option.some.inj hk; omega)) (Or.inl rfl))
  have hv0' : (ver < 0) = False := eq_false hv0
  by_cases hv1 : 2147483647 < ver
  · have hc : ((0 : Int) == 0 && decide (0 ≤ ver) && decide (ver ≤ 2147483647)) = false := by simp; omega
    rw [if_pos hc] at hr
    subst hr
    clear hlb hc hv0
    go_enter Tryz.func17, Tryz.ntmps17
    go_wp2_with (first
    | (go_at_call 59; refine (IT.out _ E4.out).mono ?_; rintro e w1 ⟨iv, rfl, hok, -, hx⟩; obtain ⟨hown, hio⟩ := hok rfl; obtain ⟨pp, cc, rfl⟩ := own_sl hown; obtain ⟨b1, o1, o2, _⟩ := own_lf hown rfl hio; have HLF := Lib.hid o1; have HLT := Lib.hid o2; have E41 := Lib.hid (E4.out.trans hx); have E11 := Lib.hid (E1.out.ext hx); have e21 := PcBlk.block E2.out (hx.below.block _ (lt_of_heap E2.out)); obtain ⟨q0, q1, q2, _, _, _, hq⟩ := e21.cell; have E21 := Lib.hid e21; have E31 := Lib.hid (E3.out.ext hx); clear hok hx hown hio o1 o2 e21)
    | (refine wpList_buildTo rfl 39 #[] rfl _ rfl (crC 0 0 0 zeroV noG nilV zeroV) (by kernel_rfl) ?_)
    | (refine wpList_store_rowTo rfl 39 _ _ rfl rfl (w.heap.size + 1 + 1) (crC 0 0 0 zeroV noG nilV zeroV) rfl rfl 39 (crC 0 0 0 zeroV noG nilV zeroV) (E31.out) (by kernel_rfl) rfl (zcr_one) ?_))
    exact bodyPost_ret (results_slot_cell_slot (p := 7) (q := 8) (r := 6) (ty := 39) rfl _ _ ⟨w.heap.size + 1 + 1, 0, none⟩ _ rfl (cr_load (E31.out.setRow 0 0 0 zeroV noG nilV zeroV)) _ _ rfl rfl) rfl (RCratePost.no (own_afterR (own_ext HOWN.out E41.out) E31.out (by decide) _) (rstep_new (rstep_ext E41.out) (grown_row _ (w.heap.size + 1 + 1) (crC 0 0 0 zeroV noG nilV zeroV)) (fun k hk => by obtain rfl := Option.some.inj hk; omega)) (Or.inl rfl))
  have hv1' : (2147483647 < ver) = False := eq_false hv1
  have f0' : 0 ≤ ver := by omega
  have f1' : ver ≤ 2147483647 := by omega
  rw [if_neg (by simp; omega)] at hr
  have fl := hlb rfl
  obtain ⟨ro, hro⟩ : ∃ ro, leafT l li ver = ro := ⟨_, rfl⟩
  have LF := Lib.hid fun (W : World) (b : Nat) (iv : Value) (hx : Ext w W) (hlf : LfAt W b iv li) => drleaf_any B lv l b iv li ver W (Nat.le_trans hBw hx.size) (own_ext HOWN.out hx) hll hlf fl f0' f1' ro hro
  have h64 := (leafB_may fl).1
  rw [hro] at hr
  have hn3b := (leafT_len l li ver h64).2
  rw [hro] at hn3b
  obtain ⟨l3, n3, e3⟩ := ro
  dsimp only at hr hn3b
  have hn3 : (n3 : Int) ≤ 1000 := by omega
  have HFL := Lib.hid fl
  clear hlb hro hn3b fl hv0 hv1 f0' f1'
  by_cases he : e3 = 0
  case neg =>
    have he' : (e3 != 0) = true := by simpa using he
    rw [if_pos he] at hr
    subst hr
    clear he
    go_enter Tryz.func17, Tryz.ntmps17
    go_wp2_with (first
    | (go_at_call 59; refine (IT.out _ E4.out).mono ?_; rintro e w1 ⟨iv, rfl, hok, -, hx⟩; obtain ⟨hown, hio⟩ := hok rfl; obtain ⟨pp, cc, rfl⟩ := own_sl hown; obtain ⟨b1, o1, o2, _⟩ := own_lf hown rfl hio; have HLF := Lib.hid o1; have HLT := Lib.hid o2; have E41 := Lib.hid (E4.out.trans hx); have E11 := Lib.hid (E1.out.ext hx); have e21 := PcBlk.block E2.out (hx.below.block _ (lt_of_heap E2.out)); obtain ⟨q0, q1, q2, _, _, _, hq⟩ := e21.cell; have E21 := Lib.hid e21; have E31 := Lib.hid (E3.out.ext hx); clear hok hx hown hio o1 o2 e21)
    | (go_at_call 36; refine (LF.out w1 b1 _ E41.out HLF.out).mono ?_; rintro e w3 ⟨v3, rfl, ho3, hg3, hk3⟩; have H3 := Lib.hid (And.intro ho3 (And.intro (rstep_trans (v := lv) (v1 := lv) (rstep_ext E41.out) (Or.inl rfl) hg3) (rstep_own (w := w) (v := lv) E41.out.size (Or.inl rfl) hk3))); have HKT := Lib.hid (fun (g : Nat) (cur : Array Value) (ty : TypeId) (fz : Nat × Nat) (hb : w1.heap[g]? = some (.cells cur ty fz)) (h1 : ty ≠ 9) => (blk_str (own_ext HOWN.out E41.out) hg3 hb h1).trans hb); have e13 : CrBlk w3 w.heap.size a b c L g v V := HKT.out _ _ _ _ E11.out (by decide); have E13 := Lib.hid e13; have cL := e13.cellL k hk; have hw3 := lt_of_heap e13; have e23 : PcBlk w3 (w.heap.size + 1) (k : Int) ver (.slice pq ts.length cq) := HKT.out _ _ _ _ E21.out (by decide); obtain ⟨r0, r1, r2, _, _, _, hr3⟩ := e23.cell; have E23 := Lib.hid e23; have E33 : Hid (CrBlk w3 (w.heap.size + 1 + 1) 0 0 0 zeroV noG nilV zeroV) := Lib.hid (HKT.out _ _ _ _ E31.out (by decide)); have hlv3 := LvsAt.keep (HL.out.ext E41.out) (HY.out.ext E41.out) (fun g cur fz hg => (HKT.out g cur _ fz hg (by decide)).trans hg.symm); have hlf3 : LfAt w3 b1 _ li := HLF.out.of_block (fun hl => by (obtain ⟨cur, fz, hc⟩ := HLT.out hl); exact (HKT.out _ _ _ _ hc (by decide)).trans hc.symm); have HLV3 := Lib.hid hlv3; have HLF3 := Lib.hid hlf3; clear ho3 hg3 hk3 e13 e23 hlv3 hlf3)
    | (refine wpList_buildTo rfl 39 #[] rfl _ rfl (crC 0 0 0 zeroV noG nilV zeroV) (by kernel_rfl) ?_)
    | (refine wpList_store_rowTo rfl 39 _ _ rfl rfl (w.heap.size + 1 + 1) (crC 0 0 0 zeroV noG nilV zeroV) rfl rfl 39 (crC 0 0 0 zeroV noG nilV zeroV) (E33.out) (by kernel_rfl) rfl (zcr_one) ?_))
    exact bodyPost_ret (results_slot_cell_slot (p := 7) (q := 8) (r := 6) (ty := 39) rfl _ _ ⟨w.heap.size + 1 + 1, 0, none⟩ _ rfl (cr_load (E33.out.setRow 0 0 0 zeroV noG nilV zeroV)) _ _ rfl rfl) rfl (RCratePost.no (own_afterR H3.out.1 E33.out (by decide) _) (rstep_new H3.out.2.1 (grown_row _ (w.heap.size + 1 + 1) (crC 0 0 0 zeroV noG nilV zeroV)) (fun k hk => by obtain rfl := Option.some.inj hk; omega)) H3.out.2.2)
  subst he
  rw [if_neg (by simp)] at hr
  by_cases heq : (n3 : Int) = L k
  case neg =>
    have heq' : ((n3 : Int) != L k) = true := by simpa using heq
    rw [if_pos heq] at hr
    subst hr
    clear heq
    go_enter Tryz.func17, Tryz.ntmps17
    go_wp2_with (first
    | (go_at_call 59; refine (IT.out _ E4.out).mono ?_; rintro e w1 ⟨iv, rfl, hok, -, hx⟩; obtain ⟨hown, hio⟩ := hok rfl; obtain ⟨pp, cc, rfl⟩ := own_sl hown; obtain ⟨b1, o1, o2, _⟩ := own_lf hown rfl hio; have HLF := Lib.hid o1; have HLT := Lib.hid o2; have E41 := Lib.hid (E4.out.trans hx); have E11 := Lib.hid (E1.out.ext hx); have e21 := PcBlk.block E2.out (hx.below.block _ (lt_of_heap E2.out)); obtain ⟨q0, q1, q2, _, _, _, hq⟩ := e21.cell; have E21 := Lib.hid e21; have E31 := Lib.hid (E3.out.ext hx); clear hok hx hown hio o1 o2 e21)
    | (go_at_call 36; refine (LF.out w1 b1 _ E41.out HLF.out).mono ?_; rintro e w3 ⟨v3, rfl, ho3, hg3, hk3⟩; have H3 := Lib.hid (And.intro ho3 (And.intro (rstep_trans (v := lv) (v1 := lv) (rstep_ext E41.out) (Or.inl rfl) hg3) (rstep_own (w := w) (v := lv) E41.out.size (Or.inl rfl) hk3))); have HKT := Lib.hid (fun (g : Nat) (cur : Array Value) (ty : TypeId) (fz : Nat × Nat) (hb : w1.heap[g]? = some (.cells cur ty fz)) (h1 : ty ≠ 9) => (blk_str (own_ext HOWN.out E41.out) hg3 hb h1).trans hb); have e13 : CrBlk w3 w.heap.size a b c L g v V := HKT.out _ _ _ _ E11.out (by decide); have E13 := Lib.hid e13; have cL := e13.cellL k hk; have hw3 := lt_of_heap e13; have e23 : PcBlk w3 (w.heap.size + 1) (k : Int) ver (.slice pq ts.length cq) := HKT.out _ _ _ _ E21.out (by decide); obtain ⟨r0, r1, r2, _, _, _, hr3⟩ := e23.cell; have E23 := Lib.hid e23; have E33 : Hid (CrBlk w3 (w.heap.size + 1 + 1) 0 0 0 zeroV noG nilV zeroV) := Lib.hid (HKT.out _ _ _ _ E31.out (by decide)); have hlv3 := LvsAt.keep (HL.out.ext E41.out) (HY.out.ext E41.out) (fun g cur fz hg => (HKT.out g cur _ fz hg (by decide)).trans hg.symm); have hlf3 : LfAt w3 b1 _ li := HLF.out.of_block (fun hl => by (obtain ⟨cur, fz, hc⟩ := HLT.out hl); exact (HKT.out _ _ _ _ hc (by decide)).trans hc.symm); have HLV3 := Lib.hid hlv3; have HLF3 := Lib.hid hlf3; clear ho3 hg3 hk3 e13 e23 hlv3 hlf3)
    | (refine wpList_buildTo rfl 39 #[] rfl _ rfl (crC 0 0 0 zeroV noG nilV zeroV) (by kernel_rfl) ?_)
    | (refine wpList_store_rowTo rfl 39 _ _ rfl rfl (w.heap.size + 1 + 1) (crC 0 0 0 zeroV noG nilV zeroV) rfl rfl 39 (crC 0 0 0 zeroV noG nilV zeroV) (E33.out) (by kernel_rfl) rfl (zcr_one) ?_))
    exact bodyPost_ret (results_slot_cell_slot (p := 7) (q := 8) (r := 6) (ty := 39) rfl _ _ ⟨w.heap.size + 1 + 1, 0, none⟩ _ rfl (cr_load (E33.out.setRow 0 0 0 zeroV noG nilV zeroV)) _ _ rfl rfl) rfl (RCratePost.no (own_afterR H3.out.1 E33.out (by decide) _) (rstep_new H3.out.2.1 (grown_row _ (w.heap.size + 1 + 1) (crC 0 0 0 zeroV noG nilV zeroV)) (fun k hk => by obtain rfl := Option.some.inj hk; omega)) H3.out.2.2)
  rw [if_neg (by simpa using heq)] at hr
  have MY := Lib.hid fun (W : World) (h : LvsAt W bs v T) => rtmay_any bs v T V W HLEN.out h
  have FT := Lib.hid fun (W : World) (b : Nat) (iv : Value) (hlf : LfAt W b iv li) => rfits_any b (k : Int) iv li ver hk0 W hlf (by omega)
  cases ht : trunkB T V with
  | false =>
    rw [if_pos (by rw [ht]; rfl)] at hr
    rw [ht] at MY
    subst hr
    go_enter Tryz.func17, Tryz.ntmps17
    go_upto_region 13 with (first
    | (go_at_call 59; refine (IT.out _ E4.out).mono ?_; rintro e w1 ⟨iv, rfl, hok, -, hx⟩; obtain ⟨hown, hio⟩ := hok rfl; obtain ⟨pp, cc, rfl⟩ := own_sl hown; obtain ⟨b1, o1, o2, _⟩ := own_lf hown rfl hio; have HLF := Lib.hid o1; have HLT := Lib.hid o2; have E41 := Lib.hid (E4.out.trans hx); have E11 := Lib.hid (E1.out.ext hx); have e21 := PcBlk.block E2.out (hx.below.block _ (lt_of_heap E2.out)); obtain ⟨q0, q1, q2, _, _, _, hq⟩ := e21.cell; have E21 := Lib.hid e21; have E31 := Lib.hid (E3.out.ext hx); clear hok hx hown hio o1 o2 e21)
    | (go_at_call 36; refine (LF.out w1 b1 _ E41.out HLF.out).mono ?_; rintro e w3 ⟨v3, rfl, ho3, hg3, hk3⟩; have H3 := Lib.hid (And.intro ho3 (And.intro (rstep_trans (v := lv) (v1 := lv) (rstep_ext E41.out) (Or.inl rfl) hg3) (rstep_own (w := w) (v := lv) E41.out.size (Or.inl rfl) hk3))); have HKT := Lib.hid (fun (g : Nat) (cur : Array Value) (ty : TypeId) (fz : Nat × Nat) (hb : w1.heap[g]? = some (.cells cur ty fz)) (h1 : ty ≠ 9) => (blk_str (own_ext HOWN.out E41.out) hg3 hb h1).trans hb); have e13 : CrBlk w3 w.heap.size a b c L g v V := HKT.out _ _ _ _ E11.out (by decide); have E13 := Lib.hid e13; have cL := e13.cellL k hk; have hw3 := lt_of_heap e13; have e23 : PcBlk w3 (w.heap.size + 1) (k : Int) ver (.slice pq ts.length cq) := HKT.out _ _ _ _ E21.out (by decide); obtain ⟨r0, r1, r2, _, _, _, hr3⟩ := e23.cell; have E23 := Lib.hid e23; have E33 : Hid (CrBlk w3 (w.heap.size + 1 + 1) 0 0 0 zeroV noG nilV zeroV) := Lib.hid (HKT.out _ _ _ _ E31.out (by decide)); have hlv3 := LvsAt.keep (HL.out.ext E41.out) (HY.out.ext E41.out) (fun g cur fz hg => (HKT.out g cur _ fz hg (by decide)).trans hg.symm); have hlf3 : LfAt w3 b1 _ li := HLF.out.of_block (fun hl => by (obtain ⟨cur, fz, hc⟩ := HLT.out hl); exact (HKT.out _ _ _ _ hc (by decide)).trans hc.symm); have HLV3 := Lib.hid hlv3; have HLF3 := Lib.hid hlf3; clear ho3 hg3 hk3 e13 e23 hlv3 hlf3))
    go_upto_region 14 with (first
    | (refine wpList_load_sub rfl 29 _ rfl (w.heap.size) 35 rfl 39 (crC a b c L g v V) (trC v V) (0, 0) _ (E13.out) Tryz.underlying29 rfl (by kernel_rfl) (crC_tr a b c L g v V) ?_)
    | (go_at_call 11; refine (MY.out w3 HLV3.out.1).mono ?_; rintro e w4 ⟨rfl, hx⟩; have E14 := Lib.hid (E13.out.ext hx); have e24 := PcBlk.block E23.out (hx.below.block _ (lt_of_heap E23.out)); obtain ⟨s40, s41, s42, _, _, _, hs4⟩ := e24.cell; have E24 := Lib.hid e24; have E34 := Lib.hid (E33.out.ext hx); have HX4 := Lib.hid hx; have hcw4 := lt_of_heap E14.out; clear hx e24))
    go_wp2_with (first
    | (guard_target =~ wpList _ _ _ _ _ _; refine wpList_buildTo rfl 39 #[] rfl _ rfl (crC 0 0 0 zeroV noG nilV zeroV) (by kernel_rfl) ?_)
    | (guard_target =~ wpList _ _ _ _ _ _; refine wpList_store_rowTo rfl 39 _ _ rfl rfl (w.heap.size + 1 + 1) (crC 0 0 0 zeroV noG nilV zeroV) rfl rfl 39 (crC 0 0 0 zeroV noG nilV zeroV) (E34.out) (by kernel_rfl) rfl (zcr_one) ?_))
    exact bodyPost_ret (results_slot_cell_slot (p := 7) (q := 8) (r := 6) (ty := 39) rfl _ _ ⟨w.heap.size + 1 + 1, 0, none⟩ _ rfl (cr_load (E34.out.setRow 0 0 0 zeroV noG nilV zeroV)) _ _ rfl rfl) rfl (RCratePost.no (own_afterR (own_ext H3.out.1 HX4.out) E34.out (by decide) _) (rstep_new (rstep_new H3.out.2.1 (rstep_ext (row := none) HX4.out) (fun k h => by cases h)) (grown_row _ (w.heap.size + 1 + 1) (crC 0 0 0 zeroV noG nilV zeroV)) (fun k hk => by obtain rfl := Option.some.inj hk; omega)) H3.out.2.2)
  | true =>
  rw [ht] at MY
  cases hf : fitsB (k : Int) li ver with
  | false =>
    rw [if_pos (by rw [ht, hf]; rfl)] at hr
    rw [hf] at FT
    subst hr
    go_enter Tryz.func17, Tryz.ntmps17
    go_upto_region 13 with (first
    | (go_at_call 59; refine (IT.out _ E4.out).mono ?_; rintro e w1 ⟨iv, rfl, hok, -, hx⟩; obtain ⟨hown, hio⟩ := hok rfl; obtain ⟨pp, cc, rfl⟩ := own_sl hown; obtain ⟨b1, o1, o2, _⟩ := own_lf hown rfl hio; have HLF := Lib.hid o1; have HLT := Lib.hid o2; have E41 := Lib.hid (E4.out.trans hx); have E11 := Lib.hid (E1.out.ext hx); have e21 := PcBlk.block E2.out (hx.below.block _ (lt_of_heap E2.out)); obtain ⟨q0, q1, q2, _, _, _, hq⟩ := e21.cell; have E21 := Lib.hid e21; have E31 := Lib.hid (E3.out.ext hx); clear hok hx hown hio o1 o2 e21)
    | (go_at_call 36; refine (LF.out w1 b1 _ E41.out HLF.out).mono ?_; rintro e w3 ⟨v3, rfl, ho3, hg3, hk3⟩; have H3 := Lib.hid (And.intro ho3 (And.intro (rstep_trans (v := lv) (v1 := lv) (rstep_ext E41.out) (Or.inl rfl) hg3) (rstep_own (w := w) (v := lv) E41.out.size (Or.inl rfl) hk3))); have HKT := Lib.hid (fun (g : Nat) (cur : Array Value) (ty : TypeId) (fz : Nat × Nat) (hb : w1.heap[g]? = some (.cells cur ty fz)) (h1 : ty ≠ 9) => (blk_str (own_ext HOWN.out E41.out) hg3 hb h1).trans hb); have e13 : CrBlk w3 w.heap.size a b c L g v V := HKT.out _ _ _ _ E11.out (by decide); have E13 := Lib.hid e13; have cL := e13.cellL k hk; have hw3 := lt_of_heap e13; have e23 : PcBlk w3 (w.heap.size + 1) (k : Int) ver (.slice pq ts.length cq) := HKT.out _ _ _ _ E21.out (by decide); obtain ⟨r0, r1, r2, _, _, _, hr3⟩ := e23.cell; have E23 := Lib.hid e23; have E33 : Hid (CrBlk w3 (w.heap.size + 1 + 1) 0 0 0 zeroV noG nilV zeroV) := Lib.hid (HKT.out _ _ _ _ E31.out (by decide)); have hlv3 := LvsAt.keep (HL.out.ext E41.out) (HY.out.ext E41.out) (fun g cur fz hg => (HKT.out g cur _ fz hg (by decide)).trans hg.symm); have hlf3 : LfAt w3 b1 _ li := HLF.out.of_block (fun hl => by (obtain ⟨cur, fz, hc⟩ := HLT.out hl); exact (HKT.out _ _ _ _ hc (by decide)).trans hc.symm); have HLV3 := Lib.hid hlv3; have HLF3 := Lib.hid hlf3; clear ho3 hg3 hk3 e13 e23 hlv3 hlf3))
    go_upto_region 14 with (first
    | (refine wpList_load_sub rfl 29 _ rfl (w.heap.size) 35 rfl 39 (crC a b c L g v V) (trC v V) (0, 0) _ (E13.out) Tryz.underlying29 rfl (by kernel_rfl) (crC_tr a b c L g v V) ?_)
    | (go_at_call 11; refine (MY.out w3 HLV3.out.1).mono ?_; rintro e w4 ⟨rfl, hx⟩; have E14 := Lib.hid (E13.out.ext hx); have e24 := PcBlk.block E23.out (hx.below.block _ (lt_of_heap E23.out)); obtain ⟨s40, s41, s42, _, _, _, hs4⟩ := e24.cell; have E24 := Lib.hid e24; have E34 := Lib.hid (E33.out.ext hx); have HX4 := Lib.hid hx; have hcw4 := lt_of_heap E14.out; clear hx e24)
    | (go_at_call 53; refine (FT.out w4 b1 _ (HLF3.out.ext HX4.out)).mono ?_; rintro e w5 ⟨rfl, hx⟩; have E15 := Lib.hid (E14.out.ext hx); have e25 := PcBlk.block E24.out (hx.below.block _ (lt_of_heap E24.out)); obtain ⟨s50, s51, s52, _, _, _, hs5⟩ := e25.cell; have E25 := Lib.hid e25; have E35 := Lib.hid (E34.out.ext hx); have HX5 := Lib.hid hx; have hcw5 := lt_of_heap E15.out; clear hx e25))
    go_wp2_with (first
    | (refine wpList_buildTo rfl 39 #[] rfl _ rfl (crC 0 0 0 zeroV noG nilV zeroV) (by kernel_rfl) ?_)
    | (refine wpList_store_rowTo rfl 39 _ _ rfl rfl (w.heap.size + 1 + 1) (crC 0 0 0 zeroV noG nilV zeroV) rfl rfl 39 (crC 0 0 0 zeroV noG nilV zeroV) (E35.out) (by kernel_rfl) rfl (zcr_one) ?_))
    exact bodyPost_ret (results_slot_cell_slot (p := 7) (q := 8) (r := 6) (ty := 39) rfl _ _ ⟨w.heap.size + 1 + 1, 0, none⟩ _ rfl (cr_load (E35.out.setRow 0 0 0 zeroV noG nilV zeroV)) _ _ rfl rfl) rfl (RCratePost.no (own_afterR (own_ext H3.out.1 (HX4.out.trans HX5.out)) E35.out (by decide) _) (rstep_new (rstep_new H3.out.2.1 (rstep_ext (row := none) (HX4.out.trans HX5.out)) (fun k h => by cases h)) (grown_row _ (w.heap.size + 1 + 1) (crC 0 0 0 zeroV noG nilV zeroV)) (fun k hk => by obtain rfl := Option.some.inj hk; omega)) H3.out.2.2)
  | true =>
  rw [if_neg (by rw [ht, hf]; simp)] at hr
  rw [hf] at FT
  subst hr
  go_enter Tryz.func17, Tryz.ntmps17
  go_upto_region 13 with (first
  | (go_at_call 59; refine (IT.out _ E4.out).mono ?_; rintro e w1 ⟨iv, rfl, hok, -, hx⟩; obtain ⟨hown, hio⟩ := hok rfl; obtain ⟨pp, cc, rfl⟩ := own_sl hown; obtain ⟨b1, o1, o2, _⟩ := own_lf hown rfl hio; have HLF := Lib.hid o1; have HLT := Lib.hid o2; have E41 := Lib.hid (E4.out.trans hx); have E11 := Lib.hid (E1.out.ext hx); have e21 := PcBlk.block E2.out (hx.below.block _ (lt_of_heap E2.out)); obtain ⟨q0, q1, q2, _, _, _, hq⟩ := e21.cell; have E21 := Lib.hid e21; have E31 := Lib.hid (E3.out.ext hx); clear hok hx hown hio o1 o2 e21)
  | (go_at_call 36; refine (LF.out w1 b1 _ E41.out HLF.out).mono ?_; rintro e w3 ⟨v3, rfl, ho3, hg3, hk3⟩; have H3 := Lib.hid (And.intro ho3 (And.intro (rstep_trans (v := lv) (v1 := lv) (rstep_ext E41.out) (Or.inl rfl) hg3) (rstep_own (w := w) (v := lv) E41.out.size (Or.inl rfl) hk3))); have HKT := Lib.hid (fun (g : Nat) (cur : Array Value) (ty : TypeId) (fz : Nat × Nat) (hb : w1.heap[g]? = some (.cells cur ty fz)) (h1 : ty ≠ 9) => (blk_str (own_ext HOWN.out E41.out) hg3 hb h1).trans hb); have e13 : CrBlk w3 w.heap.size a b c L g v V := HKT.out _ _ _ _ E11.out (by decide); have E13 := Lib.hid e13; have cL := e13.cellL k hk; have hw3 := lt_of_heap e13; have e23 : PcBlk w3 (w.heap.size + 1) (k : Int) ver (.slice pq ts.length cq) := HKT.out _ _ _ _ E21.out (by decide); obtain ⟨r0, r1, r2, _, _, _, hr3⟩ := e23.cell; have E23 := Lib.hid e23; have E33 : Hid (CrBlk w3 (w.heap.size + 1 + 1) 0 0 0 zeroV noG nilV zeroV) := Lib.hid (HKT.out _ _ _ _ E31.out (by decide)); have hlv3 := LvsAt.keep (HL.out.ext E41.out) (HY.out.ext E41.out) (fun g cur fz hg => (HKT.out g cur _ fz hg (by decide)).trans hg.symm); have hlf3 : LfAt w3 b1 _ li := HLF.out.of_block (fun hl => by (obtain ⟨cur, fz, hc⟩ := HLT.out hl); exact (HKT.out _ _ _ _ hc (by decide)).trans hc.symm); have HLV3 := Lib.hid hlv3; have HLF3 := Lib.hid hlf3; clear ho3 hg3 hk3 e13 e23 hlv3 hlf3))
  go_upto_region 15 with (first
  | (refine wpList_load_sub rfl 29 _ rfl (w.heap.size) 35 rfl 39 (crC a b c L g v V) (trC v V) (0, 0) _ (E13.out) Tryz.underlying29 rfl (by kernel_rfl) (crC_tr a b c L g v V) ?_)
  | (go_at_call 11; refine (MY.out w3 HLV3.out.1).mono ?_; rintro e w4 ⟨rfl, hx⟩; have E14 := Lib.hid (E13.out.ext hx); have e24 := PcBlk.block E23.out (hx.below.block _ (lt_of_heap E23.out)); obtain ⟨s40, s41, s42, _, _, _, hs4⟩ := e24.cell; have E24 := Lib.hid e24; have E34 := Lib.hid (E33.out.ext hx); have HX4 := Lib.hid hx; have hcw4 := lt_of_heap E14.out; clear hx e24)
  | (go_at_call 53; refine (FT.out w4 b1 _ (HLF3.out.ext HX4.out)).mono ?_; rintro e w5 ⟨rfl, hx⟩; have E15 := Lib.hid (E14.out.ext hx); have e25 := PcBlk.block E24.out (hx.below.block _ (lt_of_heap E24.out)); obtain ⟨s50, s51, s52, _, _, _, hs5⟩ := e25.cell; have E25 := Lib.hid e25; have E35 := Lib.hid (E34.out.ext hx); have HX5 := Lib.hid hx; have hcw5 := lt_of_heap E15.out; clear hx e25))
  have hx35 := HX4.out.trans HX5.out
  have HO5 := Lib.hid (own_ext H3.out.1 hx35)
  have HG5 := Lib.hid (rstep_new H3.out.2.1 (rstep_ext (row := none) hx35) (fun k h => by cases h))
  have hty5 : 0 < li.length → ∃ cur fz, w5.heap[b1]? = some (.cells cur 152 fz) := fun hl => by
    obtain ⟨cur, fz, hc⟩ := HLT.out hl
    have h3 := HKT.out _ _ _ _ hc (by decide)
    exact ⟨cur, fz, (hx35.below.block _ (lt_of_heap h3)).trans h3⟩
  have HU5 := Lib.hid (LvsAt.upd (k := k) (HLV3.out.1.ext hx35) (HLV3.out.2.ext hx35) (HLF3.out.ext hx35) hty5)
  have c35 := E15.out.cellLeaf k hk
  have f35 := E15.out.frozen (35 + k)
  clear hty5 hx35 s40 s41 s42 hs4 hcw4 r0 r1 r2 hr3 q0 q1 q2 hq cL cg
  have e16 := E15.out.setLeaf k hk (.slice pp li.length cc)
  have e26 : PcBlk (w5.setCell ⟨w.heap.size, 35 + k, none⟩ (.slice pp li.length cc)) (w.heap.size + 1) (k : Int) ver (.slice pq ts.length cq) := PcBlk.block E25.out (Go.Deep.blk_setCell_other _ _ _ _ (Nat.succ_ne_self _))
  have e36 := CrBlk.other E35.out (show w.heap.size + 1 + 1 ≠ w.heap.size by omega) (i := 35 + k) (.slice pp li.length cc)
  have ho6 := own_afterC HO5.out E15.out (by decide) (i := 35 + k) (.slice pp li.length cc)
  have hg6 := rstep_new HG5.out (grown_cellw _ w.heap.size (35 + k) (.slice pp li.length cc)) (fun q hq => by obtain rfl := Option.some.inj hq; exact Nat.le_refl _)
  have hl6 := LvsAt.keep HU5.out.1 HU5.out.2 (cell_keep (i := 35 + k) (x := (.slice pp li.length cc)) E15.out (by decide))
  go_upto_region 16 with fail
  obtain ⟨W6, hW6⟩ : ∃ W6, w5.setCell ⟨w.heap.size, 35 + k, none⟩ (.slice pp li.length cc) = W6 := ⟨_, rfl⟩
  show Code.wp _ _ _ _ (w5.setCell ⟨w.heap.size, 35 + k, none⟩ (.slice pp li.length cc))
  rw [hW6] at e16 e26 e36 ho6 hg6 hl6 ⊢
  have E16 := Lib.hid e16
  have E26 := Lib.hid e26
  have E36 := Lib.hid e36
  have HO6 := Lib.hid ho6
  have HG6 := Lib.hid hg6
  have HU6 := Lib.hid hl6
  clear e16 e26 e36 ho6 hg6 hl6 hW6
  clear c35 f35 s50 s51 s52 hs5 hcw5
  obtain ⟨s60, s61, s62, _, _, _, hs6⟩ := E26.out.cell
  have c51 := E16.out.cellVer k hk
  have f51 := E16.out.frozen (51 + k)
  have hcw6 := lt_of_heap E16.out
  have e17 := E16.out.setVer k hk ver
  have e27 : PcBlk (W6.setCell ⟨w.heap.size, 51 + k, none⟩ (.int .i64 ver)) (w.heap.size + 1) (k : Int) ver (.slice pq ts.length cq) := PcBlk.block E26.out (Go.Deep.blk_setCell_other _ _ _ _ (Nat.succ_ne_self _))
  have e37 := CrBlk.other E36.out (show w.heap.size + 1 + 1 ≠ w.heap.size by omega) (i := 51 + k) (.int .i64 ver)
  have ho7 := own_afterC HO6.out E16.out (by decide) (i := 51 + k) (.int .i64 ver)
  have hg7 := rstep_new HG6.out (grown_cellw _ w.heap.size (51 + k) (.int .i64 ver)) (fun q hq => by obtain rfl := Option.some.inj hq; exact Nat.le_refl _)
  have hl7 := LvsAt.keep HU6.out.1 HU6.out.2 (cell_keep (i := 51 + k) (x := (.int .i64 ver)) E16.out (by decide))
  go_upto_region 17 with fail
  obtain ⟨W7, hW7⟩ : ∃ W7, W6.setCell ⟨w.heap.size, 51 + k, none⟩ (.int .i64 ver) = W7 := ⟨_, rfl⟩
  show Code.wp _ _ _ _ (W6.setCell ⟨w.heap.size, 51 + k, none⟩ (.int .i64 ver))
  rw [hW7] at e17 e27 e37 ho7 hg7 hl7 ⊢
  have E17 := Lib.hid e17
  have E27 := Lib.hid e27
  have E37 := Lib.hid e37
  have HO7 := Lib.hid ho7
  have HG7 := Lib.hid hg7
  have HU7 := Lib.hid hl7
  clear e17 e27 e37 ho7 hg7 hl7 hW7
  clear c51 f51 s60 s61 s62 hs6 hcw6
  obtain ⟨s70, s71, s72, _, _, _, hs7⟩ := E27.out.cell
  have c19 := E17.out.cellG k hk
  have f19 := E17.out.frozen (19 + k)
  have hcw7 := lt_of_heap E17.out
  have e18 := E17.out.setG k hk true
  have e28 : PcBlk (W7.setCell ⟨w.heap.size, 19 + k, none⟩ (.bool true)) (w.heap.size + 1) (k : Int) ver (.slice pq ts.length cq) := PcBlk.block E27.out (Go.Deep.blk_setCell_other _ _ _ _ (Nat.succ_ne_self _))
  have e38 := CrBlk.other E37.out (show w.heap.size + 1 + 1 ≠ w.heap.size by omega) (i := 19 + k) (.bool true)
  have ho8 := own_afterC HO7.out E17.out (by decide) (i := 19 + k) (.bool true)
  have hg8 := rstep_new HG7.out (grown_cellw _ w.heap.size (19 + k) (.bool true)) (fun q hq => by obtain rfl := Option.some.inj hq; exact Nat.le_refl _)
  have hl8 := LvsAt.keep HU7.out.1 HU7.out.2 (cell_keep (i := 19 + k) (x := (.bool true)) E17.out (by decide))
  go_upto_region 18 with fail
  obtain ⟨W8, hW8⟩ : ∃ W8, W7.setCell ⟨w.heap.size, 19 + k, none⟩ (.bool true) = W8 := ⟨_, rfl⟩
  show Code.wp _ _ _ _ (W7.setCell ⟨w.heap.size, 19 + k, none⟩ (.bool true))
  rw [hW8] at e18 e28 e38 ho8 hg8 hl8 ⊢
  have E18 := Lib.hid e18
  have E28 := Lib.hid e28
  have E38 := Lib.hid e38
  have HO8 := Lib.hid ho8
  have HG8 := Lib.hid hg8
  have HU8 := Lib.hid hl8
  clear e18 e28 e38 ho8 hg8 hl8 hW8
  clear c19 f19 s70 s71 s72 hs7 hcw7
  have HRG := Lib.hid fun (d : Nat) (os : Array Obj) => row_range (E18.out.ext ((Ext.refl W8).more d os))
  refine wp_region_grow 3 110 [false, false, false] (by kernel_rfl) (by kernel_rfl) rfl ?_
  simp only [List.take_succ_cons, List.take_zero, List.drop_succ_cons, List.drop_zero]
  refine Lex.step rfl ?_; intro K hK; unfold StepG; go_simp; refine hK _ ?_; clear hK K
  refine Lex.step rfl ?_; intro K hK; (refine ⟨.agg (crC a b c L (upd g k true) (upd v k (.slice pp li.length cc)) (upd V k ver)), fun d os => stepG_load_mid (by rfl) 39 _ rfl (w.heap.size) 0 rfl (crC a b c L (upd g k true) (upd v k (.slice pp li.length cc)) (upd V k ver)).toList _ (HRG.out d os) Tryz.underlying39 rfl (by kernel_rfl) _ rfl, ?_⟩; go_simp; refine hK _ ?_); clear hK K
  refine Lex.step rfl ?_; intro K hK; unfold StepG; go_simp; refine hK _ ?_; clear hK K
  refine Lex.nil fun WW hE => ?_
  obtain ⟨dd, oo, rfl⟩ := hE
  unfold FillH
  have hx := (Ext.refl W8).more dd oo
  have hB9 := E38.out.ext hx
  have HB9 := Lib.hid hB9
  clear hB9
  go_wp2_with (refine wpList_store_rowTo rfl 39 _ _ rfl rfl (w.heap.size + 1 + 1) (crC a b c L (upd g k true) (upd v k (.slice pp li.length cc)) (upd V k ver)) rfl rfl 39 (crC 0 0 0 zeroV noG nilV zeroV) (HB9.out) (by kernel_rfl) rfl (crC_one _ _ _ _ _ _ _ HU8.out.1.one) ?_)
  rw [ends_normal]
  go_wp2_with fail
  have hst := rstep_new (rstep_new HG8.out (rstep_ext (row := none) hx) (fun k h => by cases h)) (grown_row _ (w.heap.size + 1 + 1) (crC a b c L (upd g k true) (upd v k (.slice pp li.length cc)) (upd V k ver))) (fun q hq => by obtain rfl := Option.some.inj hq; omega)
  obtain ⟨e1, e2⟩ := LvsAt.rowT (HU8.out.1.ext hx) (HU8.out.2.ext hx) HB9.out (by decide) (crC a b c L (upd g k true) (upd v k (.slice pp li.length cc)) (upd V k ver))
  exact bodyPost_ret (results_slot_cell_slot (p := 7) (q := 8) (r := 6) (ty := 39) rfl _ _ ⟨w.heap.size + 1 + 1, 0, none⟩ _ rfl (cr_load (HB9.out.setRow a b c L (upd g k true) (upd v k (.slice pp li.length cc)) (upd V k ver))) _ _ rfl rfl) rfl ⟨v3, upd bs k b1, upd v k (.slice pp li.length cc), rfl, own_afterR (own_ext HO8.out hx) HB9.out (by decide) _, hst, H3.out.2.2, e1, e2⟩
end Go.Proofs.YtpchohjkelopoaaGreatDoor
