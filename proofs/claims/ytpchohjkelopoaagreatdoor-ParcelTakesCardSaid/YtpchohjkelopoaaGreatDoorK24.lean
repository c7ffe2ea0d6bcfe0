/- Lemmas for the claim (texts PaO, what its proof uses of them). -/
import Derived.Test.YtpchohjkelopoaaGreatDoorK23
import Derived.Deep.DeepCutAuto
set_option linter.unusedSimpArgs false
set_option linter.unusedVariables false
set_option maxRecDepth 20000
namespace Go.Proofs.YtpchohjkelopoaaGreatDoor
open Go.RowKit
attribute [go_sem] more_more Array.size_append
def Cr.put (x : Cr) (k : Nat) (l : List It) (ver : Int) : Cr := ⟨x.m, upd x.g k true, upd x.T k l, upd x.V k ver⟩
/-- what Take says -/
def takeF (l : List ByteArray) (x : Cr) (bk ver : Int) (ts : List ByteArray) : List ByteArray × Cr × Int :=
  if bk < 0 ∨ 15 < bk then (l, Cr.none, 4)
  else if x.g bk.toNat = true then (l, Cr.none, 16)
  else if ((leafOfF (ts.map txt)).2.1 == 0 && decide (0 ≤ ver) && decide (ver ≤ 2147483647)) = false then (l, Cr.none, 3)
  else if (leafT l (leafOfF (ts.map txt)).1 ver).2.2 ≠ 0 then ((leafT l (leafOfF (ts.map txt)).1 ver).1, Cr.none, (leafT l (leafOfF (ts.map txt)).1 ver).2.2)
  else if ((leafT l (leafOfF (ts.map txt)).1 ver).2.1 : Int) ≠ x.m.L bk.toNat then ((leafT l (leafOfF (ts.map txt)).1 ver).1, Cr.none, 19)
  else if (trunkB x.T x.V && fitsB bk (leafOfF (ts.map txt)).1 ver) = false then ((leafT l (leafOfF (ts.map txt)).1 ver).1, Cr.none, 1)
  else ((leafT l (leafOfF (ts.map txt)).1 ver).1, x.put bk.toNat (leafOfF (ts.map txt)).1 ver, 0)
theorem leafOfF_leafB {L : List (List UInt8)} (h : (leafOfF L).2.1 = 0) : leafB (leafOfF L).1 = true := by
  unfold leafOfF at h ⊢
  (repeat' split at h)
  · next h1 => exact absurd h h1
  · exact absurd h (by simp)
  · next h1 => exact absurd h h1
  · next h1 h2 h3 =>
    rw [if_neg h1, if_neg h2, if_neg h3]
    unfold leafB
    simpa using h3
theorem ItemsPost.get {w w' : World} {e : Ending} {r : List It × Int × Int} {ver : Int} (h : ItemsPost w w' e r ver) {b : Bool} (hb : (r.2.1 == 0 && decide (0 ≤ ver) && decide (ver ≤ 2147483647)) = b) : ∃ lv, e = .returned (.tuple #[lv, .bool b]) ∧ (r.2.1 = 0 → w'.ownsRow w.heap.size 152 5 lv r.1.length (itCells r.1) ∧ ∀ x ∈ r.1, ItOk x) ∧ Ext w w' := by
  subst hb; exact h
theorem CratePost.no {B bt bm : Nat} {tv tv' : Value} {l : List ByteArray} {er : Int} {w w' : World} (h1 : TabAt B bt bm tv' l w') (h2 : TabStep bt bm tv w tv' w') : CratePost B bt bm tv (l, Cr.none, er) w (.returned (.tuple #[.agg (Cr.none.cells nilV), .int .i64 er])) w' :=
  ⟨tv', fun _ => 0, nilV, rfl, h1, h2, lvs_nil _ _, lvty_nil _ _⟩
set_option maxHeartbeats 8000000 in
theorem ptake_any (B bt bm : Nat) (tv : Value) (l : List ByteArray) (a b c : Int) (L : Nat → Int) (g : Nat → Bool) (bs : Nat → Nat) (v : Nat → Value) (T : Nat → List It) (V : Nat → Int) (bk ver : Int) (pv : Value) (base : Nat) (ts : List ByteArray) (SB PB : Nat) (w : World) (hT : TabAt B bt bm tv l w) (hS : SignsAt SB w) (hSB : SB ≤ B) (hP : Pow10 PB w) (hPB : PB ≤ B) (h : LvsAt w bs v T) (hy : LvTy w bs T) (hrow : w.ownsRow base 9 1 pv ts.length (ts.map Value.string)) (hn : ts.length ≤ 100000) (hz : ∀ s ∈ ts, s.size ≤ 100000) (hll : l.length ≤ 900) (r : List ByteArray × Cr × Int) (hr : takeF l ⟨⟨a, b, c, L⟩, g, T, V⟩ bk ver ts = r) :
    Calls Tryz.prog 15 #[.agg (crC a b c L g v V), .pointer (some ⟨bt, 0, none⟩), .agg #[.int .i64 bk, .int .i64 ver, pv]] w (CratePost B bt bm tv r w) := by
  have hBw : B ≤ w.heap.size := by have h1 := hT.cells; obtain ⟨a1, _⟩ := hT; omega
  unfold takeF at hr
  dsimp only at hr
  have HD : ∀ (o3 : Obj) (W : World), W = (((w.alloc (.cells (crC a b c L g v V) 39)).alloc (.cells #[.int .i64 bk, .int .i64 ver, pv] 50)).alloc o3) → CrBlk W w.heap.size a b c L g v V ∧ PcBlk W (w.heap.size + 1) bk ver pv ∧ W.heap[w.heap.size + 1 + 1]? = some o3 ∧ Ext w W := fun o3 W e => by
    rw [e]; exact ⟨(three_boxes o3).1, (three_boxes o3).2.1, (three_boxes o3).2.2, ((((Ext.refl w).alloc _).alloc _).alloc _)⟩
  obtain ⟨e1, e2, e3, e4⟩ := HD (.cells Tryz.zeroCells39 39) _ rfl
  have e3 : CrBlk (((w.alloc (.cells (crC a b c L g v V) 39)).alloc (.cells #[.int .i64 bk, .int .i64 ver, pv] 50)).alloc (.cells Tryz.zeroCells39 39)) (w.heap.size + 1 + 1) 0 0 0 zeroV noG nilV zeroV := e3.trans (by kernel_rfl)
  obtain ⟨p0, p1, p2, f0, f1, f2, hNw⟩ := e2.cell
  obtain ⟨pq, cq, hpv⟩ := own_sl hrow
  subst hpv
  have E1 := Lib.hid e1
  have E2 := Lib.hid e2
  have E3 := Lib.hid e3
  have E4 := Lib.hid e4
  have HT := Lib.hid hT
  have HS := Lib.hid hS
  have HP := Lib.hid hP
  have HL := Lib.hid h
  have HY := Lib.hid hy
  have HROW := Lib.hid hrow
  have HZ := Lib.hid hz
  clear h hy hT hS hP hrow hz HD e1 e2 e3 e4
  by_cases hb : bk < 0 ∨ 15 < bk
  · rw [if_pos hb] at hr
    subst hr
    by_cases h0 : bk < 0
    · clear hb
      go_enter Tryz.func15, Tryz.ntmps15
      go_wp2_with (first
    | (refine wpList_buildTo rfl 39 #[] rfl _ rfl (crC 0 0 0 zeroV noG nilV zeroV) (by kernel_rfl) ?_)
    | (refine wpList_store_rowTo rfl 39 _ _ rfl rfl (w.heap.size + 1 + 1) (crC 0 0 0 zeroV noG nilV zeroV) rfl rfl 39 (crC 0 0 0 zeroV noG nilV zeroV) (E3.out) (by kernel_rfl) rfl (zcr_one) ?_))
      exact bodyPost_ret (results_cell_slot (p := 6) (q := 7) (ty := 39) rfl _ _ ⟨w.heap.size + 1 + 1, 0, none⟩ _ rfl (cr_load (E3.out.setRow 0 0 0 zeroV noG nilV zeroV)) _ rfl) rfl (CratePost.no (HT.out.ext (E4.out.setRow (by omega) _)) ((TabStep.refl bt bm tv w).ext (E4.out.setRow (by omega) _)))
    · have h16 : (16 : Int) ≤ bk := by omega
      have h0' : (bk < 0) = False := eq_false h0
      clear hb h0
      go_enter Tryz.func15, Tryz.ntmps15
      go_wp2_with (first
    | (refine wpList_buildTo rfl 39 #[] rfl _ rfl (crC 0 0 0 zeroV noG nilV zeroV) (by kernel_rfl) ?_)
    | (refine wpList_store_rowTo rfl 39 _ _ rfl rfl (w.heap.size + 1 + 1) (crC 0 0 0 zeroV noG nilV zeroV) rfl rfl 39 (crC 0 0 0 zeroV noG nilV zeroV) (E3.out) (by kernel_rfl) rfl (zcr_one) ?_))
      exact bodyPost_ret (results_cell_slot (p := 6) (q := 7) (ty := 39) rfl _ _ ⟨w.heap.size + 1 + 1, 0, none⟩ _ rfl (cr_load (E3.out.setRow 0 0 0 zeroV noG nilV zeroV)) _ rfl) rfl (CratePost.no (HT.out.ext (E4.out.setRow (by omega) _)) ((TabStep.refl bt bm tv w).ext (E4.out.setRow (by omega) _)))
  rw [if_neg hb] at hr
  obtain ⟨k, rfl⟩ : ∃ k : Nat, bk = (k : Int) := ⟨bk.toNat, by omega⟩
  have hk : k < 16 := by omega
  simp only [Int.toNat_natCast] at hr
  have hkI : (k : Int) < 16 := by omega
  have hk0 : (0 : Int) ≤ (k : Int) := by omega
  have hk1 : ((k : Int) < 0) = False := eq_false (by omega)
  have hk2 : ((16 : Int) ≤ (k : Int)) = False := eq_false (by omega)
  have cg := E1.out.cellG k hk
  have hCw := lt_of_heap E1.out
  clear hb
  by_cases hg : g k = true
  · rw [if_pos hg] at hr
    subst hr
    rw [hg] at cg
    clear hg
    go_enter Tryz.func15, Tryz.ntmps15
    go_wp2_with (first
    | (refine wpList_buildTo rfl 39 #[] rfl _ rfl (crC 0 0 0 zeroV noG nilV zeroV) (by kernel_rfl) ?_)
    | (refine wpList_store_rowTo rfl 39 _ _ rfl rfl (w.heap.size + 1 + 1) (crC 0 0 0 zeroV noG nilV zeroV) rfl rfl 39 (crC 0 0 0 zeroV noG nilV zeroV) (E3.out) (by kernel_rfl) rfl (zcr_one) ?_))
    exact bodyPost_ret (results_cell_slot (p := 6) (q := 7) (ty := 39) rfl _ _ ⟨w.heap.size + 1 + 1, 0, none⟩ _ rfl (cr_load (E3.out.setRow 0 0 0 zeroV noG nilV zeroV)) _ rfl) rfl (CratePost.no (HT.out.ext (E4.out.setRow (by omega) _)) ((TabStep.refl bt bm tv w).ext (E4.out.setRow (by omega) _)))
  rw [if_neg hg] at hr
  have hg' : g k = false := by simpa using hg
  rw [hg'] at cg
  clear hg
  obtain ⟨ri, hri⟩ : ∃ ri, leafOfF (ts.map txt) = ri := ⟨_, rfl⟩
  have hlb := leafOfF_leafB (L := ts.map txt)
  rw [hri] at hr hlb
  have IT := Lib.hid fun (W : World) (hx : Ext w W) => items_pany (k : Int) ver _ base ts SB W (HS.out.ext hx (Nat.le_trans hSB hBw)) (Nat.le_trans (Nat.le_trans hSB hBw) hx.size) (own_ext HROW.out hx) hn HZ.out ri hri
  obtain ⟨li, ei, pi⟩ := ri
  dsimp only at hr hlb
  clear hri hn
  cases hc : (ei == 0 && decide (0 ≤ ver) && decide (ver ≤ 2147483647)) with
  | false =>
    have HC := Lib.hid hc
    rw [if_pos hc] at hr
    subst hr
    clear hlb hc
    go_enter Tryz.func15, Tryz.ntmps15
    go_wp2_with (first
    | (go_at_call 57; refine (IT.out _ E4.out).mono ?_; rintro e w1 hip; obtain ⟨lv, rfl, hok, hx⟩ := hip.get HC.out; have HOK := Lib.hid hok; have E41 := Lib.hid (E4.out.trans hx); have E11 := Lib.hid (E1.out.ext hx); have E21 := Lib.hid (PcBlk.block E2.out (hx.below.block _ (lt_of_heap E2.out))); have E31 := Lib.hid (E3.out.ext hx); clear hok hx hip)
    | (refine wpList_buildTo rfl 39 #[] rfl _ rfl (crC 0 0 0 zeroV noG nilV zeroV) (by kernel_rfl) ?_)
    | (refine wpList_store_rowTo rfl 39 _ _ rfl rfl (w.heap.size + 1 + 1) (crC 0 0 0 zeroV noG nilV zeroV) rfl rfl 39 (crC 0 0 0 zeroV noG nilV zeroV) (E31.out) (by kernel_rfl) rfl (zcr_one) ?_))
    exact bodyPost_ret (results_cell_slot (p := 6) (q := 7) (ty := 39) rfl _ _ ⟨w.heap.size + 1 + 1, 0, none⟩ _ rfl (cr_load (E31.out.setRow 0 0 0 zeroV noG nilV zeroV)) _ rfl) rfl (CratePost.no (HT.out.ext (E41.out.setRow (by omega) _)) ((TabStep.refl bt bm tv w).ext (E41.out.setRow (by omega) _)))
  | true =>
    rw [if_neg (by simp [hc])] at hr
    have hc3 := hc
    simp only [Bool.and_eq_true, beq_iff_eq, decide_eq_true_eq] at hc3
    obtain ⟨⟨hei, f0'⟩, f1'⟩ : (ei = 0 ∧ 0 ≤ ver) ∧ ver ≤ 2147483647 := hc3
    subst hei
    have HC := Lib.hid hc
    have fl := hlb rfl
    obtain ⟨ro, hro⟩ : ∃ ro, leafT l li ver = ro := ⟨_, rfl⟩
    have LF := Lib.hid fun (W : World) (b : Nat) (lv : Value) (hx : Ext w W) (hlf : LfAt W b lv li) => rleaf_any B bt bm tv l b lv li ver SB PB W (HT.out.ext hx) (HS.out.ext hx (Nat.le_trans hSB hBw)) hSB (HP.out.below hx.below (Nat.le_trans hPB hBw)) hPB hlf fl f0' f1' ro hro
    have h64 := (leafB_may fl).1
    rw [hro] at hr
    have hn3b := (leafT_len l li ver h64).2
    rw [hro] at hn3b
    obtain ⟨l3, n3, e3⟩ := ro
    dsimp only at hr hn3b
    have hn3 : (n3 : Int) ≤ 1000 := by omega
    have HFL := Lib.hid fl
    clear hc hlb hro hn3b fl
    by_cases he : e3 = 0
    case neg =>
      have he' : (e3 != 0) = true := by simpa using he
      rw [if_pos he] at hr
      subst hr
      clear he
      go_enter Tryz.func15, Tryz.ntmps15
      go_wp2_with (first
    | (go_at_call 57; refine (IT.out _ E4.out).mono ?_; rintro e w1 hip; obtain ⟨lv, rfl, hok, hx⟩ := hip.get HC.out; obtain ⟨hown, hio⟩ := hok rfl; obtain ⟨pp, cc, rfl⟩ := own_sl hown; obtain ⟨b1, o1, o2, _⟩ := own_lf hown rfl hio; have HLF := Lib.hid o1; have HLT := Lib.hid o2; have E41 := Lib.hid (E4.out.trans hx); have E11 := Lib.hid (E1.out.ext hx); have e21 := PcBlk.block E2.out (hx.below.block _ (lt_of_heap E2.out)); obtain ⟨q0, q1, q2, _, _, _, hq⟩ := e21.cell; have E21 := Lib.hid e21; have E31 := Lib.hid (E3.out.ext hx); clear hok hx hip hown hio o1 o2 e21)
    | (go_at_call 34; refine (LF.out w1 b1 _ E41.out HLF.out).mono ?_; rintro e w3 ⟨rfl, tv3, ht3, hk3, ho3⟩; have H3 := Lib.hid (And.intro ht3 (And.intro hk3 ho3)); have HKT := Lib.hid (fun (g : Nat) (cur : Array Value) (ty : TypeId) (fz : Nat × Nat) (hb : w1.heap[g]? = some (.cells cur ty fz)) (h1 : ty ≠ 132) (h2 : ty ≠ 9) => (kept_ty (HT.out.ext E41.out) hk3 hb h1 h2).trans hb); have HS3 := Lib.hid (((TabStep.refl bt bm tv w).ext E41.out).trans ⟨hk3, ho3⟩); have e13 : CrBlk w3 w.heap.size a b c L g v V := HKT.out _ _ _ _ E11.out (by decide) (by decide); have E13 := Lib.hid e13; have cL := e13.cellL k hk; have hw3 := lt_of_heap e13; have e23 : PcBlk w3 (w.heap.size + 1) (k : Int) ver (.slice pq ts.length cq) := HKT.out _ _ _ _ E21.out (by decide) (by decide); obtain ⟨r0, r1, r2, _, _, _, hr3⟩ := e23.cell; have E23 := Lib.hid e23; have E33 : Hid (CrBlk w3 (w.heap.size + 1 + 1) 0 0 0 zeroV noG nilV zeroV) := Lib.hid (HKT.out _ _ _ _ E31.out (by decide) (by decide)); clear ht3 hk3 ho3 e13 e23)
    | (refine wpList_buildTo rfl 39 #[] rfl _ rfl (crC 0 0 0 zeroV noG nilV zeroV) (by kernel_rfl) ?_)
    | (refine wpList_store_rowTo rfl 39 _ _ rfl rfl (w.heap.size + 1 + 1) (crC 0 0 0 zeroV noG nilV zeroV) rfl rfl 39 (crC 0 0 0 zeroV noG nilV zeroV) (E33.out) (by kernel_rfl) rfl (zcr_one) ?_))
      have ta := tab_after H3.out.1 HS3.out (grown_row w3 (w.heap.size + 1 + 1) (crC 0 0 0 zeroV noG nilV zeroV)) (by omega) E33.out (by decide) (by decide)
      exact bodyPost_ret (results_cell_slot (p := 6) (q := 7) (ty := 39) rfl _ _ ⟨w.heap.size + 1 + 1, 0, none⟩ _ rfl (cr_load (E33.out.setRow 0 0 0 zeroV noG nilV zeroV)) _ rfl) rfl (CratePost.no ta.1 ta.2)
    subst he
    rw [if_neg (by simp)] at hr
    by_cases heq : (n3 : Int) = L k
    case neg =>
      have heq' : ((n3 : Int) != L k) = true := by simpa using heq
      rw [if_pos heq] at hr
      subst hr
      clear heq
      go_enter Tryz.func15, Tryz.ntmps15
      go_wp2_with (first
    | (go_at_call 57; refine (IT.out _ E4.out).mono ?_; rintro e w1 hip; obtain ⟨lv, rfl, hok, hx⟩ := hip.get HC.out; obtain ⟨hown, hio⟩ := hok rfl; obtain ⟨pp, cc, rfl⟩ := own_sl hown; obtain ⟨b1, o1, o2, _⟩ := own_lf hown rfl hio; have HLF := Lib.hid o1; have HLT := Lib.hid o2; have E41 := Lib.hid (E4.out.trans hx); have E11 := Lib.hid (E1.out.ext hx); have e21 := PcBlk.block E2.out (hx.below.block _ (lt_of_heap E2.out)); obtain ⟨q0, q1, q2, _, _, _, hq⟩ := e21.cell; have E21 := Lib.hid e21; have E31 := Lib.hid (E3.out.ext hx); clear hok hx hip hown hio o1 o2 e21)
    | (go_at_call 34; refine (LF.out w1 b1 _ E41.out HLF.out).mono ?_; rintro e w3 ⟨rfl, tv3, ht3, hk3, ho3⟩; have H3 := Lib.hid (And.intro ht3 (And.intro hk3 ho3)); have HKT := Lib.hid (fun (g : Nat) (cur : Array Value) (ty : TypeId) (fz : Nat × Nat) (hb : w1.heap[g]? = some (.cells cur ty fz)) (h1 : ty ≠ 132) (h2 : ty ≠ 9) => (kept_ty (HT.out.ext E41.out) hk3 hb h1 h2).trans hb); have HS3 := Lib.hid (((TabStep.refl bt bm tv w).ext E41.out).trans ⟨hk3, ho3⟩); have e13 : CrBlk w3 w.heap.size a b c L g v V := HKT.out _ _ _ _ E11.out (by decide) (by decide); have E13 := Lib.hid e13; have cL := e13.cellL k hk; have hw3 := lt_of_heap e13; have e23 : PcBlk w3 (w.heap.size + 1) (k : Int) ver (.slice pq ts.length cq) := HKT.out _ _ _ _ E21.out (by decide) (by decide); obtain ⟨r0, r1, r2, _, _, _, hr3⟩ := e23.cell; have E23 := Lib.hid e23; have E33 : Hid (CrBlk w3 (w.heap.size + 1 + 1) 0 0 0 zeroV noG nilV zeroV) := Lib.hid (HKT.out _ _ _ _ E31.out (by decide) (by decide)); clear ht3 hk3 ho3 e13 e23)
    | (refine wpList_buildTo rfl 39 #[] rfl _ rfl (crC 0 0 0 zeroV noG nilV zeroV) (by kernel_rfl) ?_)
    | (refine wpList_store_rowTo rfl 39 _ _ rfl rfl (w.heap.size + 1 + 1) (crC 0 0 0 zeroV noG nilV zeroV) rfl rfl 39 (crC 0 0 0 zeroV noG nilV zeroV) (E33.out) (by kernel_rfl) rfl (zcr_one) ?_))
      have ta := tab_after H3.out.1 HS3.out (grown_row w3 (w.heap.size + 1 + 1) (crC 0 0 0 zeroV noG nilV zeroV)) (by omega) E33.out (by decide) (by decide)
      exact bodyPost_ret (results_cell_slot (p := 6) (q := 7) (ty := 39) rfl _ _ ⟨w.heap.size + 1 + 1, 0, none⟩ _ rfl (cr_load (E33.out.setRow 0 0 0 zeroV noG nilV zeroV)) _ rfl) rfl (CratePost.no ta.1 ta.2)
    rw [if_neg (by simpa using heq)] at hr
    cases ht : trunkB T V with
    | false =>
      rw [if_pos (by rw [ht]; rfl)] at hr
      subst hr
      have RP := Lib.hid fun (W : World) (bs3 : Nat → Nat) (p : Option Addr) (n cap : Nat) (hs : SignsAt SB W) (hl : SB ≤ W.heap.size) (h : LvsAt W bs3 v T) => replace_no1 bs3 v T V k hk ver p n cap SB W hs hl h ht
      go_enter Tryz.func15, Tryz.ntmps15
      go_wp2_with (first
    | (go_at_call 57; refine (IT.out _ E4.out).mono ?_; rintro e w1 hip; obtain ⟨lv, rfl, hok, hx⟩ := hip.get HC.out; obtain ⟨hown, hio⟩ := hok rfl; obtain ⟨pp, cc, rfl⟩ := own_sl hown; obtain ⟨b1, o1, o2, _⟩ := own_lf hown rfl hio; have HLF := Lib.hid o1; have HLT := Lib.hid o2; have E41 := Lib.hid (E4.out.trans hx); have E11 := Lib.hid (E1.out.ext hx); have e21 := PcBlk.block E2.out (hx.below.block _ (lt_of_heap E2.out)); obtain ⟨q0, q1, q2, _, _, _, hq⟩ := e21.cell; have E21 := Lib.hid e21; have E31 := Lib.hid (E3.out.ext hx); clear hok hx hip hown hio o1 o2 e21)
    | (go_at_call 34; refine (LF.out w1 b1 _ E41.out HLF.out).mono ?_; rintro e w3 ⟨rfl, tv3, ht3, hk3, ho3⟩; have H3 := Lib.hid (And.intro ht3 (And.intro hk3 ho3)); have HKT := Lib.hid (fun (g : Nat) (cur : Array Value) (ty : TypeId) (fz : Nat × Nat) (hb : w1.heap[g]? = some (.cells cur ty fz)) (h1 : ty ≠ 132) (h2 : ty ≠ 9) => (kept_ty (HT.out.ext E41.out) hk3 hb h1 h2).trans hb); have HS3 := Lib.hid (((TabStep.refl bt bm tv w).ext E41.out).trans ⟨hk3, ho3⟩); have e13 : CrBlk w3 w.heap.size a b c L g v V := HKT.out _ _ _ _ E11.out (by decide) (by decide); have E13 := Lib.hid e13; have cL := e13.cellL k hk; have hw3 := lt_of_heap e13; have e23 : PcBlk w3 (w.heap.size + 1) (k : Int) ver (.slice pq ts.length cq) := HKT.out _ _ _ _ E21.out (by decide) (by decide); obtain ⟨r0, r1, r2, _, _, _, hr3⟩ := e23.cell; have E23 := Lib.hid e23; have E33 : Hid (CrBlk w3 (w.heap.size + 1 + 1) 0 0 0 zeroV noG nilV zeroV) := Lib.hid (HKT.out _ _ _ _ E31.out (by decide) (by decide)); clear ht3 hk3 ho3 e13 e23)
    | (refine wpList_load_sub rfl 29 _ rfl (w.heap.size) 35 rfl 39 (crC a b c L g v V) (trC v V) (0, 0) _ (E13.out) Tryz.underlying29 rfl (by kernel_rfl) (crC_tr a b c L g v V) ?_)
    | (go_at_call 58; have hlv3 := LvsAt.keep (HL.out.ext E41.out) (HY.out.ext E41.out) (fun g cur fz hg => kept_ty (HT.out.ext E41.out) H3.out.2.1 hg (by decide) (by decide)); have hlf3 : LfAt w3 b1 _ li := HLF.out.of_block (fun hl => by (obtain ⟨cur, fz, hc⟩ := HLT.out hl); exact kept_ty (HT.out.ext E41.out) H3.out.2.1 hc (by decide) (by decide)); have hsg : SignsAt SB w3 := HS.out.below (HS3.out.below HT.out) hSB; have hsb : SB ≤ w3.heap.size := Nat.le_trans (Nat.le_trans hSB hBw) (HS3.out.below HT.out).size; refine (RP.out w3 bs _ _ _ hsg hsb hlv3.1).mono ?_; rintro e w4 ⟨rfl, hx⟩; have E14 := Lib.hid (E13.out.ext hx); have e24 := PcBlk.block E23.out (hx.below.block _ (lt_of_heap E23.out)); obtain ⟨s0, s1, s2, _, _, _, hs4⟩ := e24.cell; have E24 := Lib.hid e24; have E34 := Lib.hid (E33.out.ext hx); have HX4 := Lib.hid hx; clear hx e24 hlv3 hlf3 hsg hsb)
    | (refine wpList_store_rowTo rfl 29 _ _ rfl rfl (w4.heap.size) (trC nilV zeroV) rfl rfl 29 (trC nilV zeroV) (heap_alloc_new w4 _) (by kernel_rfl) rfl (trC_one _ _ nil_one) ?_)
    | (refine wpList_buildTo rfl 39 #[] rfl _ rfl (crC 0 0 0 zeroV noG nilV zeroV) (by kernel_rfl) ?_)
    | (have E35 : Hid (CrBlk ((w4.alloc (.cells #[.slice none 0 0, .slice none 0 0, .slice none 0 0, .slice none 0 0, .slice none 0 0, .slice none 0 0, .slice none 0 0, .slice none 0 0, .slice none 0 0, .slice none 0 0, .slice none 0 0, .slice none 0 0, .slice none 0 0, .slice none 0 0, .slice none 0 0, .slice none 0 0, .int .i64 0, .int .i64 0, .int .i64 0, .int .i64 0, .int .i64 0, .int .i64 0, .int .i64 0, .int .i64 0, .int .i64 0, .int .i64 0, .int .i64 0, .int .i64 0, .int .i64 0, .int .i64 0, .int .i64 0, .int .i64 0] 29)).setRow w4.heap.size (trC nilV zeroV)) (w.heap.size + 1 + 1) 0 0 0 zeroV noG nilV zeroV) := Lib.hid (CrBlk.otherRow (E34.out.ext ((Ext.refl w4).alloc _)) (show w.heap.size + 1 + 1 ≠ w4.heap.size by have := lt_of_heap E34.out; omega) _); refine wpList_store_rowTo rfl 39 _ _ rfl rfl (w.heap.size + 1 + 1) (crC 0 0 0 zeroV noG nilV zeroV) rfl rfl 39 (crC 0 0 0 zeroV noG nilV zeroV) (E35.out) (by kernel_rfl) rfl (zcr_one) ?_))
      have hxa := (HX4.out.alloc (.cells (trC nilV zeroV) 29)).setRow (g := w4.heap.size) HX4.out.size (trC nilV zeroV)
      have e35 : CrBlk ((w4.alloc (.cells #[.slice none 0 0, .slice none 0 0, .slice none 0 0, .slice none 0 0, .slice none 0 0, .slice none 0 0, .slice none 0 0, .slice none 0 0, .slice none 0 0, .slice none 0 0, .slice none 0 0, .slice none 0 0, .slice none 0 0, .slice none 0 0, .slice none 0 0, .slice none 0 0, .int .i64 0, .int .i64 0, .int .i64 0, .int .i64 0, .int .i64 0, .int .i64 0, .int .i64 0, .int .i64 0, .int .i64 0, .int .i64 0, .int .i64 0, .int .i64 0, .int .i64 0, .int .i64 0, .int .i64 0, .int .i64 0] 29)).setRow w4.heap.size (trC nilV zeroV)) (w.heap.size + 1 + 1) 0 0 0 zeroV noG nilV zeroV := CrBlk.otherRow (E34.out.ext ((Ext.refl w4).alloc _)) (show w.heap.size + 1 + 1 ≠ w4.heap.size by have := lt_of_heap E34.out; omega) _
      have ta := tab_after (H3.out.1.ext hxa) (HS3.out.ext hxa) (grown_row _ (w.heap.size + 1 + 1) (crC 0 0 0 zeroV noG nilV zeroV)) (by omega) e35 (by decide) (by decide)
      exact bodyPost_ret (results_cell_slot (p := 6) (q := 7) (ty := 39) rfl _ _ ⟨w.heap.size + 1 + 1, 0, none⟩ _ rfl (cr_load (e35.setRow 0 0 0 zeroV noG nilV zeroV)) _ rfl) rfl (CratePost.no ta.1 ta.2)
    | true =>
    cases hf : fitsB (k : Int) li ver with
    | false =>
      rw [if_pos (by rw [ht, hf]; rfl)] at hr
      subst hr
      have RP := Lib.hid fun (W : World) (bs3 : Nat → Nat) (b1 : Nat) (p : Option Addr) (n cap : Nat) (hs : SignsAt SB W) (hl : SB ≤ W.heap.size) (h : LvsAt W bs3 v T) (hlf : LfAt W b1 (.slice p n cap) li) => replace_no2 bs3 v T V k hk ver b1 p n cap li SB W hs hl h hlf ht hf
      go_enter Tryz.func15, Tryz.ntmps15
      go_wp2_with (first
    | (go_at_call 57; refine (IT.out _ E4.out).mono ?_; rintro e w1 hip; obtain ⟨lv, rfl, hok, hx⟩ := hip.get HC.out; obtain ⟨hown, hio⟩ := hok rfl; obtain ⟨pp, cc, rfl⟩ := own_sl hown; obtain ⟨b1, o1, o2, _⟩ := own_lf hown rfl hio; have HLF := Lib.hid o1; have HLT := Lib.hid o2; have E41 := Lib.hid (E4.out.trans hx); have E11 := Lib.hid (E1.out.ext hx); have e21 := PcBlk.block E2.out (hx.below.block _ (lt_of_heap E2.out)); obtain ⟨q0, q1, q2, _, _, _, hq⟩ := e21.cell; have E21 := Lib.hid e21; have E31 := Lib.hid (E3.out.ext hx); clear hok hx hip hown hio o1 o2 e21)
    | (go_at_call 34; refine (LF.out w1 b1 _ E41.out HLF.out).mono ?_; rintro e w3 ⟨rfl, tv3, ht3, hk3, ho3⟩; have H3 := Lib.hid (And.intro ht3 (And.intro hk3 ho3)); have HKT := Lib.hid (fun (g : Nat) (cur : Array Value) (ty : TypeId) (fz : Nat × Nat) (hb : w1.heap[g]? = some (.cells cur ty fz)) (h1 : ty ≠ 132) (h2 : ty ≠ 9) => (kept_ty (HT.out.ext E41.out) hk3 hb h1 h2).trans hb); have HS3 := Lib.hid (((TabStep.refl bt bm tv w).ext E41.out).trans ⟨hk3, ho3⟩); have e13 : CrBlk w3 w.heap.size a b c L g v V := HKT.out _ _ _ _ E11.out (by decide) (by decide); have E13 := Lib.hid e13; have cL := e13.cellL k hk; have hw3 := lt_of_heap e13; have e23 : PcBlk w3 (w.heap.size + 1) (k : Int) ver (.slice pq ts.length cq) := HKT.out _ _ _ _ E21.out (by decide) (by decide); obtain ⟨r0, r1, r2, _, _, _, hr3⟩ := e23.cell; have E23 := Lib.hid e23; have E33 : Hid (CrBlk w3 (w.heap.size + 1 + 1) 0 0 0 zeroV noG nilV zeroV) := Lib.hid (HKT.out _ _ _ _ E31.out (by decide) (by decide)); clear ht3 hk3 ho3 e13 e23)
    | (refine wpList_load_sub rfl 29 _ rfl (w.heap.size) 35 rfl 39 (crC a b c L g v V) (trC v V) (0, 0) _ (E13.out) Tryz.underlying29 rfl (by kernel_rfl) (crC_tr a b c L g v V) ?_)
    | (go_at_call 58; have hlv3 := LvsAt.keep (HL.out.ext E41.out) (HY.out.ext E41.out) (fun g cur fz hg => kept_ty (HT.out.ext E41.out) H3.out.2.1 hg (by decide) (by decide)); have hlf3 : LfAt w3 b1 _ li := HLF.out.of_block (fun hl => by (obtain ⟨cur, fz, hc⟩ := HLT.out hl); exact kept_ty (HT.out.ext E41.out) H3.out.2.1 hc (by decide) (by decide)); have hsg : SignsAt SB w3 := HS.out.below (HS3.out.below HT.out) hSB; have hsb : SB ≤ w3.heap.size := Nat.le_trans (Nat.le_trans hSB hBw) (HS3.out.below HT.out).size; refine (RP.out w3 bs b1 _ _ _ hsg hsb hlv3.1 hlf3).mono ?_; rintro e w4 ⟨rfl, hx⟩; have E14 := Lib.hid (E13.out.ext hx); have e24 := PcBlk.block E23.out (hx.below.block _ (lt_of_heap E23.out)); obtain ⟨s0, s1, s2, _, _, _, hs4⟩ := e24.cell; have E24 := Lib.hid e24; have E34 := Lib.hid (E33.out.ext hx); have HX4 := Lib.hid hx; clear hx e24 hlv3 hlf3 hsg hsb)
    | (refine wpList_store_rowTo rfl 29 _ _ rfl rfl (w4.heap.size) (trC nilV zeroV) rfl rfl 29 (trC nilV zeroV) (heap_alloc_new w4 _) (by kernel_rfl) rfl (trC_one _ _ nil_one) ?_)
    | (refine wpList_buildTo rfl 39 #[] rfl _ rfl (crC 0 0 0 zeroV noG nilV zeroV) (by kernel_rfl) ?_)
    | (have E35 : Hid (CrBlk ((w4.alloc (.cells #[.slice none 0 0, .slice none 0 0, .slice none 0 0, .slice none 0 0, .slice none 0 0, .slice none 0 0, .slice none 0 0, .slice none 0 0, .slice none 0 0, .slice none 0 0, .slice none 0 0, .slice none 0 0, .slice none 0 0, .slice none 0 0, .slice none 0 0, .slice none 0 0, .int .i64 0, .int .i64 0, .int .i64 0, .int .i64 0, .int .i64 0, .int .i64 0, .int .i64 0, .int .i64 0, .int .i64 0, .int .i64 0, .int .i64 0, .int .i64 0, .int .i64 0, .int .i64 0, .int .i64 0, .int .i64 0] 29)).setRow w4.heap.size (trC nilV zeroV)) (w.heap.size + 1 + 1) 0 0 0 zeroV noG nilV zeroV) := Lib.hid (CrBlk.otherRow (E34.out.ext ((Ext.refl w4).alloc _)) (show w.heap.size + 1 + 1 ≠ w4.heap.size by have := lt_of_heap E34.out; omega) _); refine wpList_store_rowTo rfl 39 _ _ rfl rfl (w.heap.size + 1 + 1) (crC 0 0 0 zeroV noG nilV zeroV) rfl rfl 39 (crC 0 0 0 zeroV noG nilV zeroV) (E35.out) (by kernel_rfl) rfl (zcr_one) ?_))
      have hxa := (HX4.out.alloc (.cells (trC nilV zeroV) 29)).setRow (g := w4.heap.size) HX4.out.size (trC nilV zeroV)
      have e35 : CrBlk ((w4.alloc (.cells #[.slice none 0 0, .slice none 0 0, .slice none 0 0, .slice none 0 0, .slice none 0 0, .slice none 0 0, .slice none 0 0, .slice none 0 0, .slice none 0 0, .slice none 0 0, .slice none 0 0, .slice none 0 0, .slice none 0 0, .slice none 0 0, .slice none 0 0, .slice none 0 0, .int .i64 0, .int .i64 0, .int .i64 0, .int .i64 0, .int .i64 0, .int .i64 0, .int .i64 0, .int .i64 0, .int .i64 0, .int .i64 0, .int .i64 0, .int .i64 0, .int .i64 0, .int .i64 0, .int .i64 0, .int .i64 0] 29)).setRow w4.heap.size (trC nilV zeroV)) (w.heap.size + 1 + 1) 0 0 0 zeroV noG nilV zeroV := CrBlk.otherRow (E34.out.ext ((Ext.refl w4).alloc _)) (show w.heap.size + 1 + 1 ≠ w4.heap.size by have := lt_of_heap E34.out; omega) _
      have ta := tab_after (H3.out.1.ext hxa) (HS3.out.ext hxa) (grown_row _ (w.heap.size + 1 + 1) (crC 0 0 0 zeroV noG nilV zeroV)) (by omega) e35 (by decide) (by decide)
      exact bodyPost_ret (results_cell_slot (p := 6) (q := 7) (ty := 39) rfl _ _ ⟨w.heap.size + 1 + 1, 0, none⟩ _ rfl (cr_load (e35.setRow 0 0 0 zeroV noG nilV zeroV)) _ rfl) rfl (CratePost.no ta.1 ta.2)
    | true =>
    rw [if_neg (by rw [ht, hf]; simp)] at hr
    subst hr
    have RP := Lib.hid fun (W : World) (bs3 : Nat → Nat) (b1 : Nat) (p : Option Addr) (n cap : Nat) (hs : SignsAt SB W) (hl : SB ≤ W.heap.size) (h : LvsAt W bs3 v T) (hty : LvTy W bs3 T) (hlf : LfAt W b1 (.slice p n cap) li) => replace_ok bs3 v T V k hk ver b1 p n cap li SB W hs hl h hty hlf (by omega) ht hf
    go_enter Tryz.func15, Tryz.ntmps15
    go_upto_region 16 with (first
      | (go_at_call 57; refine (IT.out _ E4.out).mono ?_; rintro e w1 hip; obtain ⟨lv, rfl, hok, hx⟩ := hip.get HC.out; obtain ⟨hown, hio⟩ := hok rfl; obtain ⟨pp, cc, rfl⟩ := own_sl hown; obtain ⟨b1, o1, o2, _⟩ := own_lf hown rfl hio; have HLF := Lib.hid o1; have HLT := Lib.hid o2; have E41 := Lib.hid (E4.out.trans hx); have E11 := Lib.hid (E1.out.ext hx); have e21 := PcBlk.block E2.out (hx.below.block _ (lt_of_heap E2.out)); obtain ⟨q0, q1, q2, _, _, _, hq⟩ := e21.cell; have E21 := Lib.hid e21; have E31 := Lib.hid (E3.out.ext hx); clear hok hx hip hown hio o1 o2 e21)
      | (go_at_call 34; refine (LF.out w1 b1 _ E41.out HLF.out).mono ?_; rintro e w3 ⟨rfl, tv3, ht3, hk3, ho3⟩; have H3 := Lib.hid (And.intro ht3 (And.intro hk3 ho3)); have HKT := Lib.hid (fun (g : Nat) (cur : Array Value) (ty : TypeId) (fz : Nat × Nat) (hb : w1.heap[g]? = some (.cells cur ty fz)) (h1 : ty ≠ 132) (h2 : ty ≠ 9) => (kept_ty (HT.out.ext E41.out) hk3 hb h1 h2).trans hb); have HS3 := Lib.hid (((TabStep.refl bt bm tv w).ext E41.out).trans ⟨hk3, ho3⟩); have e13 : CrBlk w3 w.heap.size a b c L g v V := HKT.out _ _ _ _ E11.out (by decide) (by decide); have E13 := Lib.hid e13; have cL := e13.cellL k hk; have hw3 := lt_of_heap e13; have e23 : PcBlk w3 (w.heap.size + 1) (k : Int) ver (.slice pq ts.length cq) := HKT.out _ _ _ _ E21.out (by decide) (by decide); obtain ⟨r0, r1, r2, _, _, _, hr3⟩ := e23.cell; have E23 := Lib.hid e23; have E33 : Hid (CrBlk w3 (w.heap.size + 1 + 1) 0 0 0 zeroV noG nilV zeroV) := Lib.hid (HKT.out _ _ _ _ E31.out (by decide) (by decide)); clear ht3 hk3 ho3 e13 e23)
      | (refine wpList_load_sub rfl 29 _ rfl (w.heap.size) 35 rfl 39 (crC a b c L g v V) (trC v V) (0, 0) _ (E13.out) Tryz.underlying29 rfl (by kernel_rfl) (crC_tr a b c L g v V) ?_)
      | (go_at_call 58; have hlv3 := LvsAt.keep (HL.out.ext E41.out) (HY.out.ext E41.out) (fun g cur fz hg => kept_ty (HT.out.ext E41.out) H3.out.2.1 hg (by decide) (by decide)); have hlf3 : LfAt w3 b1 _ li := HLF.out.of_block (fun hl => by (obtain ⟨cur, fz, hc⟩ := HLT.out hl); exact kept_ty (HT.out.ext E41.out) H3.out.2.1 hc (by decide) (by decide)); have hsg : SignsAt SB w3 := HS.out.below (HS3.out.below HT.out) hSB; have hsb : SB ≤ w3.heap.size := Nat.le_trans (Nat.le_trans hSB hBw) (HS3.out.below HT.out).size; refine (RP.out w3 bs b1 _ _ _ hsg hsb hlv3.1 hlv3.2 hlf3).mono ?_; rintro e w4 ⟨bs4, v4, rfl, hl4, hy4, hx⟩; have HL4 := Lib.hid (And.intro hl4 hy4); clear hl4 hy4; have E14 := Lib.hid (E13.out.ext hx); have e24 := PcBlk.block E23.out (hx.below.block _ (lt_of_heap E23.out)); obtain ⟨s0, s1, s2, _, _, _, hs4⟩ := e24.cell; have E24 := Lib.hid e24; have E34 := Lib.hid (E33.out.ext hx); have HX4 := Lib.hid hx; clear hx e24 hlv3 hlf3 hsg hsb)
      | (refine wpList_store_rowTo rfl 29 _ _ rfl rfl (w4.heap.size) (trC v4 (upd V k ver)) rfl rfl 29 (trC nilV zeroV) (heap_alloc_new w4 _) (by kernel_rfl) rfl (trC_one _ _ HL4.out.1.one) ?_))
    have hw41 := lt_of_heap E14.out
    have hw42 := lt_of_heap E34.out
    have e15 : CrBlk ((w4.alloc (.cells #[.slice none 0 0, .slice none 0 0, .slice none 0 0, .slice none 0 0, .slice none 0 0, .slice none 0 0, .slice none 0 0, .slice none 0 0, .slice none 0 0, .slice none 0 0, .slice none 0 0, .slice none 0 0, .slice none 0 0, .slice none 0 0, .slice none 0 0, .slice none 0 0, .int .i64 0, .int .i64 0, .int .i64 0, .int .i64 0, .int .i64 0, .int .i64 0, .int .i64 0, .int .i64 0, .int .i64 0, .int .i64 0, .int .i64 0, .int .i64 0, .int .i64 0, .int .i64 0, .int .i64 0, .int .i64 0] 29)).setRow w4.heap.size (trC v4 (upd V k ver))) w.heap.size a b c L g v V := CrBlk.otherRow (E14.out.ext ((Ext.refl w4).alloc _)) (show w.heap.size ≠ w4.heap.size by omega) _
    have e25 : PcBlk ((w4.alloc (.cells #[.slice none 0 0, .slice none 0 0, .slice none 0 0, .slice none 0 0, .slice none 0 0, .slice none 0 0, .slice none 0 0, .slice none 0 0, .slice none 0 0, .slice none 0 0, .slice none 0 0, .slice none 0 0, .slice none 0 0, .slice none 0 0, .slice none 0 0, .slice none 0 0, .int .i64 0, .int .i64 0, .int .i64 0, .int .i64 0, .int .i64 0, .int .i64 0, .int .i64 0, .int .i64 0, .int .i64 0, .int .i64 0, .int .i64 0, .int .i64 0, .int .i64 0, .int .i64 0, .int .i64 0, .int .i64 0] 29)).setRow w4.heap.size (trC v4 (upd V k ver))) (w.heap.size + 1) (k : Int) ver (.slice pq ts.length cq) := PcBlk.block (PcBlk.block E24.out (((Ext.refl w4).alloc _).below.block _ (lt_of_heap E24.out))) (setRow_other _ _ _ _ (show w.heap.size + 1 ≠ w4.heap.size by omega))
    have e35 : CrBlk ((w4.alloc (.cells #[.slice none 0 0, .slice none 0 0, .slice none 0 0, .slice none 0 0, .slice none 0 0, .slice none 0 0, .slice none 0 0, .slice none 0 0, .slice none 0 0, .slice none 0 0, .slice none 0 0, .slice none 0 0, .slice none 0 0, .slice none 0 0, .slice none 0 0, .slice none 0 0, .int .i64 0, .int .i64 0, .int .i64 0, .int .i64 0, .int .i64 0, .int .i64 0, .int .i64 0, .int .i64 0, .int .i64 0, .int .i64 0, .int .i64 0, .int .i64 0, .int .i64 0, .int .i64 0, .int .i64 0, .int .i64 0] 29)).setRow w4.heap.size (trC v4 (upd V k ver))) (w.heap.size + 1 + 1) 0 0 0 zeroV noG nilV zeroV := CrBlk.otherRow (E34.out.ext ((Ext.refl w4).alloc _)) (show w.heap.size + 1 + 1 ≠ w4.heap.size by omega) _
    have et5 : TrBlk ((w4.alloc (.cells #[.slice none 0 0, .slice none 0 0, .slice none 0 0, .slice none 0 0, .slice none 0 0, .slice none 0 0, .slice none 0 0, .slice none 0 0, .slice none 0 0, .slice none 0 0, .slice none 0 0, .slice none 0 0, .slice none 0 0, .slice none 0 0, .slice none 0 0, .slice none 0 0, .int .i64 0, .int .i64 0, .int .i64 0, .int .i64 0, .int .i64 0, .int .i64 0, .int .i64 0, .int .i64 0, .int .i64 0, .int .i64 0, .int .i64 0, .int .i64 0, .int .i64 0, .int .i64 0, .int .i64 0, .int .i64 0] 29)).setRow w4.heap.size (trC v4 (upd V k ver))) w4.heap.size v4 (upd V k ver) := TrBlk.setRow (show TrBlk (w4.alloc (.cells #[.slice none 0 0, .slice none 0 0, .slice none 0 0, .slice none 0 0, .slice none 0 0, .slice none 0 0, .slice none 0 0, .slice none 0 0, .slice none 0 0, .slice none 0 0, .slice none 0 0, .slice none 0 0, .slice none 0 0, .slice none 0 0, .slice none 0 0, .slice none 0 0, .int .i64 0, .int .i64 0, .int .i64 0, .int .i64 0, .int .i64 0, .int .i64 0, .int .i64 0, .int .i64 0, .int .i64 0, .int .i64 0, .int .i64 0, .int .i64 0, .int .i64 0, .int .i64 0, .int .i64 0, .int .i64 0] 29)) w4.heap.size nilV zeroV from heap_alloc_new w4 _) v4 (upd V k ver)
    obtain ⟨g1, g2⟩ := LvsAt.rowT (HL4.out.1.ext ((Ext.refl w4).alloc _)) (HL4.out.2.ext ((Ext.refl w4).alloc _)) (heap_alloc_new w4 (.cells #[.slice none 0 0, .slice none 0 0, .slice none 0 0, .slice none 0 0, .slice none 0 0, .slice none 0 0, .slice none 0 0, .slice none 0 0, .slice none 0 0, .slice none 0 0, .slice none 0 0, .slice none 0 0, .slice none 0 0, .slice none 0 0, .slice none 0 0, .slice none 0 0, .int .i64 0, .int .i64 0, .int .i64 0, .int .i64 0, .int .i64 0, .int .i64 0, .int .i64 0, .int .i64 0, .int .i64 0, .int .i64 0, .int .i64 0, .int .i64 0, .int .i64 0, .int .i64 0, .int .i64 0, .int .i64 0] 29)) (by decide) (trC v4 (upd V k ver))
    have ta0 : TabAt B bt bm tv3 l3 ((w4.alloc (.cells #[.slice none 0 0, .slice none 0 0, .slice none 0 0, .slice none 0 0, .slice none 0 0, .slice none 0 0, .slice none 0 0, .slice none 0 0, .slice none 0 0, .slice none 0 0, .slice none 0 0, .slice none 0 0, .slice none 0 0, .slice none 0 0, .slice none 0 0, .slice none 0 0, .int .i64 0, .int .i64 0, .int .i64 0, .int .i64 0, .int .i64 0, .int .i64 0, .int .i64 0, .int .i64 0, .int .i64 0, .int .i64 0, .int .i64 0, .int .i64 0, .int .i64 0, .int .i64 0, .int .i64 0, .int .i64 0] 29)).setRow w4.heap.size (trC v4 (upd V k ver))) ∧ TabStep bt bm tv w tv3 ((w4.alloc (.cells #[.slice none 0 0, .slice none 0 0, .slice none 0 0, .slice none 0 0, .slice none 0 0, .slice none 0 0, .slice none 0 0, .slice none 0 0, .slice none 0 0, .slice none 0 0, .slice none 0 0, .slice none 0 0, .slice none 0 0, .slice none 0 0, .slice none 0 0, .slice none 0 0, .int .i64 0, .int .i64 0, .int .i64 0, .int .i64 0, .int .i64 0, .int .i64 0, .int .i64 0, .int .i64 0, .int .i64 0, .int .i64 0, .int .i64 0, .int .i64 0, .int .i64 0, .int .i64 0, .int .i64 0, .int .i64 0] 29)).setRow w4.heap.size (trC v4 (upd V k ver))) := by
      have hxa := (HX4.out.alloc (.cells #[.slice none 0 0, .slice none 0 0, .slice none 0 0, .slice none 0 0, .slice none 0 0, .slice none 0 0, .slice none 0 0, .slice none 0 0, .slice none 0 0, .slice none 0 0, .slice none 0 0, .slice none 0 0, .slice none 0 0, .slice none 0 0, .slice none 0 0, .slice none 0 0, .int .i64 0, .int .i64 0, .int .i64 0, .int .i64 0, .int .i64 0, .int .i64 0, .int .i64 0, .int .i64 0, .int .i64 0, .int .i64 0, .int .i64 0, .int .i64 0, .int .i64 0, .int .i64 0, .int .i64 0, .int .i64 0] 29)).setRow (g := w4.heap.size) HX4.out.size (trC v4 (upd V k ver))
      exact ⟨H3.out.1.ext hxa, HS3.out.ext hxa⟩
    obtain ⟨W5, hW5⟩ : ∃ W5, ((w4.alloc (.cells #[.slice none 0 0, .slice none 0 0, .slice none 0 0, .slice none 0 0, .slice none 0 0, .slice none 0 0, .slice none 0 0, .slice none 0 0, .slice none 0 0, .slice none 0 0, .slice none 0 0, .slice none 0 0, .slice none 0 0, .slice none 0 0, .slice none 0 0, .slice none 0 0, .int .i64 0, .int .i64 0, .int .i64 0, .int .i64 0, .int .i64 0, .int .i64 0, .int .i64 0, .int .i64 0, .int .i64 0, .int .i64 0, .int .i64 0, .int .i64 0, .int .i64 0, .int .i64 0, .int .i64 0, .int .i64 0] 29)).setRow w4.heap.size (trC v4 (upd V k ver))) = W5 := ⟨_, rfl⟩
    rw [hW5] at e15 e25 e35 et5 g1 g2 ta0 ⊢
    obtain ⟨M, hM⟩ : ∃ M, w4.heap.size = M := ⟨_, rfl⟩
    rw [hM] at et5 ⊢
    have e16 : CrBlk (W5.setRow w.heap.size (crC a b c L g v4 (upd V k ver))) w.heap.size a b c L g v4 (upd V k ver) := CrBlk.setRow e15 _ _ _ _ _ _ _
    have e26 : PcBlk (W5.setRow w.heap.size (crC a b c L g v4 (upd V k ver))) (w.heap.size + 1) (k : Int) ver (.slice pq ts.length cq) := PcBlk.block e25 (setRow_other _ _ _ _ (Nat.succ_ne_self _))
    have e36 : CrBlk (W5.setRow w.heap.size (crC a b c L g v4 (upd V k ver))) (w.heap.size + 1 + 1) 0 0 0 zeroV noG nilV zeroV := CrBlk.otherRow e35 (show w.heap.size + 1 + 1 ≠ w.heap.size by omega) _
    obtain ⟨t0, t1, t2, _, _, _, ht6⟩ := e26.cell
    have cg6 := e16.cellG k hk
    have fg6 := e16.frozen (19 + k)
    have hw6 := lt_of_heap e16
    have E15 := Lib.hid e15
    have E16 := Lib.hid e16
    have E36 := Lib.hid e36
    have ET5 := Lib.hid et5
    have HG5 := Lib.hid (And.intro g1 g2)
    have HTA := Lib.hid ta0
    clear e15 e25 e35 e16 e26 e36 et5 g1 g2 ta0 s0 s1 s2 r0 r1 r2 q0 q1 q2 cL p0 p1 p2 f0 f1 f2 hW5 hM
    go_wp2_with (first
    | (refine wpList_load_row rfl 29 _ rfl (M) rfl 29 (trC v4 (upd V k ver)) (0, 0) _ (ET5.out) Tryz.underlying29 rfl (by kernel_rfl) ?_)
    | (refine wpList_store_part rfl 29 _ _ rfl (w.heap.size) 35 (trC v4 (upd V k ver)) (crC a b c L g v V) (crC a b c L g v4 (upd V k ver)) _ _ rfl rfl (E15.out) (E15.out.there 35 32 (by decide)) (by kernel_rfl) (trC_one _ _ HL4.out.1.one) (putC_cr a b c L g v v4 V (upd V k ver)) ?_)
    | (refine wpList_load_row rfl 39 _ rfl (w.heap.size) rfl 39 (crC a b c L (upd g k true) v4 (upd V k ver)) (0, 0) _ ((E16.out.setG k hk true)) Tryz.underlying39 rfl (by kernel_rfl) ?_)
    | (refine wpList_store_rowTo rfl 39 _ _ rfl rfl (w.heap.size + 1 + 1) (crC a b c L (upd g k true) v4 (upd V k ver)) rfl rfl 39 (crC 0 0 0 zeroV noG nilV zeroV) ((CrBlk.other E36.out (show w.heap.size + 1 + 1 ≠ w.heap.size by omega) _)) (by kernel_rfl) rfl (crC_one _ _ _ _ _ _ _ HL4.out.1.one) ?_))
    have ta := tab_after HTA.out.1 HTA.out.2 (grown_row _ w.heap.size (crC a b c L g v4 (upd V k ver))) (Nat.le_refl _) E15.out (by decide) (by decide)
    have tb := tab_after ta.1 ta.2 (grown_cellw _ w.heap.size (19 + k) (.bool true)) (Nat.le_refl _) E16.out (by decide) (by decide)
    have e37 := CrBlk.other (i := 19 + k) E36.out (show w.heap.size + 1 + 1 ≠ w.heap.size by omega) (.bool true)
    have tc := tab_after tb.1 tb.2 (grown_row _ (w.heap.size + 1 + 1) (crC a b c L (upd g k true) v4 (upd V k ver))) (by omega) e37 (by decide) (by decide)
    obtain ⟨g3, g4⟩ := LvsAt.rowT HG5.out.1 HG5.out.2 E15.out (by decide) (crC a b c L g v4 (upd V k ver))
    obtain ⟨g5, g6⟩ := LvsAt.keep g3 g4 (cell_keep (i := 19 + k) (x := .bool true) E16.out (by decide))
    obtain ⟨g7, g8⟩ := LvsAt.rowT g5 g6 e37 (by decide) (crC a b c L (upd g k true) v4 (upd V k ver))
    exact bodyPost_ret (results_cell_slot (p := 6) (q := 7) (ty := 39) rfl _ _ ⟨w.heap.size + 1 + 1, 0, none⟩ _ rfl (cr_load (e37.setRow a b c L (upd g k true) v4 (upd V k ver))) _ rfl) rfl ⟨tv3, bs4, v4, rfl, tc.1, tc.2, g7, g8⟩
end Go.Proofs.YtpchohjkelopoaaGreatDoor
