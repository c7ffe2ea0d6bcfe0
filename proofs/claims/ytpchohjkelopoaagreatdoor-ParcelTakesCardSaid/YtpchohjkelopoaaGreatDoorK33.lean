/- Lemmas for the claim (texts PT3, what its proof uses of them). -/
import Derived.Test.YtpchohjkelopoaaGreatDoorK32
import Derived.Deep.DeepCutAuto
set_option linter.unusedSimpArgs false
set_option linter.unusedVariables false
set_option maxRecDepth 20000
namespace Go.Proofs.YtpchohjkelopoaaGreatDoor
open Go.RowKit
attribute [go_sem] more_more Array.size_append
def CmBlk (w : World) (N : Nat) (C0 : Array Value) : Prop := w.heap[N]? = some (.cells C0 32 (0, 0))
theorem CmBlk.ext {w w' : World} {N : Nat} {C0 : Array Value} (h : CmBlk w N C0) (hx : Ext w w') : CmBlk w' N C0 := blk_ext h hx
theorem CmBlk.kept {w w' : World} {N : Nat} {C0 : Array Value} (h : CmBlk w N C0) (hk : Kept w w') : CmBlk w' N C0 := blk_kept h hk (by decide) (by decide)
theorem cm_tr (tv : Value) (a b c : Int) (L : Nat → Int) (v : Nat → Value) (V : Nat → Int) (pv : Value) : ∀ j u, (trC v V).toList[j]? = some u → (cmC tv a b c L v V pv)[20 + j]? = some u := by
  intro j u h
  have hj : j < 32 := by have := (List.getElem?_eq_some_iff.1 h).1; simpa [trC] using this
  match j, hj with
  | 0, _ => exact h
  | 1, _ => exact h
  | 2, _ => exact h
  | 3, _ => exact h
  | 4, _ => exact h
  | 5, _ => exact h
  | 6, _ => exact h
  | 7, _ => exact h
  | 8, _ => exact h
  | 9, _ => exact h
  | 10, _ => exact h
  | 11, _ => exact h
  | 12, _ => exact h
  | 13, _ => exact h
  | 14, _ => exact h
  | 15, _ => exact h
  | 16, _ => exact h
  | 17, _ => exact h
  | 18, _ => exact h
  | 19, _ => exact h
  | 20, _ => exact h
  | 21, _ => exact h
  | 22, _ => exact h
  | 23, _ => exact h
  | 24, _ => exact h
  | 25, _ => exact h
  | 26, _ => exact h
  | 27, _ => exact h
  | 28, _ => exact h
  | 29, _ => exact h
  | 30, _ => exact h
  | 31, _ => exact h
  | n + 32, hn => exact absurd hn (by omega)
theorem cm_mf (tv : Value) (a b c : Int) (L : Nat → Int) (v : Nat → Value) (V : Nat → Int) (pv : Value) : ∀ j u, (mfC a b c L).toList[j]? = some u → (cmC tv a b c L v V pv)[1 + j]? = some u := by
  intro j u h
  have hj : j < 19 := by have := (List.getElem?_eq_some_iff.1 h).1; simpa [mfC] using this
  match j, hj with
  | 0, _ => exact h
  | 1, _ => exact h
  | 2, _ => exact h
  | 3, _ => exact h
  | 4, _ => exact h
  | 5, _ => exact h
  | 6, _ => exact h
  | 7, _ => exact h
  | 8, _ => exact h
  | 9, _ => exact h
  | 10, _ => exact h
  | 11, _ => exact h
  | 12, _ => exact h
  | 13, _ => exact h
  | 14, _ => exact h
  | 15, _ => exact h
  | 16, _ => exact h
  | 17, _ => exact h
  | 18, _ => exact h
  | n + 19, hn => exact absurd hn (by omega)
theorem putC_cm (tv : Value) (a b c : Int) (L : Nat → Int) (v v' : Nat → Value) (V V' : Nat → Int) (pv : Value) : putC (cmC tv a b c L v V pv) 20 (trC v' V').toList = cmC tv a b c L v' V' pv := by kernel_rfl
theorem row_there {w : World} {N : Nat} {C : Array Value} {t : TypeId} (h : w.heap[N]? = some (.cells C t (0, 0))) (o n : Nat) (hn : o + n ≤ C.size) : w.there N o n := by
  intro j hj
  refine ⟨?_, by simp [World.frozen?, h]⟩
  rw [cell_of_row w N (o + j) _ _ _ h, Array.getElem?_eq_getElem (show o + j < C.size by omega)]
  rfl
def TwoBlk (M : Nat) (C : Array Value) (M' : Nat) (C' : Array Value) (W : World) : Prop := W.heap[M]? = some (.cells C 39 (0, 0)) ∧ W.heap[M']? = some (.cells C' 39 (0, 0))
theorem TwoBlk.row {M M' X : Nat} {C C' : Array Value} {W : World} (h : TwoBlk M C M' C' W) (h1 : M ≠ X) (h2 : M' ≠ X) (x : Array Value) : TwoBlk M C M' C' (W.setRow X x) := ⟨(setRow_other _ _ _ _ h1).trans h.1, (setRow_other _ _ _ _ h2).trans h.2⟩
theorem done_short {a b c : Int} {g : Nat → Bool} {T : Nat → List It} {V : Nat → Int} (h : Short T) : Short (doneF a b c g T V).1.T := by
  have hz : Short Sto.none.T := fun k _ => by show (tOf [] k).length ≤ 66; rw [tOf_nil]; simp
  unfold doneF
  split
  · exact hz
  · split
    · exact h
    · exact hz
set_option maxHeartbeats 64000000 in
theorem pk_walk (B0 : Nat) (tv0 : Value) (ts : List ByteArray) (a b c : Int) (L : Nat → Int) (bs : Nat → Nat) (v : Nat → Value) (T : Nat → List It) (V : Nat → Int) (pv : Value) (ps : List Pc) (w : World) (hv : StrsAt w tv0 ts) (hs : ∀ s ∈ ts, s.size ≤ 140737488351232) (he : Env15 B0 w) (h : ∀ k, k < 16 → LfIn w (bs k) (v k) (T k)) (hps : PsAt w pv ps) :
    Calls Tryz.prog 3 #[.agg (cmC tv0 a b c L v V pv)] w fun e w' => e = .returned (.bool true) ∧ Ext w w' := by
  obtain ⟨po, co, rfl, hpf⟩ := ps_form hps
  have HPF := Lib.hid hpf
  obtain ⟨T3, hT3⟩ : ∃ T3 : Nat → List It, (fun k => fewF (T k)) = T3 := ⟨_, rfl⟩
  have HG := Lib.hid fun (W : World) (hx : Ext w W) => few_any bs v T V W (fun k hk => (h k hk).ext hx)
  have TC := Lib.hid fun (W : World) (hx : Ext w W) => table15_any tv0 ts W (hv.ext hx) hs
  have AW := Lib.hid fun (W : World) (hx : Ext w W) => awake15_any B0 W (he.ext hx)
  have HE := Lib.hid he
  obtain ⟨l, hl⟩ : ∃ l, tabF 40 ts = l := ⟨_, rfl⟩
  have hln : l.length ≤ 40 := by rw [← hl]; exact tabF_len 40 ts
  unfold TablePost at TC
  rw [hl] at TC
  have HTM : Hid (Short T3) := Lib.hid (fun k _ => by rw [← hT3]; exact fewF_len _)
  rw [hT3] at HG
  clear h hps hpf he hT3 hv hs hl
  have hd := heap_alloc_new w (.cells (cmC tv0 a b c L v V (.slice po ps.length co)) 32)
  have hxd : Ext w (w.alloc (.cells (cmC tv0 a b c L v V (.slice po ps.length co)) 32)) := (Ext.refl w).alloc _
  go_enter Tryz.func3, Tryz.ntmps3
  go_upto_region 1 with fail
  obtain ⟨W0, hW0⟩ : ∃ W0, w.alloc (.cells (cmC tv0 a b c L v V (.slice po ps.length co)) 32) = W0 := ⟨_, rfl⟩
  show Code.wp _ _ _ _ (w.alloc (.cells (cmC tv0 a b c L v V (.slice po ps.length co)) 32))
  obtain ⟨N, hN⟩ : ∃ N, w.heap.size = N := ⟨_, rfl⟩
  have hNw : w.heap.size ≤ N := Nat.le_of_eq hN
  rw [hN] at hd ⊢
  rw [hW0] at hd hxd ⊢
  have HQ0 : Hid (CmBlk W0 N (cmC tv0 a b c L v V (.slice po ps.length co))) := Lib.hid hd
  have HX0 := Lib.hid hxd
  clear hd hxd hW0 hN
  go_upto_region 2 with (first
    | (refine wpList_load_sub rfl 29 _ rfl (N) 20 rfl 32 (cmC tv0 a b c L v V (.slice po ps.length co)) (trC v V) (0, 0) _ (HQ0.out) Tryz.underlying29 rfl (by kernel_rfl) (cm_tr _ _ _ _ _ _ _ _) ?_)
    | (go_at_call 8; refine (HG.out _ HX0.out).mono ?_; rintro e w1 ⟨bs3, v3, rfl, hl, hy, hx⟩; have HL1 := Lib.hid (And.intro hl hy); have HQ1 := Lib.hid (HQ0.out.ext hx); have HX1 := Lib.hid (HX0.out.trans hx); clear hl hy hx)
    | (refine wpList_store_part rfl 29 _ _ rfl (N) 20 (trC v3 V) (cmC tv0 a b c L v V (.slice po ps.length co)) (cmC tv0 a b c L v3 V (.slice po ps.length co)) _ _ rfl rfl (HQ1.out) (row_there HQ1.out 20 32 (show 20 + 32 ≤ 53 by decide)) (by kernel_rfl) (trC_one _ _ HL1.out.1.one) (putC_cm _ _ _ _ _ _ _ _ _ _) ?_))
  obtain ⟨W1, hW1⟩ : ∃ W1, w1.setRow N (cmC tv0 a b c L v3 V (.slice po ps.length co)) = W1 := ⟨_, rfl⟩
  show Code.wp _ _ _ _ (w1.setRow N (cmC tv0 a b c L v3 V (.slice po ps.length co)))
  rw [hW1]
  have hq1 : CmBlk W1 N (cmC tv0 a b c L v3 V (.slice po ps.length co)) := by rw [← hW1]; exact setRow_heap _ _ _ _ _ _ HQ1.out
  have hx1 : Ext w W1 := by rw [← hW1]; exact HX1.out.setRow hNw _
  have hl1 := LvsAt.rowT HL1.out.1 HL1.out.2 HQ1.out (by decide) (cmC tv0 a b c L v3 V (.slice po ps.length co))
  rw [hW1] at hl1
  have HQW1 := Lib.hid hq1
  have HXW1 := Lib.hid hx1
  have HLW1 := Lib.hid hl1
  have c0 : W1.cell? ⟨N, 0, none⟩ = some tv0 := cell_of_row W1 N 0 _ _ _ hq1
  have hgN := lt_of_heap hq1
  have HB0 : Hid (B0 ≤ W1.heap.size) := Lib.hid (Nat.le_trans HE.out.size hx1.size)
  clear hq1 hx1 hl1 hW1
  go_upto_region 5 with (first
    | (go_at_call 9; refine (TC.out _ HXW1.out).mono ?_; rintro e w2 ⟨bt, bm, tv2, lv, rfl, hB, hb⟩; have hx2 := Ext.of_below hb; have HM2 := Lib.hid hB; have HQ2 := Lib.hid (HQW1.out.ext hx2); have HL2 := Lib.hid (And.intro (HLW1.out.1.ext hx2) (HLW1.out.2.ext hx2)); have HX2 := Lib.hid (HXW1.out.trans hx2); have HW2 := Lib.hid hb.size; clear hB hb hx2))
  have HwB := Lib.hid HXW1.out.size
  clear c0 hgN
  cases htr : trunkB T3 V with
  | false =>
    have BN := Lib.hid (pbegin_no bt a b c L bs3 v3 T3 V B0 w2 (HE.out.ext HX2.out).signs (HE.out.ext HX2.out).size HL2.out.1 htr)
    have MZ := Lib.hid fun (W : World) (h : LvsAt W bs3 v3 T3) => (show Calls Tryz.prog 11 #[.agg (trC v3 V)] W fun e w' => e = .returned (.bool false) ∧ Ext W w' from by have q := rtmay_any bs3 v3 T3 V W HTM.out.max h; rw [htr] at q; exact q)
    clear htr
    go_upto_region 6 with (first
      | (refine wpList_load_sub rfl 25 _ rfl (N) 1 rfl 32 (cmC tv0 a b c L v3 V (.slice po ps.length co)) (mfC a b c L) (0, 0) _ (HQ2.out) Tryz.underlying25 rfl (by kernel_rfl) (cm_mf _ _ _ _ _ _ _ _) ?_)
      | (refine wpList_load_sub rfl 29 _ rfl (N) 20 rfl 32 (cmC tv0 a b c L v3 V (.slice po ps.length co)) (trC v3 V) (0, 0) _ (HQ2.out) Tryz.underlying29 rfl (by kernel_rfl) (cm_tr _ _ _ _ _ _ _ _) ?_)
      | (go_at_call 10; refine (BN.out).mono ?_; rintro e w3 ⟨rfl, hx⟩; have HQ3 := Lib.hid (HQ2.out.ext hx); have HL3 := Lib.hid (And.intro (HL2.out.1.ext hx) (HL2.out.2.ext hx)); have HX3 := Lib.hid (HX2.out.trans hx); clear hx)
      | (refine wpList_store_rowTo rfl 39 _ _ rfl rfl (w3.heap.size) (crC 0 0 0 zeroV noG nilV zeroV) rfl rfl 39 (Tryz.zeroCells39) (heap_alloc_new w3 _) (by kernel_rfl) rfl (zcr_one) ?_))
    obtain ⟨W3, hW3⟩ : ∃ W3, (w3.alloc (.cells (Tryz.zeroCells39) 39)).setRow w3.heap.size (crC 0 0 0 zeroV noG nilV zeroV) = W3 := ⟨_, rfl⟩
    show Code.wp _ _ _ _ ((w3.alloc (.cells (Tryz.zeroCells39) 39)).setRow w3.heap.size (crC 0 0 0 zeroV noG nilV zeroV))
    rw [hW3]
    have frW3 := fresh_row w3 (Tryz.zeroCells39) (crC 0 0 0 zeroV noG nilV zeroV) 39
    rw [hW3] at frW3
    clear hW3
    obtain ⟨M5, hM5⟩ : ∃ M5, w3.heap.size = M5 := ⟨_, rfl⟩
    have hgeM5 : w3.heap.size ≤ M5 := Nat.le_of_eq hM5
    rw [hM5] at frW3 ⊢
    have HKW3 : Hid (CrBlk W3 M5 0 0 0 zeroV noG nilV zeroV) := Lib.hid frW3.1
    have HQW3 := Lib.hid (HQ3.out.ext frW3.2)
    have HLW3 := Lib.hid (And.intro (HL3.out.1.ext frW3.2) (HL3.out.2.ext frW3.2))
    have HXW3 := Lib.hid (HX3.out.trans frW3.2)
    clear frW3 hM5
    go_wp2_with (first
      | (refine wpList_load_sub rfl 29 _ rfl (N) 20 rfl 32 (cmC tv0 a b c L v3 V (.slice po ps.length co)) (trC v3 V) (0, 0) _ (HQW3.out) Tryz.underlying29 rfl (by kernel_rfl) (cm_tr _ _ _ _ _ _ _ _) ?_)
      | (go_at_call 11; refine (MZ.out _ HLW3.out.1).mono ?_; rintro e w4 ⟨rfl, hx⟩; have HQ4 := Lib.hid (HQW3.out.ext hx); have HK4 := Lib.hid (HKW3.out.ext hx); have HL4 := Lib.hid (And.intro (HLW3.out.1.ext hx) (HLW3.out.2.ext hx)); have HX4 := Lib.hid (HXW3.out.trans hx); clear hx)
      | (refine wpList_load_row rfl 39 _ rfl (M5) rfl 39 (crC 0 0 0 zeroV noG nilV zeroV) (0, 0) _ (HK4.out) Tryz.underlying39 rfl (by kernel_rfl) ?_)
      | (refine wpList_buildTo rfl 39 #[] rfl _ rfl (crC 0 0 0 zeroV noG nilV zeroV) (by kernel_rfl) ?_)
      | (go_at_call 12; refine (rsame15_any 0 0 0 zeroV noG (fun _ => 0) (fun _ => 0) nilV nilV (tOf []) zeroV w4 (lvs_nil _ _) (lvs_nil _ _) (fun k _ => by rw [tOf_nil]; simp)).mono ?_; rintro e w5 ⟨rfl, hx⟩; have HX5 := Lib.hid (HX4.out.trans hx); clear hx)
      | (go_at_call 13; refine (AW.out _ HX5.out).mono ?_; rintro e w6 ⟨rfl, hx⟩; have HX6 := Lib.hid (HX5.out.trans hx); clear hx))
    go_ret
    exact ⟨rfl, HX6.out⟩
  | true =>
    obtain ⟨r2, hr2⟩ : ∃ r2, beginF l ⟨a, b, c, L⟩ T3 V = r2 := ⟨_, rfl⟩
    have hm2 := begin_short l ⟨a, b, c, L⟩ T3 V HTM.out htr (by omega)
    rw [hr2] at hm2
    obtain ⟨l4, ⟨cm, cg, cT, cV⟩, e4⟩ := r2
    dsimp only at hm2
    obtain ⟨hsh, hl4, e1, e0⟩ := hm2
    subst e0 e1
    have HA2 := Lib.hid hr2
    have HSH := Lib.hid hsh
    have HTR := Lib.hid htr
    have MZ := Lib.hid fun (W : World) (h : LvsAt W bs3 v3 T3) => (show Calls Tryz.prog 11 #[.agg (trC v3 V)] W fun e w' => e = .returned (.bool true) ∧ Ext W w' from by have q := rtmay_any bs3 v3 T3 V W HTM.out.max h; rw [htr] at q; exact q)
    clear hr2 hsh htr
    go_upto_region 6 with (first
      | (refine wpList_load_sub rfl 25 _ rfl (N) 1 rfl 32 (cmC tv0 a b c L v3 V (.slice po ps.length co)) (mfC a b c L) (0, 0) _ (HQ2.out) Tryz.underlying25 rfl (by kernel_rfl) (cm_mf _ _ _ _ _ _ _ _) ?_)
      | (refine wpList_load_sub rfl 29 _ rfl (N) 20 rfl 32 (cmC tv0 a b c L v3 V (.slice po ps.length co)) (trC v3 V) (0, 0) _ (HQ2.out) Tryz.underlying29 rfl (by kernel_rfl) (cm_tr _ _ _ _ _ _ _ _) ?_)
      | (go_at_call 10; refine (pbegin_any _ _ _ _ l a b c L bs3 v3 T3 V B0 B0 w2 HM2.out.1 (HE.out.ext HX2.out).signs HB0.out (HE.out.ext HX2.out).pow HB0.out HL2.out.1 HL2.out.2 HTR.out (by omega) _ HA2.out).mono ?_; rintro e w3 ⟨tv3, bs5, v5, rfl, hT3, hS3, hc3, hy3⟩; obtain ⟨hM3, _, _, hb3, hk3⟩ := mid_row (cv := .slice none 0 0) (base := 0) (n := 0) (xs := []) HM2.out (World.ownsRow_nil _ _ _ _) (rs_nil _ _ _ _) hT3 hS3; have HM3 := Lib.hid hM3; have HX3 := Lib.hid (Ext.of_below (HX2.out.below.trans (hb3.mono HwB.out))); have HC3 : Hid (LvsAt w3 bs5 v5 cT ∧ LvTy w3 bs5 cT) := Lib.hid (And.intro hc3 hy3); have HQ3 := Lib.hid (HQ2.out.kept hk3); have HL3 := Lib.hid (And.intro (HL2.out.1.kept HL2.out.2 hk3) (HL2.out.2.kept hk3)); clear hT3 hS3 hM3 hb3 hk3 hc3 hy3)
      | (refine wpList_store_rowTo rfl 39 _ _ rfl rfl (w3.heap.size) (crC a b c L cg v5 cV) rfl rfl 39 (Tryz.zeroCells39) (heap_alloc_new w3 _) (by kernel_rfl) rfl (crC_one _ _ _ _ _ _ _ HC3.out.1.one) ?_))
    obtain ⟨W3, hW3⟩ : ∃ W3, (w3.alloc (.cells (Tryz.zeroCells39) 39)).setRow w3.heap.size (crC a b c L cg v5 cV) = W3 := ⟨_, rfl⟩
    show Code.wp _ _ _ _ ((w3.alloc (.cells (Tryz.zeroCells39) 39)).setRow w3.heap.size (crC a b c L cg v5 cV))
    rw [hW3]
    have frW3 := fresh_row w3 (Tryz.zeroCells39) (crC a b c L cg v5 cV) 39
    rw [hW3] at frW3
    clear hW3
    obtain ⟨M5, hM5⟩ : ∃ M5, w3.heap.size = M5 := ⟨_, rfl⟩
    have hgeM5 : w3.heap.size ≤ M5 := Nat.le_of_eq hM5
    rw [hM5] at frW3 ⊢
    have HKW3 : Hid (CrBlk W3 M5 a b c L cg v5 cV) := Lib.hid frW3.1
    have HQW3 := Lib.hid (HQ3.out.ext frW3.2)
    have HLW3 := Lib.hid (And.intro (HL3.out.1.ext frW3.2) (HL3.out.2.ext frW3.2))
    have HCW3 := Lib.hid (And.intro (HC3.out.1.ext frW3.2) (HC3.out.2.ext frW3.2))
    have HMW3 := Lib.hid (HM3.out.ext frW3.2)
    have HXW3 := Lib.hid (HX3.out.trans frW3.2)
    clear frW3 hM5
    go_upto_region 9 with (first
      | (refine wpList_load_sub rfl 29 _ rfl (N) 20 rfl 32 (cmC tv0 a b c L v3 V (.slice po ps.length co)) (trC v3 V) (0, 0) _ (HQW3.out) Tryz.underlying29 rfl (by kernel_rfl) (cm_tr _ _ _ _ _ _ _ _) ?_)
      | (go_at_call 11; refine (MZ.out _ HLW3.out.1).mono ?_; rintro e w4 ⟨rfl, hx⟩; have HQ4 := Lib.hid (HQW3.out.ext hx); have HK4 := Lib.hid (HKW3.out.ext hx); have HL4 := Lib.hid (And.intro (HLW3.out.1.ext hx) (HLW3.out.2.ext hx)); have HC4 := Lib.hid (And.intro (HCW3.out.1.ext hx) (HCW3.out.2.ext hx)); have HM4 := Lib.hid (HMW3.out.ext hx); have HX4 := Lib.hid (HXW3.out.trans hx); clear hx)
      | (refine wpList_load_sub rfl 25 _ rfl (N) 1 rfl 32 (cmC tv0 a b c L v3 V (.slice po ps.length co)) (mfC a b c L) (0, 0) _ (HQ4.out) Tryz.underlying25 rfl (by kernel_rfl) (cm_mf _ _ _ _ _ _ _ _) ?_)
      | (refine wpList_load_sub rfl 29 _ rfl (N) 20 rfl 32 (cmC tv0 a b c L v3 V (.slice po ps.length co)) (trC v3 V) (0, 0) _ (HQ4.out) Tryz.underlying29 rfl (by kernel_rfl) (cm_tr _ _ _ _ _ _ _ _) ?_)
      | (go_at_call 14; refine (rbegin_any _ _ l a b c L bs3 v3 T3 V w4 (mid_le HM4.out) HM4.out.2.1 (by omega) HL4.out.1 HL4.out.2 HTR.out _ HA2.out).mono ?_; rintro e w5 ⟨lv5, bs7, v7, rfl, ho5, hg5, hkk5, hc5, hy5⟩; obtain ⟨hM5', hb5, hk5⟩ := both_step HM4.out ho5 hg5 hkk5; have HM5 := Lib.hid hM5'; have HX5 := Lib.hid (Ext.of_below (HX4.out.below.trans (hb5.mono HwB.out))); have HD5 : Hid (LvsAt w5 bs7 v7 cT ∧ LvTy w5 bs7 cT) := Lib.hid (And.intro hc5 hy5); have HQ5 := Lib.hid (HQ4.out.kept hk5); have HK5 := Lib.hid (HK4.out.kept hk5); have HC5 := Lib.hid (And.intro (HC4.out.1.kept HC4.out.2 hk5) (HC4.out.2.kept hk5)); clear ho5 hg5 hkk5 hc5 hy5 hM5' hb5 hk5)
      | (refine wpList_store_rowTo rfl 39 _ _ rfl rfl (w5.heap.size) (crC a b c L cg v7 cV) rfl rfl 39 (Tryz.zeroCells39) (heap_alloc_new w5 _) (by kernel_rfl) rfl (crC_one _ _ _ _ _ _ _ HD5.out.1.one) ?_))
    obtain ⟨W5, hW5⟩ : ∃ W5, (w5.alloc (.cells (Tryz.zeroCells39) 39)).setRow w5.heap.size (crC a b c L cg v7 cV) = W5 := ⟨_, rfl⟩
    show Code.wp _ _ _ _ ((w5.alloc (.cells (Tryz.zeroCells39) 39)).setRow w5.heap.size (crC a b c L cg v7 cV))
    rw [hW5]
    have frW5 := fresh_row w5 (Tryz.zeroCells39) (crC a b c L cg v7 cV) 39
    rw [hW5] at frW5
    clear hW5
    obtain ⟨M7, hM7⟩ : ∃ M7, w5.heap.size = M7 := ⟨_, rfl⟩
    have hgeM7 : w5.heap.size ≤ M7 := Nat.le_of_eq hM7
    rw [hM7] at frW5 ⊢
    have HGW5 : Hid (CrBlk W5 M7 a b c L cg v7 cV) := Lib.hid frW5.1
    have HQW5 := Lib.hid (HQ5.out.ext frW5.2)
    have HKW5 := Lib.hid (HK5.out.ext frW5.2)
    have HCW5 := Lib.hid (And.intro (HC5.out.1.ext frW5.2) (HC5.out.2.ext frW5.2))
    have HDW5 := Lib.hid (And.intro (HD5.out.1.ext frW5.2) (HD5.out.2.ext frW5.2))
    have HMW5 := Lib.hid (HM5.out.ext frW5.2)
    have HXW5 := Lib.hid (HX5.out.trans frW5.2)
    clear frW5 hM7
    have h57 : M5 ≠ M7 := by have := lt_of_heap HK5.out; have := hgeM7; omega
    have hM5w : w.heap.size ≤ M5 := Nat.le_trans HX3.out.size hgeM5
    have hM7w : w.heap.size ≤ M7 := Nat.le_trans HX5.out.size hgeM7
    go_wp2_with (first
      | (refine wpList_load_row rfl 39 _ rfl (M5) rfl 39 (crC a b c L cg v5 cV) (0, 0) _ (HKW5.out) Tryz.underlying39 rfl (by kernel_rfl) ?_)
      | (refine wpList_load_row rfl 39 _ rfl (M7) rfl 39 (crC a b c L cg v7 cV) (0, 0) _ (HGW5.out) Tryz.underlying39 rfl (by kernel_rfl) ?_)
      | (go_at_call 12; refine (rsame15_any a b c L cg bs5 bs7 v5 v7 cT cV W5 HCW5.out.1 HDW5.out.1 HSH.out.max).mono ?_; rintro e w6 ⟨rfl, hx⟩; have HQ6 := Lib.hid (HQW5.out.ext hx); have HK6 := Lib.hid (HKW5.out.ext hx); have HG6 := Lib.hid (HGW5.out.ext hx); have HC6 := Lib.hid (And.intro (HCW5.out.1.ext hx) (HCW5.out.2.ext hx)); have HD6 := Lib.hid (And.intro (HDW5.out.1.ext hx) (HDW5.out.2.ext hx)); have HM6 := Lib.hid (HMW5.out.ext hx); have HX6 := Lib.hid (HXW5.out.trans hx); clear hx))
    obtain ⟨B, hB⟩ : ∃ B, W1.heap.size = B := ⟨_, rfl⟩
    rw [hB] at HM6 HB0 HwB
    have HP : Hid (Pk B bt bm N M5 M7 (cmC tv0 a b c L v3 V (.slice po ps.length co)) a b c L w tv3 lv5 l4 l4 cg cT cV bs5 v5 bs7 v7 w6) := Lib.hid ⟨HM6.out, HQ6.out, HK6.out, HC6.out.1, HC6.out.2, HG6.out, HD6.out.1, HD6.out.2, HX6.out⟩
    clear hB HM6 HQ6 HK6 HC6 HG6 HD6
    go_loopw [4, 9] (fun lvv ii wr => ∃ (j : Nat) (tv lv : Value) (l : List ByteArray) (g : Nat → Bool) (Tq : Nat → List It) (Vq : Nat → Int) (bs1 : Nat → Nat) (v1 : Nat → Value) (bs2 : Nat → Nat) (v2 : Nat → Value), lv = lvv ∧ ii = .int .i64 (j : Int) ∧ j ≤ 24 ∧ l.length ≤ 184 + 9 * j ∧ Hid (Pk B bt bm N M5 M7 (cmC tv0 a b c L v3 V (.slice po ps.length co)) a b c L w tv lv l l g Tq Vq bs1 v1 bs2 v2 wr ∧ Short Tq)) (fun _ ii _ => 24 - (intOf ii).toNat)
    case atStart => exact ⟨0, tv3, lv5, l4, cg, cT, cV, bs5, v5, bs7, v7, rfl, rfl, Nat.zero_le _, by omega, Lib.hid ⟨HP.out, HSH.out⟩⟩
    case round =>
      obtain ⟨j, tv, lv, l', g, T', V', bs1, v1, bs2, v2, rfl, rfl, hj, hll, hH⟩ := hrel
      have HPr := Lib.hid hH.out.1
      have HSr := Lib.hid hH.out.2
      clear hH
      have c52 : wr.cell? ⟨N, 52, none⟩ = some (.slice po ps.length co) := cell_of_row wr N 52 _ _ _ HPr.out.cm
      have hgN := lt_of_heap HPr.out.cm
      by_cases hjl : j < ps.length
      case neg =>
        have hjlI : ¬ ((j : Int) < (ps.length : Int)) := by omega
        go_wp2_with (go_at_call 13; refine (AW.out _ HPr.out.ext).mono ?_; rintro e we ⟨rfl, hx⟩; have HXe := Lib.hid (HPr.out.ext.trans hx); clear hx)
        go_ret
        exact ⟨rfl, HXe.out⟩
      have hjlI : (j : Int) < (ps.length : Int) := by omega
      by_cases hj24 : j < 24
      case neg =>
        have hj24I : ¬ ((j : Int) < 24) := by omega
        go_wp2_with (go_at_call 13; refine (AW.out _ HPr.out.ext).mono ?_; rintro e we ⟨rfl, hx⟩; have HXe := Lib.hid (HPr.out.ext.trans hx); clear hx)
        go_ret
        exact ⟨rfl, HXe.out⟩
      have hj24I : (j : Int) < 24 := by omega
      have hj0 : (0 : Int) ≤ (j : Int) := by omega
      obtain ⟨x, hx⟩ : ∃ x, ps[j]? = some x := ⟨_, List.getElem?_eq_getElem hjl⟩
      obtain ⟨hin, pb, poff, rfl, d0, d1, d2⟩ := HPF.out j x hx
      have HIN := Lib.hid hin
      have HPC : Hid (PcAt pb (poff + j * 3) x w) := Lib.hid ⟨d0, d1, d2⟩
      obtain ⟨r, hr⟩ : ∃ r, takeF l' ⟨⟨a, b, c, L⟩, g, T', V'⟩ x.bk x.ver (fewPS x.ts) = r := ⟨_, rfl⟩
      have hw := take_short l' ⟨⟨a, b, c, L⟩, g, T', V'⟩ x.bk x.ver (fewPS x.ts) HSr.out
      rw [hr] at hw
      obtain ⟨ly, ⟨⟨ya, yb, yc, yL⟩, yg, yT, yV⟩, er⟩ := r
      dsimp only at hw
      have HTK := Lib.hid hr
      have HSY := Lib.hid hw.1
      have HMY := Lib.hid hw.2.2
      have hly : ly.length ≤ l'.length + 9 := hw.2.1
      clear hx hin d0 d1 d2 hr hw
      go_upto_region 14 with fail
      go_cut [10, 11] (fun s10 s11 wx => s11 = .int .i64 er ∧ ∃ M10 tv2 bsY vY, s10 = .pointer (some ⟨M10, 0, none⟩) ∧ Hid (Pk B bt bm N M5 M7 (cmC tv0 a b c L v3 V (.slice (some ⟨pb, poff, none⟩) ps.length co)) a b c L w tv2 lv l' ly g T' V' bs1 v1 bs2 v2 wx ∧ Dk M10 (crC ya yb yc yL yg vY yV) bsY vY yT wx ∧ M5 ≠ M10 ∧ M7 ≠ M10))
      case first =>
        have HPd := Lib.hid (HPr.out.mono (W' := wr.drew) (by repeat (first | exact Ext.refl _ | apply Ext.alloc | apply Ext.drew)))
        refine wp_region_held_drew (S := (PkT M5 (crC a b c L g v1 V') N (.slice (some ⟨pb, poff, none⟩) ps.length co) pb (poff + j * 3) x)) (by kernel_rfl) (PkT.of HPC.out HPd.out.ext HPd.out.c1 HPd.out.cm rfl) (fun hS => ?_)
        refine wpAnyH_take (i := 0) (oi := _) (v := .agg (crC a b c L g v1 V')) rfl (by kernel_rfl) (by kernel_rfl) (by kernel_rfl) (fun _ _ _ h => h) (yieldsIf_load_mid (by rfl) _ _ rfl M5 0 rfl (crC a b c L g v1 V').toList _ (fun W hW => row_range hW.1) Tryz.underlying39 rfl (by kernel_rfl)) hS ?_
        (try simp only [Act.put, List.getElem_toArray, List.getElem_cons_succ, List.getElem_cons_zero, List.setIfInBounds_toArray, List.set_cons_zero, List.set_cons_succ])
        refine wpAnyH_take (i := 1) (oi := _) (v := .pointer (some ⟨bt, 0, none⟩)) rfl (by kernel_rfl) (by kernel_rfl) (by kernel_rfl) (fun _ _ _ h => h) (Or.inl ⟨by rfl, fun W hW => by (go_simp <;> rfl)⟩) hS ?_
        (try simp only [Act.put, List.getElem_toArray, List.getElem_cons_succ, List.getElem_cons_zero, List.setIfInBounds_toArray, List.set_cons_zero, List.set_cons_succ])
        refine wpAnyH_take (i := 2) (oi := _) (v := .pointer (some ⟨N, 52, none⟩)) rfl (by kernel_rfl) (by kernel_rfl) (by kernel_rfl) (fun _ _ _ h => h) (Or.inl ⟨by rfl, fun W hW => by (go_simp <;> rfl)⟩) hS ?_
        (try simp only [Act.put, List.getElem_toArray, List.getElem_cons_succ, List.getElem_cons_zero, List.setIfInBounds_toArray, List.set_cons_zero, List.set_cons_succ])
        refine wpAnyH_take (i := 3) (oi := _) (v := (.slice (some ⟨pb, poff, none⟩) ps.length co)) rfl (by kernel_rfl) (by kernel_rfl) (by kernel_rfl) (fun _ _ _ h => h) (Or.inl ⟨by rfl, fun W hW => by (obtain ⟨_, q52, _⟩ := hW; go_simp)⟩) hS ?_
        (try simp only [Act.put, List.getElem_toArray, List.getElem_cons_succ, List.getElem_cons_zero, List.setIfInBounds_toArray, List.set_cons_zero, List.set_cons_succ])
        refine wpAnyH_take (i := 4) (oi := _) (v := .int .i64 (j : Int)) rfl (by kernel_rfl) (by kernel_rfl) (by kernel_rfl) (fun _ _ _ h => h) (Or.inl ⟨by rfl, fun W hW => by (go_simp <;> rfl)⟩) hS ?_
        (try simp only [Act.put, List.getElem_toArray, List.getElem_cons_succ, List.getElem_cons_zero, List.setIfInBounds_toArray, List.set_cons_zero, List.set_cons_succ])
        refine wpAnyH_take (i := 5) (oi := _) (v := .pointer (some ⟨pb, poff + j * 3, none⟩)) rfl (by kernel_rfl) (by kernel_rfl) (by kernel_rfl) (fun _ _ _ h => h) (Or.inl ⟨by rfl, fun W hW => by (go_simp <;> rfl)⟩) hS ?_
        (try simp only [Act.put, List.getElem_toArray, List.getElem_cons_succ, List.getElem_cons_zero, List.setIfInBounds_toArray, List.set_cons_zero, List.set_cons_succ])
        refine wpAnyH_take (i := 6) (oi := _) (v := .agg #[.int .i64 x.bk, .int .i64 x.ver, x.pv]) rfl (by kernel_rfl) (by kernel_rfl) (by kernel_rfl) (fun _ _ _ h => h) (Or.inl ⟨by rfl, fun W hW => by (obtain ⟨_, _, q0, q1, q2⟩ := hW; go_simp)⟩) hS ?_
        (try simp only [Act.put, List.getElem_toArray, List.getElem_cons_succ, List.getElem_cons_zero, List.setIfInBounds_toArray, List.set_cons_zero, List.set_cons_succ])
        refine wpAnyH_ready (rs := [7, 12]) (by kernel_rfl) (by simp) ?_
        refine AllReadyH.cons (o := _) rfl (fun K hK => ?_) (AllReadyH.cons (o := _) rfl (fun K hK => ?_) AllReadyH.nil)
        · rw [if_pos (by rfl)]
          go_simp
          refine (few15_any x.bk x.ver x.pv x.ts _ (HIN.out.1.ext HPd.out.ext) HIN.out.2 trivial).mono ?_
          rintro e V1 ⟨fv, rfl, hf, hxf⟩
          obtain ⟨pf, cf, hfv⟩ := own_sl hf
          subst hfv
          have HF1 := Lib.hid hf
          have HP1 := Lib.hid (HPd.out.mono hxf)
          have hx1 : Ext wr V1 := Ext.trans (by repeat (first | exact Ext.refl _ | apply Ext.alloc | apply Ext.drew)) hxf
          clear hf hxf
          refine hK.out _ _ (PkT.of HPC.out HP1.out.ext HP1.out.c1 HP1.out.cm rfl) (fun hS1 => ?_)
          clear hK K
          (try simp only [Act.put, List.getElem_toArray, List.getElem_cons_succ, List.getElem_cons_zero, List.setIfInBounds_toArray, List.set_cons_zero, List.set_cons_succ])
          refine wpAnyH_ready (rs := [8, 12]) (by kernel_rfl) (by simp) ?_
          refine AllReadyH.cons (o := _) rfl (fun K hK => ?_) (AllReadyH.cons (o := _) rfl (fun K hK => ?_) AllReadyH.nil)
          · rw [if_pos (by rfl)]
            go_simp
            refine (ptake_any _ _ _ _ l' a b c L g bs1 v1 T' V' x.bk x.ver _ _ (fewPS x.ts) B0 B0 _ HP1.out.mid.1 (HE.out.ext HP1.out.ext).signs HB0.out (HE.out.ext HP1.out.ext).pow HB0.out HP1.out.l1 HP1.out.y1 HF1.out (Nat.le_trans (fewPS_len _) (by decide)) (fun s hs => Nat.le_trans (fewPS_sz _ s hs) (by decide)) (by omega) _ HTK.out).mono ?_
            rintro e V2 ⟨tv2, bsY, vY, rfl, hT2, hS2, hy2, hyy2⟩
            have HP2 := Lib.hid (HP1.out.tstep HwB.out hT2 hS2).1
            have HT2 := Lib.hid (And.intro hT2 (And.intro hS2 (And.intro hy2 hyy2)))
            have HKK := Lib.hid (HP1.out.tstep HwB.out hT2 hS2).2
            clear hT2 hS2 hy2 hyy2
            refine hK.out _ _ (PkT.of HPC.out HP2.out.ext HP2.out.c1 HP2.out.cm rfl) (fun hS2 => ?_)
            clear hK K
            (try simp only [Act.put, List.getElem_toArray, List.getElem_cons_succ, List.getElem_cons_zero, List.setIfInBounds_toArray, List.set_cons_zero, List.set_cons_succ])
            refine wpAnyH_take (i := 9) (oi := _) (v := .tuple #[.agg (crC ya yb yc yL yg vY yV), .int .i64 er]) rfl (by kernel_rfl) (by kernel_rfl) (by kernel_rfl) (fun _ _ _ h => h) (Or.inl ⟨by rfl, fun W hW => by (go_simp <;> rfl)⟩) hS2 ?_
            (try simp only [Act.put, List.getElem_toArray, List.getElem_cons_succ, List.getElem_cons_zero, List.setIfInBounds_toArray, List.set_cons_zero, List.set_cons_succ])
            refine wpAnyH_take (i := 10) (oi := _) (v := .agg (crC ya yb yc yL yg vY yV)) rfl (by kernel_rfl) (by kernel_rfl) (by kernel_rfl) (fun _ _ _ h => h) (Or.inl ⟨by rfl, fun W hW => by (go_simp <;> rfl)⟩) hS2 ?_
            (try simp only [Act.put, List.getElem_toArray, List.getElem_cons_succ, List.getElem_cons_zero, List.setIfInBounds_toArray, List.set_cons_zero, List.set_cons_succ])
            refine wpAnyH_take (i := 11) (oi := _) (v := .int .i64 er) rfl (by kernel_rfl) (by kernel_rfl) (by kernel_rfl) (fun _ _ _ h => h) (Or.inl ⟨by rfl, fun W hW => by (go_simp <;> rfl)⟩) hS2 ?_
            (try simp only [Act.put, List.getElem_toArray, List.getElem_cons_succ, List.getElem_cons_zero, List.setIfInBounds_toArray, List.set_cons_zero, List.set_cons_succ])
            refine wpAnyH_ready (rs := [12]) (by kernel_rfl) (by simp) ?_
            refine AllReadyH.cons (o := _) rfl (fun K hK => ?_) AllReadyH.nil
            rw [if_pos (by rfl)]
            go_simp
            have HP3 := Lib.hid (HP2.out.mono (W' := (V2.alloc (.cells Tryz.zeroCells39 39))) (by repeat (first | exact Ext.refl _ | apply Ext.alloc | apply Ext.drew)))
            refine hK.out _ _ (PkT.of HPC.out HP3.out.ext HP3.out.c1 HP3.out.cm rfl) (fun hS3 => ?_)
            clear hK K
            (try simp only [Act.put, List.getElem_toArray, List.getElem_cons_succ, List.getElem_cons_zero, List.setIfInBounds_toArray, List.set_cons_zero, List.set_cons_succ])
            have hsz : V1.heap.size ≤ V2.heap.size := (HT2.out.2.1.below HP1.out.mid.1).size
            have HFIN := Lib.hid (HPr.out.take1 HwB.out hx1 HT2.out.1 HT2.out.2.1 HT2.out.2.2.1 HT2.out.2.2.2 (W3 := (V2.alloc (.cells Tryz.zeroCells39 39))) ((Ext.refl V2).alloc _) (M2 := V2.heap.size) (Nat.le_trans hx1.size hsz) (heap_alloc_new V2 _) (crC ya yb yc yL yg vY yV))
            refine wpAnyH_ready (rs := [13]) (by kernel_rfl) (by simp) ?_
            refine AllReadyH.cons (o := _) rfl (fun K hK => ?_) AllReadyH.nil
            rw [if_pos (by rfl)]
            refine wp_store_row 39 _ _ rfl (V2.heap.size) (crC ya yb yc yL yg vY yV) rfl rfl 39 (Tryz.zeroCells39) (heap_alloc_new V2 _) (by kernel_rfl) rfl (crC_one _ _ _ _ _ _ _ HT2.out.2.2.1.one) ?_
            refine hK.out _ _ (PkT.of HPC.out HFIN.out.1.ext HFIN.out.1.c1 HFIN.out.1.cm rfl) (fun hSz => ?_)
            clear hK K
            (try simp only [Act.put, List.getElem_toArray, List.getElem_cons_succ, List.getElem_cons_zero, List.setIfInBounds_toArray, List.set_cons_zero, List.set_cons_succ])
            refine wpAnyH_take (i := 14) (oi := _) (v := .int .i64 er) rfl (by kernel_rfl) (by kernel_rfl) (by kernel_rfl) (fun _ _ _ h => h) (Or.inl ⟨by rfl, fun W hW => by (go_simp <;> rfl)⟩) hSz ?_
            (try simp only [Act.put, List.getElem_toArray, List.getElem_cons_succ, List.getElem_cons_zero, List.setIfInBounds_toArray, List.set_cons_zero, List.set_cons_succ])
            refine wpAnyH_done (by kernel_rfl) ?_ _
            go_wp2_with fail
            go_meet
            exact ⟨rfl, _, tv2, bsY, vY, rfl, Lib.hid ⟨HFIN.out.1, HFIN.out.2.1, HFIN.out.2.2.1, HFIN.out.2.2.2⟩⟩
          · rw [if_pos (by rfl)]
            go_simp
            have HP3 := Lib.hid (HP1.out.mono (W' := (V1.alloc (.cells Tryz.zeroCells39 39))) (by repeat (first | exact Ext.refl _ | apply Ext.alloc | apply Ext.drew)))
            refine hK.out _ _ (PkT.of HPC.out HP3.out.ext HP3.out.c1 HP3.out.cm rfl) (fun hS3 => ?_)
            clear hK K
            (try simp only [Act.put, List.getElem_toArray, List.getElem_cons_succ, List.getElem_cons_zero, List.setIfInBounds_toArray, List.set_cons_zero, List.set_cons_succ])
            refine wpAnyH_ready (rs := [8]) (by kernel_rfl) (by simp) ?_
            refine AllReadyH.cons (o := _) rfl (fun K hK => ?_) AllReadyH.nil
            rw [if_pos (by rfl)]
            go_simp
            refine (ptake_any _ _ _ _ l' a b c L g bs1 v1 T' V' x.bk x.ver _ _ (fewPS x.ts) B0 B0 _ HP3.out.mid.1 (HE.out.ext HP3.out.ext).signs HB0.out (HE.out.ext HP3.out.ext).pow HB0.out HP3.out.l1 HP3.out.y1 (own_ext HF1.out ((Ext.refl V1).alloc _)) (Nat.le_trans (fewPS_len _) (by decide)) (fun s hs => Nat.le_trans (fewPS_sz _ s hs) (by decide)) (by omega) _ HTK.out).mono ?_
            rintro e V2 ⟨tv2, bsY, vY, rfl, hT2, hS2, hy2, hyy2⟩
            have HP2 := Lib.hid (HP3.out.tstep HwB.out hT2 hS2).1
            have HT2 := Lib.hid (And.intro hT2 (And.intro hS2 (And.intro hy2 hyy2)))
            have HKK := Lib.hid (HP3.out.tstep HwB.out hT2 hS2).2
            clear hT2 hS2 hy2 hyy2
            refine hK.out _ _ (PkT.of HPC.out HP2.out.ext HP2.out.c1 HP2.out.cm rfl) (fun hS2 => ?_)
            clear hK K
            (try simp only [Act.put, List.getElem_toArray, List.getElem_cons_succ, List.getElem_cons_zero, List.setIfInBounds_toArray, List.set_cons_zero, List.set_cons_succ])
            refine wpAnyH_take (i := 9) (oi := _) (v := .tuple #[.agg (crC ya yb yc yL yg vY yV), .int .i64 er]) rfl (by kernel_rfl) (by kernel_rfl) (by kernel_rfl) (fun _ _ _ h => h) (Or.inl ⟨by rfl, fun W hW => by (go_simp <;> rfl)⟩) hS2 ?_
            (try simp only [Act.put, List.getElem_toArray, List.getElem_cons_succ, List.getElem_cons_zero, List.setIfInBounds_toArray, List.set_cons_zero, List.set_cons_succ])
            refine wpAnyH_take (i := 10) (oi := _) (v := .agg (crC ya yb yc yL yg vY yV)) rfl (by kernel_rfl) (by kernel_rfl) (by kernel_rfl) (fun _ _ _ h => h) (Or.inl ⟨by rfl, fun W hW => by (go_simp <;> rfl)⟩) hS2 ?_
            (try simp only [Act.put, List.getElem_toArray, List.getElem_cons_succ, List.getElem_cons_zero, List.setIfInBounds_toArray, List.set_cons_zero, List.set_cons_succ])
            refine wpAnyH_take (i := 11) (oi := _) (v := .int .i64 er) rfl (by kernel_rfl) (by kernel_rfl) (by kernel_rfl) (fun _ _ _ h => h) (Or.inl ⟨by rfl, fun W hW => by (go_simp <;> rfl)⟩) hS2 ?_
            (try simp only [Act.put, List.getElem_toArray, List.getElem_cons_succ, List.getElem_cons_zero, List.setIfInBounds_toArray, List.set_cons_zero, List.set_cons_succ])
            have HFIN := Lib.hid (HPr.out.take1 HwB.out (hx1.alloc (.cells Tryz.zeroCells39 39)) HT2.out.1 HT2.out.2.1 HT2.out.2.2.1 HT2.out.2.2.2 (W3 := V2) (Ext.refl V2) (M2 := V1.heap.size) hx1.size (blk_kept (heap_alloc_new V1 (.cells Tryz.zeroCells39 39)) HKK.out (by decide) (by decide)) (crC ya yb yc yL yg vY yV))
            refine wpAnyH_ready (rs := [13]) (by kernel_rfl) (by simp) ?_
            refine AllReadyH.cons (o := _) rfl (fun K hK => ?_) AllReadyH.nil
            rw [if_pos (by rfl)]
            refine wp_store_row 39 _ _ rfl (V1.heap.size) (crC ya yb yc yL yg vY yV) rfl rfl 39 (Tryz.zeroCells39) (blk_kept (heap_alloc_new V1 (.cells Tryz.zeroCells39 39)) HKK.out (by decide) (by decide)) (by kernel_rfl) rfl (crC_one _ _ _ _ _ _ _ HT2.out.2.2.1.one) ?_
            refine hK.out _ _ (PkT.of HPC.out HFIN.out.1.ext HFIN.out.1.c1 HFIN.out.1.cm rfl) (fun hSz => ?_)
            clear hK K
            (try simp only [Act.put, List.getElem_toArray, List.getElem_cons_succ, List.getElem_cons_zero, List.setIfInBounds_toArray, List.set_cons_zero, List.set_cons_succ])
            refine wpAnyH_take (i := 14) (oi := _) (v := .int .i64 er) rfl (by kernel_rfl) (by kernel_rfl) (by kernel_rfl) (fun _ _ _ h => h) (Or.inl ⟨by rfl, fun W hW => by (go_simp <;> rfl)⟩) hSz ?_
            (try simp only [Act.put, List.getElem_toArray, List.getElem_cons_succ, List.getElem_cons_zero, List.setIfInBounds_toArray, List.set_cons_zero, List.set_cons_succ])
            refine wpAnyH_done (by kernel_rfl) ?_ _
            go_wp2_with fail
            go_meet
            exact ⟨rfl, _, tv2, bsY, vY, rfl, Lib.hid ⟨HFIN.out.1, HFIN.out.2.1, HFIN.out.2.2.1, HFIN.out.2.2.2⟩⟩
        · rw [if_pos (by rfl)]
          go_simp
          have HP0 := Lib.hid (HPr.out.mono (W' := (wr.alloc (.cells Tryz.zeroCells39 39)).drew) (by repeat (first | exact Ext.refl _ | apply Ext.alloc | apply Ext.drew)))
          refine hK.out _ _ (PkT.of HPC.out HP0.out.ext HP0.out.c1 HP0.out.cm rfl) (fun hS0 => ?_)
          clear hK K
          (try simp only [Act.put, List.getElem_toArray, List.getElem_cons_succ, List.getElem_cons_zero, List.setIfInBounds_toArray, List.set_cons_zero, List.set_cons_succ])
          refine wpAnyH_ready (rs := [7]) (by kernel_rfl) (by simp) ?_
          refine AllReadyH.cons (o := _) rfl (fun K hK => ?_) AllReadyH.nil
          rw [if_pos (by rfl)]
          go_simp
          refine (few15_any x.bk x.ver x.pv x.ts _ (HIN.out.1.ext HP0.out.ext) HIN.out.2 trivial).mono ?_
          rintro e V1 ⟨fv, rfl, hf, hxf⟩
          obtain ⟨pf, cf, hfv⟩ := own_sl hf
          subst hfv
          have HF1 := Lib.hid hf
          have HP1 := Lib.hid (HP0.out.mono hxf)
          have hx1 : Ext wr V1 := Ext.trans (by repeat (first | exact Ext.refl _ | apply Ext.alloc | apply Ext.drew)) hxf
          have hx9 : Ext (wr.alloc (.cells Tryz.zeroCells39 39)).drew V1 := hxf
          clear hf hxf
          refine hK.out _ _ (PkT.of HPC.out HP1.out.ext HP1.out.c1 HP1.out.cm rfl) (fun hS1 => ?_)
          clear hK K
          (try simp only [Act.put, List.getElem_toArray, List.getElem_cons_succ, List.getElem_cons_zero, List.setIfInBounds_toArray, List.set_cons_zero, List.set_cons_succ])
          refine wpAnyH_ready (rs := [8]) (by kernel_rfl) (by simp) ?_
          refine AllReadyH.cons (o := _) rfl (fun K hK => ?_) AllReadyH.nil
          rw [if_pos (by rfl)]
          go_simp
          refine (ptake_any _ _ _ _ l' a b c L g bs1 v1 T' V' x.bk x.ver _ _ (fewPS x.ts) B0 B0 _ HP1.out.mid.1 (HE.out.ext HP1.out.ext).signs HB0.out (HE.out.ext HP1.out.ext).pow HB0.out HP1.out.l1 HP1.out.y1 HF1.out (Nat.le_trans (fewPS_len _) (by decide)) (fun s hs => Nat.le_trans (fewPS_sz _ s hs) (by decide)) (by omega) _ HTK.out).mono ?_
          rintro e V2 ⟨tv2, bsY, vY, rfl, hT2, hS2, hy2, hyy2⟩
          have HP2 := Lib.hid (HP1.out.tstep HwB.out hT2 hS2).1
          have HT2 := Lib.hid (And.intro hT2 (And.intro hS2 (And.intro hy2 hyy2)))
          have HKK := Lib.hid (HP1.out.tstep HwB.out hT2 hS2).2
          clear hT2 hS2 hy2 hyy2
          refine hK.out _ _ (PkT.of HPC.out HP2.out.ext HP2.out.c1 HP2.out.cm rfl) (fun hS2 => ?_)
          clear hK K
          (try simp only [Act.put, List.getElem_toArray, List.getElem_cons_succ, List.getElem_cons_zero, List.setIfInBounds_toArray, List.set_cons_zero, List.set_cons_succ])
          refine wpAnyH_take (i := 9) (oi := _) (v := .tuple #[.agg (crC ya yb yc yL yg vY yV), .int .i64 er]) rfl (by kernel_rfl) (by kernel_rfl) (by kernel_rfl) (fun _ _ _ h => h) (Or.inl ⟨by rfl, fun W hW => by (go_simp <;> rfl)⟩) hS2 ?_
          (try simp only [Act.put, List.getElem_toArray, List.getElem_cons_succ, List.getElem_cons_zero, List.setIfInBounds_toArray, List.set_cons_zero, List.set_cons_succ])
          refine wpAnyH_take (i := 10) (oi := _) (v := .agg (crC ya yb yc yL yg vY yV)) rfl (by kernel_rfl) (by kernel_rfl) (by kernel_rfl) (fun _ _ _ h => h) (Or.inl ⟨by rfl, fun W hW => by (go_simp <;> rfl)⟩) hS2 ?_
          (try simp only [Act.put, List.getElem_toArray, List.getElem_cons_succ, List.getElem_cons_zero, List.setIfInBounds_toArray, List.set_cons_zero, List.set_cons_succ])
          refine wpAnyH_take (i := 11) (oi := _) (v := .int .i64 er) rfl (by kernel_rfl) (by kernel_rfl) (by kernel_rfl) (fun _ _ _ h => h) (Or.inl ⟨by rfl, fun W hW => by (go_simp <;> rfl)⟩) hS2 ?_
          (try simp only [Act.put, List.getElem_toArray, List.getElem_cons_succ, List.getElem_cons_zero, List.setIfInBounds_toArray, List.set_cons_zero, List.set_cons_succ])
          have HFIN := Lib.hid (HPr.out.take1 HwB.out hx1 HT2.out.1 HT2.out.2.1 HT2.out.2.2.1 HT2.out.2.2.2 (W3 := V2) (Ext.refl V2) (M2 := wr.heap.size) (Nat.le_refl _) (blk_kept (blk_ext (show (wr.alloc (.cells Tryz.zeroCells39 39)).drew.heap[wr.heap.size]? = _ from heap_alloc_new wr _) hx9) HKK.out (by decide) (by decide)) (crC ya yb yc yL yg vY yV))
          refine wpAnyH_ready (rs := [13]) (by kernel_rfl) (by simp) ?_
          refine AllReadyH.cons (o := _) rfl (fun K hK => ?_) AllReadyH.nil
          rw [if_pos (by rfl)]
          refine wp_store_row 39 _ _ rfl (wr.heap.size) (crC ya yb yc yL yg vY yV) rfl rfl 39 (Tryz.zeroCells39) (blk_kept (blk_ext (show (wr.alloc (.cells Tryz.zeroCells39 39)).drew.heap[wr.heap.size]? = _ from heap_alloc_new wr _) hx9) HKK.out (by decide) (by decide)) (by kernel_rfl) rfl (crC_one _ _ _ _ _ _ _ HT2.out.2.2.1.one) ?_
          refine hK.out _ _ (PkT.of HPC.out HFIN.out.1.ext HFIN.out.1.c1 HFIN.out.1.cm rfl) (fun hSz => ?_)
          clear hK K
          (try simp only [Act.put, List.getElem_toArray, List.getElem_cons_succ, List.getElem_cons_zero, List.setIfInBounds_toArray, List.set_cons_zero, List.set_cons_succ])
          refine wpAnyH_take (i := 14) (oi := _) (v := .int .i64 er) rfl (by kernel_rfl) (by kernel_rfl) (by kernel_rfl) (fun _ _ _ h => h) (Or.inl ⟨by rfl, fun W hW => by (go_simp <;> rfl)⟩) hSz ?_
          (try simp only [Act.put, List.getElem_toArray, List.getElem_cons_succ, List.getElem_cons_zero, List.setIfInBounds_toArray, List.set_cons_zero, List.set_cons_succ])
          refine wpAnyH_done (by kernel_rfl) ?_ _
          go_wp2_with fail
          go_meet
          exact ⟨rfl, _, tv2, bsY, vY, rfl, Lib.hid ⟨HFIN.out.1, HFIN.out.2.1, HFIN.out.2.2.1, HFIN.out.2.2.2⟩⟩
      case rest =>
        obtain ⟨rfl, M10, tvq, bsY, vY, rfl, hc⟩ := hcut
        have HPq := Lib.hid hc.out.1
        have HDq := Lib.hid hc.out.2.1
        have hn5 := hc.out.2.2.1
        have hn7 := hc.out.2.2.2
        clear hc
        obtain ⟨wq, hwq⟩ : ∃ wq, wc = wq := ⟨_, rfl⟩
        rw [hwq] at HPq HDq ⊢
        clear hwq
        go_upto_region 15 with fail
        go_cut [12, 13, 14] (fun s12 s13 s14 wx => s14 = .int .i64 er ∧ ∃ lvz M13 bsZ vZ, lvz = s12 ∧ s13 = .pointer (some ⟨M13, 0, none⟩) ∧ Hid (Pk B bt bm N M5 M7 (cmC tv0 a b c L v3 V (.slice (some ⟨pb, poff, none⟩) ps.length co)) a b c L w tvq lvz ly ly g T' V' bs1 v1 bs2 v2 wx ∧ Dk M10 (crC ya yb yc yL yg vY yV) bsY vY yT wx ∧ Dk M13 (crC ya yb yc yL yg vZ yV) bsZ vZ yT wx ∧ M5 ≠ M13 ∧ M7 ≠ M13 ∧ M10 ≠ M13))
        case first =>
          have HPd := Lib.hid (HPq.out.mono (W' := wq.drew) (by repeat (first | exact Ext.refl _ | apply Ext.alloc | apply Ext.drew)))
          refine wp_region_held_drew (S := (PkT M7 (crC a b c L g v2 V') N (.slice (some ⟨pb, poff, none⟩) ps.length co) pb (poff + j * 3) x)) (by kernel_rfl) (PkT.of HPC.out HPd.out.ext HPd.out.c2 HPd.out.cm rfl) (fun hS => ?_)
          refine wpAnyH_take (i := 0) (oi := _) (v := lv) rfl (by kernel_rfl) (by kernel_rfl) (by kernel_rfl) (fun _ _ _ h => h) (Or.inl ⟨by rfl, fun W hW => by (go_simp <;> rfl)⟩) hS ?_
          (try simp only [Act.put, List.getElem_toArray, List.getElem_cons_succ, List.getElem_cons_zero, List.setIfInBounds_toArray, List.set_cons_zero, List.set_cons_succ])
          refine wpAnyH_take (i := 1) (oi := _) (v := .agg (crC a b c L g v2 V')) rfl (by kernel_rfl) (by kernel_rfl) (by kernel_rfl) (fun _ _ _ h => h) (yieldsIf_load_mid (by rfl) _ _ rfl M7 0 rfl (crC a b c L g v2 V').toList _ (fun W hW => row_range hW.1) Tryz.underlying39 rfl (by kernel_rfl)) hS ?_
          (try simp only [Act.put, List.getElem_toArray, List.getElem_cons_succ, List.getElem_cons_zero, List.setIfInBounds_toArray, List.set_cons_zero, List.set_cons_succ])
          refine wpAnyH_take (i := 2) (oi := _) (v := .pointer (some ⟨N, 52, none⟩)) rfl (by kernel_rfl) (by kernel_rfl) (by kernel_rfl) (fun _ _ _ h => h) (Or.inl ⟨by rfl, fun W hW => by (go_simp <;> rfl)⟩) hS ?_
          (try simp only [Act.put, List.getElem_toArray, List.getElem_cons_succ, List.getElem_cons_zero, List.setIfInBounds_toArray, List.set_cons_zero, List.set_cons_succ])
          refine wpAnyH_take (i := 3) (oi := _) (v := (.slice (some ⟨pb, poff, none⟩) ps.length co)) rfl (by kernel_rfl) (by kernel_rfl) (by kernel_rfl) (fun _ _ _ h => h) (Or.inl ⟨by rfl, fun W hW => by (obtain ⟨_, q52, _⟩ := hW; go_simp)⟩) hS ?_
          (try simp only [Act.put, List.getElem_toArray, List.getElem_cons_succ, List.getElem_cons_zero, List.setIfInBounds_toArray, List.set_cons_zero, List.set_cons_succ])
          refine wpAnyH_take (i := 4) (oi := _) (v := .int .i64 (j : Int)) rfl (by kernel_rfl) (by kernel_rfl) (by kernel_rfl) (fun _ _ _ h => h) (Or.inl ⟨by rfl, fun W hW => by (go_simp <;> rfl)⟩) hS ?_
          (try simp only [Act.put, List.getElem_toArray, List.getElem_cons_succ, List.getElem_cons_zero, List.setIfInBounds_toArray, List.set_cons_zero, List.set_cons_succ])
          refine wpAnyH_take (i := 5) (oi := _) (v := .pointer (some ⟨pb, poff + j * 3, none⟩)) rfl (by kernel_rfl) (by kernel_rfl) (by kernel_rfl) (fun _ _ _ h => h) (Or.inl ⟨by rfl, fun W hW => by (go_simp <;> rfl)⟩) hS ?_
          (try simp only [Act.put, List.getElem_toArray, List.getElem_cons_succ, List.getElem_cons_zero, List.setIfInBounds_toArray, List.set_cons_zero, List.set_cons_succ])
          refine wpAnyH_take (i := 6) (oi := _) (v := .agg #[.int .i64 x.bk, .int .i64 x.ver, x.pv]) rfl (by kernel_rfl) (by kernel_rfl) (by kernel_rfl) (fun _ _ _ h => h) (Or.inl ⟨by rfl, fun W hW => by (obtain ⟨_, _, q0, q1, q2⟩ := hW; go_simp)⟩) hS ?_
          (try simp only [Act.put, List.getElem_toArray, List.getElem_cons_succ, List.getElem_cons_zero, List.setIfInBounds_toArray, List.set_cons_zero, List.set_cons_succ])
          refine wpAnyH_ready (rs := [7, 13]) (by kernel_rfl) (by simp) ?_
          refine AllReadyH.cons (o := _) rfl (fun K hK => ?_) (AllReadyH.cons (o := _) rfl (fun K hK => ?_) AllReadyH.nil)
          · rw [if_pos (by rfl)]
            go_simp
            refine (few15_any x.bk x.ver x.pv x.ts _ (HIN.out.1.ext HPd.out.ext) HIN.out.2 trivial).mono ?_
            rintro e V1 ⟨fv, rfl, hf, hxf⟩
            obtain ⟨pf, cf, hfv⟩ := own_sl hf
            subst hfv
            have HF1 := Lib.hid hf
            have HP1 := Lib.hid (HPd.out.mono hxf)
            have hx1 : Ext wq V1 := Ext.trans (by repeat (first | exact Ext.refl _ | apply Ext.alloc | apply Ext.drew)) hxf
            clear hf hxf
            refine hK.out _ _ (PkT.of HPC.out HP1.out.ext HP1.out.c2 HP1.out.cm rfl) (fun hS1 => ?_)
            clear hK K
            (try simp only [Act.put, List.getElem_toArray, List.getElem_cons_succ, List.getElem_cons_zero, List.setIfInBounds_toArray, List.set_cons_zero, List.set_cons_succ])
            refine wpAnyH_ready (rs := [8, 13]) (by kernel_rfl) (by simp) ?_
            refine AllReadyH.cons (o := _) rfl (fun K hK => ?_) (AllReadyH.cons (o := _) rfl (fun K hK => ?_) AllReadyH.nil)
            · rw [if_pos (by rfl)]
              go_simp
              refine (rtake_any _ _ l' a b c L g bs2 v2 T' V' x.bk x.ver _ _ (fewPS x.ts) _ (mid_le HP1.out.mid) HP1.out.mid.2.1 HP1.out.l2 HP1.out.y2 HSr.out.max HF1.out (Nat.le_trans (fewPS_len _) (by decide)) (fun s hs => Nat.le_trans (fewPS_sz _ s hs) (by decide)) (by omega) _ HTK.out).mono ?_
              rintro e V2 ⟨lvz, bsZ, vZ, rfl, ho2, hg2, hkk2, hy2, hyy2⟩
              have HP2 := Lib.hid (HP1.out.lstep HwB.out ho2 hg2 hkk2).1
              have HT2 := Lib.hid (And.intro ho2 (And.intro hg2 (And.intro hkk2 (And.intro hy2 hyy2))))
              have HKK := Lib.hid (HP1.out.lstep HwB.out ho2 hg2 hkk2).2
              clear ho2 hg2 hkk2 hy2 hyy2
              refine hK.out _ _ (PkT.of HPC.out HP2.out.ext HP2.out.c2 HP2.out.cm rfl) (fun hS2 => ?_)
              clear hK K
              (try simp only [Act.put, List.getElem_toArray, List.getElem_cons_succ, List.getElem_cons_zero, List.setIfInBounds_toArray, List.set_cons_zero, List.set_cons_succ])
              refine wpAnyH_take (i := 9) (oi := _) (v := .tuple #[lvz, .agg (crC ya yb yc yL yg vZ yV), .int .i64 er]) rfl (by kernel_rfl) (by kernel_rfl) (by kernel_rfl) (fun _ _ _ h => h) (Or.inl ⟨by rfl, fun W hW => by (go_simp <;> rfl)⟩) hS2 ?_
              (try simp only [Act.put, List.getElem_toArray, List.getElem_cons_succ, List.getElem_cons_zero, List.setIfInBounds_toArray, List.set_cons_zero, List.set_cons_succ])
              refine wpAnyH_take (i := 10) (oi := _) (v := lvz) rfl (by kernel_rfl) (by kernel_rfl) (by kernel_rfl) (fun _ _ _ h => h) (Or.inl ⟨by rfl, fun W hW => by (go_simp <;> rfl)⟩) hS2 ?_
              (try simp only [Act.put, List.getElem_toArray, List.getElem_cons_succ, List.getElem_cons_zero, List.setIfInBounds_toArray, List.set_cons_zero, List.set_cons_succ])
              refine wpAnyH_take (i := 11) (oi := _) (v := .agg (crC ya yb yc yL yg vZ yV)) rfl (by kernel_rfl) (by kernel_rfl) (by kernel_rfl) (fun _ _ _ h => h) (Or.inl ⟨by rfl, fun W hW => by (go_simp <;> rfl)⟩) hS2 ?_
              (try simp only [Act.put, List.getElem_toArray, List.getElem_cons_succ, List.getElem_cons_zero, List.setIfInBounds_toArray, List.set_cons_zero, List.set_cons_succ])
              refine wpAnyH_take (i := 12) (oi := _) (v := .int .i64 er) rfl (by kernel_rfl) (by kernel_rfl) (by kernel_rfl) (fun _ _ _ h => h) (Or.inl ⟨by rfl, fun W hW => by (go_simp <;> rfl)⟩) hS2 ?_
              (try simp only [Act.put, List.getElem_toArray, List.getElem_cons_succ, List.getElem_cons_zero, List.setIfInBounds_toArray, List.set_cons_zero, List.set_cons_succ])
              refine wpAnyH_ready (rs := [13]) (by kernel_rfl) (by simp) ?_
              refine AllReadyH.cons (o := _) rfl (fun K hK => ?_) AllReadyH.nil
              rw [if_pos (by rfl)]
              go_simp
              have HP3 := Lib.hid (HP2.out.mono (W' := (V2.alloc (.cells Tryz.zeroCells39 39))) (by repeat (first | exact Ext.refl _ | apply Ext.alloc | apply Ext.drew)))
              refine hK.out _ _ (PkT.of HPC.out HP3.out.ext HP3.out.c2 HP3.out.cm rfl) (fun hS3 => ?_)
              clear hK K
              (try simp only [Act.put, List.getElem_toArray, List.getElem_cons_succ, List.getElem_cons_zero, List.setIfInBounds_toArray, List.set_cons_zero, List.set_cons_succ])
              have hsz : V1.heap.size ≤ V2.heap.size := (HT2.out.2.1.size)
              have HFIN := Lib.hid (HPq.out.take2 HwB.out hx1 HT2.out.1 HT2.out.2.1 HT2.out.2.2.1 HT2.out.2.2.2.1 HT2.out.2.2.2.2 (W3 := (V2.alloc (.cells Tryz.zeroCells39 39))) ((Ext.refl V2).alloc _) (M2 := V2.heap.size) (Nat.le_trans hx1.size hsz) (heap_alloc_new V2 _) (crC ya yb yc yL yg vZ yV) HDq.out)
              refine wpAnyH_take (i := 14) (oi := _) (v := lvz) rfl (by kernel_rfl) (by kernel_rfl) (by kernel_rfl) (fun _ _ _ h => h) (Or.inl ⟨by rfl, fun W hW => by (go_simp <;> rfl)⟩) hS3 ?_
              (try simp only [Act.put, List.getElem_toArray, List.getElem_cons_succ, List.getElem_cons_zero, List.setIfInBounds_toArray, List.set_cons_zero, List.set_cons_succ])
              refine wpAnyH_ready (rs := [15]) (by kernel_rfl) (by simp) ?_
              refine AllReadyH.cons (o := _) rfl (fun K hK => ?_) AllReadyH.nil
              rw [if_pos (by rfl)]
              refine wp_store_row 39 _ _ rfl (V2.heap.size) (crC ya yb yc yL yg vZ yV) rfl rfl 39 (Tryz.zeroCells39) (heap_alloc_new V2 _) (by kernel_rfl) rfl (crC_one _ _ _ _ _ _ _ HT2.out.2.2.2.1.one) ?_
              refine hK.out _ _ (PkT.of HPC.out HFIN.out.1.ext HFIN.out.1.c2 HFIN.out.1.cm rfl) (fun hSz => ?_)
              clear hK K
              (try simp only [Act.put, List.getElem_toArray, List.getElem_cons_succ, List.getElem_cons_zero, List.setIfInBounds_toArray, List.set_cons_zero, List.set_cons_succ])
              refine wpAnyH_take (i := 16) (oi := _) (v := .int .i64 er) rfl (by kernel_rfl) (by kernel_rfl) (by kernel_rfl) (fun _ _ _ h => h) (Or.inl ⟨by rfl, fun W hW => by (go_simp <;> rfl)⟩) hSz ?_
              (try simp only [Act.put, List.getElem_toArray, List.getElem_cons_succ, List.getElem_cons_zero, List.setIfInBounds_toArray, List.set_cons_zero, List.set_cons_succ])
              refine wpAnyH_done (by kernel_rfl) ?_ _
              go_wp2_with fail
              go_meet
              exact ⟨rfl, lvz, _, bsZ, vZ, rfl, rfl, Lib.hid ⟨HFIN.out.1, HFIN.out.2.2.1, HFIN.out.2.1, HFIN.out.2.2.2.1, HFIN.out.2.2.2.2.1, HFIN.out.2.2.2.2.2⟩⟩
            · rw [if_pos (by rfl)]
              go_simp
              have HP3 := Lib.hid (HP1.out.mono (W' := (V1.alloc (.cells Tryz.zeroCells39 39))) (by repeat (first | exact Ext.refl _ | apply Ext.alloc | apply Ext.drew)))
              refine hK.out _ _ (PkT.of HPC.out HP3.out.ext HP3.out.c2 HP3.out.cm rfl) (fun hS3 => ?_)
              clear hK K
              (try simp only [Act.put, List.getElem_toArray, List.getElem_cons_succ, List.getElem_cons_zero, List.setIfInBounds_toArray, List.set_cons_zero, List.set_cons_succ])
              refine wpAnyH_ready (rs := [8]) (by kernel_rfl) (by simp) ?_
              refine AllReadyH.cons (o := _) rfl (fun K hK => ?_) AllReadyH.nil
              rw [if_pos (by rfl)]
              go_simp
              refine (rtake_any _ _ l' a b c L g bs2 v2 T' V' x.bk x.ver _ _ (fewPS x.ts) _ (mid_le HP3.out.mid) HP3.out.mid.2.1 HP3.out.l2 HP3.out.y2 HSr.out.max (own_ext HF1.out ((Ext.refl V1).alloc _)) (Nat.le_trans (fewPS_len _) (by decide)) (fun s hs => Nat.le_trans (fewPS_sz _ s hs) (by decide)) (by omega) _ HTK.out).mono ?_
              rintro e V2 ⟨lvz, bsZ, vZ, rfl, ho2, hg2, hkk2, hy2, hyy2⟩
              have HP2 := Lib.hid (HP3.out.lstep HwB.out ho2 hg2 hkk2).1
              have HT2 := Lib.hid (And.intro ho2 (And.intro hg2 (And.intro hkk2 (And.intro hy2 hyy2))))
              have HKK := Lib.hid (HP3.out.lstep HwB.out ho2 hg2 hkk2).2
              clear ho2 hg2 hkk2 hy2 hyy2
              refine hK.out _ _ (PkT.of HPC.out HP2.out.ext HP2.out.c2 HP2.out.cm rfl) (fun hS2 => ?_)
              clear hK K
              (try simp only [Act.put, List.getElem_toArray, List.getElem_cons_succ, List.getElem_cons_zero, List.setIfInBounds_toArray, List.set_cons_zero, List.set_cons_succ])
              refine wpAnyH_take (i := 9) (oi := _) (v := .tuple #[lvz, .agg (crC ya yb yc yL yg vZ yV), .int .i64 er]) rfl (by kernel_rfl) (by kernel_rfl) (by kernel_rfl) (fun _ _ _ h => h) (Or.inl ⟨by rfl, fun W hW => by (go_simp <;> rfl)⟩) hS2 ?_
              (try simp only [Act.put, List.getElem_toArray, List.getElem_cons_succ, List.getElem_cons_zero, List.setIfInBounds_toArray, List.set_cons_zero, List.set_cons_succ])
              refine wpAnyH_take (i := 10) (oi := _) (v := lvz) rfl (by kernel_rfl) (by kernel_rfl) (by kernel_rfl) (fun _ _ _ h => h) (Or.inl ⟨by rfl, fun W hW => by (go_simp <;> rfl)⟩) hS2 ?_
              (try simp only [Act.put, List.getElem_toArray, List.getElem_cons_succ, List.getElem_cons_zero, List.setIfInBounds_toArray, List.set_cons_zero, List.set_cons_succ])
              refine wpAnyH_take (i := 11) (oi := _) (v := .agg (crC ya yb yc yL yg vZ yV)) rfl (by kernel_rfl) (by kernel_rfl) (by kernel_rfl) (fun _ _ _ h => h) (Or.inl ⟨by rfl, fun W hW => by (go_simp <;> rfl)⟩) hS2 ?_
              (try simp only [Act.put, List.getElem_toArray, List.getElem_cons_succ, List.getElem_cons_zero, List.setIfInBounds_toArray, List.set_cons_zero, List.set_cons_succ])
              refine wpAnyH_take (i := 12) (oi := _) (v := .int .i64 er) rfl (by kernel_rfl) (by kernel_rfl) (by kernel_rfl) (fun _ _ _ h => h) (Or.inl ⟨by rfl, fun W hW => by (go_simp <;> rfl)⟩) hS2 ?_
              (try simp only [Act.put, List.getElem_toArray, List.getElem_cons_succ, List.getElem_cons_zero, List.setIfInBounds_toArray, List.set_cons_zero, List.set_cons_succ])
              have HFIN := Lib.hid (HPq.out.take2 HwB.out (hx1.alloc (.cells Tryz.zeroCells39 39)) HT2.out.1 HT2.out.2.1 HT2.out.2.2.1 HT2.out.2.2.2.1 HT2.out.2.2.2.2 (W3 := V2) (Ext.refl V2) (M2 := V1.heap.size) hx1.size (blk_kept (heap_alloc_new V1 (.cells Tryz.zeroCells39 39)) HKK.out (by decide) (by decide)) (crC ya yb yc yL yg vZ yV) HDq.out)
              refine wpAnyH_take (i := 14) (oi := _) (v := lvz) rfl (by kernel_rfl) (by kernel_rfl) (by kernel_rfl) (fun _ _ _ h => h) (Or.inl ⟨by rfl, fun W hW => by (go_simp <;> rfl)⟩) hS2 ?_
              (try simp only [Act.put, List.getElem_toArray, List.getElem_cons_succ, List.getElem_cons_zero, List.setIfInBounds_toArray, List.set_cons_zero, List.set_cons_succ])
              refine wpAnyH_ready (rs := [15]) (by kernel_rfl) (by simp) ?_
              refine AllReadyH.cons (o := _) rfl (fun K hK => ?_) AllReadyH.nil
              rw [if_pos (by rfl)]
              refine wp_store_row 39 _ _ rfl (V1.heap.size) (crC ya yb yc yL yg vZ yV) rfl rfl 39 (Tryz.zeroCells39) (blk_kept (heap_alloc_new V1 (.cells Tryz.zeroCells39 39)) HKK.out (by decide) (by decide)) (by kernel_rfl) rfl (crC_one _ _ _ _ _ _ _ HT2.out.2.2.2.1.one) ?_
              refine hK.out _ _ (PkT.of HPC.out HFIN.out.1.ext HFIN.out.1.c2 HFIN.out.1.cm rfl) (fun hSz => ?_)
              clear hK K
              (try simp only [Act.put, List.getElem_toArray, List.getElem_cons_succ, List.getElem_cons_zero, List.setIfInBounds_toArray, List.set_cons_zero, List.set_cons_succ])
              refine wpAnyH_take (i := 16) (oi := _) (v := .int .i64 er) rfl (by kernel_rfl) (by kernel_rfl) (by kernel_rfl) (fun _ _ _ h => h) (Or.inl ⟨by rfl, fun W hW => by (go_simp <;> rfl)⟩) hSz ?_
              (try simp only [Act.put, List.getElem_toArray, List.getElem_cons_succ, List.getElem_cons_zero, List.setIfInBounds_toArray, List.set_cons_zero, List.set_cons_succ])
              refine wpAnyH_done (by kernel_rfl) ?_ _
              go_wp2_with fail
              go_meet
              exact ⟨rfl, lvz, _, bsZ, vZ, rfl, rfl, Lib.hid ⟨HFIN.out.1, HFIN.out.2.2.1, HFIN.out.2.1, HFIN.out.2.2.2.1, HFIN.out.2.2.2.2.1, HFIN.out.2.2.2.2.2⟩⟩
          · rw [if_pos (by rfl)]
            go_simp
            have HP0 := Lib.hid (HPq.out.mono (W' := (wq.alloc (.cells Tryz.zeroCells39 39)).drew) (by repeat (first | exact Ext.refl _ | apply Ext.alloc | apply Ext.drew)))
            refine hK.out _ _ (PkT.of HPC.out HP0.out.ext HP0.out.c2 HP0.out.cm rfl) (fun hS0 => ?_)
            clear hK K
            (try simp only [Act.put, List.getElem_toArray, List.getElem_cons_succ, List.getElem_cons_zero, List.setIfInBounds_toArray, List.set_cons_zero, List.set_cons_succ])
            refine wpAnyH_ready (rs := [7]) (by kernel_rfl) (by simp) ?_
            refine AllReadyH.cons (o := _) rfl (fun K hK => ?_) AllReadyH.nil
            rw [if_pos (by rfl)]
            go_simp
            refine (few15_any x.bk x.ver x.pv x.ts _ (HIN.out.1.ext HP0.out.ext) HIN.out.2 trivial).mono ?_
            rintro e V1 ⟨fv, rfl, hf, hxf⟩
            obtain ⟨pf, cf, hfv⟩ := own_sl hf
            subst hfv
            have HF1 := Lib.hid hf
            have HP1 := Lib.hid (HP0.out.mono hxf)
            have hx1 : Ext wq V1 := Ext.trans (by repeat (first | exact Ext.refl _ | apply Ext.alloc | apply Ext.drew)) hxf
            have hx9 : Ext (wq.alloc (.cells Tryz.zeroCells39 39)).drew V1 := hxf
            clear hf hxf
            refine hK.out _ _ (PkT.of HPC.out HP1.out.ext HP1.out.c2 HP1.out.cm rfl) (fun hS1 => ?_)
            clear hK K
            (try simp only [Act.put, List.getElem_toArray, List.getElem_cons_succ, List.getElem_cons_zero, List.setIfInBounds_toArray, List.set_cons_zero, List.set_cons_succ])
            refine wpAnyH_ready (rs := [8]) (by kernel_rfl) (by simp) ?_
            refine AllReadyH.cons (o := _) rfl (fun K hK => ?_) AllReadyH.nil
            rw [if_pos (by rfl)]
            go_simp
            refine (rtake_any _ _ l' a b c L g bs2 v2 T' V' x.bk x.ver _ _ (fewPS x.ts) _ (mid_le HP1.out.mid) HP1.out.mid.2.1 HP1.out.l2 HP1.out.y2 HSr.out.max HF1.out (Nat.le_trans (fewPS_len _) (by decide)) (fun s hs => Nat.le_trans (fewPS_sz _ s hs) (by decide)) (by omega) _ HTK.out).mono ?_
            rintro e V2 ⟨lvz, bsZ, vZ, rfl, ho2, hg2, hkk2, hy2, hyy2⟩
            have HP2 := Lib.hid (HP1.out.lstep HwB.out ho2 hg2 hkk2).1
            have HT2 := Lib.hid (And.intro ho2 (And.intro hg2 (And.intro hkk2 (And.intro hy2 hyy2))))
            have HKK := Lib.hid (HP1.out.lstep HwB.out ho2 hg2 hkk2).2
            clear ho2 hg2 hkk2 hy2 hyy2
            refine hK.out _ _ (PkT.of HPC.out HP2.out.ext HP2.out.c2 HP2.out.cm rfl) (fun hS2 => ?_)
            clear hK K
            (try simp only [Act.put, List.getElem_toArray, List.getElem_cons_succ, List.getElem_cons_zero, List.setIfInBounds_toArray, List.set_cons_zero, List.set_cons_succ])
            refine wpAnyH_take (i := 9) (oi := _) (v := .tuple #[lvz, .agg (crC ya yb yc yL yg vZ yV), .int .i64 er]) rfl (by kernel_rfl) (by kernel_rfl) (by kernel_rfl) (fun _ _ _ h => h) (Or.inl ⟨by rfl, fun W hW => by (go_simp <;> rfl)⟩) hS2 ?_
            (try simp only [Act.put, List.getElem_toArray, List.getElem_cons_succ, List.getElem_cons_zero, List.setIfInBounds_toArray, List.set_cons_zero, List.set_cons_succ])
            refine wpAnyH_take (i := 10) (oi := _) (v := lvz) rfl (by kernel_rfl) (by kernel_rfl) (by kernel_rfl) (fun _ _ _ h => h) (Or.inl ⟨by rfl, fun W hW => by (go_simp <;> rfl)⟩) hS2 ?_
            (try simp only [Act.put, List.getElem_toArray, List.getElem_cons_succ, List.getElem_cons_zero, List.setIfInBounds_toArray, List.set_cons_zero, List.set_cons_succ])
            refine wpAnyH_take (i := 11) (oi := _) (v := .agg (crC ya yb yc yL yg vZ yV)) rfl (by kernel_rfl) (by kernel_rfl) (by kernel_rfl) (fun _ _ _ h => h) (Or.inl ⟨by rfl, fun W hW => by (go_simp <;> rfl)⟩) hS2 ?_
            (try simp only [Act.put, List.getElem_toArray, List.getElem_cons_succ, List.getElem_cons_zero, List.setIfInBounds_toArray, List.set_cons_zero, List.set_cons_succ])
            refine wpAnyH_take (i := 12) (oi := _) (v := .int .i64 er) rfl (by kernel_rfl) (by kernel_rfl) (by kernel_rfl) (fun _ _ _ h => h) (Or.inl ⟨by rfl, fun W hW => by (go_simp <;> rfl)⟩) hS2 ?_
            (try simp only [Act.put, List.getElem_toArray, List.getElem_cons_succ, List.getElem_cons_zero, List.setIfInBounds_toArray, List.set_cons_zero, List.set_cons_succ])
            have HFIN := Lib.hid (HPq.out.take2 HwB.out hx1 HT2.out.1 HT2.out.2.1 HT2.out.2.2.1 HT2.out.2.2.2.1 HT2.out.2.2.2.2 (W3 := V2) (Ext.refl V2) (M2 := wq.heap.size) (Nat.le_refl _) (blk_kept (blk_ext (show (wq.alloc (.cells Tryz.zeroCells39 39)).drew.heap[wq.heap.size]? = _ from heap_alloc_new wq _) hx9) HKK.out (by decide) (by decide)) (crC ya yb yc yL yg vZ yV) HDq.out)
            refine wpAnyH_take (i := 14) (oi := _) (v := lvz) rfl (by kernel_rfl) (by kernel_rfl) (by kernel_rfl) (fun _ _ _ h => h) (Or.inl ⟨by rfl, fun W hW => by (go_simp <;> rfl)⟩) hS2 ?_
            (try simp only [Act.put, List.getElem_toArray, List.getElem_cons_succ, List.getElem_cons_zero, List.setIfInBounds_toArray, List.set_cons_zero, List.set_cons_succ])
            refine wpAnyH_ready (rs := [15]) (by kernel_rfl) (by simp) ?_
            refine AllReadyH.cons (o := _) rfl (fun K hK => ?_) AllReadyH.nil
            rw [if_pos (by rfl)]
            refine wp_store_row 39 _ _ rfl (wq.heap.size) (crC ya yb yc yL yg vZ yV) rfl rfl 39 (Tryz.zeroCells39) (blk_kept (blk_ext (show (wq.alloc (.cells Tryz.zeroCells39 39)).drew.heap[wq.heap.size]? = _ from heap_alloc_new wq _) hx9) HKK.out (by decide) (by decide)) (by kernel_rfl) rfl (crC_one _ _ _ _ _ _ _ HT2.out.2.2.2.1.one) ?_
            refine hK.out _ _ (PkT.of HPC.out HFIN.out.1.ext HFIN.out.1.c2 HFIN.out.1.cm rfl) (fun hSz => ?_)
            clear hK K
            (try simp only [Act.put, List.getElem_toArray, List.getElem_cons_succ, List.getElem_cons_zero, List.setIfInBounds_toArray, List.set_cons_zero, List.set_cons_succ])
            refine wpAnyH_take (i := 16) (oi := _) (v := .int .i64 er) rfl (by kernel_rfl) (by kernel_rfl) (by kernel_rfl) (fun _ _ _ h => h) (Or.inl ⟨by rfl, fun W hW => by (go_simp <;> rfl)⟩) hSz ?_
            (try simp only [Act.put, List.getElem_toArray, List.getElem_cons_succ, List.getElem_cons_zero, List.setIfInBounds_toArray, List.set_cons_zero, List.set_cons_succ])
            refine wpAnyH_done (by kernel_rfl) ?_ _
            go_wp2_with fail
            go_meet
            exact ⟨rfl, lvz, _, bsZ, vZ, rfl, rfl, Lib.hid ⟨HFIN.out.1, HFIN.out.2.2.1, HFIN.out.2.1, HFIN.out.2.2.2.1, HFIN.out.2.2.2.2.1, HFIN.out.2.2.2.2.2⟩⟩
        case rest =>
            obtain ⟨rfl, lvz, M13, bsZ, vZ, rfl, rfl, hc⟩ := hcut
            have HPp := Lib.hid hc.out.1
            have HDd := Lib.hid hc.out.2.1
            have HDe := Lib.hid hc.out.2.2.1
            have hm5 := hc.out.2.2.2.1
            have hm7 := hc.out.2.2.2.2.1
            have hm10 := hc.out.2.2.2.2.2
            clear hc
            obtain ⟨wp, hwp⟩ : ∃ wp, wc = wp := ⟨_, rfl⟩
            rw [hwp] at HPp HDd HDe ⊢
            clear hwp
            go_upto_region 19 with (first
              | (refine wpList_load_row rfl 39 _ rfl (M10) rfl 39 (crC ya yb yc yL yg vY yV) (0, 0) _ (HDd.out.blk) Tryz.underlying39 rfl (by kernel_rfl) ?_)
              | (refine wpList_load_row rfl 39 _ rfl (M13) rfl 39 (crC ya yb yc yL yg vZ yV) (0, 0) _ (HDe.out.blk) Tryz.underlying39 rfl (by kernel_rfl) ?_)
              | (go_at_call 12; refine (rsame15_any ya yb yc yL yg bsY bsZ vY vZ yT yV wp HDd.out.lv HDe.out.lv HSY.out.max).mono ?_; rintro e w3 ⟨rfl, hx⟩; have HP3 := Lib.hid (HPp.out.mono hx); have HD3 := Lib.hid (HDd.out.mono hx); have HE3 := Lib.hid (HDe.out.mono hx); clear hx))
            by_cases her : er = 0
            · subst her
              have hm3 := HMY.out rfl
              simp only [Mf.mk.injEq] at hm3
              obtain ⟨e1, e2, e3, e4⟩ := hm3
              have e1 := e1.symm
              have e2 := e2.symm
              have e3 := e3.symm
              have e4 := e4.symm
              subst e1 e2 e3 e4
              go_upto_region 20 with fail
              go_cut [15] (fun s15 wx => Hid (Pk B bt bm N M5 M7 (cmC tv0 a b c L v3 V (.slice (some ⟨pb, poff, none⟩) ps.length co)) a b c L w tvq lvz ly ly yg yT yV bsY vY bsZ vZ wx))
              case first =>
                have HPd := Lib.hid (HP3.out.mono (Ext.refl w3).drew)
                have HDD := Lib.hid (HD3.out.mono (Ext.refl w3).drew)
                have HDE := Lib.hid (HE3.out.mono (Ext.refl w3).drew)
                have HFIN := Lib.hid (HPd.out.crates (g' := yg) (V' := yV) hM5w hM7w h57 HDD.out HDE.out)
                refine wp_region_held_drew (S := TwoBlk M10 (crC a b c L yg vY yV) M13 (crC a b c L yg vZ yV)) (by kernel_rfl) ⟨HDD.out.blk, HDE.out.blk⟩ (fun hS => ?_)
                refine wpAnyH_take (i := 0) (oi := _) (v := .agg (crC a b c L yg vY yV)) rfl (by kernel_rfl) (by kernel_rfl) (by kernel_rfl) (fun _ _ _ h => h) (yieldsIf_load_mid (by rfl) _ _ rfl M10 0 rfl (crC a b c L yg vY yV).toList _ (fun W hW => row_range hW.1) Tryz.underlying39 rfl (by kernel_rfl)) hS ?_
                (try simp only [Act.put, List.getElem_toArray, List.getElem_cons_succ, List.getElem_cons_zero, List.setIfInBounds_toArray, List.set_cons_zero, List.set_cons_succ])
                refine wpAnyH_take (i := 1) (oi := _) (v := .agg (crC a b c L yg vZ yV)) rfl (by kernel_rfl) (by kernel_rfl) (by kernel_rfl) (fun _ _ _ h => h) (yieldsIf_load_mid (by rfl) _ _ rfl M13 0 rfl (crC a b c L yg vZ yV).toList _ (fun W hW => row_range hW.2) Tryz.underlying39 rfl (by kernel_rfl)) hS ?_
                (try simp only [Act.put, List.getElem_toArray, List.getElem_cons_succ, List.getElem_cons_zero, List.setIfInBounds_toArray, List.set_cons_zero, List.set_cons_succ])
                refine wpAnyH_ready (rs := [2]) (by kernel_rfl) (by simp) ?_
                refine AllReadyH.cons (o := _) rfl (fun K hK => ?_) AllReadyH.nil
                rw [if_pos (by rfl)]
                refine wp_store_row 39 _ _ rfl M5 (crC a b c L yg vY yV) rfl rfl 39 (crC a b c L g v1 V') HPd.out.c1 (by kernel_rfl) rfl (crC_one _ _ _ _ _ _ _ HD3.out.lv.one) ?_
                refine hK.out _ _ (TwoBlk.row hS (Ne.symm hn5) (Ne.symm hm5) _) (fun hS1 => ?_)
                clear hK K
                (try simp only [Act.put, List.getElem_toArray, List.getElem_cons_succ, List.getElem_cons_zero, List.setIfInBounds_toArray, List.set_cons_zero, List.set_cons_succ])
                refine wpAnyH_ready (rs := [3]) (by kernel_rfl) (by simp) ?_
                refine AllReadyH.cons (o := _) rfl (fun K hK => ?_) AllReadyH.nil
                rw [if_pos (by rfl)]
                refine wp_store_row 39 _ _ rfl M7 (crC a b c L yg vZ yV) rfl rfl 39 (crC a b c L g v2 V') (HPd.out.c2.otherRow (Ne.symm h57) _) (by kernel_rfl) rfl (crC_one _ _ _ _ _ _ _ HE3.out.lv.one) ?_
                refine hK.out _ _ (TwoBlk.row hS1 (Ne.symm hn7) (Ne.symm hm7) _) (fun hS2 => ?_)
                clear hK K
                (try simp only [Act.put, List.getElem_toArray, List.getElem_cons_succ, List.getElem_cons_zero, List.setIfInBounds_toArray, List.set_cons_zero, List.set_cons_succ])
                refine wpAnyH_done (by kernel_rfl) ?_ _
                go_wp2_with fail
                go_meet
                exact Lib.hid HFIN.out
              case rest =>
                have HPs := Lib.hid hcut.out
                obtain ⟨ws, hws⟩ : ∃ ws, wc = ws := ⟨_, rfl⟩
                rw [hws] at HPs ⊢
                clear hws hcut
                go_wp2_with (first
                  | (refine wpList_load_row rfl 39 _ rfl (M5) rfl 39 (crC a b c L yg vY yV) (0, 0) _ (HPs.out.c1) Tryz.underlying39 rfl (by kernel_rfl) ?_)
                  | (go_at_call 18; refine (need_any _ _ _ _ _ _ _ ws).mono ?_; rintro e w7 ⟨nv, rfl, hown, hx⟩; obtain ⟨pn, cn, hvv⟩ := own_sl hown; subst hvv; have HN := Lib.hid hown; have HP7 := Lib.hid (HPs.out.mono hx); clear hx hown))
                go_loopw [16, 17] (fun qq bb wr2 => ∃ i : Nat, qq = .int .i64 (((needK yg i).length : Nat) : Int) ∧ bb = .int .i64 (i : Int) ∧ i ≤ 16 ∧ wr2 = w7) (fun _ bb _ => 16 - (intOf bb).toNat)
                case atStart => exact ⟨0, by simp [needK], rfl, Nat.zero_le _, rfl⟩
                case round =>
                  obtain ⟨i, rfl, rfl, hi, hw7⟩ := hrel
                  subst hw7
                  by_cases hlt : i < 16
                  · have hiI : (i : Int) < 16 := by omega
                    have hi0 : (0 : Int) ≤ (i : Int) := by omega
                    have cG := HP7.out.c2.cellG i hlt
                    have hgw := lt_of_heap HP7.out.c2
                    cases hg : yg i with
                    | true =>
                      rw [hg] at cG
                      have HNY := Lib.hid (needK_yes hg)
                      clear hg
                      go_wp2_with fail
                      go_roundw
                      case rel => exact ⟨i + 1, by rw [HNY.out], by go_num, by omega, by first | rfl | trivial⟩
                      case measure => simp [intOf]; omega
                    | false =>
                      rw [hg] at cG
                      have HNN := Lib.hid (needK_no hg)
                      have hat := needK_at hg 16 hlt
                      obtain ⟨qn, hqn⟩ : ∃ qn, (needK yg i).length = qn := ⟨_, rfl⟩
                      obtain ⟨zn, hzn⟩ : ∃ zn, (needK yg 16).length = zn := ⟨_, rfl⟩
                      rw [hqn] at hat
                      have hq : qn < zn := by rw [← hzn]; exact (List.getElem?_eq_some_iff.1 hat).1
                      have hown := HN.out
                      rw [hzn] at hown
                      obtain ⟨gn, capn, e, hgl, _, _, HA⟩ := ints_row (n := zn) hzn (by omega) hown
                      simp only [Value.slice.injEq] at e
                      obtain ⟨rfl, _, rfl⟩ := e
                      have cnq := HA.out qn _ hat
                      have hgl2 : gn < wr.heap.size := hgl
                      have hqI : (qn : Int) < (zn : Int) := by omega
                      have hq0 : (0 : Int) ≤ (qn : Int) := by omega
                      have hqm : (qn : Int) ≤ 100 := by have := needK_len yg i; omega
                      have HQN := Lib.hid hqn
                      rw [hqn, hzn]
                      clear hg hat hq hown hqn hzn hgl
                      go_wp2_with fail
                      go_roundw
                      case rel => exact ⟨i + 1, by rw [HNN.out, List.length_append, HQN.out]; go_num, by go_num, by omega, by first | rfl | trivial⟩
                      case measure => simp [intOf]; omega
                  obtain rfl : i = 16 := by omega
                  obtain ⟨rd, hrd⟩ : ∃ rd, doneF a b c yg yT yV = rd := ⟨_, rfl⟩
                  have hds := done_short (a := a) (b := b) (c := c) (g := yg) (V := yV) HSY.out
                  rw [hrd] at hds
                  obtain ⟨⟨sT, sV, sa, sb, sc⟩, ed⟩ := rd
                  dsimp only at hds
                  have HRD := Lib.hid hrd
                  have HDS := Lib.hid hds
                  obtain ⟨zn, hzn⟩ : ∃ zn, (needK yg 16).length = zn := ⟨_, rfl⟩
                  rw [hzn]
                  clear hrd hds hlt hi hzn
                  go_upto_region 31 with (first
                    | (refine wpList_load_row rfl 39 _ rfl (M5) rfl 39 (crC a b c L yg vY yV) (0, 0) _ (HP7.out.c1) Tryz.underlying39 rfl (by kernel_rfl) ?_)
                    | (go_at_call 19; refine (done_any a b c L yg bsY vY yT yV B0 wr (HE.out.ext HP7.out.ext).signs (HE.out.ext HP7.out.ext).size HP7.out.l1 HP7.out.y1 _ HRD.out).mono ?_; rintro e w8 ⟨bs8, v8, rfl, hz8, hy8, hx8⟩; have HZ8 : Hid (LvsAt w8 bs8 v8 sT ∧ LvTy w8 bs8 sT) := Lib.hid (And.intro hz8 hy8); have HP8 := Lib.hid (HP7.out.mono hx8); clear hz8 hy8 hx8)
                    | (refine wpList_store_rowTo rfl 56 _ _ rfl rfl (w8.heap.size) (stC v8 sV sa sb sc) rfl rfl 56 (stC nilV zeroV 0 0 0) (heap_alloc_new w8 _) (by kernel_rfl) rfl (stC_one _ _ _ _ _ HZ8.out.1.one) ?_))
                  obtain ⟨W8, hW8⟩ : ∃ W8, (w8.alloc (.cells (stC nilV zeroV 0 0 0) 56)).setRow w8.heap.size (stC v8 sV sa sb sc) = W8 := ⟨_, rfl⟩
                  show Code.wp _ _ _ _ ((w8.alloc (.cells (stC nilV zeroV 0 0 0) 56)).setRow w8.heap.size (stC v8 sV sa sb sc))
                  rw [hW8]
                  have frW8 := fresh_row w8 (stC nilV zeroV 0 0 0) (stC v8 sV sa sb sc) 56
                  rw [hW8] at frW8
                  clear hW8
                  obtain ⟨M18, hM18⟩ : ∃ M18, w8.heap.size = M18 := ⟨_, rfl⟩
                  rw [hM18] at frW8 ⊢
                  have HPW8 := Lib.hid (HP8.out.mono frW8.2)
                  have HZW8 := Lib.hid (And.intro (HZ8.out.1.ext frW8.2) (HZ8.out.2.ext frW8.2))
                  have HYW8 : Hid (StBlk W8 M18 v8 sV sa sb sc) := Lib.hid frW8.1
                  clear frW8 hM18
                  go_upto_region 32 with (first
                    | (refine wpList_load_row rfl 39 _ rfl (M7) rfl 39 (crC a b c L yg vZ yV) (0, 0) _ (HPW8.out.c2) Tryz.underlying39 rfl (by kernel_rfl) ?_)
                    | (go_at_call 20; refine (rdone_any a b c L yg bsZ vZ yT yV W8 HSY.out.max HPW8.out.l2 HPW8.out.y2 _ HRD.out).mono ?_; rintro e w9 ⟨bs9, v9, rfl, hz9, hy9, hx9⟩; have HZ9 : Hid (LvsAt w9 bs9 v9 sT ∧ LvTy w9 bs9 sT) := Lib.hid (And.intro hz9 hy9); have HP9 := Lib.hid (HPW8.out.mono hx9); have HY9 := Lib.hid (HYW8.out.ext hx9); have HU9 := Lib.hid (And.intro (HZW8.out.1.ext hx9) (HZW8.out.2.ext hx9)); clear hz9 hy9 hx9)
                    | (refine wpList_store_rowTo rfl 56 _ _ rfl rfl (w9.heap.size) (stC v9 sV sa sb sc) rfl rfl 56 (stC nilV zeroV 0 0 0) (heap_alloc_new w9 _) (by kernel_rfl) rfl (stC_one _ _ _ _ _ HZ9.out.1.one) ?_))
                  obtain ⟨W9, hW9⟩ : ∃ W9, (w9.alloc (.cells (stC nilV zeroV 0 0 0) 56)).setRow w9.heap.size (stC v9 sV sa sb sc) = W9 := ⟨_, rfl⟩
                  show Code.wp _ _ _ _ ((w9.alloc (.cells (stC nilV zeroV 0 0 0) 56)).setRow w9.heap.size (stC v9 sV sa sb sc))
                  rw [hW9]
                  have frW9 := fresh_row w9 (stC nilV zeroV 0 0 0) (stC v9 sV sa sb sc) 56
                  rw [hW9] at frW9
                  clear hW9
                  obtain ⟨M20, hM20⟩ : ∃ M20, w9.heap.size = M20 := ⟨_, rfl⟩
                  rw [hM20] at frW9 ⊢
                  have HPW9 := Lib.hid (HP9.out.mono frW9.2)
                  have HZW9 := Lib.hid (HZ9.out.1.ext frW9.2)
                  have HUW9 := Lib.hid (HU9.out.1.ext frW9.2)
                  have HYW9 := Lib.hid (HY9.out.ext frW9.2)
                  have HVW9 : Hid (StBlk W9 M20 v9 sV sa sb sc) := Lib.hid frW9.1
                  clear frW9 hM20
                  go_wp2_with (first
                    | (refine wpList_load_rowG rfl 56 _ rfl (M18) rfl 56 (stC v8 sV sa sb sc) (0, 0) _ (HYW9.out) Tryz.underlying56 rfl (by kernel_rfl) ?_)
                    | (refine wpList_load_rowG rfl 56 _ rfl (M20) rfl 56 (stC v9 sV sa sb sc) (0, 0) _ (HVW9.out) Tryz.underlying56 rfl (by kernel_rfl) ?_)
                    | (go_at_call 21; refine (rsame13_any sa sb sc bs8 bs9 v8 v9 sT sV W9 HUW9.out HZW9.out HDS.out.max).mono ?_; rintro e wx ⟨rfl, hx⟩; have HPX := Lib.hid (HPW9.out.mono hx); clear hx))
                  go_roundw
                  case rel => exact ⟨j + 1, tvq, lvz, ly, yg, yT, yV, bsY, vY, bsZ, vZ, rfl, by go_num, by omega, by omega, Lib.hid ⟨HPX.out, HSY.out⟩⟩
                  case measure => simp [intOf]; omega
            have her' : (er == 0) = false := by simpa using her
            go_wp2_with (first
              | (refine wpList_load_row rfl 39 _ rfl (M5) rfl 39 (crC a b c L g v1 V') (0, 0) _ (HP3.out.c1) Tryz.underlying39 rfl (by kernel_rfl) ?_)
              | (go_at_call 18; refine (need_any _ _ _ _ _ _ _ w3).mono ?_; rintro e w7 ⟨nv, rfl, hown, hx⟩; obtain ⟨pn, cn, hvv⟩ := own_sl hown; subst hvv; have HN := Lib.hid hown; have HP7 := Lib.hid (HP3.out.mono hx); clear hx hown))
            go_loopw [16, 17] (fun qq bb wr2 => ∃ i : Nat, qq = .int .i64 (((needK g i).length : Nat) : Int) ∧ bb = .int .i64 (i : Int) ∧ i ≤ 16 ∧ wr2 = w7) (fun _ bb _ => 16 - (intOf bb).toNat)
            case atStart => exact ⟨0, by simp [needK], rfl, Nat.zero_le _, rfl⟩
            case round =>
              obtain ⟨i, rfl, rfl, hi, hw7⟩ := hrel
              subst hw7
              by_cases hlt : i < 16
              · have hiI : (i : Int) < 16 := by omega
                have hi0 : (0 : Int) ≤ (i : Int) := by omega
                have cG := HP7.out.c2.cellG i hlt
                have hgw := lt_of_heap HP7.out.c2
                cases hg : g i with
                | true =>
                  rw [hg] at cG
                  have HNY := Lib.hid (needK_yes hg)
                  clear hg
                  go_wp2_with fail
                  go_roundw
                  case rel => exact ⟨i + 1, by rw [HNY.out], by go_num, by omega, by first | rfl | trivial⟩
                  case measure => simp [intOf]; omega
                | false =>
                  rw [hg] at cG
                  have HNN := Lib.hid (needK_no hg)
                  have hat := needK_at hg 16 hlt
                  obtain ⟨qn, hqn⟩ : ∃ qn, (needK g i).length = qn := ⟨_, rfl⟩
                  obtain ⟨zn, hzn⟩ : ∃ zn, (needK g 16).length = zn := ⟨_, rfl⟩
                  rw [hqn] at hat
                  have hq : qn < zn := by rw [← hzn]; exact (List.getElem?_eq_some_iff.1 hat).1
                  have hown := HN.out
                  rw [hzn] at hown
                  obtain ⟨gn, capn, e, hgl, _, _, HA⟩ := ints_row (n := zn) hzn (by omega) hown
                  simp only [Value.slice.injEq] at e
                  obtain ⟨rfl, _, rfl⟩ := e
                  have cnq := HA.out qn _ hat
                  have hgl2 : gn < wr.heap.size := hgl
                  have hqI : (qn : Int) < (zn : Int) := by omega
                  have hq0 : (0 : Int) ≤ (qn : Int) := by omega
                  have hqm : (qn : Int) ≤ 100 := by have := needK_len g i; omega
                  have HQN := Lib.hid hqn
                  rw [hqn, hzn]
                  clear hg hat hq hown hqn hzn hgl
                  go_wp2_with fail
                  go_roundw
                  case rel => exact ⟨i + 1, by rw [HNN.out, List.length_append, HQN.out]; go_num, by go_num, by omega, by first | rfl | trivial⟩
                  case measure => simp [intOf]; omega
              obtain rfl : i = 16 := by omega
              obtain ⟨rd, hrd⟩ : ∃ rd, doneF a b c g T' V' = rd := ⟨_, rfl⟩
              have hds := done_short (a := a) (b := b) (c := c) (g := g) (V := V') HSr.out
              rw [hrd] at hds
              obtain ⟨⟨sT, sV, sa, sb, sc⟩, ed⟩ := rd
              dsimp only at hds
              have HRD := Lib.hid hrd
              have HDS := Lib.hid hds
              obtain ⟨zn, hzn⟩ : ∃ zn, (needK g 16).length = zn := ⟨_, rfl⟩
              rw [hzn]
              clear hrd hds hlt hi hzn
              go_upto_region 31 with (first
                | (refine wpList_load_row rfl 39 _ rfl (M5) rfl 39 (crC a b c L g v1 V') (0, 0) _ (HP7.out.c1) Tryz.underlying39 rfl (by kernel_rfl) ?_)
                | (go_at_call 19; refine (done_any a b c L g bs1 v1 T' V' B0 wr (HE.out.ext HP7.out.ext).signs (HE.out.ext HP7.out.ext).size HP7.out.l1 HP7.out.y1 _ HRD.out).mono ?_; rintro e w8 ⟨bs8, v8, rfl, hz8, hy8, hx8⟩; have HZ8 : Hid (LvsAt w8 bs8 v8 sT ∧ LvTy w8 bs8 sT) := Lib.hid (And.intro hz8 hy8); have HP8 := Lib.hid (HP7.out.mono hx8); clear hz8 hy8 hx8)
                | (refine wpList_store_rowTo rfl 56 _ _ rfl rfl (w8.heap.size) (stC v8 sV sa sb sc) rfl rfl 56 (stC nilV zeroV 0 0 0) (heap_alloc_new w8 _) (by kernel_rfl) rfl (stC_one _ _ _ _ _ HZ8.out.1.one) ?_))
              obtain ⟨W8, hW8⟩ : ∃ W8, (w8.alloc (.cells (stC nilV zeroV 0 0 0) 56)).setRow w8.heap.size (stC v8 sV sa sb sc) = W8 := ⟨_, rfl⟩
              show Code.wp _ _ _ _ ((w8.alloc (.cells (stC nilV zeroV 0 0 0) 56)).setRow w8.heap.size (stC v8 sV sa sb sc))
              rw [hW8]
              have frW8 := fresh_row w8 (stC nilV zeroV 0 0 0) (stC v8 sV sa sb sc) 56
              rw [hW8] at frW8
              clear hW8
              obtain ⟨M18, hM18⟩ : ∃ M18, w8.heap.size = M18 := ⟨_, rfl⟩
              rw [hM18] at frW8 ⊢
              have HPW8 := Lib.hid (HP8.out.mono frW8.2)
              have HZW8 := Lib.hid (And.intro (HZ8.out.1.ext frW8.2) (HZ8.out.2.ext frW8.2))
              have HYW8 : Hid (StBlk W8 M18 v8 sV sa sb sc) := Lib.hid frW8.1
              clear frW8 hM18
              go_upto_region 32 with (first
                | (refine wpList_load_row rfl 39 _ rfl (M7) rfl 39 (crC a b c L g v2 V') (0, 0) _ (HPW8.out.c2) Tryz.underlying39 rfl (by kernel_rfl) ?_)
                | (go_at_call 20; refine (rdone_any a b c L g bs2 v2 T' V' W8 HSr.out.max HPW8.out.l2 HPW8.out.y2 _ HRD.out).mono ?_; rintro e w9 ⟨bs9, v9, rfl, hz9, hy9, hx9⟩; have HZ9 : Hid (LvsAt w9 bs9 v9 sT ∧ LvTy w9 bs9 sT) := Lib.hid (And.intro hz9 hy9); have HP9 := Lib.hid (HPW8.out.mono hx9); have HY9 := Lib.hid (HYW8.out.ext hx9); have HU9 := Lib.hid (And.intro (HZW8.out.1.ext hx9) (HZW8.out.2.ext hx9)); clear hz9 hy9 hx9)
                | (refine wpList_store_rowTo rfl 56 _ _ rfl rfl (w9.heap.size) (stC v9 sV sa sb sc) rfl rfl 56 (stC nilV zeroV 0 0 0) (heap_alloc_new w9 _) (by kernel_rfl) rfl (stC_one _ _ _ _ _ HZ9.out.1.one) ?_))
              obtain ⟨W9, hW9⟩ : ∃ W9, (w9.alloc (.cells (stC nilV zeroV 0 0 0) 56)).setRow w9.heap.size (stC v9 sV sa sb sc) = W9 := ⟨_, rfl⟩
              show Code.wp _ _ _ _ ((w9.alloc (.cells (stC nilV zeroV 0 0 0) 56)).setRow w9.heap.size (stC v9 sV sa sb sc))
              rw [hW9]
              have frW9 := fresh_row w9 (stC nilV zeroV 0 0 0) (stC v9 sV sa sb sc) 56
              rw [hW9] at frW9
              clear hW9
              obtain ⟨M20, hM20⟩ : ∃ M20, w9.heap.size = M20 := ⟨_, rfl⟩
              rw [hM20] at frW9 ⊢
              have HPW9 := Lib.hid (HP9.out.mono frW9.2)
              have HZW9 := Lib.hid (HZ9.out.1.ext frW9.2)
              have HUW9 := Lib.hid (HU9.out.1.ext frW9.2)
              have HYW9 := Lib.hid (HY9.out.ext frW9.2)
              have HVW9 : Hid (StBlk W9 M20 v9 sV sa sb sc) := Lib.hid frW9.1
              clear frW9 hM20
              go_wp2_with (first
                | (refine wpList_load_rowG rfl 56 _ rfl (M18) rfl 56 (stC v8 sV sa sb sc) (0, 0) _ (HYW9.out) Tryz.underlying56 rfl (by kernel_rfl) ?_)
                | (refine wpList_load_rowG rfl 56 _ rfl (M20) rfl 56 (stC v9 sV sa sb sc) (0, 0) _ (HVW9.out) Tryz.underlying56 rfl (by kernel_rfl) ?_)
                | (go_at_call 21; refine (rsame13_any sa sb sc bs8 bs9 v8 v9 sT sV W9 HUW9.out HZW9.out HDS.out.max).mono ?_; rintro e wx ⟨rfl, hx⟩; have HPX := Lib.hid (HPW9.out.mono hx); clear hx))
              go_roundw
              case rel => exact ⟨j + 1, tvq, lvz, ly, g, T', V', bs1, v1, bs2, v2, rfl, by go_num, by omega, by omega, Lib.hid ⟨HPX.out, HSr.out⟩⟩
              case measure => simp [intOf]; omega
end Go.Proofs.YtpchohjkelopoaaGreatDoor
