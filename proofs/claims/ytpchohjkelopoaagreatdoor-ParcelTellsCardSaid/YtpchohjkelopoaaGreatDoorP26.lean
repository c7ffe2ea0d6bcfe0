/- Lemmas for the claim (texts PT1, what its proof uses of them). -/
import Derived.Test.YtpchohjkelopoaaGreatDoorP25
import Derived.Deep.DeepCutAuto
set_option linter.unusedSimpArgs false
set_option linter.unusedVariables false
set_option maxRecDepth 20000
namespace Go.Proofs.YtpchohjkelopoaaGreatDoor
open Go.RowKit
attribute [go_sem] more_more Array.size_append
set_option maxHeartbeats 16000000 in
theorem pt_walk (B0 : Nat) (tv : Value) (ts : List ByteArray) (bs : Nat → Nat) (v : Nat → Value) (T : Nat → List It) (V : Nat → Int) (a b c bk : Int) (w : World) (hv : StrsAt w tv ts) (hs : ∀ s ∈ ts, s.size ≤ 140737488351232) (he : Env15 B0 w) (h : ∀ k, k < 16 → LfIn w (bs k) (v k) (T k)) (ha : In64I a) (hb : In64I b) (hc : In64I c) :
    Calls Tryz.prog 5 #[tv, .agg (stC v V a b c), .int .i64 bk] w fun e w' => e = .returned (.bool true) ∧ Ext w w' := by
  have HF := Lib.hid fun (W : World) (hx : Ext w W) => few13_any bs v T V a b c W (fun k hk => (h k hk).ext hx)
  have TC := Lib.hid fun (W : World) (hx : Ext w W) => table15_any tv ts W (hv.ext hx) hs
  have AW := Lib.hid fun (W : World) (hx : Ext w W) => awake15_any B0 W (he.ext hx)
  have HE := Lib.hid he
  obtain ⟨l, hl⟩ : ∃ l, tabF 40 ts = l := ⟨_, rfl⟩
  have hln : l.length ≤ 40 := by rw [← hl]; exact tabF_len 40 ts
  unfold TablePost at TC
  rw [hl] at TC
  obtain ⟨T2, hT2⟩ : ∃ T2 : Nat → List It, (fun k => fewF (T k)) = T2 := ⟨_, rfl⟩
  have HTL := Lib.hid (show ∀ k, (T2 k).length ≤ 66 from fun k => by rw [← hT2]; exact fewF_len _)
  rw [hT2] at HF
  have H64 := Lib.hid (And.intro ha (And.intro hb hc))
  clear h hv hs he hl hT2 ha hb hc
  go_enter Tryz.func5, Tryz.ntmps5
  go_upto_region 2 with (first
    | (refine wpList_load_row rfl 56 _ rfl (w.heap.size) rfl 56 (stC v V a b c) (0, 0) _ (heap_alloc_new w _) Tryz.underlying56 rfl (by kernel_rfl) ?_)
    | (go_at_call 22; refine (HF.out _ (by repeat (first | exact Ext.refl _ | apply Ext.alloc | apply Ext.more | apply Ext.drewN))).mono ?_; rintro e w1 ⟨bs2, v2, rfl, hl, hy, hx⟩; have HL1 := Lib.hid (And.intro hl hy); have HB1 : Hid (StBlk w1 w.heap.size v V a b c) := Lib.hid (StBlk.ext (show StBlk (w.alloc _) w.heap.size v V a b c from heap_alloc_new w _) hx); have HX1 := Lib.hid (((Ext.refl w).alloc _).trans hx); clear hl hy hx)
    | (refine wpList_store_rowTo rfl 56 _ _ rfl rfl (w.heap.size) (stC v2 V a b c) rfl rfl 56 (stC v V a b c) (HB1.out) (by kernel_rfl) rfl (stC_one _ _ _ _ _ HL1.out.1.one) ?_))
  obtain ⟨W1, hW1⟩ : ∃ W1, w1.setRow w.heap.size (stC v2 V a b c) = W1 := ⟨_, rfl⟩
  show Code.wp _ _ _ _ (w1.setRow w.heap.size (stC v2 V a b c))
  rw [hW1]
  have hS1 : StBlk W1 w.heap.size v2 V a b c := by rw [← hW1]; exact StBlk.setT HB1.out
  have hx1 : Ext w W1 := by rw [← hW1]; exact HX1.out.setRow (Nat.le_refl _) _
  have hl1 := LvsAt.rowT HL1.out.1 HL1.out.2 HB1.out (by decide) (stC v2 V a b c)
  rw [hW1] at hl1
  obtain ⟨N, hN⟩ : ∃ N, w.heap.size = N := ⟨_, rfl⟩
  have hNw : w.heap.size ≤ N := Nat.le_of_eq hN
  rw [hN] at hS1 ⊢
  have HSW1 := Lib.hid hS1
  have HXW1 := Lib.hid hx1
  have HLW1 := Lib.hid hl1
  have HB0 : Hid (B0 ≤ W1.heap.size) := Lib.hid (Nat.le_trans HE.out.size hx1.size)
  clear hS1 hx1 hl1 HB1 HX1 HL1 hW1 hN
  go_upto_region 5 with (first
    | (go_at_call 9; refine (TC.out _ HXW1.out).mono ?_; rintro e w2 ⟨bt, bm, tv2, lv, rfl, hB, hb⟩; have hx2 := Ext.of_below hb; have HM2 := Lib.hid hB; have HS2 := Lib.hid (HSW1.out.ext hx2); have HL2 := Lib.hid (And.intro (HLW1.out.1.ext hx2) (HLW1.out.2.ext hx2)); have HX2 := Lib.hid (HXW1.out.trans hx2); have HW2 := Lib.hid hb.size; clear hB hb hx2))
  cases hst : storeB T2 V a b c with
  | false =>
    have OF := Lib.hid (pof_no bt bs2 v2 T2 V a b c B0 w2 (HE.out.ext HX2.out).signs (HE.out.ext HX2.out).size HL2.out.1 hst)
    have CT := Lib.hid fun (W : World) (hx : Ext w2 W) => cut15_no1 bs2 v2 T2 V a b c bk B0 W (HE.out.ext (HX2.out.trans hx)).signs (HE.out.ext (HX2.out.trans hx)).size (HL2.out.1.ext hx) hst
    have MY := Lib.hid fun (W : World) (hx : Ext w2 W) => srmay_any bs2 v2 T2 V a b c W (fun k _ => Nat.le_trans (HTL.out k) (by decide)) (HL2.out.1.ext hx)
    rw [hst] at MY
    have HX2w := Lib.hid HX2.out
    have HX2 := Lib.hid (Ext.refl w2)
    clear hst
    go_upto_region 6 with (first
      | (refine wpList_load_row rfl 56 _ rfl (N) rfl 56 (stC v2 V a b c) (0, 0) _ (HS2.out) Tryz.underlying56 rfl (by kernel_rfl) ?_)
      | (go_at_call 25; refine (OF.out).mono ?_; rintro e w3 ⟨rfl, hx⟩; have HS3 := Lib.hid (HS2.out.ext hx); have HL3 := Lib.hid (And.intro (HL2.out.1.ext hx) (HL2.out.2.ext hx)); have HX3 := Lib.hid (HX2.out.trans hx); clear hx)
      | (refine wpList_store_rowTo rfl 25 _ _ rfl rfl (w3.heap.size) (mfC 0 0 0 zeroV) rfl rfl 25 (mfC 0 0 0 zeroV) (heap_alloc_new w3 _) (by kernel_rfl) rfl (mfC_one _ _ _ _) ?_))
    obtain ⟨W3, hW3⟩ : ∃ W3, (w3.alloc (.cells (mfC 0 0 0 zeroV) 25)).setRow w3.heap.size (mfC 0 0 0 zeroV) = W3 := ⟨_, rfl⟩
    show Code.wp _ _ _ _ ((w3.alloc (.cells (mfC 0 0 0 zeroV) 25)).setRow w3.heap.size (mfC 0 0 0 zeroV))
    rw [hW3]
    have frW3 := fresh_row w3 (mfC 0 0 0 zeroV) (mfC 0 0 0 zeroV) 25
    rw [hW3] at frW3
    clear hW3
    obtain ⟨M3, hM3⟩ : ∃ M3, w3.heap.size = M3 := ⟨_, rfl⟩
    have hgeM3 : w3.heap.size ≤ M3 := Nat.le_of_eq hM3
    rw [hM3] at frW3 ⊢
    have HFW3 : Hid (MfBlk W3 M3 0 0 0 zeroV) := Lib.hid frW3.1
    have HSW3 := Lib.hid (HS3.out.ext frW3.2)
    have HLW3 := Lib.hid (And.intro (HL3.out.1.ext frW3.2) (HL3.out.2.ext frW3.2))
    have HXW3 := Lib.hid (HX3.out.trans frW3.2)
    clear frW3 hM3
    go_upto_region 7 with (first
      | (refine wpList_load_row rfl 56 _ rfl (N) rfl 56 (stC v2 V a b c) (0, 0) _ (HSW3.out) Tryz.underlying56 rfl (by kernel_rfl) ?_)
      | (go_at_call 26; refine (CT.out _ HXW3.out).mono ?_; rintro e w4 ⟨rfl, hx⟩; have HS4 := Lib.hid (HSW3.out.ext hx); have HF4 := Lib.hid (HFW3.out.ext hx); have HL4 := Lib.hid (And.intro (HLW3.out.1.ext hx) (HLW3.out.2.ext hx)); have HX4 := Lib.hid (HXW3.out.trans hx); clear hx))
    obtain ⟨W4, hW4⟩ : ∃ W4, w4.alloc (.cells #[.int .i64 0, .int .i64 0, .slice none 0 0] 50) = W4 := ⟨_, rfl⟩
    show Code.wp _ _ _ _ (w4.alloc (.cells #[.int .i64 0, .int .i64 0, .slice none 0 0] 50))
    rw [hW4]
    have hxW4 : Ext w4 W4 := by rw [← hW4]; exact (Ext.refl w4).alloc _
    have hpW4 : PcBlk W4 w4.heap.size 0 0 (.slice none 0 0) := by rw [← hW4]; exact heap_alloc_new w4 _
    obtain ⟨M4, hM4⟩ : ∃ M4, w4.heap.size = M4 := ⟨_, rfl⟩
    rw [hM4] at hpW4 ⊢
    have HPW4 := Lib.hid hpW4
    have HSW4 := Lib.hid (HS4.out.ext hxW4)
    have HFW4 := Lib.hid (HF4.out.ext hxW4)
    have HLW4 := Lib.hid (And.intro (HL4.out.1.ext hxW4) (HL4.out.2.ext hxW4))
    have HXW4 := Lib.hid (HX4.out.trans hxW4)
    clear hxW4 hpW4 hW4 hM4
    go_upto_region 8 with (first
      | (refine wpList_load_row rfl 56 _ rfl (N) rfl 56 (stC v2 V a b c) (0, 0) _ (HSW4.out) Tryz.underlying56 rfl (by kernel_rfl) ?_)
      | (go_at_call 23; refine (MY.out _ HXW4.out).mono ?_; rintro e w5 ⟨rfl, hx⟩; have HS5 := Lib.hid (HSW4.out.ext hx); have HF5 := Lib.hid (HFW4.out.ext hx); have HP5 := Lib.hid (HPW4.out.ext hx); have HL5 := Lib.hid (And.intro (HLW4.out.1.ext hx) (HLW4.out.2.ext hx)); have HX5 := Lib.hid (HXW4.out.trans hx); clear hx))
    have hmf := fun W => mf_self 0 0 0 zeroV W
    obtain ⟨p0, p1, p2, _, _, _, hpw⟩ := HP5.out.cell
    go_wp2_with (first
      | (refine wpList_load_row rfl 25 _ rfl (M3) rfl 25 (mfC 0 0 0 zeroV) (0, 0) _ (HF5.out) Tryz.underlying25 rfl (by kernel_rfl) ?_)
      | (refine wpList_buildTo rfl 25 _ rfl _ rfl (mfC 0 0 0 zeroV) (by kernel_rfl) ?_)
      | (go_at_call 27; refine (parcels_any 0 0 _ _ [] w5 (by decide) (strs_nil _) (strs_nil _)).mono ?_; rintro e w6 ⟨rfl, hx⟩; have HX6 := Lib.hid (HX5.out.trans hx); clear hx)
      | (go_at_call 13; refine (AW.out _ (HX2w.out.trans HX6.out)).mono ?_; rintro e w7 ⟨rfl, hx⟩; have HX7 := Lib.hid (HX2w.out.trans (HX6.out.trans hx)); clear hx))
    go_ret
    exact ⟨rfl, HX7.out⟩
  | true =>
    have hown := own_of (fun k hk => (HL2.out.1 k hk).1) (store_trunk hst)
    obtain ⟨r1, hr1⟩ : ∃ r1, maniF l T2 V a b c = r1 := ⟨_, rfl⟩
    have hm1 := mani_way hown (l := l) (by omega) a b c
    rw [hr1] at hm1
    obtain ⟨l3, ⟨ma, mb, mc, mL⟩, e3⟩ := r1
    dsimp only at hm1
    obtain ⟨e0, hl3, e1, e2, e4, hm1⟩ := hm1
    have e1 := e1.symm
    have e2 := e2.symm
    have e4 := e4.symm
    subst e0 e1 e2 e4
    have h64 : In64L (mfL a b c mL) := by
      intro u hu
      simp only [mfL, List.mem_cons, List.mem_map, List.mem_range] at hu
      rcases hu with h | h | h | ⟨k, hk, h⟩
      · rw [h]; exact H64.out.1
      · rw [h]; exact H64.out.2.1
      · rw [h]; exact H64.out.2.2
      · obtain ⟨n, e, q⟩ := hm1 k hk
        have := lnum_le q
        rw [← h, e]; constructor <;> omega
    obtain ⟨r5, hr5⟩ : ∃ r5, ofF l3 ⟨(digF (mfL a b c mL)).toArray⟩ = r5 := ⟨_, rfl⟩
    have hl5 := ofF_len l3 ⟨(digF (mfL a b c mL)).toArray⟩
    rw [hr5] at hl5
    obtain ⟨l5, n5, e5⟩ := r5
    obtain ⟨rc, hrc⟩ : ∃ rc, cutR T2 V bk = rc := ⟨_, rfl⟩
    obtain ⟨cb, cver, cs, cf⟩ := rc
    dsimp only at hl5
    have HRC := Lib.hid hrc
    have HA1 := Lib.hid hr1
    have HA5 := Lib.hid hr5
    have HST := Lib.hid hst
    have HI64 := Lib.hid h64
    have HOW := Lib.hid hown
    have MY := Lib.hid fun (W : World) (h : LvsAt W bs2 v2 T2) => (show Calls Tryz.prog 23 #[.agg (stC v2 V a b c)] W fun e w' => e = .returned (.bool true) ∧ Ext W w' from by have q := srmay_any bs2 v2 T2 V a b c W (fun k _ => Nat.le_trans (HTL.out k) (by decide)) h; rw [HST.out] at q; exact q)
    have hmn := fun W => mf_same a b c mL W
    clear hst hown hr1 hm1 h64 hr5 hrc
    go_upto_region 6 with (first
      | (refine wpList_load_row rfl 56 _ rfl (N) rfl 56 (stC v2 V a b c) (0, 0) _ (HS2.out) Tryz.underlying56 rfl (by kernel_rfl) ?_)
      | (go_at_call 25; refine (pof_any _ _ _ _ l bs2 v2 T2 V a b c B0 B0 w2 HM2.out.1 (HE.out.ext HX2.out).signs HB0.out (HE.out.ext HX2.out).pow HB0.out HL2.out.1 HL2.out.2 HST.out (by omega) _ HA1.out).mono ?_; rintro e w3 ⟨tv3, rfl, hT3, hS3⟩; obtain ⟨hM3, _, _, hb3, hk3⟩ := mid_row (cv := .slice none 0 0) (base := 0) (n := 0) (xs := []) HM2.out (World.ownsRow_nil _ _ _ _) (rs_nil _ _ _ _) hT3 hS3; have HM3 := Lib.hid hM3; have HX3 := Lib.hid (Ext.of_below (HX2.out.below.trans (hb3.mono HXW1.out.size))); have HS3 := Lib.hid (HS2.out.kept hk3); have HL3 := Lib.hid (And.intro (HL2.out.1.kept HL2.out.2 hk3) (HL2.out.2.kept hk3)); clear hT3 hS3 hM3 hb3 hk3)
      | (refine wpList_store_rowTo rfl 25 _ _ rfl rfl (w3.heap.size) (mfC a b c mL) rfl rfl 25 (mfC 0 0 0 zeroV) (heap_alloc_new w3 _) (by kernel_rfl) rfl (mfC_one _ _ _ _) ?_))
    obtain ⟨W3, hW3⟩ : ∃ W3, (w3.alloc (.cells (mfC 0 0 0 zeroV) 25)).setRow w3.heap.size (mfC a b c mL) = W3 := ⟨_, rfl⟩
    show Code.wp _ _ _ _ ((w3.alloc (.cells (mfC 0 0 0 zeroV) 25)).setRow w3.heap.size (mfC a b c mL))
    rw [hW3]
    have frW3 := fresh_row w3 (mfC 0 0 0 zeroV) (mfC a b c mL) 25
    rw [hW3] at frW3
    clear hW3
    obtain ⟨M3, hM3⟩ : ∃ M3, w3.heap.size = M3 := ⟨_, rfl⟩
    have hgeM3 : w3.heap.size ≤ M3 := Nat.le_of_eq hM3
    rw [hM3] at frW3 ⊢
    have HFW3 : Hid (MfBlk W3 M3 a b c mL) := Lib.hid frW3.1
    have HSW3 := Lib.hid (HS3.out.ext frW3.2)
    have HLW3 := Lib.hid (And.intro (HL3.out.1.ext frW3.2) (HL3.out.2.ext frW3.2))
    have HMW3 := Lib.hid (HM3.out.ext frW3.2)
    have HXW3 := Lib.hid (HX3.out.trans frW3.2)
    clear frW3 hM3
    go_upto_region 7 with (first
      | (refine wpList_load_row rfl 56 _ rfl (N) rfl 56 (stC v2 V a b c) (0, 0) _ (HSW3.out) Tryz.underlying56 rfl (by kernel_rfl) ?_)
      | (go_at_call 26; refine (cut15_any bs2 v2 T2 V a b c bk B0 W3 (HE.out.ext HXW3.out).signs (HE.out.ext HXW3.out).size HLW3.out.1 HST.out _ HRC.out).mono ?_; rintro e w4 ⟨pc, cc, rfl, hown, hx⟩; have HRS4 := Lib.hid (rs_new HMW3.out hown (Nat.le_refl _)); have HR4 := Lib.hid hown; have HS4 := Lib.hid (HSW3.out.ext hx); have HF4 := Lib.hid (HFW3.out.ext hx); have HL4 := Lib.hid (And.intro (HLW3.out.1.ext hx) (HLW3.out.2.ext hx)); have HM4 := Lib.hid (HMW3.out.ext hx); have HX4 := Lib.hid (HXW3.out.trans hx); clear hown hx))
    obtain ⟨W4, hW4⟩ : ∃ W4, w4.alloc (.cells #[.int .i64 cb, .int .i64 cver, .slice pc cs.length cc] 50) = W4 := ⟨_, rfl⟩
    show Code.wp _ _ _ _ (w4.alloc (.cells #[.int .i64 cb, .int .i64 cver, .slice pc cs.length cc] 50))
    rw [hW4]
    have hxW4 : Ext w4 W4 := by rw [← hW4]; exact (Ext.refl w4).alloc _
    have hpW4 : PcBlk W4 w4.heap.size cb cver (.slice pc cs.length cc) := by rw [← hW4]; exact heap_alloc_new w4 _
    obtain ⟨M4, hM4⟩ : ∃ M4, w4.heap.size = M4 := ⟨_, rfl⟩
    rw [hM4] at hpW4 ⊢
    have HPW4 := Lib.hid hpW4
    have HSW4 := Lib.hid (HS4.out.ext hxW4)
    have HFW4 := Lib.hid (HF4.out.ext hxW4)
    have HLW4 := Lib.hid (And.intro (HL4.out.1.ext hxW4) (HL4.out.2.ext hxW4))
    have HRW4 := Lib.hid (own_ext HR4.out hxW4)
    have HMW4 := Lib.hid (HM4.out.ext hxW4)
    have HXW4 := Lib.hid (HX4.out.trans hxW4)
    clear hxW4 hpW4 hW4 hM4
    go_upto_region 9 with (first
      | (refine wpList_load_row rfl 56 _ rfl (N) rfl 56 (stC v2 V a b c) (0, 0) _ (HSW4.out) Tryz.underlying56 rfl (by kernel_rfl) ?_)
      | (go_at_call 23; refine (MY.out _ HLW4.out.1).mono ?_; rintro e w5 ⟨rfl, hx⟩; have HS5 := Lib.hid (HSW4.out.ext hx); have HF5 := Lib.hid (HFW4.out.ext hx); have HP5 := Lib.hid (HPW4.out.ext hx); have HL5 := Lib.hid (And.intro (HLW4.out.1.ext hx) (HLW4.out.2.ext hx)); have HR5 := Lib.hid (own_ext HRW4.out hx); have HM5 := Lib.hid (HMW4.out.ext hx); have HX5 := Lib.hid (HXW4.out.trans hx); clear hx))
    go_upto_region 10 with (first
      | (refine wpList_load_row rfl 56 _ rfl (N) rfl 56 (stC v2 V a b c) (0, 0) _ (HS5.out) Tryz.underlying56 rfl (by kernel_rfl) ?_)
      | (go_at_call 28; refine (rof15_any _ _ l bs2 v2 T2 V a b c w5 (mid_le HM5.out) HM5.out.2.1 (by omega) HL5.out.1 HL5.out.2 (store_trunk HST.out) _ HA1.out).mono ?_; rintro e w6 ⟨lv6, rfl, ho6, hg6, hk6⟩; obtain ⟨hB6, hrs6, hR6, hb6, hkk6⟩ := list_row HM5.out HR5.out HRS4.out ho6 hg6 hk6; have HM6 := Lib.hid hB6; have HRS6 := Lib.hid hrs6; have HR6 := Lib.hid hR6; have HX6 := Lib.hid (Ext.of_below (HX5.out.below.trans (hb6.mono HXW1.out.size))); have HS6 := Lib.hid (HS5.out.kept hkk6); have HF6 := Lib.hid (HF5.out.kept hkk6); have HP6 := Lib.hid (HP5.out.kept hkk6); have HL6 := Lib.hid (And.intro (HL5.out.1.kept HL5.out.2 hkk6) (HL5.out.2.kept hkk6)); clear ho6 hg6 hk6 hB6 hrs6 hR6 hb6 hkk6)
      | (refine wpList_store_rowTo rfl 25 _ _ rfl rfl (w6.heap.size) (mfC a b c mL) rfl rfl 25 (mfC 0 0 0 zeroV) (heap_alloc_new w6 _) (by kernel_rfl) rfl (mfC_one _ _ _ _) ?_))
    obtain ⟨W6, hW6⟩ : ∃ W6, (w6.alloc (.cells (mfC 0 0 0 zeroV) 25)).setRow w6.heap.size (mfC a b c mL) = W6 := ⟨_, rfl⟩
    show Code.wp _ _ _ _ ((w6.alloc (.cells (mfC 0 0 0 zeroV) 25)).setRow w6.heap.size (mfC a b c mL))
    rw [hW6]
    have frW6 := fresh_row w6 (mfC 0 0 0 zeroV) (mfC a b c mL) 25
    rw [hW6] at frW6
    clear hW6
    obtain ⟨M6, hM6⟩ : ∃ M6, w6.heap.size = M6 := ⟨_, rfl⟩
    have hgeM6 : w6.heap.size ≤ M6 := Nat.le_of_eq hM6
    rw [hM6] at frW6 ⊢
    have HDW6 : Hid (MfBlk W6 M6 a b c mL) := Lib.hid frW6.1
    have HSW6 := Lib.hid (HS6.out.ext frW6.2)
    have HFW6 := Lib.hid (HF6.out.ext frW6.2)
    have HPW6 := Lib.hid (HP6.out.ext frW6.2)
    have HLW6 := Lib.hid (And.intro (HL6.out.1.ext frW6.2) (HL6.out.2.ext frW6.2))
    have HRW6 := Lib.hid (own_ext HR6.out frW6.2)
    have HMW6 := Lib.hid (HM6.out.ext frW6.2)
    have HXW6 := Lib.hid (HX6.out.trans frW6.2)
    clear frW6 hM6
    go_upto_region 14 with (first
      | (refine wpList_load_row rfl 25 _ rfl (M3) rfl 25 (mfC a b c mL) (0, 0) _ (HFW6.out) Tryz.underlying25 rfl (by kernel_rfl) ?_)
      | (refine wpList_load_row rfl 25 _ rfl (M6) rfl 25 (mfC a b c mL) (0, 0) _ (HDW6.out) Tryz.underlying25 rfl (by kernel_rfl) ?_)
      | (go_at_call 29; refine (pnum_r _ _ _ _ l3 a b c mL B0 W6 HMW6.out.1 (HE.out.ext HXW6.out).pow (HE.out.ext HXW6.out).size HI64.out _ HA5.out).mono ?_; rintro e w7 ⟨rfl, tv7, hT7, hk7, ho7⟩; obtain ⟨hM7, hrs7, hR7, hb7, hkk7⟩ := mid_row HMW6.out HRW6.out HRS6.out hT7 ⟨hk7, ho7⟩; have HM7 := Lib.hid hM7; have HRS7 := Lib.hid hrs7; have HR7 := Lib.hid hR7; have HX7 := Lib.hid (Ext.of_below (HXW6.out.below.trans (hb7.mono HXW1.out.size))); have HS7 := Lib.hid (HSW6.out.kept hkk7); have HF7 := Lib.hid (HFW6.out.kept hkk7); have HP7 := Lib.hid (HPW6.out.kept hkk7); have HD7 := Lib.hid (HDW6.out.kept hkk7); have HL7 := Lib.hid (And.intro (HLW6.out.1.kept HLW6.out.2 hkk7) (HLW6.out.2.kept hkk7)); clear hT7 hk7 ho7 hM7 hrs7 hR7 hb7 hkk7)
      | (refine wpList_load_row rfl 25 _ rfl (M6) rfl 25 (mfC a b c mL) (0, 0) _ (HD7.out) Tryz.underlying25 rfl (by kernel_rfl) ?_)
      | (go_at_call 30; refine (rnum_r _ _ l3 a b c mL w7 (by omega) HM7.out.2.1 (mid_le HM7.out) HI64.out _ HA5.out).mono ?_; rintro e w8 ⟨lv8, rfl, ho8, hg8, hk8⟩; obtain ⟨hB8, hrs8, hR8, hb8, hkk8⟩ := list_row HM7.out HR7.out HRS7.out ho8 hg8 hk8; obtain ⟨p8, c8, hv8, _, _⟩ := own_texts ho8; subst hv8; have HM8 := Lib.hid hB8; have HR8 := Lib.hid hR8; have HX8 := Lib.hid (Ext.of_below (HX7.out.below.trans (hb8.mono HXW1.out.size))); have HS8 := Lib.hid (HS7.out.kept hkk8); have HF8 := Lib.hid (HF7.out.kept hkk8); have HP8 := Lib.hid (HP7.out.kept hkk8); have HD8 := Lib.hid (HD7.out.kept hkk8); have HL8 := Lib.hid (And.intro (HL7.out.1.kept HL7.out.2 hkk8) (HL7.out.2.kept hkk8)); clear ho8 hg8 hk8 hB8 hrs8 hR8 hb8 hkk8))
    go_upto_region 16 with (first
      | (go_at_call 31; refine (count_any _ _ _ _ l5 w8 HM8.out.1).mono ?_; rintro e _ ⟨rfl, rfl⟩; skip))
    obtain ⟨p0, p1, p2, _, _, _, hpw⟩ := HP8.out.cell
    by_cases hbk : bk < 0 ∨ 15 < bk
    · obtain ⟨e1, e2, e3, e4⟩ : 0 = cb ∧ 0 = cver ∧ [] = cs ∧ 4 = cf := by
        have e := HRC.out
        unfold cutR at e
        rw [if_pos hbk] at e
        simpa using e
      subst e1 e2 e3 e4
      have PC := Lib.hid (parcels_any 0 0 _ _ [] w8 (by decide) (own_strsAt HR8.out) (strs_nil _))
      rcases hbk with hbk | hbk
      · go_wp2_with (first
          | (go_at_call 27; refine (PC.out).mono ?_; rintro e w9 ⟨rfl, hx⟩; have HX9 := Lib.hid hx; clear hx)
          | (go_at_call 13; refine (AW.out _ (HX8.out.trans HX9.out)).mono ?_; rintro e w10 ⟨rfl, hx⟩; have HX10 := Lib.hid (HX8.out.trans (HX9.out.trans hx)); clear hx))
        go_ret
        exact ⟨rfl, HX10.out⟩
      · have hb1 : (bk < 0) = False := eq_false (by omega)
        go_wp2_with (first
          | (go_at_call 27; refine (PC.out).mono ?_; rintro e w9 ⟨rfl, hx⟩; have HX9 := Lib.hid hx; clear hx)
          | (go_at_call 13; refine (AW.out _ (HX8.out.trans HX9.out)).mono ?_; rintro e w10 ⟨rfl, hx⟩; have HX10 := Lib.hid (HX8.out.trans (HX9.out.trans hx)); clear hx))
        go_ret
        exact ⟨rfl, HX10.out⟩
    obtain ⟨k, rfl⟩ : ∃ k : Nat, bk = (k : Int) := ⟨bk.toNat, by omega⟩
    have hk : k < 16 := by omega
    have hk1 : ((k : Int) < 0) = False := eq_false (by omega)
    have hk2 : ((15 : Int) < (k : Int)) = False := eq_false (by omega)
    obtain ⟨e1, e2, e3, e4⟩ : (k : Int) = cb ∧ V k = cver ∧ bas (chunksF (T2 k)) = cs ∧ 0 = cf := by
      have e := HRC.out
      unfold cutR at e
      rw [if_neg hbk, Int.toNat_natCast] at e
      simpa using e
    subst e1 e2 e4
    have fl := (HOW.out.leaf k hk).1
    have hcl : cs.length ≤ 9223372036854775807 := by
      have := (bas_small (HOW.out.ok k hk) fl).1
      rw [e3] at this; omega
    have CTL := Lib.hid fun (d : Nat) (os : Array Obj) => (rparcel_any bs2 v2 T2 V a b c k hk (more w8 d os) (HL8.out.1.ext ((Ext.refl _).more _ _)) fl).mono fun e w' ⟨cv, h1, h2, h3⟩ => (⟨_, h1, h3, by
      rw [e3] at h2
      obtain ⟨p, cap, rfl⟩ := own_sl h2
      exact ⟨p, cap, rfl, own_strsAt h2⟩⟩ : RetG (more w8 d os) (PcFact (k : Int) (V k) cs) e w')
    have HRG := Lib.hid fun (d : Nat) (os : Array Obj) => row_range (HS8.out.ext ((Ext.refl w8).more d os))
    have HCL := Lib.hid hcl
    clear hbk e3 fl hcl
    go_wp2_with fail
    refine wp_region_grow 4 135 [false, false, false, false] (by kernel_rfl) (by kernel_rfl) rfl ?_
    simp only [List.take_succ_cons, List.take_zero, List.drop_succ_cons, List.drop_zero]
    refine Lex.step rfl ?_; intro K hK; unfold StepG; go_simp; refine hK _ ?_; clear hK K
    refine Lex.step rfl ?_; intro K hK; (refine ⟨.agg (stC v2 V a b c), fun d os => stepG_load_mid (by rfl) 56 _ rfl (N) 0 rfl (stC v2 V a b c).toList _ (HRG.out d os) Tryz.underlying56 rfl (by kernel_rfl) _ rfl, ?_⟩; go_simp; refine hK _ ?_); clear hK K
    refine Lex.step rfl ?_; intro K hK; unfold StepG; go_simp; refine hK _ ?_; clear hK K
    refine Lex.gap 126 (PcFact (k : Int) (V k) cs) rfl (PcFact.upc _ _ _) rfl (fun d os => ?_) ?_
    · unfold StepG
      go_simp
      exact CTL.out d os
    refine Lex.nil fun WW hE => ?_
    obtain ⟨dd, oo, rfl⟩ := hE
    unfold FillH
    rintro _ ⟨pd, cd, rfl, hsd⟩
    unfold FillH
    have HSD := Lib.hid hsd
    clear hsd
    go_wp2_with (first
      | (go_at_call 27; refine (parcels_any (k : Int) (V k) _ _ cs (more w8 dd oo) HCL.out ((own_strsAt HR8.out).ext ((Ext.refl w8).more dd oo)) HSD.out).mono ?_; rintro e w9 ⟨rfl, hx⟩; have HX9 := Lib.hid (((Ext.refl w8).more dd oo).trans hx); clear hx)
      | (go_at_call 13; refine (AW.out _ (HX8.out.trans HX9.out)).mono ?_; rintro e w10 ⟨rfl, hx⟩; have HX10 := Lib.hid (HX8.out.trans (HX9.out.trans hx)); clear hx))
    rw [ends_normal]
    go_wp2_with fail
    go_ret
    exact ⟨rfl, HX10.out⟩
end Go.Proofs.YtpchohjkelopoaaGreatDoor
