/- Lemmas for the claim (texts PT2, what its proof uses of them). -/
import Derived.Test.YtpchohjkelopoaaGreatDoorW28
import Derived.Deep.DeepCutAuto
set_option linter.unusedSimpArgs false
set_option linter.unusedVariables false
set_option maxRecDepth 20000
namespace Go.Proofs.YtpchohjkelopoaaGreatDoor
open Go.RowKit
attribute [go_sem] more_more Array.size_append
theorem kept_fresh {B bt bm : Nat} {tv : Value} {l : List ByteArray} {w w' : World} (h : TabAt B bt bm tv l w) (hk : TabKept bt bm tv.ownBlock w w') {M : Nat} {C : Array Value} (hb : w.heap[M]? = some (.cells C 39 (0, 0))) : w'.heap[M]? = some (.cells C 39 (0, 0)) := (kept_ty h hk hb (by decide) (by decide)).trans hb
theorem fresh_ext {w w' : World} {M : Nat} {o : Obj} (hb : w.heap[M]? = some o) (hx : Ext w w') : w'.heap[M]? = some o := (hx.below.block M (lt_of_heap hb)).trans hb
def StFact (T : Nat → List It) (V : Nat → Int) (a b c : Int) : Fact := fun x W => ∃ bs v, x = .agg (stC v V a b c) ∧ LvsAt W bs v T ∧ LvTy W bs T
theorem StFact.upc (T : Nat → List It) (V : Nat → Int) (a b c : Int) : Upc (StFact T V a b c) := fun x W W' hx ⟨bs, v, h1, h2, h3⟩ => ⟨bs, v, h1, h2.ext hx, h3.ext hx⟩
def TrFact (T : Nat → List It) (V : Nat → Int) : Fact := fun x W => ∃ bs v, x = .agg (trC v V) ∧ LvsAt W bs v T ∧ LvTy W bs T
theorem TrFact.upc (T : Nat → List It) (V : Nat → Int) : Upc (TrFact T V) := fun x W W' hx ⟨bs, v, h1, h2, h3⟩ => ⟨bs, v, h1, h2.ext hx, h3.ext hx⟩
theorem five_all : ∀ k, k < 16 → ∃ j, j < 16 ∧ 5 * j % 16 = k := by decide
set_option maxHeartbeats 32000000 in
theorem pw_walk (B0 : Nat) (bs : Nat → Nat) (v : Nat → Value) (T : Nat → List It) (V : Nat → Int) (a b c : Int) (bst : Nat → Nat) (vt : Nat → Value) (Tt : Nat → List It) (Vt : Nat → Int) (ov : Value) (ps : List Pc) (w : World) (he : Env15 B0 w) (h : ∀ k, k < 16 → LfIn w (bs k) (v k) (T k)) (ha : In64I a) (hb : In64I b) (hc : In64I c) (ht : ∀ k, k < 16 → LfIn w (bst k) (vt k) (Tt k)) (hps : PsAt w ov ps) :
    Calls Tryz.prog 4 #[.agg (stC v V a b c), .agg (trC vt Vt), ov] w fun e w' => e = .returned (.bool true) ∧ Ext w w' := by
  obtain ⟨po, co, rfl, hpf⟩ := ps_form hps
  have HPF := Lib.hid hpf
  obtain ⟨T2, hT2⟩ : ∃ T2 : Nat → List It, (fun k => fewF (T k)) = T2 := ⟨_, rfl⟩
  obtain ⟨T3, hT3⟩ : ∃ T3 : Nat → List It, (fun k => fewF (Tt k)) = T3 := ⟨_, rfl⟩
  have HF := Lib.hid fun (W : World) (hx : Ext w W) => few13_any bs v T V a b c W (fun k hk => (h k hk).ext hx)
  have HG := Lib.hid fun (W : World) (hx : Ext w W) => few_any bst vt Tt Vt W (fun k hk => (ht k hk).ext hx)
  have AW := Lib.hid fun (W : World) (hx : Ext w W) => awake15_any B0 W (he.ext hx)
  have HE := Lib.hid he
  have HTL := Lib.hid (show ∀ k, (T2 k).length ≤ 66 from fun k => by rw [← hT2]; exact fewF_len _)
  have HTM := Lib.hid (show ∀ k, (T3 k).length ≤ 66 from fun k => by rw [← hT3]; exact fewF_len _)
  rw [hT2] at HF
  rw [hT3] at HG
  clear h hps hpf he hT2 hT3 ht ha hb hc
  have hd := two_boxes (w := w) (xs := stC v V a b c) (ys := trC vt Vt) (t := 56) (t' := 29)
  have hxd : Ext w ((w.alloc (.cells (stC v V a b c) 56)).alloc (.cells (trC vt Vt) 29)) := ((Ext.refl w).alloc _).alloc _
  go_enter Tryz.func4, Tryz.ntmps4
  go_upto_region 1 with fail
  obtain ⟨W0, hW0⟩ : ∃ W0, ((w.alloc (.cells (stC v V a b c) 56)).alloc (.cells (trC vt Vt) 29)) = W0 := ⟨_, rfl⟩
  show Code.wp _ _ _ _ ((w.alloc (.cells (stC v V a b c) 56)).alloc (.cells (trC vt Vt) 29))
  obtain ⟨N, hN⟩ : ∃ N, w.heap.size = N := ⟨_, rfl⟩
  have hNw : w.heap.size ≤ N := Nat.le_of_eq hN
  rw [hN] at hd ⊢
  rw [hW0] at hd hxd ⊢
  have HS0 : Hid (StBlk W0 N v V a b c) := Lib.hid hd.1
  have HT0 : Hid (TrBlk W0 (N + 1) vt Vt) := Lib.hid hd.2
  have HX0 := Lib.hid hxd
  clear hd hxd hW0 hN
  have CT1 := Lib.hid fun (d : Nat) (os : Array Obj) => (HF.out (more W0 d os) (HX0.out.more d os)).mono fun e w' ⟨bs2, v2, h1, h2, h3, h4⟩ => (⟨_, h1, h4, bs2, v2, rfl, h2, h3⟩ : RetG (more W0 d os) (StFact T2 V a b c) e w')
  have CT2 := Lib.hid fun (d : Nat) (os : Array Obj) => (HG.out (more W0 d os) (HX0.out.more d os)).mono fun e w' ⟨bs2, v2, h1, h2, h3, h4⟩ => (⟨_, h1, h4, bs2, v2, rfl, h2, h3⟩ : RetG (more W0 d os) (TrFact T3 Vt) e w')
  have HR1 := Lib.hid fun (d : Nat) (os : Array Obj) => row_range (HS0.out.ext ((Ext.refl W0).more d os))
  have HR2 := Lib.hid fun (d : Nat) (os : Array Obj) => row_range (HT0.out.ext ((Ext.refl W0).more d os))
  refine wp_region_grow 4 121 [false, false, false, false] (by kernel_rfl) (by kernel_rfl) rfl ?_
  simp only [List.take_succ_cons, List.take_zero, List.drop_succ_cons, List.drop_zero]
  refine Lex.step rfl ?_; intro K hK; (refine ⟨.agg (stC v V a b c), fun d os => stepG_load_mid (by rfl) 56 _ rfl (N) 0 rfl (stC v V a b c).toList _ (HR1.out d os) Tryz.underlying56 rfl (by kernel_rfl) _ rfl, ?_⟩; go_simp; refine hK _ ?_); clear hK K
  refine Lex.gap 22 (StFact T2 V a b c) rfl (StFact.upc _ _ _ _ _) rfl (fun d os => ?_) ?_
  · unfold StepG
    go_simp
    exact CT1.out d os
  refine Lex.step rfl ?_; intro K hK; (refine ⟨.agg (trC vt Vt), fun d os => stepG_load_mid (by rfl) 29 _ rfl ((N + 1)) 0 rfl (trC vt Vt).toList _ (HR2.out d os) Tryz.underlying29 rfl (by kernel_rfl) _ rfl, ?_⟩; go_simp; refine hK _ ?_); clear hK K
  refine Lex.gap 24 (TrFact T3 Vt) rfl (TrFact.upc _ _) rfl (fun d os => ?_) ?_
  · unfold StepG
    go_simp
    exact CT2.out d os
  refine Lex.nil fun WW hE => ?_
  obtain ⟨dd, oo, rfl⟩ := hE
  have hxm := (Ext.refl W0).more dd oo
  unfold FillH
  rintro _ ⟨bs3, v3, rfl, hl3, hy3⟩
  unfold FillH
  rintro _ ⟨bs2, v2, rfl, hl2, hy2⟩
  unfold FillH
  have HS1 := Lib.hid (HS0.out.ext hxm)
  have HT1 := Lib.hid (HT0.out.ext hxm)
  have HX1 := Lib.hid (HX0.out.trans hxm)
  have HL1 := Lib.hid (And.intro hl2 hy2)
  have HM1 := Lib.hid (And.intro hl3 hy3)
  clear hxm hl2 hy2 hl3 hy3
  obtain ⟨W1, hW1⟩ : ∃ W1, more W0 dd oo = W1 := ⟨_, rfl⟩
  rw [hW1] at HS1 HT1 HX1 HL1 HM1 ⊢
  clear hW1
  have e3 : StBlk (W1.setRow N (stC v2 V a b c)) N v2 V a b c := StBlk.setT HS1.out
  have e4 : TrBlk (W1.setRow N (stC v2 V a b c)) (N + 1) vt Vt := by
    unfold TrBlk
    rw [setRow_other _ _ _ _ (Nat.succ_ne_self N)]; exact HT1.out
  have hL := LvsAt.rowT HL1.out.1 HL1.out.2 HS1.out (by decide) (stC v2 V a b c)
  have hM := LvsAt.rowT HM1.out.1 HM1.out.2 HS1.out (by decide) (stC v2 V a b c)
  have hL2 := LvsAt.rowT hL.1 hL.2 e4 (by decide) (trC v3 Vt)
  have hM2 := LvsAt.rowT hM.1 hM.2 e4 (by decide) (trC v3 Vt)
  have e5 := e3.otherRow (show N ≠ N + 1 by omega) (trC v3 Vt)
  have e6 : TrBlk ((W1.setRow N (stC v2 V a b c)).setRow (N + 1) (trC v3 Vt)) (N + 1) v3 Vt := TrBlk.setRow e4 v3 Vt
  have hx2 := (HX1.out.setRow (g := N) hNw (stC v2 V a b c)).setRow (g := N + 1) (by omega) (trC v3 Vt)
  have HE4 := Lib.hid e4
  clear e3 e4 hL hM
  go_wp2_with (first
    | (refine wpList_store_rowTo rfl 56 _ _ rfl rfl (N) (stC v2 V a b c) rfl rfl 56 (stC v V a b c) (HS1.out) (by kernel_rfl) rfl (stC_one _ _ _ _ _ HL1.out.1.one) ?_)
    | (refine wpList_store_rowTo rfl 29 _ _ rfl rfl (N + 1) (trC v3 Vt) rfl rfl 29 (trC vt Vt) (HE4.out) (by kernel_rfl) rfl (trC_one _ _ HM1.out.1.one) ?_))
  rw [ends_normal]
  obtain ⟨W2, hW2⟩ : ∃ W2, (W1.setRow N (stC v2 V a b c)).setRow (N + 1) (trC v3 Vt) = W2 := ⟨_, rfl⟩
  rw [hW2] at hL2 hM2 e5 e6 hx2 ⊢
  have HS2 := Lib.hid e5
  have HT2 := Lib.hid e6
  have HL2 := Lib.hid hL2
  have HM2 := Lib.hid hM2
  have HX2 := Lib.hid hx2
  clear e5 e6 hL2 hM2 hx2 hW2 HE4
  cases hst : storeB T2 V a b c with
  | false =>
    have MY := Lib.hid fun (W : World) (h : LvsAt W bs2 v2 T2) => (show Calls Tryz.prog 23 #[.agg (stC v2 V a b c)] W fun e w' => e = .returned (.bool false) ∧ Ext W w' from by have q := srmay_any bs2 v2 T2 V a b c W (fun k _ => Nat.le_trans (HTL.out k) (by decide)) h; rw [hst] at q; exact q)
    clear hst
    go_wp2_with (first
      | (refine wpList_load_row rfl 56 _ rfl (N) rfl 56 (stC v2 V a b c) (0, 0) _ (HS2.out) Tryz.underlying56 rfl (by kernel_rfl) ?_)
      | (go_at_call 23; refine (MY.out _ HL2.out.1).mono ?_; rintro e w3 ⟨rfl, hx⟩; have HS3 := Lib.hid (HS2.out.ext hx); have HT3 := Lib.hid (HT2.out.ext hx); have HL3 := Lib.hid (And.intro (HL2.out.1.ext hx) (HL2.out.2.ext hx)); have HM3 := Lib.hid (And.intro (HM2.out.1.ext hx) (HM2.out.2.ext hx)); have HX3 := Lib.hid (HX2.out.trans hx); clear hx)
      | (go_at_call 13; refine (AW.out _ HX3.out).mono ?_; rintro e w4 ⟨rfl, hx⟩; have HX4 := Lib.hid (HX3.out.trans hx); clear hx))
    go_ret
    exact ⟨rfl, HX4.out⟩
  | true =>
  have MY := Lib.hid fun (W : World) (h : LvsAt W bs2 v2 T2) => (show Calls Tryz.prog 23 #[.agg (stC v2 V a b c)] W fun e w' => e = .returned (.bool true) ∧ Ext W w' from by have q := srmay_any bs2 v2 T2 V a b c W (fun k _ => Nat.le_trans (HTL.out k) (by decide)) h; rw [hst] at q; exact q)
  have HST := Lib.hid hst
  clear hst
  cases htr : trunkB T3 Vt with
  | false =>
    have MZ := Lib.hid fun (W : World) (h : LvsAt W bs3 v3 T3) => (show Calls Tryz.prog 11 #[.agg (trC v3 Vt)] W fun e w' => e = .returned (.bool false) ∧ Ext W w' from by have q := rtmay_any bs3 v3 T3 Vt W (fun k _ => Nat.le_trans (HTM.out k) (by decide)) h; rw [htr] at q; exact q)
    clear htr
    go_wp2_with (first
      | (refine wpList_load_row rfl 56 _ rfl (N) rfl 56 (stC v2 V a b c) (0, 0) _ (HS2.out) Tryz.underlying56 rfl (by kernel_rfl) ?_)
      | (go_at_call 23; refine (MY.out _ HL2.out.1).mono ?_; rintro e w3 ⟨rfl, hx⟩; have HS3 := Lib.hid (HS2.out.ext hx); have HT3 := Lib.hid (HT2.out.ext hx); have HL3 := Lib.hid (And.intro (HL2.out.1.ext hx) (HL2.out.2.ext hx)); have HM3 := Lib.hid (And.intro (HM2.out.1.ext hx) (HM2.out.2.ext hx)); have HX3 := Lib.hid (HX2.out.trans hx); clear hx)
      | (refine wpList_load_rowG rfl 29 _ rfl (N + 1) rfl 29 (trC v3 Vt) (0, 0) _ (HT3.out) Tryz.underlying29 rfl (by kernel_rfl) ?_)
      | (go_at_call 11; refine (MZ.out _ HM3.out.1).mono ?_; rintro e w4 ⟨rfl, hx⟩; have HS4 := Lib.hid (HS3.out.ext hx); have HT4 := Lib.hid (HT3.out.ext hx); have HL4 := Lib.hid (And.intro (HL3.out.1.ext hx) (HL3.out.2.ext hx)); have HM4 := Lib.hid (And.intro (HM3.out.1.ext hx) (HM3.out.2.ext hx)); have HX4 := Lib.hid (HX3.out.trans hx); clear hx)
      | (go_at_call 13; refine (AW.out _ HX4.out).mono ?_; rintro e w5 ⟨rfl, hx⟩; have HX5 := Lib.hid (HX4.out.trans hx); clear hx))
    go_ret
    exact ⟨rfl, HX5.out⟩
  | true =>
  have MZ := Lib.hid fun (W : World) (h : LvsAt W bs3 v3 T3) => (show Calls Tryz.prog 11 #[.agg (trC v3 Vt)] W fun e w' => e = .returned (.bool true) ∧ Ext W w' from by have q := rtmay_any bs3 v3 T3 Vt W (fun k _ => Nat.le_trans (HTM.out k) (by decide)) h; rw [htr] at q; exact q)
  have HTR := Lib.hid htr
  have NC := Lib.hid fun (W : World) => new_any W
  have hown := own_of (fun k hk => (HL2.out.1 k hk).1) (store_trunk HST.out)
  have hown3 := own_of (fun k hk => (HM2.out.1 k hk).1) htr
  obtain ⟨r1, hr1⟩ : ∃ r1, maniF [] T2 V a b c = r1 := ⟨_, rfl⟩
  have hm1 := mani_way hown (l := []) (by decide) a b c
  rw [hr1] at hm1
  obtain ⟨l3, ⟨ma, mb, mc, mL⟩, e3⟩ := r1
  dsimp only at hm1
  obtain ⟨e0, hl3, e1, e2, e4, hm1⟩ := hm1
  have e1 := e1.symm
  have e2 := e2.symm
  have e4 := e4.symm
  subst e0 e1 e2 e4
  simp only [List.length_nil, Nat.zero_add] at hl3
  obtain ⟨r2, hr2⟩ : ∃ r2, beginF l3 ⟨a, b, c, mL⟩ T3 Vt = r2 := ⟨_, rfl⟩
  have hm2 := begin_way (m := ⟨a, b, c, mL⟩) hown hown3 (l := l3) (by omega) hm1
  rw [hr2] at hm2
  obtain ⟨l4, ⟨cm, cg, cT, cV⟩, e4⟩ := r2
  dsimp only at hm2
  obtain ⟨e0, hl4, e1, hW2⟩ := hm2
  subst e0 e1
  have HA1 := Lib.hid hr1
  have HA2 := Lib.hid hr2
  have HWY := Lib.hid hW2
  have HOW := Lib.hid hown
  clear htr hown hown3 hr1 hm1 hr2 hW2
  go_upto_region 8 with (first
    | (refine wpList_load_row rfl 56 _ rfl (N) rfl 56 (stC v2 V a b c) (0, 0) _ (HS2.out) Tryz.underlying56 rfl (by kernel_rfl) ?_)
    | (go_at_call 23; refine (MY.out _ HL2.out.1).mono ?_; rintro e w3 ⟨rfl, hx⟩; have HS3 := Lib.hid (HS2.out.ext hx); have HT3 := Lib.hid (HT2.out.ext hx); have HL3 := Lib.hid (And.intro (HL2.out.1.ext hx) (HL2.out.2.ext hx)); have HM3 := Lib.hid (And.intro (HM2.out.1.ext hx) (HM2.out.2.ext hx)); have HX3 := Lib.hid (HX2.out.trans hx); clear hx)
    | (refine wpList_load_rowG rfl 29 _ rfl (N + 1) rfl 29 (trC v3 Vt) (0, 0) _ (HT3.out) Tryz.underlying29 rfl (by kernel_rfl) ?_)
    | (go_at_call 11; refine (MZ.out _ HM3.out.1).mono ?_; rintro e w4 ⟨rfl, hx⟩; have HS4 := Lib.hid (HS3.out.ext hx); have HT4 := Lib.hid (HT3.out.ext hx); have HL4 := Lib.hid (And.intro (HL3.out.1.ext hx) (HL3.out.2.ext hx)); have HM4 := Lib.hid (And.intro (HM3.out.1.ext hx) (HM3.out.2.ext hx)); have HX4 := Lib.hid (HX3.out.trans hx); clear hx)
    | (go_at_call 24; refine (NC.out w4).mono ?_; rintro e w5 ⟨rfl, hT, hx⟩; have HK5 := Lib.hid hT; have HB0 : Hid (B0 ≤ w4.heap.size) := Lib.hid (Nat.le_trans HE.out.size HX4.out.size); have HwB : Hid (w.heap.size ≤ w4.heap.size) := Lib.hid HX4.out.size; have HS5 := Lib.hid (HS4.out.ext hx); have HT5 := Lib.hid (HT4.out.ext hx); have HL5 := Lib.hid (And.intro (HL4.out.1.ext hx) (HL4.out.2.ext hx)); have HM5 := Lib.hid (And.intro (HM4.out.1.ext hx) (HM4.out.2.ext hx)); have HX5 := Lib.hid (HX4.out.trans hx); clear hT hx)
    | (refine wpList_load_row rfl 56 _ rfl (N) rfl 56 (stC v2 V a b c) (0, 0) _ (HS5.out) Tryz.underlying56 rfl (by kernel_rfl) ?_)
    | (go_at_call 25; refine (pof_any _ _ _ _ [] bs2 v2 T2 V a b c B0 B0 w5 HK5.out (HE.out.ext HX5.out).signs HB0.out (HE.out.ext HX5.out).pow HB0.out HL5.out.1 HL5.out.2 HST.out (by decide) _ HA1.out).mono ?_; rintro e w6 ⟨tv6, rfl, hT6, hS6⟩; obtain ⟨hx6, hk6⟩ := tab_step HX5.out HwB.out HK5.out hT6 hS6; have HK6 := Lib.hid hT6; have HX6 := Lib.hid hx6; have HS6 := Lib.hid (HS5.out.kept hk6); have HT6 := Lib.hid (HT5.out.kept hk6); have HL6 := Lib.hid (And.intro (HL5.out.1.kept HL5.out.2 hk6) (HL5.out.2.kept hk6)); have HM6 := Lib.hid (And.intro (HM5.out.1.kept HM5.out.2 hk6) (HM5.out.2.kept hk6)); clear hT6 hS6 hx6 hk6)
    | (refine wpList_store_rowTo rfl 25 _ _ rfl rfl (w6.heap.size) (mfC a b c mL) rfl rfl 25 (mfC 0 0 0 zeroV) (heap_alloc_new w6 _) (by kernel_rfl) rfl (mfC_one _ _ _ _) ?_))
  obtain ⟨W6, hW6⟩ : ∃ W6, (w6.alloc (.cells (mfC 0 0 0 zeroV) 25)).setRow w6.heap.size (mfC a b c mL) = W6 := ⟨_, rfl⟩
  show Code.wp _ _ _ _ ((w6.alloc (.cells (mfC 0 0 0 zeroV) 25)).setRow w6.heap.size (mfC a b c mL))
  rw [hW6]
  have frW6 := fresh_row w6 (mfC 0 0 0 zeroV) (mfC a b c mL) 25
  rw [hW6] at frW6
  clear hW6
  obtain ⟨M6, hM6⟩ : ∃ M6, w6.heap.size = M6 := ⟨_, rfl⟩
  have hgeM6 : w6.heap.size ≤ M6 := Nat.le_of_eq hM6
  rw [hM6] at frW6 ⊢
  have HFW6 : Hid (MfBlk W6 M6 a b c mL) := Lib.hid frW6.1
  have HSW6 := Lib.hid (HS6.out.ext frW6.2)
  have HTW6 := Lib.hid (HT6.out.ext frW6.2)
  have HLW6 := Lib.hid (And.intro (HL6.out.1.ext frW6.2) (HL6.out.2.ext frW6.2))
  have HMW6 := Lib.hid (And.intro (HM6.out.1.ext frW6.2) (HM6.out.2.ext frW6.2))
  have HKW6 := Lib.hid (HK6.out.ext frW6.2)
  have HXW6 := Lib.hid (HX6.out.trans frW6.2)
  clear frW6 hM6
  go_upto_region 9 with (first
    | (refine wpList_load_row rfl 25 _ rfl (M6) rfl 25 (mfC a b c mL) (0, 0) _ (HFW6.out) Tryz.underlying25 rfl (by kernel_rfl) ?_)
    | (refine wpList_load_row rfl 29 _ rfl (N + 1) rfl 29 (trC v3 Vt) (0, 0) _ (HTW6.out) Tryz.underlying29 rfl (by kernel_rfl) ?_)
    | (go_at_call 10; refine (pbegin_any _ _ _ _ l3 a b c mL bs3 v3 T3 Vt B0 B0 W6 HKW6.out (HE.out.ext HXW6.out).signs HB0.out (HE.out.ext HXW6.out).pow HB0.out HMW6.out.1 HMW6.out.2 HTR.out (by omega) _ HA2.out).mono ?_; rintro e w7 ⟨tv7, bs7, v7, rfl, hT7, hS7, hc7, hy7⟩; obtain ⟨hx7, hk7⟩ := tab_step HXW6.out HwB.out HKW6.out hT7 hS7; have HK7 := Lib.hid hT7; have HX7 := Lib.hid hx7; have HC7 : Hid (LvsAt w7 bs7 v7 cT ∧ LvTy w7 bs7 cT) := Lib.hid (And.intro hc7 hy7); have HS7 := Lib.hid (HSW6.out.kept hk7); have HL7 := Lib.hid (And.intro (HLW6.out.1.kept HLW6.out.2 hk7) (HLW6.out.2.kept hk7)); clear hT7 hS7 hx7 hk7 hc7 hy7)
    | (refine wpList_store_rowTo rfl 39 _ _ rfl rfl (w7.heap.size) (crC a b c mL cg v7 cV) rfl rfl 39 (Tryz.zeroCells39) (heap_alloc_new w7 _) (by kernel_rfl) rfl (crC_one _ _ _ _ _ _ _ HC7.out.1.one) ?_))
  obtain ⟨W7, hW7⟩ : ∃ W7, (w7.alloc (.cells (Tryz.zeroCells39) 39)).setRow w7.heap.size (crC a b c mL cg v7 cV) = W7 := ⟨_, rfl⟩
  show Code.wp _ _ _ _ ((w7.alloc (.cells (Tryz.zeroCells39) 39)).setRow w7.heap.size (crC a b c mL cg v7 cV))
  rw [hW7]
  have frW7 := fresh_row w7 (Tryz.zeroCells39) (crC a b c mL cg v7 cV) 39
  rw [hW7] at frW7
  clear hW7
  obtain ⟨M7, hM7⟩ : ∃ M7, w7.heap.size = M7 := ⟨_, rfl⟩
  have hgeM7 : w7.heap.size ≤ M7 := Nat.le_of_eq hM7
  rw [hM7] at frW7 ⊢
  have HGW7 : Hid (CrBlk W7 M7 a b c mL cg v7 cV) := Lib.hid frW7.1
  have HSW7 := Lib.hid (HS7.out.ext frW7.2)
  have HLW7 := Lib.hid (And.intro (HL7.out.1.ext frW7.2) (HL7.out.2.ext frW7.2))
  have HCW7 := Lib.hid (And.intro (HC7.out.1.ext frW7.2) (HC7.out.2.ext frW7.2))
  have HKW7 := Lib.hid (HK7.out.ext frW7.2)
  have HXW7 := Lib.hid (HX7.out.trans frW7.2)
  clear frW7 hM7
  have hM7w : w.heap.size ≤ M7 := Nat.le_trans HX7.out.size hgeM7
  have HP : Hid (Pw w4.heap.size (w4.heap.size + 1) w4.heap.size N M7 v2 V a b c bs2 T2 mL w tv7 l4 cg cT cV bs7 v7 W7) := Lib.hid ⟨HKW7.out, HSW7.out, HLW7.out.1, HLW7.out.2, HGW7.out, HCW7.out.1, HCW7.out.2, HXW7.out⟩
  have hge7 : w.heap.size ≤ w4.heap.size := HwB.out
  obtain ⟨B, hB⟩ : ∃ B, w4.heap.size = B := ⟨_, rfl⟩
  rw [hB] at HP HB0 HwB hge7 ⊢
  clear hB HKW7 HSW7 HLW7 HGW7 HCW7 HXW7
  go_wp2_with fail
  go_loopw [12] (fun ii wr => ∃ (j : Nat) (tv : Value) (l : List ByteArray) (g : Nat → Bool) (zT : Nat → List It) (zV : Nat → Int) (bsC : Nat → Nat) (vC : Nat → Value), ii = .int .i64 (j : Int) ∧ j ≤ 16 ∧ l.length ≤ 288 + 18 * j ∧ Hid (Pw B (B + 1) B N M7 v2 V a b c bs2 T2 mL w tv l g zT zV bsC vC wr ∧ Way l T2 V ⟨⟨a, b, c, mL⟩, g, zT, zV⟩ ∧ ∀ i, i < j → g (5 * i % 16) = true)) (fun ii _ => 16 - (intOf ii).toNat)
  case atStart => exact ⟨0, tv7, l4, cg, cT, cV, bs7, v7, rfl, Nat.zero_le _, by omega, Lib.hid ⟨HP.out, HWY.out, fun i hi => absurd hi (Nat.not_lt_zero i)⟩⟩
  case round =>
    obtain ⟨j, tv, l, g, zT, zV, bsC, vC, rfl, hj, hll, hH⟩ := hrel
    have HPr := Lib.hid hH.out.1
    have HWr := Lib.hid hH.out.2.1
    have HGr := Lib.hid hH.out.2.2
    clear hH
    by_cases hlt : j < 16
    · have hjI : (j : Int) < 16 := by omega
      have hj0 : (0 : Int) ≤ (j : Int) := by omega
      obtain ⟨ko, hko⟩ : ∃ ko, 5 * j % 16 = ko := ⟨_, rfl⟩
      have hk : ko < 16 := by omega
      have HKO := Lib.hid hko
      by_cases hjl : j < ps.length
      · obtain ⟨x, hx⟩ : ∃ x, ps[j]? = some x := ⟨_, List.getElem?_eq_getElem hjl⟩
        obtain ⟨hin, pb, poff, rfl, c0, c1, c2⟩ := HPF.out j x hx
        have HIN := Lib.hid hin
        have HPC : Hid (PcAt pb (poff + j * 3) x w) := Lib.hid ⟨c0, c1, c2⟩
        have hjlI : (j : Int) < (ps.length : Int) := by omega
        obtain ⟨r, hr⟩ : ∃ r, takeF l ⟨⟨a, b, c, mL⟩, g, zT, zV⟩ x.bk x.ver (fewPS x.ts) = r := ⟨_, rfl⟩
        have hw := take_way HWr.out HOW.out x.bk x.ver (fewPS x.ts)
        rw [hr] at hw
        obtain ⟨l', ⟨⟨ya, yb, yc, yL⟩, yg, yT, yV⟩, er⟩ := r
        dsimp only at hw
        have HTR := Lib.hid hr
        have HTW := Lib.hid hw
        have hl' : l'.length ≤ l.length + 9 := hw.2.1
        clear hx hin c0 c1 c2 hr hw hko
        go_upto_region 15 with fail
        go_cut [13, 14] (fun s13 s14 wx => s14 = .int .i64 er ∧ ∃ M2 tv2 bsY vY, s13 = .pointer (some ⟨M2, 0, none⟩) ∧ Hid (Pw B (B + 1) B N M7 v2 V a b c bs2 T2 mL w tv2 l' g zT zV bsC vC wx ∧ LvsAt wx bsY vY yT ∧ LvTy wx bsY yT ∧ CrBlk wx M2 ya yb yc yL yg vY yV ∧ M7 ≠ M2))
        case first =>
          have HPd := Lib.hid (HPr.out.mono (W' := wr.drew) (by repeat (first | exact Ext.refl _ | apply Ext.alloc | apply Ext.drew)))
          refine wp_region_held_drew (S := (PkS M7 (crC a b c mL g vC zV) pb (poff + j * 3) x)) (by kernel_rfl) (PkS.of HPC.out HPd.out.ext HPd.out.cr) (fun hS => ?_)
          refine wpAnyH_take (i := 0) (oi := _) (v := .agg (crC a b c mL g vC zV)) rfl (by kernel_rfl) (by kernel_rfl) (by kernel_rfl) (fun _ _ _ h => h) (yieldsIf_load_mid (by rfl) _ _ rfl M7 0 rfl (crC a b c mL g vC zV).toList _ (fun W hW => row_range hW.1) Tryz.underlying39 rfl (by kernel_rfl)) hS ?_
          (try simp only [Act.put, List.getElem_toArray, List.getElem_cons_succ, List.getElem_cons_zero, List.setIfInBounds_toArray, List.set_cons_zero, List.set_cons_succ])
          refine wpAnyH_take (i := 1) (oi := _) (v := .pointer (some ⟨B + 1, 0, none⟩)) rfl (by kernel_rfl) (by kernel_rfl) (by kernel_rfl) (fun _ _ _ h => h) (Or.inl ⟨by rfl, fun W hW => by go_simp⟩) hS ?_
          (try simp only [Act.put, List.getElem_toArray, List.getElem_cons_succ, List.getElem_cons_zero, List.setIfInBounds_toArray, List.set_cons_zero, List.set_cons_succ])
          refine wpAnyH_take (i := 2) (oi := _) (v := .slice (some ⟨pb, poff, none⟩) ps.length co) rfl (by kernel_rfl) (by kernel_rfl) (by kernel_rfl) (fun _ _ _ h => h) (Or.inl ⟨by rfl, fun W hW => by go_simp⟩) hS ?_
          (try simp only [Act.put, List.getElem_toArray, List.getElem_cons_succ, List.getElem_cons_zero, List.setIfInBounds_toArray, List.set_cons_zero, List.set_cons_succ])
          refine wpAnyH_take (i := 3) (oi := _) (v := .int .i64 (j : Int)) rfl (by kernel_rfl) (by kernel_rfl) (by kernel_rfl) (fun _ _ _ h => h) (Or.inl ⟨by rfl, fun W hW => by go_simp⟩) hS ?_
          (try simp only [Act.put, List.getElem_toArray, List.getElem_cons_succ, List.getElem_cons_zero, List.setIfInBounds_toArray, List.set_cons_zero, List.set_cons_succ])
          refine wpAnyH_take (i := 4) (oi := _) (v := .pointer (some ⟨pb, poff + j * 3, none⟩)) rfl (by kernel_rfl) (by kernel_rfl) (by kernel_rfl) (fun _ _ _ h => h) (Or.inl ⟨by rfl, fun W hW => by go_simp⟩) hS ?_
          (try simp only [Act.put, List.getElem_toArray, List.getElem_cons_succ, List.getElem_cons_zero, List.setIfInBounds_toArray, List.set_cons_zero, List.set_cons_succ])
          refine wpAnyH_take (i := 5) (oi := _) (v := .agg #[.int .i64 x.bk, .int .i64 x.ver, x.pv]) rfl (by kernel_rfl) (by kernel_rfl) (by kernel_rfl) (fun _ _ _ h => h) (Or.inl ⟨by rfl, fun W hW => by (obtain ⟨_, q0, q1, q2⟩ := hW; go_simp)⟩) hS ?_
          (try simp only [Act.put, List.getElem_toArray, List.getElem_cons_succ, List.getElem_cons_zero, List.setIfInBounds_toArray, List.set_cons_zero, List.set_cons_succ])
          refine wpAnyH_ready (rs := [6, 11]) (by kernel_rfl) (by simp) ?_
          refine AllReadyH.cons (o := _) rfl (fun K hK => ?_) (AllReadyH.cons (o := _) rfl (fun K hK => ?_) AllReadyH.nil)
          · rw [if_pos (by rfl)]
            go_simp
            refine (few15_any x.bk x.ver x.pv x.ts _ (HIN.out.1.ext HPd.out.ext) HIN.out.2 trivial).mono ?_
            rintro e W1 ⟨fv, rfl, hf, hxf⟩
            obtain ⟨pf, cf, hfv⟩ := own_sl hf
            subst hfv
            have HF1 := Lib.hid hf
            have HP1 := Lib.hid (HPd.out.mono hxf)
            have hx1 : Ext wr W1 := Ext.trans (by repeat (first | exact Ext.refl _ | apply Ext.alloc | apply Ext.drew)) hxf
            clear hf hxf
            refine hK.out _ _ (PkS.of HPC.out HP1.out.ext HP1.out.cr) (fun hS1 => ?_)
            clear hK K
            (try simp only [Act.put, List.getElem_toArray, List.getElem_cons_succ, List.getElem_cons_zero, List.setIfInBounds_toArray, List.set_cons_zero, List.set_cons_succ])
            refine wpAnyH_ready (rs := [7, 11]) (by kernel_rfl) (by simp) ?_
            refine AllReadyH.cons (o := _) rfl (fun K hK => ?_) (AllReadyH.cons (o := _) rfl (fun K hK => ?_) AllReadyH.nil)
            · rw [if_pos (by rfl)]
              go_simp
              refine (ptake_any _ _ _ _ l a b c mL g bsC vC zT zV x.bk x.ver _ _ (fewPS x.ts) B0 B0 _ HP1.out.tab (HE.out.ext HP1.out.ext).signs HB0.out (HE.out.ext HP1.out.ext).pow HB0.out HP1.out.cl HP1.out.cy HF1.out (Nat.le_trans (fewPS_len _) (by decide)) (fun s hs => Nat.le_trans (fewPS_sz _ s hs) (by decide)) (by omega) _ HTR.out).mono ?_
              rintro e W2 ⟨tv2, bsY, vY, rfl, hT2, hS2, hy2, hyy2⟩
              have HP2 := Lib.hid (HP1.out.step HwB.out hT2 hS2)
              have HT2 := Lib.hid (And.intro hT2 (And.intro hS2 (And.intro hy2 hyy2)))
              clear hT2 hS2 hy2 hyy2
              refine hK.out _ _ (PkS.of HPC.out HP2.out.ext HP2.out.cr) (fun hS2 => ?_)
              clear hK K
              (try simp only [Act.put, List.getElem_toArray, List.getElem_cons_succ, List.getElem_cons_zero, List.setIfInBounds_toArray, List.set_cons_zero, List.set_cons_succ])
              refine wpAnyH_take (i := 8) (oi := _) (v := .tuple #[.agg (crC ya yb yc yL yg vY yV), .int .i64 er]) rfl (by kernel_rfl) (by kernel_rfl) (by kernel_rfl) (fun _ _ _ h => h) (Or.inl ⟨by rfl, fun W hW => by (go_simp <;> rfl)⟩) hS2 ?_
              (try simp only [Act.put, List.getElem_toArray, List.getElem_cons_succ, List.getElem_cons_zero, List.setIfInBounds_toArray, List.set_cons_zero, List.set_cons_succ])
              refine wpAnyH_take (i := 9) (oi := _) (v := .agg (crC ya yb yc yL yg vY yV)) rfl (by kernel_rfl) (by kernel_rfl) (by kernel_rfl) (fun _ _ _ h => h) (Or.inl ⟨by rfl, fun W hW => by (go_simp <;> rfl)⟩) hS2 ?_
              (try simp only [Act.put, List.getElem_toArray, List.getElem_cons_succ, List.getElem_cons_zero, List.setIfInBounds_toArray, List.set_cons_zero, List.set_cons_succ])
              refine wpAnyH_take (i := 10) (oi := _) (v := .int .i64 er) rfl (by kernel_rfl) (by kernel_rfl) (by kernel_rfl) (fun _ _ _ h => h) (Or.inl ⟨by rfl, fun W hW => by (go_simp <;> rfl)⟩) hS2 ?_
              (try simp only [Act.put, List.getElem_toArray, List.getElem_cons_succ, List.getElem_cons_zero, List.setIfInBounds_toArray, List.set_cons_zero, List.set_cons_succ])
              refine wpAnyH_ready (rs := [11]) (by kernel_rfl) (by simp) ?_
              refine AllReadyH.cons (o := _) rfl (fun K hK => ?_) AllReadyH.nil
              rw [if_pos (by rfl)]
              go_simp
              have HP3 := Lib.hid (HP2.out.mono (W' := (W2.alloc (.cells Tryz.zeroCells39 39))) (by repeat (first | exact Ext.refl _ | apply Ext.alloc | apply Ext.drew)))
              refine hK.out _ _ (PkS.of HPC.out HP3.out.ext HP3.out.cr) (fun hS3 => ?_)
              clear hK K
              (try simp only [Act.put, List.getElem_toArray, List.getElem_cons_succ, List.getElem_cons_zero, List.setIfInBounds_toArray, List.set_cons_zero, List.set_cons_succ])
              have HFIN := Lib.hid (HPr.out.take HwB.out hx1 HT2.out.1 HT2.out.2.1 HT2.out.2.2.1 HT2.out.2.2.2 (W3 := (W2.alloc (.cells Tryz.zeroCells39 39))) ((Ext.refl W2).alloc _) (M2 := W2.heap.size) (HPr.out.tab |> fun _ => Nat.le_trans hx1.size (HT2.out.2.1.below (HP1.out.tab)).size) (heap_alloc_new W2 _) (crC ya yb yc yL yg vY yV))
              refine wpAnyH_ready (rs := [12]) (by kernel_rfl) (by simp) ?_
              refine AllReadyH.cons (o := _) rfl (fun K hK => ?_) AllReadyH.nil
              rw [if_pos (by rfl)]
              refine wp_store_row 39 _ _ rfl (W2.heap.size) (crC ya yb yc yL yg vY yV) rfl rfl 39 (Tryz.zeroCells39) (heap_alloc_new W2 _) (by kernel_rfl) rfl (crC_one _ _ _ _ _ _ _ HT2.out.2.2.1.one) ?_
              refine hK.out _ _ (PkS.of HPC.out HFIN.out.1.ext HFIN.out.1.cr) (fun hSz => ?_)
              clear hK K
              (try simp only [Act.put, List.getElem_toArray, List.getElem_cons_succ, List.getElem_cons_zero, List.setIfInBounds_toArray, List.set_cons_zero, List.set_cons_succ])
              refine wpAnyH_take (i := 13) (oi := _) (v := .int .i64 er) rfl (by kernel_rfl) (by kernel_rfl) (by kernel_rfl) (fun _ _ _ h => h) (Or.inl ⟨by rfl, fun W hW => by go_simp⟩) hSz ?_
              (try simp only [Act.put, List.getElem_toArray, List.getElem_cons_succ, List.getElem_cons_zero, List.setIfInBounds_toArray, List.set_cons_zero, List.set_cons_succ])
              refine wpAnyH_done (by kernel_rfl) ?_ _
              go_wp2_with fail
              go_meet
              exact ⟨rfl, _, tv2, bsY, vY, rfl, Lib.hid ⟨HFIN.out.1, HFIN.out.2.1, HFIN.out.2.2.1, HFIN.out.2.2.2.1, HFIN.out.2.2.2.2⟩⟩
            · rw [if_pos (by rfl)]
              go_simp
              have HP3 := Lib.hid (HP1.out.mono (W' := (W1.alloc (.cells Tryz.zeroCells39 39))) (by repeat (first | exact Ext.refl _ | apply Ext.alloc | apply Ext.drew)))
              refine hK.out _ _ (PkS.of HPC.out HP3.out.ext HP3.out.cr) (fun hS3 => ?_)
              clear hK K
              (try simp only [Act.put, List.getElem_toArray, List.getElem_cons_succ, List.getElem_cons_zero, List.setIfInBounds_toArray, List.set_cons_zero, List.set_cons_succ])
              refine wpAnyH_ready (rs := [7]) (by kernel_rfl) (by simp) ?_
              refine AllReadyH.cons (o := _) rfl (fun K hK => ?_) AllReadyH.nil
              rw [if_pos (by rfl)]
              go_simp
              refine (ptake_any _ _ _ _ l a b c mL g bsC vC zT zV x.bk x.ver _ _ (fewPS x.ts) B0 B0 _ HP3.out.tab (HE.out.ext HP3.out.ext).signs HB0.out (HE.out.ext HP3.out.ext).pow HB0.out HP3.out.cl HP3.out.cy (own_ext HF1.out ((Ext.refl W1).alloc _)) (Nat.le_trans (fewPS_len _) (by decide)) (fun s hs => Nat.le_trans (fewPS_sz _ s hs) (by decide)) (by omega) _ HTR.out).mono ?_
              rintro e W2 ⟨tv2, bsY, vY, rfl, hT2, hS2, hy2, hyy2⟩
              have HP2 := Lib.hid (HP3.out.step HwB.out hT2 hS2)
              have HT2 := Lib.hid (And.intro hT2 (And.intro hS2 (And.intro hy2 hyy2)))
              clear hT2 hS2 hy2 hyy2
              refine hK.out _ _ (PkS.of HPC.out HP2.out.ext HP2.out.cr) (fun hS2 => ?_)
              clear hK K
              (try simp only [Act.put, List.getElem_toArray, List.getElem_cons_succ, List.getElem_cons_zero, List.setIfInBounds_toArray, List.set_cons_zero, List.set_cons_succ])
              refine wpAnyH_take (i := 8) (oi := _) (v := .tuple #[.agg (crC ya yb yc yL yg vY yV), .int .i64 er]) rfl (by kernel_rfl) (by kernel_rfl) (by kernel_rfl) (fun _ _ _ h => h) (Or.inl ⟨by rfl, fun W hW => by (go_simp <;> rfl)⟩) hS2 ?_
              (try simp only [Act.put, List.getElem_toArray, List.getElem_cons_succ, List.getElem_cons_zero, List.setIfInBounds_toArray, List.set_cons_zero, List.set_cons_succ])
              refine wpAnyH_take (i := 9) (oi := _) (v := .agg (crC ya yb yc yL yg vY yV)) rfl (by kernel_rfl) (by kernel_rfl) (by kernel_rfl) (fun _ _ _ h => h) (Or.inl ⟨by rfl, fun W hW => by (go_simp <;> rfl)⟩) hS2 ?_
              (try simp only [Act.put, List.getElem_toArray, List.getElem_cons_succ, List.getElem_cons_zero, List.setIfInBounds_toArray, List.set_cons_zero, List.set_cons_succ])
              refine wpAnyH_take (i := 10) (oi := _) (v := .int .i64 er) rfl (by kernel_rfl) (by kernel_rfl) (by kernel_rfl) (fun _ _ _ h => h) (Or.inl ⟨by rfl, fun W hW => by (go_simp <;> rfl)⟩) hS2 ?_
              (try simp only [Act.put, List.getElem_toArray, List.getElem_cons_succ, List.getElem_cons_zero, List.setIfInBounds_toArray, List.set_cons_zero, List.set_cons_succ])
              have HFIN := Lib.hid (HPr.out.take HwB.out (hx1.alloc (.cells Tryz.zeroCells39 39)) HT2.out.1 HT2.out.2.1 HT2.out.2.2.1 HT2.out.2.2.2 (W3 := W2) (Ext.refl W2) (M2 := W1.heap.size) hx1.size (kept_fresh HP3.out.tab HT2.out.2.1.1 (heap_alloc_new W1 _)) (crC ya yb yc yL yg vY yV))
              refine wpAnyH_ready (rs := [12]) (by kernel_rfl) (by simp) ?_
              refine AllReadyH.cons (o := _) rfl (fun K hK => ?_) AllReadyH.nil
              rw [if_pos (by rfl)]
              refine wp_store_row 39 _ _ rfl (W1.heap.size) (crC ya yb yc yL yg vY yV) rfl rfl 39 (Tryz.zeroCells39) (kept_fresh HP3.out.tab HT2.out.2.1.1 (heap_alloc_new W1 _)) (by kernel_rfl) rfl (crC_one _ _ _ _ _ _ _ HT2.out.2.2.1.one) ?_
              refine hK.out _ _ (PkS.of HPC.out HFIN.out.1.ext HFIN.out.1.cr) (fun hSz => ?_)
              clear hK K
              (try simp only [Act.put, List.getElem_toArray, List.getElem_cons_succ, List.getElem_cons_zero, List.setIfInBounds_toArray, List.set_cons_zero, List.set_cons_succ])
              refine wpAnyH_take (i := 13) (oi := _) (v := .int .i64 er) rfl (by kernel_rfl) (by kernel_rfl) (by kernel_rfl) (fun _ _ _ h => h) (Or.inl ⟨by rfl, fun W hW => by go_simp⟩) hSz ?_
              (try simp only [Act.put, List.getElem_toArray, List.getElem_cons_succ, List.getElem_cons_zero, List.setIfInBounds_toArray, List.set_cons_zero, List.set_cons_succ])
              refine wpAnyH_done (by kernel_rfl) ?_ _
              go_wp2_with fail
              go_meet
              exact ⟨rfl, _, tv2, bsY, vY, rfl, Lib.hid ⟨HFIN.out.1, HFIN.out.2.1, HFIN.out.2.2.1, HFIN.out.2.2.2.1, HFIN.out.2.2.2.2⟩⟩
          · rw [if_pos (by rfl)]
            go_simp
            have HP0 := Lib.hid (HPr.out.mono (W' := (wr.alloc (.cells Tryz.zeroCells39 39)).drew) (by repeat (first | exact Ext.refl _ | apply Ext.alloc | apply Ext.drew)))
            refine hK.out _ _ (PkS.of HPC.out HP0.out.ext HP0.out.cr) (fun hS0 => ?_)
            clear hK K
            (try simp only [Act.put, List.getElem_toArray, List.getElem_cons_succ, List.getElem_cons_zero, List.setIfInBounds_toArray, List.set_cons_zero, List.set_cons_succ])
            refine wpAnyH_ready (rs := [6]) (by kernel_rfl) (by simp) ?_
            refine AllReadyH.cons (o := _) rfl (fun K hK => ?_) AllReadyH.nil
            rw [if_pos (by rfl)]
            go_simp
            refine (few15_any x.bk x.ver x.pv x.ts _ (HIN.out.1.ext HP0.out.ext) HIN.out.2 trivial).mono ?_
            rintro e W1 ⟨fv, rfl, hf, hxf⟩
            obtain ⟨pf, cf, hfv⟩ := own_sl hf
            subst hfv
            have HF1 := Lib.hid hf
            have HP1 := Lib.hid (HP0.out.mono hxf)
            have hx1 : Ext wr W1 := Ext.trans (by repeat (first | exact Ext.refl _ | apply Ext.alloc | apply Ext.drew)) hxf
            have hx9' := hxf
            clear hf hxf
            refine hK.out _ _ (PkS.of HPC.out HP1.out.ext HP1.out.cr) (fun hS1 => ?_)
            clear hK K
            (try simp only [Act.put, List.getElem_toArray, List.getElem_cons_succ, List.getElem_cons_zero, List.setIfInBounds_toArray, List.set_cons_zero, List.set_cons_succ])
            have hx9 : Ext (wr.alloc (.cells Tryz.zeroCells39 39)).drew W1 := hx9'
            refine wpAnyH_ready (rs := [7]) (by kernel_rfl) (by simp) ?_
            refine AllReadyH.cons (o := _) rfl (fun K hK => ?_) AllReadyH.nil
            rw [if_pos (by rfl)]
            go_simp
            refine (ptake_any _ _ _ _ l a b c mL g bsC vC zT zV x.bk x.ver _ _ (fewPS x.ts) B0 B0 _ HP1.out.tab (HE.out.ext HP1.out.ext).signs HB0.out (HE.out.ext HP1.out.ext).pow HB0.out HP1.out.cl HP1.out.cy HF1.out (Nat.le_trans (fewPS_len _) (by decide)) (fun s hs => Nat.le_trans (fewPS_sz _ s hs) (by decide)) (by omega) _ HTR.out).mono ?_
            rintro e W2 ⟨tv2, bsY, vY, rfl, hT2, hS2, hy2, hyy2⟩
            have HP2 := Lib.hid (HP1.out.step HwB.out hT2 hS2)
            have HT2 := Lib.hid (And.intro hT2 (And.intro hS2 (And.intro hy2 hyy2)))
            clear hT2 hS2 hy2 hyy2
            refine hK.out _ _ (PkS.of HPC.out HP2.out.ext HP2.out.cr) (fun hS2 => ?_)
            clear hK K
            (try simp only [Act.put, List.getElem_toArray, List.getElem_cons_succ, List.getElem_cons_zero, List.setIfInBounds_toArray, List.set_cons_zero, List.set_cons_succ])
            refine wpAnyH_take (i := 8) (oi := _) (v := .tuple #[.agg (crC ya yb yc yL yg vY yV), .int .i64 er]) rfl (by kernel_rfl) (by kernel_rfl) (by kernel_rfl) (fun _ _ _ h => h) (Or.inl ⟨by rfl, fun W hW => by (go_simp <;> rfl)⟩) hS2 ?_
            (try simp only [Act.put, List.getElem_toArray, List.getElem_cons_succ, List.getElem_cons_zero, List.setIfInBounds_toArray, List.set_cons_zero, List.set_cons_succ])
            refine wpAnyH_take (i := 9) (oi := _) (v := .agg (crC ya yb yc yL yg vY yV)) rfl (by kernel_rfl) (by kernel_rfl) (by kernel_rfl) (fun _ _ _ h => h) (Or.inl ⟨by rfl, fun W hW => by (go_simp <;> rfl)⟩) hS2 ?_
            (try simp only [Act.put, List.getElem_toArray, List.getElem_cons_succ, List.getElem_cons_zero, List.setIfInBounds_toArray, List.set_cons_zero, List.set_cons_succ])
            refine wpAnyH_take (i := 10) (oi := _) (v := .int .i64 er) rfl (by kernel_rfl) (by kernel_rfl) (by kernel_rfl) (fun _ _ _ h => h) (Or.inl ⟨by rfl, fun W hW => by (go_simp <;> rfl)⟩) hS2 ?_
            (try simp only [Act.put, List.getElem_toArray, List.getElem_cons_succ, List.getElem_cons_zero, List.setIfInBounds_toArray, List.set_cons_zero, List.set_cons_succ])
            have HFIN := Lib.hid (HPr.out.take HwB.out hx1 HT2.out.1 HT2.out.2.1 HT2.out.2.2.1 HT2.out.2.2.2 (W3 := W2) (Ext.refl W2) (M2 := wr.heap.size) (Nat.le_refl _) (kept_fresh HP1.out.tab HT2.out.2.1.1 (fresh_ext (show (wr.alloc (.cells Tryz.zeroCells39 39)).drew.heap[wr.heap.size]? = _ from heap_alloc_new wr _) hx9)) (crC ya yb yc yL yg vY yV))
            refine wpAnyH_ready (rs := [12]) (by kernel_rfl) (by simp) ?_
            refine AllReadyH.cons (o := _) rfl (fun K hK => ?_) AllReadyH.nil
            rw [if_pos (by rfl)]
            refine wp_store_row 39 _ _ rfl (wr.heap.size) (crC ya yb yc yL yg vY yV) rfl rfl 39 (Tryz.zeroCells39) (kept_fresh HP1.out.tab HT2.out.2.1.1 (fresh_ext (show (wr.alloc (.cells Tryz.zeroCells39 39)).drew.heap[wr.heap.size]? = _ from heap_alloc_new wr _) hx9)) (by kernel_rfl) rfl (crC_one _ _ _ _ _ _ _ HT2.out.2.2.1.one) ?_
            refine hK.out _ _ (PkS.of HPC.out HFIN.out.1.ext HFIN.out.1.cr) (fun hSz => ?_)
            clear hK K
            (try simp only [Act.put, List.getElem_toArray, List.getElem_cons_succ, List.getElem_cons_zero, List.setIfInBounds_toArray, List.set_cons_zero, List.set_cons_succ])
            refine wpAnyH_take (i := 13) (oi := _) (v := .int .i64 er) rfl (by kernel_rfl) (by kernel_rfl) (by kernel_rfl) (fun _ _ _ h => h) (Or.inl ⟨by rfl, fun W hW => by go_simp⟩) hSz ?_
            (try simp only [Act.put, List.getElem_toArray, List.getElem_cons_succ, List.getElem_cons_zero, List.setIfInBounds_toArray, List.set_cons_zero, List.set_cons_succ])
            refine wpAnyH_done (by kernel_rfl) ?_ _
            go_wp2_with fail
            go_meet
            exact ⟨rfl, _, tv2, bsY, vY, rfl, Lib.hid ⟨HFIN.out.1, HFIN.out.2.1, HFIN.out.2.2.1, HFIN.out.2.2.2.1, HFIN.out.2.2.2.2⟩⟩
        case rest =>
          obtain ⟨rfl, M2, tv2, bsY, vY, rfl, hc⟩ := hcut
          have HPq := Lib.hid hc.out.1
          have HYq := Lib.hid (And.intro hc.out.2.1 hc.out.2.2.1)
          have HBq := Lib.hid hc.out.2.2.2.1
          clear hc
          by_cases her : er = 0
          · subst her
            obtain ⟨hw3, hm3, hmono⟩ := HTW.out.2.2 rfl
            simp only [Mf.mk.injEq] at hm3
            obtain ⟨e1, e2, e3, e4⟩ := hm3
            have e1 := e1.symm
            have e2 := e2.symm
            have e3 := e3.symm
            have e4 := e4.symm
            subst e1 e2 e3 e4
            have HWs := Lib.hid hw3
            have HGs : Hid (∀ i, i < j → yg (5 * i % 16) = true) := Lib.hid fun i hi => hmono _ (HGr.out i hi)
            have hps := HPq.out.crate (g' := yg) (cV' := yV) hM7w HYq.out.1 HYq.out.2
            have hls : l'.length ≤ 297 + 18 * j := by omega
            clear hw3 hmono
            go_upto_region 18 with (first
              | (refine wpList_load_row rfl 39 _ rfl (M2) rfl 39 (crC a b c mL yg vY yV) (0, 0) _ (HBq.out) Tryz.underlying39 rfl (by kernel_rfl) ?_)
              | (refine wpList_store_rowTo rfl 39 _ _ rfl rfl (M7) (crC a b c mL yg vY yV) rfl rfl 39 (crC a b c mL g vC zV) (HPq.out.cr) (by kernel_rfl) rfl (crC_one _ _ _ _ _ _ _ HYq.out.1.one) ?_))
            obtain ⟨Ws, hWs⟩ : ∃ Ws, wc.setRow M7 (crC a b c mL yg vY yV) = Ws := ⟨_, rfl⟩
            show Code.wp _ _ _ _ (wc.setRow M7 (crC a b c mL yg vY yV))
            rw [hWs] at hps ⊢
            have HPs := Lib.hid hps
            clear hps hWs
            have hm5 : (5 * (j : Int)) % 16 = (ko : Int) := by have := HKO.out; omega
            obtain ⟨r2, hr2⟩ : ∃ r2, takeF l' ⟨⟨a, b, c, mL⟩, yg, yT, yV⟩ (ko : Int) (V ko) (bas (chunksF (T2 ko))) = r2 := ⟨_, rfl⟩
            have ho2 := take_own HWs.out HOW.out (by omega) ko hk
            have hw2 := take_way HWs.out HOW.out (ko : Int) (V ko) (bas (chunksF (T2 ko)))
            rw [hr2] at ho2 hw2
            obtain ⟨l9, ⟨⟨za, zb, zc, zL⟩, zg, zU, zW⟩, er2⟩ := r2
            dsimp only at ho2 hw2
            have HTS := Lib.hid hr2
            have HO2 := Lib.hid ho2
            have HV2 := Lib.hid hw2
            have hl9 : l9.length ≤ l'.length + 9 := hw2.2.1
            have HSM := Lib.hid (bas_small (HOW.out.ok ko hk) (HOW.out.leaf ko hk).1)
            clear hr2 ho2 hw2
            go_upto_region 21 with (first
              | (refine wpList_load_row rfl 56 _ rfl (N) rfl 56 (stC v2 V a b c) (0, 0) _ (HPs.out.st) Tryz.underlying56 rfl (by kernel_rfl) ?_)
              | (go_at_call 26; refine (cut15_ok bs2 v2 T2 V a b c ko hk B0 Ws (HE.out.ext HPs.out.ext).signs (HE.out.ext HPs.out.ext).size HPs.out.lv HST.out).mono ?_; rintro e w8 ⟨cv, rfl, hown, hx⟩; obtain ⟨pc, cc, hvv⟩ := own_sl hown; subst hvv; have HR8 := Lib.hid hown; have HP8 := Lib.hid (HPs.out.mono hx); clear hx hown))
            obtain ⟨W8, hW8⟩ : ∃ W8, w8.alloc (.cells #[.int .i64 (ko : Int), .int .i64 (V ko), .slice pc (bas (chunksF (T2 ko))).length cc] 50) = W8 := ⟨_, rfl⟩
            show Code.wp _ _ _ _ (w8.alloc (.cells #[.int .i64 (ko : Int), .int .i64 (V ko), .slice pc (bas (chunksF (T2 ko))).length cc] 50))
            rw [hW8]
            have hx8 : Ext w8 W8 := by rw [← hW8]; exact (Ext.refl w8).alloc _
            have hp8 : PcBlk W8 w8.heap.size (ko : Int) (V ko) (.slice pc (bas (chunksF (T2 ko))).length cc) := by rw [← hW8]; exact heap_alloc_new w8 _
            obtain ⟨M8, hM8⟩ : ∃ M8, w8.heap.size = M8 := ⟨_, rfl⟩
            rw [hM8] at hp8 ⊢
            have HPW8 := Lib.hid (HP8.out.mono hx8)
            have HRW8 := Lib.hid (own_ext HR8.out hx8)
            obtain ⟨p0, p1, p2, _, _, _, hpw⟩ := hp8.cell
            clear hx8 hp8 hW8 hM8
            go_upto_region 22 with (first
              | (refine wpList_load_row rfl 39 _ rfl (M7) rfl 39 (crC a b c mL yg vY yV) (0, 0) _ (HPW8.out.cr) Tryz.underlying39 rfl (by kernel_rfl) ?_)
              | (go_at_call 15; refine (ptake_any _ _ _ _ l' a b c mL yg bsY vY yT yV (ko : Int) (V ko) _ _ (bas (chunksF (T2 ko))) B0 B0 W8 HPW8.out.tab (HE.out.ext HPW8.out.ext).signs HB0.out (HE.out.ext HPW8.out.ext).pow HB0.out HPW8.out.cl HPW8.out.cy HRW8.out HSM.out.1 HSM.out.2 (by omega) _ HTS.out).mono ?_; rintro e w9 ⟨tv9, bs9, v9, rfl, hT9, hS9, hc9, hy9⟩; have HP9 := Lib.hid (HPW8.out.step HwB.out hT9 hS9); have HC9 : Hid (LvsAt w9 bs9 v9 zU ∧ LvTy w9 bs9 zU) := Lib.hid (And.intro hc9 hy9); clear hT9 hS9 hc9 hy9 p0 p1 p2 hpw)
              | (refine wpList_store_rowTo rfl 39 _ _ rfl rfl (w9.heap.size) (crC za zb zc zL zg v9 zW) rfl rfl 39 (Tryz.zeroCells39) (heap_alloc_new w9 _) (by kernel_rfl) rfl (crC_one _ _ _ _ _ _ _ HC9.out.1.one) ?_))
            obtain ⟨W9, hW9⟩ : ∃ W9, (w9.alloc (.cells (Tryz.zeroCells39) 39)).setRow w9.heap.size (crC za zb zc zL zg v9 zW) = W9 := ⟨_, rfl⟩
            show Code.wp _ _ _ _ ((w9.alloc (.cells (Tryz.zeroCells39) 39)).setRow w9.heap.size (crC za zb zc zL zg v9 zW))
            rw [hW9]
            have frW9 := fresh_row w9 (Tryz.zeroCells39) (crC za zb zc zL zg v9 zW) 39
            rw [hW9] at frW9
            clear hW9
            obtain ⟨M9, hM9⟩ : ∃ M9, w9.heap.size = M9 := ⟨_, rfl⟩
            rw [hM9] at frW9 ⊢
            have HPW9 := Lib.hid (HP9.out.mono frW9.2)
            have HCW9 := Lib.hid (And.intro (HC9.out.1.ext frW9.2) (HC9.out.2.ext frW9.2))
            have HBW9 : Hid (CrBlk W9 M9 za zb zc zL zg v9 zW) := Lib.hid frW9.1
            clear frW9 hM9
            rcases HO2.out with ⟨h16, hgk⟩ | ⟨h0, hgk⟩
            · have HGK := Lib.hid hgk
              obtain rfl : er2 = 16 := h16
              clear hgk
              go_wp2_with fail
              go_roundw
              case rel => exact ⟨j + 1, tv9, l9, yg, yT, yV, bsY, vY, by go_num, by omega, by omega, Lib.hid ⟨HPW9.out, HV2.out.1, fun i hi => by
                rcases Nat.lt_or_ge i j with h | h
                · exact HGs.out i h
                · obtain rfl : i = j := by omega
                  rw [HKO.out]; exact HGK.out⟩⟩
              case measure => simp [intOf]; omega
            · have HGK := Lib.hid hgk
              obtain rfl : er2 = 0 := h0
              obtain ⟨hw3, hm3, hmono⟩ := HV2.out.2.2 rfl
              simp only [Mf.mk.injEq] at hm3
              obtain ⟨e1, e2, e3, e4⟩ := hm3
              have e1 := e1.symm
              have e2 := e2.symm
              have e3 := e3.symm
              have e4 := e4.symm
              subst e1 e2 e3 e4
              have HW9 := Lib.hid hw3
              have HMO := Lib.hid hmono
              have HPZ := Lib.hid (HPW9.out.crate (g' := zg) (cV' := zW) hM7w HCW9.out.1 HCW9.out.2)
              clear hgk hw3 hmono
              go_wp2_with (first
                | (refine wpList_load_row rfl 39 _ rfl (M9) rfl 39 (crC a b c mL zg v9 zW) (0, 0) _ (HBW9.out) Tryz.underlying39 rfl (by kernel_rfl) ?_)
                | (refine wpList_store_rowTo rfl 39 _ _ rfl rfl (M7) (crC a b c mL zg v9 zW) rfl rfl 39 (crC a b c mL yg vY yV) (HPW9.out.cr) (by kernel_rfl) rfl (crC_one _ _ _ _ _ _ _ HCW9.out.1.one) ?_))
              go_roundw
              case rel => exact ⟨j + 1, tv9, l9, zg, zU, zW, bs9, v9, by go_num, by omega, by omega, Lib.hid ⟨HPZ.out, HW9.out, fun i hi => by
                rcases Nat.lt_or_ge i j with h | h
                · exact HMO.out _ (HGs.out i h)
                · obtain rfl : i = j := by omega
                  rw [HKO.out]; exact HGK.out⟩⟩
              case measure => simp [intOf]; omega
          have her' : (er == 0) = false := by simpa using her
          have HWt := Lib.hid HTW.out.1
          have HPt := Lib.hid HPq.out
          have HGt := Lib.hid HGr.out
          have hlt2 : l'.length ≤ 297 + 18 * j := by omega
          have hm5 : (5 * (j : Int)) % 16 = (ko : Int) := by have := HKO.out; omega
          obtain ⟨r2, hr2⟩ : ∃ r2, takeF l' ⟨⟨a, b, c, mL⟩, g, zT, zV⟩ (ko : Int) (V ko) (bas (chunksF (T2 ko))) = r2 := ⟨_, rfl⟩
          have ho2 := take_own HWt.out HOW.out (by omega) ko hk
          have hw2 := take_way HWt.out HOW.out (ko : Int) (V ko) (bas (chunksF (T2 ko)))
          rw [hr2] at ho2 hw2
          obtain ⟨l9, ⟨⟨za, zb, zc, zL⟩, zg, zU, zW⟩, er2⟩ := r2
          dsimp only at ho2 hw2
          have HTS := Lib.hid hr2
          have HO2 := Lib.hid ho2
          have HV2 := Lib.hid hw2
          have hl9 : l9.length ≤ l'.length + 9 := hw2.2.1
          have HSM := Lib.hid (bas_small (HOW.out.ok ko hk) (HOW.out.leaf ko hk).1)
          clear hr2 ho2 hw2
          go_upto_region 21 with (first
            | (refine wpList_load_row rfl 56 _ rfl (N) rfl 56 (stC v2 V a b c) (0, 0) _ (HPt.out.st) Tryz.underlying56 rfl (by kernel_rfl) ?_)
            | (go_at_call 26; refine (cut15_ok bs2 v2 T2 V a b c ko hk B0 wc (HE.out.ext HPt.out.ext).signs (HE.out.ext HPt.out.ext).size HPt.out.lv HST.out).mono ?_; rintro e w8 ⟨cv, rfl, hown, hx⟩; obtain ⟨pc, cc, hvv⟩ := own_sl hown; subst hvv; have HR8 := Lib.hid hown; have HP8 := Lib.hid (HPt.out.mono hx); clear hx hown))
          obtain ⟨W8, hW8⟩ : ∃ W8, w8.alloc (.cells #[.int .i64 (ko : Int), .int .i64 (V ko), .slice pc (bas (chunksF (T2 ko))).length cc] 50) = W8 := ⟨_, rfl⟩
          show Code.wp _ _ _ _ (w8.alloc (.cells #[.int .i64 (ko : Int), .int .i64 (V ko), .slice pc (bas (chunksF (T2 ko))).length cc] 50))
          rw [hW8]
          have hx8 : Ext w8 W8 := by rw [← hW8]; exact (Ext.refl w8).alloc _
          have hp8 : PcBlk W8 w8.heap.size (ko : Int) (V ko) (.slice pc (bas (chunksF (T2 ko))).length cc) := by rw [← hW8]; exact heap_alloc_new w8 _
          obtain ⟨M8, hM8⟩ : ∃ M8, w8.heap.size = M8 := ⟨_, rfl⟩
          rw [hM8] at hp8 ⊢
          have HPW8 := Lib.hid (HP8.out.mono hx8)
          have HRW8 := Lib.hid (own_ext HR8.out hx8)
          obtain ⟨p0, p1, p2, _, _, _, hpw⟩ := hp8.cell
          clear hx8 hp8 hW8 hM8
          go_upto_region 22 with (first
            | (refine wpList_load_row rfl 39 _ rfl (M7) rfl 39 (crC a b c mL g vC zV) (0, 0) _ (HPW8.out.cr) Tryz.underlying39 rfl (by kernel_rfl) ?_)
            | (go_at_call 15; refine (ptake_any _ _ _ _ l' a b c mL g bsC vC zT zV (ko : Int) (V ko) _ _ (bas (chunksF (T2 ko))) B0 B0 W8 HPW8.out.tab (HE.out.ext HPW8.out.ext).signs HB0.out (HE.out.ext HPW8.out.ext).pow HB0.out HPW8.out.cl HPW8.out.cy HRW8.out HSM.out.1 HSM.out.2 (by omega) _ HTS.out).mono ?_; rintro e w9 ⟨tv9, bs9, v9, rfl, hT9, hS9, hc9, hy9⟩; have HP9 := Lib.hid (HPW8.out.step HwB.out hT9 hS9); have HC9 : Hid (LvsAt w9 bs9 v9 zU ∧ LvTy w9 bs9 zU) := Lib.hid (And.intro hc9 hy9); clear hT9 hS9 hc9 hy9 p0 p1 p2 hpw)
            | (refine wpList_store_rowTo rfl 39 _ _ rfl rfl (w9.heap.size) (crC za zb zc zL zg v9 zW) rfl rfl 39 (Tryz.zeroCells39) (heap_alloc_new w9 _) (by kernel_rfl) rfl (crC_one _ _ _ _ _ _ _ HC9.out.1.one) ?_))
          obtain ⟨W9, hW9⟩ : ∃ W9, (w9.alloc (.cells (Tryz.zeroCells39) 39)).setRow w9.heap.size (crC za zb zc zL zg v9 zW) = W9 := ⟨_, rfl⟩
          show Code.wp _ _ _ _ ((w9.alloc (.cells (Tryz.zeroCells39) 39)).setRow w9.heap.size (crC za zb zc zL zg v9 zW))
          rw [hW9]
          have frW9 := fresh_row w9 (Tryz.zeroCells39) (crC za zb zc zL zg v9 zW) 39
          rw [hW9] at frW9
          clear hW9
          obtain ⟨M9, hM9⟩ : ∃ M9, w9.heap.size = M9 := ⟨_, rfl⟩
          rw [hM9] at frW9 ⊢
          have HPW9 := Lib.hid (HP9.out.mono frW9.2)
          have HCW9 := Lib.hid (And.intro (HC9.out.1.ext frW9.2) (HC9.out.2.ext frW9.2))
          have HBW9 : Hid (CrBlk W9 M9 za zb zc zL zg v9 zW) := Lib.hid frW9.1
          clear frW9 hM9
          rcases HO2.out with ⟨h16, hgk⟩ | ⟨h0, hgk⟩
          · have HGK := Lib.hid hgk
            obtain rfl : er2 = 16 := h16
            clear hgk
            go_wp2_with fail
            go_roundw
            case rel => exact ⟨j + 1, tv9, l9, g, zT, zV, bsC, vC, by go_num, by omega, by omega, Lib.hid ⟨HPW9.out, HV2.out.1, fun i hi => by
              rcases Nat.lt_or_ge i j with h | h
              · exact HGt.out i h
              · obtain rfl : i = j := by omega
                rw [HKO.out]; exact HGK.out⟩⟩
            case measure => simp [intOf]; omega
          · have HGK := Lib.hid hgk
            obtain rfl : er2 = 0 := h0
            obtain ⟨hw3, hm3, hmono⟩ := HV2.out.2.2 rfl
            simp only [Mf.mk.injEq] at hm3
            obtain ⟨e1, e2, e3, e4⟩ := hm3
            have e1 := e1.symm
            have e2 := e2.symm
            have e3 := e3.symm
            have e4 := e4.symm
            subst e1 e2 e3 e4
            have HW9 := Lib.hid hw3
            have HMO := Lib.hid hmono
            have HPZ := Lib.hid (HPW9.out.crate (g' := zg) (cV' := zW) hM7w HCW9.out.1 HCW9.out.2)
            clear hgk hw3 hmono
            go_wp2_with (first
              | (refine wpList_load_row rfl 39 _ rfl (M9) rfl 39 (crC a b c mL zg v9 zW) (0, 0) _ (HBW9.out) Tryz.underlying39 rfl (by kernel_rfl) ?_)
              | (refine wpList_store_rowTo rfl 39 _ _ rfl rfl (M7) (crC a b c mL zg v9 zW) rfl rfl 39 (crC a b c mL g vC zV) (HPW9.out.cr) (by kernel_rfl) rfl (crC_one _ _ _ _ _ _ _ HCW9.out.1.one) ?_))
            go_roundw
            case rel => exact ⟨j + 1, tv9, l9, zg, zU, zW, bs9, v9, by go_num, by omega, by omega, Lib.hid ⟨HPZ.out, HW9.out, fun i hi => by
              rcases Nat.lt_or_ge i j with h | h
              · exact HMO.out _ (HGt.out i h)
              · obtain rfl : i = j := by omega
                rw [HKO.out]; exact HGK.out⟩⟩
            case measure => simp [intOf]; omega
      have hjlI : ¬ ((j : Int) < (ps.length : Int)) := by omega
      clear hjl hko
      have HPn := Lib.hid HPr.out
      have HWn := Lib.hid HWr.out
      have HGn := Lib.hid HGr.out
      have hln : l.length ≤ 297 + 18 * j := by omega
      have hm5 : (5 * (j : Int)) % 16 = (ko : Int) := by have := HKO.out; omega
      obtain ⟨r2, hr2⟩ : ∃ r2, takeF l ⟨⟨a, b, c, mL⟩, g, zT, zV⟩ (ko : Int) (V ko) (bas (chunksF (T2 ko))) = r2 := ⟨_, rfl⟩
      have ho2 := take_own HWn.out HOW.out (by omega) ko hk
      have hw2 := take_way HWn.out HOW.out (ko : Int) (V ko) (bas (chunksF (T2 ko)))
      rw [hr2] at ho2 hw2
      obtain ⟨l9, ⟨⟨za, zb, zc, zL⟩, zg, zU, zW⟩, er2⟩ := r2
      dsimp only at ho2 hw2
      have HTS := Lib.hid hr2
      have HO2 := Lib.hid ho2
      have HV2 := Lib.hid hw2
      have hl9 : l9.length ≤ l.length + 9 := hw2.2.1
      have HSM := Lib.hid (bas_small (HOW.out.ok ko hk) (HOW.out.leaf ko hk).1)
      clear hr2 ho2 hw2
      go_upto_region 21 with (first
        | (refine wpList_load_row rfl 56 _ rfl (N) rfl 56 (stC v2 V a b c) (0, 0) _ (HPn.out.st) Tryz.underlying56 rfl (by kernel_rfl) ?_)
        | (go_at_call 26; refine (cut15_ok bs2 v2 T2 V a b c ko hk B0 wr (HE.out.ext HPn.out.ext).signs (HE.out.ext HPn.out.ext).size HPn.out.lv HST.out).mono ?_; rintro e w8 ⟨cv, rfl, hown, hx⟩; obtain ⟨pc, cc, hvv⟩ := own_sl hown; subst hvv; have HR8 := Lib.hid hown; have HP8 := Lib.hid (HPn.out.mono hx); clear hx hown))
      obtain ⟨W8, hW8⟩ : ∃ W8, w8.alloc (.cells #[.int .i64 (ko : Int), .int .i64 (V ko), .slice pc (bas (chunksF (T2 ko))).length cc] 50) = W8 := ⟨_, rfl⟩
      show Code.wp _ _ _ _ (w8.alloc (.cells #[.int .i64 (ko : Int), .int .i64 (V ko), .slice pc (bas (chunksF (T2 ko))).length cc] 50))
      rw [hW8]
      have hx8 : Ext w8 W8 := by rw [← hW8]; exact (Ext.refl w8).alloc _
      have hp8 : PcBlk W8 w8.heap.size (ko : Int) (V ko) (.slice pc (bas (chunksF (T2 ko))).length cc) := by rw [← hW8]; exact heap_alloc_new w8 _
      obtain ⟨M8, hM8⟩ : ∃ M8, w8.heap.size = M8 := ⟨_, rfl⟩
      rw [hM8] at hp8 ⊢
      have HPW8 := Lib.hid (HP8.out.mono hx8)
      have HRW8 := Lib.hid (own_ext HR8.out hx8)
      obtain ⟨p0, p1, p2, _, _, _, hpw⟩ := hp8.cell
      clear hx8 hp8 hW8 hM8
      go_upto_region 22 with (first
        | (refine wpList_load_row rfl 39 _ rfl (M7) rfl 39 (crC a b c mL g vC zV) (0, 0) _ (HPW8.out.cr) Tryz.underlying39 rfl (by kernel_rfl) ?_)
        | (go_at_call 15; refine (ptake_any _ _ _ _ l a b c mL g bsC vC zT zV (ko : Int) (V ko) _ _ (bas (chunksF (T2 ko))) B0 B0 W8 HPW8.out.tab (HE.out.ext HPW8.out.ext).signs HB0.out (HE.out.ext HPW8.out.ext).pow HB0.out HPW8.out.cl HPW8.out.cy HRW8.out HSM.out.1 HSM.out.2 (by omega) _ HTS.out).mono ?_; rintro e w9 ⟨tv9, bs9, v9, rfl, hT9, hS9, hc9, hy9⟩; have HP9 := Lib.hid (HPW8.out.step HwB.out hT9 hS9); have HC9 : Hid (LvsAt w9 bs9 v9 zU ∧ LvTy w9 bs9 zU) := Lib.hid (And.intro hc9 hy9); clear hT9 hS9 hc9 hy9 p0 p1 p2 hpw)
        | (refine wpList_store_rowTo rfl 39 _ _ rfl rfl (w9.heap.size) (crC za zb zc zL zg v9 zW) rfl rfl 39 (Tryz.zeroCells39) (heap_alloc_new w9 _) (by kernel_rfl) rfl (crC_one _ _ _ _ _ _ _ HC9.out.1.one) ?_))
      obtain ⟨W9, hW9⟩ : ∃ W9, (w9.alloc (.cells (Tryz.zeroCells39) 39)).setRow w9.heap.size (crC za zb zc zL zg v9 zW) = W9 := ⟨_, rfl⟩
      show Code.wp _ _ _ _ ((w9.alloc (.cells (Tryz.zeroCells39) 39)).setRow w9.heap.size (crC za zb zc zL zg v9 zW))
      rw [hW9]
      have frW9 := fresh_row w9 (Tryz.zeroCells39) (crC za zb zc zL zg v9 zW) 39
      rw [hW9] at frW9
      clear hW9
      obtain ⟨M9, hM9⟩ : ∃ M9, w9.heap.size = M9 := ⟨_, rfl⟩
      rw [hM9] at frW9 ⊢
      have HPW9 := Lib.hid (HP9.out.mono frW9.2)
      have HCW9 := Lib.hid (And.intro (HC9.out.1.ext frW9.2) (HC9.out.2.ext frW9.2))
      have HBW9 : Hid (CrBlk W9 M9 za zb zc zL zg v9 zW) := Lib.hid frW9.1
      clear frW9 hM9
      rcases HO2.out with ⟨h16, hgk⟩ | ⟨h0, hgk⟩
      · have HGK := Lib.hid hgk
        obtain rfl : er2 = 16 := h16
        clear hgk
        go_wp2_with fail
        go_roundw
        case rel => exact ⟨j + 1, tv9, l9, g, zT, zV, bsC, vC, by go_num, by omega, by omega, Lib.hid ⟨HPW9.out, HV2.out.1, fun i hi => by
          rcases Nat.lt_or_ge i j with h | h
          · exact HGn.out i h
          · obtain rfl : i = j := by omega
            rw [HKO.out]; exact HGK.out⟩⟩
        case measure => simp [intOf]; omega
      · have HGK := Lib.hid hgk
        obtain rfl : er2 = 0 := h0
        obtain ⟨hw3, hm3, hmono⟩ := HV2.out.2.2 rfl
        simp only [Mf.mk.injEq] at hm3
        obtain ⟨e1, e2, e3, e4⟩ := hm3
        have e1 := e1.symm
        have e2 := e2.symm
        have e3 := e3.symm
        have e4 := e4.symm
        subst e1 e2 e3 e4
        have HW9 := Lib.hid hw3
        have HMO := Lib.hid hmono
        have HPZ := Lib.hid (HPW9.out.crate (g' := zg) (cV' := zW) hM7w HCW9.out.1 HCW9.out.2)
        clear hgk hw3 hmono
        go_wp2_with (first
          | (refine wpList_load_row rfl 39 _ rfl (M9) rfl 39 (crC a b c mL zg v9 zW) (0, 0) _ (HBW9.out) Tryz.underlying39 rfl (by kernel_rfl) ?_)
          | (refine wpList_store_rowTo rfl 39 _ _ rfl rfl (M7) (crC a b c mL zg v9 zW) rfl rfl 39 (crC a b c mL g vC zV) (HPW9.out.cr) (by kernel_rfl) rfl (crC_one _ _ _ _ _ _ _ HCW9.out.1.one) ?_))
        go_roundw
        case rel => exact ⟨j + 1, tv9, l9, zg, zU, zW, bs9, v9, by go_num, by omega, by omega, Lib.hid ⟨HPZ.out, HW9.out, fun i hi => by
          rcases Nat.lt_or_ge i j with h | h
          · exact HMO.out _ (HGn.out i h)
          · obtain rfl : i = j := by omega
            rw [HKO.out]; exact HGK.out⟩⟩
        case measure => simp [intOf]; omega
    obtain rfl : j = 16 := by omega
    have hall : ∀ k, k < 16 → g k = true := fun k hk => by
      obtain ⟨i, hi, e⟩ := five_all k hk
      rw [← e]; exact HGr.out i hi
    obtain ⟨hnd, hdone, hdT⟩ := done_way HWr.out hall a b c HST.out
    dsimp only at hnd hdone hdT
    have HDN := Lib.hid hdone
    have HN3 := Lib.hid hnd
    have HDT := Lib.hid hdT
    clear hall hnd hdone hdT hlt hj
    go_upto_region 27 with (first
      | (refine wpList_load_row rfl 39 _ rfl (M7) rfl 39 (crC a b c mL g vC zV) (0, 0) _ (HPr.out.cr) Tryz.underlying39 rfl (by kernel_rfl) ?_)
      | (go_at_call 19; refine (done_any a b c mL g bsC vC zT zV B0 wr (HE.out.ext HPr.out.ext).signs (HE.out.ext HPr.out.ext).size HPr.out.cl HPr.out.cy _ HDN.out).mono ?_; rintro e w8 ⟨bs8, v8, rfl, hz8, hy8, hx8⟩; have HZ8 : Hid (LvsAt w8 bs8 v8 zT ∧ LvTy w8 bs8 zT) := Lib.hid (And.intro hz8 hy8); have HP8 := Lib.hid (HPr.out.mono hx8); clear hz8 hy8 hx8)
      | (refine wpList_store_rowTo rfl 56 _ _ rfl rfl (w8.heap.size) (stC v8 zV a b c) rfl rfl 56 (stC nilV zeroV 0 0 0) (heap_alloc_new w8 _) (by kernel_rfl) rfl (stC_one _ _ _ _ _ HZ8.out.1.one) ?_))
    obtain ⟨W8, hW8⟩ : ∃ W8, (w8.alloc (.cells (stC nilV zeroV 0 0 0) 56)).setRow w8.heap.size (stC v8 zV a b c) = W8 := ⟨_, rfl⟩
    show Code.wp _ _ _ _ ((w8.alloc (.cells (stC nilV zeroV 0 0 0) 56)).setRow w8.heap.size (stC v8 zV a b c))
    rw [hW8]
    have frW8 := fresh_row w8 (stC nilV zeroV 0 0 0) (stC v8 zV a b c) 56
    rw [hW8] at frW8
    clear hW8
    obtain ⟨M8, hM8⟩ : ∃ M8, w8.heap.size = M8 := ⟨_, rfl⟩
    rw [hM8] at frW8 ⊢
    have HPW8 := Lib.hid (HP8.out.mono frW8.2)
    have HZW8 := Lib.hid (And.intro (HZ8.out.1.ext frW8.2) (HZ8.out.2.ext frW8.2))
    have HYW8 : Hid (StBlk W8 M8 v8 zV a b c) := Lib.hid frW8.1
    clear frW8 hM8
    have heq : stC v8 zV a b c = stC v8 V a b c := stC_congr (fun k hk => (HDT.out k hk).2) a b c
    have SMC := Lib.hid fun (W : World) (hx : Ext W8 W) => (show Calls Tryz.prog 21 #[.agg (stC v8 zV a b c), .agg (stC v2 V a b c)] W fun e w' => e = .returned (.bool true) ∧ Ext W w' from by rw [heq]; exact rsame13_any a b c bs8 bs2 v8 v2 T2 V W (lvs_congr (HZW8.out.1.ext hx) (fun k hk => (HDT.out k hk).1)) (HPW8.out.lv.ext hx) (fun k hk => Nat.le_trans (HTL.out k) (by decide)))
    clear heq
    go_wp2_with (first
      | (refine wpList_load_row rfl 39 _ rfl (M7) rfl 39 (crC a b c mL g vC zV) (0, 0) _ (HPW8.out.cr) Tryz.underlying39 rfl (by kernel_rfl) ?_)
      | (go_at_call 18; refine (need_any _ _ _ _ _ _ _ W8).mono ?_; rintro e w11 ⟨nv, rfl, hown, hx⟩; rw [HN3.out] at hown; obtain ⟨pm, cm, hvv⟩ := own_sl hown; subst hvv; have HX11 := Lib.hid hx; have HY11 := Lib.hid (HYW8.out.ext hx); have HS11 := Lib.hid (HPW8.out.st.ext hx); clear hx hown)
      | (refine wpList_load_rowG rfl 56 _ rfl (M8) rfl 56 (stC v8 zV a b c) (0, 0) _ (HY11.out) Tryz.underlying56 rfl (by kernel_rfl) ?_)
      | (refine wpList_load_rowG rfl 56 _ rfl (N) rfl 56 (stC v2 V a b c) (0, 0) _ (HS11.out) Tryz.underlying56 rfl (by kernel_rfl) ?_)
      | (go_at_call 21; refine (SMC.out w11 HX11.out).mono ?_; rintro e w12 ⟨rfl, hx⟩; have HX12 := Lib.hid (HPW8.out.ext.trans (HX11.out.trans hx)); clear hx)
      | (go_at_call 13; refine (AW.out _ HX12.out).mono ?_; rintro e w13 ⟨rfl, hx⟩; have HX13 := Lib.hid (HX12.out.trans hx); clear hx))
    go_ret
    exact ⟨rfl, HX13.out⟩
end Go.Proofs.YtpchohjkelopoaaGreatDoor
