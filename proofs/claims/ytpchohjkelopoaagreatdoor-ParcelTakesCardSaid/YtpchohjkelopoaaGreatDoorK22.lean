/- Lemmas for the claim (texts PaS, what its proof uses of them). -/
import Derived.Test.YtpchohjkelopoaaGreatDoorK15
import Derived.Test.YtpchohjkelopoaaGreatDoorK21
set_option linter.unusedSimpArgs false
set_option linter.unusedVariables false
set_option maxRecDepth 20000
namespace Go.Proofs.YtpchohjkelopoaaGreatDoor
open Go.RowKit
attribute [go_sem] more_more Array.size_append
/-- the chapter's item, and its edit -/
def xa : It := ⟨⟨#[97]⟩, 2, 1, ⟨#[]⟩, 1⟩
def edC : Array Value := #[.string ⟨#[97]⟩, .int .i64 2, .int .i64 1, .string ⟨#[]⟩]
theorem redit_a (w : World) : Calls Tryz.prog 80 #[.agg #[.string ⟨#[97]⟩, .int .i64 2, .int .i64 1, .string ⟨#[]⟩]] w fun e w' => e = .returned (.bool true) ∧ Ext w w' := by
  have KC := Lib.hid fun W => rkis_any ⟨#[97]⟩ (by decide) W
  have MC := Lib.hid fun W => rmay_any 2 1 ⟨#[]⟩ W
  have k0 : keyB ⟨#[97]⟩ = true := by decide +kernel
  have m0 : mayB 2 1 ⟨#[]⟩ = true := by decide +kernel
  rw [k0] at KC
  rw [m0] at MC
  clear k0 m0
  have HX0 := Lib.hid ((Ext.refl w).alloc (.cells #[.string ⟨#[97]⟩, .int .i64 2, .int .i64 1, .string ⟨#[]⟩] 118))
  have hb := heap_alloc_new w (.cells #[.string ⟨#[97]⟩, .int .i64 2, .int .i64 1, .string ⟨#[]⟩] 118)
  have HB := Lib.hid hb
  clear hb
  go_enter Tryz.func80, Tryz.ntmps80
  go_wp2_with (first
    | (go_at_call 79; refine (KC.out _).mono ?_; rintro e w1 ⟨rfl, hx⟩; have HX1 := Lib.hid (HX0.out.trans hx); have hb1 : w1.heap[w.heap.size]? = _ := (hx.below.block _ (lt_of_heap HB.out)).trans HB.out; have b1 := cell_of_row w1 w.heap.size 1 _ _ _ hb1; have b2 := cell_of_row w1 w.heap.size 2 _ _ _ hb1; have b3 := cell_of_row w1 w.heap.size 3 _ _ _ hb1; have hl := lt_of_heap hb1; clear hx hb1)
    | (go_at_call 107; refine (MC.out _).mono ?_; rintro e w2 ⟨rfl, hx⟩; have HX2 := Lib.hid (HX1.out.trans hx); clear hx))
  go_ret
  exact ⟨rfl, HX2.out⟩
/-- the store of the chapter's example -/
def awT : Nat → List It := upd (tOf []) 1 [xa]
def awV : Nat → Int := upd zeroV 1 1
theorem awT_1 : awT 1 = [xa] := rfl
theorem awT_ne {k : Nat} (h : k ≠ 1) : awT k = [] := by unfold awT; rw [tOf_nil]; simp [upd, h]
theorem awV_ne {k : Nat} (h : k ≠ 1) : awV k = 0 := by unfold awV; simp [upd, h, zeroV]
theorem xa_enc : encB 2 1 ⟨#[]⟩ = [2, 2] := by
  have e : encB 2 1 ⟨#[]⟩ = 2 :: putB (zigZ 1).toNat := by simp [encB]
  rw [e]
  have z : (zigZ 1).toNat = 2 := by decide
  rw [z, putB, if_pos (by omega)]
  rfl
theorem xa_ok : ItOk xa := ⟨by decide, by decide, ⟨by decide, by decide⟩, ⟨by decide, by decide⟩, ⟨by decide, by decide⟩⟩
theorem aw_fits : ∀ k : Nat, k < 16 → fitsB (k : Int) (awT k) (awV k) = true := fun k hk => by
  by_cases e : k = 1
  · subst e; decide +kernel
  · rw [awT_ne e, awV_ne e]; rfl
theorem aw_trunk : trunkB awT awV = true := trunk_yes aw_fits
theorem aw_wt : ∀ n, wtK awT n = if 1 < n then 3 else 0
  | 0 => rfl
  | n + 1 => by
    unfold wtK
    rw [aw_wt n]
    by_cases e : n = 1
    · subst e
      rw [awT_1]
      have : wtL [xa] = 3 := by
        simp only [wtL, wtI, xa]
        rw [xa_enc]; rfl
      rw [this]; rfl
    · rw [awT_ne e]
      have : wtL [] = 0 := rfl
      rw [this]
      by_cases h : 1 < n
      · rw [if_pos h, if_pos (by omega)]
      · rw [if_neg h, if_neg (by omega)]
theorem aw_ct : ctK awT 16 = 1 := by decide +kernel
theorem aw_vers : versB awV 1 = true := by decide +kernel
theorem aw_store : storeB awT awV 1 9 9 = true := by
  rw [storeB_eq, aw_trunk, aw_vers, aw_ct, aw_wt]
  decide
theorem StBlk.frozen {w : World} {N : Nat} {v : Nat → Value} {V : Nat → Int} {a b c : Int} (h : StBlk w N v V a b c) (j : Nat) : w.frozen? ⟨N, j, none⟩ = false := by
  unfold StBlk at h
  simp [World.frozen?, h]
theorem StBlk.setA {w : World} {N : Nat} {v : Nat → Value} {V : Nat → Int} {a b c : Int} (h : StBlk w N v V a b c) (z : Int) : StBlk (w.setCell ⟨N, 32, none⟩ (.int .i64 z)) N v V z b c := by
  unfold StBlk at h ⊢
  simp [World.setCell, Array.getElem?_modify, h, stC]
theorem StBlk.other {w : World} {N M i : Nat} {v : Nat → Value} {V : Nat → Int} {a b c : Int} (h : StBlk w N v V a b c) (hne : N ≠ M) (x : Value) : StBlk (w.setCell ⟨M, i, none⟩ x) N v V a b c := by
  unfold StBlk at h ⊢
  rw [Go.Deep.blk_setCell_other _ _ _ _ hne]; exact h
theorem putC_st2 (v v' : Nat → Value) (V V' : Nat → Int) (a b c : Int) : putC (stC v V a b c) 0 (trC v' V').toList = stC v' V' a b c := by kernel_rfl
theorem fresh_row (w : World) (C C' : Array Value) (t : TypeId) : ((w.alloc (.cells C t)).setRow w.heap.size C').heap[w.heap.size]? = some (.cells C' t (0, 0)) ∧ Ext w ((w.alloc (.cells C t)).setRow w.heap.size C') :=
  ⟨setRow_heap _ _ _ _ _ _ (heap_alloc_new w _), ((Ext.refl w).alloc _).setRow (Nat.le_refl _) _⟩
theorem aw0_store : storeB (tOf []) zeroV 0 9 9 = true := by decide +kernel
theorem results_cell_slot_slot {fn : Func} {p q r : Tmp} {ty : TypeId} (h : fn.results = #[.cell p ty, .tmp q, .tmp r]) (tmps : Array Value) (w : World) (a : Addr) (x0 : Value)
    (hp : tmps.getD p undef = .pointer (some a)) (hl : (loadVar ty a).run Tryz.prog w = .ok x0 w) (x y : Value) (hx : tmps.getD q undef = x) (hy : tmps.getD r undef = y) :
    (results fn tmps).run Tryz.prog w = .ok (.tuple #[x0, x, y]) w := by
  have hp' : tmps[p]?.getD undef = .pointer (some a) := by simpa using hp
  have hx' : tmps[q]?.getD undef = x := by simpa using hx
  have hy' : tmps[r]?.getD undef = y := by simpa using hy
  simp [results, h, hp', hx', hy', asAddr, hl]
/-- the edit's block -/
def EdBlk (w : World) (E : Nat) : Prop := w.heap[E]? = some (.cells edC 118 (0, 0))
theorem EdBlk.ext {w w' : World} {E : Nat} (h : EdBlk w E) (hx : Ext w w') : EdBlk w' E := by
  unfold EdBlk at h ⊢
  rw [hx.below.block _ (lt_of_heap h)]; exact h
theorem EdBlk.cells {w : World} {E : Nat} (h : EdBlk w E) : w.cell? ⟨E, 0, none⟩ = some (.string ⟨#[97]⟩) ∧ w.cell? ⟨E, 1, none⟩ = some (.int .i64 2) ∧ w.cell? ⟨E, 2, none⟩ = some (.int .i64 1) ∧ w.cell? ⟨E, 3, none⟩ = some (.string ⟨#[]⟩) ∧ E < w.heap.size :=
  ⟨cell_of_row w E 0 _ _ _ h, cell_of_row w E 1 _ _ _ h, cell_of_row w E 2 _ _ _ h, cell_of_row w E 3 _ _ _ h, lt_of_heap h⟩
set_option maxHeartbeats 16000000 in
theorem rtake13_a (E : Nat) (w : World) (hE : EdBlk w E) :
    Calls Tryz.prog 54 #[.agg (stC nilV zeroV 0 9 9), .slice (some ⟨E, 0, none⟩) 1 1] w fun e w' => ∃ v', e = .returned (.tuple #[.agg (stC (upd nilV 1 v') (upd zeroV 1 1) 1 9 9), .int .i64 0, .int .i64 0]) ∧ w'.ownsRow w.heap.size 152 5 v' 1 (itCells [xa]) ∧ Ext w w' := by
  have HD : ∀ (W : World), W = ((w.alloc (.cells (stC nilV zeroV 0 9 9) 56)).alloc (.cells (stC nilV zeroV 0 0 0) 56)) → StBlk W w.heap.size nilV zeroV 0 9 9 ∧ StBlk W (w.heap.size + 1) nilV zeroV 0 0 0 ∧ Ext w W := fun W e => by
    rw [e]; exact ⟨two_boxes.1, two_boxes.2, (((Ext.refl w).alloc _).alloc _)⟩
  obtain ⟨e1, e2, e4⟩ := HD _ rfl
  have E1 := Lib.hid e1
  have E2 := Lib.hid e2
  have E4 := Lib.hid e4
  have HE := Lib.hid hE
  have MC := Lib.hid fun (W : World) => srmay_any (fun _ => 0) nilV (tOf []) zeroV 0 9 9 W (by intro k hk; rw [tOf_nil]; simp) (lvs_nil _ _)
  rw [aw0_store] at MC
  clear e1 e2 e4 HD hE
  go_enter Tryz.func54, Tryz.ntmps54
  go_wp2_with (first
    | (refine wpList_load_row rfl 56 _ rfl (w.heap.size) rfl 56 (stC nilV zeroV 0 9 9) (0, 0) _ (E1.out) Tryz.underlying56 rfl (by kernel_rfl) ?_)
    | (go_at_call 23; refine (MC.out _).mono ?_; rintro e w1 ⟨rfl, hx⟩; have E11 := Lib.hid (E1.out.ext hx); have E21 := Lib.hid (E2.out.ext hx); have E41 := Lib.hid (E4.out.trans hx); obtain ⟨t32, t33, t34⟩ := E11.out.tail; have hgN := lt_of_heap E11.out; have f32 := E11.out.frozen 32; have HE1 := Lib.hid (HE.out.ext E41.out); clear hx))
  have EC := Lib.hid fun (W : World) => redit_a W
  obtain ⟨N, hN⟩ : ∃ N, w.heap.size = N := ⟨_, rfl⟩
  have hNw : w.heap.size ≤ N := Nat.le_of_eq hN
  rw [hN] at E11 E21 t32 t33 t34 hgN f32 ⊢
  have HN := Lib.hid hN
  clear hN E1 E2 E4 t33 t34 t32 f32 hgN
  go_loopw [7] (fun ii wr => ∃ j : Nat, ii = .int .i64 (j : Int) ∧ j ≤ 1 ∧ Hid (Ext w1 wr)) (fun ii _ => 1 - (intOf ii).toNat)
  case atStart => exact ⟨0, rfl, Nat.zero_le _, Lib.hid (Ext.refl _)⟩
  case round =>
    obtain ⟨j, rfl, hj, hH⟩ := hrel
    by_cases hlt : j < 1
    · obtain rfl : j = 0 := by omega
      obtain ⟨d0, d1, d2, d3, hEw⟩ := (HE1.out.ext hH.out).cells
      clear hlt hj
      go_wp2_with (go_at_call 80; refine (EC.out _).mono ?_; rintro e w2 ⟨rfl, hx⟩; have HX2 := Lib.hid (hH.out.trans hx); clear hx)
      go_roundw
      case rel => exact ⟨1, by go_num, Nat.le_refl _, HX2⟩
      case measure => simp [intOf]
    have hj1 : (j : Int) = 1 := by omega
    rw [hj1]
    clear hlt hj hj1
    have e12 := E11.out.ext hH.out
    obtain ⟨t32, t33, t34⟩ := e12.tail
    have hgN := lt_of_heap e12
    have f32 := e12.frozen 32
    have E12 := Lib.hid (e12.setA 1)
    have E22 := Lib.hid (StBlk.other (E21.out.ext hH.out) (show N + 1 ≠ N by omega) (i := 32) (.int .i64 1))
    have E42 := Lib.hid ((E41.out.trans hH.out).setCell (p := ⟨N, 32, none⟩) hNw (.int .i64 1))
    have HE2 := Lib.hid (HE.out.ext E42.out)
    clear e12
    go_wp2_with fail
    obtain ⟨W2, hW2⟩ : ∃ W2, wr.setCell ⟨N, 32, none⟩ (.int .i64 1) = W2 := ⟨_, rfl⟩
    rw [hW2] at E12 E22 E42 HE2 ⊢
    clear hW2 t32 t33 t34 hgN f32
    go_loopw [8] (fun ii wr => ∃ j : Nat, ii = .int .i64 (j : Int) ∧ j ≤ 1 ∧ Hid (Ext w wr ∧ StBlk wr (N + 1) nilV zeroV 0 0 0 ∧ (j = 0 → StBlk wr N nilV zeroV 1 9 9) ∧ (j = 1 → ∃ p c, StBlk wr N (upd nilV 1 (.slice p 1 c)) (upd zeroV 1 1) 1 9 9 ∧ wr.ownsRow w.heap.size 152 5 (.slice p 1 c) 1 (itCells [xa])))) (fun ii _ => 1 - (intOf ii).toNat)
    case atStart => exact ⟨0, rfl, Nat.zero_le _, Lib.hid ⟨E42.out, E22.out, fun _ => E12.out, fun h => by cases h⟩⟩
    case round =>
      obtain ⟨j, rfl, hj, hH⟩ := hrel
      by_cases hlt : j < 1
      · obtain rfl : j = 0 := by omega
        have e13 := hH.out.2.2.1 rfl
        obtain ⟨t32, t33, t34⟩ := e13.tail
        have hgN := lt_of_heap e13
        have hed := HE.out.ext hH.out.1
        obtain ⟨d0, d1, d2, d3, hEw⟩ := hed.cells
        have E13 := Lib.hid e13
        clear hlt hj e13 hed
        have HM := heap_alloc_new wr (.cells edC 118)
        have hx4 := (Ext.refl wr).alloc (.cells edC 118)
        go_upto_region 17 with fail
        obtain ⟨W4, hW4⟩ : ∃ W4, wr.alloc (.cells edC 118) = W4 := ⟨_, rfl⟩
        show Code.wp _ _ _ _ (wr.alloc (.cells edC 118))
        obtain ⟨M, hM⟩ : ∃ M, wr.heap.size = M := ⟨_, rfl⟩
        rw [hM] at HM ⊢
        rw [hW4] at HM hx4 ⊢
        have E14 := Lib.hid (E13.out.ext hx4)
        have E24 := Lib.hid (StBlk.ext hH.out.2.1 hx4)
        have E44 := Lib.hid (hH.out.1.trans hx4)
        obtain ⟨t32, t33, t34⟩ := E14.out.tail
        have hgN := lt_of_heap E14.out
        obtain ⟨d0, d1, d2, d3, hEw⟩ := EdBlk.cells HM
        clear HM hx4 hW4 hM
        go_upto_region 18 with (first
          | (refine wpList_load_sub rfl 29 _ rfl (N) 0 rfl 56 (stC nilV zeroV 1 9 9) (trC nilV zeroV) (0, 0) _ (E14.out) Tryz.underlying29 rfl (by kernel_rfl) (stC_tr nilV zeroV 1 9 9) ?_)
          | (refine wpList_buildTo rfl 152 _ rfl _ rfl (#[.string ⟨#[97]⟩, .int .i64 2, .int .i64 1, .string ⟨#[]⟩, .int .i64 1]) (by kernel_rfl) ?_)
          | (go_at_call 82; refine (rput_nil xa 1 (by omega) (by decide) (fun W => rbucket_a W) W4).mono ?_; rintro e w5 ⟨v', rfl, hown, hx⟩; obtain ⟨p, c, hvv⟩ := own_sl hown; subst hvv; have E15 := Lib.hid (E14.out.ext hx); have E25 := Lib.hid (E24.out.ext hx); have E45 := Lib.hid (E44.out.trans hx); have HO5 := Lib.hid (own_mono hown E44.out.size); clear hx hown)
          | (refine wpList_store_rowTo rfl 29 _ _ rfl rfl (w5.heap.size) (trC (upd nilV 1 (.slice p 1 c)) (upd zeroV 1 1)) rfl rfl 29 (trC nilV zeroV) (heap_alloc_new w5 _) (by kernel_rfl) rfl (trC_one _ _ (by intro j hj; unfold upd; split <;> rfl)) ?_))
        have fr := fresh_row w5 (trC nilV zeroV) (trC (upd nilV 1 (.slice p 1 c)) (upd zeroV 1 1)) 29
        obtain ⟨W6, hW6⟩ : ∃ W6, (w5.alloc (.cells (trC nilV zeroV) 29)).setRow w5.heap.size (trC (upd nilV 1 (.slice p 1 c)) (upd zeroV 1 1)) = W6 := ⟨_, rfl⟩
        show Code.wp _ _ _ _ ((w5.alloc (.cells (trC nilV zeroV) 29)).setRow w5.heap.size (trC (upd nilV 1 (.slice p 1 c)) (upd zeroV 1 1)))
        rw [hW6] at fr ⊢
        obtain ⟨M5, hM5⟩ : ∃ M5, w5.heap.size = M5 := ⟨_, rfl⟩
        rw [hM5] at fr ⊢
        have F6 := Lib.hid fr.1
        have E16 := Lib.hid (E15.out.ext fr.2)
        have E26 := Lib.hid (E25.out.ext fr.2)
        have E46 := Lib.hid (E45.out.trans fr.2)
        have HO6 := Lib.hid (own_ext HO5.out fr.2)
        clear fr hW6 hM5
        go_wp2_with (first
          | (refine wpList_load_row rfl 29 _ rfl (M5) rfl 29 (trC (upd nilV 1 (.slice p 1 c)) (upd zeroV 1 1)) (0, 0) _ (F6.out) Tryz.underlying29 rfl (by kernel_rfl) ?_)
          | (refine wpList_store_part rfl 29 _ _ rfl (N) 0 (trC (upd nilV 1 (.slice p 1 c)) (upd zeroV 1 1)) (stC nilV zeroV 1 9 9) (stC (upd nilV 1 (.slice p 1 c)) (upd zeroV 1 1) 1 9 9) _ _ rfl rfl (E16.out) (st_there E16.out) (by kernel_rfl) (trC_one _ _ (by intro j hj; unfold upd; split <;> rfl)) (putC_st2 _ _ _ _ _ _ _) ?_))
        go_roundw
        case rel => exact ⟨1, by go_num, Nat.le_refl _, Lib.hid ⟨E46.out.setRow hNw _, StBlk.otherRow E26.out (Nat.succ_ne_self _) _, (fun h => by cases h), fun _ => ⟨p, c, StBlk.setT E16.out, own_otherR HO6.out E16.out (by decide) _⟩⟩⟩
        case measure => simp [intOf]
      have hj1 : (j : Int) = 1 := by omega
      obtain ⟨p, c, e13, ho3⟩ := hH.out.2.2.2 (by omega)
      have hx3 := hH.out.1
      have e23 := hH.out.2.1
      rw [hj1]
      clear hlt hj hj1 hH
      obtain ⟨t32, t33, t34⟩ := e13.tail
      have hgN := lt_of_heap e13
      have E13 := Lib.hid e13
      have E23 := Lib.hid e23
      have E43 := Lib.hid hx3
      have HO3 := Lib.hid ho3
      clear e13 e23 hx3 ho3
      obtain ⟨b1, o1, o2, _⟩ := own_lf HO3.out rfl (by intro x hx; simp at hx; subst hx; exact xa_ok)
      have hlv : LvsAt wr (upd (fun _ => 0) 1 b1) (upd nilV 1 (.slice p 1 c)) awT := (LvsAt.upd (lvs_nil wr _) (lvty_nil wr _) o1 o2).1
      have HRG := Lib.hid fun (d : Nat) (os : Array Obj) => st_range (E13.out.ext ((Ext.refl wr).more d os))
      have WTC : Hid (∀ (W : World), Ext wr W → Calls Tryz.prog 62 #[.agg (trC (upd nilV 1 (.slice p 1 c)) (upd zeroV 1 1))] W fun e w' => e = .returned (.int .i64 3) ∧ Ext W w') := Lib.hid fun W hx => by
        have := rweight_any _ _ awT awV W (hlv.ext hx) aw_trunk
        rw [aw_wt] at this
        exact this
      have CTL := Lib.hid fun (d : Nat) (os : Array Obj) => (rall_any _ _ awT awV (more wr d os) (hlv.ext ((Ext.refl _).more _ _)) aw_trunk).mono fun e w' ⟨v', h1, h2, h3⟩ => (⟨v', h1, h3, by rw [aw_ct] at h2; exact own_sl h2⟩ : RetG (more wr d os) (SlFact0 1) e w')
      clear hlv o1 o2
      go_wp2_with fail
      refine wp_region_grow 13 108 [false, false, false, false, false, false, false, false, false, false, false, false, false] (by kernel_rfl) (by kernel_rfl) rfl ?_
      simp only [List.take_succ_cons, List.take_zero, List.drop_succ_cons, List.drop_zero]
      refine Lex.step rfl ?_; intro K hK; unfold StepG; go_simp; refine hK _ ?_; clear hK K
      refine Lex.step rfl ?_; intro K hK; (refine ⟨.agg (trC (upd nilV 1 (.slice p 1 c)) (upd zeroV 1 1)), fun d os => stepG_load_mid (by rfl) 29 _ rfl N 0 rfl (trC (upd nilV 1 (.slice p 1 c)) (upd zeroV 1 1)).toList _ (HRG.out d os) Tryz.underlying29 rfl (by kernel_rfl) _ rfl, ?_⟩; go_simp; refine hK _ ?_); clear hK K
      refine Lex.step rfl ?_; intro K hK; unfold StepG; go_simp; with_reducible refine ⟨_, fun d os => (ret1 (WTC.out _ ((Ext.refl _).more _ _))), ?_⟩; go_simp; refine hK _ ?_; clear hK K
      refine Lex.step rfl ?_; intro K hK; unfold StepG; go_simp; refine hK _ ?_; clear hK K
      refine Lex.step rfl ?_; intro K hK; unfold StepG; go_simp; refine hK _ ?_; clear hK K
      refine Lex.step rfl ?_; intro K hK; unfold StepG; go_simp; refine hK _ ?_; clear hK K
      refine Lex.step rfl ?_; intro K hK; unfold StepG; go_simp; refine hK _ ?_; clear hK K
      refine Lex.step rfl ?_; intro K hK; unfold StepG; go_simp; refine hK _ ?_; clear hK K
      refine Lex.step rfl ?_; intro K hK; (refine ⟨.agg (trC (upd nilV 1 (.slice p 1 c)) (upd zeroV 1 1)), fun d os => stepG_load_mid (by rfl) 29 _ rfl N 0 rfl (trC (upd nilV 1 (.slice p 1 c)) (upd zeroV 1 1)).toList _ (HRG.out d os) Tryz.underlying29 rfl (by kernel_rfl) _ rfl, ?_⟩; go_simp; refine hK _ ?_); clear hK K
      refine Lex.gap 98 (SlFact0 1) rfl (SlFact0.upc _) rfl (fun d os => ?_) ?_
      · unfold StepG
        go_simp
        exact CTL.out d os
      refine Lex.go1 (.int .i64 1) 98 _ rfl (fun u d os hu => ?_) ?_
      · obtain ⟨g1, cap1, rfl⟩ := hu
        unfold StepG
        go_simp
      refine Lex.step rfl ?_; intro K hK; unfold StepG; go_simp; refine hK _ ?_; clear hK K
      refine Lex.step rfl ?_; intro K hK; unfold StepG; go_simp; refine hK _ ?_; clear hK K
      refine Lex.nil fun WW hE => ?_
      obtain ⟨dd, oo, rfl⟩ := hE
      unfold FillH
      rintro _ ⟨g1, cap1, rfl⟩
      unfold FillH
      go_wp2_with fail
      rw [ends_normal]
      have hxm := (Ext.refl wr).more dd oo
      have E14 := Lib.hid (E13.out.ext hxm)
      have E24 := Lib.hid (E23.out.ext hxm)
      have E44 := Lib.hid ((E43.out.trans hxm).setRow (g := N + 1) (by omega) (stC (upd nilV 1 (.slice p 1 c)) (upd zeroV 1 1) 1 9 9))
      have HO4 := Lib.hid (own_otherR (own_ext HO3.out hxm) E24.out (by decide) (stC (upd nilV 1 (.slice p 1 c)) (upd zeroV 1 1) 1 9 9))
      clear hxm
      obtain ⟨W8, hW8⟩ : ∃ W8, more wr dd oo = W8 := ⟨_, rfl⟩
      rw [hW8] at E14 E24 E44 HO4 ⊢
      clear hW8
      go_wp2_with (first
        | (refine wpList_load_row rfl 56 _ rfl (N) rfl 56 (stC (upd nilV 1 (.slice p 1 c)) (upd zeroV 1 1) 1 9 9) (0, 0) _ (E14.out) Tryz.underlying56 rfl (by kernel_rfl) ?_)
        | (refine wpList_store_rowTo rfl 56 _ _ rfl rfl (N + 1) (stC (upd nilV 1 (.slice p 1 c)) (upd zeroV 1 1) 1 9 9) rfl rfl 56 (stC nilV zeroV 0 0 0) (E24.out) (by kernel_rfl) rfl (stC_one _ _ _ _ _ (by intro j hj; unfold upd; split <;> rfl)) ?_))
      exact bodyPost_ret (results_cell_slot_slot (p := 4) (q := 5) (r := 6) (ty := 56) rfl _ _ ⟨N + 1, 0, none⟩ _ rfl (st_loadS (StBlk.setT E24.out)) _ _ rfl rfl) rfl ⟨.slice p 1 c, rfl, HO4.out, E44.out⟩
end Go.Proofs.YtpchohjkelopoaaGreatDoor
