/- Lemmas for the claim (texts Bk2, Bk3, what its proof uses of them). -/
import Derived.Test.YtpchohjkelopoaaDoorU12
set_option linter.unusedSimpArgs false
set_option linter.unusedVariables false
set_option maxRecDepth 20000
namespace Go.Proofs.YtpchohjkelopoaaDoor
open Go.RowKit
attribute [go_sem] more_more Array.size_append
/-- what Back hands back -/
def BackPost (w w' : World) (e : Ending) (r : (Nat → List It) × (Nat → Int) × Int) : Prop :=
  ∃ bs v, e = .returned (.tuple #[.agg (trC v r.2.1), .int .i64 r.2.2]) ∧ LvsAt w' bs v r.1 ∧ LvTy w' bs r.1 ∧ Ext w w'
theorem BackPost.none {w w' : World} {er : Int} (hx : Ext w w') : BackPost w w' (.returned (.tuple #[.agg (trC nilV zeroV), .int .i64 er])) (tOf [], vOf [], er) :=
  ⟨fun _ => 0, nilV, by rw [vOf_nil], lvs_nil _ _, lvty_nil _ _, hx⟩
def backQ : Option (List (Int × List It)) × Int → (Nat → List It) × (Nat → Int) × Int
  | (none, e) => (tOf [], vOf [], e)
  | (some ps, _) => if trunkB (tOf ps) (vOf ps) = true then (tOf ps, vOf ps, 0) else (tOf [], vOf [], 1)
theorem backF_yes {l : List ByteArray} {n e : Int} {xs : List Int} (h : leavesF l n = (some xs, e)) : backF l n = backQ (bkF l xs) := by
  unfold backF; rw [h]; simp only
  cases bkF l xs with
  | mk a b => cases a <;> rfl
theorem backF_no {l : List ByteArray} {n e : Int} (h : leavesF l n = (none, e)) : backF l n = (tOf [], vOf [], e) := by unfold backF; rw [h]
theorem nil_one : ∀ k, k < 16 → (nilV k).oneCell' = true := fun _ _ => rfl
theorem bysInfo' : (Tryd.prog.info? 52).map (fun i => (i.zero, i.size, i.bytes)) = some (some (.slice none 0 0), 1, 24) := by kernel_rfl
theorem LvsAt.otherRow {w : World} {bs : Nat → Nat} {v : Nat → Value} {T : Nat → List It} (h : LvsAt w bs v T) (hy : LvTy w bs T) {M : Nat} {v2 : Nat → Value} {V2 : Nat → Int} (hM : TrBlk w M v2 V2) (x : Array Value) : LvsAt (w.setRow M x) bs v T ∧ LvTy (w.setRow M x) bs T := by
  have h1 : LvsTo 16 w bs v T := fun j hj => ⟨h j hj, hy j hj⟩
  exact (h1.otherRow hM x).all
set_option maxHeartbeats 1000000 in
theorem back_no (B bt bm : Nat) (tv : Value) (l : List ByteArray) (n : Int) (w : World) (h : TabAt B bt bm tv l w) (hsz : ∀ s ∈ l, s.size ≤ 100000) (EB PB : Nat) (hE : ErrsAt EB w) (hEB : EB ≤ w.heap.size) (hP : Pow10 PB w) (hPB : PB ≤ w.heap.size)
    (er : Int) (hl : leavesF l n = (none, er)) :
    Calls Tryd.prog 8 #[.pointer (some ⟨bt, 0, none⟩), .int .i64 n] w fun e w' => BackPost w w' e (tOf [], vOf [], er) := by
  have LC := Lib.hid fun (W : World) (hx : Ext w W) => leaves_any B bt bm tv l n W (h.ext hx) (fun s hs => Nat.le_trans (hsz s hs) (by decide)) EB PB (hE.below hx.below hEB) (Nat.le_trans hEB hx.size) (hP.below hx.below hPB) (Nat.le_trans hPB hx.size) _ hl
  have he := leavesF_err (l := l) (n := n)
  rw [hl] at he
  have hne : (er != 0) = true := by rw [bne_iff_ne]; omega
  clear h hsz hE hP hl he
  go_enter Tryd.func8, Tryd.ntmps8
  go_wp2_with (first
    | (go_at_call 9; refine (LC.out _ ((Ext.refl w).alloc _)).mono ?_; rintro e _ ⟨rfl, d1, os1, rfl⟩; have HRB : TrBlk (more (w.alloc (.cells (trC nilV zeroV) 40)) d1 os1) w.heap.size nilV zeroV := by unfold TrBlk; rw [more_heap _ _ _ _ (by simp)]; exact heap_alloc_new w _)
    | (refine wpList_buildTo rfl 40 #[] rfl _ rfl (trC nilV zeroV) (by kernel_rfl) ?_)
    | (refine wpList_store_rowTo rfl 40 _ _ rfl rfl w.heap.size (trC nilV zeroV) rfl rfl 40 (trC nilV zeroV) HRB (by kernel_rfl) rfl (trC_one _ _ nil_one) ?_))
  refine bodyPost_ret (v := .tuple #[.agg (trC nilV zeroV), .int .i64 er]) (results_cell_slot rfl _ _ ⟨w.heap.size, 0, none⟩ _ rfl (tr_load (HRB.setRow nilV zeroV)) _ rfl) rfl (BackPost.none ?_)
  exact (((Ext.refl w).alloc _).more _ _).setRow (Nat.le_refl _) _
set_option maxHeartbeats 2000000 in
theorem back_yes (B bt bm : Nat) (tv : Value) (l : List ByteArray) (n : Int) (w : World) (h : TabAt B bt bm tv l w) (hsz : ∀ s ∈ l, s.size ≤ 100000) (SB EB PB : Nat) (hS : SignsAt SB w) (hSB : SB ≤ w.heap.size) (hE : ErrsAt EB w) (hEB : EB ≤ w.heap.size) (hP : Pow10 PB w) (hPB : PB ≤ w.heap.size)
    (xs : List Int) (hl : leavesF l n = (some xs, 0)) (q : Option (List (Int × List It)) × Int) (hq : bkF l xs = q) (r : (Nat → List It) × (Nat → Int) × Int)
    (hr : r = backQ q) :
    Calls Tryd.prog 8 #[.pointer (some ⟨bt, 0, none⟩), .int .i64 n] w fun e w' => BackPost w w' e r := by
  obtain ⟨i1, hi1, hy0, hy1, hy2⟩ := info_parts bysInfo'
  have LC := Lib.hid fun (W : World) (hx : Ext w W) => leaves_any B bt bm tv l n W (h.ext hx) (fun s hs => Nat.le_trans (hsz s hs) (by decide)) EB PB (hE.below hx.below hEB) (Nat.le_trans hEB hx.size) (hP.below hx.below hPB) (Nat.le_trans hPB hx.size) _ hl
  have CC := Lib.hid fun (u : Int) (W : World) (hx : Ext w W) => rootchunks_any B bt bm tv l u W (h.ext hx) (fun s hs => Nat.le_trans (hsz s hs) (by decide)) EB PB (hE.below hx.below hEB) (Nat.le_trans hEB hx.size) (hP.below hx.below hPB) (Nat.le_trans hPB hx.size)
  have he := leavesF_err (l := l) (n := n)
  rw [hl] at he
  have H16 := Lib.hid he.2
  have HSZ := Lib.hid hsz
  have HS := Lib.hid hS
  have HQ := Lib.hid hq
  have HR := Lib.hid hr
  clear h hsz hE hP hl he hS hq hr
  go_enter Tryd.func8, Tryd.ntmps8
  go_wp2_with (go_at_call 9; refine (LC.out _ ((Ext.refl w).alloc _)).mono ?_; rintro e w1 ⟨v, rfl, hown, h64, hx⟩; rw [H16.out] at hown; obtain ⟨g, cap, rfl, hgl, hc16, hcm, HA⟩ := ints_row H16.out (by omega) hown; have HX := Lib.hid (((Ext.refl w).alloc _).trans hx); have HRB : Hid (TrBlk w1 w.heap.size nilV zeroV) := Lib.hid (by have h1 : TrBlk (w.alloc (.cells (trC nilV zeroV) 40)) w.heap.size nilV zeroV := heap_alloc_new w _; exact h1.ext hx); clear hown h64 hx)
  obtain ⟨R, hR⟩ : ∃ R, w.heap.size = R := ⟨_, rfl⟩
  obtain ⟨O, hO⟩ : ∃ O, w1.heap.size = O := ⟨_, rfl⟩
  have HR0 := Lib.hid hR
  have HO0 := Lib.hid hO
  rw [hR] at HRB
  go_loopw [31] (fun ii wr => ∃ (k : Nat) (ps : List (Int × List It)) (bs : Nat → Nat) (v : Nat → Value), ii = .int .i64 (k : Int) ∧ k ≤ 16 ∧ Hid (ps.length = k ∧ preB ps (bkF l (xs.drop k)) = q ∧ TrBlk wr R nilV zeroV ∧ TrBlk wr O v (vOf ps) ∧ LvsAt wr bs v (tOf ps) ∧ LvTy wr bs (tOf ps) ∧ (∀ (j : Nat) (u : Int), xs[j]? = some u → wr.cell? ⟨g, j, none⟩ = some (.int .i64 u)) ∧ g ≠ O ∧ R ≠ O ∧ Ext w wr)) (fun ii _ => 16 - (intOf ii).toNat)
  case atStart =>
    have hx0 := (Ext.refl w1).alloc (.cells (trC nilV zeroV) 40)
    refine ⟨0, [], fun _ => 0, nilV, rfl, Nat.zero_le _, Lib.hid ⟨rfl, by rw [List.drop_zero, preB_nil]; exact HQ.out, HRB.out.ext hx0, ?_, lvs_nil _ _, lvty_nil _ _, fun j u hj => cell_ext (HA.out j u hj) hx0, by omega, by have := lt_of_heap HRB.out; omega, HX.out.alloc _⟩⟩
    rw [vOf_nil, ← hO]
    exact heap_alloc_new w1 _
  case round =>
    obtain ⟨k, ps, bs, v, rfl, hk16, hH⟩ := hrel
    obtain ⟨W0, rfl⟩ : ∃ W0, W0 = wr := ⟨_, rfl⟩
    have HEX := Lib.hid hH.out.2.2.2.2.2.2.2.2.2
    have hRw : R < W0.heap.size := lt_of_heap hH.out.2.2.1
    have hOw : O < W0.heap.size := lt_of_heap hH.out.2.2.2.1
    rw [hR, hO]
    clear hR hO
    by_cases hk : k < 16
    · obtain ⟨u, hu⟩ : ∃ u, xs[k]? = some u := ⟨_, List.getElem?_eq_getElem (by have := H16.out; omega)⟩
      have cu := hH.out.2.2.2.2.2.2.1 k u hu
      have hgw := World.block_lt_of_cell? _ _ cu
      have hkI : (k : Int) < 16 := by omega
      have hk0 : (0 : Int) ≤ (k : Int) := by omega
      have hdr : xs.drop k = u :: xs.drop (k + 1) := by
        rw [List.drop_eq_getElem?_toList_append, hu]; rfl
      have HQK := Lib.hid hH.out.2.1
      rw [hdr] at HQK
      clear hdr hu
      have RC := Lib.hid (CC.out u W0 HEX.out)
      obtain ⟨rc, hrc⟩ : ∃ rc, rchunksF l u = rc := ⟨_, rfl⟩
      have hre := rchunksF_err (l := l) (n := u)
      rw [hrc] at RC hre
      have HRC := Lib.hid hrc
      clear hrc
      obtain ⟨rc1, er⟩ := rc
      cases rc1 with
      | none =>
        have hne : (er != 0) = true := by rw [bne_iff_ne]; dsimp only at hre; omega
        have hqq := HQK.out
        rw [preB_no (bkStep_no HRC.out)] at hqq
        have HRE := Lib.hid (show r = (tOf [], vOf [], er) by rw [HR.out, ← hqq]; rfl)
        clear hqq hre
        go_wp2_with (first
          | (go_at_call 14; refine RC.out.mono ?_; rintro e _ ⟨rfl, d1, os1, rfl⟩; have HB2 : TrBlk (more W0 d1 os1) R nilV zeroV := hH.out.2.2.1.ext ((Ext.refl _).more _ _))
          | (refine wpList_buildTo rfl 40 #[] rfl _ rfl (trC nilV zeroV) (by kernel_rfl) ?_)
          | (refine wpList_store_rowTo rfl 40 _ _ rfl rfl R (trC nilV zeroV) rfl rfl 40 (trC nilV zeroV) HB2 (by kernel_rfl) rfl (trC_one _ _ nil_one) ?_))
        rw [HRE.out]
        refine bodyPost_ret (v := .tuple #[.agg (trC nilV zeroV), .int .i64 er]) (results_cell_slot rfl _ _ ⟨R, 0, none⟩ _ rfl (tr_load (HB2.setRow nilV zeroV)) _ rfl) rfl (BackPost.none ?_)
        exact (HEX.out.more _ _).setRow (by rw [HR0.out]; exact Nat.le_refl _) _
      | some x =>
        obtain ⟨z, ts⟩ := x
        obtain rfl : er = 0 := hre
        obtain ⟨hlm, htsz, hz0, hz1⟩ := rchunksF_len HSZ.out HRC.out
        obtain ⟨m, hm⟩ : ∃ m, ts.length = m := ⟨_, rfl⟩
        have HM := Lib.hid hm
        have HTS := Lib.hid htsz
        have hm5 : m ≤ 100000 := by omega
        clear htsz hlm hm
        go_wp2_with (go_at_call 14; refine RC.out.mono ?_; rintro e w2 ⟨tvv, rfl, hown, hx⟩; have HX2 := Lib.hid hx; obtain ⟨p2, c2, rfl, hc2, hcell⟩ := own_texts hown; rw [HM.out] at hc2 ⊢; have HCL := Lib.hid hcell; clear hown hx hcell)
        go_loopw [14, 49] (fun cv ii wr => ∃ (i : Nat) (vs : List Value), ii = .int .i64 (i : Int) ∧ i ≤ m ∧ Hid (wr.ownsRow w2.heap.size 52 1 cv i vs ∧ Bys w2.heap.size wr vs ((ts.take i).map txt) ∧ Ext w2 wr)) (fun _ ii _ => m - (intOf ii).toNat)
        case atStart => exact ⟨0, [], rfl, Nat.zero_le _, Lib.hid ⟨World.ownsRow_nil _ _ _ _, Bys.nil _ _, Ext.refl _⟩⟩
        case round =>
          obtain ⟨i, vs, rfl, him, hI⟩ := hrel
          have HEX3 := Lib.hid hI.out.2.2
          by_cases hlt : i < m
          · obtain ⟨s, hs⟩ : ∃ s, ts[i]? = some s := ⟨_, List.getElem?_eq_getElem (by have := HM.out; omega)⟩
            obtain ⟨b3, o3, rfl, c3⟩ := HCL.out i s hs
            have c3' := cell_ext c3 HEX3.out
            have hb3 := World.block_lt_of_cell? _ _ c3'
            have hiI : (i : Int) < m := by omega
            have hi0 : (0 : Int) ≤ (i : Int) := by omega
            have hss := HTS.out s (List.mem_of_getElem? hs)
            have hcv := conv_bytes s
            have HSN := Lib.hid (show (ts.take (i + 1)).map txt = (ts.take i).map txt ++ [txt s] by rw [List.take_add_one, hs]; simp)
            obtain ⟨gc, hgc⟩ : ∃ gc, grownCap wr s.size 0 5 = gc := ⟨_, rfl⟩
            obtain ⟨ob, hob⟩ : ∃ ob, bytesObj wr s = ob := ⟨_, rfl⟩
            have hcv2 : (convert 9 52 (.string s)).run Tryd.prog wr = .ok (.slice (some ⟨wr.heap.size, 0, none⟩) s.size gc) (more wr (wr.drawn + 1) #[ob]) := by rw [hcv wr, hgc, hob]
            have HSL : Hid (SlB w2.heap.size (more wr (wr.drawn + 1) #[ob]) (.slice (some ⟨wr.heap.size, 0, none⟩) s.size gc) (txt s)) := Lib.hid (by rw [← hgc, ← hob]; exact SlB.conv wr s HEX3.out.size (grownCap_ge _ _ _ _))
            clear hs c3 hcv hgc hob
            go_wp2_with (at_builtin; refine Hid.out ?_)
            refine Lib.hid ?_
            have hw0 := own_more hI.out.1 (wr.drawn + 1) #[ob]
            refine wpList_append_own_at _ rfl _ _ 51 rfl w2.heap.size 52 i1 (.slice none 0 0) 1 24 Tryd.underlying51 hi1 hy0 hy1 hy2 rfl (by decide) _ i vs rfl (hw0.alloc _) ⟨wr.heap.size + 1, 0, none⟩ 1 1 [.slice (some ⟨wr.heap.size, 0, none⟩) s.size gc] rfl rfl ?c1 ?c2 ?c3 ?c4 ?c5 ?_
            case c1 => exact news_at (by simp [more_size])
            case c2 => first | rfl | (intro u hu; simp at hu; subst hu; rfl)
            case c3 => unfold maxLen; omega
            case c4 => omega
            case c5 => have h1 := HEX3.out.size; simp [more_size]; omega
            intro v4 w4 hown4 hgrow4 _ _
            have HX4 : Hid (Ext w2 w4) := Lib.hid (Ext.grown ((by repeat (first | exact HEX3.out | apply Ext.alloc | apply Ext.more | apply Ext.drewN)) : Ext w2 _) hgrow4 (fun k hk => (hw0.lt k hk).1))
            have HO4 := Lib.hid hown4
            have HB4 : Hid (Bys w2.heap.size w4 (vs ++ [.slice (some ⟨wr.heap.size, 0, none⟩) s.size gc]) ((ts.take (i + 1)).map txt)) := Lib.hid (by
              rw [HSN.out]
              exact Bys.grown (((hI.out.2.1.ext ((Ext.refl wr).more _ _)).snoc HSL.out).ext ((Ext.refl _).alloc _)) hgrow4 (hw0.alloc _) (by decide))
            clear hown4 hgrow4 hw0 hcv2
            go_wp2_with fail
            go_roundw
            case rel => exact ⟨i + 1, _, by go_num, by omega, Lib.hid ⟨HO4.out, HB4.out, HX4.out⟩⟩
            case measure => simp [intOf]; omega
          · have hin : i = m := by omega
            have hnl : ¬ ((i : Int) < (m : Int)) := by omega
            have htk : (ts.take i).map txt = ts.map txt := by rw [List.take_of_length_le (by have := HM.out; omega)]
            have hlen : i = (ts.map txt).length := by have := HM.out; simp; omega
            have hx3 := (HEX.out.trans HX2.out).trans HEX3.out
            have LC2 := Lib.hid (lof_any _ (ts.map txt) vs w2.heap.size SB wr (HS.out.ext hx3 hSB) (Nat.le_trans hSB hx3.size) (by rw [← hlen]; exact hI.out.1) (by rw [← htk]; exact hI.out.2.1) (by rw [← hlen]; omega) (by intro c hc; obtain ⟨s, hs, rfl⟩ := List.mem_map.1 hc; have := HTS.out s hs; unfold txt; rw [ba_len]; omega) _ rfl)
            obtain ⟨rl, hrl⟩ : ∃ rl, leafOfF (ts.map txt) = rl := ⟨_, rfl⟩
            rw [hrl] at LC2
            have HRL := Lib.hid hrl
            have HX3 := Lib.hid hx3
            clear htk hlen hx3 hrl hin
            obtain ⟨li, el, pl⟩ := rl
            by_cases hel : el = 0
            · subst hel
              have HLI : Hid (∀ w', LeafPost wr w' (.returned (.tuple #[.slice none 0 0, .int .i64 0, .int .i64 0])) (li, 0, pl) → True) := Lib.hid fun _ _ => trivial
              have hTB := hH.out.2.2.2.1.ext (HX2.out.trans HEX3.out)
              have HST := Lib.hid (bkStep_yes HRC.out (by rw [HRL.out]))
              rw [HRL.out] at HST
              have hqq := HQK.out
              rw [preB_yes HST.out] at hqq
              have HQQ := Lib.hid hqq
              clear hqq
              go_wp2_with (go_at_call 15; refine LC2.out.mono ?_; rintro e w4 ⟨lv, rfl, hok, _, hx4⟩; dsimp only at hok ⊢; obtain ⟨hown, hio⟩ := hok rfl; obtain ⟨pp, cc, rfl⟩ := own_sl hown; have HLF := Lib.hid (own_lf hown rfl hio); have HX4 := Lib.hid hx4; have hTB4 := hTB.ext hx4; have c40 := hTB4.leaf k hk; have c41 := hTB4.ver k hk; have f40 := hTB4.frozen k; have f41 := hTB4.frozen (16 + k); have hOw4 := lt_of_heap hTB4; have HTB4 := Lib.hid hTB4; clear hown hio hok hx4 hTB4)
              go_roundw
              case rel =>
                obtain ⟨b1, h1, h2, _⟩ := HLF.out
                have hx24 := (HX2.out.trans HEX3.out).trans HX4.out
                have hb5 := HTB4.out.setLeaf k hk (.slice pp li.length cc)
                have hb6 := hb5.setVer k hk z
                obtain ⟨e1, e2⟩ := (hH.out.2.2.2.2.1.ext hx24).upd (hH.out.2.2.2.2.2.1.ext hx24) (k := k) h1 h2
                obtain ⟨e3, e4⟩ := e1.other e2 (i := k) HTB4.out (.slice pp li.length cc)
                obtain ⟨e5, e6⟩ := e3.other e4 (i := 16 + k) hb5 (.int .i64 z)
                refine ⟨k + 1, ps ++ [(z, li)], upd bs k b1, upd v k (.slice pp li.length cc), by go_num, by omega, Lib.hid ⟨by simp [hH.out.1], HQQ.out, ?_, ?_, ?_, ?_, ?_, hH.out.2.2.2.2.2.2.2.1, hH.out.2.2.2.2.2.2.2.2.1, ?_⟩⟩
                · exact ((hH.out.2.2.1.ext hx24).other hH.out.2.2.2.2.2.2.2.2.1 _).other hH.out.2.2.2.2.2.2.2.2.1 _
                · rw [vOf_snoc hH.out.1]; exact hb6
                · rw [tOf_snoc hH.out.1]; exact e5
                · rw [tOf_snoc hH.out.1]; exact e6
                · intro j u' hj
                  have h1 := cell_ext (hH.out.2.2.2.2.2.2.1 j u' hj) hx24
                  have hne := hH.out.2.2.2.2.2.2.2.1
                  unfold World.cell? at h1 ⊢
                  rw [Go.Deep.blk_setCell_other _ _ _ _ hne, Go.Deep.blk_setCell_other _ _ _ _ hne]
                  exact h1
                · exact ((HEX.out.trans hx24).setCell (by have := HX.out.size; rw [HO0.out] at this; exact this) _).setCell (by have := HX.out.size; rw [HO0.out] at this; exact this) _
              case measure => simp [intOf]; omega
            · have hne : (el != 0) = true := by rw [bne_iff_ne]; exact hel
              have hqq := HQK.out
              rw [preB_no (bkStep_bad HRC.out (by rw [HRL.out]; exact hel))] at hqq
              have HRE := Lib.hid (show r = (tOf [], vOf [], 3) by rw [HR.out, ← hqq]; rfl)
              have HEL := Lib.hid hel
              clear hqq hel
              go_wp2_with (first
                | (go_at_call 15; refine LC2.out.mono ?_; rintro e w4 ⟨lv, rfl, _, hbad, hx4⟩; obtain rfl := hbad HEL.out; have HX4 := Lib.hid hx4; have HB2 := hH.out.2.2.1.ext ((HX2.out.trans HEX3.out).trans hx4); clear hx4 hbad)
                | (refine wpList_buildTo rfl 40 #[] rfl _ rfl (trC nilV zeroV) (by kernel_rfl) ?_)
                | (refine wpList_store_rowTo rfl 40 _ _ rfl rfl R (trC nilV zeroV) rfl rfl 40 (trC nilV zeroV) HB2 (by kernel_rfl) rfl (trC_one _ _ nil_one) ?_))
              rw [HRE.out]
              refine bodyPost_ret (v := .tuple #[.agg (trC nilV zeroV), .int .i64 3]) (results_cell_slot rfl _ _ ⟨R, 0, none⟩ _ rfl (tr_load (HB2.setRow nilV zeroV)) _ rfl) rfl (BackPost.none ?_)
              exact (HX3.out.trans HX4.out).setRow (by rw [HR0.out]; exact Nat.le_refl _) _
    · have hkn : k = 16 := by omega
      subst hkn
      have hqq := hH.out.2.1
      rw [List.drop_of_length_le (by rw [H16.out]; exact Nat.le_refl _)] at hqq
      have hr2 := HR.out
      rw [← hqq] at hr2
      simp only [bkF, preB, backQ, List.append_nil] at hr2
      have TM := Lib.hid fun (W : World) (hx : Ext W0 W) => tmay_any bs v (tOf ps) (vOf ps) SB W (HS.out.ext (HEX.out.trans hx) hSB) (Nat.le_trans hSB (HEX.out.trans hx).size) (hH.out.2.2.2.2.1.ext hx)
      have HBO := Lib.hid hH.out.2.2.2.1
      cases htb : trunkB (tOf ps) (vOf ps) with
      | true =>
        rw [htb] at TM hr2
        have HRE := Lib.hid (show r = (tOf ps, vOf ps, 0) by simpa using hr2)
        clear hr2 hqq htb
        go_wp2_with (first
          | (refine wpList_load_row rfl 40 _ rfl O rfl 40 (trC v (vOf ps)) (0, 0) _ HBO.out Tryd.underlying40 rfl (by kernel_rfl) ?_)
          | (go_at_call 11; refine (TM.out _ (Ext.refl _)).mono ?_; rintro e _ ⟨rfl, hx⟩; have HX9 := Lib.hid hx; have HB9 := HBO.out.ext hx; have HB2 := hH.out.2.2.1.ext hx; obtain ⟨d1, os1, rfl⟩ := hx)
          | (refine wpList_load_row rfl 40 _ rfl O rfl 40 (trC v (vOf ps)) (0, 0) _ HB9 Tryd.underlying40 rfl (by kernel_rfl) ?_)
          | (refine wpList_store_rowTo rfl 40 _ _ rfl rfl R (trC v (vOf ps)) rfl rfl 40 (trC nilV zeroV) HB2 (by kernel_rfl) rfl (trC_one _ _ hH.out.2.2.2.2.1.one) ?_))
        rw [HRE.out]
        refine bodyPost_ret (v := .tuple #[.agg (trC v (vOf ps)), .int .i64 0]) (results_cell_slot rfl _ _ ⟨R, 0, none⟩ _ rfl (tr_load (HB2.setRow v (vOf ps))) _ rfl) rfl ⟨bs, v, rfl, ?_, ?_, (HEX.out.more _ _).setRow (by rw [HR0.out]; exact Nat.le_refl _) _⟩
        · exact (LvsAt.otherRow (hH.out.2.2.2.2.1.ext HX9.out) (hH.out.2.2.2.2.2.1.ext HX9.out) HB2 _).1
        · exact (LvsAt.otherRow (hH.out.2.2.2.2.1.ext HX9.out) (hH.out.2.2.2.2.2.1.ext HX9.out) HB2 _).2
      | false =>
        rw [htb] at TM hr2
        have HRE := Lib.hid (show r = (tOf [], vOf [], 1) by simpa using hr2)
        clear hr2 hqq htb
        go_wp2_with (first
          | (refine wpList_load_row rfl 40 _ rfl O rfl 40 (trC v (vOf ps)) (0, 0) _ HBO.out Tryd.underlying40 rfl (by kernel_rfl) ?_)
          | (go_at_call 11; refine (TM.out _ (Ext.refl _)).mono ?_; rintro e _ ⟨rfl, hx⟩; have HX9 := Lib.hid hx; have HB9 := HBO.out.ext hx; have HB2 := hH.out.2.2.1.ext hx; obtain ⟨d1, os1, rfl⟩ := hx)
          | (refine wpList_buildTo rfl 40 #[] rfl _ rfl (trC nilV zeroV) (by kernel_rfl) ?_)
          | (refine wpList_store_rowTo rfl 40 _ _ rfl rfl R (trC nilV zeroV) rfl rfl 40 (trC nilV zeroV) HB2 (by kernel_rfl) rfl (trC_one _ _ nil_one) ?_))
        rw [HRE.out]
        refine bodyPost_ret (v := .tuple #[.agg (trC nilV zeroV), .int .i64 1]) (results_cell_slot rfl _ _ ⟨R, 0, none⟩ _ rfl (tr_load (HB2.setRow nilV zeroV)) _ rfl) rfl (BackPost.none ?_)
        exact (HEX.out.more _ _).setRow (by rw [HR0.out]; exact Nat.le_refl _) _
/-- root.Back = backF -/
theorem back_any (B bt bm : Nat) (tv : Value) (l : List ByteArray) (n : Int) (w : World) (h : TabAt B bt bm tv l w) (hsz : ∀ s ∈ l, s.size ≤ 100000) (SB EB PB : Nat) (hS : SignsAt SB w) (hSB : SB ≤ w.heap.size) (hE : ErrsAt EB w) (hEB : EB ≤ w.heap.size) (hP : Pow10 PB w) (hPB : PB ≤ w.heap.size) :
    Calls Tryd.prog 8 #[.pointer (some ⟨bt, 0, none⟩), .int .i64 n] w fun e w' => BackPost w w' e (backF l n) := by
  have he := leavesF_err (l := l) (n := n)
  cases hl : leavesF l n with
  | mk a er =>
    rw [hl] at he
    cases a with
    | none => rw [backF_no hl]; exact back_no B bt bm tv l n w h hsz EB PB hE hEB hP hPB er hl
    | some xs =>
      obtain rfl : er = 0 := he.1
      refine back_yes B bt bm tv l n w h hsz SB EB PB hS hSB hE hEB hP hPB xs hl _ rfl _ ?_
      exact backF_yes hl
end Go.Proofs.YtpchohjkelopoaaDoor

set_option maxRecDepth 20000
namespace Go.Proofs.YtpchohjkelopoaaDoor
open Go.RowKit
attribute [go_sem] more_more Array.size_append
end Go.Proofs.YtpchohjkelopoaaDoor
