/- Lemmas for the claim (texts PaE, PaF, PaG, PaQ, what its proof uses of them). -/
import Derived.Test.YtpchohjkelopoaaGreatDoorK18
import Derived.Stop.BytesEq
import Derived.Deep.DeepCutAuto
import Derived.Deep.RegionHeldLaw
set_option linter.unusedSimpArgs false
set_option linter.unusedVariables false
set_option maxRecDepth 20000
namespace Go.Proofs.YtpchohjkelopoaaGreatDoor
open Go.RowKit
attribute [go_sem] more_more Array.size_append
theorem idx_gt (g : Nat → Bool) (k : Nat) (hk : k < 16) (W : World) : (Instr.index 37 (.agg (gtC g)) (.int .i64 (k : Int))).run Tryz.prog W = .ok (.bool (g k)) W := by
  match k, hk with
  | 0, _ => exact (fun W => by kernel_rfl : ∀ W : World, (Instr.index 37 (.agg (gtC g)) (.int .i64 0)).run Tryz.prog W = .ok (.bool (g 0)) W) W
  | 1, _ => exact (fun W => by kernel_rfl : ∀ W : World, (Instr.index 37 (.agg (gtC g)) (.int .i64 1)).run Tryz.prog W = .ok (.bool (g 1)) W) W
  | 2, _ => exact (fun W => by kernel_rfl : ∀ W : World, (Instr.index 37 (.agg (gtC g)) (.int .i64 2)).run Tryz.prog W = .ok (.bool (g 2)) W) W
  | 3, _ => exact (fun W => by kernel_rfl : ∀ W : World, (Instr.index 37 (.agg (gtC g)) (.int .i64 3)).run Tryz.prog W = .ok (.bool (g 3)) W) W
  | 4, _ => exact (fun W => by kernel_rfl : ∀ W : World, (Instr.index 37 (.agg (gtC g)) (.int .i64 4)).run Tryz.prog W = .ok (.bool (g 4)) W) W
  | 5, _ => exact (fun W => by kernel_rfl : ∀ W : World, (Instr.index 37 (.agg (gtC g)) (.int .i64 5)).run Tryz.prog W = .ok (.bool (g 5)) W) W
  | 6, _ => exact (fun W => by kernel_rfl : ∀ W : World, (Instr.index 37 (.agg (gtC g)) (.int .i64 6)).run Tryz.prog W = .ok (.bool (g 6)) W) W
  | 7, _ => exact (fun W => by kernel_rfl : ∀ W : World, (Instr.index 37 (.agg (gtC g)) (.int .i64 7)).run Tryz.prog W = .ok (.bool (g 7)) W) W
  | 8, _ => exact (fun W => by kernel_rfl : ∀ W : World, (Instr.index 37 (.agg (gtC g)) (.int .i64 8)).run Tryz.prog W = .ok (.bool (g 8)) W) W
  | 9, _ => exact (fun W => by kernel_rfl : ∀ W : World, (Instr.index 37 (.agg (gtC g)) (.int .i64 9)).run Tryz.prog W = .ok (.bool (g 9)) W) W
  | 10, _ => exact (fun W => by kernel_rfl : ∀ W : World, (Instr.index 37 (.agg (gtC g)) (.int .i64 10)).run Tryz.prog W = .ok (.bool (g 10)) W) W
  | 11, _ => exact (fun W => by kernel_rfl : ∀ W : World, (Instr.index 37 (.agg (gtC g)) (.int .i64 11)).run Tryz.prog W = .ok (.bool (g 11)) W) W
  | 12, _ => exact (fun W => by kernel_rfl : ∀ W : World, (Instr.index 37 (.agg (gtC g)) (.int .i64 12)).run Tryz.prog W = .ok (.bool (g 12)) W) W
  | 13, _ => exact (fun W => by kernel_rfl : ∀ W : World, (Instr.index 37 (.agg (gtC g)) (.int .i64 13)).run Tryz.prog W = .ok (.bool (g 13)) W) W
  | 14, _ => exact (fun W => by kernel_rfl : ∀ W : World, (Instr.index 37 (.agg (gtC g)) (.int .i64 14)).run Tryz.prog W = .ok (.bool (g 14)) W) W
  | 15, _ => exact (fun W => by kernel_rfl : ∀ W : World, (Instr.index 37 (.agg (gtC g)) (.int .i64 15)).run Tryz.prog W = .ok (.bool (g 15)) W) W
  | k + 16, h => exact absurd h (by omega)
/-- the buckets that did not come, of the first k -/
def needK (g : Nat → Bool) (k : Nat) : List Int := ((List.range k).filter fun j => !g j).map fun (j : Nat) => (j : Int)
theorem needK_yes {g : Nat → Bool} {k : Nat} (h : g k = true) : needK g (k + 1) = needK g k := by
  unfold needK; rw [List.range_succ, List.filter_append]; simp [h]
theorem needK_no {g : Nat → Bool} {k : Nat} (h : g k = false) : needK g (k + 1) = needK g k ++ [(k : Int)] := by
  unfold needK; rw [List.range_succ, List.filter_append]; simp [h]
theorem needK_len (g : Nat → Bool) (k : Nat) : (needK g k).length ≤ k := by
  unfold needK; rw [List.length_map]; exact Nat.le_trans (List.length_filter_le _ _) (by simp)
set_option maxHeartbeats 2000000 in
theorem need_any (a b c : Int) (L : Nat → Int) (g : Nat → Bool) (v : Nat → Value) (V : Nat → Int) (w : World) :
    Calls Tryz.prog 18 #[.agg (crC a b c L g v V)] w fun e w' => ∃ nv, e = .returned nv ∧ w'.ownsRow w.heap.size 3 1 nv (needK g 16).length (cellsI (needK g 16)) ∧ Ext w w' := by
  obtain ⟨i1, hi1, hy0, hy1, hy2⟩ := info_parts intInfo
  go_enter Tryz.func18, Tryz.ntmps18
  go_wp2_with (refine wpList_load_sub rfl 37 _ rfl w.heap.size 19 rfl 39 (crC a b c L g v V) (gtC g) (0, 0) _ (heap_alloc_new w _) Tryz.underlying37 rfl (by kernel_rfl) (crC_gt a b c L g v V) ?_)
  obtain ⟨N, hN⟩ : ∃ N, w.heap.size = N := ⟨_, rfl⟩
  have HN := Lib.hid hN
  go_loopw [3, 8] (fun ov ii wr => ∃ (k : Nat), ii = .int .i64 (k : Int) ∧ k ≤ 16 ∧ Hid (wr.ownsRow N 3 1 ov (needK g k).length (cellsI (needK g k)) ∧ Ext w wr)) (fun _ ii _ => 16 - (intOf ii).toNat)
  case atStart => exact ⟨0, rfl, Nat.zero_le _, Lib.hid ⟨show World.ownsRow _ N 3 1 (.slice none 0 0) 0 [] from World.ownsRow_nil _ _ _ _, (Ext.refl w).alloc _⟩⟩
  case round =>
    obtain ⟨k, rfl, hk16, hH⟩ := hrel
    obtain ⟨ov, hov⟩ : ∃ x, x = u3 := ⟨_, rfl⟩
    subst hov
    rw [hN]
    clear hN
    by_cases hk : k < 16
    · have hix := fun W => idx_gt g k hk W
      have hkI : (k : Int) < 16 := by omega
      have hk0 : (0 : Int) ≤ (k : Int) := by omega
      cases hg : g k with
      | true =>
        rw [hg] at hix
        go_wp2_with fail
        go_roundw
        case rel => exact ⟨k + 1, by go_num, by omega, Lib.hid ⟨by rw [needK_yes hg]; exact hH.out.1, hH.out.2⟩⟩
        case measure => simp [intOf]; omega
      | false =>
        rw [hg] at hix
        have hln := needK_len g k
        have HSN := Lib.hid (needK_no hg)
        clear hg
        go_wp2_with (at_builtin; refine wpList_append_own_at _ rfl _ _ 53 rfl N 3 i1 (.int .i64 0) 1 8 Tryz.underlying53 hi1 hy0 hy1 hy2 rfl (by decide) _ _ _ rfl (hH.out.1.alloc _) ⟨wr.heap.size, 0, none⟩ 1 1 [.int .i64 (k : Int)] rfl rfl ?c1 ?c2 ?c3 ?c4 ?c5 ?_)
        case c1 => exact cell_one_new _ _ _
        case c2 => first | rfl | (intro u hu; simp at hu; subst hu; rfl)
        case c3 => unfold maxLen; omega
        case c4 => omega
        case c5 => have h1 := hH.out.2.size; have h2 := HN.out; simp; omega
        intro v4 w4 hown4 hgrow4 _ _
        have HO := Lib.hid hown4
        have HX : Hid (Ext w w4) := Lib.hid (Ext.grown ((hH.out.2).alloc _) hgrow4 (fun k hk => by have := (hH.out.1.lt k hk).1; have := HN.out; omega))
        clear hown4 hgrow4
        go_wp2_with fail
        go_roundw
        case rel => exact ⟨k + 1, by go_num, by omega, Lib.hid ⟨by rw [HSN.out, cellsI_snoc, List.length_append]; exact HO.out, HX.out⟩⟩
        case measure => simp [intOf]; omega
    · obtain rfl : k = 16 := by omega
      go_wp2_with fail
      go_ret
      exact ⟨_, rfl, by rw [HN.out]; exact hH.out.1, hH.out.2⟩
theorem own_mono {w : World} {base base' n size : Nat} {v : Value} {e : TypeId} {xs : List Value} (h : w.ownsRow base e size v n xs) (hb : base' ≤ base) : w.ownsRow base' e size v n xs := by
  refine ⟨h.1, ?_⟩
  rcases h.2 with h2 | ⟨g, cap, cur, a1, a2, a3⟩
  · exact Or.inl h2
  · exact Or.inr ⟨g, cap, cur, a1, Nat.le_trans hb a2, a3⟩
/-- what items hands back -/
def ItemsPost (w w' : World) (e : Ending) (r : List It × Int × Int) (ver : Int) : Prop :=
  ∃ lv, e = .returned (.tuple #[lv, .bool (r.2.1 == 0 && decide (0 ≤ ver) && decide (ver ≤ 2147483647))]) ∧ (r.2.1 = 0 → w'.ownsRow w.heap.size 152 5 lv r.1.length (itCells r.1) ∧ ∀ x ∈ r.1, ItOk x) ∧ Ext w w'
set_option maxHeartbeats 4000000 in
theorem items_pany (bk ver : Int) (pv : Value) (base : Nat) (ts : List ByteArray) (SB : Nat) (w : World) (hS : SignsAt SB w) (hSB : SB ≤ w.heap.size) (hrow : w.ownsRow base 9 1 pv ts.length (ts.map Value.string)) (hn : ts.length ≤ 100000) (hz : ∀ s ∈ ts, s.size ≤ 100000) (r : List It × Int × Int) (hr : leafOfF (ts.map txt) = r) :
    Calls Tryz.prog 57 #[.agg #[.int .i64 bk, .int .i64 ver, pv]] w fun e w' => ItemsPost w w' e r ver := by
  obtain ⟨i1, hi1, hy0, hy1, hy2⟩ := info_parts bysInfo'
  obtain ⟨m, hm⟩ : ∃ m, ts.length = m := ⟨_, rfl⟩
  obtain ⟨p2, c2, rfl, hc2, hcell⟩ := own_texts hrow
  have HM := Lib.hid hm
  rw [hm] at hn hc2 ⊢
  have HCL := Lib.hid hcell
  have HTS := Lib.hid hz
  have HS := Lib.hid hS
  have HRL := Lib.hid hr
  clear hm hrow hcell hz hS hr
  go_enter Tryz.func57, Tryz.ntmps57
  go_wp2_with fail
  obtain ⟨N, hN⟩ : ∃ N, w.heap.size = N := ⟨_, rfl⟩
  have HN := Lib.hid hN
  obtain ⟨W0, hW0⟩ : ∃ W0, w.alloc (.cells #[.int .i64 bk, .int .i64 ver, .slice p2 m c2] 50) = W0 := ⟨_, rfl⟩
  have HX0 : Hid (Ext w W0) := Lib.hid (by rw [← hW0]; exact (Ext.refl _).alloc _)
  have hs0 : W0.heap.size = N + 1 := by rw [← hW0, World.size_alloc, hN]
  have hc0 : W0.cell? ⟨N, 1, none⟩ = some (.int .i64 ver) := by rw [← hW0, ← hN]; exact cell_of_row _ _ 1 _ _ _ (heap_alloc_new w _)
  have HS0 := Lib.hid hs0
  have HC0 := Lib.hid hc0
  rw [hW0]
  clear hW0 hs0 hc0
  go_loopw [4, 13] (fun cv ii wr => ∃ (i : Nat) (vs : List Value), ii = .int .i64 (i : Int) ∧ i ≤ m ∧ Hid (wr.ownsRow (N + 1) 135 1 cv i vs ∧ Bys (N + 1) wr vs ((ts.take i).map txt) ∧ Ext W0 wr)) (fun _ ii _ => m - (intOf ii).toNat)
  case atStart => exact ⟨0, [], rfl, Nat.zero_le _, Lib.hid ⟨World.ownsRow_nil _ _ _ _, Bys.nil _ _, Ext.refl _⟩⟩
  case round =>
    obtain ⟨i, vs, rfl, him, hI⟩ := hrel
    obtain ⟨cv, hcv⟩ : ∃ x, x = u4 := ⟨_, rfl⟩
    subst hcv
    rw [hN]
    have HEX3 := Lib.hid hI.out.2.2
    have hszN : N + 1 ≤ wr.heap.size := by have := HEX3.out.size; have := HS0.out; omega
    clear hN
    by_cases hlt : i < m
    · obtain ⟨s, hs⟩ : ∃ s, ts[i]? = some s := ⟨_, List.getElem?_eq_getElem (by have := HM.out; omega)⟩
      obtain ⟨b3, o3, rfl, c3⟩ := HCL.out i s hs
      have c3' := cell_ext c3 (HX0.out.trans HEX3.out)
      have hb3 := World.block_lt_of_cell? _ _ c3'
      have hiI : (i : Int) < m := by omega
      have hi0 : (0 : Int) ≤ (i : Int) := by omega
      have hss := HTS.out s (List.mem_of_getElem? hs)
      have hcv := conv_bytes s
      have HSN := Lib.hid (show (ts.take (i + 1)).map txt = (ts.take i).map txt ++ [txt s] by rw [List.take_add_one, hs]; simp)
      obtain ⟨gc, hgc⟩ : ∃ gc, grownCap wr s.size 0 5 = gc := ⟨_, rfl⟩
      obtain ⟨ob, hob⟩ : ∃ ob, bytesObj wr s = ob := ⟨_, rfl⟩
      have hcv2 : (convert 9 135 (.string s)).run Tryz.prog wr = .ok (.slice (some ⟨wr.heap.size, 0, none⟩) s.size gc) (more wr (wr.drawn + 1) #[ob]) := by rw [hcv wr, hgc, hob]
      have HSL : Hid (SlB (N + 1) (more wr (wr.drawn + 1) #[ob]) (.slice (some ⟨wr.heap.size, 0, none⟩) s.size gc) (txt s)) := Lib.hid (by rw [← hgc, ← hob]; exact SlB.conv wr s hszN (grownCap_ge _ _ _ _))
      clear hs c3 hcv hgc hob
      go_wp2_with (at_builtin; refine Hid.out ?_)
      refine Lib.hid ?_
      have hw0 := own_more hI.out.1 (wr.drawn + 1) #[ob]
      refine wpList_append_own_at _ rfl _ _ 133 rfl (N + 1) 135 i1 (.slice none 0 0) 1 24 Tryz.underlying133 hi1 hy0 hy1 hy2 rfl (by decide) _ i vs rfl (hw0.alloc _) ⟨wr.heap.size + 1, 0, none⟩ 1 1 [.slice (some ⟨wr.heap.size, 0, none⟩) s.size gc] rfl rfl ?c1 ?c2 ?c3 ?c4 ?c5 ?_
      case c1 => exact news_at (by simp [more_size])
      case c2 => first | rfl | (intro u hu; simp at hu; subst hu; rfl)
      case c3 => unfold maxLen; omega
      case c4 => omega
      case c5 => simp [more_size]; omega
      intro v4 w4 hown4 hgrow4 _ _
      have HX4 : Hid (Ext W0 w4) := Lib.hid (Ext.grown ((by repeat (first | exact HEX3.out | apply Ext.alloc | apply Ext.more | apply Ext.drewN)) : Ext W0 _) hgrow4 (fun k hk => by have := (hw0.lt k hk).1; have := HS0.out; omega))
      have HO4 := Lib.hid hown4
      have HB4 : Hid (Bys (N + 1) w4 (vs ++ [.slice (some ⟨wr.heap.size, 0, none⟩) s.size gc]) ((ts.take (i + 1)).map txt)) := Lib.hid (by
        rw [HSN.out]
        exact Bys.grown (((hI.out.2.1.ext ((Ext.refl wr).more _ _)).snoc HSL.out).ext ((Ext.refl _).alloc _)) hgrow4 (hw0.alloc _) (by decide))
      clear hown4 hgrow4 hw0 hcv2
      go_wp2_with fail
      go_roundw
      case rel => exact ⟨i + 1, _, by go_num, by omega, Lib.hid ⟨HO4.out, HB4.out, HX4.out⟩⟩
      case measure => simp [intOf]; omega
    · have hin : i = m := by omega
      have hnl : ¬ ((i : Int) < (m : Int)) := by omega
      have htk : (ts.take i).map txt = ts.map txt := by rw [List.take_of_length_le (by have := HM.out; omega)]
      have hlen : i = (ts.map txt).length := by have := HM.out; simp; omega
      have hx3 := HX0.out.trans HEX3.out
      have LC2 := Lib.hid (lof_any _ (ts.map txt) vs (N + 1) SB wr (HS.out.ext hx3 hSB) (Nat.le_trans hSB hx3.size) (by rw [← hlen]; exact hI.out.1) (by rw [← htk]; exact hI.out.2.1) (by rw [← hlen]; omega) (by intro c hc; obtain ⟨s, hs, rfl⟩ := List.mem_map.1 hc; have := HTS.out s hs; unfold txt; rw [ba_len]; omega) _ HRL.out)
      have HX3 := Lib.hid hx3
      have c1 := cell_ext HC0.out HEX3.out
      have hNw := World.block_lt_of_cell? _ _ c1
      clear htk hlen hx3 hin HRL
      obtain ⟨li, el, pl⟩ := r
      have fin : ∀ (lv : Value) (w4 : World) (b : Bool), (el == 0 && decide (0 ≤ ver) && decide (ver ≤ 2147483647)) = b → (el = 0 → w4.ownsRow wr.heap.size 152 5 lv li.length (itCells li) ∧ ∀ x ∈ li, ItOk x) → Ext wr w4 → ItemsPost w w4 (.returned (.tuple #[lv, .bool b])) (li, el, pl) ver := by
        intro lv w4 b hb hok hx
        exact ⟨lv, by rw [hb], fun h => ⟨own_mono (hok h).1 HX3.out.size, (hok h).2⟩, HX3.out.trans hx⟩
      have FIN := Lib.hid fin
      clear fin
      by_cases hel : el = 0
      · by_cases h0 : 0 ≤ ver
        · by_cases h1 : ver ≤ 2147483647
          · have HBB := Lib.hid (show (el == 0 && decide (0 ≤ ver) && decide (ver ≤ 2147483647)) = true by simp [hel, h0, h1])
            have he2 : (el == 0) = true := by simpa using hel
            go_wp2_with (go_at_call 74; refine LC2.out.mono ?_; rintro e w4 ⟨lv, rfl, hok, -, hx4⟩; dsimp only at hok ⊢; have HOK := Lib.hid hok; have HX4 := Lib.hid hx4; have c4 := cell_ext c1 hx4; have hN4 := World.block_lt_of_cell? _ _ c4; clear hok hx4)
            go_region
            all_goals go_wp2_with fail
            all_goals go_ret2
            all_goals exact FIN.out _ _ _ (by first | exact HBB.out | (rw [HBB.out]; simp [h1])) (fun h => ⟨own_ext (HOK.out h).1 (by repeat (first | exact Ext.refl _ | apply Ext.drew | apply Ext.drewN | apply Ext.more)), (HOK.out h).2⟩) (by repeat (first | exact HX4.out | apply Ext.alloc | apply Ext.more | apply Ext.drew | apply Ext.drewN))
          · have HBB := Lib.hid (show (el == 0 && decide (0 ≤ ver) && decide (ver ≤ 2147483647)) = false by simp [h1])
            have he2 : (el == 0) = true := by simpa using hel
            go_wp2_with (go_at_call 74; refine LC2.out.mono ?_; rintro e w4 ⟨lv, rfl, hok, -, hx4⟩; dsimp only at hok ⊢; have HOK := Lib.hid hok; have HX4 := Lib.hid hx4; have c4 := cell_ext c1 hx4; have hN4 := World.block_lt_of_cell? _ _ c4; clear hok hx4)
            go_region
            all_goals go_wp2_with fail
            all_goals go_ret2
            all_goals exact FIN.out _ _ _ (by first | exact HBB.out | (rw [HBB.out]; simp [h1])) (fun h => ⟨own_ext (HOK.out h).1 (by repeat (first | exact Ext.refl _ | apply Ext.drew | apply Ext.drewN | apply Ext.more)), (HOK.out h).2⟩) (by repeat (first | exact HX4.out | apply Ext.alloc | apply Ext.more | apply Ext.drew | apply Ext.drewN))
        · have hd0 : decide (0 ≤ ver) = false := decide_eq_false h0
          have HBB := Lib.hid (show (el == 0 && decide (0 ≤ ver) && decide (ver ≤ 2147483647)) = false by simp [h0])
          have he2 : (el == 0) = true := by simpa using hel
          go_wp2_with (go_at_call 74; refine LC2.out.mono ?_; rintro e w4 ⟨lv, rfl, hok, -, hx4⟩; dsimp only at hok ⊢; have HOK := Lib.hid hok; have HX4 := Lib.hid hx4; have c4 := cell_ext c1 hx4; have hN4 := World.block_lt_of_cell? _ _ c4; clear hok hx4)
          go_region
          all_goals go_wp2_with fail
          all_goals go_ret2
          all_goals exact FIN.out _ _ _ (by first | exact HBB.out | (rw [HBB.out]; simp [h1])) (fun h => ⟨own_ext (HOK.out h).1 (by repeat (first | exact Ext.refl _ | apply Ext.drew | apply Ext.drewN | apply Ext.more)), (HOK.out h).2⟩) (by repeat (first | exact HX4.out | apply Ext.alloc | apply Ext.more | apply Ext.drew | apply Ext.drewN))
      · have he2 : (el == 0) = false := by simpa using hel
        have HBB := Lib.hid (show (el == 0 && decide (0 ≤ ver) && decide (ver ≤ 2147483647)) = false by simp [he2])
        go_wp2_with (go_at_call 74; refine LC2.out.mono ?_; rintro e w4 ⟨lv, rfl, hok, -, hx4⟩; dsimp only at hok ⊢; have HOK := Lib.hid hok; have HX4 := Lib.hid hx4; have c4 := cell_ext c1 hx4; have hN4 := World.block_lt_of_cell? _ _ c4; clear hok hx4)
        go_region
        all_goals go_wp2_with fail
        all_goals go_ret2
        all_goals exact FIN.out lv w4.drew false HBB.out (fun h => absurd h hel) HX4.out.drew
end Go.Proofs.YtpchohjkelopoaaGreatDoor

set_option maxRecDepth 20000
namespace Go.Proofs.YtpchohjkelopoaaGreatDoor
open Go.RowKit
attribute [go_sem] more_more Array.size_append
theorem strs_form2 {w : World} {v : Value} {l : List ByteArray} (h : StrsAt w v l) : ∃ p cap, v = .slice p l.length cap ∧ l.length ≤ cap ∧ Hid (∀ j u, l[j]? = some u → ∃ b off, p = some ⟨b, off, none⟩ ∧ w.cell? ⟨b, off + j, none⟩ = some (.string u)) := by
  rcases h with ⟨p, cap, rfl, rfl⟩ | ⟨b, off, cap, rfl, h1, h2⟩
  · exact ⟨p, cap, rfl, Nat.zero_le _, fun j u hj => by simp at hj⟩
  · exact ⟨_, cap, rfl, h1, fun j u hj => ⟨b, off, rfl, h2 j u hj⟩⟩
theorem strInfo15 : (Tryz.prog.info? 9).map (fun i => (i.zero, i.size, i.bytes)) = some (some (.string ⟨#[]⟩), 1, 16) := by kernel_rfl
/-- the chunks that are looked at -/
def fewPS (ts : List ByteArray) : List ByteArray := (ts.take 12).map (cutS 900)
theorem fewPS_len (ts : List ByteArray) : (fewPS ts).length ≤ 12 := by unfold fewPS; simp; omega
theorem fewPS_sz (ts : List ByteArray) : ∀ s ∈ fewPS ts, s.size ≤ 900 := by
  intro s hs
  unfold fewPS at hs
  obtain ⟨t, _, rfl⟩ := List.mem_map.1 hs
  exact cutS_le 900 t
def psC (ts : List ByteArray) (k : Nat) : List Value := ((ts.map (cutS 900)).take k).map Value.string
theorem fewPS_of {ts : List ByteArray} {m : Nat} (h : m = min ts.length 12) : psC ts m = (fewPS ts).map Value.string ∧ m = (fewPS ts).length := by
  subst h
  unfold fewPS psC
  constructor
  · rw [← List.map_take]
    by_cases h : ts.length ≤ 12
    · rw [Nat.min_eq_left h, List.take_of_length_le (Nat.le_refl _), List.take_of_length_le h]
    · rw [Nat.min_eq_right (by omega)]
  · simp; omega
set_option maxHeartbeats 2000000 in
theorem few15_any (bk ver : Int) (pv : Value) (ts : List ByteArray) (w : World) (h : StrsAt w pv ts) (hz : ∀ s ∈ ts, s.size ≤ 140737488351232) (hcapb : True) :
    Calls Tryz.prog 16 #[.agg #[.int .i64 bk, .int .i64 ver, pv]] w fun e w' => ∃ v', e = .returned (.agg #[.int .i64 bk, .int .i64 ver, v']) ∧ w'.ownsRow w.heap.size 9 1 v' (fewPS ts).length ((fewPS ts).map Value.string) ∧ Ext w w' := by
  obtain ⟨i1, hi1, hy0, hy1, hy2⟩ := info_parts strInfo15
  obtain ⟨p, cap, rfl, hcap, HC⟩ := strs_form2 h
  obtain ⟨n, hn⟩ : ∃ n, ts.length = n := ⟨_, rfl⟩
  have HS := Lib.hid hz
  rw [hn] at hcap ⊢
  by_cases hbig : 12 < n
  · have hI : (12 : Int) < n := by omega
    have hI2 : (12 : Int) ≤ cap := by omega
    have hI3 : 12 ≤ cap := by omega
    have HN2 := Lib.hid hn
    have HF := Lib.hid (fewPS_of (ts := ts) (m := 12) (by omega))
    clear h hz hn
    go_enter Tryz.func16, Tryz.ntmps16
    go_wp2_with fail
    obtain ⟨N, hN⟩ : ∃ N, w.heap.size = N := ⟨_, rfl⟩
    have HN := Lib.hid hN
    obtain ⟨W0, hW0⟩ : ∃ W0, (w.alloc (.cells #[.int .i64 bk, .int .i64 ver, .slice p 12 cap] 50)).alloc (.cells #[.int .i64 0, .int .i64 0, .slice none 0 0] 50) = W0 := ⟨_, rfl⟩
    have HX0 : Hid (Ext w W0) := Lib.hid (by rw [← hW0]; exact ((Ext.refl _).alloc _).alloc _)
    have hs0 : W0.heap.size = N + 2 := by rw [← hW0]; simp; omega
    have hb0 : W0.heap[N]? = some (.cells #[.int .i64 bk, .int .i64 ver, .slice p 12 cap] 50 (0, 0)) := by
      rw [← hW0, ← hN]
      exact (heap_alloc_old _ _ (by simp)).trans (heap_alloc_new w _)
    have hb1 : ∃ c1 c2 c3, W0.heap[N + 1]? = some (.cells #[c1, c2, c3] 50 (0, 0)) := by
      refine ⟨.int .i64 0, .int .i64 0, .slice none 0 0, ?_⟩
      rw [← hW0, ← hN]
      have := heap_alloc_new (w.alloc (.cells #[.int .i64 bk, .int .i64 ver, .slice p 12 cap] 50)) (.cells #[.int .i64 0, .int .i64 0, .slice none 0 0] 50)
      rw [World.size_alloc] at this
      exact this
    have HS0 := Lib.hid hs0
    have HB0 := Lib.hid hb0
    have HB1 := Lib.hid hb1
    rw [hW0]
    clear hW0 hs0 hb0 hb1
    go_loopw [3, 4] (fun lv ii wr => ∃ (k : Nat), ii = .int .i64 (k : Int) ∧ k ≤ 12 ∧ Hid (wr.ownsRow (N + 2) 9 1 lv k (psC ts k) ∧ Ext W0 wr)) (fun _ ii _ => 12 - (intOf ii).toNat)
    case atStart => exact ⟨0, rfl, Nat.zero_le _, Lib.hid ⟨World.ownsRow_nil _ _ _ _, Ext.refl _⟩⟩
    case round =>
      obtain ⟨k, rfl, hkm, hH⟩ := hrel
      obtain ⟨lv, hlv⟩ : ∃ x, x = u3 := ⟨_, rfl⟩
      subst hlv
      rw [hN]
      clear hN
      have hb := (hH.out.2.below.block N (lt_of_heap HB0.out)).trans HB0.out
      have hc0 := cell_of_row wr N 0 _ _ _ hb
      have hc1 := cell_of_row wr N 1 _ _ _ hb
      have hc2 := cell_of_row wr N 2 _ _ _ hb
      simp only [List.getElem?_toArray, List.getElem?_cons_zero, List.getElem?_cons_succ] at hc0 hc1 hc2
      have hNw := lt_of_heap hb
      have hf2 : wr.frozen? ⟨N, 2, none⟩ = false := by simp [World.frozen?, hb]
      have HB := Lib.hid hb
      clear hb
      by_cases hlt : k < 12
      · have hltI : (k : Int) < 12 := by omega
        have hk0 : (0 : Int) ≤ (k : Int) := by omega
        obtain ⟨s, hsx⟩ : ∃ s, ts[k]? = some s := ⟨_, List.getElem?_eq_getElem (by have := HN2.out; omega)⟩
        obtain ⟨b, off, rfl, c0⟩ := HC.out k s hsx
        have c1 := cell_ext c0 (HX0.out.trans hH.out.2)
        have hb1 := World.block_lt_of_cell? _ _ c1
        have hsn : psC ts (k + 1) = psC ts k ++ [.string (cutS 900 s)] := by
          unfold psC; rw [List.take_add_one, List.getElem?_map, hsx]; simp
        have HSN := Lib.hid hsn
        clear hsx hsn c0
        by_cases hbig : 900 < s.size
        · have hI : (900 : Int) < s.size := by omega
          have hI2 : (900 : Int) ≤ s.size := by omega
          have hcut : cutS 900 s = s.extract 0 900 := by unfold cutS; rw [if_pos hbig]
          have HCUT := Lib.hid hcut
          clear hcut
          go_wp2_with (at_builtin; refine Hid.out ?_)
          refine Lib.hid ?_
          refine wpList_append_own_at _ rfl _ _ 22 rfl (N + 2) 9 i1 (.string ⟨#[]⟩) 1 16 Tryz.underlying22 hi1 hy0 hy1 hy2 rfl (by decide) _ k _ rfl (hH.out.1.alloc _) ⟨wr.heap.size, 0, none⟩ 1 1 [.string (s.extract 0 900)] rfl rfl ?c1 ?c2 ?c3 ?c4 ?c5 ?_
          try case c1 => exact cell_one_new _ _ _
          case c2 => first | rfl | (intro u hu; simp at hu; subst hu; rfl)
          case c3 => unfold maxLen; omega
          case c4 => omega
          case c5 => have h1 := hH.out.2.size; have h2 := HS0.out; simp; omega
          intro v4 w4 hown4 hgrow4 _ _
          have HO := Lib.hid hown4
          have HX : Hid (Ext W0 w4) := Lib.hid (Ext.grown ((hH.out.2).alloc _) hgrow4 (fun k hk => by have := (hH.out.1.lt k hk).1; have := HS0.out; omega))
          clear hown4 hgrow4
          go_wp2_with fail
          go_roundw
          case rel => exact ⟨k + 1, by go_num, by omega, Lib.hid ⟨by rw [HSN.out, HCUT.out]; exact HO.out, HX.out⟩⟩
          case measure => simp [intOf]; omega
        · have hI : ¬ ((900 : Int) < s.size) := by omega
          have hcut : cutS 900 s = s := by unfold cutS; rw [if_neg hbig]
          have HCUT := Lib.hid hcut
          clear hcut
          go_wp2_with (at_builtin; refine Hid.out ?_)
          refine Lib.hid ?_
          refine wpList_append_own_at _ rfl _ _ 22 rfl (N + 2) 9 i1 (.string ⟨#[]⟩) 1 16 Tryz.underlying22 hi1 hy0 hy1 hy2 rfl (by decide) _ k _ rfl (hH.out.1.alloc _) ⟨wr.heap.size, 0, none⟩ 1 1 [.string (s)] rfl rfl ?c1 ?c2 ?c3 ?c4 ?c5 ?_
          try case c1 => exact cell_one_new _ _ _
          case c2 => first | rfl | (intro u hu; simp at hu; subst hu; rfl)
          case c3 => unfold maxLen; omega
          case c4 => omega
          case c5 => have h1 := hH.out.2.size; have h2 := HS0.out; simp; omega
          intro v4 w4 hown4 hgrow4 _ _
          have HO := Lib.hid hown4
          have HX : Hid (Ext W0 w4) := Lib.hid (Ext.grown ((hH.out.2).alloc _) hgrow4 (fun k hk => by have := (hH.out.1.lt k hk).1; have := HS0.out; omega))
          clear hown4 hgrow4
          go_wp2_with fail
          go_roundw
          case rel => exact ⟨k + 1, by go_num, by omega, Lib.hid ⟨by rw [HSN.out, HCUT.out]; exact HO.out, HX.out⟩⟩
          case measure => simp [intOf]; omega
      · have hk : k = 12 := by omega
        have hnl : ¬ ((k : Int) < (12 : Int)) := by omega
        rw [hk] at hH ⊢
        clear hk
        obtain ⟨q1, q2, q3, hb2⟩ := HB1.out
        have hbN := (hH.out.2.below.block (N + 1) (lt_of_heap hb2)).trans hb2
        have hd0 := cell_of_row wr (N + 1) 0 _ _ _ hbN
        have hd1 := cell_of_row wr (N + 1) 1 _ _ _ hbN
        have hd2 := cell_of_row wr (N + 1) 2 _ _ _ hbN
        simp only [List.getElem?_toArray, List.getElem?_cons_zero, List.getElem?_cons_succ] at hd0 hd1 hd2
        have hN1 := lt_of_heap hbN
        have hg0 : wr.frozen? ⟨N + 1, 0, none⟩ = false := by simp [World.frozen?, hbN]
        have hg1 : wr.frozen? ⟨N + 1, 1, none⟩ = false := by simp [World.frozen?, hbN]
        have hg2 : wr.frozen? ⟨N + 1, 2, none⟩ = false := by simp [World.frozen?, hbN]
        have HBN := Lib.hid hbN
        clear hb2 hbN
        obtain ⟨pl, cl, hlv⟩ := own_sl hH.out.1
        subst hlv
        go_wp2_with fail
        refine bodyPost_ret (results_cell (p := 2) (ty := 50) rfl _ _ ⟨N + 1, 0, none⟩ _ rfl (run_loadVar_row (P := Tryz.prog) _ (N + 1) 50 50 #[.int .i64 bk, .int .i64 ver, .slice pl 12 cl] (0, 0) _ (by simp [World.setCell, Array.getElem?_modify, HBN.out]) Tryz.underlying50 rfl (by kernel_rfl))) rfl ⟨.slice pl 12 cl, rfl, ?_, ?_⟩
        · have h1 := own_block hH.out.1 (w' := (((wr.setCell ⟨N, 2, none⟩ (.slice pl 12 cl)).setCell ⟨N + 1, 0, none⟩ (.int .i64 bk)).setCell ⟨N + 1, 1, none⟩ (.int .i64 ver)).setCell ⟨N + 1, 2, none⟩ (.slice pl 12 cl)) (fun q hq => by
            have := (hH.out.1.lt q hq).1
            rw [Go.Deep.blk_setCell_other _ _ _ _ (show q ≠ N + 1 by omega), Go.Deep.blk_setCell_other _ _ _ _ (show q ≠ N + 1 by omega), Go.Deep.blk_setCell_other _ _ _ _ (show q ≠ N + 1 by omega), Go.Deep.blk_setCell_other _ _ _ _ (show q ≠ N by omega)])
          rw [← HF.out.2, ← HF.out.1]
          exact own_mono h1 (by have := HN.out; omega)
        · have hle : w.heap.size ≤ N := by rw [HN.out]; exact Nat.le_refl _
          have hle1 : w.heap.size ≤ N + 1 := by omega
          exact ((((HX0.out.trans hH.out.2).setCell (p := ⟨N, 2, none⟩) hle _).setCell (p := ⟨N + 1, 0, none⟩) hle1 _).setCell (p := ⟨N + 1, 1, none⟩) hle1 _).setCell (p := ⟨N + 1, 2, none⟩) hle1 _
  · have hI : ¬ ((12 : Int) < n) := by omega
    obtain ⟨m, hm⟩ : ∃ m, n = m := ⟨_, rfl⟩
    subst hm
    have HN2 := Lib.hid hn
    have HF := Lib.hid (fewPS_of (ts := ts) (m := n) (by omega))
    have m0 : True := trivial
    clear h hz hn
    go_enter Tryz.func16, Tryz.ntmps16
    go_wp2_with fail
    obtain ⟨N, hN⟩ : ∃ N, w.heap.size = N := ⟨_, rfl⟩
    have HN := Lib.hid hN
    obtain ⟨W0, hW0⟩ : ∃ W0, (w.alloc (.cells #[.int .i64 bk, .int .i64 ver, .slice p n cap] 50)).alloc (.cells #[.int .i64 0, .int .i64 0, .slice none 0 0] 50) = W0 := ⟨_, rfl⟩
    have HX0 : Hid (Ext w W0) := Lib.hid (by rw [← hW0]; exact ((Ext.refl _).alloc _).alloc _)
    have hs0 : W0.heap.size = N + 2 := by rw [← hW0]; simp; omega
    have hb0 : W0.heap[N]? = some (.cells #[.int .i64 bk, .int .i64 ver, .slice p n cap] 50 (0, 0)) := by
      rw [← hW0, ← hN]
      exact (heap_alloc_old _ _ (by simp)).trans (heap_alloc_new w _)
    have hb1 : ∃ c1 c2 c3, W0.heap[N + 1]? = some (.cells #[c1, c2, c3] 50 (0, 0)) := by
      refine ⟨.int .i64 0, .int .i64 0, .slice none 0 0, ?_⟩
      rw [← hW0, ← hN]
      have := heap_alloc_new (w.alloc (.cells #[.int .i64 bk, .int .i64 ver, .slice p n cap] 50)) (.cells #[.int .i64 0, .int .i64 0, .slice none 0 0] 50)
      rw [World.size_alloc] at this
      exact this
    have HS0 := Lib.hid hs0
    have HB0 := Lib.hid hb0
    have HB1 := Lib.hid hb1
    rw [hW0]
    clear hW0 hs0 hb0 hb1
    go_loopw [3, 4] (fun lv ii wr => ∃ (k : Nat), ii = .int .i64 (k : Int) ∧ k ≤ n ∧ Hid (wr.ownsRow (N + 2) 9 1 lv k (psC ts k) ∧ Ext W0 wr)) (fun _ ii _ => n - (intOf ii).toNat)
    case atStart => exact ⟨0, rfl, Nat.zero_le _, Lib.hid ⟨World.ownsRow_nil _ _ _ _, Ext.refl _⟩⟩
    case round =>
      obtain ⟨k, rfl, hkm, hH⟩ := hrel
      obtain ⟨lv, hlv⟩ : ∃ x, x = u3 := ⟨_, rfl⟩
      subst hlv
      rw [hN]
      clear hN
      have hb := (hH.out.2.below.block N (lt_of_heap HB0.out)).trans HB0.out
      have hc0 := cell_of_row wr N 0 _ _ _ hb
      have hc1 := cell_of_row wr N 1 _ _ _ hb
      have hc2 := cell_of_row wr N 2 _ _ _ hb
      simp only [List.getElem?_toArray, List.getElem?_cons_zero, List.getElem?_cons_succ] at hc0 hc1 hc2
      have hNw := lt_of_heap hb
      have hf2 : wr.frozen? ⟨N, 2, none⟩ = false := by simp [World.frozen?, hb]
      have HB := Lib.hid hb
      clear hb
      by_cases hlt : k < n
      · have hltI : (k : Int) < n := by omega
        have hk0 : (0 : Int) ≤ (k : Int) := by omega
        obtain ⟨s, hsx⟩ : ∃ s, ts[k]? = some s := ⟨_, List.getElem?_eq_getElem (by have := HN2.out; omega)⟩
        obtain ⟨b, off, rfl, c0⟩ := HC.out k s hsx
        have c1 := cell_ext c0 (HX0.out.trans hH.out.2)
        have hb1 := World.block_lt_of_cell? _ _ c1
        have hsn : psC ts (k + 1) = psC ts k ++ [.string (cutS 900 s)] := by
          unfold psC; rw [List.take_add_one, List.getElem?_map, hsx]; simp
        have HSN := Lib.hid hsn
        clear hsx hsn c0
        by_cases hbig : 900 < s.size
        · have hI : (900 : Int) < s.size := by omega
          have hI2 : (900 : Int) ≤ s.size := by omega
          have hcut : cutS 900 s = s.extract 0 900 := by unfold cutS; rw [if_pos hbig]
          have HCUT := Lib.hid hcut
          clear hcut
          go_wp2_with (at_builtin; refine Hid.out ?_)
          refine Lib.hid ?_
          refine wpList_append_own_at _ rfl _ _ 22 rfl (N + 2) 9 i1 (.string ⟨#[]⟩) 1 16 Tryz.underlying22 hi1 hy0 hy1 hy2 rfl (by decide) _ k _ rfl (hH.out.1.alloc _) ⟨wr.heap.size, 0, none⟩ 1 1 [.string (s.extract 0 900)] rfl rfl ?c1 ?c2 ?c3 ?c4 ?c5 ?_
          try case c1 => exact cell_one_new _ _ _
          case c2 => first | rfl | (intro u hu; simp at hu; subst hu; rfl)
          case c3 => unfold maxLen; omega
          case c4 => omega
          case c5 => have h1 := hH.out.2.size; have h2 := HS0.out; simp; omega
          intro v4 w4 hown4 hgrow4 _ _
          have HO := Lib.hid hown4
          have HX : Hid (Ext W0 w4) := Lib.hid (Ext.grown ((hH.out.2).alloc _) hgrow4 (fun k hk => by have := (hH.out.1.lt k hk).1; have := HS0.out; omega))
          clear hown4 hgrow4
          go_wp2_with fail
          go_roundw
          case rel => exact ⟨k + 1, by go_num, by omega, Lib.hid ⟨by rw [HSN.out, HCUT.out]; exact HO.out, HX.out⟩⟩
          case measure => simp [intOf]; omega
        · have hI : ¬ ((900 : Int) < s.size) := by omega
          have hcut : cutS 900 s = s := by unfold cutS; rw [if_neg hbig]
          have HCUT := Lib.hid hcut
          clear hcut
          go_wp2_with (at_builtin; refine Hid.out ?_)
          refine Lib.hid ?_
          refine wpList_append_own_at _ rfl _ _ 22 rfl (N + 2) 9 i1 (.string ⟨#[]⟩) 1 16 Tryz.underlying22 hi1 hy0 hy1 hy2 rfl (by decide) _ k _ rfl (hH.out.1.alloc _) ⟨wr.heap.size, 0, none⟩ 1 1 [.string (s)] rfl rfl ?c1 ?c2 ?c3 ?c4 ?c5 ?_
          try case c1 => exact cell_one_new _ _ _
          case c2 => first | rfl | (intro u hu; simp at hu; subst hu; rfl)
          case c3 => unfold maxLen; omega
          case c4 => omega
          case c5 => have h1 := hH.out.2.size; have h2 := HS0.out; simp; omega
          intro v4 w4 hown4 hgrow4 _ _
          have HO := Lib.hid hown4
          have HX : Hid (Ext W0 w4) := Lib.hid (Ext.grown ((hH.out.2).alloc _) hgrow4 (fun k hk => by have := (hH.out.1.lt k hk).1; have := HS0.out; omega))
          clear hown4 hgrow4
          go_wp2_with fail
          go_roundw
          case rel => exact ⟨k + 1, by go_num, by omega, Lib.hid ⟨by rw [HSN.out, HCUT.out]; exact HO.out, HX.out⟩⟩
          case measure => simp [intOf]; omega
      · have hk : k = n := by omega
        have hnl : ¬ ((k : Int) < (n : Int)) := by omega
        rw [hk] at hH ⊢
        clear hk
        obtain ⟨q1, q2, q3, hb2⟩ := HB1.out
        have hbN := (hH.out.2.below.block (N + 1) (lt_of_heap hb2)).trans hb2
        have hd0 := cell_of_row wr (N + 1) 0 _ _ _ hbN
        have hd1 := cell_of_row wr (N + 1) 1 _ _ _ hbN
        have hd2 := cell_of_row wr (N + 1) 2 _ _ _ hbN
        simp only [List.getElem?_toArray, List.getElem?_cons_zero, List.getElem?_cons_succ] at hd0 hd1 hd2
        have hN1 := lt_of_heap hbN
        have hg0 : wr.frozen? ⟨N + 1, 0, none⟩ = false := by simp [World.frozen?, hbN]
        have hg1 : wr.frozen? ⟨N + 1, 1, none⟩ = false := by simp [World.frozen?, hbN]
        have hg2 : wr.frozen? ⟨N + 1, 2, none⟩ = false := by simp [World.frozen?, hbN]
        have HBN := Lib.hid hbN
        clear hb2 hbN
        obtain ⟨pl, cl, hlv⟩ := own_sl hH.out.1
        subst hlv
        go_wp2_with fail
        refine bodyPost_ret (results_cell (p := 2) (ty := 50) rfl _ _ ⟨N + 1, 0, none⟩ _ rfl (run_loadVar_row (P := Tryz.prog) _ (N + 1) 50 50 #[.int .i64 bk, .int .i64 ver, .slice pl n cl] (0, 0) _ (by simp [World.setCell, Array.getElem?_modify, HBN.out]) Tryz.underlying50 rfl (by kernel_rfl))) rfl ⟨.slice pl n cl, rfl, ?_, ?_⟩
        · have h1 := own_block hH.out.1 (w' := (((wr.setCell ⟨N, 2, none⟩ (.slice pl n cl)).setCell ⟨N + 1, 0, none⟩ (.int .i64 bk)).setCell ⟨N + 1, 1, none⟩ (.int .i64 ver)).setCell ⟨N + 1, 2, none⟩ (.slice pl n cl)) (fun q hq => by
            have := (hH.out.1.lt q hq).1
            rw [Go.Deep.blk_setCell_other _ _ _ _ (show q ≠ N + 1 by omega), Go.Deep.blk_setCell_other _ _ _ _ (show q ≠ N + 1 by omega), Go.Deep.blk_setCell_other _ _ _ _ (show q ≠ N + 1 by omega), Go.Deep.blk_setCell_other _ _ _ _ (show q ≠ N by omega)])
          rw [← HF.out.2, ← HF.out.1]
          exact own_mono h1 (by have := HN.out; omega)
        · have hle : w.heap.size ≤ N := by rw [HN.out]; exact Nat.le_refl _
          have hle1 : w.heap.size ≤ N + 1 := by omega
          exact ((((HX0.out.trans hH.out.2).setCell (p := ⟨N, 2, none⟩) hle _).setCell (p := ⟨N + 1, 0, none⟩) hle1 _).setCell (p := ⟨N + 1, 1, none⟩) hle1 _).setCell (p := ⟨N + 1, 2, none⟩) hle1 _
end Go.Proofs.YtpchohjkelopoaaGreatDoor

set_option maxRecDepth 20000
namespace Go.Proofs.YtpchohjkelopoaaGreatDoor
open Go.RowKit
attribute [go_sem] more_more Array.size_append
theorem arr_self {P : Program} (w : World) (d : Nat) (t e : TypeId) (n : Nat) (ht : P.underlying t = some (.array n e)) (hsz : ∀ w, (sizeOf e).run P w = .ok 1 w) (xs : Array Value)
    (h : ∀ i, i < n → ∃ v, (part e xs (i * 1)).run P w = .ok v w ∧ (Op.equalIn d e v v).run P w = .ok true w) :
    (Op.equalIn (d + 1) t (.agg xs) (.agg xs)).run P w = .ok true w := by
  rw [Op.equalIn]
  simp only [Sem.run_bind, run_underlying ht, Result.andThen_ok, hsz, Std.Legacy.Range.forIn_eq_forIn_range', Std.Legacy.Range.size, Nat.sub_zero, Nat.add_sub_cancel, Nat.div_one]
  have hl : ∀ i ∈ List.range' 0 n 1, i < n := fun i hi => by simpa using (List.mem_range'_1.1 hi).2
  generalize List.range' 0 n 1 = l at hl ⊢
  induction l with
  | nil => simp
  | cons i l ih =>
    obtain ⟨v, h1, h2⟩ := h i (hl i (by simp))
    simp only [List.forIn_cons, Sem.run_bind, h1, h2, Result.andThen_ok]
    simp only [Bool.not_true, Bool.false_eq_true, if_false, Sem.run_pure, Result.andThen_ok]
    exact ih fun j hj => hl j (by simp [hj])
theorem int_size (w : World) : (sizeOf 3).run Tryz.prog w = .ok 1 w := by kernel_rfl
theorem bool_size (w : World) : (sizeOf 4).run Tryz.prog w = .ok 1 w := by kernel_rfl
theorem part_one {P : Program} {e : TypeId} {xs : Array Value} {i : Nat} {v : Value} (w : World) (h : (isAgg e).run P w = .ok false w) (hv : xs[i]? = some v) : (part e xs i).run P w = .ok v w := by
  simp [part, h, hv]
def lsC (L : Nat → Int) : Array Value := #[.int .i64 (L 0), .int .i64 (L 1), .int .i64 (L 2), .int .i64 (L 3), .int .i64 (L 4), .int .i64 (L 5), .int .i64 (L 6), .int .i64 (L 7), .int .i64 (L 8), .int .i64 (L 9), .int .i64 (L 10), .int .i64 (L 11), .int .i64 (L 12), .int .i64 (L 13), .int .i64 (L 14), .int .i64 (L 15)]
theorem lsC_get (L : Nat → Int) (k : Nat) (hk : k < 16) : (lsC L)[k]? = some (.int .i64 (L k)) := by
  match k, hk with
  | 0, _ => rfl
  | 1, _ => rfl
  | 2, _ => rfl
  | 3, _ => rfl
  | 4, _ => rfl
  | 5, _ => rfl
  | 6, _ => rfl
  | 7, _ => rfl
  | 8, _ => rfl
  | 9, _ => rfl
  | 10, _ => rfl
  | 11, _ => rfl
  | 12, _ => rfl
  | 13, _ => rfl
  | 14, _ => rfl
  | 15, _ => rfl
  | k + 16, h => exact absurd h (by omega)
theorem agg_int (w : World) : (isAgg 3).run Tryz.prog w = .ok false w := by kernel_rfl
theorem agg_bool (w : World) : (isAgg 4).run Tryz.prog w = .ok false w := by kernel_rfl
theorem ls_self (L : Nat → Int) (d : Nat) (w : World) : (Op.equalIn (d + 2) 23 (.agg (lsC L)) (.agg (lsC L))).run Tryz.prog w = .ok true w :=
  arr_self w (d + 1) 23 3 16 Tryz.underlying23 int_size _ fun i hi => ⟨_, part_one w (agg_int w) (by rw [Nat.mul_one]; exact lsC_get L i hi), by rw [run_equalIn_int w d 3 .i64 .i64 _ _ Tryz.underlying3]; simp⟩
theorem gt_self (g : Nat → Bool) (w : World) : (binOp .eql 37 (.agg (gtC g)) (.agg (gtC g))).run Tryz.prog w = .ok (.bool true) w := by
  rw [run_eql_struct, arr_self w 9999 37 4 16 Tryz.underlying37 bool_size _ fun i hi => ⟨_, part_one w (agg_bool w) (by rw [Nat.mul_one]; exact gtC_get g i hi), by rw [show (9999 : Nat) = 9998 + 1 from rfl, run_equalIn_bool w 9998 4 _ _ Tryz.underlying4]; simp⟩]
  rfl
theorem mf_part (a b c : Int) (L : Nat → Int) (w : World) : (part 23 (mfC a b c L) 3).run Tryz.prog w = .ok (.agg (lsC L)) w := by kernel_rfl
theorem mf_fields : (Tryz.prog.fieldsOf 25).toList.map (fun f => (f.name, f.type, f.offset)) = [("Ver", 3, 0), ("Bytes", 3, 1), ("Keys", 3, 2), ("Leaves", 23, 3)] := by kernel_rfl
theorem eqFields_one {P : Program} (w : World) (d : Nat) (xs : Array Value) : ∀ (fs : List Field), (∀ f ∈ fs, ∃ v, (part f.type xs f.offset).run P w = .ok v w ∧ (Op.equalIn d f.type v v).run P w = .ok true w) → (Op.eqFields d xs xs fs).run P w = .ok true w
  | [], _ => by simp [Op.eqFields]
  | f :: fs, h => by
    obtain ⟨v, h1, h2⟩ := h f (by simp)
    have ih := eqFields_one w d xs fs (fun g hg => h g (by simp [hg]))
    unfold Op.eqFields
    split
    · simp only [Sem.run_bind, h1, h2, Result.andThen_ok, Bool.not_true, Bool.false_eq_true, if_false]
      exact ih
    · exact ih
theorem mf_selfd (d : Nat) (a b c : Int) (L : Nat → Int) (w : World) : (Op.equalIn (d + 3) 25 (.agg (mfC a b c L)) (.agg (mfC a b c L))).run Tryz.prog w = .ok true w := by
  rw [run_equalIn_agg w (d + 2) 25 _ _ (by kernel_rfl) (by kernel_rfl)]
  refine eqFields_one w (d + 2) _ _ fun f hf => ?_
  have hm : (f.name, f.type, f.offset) ∈ (Tryz.prog.fieldsOf 25).toList.map (fun f => (f.name, f.type, f.offset)) := List.mem_map.2 ⟨f, hf, rfl⟩
  rw [mf_fields] at hm
  simp only [List.mem_cons, Prod.mk.injEq, List.not_mem_nil, or_false] at hm
  rcases hm with ⟨_, ht, ho⟩ | ⟨_, ht, ho⟩ | ⟨_, ht, ho⟩ | ⟨_, ht, ho⟩
  · rw [ht, ho]; exact ⟨.int .i64 a, part_one w (agg_int w) rfl, by rw [run_equalIn_int w (d + 1) 3 .i64 .i64 _ _ Tryz.underlying3]; simp⟩
  · rw [ht, ho]; exact ⟨.int .i64 b, part_one w (agg_int w) rfl, by rw [run_equalIn_int w (d + 1) 3 .i64 .i64 _ _ Tryz.underlying3]; simp⟩
  · rw [ht, ho]; exact ⟨.int .i64 c, part_one w (agg_int w) rfl, by rw [run_equalIn_int w (d + 1) 3 .i64 .i64 _ _ Tryz.underlying3]; simp⟩
  · rw [ht, ho]; exact ⟨_, mf_part a b c L w, ls_self L d w⟩
theorem mf_self (a b c : Int) (L : Nat → Int) (w : World) : (binOp .eql 25 (.agg (mfC a b c L)) (.agg (mfC a b c L))).run Tryz.prog w = .ok (.bool true) w := by
  rw [run_eql_struct, show (10000 : Nat) = 9997 + 3 from rfl, mf_selfd]
  rfl
theorem wpList_load_subG {P : Program} {ops : Array Oper} {rest : List Oper} {o : Oper} {a : Act} {w : World} {Q : Exit → Act → World → Prop} (hw : Region.wanted o (yielded ops a.tmps) = true) (ty : TypeId) (x : Operand) (ho : o.op = .load ty x)
    (g off : Nat) (hx : a.eval x = .pointer (some ⟨g, off, none⟩)) (t : TypeId) (cs sub : Array Value) (fr : Nat × Nat) (d : TypeDesc) (hg : w.heap[g]? = some (.cells cs t fr))
    (hu : P.underlying ty = some d) (hd : (match d with | .struct _ | .array _ _ => true | _ => false) = true) (hi : (P.info? ty).map (·.size) = some sub.size) (hl : ∀ j v, sub.toList[j]? = some v → cs[off + j]? = some v)
    (h : wpList P ops Q rest (a.put o.dst (.agg sub)) w) : wpList P ops Q (o :: rest) a w := by
  have hlc : (loadCells ⟨g, off, none⟩ sub.toList.length).run P w = .ok sub.toList.toArray w :=
    run_loadCells_list (P := P) w ⟨g, off, none⟩ sub.toList (fun j v hv => by
      rw [Addr.add_lit, cell_of_row w g (off + j) cs t fr hg]
      exact hl j v hv)
  have hr : (loadVar ty ⟨g, off, none⟩).run P w = .ok (.agg sub) w := by
    cases hq : P.info? ty with
    | none => simp [hq] at hi
    | some i =>
      have hs : i.size = sub.size := by simpa [hq] using hi
      have hagg : (isAgg ty).run P w = .ok true w := by
        unfold isAgg
        rw [Sem.run_bind, run_underlying hu w]
        cases d <;> simp_all
      have hlc' : (loadCells ⟨g, off, none⟩ sub.size).run P w = .ok sub w := by simpa using hlc
      simp [loadVar, Sem.run_bind, hagg, sizeOf, typeInfo, hq, hs, hlc']
  unfold wpList
  rw [if_pos hw]
  refine Or.inl ?_
  unfold Oper.wp execOp
  simp only [ho, hx, Instr.loadAt, Instr.sureAddr, Sem.run_bind, Sem.run_pure, Result.andThen_ok, hr]
  exact h
theorem two_boxes {w : World} {xs ys : Array Value} {t t' : TypeId} : ((w.alloc (.cells xs t)).alloc (.cells ys t')).heap[w.heap.size]? = some (.cells xs t (0, 0)) ∧ ((w.alloc (.cells xs t)).alloc (.cells ys t')).heap[w.heap.size + 1]? = some (.cells ys t' (0, 0)) := by
  refine ⟨(heap_alloc_old _ _ (by simp)).trans (heap_alloc_new w _), ?_⟩
  have := heap_alloc_new (w.alloc (.cells xs t)) (.cells ys t')
  rw [World.size_alloc] at this
  exact this
set_option maxHeartbeats 4000000 in
theorem rsame15_any (a b c : Int) (L : Nat → Int) (g : Nat → Bool) (bs bs' : Nat → Nat) (v v' : Nat → Value) (T : Nat → List It) (V : Nat → Int) (w : World) (h : LvsAt w bs v T) (h' : LvsAt w bs' v' T) (hlen : ∀ k, k < 16 → (T k).length ≤ 9223372036854775807) :
    Calls Tryz.prog 12 #[.agg (crC a b c L g v V), .agg (crC a b c L g v' V)] w fun e w' => e = .returned (.bool true) ∧ Ext w w' := by
  have SC := Lib.hid fun (W : World) (hx : Ext w W) => tsame_any bs bs' v v' T V W (h.ext hx) (h'.ext hx) hlen
  have hm := fun W => mf_self a b c L W
  have hg := fun W => gt_self g W
  clear h h' hlen
  go_enter Tryz.func12, Tryz.ntmps12
  go_wp2_with (first
    | (refine wpList_load_sub rfl 25 _ rfl (w.heap.size) 0 rfl 39 (crC a b c L g v V) (mfC a b c L) (0, 0) _ (two_boxes.1) Tryz.underlying25 rfl (by kernel_rfl) (crC_mf a b c L g v V) ?_)
    | (refine wpList_load_sub rfl 25 _ rfl (w.heap.size + 1) 0 rfl 39 (crC a b c L g v' V) (mfC a b c L) (0, 0) _ (two_boxes.2) Tryz.underlying25 rfl (by kernel_rfl) (crC_mf a b c L g v' V) ?_)
    | (refine wpList_load_subG rfl 37 _ rfl (w.heap.size) 19 rfl 39 (crC a b c L g v V) (gtC g) (0, 0) _ (two_boxes.1) Tryz.underlying37 rfl (by kernel_rfl) (crC_gt a b c L g v V) ?_)
    | (refine wpList_load_subG rfl 37 _ rfl (w.heap.size + 1) 19 rfl 39 (crC a b c L g v' V) (gtC g) (0, 0) _ (two_boxes.2) Tryz.underlying37 rfl (by kernel_rfl) (crC_gt a b c L g v' V) ?_)
    | (refine wpList_load_subG rfl 29 _ rfl (w.heap.size) 35 rfl 39 (crC a b c L g v V) (trC v V) (0, 0) _ (two_boxes.1) Tryz.underlying29 rfl (by kernel_rfl) (crC_tr a b c L g v V) ?_)
    | (refine wpList_load_subG rfl 29 _ rfl (w.heap.size + 1) 35 rfl 39 (crC a b c L g v' V) (trC v' V) (0, 0) _ (two_boxes.2) Tryz.underlying29 rfl (by kernel_rfl) (crC_tr a b c L g v' V) ?_)
    | (go_at_call 48; refine (SC.out _ (by repeat (first | exact Ext.refl _ | apply Ext.alloc | apply Ext.more | apply Ext.drewN))).mono ?_; rintro e w1 ⟨rfl, hx⟩; have HX := Lib.hid ((((Ext.refl w).alloc _).alloc _).trans hx); clear hx))
  go_ret
  exact ⟨rfl, HX.out⟩
set_option maxHeartbeats 4000000 in
theorem rsame13_any (a b c : Int) (bs bs' : Nat → Nat) (v v' : Nat → Value) (T : Nat → List It) (V : Nat → Int) (w : World) (h : LvsAt w bs v T) (h' : LvsAt w bs' v' T) (hlen : ∀ k, k < 16 → (T k).length ≤ 9223372036854775807) :
    Calls Tryz.prog 21 #[.agg (stC v V a b c), .agg (stC v' V a b c)] w fun e w' => e = .returned (.bool true) ∧ Ext w w' := by
  have SC := Lib.hid fun (W : World) (hx : Ext w W) => tsame_any bs bs' v v' T V W (h.ext hx) (h'.ext hx) hlen
  have q1 : ∀ x ys, StBlk ((w.alloc (.cells (stC v V a b c) 56)).alloc (.cells ys x)) w.heap.size v V a b c := fun x ys => two_boxes.1
  have q2 : StBlk ((w.alloc (.cells (stC v V a b c) 56)).alloc (.cells (stC v' V a b c) 56)) (w.heap.size + 1) v' V a b c := two_boxes.2
  obtain ⟨c1, c2, c3⟩ := (q1 56 (stC v' V a b c)).tail
  obtain ⟨d1, d2, d3⟩ := q2.tail
  clear h h' hlen q1 q2
  go_enter Tryz.func21, Tryz.ntmps21
  go_wp2_with (first
    | (refine wpList_load_subG rfl 29 _ rfl (w.heap.size) 0 rfl 56 (stC v V a b c) (trC v V) (0, 0) _ (two_boxes.1) Tryz.underlying29 rfl (by kernel_rfl) (stC_tr v V a b c) ?_)
    | (refine wpList_load_subG rfl 29 _ rfl (w.heap.size + 1) 0 rfl 56 (stC v' V a b c) (trC v' V) (0, 0) _ (two_boxes.2) Tryz.underlying29 rfl (by kernel_rfl) (stC_tr v' V a b c) ?_)
    | (go_at_call 48; refine (SC.out _ (by repeat (first | exact Ext.refl _ | apply Ext.alloc | apply Ext.more | apply Ext.drewN))).mono ?_; rintro e w1 ⟨rfl, hx⟩; have HX := Lib.hid ((((Ext.refl w).alloc _).alloc _).trans hx); clear hx))
  go_ret
  exact ⟨rfl, HX.out⟩
end Go.Proofs.YtpchohjkelopoaaGreatDoor

set_option maxRecDepth 20000
namespace Go.Proofs.YtpchohjkelopoaaGreatDoor
open Go.RowKit
attribute [go_sem] more_more Array.size_append
theorem rbucket_a (w : World) : Calls Tryz.prog 109 #[.string ⟨#[97]⟩] w fun e w' => e = .returned (.int .i64 1) ∧ Ext w w' := by
  go_enter Tryz.func109, Tryz.ntmps109
  go_wp2
  all_goals (go_ret; exact ⟨by kernel_rfl, by repeat (first | exact Ext.refl _ | apply Ext.alloc | apply Ext.more)⟩)
theorem rat_nil (p : Option Addr) (cap : Nat) (k : ByteArray) (w : World) : Calls Tryz.prog 133 #[.slice p 0 cap, .string k] w fun e w' => e = .returned (.int .i64 (-1)) ∧ Ext w w' := by
  go_enter Tryz.func133, Tryz.ntmps133
  go_wp2_with fail
  go_loopw [5] (fun ii wr => ii = .int .i64 0 ∧ Ext w wr) (fun _ _ => 0)
  case atStart => exact ⟨rfl, by repeat (first | exact Ext.refl _ | apply Ext.alloc | apply Ext.more)⟩
  case round =>
    obtain ⟨rfl, hx⟩ := hrel
    have HX := Lib.hid hx
    clear hx
    go_wp2_with fail
    go_ret
    exact ⟨rfl, HX.out⟩
set_option maxHeartbeats 2000000 in
theorem rget_nil (k : ByteArray) (w : World) : Calls Tryz.prog 108 #[.agg (trC nilV zeroV), .string k] w fun e w' => e = .returned (.tuple #[.agg #[.string ⟨#[]⟩, .int .i64 0, .int .i64 0, .string ⟨#[]⟩, .int .i64 0], .bool false]) ∧ Ext w w' := by
  have hb := two_boxes (w := w) (xs := trC nilV zeroV) (ys := #[.string ⟨#[]⟩, .int .i64 0, .int .i64 0, .string ⟨#[]⟩, .int .i64 0]) (t := 29) (t' := 152)
  have hx0 : Ext w ((w.alloc (.cells (trC nilV zeroV) 29)).alloc (.cells #[.string ⟨#[]⟩, .int .i64 0, .int .i64 0, .string ⟨#[]⟩, .int .i64 0] 152)) := ((Ext.refl w).alloc _).alloc _
  have HB := Lib.hid hb
  have HX0 := Lib.hid hx0
  have AT := Lib.hid fun (W : World) => rat_nil none 0 k W
  clear hb hx0
  go_enter Tryz.func108, Tryz.ntmps108
  go_wp2_with fail
  go_loopw [6] (fun ii wr => ∃ j : Nat, ii = .int .i64 (j : Int) ∧ j ≤ 16 ∧ Hid (Ext ((w.alloc (.cells (trC nilV zeroV) 29)).alloc (.cells #[.string ⟨#[]⟩, .int .i64 0, .int .i64 0, .string ⟨#[]⟩, .int .i64 0] 152)) wr)) (fun ii _ => 16 - (intOf ii).toNat)
  case atStart => exact ⟨0, rfl, Nat.zero_le _, Lib.hid (Ext.refl _)⟩
  case round =>
    obtain ⟨j, rfl, hj, hH⟩ := hrel
    by_cases hlt : j < 16
    · have hjI : (j : Int) < 16 := by omega
      have hj0 : (0 : Int) ≤ (j : Int) := by omega
      have hT : TrBlk wr w.heap.size nilV zeroV := TrBlk.ext (show TrBlk _ w.heap.size nilV zeroV from HB.out.1) hH.out
      have hcl : wr.cell? ⟨w.heap.size, j, none⟩ = some (.slice none 0 0) := hT.leaf j hlt
      have hw := lt_of_heap hT
      clear hT
      go_wp2_with (go_at_call 133; refine (AT.out _).mono ?_; rintro e w2 ⟨rfl, hx⟩; have HX := Lib.hid (hH.out.trans hx); clear hx)
      go_roundw
      case rel => exact ⟨j + 1, by go_num, by omega, HX⟩
      case measure => simp [intOf]; omega
    · obtain rfl : j = 16 := by omega
      have hb : wr.heap[w.heap.size + 1]? = some (.cells #[.string ⟨#[]⟩, .int .i64 0, .int .i64 0, .string ⟨#[]⟩, .int .i64 0] 152 (0, 0)) := by rw [hH.out.below.block _ (lt_of_heap HB.out.2)]; exact HB.out.2
      have HB1 := Lib.hid hb
      clear hb
      go_wp2_with (first
        | (refine wpList_buildTo rfl 152 #[] rfl _ rfl (#[.string ⟨#[]⟩, .int .i64 0, .int .i64 0, .string ⟨#[]⟩, .int .i64 0]) (by kernel_rfl) ?_)
        | (refine wpList_store_rowTo rfl 152 _ _ rfl rfl (w.heap.size + 1) (#[.string ⟨#[]⟩, .int .i64 0, .int .i64 0, .string ⟨#[]⟩, .int .i64 0]) rfl rfl 152 (#[.string ⟨#[]⟩, .int .i64 0, .int .i64 0, .string ⟨#[]⟩, .int .i64 0]) (HB1.out) (by kernel_rfl) rfl ((by kernel_rfl)) ?_))
      exact bodyPost_ret (results_cell_slot (p := 4) (q := 5) (ty := 152) rfl _ _ ⟨w.heap.size + 1, 0, none⟩ _ rfl (run_loadVar_row _ (w.heap.size + 1) 152 152 #[.string ⟨#[]⟩, .int .i64 0, .int .i64 0, .string ⟨#[]⟩, .int .i64 0] (0, 0) _ (setRow_heap _ _ _ _ _ _ HB1.out) Tryz.underlying152 rfl (by kernel_rfl)) _ rfl) rfl ⟨rfl, (HX0.out.trans hH.out).setRow (Nat.le_succ _) _⟩
set_option maxHeartbeats 2000000 in
theorem rwith_nil (x : It) (p : Option Addr) (cap : Nat) (w : World) :
    Calls Tryz.prog 111 #[.slice p 0 cap, itV x] w fun e w' => ∃ v', e = .returned v' ∧ w'.ownsRow w.heap.size 152 5 v' 1 (itCells [x]) ∧ Ext w w' := by
  obtain ⟨i1, hi1, hy0, hy1, hy2⟩ := info_parts itInfo
  unfold itV
  go_enter Tryz.func111, Tryz.ntmps111
  go_wp2_with fail
  have hb := heap_alloc_new w (.cells #[.string x.k, .int .i64 x.vk, .int .i64 x.vi, .string x.vs, .int .i64 x.ver] 152)
  have hx0 : Ext w (w.alloc (.cells #[.string x.k, .int .i64 x.vk, .int .i64 x.vi, .string x.vs, .int .i64 x.ver] 152)) := (Ext.refl w).alloc _
  obtain ⟨W0, hW0⟩ : ∃ W0, w.alloc (.cells #[.string x.k, .int .i64 x.vk, .int .i64 x.vi, .string x.vs, .int .i64 x.ver] 152) = W0 := ⟨_, rfl⟩
  rw [hW0] at hb hx0 ⊢
  obtain ⟨N, hN⟩ : ∃ N, w.heap.size = N := ⟨_, rfl⟩
  rw [hN] at hb ⊢
  have HX0 := Lib.hid hx0
  have HB := Lib.hid hb
  have HN := Lib.hid hN
  clear hx0 hb hW0 hN
  go_loopw [5, 6] (fun out ii wr => out = .slice none 0 0 ∧ ii = .int .i64 0 ∧ wr = W0) (fun _ _ _ => 0)
  case atStart => exact ⟨rfl, rfl, rfl⟩
  case round =>
    obtain ⟨rfl, rfl, rfl⟩ := hrel
    have hg := lt_of_heap HB.out
    have hc := fun j => cell_of_row wr N j _ _ _ HB.out
    have a0 : wr.cell? ⟨N, 0, none⟩ = some (.string x.k) := hc 0
    have a1 : wr.cell? ⟨N, 1, none⟩ = some (.int .i64 x.vk) := hc 1
    have a2 : wr.cell? ⟨N, 2, none⟩ = some (.int .i64 x.vi) := hc 2
    have a3 : wr.cell? ⟨N, 3, none⟩ = some (.string x.vs) := hc 3
    have a4 : wr.cell? ⟨N, 4, none⟩ = some (.int .i64 x.ver) := hc 4
    clear hc
    go_wp2_with (first
      | (refine wpList_load_row rfl 152 _ rfl (N) rfl 152 (#[.string x.k, .int .i64 x.vk, .int .i64 x.vi, .string x.vs, .int .i64 x.ver]) (0, 0) _ (HB.out) Tryz.underlying152 rfl (by kernel_rfl) ?_)
      | (at_builtin; go_loud (refine wpList_append_own_at _ rfl _ _ 26 rfl N 152 i1 (.agg #[.string ⟨#[]⟩, .int .i64 0, .int .i64 0, .string ⟨#[]⟩, .int .i64 0]) 5 56 Tryz.underlying26 hi1 hy0 hy1 hy2 rfl (by decide) (.slice none 0 0) 0 [] rfl (World.ownsRow_nil _ _ _ _) ⟨wr.heap.size, 0, none⟩ 1 1 (itL x) rfl rfl ?c1 ?c2 ?c3 ?c4 ?c5 ?_)))
    case c1 => exact news_it rfl
    case c2 => intro u hu; simp [itL] at hu; rcases hu with rfl | rfl | rfl | rfl | rfl <;> rfl
    case c3 => unfold maxLen; omega
    case c4 => omega
    case c5 => have := HX0.out.size; simp; omega
    intro v' w1 hown' hgrow' _ _
    have HX1 : Hid (Ext w w1) := Lib.hid ((HX0.out.alloc _).grown hgrow' (fun q hq => by cases hq))
    have HO1 := Lib.hid hown'
    clear hown' hgrow' a0 a1 a2 a3 a4
    go_wp2_with fail
    go_loopw [5, 7] (fun out ii wr => out = v' ∧ ii = .int .i64 0 ∧ wr = w1) (fun _ _ _ => 0)
    case atStart => exact ⟨rfl, rfl, rfl⟩
    case round =>
      obtain ⟨rfl, rfl, rfl⟩ := hrel
      go_wp2_with fail
      go_ret
      refine ⟨_, rfl, ?_, HX1.out⟩
      have := HO1.out
      simpa [itCells, HN.out] using this
end Go.Proofs.YtpchohjkelopoaaGreatDoor
