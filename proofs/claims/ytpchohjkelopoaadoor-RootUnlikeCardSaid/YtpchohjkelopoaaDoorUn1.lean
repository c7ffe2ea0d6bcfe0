/- At which places two lists of terms are unlike: root.Unlike; RootUnlike. -/
import Derived.Test.YtpchohjkelopoaaDoorU14
set_option linter.unusedSimpArgs false
set_option linter.unusedVariables false
set_option maxRecDepth 20000
namespace Go.Proofs.YtpchohjkelopoaaDoor
open Go.RowKit
attribute [go_sem] more_more Array.size_append

/-- the places below k at which two lists are unlike -/
def unlK (a b : List Int) (k : Nat) : List Nat := (List.range k).filter fun i => !(a.getD i 0 == b.getD i 0)
theorem unlK_yes {a b : List Int} {i : Nat} (h : ¬ a.getD i 0 = b.getD i 0) : unlK a b (i + 1) = unlK a b i ++ [i] := by
  unfold unlK
  rw [List.range_succ, List.filter_append]
  have : (!(a.getD i 0 == b.getD i 0)) = true := by rw [Bool.not_eq_true', beq_eq_false_iff_ne]; exact h
  rw [List.filter_cons, if_pos this]
  rfl
theorem unlK_no {a b : List Int} {i : Nat} (h : a.getD i 0 = b.getD i 0) : unlK a b (i + 1) = unlK a b i := by
  unfold unlK
  rw [List.range_succ, List.filter_append]
  have : ¬ (!(a.getD i 0 == b.getD i 0)) = true := by rw [h]; simp
  rw [List.filter_cons, if_neg this, List.filter_nil, List.append_nil]
theorem unlK_len (a b : List Int) (k : Nat) : (unlK a b k).length ≤ k := by
  unfold unlK
  have := List.length_filter_le (fun i => !(a.getD i 0 == b.getD i 0)) (List.range k)
  simpa using this
theorem unlK_pre (a b : List Int) (i j : Nat) : ∃ r, unlK a b (i + j) = unlK a b i ++ r := by
  unfold unlK
  rw [List.range_add, List.filter_append]
  exact ⟨_, rfl⟩
theorem unlK_at {a b : List Int} {i : Nat} (hi : i < 16) (h : ¬ a.getD i 0 = b.getD i 0) : (unlK a b 16)[(unlK a b i).length]? = some i := by
  obtain ⟨r, hr⟩ := unlK_pre a b (i + 1) (16 - (i + 1))
  rw [show i + 1 + (16 - (i + 1)) = 16 by omega, unlK_yes h] at hr
  rw [hr, List.append_assoc, List.getElem?_append_right (Nat.le_refl _)]
  simp
def unlI (a b : List Int) (k : Nat) : List Int := (unlK a b k).map fun (i : Nat) => (i : Int)

set_option maxHeartbeats 1000000 in
theorem unlike_no (p p' : Option Addr) (n n' cap cap' : Nat) (q : Value) (w : World) (h : ¬ (n = 16 ∧ n' = 16)) :
    Calls Tryd.prog 4 #[q, .slice p n cap, .slice p' n' cap'] w fun e w' => e = .returned (.tuple #[.slice none 0 0, .int .i64 1]) ∧ w = w' := by
  by_cases h1 : n = 16
  · have h2 : ¬ ((n' : Int) = 16) := by omega
    subst h1
    clear h
    go_enter Tryd.func4, Tryd.ntmps4
    go_wp2_with fail
    go_ret2
    exact ⟨rfl, rfl⟩
  · have h2 : ¬ ((n : Int) = 16) := by omega
    clear h h1
    go_enter Tryd.func4, Tryd.ntmps4
    go_wp2_with fail
    go_ret2
    exact ⟨rfl, rfl⟩

set_option maxHeartbeats 2000000 in
theorem unlike_yes (p p' : Option Addr) (cap cap' : Nat) (q : Value) (a b : List Int) (w : World) (ha : a.length = 16) (hb : b.length = 16) (h : ∀ j u, a[j]? = some u → ∃ b off, p = some ⟨b, off, none⟩ ∧ w.cell? ⟨b, off + j, none⟩ = some (.int .i64 u)) (h' : ∀ j u, b[j]? = some u → ∃ b off, p' = some ⟨b, off, none⟩ ∧ w.cell? ⟨b, off + j, none⟩ = some (.int .i64 u)) :
    Calls Tryd.prog 4 #[q, .slice p 16 cap, .slice p' 16 cap'] w fun e w' => ∃ v, e = .returned (.tuple #[v, .int .i64 0]) ∧ w'.ownsRow w.heap.size 3 1 v (unlK a b 16).length (cellsI (unlI a b 16)) ∧ Ext w w' := by
  obtain ⟨i1, hi1, hy0, hy1, hy2⟩ := info_parts intInfo
  have HA := Lib.hid ha
  have HB := Lib.hid hb
  have HP := Lib.hid h
  have HP' := Lib.hid h'
  clear ha hb h h'
  go_enter Tryd.func4, Tryd.ntmps4
  go_wp2_with fail
  go_loopw [8, 20] (fun out ii wr => ∃ k n : Nat, ii = .int .i64 (k : Int) ∧ k ≤ 16 ∧ n ≤ 16 ∧ Hid ((unlK a b k).length = n ∧ wr.ownsRow w.heap.size 3 1 out n (cellsI (unlI a b k)) ∧ Ext w wr)) (fun _ ii _ => 16 - (intOf ii).toNat)
  case atStart => exact ⟨0, 0, rfl, Nat.zero_le _, Nat.zero_le _, Lib.hid ⟨rfl, World.ownsRow_nil _ _ _ _, Ext.refl _⟩⟩
  case round =>
    obtain ⟨k, n, rfl, hk, hn, hH⟩ := hrel
    have HEX := Lib.hid hH.out.2.2
    by_cases hlt : k < 16
    · obtain ⟨u, hu⟩ : ∃ u, a[k]? = some u := ⟨_, List.getElem?_eq_getElem (by have := HA.out; omega)⟩
      obtain ⟨v, hv⟩ : ∃ v, b[k]? = some v := ⟨_, List.getElem?_eq_getElem (by have := HB.out; omega)⟩
      have eu : a.getD k 0 = u := by rw [List.getD_eq_getElem?_getD, hu]; rfl
      have ev : b.getD k 0 = v := by rw [List.getD_eq_getElem?_getD, hv]; rfl
      obtain ⟨b1, o1, rfl, c1⟩ := HP.out k u hu
      obtain ⟨b2, o2, rfl, c2⟩ := HP'.out k v hv
      have a1 := cell_ext c1 HEX.out
      have a2 := cell_ext c2 HEX.out
      have hg := World.block_lt_of_cell? _ _ a1
      have hg' := World.block_lt_of_cell? _ _ a2
      have hkI : (k : Int) < 16 := by omega
      have hk0 : (0 : Int) ≤ (k : Int) := by omega
      by_cases huv : u = v
      · have HN := Lib.hid (unlK_no (a := a) (b := b) (i := k) (by rw [eu, ev]; exact huv))
        subst huv
        have HLT := Lib.hid hlt
        clear hu hv eu ev hlt c1 c2
        go_wp2_with fail
        refine wp_region_grow 8 38 [false, false, false, false, false, false, false, false] (by kernel_rfl) (by kernel_rfl) rfl ?_
        simp only [List.take_succ_cons, List.take_zero, List.drop_succ_cons, List.drop_zero]
        repeat (refine Lex.step rfl ?_; intro K hK; unfold StepG; go_simp; (first
            | refine hK _ ?_); clear hK K)
        refine Lex.nil fun WW hE => ?_
        obtain ⟨dd, oo, rfl⟩ := hE
        unfold FillH
        go_wp2_with fail
        rw [ends_normal]
        go_wp2_with fail
        go_roundw
        case rel =>
          refine ⟨k + 1, n, by go_num, by have := HLT.out; omega, hn, Lib.hid ⟨by rw [HN.out]; exact hH.out.1, ?_, HEX.out.more _ _⟩⟩
          have := own_more hH.out.2.1 dd oo
          unfold unlI at this ⊢
          rw [HN.out]
          exact this
        case measure => have := HLT.out; simp [intOf]; omega
      · have HN := Lib.hid (unlK_yes (a := a) (b := b) (i := k) (by rw [eu, ev]; exact huv))
        have hne : (u != v) = true := by rw [bne_iff_ne]; exact huv
        have HLT := Lib.hid hlt
        clear hu hv eu ev hlt c1 c2 huv
        go_wp2_with fail
        refine wp_region_grow 8 38 [false, false, false, false, false, false, false, false] (by kernel_rfl) (by kernel_rfl) rfl ?_
        simp only [List.take_succ_cons, List.take_zero, List.drop_succ_cons, List.drop_zero]
        repeat (refine Lex.step rfl ?_; intro K hK; unfold StepG; go_simp; (first
            | refine hK _ ?_); clear hK K)
        refine Lex.nil fun WW hE => ?_
        obtain ⟨dd, oo, rfl⟩ := hE
        unfold FillH
        go_wp2_with fail
        rw [ends_normal]
        have hnI : n ≤ 16 := hn
        go_wp2_with (at_builtin; refine Hid.out ?_)
        refine Lib.hid ?_
        have hw0 := own_more hH.out.2.1 dd oo
        refine wpList_append_own_at _ rfl _ _ 22 rfl w.heap.size 3 i1 (.int .i64 0) 1 8 Tryd.underlying22 hi1 hy0 hy1 hy2 rfl (by decide) _ n (cellsI (unlI a b k)) rfl (hw0.alloc _) ⟨wr.heap.size + oo.size, 0, none⟩ 1 1 [.int .i64 (k : Int)] rfl rfl ?c1 ?c2 ?c3 ?c4 ?c5 ?_
        case c1 => exact news_at (by simp [more_size])
        case c2 => first | rfl | (intro u hu; simp at hu; subst hu; rfl)
        case c3 => unfold maxLen; omega
        case c4 => omega
        case c5 => have h1 := HEX.out.size; simp [more_size]; omega
        intro v4 w4 hown4 hgrow4 _ _
        have HX4 : Hid (Ext w w4) := Lib.hid (Ext.grown ((HEX.out.more dd oo).alloc _) hgrow4 (fun k hk => (hw0.lt k hk).1))
        have HO4 := Lib.hid hown4
        clear hown4 hgrow4 hw0
        go_wp2_with fail
        go_roundw
        case rel =>
          refine ⟨k + 1, n + 1, by go_num, by have := HLT.out; omega, ?_, Lib.hid ⟨by rw [HN.out]; simp [hH.out.1], ?_, HX4.out⟩⟩
          · have := unlK_len a b k
            have := hH.out.1
            have := HLT.out
            omega
          · unfold unlI
            rw [HN.out, List.map_append, show cellsI ((unlK a b k).map (fun (i : Nat) => (i : Int)) ++ [k].map (fun (i : Nat) => (i : Int))) = cellsI ((unlK a b k).map fun (i : Nat) => (i : Int)) ++ [.int .i64 (k : Int)] by simp [cellsI]]
            exact HO4.out
        case measure => have := HLT.out; simp [intOf]; omega
    · have hks : k = 16 := by omega
      subst hks
      go_wp2_with fail
      go_ret2
      refine ⟨_, rfl, ?_, HEX.out⟩
      rw [hH.out.1]
      exact hH.out.2.1

/-- the laid tables, and errors -/
structure Env (B0 : Nat) (w : World) : Prop where
  size : B0 ≤ w.heap.size
  signs : SignsAt B0 w
  errs : ErrsAt B0 w
  pow : Pow10 B0 w
theorem Env.ext {B0 : Nat} {w w' : World} (h : Env B0 w) (hx : Ext w w') : Env B0 w' := ⟨Nat.le_trans h.size hx.size, h.signs.ext hx h.size, h.errs.below hx.below h.size, h.pow.below hx.below h.size⟩

set_option maxHeartbeats 4000000 in
theorem unlike_core (B0 : Nat) (p p' : Option Addr) (n n' cap cap' : Nat) (a b : List Int) (w : World) (he : Env B0 w) (hn : a.length = n) (hn' : b.length = n') (h : ∀ j u, a[j]? = some u → ∃ b off, p = some ⟨b, off, none⟩ ∧ w.cell? ⟨b, off + j, none⟩ = some (.int .i64 u)) (h' : ∀ j u, b[j]? = some u → ∃ b off, p' = some ⟨b, off, none⟩ ∧ w.cell? ⟨b, off + j, none⟩ = some (.int .i64 u)) :
    Calls Tryd.prog 3 #[.slice p n cap, .slice p' n' cap'] w fun e w' => e = .returned (.bool true) ∧ Ext w w' := by
  have NC := Lib.hid ((new_any w).mono fun e w' ⟨h1, _, h2⟩ => (⟨h1, h2⟩ : e = Ending.returned (Value.pointer (some ⟨w.heap.size + 1, 0, none⟩)) ∧ Ext w w'))
  have HE := Lib.hid he
  by_cases h16 : n = 16 ∧ n' = 16
  · obtain ⟨rfl, rfl⟩ := h16
    have UC := Lib.hid fun (q : Value) (W : World) (hx : Ext w W) => unlike_yes p p' cap cap' q a b W hn hn' (fun j u hj => by obtain ⟨b, o, e, hc⟩ := h j u hj; exact ⟨b, o, e, cell_ext hc hx⟩) (fun j u hj => by obtain ⟨b, o, e, hc⟩ := h' j u hj; exact ⟨b, o, e, cell_ext hc hx⟩)
    have HP := Lib.hid h
    have HP' := Lib.hid h'
    have HA := Lib.hid hn
    have HB := Lib.hid hn'
    obtain ⟨m, hm⟩ : ∃ m, (unlK a b 16).length = m := ⟨_, rfl⟩
    have hm16 : m ≤ 16 := by rw [← hm]; exact unlK_len a b 16
    have HM := Lib.hid hm
    clear he h h' hn hn' hm
    go_enter Tryd.func3, Tryd.ntmps3
    go_wp2_with (first
      | (go_at_call 5; refine NC.out.mono ?_; rintro e w1 ⟨rfl, hx⟩; have HX1 := Lib.hid hx; clear hx)
      | (go_at_call 4; refine (UC.out _ _ HX1.out).mono ?_; rintro e w2 ⟨v, rfl, hown, hx⟩; rw [HM.out] at hown; obtain ⟨pv, cv, rfl⟩ := own_sl hown; have HO := Lib.hid hown; have HX2 := Lib.hid (HX1.out.trans hx); clear hown hx))
    go_loopw [7, 8] (fun kv ii wr => ∃ i k : Nat, ii = .int .i64 (i : Int) ∧ kv = .int .i64 (k : Int) ∧ i ≤ 16 ∧ k ≤ m ∧ Hid ((unlK a b i).length = k ∧ Ext w2 wr)) (fun _ ii _ => 16 - (intOf ii).toNat)
    case atStart => exact ⟨0, 0, rfl, rfl, Nat.zero_le _, Nat.zero_le _, Lib.hid ⟨rfl, Ext.refl _⟩⟩
    case round =>
      obtain ⟨i, k, rfl, rfl, hi, hkm, hH⟩ := hrel
      have HEX := Lib.hid hH.out.2
      have hmI : (m : Int) ≤ 16 := by omega
      have hk0 : (0 : Int) ≤ (k : Int) := by omega
      have hkI : (k : Int) ≤ (m : Int) := by omega
      by_cases hlt : i < 16
      · obtain ⟨u, hu⟩ : ∃ u, a[i]? = some u := ⟨_, List.getElem?_eq_getElem (by have := HA.out; omega)⟩
        obtain ⟨v, hv⟩ : ∃ v, b[i]? = some v := ⟨_, List.getElem?_eq_getElem (by have := HB.out; omega)⟩
        have eu : a.getD i 0 = u := by rw [List.getD_eq_getElem?_getD, hu]; rfl
        have ev : b.getD i 0 = v := by rw [List.getD_eq_getElem?_getD, hv]; rfl
        obtain ⟨b1, o1, rfl, c1⟩ := HP.out i u hu
        obtain ⟨b2, o2, rfl, c2⟩ := HP'.out i v hv
        have a1 := cell_ext c1 (HX2.out.trans HEX.out)
        have a2 := cell_ext c2 (HX2.out.trans HEX.out)
        have hg := World.block_lt_of_cell? _ _ a1
        have hg' := World.block_lt_of_cell? _ _ a2
        have hiI : (i : Int) < 16 := by omega
        have hi0 : (0 : Int) ≤ (i : Int) := by omega
        by_cases huv : u = v
        · have HN := Lib.hid (unlK_no (a := a) (b := b) (i := i) (by rw [eu, ev]; exact huv))
          subst huv
          have HLT := Lib.hid hlt
          clear hu hv eu ev hlt c1 c2
          go_wp2_with fail
          refine wp_region_grow 8 72 [false, false, false, false, false, false, false, false] (by kernel_rfl) (by kernel_rfl) rfl ?_
          simp only [List.take_succ_cons, List.take_zero, List.drop_succ_cons, List.drop_zero]
          repeat (refine Lex.step rfl ?_; intro K hK; unfold StepG; go_simp; (first
              | refine hK _ ?_); clear hK K)
          refine Lex.nil fun WW hE => ?_
          obtain ⟨dd, oo, rfl⟩ := hE
          unfold FillH
          go_wp2_with fail
          rw [ends_normal]
          go_wp2_with fail
          go_roundw
          case rel => exact ⟨i + 1, k, by go_num, rfl, by have := HLT.out; omega, hkm, Lib.hid ⟨by rw [HN.out]; exact hH.out.1, HEX.out.more _ _⟩⟩
          case measure => have := HLT.out; simp [intOf]; omega
        · have hdf : ¬ a.getD i 0 = b.getD i 0 := by rw [eu, ev]; exact huv
          have HN := Lib.hid (unlK_yes hdf)
          have hat := unlK_at hlt hdf
          rw [hH.out.1] at hat
          have hkl : k < m := by have := (List.getElem?_eq_some_iff.1 hat).1; rw [HM.out] at this; exact this
          have hkl' : (k : Int) < (m : Int) := by omega
          have hne : (u != v) = true := by rw [bne_iff_ne]; exact huv
          obtain ⟨g, cg, hform, _, _, _, hcg⟩ := ints_row (x := unlI a b 16) (n := m) (by unfold unlI; rw [List.length_map]; exact HM.out) (by omega) HO.out
          simp only [Value.slice.injEq, true_and] at hform
          obtain ⟨rfl, rfl⟩ := hform
          have cg := cell_ext (hcg.out k (i : Int) (by unfold unlI; rw [List.getElem?_map, hat]; rfl)) HEX.out
          have hgk := World.block_lt_of_cell? _ _ cg
          have HLT := Lib.hid (And.intro hlt hkl)
          clear hu hv eu ev hlt c1 c2 huv hdf hat hcg hkl
          go_wp2_with fail
          refine wp_region_grow 8 72 [false, false, false, false, false, false, false, false] (by kernel_rfl) (by kernel_rfl) rfl ?_
          simp only [List.take_succ_cons, List.take_zero, List.drop_succ_cons, List.drop_zero]
          repeat (refine Lex.step rfl ?_; intro K hK; unfold StepG; go_simp; (first
              | refine hK _ ?_); clear hK K)
          refine Lex.nil fun WW hE => ?_
          obtain ⟨dd, oo, rfl⟩ := hE
          unfold FillH
          go_wp2_with fail
          rw [ends_normal]
          go_wp2_with fail
          go_roundw
          case rel => exact ⟨i + 1, k + 1, by go_num, by go_num, by have := HLT.out; omega, by have := HLT.out; omega, Lib.hid ⟨by rw [HN.out]; simp [hH.out.1], HEX.out.more _ _⟩⟩
          case measure => have := HLT.out; simp [intOf]; omega
      · have hks : i = 16 := by omega
        subst hks
        have hkm2 : k = m := by rw [← hH.out.1]; exact HM.out
        subst hkm2
        have hx1 := HX2.out.trans HEX.out
        have he1 := HE.out.ext hx1
        have AC := Lib.hid (awake12_any B0 wr he1.size he1.signs he1.errs he1.pow)
        have HXE := Lib.hid hx1
        clear hx1 he1 hlt
        go_wp2_with (go_at_call 6; refine AC.out.mono ?_; rintro e wz ⟨rfl, hbz⟩; have HBZ := Lib.hid (Ext.of_below hbz); clear hbz)
        go_ret
        exact ⟨rfl, HXE.out.trans HBZ.out⟩
  · have UC := Lib.hid fun (q : Value) (W : World) => unlike_no p p' n n' cap cap' q W h16
    by_cases h1 : n = 16
    · have h2 : ¬ ((n' : Int) = 16) := by omega
      subst h1
      clear he h h' hn hn' h16
      go_enter Tryd.func3, Tryd.ntmps3
      go_wp2_with (first
        | (go_at_call 5; refine NC.out.mono ?_; rintro e w1 ⟨rfl, hx⟩; have HX1 := Lib.hid hx; have he1 := HE.out.ext hx; have AC := Lib.hid (awake12_any B0 w1 he1.size he1.signs he1.errs he1.pow); clear hx he1)
        | (go_at_call 4; refine (UC.out _ _).mono ?_; rintro e _ ⟨rfl, rfl⟩)
        | (go_at_call 6; refine AC.out.mono ?_; rintro e wz ⟨rfl, hbz⟩; have HBZ := Lib.hid (Ext.of_below hbz); clear hbz))
      go_ret
      exact ⟨rfl, HX1.out.trans HBZ.out⟩
    · have h2 : ¬ ((n : Int) = 16) := by omega
      clear he h h' hn hn' h16 h1
      go_enter Tryd.func3, Tryd.ntmps3
      go_wp2_with (first
        | (go_at_call 5; refine NC.out.mono ?_; rintro e w1 ⟨rfl, hx⟩; have HX1 := Lib.hid hx; have he1 := HE.out.ext hx; have AC := Lib.hid (awake12_any B0 w1 he1.size he1.signs he1.errs he1.pow); clear hx he1)
        | (go_at_call 4; refine (UC.out _ _).mono ?_; rintro e _ ⟨rfl, rfl⟩)
        | (go_at_call 6; refine AC.out.mono ?_; rintro e wz ⟨rfl, hbz⟩; have HBZ := Lib.hid (Ext.of_below hbz); clear hbz))
      go_ret
      exact ⟨rfl, HX1.out.trans HBZ.out⟩
theorem ints_form' {w : World} {v : Value} {l : List Int} (h : IntsAt w v l) : ∃ p cap, v = .slice p l.length cap ∧ ∀ j u, l[j]? = some u → ∃ b off, p = some ⟨b, off, none⟩ ∧ w.cell? ⟨b, off + j, none⟩ = some (.int .i64 u) := by
  rcases h with ⟨p, cap, rfl, rfl⟩ | ⟨b, off, cap, rfl, _, h⟩
  · exact ⟨p, cap, rfl, fun j u hj => by simp at hj⟩
  · exact ⟨_, cap, rfl, fun j u hj => ⟨b, off, rfl, h j u hj⟩⟩
theorem unlike_walk (B0 : Nat) (va vb : Value) (a b : List Int) (w : World) (he : Env B0 w) (h : IntsAt w va a) (h' : IntsAt w vb b) :
    Calls Tryd.prog 3 #[va, vb] w fun e w' => e = .returned (.bool true) ∧ Ext w w' := by
  obtain ⟨p, cap, rfl, hp⟩ := ints_form' h
  obtain ⟨p', cap', rfl, hp'⟩ := ints_form' h'
  exact unlike_core B0 p p' _ _ cap cap' a b w he rfl rfl hp hp'
end Go.Proofs.YtpchohjkelopoaaDoor
