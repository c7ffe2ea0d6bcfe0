/- Lemmas for the claim (texts Pa1, Pa2, Pa3, Pa4, what its proof uses of them). -/
import Derived.Test.YtpchohjkelopoaaGreatDoorW12
import Derived.Deep.MidRow
set_option linter.unusedSimpArgs false
set_option linter.unusedVariables false
set_option maxRecDepth 20000
namespace Go.Proofs.YtpchohjkelopoaaGreatDoor
open Go.RowKit
attribute [go_sem] more_more Array.size_append
/-- how many bytes an item's key and value have -/
def wtI (x : It) : Nat := x.k.size + (encB x.vk x.vi x.vs).length
def wtL : List It → Nat
  | [] => 0
  | x :: l => wtI x + wtL l
theorem wtL_app : ∀ (l m : List It), wtL (l ++ m) = wtL l + wtL m
  | [], m => by simp [wtL]
  | x :: l, m => by simp only [List.cons_append, wtL, wtL_app l m]; omega
theorem wtI_le {x : It} (ho : ItOk x) (hm : mayI x = true) : wtI x ≤ 400 := by
  have h1 := ho.k
  have h2 := encB_len x.vk x.vi x.vs (mayI_parts hm).1 ho.vi.1 ho.vi.2
  unfold wtI; omega
theorem wtL_le : ∀ (l : List It), (∀ x ∈ l, ItOk x) → (∀ x ∈ l, mayI x = true) → wtL l ≤ 400 * l.length
  | [], _, _ => by simp [wtL]
  | x :: l, h1, h2 => by
    have a := wtI_le (h1 x (by simp)) (h2 x (by simp))
    have b := wtL_le l (fun y hy => h1 y (by simp [hy])) (fun y hy => h2 y (by simp [hy]))
    simp only [wtL, List.length_cons]; omega
theorem wtL_snoc {l : List It} {k : Nat} {x : It} (h : l[k]? = some x) : wtL (l.take (k + 1)) = wtL (l.take k) + wtI x := by
  rw [List.take_add_one, h, show (some x).toList = [x] from rfl, wtL_app]; simp [wtL]
/-- a slice of so many elements -/
def SlFact (n : Nat) : Fact := fun v _ => ∃ g cap, v = .slice (some ⟨g, 0, none⟩) n cap
theorem SlFact.upc (n : Nat) : Upc (SlFact n) := fun _ _ _ _ h => h
set_option maxHeartbeats 2000000 in
theorem lweight_any (b : Nat) (v : Value) (l : List It) (SB : Nat) (w : World) (hS : SignsAt SB w) (hSB : SB ≤ w.heap.size) (h : LfAt w b v l) (hl : leafB l = true) :
    Calls Tryz.prog 115 #[v] w fun e w' => e = .returned (.int .i64 (wtL l : Int)) ∧ Ext w w' := by
  have H := Lib.hid (lis_any b v l SB w hS hSB h)
  rw [hl] at H
  obtain ⟨h64, hmay⟩ := leafB_may hl
  obtain ⟨ho, p, cap, rfl, hcap, hp⟩ := h
  obtain ⟨n, hn⟩ : ∃ n, l.length = n := ⟨_, rfl⟩
  rw [hn] at hcap hp h64 H ⊢
  have HN := Lib.hid hn
  have HO := Lib.hid ho
  have HM := Lib.hid hmay
  have HP := Lib.hid hp
  clear hp ho hn hmay hS hl
  go_enter Tryz.func115, Tryz.ntmps115
  go_wp2_with (go_at_call 91; refine H.out.mono ?_; rintro e _ ⟨rfl, d1, os1, rfl⟩)
  go_loopw [3, 11] (fun nv ii wr => ∃ k m : Nat, ii = .int .i64 (k : Int) ∧ nv = .int .i64 (m : Int) ∧ k ≤ n ∧ m ≤ 400 * k ∧ Hid (wtL (l.take k) = m ∧ Ext w wr)) (fun _ ii _ => n - (intOf ii).toNat)
  case atStart => exact ⟨0, 0, rfl, rfl, Nat.zero_le _, by omega, Lib.hid ⟨by simp [wtL], (Ext.refl _).more _ _⟩⟩
  case round =>
    obtain ⟨k, m, rfl, rfl, hk, hm, hH⟩ := hrel
    have HEX := Lib.hid hH.out.2
    by_cases hlt : k < n
    · obtain ⟨x, hx⟩ := get_at HN.out hlt
      obtain ⟨off, rfl, hi⟩ := HP.out (by omega)
      obtain ⟨a0, a1, a2, a3, a4⟩ := (hi.ext HEX.out) k x hx
      have hg := World.block_lt_of_cell? _ _ a0
      have hox := HO.out x (List.mem_of_getElem? hx)
      have hmx := HM.out x (List.mem_of_getElem? hx)
      have HW := Lib.hid (wtL_snoc hx)
      have hwle := wtI_le hox hmx
      unfold wtI at hwle
      have EC := Lib.hid fun W => enc_any x.vk x.vi x.vs (mayI_parts hmx).1 hox.vi.1 hox.vi.2 W
      have hkI : (k : Int) < (n : Int) := by omega
      have hk0 : (0 : Int) ≤ (k : Int) := by omega
      have hks := hox.k
      obtain ⟨xk, xvk, xvi, xvs, xver⟩ := x
      dsimp only at a0 a1 a2 a3 a4 hwle EC hks hg
      unfold wtI at HW
      dsimp only at HW
      obtain ⟨L, hL⟩ : ∃ L, (encB xvk xvi xvs).length = L := ⟨_, rfl⟩
      have ECL := Lib.hid fun (W : World) => (EC.out W).mono fun e w' ⟨g, cap, h1, _, h3⟩ => (⟨_, by rw [h1, hL], h3, g, cap, rfl⟩ : RetG W (SlFact L) e w')
      rw [hL] at HW hwle
      have HLT := Lib.hid hlt
      clear hx hlt hi hox hmx EC hL
      go_wp2_with fail
      have hI1 : (xk.size : Int) ≤ 255 := by omega
      have hI2 : (L : Int) ≤ 400 := by omega
      have hI3 : (m : Int) ≤ 25600 := by omega
      refine wp_region_grow 8 27 [true, false, false, false, false, false, false, false] (by kernel_rfl) (by kernel_rfl) rfl ?_
      simp only [List.take_succ_cons, List.take_zero, List.drop_succ_cons, List.drop_zero]
      refine Lex.stepP rfl rfl ?_; intro K hK; go_simp; refine hK _ ?_; clear hK K
      refine Lex.step rfl ?_; intro K hK; unfold StepG; go_simp; refine hK _ ?_; clear hK K
      refine Lex.step rfl ?_; intro K hK; unfold StepG; go_simp; refine hK _ ?_; clear hK K
      refine Lex.step rfl ?_; intro K hK; unfold StepG; go_simp; refine hK _ ?_; clear hK K
      refine Lex.step rfl ?_; intro K hK; unfold StepG; go_simp; refine hK _ ?_; clear hK K
      refine Lex.step rfl ?_; intro K hK; unfold StepG; go_simp; refine hK _ ?_; clear hK K
      refine Lex.gap 21 (SlFact L) rfl (SlFact.upc _) rfl (fun d os => ?_) ?_
      · unfold StepG
        go_simp
        exact ECL.out _
      refine Lex.go1 (.int .i64 (L : Int)) 21 _ rfl (fun u d os hu => ?_) ?_
      · obtain ⟨g1, cap1, rfl⟩ := hu
        unfold StepG
        go_simp
      refine Lex.nil fun WW hE => ?_
      obtain ⟨dd, oo, rfl⟩ := hE
      unfold FillH
      rintro _ ⟨g1, cap1, rfl⟩
      unfold FillH
      go_wp2_with fail
      rw [ends_normal]
      go_wp2_with fail
      go_roundw
      case rel =>
        refine ⟨k + 1, m + (xk.size + L), by go_num, by go_num, by have := HLT.out; omega, by omega, Lib.hid ⟨by rw [HW.out, hH.out.1], by repeat (first | exact HEX.out | apply Ext.alloc | apply Ext.more | apply Ext.drewN)⟩⟩
      case measure => have := HLT.out; simp [intOf]; omega
    · have hje : k = n := by omega
      subst hje
      have hre := hH.out.1
      rw [List.take_of_length_le (by have := HN.out; omega)] at hre
      have HRE := Lib.hid hre
      clear hlt hre
      go_wp2_with fail
      go_ret
      rw [HRE.out]
      exact ⟨rfl, HEX.out⟩
/-- how many bytes, and how many items, the first leaves have -/
def wtK (T : Nat → List It) : Nat → Nat
  | 0 => 0
  | k + 1 => wtK T k + wtL (T k)
def ctK (T : Nat → List It) : Nat → Nat
  | 0 => 0
  | k + 1 => ctK T k + (T k).length
set_option maxHeartbeats 4000000 in
theorem tweight_any (bs : Nat → Nat) (v : Nat → Value) (T : Nat → List It) (V : Nat → Int) (SB : Nat) (w : World) (hS : SignsAt SB w) (hSB : SB ≤ w.heap.size) (h : LvsAt w bs v T) (hl : trunkB T V = true) :
    Calls Tryz.prog 88 #[.agg (trC v V)] w fun e w' => e = .returned (.int .i64 (wtK T 16 : Int)) ∧ Ext w w' := by
  have HL := Lib.hid h
  have HS := Lib.hid hS
  have HTB := Lib.hid hl
  have TM := Lib.hid fun (W : World) (hx : Ext w W) => tmay_any bs v T V SB W (hS.ext hx hSB) (Nat.le_trans hSB hx.size) (h.ext hx)
  rw [hl] at TM
  clear hS h hl
  go_enter Tryz.func88, Tryz.ntmps88
  go_wp2_with (first
    | (refine wpList_load_row rfl 29 _ rfl w.heap.size rfl 29 (trC v V) (0, 0) _ (heap_alloc_new w _) Tryz.underlying29 rfl (by kernel_rfl) ?_)
    | (refine wpList_load_part rfl 27 _ rfl w.heap.size 0 rfl 29 (trC v V) (lvL v) (0, 0) _ HBK Tryz.underlying27 rfl (by kernel_rfl) (lvL_get v V) ?_)
    | (go_at_call 52; refine (TM.out _ (by repeat (first | exact Ext.refl _ | apply Ext.alloc | apply Ext.more | apply Ext.drewN))).mono ?_; rintro e _ ⟨rfl, d1, os1, rfl⟩; have HBK : (more (w.alloc (.cells (trC v V) 29)) d1 os1).heap[w.heap.size]? = some (.cells (trC v V) 29 (0, 0)) := by rw [more_heap _ _ _ _ (by simp)]; exact heap_alloc_new w _))
  go_loopw [3, 11] (fun nv ii wr => ∃ k m : Nat, ii = .int .i64 (k : Int) ∧ nv = .int .i64 (m : Int) ∧ k ≤ 16 ∧ m ≤ 25600 * k ∧ Hid (wtK T k = m ∧ Ext w wr)) (fun _ ii _ => 16 - (intOf ii).toNat)
  case atStart => exact ⟨0, 0, rfl, rfl, Nat.zero_le _, by omega, Lib.hid ⟨rfl, (((Ext.refl w).alloc _).more _ _)⟩⟩
  case round =>
    obtain ⟨k, m, rfl, rfl, hk16, hm, hH⟩ := hrel
    have HEX := Lib.hid hH.out.2
    by_cases hk : k < 16
    · have hix := fun W => idx_lv v k hk W
      have hkI : (k : Int) < 16 := by omega
      have hk0 : (0 : Int) ≤ (k : Int) := by omega
      have hmI : (m : Int) ≤ 16 * 25600 := by omega
      have hlb := (fits_parts (trunk_fits HTB.out k hk)).1
      have hzl := wtL_le (T k) (HL.out k hk).1 (leafB_may hlb).2
      have h64 := (leafB_may hlb).1
      obtain ⟨z, hz⟩ : ∃ z, wtL (T k) = z := ⟨_, rfl⟩
      have HZ := Lib.hid hz
      have WC := Lib.hid fun (W : World) (hx : Ext w W) => lweight_any (bs k) (v k) (T k) SB W (HS.out.ext hx hSB) (Nat.le_trans hSB hx.size) ((HL.out k hk).ext hx) hlb
      rw [hz] at WC hzl
      have hz2 : z ≤ 25600 := by omega
      have hzI : (z : Int) ≤ 25600 := by omega
      clear hlb hzl h64 hz
      go_wp2_with (go_at_call 115; refine (WC.out _ HEX.out).mono ?_; rintro e _ ⟨rfl, d2, os2, rfl⟩)
      go_roundw
      case rel => exact ⟨k + 1, m + z, by go_num, by go_num, by omega, by omega, Lib.hid ⟨by unfold wtK; rw [hH.out.1, HZ.out], (by repeat (first | exact HEX.out | apply Ext.alloc | apply Ext.more | apply Ext.drewN))⟩⟩
      case measure => simp [intOf]; omega
    have hkn : k = 16 := by omega
    subst hkn
    have HRE := Lib.hid hH.out.1
    go_wp2_with fail
    go_ret
    rw [HRE.out]
    exact ⟨rfl, HEX.out⟩
set_option maxHeartbeats 4000000 in
theorem tcount_any (bs : Nat → Nat) (v : Nat → Value) (T : Nat → List It) (V : Nat → Int) (SB : Nat) (w : World) (hS : SignsAt SB w) (hSB : SB ≤ w.heap.size) (h : LvsAt w bs v T) (hl : trunkB T V = true) :
    Calls Tryz.prog 89 #[.agg (trC v V)] w fun e w' => e = .returned (.int .i64 (ctK T 16 : Int)) ∧ Ext w w' := by
  have HL := Lib.hid h
  have HS := Lib.hid hS
  have HTB := Lib.hid hl
  have TM := Lib.hid fun (W : World) (hx : Ext w W) => tmay_any bs v T V SB W (hS.ext hx hSB) (Nat.le_trans hSB hx.size) (h.ext hx)
  rw [hl] at TM
  clear hS h hl
  go_enter Tryz.func89, Tryz.ntmps89
  go_wp2_with (first
    | (refine wpList_load_row rfl 29 _ rfl w.heap.size rfl 29 (trC v V) (0, 0) _ (heap_alloc_new w _) Tryz.underlying29 rfl (by kernel_rfl) ?_)
    | (refine wpList_load_part rfl 27 _ rfl w.heap.size 0 rfl 29 (trC v V) (lvL v) (0, 0) _ HBK Tryz.underlying27 rfl (by kernel_rfl) (lvL_get v V) ?_)
    | (go_at_call 52; refine (TM.out _ (by repeat (first | exact Ext.refl _ | apply Ext.alloc | apply Ext.more | apply Ext.drewN))).mono ?_; rintro e _ ⟨rfl, d1, os1, rfl⟩; have HBK : (more (w.alloc (.cells (trC v V) 29)) d1 os1).heap[w.heap.size]? = some (.cells (trC v V) 29 (0, 0)) := by rw [more_heap _ _ _ _ (by simp)]; exact heap_alloc_new w _))
  go_loopw [3, 11] (fun nv ii wr => ∃ k m : Nat, ii = .int .i64 (k : Int) ∧ nv = .int .i64 (m : Int) ∧ k ≤ 16 ∧ m ≤ 64 * k ∧ Hid (ctK T k = m ∧ Ext w wr)) (fun _ ii _ => 16 - (intOf ii).toNat)
  case atStart => exact ⟨0, 0, rfl, rfl, Nat.zero_le _, by omega, Lib.hid ⟨rfl, (((Ext.refl w).alloc _).more _ _)⟩⟩
  case round =>
    obtain ⟨k, m, rfl, rfl, hk16, hm, hH⟩ := hrel
    have HEX := Lib.hid hH.out.2
    by_cases hk : k < 16
    · have hix := fun W => idx_lv v k hk W
      have hkI : (k : Int) < 16 := by omega
      have hk0 : (0 : Int) ≤ (k : Int) := by omega
      have hmI : (m : Int) ≤ 16 * 64 := by omega
      have hlb := (fits_parts (trunk_fits HTB.out k hk)).1
      obtain ⟨hok, p1, c1, hvk, _, _⟩ := HL.out k hk
      obtain ⟨z, hz⟩ : ∃ z, (T k).length = z := ⟨_, rfl⟩
      have HZ := Lib.hid hz
      have hz2 : z ≤ 64 := by rw [← hz]; exact (leafB_may hlb).1
      rw [hz] at hvk
      rw [hvk] at hix
      have hzI : (z : Int) ≤ 64 := by omega
      clear hlb hz hok hvk
      go_wp2_with fail
      go_roundw
      case rel => exact ⟨k + 1, m + z, by go_num, by go_num, by omega, by omega, Lib.hid ⟨by unfold ctK; rw [hH.out.1, HZ.out], (by repeat (first | exact HEX.out | apply Ext.alloc | apply Ext.more | apply Ext.drewN))⟩⟩
      case measure => simp [intOf]; omega
    have hkn : k = 16 := by omega
    subst hkn
    have HRE := Lib.hid hH.out.1
    go_wp2_with fail
    go_ret
    rw [HRE.out]
    exact ⟨rfl, HEX.out⟩
end Go.Proofs.YtpchohjkelopoaaGreatDoor

set_option maxRecDepth 20000
namespace Go.Proofs.YtpchohjkelopoaaGreatDoor
open Go.RowKit
attribute [go_sem] more_more Array.size_append
theorem its_cells : ∀ (l : List It) (w : World) (b off : Nat), ItsAt w b off l → ∀ j u, (itCells l)[j]? = some u → w.cell? ⟨b, off + j, none⟩ = some u
  | [], w, b, off, h, j, u, hj => by simp [itCells] at hj
  | x :: l, w, b, off, h, j, u, hj => by
    have ht : ItsAt w b (off + 1 * 5) l := h.drop 1
    simp only [itCells] at hj
    by_cases h5 : j < 5
    · rw [List.getElem?_append_left (by simpa [itL] using h5)] at hj
      obtain ⟨a0, a1, a2, a3, a4⟩ := h 0 x rfl
      simp only [Nat.zero_mul, Nat.add_zero] at a0 a1 a2 a3 a4
      match j, h5, hj with
      | 0, _, hj => simp [itL] at hj; subst hj; exact a0
      | 1, _, hj => simp [itL] at hj; subst hj; exact a1
      | 2, _, hj => simp [itL] at hj; subst hj; exact a2
      | 3, _, hj => simp [itL] at hj; subst hj; exact a3
      | 4, _, hj => simp [itL] at hj; subst hj; exact a4
      | j + 5, h, _ => omega
    · rw [List.getElem?_append_right (by simp [itL]; omega)] at hj
      have := its_cells l w b _ ht _ u hj
      rw [show off + j = off + 1 * 5 + (j - (itL x).length) by simp [itL]; omega]
      exact this
/-- a leaf as the source of an append -/
theorem lf_src {w : World} {b : Nat} {v : Value} {l : List It} (h : LfAt w b v l) : Src Tryz.prog 5 26 v l.length (itCells l) w := by
  obtain ⟨_, p, cap, rfl, hcap, hp⟩ := h
  by_cases hl : 0 < l.length
  · obtain ⟨off, rfl, hi⟩ := hp hl
    exact Src.ofSlice w Tryz.underlying26 ⟨b, off, none⟩ _ cap _ (itCells_len l) (fun j u hj => by rw [Addr.add_lit]; exact its_cells l w b off hi j u hj) (it_one l)
  · have : l = [] := List.eq_nil_of_length_eq_zero (by omega)
    subst this
    cases p with
    | none => exact Src.ofNil w Tryz.underlying26 cap
    | some a => exact Src.ofSlice w Tryz.underlying26 a 0 cap [] rfl (fun j u hj => by simp at hj) (by simp)
theorem itCells_app : ∀ (l m : List It), itCells (l ++ m) = itCells l ++ itCells m
  | [], m => by simp [itCells]
  | x :: l, m => by simp [itCells, itCells_app l m]
/-- the items of the first leaves -/
def allK (T : Nat → List It) : Nat → List It
  | 0 => []
  | k + 1 => allK T k ++ T k
theorem allK_len (T : Nat → List It) : ∀ k, (allK T k).length = ctK T k
  | 0 => rfl
  | k + 1 => by simp [allK, ctK, allK_len T k]
theorem allK_wt (T : Nat → List It) : ∀ k, wtL (allK T k) = wtK T k
  | 0 => rfl
  | k + 1 => by simp [allK, wtK, wtL_app, allK_wt T k]
theorem allK_mem {T : Nat → List It} {x : It} : ∀ k, x ∈ allK T k → ∃ j, j < k ∧ x ∈ T j
  | 0, h => by simp [allK] at h
  | k + 1, h => by
    rcases List.mem_append.1 h with h | h
    · obtain ⟨j, h1, h2⟩ := allK_mem k h
      exact ⟨j, by omega, h2⟩
    · exact ⟨k, by omega, h⟩
set_option maxHeartbeats 4000000 in
theorem rall_any (bs : Nat → Nat) (v : Nat → Value) (T : Nat → List It) (V : Nat → Int) (w : World) (h : LvsAt w bs v T) (hl : trunkB T V = true) :
    Calls Tryz.prog 63 #[.agg (trC v V)] w fun e w' => ∃ v', e = .returned v' ∧ w'.ownsRow w.heap.size 152 5 v' (ctK T 16) (itCells (allK T 16)) ∧ Ext w w' := by
  obtain ⟨i1, hi1, hy0, hy1, hy2⟩ := info_parts itInfo
  have HL := Lib.hid h
  have HTB := Lib.hid hl
  clear h hl
  unfold trC
  go_enter Tryz.func63, Tryz.ntmps63
  go_wp2_with fail
  obtain ⟨N, hN⟩ : ∃ N, w.heap.size = N := ⟨_, rfl⟩
  have HN := Lib.hid hN
  go_loopw [3, 4] (fun out ii wr => ∃ k m : Nat, ii = .int .i64 (k : Int) ∧ k ≤ 16 ∧ m ≤ 64 * k ∧ Hid (ctK T k = m ∧ TrBlk wr N v V ∧ wr.ownsRow w.heap.size 152 5 out m (itCells (allK T k)) ∧ Ext w wr)) (fun _ ii _ => 16 - (intOf ii).toNat)
  case atStart => exact ⟨0, 0, rfl, Nat.zero_le _, by omega, Lib.hid ⟨rfl, by unfold TrBlk; rw [← hN]; exact heap_alloc_new w _, World.ownsRow_nil _ _ _ _, (Ext.refl _).alloc _⟩⟩
  case round =>
    obtain ⟨k, m, rfl, hk16, hm, hH⟩ := hrel
    have HEX := Lib.hid hH.out.2.2.2
    by_cases hk : k < 16
    · have hcl := hH.out.2.1.leaf k hk
      have hNw : N < wr.heap.size := lt_of_heap hH.out.2.1
      have hkI : (k : Int) < 16 := by omega
      have hk0 : (0 : Int) ≤ (k : Int) := by omega
      have hlf := (HL.out k hk).ext HEX.out
      have hsrc := lf_src hlf
      have h64 := (leafB_may (fits_parts (trunk_fits HTB.out k hk)).1).1
      obtain ⟨_, p1, c1, hvk, _, _⟩ := hlf
      obtain ⟨z, hz⟩ : ∃ z, (T k).length = z := ⟨_, rfl⟩
      rw [hz] at hsrc h64 hvk
      obtain ⟨vk, hvv⟩ : ∃ vk, v k = vk := ⟨_, rfl⟩
      rw [hvv] at hsrc hvk hcl
      subst hvk
      have HSRC := Lib.hid hsrc
      have HZ := Lib.hid hz
      rw [hN]
      clear hN hsrc hz hvv
      go_wp2_with (at_builtin; refine wpList_append_src _ rfl _ _ 26 26 rfl w.heap.size 152 i1 (.agg #[.string ⟨#[]⟩, .int .i64 0, .int .i64 0, .string ⟨#[]⟩, .int .i64 0]) 5 56 Tryz.underlying26 hi1 hy0 hy1 hy2 rfl (by decide) _ m _ rfl hH.out.2.2.1 _ z _ rfl HSRC.out ?c3 ?c4 ?c5 ?_)
      case c3 => unfold maxLen; omega
      case c4 => omega
      case c5 => exact HEX.out.size
      intro v4 w4 hown4 hgrow4 _
      have hx4 := Ext.grown HEX.out hgrow4 (fun k hk => (hH.out.2.2.1.lt k hk).1)
      have HX4 := Lib.hid hx4
      have hb4 : TrBlk w4 N v V := by
        unfold TrBlk
        rw [hgrow4.block N hNw (fun q => by
          obtain ⟨cur2, hcu2⟩ := own_type hH.out.2.2.1 q.symm
          have := hH.out.2.1
          unfold TrBlk at this
          rw [this] at hcu2; simp at hcu2)]
        exact hH.out.2.1
      have HB4 := Lib.hid hb4
      have HO4 := Lib.hid hown4
      clear hown4 hgrow4 hx4 hb4
      go_wp2_with fail
      go_roundw
      case rel =>
        refine ⟨k + 1, m + z, by go_num, by omega, by omega, Lib.hid ⟨by unfold ctK; rw [hH.out.1, HZ.out], HB4.out, ?_, HX4.out⟩⟩
        unfold allK
        rw [itCells_app]
        have := HO4.out
        rw [HN.out] at this
        exact this
      case measure => simp [intOf]; omega
    have hkn : k = 16 := by omega
    subst hkn
    have HRE := Lib.hid hH.out.1
    go_wp2_with fail
    go_ret
    refine ⟨_, rfl, ?_, HEX.out⟩
    rw [HRE.out]
    exact hH.out.2.2.1
theorem wtK_le {T : Nat → List It} {V : Nat → Int} (hl : trunkB T V = true) (ho : ∀ k, k < 16 → ∀ x ∈ T k, ItOk x) : ∀ k, k ≤ 16 → wtK T k ≤ 25600 * k
  | 0, _ => by simp [wtK]
  | k + 1, h => by
    have hlb := leafB_may (fits_parts (trunk_fits hl k (by omega))).1
    have h1 := wtL_le (T k) (ho k (by omega)) hlb.2
    have h2 := wtK_le hl ho k (by omega)
    have h3 := hlb.1
    unfold wtK; omega
theorem ctK_le {T : Nat → List It} {V : Nat → Int} (hl : trunkB T V = true) : ∀ k, k ≤ 16 → ctK T k ≤ 64 * k
  | 0, _ => by simp [ctK]
  | k + 1, h => by
    have h3 := (leafB_may (fits_parts (trunk_fits hl k (by omega))).1).1
    have h2 := ctK_le hl k (by omega)
    unfold ctK; omega
set_option maxHeartbeats 4000000 in
theorem rweight_any (bs : Nat → Nat) (v : Nat → Value) (T : Nat → List It) (V : Nat → Int) (w : World) (h : LvsAt w bs v T) (hl : trunkB T V = true) :
    Calls Tryz.prog 62 #[.agg (trC v V)] w fun e w' => e = .returned (.int .i64 (wtK T 16 : Int)) ∧ Ext w w' := by
  have HAC := Lib.hid fun (W : World) (hx : Ext w W) => rall_any bs v T V W (h.ext hx) hl
  have hok : ∀ x ∈ allK T 16, ItOk x ∧ mayI x = true := fun x hx => by
    obtain ⟨j, hj, hx2⟩ := allK_mem 16 hx
    exact ⟨(h j hj).1 x hx2, (leafB_may (fits_parts (trunk_fits hl j hj)).1).2 x hx2⟩
  have hlen := ctK_le hl 16 (by omega)
  rw [← allK_wt, ← allK_len] at *
  obtain ⟨l, hll⟩ : ∃ l, allK T 16 = l := ⟨_, rfl⟩
  rw [hll] at hok hlen ⊢
  obtain ⟨n, hn⟩ : ∃ n, l.length = n := ⟨_, rfl⟩
  have AC : Hid (∀ W, Ext w W → Calls Tryz.prog 63 #[.agg (trC v V)] W fun e w' => ∃ v', e = .returned v' ∧ w'.ownsRow W.heap.size 152 5 v' n (itCells l) ∧ Ext W w') := Lib.hid fun W hx => by
    have := HAC.out W hx
    rw [hll, hn] at this
    exact this
  rw [hn] at hlen
  have HOK := Lib.hid hok
  have HN := Lib.hid hn
  have hnI : (n : Int) ≤ 1024 := by omega
  clear h hl hok hll hn HAC
  go_enter Tryz.func62, Tryz.ntmps62
  go_wp2_with (first
    | (refine wpList_load_row rfl 29 _ rfl w.heap.size rfl 29 (trC v V) (0, 0) _ (heap_alloc_new w _) Tryz.underlying29 rfl (by kernel_rfl) ?_)
    | (go_at_call 63; refine (AC.out _ (by repeat (first | exact Ext.refl _ | apply Ext.alloc | apply Ext.more | apply Ext.drewN))).mono ?_; rintro e w1 ⟨lv, rfl, hown, hx⟩; obtain ⟨b1, hlf, _, _⟩ := own_lf hown HN.out (fun x hx => (HOK.out x hx).1); obtain ⟨_, p1, c1, hlv, _, hpp⟩ := hlf; rw [HN.out] at hlv hpp; subst hlv; have HP := Lib.hid hpp; have HX1 := Lib.hid (((Ext.refl w).alloc _).trans hx); clear hown hx hpp))
  go_loopw [3, 5] (fun nv ii wr => ∃ k m : Nat, ii = .int .i64 (k : Int) ∧ nv = .int .i64 (m : Int) ∧ k ≤ n ∧ m ≤ 400 * k ∧ Hid (wtL (l.take k) = m ∧ Ext w1 wr)) (fun _ ii _ => n - (intOf ii).toNat)
  case atStart => exact ⟨0, 0, rfl, rfl, Nat.zero_le _, by omega, Lib.hid ⟨by simp [wtL], Ext.refl _⟩⟩
  case round =>
    obtain ⟨k, m, rfl, rfl, hk, hm, hH⟩ := hrel
    have HEX := Lib.hid hH.out.2
    by_cases hlt : k < n
    · obtain ⟨x, hx⟩ := get_at HN.out hlt
      obtain ⟨off, rfl, hi⟩ := HP.out (by omega)
      obtain ⟨a0, a1, a2, a3, a4⟩ := (hi.ext HEX.out) k x hx
      have hg := World.block_lt_of_cell? _ _ a0
      obtain ⟨hox, hmx⟩ := HOK.out x (List.mem_of_getElem? hx)
      have HW := Lib.hid (wtL_snoc hx)
      have hwle := wtI_le hox hmx
      unfold wtI at hwle
      have EC := Lib.hid fun W => renc_any x.vk x.vi x.vs (mayI_parts hmx).1 hox.vi.1 hox.vi.2 W
      have hkI : (k : Int) < (n : Int) := by omega
      have hk0 : (0 : Int) ≤ (k : Int) := by omega
      have hks := hox.k
      obtain ⟨xk, xvk, xvi, xvs, xver⟩ := x
      dsimp only at a0 a1 a2 a3 a4 hwle EC hks hg
      unfold wtI at HW
      dsimp only at HW
      obtain ⟨se, hse⟩ : ∃ se : ByteArray, (⟨(encB xvk xvi xvs).toArray⟩ : ByteArray) = se := ⟨_, rfl⟩
      have hsl : (encB xvk xvi xvs).length = se.size := by rw [← hse]; rfl
      rw [hse] at EC
      rw [hsl] at HW hwle
      have HLT := Lib.hid hlt
      have hI1 : (xk.size : Int) ≤ 255 := by omega
      have hI2 : (se.size : Int) ≤ 400 := by omega
      have hI3 : (m : Int) ≤ 409600 := by omega
      clear hx hlt hi hox hmx hse hsl
      go_wp2_with fail
      refine wp_region_grow 14 31 [true, false, false, false, false, false, false, false, false, false, false, false, false, false] (by kernel_rfl) (by kernel_rfl) rfl ?_
      simp only [List.take_succ_cons, List.take_zero, List.drop_succ_cons, List.drop_zero]
      refine Lex.stepP rfl rfl ?_; intro K hK; go_simp; refine hK _ ?_; clear hK K
      repeat (refine Lex.step rfl ?_; intro K hK; unfold StepG; go_simp; (first
          | refine hK _ ?_
          | (with_reducible refine ⟨_, fun d os => (ret1 (EC.out _)), ?_⟩; go_simp; refine hK _ ?_)); clear hK K)
      refine Lex.nil fun WW hE => ?_
      obtain ⟨dd, oo, rfl⟩ := hE
      unfold FillH
      go_wp2_with fail
      rw [ends_normal]
      go_wp2_with fail
      go_roundw
      case rel =>
        refine ⟨k + 1, m + (xk.size + se.size), by go_num, by go_num, by have := HLT.out; omega, by omega, Lib.hid ⟨by rw [HW.out, hH.out.1], by repeat (first | exact HEX.out | apply Ext.alloc | apply Ext.more | apply Ext.drewN)⟩⟩
      case measure => have := HLT.out; simp [intOf]; omega
    · have hje : k = n := by omega
      subst hje
      have hre := hH.out.1
      rw [List.take_of_length_le (by have := HN.out; omega)] at hre
      have HRE := Lib.hid hre
      clear hlt hre
      go_wp2_with fail
      go_ret
      rw [HRE.out]
      exact ⟨rfl, HX1.out.trans HEX.out⟩
end Go.Proofs.YtpchohjkelopoaaGreatDoor

set_option maxRecDepth 20000
namespace Go.Proofs.YtpchohjkelopoaaGreatDoor
open Go.RowKit
attribute [go_sem] more_more Array.size_append
/-- a store's cells -/
def stC (v : Nat → Value) (V : Nat → Int) (a b c : Int) : Array Value := #[v 0, v 1, v 2, v 3, v 4, v 5, v 6, v 7, v 8, v 9, v 10, v 11, v 12, v 13, v 14, v 15, .int .i64 (V 0), .int .i64 (V 1), .int .i64 (V 2), .int .i64 (V 3), .int .i64 (V 4), .int .i64 (V 5), .int .i64 (V 6), .int .i64 (V 7), .int .i64 (V 8), .int .i64 (V 9), .int .i64 (V 10), .int .i64 (V 11), .int .i64 (V 12), .int .i64 (V 13), .int .i64 (V 14), .int .i64 (V 15), .int .i64 a, .int .i64 b, .int .i64 c]
def StBlk (w : World) (N : Nat) (v : Nat → Value) (V : Nat → Int) (a b c : Int) : Prop := w.heap[N]? = some (.cells (stC v V a b c) 56 (0, 0))
theorem StBlk.ext {w w' : World} {N : Nat} {v : Nat → Value} {V : Nat → Int} {a b c : Int} (h : StBlk w N v V a b c) (hx : Ext w w') : StBlk w' N v V a b c := by
  unfold StBlk at h ⊢
  rw [hx.below.block N (lt_of_heap h)]; exact h
theorem stC_ext (v : Nat → Value) (V : Nat → Int) (a b c : Int) : stC v V a b c = trC v V ++ #[.int .i64 a, .int .i64 b, .int .i64 c] := rfl
theorem stC_tr (v : Nat → Value) (V : Nat → Int) (a b c : Int) : ∀ j u, (trC v V).toList[j]? = some u → (stC v V a b c)[0 + j]? = some u := by
  intro j u h
  rw [Nat.zero_add, stC_ext, Array.getElem?_append, if_pos (by have := (List.getElem?_eq_some_iff.1 h).1; simpa using this)]
  rw [← Array.getElem?_toList]; exact h
theorem stC_ver (v : Nat → Value) (V : Nat → Int) (a b c : Int) (k : Nat) (hk : k < 16) : (stC v V a b c)[16 + k]? = some (.int .i64 (V k)) := by
  have h := trC_ver v V k hk
  rw [← Array.getElem?_toList] at h
  have := stC_tr v V a b c (16 + k) _ h
  rwa [Nat.zero_add] at this
theorem StBlk.cell {w : World} {N : Nat} {v : Nat → Value} {V : Nat → Int} {a b c : Int} (h : StBlk w N v V a b c) (j : Nat) : w.cell? ⟨N, j, none⟩ = (stC v V a b c)[j]? := cell_of_row w N j _ _ _ h
theorem StBlk.ver {w : World} {N : Nat} {v : Nat → Value} {V : Nat → Int} {a b c : Int} (h : StBlk w N v V a b c) (k : Nat) (hk : k < 16) : w.cell? ⟨N, 16 + k, none⟩ = some (.int .i64 (V k)) := by rw [h.cell, stC_ver v V a b c k hk]
theorem StBlk.tail {w : World} {N : Nat} {v : Nat → Value} {V : Nat → Int} {a b c : Int} (h : StBlk w N v V a b c) : w.cell? ⟨N, 32, none⟩ = some (.int .i64 a) ∧ w.cell? ⟨N, 33, none⟩ = some (.int .i64 b) ∧ w.cell? ⟨N, 34, none⟩ = some (.int .i64 c) := ⟨h.cell 32, h.cell 33, h.cell 34⟩
theorem wpList_load_sub {P : Program} {ops : Array Oper} {rest : List Oper} {o : Oper} {a : Act} {w : World} {Q : Exit → Act → World → Prop} (hgd : o.guard = none) (ty : TypeId) (x : Operand) (ho : o.op = .load ty x)
    (g off : Nat) (hx : a.eval x = .pointer (some ⟨g, off, none⟩)) (t : TypeId) (cs sub : Array Value) (fr : Nat × Nat) (d : TypeDesc) (hg : w.heap[g]? = some (.cells cs t fr))
    (hu : P.underlying ty = some d) (hd : (match d with | .struct _ | .array _ _ => true | _ => false) = true) (hi : (P.info? ty).map (·.size) = some sub.size) (hl : ∀ j v, sub.toList[j]? = some v → cs[off + j]? = some v)
    (h : wpList P ops Q rest (a.put o.dst (.agg sub)) w) : wpList P ops Q (o :: rest) a w :=
  wpList_load_part hgd ty x ho g off hx t cs sub.toList fr d hg hu hd (by simpa using hi) hl (by simpa using h)
def inB (v m : Int) : Bool := decide (0 ≤ v) && decide (v ≤ m)
def storeB (T : Nat → List It) (V : Nat → Int) (a b c : Int) : Bool :=
  trunkB T V && inB a 2147483647 && inB b 65536 && inB c 1024 && ((List.range 16).all fun k => decide (V k ≤ a)) && decide ((wtK T 16 : Int) ≤ b) && decide ((ctK T 16 : Int) ≤ c)
def versB (V : Nat → Int) (a : Int) : Bool := (List.range 16).all fun k => decide (V k ≤ a)
theorem versB_no {V : Nat → Int} {a : Int} {k : Nat} (hk : k < 16) (h : a < V k) : versB V a = false := by
  unfold versB
  rw [Bool.eq_false_iff]
  intro q
  have := List.all_eq_true.1 q k (List.mem_range.2 hk)
  simp at this; omega
theorem versB_yes {V : Nat → Int} {a : Int} (h : ∀ k, k < 16 → V k ≤ a) : versB V a = true := by
  unfold versB
  exact List.all_eq_true.2 fun k hk => by simpa using h k (List.mem_range.1 hk)
theorem storeB_eq (T : Nat → List It) (V : Nat → Int) (a b c : Int) : storeB T V a b c = (trunkB T V && inB a 2147483647 && inB b 65536 && inB c 1024 && versB V a && decide ((wtK T 16 : Int) ≤ b) && decide ((ctK T 16 : Int) ≤ c)) := rfl
set_option maxHeartbeats 400000 in
theorem within_any (v m : Int) (w : World) : Calls Tryz.prog 87 #[.int .i64 v, .int .i64 m] w fun e w' => e = .returned (.bool (inB v m)) ∧ w = w' := by
  unfold inB
  by_cases h : 0 ≤ v
  · have h1 : decide (0 ≤ v) = true := by simpa using h
    rw [h1, Bool.true_and]
    go_enter Tryz.func87, Tryz.ntmps87
    go_wp2_with fail
    go_ret
    exact ⟨rfl, rfl⟩
  · have h1 : decide (0 ≤ v) = false := by simpa using h
    rw [h1, Bool.false_and]
    go_enter Tryz.func87, Tryz.ntmps87
    go_wp2_with fail
    go_ret
    exact ⟨rfl, rfl⟩
set_option maxHeartbeats 400000 in
theorem rin_any (v m : Int) (w : World) : Calls Tryz.prog 61 #[.int .i64 v, .int .i64 m] w fun e w' => e = .returned (.bool (inB v m)) ∧ w = w' := by
  unfold inB
  by_cases h : 0 ≤ v
  · have h1 : decide (0 ≤ v) = true := by simpa using h
    rw [h1, Bool.true_and]
    go_enter Tryz.func61, Tryz.ntmps61
    go_wp2_with fail
    go_ret
    exact ⟨rfl, rfl⟩
  · have h1 : decide (0 ≤ v) = false := by simpa using h
    rw [h1, Bool.false_and]
    go_enter Tryz.func61, Tryz.ntmps61
    go_wp2_with fail
    go_ret
    exact ⟨rfl, rfl⟩
end Go.Proofs.YtpchohjkelopoaaGreatDoor

set_option maxRecDepth 20000
namespace Go.Proofs.YtpchohjkelopoaaGreatDoor
open Go.RowKit
attribute [go_sem] more_more Array.size_append
/-- a trunk's versions, as an array -/
def vrC (V : Nat → Int) : Array Value := #[.int .i64 (V 0), .int .i64 (V 1), .int .i64 (V 2), .int .i64 (V 3), .int .i64 (V 4), .int .i64 (V 5), .int .i64 (V 6), .int .i64 (V 7), .int .i64 (V 8), .int .i64 (V 9), .int .i64 (V 10), .int .i64 (V 11), .int .i64 (V 12), .int .i64 (V 13), .int .i64 (V 14), .int .i64 (V 15)]
theorem vrC_get (V : Nat → Int) (k : Nat) (hk : k < 16) : (vrC V)[k]? = some (.int .i64 (V k)) := by
  match k, hk with
  | 0, _ => rfl
  | 1, _ => rfl
  | 2, _ => rfl
  | 3, _ => rfl
  | 4, _ => rfl
  | 5, _ => rfl
  | 6, _ => rfl
  | 7, _ => rfl
  | 8, _ => rfl
  | 9, _ => rfl
  | 10, _ => rfl
  | 11, _ => rfl
  | 12, _ => rfl
  | 13, _ => rfl
  | 14, _ => rfl
  | 15, _ => rfl
  | k + 16, h => exact absurd h (by omega)
theorem vrC_sub (v : Nat → Value) (V : Nat → Int) (a b c : Int) : ∀ j u, (vrC V).toList[j]? = some u → (stC v V a b c)[16 + j]? = some u := by
  intro j u h
  have hj : j < 16 := by have := (List.getElem?_eq_some_iff.1 h).1; simpa [vrC] using this
  rw [stC_ver v V a b c j hj, ← vrC_get V j hj, ← Array.getElem?_toList, h]
theorem idx_ver (V : Nat → Int) (k : Nat) (hk : k < 16) (W : World) : (Instr.index 23 (.agg (vrC V)) (.int .i64 (k : Int))).run Tryz.prog W = .ok (.int .i64 (V k)) W := by
  match k, hk with
  | 0, _ => exact (fun W => by kernel_rfl : ∀ W : World, (Instr.index 23 (.agg (vrC V)) (.int .i64 0)).run Tryz.prog W = .ok (.int .i64 (V 0)) W) W
  | 1, _ => exact (fun W => by kernel_rfl : ∀ W : World, (Instr.index 23 (.agg (vrC V)) (.int .i64 1)).run Tryz.prog W = .ok (.int .i64 (V 1)) W) W
  | 2, _ => exact (fun W => by kernel_rfl : ∀ W : World, (Instr.index 23 (.agg (vrC V)) (.int .i64 2)).run Tryz.prog W = .ok (.int .i64 (V 2)) W) W
  | 3, _ => exact (fun W => by kernel_rfl : ∀ W : World, (Instr.index 23 (.agg (vrC V)) (.int .i64 3)).run Tryz.prog W = .ok (.int .i64 (V 3)) W) W
  | 4, _ => exact (fun W => by kernel_rfl : ∀ W : World, (Instr.index 23 (.agg (vrC V)) (.int .i64 4)).run Tryz.prog W = .ok (.int .i64 (V 4)) W) W
  | 5, _ => exact (fun W => by kernel_rfl : ∀ W : World, (Instr.index 23 (.agg (vrC V)) (.int .i64 5)).run Tryz.prog W = .ok (.int .i64 (V 5)) W) W
  | 6, _ => exact (fun W => by kernel_rfl : ∀ W : World, (Instr.index 23 (.agg (vrC V)) (.int .i64 6)).run Tryz.prog W = .ok (.int .i64 (V 6)) W) W
  | 7, _ => exact (fun W => by kernel_rfl : ∀ W : World, (Instr.index 23 (.agg (vrC V)) (.int .i64 7)).run Tryz.prog W = .ok (.int .i64 (V 7)) W) W
  | 8, _ => exact (fun W => by kernel_rfl : ∀ W : World, (Instr.index 23 (.agg (vrC V)) (.int .i64 8)).run Tryz.prog W = .ok (.int .i64 (V 8)) W) W
  | 9, _ => exact (fun W => by kernel_rfl : ∀ W : World, (Instr.index 23 (.agg (vrC V)) (.int .i64 9)).run Tryz.prog W = .ok (.int .i64 (V 9)) W) W
  | 10, _ => exact (fun W => by kernel_rfl : ∀ W : World, (Instr.index 23 (.agg (vrC V)) (.int .i64 10)).run Tryz.prog W = .ok (.int .i64 (V 10)) W) W
  | 11, _ => exact (fun W => by kernel_rfl : ∀ W : World, (Instr.index 23 (.agg (vrC V)) (.int .i64 11)).run Tryz.prog W = .ok (.int .i64 (V 11)) W) W
  | 12, _ => exact (fun W => by kernel_rfl : ∀ W : World, (Instr.index 23 (.agg (vrC V)) (.int .i64 12)).run Tryz.prog W = .ok (.int .i64 (V 12)) W) W
  | 13, _ => exact (fun W => by kernel_rfl : ∀ W : World, (Instr.index 23 (.agg (vrC V)) (.int .i64 13)).run Tryz.prog W = .ok (.int .i64 (V 13)) W) W
  | 14, _ => exact (fun W => by kernel_rfl : ∀ W : World, (Instr.index 23 (.agg (vrC V)) (.int .i64 14)).run Tryz.prog W = .ok (.int .i64 (V 14)) W) W
  | 15, _ => exact (fun W => by kernel_rfl : ∀ W : World, (Instr.index 23 (.agg (vrC V)) (.int .i64 15)).run Tryz.prog W = .ok (.int .i64 (V 15)) W) W
  | k + 16, h => exact absurd h (by omega)
theorem stepG_load_mid {P : Program} {ops : Array Oper} {o : Oper} {a : Act} {W : World} (hw : Region.wanted o (yielded ops a.tmps) = true) (ty : TypeId) (x : Operand) (ho : o.op = .load ty x) (b off : Nat) (hx : a.eval x = .pointer (some ⟨b, off, none⟩)) (cs : List Value) (d : TypeDesc) (hc : W.rangeAt b off cs)
    (hu : P.underlying ty = some d) (hd : d.isRow = true) (hi : (P.info? ty).map (·.size) = some cs.length) (v : Value) (hv : v = .agg cs.toArray) : StepG P ops o a W (fun x _ => x = v) := by
  unfold StepG
  rw [if_pos hw]
  unfold execOp
  simp only [ho, hx, Instr.loadAt, Instr.sureAddr, Sem.run_bind, Sem.run_pure, Result.andThen_ok, run_loadVar_mid W b off ty cs d hc hu hd hi]
  exact ⟨Ext.refl _, hv.symm⟩
theorem st_range {N : Nat} {v : Nat → Value} {V : Nat → Int} {a b c : Int} {W : World} (h : StBlk W N v V a b c) : W.rangeAt N 0 (trC v V).toList := by
  have := World.rangeAt_of_block (w := W) h 0 32
  rw [show ((stC v V a b c).extract 0 (0 + 32)).toList = (trC v V).toList by kernel_rfl] at this
  exact this
set_option maxHeartbeats 4000000 in
theorem stmay_any (bs : Nat → Nat) (v : Nat → Value) (T : Nat → List It) (V : Nat → Int) (a b c : Int) (SB : Nat) (w : World) (hS : SignsAt SB w) (hSB : SB ≤ w.heap.size) (h : LvsAt w bs v T) :
    Calls Tryz.prog 60 #[.agg (stC v V a b c)] w fun e w' => e = .returned (.bool (storeB T V a b c)) ∧ Ext w w' := by
  rw [storeB_eq]
  have TM := Lib.hid fun (W : World) (hx : Ext w W) => tmay_any bs v T V SB W (hS.ext hx hSB) (Nat.le_trans hSB hx.size) (h.ext hx)
  have WA := Lib.hid fun W => within_any a 2147483647 W
  have WB := Lib.hid fun W => within_any b 65536 W
  have WC := Lib.hid fun W => within_any c 1024 W
  have HL := Lib.hid h
  have HS := Lib.hid hS
  clear h hS
  cases htb : trunkB T V with
  | false =>
    rw [htb] at TM
    clear htb
    go_enter Tryz.func60, Tryz.ntmps60
    go_wp2_with (first
    | (refine wpList_load_sub rfl 29 _ rfl w.heap.size 0 rfl 56 (stC v V a b c) (trC v V) (0, 0) _ (heap_alloc_new w _) Tryz.underlying29 rfl (by kernel_rfl) (stC_tr v V a b c) ?_)
    | (go_at_call 52; refine (TM.out _ (by repeat (first | exact Ext.refl _ | apply Ext.alloc | apply Ext.more | apply Ext.drewN))).mono ?_; rintro e w1 ⟨rfl, hx⟩; have HX1 := Lib.hid (((Ext.refl w).alloc _).trans hx); have hb1 : StBlk w1 w.heap.size v V a b c := StBlk.ext (show StBlk (w.alloc (.cells (stC v V a b c) 56)) w.heap.size v V a b c from heap_alloc_new w _) hx; obtain ⟨t32, t33, t34⟩ := hb1.tail; have hgN := lt_of_heap hb1; have HB1 := Lib.hid hb1; clear hx hb1)
    | (go_at_call 87; with_reducible refine (WA.out _).mono ?_; rintro e _ ⟨rfl, rfl⟩)
    | (go_at_call 87; with_reducible refine (WB.out _).mono ?_; rintro e _ ⟨rfl, rfl⟩)
    | (go_at_call 87; with_reducible refine (WC.out _).mono ?_; rintro e _ ⟨rfl, rfl⟩))
    go_ret
    exact ⟨rfl, HX1.out⟩
  | true =>
  rw [htb] at TM
  have HTB := Lib.hid htb
  clear htb
  cases ha : inB a 2147483647 with
  | false =>
    rw [ha] at WA
    clear ha
    go_enter Tryz.func60, Tryz.ntmps60
    go_wp2_with (first
    | (refine wpList_load_sub rfl 29 _ rfl w.heap.size 0 rfl 56 (stC v V a b c) (trC v V) (0, 0) _ (heap_alloc_new w _) Tryz.underlying29 rfl (by kernel_rfl) (stC_tr v V a b c) ?_)
    | (go_at_call 52; refine (TM.out _ (by repeat (first | exact Ext.refl _ | apply Ext.alloc | apply Ext.more | apply Ext.drewN))).mono ?_; rintro e w1 ⟨rfl, hx⟩; have HX1 := Lib.hid (((Ext.refl w).alloc _).trans hx); have hb1 : StBlk w1 w.heap.size v V a b c := StBlk.ext (show StBlk (w.alloc (.cells (stC v V a b c) 56)) w.heap.size v V a b c from heap_alloc_new w _) hx; obtain ⟨t32, t33, t34⟩ := hb1.tail; have hgN := lt_of_heap hb1; have HB1 := Lib.hid hb1; clear hx hb1)
    | (go_at_call 87; with_reducible refine (WA.out _).mono ?_; rintro e _ ⟨rfl, rfl⟩)
    | (go_at_call 87; with_reducible refine (WB.out _).mono ?_; rintro e _ ⟨rfl, rfl⟩)
    | (go_at_call 87; with_reducible refine (WC.out _).mono ?_; rintro e _ ⟨rfl, rfl⟩))
    go_ret
    exact ⟨rfl, HX1.out⟩
  | true =>
  rw [ha] at WA
  clear ha
  cases hb : inB b 65536 with
  | false =>
    rw [hb] at WB
    clear hb
    go_enter Tryz.func60, Tryz.ntmps60
    go_wp2_with (first
    | (refine wpList_load_sub rfl 29 _ rfl w.heap.size 0 rfl 56 (stC v V a b c) (trC v V) (0, 0) _ (heap_alloc_new w _) Tryz.underlying29 rfl (by kernel_rfl) (stC_tr v V a b c) ?_)
    | (go_at_call 52; refine (TM.out _ (by repeat (first | exact Ext.refl _ | apply Ext.alloc | apply Ext.more | apply Ext.drewN))).mono ?_; rintro e w1 ⟨rfl, hx⟩; have HX1 := Lib.hid (((Ext.refl w).alloc _).trans hx); have hb1 : StBlk w1 w.heap.size v V a b c := StBlk.ext (show StBlk (w.alloc (.cells (stC v V a b c) 56)) w.heap.size v V a b c from heap_alloc_new w _) hx; obtain ⟨t32, t33, t34⟩ := hb1.tail; have hgN := lt_of_heap hb1; have HB1 := Lib.hid hb1; clear hx hb1)
    | (go_at_call 87; with_reducible refine (WA.out _).mono ?_; rintro e _ ⟨rfl, rfl⟩)
    | (go_at_call 87; with_reducible refine (WB.out _).mono ?_; rintro e _ ⟨rfl, rfl⟩)
    | (go_at_call 87; with_reducible refine (WC.out _).mono ?_; rintro e _ ⟨rfl, rfl⟩))
    go_ret
    exact ⟨rfl, HX1.out⟩
  | true =>
  rw [hb] at WB
  clear hb
  cases hc : inB c 1024 with
  | false =>
    rw [hc] at WC
    clear hc
    go_enter Tryz.func60, Tryz.ntmps60
    go_wp2_with (first
    | (refine wpList_load_sub rfl 29 _ rfl w.heap.size 0 rfl 56 (stC v V a b c) (trC v V) (0, 0) _ (heap_alloc_new w _) Tryz.underlying29 rfl (by kernel_rfl) (stC_tr v V a b c) ?_)
    | (go_at_call 52; refine (TM.out _ (by repeat (first | exact Ext.refl _ | apply Ext.alloc | apply Ext.more | apply Ext.drewN))).mono ?_; rintro e w1 ⟨rfl, hx⟩; have HX1 := Lib.hid (((Ext.refl w).alloc _).trans hx); have hb1 : StBlk w1 w.heap.size v V a b c := StBlk.ext (show StBlk (w.alloc (.cells (stC v V a b c) 56)) w.heap.size v V a b c from heap_alloc_new w _) hx; obtain ⟨t32, t33, t34⟩ := hb1.tail; have hgN := lt_of_heap hb1; have HB1 := Lib.hid hb1; clear hx hb1)
    | (go_at_call 87; with_reducible refine (WA.out _).mono ?_; rintro e _ ⟨rfl, rfl⟩)
    | (go_at_call 87; with_reducible refine (WB.out _).mono ?_; rintro e _ ⟨rfl, rfl⟩)
    | (go_at_call 87; with_reducible refine (WC.out _).mono ?_; rintro e _ ⟨rfl, rfl⟩))
    go_ret
    exact ⟨rfl, HX1.out⟩
  | true =>
  rw [hc] at WC
  clear hc
  simp only [Bool.true_and]
  obtain ⟨r, hr⟩ : ∃ r, (versB V a && decide ((wtK T 16 : Int) ≤ b) && decide ((ctK T 16 : Int) ≤ c)) = r := ⟨_, rfl⟩
  rw [hr]
  have HR := Lib.hid hr
  clear hr
  go_enter Tryz.func60, Tryz.ntmps60
  go_wp2_with (first
    | (refine wpList_load_sub rfl 23 _ rfl w.heap.size 16 rfl 56 (stC v V a b c) (vrC V) (0, 0) _ HB1.out Tryz.underlying23 rfl (by kernel_rfl) (vrC_sub v V a b c) ?_)
    | (refine wpList_load_sub rfl 29 _ rfl w.heap.size 0 rfl 56 (stC v V a b c) (trC v V) (0, 0) _ (heap_alloc_new w _) Tryz.underlying29 rfl (by kernel_rfl) (stC_tr v V a b c) ?_)
    | (go_at_call 52; refine (TM.out _ (by repeat (first | exact Ext.refl _ | apply Ext.alloc | apply Ext.more | apply Ext.drewN))).mono ?_; rintro e w1 ⟨rfl, hx⟩; have HX1 := Lib.hid (((Ext.refl w).alloc _).trans hx); have hb1 : StBlk w1 w.heap.size v V a b c := StBlk.ext (show StBlk (w.alloc (.cells (stC v V a b c) 56)) w.heap.size v V a b c from heap_alloc_new w _) hx; obtain ⟨t32, t33, t34⟩ := hb1.tail; have hgN := lt_of_heap hb1; have HB1 := Lib.hid hb1; clear hx hb1)
    | (go_at_call 87; with_reducible refine (WA.out _).mono ?_; rintro e _ ⟨rfl, rfl⟩)
    | (go_at_call 87; with_reducible refine (WB.out _).mono ?_; rintro e _ ⟨rfl, rfl⟩)
    | (go_at_call 87; with_reducible refine (WC.out _).mono ?_; rintro e _ ⟨rfl, rfl⟩))
  obtain ⟨N, hN⟩ : ∃ N, w.heap.size = N := ⟨_, rfl⟩
  have HN := Lib.hid hN
  rw [hN] at HB1 t32 t33 t34 hgN
  rw [hN]
  clear hN
  go_loopw [30] (fun ii wr => ∃ k : Nat, ii = .int .i64 (k : Int) ∧ k ≤ 16 ∧ Hid ((∀ j, j < k → V j ≤ a) ∧ Ext w1 wr)) (fun ii _ => 16 - (intOf ii).toNat)
  case atStart => exact ⟨0, rfl, Nat.zero_le _, Lib.hid ⟨fun j hj => absurd hj (Nat.not_lt_zero j), Ext.refl _⟩⟩
  case round =>
    obtain ⟨k, rfl, hk16, hH⟩ := hrel
    have HEX := Lib.hid hH.out.2
    have hbr := HB1.out.ext HEX.out
    obtain ⟨u32, u33, u34⟩ := hbr.tail
    have hgr := lt_of_heap hbr
    have HBR := Lib.hid hbr
    clear hbr
    by_cases hk : k < 16
    · have hix := fun W => idx_ver V k hk W
      have hkI : (k : Int) < 16 := by omega
      have hk0 : (0 : Int) ≤ (k : Int) := by omega
      by_cases hgt : a < V k
      · have hre : r = false := by rw [← HR.out, versB_no hk hgt]; rfl
        subst hre
        go_wp2_with fail
        go_ret
        exact ⟨rfl, HX1.out.trans HEX.out⟩
      · have HLE := Lib.hid (show V k ≤ a by omega)
        go_wp2_with fail
        go_roundw
        case rel =>
          refine ⟨k + 1, by go_num, by omega, Lib.hid ⟨fun j hj => ?_, HEX.out⟩⟩
          by_cases hjk : j = k
          · rw [hjk]; exact HLE.out
          · exact hH.out.1 j (by omega)
        case measure => simp [intOf]; omega
    · have hkn : k = 16 := by omega
      subst hkn
      have hv : versB V a = true := versB_yes hH.out.1
      have HR2 := Lib.hid (show (decide ((wtK T 16 : Int) ≤ b) && decide ((ctK T 16 : Int) ≤ c)) = r by rw [← HR.out, hv]; rfl)
      clear hv
      have hx1 := HX1.out.trans HEX.out
      have WTC := Lib.hid fun (W : World) (hx : Ext wr W) => tweight_any bs v T V SB W (HS.out.ext (hx1.trans hx) hSB) (Nat.le_trans hSB (hx1.trans hx).size) (HL.out.ext (hx1.trans hx)) HTB.out
      have CTC := Lib.hid fun (W : World) (hx : Ext wr W) => tcount_any bs v T V SB W (HS.out.ext (hx1.trans hx) hSB) (Nat.le_trans hSB (hx1.trans hx).size) (HL.out.ext (hx1.trans hx)) HTB.out
      have HRG := Lib.hid fun (d : Nat) (os : Array Obj) => st_range (HBR.out.ext ((Ext.refl wr).more d os))
      have HXR := Lib.hid hx1
      obtain ⟨wt, hwt⟩ : ∃ wt, wtK T 16 = wt := ⟨_, rfl⟩
      obtain ⟨ct, hct⟩ : ∃ ct, ctK T 16 = ct := ⟨_, rfl⟩
      rw [hwt] at WTC HR2
      rw [hct] at CTC HR2
      clear hx1 hwt hct
      cases hw : decide ((wt : Int) ≤ b) with
      | false =>
        have hre : r = false := by rw [← HR2.out, hw]; rfl
        subst hre
        go_wp2_with fail
        refine wp_region_grow 12 52 [false, false, false, false, false, false, false, false, false, false, false, false] (by kernel_rfl) (by kernel_rfl) rfl ?_
        simp only [List.take_succ_cons, List.take_zero, List.drop_succ_cons, List.drop_zero]
        repeat (refine Lex.step rfl ?_; intro K hK; (first
            | (refine ⟨.agg (trC v V), fun d os => stepG_load_mid (by rfl) 29 _ rfl N 0 rfl (trC v V).toList _ (HRG.out d os) Tryz.underlying29 rfl (by kernel_rfl) _ rfl, ?_⟩; go_simp; refine hK _ ?_)
            | (unfold StepG; go_simp; refine hK _ ?_)
            | (unfold StepG; go_simp; with_reducible refine ⟨_, fun d os => (ret1 (WTC.out _ ((Ext.refl _).more _ _))), ?_⟩; go_simp; refine hK _ ?_)); clear hK K)
        refine Lex.nil fun WW hE => ?_
        obtain ⟨dd, oo, rfl⟩ := hE
        unfold FillH
        go_wp2_with fail
        rw [ends_normal]
        go_wp2_with fail
        go_ret
        exact ⟨rfl, HXR.out.more _ _⟩
      | true =>
        have hre : r = decide ((ct : Int) ≤ c) := by rw [← HR2.out, hw]; rfl
        subst hre
        go_wp2_with fail
        refine wp_region_grow 12 52 [false, false, false, false, false, false, false, false, false, false, false, false] (by kernel_rfl) (by kernel_rfl) rfl ?_
        simp only [List.take_succ_cons, List.take_zero, List.drop_succ_cons, List.drop_zero]
        repeat (refine Lex.step rfl ?_; intro K hK; (first
            | (refine ⟨.agg (trC v V), fun d os => stepG_load_mid (by rfl) 29 _ rfl N 0 rfl (trC v V).toList _ (HRG.out d os) Tryz.underlying29 rfl (by kernel_rfl) _ rfl, ?_⟩; go_simp; refine hK _ ?_)
            | (unfold StepG; go_simp; refine hK _ ?_)
            | (unfold StepG; go_simp; with_reducible refine ⟨_, fun d os => (ret1 (WTC.out _ ((Ext.refl _).more _ _))), ?_⟩; go_simp; refine hK _ ?_)
            | (unfold StepG; go_simp; with_reducible refine ⟨_, fun d os => (ret1 (CTC.out _ ((Ext.refl _).more _ _))), ?_⟩; go_simp; refine hK _ ?_)); clear hK K)
        refine Lex.nil fun WW hE => ?_
        obtain ⟨dd, oo, rfl⟩ := hE
        unfold FillH
        go_wp2_with fail
        rw [ends_normal]
        go_wp2_with fail
        go_ret
        exact ⟨rfl, HXR.out.more _ _⟩
end Go.Proofs.YtpchohjkelopoaaGreatDoor
