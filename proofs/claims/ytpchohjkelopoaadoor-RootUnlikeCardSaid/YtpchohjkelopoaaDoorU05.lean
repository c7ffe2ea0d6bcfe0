/- Lemmas for the claim (texts Key2, Lf1, Lf2, Lf3, Lf4, Lf5, what its proof uses of them). -/
import Derived.Test.YtpchohjkelopoaaDoorU02
import Derived.Test.YtpchohjkelopoaaDoorU04
set_option linter.unusedSimpArgs false
set_option linter.unusedVariables false
set_option maxRecDepth 20000
namespace Go.Proofs.YtpchohjkelopoaaDoor
open Go.RowKit
attribute [go_sem] more_more Array.size_append
end Go.Proofs.YtpchohjkelopoaaDoor

set_option maxRecDepth 20000
namespace Go.Proofs.YtpchohjkelopoaaDoor
open Go.RowKit
attribute [go_sem] more_more Array.size_append
theorem ltP1 {a n x : Nat} (h : a < n) : (a < n + x) = True := by simp; omega
theorem ltP2 {a n x y : Nat} (h : a < n) : (a < n + x + y) = True := by simp; omega
theorem ltP3 {a n x y z : Nat} (h : a < n) : (a < n + x + y + z) = True := by simp; omega
theorem ltP4 {a n x y z u : Nat} (h : a < n) : (a < n + x + y + z + u) = True := by simp; omega
theorem ltP5 {a n x y z u v : Nat} (h : a < n) : (a < n + x + y + z + u + v) = True := by simp; omega
attribute [go_sem] ltP1 ltP2 ltP3 ltP4 ltP5
/-- an item as a value -/
def itV (x : It) : Value := .agg #[.string x.k, .int .i64 x.vk, .int .i64 x.vi, .string x.vs, .int .i64 x.ver]
def In64I (n : Int) : Prop := -9223372036854775808 ≤ n ∧ n ≤ 9223372036854775807
structure ItOk (x : It) : Prop where
  k : x.k.size ≤ 255
  vs : x.vs.size ≤ 255
  vk : In64I x.vk
  vi : In64I x.vi
  ver : In64I x.ver
theorem small_max {n m : Nat} (h : n ≤ m) (hm : m ≤ 9223372036854775807 := by decide) : n ≤ maxLen := by unfold maxLen; omega
/-- items' cells lie at an address -/
def ItsAt (w : World) (b off : Nat) (l : List It) : Prop := ∀ j x, l[j]? = some x →
  w.cell? ⟨b, off + j * 5, none⟩ = some (.string x.k) ∧ w.cell? ⟨b, off + j * 5 + 1, none⟩ = some (.int .i64 x.vk) ∧ w.cell? ⟨b, off + j * 5 + 2, none⟩ = some (.int .i64 x.vi) ∧
  w.cell? ⟨b, off + j * 5 + 3, none⟩ = some (.string x.vs) ∧ w.cell? ⟨b, off + j * 5 + 4, none⟩ = some (.int .i64 x.ver)
theorem ItsAt.of_block {w w' : World} {b off : Nat} {l : List It} (h : ItsAt w b off l) (e : w'.heap[b]? = w.heap[b]?) : ItsAt w' b off l := by
  intro j x hj
  obtain ⟨h1, h2, h3, h4, h5⟩ := h j x hj
  exact ⟨(World.cell?_of_block e).trans h1, (World.cell?_of_block e).trans h2, (World.cell?_of_block e).trans h3, (World.cell?_of_block e).trans h4, (World.cell?_of_block e).trans h5⟩
theorem ItsAt.lt {w : World} {b off : Nat} {l : List It} (h : ItsAt w b off l) (hl : 0 < l.length) : b < w.heap.size :=
  World.block_lt_of_cell? w _ (h 0 l[0] (List.getElem?_eq_getElem hl)).1
theorem ItsAt.ext {w w' : World} {b off : Nat} {l : List It} (h : ItsAt w b off l) (hx : Ext w w') : ItsAt w' b off l := by
  by_cases hl : 0 < l.length
  · exact h.of_block (hx.below.block b (h.lt hl))
  · intro j x hj
    have := (List.getElem?_eq_some_iff.1 hj).1
    omega
theorem ItsAt.drop {w : World} {b off : Nat} {l : List It} (h : ItsAt w b off l) (n : Nat) : ItsAt w b (off + n * 5) (l.drop n) := fun j x hj => by
  have := h (n + j) x (by rwa [List.getElem?_drop] at hj)
  rwa [Nat.add_mul, ← Nat.add_assoc] at this
/-- a leaf's slice: it reads as the items -/
def LfAt (w : World) (b : Nat) (v : Value) (l : List It) : Prop :=
  (∀ x ∈ l, ItOk x) ∧ ∃ p cap, v = .slice p l.length cap ∧ l.length ≤ cap ∧ (0 < l.length → ∃ off, p = some ⟨b, off, none⟩ ∧ ItsAt w b off l)
theorem LfAt.ext {w w' : World} {b : Nat} {v : Value} {l : List It} (h : LfAt w b v l) (hx : Ext w w') : LfAt w' b v l := by
  obtain ⟨h0, p, cap, h1, h2, h3⟩ := h
  exact ⟨h0, p, cap, h1, h2, fun hl => by obtain ⟨off, e, hi⟩ := h3 hl; exact ⟨off, e, hi.ext hx⟩⟩
theorem LfAt.of_block {w w' : World} {b : Nat} {v : Value} {l : List It} (h : LfAt w b v l) (e : 0 < l.length → w'.heap[b]? = w.heap[b]?) : LfAt w' b v l := by
  obtain ⟨h0, p, cap, h1, h2, h3⟩ := h
  exact ⟨h0, p, cap, h1, h2, fun hl => by obtain ⟨off, e', hi⟩ := h3 hl; exact ⟨off, e', hi.of_block (e hl)⟩⟩
theorem LfAt.nil (w : World) (b : Nat) : LfAt w b (.slice none 0 0) [] := ⟨by simp, none, 0, rfl, Nat.le_refl _, by simp⟩
theorem mayI_key {x : It} (h : keyB x.k = false) : mayI x = false := by unfold mayI; simp [h]
theorem mayI_val {x : It} (h : mayB x.vk x.vi x.vs = false) : mayI x = false := by unfold mayI; simp [h]
theorem mayI_nil {x : It} (h : (x.vk != 0) = false) : mayI x = false := by
  have : x.vk = 0 := by simpa using h
  unfold mayI; simp [this]
theorem mayI_neg {x : It} (h : decide (0 ≤ x.ver) = false) : mayI x = false := by unfold mayI; simp [h]
theorem mayI_big {x : It} (h : decide (x.ver ≤ 2147483647) = false) : mayI x = false := by unfold mayI; simp [h]
theorem mayI_yes {x : It} (h1 : keyB x.k = true) (h2 : mayB x.vk x.vi x.vs = true) (h3 : (x.vk != 0) = true) (h4 : decide (0 ≤ x.ver) = true) (h5 : decide (x.ver ≤ 2147483647) = true) : mayI x = true := by
  have h3' : (x.vk == 0) = false := by simpa using h3
  unfold mayI; simp [h1, h2, h3', of_decide_eq_true h4, of_decide_eq_true h5]
set_option maxHeartbeats 4000000 in
theorem lmay_any (x : It) (ho : ItOk x) (B : Nat) (w : World) (h : SignsAt B w) (hB : B ≤ w.heap.size) : Calls Tryd.prog 30 #[itV x] w fun e w' => e = .returned (.bool (mayI x)) ∧ Ext w w' := by
  have hk := small_max ho.k
  have HS := Lib.hid h
  obtain ⟨xk, xvk, xvi, xvs, xver⟩ := x
  have HO := Lib.hid ho
  clear ho h
  dsimp only at hk
  cases hkb : keyB xk with
  | false =>
    have HK := Lib.hid hkb
    clear hkb
    rw [mayI_key HK.out]
    unfold itV
    dsimp only
    go_enter Tryd.func30, Tryd.ntmps30
    go_wp2_with (go_at_call 41; refine (kis_any _ hk B _ (HS.out.ext (by repeat (first | exact Ext.refl _ | apply Ext.alloc | apply Ext.more | apply Ext.drewN)) hB) (by simp <;> omega)).mono ?_; rw [HK.out]; rintro e _ ⟨rfl, d1, os1, rfl⟩)
    go_ret
    exact ⟨rfl, by repeat (first | exact Ext.refl _ | apply Ext.alloc | apply Ext.more | apply Ext.drewN)⟩
  | true =>
    have HK := Lib.hid hkb
    clear hkb
    cases hvb : mayB xvk xvi xvs with
    | false =>
      have HV := Lib.hid hvb
      clear hvb
      rw [mayI_val HV.out]
      unfold itV
      dsimp only
      go_enter Tryd.func30, Tryd.ntmps30
      go_wp2_with (first
      | (go_at_call 41; refine (kis_any _ hk B _ (HS.out.ext (by repeat (first | exact Ext.refl _ | apply Ext.alloc | apply Ext.more | apply Ext.drewN)) hB) (by simp <;> omega)).mono ?_; rw [HK.out]; rintro e _ ⟨rfl, d1, os1, rfl⟩)
      | (go_at_call 42; refine (vmay_any _ _ _ _).mono ?_; rw [HV.out]; rintro e _ ⟨rfl, d2, os2, rfl⟩))
      go_ret
      exact ⟨rfl, by repeat (first | exact Ext.refl _ | apply Ext.alloc | apply Ext.more | apply Ext.drewN)⟩
    | true =>
      have HV := Lib.hid hvb
      clear hvb
      cases h3 : (xvk != 0) with
      | false =>
        rw [mayI_nil h3]
        unfold itV
        dsimp only
        go_enter Tryd.func30, Tryd.ntmps30
        go_wp2_with (first
      | (go_at_call 41; refine (kis_any _ hk B _ (HS.out.ext (by repeat (first | exact Ext.refl _ | apply Ext.alloc | apply Ext.more | apply Ext.drewN)) hB) (by simp <;> omega)).mono ?_; rw [HK.out]; rintro e _ ⟨rfl, d1, os1, rfl⟩)
      | (go_at_call 42; refine (vmay_any _ _ _ _).mono ?_; rw [HV.out]; rintro e _ ⟨rfl, d2, os2, rfl⟩))
        go_ret
        exact ⟨rfl, by repeat (first | exact Ext.refl _ | apply Ext.alloc | apply Ext.more | apply Ext.drewN)⟩
      | true =>
        cases h4 : decide (0 ≤ xver) with
        | false =>
          rw [mayI_neg h4]
          unfold itV
          dsimp only
          go_enter Tryd.func30, Tryd.ntmps30
          go_wp2_with (first
      | (go_at_call 41; refine (kis_any _ hk B _ (HS.out.ext (by repeat (first | exact Ext.refl _ | apply Ext.alloc | apply Ext.more | apply Ext.drewN)) hB) (by simp <;> omega)).mono ?_; rw [HK.out]; rintro e _ ⟨rfl, d1, os1, rfl⟩)
      | (go_at_call 42; refine (vmay_any _ _ _ _).mono ?_; rw [HV.out]; rintro e _ ⟨rfl, d2, os2, rfl⟩))
          go_ret
          exact ⟨rfl, by repeat (first | exact Ext.refl _ | apply Ext.alloc | apply Ext.more | apply Ext.drewN)⟩
        | true =>
          cases h5 : decide (xver ≤ 2147483647) with
          | false =>
            rw [mayI_big h5]
            unfold itV
            dsimp only
            go_enter Tryd.func30, Tryd.ntmps30
            go_wp2_with (first
      | (go_at_call 41; refine (kis_any _ hk B _ (HS.out.ext (by repeat (first | exact Ext.refl _ | apply Ext.alloc | apply Ext.more | apply Ext.drewN)) hB) (by simp <;> omega)).mono ?_; rw [HK.out]; rintro e _ ⟨rfl, d1, os1, rfl⟩)
      | (go_at_call 42; refine (vmay_any _ _ _ _).mono ?_; rw [HV.out]; rintro e _ ⟨rfl, d2, os2, rfl⟩))
            go_ret
            exact ⟨rfl, by repeat (first | exact Ext.refl _ | apply Ext.alloc | apply Ext.more | apply Ext.drewN)⟩
          | true =>
            rw [mayI_yes HK.out HV.out h3 h4 h5]
            unfold itV
            dsimp only
            go_enter Tryd.func30, Tryd.ntmps30
            go_wp2_with (first
      | (go_at_call 41; refine (kis_any _ hk B _ (HS.out.ext (by repeat (first | exact Ext.refl _ | apply Ext.alloc | apply Ext.more | apply Ext.drewN)) hB) (by simp <;> omega)).mono ?_; rw [HK.out]; rintro e _ ⟨rfl, d1, os1, rfl⟩)
      | (go_at_call 42; refine (vmay_any _ _ _ _).mono ?_; rw [HV.out]; rintro e _ ⟨rfl, d2, os2, rfl⟩))
            go_ret
            exact ⟨rfl, by repeat (first | exact Ext.refl _ | apply Ext.alloc | apply Ext.more | apply Ext.drewN)⟩
end Go.Proofs.YtpchohjkelopoaaDoor

set_option maxRecDepth 20000
namespace Go.Proofs.YtpchohjkelopoaaDoor
open Go.RowKit
attribute [go_sem] more_more Array.size_append
/-- the item ahead of a place -/
def prevI (l : List It) (i : Nat) : Option It := match i with | 0 => none | j + 1 => l[j]?
theorem chk_end (l : List It) : chkF (prevI l l.length) l.length (l.drop l.length) = (0, 0) := by
  rw [List.drop_of_length_le (Nat.le_refl _)]
  cases prevI l l.length <;> rfl
theorem chk_bad {l : List It} {k : Nat} {x : It} (hx : l[k]? = some x) (h : mayI x = false) : chkF (prevI l k) k (l.drop k) = (1, (k : Int)) := by
  obtain ⟨hk, rfl⟩ := List.getElem?_eq_some_iff.1 hx
  rw [List.drop_eq_getElem_cons hk]
  cases prevI l k <;> simp [chkF, h]
theorem chk_first {l : List It} {x : It} (hx : l[0]? = some x) (h : mayI x = true) : chkF (prevI l 0) 0 (l.drop 0) = chkF (prevI l 1) 1 (l.drop 1) := by
  obtain ⟨hk, rfl⟩ := List.getElem?_eq_some_iff.1 hx
  rw [List.drop_eq_getElem_cons hk]
  have : prevI l 1 = some l[0] := List.getElem?_eq_getElem hk
  rw [this]
  simp [chkF, prevI, h]
theorem chk_order {l : List It} {k : Nat} {x y : It} (hx : l[k + 1]? = some x) (hy : l[k]? = some y) (h : mayI x = true) (ho : ltB y.k x.k = false) : chkF (prevI l (k + 1)) (k + 1) (l.drop (k + 1)) = (3, ((k + 1 : Nat) : Int)) := by
  obtain ⟨hk, rfl⟩ := List.getElem?_eq_some_iff.1 hx
  rw [List.drop_eq_getElem_cons hk]
  have : prevI l (k + 1) = some y := hy
  rw [this]
  simp [chkF, h, ho]
theorem chk_next {l : List It} {k : Nat} {x y : It} (hx : l[k + 1]? = some x) (hy : l[k]? = some y) (h : mayI x = true) (ho : ltB y.k x.k = true) : chkF (prevI l (k + 1)) (k + 1) (l.drop (k + 1)) = chkF (prevI l (k + 2)) (k + 2) (l.drop (k + 2)) := by
  obtain ⟨hk, rfl⟩ := List.getElem?_eq_some_iff.1 hx
  rw [List.drop_eq_getElem_cons hk]
  have e1 : prevI l (k + 1) = some y := hy
  have e2 : prevI l (k + 2) = some l[k + 1] := hx
  rw [e1, e2]
  simp [chkF, h, ho]
theorem le_key {x y : It} (h : ltB y.k x.k = true) : (Op.bytesLess x.k.toList y.k.toList || x.k.toList == y.k.toList) = false := by
  rw [bl_le, Lib.toList_data, Lib.toList_data]; unfold ltB at h; rw [h]; rfl
theorem le_key' {x y : It} (h : ltB y.k x.k = false) : (Op.bytesLess x.k.toList y.k.toList || x.k.toList == y.k.toList) = true := by
  rw [bl_le, Lib.toList_data, Lib.toList_data]; unfold ltB at h; rw [h]; rfl
theorem leafF_long {l : List It} (h : ¬ l.length ≤ 64) : leafF l = (5, 64) := by unfold leafF; rw [if_pos (by omega)]
theorem leafF_short {l : List It} (h : l.length ≤ 64) {r : Int × Int} (e : chkF (prevI l 0) 0 (l.drop 0) = r) : leafF l = r := by unfold leafF; rw [if_neg (by omega)]; exact e
theorem get_at {l : List It} {k n : Nat} (hn : l.length = n) (h : k < n) : ∃ x, l[k]? = some x := ⟨_, List.getElem?_eq_getElem (by omega)⟩
set_option maxHeartbeats 8000000 in
theorem lcheck_any (b : Nat) (v : Value) (l : List It) (B : Nat) (w : World) (hS : SignsAt B w) (hB : B ≤ w.heap.size) (h : LfAt w b v l) : Calls Tryd.prog 21 #[v] w fun e w' => e = .returned (.tuple #[.int .i64 (leafF l).1, .int .i64 (leafF l).2]) ∧ Ext w w' := by
  obtain ⟨ho, p, cap, rfl, hcap, hp⟩ := h
  obtain ⟨n, hn⟩ : ∃ n, l.length = n := ⟨_, rfl⟩
  rw [hn] at hcap hp ⊢
  have HN := Lib.hid hn
  have HO := Lib.hid ho
  have HS := Lib.hid hS
  have HP := Lib.hid hp
  clear hp ho hn hS
  by_cases h64 : n ≤ 64
  case neg =>
    rw [leafF_long (by have := HN.out; omega)]
    have h64' : (64 : Int) < (n : Int) := by omega
    go_enter Tryd.func21, Tryd.ntmps21
    go_wp2_with fail
    go_ret2
    exact ⟨rfl, by repeat (first | exact Ext.refl _ | apply Ext.alloc | apply Ext.more | apply Ext.drewN)⟩
  have h64' : (n : Int) ≤ 64 := by omega
  obtain ⟨r, hr⟩ : ∃ r, chkF (prevI l 0) 0 (l.drop 0) = r := ⟨_, rfl⟩
  rw [leafF_short (by have := HN.out; omega) hr]
  have HR := Lib.hid hr
  clear hr
  go_enter Tryd.func21, Tryd.ntmps21
  go_wp2_with fail
  go_loopw [11] (fun i wr => ∃ k : Nat, i = .int .i64 (k : Int) ∧ k ≤ n ∧ chkF (prevI l k) k (l.drop k) = r ∧ Ext w wr) (fun i _ => n - (intOf i).toNat)
  case atStart => exact ⟨0, rfl, Nat.zero_le _, HR.out, Ext.refl _⟩
  case round =>
    obtain ⟨k, rfl, hk, hch, d, os, rfl⟩ := hrel
    have HC := Lib.hid hch
    clear hch
    by_cases hlt : k < n
    case neg =>
      have hkn : k = n := by omega
      subst hkn
      have e : r = (0, 0) := by rw [← HC.out, ← HN.out]; exact chk_end l
      subst e
      go_wp2_with fail
      go_ret2
      exact ⟨rfl, by repeat (first | exact Ext.refl _ | apply Ext.alloc | apply Ext.more | apply Ext.drewN)⟩
    obtain ⟨x, hx⟩ := get_at HN.out hlt
    obtain ⟨off, rfl, hits⟩ := HP.out (by omega)
    obtain ⟨c0, c1, c2, c3, c4⟩ := hits k x hx
    have hox := HO.out x (List.mem_of_getElem? hx)
    have hbs : b < w.heap.size := hits.lt (by have := HN.out; omega)
    have HX := Lib.hid hx
    have HI := Lib.hid hits
    have HOX := Lib.hid hox
    clear hx hits hox
    cases hm : mayI x with
    | false =>
      have HM := Lib.hid hm
      clear hm
      have e : r = (1, (k : Int)) := by rw [← HC.out]; exact chk_bad HX.out HM.out
      subst e
      go_wp2_with (go_at_call 30; refine ((lmay_any x HOX.out B _ (HS.out.ext (by repeat (first | exact Ext.refl _ | apply Ext.alloc | apply Ext.more | apply Ext.drewN)) hB) (Nat.le_trans hB (Ext.size (by repeat (first | exact Ext.refl _ | apply Ext.alloc | apply Ext.more | apply Ext.drewN)))))).mono ?_; rw [HM.out]; rintro e _ ⟨rfl, d1, os1, rfl⟩)
      go_ret2
      exact ⟨rfl, by repeat (first | exact Ext.refl _ | apply Ext.alloc | apply Ext.more | apply Ext.drewN)⟩
    | true =>
      have HM := Lib.hid hm
      clear hm
      rcases k with _ | k
      · simp only [Nat.zero_mul, Nat.add_zero] at c0 c1 c2 c3 c4
        go_wp2_with (go_at_call 30; refine ((lmay_any x HOX.out B _ (HS.out.ext (by repeat (first | exact Ext.refl _ | apply Ext.alloc | apply Ext.more | apply Ext.drewN)) hB) (Nat.le_trans hB (Ext.size (by repeat (first | exact Ext.refl _ | apply Ext.alloc | apply Ext.more | apply Ext.drewN)))))).mono ?_; rw [HM.out]; rintro e _ ⟨rfl, d1, os1, rfl⟩)
        refine wp_region_grow 14 37 [false, false, false, false, false, false, false, false, false, false, false, false, false, false] (by kernel_rfl) (by kernel_rfl) rfl ?_
        simp only [List.take_succ_cons, List.take_zero, List.drop_succ_cons, List.drop_zero]
        repeat (refine Lex.step rfl ?_; intro K hK; unfold StepG; go_simp; (first
            | refine hK _ ?_); clear hK K)
        refine Lex.nil fun WW hE => ?_
        obtain ⟨dd, oo, rfl⟩ := hE
        unfold FillH
        go_wp2_with fail
        rw [ends_normal]
        go_wp2_with fail
        go_roundw
        case rel => exact ⟨1, by go_num, by omega, by rw [← chk_first HX.out HM.out]; exact HC.out, by repeat (first | exact Ext.refl _ | apply Ext.alloc | apply Ext.more | apply Ext.drewN)⟩
        case measure => simp [intOf]; omega
      · obtain ⟨y, hy⟩ := get_at HN.out (show k < n by omega)
        have hoy := HO.out y (List.mem_of_getElem? hy)
        have cy := (HI.out k y hy).1
        have HY := Lib.hid hy
        have HOY := Lib.hid hoy
        clear hy hoy
        have hk0 : (0 : Int) < (k : Int) + 1 := by omega
        have hk1 : (0 : Int) ≤ (k : Int) := by omega
        have hk3 : (0 : Int) ≤ (k : Int) + 1 := by omega
        have hk4 : (k : Int) + 1 < (n : Int) := by omega
        have hw3 : ((k : Int) + 1).toNat = k + 1 := by omega
        have hk2 : (k : Int) < (n : Int) := by omega
        have hw1 : IntKind.i64.wrap (k : Int) = (k : Int) := IntWalk.i64_in _ (by omega)
        cases hg : ltB y.k x.k with
        | false =>
          have HG := Lib.hid hg
          clear hg
          have hcmp := le_key' HG.out
          have e : r = (3, ((k + 1 : Nat) : Int)) := by rw [← HC.out]; exact chk_order HX.out HY.out HM.out HG.out
          subst e
          go_wp2_with (go_at_call 30; refine ((lmay_any x HOX.out B _ (HS.out.ext (by repeat (first | exact Ext.refl _ | apply Ext.alloc | apply Ext.more | apply Ext.drewN)) hB) (Nat.le_trans hB (Ext.size (by repeat (first | exact Ext.refl _ | apply Ext.alloc | apply Ext.more | apply Ext.drewN)))))).mono ?_; rw [HM.out]; rintro e _ ⟨rfl, d1, os1, rfl⟩)
          refine wp_region_grow 14 37 [false, false, false, false, false, false, false, false, false, false, false, false, false, false] (by kernel_rfl) (by kernel_rfl) rfl ?_
          simp only [List.take_succ_cons, List.take_zero, List.drop_succ_cons, List.drop_zero]
          repeat (refine Lex.step rfl ?_; intro K hK; unfold StepG; go_simp; (first
              | refine hK _ ?_); clear hK K)
          refine Lex.nil fun WW hE => ?_
          obtain ⟨dd, oo, rfl⟩ := hE
          unfold FillH
          go_wp2_with fail
          rw [ends_normal]
          go_wp2_with fail
          go_ret2
          exact ⟨rfl, by repeat (first | exact Ext.refl _ | apply Ext.alloc | apply Ext.more | apply Ext.drewN)⟩
        | true =>
          have HG := Lib.hid hg
          clear hg
          have hcmp := le_key HG.out
          go_wp2_with (go_at_call 30; refine ((lmay_any x HOX.out B _ (HS.out.ext (by repeat (first | exact Ext.refl _ | apply Ext.alloc | apply Ext.more | apply Ext.drewN)) hB) (Nat.le_trans hB (Ext.size (by repeat (first | exact Ext.refl _ | apply Ext.alloc | apply Ext.more | apply Ext.drewN)))))).mono ?_; rw [HM.out]; rintro e _ ⟨rfl, d1, os1, rfl⟩)
          refine wp_region_grow 14 37 [false, false, false, false, false, false, false, false, false, false, false, false, false, false] (by kernel_rfl) (by kernel_rfl) rfl ?_
          simp only [List.take_succ_cons, List.take_zero, List.drop_succ_cons, List.drop_zero]
          repeat (refine Lex.step rfl ?_; intro K hK; unfold StepG; go_simp; (first
              | refine hK _ ?_); clear hK K)
          refine Lex.nil fun WW hE => ?_
          obtain ⟨dd, oo, rfl⟩ := hE
          unfold FillH
          go_wp2_with fail
          rw [ends_normal]
          go_wp2_with fail
          go_roundw
          case rel => exact ⟨k + 2, by go_num, by omega, by rw [← chk_next HX.out HY.out HM.out HG.out]; exact HC.out, by repeat (first | exact Ext.refl _ | apply Ext.alloc | apply Ext.more | apply Ext.drewN)⟩
          case measure => simp [intOf]; omega
set_option maxHeartbeats 1000000 in
theorem lis_any (b : Nat) (v : Value) (l : List It) (B : Nat) (w : World) (hS : SignsAt B w) (hB : B ≤ w.heap.size) (h : LfAt w b v l) : Calls Tryd.prog 31 #[v] w fun e w' => e = .returned (.bool (leafB l)) ∧ Ext w w' := by
  have H := Lib.hid (lcheck_any b v l B w hS hB h)
  clear h hS
  go_enter Tryd.func31, Tryd.ntmps31
  go_wp2_with (go_at_call 21; refine H.out.mono ?_; rintro e _ ⟨rfl, d1, os1, rfl⟩)
  go_ret
  exact ⟨rfl, by repeat (first | exact Ext.refl _ | apply Ext.alloc | apply Ext.more | apply Ext.drewN)⟩
end Go.Proofs.YtpchohjkelopoaaDoor

set_option maxRecDepth 20000
namespace Go.Proofs.YtpchohjkelopoaaDoor
open Go.RowKit
attribute [go_sem] more_more Array.size_append
/-- a row of bytes of the call's own: a hole of a drawn region -/
def OwnFact (base : Nat) (l : List UInt8) : Fact := fun v W => ∃ g cap, v = .slice (some ⟨g, 0, none⟩) l.length cap ∧ W.ownsRow base 5 1 (.slice (some ⟨g, 0, none⟩) l.length cap) l.length (cellsB l)
theorem OwnFact.upc (base : Nat) (l : List UInt8) : Upc (OwnFact base l) := by
  rintro v W W' hx ⟨g, cap, hv, ho⟩
  exact ⟨g, cap, hv, own_ext ho hx⟩
theorem retO {P : Program} {f : FuncId} {args : Array Value} {l : List UInt8} {W : World} {base : Nat} (h : Calls P f args W fun e w' => OwnB W w' e l) (hb : base ≤ W.heap.size) :
    Calls P f args W (RetG W (OwnFact base l)) := h.mono fun e w' ⟨g, cap, he, ho, hx⟩ => ⟨_, he, hx, g, cap, rfl, ho.mono hb⟩
theorem encB_len (k i : Int) (s : ByteArray) (h : mayB k i s = true) (h0 : -9223372036854775808 ≤ i) (h1 : i ≤ 9223372036854775807) : (encB k i s).length ≤ 80 := by
  unfold encB
  have z := zigZ_bd i h0 h1
  have q1 := putB_len 9 (zigZ i).toNat (by omega)
  rcases may_cases h with ⟨rfl, rfl, _⟩ | ⟨rfl, a, b, _⟩ | ⟨rfl, _⟩ | ⟨rfl, rfl, a⟩
  · simp
  · simp
  · simp; omega
  · have q2 := putB_len 1 s.size (by omega)
    simp; omega
theorem encB_pos (k i : Int) (s : ByteArray) : 0 < (encB k i s).length := by
  unfold encB; (repeat' split) <;> simp
theorem itB_len (x : It) (ho : ItOk x) (hm : mayI x = true) : (itB x).length ≤ 400 := by
  have h1 := ho.k
  have h2 := ho.ver
  have q1 := putB_len 1 x.k.size (by omega)
  have q2 := putB_len 9 x.ver.toNat (by have := h2.2; omega)
  have hv : mayB x.vk x.vi x.vs = true := by unfold mayI at hm; simp at hm; exact hm.1.1.1.2
  have q3 := encB_len x.vk x.vi x.vs hv ho.vi.1 ho.vi.2
  unfold itB
  simp only [List.length_append, ba_len]
  omega
theorem grown_cell {W w1 : World} {row : Option Nat} (hg : W.grownBy w1 row) {b i : Nat} {v : Value} (h : W.cell? ⟨b, i, none⟩ = some v) (hb : b < W.heap.size) (hne : row ≠ some b) : w1.cell? ⟨b, i, none⟩ = some v :=
  (World.cell?_of_block (hg.block b hb (fun e => hne e.symm))).trans h
theorem mayI_parts {x : It} (h : mayI x = true) : mayB x.vk x.vi x.vs = true ∧ 0 ≤ x.ver ∧ x.ver ≤ 2147483647 ∧ keyB x.k = true := by
  unfold mayI at h; simp at h; exact ⟨h.1.1.1.2, h.1.2, h.2, h.1.1.1.1⟩
set_option maxHeartbeats 4000000 in
theorem bytes_any (x : It) (ho : ItOk x) (hm : mayI x = true) (w : World) : Calls Tryd.prog 32 #[itV x] w fun e w' => OwnB w w' e (itB x) := by
  obtain ⟨i0, hi, hz0, hz1, hz2⟩ := info_parts u8info
  obtain ⟨hv, hr0, hr1, _⟩ := mayI_parts hm
  have hk := ho.k
  have hv0 := ho.vi
  have q1 := putB_len 1 x.k.size (by omega)
  have q3 := encB_len x.vk x.vi x.vs hv ho.vi.1 ho.vi.2
  have q4 := putB_len 9 x.ver.toNat (by omega)
  obtain ⟨xk, xvk, xvi, xvs, xver⟩ := x
  dsimp only at *
  have C1 := Lib.hid (fun W => puttext_any xk (by omega) W)
  have C2 := Lib.hid (fun W => enc_any xvk xvi xvs hv hv0.1 hv0.2 W)
  have C3 := Lib.hid (fun W => put_any xver hr0 (by omega) W)
  obtain ⟨l1, hl1⟩ : ∃ l1, putB xk.size ++ xk.data.toList = l1 := ⟨_, rfl⟩
  obtain ⟨l2, hl2⟩ : ∃ l2, encB xvk xvi xvs = l2 := ⟨_, rfl⟩
  obtain ⟨l3, hl3⟩ : ∃ l3, putB xver.toNat = l3 := ⟨_, rfl⟩
  have e : itB ⟨xk, xvk, xvi, xvs, xver⟩ = l1 ++ l2 ++ l3 := by unfold itB; rw [← hl1, ← hl2, ← hl3]
  have z1 : l1.length ≤ 300 := by rw [← hl1]; simp only [List.length_append, ba_len]; omega
  have z2 : l2.length ≤ 80 := by rw [← hl2]; exact q3
  have z3 : l3.length ≤ 80 := by rw [← hl3]; omega
  have z4 : 0 < l1.length := by rw [← hl1]; have := putB_pos xk.size; simp only [List.length_append]; omega
  rw [e]
  rw [hl1] at C1
  rw [hl2] at C2
  rw [hl3] at C3
  have hw1 : IntKind.u64.wrap xver = xver := by rw [wrap_u64]; omega
  have Z1 := Lib.hid z1
  have Z2 := Lib.hid z2
  have Z3 := Lib.hid z3
  have Z4 := Lib.hid z4
  clear e hl1 hl2 hl3 q1 q3 q4 hk hv0 hm ho hv z1 z2 z3 z4
  unfold itV
  dsimp only
  go_enter Tryd.func32, Tryd.ntmps32
  go_wp2_with fail
  refine wp_region_grow 6 17 [false, false, false, false, false, false] (by kernel_rfl) (by kernel_rfl) rfl ?_
  simp only [List.take_succ_cons, List.take_zero, List.drop_succ_cons, List.drop_zero]
  refine Lex.step rfl ?_; intro K hK; unfold StepG; go_simp; refine hK _ ?_; clear hK K
  refine Lex.step rfl ?_; intro K hK; unfold StepG; go_simp; refine hK _ ?_; clear hK K
  refine Lex.gap 6 (OwnFact (w.heap.size + 1) l1) rfl (OwnFact.upc _ _) rfl (fun d os => ?_) ?_
  · unfold StepG
    go_simp
    exact retO (C1.out _) (by simp [more_size] <;> omega)
  refine Lex.step rfl ?_; intro K hK; unfold StepG; go_simp; refine hK _ ?_; clear hK K
  refine Lex.step rfl ?_; intro K hK; unfold StepG; go_simp; refine hK _ ?_; clear hK K
  refine Lex.gap 9 (OwnFact (w.heap.size + 1) l2) rfl (OwnFact.upc _ _) rfl (fun d os => ?_) ?_
  · unfold StepG
    go_simp
    exact retO (C2.out _) (by simp [more_size] <;> omega)
  refine Lex.nil fun WW hE => ?_
  obtain ⟨dd, oo, rfl⟩ := hE
  unfold FillH FillH
  rintro _ ⟨g2, c2, rfl, o2⟩ _ ⟨g1, c1, rfl, o1⟩
  unfold FillH
  go_wp2_with (at_builtin; refine wpList_append_src _ rfl _ _ 52 52 rfl (w.heap.size + 1) 5 i0 (.int .u8 0) 1 1 Tryd.underlying52 hi hz0 hz1 hz2 rfl (by decide) _ _ _ rfl o1 _ l2.length _ rfl (src_own Tryd.underlying52 o2 (cellsB_one _)) ?c3 ?c4 ?c5 ?_)
  case c3 => have := Z1.out; have := Z2.out; unfold maxLen; omega
  case c4 => have := Z1.out; have := Z2.out; omega
  case c5 => simp [more_size] <;> omega
  intro v1 w1 hown1 hgrow1 _
  rw [← cellsB_append] at hown1
  obtain ⟨g3, c3, rfl, _, _⟩ := hown1.form (by have := Z4.out; omega)
  have EX1 : Ext w w1 := Ext.grown (by repeat (first | exact Ext.refl _ | apply Ext.alloc | apply Ext.more | apply Ext.drewN)) hgrow1 (fun k hk => Nat.le_of_succ_le (o1.lt k hk).1)
  have hcx : w1.cell? ⟨w.heap.size, 4, none⟩ = some (.int .i64 xver) := grown_cell hgrow1 (by simp [go_sem, more_cell]) (by simp [more_size] <;> omega) (fun e => by have := (o1.lt _ e).1; omega)
  have H1 := Lib.hid hown1
  have HG := Lib.hid EX1
  clear hown1 hgrow1 EX1 o1 o2
  go_wp2_with fail
  rw [ends_normal]
  go_wp2_with (first
    | (go_at_call 45; refine (C3.out _).mono ?_; rintro e w2 ⟨g4, c4, rfl, o4, x4⟩)
    | (at_builtin; refine wpList_append_src _ rfl _ _ 52 52 rfl (w.heap.size + 1) 5 i0 (.int .u8 0) 1 1 Tryd.underlying52 hi hz0 hz1 hz2 rfl (by decide) _ _ _ rfl (own_ext H1.out x4) _ l3.length _ rfl (src_own Tryd.underlying52 o4 (cellsB_one _)) ?d3 ?d4 ?d5 ?_))
  case d3 => have := Z1.out; have := Z2.out; have := Z3.out; unfold maxLen; omega
  case d4 => have := Z1.out; have := Z2.out; have := Z3.out; omega
  case d5 => have := x4.size; have := HG.out.size; have := (H1.out.lt _ rfl).2; omega
  intro v3 w3 hown3 hgrow3 _
  rw [← cellsB_append] at hown3
  go_wp2_with fail
  go_ret
  refine OwnB.mk' (by have := Z4.out; simp only [List.length_append]; omega) ?_ ((HG.out.trans x4).grown hgrow3 fun k hk => Nat.le_of_succ_le (H1.out.lt k hk).1)
  have := hown3.mono (base' := w.heap.size) (by omega)
  simpa [Nat.add_assoc] using this
end Go.Proofs.YtpchohjkelopoaaDoor

set_option maxRecDepth 20000
namespace Go.Proofs.YtpchohjkelopoaaDoor
open Go.RowKit
attribute [go_sem] more_more Array.size_append
/-- a slice that reads as bytes; its block is one of bytes, behind base -/
def SlB (base : Nat) (w : World) (v : Value) (l : List UInt8) : Prop := ∃ b off cap, v = .slice (some ⟨b, off, none⟩) l.length cap ∧ l.length ≤ cap ∧ base ≤ b ∧ BytesAt w b off l ∧ ∃ cur fz, w.heap[b]? = some (.cells cur 5 fz)
theorem BytesAt.of_block {w w' : World} {b off : Nat} {l : List UInt8} (h : BytesAt w b off l) (e : w'.heap[b]? = w.heap[b]?) : BytesAt w' b off l := fun j u hj => (World.cell?_of_block e).trans (h j u hj)
theorem lt_of_heap {w : World} {b : Nat} {o : Obj} (h : w.heap[b]? = some o) : b < w.heap.size := (Array.getElem?_eq_some_iff.1 h).1
theorem SlB.kept {base : Nat} {w w' : World} {v : Value} {l : List UInt8} (h : SlB base w v l) (hk : ∀ b cur fz, base ≤ b → w.heap[b]? = some (.cells cur 5 fz) → w'.heap[b]? = w.heap[b]?) : SlB base w' v l := by
  obtain ⟨b, off, cap, h1, h2, h3, h4, cur, fz, h5⟩ := h
  have e := hk b cur fz h3 h5
  exact ⟨b, off, cap, h1, h2, h3, h4.of_block e, cur, fz, e.trans h5⟩
theorem SlB.ext {base : Nat} {w w' : World} {v : Value} {l : List UInt8} (h : SlB base w v l) (hx : Ext w w') : SlB base w' v l :=
  h.kept fun b cur fz _ hb => hx.below.block b (lt_of_heap hb)
theorem SlB.of_own {base : Nat} {w : World} {v : Value} {l : List UInt8} (hl : 0 < l.length) (h : w.ownsRow base 5 1 v l.length (cellsB l)) : SlB base w v l := by
  obtain ⟨g, cap, rfl, hg, hlt⟩ := h.form hl
  rcases h.2 with ⟨_, h0⟩ | ⟨g', cap', cur, hv, _, hh, hc, _⟩
  · omega
  · simp only [Value.slice.injEq, Option.some.injEq, Addr.mk.injEq, and_true, true_and] at hv
    obtain ⟨rfl, rfl⟩ := hv
    refine ⟨g, 0, cap, rfl, hc, hg, ?_, cur, (0, 0), hh⟩
    intro j u hj
    have := h.cells (g := g) rfl j (.int .u8 (u.toNat : Int)) (by simp [cellsB, hj])
    rwa [Addr.add_lit] at this
/-- slices that read as texts of bytes -/
def Bys (base : Nat) (w : World) (vs : List Value) (L : List (List UInt8)) : Prop := vs.length = L.length ∧ ∀ (i : Nat) (v : Value) (l : List UInt8), vs[i]? = some v → L[i]? = some l → SlB base w v l
theorem Bys.nil (base : Nat) (w : World) : Bys base w [] [] := ⟨rfl, fun i v l h => by simp at h⟩
theorem Bys.kept {base : Nat} {w w' : World} {vs : List Value} {L : List (List UInt8)} (h : Bys base w vs L) (hk : ∀ b cur fz, base ≤ b → w.heap[b]? = some (.cells cur 5 fz) → w'.heap[b]? = w.heap[b]?) : Bys base w' vs L :=
  ⟨h.1, fun i v l h1 h2 => (h.2 i v l h1 h2).kept hk⟩
theorem Bys.ext {base : Nat} {w w' : World} {vs : List Value} {L : List (List UInt8)} (h : Bys base w vs L) (hx : Ext w w') : Bys base w' vs L := ⟨h.1, fun i v l h1 h2 => (h.2 i v l h1 h2).ext hx⟩
theorem Bys.snoc {base : Nat} {w : World} {vs : List Value} {L : List (List UInt8)} {v : Value} {l : List UInt8} (h : Bys base w vs L) (hv : SlB base w v l) : Bys base w (vs ++ [v]) (L ++ [l]) := by
  refine ⟨by simp [h.1], fun i u m hu hm => ?_⟩
  by_cases hi : i < vs.length
  · rw [List.getElem?_append_left hi] at hu
    rw [List.getElem?_append_left (by rw [← h.1]; exact hi)] at hm
    exact h.2 i u m hu hm
  · rw [List.getElem?_append_right (by omega)] at hu
    rw [List.getElem?_append_right (by rw [← h.1]; omega)] at hm
    rw [← h.1] at hm
    obtain ⟨k, hk⟩ : ∃ k, i - vs.length = k := ⟨_, rfl⟩
    rw [hk] at hu hm
    cases k with
    | zero => simp at hu hm; subst hu hm; exact hv
    | succ k => simp at hu
/-- an append to a row of slices leaves rows of bytes -/
theorem Bys.grown {base base2 size n : Nat} {w w' : World} {vs xs : List Value} {L : List (List UInt8)} {v : Value} {e : TypeId} (h : Bys base w vs L) (hg : w.grownBy w' v.ownBlock) (hown : w.ownsRow base2 e size v n xs) (he : e ≠ 5) : Bys base w' vs L := by
  refine h.kept fun b cur fz hb hc => hg.block b (lt_of_heap hc) fun q => he ?_
  rcases hown.2 with ⟨rfl, _⟩ | ⟨g, cap, cur2, rfl, _, hh, _⟩
  · simp [Value.ownBlock] at q
  · simp only [Value.ownBlock, Option.some.injEq] at q
    subst q
    rw [hc] at hh
    simp at hh
    exact hh.2.1.symm
theorem chunk_len (l : List It) (ho : ∀ x ∈ l, ItOk x) (hm : ∀ x ∈ l, mayI x = true) (a k : Nat) : (((l.drop a).take k).flatMap itB).length ≤ 400 * k := by
  have : ∀ (m : List It), (∀ x ∈ m, ItOk x) → (∀ x ∈ m, mayI x = true) → (m.flatMap itB).length ≤ 400 * m.length := by
    intro m
    induction m with
    | nil => simp
    | cons x m ih =>
      intro h1 h2
      have q := itB_len x (h1 x (by simp)) (h2 x (by simp))
      have r := ih (fun y hy => h1 y (by simp [hy])) (fun y hy => h2 y (by simp [hy]))
      simp only [List.flatMap_cons, List.length_append, List.length_cons]
      omega
  have h1 := this ((l.drop a).take k) (fun x hx => ho x (List.mem_of_mem_drop (List.mem_of_mem_take hx))) (fun x hx => hm x (List.mem_of_mem_drop (List.mem_of_mem_take hx)))
  have h2 := List.length_take_le k (l.drop a)
  have := Nat.mul_le_mul_left 400 h2
  omega
theorem chkF_may : ∀ (l : List It) (p : Option It) (i : Nat), (chkF p i l).1 = 0 → ∀ x ∈ l, mayI x = true
  | [], _, _, _, x, hx => by simp at hx
  | y :: l, none, i, h, x, hx => by
    unfold chkF at h
    split at h
    · simp at h
    · next hy =>
      rcases List.mem_cons.1 hx with rfl | hx
      · simpa using hy
      · exact chkF_may l _ _ h x hx
  | y :: l, some z, i, h, x, hx => by
    unfold chkF at h
    split at h
    · simp at h
    · next hy =>
      split at h
      · simp at h
      · rcases List.mem_cons.1 hx with rfl | hx
        · simpa using hy
        · exact chkF_may l _ _ h x hx
theorem leafB_may {l : List It} (h : leafB l = true) : l.length ≤ 64 ∧ ∀ x ∈ l, mayI x = true := by
  unfold leafB leafF at h
  split at h
  · simp at h
  · exact ⟨by omega, chkF_may l none 0 (by simpa using h)⟩
theorem take_itB (l : List It) (a i : Nat) (x : It) (hx : l[a + i]? = some x) : ((l.drop a).take (i + 1)).flatMap itB = ((l.drop a).take i).flatMap itB ++ itB x := by
  rw [List.take_add_one, List.getElem?_drop, hx]
  simp
theorem range_snoc (l : List It) (j : Nat) : (List.range (j + 1)).map (chunkN l) = (List.range j).map (chunkN l) ++ [chunkN l j] := by simp [List.range_succ]
theorem chunkN_pos (l : List It) (j : Nat) : 0 < (chunkN l j).length := by simp [chunkN]
/-- what a contract says of slices of bytes that it hands back -/
def OwnBys (w w' : World) (e : Ending) (L : List (List UInt8)) : Prop :=
  ∃ v vs, e = .returned v ∧ w'.ownsRow w.heap.size 52 1 v L.length vs ∧ Bys w.heap.size w' vs L ∧ Ext w w'
theorem bysInfo : (Tryd.prog.info? 52).map (fun i => (i.zero, i.size, i.bytes)) = some (some (.slice none 0 0), 1, 24) := by kernel_rfl
set_option maxHeartbeats 1000000 in
theorem chunks_no (b : Nat) (v : Value) (l : List It) (B : Nat) (w : World) (hS : SignsAt B w) (hB : B ≤ w.heap.size) (h : LfAt w b v l) (hl : leafB l = false) : Calls Tryd.prog 22 #[v] w fun e w' => e = .returned (.slice none 0 0) ∧ Ext w w' := by
  have H := Lib.hid (lis_any b v l B w hS hB h)
  rw [hl] at H
  clear h hS hl
  go_enter Tryd.func22, Tryd.ntmps22
  go_wp2_with (go_at_call 31; refine H.out.mono ?_; rintro e _ ⟨rfl, d1, os1, rfl⟩)
  go_ret
  exact ⟨rfl, by repeat (first | exact Ext.refl _ | apply Ext.alloc | apply Ext.more | apply Ext.drewN)⟩
set_option maxHeartbeats 8000000 in
theorem chunks_any (b : Nat) (v : Value) (l : List It) (B : Nat) (w : World) (hS : SignsAt B w) (hB : B ≤ w.heap.size) (h : LfAt w b v l) (hl : leafB l = true) : Calls Tryd.prog 22 #[v] w fun e w' => OwnBys w w' e (chunksF l) := by
  have H := Lib.hid (lis_any b v l B w hS hB h)
  rw [hl] at H
  obtain ⟨h64, hmay⟩ := leafB_may hl
  obtain ⟨ho, p, cap, rfl, hcap, hp⟩ := h
  obtain ⟨i0, hi, hz0, hz1, hz2⟩ := info_parts u8info
  obtain ⟨i1, hi1, hy0, hy1, hy2⟩ := info_parts bysInfo
  obtain ⟨n, hn⟩ : ∃ n, l.length = n := ⟨_, rfl⟩
  rw [hn] at hcap hp h64 H ⊢
  have HN := Lib.hid hn
  have HO := Lib.hid ho
  have HM := Lib.hid hmay
  have HP := Lib.hid hp
  clear hp ho hn hmay hS hl
  go_enter Tryd.func22, Tryd.ntmps22
  go_wp2_with (go_at_call 31; refine H.out.mono ?_; rintro e _ ⟨rfl, d1, os1, rfl⟩)
  go_loopw [0, 3] (fun sv out wr => ∃ (j : Nat) (vs : List Value) (p' : Option Addr) (c' : Nat), j ≤ (n + 7) / 8 ∧ sv = .slice p' (n - 8 * j) c' ∧ n - 8 * j ≤ c' ∧ Hid (0 < n - 8 * j → ∃ off, p' = some ⟨b, off, none⟩ ∧ ItsAt w b off (l.drop (8 * j))) ∧ wr.ownsRow w.heap.size 52 1 out j vs ∧ Bys w.heap.size wr vs ((List.range j).map (chunkN l)) ∧ Ext w wr) (fun sv _ _ => match sv with | .slice _ n _ => n | _ => 0)
  case atStart => exact ⟨0, [], p, cap, Nat.zero_le _, rfl, hcap, Lib.hid (fun hh => by simpa using HP.out hh), World.ownsRow_nil _ _ _ _, Bys.nil _ _, by repeat (first | exact Ext.refl _ | apply Ext.alloc | apply Ext.more | apply Ext.drewN)⟩
  case round =>
    obtain ⟨j, vs, p', c', hj, rfl, hc', HQ, hown, hbys, hext⟩ := hrel
    obtain ⟨m, hm⟩ : ∃ m, n - 8 * j = m := ⟨_, rfl⟩
    rw [hm] at hc' HQ ⊢
    have HJ := Lib.hid (And.intro hm hj)
    have HOW := Lib.hid hown
    have HBY := Lib.hid hbys
    have HEX := Lib.hid hext
    clear hm hown hbys hext hj
    by_cases hpos : 0 < m
    case neg =>
      have hm0 : m = 0 := by omega
      subst hm0
      go_wp2_with fail
      go_ret
      refine ⟨_, vs, rfl, ?_, ?_, HEX.out⟩
      · have e : (chunksF l).length = j := by unfold chunksF; have := HJ.out; have := HN.out; simp; omega
        rw [e]; exact HOW.out
      · have e : chunksF l = (List.range j).map (chunkN l) := by unfold chunksF; have := HJ.out; have h2 := HN.out; rw [show (l.length + 7) / 8 = j by omega]
        rw [e]; exact HBY.out
    obtain ⟨off, rfl, hits⟩ := HQ.out hpos
    have hbs : b < w.heap.size := hits.lt (by have := HJ.out; have := HN.out; simp; omega)
    have HI := Lib.hid hits
    clear hits HQ
    have hm64 : m ≤ 64 := by have := HJ.out; omega
    have hmi64 : (m : Int) ≤ 64 := by omega
    obtain ⟨W1, rfl⟩ : ∃ W1, W1 = wr := ⟨_, rfl⟩
    rcases Nat.lt_or_ge m 8 with h8 | h8
    · have h8' : (m : Int) < 8 := by omega
      have hwb : IntKind.u8.wrap (m : Int) = (m : Int) := by simp [IntKind.wrap, IntKind.bits, IntKind.signed] <;> omega
      have hMc : m ≤ c' := by omega
      go_wp2_with fail
      go_loopw [5, 24] (fun bv ii wr => ∃ (i : Nat) (row : List UInt8), ii = .int .i64 (i : Int) ∧ i ≤ m ∧ Hid (row = UInt8.ofNat m :: ((l.drop (8 * j)).take i).flatMap itB) ∧ wr.ownsRow W1.heap.size 5 1 bv row.length (cellsB row) ∧ Ext W1 wr) (fun _ ii _ => m - (intOf ii).toNat)
      case atStart =>
        refine ⟨0, [UInt8.ofNat m], rfl, Nat.zero_le _, Lib.hid (by simp), ?_, by repeat (first | exact Ext.refl _ | apply Ext.alloc | apply Ext.more | apply Ext.drewN)⟩
        have e : cellsB [UInt8.ofNat m] = [.int .u8 (m : Int)] := by simp [cellsB] <;> omega
        rw [e]
        exact own_lit _ (Nat.le_refl _)
      case round =>
        obtain ⟨i, row, rfl, hi', hrow, hownb, hext⟩ := hrel
        have HOB := Lib.hid hownb
        have HEX2 := Lib.hid hext
        have hlen : row.length ≤ 3300 := by
          rw [hrow.out]
          have := chunk_len l HO.out HM.out (8 * j) i
          simp only [List.length_cons]; omega
        have HLN := Lib.hid hlen
        clear hownb hext hlen
        have hbw : b < wr.heap.size := by have := HEX.out.size; have := HEX2.out.size; omega
        by_cases hlt : i < m
        case neg =>
          have hiM : i = m := by omega
          have HEQ := Lib.hid hiM
          have hrc : row = chunkN l j := by
            rw [hrow.out, hiM]
            unfold chunkN
            have e1 : min 8 (l.length - 8 * j) = m := by have := HJ.out; have := HN.out; omega
            have e2 : (l.drop (8 * j)).take m = (l.drop (8 * j)).take 8 := by have h1 := HJ.out; have h2 := HN.out; rw [List.take_of_length_le (by simp; omega), List.take_of_length_le (by simp; omega)]
            rw [e1, e2]
          have HRC := Lib.hid hrc
          obtain ⟨gb, cb, rfl, hgb⟩ := HOB.out.form (by rw [hrc]; exact chunkN_pos l j)
          clear hiM hrc hi'
          have HOO := Lib.hid (own_ext HOW.out HEX2.out)
          by_cases hcm : m = c'
          · subst hcm
            go_wp2_with (at_builtin; refine wpList_append_own_at _ rfl _ _ 51 rfl w.heap.size 52 i1 (.slice none 0 0) 1 24 Tryd.underlying51 hi1 hy0 hy1 hy2 rfl (by decide) _ j vs rfl (HOO.out.alloc _) ⟨wr.heap.size, 0, none⟩ 1 1 [.slice (some ⟨gb, 0, none⟩) row.length cb] rfl rfl ?e1ay ?e2ay ?e3ay ?e4ay ?e5ay ?_)
            case e1ay => exact cell_one_new _ _ _
            case e2ay => first | rfl | (intro u hu; simp at hu; subst hu; rfl)
            case e3ay => have := HJ.out; unfold maxLen; omega
            case e4ay => have := HJ.out; omega
            case e5ay => have := HEX.out.size; have := HEX2.out.size; simp; omega
            intro v4 w4 hown4 hgrow4 _ _
            go_wp2_with fail
            go_roundw
            case rel =>
              refine ⟨j + 1, vs ++ [.slice (some ⟨gb, 0, none⟩) row.length cb], some ⟨b, off, none⟩, 0, by have := HJ.out; omega, by have := HJ.out; rw [show n - 8 * (j + 1) = 0 by omega], by have := HJ.out; omega, Lib.hid (fun hh => by have := HJ.out; omega), hown4, ?_, ?_⟩
              · rw [range_snoc]
                have q1 := (HBY.out.ext HEX2.out).snoc (v := .slice (some ⟨gb, 0, none⟩) row.length cb) (l := chunkN l j) (by
                  have := (HOB.out).mono (base' := w.heap.size) HEX.out.size
                  rw [HRC.out] at this ⊢
                  exact SlB.of_own (chunkN_pos l j) this)
                exact Bys.grown (q1.ext ((Ext.refl _).alloc _)) hgrow4 (HOO.out.alloc _) (by decide)
              · exact ((HEX.out.trans HEX2.out).alloc _).grown hgrow4 (fun k hk => (HOO.out.lt k hk).1)
            case measure => have := HJ.out; simp; omega
          · have hcn : ¬ c' = m := by omega
            go_wp2_with (at_builtin; refine wpList_append_own_at _ rfl _ _ 51 rfl w.heap.size 52 i1 (.slice none 0 0) 1 24 Tryd.underlying51 hi1 hy0 hy1 hy2 rfl (by decide) _ j vs rfl (HOO.out.alloc _) ⟨wr.heap.size, 0, none⟩ 1 1 [.slice (some ⟨gb, 0, none⟩) row.length cb] rfl rfl ?e1by ?e2by ?e3by ?e4by ?e5by ?_)
            case e1by => exact cell_one_new _ _ _
            case e2by => first | rfl | (intro u hu; simp at hu; subst hu; rfl)
            case e3by => have := HJ.out; unfold maxLen; omega
            case e4by => have := HJ.out; omega
            case e5by => have := HEX.out.size; have := HEX2.out.size; simp; omega
            intro v4 w4 hown4 hgrow4 _ _
            go_wp2_with fail
            go_roundw
            case rel =>
              refine ⟨j + 1, vs ++ [.slice (some ⟨gb, 0, none⟩) row.length cb], some ⟨b, off + m * 5, none⟩, c' - m, by have := HJ.out; omega, by have := HJ.out; first | (rw [show n - 8 * (j + 1) = m - m by omega]; done) | (rw [show n - 8 * (j + 1) = 0 by omega]; done), by have := HJ.out; omega, Lib.hid (fun hh => ⟨off + m * 5, rfl, by have := HI.out.drop m; rw [List.drop_drop] at this; have h1 := HJ.out; rw [show 8 * (j + 1) = 8 * j + m by omega]; exact this⟩), hown4, ?_, ?_⟩
              · rw [range_snoc]
                have q1 := (HBY.out.ext HEX2.out).snoc (v := .slice (some ⟨gb, 0, none⟩) row.length cb) (l := chunkN l j) (by
                  have := (HOB.out).mono (base' := w.heap.size) HEX.out.size
                  rw [HRC.out] at this ⊢
                  exact SlB.of_own (chunkN_pos l j) this)
                exact Bys.grown (q1.ext ((Ext.refl _).alloc _)) hgrow4 (HOO.out.alloc _) (by decide)
              · exact ((HEX.out.trans HEX2.out).alloc _).grown hgrow4 (fun k hk => (HOO.out.lt k hk).1)
            case measure => have := HJ.out; simp; omega
        obtain ⟨x, hx⟩ := get_at HN.out (show 8 * j + i < n by have := HJ.out; omega)
        obtain ⟨c0, c1, c2, c3, c4⟩ := HI.out i x (by rw [List.getElem?_drop]; exact hx)
        have hox := HO.out x (List.mem_of_getElem? hx)
        have hmx := HM.out x (List.mem_of_getElem? hx)
        have HIT := Lib.hid (itB_len x hox hmx)
        have BC := Lib.hid (fun W => bytes_any x hox hmx W)
        have HST := Lib.hid (take_itB l (8 * j) i x hx)
        have HPOS : Hid (0 < (itB x).length) := Lib.hid (by unfold itB; have := encB_pos x.vk x.vi x.vs; simp only [List.length_append]; omega)
        obtain ⟨c0', c1', c2', c3', c4'⟩ : wr.cell? ⟨b, off + i * 5, none⟩ = some (.string x.k) ∧ wr.cell? ⟨b, off + i * 5 + 1, none⟩ = some (.int .i64 x.vk) ∧ wr.cell? ⟨b, off + i * 5 + 2, none⟩ = some (.int .i64 x.vi) ∧ wr.cell? ⟨b, off + i * 5 + 3, none⟩ = some (.string x.vs) ∧ wr.cell? ⟨b, off + i * 5 + 4, none⟩ = some (.int .i64 x.ver) := by
          have hx2 : Ext w wr := HEX.out.trans HEX2.out
          exact (HI.out.ext hx2) i x (by rw [List.getElem?_drop]; exact hx)
        clear c0 c1 c2 c3 c4 hx hox hmx
        go_wp2_with (first
          | (go_at_call 32; refine (BC.out _).mono ?_; rintro e w2 ⟨g4, c4, rfl, o4, x4⟩)
          | (at_builtin; refine wpList_append_src _ rfl _ _ 52 52 rfl W1.heap.size 5 i0 (.int .u8 0) 1 1 Tryd.underlying52 hi hz0 hz1 hz2 rfl (by decide) _ _ _ rfl (own_ext (HOB.out.alloc _) x4) _ (itB x).length _ rfl (src_own Tryd.underlying52 o4 (cellsB_one _)) ?d3y ?d4y ?d5y ?_))
        case d3y => have := HLN.out; have := HIT.out; unfold maxLen; omega
        case d4y => have := HLN.out; have := HIT.out; omega
        case d5y => have h1 := x4.size; simp at h1; have := HEX2.out.size; omega
        intro v3 w3 hown3 hgrow3 _
        go_wp2_with fail
        go_roundw
        case rel =>
          refine ⟨i + 1, row ++ itB x, by go_num, by omega, Lib.hid (by rw [HST.out, hrow.out]; rfl), ?_, ?_⟩
          · rw [cellsB_append, List.length_append]; exact hown3
          · exact ((HEX2.out.alloc _).trans x4).grown hgrow3 (fun k hk => (HOB.out.lt k hk).1)
        case measure => simp [intOf]; omega
    · have h8' : (8 : Int) ≤ (m : Int) := by omega
      have hwb : IntKind.u8.wrap (8 : Int) = (8 : Int) := by simp [IntKind.wrap, IntKind.bits, IntKind.signed] <;> omega
      have hMc : 8 ≤ c' := by omega
      go_wp2_with fail
      go_loopw [5, 24] (fun bv ii wr => ∃ (i : Nat) (row : List UInt8), ii = .int .i64 (i : Int) ∧ i ≤ 8 ∧ Hid (row = UInt8.ofNat 8 :: ((l.drop (8 * j)).take i).flatMap itB) ∧ wr.ownsRow W1.heap.size 5 1 bv row.length (cellsB row) ∧ Ext W1 wr) (fun _ ii _ => 8 - (intOf ii).toNat)
      case atStart =>
        refine ⟨0, [UInt8.ofNat 8], rfl, Nat.zero_le _, Lib.hid (by simp), ?_, by repeat (first | exact Ext.refl _ | apply Ext.alloc | apply Ext.more | apply Ext.drewN)⟩
        have e : cellsB [UInt8.ofNat 8] = [.int .u8 (8 : Int)] := by simp [cellsB] <;> omega
        rw [e]
        exact own_lit _ (Nat.le_refl _)
      case round =>
        obtain ⟨i, row, rfl, hi', hrow, hownb, hext⟩ := hrel
        have HOB := Lib.hid hownb
        have HEX2 := Lib.hid hext
        have hlen : row.length ≤ 3300 := by
          rw [hrow.out]
          have := chunk_len l HO.out HM.out (8 * j) i
          simp only [List.length_cons]; omega
        have HLN := Lib.hid hlen
        clear hownb hext hlen
        have hbw : b < wr.heap.size := by have := HEX.out.size; have := HEX2.out.size; omega
        by_cases hlt : i < 8
        case neg =>
          have hiM : i = 8 := by omega
          have HEQ := Lib.hid hiM
          have hrc : row = chunkN l j := by
            rw [hrow.out, hiM]
            unfold chunkN
            have e1 : min 8 (l.length - 8 * j) = 8 := by have := HJ.out; have := HN.out; omega
            have e2 : (l.drop (8 * j)).take 8 = (l.drop (8 * j)).take 8 := by have h1 := HJ.out; have h2 := HN.out; rfl
            rw [e1, e2]
          have HRC := Lib.hid hrc
          obtain ⟨gb, cb, rfl, hgb⟩ := HOB.out.form (by rw [hrc]; exact chunkN_pos l j)
          clear hiM hrc hi'
          have HOO := Lib.hid (own_ext HOW.out HEX2.out)
          by_cases hcm : 8 = c'
          · subst hcm
            go_wp2_with (at_builtin; refine wpList_append_own_at _ rfl _ _ 51 rfl w.heap.size 52 i1 (.slice none 0 0) 1 24 Tryd.underlying51 hi1 hy0 hy1 hy2 rfl (by decide) _ j vs rfl (HOO.out.alloc _) ⟨wr.heap.size, 0, none⟩ 1 1 [.slice (some ⟨gb, 0, none⟩) row.length cb] rfl rfl ?e1ax ?e2ax ?e3ax ?e4ax ?e5ax ?_)
            case e1ax => exact cell_one_new _ _ _
            case e2ax => first | rfl | (intro u hu; simp at hu; subst hu; rfl)
            case e3ax => have := HJ.out; unfold maxLen; omega
            case e4ax => have := HJ.out; omega
            case e5ax => have := HEX.out.size; have := HEX2.out.size; simp; omega
            intro v4 w4 hown4 hgrow4 _ _
            go_wp2_with fail
            go_roundw
            case rel =>
              refine ⟨j + 1, vs ++ [.slice (some ⟨gb, 0, none⟩) row.length cb], some ⟨b, off, none⟩, 0, by have := HJ.out; omega, by have := HJ.out; rw [show n - 8 * (j + 1) = 0 by omega], by have := HJ.out; omega, Lib.hid (fun hh => by have := HJ.out; omega), hown4, ?_, ?_⟩
              · rw [range_snoc]
                have q1 := (HBY.out.ext HEX2.out).snoc (v := .slice (some ⟨gb, 0, none⟩) row.length cb) (l := chunkN l j) (by
                  have := (HOB.out).mono (base' := w.heap.size) HEX.out.size
                  rw [HRC.out] at this ⊢
                  exact SlB.of_own (chunkN_pos l j) this)
                exact Bys.grown (q1.ext ((Ext.refl _).alloc _)) hgrow4 (HOO.out.alloc _) (by decide)
              · exact ((HEX.out.trans HEX2.out).alloc _).grown hgrow4 (fun k hk => (HOO.out.lt k hk).1)
            case measure => have := HJ.out; simp; omega
          · have hcn : ¬ c' = 8 := by omega
            go_wp2_with (at_builtin; refine wpList_append_own_at _ rfl _ _ 51 rfl w.heap.size 52 i1 (.slice none 0 0) 1 24 Tryd.underlying51 hi1 hy0 hy1 hy2 rfl (by decide) _ j vs rfl (HOO.out.alloc _) ⟨wr.heap.size, 0, none⟩ 1 1 [.slice (some ⟨gb, 0, none⟩) row.length cb] rfl rfl ?e1bx ?e2bx ?e3bx ?e4bx ?e5bx ?_)
            case e1bx => exact cell_one_new _ _ _
            case e2bx => first | rfl | (intro u hu; simp at hu; subst hu; rfl)
            case e3bx => have := HJ.out; unfold maxLen; omega
            case e4bx => have := HJ.out; omega
            case e5bx => have := HEX.out.size; have := HEX2.out.size; simp; omega
            intro v4 w4 hown4 hgrow4 _ _
            go_wp2_with fail
            go_roundw
            case rel =>
              refine ⟨j + 1, vs ++ [.slice (some ⟨gb, 0, none⟩) row.length cb], some ⟨b, off + 8 * 5, none⟩, c' - 8, by have := HJ.out; omega, by have := HJ.out; first | (rw [show n - 8 * (j + 1) = m - 8 by omega]; done) | (rw [show n - 8 * (j + 1) = 0 by omega]; done), by have := HJ.out; omega, Lib.hid (fun hh => ⟨off + 8 * 5, rfl, by have := HI.out.drop 8; rw [List.drop_drop] at this; have h1 := HJ.out; rw [show 8 * (j + 1) = 8 * j + 8 by omega]; exact this⟩), hown4, ?_, ?_⟩
              · rw [range_snoc]
                have q1 := (HBY.out.ext HEX2.out).snoc (v := .slice (some ⟨gb, 0, none⟩) row.length cb) (l := chunkN l j) (by
                  have := (HOB.out).mono (base' := w.heap.size) HEX.out.size
                  rw [HRC.out] at this ⊢
                  exact SlB.of_own (chunkN_pos l j) this)
                exact Bys.grown (q1.ext ((Ext.refl _).alloc _)) hgrow4 (HOO.out.alloc _) (by decide)
              · exact ((HEX.out.trans HEX2.out).alloc _).grown hgrow4 (fun k hk => (HOO.out.lt k hk).1)
            case measure => have := HJ.out; simp; omega
        obtain ⟨x, hx⟩ := get_at HN.out (show 8 * j + i < n by have := HJ.out; omega)
        obtain ⟨c0, c1, c2, c3, c4⟩ := HI.out i x (by rw [List.getElem?_drop]; exact hx)
        have hox := HO.out x (List.mem_of_getElem? hx)
        have hmx := HM.out x (List.mem_of_getElem? hx)
        have HIT := Lib.hid (itB_len x hox hmx)
        have BC := Lib.hid (fun W => bytes_any x hox hmx W)
        have HST := Lib.hid (take_itB l (8 * j) i x hx)
        have HPOS : Hid (0 < (itB x).length) := Lib.hid (by unfold itB; have := encB_pos x.vk x.vi x.vs; simp only [List.length_append]; omega)
        obtain ⟨c0', c1', c2', c3', c4'⟩ : wr.cell? ⟨b, off + i * 5, none⟩ = some (.string x.k) ∧ wr.cell? ⟨b, off + i * 5 + 1, none⟩ = some (.int .i64 x.vk) ∧ wr.cell? ⟨b, off + i * 5 + 2, none⟩ = some (.int .i64 x.vi) ∧ wr.cell? ⟨b, off + i * 5 + 3, none⟩ = some (.string x.vs) ∧ wr.cell? ⟨b, off + i * 5 + 4, none⟩ = some (.int .i64 x.ver) := by
          have hx2 : Ext w wr := HEX.out.trans HEX2.out
          exact (HI.out.ext hx2) i x (by rw [List.getElem?_drop]; exact hx)
        clear c0 c1 c2 c3 c4 hx hox hmx
        go_wp2_with (first
          | (go_at_call 32; refine (BC.out _).mono ?_; rintro e w2 ⟨g4, c4, rfl, o4, x4⟩)
          | (at_builtin; refine wpList_append_src _ rfl _ _ 52 52 rfl W1.heap.size 5 i0 (.int .u8 0) 1 1 Tryd.underlying52 hi hz0 hz1 hz2 rfl (by decide) _ _ _ rfl (own_ext (HOB.out.alloc _) x4) _ (itB x).length _ rfl (src_own Tryd.underlying52 o4 (cellsB_one _)) ?d3x ?d4x ?d5x ?_))
        case d3x => have := HLN.out; have := HIT.out; unfold maxLen; omega
        case d4x => have := HLN.out; have := HIT.out; omega
        case d5x => have h1 := x4.size; simp at h1; have := HEX2.out.size; omega
        intro v3 w3 hown3 hgrow3 _
        go_wp2_with fail
        go_roundw
        case rel =>
          refine ⟨i + 1, row ++ itB x, by go_num, by omega, Lib.hid (by rw [HST.out, hrow.out]; rfl), ?_, ?_⟩
          · rw [cellsB_append, List.length_append]; exact hown3
          · exact ((HEX2.out.alloc _).trans x4).grown hgrow3 (fun k hk => (HOB.out.lt k hk).1)
        case measure => simp [intOf]; omega
end Go.Proofs.YtpchohjkelopoaaDoor

set_option maxRecDepth 20000
namespace Go.Proofs.YtpchohjkelopoaaDoor
open Go.RowKit
attribute [go_sem] more_more Array.size_append
theorem news_at {w : World} {N : Nat} {x : Value} {t : TypeId} (hN : N = w.heap.size) : ∀ j u, [x][j]? = some u → (w.alloc (.cells #[x] t)).cell? ((⟨N, 0, none⟩ : Addr).add j) = some u := by
  intro j u hu
  subst hN
  match j, hu with
  | 0, hu =>
    simp at hu; subst hu
    rw [Addr.add_lit]
    simp only [World.cell?, heap_alloc_new]
    rfl
  | j + 1, hu => simp at hu
end Go.Proofs.YtpchohjkelopoaaDoor
