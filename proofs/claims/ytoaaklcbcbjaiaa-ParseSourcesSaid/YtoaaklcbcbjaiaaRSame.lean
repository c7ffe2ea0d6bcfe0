/- The document's Same: programs of the same nodes. -/
import Derived.Test.YtoaaklcbcbjaiaaPSrc
import Derived.Deep.OwnRows
set_option linter.unusedSimpArgs false
set_option linter.unusedVariables false
namespace Go.Proofs.Ytoaaklcbcbjaiaa
open Go.RowKit
attribute [go_sem] more_more Array.size_append

theorem ndCells_get : ∀ (l : List Nd) (j : Nat) (z : Nd), l[j]? = some z → (ndCells l)[j * 8 + 0]? = some (.int .i64 z.k) ∧ (ndCells l)[j * 8 + 1]? = some (.int .i64 z.a) ∧ (ndCells l)[j * 8 + 2]? = some (.int .i64 z.b) ∧ (ndCells l)[j * 8 + 3]? = some (.int .i64 z.c) ∧ (ndCells l)[j * 8 + 4]? = some (.int .i64 z.x) ∧ (ndCells l)[j * 8 + 5]? = some (.int .i64 z.i) ∧ (ndCells l)[j * 8 + 6]? = some (.string z.s) ∧ (ndCells l)[j * 8 + 7]? = some (.string z.t)
  | [], j, z, h => by simp at h
  | y :: l, 0, z, h => by
    simp at h
    subst h
    exact ⟨rfl, rfl, rfl, rfl, rfl, rfl, rfl, rfl⟩
  | y :: l, j + 1, z, h => by
    have := ndCells_get l j z (by simpa using h)
    have e : ∀ r, (ndCells (y :: l))[(j + 1) * 8 + r]? = (ndCells l)[j * 8 + r]? := by
      intro r
      have h1 : ndCells (y :: l) = ndL y ++ ndCells l := rfl
      rw [h1, List.getElem?_append_right (by simp [ndL]; omega)]
      congr 1
      simp [ndL]; omega
    rw [e 0, e 1, e 2, e 3, e 4, e 5, e 6, e 7]
    exact this
theorem row_formO {w : World} {base : Nat} {e : TypeId} {size : Nat} {v : Value} {n : Nat} {xs : List Value} (h : w.ownsRow base e size v n xs) : ∃ p c, v = .slice p n c := by
  rcases Go.Joins.ownsRow_forms h with ⟨rfl, h0⟩ | ⟨g1, c, rfl⟩
  · exact ⟨none, 0, by rw [h0]⟩
  · exact ⟨_, _, rfl⟩
theorem own_block {w w' : World} {base : Nat} {e : TypeId} {size : Nat} {v : Value} {n : Nat} {xs : List Value} (h : w.ownsRow base e size v n xs) (hb : ∀ k, v.ownBlock = some k → k < w.heap.size → w'.heap[k]? = w.heap[k]?) : w'.ownsRow base e size v n xs := by
  obtain ⟨h1, h2⟩ := h
  refine ⟨h1, ?_⟩
  rcases h2 with h2 | ⟨g, cap, cur, rfl, hg, hh, r⟩
  · exact Or.inl h2
  · exact Or.inr ⟨g, cap, cur, rfl, hg, (hb g rfl (Array.getElem?_eq_some_iff.1 hh).1).trans hh, r⟩
theorem intInfo : (Try.prog.info? 3).map (fun i => (i.zero, i.size, i.bytes)) = some (some (.int .i64 0), 1, 8) := by kernel_rfl
/-- a node's cells in memory -/
theorem nd_at {w : World} {base g cap n : Nat} {ns : List Nd} (h : w.ownsRow base 52 8 (.slice (some ⟨g, 0, none⟩) n cap) n (ndCells ns)) {j : Nat} {z : Nd} (hj : ns[j]? = some z) :
    w.cell? ⟨g, j * 8, none⟩ = some (.int .i64 z.k) ∧ w.cell? ⟨g, j * 8 + 1, none⟩ = some (.int .i64 z.a) ∧ w.cell? ⟨g, j * 8 + 2, none⟩ = some (.int .i64 z.b) ∧ w.cell? ⟨g, j * 8 + 3, none⟩ = some (.int .i64 z.c) ∧ w.cell? ⟨g, j * 8 + 4, none⟩ = some (.int .i64 z.x) ∧ w.cell? ⟨g, j * 8 + 5, none⟩ = some (.int .i64 z.i) ∧ w.cell? ⟨g, j * 8 + 6, none⟩ = some (.string z.s) ∧ w.cell? ⟨g, j * 8 + 7, none⟩ = some (.string z.t) := by
  have hc := h.cells (g := g) rfl
  obtain ⟨h0, h1, h2, h3, h4, h5, h6, h7⟩ := ndCells_get ns j z hj
  have e : ∀ i v, (ndCells ns)[i]? = some v → w.cell? ⟨g, i, none⟩ = some v := fun i v hi => by
    have := hc i v hi
    rwa [Addr.add_lit, Nat.zero_add] at this
  exact ⟨e _ _ h0, e _ _ h1, e _ _ h2, e _ _ h3, e _ _ h4, e _ _ h5, e _ _ h6, e _ _ h7⟩

set_option maxHeartbeats 4000000 in
set_option maxRecDepth 20000 in
theorem same_any (ns : List Nd) (nv nv' : Value) (base base' : Nat) (fi : Int) (w : World) (h1 : w.ownsRow base 52 8 nv ns.length (ndCells ns)) (h2 : w.ownsRow base' 52 8 nv' ns.length (ndCells ns)) (hn : ns.length ≤ 512) :
    Calls Try.prog 18 #[.agg #[nv, .int .i64 fi], .agg #[nv', .int .i64 fi]] w fun e w' => e = .returned (.bool true) ∧ Ext w w' := by
  have hnv : ∃ p c, nv = .slice p ns.length c := by
    rcases Go.Joins.ownsRow_forms h1 with ⟨rfl, h0⟩ | ⟨g1, c, rfl⟩
    · exact ⟨none, 0, by rw [h0]⟩
    · exact ⟨_, _, rfl⟩
  have hnv' : ∃ p c, nv' = .slice p ns.length c := by
    rcases Go.Joins.ownsRow_forms h2 with ⟨rfl, h0⟩ | ⟨g1, c, rfl⟩
    · exact ⟨none, 0, by rw [h0]⟩
    · exact ⟨_, _, rfl⟩
  obtain ⟨p, c, rfl⟩ := hnv
  obtain ⟨p', c', rfl⟩ := hnv'
  have H1 := Lib.hid h1
  have H2 := Lib.hid h2
  obtain ⟨n, hl⟩ : ∃ n, ns.length = n := ⟨_, rfl⟩
  have HL := Lib.hid hl
  rw [hl] at H1 H2 hn ⊢
  have hni : (n : Int) ≤ 512 := by omega
  clear h1 h2 hl
  go_enter Try.func18, Try.ntmps18
  go_wp2_with fail
  go_loopw [5] (fun y wr => ∃ j : Nat, y = .int .i64 (j : Int) ∧ j ≤ n ∧ ∃ d os, wr = more ((w.alloc (.cells #[.slice p n c, .int .i64 fi] 24 (0, 0))).alloc (.cells #[.slice p' n c', .int .i64 fi] 24 (0, 0))) d os) (fun y _ => n - (intOf y).toNat)
  case atStart => exact ⟨0, rfl, Nat.zero_le _, _, #[], by simp [more]; rfl⟩
  case round =>
    obtain ⟨j, rfl, hj, d, os, rfl⟩ := hrel
    by_cases hlt : j < n
    · obtain ⟨z, hz⟩ : ∃ z, ns[j]? = some z := ⟨_, List.getElem?_eq_getElem (by rw [HL.out]; exact hlt)⟩
      have hp : ∃ g, p = some ⟨g, 0, none⟩ := by
        rcases Go.Joins.ownsRow_forms H1.out with ⟨_, h0⟩ | ⟨g1, c1, h0⟩
        · omega
        · simp at h0; exact ⟨g1, h0.1⟩
      have hp' : ∃ g, p' = some ⟨g, 0, none⟩ := by
        rcases Go.Joins.ownsRow_forms H2.out with ⟨_, h0⟩ | ⟨g1, c1, h0⟩
        · omega
        · simp at h0; exact ⟨g1, h0.1⟩
      obtain ⟨g, rfl⟩ := hp
      obtain ⟨g', rfl⟩ := hp'
      have hg := (H1.out.lt g rfl).2
      have hg' := (H2.out.lt g' rfl).2
      obtain ⟨a0, a1, a2, a3, a4, a5, a6, a7⟩ := nd_at H1.out hz
      obtain ⟨b0, b1, b2, b3, b4, b5, b6, b7⟩ := nd_at H2.out hz
      have hji : (j : Int) < (n : Int) := by omega
      have hj0 : 0 ≤ (j : Int) := by omega
      have HLT := Lib.hid hlt
      obtain ⟨zk, za, zb, zc, zx, zi, zs, zt⟩ := z
      dsimp only at a0 a1 a2 a3 a4 a5 a6 a7 b0 b1 b2 b3 b4 b5 b6 b7
      clear hz hlt
      go_wp2_with fail
      refine wp_region_grow 11 38 [false, false, false, false, false, false, false, false, false, false, false] (by kernel_rfl) (by kernel_rfl) rfl ?_
      simp only [List.take_succ_cons, List.take_zero, List.drop_succ_cons, List.drop_zero]
      repeat (refine Lex.step rfl ?_; intro K hK; unfold StepG; go_simp; (first
          | refine hK _ ?_); clear hK K)
      refine Lex.nil fun WW hE => ?_
      obtain ⟨dd, oo, rfl⟩ := hE
      unfold FillH
      go_wp2_with fail
      rw [ends_normal]
      go_wp2_with fail
      go_roundw
      case rel => exact ⟨j + 1, by go_num, by have := HLT.out; omega, _, _, rfl⟩
      case measure => have := HLT.out; simp [intOf]; omega
    · have hje : j = n := by omega
      subst hje
      clear hlt
      go_wp2_with fail
      go_ret
      exact ⟨rfl, by repeat (first | exact Ext.refl _ | apply Ext.alloc | apply Ext.more)⟩
theorem sameN {ns : List Nd} {nn : Nat} (hn : ns.length = nn) {nv nv' : Value} {fi : Int} {w : World} (h1 : w.ownsRow 0 52 8 nv nn (ndCells ns)) (h2 : w.ownsRow 0 52 8 nv' nn (ndCells ns)) (hl : ns.length ≤ 512) :
    Calls Try.prog 18 #[.agg #[nv, .int .i64 fi], .agg #[nv', .int .i64 fi]] w fun e w' => e = .returned (.bool true) ∧ Ext w w' := by
  subst hn; exact same_any ns nv nv' 0 0 fi w h1 h2 hl
/-- a source no longer than is looked at -/
def fewB (s : ByteArray) : ByteArray := if 2000 < s.size then s.extract 0 2000 else s
set_option maxHeartbeats 1000000 in
theorem few_any (s : ByteArray) (w : World) : Calls Try.prog 19 #[.string s] w fun e w' => e = .returned (.string (fewB s)) ∧ Ext w w' := by
  by_cases h : (2000 : Int) < s.size
  · have e : fewB s = s.extract 0 2000 := by unfold fewB; rw [if_pos (by omega)]
    rw [e]
    have h2 : (2000 : Int) ≤ s.size := by omega
    go_enter Try.func19, Try.ntmps19
    go_wp2_with fail
    go_ret
    exact ⟨rfl, by repeat (first | exact Ext.refl _ | apply Ext.alloc | apply Ext.more)⟩
  · have e : fewB s = s := by unfold fewB; rw [if_neg (by omega)]
    rw [e]
    have h2 : (s.size : Int) ≤ 2000 := by omega
    clear h
    go_enter Try.func19, Try.ntmps19
    go_wp2_with fail
    go_ret
    exact ⟨rfl, by repeat (first | exact Ext.refl _ | apply Ext.alloc | apply Ext.more)⟩
theorem fewB_len (s : ByteArray) : (fewB s).size ≤ 2000 := by
  unfold fewB
  split
  · simp
    omega
  · omega
end Go.Proofs.Ytoaaklcbcbjaiaa
