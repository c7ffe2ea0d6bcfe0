/- What is asked: a slice of Act, as a list; the table beside the list of the document. -/
import Derived.Test.YtojejhmodaaoiaaDoorTmD
import Derived.Deep.Slices
import Derived.Deep.Fields
set_option linter.unusedSimpArgs false
set_option linter.unusedVariables false
namespace Go.Proofs.YtojejhmodaaoiaaDoor
open Go.RowKit
open Go.ChangeShapes Go.WideShapes Go.ChangeAt Go.Joins

structure Act where
  d : Int
  n : Int
  s : ByteArray
  v : Value
  l : List Int
/-- what is asked lies there -/
def ActAt (w : World) (b off : Nat) (a : Act) : Prop :=
  w.cell? ⟨b, off, none⟩ = some (.int .i64 a.d) ∧ w.cell? ⟨b, off + 1, none⟩ = some (.int .i64 a.n) ∧ w.cell? ⟨b, off + 2, none⟩ = some (.string a.s) ∧ w.cell? ⟨b, off + 3, none⟩ = some a.v ∧ IntsAt w a.v a.l ∧ In64L a.l ∧ a.s.size ≤ maxLen ∧ -9223372036854775808 ≤ a.n ∧ a.n ≤ 9223372036854775807
def ActsAt (w : World) (v : Value) (l : List Act) : Prop :=
  (∃ p cap, v = .slice p 0 cap ∧ l = []) ∨ ∃ b off cap, v = .slice (some ⟨b, off, none⟩) l.length cap ∧ l.length ≤ cap ∧ ∀ j a, l[j]? = some a → ActAt w b (off + j * 4) a
theorem actCells : Tryd.prog.cellsOf 38 = 4 := by kernel_rfl
theorem actFields : ∃ f0 f1 f2 f3 : Field, Tryd.prog.underlying 38 = some (.struct #[f0, f1, f2, f3]) ∧ f0.type = 3 ∧ f1.type = 3 ∧ f2.type = 9 ∧ f3.type = 32 ∧ Deep.oneCellFields Tryd.prog #[f0, f1, f2, f3] = true := ⟨_, _, _, _, Tryd.underlying38, rfl, rfl, rfl, rfl, by kernel_rfl⟩
theorem ints_one {H : Type} {enc : TypeId × Value → H} {W : World} {fuel : Nat} {v : Value} {x : DataW H × List MemPlace} (h : DataW.trod enc Tryd.prog W 0 (fun _ => true) true fuel 32 [v] = some x) : ∃ l, IntsAt W v l ∧ In64L l := by
  rcases open_ints Tryd.underlying32 Tryd.underlying3 intCells h with ⟨hcs, hx⟩ | ⟨a, len, cap, zs, hcs, _, hl, hm, hz, hx, hcell, hwz⟩
  · simp only [List.cons.injEq, and_true] at hcs
    subst hcs
    exact ⟨[], Or.inl ⟨none, 0, rfl, rfl⟩, fun u hu => by simp at hu⟩
  · simp only [List.cons.injEq, and_true] at hcs
    subst hcs
    simp only [if_true] at hz
    rcases Nat.eq_zero_or_pos len with h0 | h0
    · subst h0
      exact ⟨[], Or.inl ⟨some a, cap, rfl, rfl⟩, fun u hu => by simp at hu⟩
    · obtain ⟨ab, ao, spot⟩ := a
      have hspot : spot = none := by simpa [Addr.add] using World.cell?_spot (hcell 0 (by omega))
      subst hspot
      have hlen : (zs.take len).length = len := by rw [List.length_take]; omega
      refine ⟨zs.take len, Or.inr ⟨ab, ao, cap, by rw [hlen], by omega, fun j u hj => ?_⟩, fun u hu => ?_⟩
      · have hz2 : zs[j]? = some u := by
          rw [List.getElem?_take] at hj
          split at hj
          · exact hj
          · simp at hj
        have hjl := (List.getElem?_eq_some_iff.1 hz2).1
        have hcj := hcell j hjl
        rw [Addr.add_lit] at hcj
        rw [hcj]
        simp [List.getD, hz2]
      · have := hwz u (List.mem_of_mem_take hu)
        simp only [Lit.wf, Bool.and_eq_true, decide_eq_true_eq] at this
        simpa [IntKind.min, IntKind.max, IntKind.bits, IntKind.signed] using this
theorem list_of {α : Type} (len : Nat) (P : Nat → α → Prop) (h : ∀ i, i < len → ∃ a, P i a) : ∃ l : List α, l.length = len ∧ ∀ j a, l[j]? = some a → P j a := by
  induction len with
  | zero => exact ⟨[], rfl, fun j a hj => by simp at hj⟩
  | succ n ih =>
    obtain ⟨l, hl, hp⟩ := ih (fun i hi => h i (by omega))
    obtain ⟨a, ha⟩ := h n (by omega)
    refine ⟨l ++ [a], by simp [hl], fun j b hj => ?_⟩
    rcases Nat.lt_or_ge j l.length with hlt | hge
    · rw [List.getElem?_append_left hlt] at hj
      exact hp j b hj
    · rw [List.getElem?_append_right hge] at hj
      have hz : j - l.length = 0 := by
        rcases Nat.eq_zero_or_pos (j - l.length) with hz | hz
        · exact hz
        · rw [List.getElem?_eq_none (by simp; omega)] at hj; cases hj
      rw [hz] at hj
      simp at hj
      subst hj
      have : j = n := by omega
      subst this
      exact ha
theorem open_actsR {H : Type} {enc : TypeId × Value → H} {W : World} {base : Nat} {v : Value} {d : DataW H} {p : List MemPlace} (hval : Value.okWide Tryd.prog W .any base 36 v)
    (hd : DataW.Trod enc Tryd.prog W 0 (fun _ => true) true 36 v d p) : ∃ l, ActsAt W v l := by
  obtain ⟨a1, len, cap, rfl⟩ := okWide_slice Tryd.underlying36 hval
  obtain ⟨fuel, hf⟩ := hd
  rcases Deep.open_slice Tryd.underlying36 hf with ⟨hcs, hx⟩ | ⟨a, len', cap', m, n, D, Pl, hcs, hb, hl, hm, hmm, hx, hi⟩
  · simp [Value.cells] at hcs
    obtain ⟨rfl, rfl, rfl⟩ := hcs
    exact ⟨[], Or.inl ⟨none, 0, rfl, rfl⟩⟩
  · simp [Value.cells] at hcs
    obtain ⟨rfl, rfl, rfl⟩ := hcs
    simp only [if_true] at hmm
    subst hmm
    rcases Nat.eq_zero_or_pos len with h0 | h0
    · subst h0
      exact ⟨[], Or.inl ⟨some a, m, rfl, rfl⟩⟩
    obtain ⟨f0, f1, f2, f3, hst, ty0, ty1, ty2, ty3, hone⟩ := actFields
    have key : ∀ i, i < m → ∃ x : Act, W.cell? (a.add (i * 4)) = some (.int .i64 x.d) ∧ W.cell? (a.add (i * 4 + 1)) = some (.int .i64 x.n) ∧ W.cell? (a.add (i * 4 + 2)) = some (.string x.s) ∧ W.cell? (a.add (i * 4 + 3)) = some x.v ∧ IntsAt W x.v x.l ∧ In64L x.l ∧ x.s.size ≤ maxLen ∧ -9223372036854775808 ≤ x.n ∧ x.n ≤ 9223372036854775807 := by
      intro i him
      obtain ⟨cs', hc, ht'⟩ := hi i him
      rw [actCells] at hc
      obtain ⟨ys, n', hn', hy, hlen, hyl, hf'⟩ := DataW.trod_struct hst ht'
      obtain ⟨_, hcl, hat⟩ := World.cells?_some hc
      match cs', hcl, hf', hat with
      | [x0, x1, x2, x3], _, hf', hat =>
        obtain ⟨o0, k0⟩ := Deep.hone_of hone 0 f0 rfl
        obtain ⟨o1, k1⟩ := Deep.hone_of hone 1 f1 rfl
        obtain ⟨o2, k2⟩ := Deep.hone_of hone 2 f2 rfl
        obtain ⟨o3, k3⟩ := Deep.hone_of hone 3 f3 rfl
        have g0 := hf' 0 f0 rfl
        have g1 := hf' 1 f1 rfl
        have g2 := hf' 2 f2 rfl
        have g3 := hf' 3 f3 rfl
        rw [o0, k0, ty0] at g0
        rw [o1, k1, ty1] at g1
        rw [o2, k2, ty2] at g2
        rw [o3, k3, ty3] at g3
        match ys, hyl with
        | [y0, y1, y2, y3], _ =>
          obtain ⟨z0, e0, _, _⟩ := DataW.trod_int Tryd.underlying3 g0
          obtain ⟨z1, e1, _, w1⟩ := DataW.trod_int Tryd.underlying3 g1
          obtain ⟨z2, e2, _, w2⟩ := DataW.trod_string Tryd.underlying9 g2
          obtain ⟨l3, i3, l64⟩ := ints_one g3
          simp at e0 e1 e2
          subst e0 e1 e2
          have b0 := hat 0 (by omega)
          have b1 := hat 1 (by omega)
          have b2 := hat 2 (by omega)
          have b3 := hat 3 (by omega)
          rw [Deep.add_add] at b0 b1 b2 b3
          simp only [Lit.wf, Bool.and_eq_true, decide_eq_true_eq] at w1
          have w1' : -9223372036854775808 ≤ z1 ∧ z1 ≤ 9223372036854775807 := by simpa [IntKind.min, IntKind.max, IntKind.bits, IntKind.signed] using w1
          exact ⟨⟨z0, z1, z2, x3, l3⟩, by simpa using b0, by simpa using b1, by simpa using b2, by simpa using b3, i3, l64, w2, w1'.1, w1'.2⟩
    obtain ⟨ab, ao, spot⟩ := a
    have hspot : spot = none := by
      obtain ⟨x, hx0, _⟩ := key 0 (by omega)
      simpa [Addr.add] using World.cell?_spot hx0
    subst hspot
    obtain ⟨l, hll, hp⟩ := list_of len (fun j x => ActAt W ab (ao + j * 4) x) (fun i hi2 => by
      obtain ⟨x, h1, h2, h3, h4, h5⟩ := key i (by omega)
      rw [Addr.add_lit] at h1 h2 h3 h4
      exact ⟨x, h1, by rw [Nat.add_assoc]; exact h2, by rw [Nat.add_assoc]; exact h3, by rw [Nat.add_assoc]; exact h4, h5⟩)
    exact ⟨l, Or.inr ⟨ab, ao, m, by rw [hll], by omega, hp⟩⟩

/-! ### the table beside the document's list -/
theorem tab_grown {B bt bm : Nat} {tv : Value} {l : List ByteArray} {w w' : World} {row : Option Nat} (h : TabAt B bt bm tv l w) (hg : w.grownBy w' row) (h1 : row ≠ some bt) (h2 : row ≠ some bm) (h3 : tv.ownBlock = none ∨ tv.ownBlock ≠ row) : TabAt B bt bm tv l w' := by
  obtain ⟨a1, a2, a3, a4, ⟨D, a5, a6⟩, a7, a8, a9, a10, a11⟩ := h
  exact ⟨a1, a2, a3, blk_grown a4 hg h1, ⟨D, keptMap a5 hg (fun e => h2 e.symm), a6⟩, a7.kept hg h3, a8, a9, a10, a11⟩
theorem own_tabkept {B bt bm : Nat} {row : Option Nat} {w w' : World} {v : Value} {n : Nat} {xs : List Value} (h : w.ownsRow B 9 1 v n xs) (hk : TabKept bt bm row w w') (h1 : v.ownBlock ≠ some bt) (h2 : v.ownBlock ≠ some bm) (h3 : v.ownBlock = none ∨ v.ownBlock ≠ row) : w'.ownsRow B 9 1 v n xs := by
  obtain ⟨k1, k2, k3, k4, k5⟩ := hk
  obtain ⟨hl, h5⟩ := h
  refine ⟨hl, ?_⟩
  rcases h5 with h0 | ⟨g, cap, cur, hv, hb, hh, r⟩
  · exact Or.inl h0
  · refine Or.inr ⟨g, cap, cur, hv, hb, ?_, r⟩
    have hg : v.ownBlock = some g := by rw [hv]; rfl
    rw [k5 g (Array.getElem?_eq_some_iff.1 hh).1 (fun e => h1 (by rw [hg, e])) (fun e => h2 (by rw [hg, e])) (fun e => by
      rcases h3 with h3 | h3
      · rw [hg] at h3; cases h3
      · exact h3 (by rw [hg, e]))]
    exact hh
/-- the document's list lies apart from the table -/
def Sep (bt bm : Nat) (tv lv : Value) : Prop := lv.ownBlock ≠ some bt ∧ lv.ownBlock ≠ some bm ∧ (lv.ownBlock = none ∨ lv.ownBlock ≠ tv.ownBlock)
/-- a table, and the document's list, of the call's own -/
def Both (B bt bm : Nat) (tv lv : Value) (l : List ByteArray) (w : World) : Prop :=
  TabAt B bt bm tv l w ∧ w.ownsRow B 9 1 lv l.length (l.map Value.string) ∧ Sep bt bm tv lv
theorem Both.ext {B bt bm : Nat} {tv lv : Value} {l : List ByteArray} {w w' : World} (h : Both B bt bm tv lv l w) (hx : Ext w w') : Both B bt bm tv lv l w' := ⟨h.1.ext hx, own_ext h.2.1 hx, h.2.2⟩
theorem own_block_lt {w : World} {B : Nat} {v : Value} {n : Nat} {xs : List Value} {e : TypeId} {k g : Nat} (h : w.ownsRow B e k v n xs) (hg : v.ownBlock = some g) : g < w.heap.size := (h.lt g hg).2
/-- the state while one asks both for one text: behind the program's Of, ahead of the document's -/
def Mid (B bt bm : Nat) (tv lv : Value) (l l' : List ByteArray) (w : World) : Prop :=
  TabAt B bt bm tv l' w ∧ w.ownsRow B 9 1 lv l.length (l.map Value.string) ∧ Sep bt bm tv lv
theorem Mid.ext {B bt bm : Nat} {tv lv : Value} {l l' : List ByteArray} {w w' : World} (h : Mid B bt bm tv lv l l' w) (hx : Ext w w') : Mid B bt bm tv lv l l' w' := ⟨h.1.ext hx, own_ext h.2.1 hx, h.2.2⟩
theorem mid_of {B bt bm : Nat} {tv lv : Value} {l : List ByteArray} {r : List ByteArray × Nat × Int} {w w' : World} {e : Ending} (h : Both B bt bm tv lv l w) (hp : OfPost B bt bm tv r w e w') :
    e = .returned (.tuple #[.int .i64 (r.2.1 : Int), .int .i64 r.2.2]) ∧ (∃ tv', Mid B bt bm tv' lv l r.1 w') ∧ Below B w w' := by
  obtain ⟨ht, ho, h1, h2, h3⟩ := h
  obtain ⟨he, tv', k1, k2, k3⟩ := hp
  have hc := ht.cells
  have ht' := ht
  obtain ⟨a1, a2, _, _, _, a6, _⟩ := ht'
  refine ⟨he, ⟨tv', k1, own_tabkept ho k2 h1 h2 h3, h1, h2, ?_⟩, k2.below a1 a2 (fun k hk => (a6.lt k hk).1) (by omega)⟩
  cases hl : lv.ownBlock with
  | none => exact Or.inl rfl
  | some g =>
    right
    rcases k3 with k3 | ⟨k, k3, k4⟩
    · rw [k3, ← hl]
      rcases h3 with h3 | h3
      · rw [hl] at h3; cases h3
      · exact h3
    · rw [k3]
      intro e
      have := own_block_lt ho hl
      simp at e
      omega
theorem both_of {B bt bm : Nat} {tv lv : Value} {l l' : List ByteArray} {n : Nat} {er : Int} {w w' : World} {e : Ending} (h : Mid B bt bm tv lv l l' w) (hp : ROfPost B lv (l', n, er) w e w') :
    (∃ lv', e = .returned (.tuple #[lv', .int .i64 (n : Int), .int .i64 er]) ∧ Both B bt bm tv lv' l' w') ∧ Below B w w' := by
  obtain ⟨ht, ho, h1, h2, h3⟩ := h
  obtain ⟨lv', he, k1, k2, k3⟩ := hp
  have hc := ht.cells
  have hT : TabAt B bt bm tv l' w' := tab_grown ht k2 h1 h2 (by
    cases ht2 : tv.ownBlock with
    | none => exact Or.inl rfl
    | some g =>
      right
      intro e
      rcases h3 with h3 | h3
      · rw [h3] at e; cases e
      · exact h3 (by rw [ht2, e]))
  have ht' := ht
  obtain ⟨a1, a2, _, _, _, a6, _⟩ := ht'
  refine ⟨⟨lv', he, hT, k1, ?_⟩, ?_⟩
  · rcases k3 with k3 | ⟨k, k3, k4⟩
    · exact ⟨by rw [k3]; exact h1, by rw [k3]; exact h2, by rw [k3]; exact h3⟩
    · refine ⟨by rw [k3]; intro e; simp at e; omega, by rw [k3]; intro e; simp at e; omega, Or.inr ?_⟩
      rw [k3]
      intro e
      have := (a6.lt k e.symm).2
      omega
  · obtain ⟨g1, g2, g3, g4, g5⟩ := k2
    refine ⟨g1, g2, g3, g4, fun k hk => g5 k (by omega) (fun e => ?_)⟩
    have := (ho.lt k e.symm).1
    omega
end Go.Proofs.YtojejhmodaaoiaaDoor
