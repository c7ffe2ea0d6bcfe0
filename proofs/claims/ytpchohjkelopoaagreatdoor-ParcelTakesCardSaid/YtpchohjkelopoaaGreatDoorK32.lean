/- Lemmas for the claim (texts PT3a, what its proof uses of them). -/
import Derived.Test.YtpchohjkelopoaaGreatDoorK30
import Derived.Test.YtpchohjkelopoaaGreatDoorK31
set_option linter.unusedSimpArgs false
set_option linter.unusedVariables false
set_option maxRecDepth 20000
namespace Go.Proofs.YtpchohjkelopoaaGreatDoor
open Go.RowKit
attribute [go_sem] more_more Array.size_append
theorem needK_at {g : Nat → Bool} {b : Nat} (h : g b = false) : ∀ n, b < n → (needK g n)[(needK g b).length]? = some (b : Int)
  | 0, hn => absurd hn (Nat.not_lt_zero _)
  | n + 1, hn => by
    rcases Nat.lt_or_ge b n with hlt | hge
    · have ih := needK_at h n hlt
      cases hg : g n with
      | true => rw [needK_yes hg]; exact ih
      | false =>
        rw [needK_no hg, List.getElem?_append_left (List.getElem?_eq_some_iff.1 ih).1]; exact ih
    · obtain rfl : b = n := by omega
      rw [needK_no h]; simp
/-- what the walk has -/
structure Pk (B bt bm N M5 M7 : Nat) (C0 : Array Value) (a b c : Int) (mL : Nat → Int) (w : World) (tv lv : Value) (l ly : List ByteArray) (g : Nat → Bool) (T : Nat → List It) (V : Nat → Int) (bs1 : Nat → Nat) (v1 : Nat → Value) (bs2 : Nat → Nat) (v2 : Nat → Value) (W : World) : Prop where
  mid : Mid B bt bm tv lv l ly W
  cm : W.heap[N]? = some (.cells C0 32 (0, 0))
  c1 : CrBlk W M5 a b c mL g v1 V
  l1 : LvsAt W bs1 v1 T
  y1 : LvTy W bs1 T
  c2 : CrBlk W M7 a b c mL g v2 V
  l2 : LvsAt W bs2 v2 T
  y2 : LvTy W bs2 T
  ext : Ext w W
theorem blk_ext {w w' : World} {M : Nat} {C : Array Value} {t : TypeId} (h : w.heap[M]? = some (.cells C t (0, 0))) (hx : Ext w w') : w'.heap[M]? = some (.cells C t (0, 0)) := (hx.below.block M (lt_of_heap h)).trans h
theorem blk_kept {w w' : World} {M : Nat} {C : Array Value} {t : TypeId} (h : w.heap[M]? = some (.cells C t (0, 0))) (hk : Kept w w') (h1 : t ≠ 132) (h2 : t ≠ 9) : w'.heap[M]? = some (.cells C t (0, 0)) := (hk M _ _ _ h h1 h2).trans h
theorem Pk.mono {B bt bm N M5 M7 : Nat} {C0 : Array Value} {a b c : Int} {mL : Nat → Int} {w : World} {tv lv : Value} {l ly : List ByteArray} {g : Nat → Bool} {T : Nat → List It} {V : Nat → Int} {bs1 : Nat → Nat} {v1 : Nat → Value} {bs2 : Nat → Nat} {v2 : Nat → Value} {W W' : World} (h : Pk B bt bm N M5 M7 C0 a b c mL w tv lv l ly g T V bs1 v1 bs2 v2 W) (hx : Ext W W') : Pk B bt bm N M5 M7 C0 a b c mL w tv lv l ly g T V bs1 v1 bs2 v2 W' :=
  ⟨h.mid.ext hx, blk_ext h.cm hx, h.c1.ext hx, h.l1.ext hx, h.y1.ext hx, h.c2.ext hx, h.l2.ext hx, h.y2.ext hx, h.ext.trans hx⟩
theorem Pk.kept {B bt bm N M5 M7 : Nat} {C0 : Array Value} {a b c : Int} {mL : Nat → Int} {w : World} {tv lv : Value} {l ly : List ByteArray} {g : Nat → Bool} {T : Nat → List It} {V : Nat → Int} {bs1 : Nat → Nat} {v1 : Nat → Value} {bs2 : Nat → Nat} {v2 : Nat → Value} {W W' : World} {tv' lv' : Value} {l' ly' : List ByteArray} (h : Pk B bt bm N M5 M7 C0 a b c mL w tv lv l ly g T V bs1 v1 bs2 v2 W) (hk : Kept W W') (hm : Mid B bt bm tv' lv' l' ly' W') (hx : Ext w W') : Pk B bt bm N M5 M7 C0 a b c mL w tv' lv' l' ly' g T V bs1 v1 bs2 v2 W' :=
  ⟨hm, blk_kept h.cm hk (by decide) (by decide), h.c1.kept hk, h.l1.kept h.y1 hk, h.y1.kept hk, h.c2.kept hk, h.l2.kept h.y2 hk, h.y2.kept hk, hx⟩
theorem Pk.tstep {B bt bm N M5 M7 : Nat} {C0 : Array Value} {a b c : Int} {mL : Nat → Int} {w : World} {tv lv : Value} {l : List ByteArray} {g : Nat → Bool} {T : Nat → List It} {V : Nat → Int} {bs1 : Nat → Nat} {v1 : Nat → Value} {bs2 : Nat → Nat} {v2 : Nat → Value} {W W' : World} {tv' : Value} {l' : List ByteArray} (h : Pk B bt bm N M5 M7 C0 a b c mL w tv lv l l g T V bs1 v1 bs2 v2 W) (hB : w.heap.size ≤ B) (ht : TabAt B bt bm tv' l' W') (hs : TabStep bt bm tv W tv' W') : Pk B bt bm N M5 M7 C0 a b c mL w tv' lv l l' g T V bs1 v1 bs2 v2 W' ∧ Kept W W' := by
  obtain ⟨hM, _, _, hb, hk⟩ := mid_row (cv := .slice none 0 0) (base := 0) (n := 0) (xs := []) h.mid (World.ownsRow_nil _ _ _ _) (rs_nil _ _ _ _) ht hs
  exact ⟨h.kept hk hM (Ext.of_below (h.ext.below.trans (hb.mono hB))), hk⟩
theorem Pk.lstep {B bt bm N M5 M7 : Nat} {C0 : Array Value} {a b c : Int} {mL : Nat → Int} {w : World} {tv lv : Value} {l : List ByteArray} {g : Nat → Bool} {T : Nat → List It} {V : Nat → Int} {bs1 : Nat → Nat} {v1 : Nat → Value} {bs2 : Nat → Nat} {v2 : Nat → Value} {W W' : World} {lv' : Value} {l' : List ByteArray} (h : Pk B bt bm N M5 M7 C0 a b c mL w tv lv l l' g T V bs1 v1 bs2 v2 W) (hB : w.heap.size ≤ B) (ho : W'.ownsRow B 9 1 lv' l'.length (l'.map Value.string)) (hg : W.grownBy W' lv.ownBlock) (hk : lv'.ownBlock = lv.ownBlock ∨ ∃ k, lv'.ownBlock = some k ∧ W.heap.size ≤ k) : Pk B bt bm N M5 M7 C0 a b c mL w tv lv' l' l' g T V bs1 v1 bs2 v2 W' ∧ Kept W W' := by
  obtain ⟨hM, hb, hkk⟩ := both_step h.mid ho hg hk
  exact ⟨h.kept hkk hM (Ext.of_below (h.ext.below.trans (hb.mono hB))), hkk⟩
theorem mid_rowC {B bt bm : Nat} {tv lv : Value} {l ly : List ByteArray} {W : World} {M : Nat} {C : Array Value} (h : Mid B bt bm tv lv l ly W) (hb : W.heap[M]? = some (.cells C 39 (0, 0))) (x : Array Value) : Mid B bt bm tv lv l ly (W.setRow M x) :=
  ⟨tab_row h.1 hb x, own_afterR h.2.1 hb (by decide) x, h.2.2⟩
theorem Pk.row {B bt bm N M5 M7 : Nat} {C0 : Array Value} {a b c : Int} {mL : Nat → Int} {w : World} {tv lv : Value} {l ly : List ByteArray} {g : Nat → Bool} {T : Nat → List It} {V : Nat → Int} {bs1 : Nat → Nat} {v1 : Nat → Value} {bs2 : Nat → Nat} {v2 : Nat → Value} {W : World} (h : Pk B bt bm N M5 M7 C0 a b c mL w tv lv l ly g T V bs1 v1 bs2 v2 W) {M2 : Nat} {C : Array Value} (hM2 : w.heap.size ≤ M2) (h5 : M5 ≠ M2) (h7 : M7 ≠ M2) (hb : W.heap[M2]? = some (.cells C 39 (0, 0))) (x : Array Value) : Pk B bt bm N M5 M7 C0 a b c mL w tv lv l ly g T V bs1 v1 bs2 v2 (W.setRow M2 x) := by
  obtain ⟨q1, q2⟩ := LvsAt.rowT h.l1 h.y1 hb (by decide) x
  obtain ⟨q3, q4⟩ := LvsAt.rowT h.l2 h.y2 hb (by decide) x
  exact ⟨mid_rowC h.mid hb x, (setRow_other _ _ _ _ (ne_type h.cm hb (by decide))).trans h.cm, h.c1.otherRow h5 x, q1, q2, h.c2.otherRow h7 x, q3, q4, h.ext.setRow hM2 x⟩
/-- a crate of a block of its own -/
structure Dk (M : Nat) (C : Array Value) (bs : Nat → Nat) (v : Nat → Value) (T : Nat → List It) (W : World) : Prop where
  blk : W.heap[M]? = some (.cells C 39 (0, 0))
  lv : LvsAt W bs v T
  ty : LvTy W bs T
theorem Dk.mono {M : Nat} {C : Array Value} {bs : Nat → Nat} {v : Nat → Value} {T : Nat → List It} {W W' : World} (h : Dk M C bs v T W) (hx : Ext W W') : Dk M C bs v T W' := ⟨blk_ext h.blk hx, h.lv.ext hx, h.ty.ext hx⟩
theorem Dk.kept {M : Nat} {C : Array Value} {bs : Nat → Nat} {v : Nat → Value} {T : Nat → List It} {W W' : World} (h : Dk M C bs v T W) (hk : Kept W W') : Dk M C bs v T W' := ⟨blk_kept h.blk hk (by decide) (by decide), h.lv.kept h.ty hk, h.ty.kept hk⟩
theorem Dk.row {M M2 : Nat} {C C2 : Array Value} {bs : Nat → Nat} {v : Nat → Value} {T : Nat → List It} {W : World} (h : Dk M C bs v T W) (hne : M ≠ M2) (hb : W.heap[M2]? = some (.cells C2 39 (0, 0))) (x : Array Value) : Dk M C bs v T (W.setRow M2 x) := by
  obtain ⟨q1, q2⟩ := LvsAt.rowT h.lv h.ty hb (by decide) x
  exact ⟨(setRow_other _ _ _ _ hne).trans h.blk, q1, q2⟩
/-- behind the program's Take -/
theorem Pk.take1 {B bt bm N M5 M7 : Nat} {C0 : Array Value} {a b c : Int} {mL : Nat → Int} {w : World} {tv lv : Value} {l : List ByteArray} {g : Nat → Bool} {T : Nat → List It} {V : Nat → Int} {bs1 : Nat → Nat} {v1 : Nat → Value} {bs2 : Nat → Nat} {v2 : Nat → Value} {W0 W1 W2 W3 : World} {tv' : Value} {l' : List ByteArray} {yT : Nat → List It} {bsY : Nat → Nat} {vY : Nat → Value} (h : Pk B bt bm N M5 M7 C0 a b c mL w tv lv l l g T V bs1 v1 bs2 v2 W0) (hB : w.heap.size ≤ B) (h1 : Ext W0 W1) (ht : TabAt B bt bm tv' l' W2) (hs : TabStep bt bm tv W1 tv' W2) (hy : LvsAt W2 bsY vY yT) (hyy : LvTy W2 bsY yT) (h3 : Ext W2 W3) {M2 : Nat} {C : Array Value} (hM2 : W0.heap.size ≤ M2) (hb : W3.heap[M2]? = some (.cells C 39 (0, 0))) (x : Array Value) :
    Pk B bt bm N M5 M7 C0 a b c mL w tv' lv l l' g T V bs1 v1 bs2 v2 (W3.setRow M2 x) ∧ Dk M2 x bsY vY yT (W3.setRow M2 x) ∧ M5 ≠ M2 ∧ M7 ≠ M2 := by
  have h5 : M5 ≠ M2 := by have := lt_of_heap h.c1; omega
  have h7 : M7 ≠ M2 := by have := lt_of_heap h.c2; omega
  have q := (((h.mono h1).tstep hB ht hs).1).mono h3
  obtain ⟨q1, q2⟩ := LvsAt.rowT (hy.ext h3) (hyy.ext h3) hb (by decide) x
  exact ⟨q.row (Nat.le_trans h.ext.size hM2) h5 h7 hb x, ⟨setRow_heap _ _ _ _ _ _ hb, q1, q2⟩, h5, h7⟩
/-- behind the document's Take -/
theorem Pk.take2 {B bt bm N M5 M7 : Nat} {C0 : Array Value} {a b c : Int} {mL : Nat → Int} {w : World} {tv lv : Value} {l : List ByteArray} {g : Nat → Bool} {T : Nat → List It} {V : Nat → Int} {bs1 : Nat → Nat} {v1 : Nat → Value} {bs2 : Nat → Nat} {v2 : Nat → Value} {W0 W1 W2 W3 : World} {lv' : Value} {l' : List ByteArray} {yT : Nat → List It} {bsY : Nat → Nat} {vY : Nat → Value} (h : Pk B bt bm N M5 M7 C0 a b c mL w tv lv l l' g T V bs1 v1 bs2 v2 W0) (hB : w.heap.size ≤ B) (h1 : Ext W0 W1) (ho : W2.ownsRow B 9 1 lv' l'.length (l'.map Value.string)) (hg : W1.grownBy W2 lv.ownBlock) (hk : lv'.ownBlock = lv.ownBlock ∨ ∃ k, lv'.ownBlock = some k ∧ W1.heap.size ≤ k) (hy : LvsAt W2 bsY vY yT) (hyy : LvTy W2 bsY yT) (h3 : Ext W2 W3) {M2 : Nat} {C : Array Value} (hM2 : W0.heap.size ≤ M2) (hb : W3.heap[M2]? = some (.cells C 39 (0, 0))) (x : Array Value)
    {MD : Nat} {CD : Array Value} {bsD : Nat → Nat} {vD : Nat → Value} {TD : Nat → List It} (hD : Dk MD CD bsD vD TD W0) :
    Pk B bt bm N M5 M7 C0 a b c mL w tv lv' l' l' g T V bs1 v1 bs2 v2 (W3.setRow M2 x) ∧ Dk M2 x bsY vY yT (W3.setRow M2 x) ∧ Dk MD CD bsD vD TD (W3.setRow M2 x) ∧ M5 ≠ M2 ∧ M7 ≠ M2 ∧ MD ≠ M2 := by
  have h5 : M5 ≠ M2 := by have := lt_of_heap h.c1; omega
  have h7 : M7 ≠ M2 := by have := lt_of_heap h.c2; omega
  have hD2 : MD ≠ M2 := by have := lt_of_heap hD.blk; omega
  obtain ⟨q0, qk⟩ := (h.mono h1).lstep hB ho hg hk
  have q := q0.mono h3
  obtain ⟨q1, q2⟩ := LvsAt.rowT (hy.ext h3) (hyy.ext h3) hb (by decide) x
  exact ⟨q.row (Nat.le_trans h.ext.size hM2) h5 h7 hb x, ⟨setRow_heap _ _ _ _ _ _ hb, q1, q2⟩, (((hD.mono h1).kept qk).mono h3).row hD2 hb x, h5, h7, hD2⟩
/-- both crates are those that were taken -/
theorem Pk.crates {B bt bm N M5 M7 : Nat} {C0 : Array Value} {a b c : Int} {mL : Nat → Int} {w : World} {tv lv : Value} {l ly : List ByteArray} {g : Nat → Bool} {T : Nat → List It} {V : Nat → Int} {bs1 : Nat → Nat} {v1 : Nat → Value} {bs2 : Nat → Nat} {v2 : Nat → Value} {W : World} {g' : Nat → Bool} {T' : Nat → List It} {V' : Nat → Int} {MD ME : Nat} {bsD : Nat → Nat} {vD : Nat → Value} {bsE : Nat → Nat} {vE : Nat → Value} {CD CE : Array Value} (h : Pk B bt bm N M5 M7 C0 a b c mL w tv lv l ly g T V bs1 v1 bs2 v2 W) (hM5 : w.heap.size ≤ M5) (hM7 : w.heap.size ≤ M7) (h57 : M5 ≠ M7) (hD : Dk MD CD bsD vD T' W) (hE : Dk ME CE bsE vE T' W) :
    Pk B bt bm N M5 M7 C0 a b c mL w tv lv l ly g' T' V' bsD vD bsE vE ((W.setRow M5 (crC a b c mL g' vD V')).setRow M7 (crC a b c mL g' vE V')) := by
  have hc2 : CrBlk (W.setRow M5 (crC a b c mL g' vD V')) M7 a b c mL g v2 V := h.c2.otherRow (Ne.symm h57) _
  have hd1 := LvsAt.rowT hD.lv hD.ty h.c1 (by decide) (crC a b c mL g' vD V')
  have he1 := LvsAt.rowT hE.lv hE.ty h.c1 (by decide) (crC a b c mL g' vD V')
  have hd2 := LvsAt.rowT hd1.1 hd1.2 hc2 (by decide) (crC a b c mL g' vE V')
  have he2 := LvsAt.rowT he1.1 he1.2 hc2 (by decide) (crC a b c mL g' vE V')
  have hcm : (W.setRow M5 (crC a b c mL g' vD V')).heap[N]? = some (.cells C0 32 (0, 0)) := (setRow_other _ _ _ _ (ne_type h.cm h.c1 (by decide))).trans h.cm
  exact ⟨mid_rowC (mid_rowC h.mid h.c1 _) hc2 _, (setRow_other _ _ _ _ (ne_type hcm hc2 (by decide))).trans hcm, CrBlk.otherRow (CrBlk.setRow h.c1 _ _ _ _ _ _ _) h57 _, hd2.1, hd2.2, CrBlk.setRow hc2 _ _ _ _ _ _ _, he2.1, he2.2, (h.ext.setRow hM5 _).setRow hM7 _⟩
/-- what a statement that takes a parcel that came in reads: a crate, the parcels, a parcel -/
def PkT (M : Nat) (C : Array Value) (N : Nat) (pv : Value) (pb o : Nat) (x : Pc) (W : World) : Prop := W.heap[M]? = some (.cells C 39 (0, 0)) ∧ W.cell? ⟨N, 52, none⟩ = some pv ∧ W.cell? ⟨pb, o, none⟩ = some (.int .i64 x.bk) ∧ W.cell? ⟨pb, o + 1, none⟩ = some (.int .i64 x.ver) ∧ W.cell? ⟨pb, o + 2, none⟩ = some x.pv
theorem PkT.of {M N : Nat} {C C0 : Array Value} {pv : Value} {pb o : Nat} {x : Pc} {w W : World} (h : PcAt pb o x w) (hx : Ext w W) (hc : W.heap[M]? = some (.cells C 39 (0, 0))) (hm : W.heap[N]? = some (.cells C0 32 (0, 0))) (hp : C0[52]? = some pv) : PkT M C N pv pb o x W := ⟨hc, (cell_of_row W N 52 _ _ _ hm).trans hp, cell_ext h.1 hx, cell_ext h.2.1 hx, cell_ext h.2.2 hx⟩
/-- the leaves are short -/
def Short (T : Nat → List It) : Prop := ∀ k, k < 16 → (T k).length ≤ 66
theorem Short.max {T : Nat → List It} (h : Short T) : ∀ k, k < 16 → (T k).length ≤ 9223372036854775807 := fun k hk => Nat.le_trans (h k hk) (by decide)
theorem take_short (l : List ByteArray) (x : Cr) (bk ver : Int) (ts : List ByteArray) (h : Short x.T) : Short (takeF l x bk ver ts).2.1.T ∧ (takeF l x bk ver ts).1.length ≤ l.length + 9 ∧ ((takeF l x bk ver ts).2.2 = 0 → (takeF l x bk ver ts).2.1.m = x.m) := by
  have hz : Short Cr.none.T := fun k _ => by show (tOf [] k).length ≤ 66; rw [tOf_nil]; simp
  unfold takeF
  split
  · exact ⟨hz, by simp, fun q => by simp at q⟩
  split
  · exact ⟨hz, by simp, fun q => by simp at q⟩
  split
  · exact ⟨hz, by simp, fun q => by simp at q⟩
  next hi =>
  simp only [Bool.not_eq_false, Bool.and_eq_true, beq_iff_eq, decide_eq_true_eq] at hi
  have h64 := (leafB_may (leafOfF_leafB hi.1.1)).1
  have hl := (leafT_len l (leafOfF (ts.map txt)).1 ver h64).1
  split
  · next he => exact ⟨hz, hl, fun q => absurd q he⟩
  split
  · exact ⟨hz, hl, fun q => by simp at q⟩
  split
  · exact ⟨hz, hl, fun q => by simp at q⟩
  refine ⟨fun k hk => ?_, hl, fun _ => rfl⟩
  unfold Cr.put upd
  dsimp only
  split
  · omega
  · exact h k hk
theorem begin_short (l : List ByteArray) (m : Mf) (T : Nat → List It) (V : Nat → Int) (h : Short T) (ht : trunkB T V = true) (hl : l.length ≤ 60000) : Short (beginF l m T V).2.1.T ∧ (beginF l m T V).1.length ≤ l.length + 144 ∧ (beginF l m T V).2.1.m = m ∧ (beginF l m T V).2.2 = 0 := by
  obtain ⟨h1, h2, _, _⟩ := leavesT_all T V (List.range 16) l (fun k hk => (leafB_may (fits_parts (trunk_fits ht k (by simpa using hk))).1).1) (by simp; omega)
  simp only [List.length_range] at h2
  unfold beginF
  rw [if_neg (by simpa using h1)]
  refine ⟨fun k hk => ?_, by dsimp only; omega, rfl, rfl⟩
  show (haveT _ T k).length ≤ 66
  unfold haveT
  split
  · exact h k hk
  · simp
end Go.Proofs.YtpchohjkelopoaaGreatDoor
