/- Lemmas for the claim (texts PT2a, what its proof uses of them). -/
import Derived.Test.YtpchohjkelopoaaGreatDoorW25
import Derived.Test.YtpchohjkelopoaaGreatDoorW27
set_option linter.unusedSimpArgs false
set_option linter.unusedVariables false
set_option maxRecDepth 20000
namespace Go.Proofs.YtpchohjkelopoaaGreatDoor
open Go.RowKit
attribute [go_sem] more_more Array.size_append
theorem ps_form {w : World} {v : Value} {ps : List Pc} (h : PsAt w v ps) : ∃ p cap, v = .slice p ps.length cap ∧ ∀ j x, ps[j]? = some x → PcIn w x ∧ ∃ b off, p = some ⟨b, off, none⟩ ∧ w.cell? ⟨b, off + j * 3, none⟩ = some (.int .i64 x.bk) ∧ w.cell? ⟨b, off + j * 3 + 1, none⟩ = some (.int .i64 x.ver) ∧ w.cell? ⟨b, off + j * 3 + 2, none⟩ = some x.pv := by
  rcases h with ⟨p, cap, rfl, rfl⟩ | ⟨b, off, cap, rfl, h2, h3⟩
  · exact ⟨p, cap, rfl, fun j x hj => by simp at hj⟩
  · exact ⟨_, cap, rfl, fun j x hj => by
      obtain ⟨a, c0, c1, c2⟩ := h3 j x hj
      exact ⟨a, b, off, rfl, c0, c1, c2⟩⟩
/-- what the walk has -/
structure Pw (B bt bm N M : Nat) (v2 : Nat → Value) (V : Nat → Int) (a b c : Int) (bs2 : Nat → Nat) (T2 : Nat → List It) (mL : Nat → Int) (w : World) (tv : Value) (l : List ByteArray) (g : Nat → Bool) (cT : Nat → List It) (cV : Nat → Int) (bsC : Nat → Nat) (vC : Nat → Value) (W : World) : Prop where
  tab : TabAt B bt bm tv l W
  st : StBlk W N v2 V a b c
  lv : LvsAt W bs2 v2 T2
  ty : LvTy W bs2 T2
  cr : CrBlk W M a b c mL g vC cV
  cl : LvsAt W bsC vC cT
  cy : LvTy W bsC cT
  ext : Ext w W
theorem Pw.mono {B bt bm N M : Nat} {v2 : Nat → Value} {V : Nat → Int} {a b c : Int} {bs2 : Nat → Nat} {T2 : Nat → List It} {mL : Nat → Int} {w : World} {tv : Value} {l : List ByteArray} {g : Nat → Bool} {cT : Nat → List It} {cV : Nat → Int} {bsC : Nat → Nat} {vC : Nat → Value} {W W' : World} (h : Pw B bt bm N M v2 V a b c bs2 T2 mL w tv l g cT cV bsC vC W) (hx : Ext W W') : Pw B bt bm N M v2 V a b c bs2 T2 mL w tv l g cT cV bsC vC W' :=
  ⟨h.tab.ext hx, h.st.ext hx, h.lv.ext hx, h.ty.ext hx, h.cr.ext hx, h.cl.ext hx, h.cy.ext hx, h.ext.trans hx⟩
theorem Pw.step {B bt bm N M : Nat} {v2 : Nat → Value} {V : Nat → Int} {a b c : Int} {bs2 : Nat → Nat} {T2 : Nat → List It} {mL : Nat → Int} {w : World} {tv : Value} {l : List ByteArray} {g : Nat → Bool} {cT : Nat → List It} {cV : Nat → Int} {bsC : Nat → Nat} {vC : Nat → Value} {W W' : World} {tv' : Value} {l' : List ByteArray} (h : Pw B bt bm N M v2 V a b c bs2 T2 mL w tv l g cT cV bsC vC W) (hB : w.heap.size ≤ B) (ht : TabAt B bt bm tv' l' W') (hs : TabStep bt bm tv W tv' W') : Pw B bt bm N M v2 V a b c bs2 T2 mL w tv' l' g cT cV bsC vC W' := by
  obtain ⟨hx, hk⟩ := tab_step h.ext hB h.tab ht hs
  exact ⟨ht, h.st.kept hk, h.lv.kept h.ty hk, h.ty.kept hk, h.cr.kept hk, h.cl.kept h.cy hk, h.cy.kept hk, hx⟩
theorem ne_type {w : World} {N M : Nat} {C C' : Array Value} {t t' : TypeId} {f f' : Nat × Nat} (h : w.heap[N]? = some (.cells C t f)) (h' : w.heap[M]? = some (.cells C' t' f')) (ht : t ≠ t') : N ≠ M := fun e => by
  rw [e, h'] at h; simp at h; exact ht h.2.1.symm
theorem tab_row {B bt bm : Nat} {tv : Value} {l : List ByteArray} {W : World} {M : Nat} {C : Array Value} (h : TabAt B bt bm tv l W) (hb : W.heap[M]? = some (.cells C 39 (0, 0))) (x : Array Value) : TabAt B bt bm tv l (W.setRow M x) :=
  tab_grown h (grown_row W M x) (fun k hk => by obtain rfl := Option.some.inj hk; exact tab_other h hb (by decide) (by decide))
theorem Pw.row {B bt bm N M : Nat} {v2 : Nat → Value} {V : Nat → Int} {a b c : Int} {bs2 : Nat → Nat} {T2 : Nat → List It} {mL : Nat → Int} {w : World} {tv : Value} {l : List ByteArray} {g : Nat → Bool} {cT : Nat → List It} {cV : Nat → Int} {bsC : Nat → Nat} {vC : Nat → Value} {W : World} (h : Pw B bt bm N M v2 V a b c bs2 T2 mL w tv l g cT cV bsC vC W) {M2 : Nat} {C : Array Value} (hM2 : w.heap.size ≤ M2) (hne : M ≠ M2) (hb : W.heap[M2]? = some (.cells C 39 (0, 0))) (x : Array Value) : Pw B bt bm N M v2 V a b c bs2 T2 mL w tv l g cT cV bsC vC (W.setRow M2 x) := by
  obtain ⟨l1, l2⟩ := LvsAt.rowT h.lv h.ty hb (by decide) x
  obtain ⟨l3, l4⟩ := LvsAt.rowT h.cl h.cy hb (by decide) x
  exact ⟨tab_row h.tab hb x, h.st.otherRow (ne_type h.st hb (by decide)) x, l1, l2, h.cr.otherRow hne x, l3, l4, h.ext.setRow hM2 x⟩
theorem Pw.crate {B bt bm N M : Nat} {v2 : Nat → Value} {V : Nat → Int} {a b c : Int} {bs2 : Nat → Nat} {T2 : Nat → List It} {mL : Nat → Int} {w : World} {tv : Value} {l : List ByteArray} {g : Nat → Bool} {cT : Nat → List It} {cV : Nat → Int} {bsC : Nat → Nat} {vC : Nat → Value} {W : World} {g' : Nat → Bool} {cT' : Nat → List It} {cV' : Nat → Int} {bsY : Nat → Nat} {vY : Nat → Value} (h : Pw B bt bm N M v2 V a b c bs2 T2 mL w tv l g cT cV bsC vC W) (hM : w.heap.size ≤ M) (hy : LvsAt W bsY vY cT') (hyy : LvTy W bsY cT') : Pw B bt bm N M v2 V a b c bs2 T2 mL w tv l g' cT' cV' bsY vY (W.setRow M (crC a b c mL g' vY cV')) := by
  obtain ⟨l1, l2⟩ := LvsAt.rowT h.lv h.ty h.cr (by decide) (crC a b c mL g' vY cV')
  obtain ⟨l3, l4⟩ := LvsAt.rowT hy hyy h.cr (by decide) (crC a b c mL g' vY cV')
  exact ⟨tab_row h.tab h.cr _, h.st.otherRow (ne_type h.st h.cr (by decide)) _, l1, l2, CrBlk.setRow h.cr _ _ _ _ _ _ _, l3, l4, h.ext.setRow hM _⟩
/-- behind a Take, whose crate lies in a block of its own -/
theorem Pw.take {B bt bm N M : Nat} {v2 : Nat → Value} {V : Nat → Int} {a b c : Int} {bs2 : Nat → Nat} {T2 : Nat → List It} {mL : Nat → Int} {w : World} {tv : Value} {l : List ByteArray} {g : Nat → Bool} {cT : Nat → List It} {cV : Nat → Int} {bsC : Nat → Nat} {vC : Nat → Value} {W0 W1 W2 W3 : World} {tv' : Value} {l' : List ByteArray} {yT : Nat → List It} {bsY : Nat → Nat} {vY : Nat → Value} (h : Pw B bt bm N M v2 V a b c bs2 T2 mL w tv l g cT cV bsC vC W0) (hB : w.heap.size ≤ B) (h1 : Ext W0 W1) (ht : TabAt B bt bm tv' l' W2) (hs : TabStep bt bm tv W1 tv' W2) (hy : LvsAt W2 bsY vY yT) (hyy : LvTy W2 bsY yT) (h3 : Ext W2 W3) {M2 : Nat} {C : Array Value} (hM2 : W0.heap.size ≤ M2) (hb : W3.heap[M2]? = some (.cells C 39 (0, 0))) (x : Array Value) :
    Pw B bt bm N M v2 V a b c bs2 T2 mL w tv' l' g cT cV bsC vC (W3.setRow M2 x) ∧ LvsAt (W3.setRow M2 x) bsY vY yT ∧ LvTy (W3.setRow M2 x) bsY yT ∧ (W3.setRow M2 x).heap[M2]? = some (.cells x 39 (0, 0)) ∧ M ≠ M2 := by
  have hne : M ≠ M2 := by have := lt_of_heap h.cr; omega
  have q := ((h.mono h1).step hB ht hs).mono h3
  obtain ⟨l1, l2⟩ := LvsAt.rowT (hy.ext h3) (hyy.ext h3) hb (by decide) x
  exact ⟨q.row (Nat.le_trans h.ext.size hM2) hne hb x, l1, l2, setRow_heap _ _ _ _ _ _ hb, hne⟩
/-- what a statement that takes a parcel that came in reads: a crate, a parcel -/
def PkS (M : Nat) (C : Array Value) (pb o : Nat) (x : Pc) (W : World) : Prop := W.heap[M]? = some (.cells C 39 (0, 0)) ∧ W.cell? ⟨pb, o, none⟩ = some (.int .i64 x.bk) ∧ W.cell? ⟨pb, o + 1, none⟩ = some (.int .i64 x.ver) ∧ W.cell? ⟨pb, o + 2, none⟩ = some x.pv
/-- the parcel's cells, from the call's beginning -/
def PcAt (pb o : Nat) (x : Pc) (w : World) : Prop := w.cell? ⟨pb, o, none⟩ = some (.int .i64 x.bk) ∧ w.cell? ⟨pb, o + 1, none⟩ = some (.int .i64 x.ver) ∧ w.cell? ⟨pb, o + 2, none⟩ = some x.pv
theorem PkS.of {M : Nat} {C : Array Value} {pb o : Nat} {x : Pc} {w W : World} (h : PcAt pb o x w) (hx : Ext w W) (hc : W.heap[M]? = some (.cells C 39 (0, 0))) : PkS M C pb o x W := ⟨hc, cell_ext h.1 hx, cell_ext h.2.1 hx, cell_ext h.2.2 hx⟩
end Go.Proofs.YtpchohjkelopoaaGreatDoor
