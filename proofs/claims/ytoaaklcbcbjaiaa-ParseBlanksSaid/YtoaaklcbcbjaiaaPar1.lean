/- The parser's state, and what a way through tokens says of memory. -/
import Derived.Test.YtoaaklcbcbjaiaaParP
import Derived.Outline
import Derived.Test.YtoaaklcbcbjaiaaGrow2
set_option linter.unusedSimpArgs false
set_option linter.unusedVariables false
namespace Go.Proofs.Ytoaaklcbcbjaiaa
open Go.RowKit

theorem ltP1 {a n x : Nat} (h : a < n) : (a < n + x) = True := by simp; omega
theorem ltP2 {a n x y : Nat} (h : a < n) : (a < n + x + y) = True := by simp; omega
theorem ltP3 {a n x y z : Nat} (h : a < n) : (a < n + x + y + z) = True := by simp; omega
theorem ltP4 {a n x y z u : Nat} (h : a < n) : (a < n + x + y + z + u) = True := by simp; omega
theorem ltP5 {a n x y z u v : Nat} (h : a < n) : (a < n + x + y + z + u + v) = True := by simp; omega
attribute [go_sem] ltP1 ltP2 ltP3 ltP4 ltP5

/-- tokens lie at an address -/
def ToksAt (lb lo : Nat) (L : Toks) (w : World) : Prop := ∀ j, j < L.length →
  w.cell? ⟨lb, lo + j * 4, none⟩ = some (.int .i64 (tk L j).1.k) ∧ w.cell? ⟨lb, lo + j * 4 + 1, none⟩ = some (.int .i64 (tk L j).2) ∧
  w.cell? ⟨lb, lo + j * 4 + 2, none⟩ = some (.string (tk L j).1.s) ∧ w.cell? ⟨lb, lo + j * 4 + 3, none⟩ = some (.int .i64 (tk L j).1.i)
theorem ToksAt.lt {lb lo : Nat} {L : Toks} {w : World} (h : ToksAt lb lo L w) (hl : 0 < L.length) : lb < w.heap.size :=
  World.block_lt_of_cell? w _ (h 0 hl).1
theorem ToksAt.of_block {lb lo : Nat} {L : Toks} {w w' : World} (h : ToksAt lb lo L w) (e : w'.heap[lb]? = w.heap[lb]?) : ToksAt lb lo L w' := by
  intro j hj
  obtain ⟨h1, h2, h3, h4⟩ := h j hj
  exact ⟨(World.cell?_of_block e).trans h1, (World.cell?_of_block e).trans h2, (World.cell?_of_block e).trans h3, (World.cell?_of_block e).trans h4⟩

/-- tokens that end where they end, and nowhere else -/
structure Ends (L : Toks) : Prop where
  pos : 0 < L.length
  few : L.length ≤ 5000
  at_ : ∀ j, j < L.length → ((tk L j).1.k = 0 ↔ j + 1 = L.length)

/-- the parser's block, and what hangs on it -/
structure St (b lb lo cap : Nat) (nv : Value) (L : Toks) (m : Nat) (N : List Nd) (w : World) : Prop where
  ends : Ends L
  blk : w.heap[b]? = some (.cells #[.slice (some ⟨lb, lo, none⟩) L.length cap, .int .i64 (m : Int), nv, .int .i64 0] 70 (0, 0))
  toks : ToksAt lb lo L w
  row : w.ownsRow (b + 1) 52 8 nv N.length (ndCells N)
  low : lb < b
  pos : m < L.length
  cnt : N.length ≤ 512
theorem St.lt {b lb lo cap : Nat} {nv : Value} {L : Toks} {m : Nat} {N : List Nd} {w : World} (h : St b lb lo cap nv L m N w) : b < w.heap.size :=
  (Array.getElem?_eq_some_iff.1 h.blk).1
/-- a block of one's own that the parser does not touch -/
structure Loc (b : Nat) (nv : Value) (k : Nat) (o : Obj) (w : World) : Prop where
  is : w.heap[k]? = some o
  ne : k ≠ b
  nr : nv.ownBlock ≠ some k
theorem Loc.lt {b : Nat} {nv : Value} {k : Nat} {o : Obj} {w : World} (h : Loc b nv k o w) : k < w.heap.size :=
  (Array.getElem?_eq_some_iff.1 h.is).1
/-- nothing changed but the parser's block and its row of nodes -/
structure Kp (b : Nat) (nv nv' : Value) (w w' : World) : Prop where
  os : w'.os = w.os
  tape : w'.tape = w.tape
  output : w'.output = w.output
  size : w.heap.size ≤ w'.heap.size
  block : ∀ k, k < w.heap.size → k ≠ b → nv.ownBlock ≠ some k → w'.heap[k]? = w.heap[k]?
  row : nv'.ownBlock = nv.ownBlock ∨ ∀ k, nv'.ownBlock = some k → w.heap.size ≤ k
theorem Kp.refl (b : Nat) (nv : Value) (w : World) : Kp b nv nv w w := ⟨rfl, rfl, rfl, Nat.le_refl _, fun _ _ _ _ => rfl, Or.inl rfl⟩
theorem Kp.trans {b : Nat} {nv nv1 nv2 : Value} {w w1 w2 : World} (h : Kp b nv nv1 w w1) (k : Kp b nv1 nv2 w1 w2) : Kp b nv nv2 w w2 := by
  refine ⟨k.os.trans h.os, k.tape.trans h.tape, k.output.trans h.output, Nat.le_trans h.size k.size, fun j hj hb hn => ?_, ?_⟩
  · have hn1 : nv1.ownBlock ≠ some j := by
      rcases h.row with e | e
      · rw [e]; exact hn
      · intro e2; have := e j e2; omega
    rw [k.block j (Nat.lt_of_lt_of_le hj h.size) hb hn1, h.block j hj hb hn]
  · rcases k.row with e | e
    · rcases h.row with e1 | e1
      · exact Or.inl (e.trans e1)
      · exact Or.inr (fun j hj => e1 j (by rw [← e]; exact hj))
    · exact Or.inr (fun j hj => Nat.le_trans h.size (e j hj))
theorem Kp.ext {b : Nat} {nv nv1 : Value} {w w1 w2 : World} (h : Kp b nv nv1 w w1) (hx : Ext w1 w2) : Kp b nv nv1 w w2 := by
  refine h.trans ?_
  have hb := hx.below
  exact ⟨hb.os, hb.tape, hb.output, hb.size, fun k hk _ _ => hb.block k hk, Or.inl rfl⟩
theorem Kp.alloc {b : Nat} {nv nv1 : Value} {w w1 : World} (h : Kp b nv nv1 w w1) (o : Obj) : Kp b nv nv1 w (w1.alloc o) := h.ext ((Ext.refl _).alloc o)
theorem Kp.more {b : Nat} {nv nv1 : Value} {w w1 : World} (h : Kp b nv nv1 w w1) (d : Nat) (os : Array Obj) : Kp b nv nv1 w (more w1 d os) := h.ext ((Ext.refl _).more d os)
theorem heap_set_other (w : World) (k i j : Nat) (v : Value) (h : j ≠ k) : (w.setCell ⟨k, i, none⟩ v).heap[j]? = w.heap[j]? := by
  simp [World.setCell, Array.getElem?_modify, Ne.symm h]
theorem Kp.setNew {b : Nat} {nv nv1 : Value} {w w1 : World} (h : Kp b nv nv1 w w1) {k : Nat} (hk : w.heap.size ≤ k) (i : Nat) (v : Value) : Kp b nv nv1 w (w1.setCell ⟨k, i, none⟩ v) :=
  ⟨h.os, h.tape, h.output, by simpa [World.setCell] using h.size, fun j hj hb hn => by rw [heap_set_other _ _ _ _ _ (by omega)]; exact h.block j hj hb hn, h.row⟩
theorem Kp.setB {b : Nat} {nv nv1 : Value} {w w1 : World} (h : Kp b nv nv1 w w1) (i : Nat) (v : Value) : Kp b nv nv1 w (w1.setCell ⟨b, i, none⟩ v) :=
  ⟨h.os, h.tape, h.output, by simpa [World.setCell] using h.size, fun j hj hb hn => by rw [heap_set_other _ _ _ _ _ hb]; exact h.block j hj hb hn, h.row⟩
theorem Loc.kp {b : Nat} {nv nv1 : Value} {w w1 : World} {k : Nat} {o : Obj} (h : Loc b nv k o w) (hk : Kp b nv nv1 w w1) : Loc b nv1 k o w1 := by
  refine ⟨(hk.block k h.lt h.ne h.nr).trans h.is, h.ne, ?_⟩
  rcases hk.row with e | e
  · rw [e]; exact h.nr
  · intro e2; have := e k e2; have := h.lt; omega
theorem Loc.ext {b : Nat} {nv : Value} {w w1 : World} {k : Nat} {o : Obj} (h : Loc b nv k o w) (hx : Ext w w1) : Loc b nv k o w1 := h.kp ((Kp.refl b nv w).ext hx)
theorem Loc.setB {b : Nat} {nv : Value} {w : World} {k : Nat} {o : Obj} (h : Loc b nv k o w) (i : Nat) (v : Value) : Loc b nv k o (w.setCell ⟨b, i, none⟩ v) := h.kp ((Kp.refl b nv w).setB i v)
theorem Loc.setOther {b : Nat} {nv : Value} {w : World} {k : Nat} {o : Obj} (h : Loc b nv k o w) {k' : Nat} (hne : k ≠ k') (i : Nat) (v : Value) : Loc b nv k o (w.setCell ⟨k', i, none⟩ v) :=
  ⟨by rw [heap_set_other _ _ _ _ _ hne]; exact h.is, h.ne, h.nr⟩
theorem Loc.set {b : Nat} {nv : Value} {w : World} {k : Nat} {cs : Array Value} {t : TypeId} (h : Loc b nv k (.cells cs t (0, 0)) w) (i : Nat) (v : Value) : Loc b nv k (.cells (cs.setIfInBounds i v) t (0, 0)) (w.setCell ⟨k, i, none⟩ v) := by
  refine ⟨?_, h.ne, h.nr⟩
  have := h.is
  simp [World.setCell, Array.getElem?_modify, this]
theorem St.ext {b lb lo cap : Nat} {nv : Value} {L : Toks} {m : Nat} {N : List Nd} {w w1 : World} (h : St b lb lo cap nv L m N w) (hx : Ext w w1) : St b lb lo cap nv L m N w1 := by
  have hb := hx.below
  refine ⟨h.ends, (hb.block b h.lt).trans h.blk, h.toks.of_block (hb.block lb (Nat.lt_trans h.low h.lt)), own_ext h.row hx, h.low, h.pos, h.cnt⟩
theorem St.alloc {b lb lo cap : Nat} {nv : Value} {L : Toks} {m : Nat} {N : List Nd} {w : World} (h : St b lb lo cap nv L m N w) (o : Obj) : St b lb lo cap nv L m N (w.alloc o) := h.ext ((Ext.refl _).alloc o)
theorem St.more {b lb lo cap : Nat} {nv : Value} {L : Toks} {m : Nat} {N : List Nd} {w : World} (h : St b lb lo cap nv L m N w) (d : Nat) (os : Array Obj) : St b lb lo cap nv L m N (more w d os) := h.ext ((Ext.refl _).more d os)
theorem Loc.more {b : Nat} {nv : Value} {w : World} {k : Nat} {o : Obj} (h : Loc b nv k o w) (d : Nat) (os : Array Obj) : Loc b nv k o (Ytoaaklcbcbjaiaa.more w d os) := h.ext ((Ext.refl _).more d os)
theorem Loc.alloc {b : Nat} {nv : Value} {w : World} {k : Nat} {o : Obj} (h : Loc b nv k o w) (o' : Obj) : Loc b nv k o (w.alloc o') := h.ext ((Ext.refl _).alloc o')
theorem St.rowNe {b lb lo cap : Nat} {nv : Value} {L : Toks} {m : Nat} {N : List Nd} {w : World} (h : St b lb lo cap nv L m N w) {k : Nat} (hk : w.heap.size ≤ k) : nv.ownBlock ≠ some k := by
  intro e; have := (h.row.lt k e).2; omega
/-- a block that was just made -/
theorem St.loc {b lb lo cap : Nat} {nv : Value} {L : Toks} {m : Nat} {N : List Nd} {w : World} (h : St b lb lo cap nv L m N w) (o : Obj) : Loc b nv w.heap.size o (w.alloc o) :=
  ⟨heap_alloc_new _ _, by have := h.lt; omega, h.rowNe (Nat.le_refl _)⟩
theorem St.setLoc {b lb lo cap : Nat} {nv : Value} {L : Toks} {m : Nat} {N : List Nd} {w : World} (h : St b lb lo cap nv L m N w) {k : Nat} {o : Obj} (hk : Loc b nv k o w) (hl : lb ≠ k) (i : Nat) (v : Value) :
    St b lb lo cap nv L m N (w.setCell ⟨k, i, none⟩ v) := by
  refine ⟨h.ends, by rw [heap_set_other _ _ _ _ _ hk.ne.symm]; exact h.blk, h.toks.of_block (heap_set_other _ _ _ _ _ hl), ?_, h.low, h.pos, h.cnt⟩
  refine h.row.kept (row := some k) ⟨rfl, rfl, rfl, by simp [World.setCell], fun j hj hn => heap_set_other _ _ _ _ _ (fun e => hn (by rw [e]))⟩ (Or.inr hk.nr)
/-- how far is read is written down -/
theorem St.setAt {b lb lo cap : Nat} {nv : Value} {L : Toks} {m : Nat} {N : List Nd} {w : World} (h : St b lb lo cap nv L m N w) (m' : Nat) (z : Int) (hz : z = m') (hm : m' < L.length) : St b lb lo cap nv L m' N (w.setCell ⟨b, 1, none⟩ (.int .i64 z)) := by
  subst hz
  refine ⟨h.ends, ?_, h.toks.of_block (heap_set_other _ _ _ _ _ (by have := h.low; omega)), ?_, h.low, hm, h.cnt⟩
  · simp [World.setCell, Array.getElem?_modify, h.blk]
  · refine h.row.kept (row := some b) ⟨rfl, rfl, rfl, by simp [World.setCell], fun j hj hn => heap_set_other _ _ _ _ _ (fun e => hn (by rw [e]))⟩ (Or.inr fun e => ?_)
    have := (h.row.lt b e).1; omega
theorem ownBlock_kept {w w1 : World} {row : Option Nat} {k : Nat} (hg : w.grownBy w1 row) (hk : k < w.heap.size) (hn : row ≠ some k) : w1.heap[k]? = w.heap[k]? := hg.block k hk (fun e => hn e.symm)
/-- a node more is laid -/
theorem St.push {b lb lo cap : Nat} {nv v' : Value} {L : Toks} {m : Nat} {N : List Nd} {w w1 : World} (h : St b lb lo cap nv L m N w) {z : Nd} (hown : w1.ownsRow (b + 1) 52 8 v' (N.length + 1) (ndCells N ++ ndL z)) (hg : w.grownBy w1 nv.ownBlock) (hn : N.length < 512) :
    St b lb lo cap v' L m (N ++ [z]) (w1.setCell ⟨b, 2, none⟩ v') := by
  have hb : nv.ownBlock ≠ some b := fun e => by have := (h.row.lt b e).1; omega
  have hl : nv.ownBlock ≠ some lb := fun e => by have := (h.row.lt lb e).1; have := h.low; omega
  have e1 : w1.heap[b]? = w.heap[b]? := ownBlock_kept hg h.lt hb
  have e2 : w1.heap[lb]? = w.heap[lb]? := ownBlock_kept hg (Nat.lt_trans h.low h.lt) hl
  refine ⟨h.ends, ?_, (h.toks.of_block e2).of_block (heap_set_other _ _ _ _ _ (by have := h.low; omega)), ?_, h.low, h.pos, by simp; omega⟩
  · have := h.blk
    simp [World.setCell, Array.getElem?_modify, e1, this]
  · have hc : ndCells (N ++ [z]) = ndCells N ++ ndL z := by rw [ndCells_append]; simp [ndCells]
    rw [hc, List.length_append]
    refine hown.kept (row := some b) ⟨rfl, rfl, rfl, by simp [World.setCell], fun j hj hn => heap_set_other _ _ _ _ _ (fun e => hn (by rw [e]))⟩ (Or.inr fun e => ?_)
    have := (hown.lt b e).1; omega
theorem St.grownFacts {b lb lo cap : Nat} {nv : Value} {L : Toks} {m : Nat} {N : List Nd} {w w1 : World} (h : St b lb lo cap nv L m N w) (hg : w.grownBy w1 nv.ownBlock) :
    w1.cell? ⟨b, 2, none⟩ = some nv ∧ w1.frozen? ⟨b, 2, none⟩ = false ∧ b < w1.heap.size := by
  have hb : nv.ownBlock ≠ some b := fun e => by have := (h.row.lt b e).1; omega
  have e1 : w1.heap[b]? = w.heap[b]? := ownBlock_kept hg h.lt hb
  have := h.blk
  refine ⟨?_, ?_, Nat.lt_of_lt_of_le h.lt hg.size⟩ <;> simp [World.cell?, World.frozen?, e1, this]
theorem Kp.push {b : Nat} {nv nv1 v' : Value} {w w1 w2 : World} (h : Kp b nv nv1 w w1) (hg : w1.grownBy w2 nv1.ownBlock) (hb : v'.ownBlock = nv1.ownBlock ∨ v'.ownBlock = some w1.heap.size) : Kp b nv v' w (w2.setCell ⟨b, 2, none⟩ v') := by
  refine h.trans (Kp.setB ⟨hg.os, hg.tape, hg.output, hg.size, fun k hk _ hn => ownBlock_kept hg hk hn, ?_⟩ 2 _)
  rcases hb with e | e
  · exact Or.inl e
  · exact Or.inr fun k hk => by rw [e] at hk; simp at hk; omega
/-- what the walk reads of the parser's block -/
theorem St.facts {b lb lo cap : Nat} {nv : Value} {L : Toks} {m : Nat} {N : List Nd} {w : World} (h : St b lb lo cap nv L m N w) :
    w.cell? ⟨b, 0, none⟩ = some (.slice (some ⟨lb, lo, none⟩) L.length cap) ∧ w.cell? ⟨b, 1, none⟩ = some (.int .i64 (m : Int)) ∧ w.cell? ⟨b, 2, none⟩ = some nv ∧ w.cell? ⟨b, 3, none⟩ = some (.int .i64 0) ∧
    w.frozen? ⟨b, 1, none⟩ = false ∧ w.frozen? ⟨b, 2, none⟩ = false ∧ w.frozen? ⟨b, 3, none⟩ = false ∧ b < w.heap.size := by
  have := h.blk
  refine ⟨?_, ?_, ?_, ?_, ?_, ?_, ?_, h.lt⟩ <;> simp [World.cell?, World.frozen?, this]
theorem St.tokFacts {b lb lo cap : Nat} {nv : Value} {L : Toks} {m : Nat} {N : List Nd} {w : World} (h : St b lb lo cap nv L m N w) :
    w.cell? ⟨lb, lo + m * 4, none⟩ = some (.int .i64 (tk L m).1.k) ∧ w.cell? ⟨lb, lo + m * 4 + 1, none⟩ = some (.int .i64 (tk L m).2) ∧
    w.cell? ⟨lb, lo + m * 4 + 2, none⟩ = some (.string (tk L m).1.s) ∧ w.cell? ⟨lb, lo + m * 4 + 3, none⟩ = some (.int .i64 (tk L m).1.i) ∧ lb < w.heap.size :=
  ⟨(h.toks m h.pos).1, (h.toks m h.pos).2.1, (h.toks m h.pos).2.2.1, (h.toks m h.pos).2.2.2, Nat.lt_trans h.low h.lt⟩
theorem St.next {b lb lo cap : Nat} {nv : Value} {L : Toks} {m : Nat} {N : List Nd} {w : World} (h : St b lb lo cap nv L m N w) (hk : (tk L m).1.k ≠ 0) : m + 1 < L.length := by
  have h1 := h.ends.at_ m h.pos
  have h2 := h.pos
  rcases Nat.lt_or_ge (m + 1) L.length with h3 | h3
  · exact h3
  · exact absurd (h1.2 (by omega)) hk
/-- the panic of fail -/
def noV (c a : Int) : Ending := .panicked [{ v := .iface 67 (.agg #[.int .i64 c, .int .i64 a]), recovered := false }]
/-- what a way through tokens does to memory -/
def PPost {α : Type} (V : α → Value) (b lb lo cap : Nat) (nv : Value) (L : Toks) (m : Nat) (N : List Nd) (w : World) (r : PR α) (e : Ending) (w' : World) : Prop :=
  match r with
  | .error (c, a) => e = noV c a ∧ ∃ nv', Kp b nv nv' w w'
  | .ok (v, m', ns) => e = .returned (V v) ∧ ∃ nv', St b lb lo cap nv' L m' (N ++ ns) w' ∧ Kp b nv nv' w w' ∧ m ≤ m'
def unitV : Unit → Value := fun _ => .tuple #[]
def intV : Int → Value := fun z => .int .i64 z
end Go.Proofs.Ytoaaklcbcbjaiaa
