/- Lemmas for the claim (texts Par1, NdC, May3, Par2, Par3, what its proof uses of them). -/
import Derived.Test.YtpnabjopfpdkhaaGreatDoorB03
import Derived.Test.YtpnabjopfpdkhaaGreatDoorB04
import Derived.Outline
import Derived.Deep.OwnRows
import Derived.Lib.SmallJoins
import Derived.LoopTactic
import Derived.Deep.LoopGhost
set_option linter.unusedSimpArgs false
set_option linter.unusedVariables false
namespace Go.Proofs.YtpnabjopfpdkhaaGreatDoor
open Go.RowKit
theorem ltP1 {a n x : Nat} (h : a < n) : (a < n + x) = True := by simp; omega
theorem ltP2 {a n x y : Nat} (h : a < n) : (a < n + x + y) = True := by simp; omega
theorem ltP3 {a n x y z : Nat} (h : a < n) : (a < n + x + y + z) = True := by simp; omega
theorem ltP4 {a n x y z u : Nat} (h : a < n) : (a < n + x + y + z + u) = True := by simp; omega
theorem ltP5 {a n x y z u v : Nat} (h : a < n) : (a < n + x + y + z + u + v) = True := by simp; omega
attribute [go_sem] ltP1 ltP2 ltP3 ltP4 ltP5
/-- tokens lie at an address -/
def ToksAt (lb lo : Nat) (L : Toks) (w : World) : Prop := ∀ j, j < L.length →
 w.cell? ⟨lb, lo + j * 4, none⟩ = some (.int .i64 (tk L j).1.k) ∧ w.cell? ⟨lb, lo + j * 4 + 1, none⟩ = some (.int .i64 (tk L j).2) ∧
 w.cell? ⟨lb, lo + j * 4 + 2, none⟩ = some (.string (tk L j).1.s) ∧ w.cell? ⟨lb, lo + j * 4 + 3, none⟩ = some (.int .i64 (tk L j).1.i)
theorem ToksAt.lt {lb lo : Nat} {L : Toks} {w : World} (h : ToksAt lb lo L w) (hl : 0 < L.length) : lb < w.heap.size :=
 World.block_lt_of_cell? w _ (h 0 hl).1
theorem ToksAt.of_block {lb lo : Nat} {L : Toks} {w w' : World} (h : ToksAt lb lo L w) (e : w'.heap[lb]? = w.heap[lb]?) : ToksAt lb lo L w' := by
 intro j hj
 obtain ⟨h1, h2, h3, h4⟩ := h j hj
 exact ⟨(World.cell?_of_block e).trans h1, (World.cell?_of_block e).trans h2, (World.cell?_of_block e).trans h3, (World.cell?_of_block e).trans h4⟩
/-- tokens that end where they end, and nowhere else -/
structure Ends (L : Toks) : Prop where
 pos : 0 < L.length
 few : L.length ≤ 5000
 at_ : ∀ j, j < L.length → ((tk L j).1.k = 0 ↔ j + 1 = L.length)
/-- the parser's block, and what hangs on it -/
structure St (b lb lo cap : Nat) (nv : Value) (L : Toks) (m : Nat) (N : List Nd) (w : World) : Prop where
 ends : Ends L
 blk : w.heap[b]? = some (.cells #[.slice (some ⟨lb, lo, none⟩) L.length cap, .int .i64 (m : Int), nv, .int .i64 0] 193 (0, 0))
 toks : ToksAt lb lo L w
 row : w.ownsRow (b + 1) 166 8 nv N.length (qae N)
 low : lb < b
 pos : m < L.length
 cnt : N.length ≤ 512
theorem St.lt {b lb lo cap : Nat} {nv : Value} {L : Toks} {m : Nat} {N : List Nd} {w : World} (h : St b lb lo cap nv L m N w) : b < w.heap.size :=
 (Array.getElem?_eq_some_iff.1 h.blk).1
/-- a block of one's own that the parser does not touch -/
structure Loc (b : Nat) (nv : Value) (k : Nat) (o : Obj) (w : World) : Prop where
 is : w.heap[k]? = some o
 ne : k ≠ b
 nr : nv.ownBlock ≠ some k
theorem Loc.lt {b : Nat} {nv : Value} {k : Nat} {o : Obj} {w : World} (h : Loc b nv k o w) : k < w.heap.size :=
 (Array.getElem?_eq_some_iff.1 h.is).1
/-- nothing changed but the parser's block and its row of nodes -/
structure Kp (b : Nat) (nv nv' : Value) (w w' : World) : Prop where
 os : w'.os = w.os
 tape : w'.tape = w.tape
 output : w'.output = w.output
 size : w.heap.size ≤ w'.heap.size
 block : ∀ k, k < w.heap.size → k ≠ b → nv.ownBlock ≠ some k → w'.heap[k]? = w.heap[k]?
 row : nv'.ownBlock = nv.ownBlock ∨ ∀ k, nv'.ownBlock = some k → w.heap.size ≤ k
theorem Kp.refl (b : Nat) (nv : Value) (w : World) : Kp b nv nv w w := ⟨rfl, rfl, rfl, Nat.le_refl _, fun _ _ _ _ => rfl, Or.inl rfl⟩
theorem Kp.trans {b : Nat} {nv nv1 nv2 : Value} {w w1 w2 : World} (h : Kp b nv nv1 w w1) (k : Kp b nv1 nv2 w1 w2) : Kp b nv nv2 w w2 := by
 refine ⟨k.os.trans h.os, k.tape.trans h.tape, k.output.trans h.output, Nat.le_trans h.size k.size, fun j hj hb hn => ?_, ?_⟩
 · have hn1 : nv1.ownBlock ≠ some j := by
     rcases h.row with e | e
     · rw [e]; exact hn
     · intro e2; have := e j e2; omega
   rw [k.block j (Nat.lt_of_lt_of_le hj h.size) hb hn1, h.block j hj hb hn]
 · rcases k.row with e | e
   · rcases h.row with e1 | e1
     · exact Or.inl (e.trans e1)
     · exact Or.inr (fun j hj => e1 j (by rw [← e]; exact hj))
   · exact Or.inr (fun j hj => Nat.le_trans h.size (e j hj))
theorem Kp.ext {b : Nat} {nv nv1 : Value} {w w1 w2 : World} (h : Kp b nv nv1 w w1) (hx : Ext w1 w2) : Kp b nv nv1 w w2 := by
 refine h.trans ?_
 have hb := hx.below
 exact ⟨hb.os, hb.tape, hb.output, hb.size, fun k hk _ _ => hb.block k hk, Or.inl rfl⟩
theorem Kp.alloc {b : Nat} {nv nv1 : Value} {w w1 : World} (h : Kp b nv nv1 w w1) (o : Obj) : Kp b nv nv1 w (w1.alloc o) := h.ext ((Ext.refl _).alloc o)
theorem Kp.more {b : Nat} {nv nv1 : Value} {w w1 : World} (h : Kp b nv nv1 w w1) (d : Nat) (os : Array Obj) : Kp b nv nv1 w (more w1 d os) := h.ext ((Ext.refl _).more d os)
theorem heap_set_other (w : World) (k i j : Nat) (v : Value) (h : j ≠ k) : (w.setCell ⟨k, i, none⟩ v).heap[j]? = w.heap[j]? := by
 simp [World.setCell, Array.getElem?_modify, Ne.symm h]
theorem Kp.setNew {b : Nat} {nv nv1 : Value} {w w1 : World} (h : Kp b nv nv1 w w1) {k : Nat} (hk : w.heap.size ≤ k) (i : Nat) (v : Value) : Kp b nv nv1 w (w1.setCell ⟨k, i, none⟩ v) :=
 ⟨h.os, h.tape, h.output, by simpa [World.setCell] using h.size, fun j hj hb hn => by rw [heap_set_other _ _ _ _ _ zae]; exact h.block j hj hb hn, h.row⟩
theorem Kp.setB {b : Nat} {nv nv1 : Value} {w w1 : World} (h : Kp b nv nv1 w w1) (i : Nat) (v : Value) : Kp b nv nv1 w (w1.setCell ⟨b, i, none⟩ v) :=
 ⟨h.os, h.tape, h.output, by simpa [World.setCell] using h.size, fun j hj hb hn => by rw [heap_set_other _ _ _ _ _ hb]; exact h.block j hj hb hn, h.row⟩
theorem Loc.kp {b : Nat} {nv nv1 : Value} {w w1 : World} {k : Nat} {o : Obj} (h : Loc b nv k o w) (hk : Kp b nv nv1 w w1) : Loc b nv1 k o w1 := by
 refine ⟨(hk.block k h.lt h.ne h.nr).trans h.is, h.ne, ?_⟩
 rcases hk.row with e | e
 · rw [e]; exact h.nr
 · intro e2; have := e k e2; have := h.lt; omega
theorem Loc.ext {b : Nat} {nv : Value} {w w1 : World} {k : Nat} {o : Obj} (h : Loc b nv k o w) (hx : Ext w w1) : Loc b nv k o w1 := h.kp ((Kp.refl b nv w).ext hx)
theorem Loc.set {b : Nat} {nv : Value} {w : World} {k : Nat} {cs : Array Value} {t : TypeId} (h : Loc b nv k (.cells cs t (0, 0)) w) (i : Nat) (v : Value) : Loc b nv k (.cells (cs.setIfInBounds i v) t (0, 0)) (w.setCell ⟨k, i, none⟩ v) := by
 refine ⟨?_, h.ne, h.nr⟩
 have := h.is
 simp [World.setCell, Array.getElem?_modify, this]
theorem St.ext {b lb lo cap : Nat} {nv : Value} {L : Toks} {m : Nat} {N : List Nd} {w w1 : World} (h : St b lb lo cap nv L m N w) (hx : Ext w w1) : St b lb lo cap nv L m N w1 := by
 have hb := hx.below
 refine ⟨h.ends, (hb.block b h.lt).trans h.blk, h.toks.of_block (hb.block lb (Nat.lt_trans h.low h.lt)), own_ext h.row hx, h.low, h.pos, h.cnt⟩
theorem St.alloc {b lb lo cap : Nat} {nv : Value} {L : Toks} {m : Nat} {N : List Nd} {w : World} (h : St b lb lo cap nv L m N w) (o : Obj) : St b lb lo cap nv L m N (w.alloc o) := h.ext ((Ext.refl _).alloc o)
theorem St.more {b lb lo cap : Nat} {nv : Value} {L : Toks} {m : Nat} {N : List Nd} {w : World} (h : St b lb lo cap nv L m N w) (d : Nat) (os : Array Obj) : St b lb lo cap nv L m N (more w d os) := h.ext ((Ext.refl _).more d os)
theorem Loc.alloc {b : Nat} {nv : Value} {w : World} {k : Nat} {o : Obj} (h : Loc b nv k o w) (o' : Obj) : Loc b nv k o (w.alloc o') := h.ext ((Ext.refl _).alloc o')
theorem St.rowNe {b lb lo cap : Nat} {nv : Value} {L : Toks} {m : Nat} {N : List Nd} {w : World} (h : St b lb lo cap nv L m N w) {k : Nat} (hk : w.heap.size ≤ k) : nv.ownBlock ≠ some k := by
 intro e; have := (h.row.lt k e).2; omega
/-- a block that was just made -/
theorem St.loc {b lb lo cap : Nat} {nv : Value} {L : Toks} {m : Nat} {N : List Nd} {w : World} (h : St b lb lo cap nv L m N w) (o : Obj) : Loc b nv w.heap.size o (w.alloc o) :=
 ⟨heap_alloc_new _ _, by have := h.lt; omega, h.rowNe (Nat.le_refl _)⟩
theorem St.setLoc {b lb lo cap : Nat} {nv : Value} {L : Toks} {m : Nat} {N : List Nd} {w : World} (h : St b lb lo cap nv L m N w) {k : Nat} {o : Obj} (hk : Loc b nv k o w) (hl : lb ≠ k) (i : Nat) (v : Value) :
  St b lb lo cap nv L m N (w.setCell ⟨k, i, none⟩ v) := by
 refine ⟨h.ends, by rw [heap_set_other _ _ _ _ _ hk.ne.symm]; exact h.blk, h.toks.of_block (heap_set_other _ _ _ _ _ hl), ?_, h.low, h.pos, h.cnt⟩
 refine h.row.kept (row := some k) ⟨rfl, rfl, rfl, by simp [World.setCell], fun j hj hn => heap_set_other _ _ _ _ _ (fun e => hn (by rw [e]))⟩ (Or.inr hk.nr)
/-- how far is read is written down -/
theorem St.setAt {b lb lo cap : Nat} {nv : Value} {L : Toks} {m : Nat} {N : List Nd} {w : World} (h : St b lb lo cap nv L m N w) (m' : Nat) (z : Int) (hz : z = m') (hm : m' < L.length) : St b lb lo cap nv L m' N (w.setCell ⟨b, 1, none⟩ (.int .i64 z)) := by
 subst hz
 refine ⟨h.ends, ?_, h.toks.of_block (heap_set_other _ _ _ _ _ (by have := h.low; omega)), ?_, h.low, hm, h.cnt⟩
 · simp [World.setCell, Array.getElem?_modify, h.blk]
 · refine h.row.kept (row := some b) ⟨rfl, rfl, rfl, by simp [World.setCell], fun j hj hn => heap_set_other _ _ _ _ _ (fun e => hn (by rw [e]))⟩ (Or.inr fun e => ?_)
   have := (h.row.lt b e).1; omega
theorem ownBlock_kept {w w1 : World} {row : Option Nat} {k : Nat} (hg : w.grownBy w1 row) (hk : k < w.heap.size) (hn : row ≠ some k) : w1.heap[k]? = w.heap[k]? := hg.block k hk (fun e => hn e.symm)
/-- a node more is laid -/
theorem St.push {b lb lo cap : Nat} {nv v' : Value} {L : Toks} {m : Nat} {N : List Nd} {w w1 : World} (h : St b lb lo cap nv L m N w) {z : Nd} (hown : w1.ownsRow (b + 1) 166 8 v' (N.length + 1) (qae N ++ ndL z)) (hg : w.grownBy w1 nv.ownBlock) (hn : N.length < 512) :
  St b lb lo cap v' L m (N ++ [z]) (w1.setCell ⟨b, 2, none⟩ v') := by
 have hb : nv.ownBlock ≠ some b := fun e => by have := (h.row.lt b e).1; omega
 have hl : nv.ownBlock ≠ some lb := fun e => by have := (h.row.lt lb e).1; have := h.low; omega
 have e1 : w1.heap[b]? = w.heap[b]? := ownBlock_kept hg h.lt hb
 have e2 : w1.heap[lb]? = w.heap[lb]? := ownBlock_kept hg (Nat.lt_trans h.low h.lt) hl
 refine ⟨h.ends, ?_, (h.toks.of_block e2).of_block (heap_set_other _ _ _ _ _ (by have := h.low; omega)), ?_, h.low, h.pos, by simp; omega⟩
 · have := h.blk
   simp [World.setCell, Array.getElem?_modify, e1, this]
 · have hc : qae (N ++ [z]) = qae N ++ ndL z := by rw [qdk]; simp [qae]
   rw [hc, List.length_append]
   refine hown.kept (row := some b) ⟨rfl, rfl, rfl, by simp [World.setCell], fun j hj hn => heap_set_other _ _ _ _ _ (fun e => hn (by rw [e]))⟩ (Or.inr fun e => ?_)
   have := (hown.lt b e).1; omega
theorem St.grownFacts {b lb lo cap : Nat} {nv : Value} {L : Toks} {m : Nat} {N : List Nd} {w w1 : World} (h : St b lb lo cap nv L m N w) (hg : w.grownBy w1 nv.ownBlock) :
  w1.cell? ⟨b, 2, none⟩ = some nv ∧ w1.frozen? ⟨b, 2, none⟩ = false ∧ b < w1.heap.size := by
 have hb : nv.ownBlock ≠ some b := fun e => by have := (h.row.lt b e).1; omega
 have e1 : w1.heap[b]? = w.heap[b]? := ownBlock_kept hg h.lt hb
 have := h.blk
 refine ⟨?_, ?_, Nat.lt_of_lt_of_le h.lt hg.size⟩ <;> simp [World.cell?, World.frozen?, e1, this]
theorem Kp.push {b : Nat} {nv nv1 v' : Value} {w w1 w2 : World} (h : Kp b nv nv1 w w1) (hg : w1.grownBy w2 nv1.ownBlock) (hb : v'.ownBlock = nv1.ownBlock ∨ v'.ownBlock = some w1.heap.size) : Kp b nv v' w (w2.setCell ⟨b, 2, none⟩ v') := by
 refine h.trans (Kp.setB ⟨hg.os, hg.tape, hg.output, hg.size, fun k hk _ hn => ownBlock_kept hg hk hn, ?_⟩ 2 _)
 rcases hb with e | e
 · exact Or.inl e
 · exact Or.inr fun k hk => by rw [e] at hk; simp at hk; omega
/-- what the walk reads of the parser's block -/
theorem St.facts {b lb lo cap : Nat} {nv : Value} {L : Toks} {m : Nat} {N : List Nd} {w : World} (h : St b lb lo cap nv L m N w) :
  w.cell? ⟨b, 0, none⟩ = some (.slice (some ⟨lb, lo, none⟩) L.length cap) ∧ w.cell? ⟨b, 1, none⟩ = some (.int .i64 (m : Int)) ∧ w.cell? ⟨b, 2, none⟩ = some nv ∧ w.cell? ⟨b, 3, none⟩ = some (.int .i64 0) ∧
  w.frozen? ⟨b, 1, none⟩ = false ∧ w.frozen? ⟨b, 2, none⟩ = false ∧ w.frozen? ⟨b, 3, none⟩ = false ∧ b < w.heap.size := by
 have := h.blk
 refine ⟨?_, ?_, ?_, ?_, ?_, ?_, ?_, h.lt⟩ <;> simp [World.cell?, World.frozen?, this]
theorem St.tokFacts {b lb lo cap : Nat} {nv : Value} {L : Toks} {m : Nat} {N : List Nd} {w : World} (h : St b lb lo cap nv L m N w) :
  w.cell? ⟨lb, lo + m * 4, none⟩ = some (.int .i64 (tk L m).1.k) ∧ w.cell? ⟨lb, lo + m * 4 + 1, none⟩ = some (.int .i64 (tk L m).2) ∧
  w.cell? ⟨lb, lo + m * 4 + 2, none⟩ = some (.string (tk L m).1.s) ∧ w.cell? ⟨lb, lo + m * 4 + 3, none⟩ = some (.int .i64 (tk L m).1.i) ∧ lb < w.heap.size :=
 ⟨(h.toks m h.pos).1, (h.toks m h.pos).2.1, (h.toks m h.pos).2.2.1, (h.toks m h.pos).2.2.2, Nat.lt_trans h.low h.lt⟩
theorem St.next {b lb lo cap : Nat} {nv : Value} {L : Toks} {m : Nat} {N : List Nd} {w : World} (h : St b lb lo cap nv L m N w) (hk : (tk L m).1.k ≠ 0) : m + 1 < L.length := by
 have h1 := h.ends.at_ m h.pos
 have h2 := h.pos
 rcases Nat.lt_or_ge (m + 1) L.length with h3 | h3
 · exact h3
 · exact absurd (h1.2 zae) hk
/-- the panic of fail -/
def noV (c a : Int) : Ending := .panicked [{ v := .iface 190 (.agg #[.int .i64 c, .int .i64 a]), recovered := false }]
/-- what a way through tokens does to memory -/
def PPost {α : Type} (V : α → Value) (b lb lo cap : Nat) (nv : Value) (L : Toks) (m : Nat) (N : List Nd) (w : World) (r : PR α) (e : Ending) (w' : World) : Prop :=
 match r with
 | .error (c, a) => e = noV c a ∧ ∃ nv', Kp b nv nv' w w'
 | .ok (v, m', ns) => e = .returned (V v) ∧ ∃ nv', St b lb lo cap nv' L m' (N ++ ns) w' ∧ Kp b nv nv' w w' ∧ m ≤ m'
def unitV : Unit → Value := fun _ => .tuple #[]
def intV : Int → Value := fun z => .int .i64 z
end Go.Proofs.YtpnabjopfpdkhaaGreatDoor

namespace Go.Proofs.YtpnabjopfpdkhaaGreatDoor
open Go.RowKit
attribute [go_sem] more_more Array.size_append
theorem qda : ∀ (l : List Nd) (j : Nat) (z : Nd), l[j]? = some z → (qae l)[j * 8 + 0]? = some (.int .i64 z.k) ∧ (qae l)[j * 8 + 1]? = some (.int .i64 z.a) ∧ (qae l)[j * 8 + 2]? = some (.int .i64 z.b) ∧ (qae l)[j * 8 + 3]? = some (.int .i64 z.c) ∧ (qae l)[j * 8 + 4]? = some (.int .i64 z.x) ∧ (qae l)[j * 8 + 5]? = some (.int .i64 z.i) ∧ (qae l)[j * 8 + 6]? = some (.string z.s) ∧ (qae l)[j * 8 + 7]? = some (.string z.t)
 | [], j, z, h => by simp at h
 | y :: l, 0, z, h => by
  simp at h
  subst h
  exact ⟨rfl, rfl, rfl, rfl, rfl, rfl, rfl, rfl⟩
 | y :: l, j + 1, z, h => by
  have := qda l j z (by simpa using h)
  have e : ∀ r, (qae (y :: l))[(j + 1) * 8 + r]? = (qae l)[j * 8 + r]? := by
   intro r
   have h1 : qae (y :: l) = ndL y ++ qae l := rfl
   rw [h1, List.getElem?_append_right (by simp [ndL]; omega)]
   congr 1
   simp [ndL]; omega
  rw [e 0, e 1, e 2, e 3, e 4, e 5, e 6, e 7]
  exact this
theorem qag {w : World} {base : Nat} {e : TypeId} {size : Nat} {v : Value} {n : Nat} {xs : List Value} (h : w.ownsRow base e size v n xs) : ∃ p c, v = .slice p n c := by
 rcases Go.Joins.ownsRow_forms h with ⟨rfl, h0⟩ | ⟨g1, c, rfl⟩
 · exact ⟨none, 0, by rw [h0]⟩
 · exact ⟨_, _, rfl⟩
theorem qad {w w' : World} {base : Nat} {e : TypeId} {size : Nat} {v : Value} {n : Nat} {xs : List Value} (h : w.ownsRow base e size v n xs) (hb : ∀ k, v.ownBlock = some k → k < w.heap.size → w'.heap[k]? = w.heap[k]?) : w'.ownsRow base e size v n xs := by
 obtain ⟨h1, h2⟩ := h
 refine ⟨h1, ?_⟩
 rcases h2 with h2 | ⟨g, cap, cur, rfl, hg, hh, r⟩
 · exact Or.inl h2
 · exact Or.inr ⟨g, cap, cur, rfl, hg, (hb g rfl (Array.getElem?_eq_some_iff.1 hh).1).trans hh, r⟩
theorem ndInfo : (Tryz.prog.info? 166).map (fun i => (i.zero, i.size, i.bytes)) = some (some (.agg #[.int .i64 0, .int .i64 0, .int .i64 0, .int .i64 0, .int .i64 0, .int .i64 0, .string ⟨#[]⟩, .string ⟨#[]⟩]), 8, 80) := by kernel_rfl
theorem intInfo : (Tryz.prog.info? 3).map (fun i => (i.zero, i.size, i.bytes)) = some (some (.int .i64 0), 1, 8) := by kernel_rfl
/-- a node's cells in memory -/
theorem nd_at {w : World} {base g cap n : Nat} {ns : List Nd} (h : w.ownsRow base 166 8 (.slice (some ⟨g, 0, none⟩) n cap) n (qae ns)) {j : Nat} {z : Nd} (hj : ns[j]? = some z) :
  w.cell? ⟨g, j * 8, none⟩ = some (.int .i64 z.k) ∧ w.cell? ⟨g, j * 8 + 1, none⟩ = some (.int .i64 z.a) ∧ w.cell? ⟨g, j * 8 + 2, none⟩ = some (.int .i64 z.b) ∧ w.cell? ⟨g, j * 8 + 3, none⟩ = some (.int .i64 z.c) ∧ w.cell? ⟨g, j * 8 + 4, none⟩ = some (.int .i64 z.x) ∧ w.cell? ⟨g, j * 8 + 5, none⟩ = some (.int .i64 z.i) ∧ w.cell? ⟨g, j * 8 + 6, none⟩ = some (.string z.s) ∧ w.cell? ⟨g, j * 8 + 7, none⟩ = some (.string z.t) := by
 have hc := h.cells (g := g) rfl
 obtain ⟨h0, h1, h2, h3, h4, h5, h6, h7⟩ := qda ns j z hj
 have e : ∀ i v, (qae ns)[i]? = some v → w.cell? ⟨g, i, none⟩ = some v := fun i v hi => by
  have := hc i v hi
  rwa [Addr.add_lit, Nat.zero_add] at this
 exact ⟨e _ _ h0, e _ _ h1, e _ _ h2, e _ _ h3, e _ _ h4, e _ _ h5, e _ _ h6, e _ _ h7⟩
end Go.Proofs.YtpnabjopfpdkhaaGreatDoor

namespace Go.Proofs.YtpnabjopfpdkhaaGreatDoor
open Go.RowKit
attribute [go_sem] more_more Array.size_append
/-- the checker's memory: the program, how often each node is had -/
structure CkSt (W : World) (c H : Nat) (nv : Value) (ns : List Nd) (fi : Int) (n : Nat) (g : Nat → Nat) (w : World) : Prop where
 ext : Ext W w
 cell : w.heap[c]? = some (.cells #[nv, .int .i64 fi, .slice (some ⟨H, 0, none⟩) n n] 248 (0, 0))
 had : w.rowIs H 3 n (fun j => .int .i64 (g j : Int))
 row : w.ownsRow 0 166 8 nv n (qae ns)
 base : W.heap.size ≤ H ∧ H ≠ c ∧ nv.ownBlock ≠ some H ∧ ns.length = n
theorem CkSt.of_ext {W : World} {c H : Nat} {nv : Value} {ns : List Nd} {fi : Int} {n : Nat} {g : Nat → Nat} {w : World} {w' : World} (h : CkSt W c H nv ns fi n g w) (hx : Ext w w') : CkSt W c H nv ns fi n g w' :=
 ⟨h.ext.trans hx, (hx.below.block _ (Array.getElem?_eq_some_iff.1 h.cell).1).trans h.cell, h.had.of_block (hx.below.block _ h.had.lt), own_ext h.row hx, h.base⟩
theorem CkSt.alloc {W : World} {c H : Nat} {nv : Value} {ns : List Nd} {fi : Int} {n : Nat} {g : Nat → Nat} {w : World} (h : CkSt W c H nv ns fi n g w) (b : Obj) : CkSt W c H nv ns fi n g (w.alloc b) := h.of_ext ((Ext.refl w).alloc b)
theorem CkSt.more {W : World} {c H : Nat} {nv : Value} {ns : List Nd} {fi : Int} {n : Nat} {g : Nat → Nat} {w : World} (h : CkSt W c H nv ns fi n g w) (d : Nat) (os : Array Obj) : CkSt W c H nv ns fi n g (more w d os) := h.of_ext ((Ext.refl w).more d os)
theorem CkSt.facts {W : World} {c H : Nat} {nv : Value} {ns : List Nd} {fi : Int} {n : Nat} {g : Nat → Nat} {w : World} (h : CkSt W c H nv ns fi n g w) :
  w.cell? ⟨c, 0, none⟩ = some nv ∧ w.cell? ⟨c, 1, none⟩ = some (.int .i64 fi) ∧ w.cell? ⟨c, 2, none⟩ = some (.slice (some ⟨H, 0, none⟩) n n) ∧ c < w.heap.size ∧ H < w.heap.size := by
 have h1 := h.cell
 refine ⟨?_, ?_, ?_, (Array.getElem?_eq_some_iff.1 h1).1, h.had.lt⟩ <;> simp [World.cell?, h1]
theorem CkSt.set {W : World} {c H : Nat} {nv : Value} {ns : List Nd} {fi : Int} {n : Nat} {g : Nat → Nat} {w : World} (h : CkSt W c H nv ns fi n g w) (k : Nat) (v : Int) (g' : Nat → Nat) (hg : ∀ j, (g' j : Int) = if j = k then v else (g j : Int)) :
  CkSt W c H nv ns fi n g' (w.setCell ⟨H, k, none⟩ (.int .i64 v)) := by
 obtain ⟨b1, b2, b4, b5⟩ := h.base
 refine ⟨h.ext.setCell b1 _, by rw [heap_set_other _ _ _ _ _ (Ne.symm b2)]; exact h.cell, (h.had.set k _).congr fun j _ => ?_, ?_, h.base⟩
 · rw [hg j]; split <;> rfl
 · exact qad h.row fun j hj _ => heap_set_other _ _ _ _ _ (fun e => b4 (by rw [← e]; exact hj))
theorem CkSt.congr {W : World} {c H : Nat} {nv : Value} {ns : List Nd} {fi : Int} {n : Nat} {g : Nat → Nat} {w : World} {g' : Nat → Nat} (h : CkSt W c H nv ns fi n g w) (e : ∀ j, j < n → g j = g' j) : CkSt W c H nv ns fi n g' w :=
 ⟨h.ext, h.cell, h.had.congr fun j hj => by rw [e j hj], h.row, h.base⟩
/-- all but one block as it was -/
def Fr (H : Nat) (w w' : World) : Prop := ∀ q, q < w.heap.size → q ≠ H → w'.heap[q]? = w.heap[q]?
theorem Fr.refl (H : Nat) (w : World) : Fr H w w := fun _ _ _ => rfl
/-- a block -/
def KB (k : Nat) (cs : Array Value) (T : TypeId) (w : World) : Prop := w.heap[k]? = some (.cells cs T (0, 0))
theorem KB.lt {k : Nat} {cs : Array Value} {T : TypeId} {w : World} (h : KB k cs T w) : k < w.heap.size := (Array.getElem?_eq_some_iff.1 h).1
theorem KB.kept {k H : Nat} {cs : Array Value} {T : TypeId} {w w' : World} (h : KB k cs T w) (hf : Fr H w w') (hn : k ≠ H) : KB k cs T w' := (hf k h.lt hn).trans h
theorem KB.of_ext {k : Nat} {cs : Array Value} {T : TypeId} {w w' : World} (h : KB k cs T w) (hx : Ext w w') : KB k cs T w' := (hx.below.block _ h.lt).trans h
theorem KB.new (w : World) (cs : Array Value) (T : TypeId) : KB w.heap.size cs T (w.alloc (.cells cs T (0, 0))) := heap_alloc_new _ _
theorem KB.cell {k : Nat} {cs : Array Value} {T : TypeId} {w : World} (h : KB k cs T w) (j : Nat) (v : Value) (hj : cs[j]? = some v) : w.cell? ⟨k, j, none⟩ = some v := by
 unfold KB at h
 simp [World.cell?, h, hj]
def kindAt (ns : List Nd) (k : Int) : Int := match ns[k.toNat]? with | some z => z.k | none => 0
def qaz (ns : List Nd) (k f t : Int) (st : Bool) : Bool := decide (f ≤ k) && decide (k < t) && (st == decide (20 ≤ kindAt ns k))
def blkB (ns : List Nd) (k i : Int) : Bool := k == -1 || qaz ns k 0 i true
def pone (a k : Int) : Nat := if a = k then 1 else 0
def addB (A : Bool) (k : Int) (g : Nat → Nat) : Nat → Nat := fun j => g j + if A = true then pone k j else 0
theorem qeg (A : Bool) (k : Int) (g : Nat → Nat) (j m : Nat) (h : g j ≤ m) : addB A k g j ≤ m + 1 := by
 unfold addB pone; split <;> (try split) <;> omega
set_option maxHeartbeats 4000000 in
set_option maxRecDepth 20000 in
theorem qbC {W : World} {c H : Nat} {nv : Value} {ns : List Nd} {fi : Int} {n : Nat} {g : Nat → Nat} {w : World} (h : CkSt W c H nv ns fi n g w) (k f t : Int) (st : Bool) (h0 : 0 ≤ f) (ht : t ≤ (n : Int)) (hb : ∀ j, j < n → g j ≤ 9000) :
  Calls Tryz.prog 200 #[.pointer (some ⟨c, 0, none⟩), .int .i64 k, .int .i64 f, .int .i64 t, .bool st] w fun e w' => e = .returned (.bool (qaz ns k f t st)) ∧ CkSt W c H nv ns fi n (addB (qaz ns k f t st) k g) w' ∧ Fr H w w' := by
 have HS := Lib.hid h
 have HC0 := Lib.hid (h.congr (g' := addB false k g) fun j _ => by simp [addB])
 obtain ⟨c0, c1, c2, lc, lH⟩ := h.facts
 by_cases hf : f ≤ k
 rotate_left
 · have hr : qaz ns k f t st = false := by unfold qaz; rw [decide_eq_false hf]; rfl
   rw [hr]
   have q1 : k < f := by omega
   clear h hb c0 c1 c2 hf hr h0 ht
   go_enter Tryz.func200, Tryz.ntmps200
   go_wp2_with fail
   go_ret
   exact ⟨rfl, HC0.out, Fr.refl _ _⟩
 by_cases hk : k < t
 rotate_left
 · have hr : qaz ns k f t st = false := by unfold qaz; rw [decide_eq_false hk]; simp
   rw [hr]
   have q1 : f ≤ k := hf
   have q2 : t ≤ k := by omega
   clear h hb c0 c1 c2 hf hr h0 ht hk
   go_enter Tryz.func200, Tryz.ntmps200
   go_wp2_with fail
   go_ret
   exact ⟨rfl, HC0.out, Fr.refl _ _⟩
 obtain ⟨j, rfl⟩ : ∃ j : Nat, k = (j : Int) := ⟨k.toNat, by omega⟩
 have hj : j < n := by omega
 obtain ⟨z, hz⟩ : ∃ z, ns[j]? = some z := ⟨_, List.getElem?_eq_getElem (by rw [h.base.2.2.2]; exact hj)⟩
 have hp : ∃ G cap, nv = .slice (some ⟨G, 0, none⟩) n cap := by
  rcases Go.Joins.ownsRow_forms h.row with ⟨_, h0⟩ | ⟨g1, c1, h0⟩
  · omega
  · exact ⟨g1, c1, h0⟩
 obtain ⟨G, cap, rfl⟩ := hp
 have a0 := (nd_at h.row hz).1
 have hG := (h.row.lt G rfl).2
 have hkd : kindAt ns (j : Int) = z.k := by unfold kindAt; rw [show ((j : Int)).toNat = j from rfl, hz]
 obtain ⟨zk, hzk⟩ : ∃ zk, z.k = zk := ⟨_, rfl⟩
 rw [hzk] at a0 hkd
 have hr : qaz ns (j : Int) f t st = (st == decide (20 ≤ zk)) := by unfold qaz; rw [decide_eq_true hf, decide_eq_true hk, hkd]; simp
 rw [hr]
 have hc := h.had.cell hj
 have hfz := h.had.frozen j
 have hgj : (g j : Int) ≤ 9000 := by have := hb j hj; omega
 have hgj0 : 0 ≤ (g j : Int) := by omega
 obtain ⟨q, hq⟩ : ∃ q : Nat, g j = q := ⟨_, rfl⟩
 have HQ := Lib.hid hq
 simp only [hq] at hc hgj hgj0
 have hj0 : 0 ≤ (j : Int) := by omega
 have hjn : (j : Int) < (n : Int) := by omega
 clear h hb hq hj hz hzk hkd hr c1 ht h0
 cases st <;> by_cases hz20 : 20 ≤ zk
 · rw [decide_eq_true hz20, show ((false : Bool) == true) = false from rfl]
   go_enter Tryz.func200, Tryz.ntmps200
   go_wp2_with fail
   go_ret
   exact ⟨rfl, HC0.out, Fr.refl _ _⟩
 · rw [decide_eq_false hz20, show ((false : Bool) == false) = true from rfl]
   have hz2 : zk < 20 := by omega
   clear hz20
   go_enter Tryz.func200, Tryz.ntmps200
   go_wp2_with fail
   go_ret
   refine ⟨rfl, HS.out.set j _ _ fun i => ?_, fun q _ hq => heap_set_other _ _ _ _ _ hq⟩
   unfold addB pone
   rw [if_pos rfl]
   by_cases e : i = j
   · subst e; rw [if_pos rfl, if_pos rfl, HQ.out]; omega
   · rw [if_neg e, if_neg zae]; rfl
 · rw [decide_eq_true hz20, show ((true : Bool) == true) = true from rfl]
   go_enter Tryz.func200, Tryz.ntmps200
   go_wp2_with fail
   go_ret
   refine ⟨rfl, HS.out.set j _ _ fun i => ?_, fun q _ hq => heap_set_other _ _ _ _ _ hq⟩
   unfold addB pone
   rw [if_pos rfl]
   by_cases e : i = j
   · subst e; rw [if_pos rfl, if_pos rfl, HQ.out]; omega
   · rw [if_neg e, if_neg zae]; rfl
 · rw [decide_eq_false hz20, show ((true : Bool) == false) = false from rfl]
   have hzd : decide (20 ≤ zk) = false := decide_eq_false hz20
   have hz2 : zk < 20 := by omega
   clear hz20
   go_enter Tryz.func200, Tryz.ntmps200
   go_wp2_with fail
   go_ret
   exact ⟨rfl, HC0.out, Fr.refl _ _⟩
set_option maxHeartbeats 2000000 in
theorem qcw {W : World} {c H : Nat} {nv : Value} {ns : List Nd} {fi : Int} {n : Nat} {g : Nat → Nat} {w : World} (h : CkSt W c H nv ns fi n g w) (k i : Int) (ht : i ≤ (n : Int)) (hb : ∀ j, j < n → g j ≤ 9000) :
  Calls Tryz.prog 170 #[.pointer (some ⟨c, 0, none⟩), .int .i64 k, .int .i64 i] w fun e w' => e = .returned (.bool (blkB ns k i)) ∧ CkSt W c H nv ns fi n (addB (blkB ns k i) k g) w' ∧ Fr H w w' := by
 by_cases hk : k = -1
 · subst hk
   have HC0 := Lib.hid (h.congr (g' := addB true (-1) g) fun j _ => by unfold addB pone; rw [if_pos rfl, if_neg zae]; rfl)
   rw [show blkB ns (-1) i = true from rfl]
   clear h hb ht
   go_enter Tryz.func170, Tryz.ntmps170
   go_wp2_with fail
   go_ret
   exact ⟨rfl, HC0.out, Fr.refl _ _⟩
 · have T := Lib.hid (qbC h k 0 i true zae ht hb)
   rw [show blkB ns k i = qaz ns k 0 i true from by unfold blkB; rw [show (k == -1) = false from by simpa using hk]; rfl]
   obtain ⟨A, hA⟩ : ∃ A, qaz ns k 0 i true = A := ⟨_, rfl⟩
   rw [hA] at T ⊢
   have q : (k == -1) = false := by simpa using hk
   clear h hb ht hA hk
   go_enter Tryz.func170, Tryz.ntmps170
   go_wp2_with ((go_at_call 200; (with_reducible refine T.out.mono ?_); rintro e' w1 ⟨rfl, h1, h2⟩; have H1 := Lib.hid h1; have H2 := Lib.hid h2; clear h1 h2))
   go_ret
   exact ⟨rfl, H1.out, H2.out⟩
end Go.Proofs.YtpnabjopfpdkhaaGreatDoor

namespace Go.Proofs.YtpnabjopfpdkhaaGreatDoor
open Go.RowKit
attribute [go_sem] more_more Array.size_append
set_option maxHeartbeats 1000000 in
theorem qaS {b lb lo cap : Nat} {nv : Value} {L : Toks} {m : Nat} {N : List Nd} {w : World} (h : St b lb lo cap nv L m N w) :
  Calls Tryz.prog 132 #[.pointer (some ⟨b, 0, none⟩)] w fun e w' => e = .returned (tokV (tk L m).1 (tk L m).2) ∧ Ext w w' := by
 obtain ⟨c0, c1, c2, c3, f1, f2, f3, hb⟩ := h.facts
 obtain ⟨t0, t1, t2, t3, hlb⟩ := h.tokFacts
 have hp : (m : Int) < (L.length : Int) := by have := h.pos; omega
 have hp0 : 0 ≤ (m : Int) := by omega
 obtain ⟨⟨⟨k, s, i⟩, a⟩, htt⟩ : ∃ tt, tk L m = tt := ⟨_, rfl⟩
 rw [htt] at t0 t1 t2 t3 ⊢
 unfold tokV
 clear htt h c2 c3 f1 f2 f3
 go_enter Tryz.func132, Tryz.ntmps132
 go_wp2_with fail
 refine qaa 10 13 [false, false, false, false, false, false, false, false, false, false] zad zad rfl ?_
 simp only [List.take_succ_cons, List.take_zero, List.drop_succ_cons, List.drop_zero]
 repeat (refine Lex.step rfl ?_; intro K hK; unfold StepG; go_simp; (first
   | refine hK _ ?_); clear hK K)
 refine Lex.nil fun WW hE => ?_
 obtain ⟨dd, oo, rfl⟩ := hE
 unfold FillH
 go_wp2_with fail
 rw [ends_normal]
 go_wp2_with fail
 exact bodyPost_ret (v := .agg #[.int .i64 k, .int .i64 a, .string s, .int .i64 i]) (by simp [results, Tryz.results132, go_sem]) rfl ⟨rfl, zab⟩
theorem isP_eq {L : Toks} {m : Nat} {t : Tok} {a : Int} (ht : tk L m = (t, a)) (s : ByteArray) (b : Bool) (hw : wordB s = b) : isP L s m = (t.k == (if b = true then 5 else 4) && t.s.toList == s.toList) := by
 unfold isP; rw [ht, hw]
set_option maxHeartbeats 1000000 in
theorem is_any {b lb lo cap : Nat} {nv : Value} {L : Toks} {m : Nat} {N : List Nd} {w : World} (h : St b lb lo cap nv L m N w) (s : ByteArray) :
  Calls Tryz.prog 211 #[.pointer (some ⟨b, 0, none⟩), .string s] w fun e w' => e = .returned (.bool (isP L s m)) ∧ Ext w w' := by
 have TK : RowKit.Hid (∀ w1, Ext w w1 → Calls Tryz.prog 132 #[.pointer (some ⟨b, 0, none⟩)] w1 fun e w' => e = .returned (tokV (tk L m).1 (tk L m).2) ∧ Ext w1 w') := Lib.hid fun w1 hx => qaS (h.ext hx)
 obtain ⟨⟨⟨k, ts, i⟩, a⟩, htt⟩ : ∃ tt, tk L m = tt := ⟨_, rfl⟩
 have W := Lib.hid (word_any s)
 cases hw : wordB s
 all_goals
  rw [hw] at W
  rw [isP_eq htt s _ hw]
  rw [htt] at TK
  unfold tokV at TK
  clear htt hw h
  dsimp only at TK ⊢
 · by_cases hk : (k == 4) = true
   · rw [if_neg zal, hk]
     go_enter Tryz.func211, Tryz.ntmps211
     go_wp2_with (first
      | (go_at_call 156; refine (W.out _).mono ?_; rintro e _ ⟨rfl, d, os, rfl⟩)
      | (go_at_call 132; refine (TK.out _ zab).mono ?_; rintro e _ ⟨rfl, d2, os2, rfl⟩))
     go_ret
     refine ⟨ret_bool ?_, zab⟩
     simp
   · have hk2 : (k == 4) = false := by simpa using hk
     clear hk
     rw [if_neg zal, hk2]
     go_enter Tryz.func211, Tryz.ntmps211
     go_wp2_with (first
      | (go_at_call 156; refine (W.out _).mono ?_; rintro e _ ⟨rfl, d, os, rfl⟩)
      | (go_at_call 132; refine (TK.out _ zab).mono ?_; rintro e _ ⟨rfl, d2, os2, rfl⟩))
     go_ret
     refine ⟨ret_bool ?_, zab⟩
     simp
 · by_cases hk : (k == 5) = true
   · rw [if_pos rfl, hk]
     go_enter Tryz.func211, Tryz.ntmps211
     go_wp2_with (first
      | (go_at_call 156; refine (W.out _).mono ?_; rintro e _ ⟨rfl, d, os, rfl⟩)
      | (go_at_call 132; refine (TK.out _ zab).mono ?_; rintro e _ ⟨rfl, d2, os2, rfl⟩))
     go_ret
     refine ⟨ret_bool ?_, zab⟩
     simp
   · have hk2 : (k == 5) = false := by simpa using hk
     clear hk
     rw [if_pos rfl, hk2]
     go_enter Tryz.func211, Tryz.ntmps211
     go_wp2_with (first
      | (go_at_call 156; refine (W.out _).mono ?_; rintro e _ ⟨rfl, d, os, rfl⟩)
      | (go_at_call 132; refine (TK.out _ zab).mono ?_; rintro e _ ⟨rfl, d2, os2, rfl⟩))
     go_ret
     refine ⟨ret_bool ?_, zab⟩
     simp
set_option maxHeartbeats 1000000 in
theorem qcj {b lb lo cap : Nat} {nv : Value} {L : Toks} {m : Nat} {N : List Nd} {w : World} (h : St b lb lo cap nv L m N w) (s : ByteArray) (hn : isP L s m = false) :
  Calls Tryz.prog 194 #[.pointer (some ⟨b, 0, none⟩), .string s] w fun e w' => e = .returned (.bool false) ∧ Ext w w' := by
 have I := Lib.hid (is_any h s)
 rw [hn] at I
 clear hn h
 go_enter Tryz.func194, Tryz.ntmps194
 go_wp2_with (go_at_call 211; refine I.out.mono ?_; rintro e _ ⟨rfl, d, os, rfl⟩)
 go_ret
 exact ⟨rfl, zab⟩
set_option maxHeartbeats 1000000 in
theorem qcX {b lb lo cap : Nat} {nv : Value} {L : Toks} {m : Nat} {N : List Nd} {w : World} (h : St b lb lo cap nv L m N w) (s : ByteArray) (hn : isP L s m = true) :
  Calls Tryz.prog 194 #[.pointer (some ⟨b, 0, none⟩), .string s] w fun e w' => e = .returned (.bool true) ∧ ∃ w1, Ext w w1 ∧ w' = w1.setCell ⟨b, 1, none⟩ (.int .i64 ((m : Int) + 1)) := by
 have I := Lib.hid (is_any h s)
 rw [hn] at I
 have hm : (m : Int) ≤ 5000 := by have := h.ends.few; have := h.pos; omega
 have hm0 : 0 ≤ (m : Int) := by omega
 obtain ⟨c0, c1, c2, c3, f1, f2, f3, hb⟩ := h.facts
 clear hn h c0 c2 c3 f2 f3
 go_enter Tryz.func194, Tryz.ntmps194
 go_wp2_with (go_at_call 211; refine I.out.mono ?_; rintro e _ ⟨rfl, d, os, rfl⟩)
 go_ret
 exact ⟨rfl, more w d os, zab, by rw [more_setCell _ _ _ _ _ _ hb]⟩
theorem fld_at (k a : Int) (s : ByteArray) (i : Int) (w : World) : (Instr.field 186 (.agg #[.int .i64 k, .int .i64 a, .string s, .int .i64 i]) 1).run Tryz.prog w = .ok (.int .i64 a) w := by kernel_rfl
theorem fld_s (k a : Int) (s : ByteArray) (i : Int) (w : World) : (Instr.field 186 (.agg #[.int .i64 k, .int .i64 a, .string s, .int .i64 i]) 2).run Tryz.prog w = .ok (.string s) w := by kernel_rfl
theorem fld_i (k a : Int) (s : ByteArray) (i : Int) (w : World) : (Instr.field 186 (.agg #[.int .i64 k, .int .i64 a, .string s, .int .i64 i]) 3).run Tryz.prog w = .ok (.int .i64 i) w := by kernel_rfl
attribute [go_sem] fld_at fld_s fld_i
set_option maxHeartbeats 1000000 in
theorem qbk {b lb lo cap : Nat} {nv : Value} {L : Toks} {m : Nat} {N : List Nd} {w : World} (h : St b lb lo cap nv L m N w) (c : Int) :
  Calls Tryz.prog 133 #[.pointer (some ⟨b, 0, none⟩), .int .i64 c] w fun e w' => e = noV c (tk L m).2 ∧ Ext w w' := by
 have TK : RowKit.Hid (∀ w1, Ext w w1 → Calls Tryz.prog 132 #[.pointer (some ⟨b, 0, none⟩)] w1 fun e w' => e = .returned (tokV (tk L m).1 (tk L m).2) ∧ Ext w1 w') := Lib.hid fun w1 hx => qaS (h.ext hx)
 obtain ⟨⟨⟨k, ts, i⟩, a⟩, htt⟩ : ∃ tt, tk L m = tt := ⟨_, rfl⟩
 rw [htt] at TK ⊢
 unfold tokV at TK
 dsimp only at TK ⊢
 clear htt h
 go_enter Tryz.func133, Tryz.ntmps133
 go_wp2_with (go_at_call 132; refine (TK.out _ zab).mono ?_; rintro e _ ⟨rfl, d2, os2, rfl⟩)
 exact ⟨rfl, rfl, zab⟩
theorem PPost.err {α : Type} {V : α → Value} {b lb lo cap : Nat} {nv nv' : Value} {L : Toks} {m : Nat} {N : List Nd} {w w' : World} {c a : Int} {e : Ending} (he : e = noV c a) (hk : Kp b nv nv' w w') : PPost V b lb lo cap nv L m N w (.error (c, a)) e w' := ⟨he, nv', hk⟩
theorem PPost.res {α : Type} {V : α → Value} {b lb lo cap : Nat} {nv nv' : Value} {L : Toks} {m m' : Nat} {N ns : List Nd} {w w' : World} {v : α} {e : Ending} (he : e = .returned (V v)) (hs : St b lb lo cap nv' L m' (N ++ ns) w') (hk : Kp b nv nv' w w') (hm : m ≤ m') :
  PPost V b lb lo cap nv L m N w (.ok (v, m', ns)) e w' := ⟨he, nv', hs, hk, hm⟩
set_option maxHeartbeats 1000000 in
theorem qbY {b lb lo cap : Nat} {nv : Value} {L : Toks} {m : Nat} {N : List Nd} {w : World} (h : St b lb lo cap nv L m N w) (d : Nat) (hd : d ≤ 17) (r : PR Unit) (hr : deepP L d m N.length = r) :
  Calls Tryz.prog 130 #[.pointer (some ⟨b, 0, none⟩), .int .i64 (d : Int)] w (PPost unitV b lb lo cap nv L m N w r) := by
 subst hr
 have FL : RowKit.Hid (∀ (c : Int) w1, Ext w w1 → Calls Tryz.prog 133 #[.pointer (some ⟨b, 0, none⟩), .int .i64 c] w1 fun e w' => e = noV c (tk L m).2 ∧ Ext w1 w') := Lib.hid fun c w1 hx => qbk (h.ext hx) c
 by_cases h16 : 16 < d
 · unfold deepP
   rw [if_pos h16]
   have h17 : (16 : Int) < (d : Int) := by omega
   refine Calls.mono (R := fun e w' => e = noV 14 (tk L m).2 ∧ Ext w w') ?_ fun e w' ⟨he, hx⟩ => PPost.err he ((Kp.refl b nv w).ext hx)
   clear h h16
   go_enter Tryz.func130, Tryz.ntmps130
   go_wp2_with (go_at_call 133; refine (FL.out _ _ zab).mono ?_; rintro e _ ⟨he, d3, os3, rfl⟩; unfold noV at he; subst he)
   exact ⟨rfl, rfl, zab⟩
 · unfold deepP
   rw [if_neg h16]
   have h17 : (d : Int) ≤ 16 := by omega
   refine Calls.mono (R := fun e w' => e = .returned (.tuple #[]) ∧ Ext w w') ?_ fun e w' ⟨he, hx⟩ => PPost.res he (by simpa using h.ext hx) ((Kp.refl b nv w).ext hx) (Nat.le_refl _)
   clear h h16
   go_enter Tryz.func130, Tryz.ntmps130
   go_wp2_with (go_at_call 133; refine (FL.out _ _ zab).mono ?_; rintro e _ ⟨he, d3, os3, rfl⟩; unfold noV at he; subst he)
   go_end0
   exact ⟨rfl, zab⟩
set_option maxHeartbeats 1000000 in
theorem of_any {b lb lo cap : Nat} {nv : Value} {L : Toks} {m : Nat} {N : List Nd} {w : World} (h : St b lb lo cap nv L m N w) (k0 : Int) (h0 : k0 ≠ 0) (r : PR Tok) (hr : ofP L k0 m N.length = r) :
  Calls Tryz.prog 112 #[.pointer (some ⟨b, 0, none⟩), .int .i64 k0] w (PPost (fun t => tokV t (tk L m).2) b lb lo cap nv L m N w r) := by
 subst hr
 have TK : RowKit.Hid (∀ w1, Ext w w1 → Calls Tryz.prog 132 #[.pointer (some ⟨b, 0, none⟩)] w1 fun e w' => e = .returned (tokV (tk L m).1 (tk L m).2) ∧ Ext w1 w') := Lib.hid fun w1 hx => qaS (h.ext hx)
 have FL : RowKit.Hid (∀ (c : Int) w1, Ext w w1 → Calls Tryz.prog 133 #[.pointer (some ⟨b, 0, none⟩), .int .i64 c] w1 fun e w' => e = noV c (tk L m).2 ∧ Ext w1 w') := Lib.hid fun c w1 hx => qbk (h.ext hx) c
 have hm : (m : Int) ≤ 5000 := by have := h.ends.few; have := h.pos; omega
 have hm0 : 0 ≤ (m : Int) := by omega
 have hnx : (tk L m).1.k = k0 → m + 1 < L.length := fun e => h.next (by rw [e]; exact h0)
 have H := Lib.hid h
 obtain ⟨c0, c1, c2, c3, f1, f2, f3, hb⟩ := h.facts
 clear h c0 c2 c3 f2 f3
 obtain ⟨⟨⟨k, ts, i⟩, a⟩, htt⟩ : ∃ tt, tk L m = tt := ⟨_, rfl⟩
 unfold ofP
 rw [htt] at TK FL hnx ⊢
 unfold tokV at TK
 unfold tokV
 dsimp only at TK FL hnx ⊢
 clear htt
 by_cases hk : k = k0
 · rw [if_pos hk]
   have hlt := hnx hk
   subst hk
   refine Calls.mono (R := fun e w' => e = .returned (.agg #[.int .i64 k, .int .i64 a, .string ts, .int .i64 i]) ∧ ∃ w1 w2, Ext w w1 ∧ w2 = w1.setCell ⟨b, 1, none⟩ (.int .i64 ((m : Int) + 1)) ∧ Ext w2 w') ?_
    fun e w' ⟨he, w1, w2, hx, hw, hx2⟩ => PPost.res he (by rw [List.append_nil]; exact (hw ▸ (H.out.ext hx).setAt (m + 1) _ zae hlt).ext hx2) ((hw ▸ ((Kp.refl b nv w).ext hx).setB 1 _).ext hx2) (Nat.le_succ _)
   clear hnx
   have hlt := Lib.hid hlt
   have hkk : (k != k) = false := by simp
   go_enter Tryz.func112, Tryz.ntmps112
   go_wp2_with (first | (go_at_call 132; refine (TK.out _ zab).mono ?_; rintro e _ ⟨rfl, d2, os2, rfl⟩) | (go_at_call 133; refine (FL.out _ _ zab).mono ?_; rintro e _ ⟨he, d3, os3, rfl⟩; unfold noV at he; subst he))
   exact bodyPost_ret (v := .agg #[.int .i64 k, .int .i64 a, .string ts, .int .i64 i]) (by simp [results, Tryz.results112, go_sem]) rfl ⟨rfl, _, _, Ext.refl _, rfl, zab⟩
 · rw [if_neg hk]
   have hkk : (k != k0) = true := by simpa using hk
   refine Calls.mono (R := fun e w' => e = noV 3 a ∧ Ext w w') ?_ fun e w' ⟨he, hx⟩ => PPost.err he ((Kp.refl b nv w).ext hx)
   clear hnx hk
   go_enter Tryz.func112, Tryz.ntmps112
   go_wp2_with (first | (go_at_call 132; refine (TK.out _ zab).mono ?_; rintro e _ ⟨rfl, d2, os2, rfl⟩) | (go_at_call 133; refine (FL.out _ _ zab).mono ?_; rintro e _ ⟨he, d3, os3, rfl⟩; unfold noV at he; subst he))
   exact ⟨rfl, rfl, zab⟩
theorem nv_form {b lb lo cap : Nat} {nv : Value} {L : Toks} {m : Nat} {N : List Nd} {w : World} (h : St b lb lo cap nv L m N w) : ∃ len c p, nv = .slice p len c ∧ len = N.length := by
 rcases Go.Joins.ownsRow_forms h.row with ⟨rfl, h0⟩ | ⟨g1, c, rfl⟩
 · exact ⟨_, _, _, rfl, h0.symm⟩
 · exact ⟨_, _, _, rfl, rfl⟩
theorem news_splitP {w : World} {N d1 d2 : Nat} {os1 os2 : Array Obj} {cs : Array Value} {t : TypeId} (hN : N = w.heap.size + os1.size) :
  ∀ j u, cs.toList[j]? = some u → (more ((more w d1 os1).alloc (.cells cs t)) d2 os2).cell? ((⟨N, 0, none⟩ : Addr).add j) = some u := by
 intro j u h
 have hN' : N = (more w d1 os1).heap.size := by rw [more_size]; exact hN
 subst hN'
 rw [Addr.add_lit, qcc _ _ _ _ _ zal]
 simp only [World.cell?, heap_alloc_new]
 simpa using h
set_option maxHeartbeats 2000000 in
set_option maxRecDepth 20000 in
theorem lay_any {b lb lo cap : Nat} {nv : Value} {L : Toks} {m : Nat} {N : List Nd} {w : World} (h : St b lb lo cap nv L m N w) (zk za zb zc zx zi : Int) (zs zt : ByteArray) (r : PR Int) (hr : layP L ⟨zk, za, zb, zc, zx, zi, zs, zt⟩ m N.length = r) :
  Calls Tryz.prog 168 #[.pointer (some ⟨b, 0, none⟩), .agg #[.int .i64 zk, .int .i64 za, .int .i64 zb, .int .i64 zc, .int .i64 zx, .int .i64 zi, .string zs, .string zt]] w (PPost intV b lb lo cap nv L m N w r) := by
 subst hr
 have FL : RowKit.Hid (∀ (c : Int) w1, Ext w w1 → Calls Tryz.prog 133 #[.pointer (some ⟨b, 0, none⟩), .int .i64 c] w1 fun e w' => e = noV c (tk L m).2 ∧ Ext w1 w') := Lib.hid fun c w1 hx => qbk (h.ext hx) c
 obtain ⟨len, c, p, rfl, hlen⟩ := nv_form h
 have hcnt := h.cnt
 subst hlen
 have H := Lib.hid h
 obtain ⟨c0, c1, c2, c3, f1, f2, f3, hb⟩ := h.facts
 unfold layP
 by_cases h5 : N.length = 512
 · rw [if_pos h5]
   have q5 : ((N.length : Int) == 512) = true := by rw [h5]; rfl
   refine Calls.mono (R := fun e w' => e = noV 5 (tk L m).2 ∧ Ext w w') ?_ fun e w' ⟨he, hx⟩ => PPost.err he ((Kp.refl b _ w).ext hx)
   clear h h5 c0 c1 c3 f1 f3
   go_enter Tryz.func168, Tryz.ntmps168
   go_wp2_with (go_at_call 133; refine (FL.out _ _ zab).mono ?_; rintro e _ ⟨he, d3, os3, rfl⟩; unfold noV at he; subst he)
   exact ⟨rfl, rfl, zab⟩
 · rw [if_neg h5]
   have q5 : ((N.length : Int) == 512) = false := by simp; omega
   have h512 : N.length < 512 := by omega
   have H5 := Lib.hid h512
   have hmx : (N.length : Int) ≤ 511 := by omega
   obtain ⟨i0, hi, hz0, hz1, hz2⟩ := info_parts ndInfo
   clear h h5 c0 c1 c3 f1 f3 h512 hcnt FL
   go_enter Tryz.func168, Tryz.ntmps168
   go_wp2_with fail
   refine qaa 8 33 [true, false, false, false, false, false, false, false] zad zad rfl ?_
   simp only [List.take_succ_cons, List.take_zero, List.drop_succ_cons, List.drop_zero]
   refine Lex.stepP rfl rfl ?_; intro K hK; go_simp; refine hK _ ?_; clear hK K
   iterate 6 (refine Lex.step rfl ?_; intro K hK; unfold StepG; go_simp; refine hK _ ?_; clear hK K)
   refine Lex.sliceLit 21 (.cells #[.int .i64 zk, .int .i64 za, .int .i64 zb, .int .i64 zc, .int .i64 zx, .int .i64 zi, .string zs, .string zt] 166) 1 1 rfl rfl (fun d os => ?_) ?_
   · unfold StepG
     go_simp
     exact ⟨(Ext.refl _).alloc _, NewSl.of_alloc _ _ _ _ _ _ _ zbb⟩
   refine Lex.nil fun WW hE => ?_
   intro u hu
   obtain ⟨d1, os1, d2, os2, rfl, rfl⟩ := hu.split hE
   clear hu hE
   go_simp
   unfold FillH
   go_wp2_with (at_builtin; refine wpList_append_own_at _ rfl _ _ 130 rfl (b + 1) 166 i0 (.agg #[.int .i64 0, .int .i64 0, .int .i64 0, .int .i64 0, .int .i64 0, .int .i64 0, .string ⟨#[]⟩, .string ⟨#[]⟩]) 8 80 Tryz.underlying130 hi hz0 hz1 hz2 rfl zaj (.slice p N.length c) N.length (qae N) rfl ?c0 ⟨_, 0, none⟩ 1 1 [.int .i64 zk, .int .i64 za, .int .i64 zb, .int .i64 zc, .int .i64 zx, .int .i64 zi, .string zs, .string zt] rfl rfl ?c1 ?c2 ?c3 ?c4 ?c5 ?_)
   case c0 => repeat (first | (with_reducible exact H.out.row) | (with_reducible apply own_more) | (with_reducible refine World.ownsRow.alloc ?_ _))
   case c1 => exact news_splitP zbb
   case c2 => intro u hu; simp at hu; rcases hu with rfl | rfl | rfl | rfl | rfl | rfl | rfl | rfl <;> rfl
   case c3 => unfold maxLen; omega
   case c4 => omega
   case c5 => simp [more_size]; omega
   intro v' w1 hown' hgrow _ hblk
   have HS : RowKit.Hid (St b lb lo cap v' L m (N ++ [⟨zk, za, zb, zc, zx, zi, zs, zt⟩]) (w1.setCell ⟨b, 2, none⟩ v')) := Lib.hid (St.push (by repeat (first | (with_reducible exact H.out) | (with_reducible apply St.alloc) | (with_reducible apply St.more))) hown' hgrow H5.out)
   have HK : RowKit.Hid (Kp b (.slice p N.length c) v' w (w1.setCell ⟨b, 2, none⟩ v')) := Lib.hid (Kp.push (by repeat (first | (with_reducible exact Kp.refl _ _ _) | (with_reducible apply Kp.alloc) | (with_reducible apply Kp.more))) hgrow (by simp only [more_size, World.size_alloc]; exact hblk))
   obtain ⟨hc2, hb1, hb2⟩ := St.grownFacts (by repeat (first | (with_reducible exact H.out) | (with_reducible apply St.alloc) | (with_reducible apply St.more))) hgrow
   have hb3 : ∃ g cap1, v' = .slice (some ⟨g, 0, none⟩) (N.length + 1) cap1 := by obtain ⟨g1, cap1, rfl, _, _⟩ := hown'.form zae; exact ⟨_, _, rfl⟩
   obtain ⟨g1, cap1, rfl⟩ := hb3
   clear hown' hgrow hblk
   go_wp2_with fail
   first | rw [ends_normal] | skip
   go_wp2_with fail
   go_ret
   exact PPost.res (by first | rfl | (show Ending.returned (.int .i64 _) = _; exact ret_int zae)) HS.out HK.out (Nat.le_refl _)
set_option maxHeartbeats 1000000 in
theorem qar (k : Int) (w : World) : Calls Tryz.prog 165 #[.int .i64 k] w fun e w' => e = .returned (.agg #[.int .i64 k, .int .i64 (-1), .int .i64 (-1), .int .i64 (-1), .int .i64 (-1), .int .i64 0, .string ⟨#[]⟩, .string ⟨#[]⟩]) ∧ Ext w w' := by
 go_enter Tryz.func165, Tryz.ntmps165
 go_wp2_with fail
 exact bodyPost_ret (v := .agg #[.int .i64 k, .int .i64 (-1), .int .i64 (-1), .int .i64 (-1), .int .i64 (-1), .int .i64 0, .string ⟨#[]⟩, .string ⟨#[]⟩]) (by simp [results, Tryz.results165, go_sem]) rfl ⟨rfl, zab⟩
theorem isP_ne {L : Toks} {m : Nat} {s : ByteArray} (h : isP L s m = true) : (tk L m).1.k ≠ 0 := by
 unfold isP at h
 intro e
 rw [e] at h
 split at h <;> simp at h
/-- what the walk reads of a node of one's own -/
theorem Loc.node {b : Nat} {nv : Value} {k : Nat} {w : World} {v0 v1 v2 v3 v4 v5 v6 v7 : Value} (h : Loc b nv k (.cells #[v0, v1, v2, v3, v4, v5, v6, v7] 166 (0, 0)) w) :
  w.cell? ⟨k, 0, none⟩ = some v0 ∧ w.cell? ⟨k, 1, none⟩ = some v1 ∧ w.cell? ⟨k, 2, none⟩ = some v2 ∧ w.cell? ⟨k, 3, none⟩ = some v3 ∧ w.cell? ⟨k, 4, none⟩ = some v4 ∧ w.cell? ⟨k, 5, none⟩ = some v5 ∧ w.cell? ⟨k, 6, none⟩ = some v6 ∧ w.cell? ⟨k, 7, none⟩ = some v7 ∧
  w.frozen? ⟨k, 0, none⟩ = false ∧ w.frozen? ⟨k, 1, none⟩ = false ∧ w.frozen? ⟨k, 2, none⟩ = false ∧ w.frozen? ⟨k, 3, none⟩ = false ∧ w.frozen? ⟨k, 5, none⟩ = false ∧ w.frozen? ⟨k, 6, none⟩ = false ∧ w.frozen? ⟨k, 7, none⟩ = false ∧ k < w.heap.size := by
 have := h.is
 refine ⟨?_, ?_, ?_, ?_, ?_, ?_, ?_, ?_, ?_, ?_, ?_, ?_, ?_, ?_, ?_, h.lt⟩ <;> simp [World.cell?, World.frozen?, this]
theorem takes_any {b lb lo cap : Nat} {nv : Value} {L : Toks} {m : Nat} {N : List Nd} {w : World} (h : St b lb lo cap nv L m N w) (s : ByteArray) (r : PR Bool) (hr : takesP L s m N.length = r) :
  Calls Tryz.prog 194 #[.pointer (some ⟨b, 0, none⟩), .string s] w (PPost (fun x => .bool x) b lb lo cap nv L m N w r) := by
 subst hr
 unfold takesP
 by_cases hp : isP L s m = true
 · rw [if_pos hp]
   refine (qcX h s hp).mono fun e w' ⟨he, w1, hx, hw⟩ => ?_
   subst hw
   exact PPost.res he (by rw [List.append_nil]; exact (h.ext hx).setAt (m + 1) _ zae (h.next (isP_ne hp))) (((Kp.refl b nv w).ext hx).setB 1 _) (Nat.le_succ _)
 · rw [if_neg hp]
   refine (qcj h s (by simpa using hp)).mono fun e w' ⟨he, hx⟩ => ?_
   exact PPost.res he (by rw [List.append_nil]; exact h.ext hx) ((Kp.refl b nv w).ext hx) (Nat.le_refl _)
theorem mustP_yes {L : Toks} {s : ByteArray} {r : List ByteArray} {m n : Nat} (h : isP L s m = true) : mustP L (s :: r) m n = mustP L r (m + 1) n := by
 rw [mustP, qal (v := ()) (m1 := m + 1) (ns := []) (by unfold must1; rw [if_pos h]), qaU]; rfl
theorem mustP_no {L : Toks} {s : ByteArray} {r : List ByteArray} {m n : Nat} (h : isP L s m = false) : mustP L (s :: r) m n = .error (3, (tk L m).2) := by
 rw [mustP]; exact qaJ (by unfold must1; rw [h]; rfl)
theorem drop_cons {α : Type} (ss : List α) (j : Nat) (d : α) (h : j < ss.length) : ss.drop j = ss.getD j d :: ss.drop (j + 1) := by
 rw [List.drop_eq_getElem_cons h]; simp [List.getD, List.getElem?_eq_getElem h]
/-- a row of texts of one's own -/
def strs (ss : List ByteArray) : Obj := .cells (ss.map Value.string).toArray 9 (0, 0)
theorem Loc.str {b : Nat} {nv : Value} {g : Nat} {ss : List ByteArray} {w : World} (h : Loc b nv g (strs ss) w) (j : Nat) (hj : j < ss.length) : w.cell? ⟨g, j, none⟩ = some (.string (ss.getD j ⟨#[]⟩)) := by
 have := h.is
 unfold strs at this
 simp [World.cell?, this, List.getD, List.getElem?_eq_getElem hj]
set_option maxHeartbeats 2000000 in
theorem must_any {b lb lo cap : Nat} {nv : Value} {L : Toks} {m : Nat} {N : List Nd} {w : World} (h : St b lb lo cap nv L m N w) (ss : List ByteArray) (g c : Nat) (hg : Loc b nv g (strs ss) w) (hss : ss.length ≤ 100) (r : PR Unit) (hr : mustP L ss m N.length = r) :
  Calls Tryz.prog 195 #[.pointer (some ⟨b, 0, none⟩), .slice (some ⟨g, 0, none⟩) ss.length c] w (PPost unitV b lb lo cap nv L m N w r) := by
 have H := Lib.hid h
 have G := Lib.hid hg
 have R := Lib.hid hr
 have hsz : (ss.length : Int) ≤ 100 := by omega
 clear h hg hr
 go_enter Tryz.func195, Tryz.ntmps195
 go_wp2_with fail
 go_loopw [8] (fun i wr => ∃ j : Nat, i = .int .i64 (j : Int) ∧ j ≤ ss.length ∧ St b lb lo cap nv L (m + j) N wr ∧ Kp b nv nv w wr ∧ mustP L (ss.drop j) (m + j) N.length = r) (fun i _ => ss.length - (intOf i).toNat)
 case atStart => exact ⟨0, rfl, Nat.zero_le _, H.out, Kp.refl _ _ _, R.out⟩
 case round =>
  obtain ⟨j, rfl, hj, hst, hkp, hr⟩ := hrel
  by_cases hlt : j < ss.length
  · have hlt2 : (j : Int) < (ss.length : Int) := by omega
    have hj0 : 0 ≤ (j : Int) := by omega
    have hcell := ((G.out.kp hkp).str j hlt)
    rw [drop_cons ss j ⟨#[]⟩ hlt] at hr
    obtain ⟨s, hs⟩ : ∃ s, ss.getD j ⟨#[]⟩ = s := ⟨_, rfl⟩
    rw [hs] at hcell hr
    have HS := Lib.hid hst
    have HK := Lib.hid hkp
    cases hp : isP L s (m + j)
    · rw [mustP_no hp] at hr
      subst hr
      have T := Lib.hid (qcj hst s hp)
      have FL := fun c (w1 : World) (hx : Ext wr w1) => qbk (hst.ext hx) c
      have FL := Lib.hid FL
      clear hst hkp hlt hs hp R
      go_wp2_with (first
       | (go_at_call 194; refine T.out.mono ?_; rintro e _ ⟨rfl, d, os, rfl⟩)
       | (go_at_call 133; refine (FL.out _ _ zab).mono ?_; rintro e _ ⟨he, d3, os3, rfl⟩; unfold noV at he; subst he))
      exact ⟨rfl, PPost.err rfl (HK.out.ext zab)⟩
    · rw [mustP_yes hp] at hr
      have R := Lib.hid hr
      have T := Lib.hid (qcX hst s hp)
      have NX := Lib.hid (hst.next (isP_ne hp))
      clear hst hkp hlt hs hp hr
      go_wp2_with (go_at_call 194; refine T.out.mono ?_; rintro e _ ⟨rfl, w1, hx, rfl⟩; have HX := Lib.hid hx; clear hx)
      go_roundw
      case rel => exact ⟨j + 1, by go_num, by omega, by rw [← Nat.add_assoc]; exact (HS.out.ext HX.out).setAt (m + j + 1) _ zae NX.out, (HK.out.ext HX.out).setB 1 _, by rw [← Nat.add_assoc]; exact R.out⟩
      case measure => simp [intOf]; omega
  · have hge : (ss.length : Int) ≤ (j : Int) := by omega
    have e : ss.drop j = [] := List.drop_eq_nil_of_le zae
    rw [e, mustP] at hr
    have R2 := Lib.hid hr
    have HS := Lib.hid hst
    have HK := Lib.hid hkp
    clear hr e hst hkp
    go_wp2_with fail
    go_end0
    have := R2.out
    subst this
    exact PPost.res rfl (by rw [List.append_nil]; exact HS.out) HK.out (Nat.le_add_right _ _)
def optV : Option ByteArray → Value
 | none => .tuple #[.string ⟨#[]⟩, .bool false]
 | some s => .tuple #[.string s, .bool true]
def findP (L : Toks) (m : Nat) (ss : List ByteArray) : PR (Option ByteArray) := match ss.find? (fun s => isP L s m) with
 | none => .ok (none, m, [])
 | some s => .ok (some s, m + 1, [])
theorem findP_yes {L : Toks} {s : ByteArray} {r : List ByteArray} {m : Nat} (h : isP L s m = true) : findP L m (s :: r) = .ok (some s, m + 1, []) := by
 unfold findP; rw [List.find?_cons]; simp [h]
theorem findP_no {L : Toks} {s : ByteArray} {r : List ByteArray} {m : Nat} (h : isP L s m = false) : findP L m (s :: r) = findP L m r := by
 unfold findP; rw [List.find?_cons]; simp [h]
set_option maxHeartbeats 2000000 in
theorem qbW {b lb lo cap : Nat} {nv : Value} {L : Toks} {m : Nat} {N : List Nd} {w : World} (h : St b lb lo cap nv L m N w) (ss : List ByteArray) (g c : Nat) (hg : Loc b nv g (strs ss) w) (hss : ss.length ≤ 100) (r : PR (Option ByteArray)) (hr : qaL L ss m N.length = r) :
  Calls Tryz.prog 218 #[.pointer (some ⟨b, 0, none⟩), .slice (some ⟨g, 0, none⟩) ss.length c] w (PPost optV b lb lo cap nv L m N w r) := by
 have H := Lib.hid h
 have G := Lib.hid hg
 have hr2 : findP L m ss = r := hr
 have R := Lib.hid hr2
 have hsz : (ss.length : Int) ≤ 100 := by omega
 clear h hg hr hr2
 go_enter Tryz.func218, Tryz.ntmps218
 go_wp2_with fail
 go_loopw [10] (fun i wr => ∃ j : Nat, i = .int .i64 (j : Int) ∧ j ≤ ss.length ∧ St b lb lo cap nv L m N wr ∧ Kp b nv nv w wr ∧ findP L m (ss.drop j) = r) (fun i _ => ss.length - (intOf i).toNat)
 case atStart => exact ⟨0, rfl, Nat.zero_le _, H.out, Kp.refl _ _ _, R.out⟩
 case round =>
  obtain ⟨j, rfl, hj, hst, hkp, hr⟩ := hrel
  by_cases hlt : j < ss.length
  · have hlt2 : (j : Int) < (ss.length : Int) := by omega
    have hj0 : 0 ≤ (j : Int) := by omega
    have hcell := ((G.out.kp hkp).str j hlt)
    rw [drop_cons ss j ⟨#[]⟩ hlt] at hr
    obtain ⟨s, hs⟩ : ∃ s, ss.getD j ⟨#[]⟩ = s := ⟨_, rfl⟩
    rw [hs] at hcell hr
    have HS := Lib.hid hst
    have HK := Lib.hid hkp
    cases hp : isP L s m
    · rw [findP_no hp] at hr
      have R2 := Lib.hid hr
      have T := Lib.hid (qcj hst s hp)
      clear hst hkp hlt hs hp R hr
      go_wp2_with (go_at_call 194; refine T.out.mono ?_; rintro e _ ⟨rfl, d, os, rfl⟩)
      go_roundw
      case rel => exact ⟨j + 1, by go_num, by omega, HS.out.more _ _, HK.out.more _ _, R2.out⟩
      case measure => simp [intOf]; omega
    · rw [findP_yes hp] at hr
      have R2 := Lib.hid hr
      have T := Lib.hid (qcX hst s hp)
      have NX := Lib.hid (hst.next (isP_ne hp))
      clear hst hkp hlt hs hp hr R
      go_wp2_with (go_at_call 194; refine T.out.mono ?_; rintro e _ ⟨rfl, w1, hx, rfl⟩; have HX := Lib.hid hx; clear hx)
      go_ret2
      have := R2.out
      subst this
      exact PPost.res rfl (by rw [List.append_nil]; exact (HS.out.ext HX.out).setAt (m + 1) _ zae NX.out) ((HK.out.ext HX.out).setB 1 _) (Nat.le_succ _)
  · have hge : (ss.length : Int) ≤ (j : Int) := by omega
    have e : ss.drop j = [] := List.drop_eq_nil_of_le zae
    rw [e] at hr
    have R2 := Lib.hid hr
    have HS := Lib.hid hst
    have HK := Lib.hid hkp
    clear hr e hst hkp
    go_wp2_with fail
    go_ret2
    have := R2.out
    subst this
    exact PPost.res rfl (by rw [List.append_nil]; exact HS.out) HK.out (Nat.le_refl _)
set_option maxHeartbeats 2000000 in
theorem turns_any {b lb lo cap : Nat} {nv : Value} {L : Toks} {m : Nat} {N : List Nd} {w : World} (h : St b lb lo cap nv L m N w) (r : PR Int) (hr : qbq L m N.length = r) :
  Calls Tryz.prog 166 #[.pointer (some ⟨b, 0, none⟩)] w (PPost intV b lb lo cap nv L m N w r) := by
 have TK : RowKit.Hid (∀ w1, Ext w w1 → Calls Tryz.prog 132 #[.pointer (some ⟨b, 0, none⟩)] w1 fun e w' => e = .returned (tokV (tk L m).1 (tk L m).2) ∧ Ext w1 w') := Lib.hid fun w1 hx => qaS (h.ext hx)
 have FL : RowKit.Hid (∀ (c : Int) w1, Ext w w1 → Calls Tryz.prog 133 #[.pointer (some ⟨b, 0, none⟩), .int .i64 c] w1 fun e w' => e = noV c (tk L m).2 ∧ Ext w1 w') := Lib.hid fun c w1 hx => qbk (h.ext hx) c
 have OF : RowKit.Hid (∀ w1, Ext w w1 → Calls Tryz.prog 112 #[.pointer (some ⟨b, 0, none⟩), .int .i64 2] w1 (PPost (fun t => tokV t (tk L m).2) b lb lo cap nv L m N w1 (ofP L 2 m N.length))) := Lib.hid fun w1 hx => of_any (h.ext hx) 2 zaj _ rfl
 have H := Lib.hid h
 obtain ⟨⟨⟨k, ts, i⟩, a⟩, htt⟩ : ∃ tt, tk L m = tt := ⟨_, rfl⟩
 unfold qbq pbind at hr
 unfold ofP at OF hr
 rw [htt] at TK FL OF hr
 unfold tokV at TK OF
 dsimp only at TK FL hr OF
 clear htt h
 by_cases hk : k = 2
 · subst hk
   by_cases hi : 64 < i
   · rw [if_pos ⟨rfl, hi⟩] at hr
     subst hr
     go_enter Tryz.func166, Tryz.ntmps166
     go_wp2_with (first | (go_at_call 132; refine (TK.out _ zab).mono ?_; rintro e _ ⟨rfl, d2, os2, rfl⟩) | (go_at_call 133; refine (FL.out _ _ zab).mono ?_; rintro e _ ⟨he, d3, os3, rfl⟩; unfold noV at he; subst he))
     exact ⟨rfl, PPost.err rfl ((Kp.refl b nv w).ext zab)⟩
   · rw [if_neg zae, if_pos rfl] at hr
     rw [if_pos rfl] at OF
     subst hr
     have hi2 : i ≤ 64 := by omega
     clear hi
     go_enter Tryz.func166, Tryz.ntmps166
     go_wp2_with (first | (go_at_call 132; refine (TK.out _ zab).mono ?_; rintro e _ ⟨rfl, d2, os2, rfl⟩) | (go_at_call 133; refine (FL.out _ _ zab).mono ?_; rintro e _ ⟨he, d3, os3, rfl⟩; unfold noV at he; subst he) | (go_at_call 112; refine (OF.out _ zab).mono ?_; rintro e w1 ⟨rfl, nv1, hs1, hk1, _⟩; have HS1 := Lib.hid hs1; have HK1 := Lib.hid hk1; clear hs1 hk1))
     go_ret
     exact PPost.res rfl HS1.out (((Kp.refl b nv w).ext zab).trans HK1.out) (Nat.le_succ _)
 · rw [if_neg zae, if_neg hk] at hr
   rw [if_neg hk] at OF
   subst hr
   have hk2 : (k == 2) = false := by simpa using hk
   clear hk
   go_enter Tryz.func166, Tryz.ntmps166
   go_wp2_with (first | (go_at_call 132; refine (TK.out _ zab).mono ?_; rintro e _ ⟨rfl, d2, os2, rfl⟩) | (go_at_call 133; refine (FL.out _ _ zab).mono ?_; rintro e _ ⟨he, d3, os3, rfl⟩; unfold noV at he; subst he) | (go_at_call 112; refine (OF.out _ zab).mono ?_; rintro e w1 ⟨he, nv1, hk1⟩; have HK1 := Lib.hid hk1; clear hk1; unfold noV at he; subst he))
   exact ⟨rfl, PPost.err rfl (((Kp.refl b nv w).ext zab).trans HK1.out)⟩
end Go.Proofs.YtpnabjopfpdkhaaGreatDoor

namespace Go.Proofs.YtpnabjopfpdkhaaGreatDoor
open Go.RowKit
attribute [go_sem] more_more Array.size_append
theorem twoL_none {L : Toks} {cl : PM Int} {ss : List ByteArray} {g : Nat} {a : Int} {m n : Nat} (h1 : qaL L ss m n = .ok (none, m, [])) : qas L cl ss (g + 1) a m n = .ok (a, m, []) := by
 rw [qas, qal h1, qaU]; rfl
theorem twoL_err {L : Toks} {cl : PM Int} {ss : List ByteArray} {g : Nat} {a : Int} {m n : Nat} {s : ByteArray} {m1 : Nat} {e : Int × Int} (h1 : qaL L ss m n = .ok (some s, m1, [])) (h2 : cl m1 n = .error e) : qas L cl ss (g + 1) a m n = .error e := by
 rw [qas, qal h1, qaU]
 exact qaJ h2
theorem twoL_lay {L : Toks} {cl : PM Int} {ss : List ByteArray} {g : Nat} {a c : Int} {m n : Nat} {s : ByteArray} {m1 m2 : Nat} {ns : List Nd} {e : Int × Int} (h1 : qaL L ss m n = .ok (some s, m1, [])) (h2 : cl m1 n = .ok (c, m2, ns)) (h3 : layP L (twoNd a c s) m2 (n + ns.length) = .error e) : qas L cl ss (g + 1) a m n = .error e := by
 rw [qas, qal h1, qaU]
 dsimp only [List.length_nil, Nat.add_zero]
 rw [qal h2, qaJ h3]
 rfl
theorem twoL_ok {L : Toks} {cl : PM Int} {ss : List ByteArray} {g : Nat} {a c a1 : Int} {m n : Nat} {s : ByteArray} {m1 m2 m3 : Nat} {ns ns2 : List Nd} (h1 : qaL L ss m n = .ok (some s, m1, [])) (h2 : cl m1 n = .ok (c, m2, ns)) (h3 : layP L (twoNd a c s) m2 (n + ns.length) = .ok (a1, m3, ns2)) : qas L cl ss (g + 1) a m n = prep (ns ++ ns2) (qas L cl ss g a1 m3 (n + (ns ++ ns2).length)) := by
 rw [qas, qal h1, qaU]
 dsimp only [List.length_nil, Nat.add_zero]
 rw [qal h2, qal h3, qcR, List.length_append, Nat.add_assoc]
def thenR {α β : Type} (r : PR α) (f : α → Nat → List Nd → PR β) : PR β := match r with
 | .error e => .error e
 | .ok (v, m, ns) => f v m ns
theorem oneOf_cases (L : Toks) (ss : List ByteArray) (m n : Nat) : qaL L ss m n = .ok (none, m, []) ∨ ∃ s, qaL L ss m n = .ok (some s, m + 1, []) := by
 unfold qaL
 cases ss.find? fun s => isP L s m with
 | none => exact Or.inl rfl
 | some s => exact Or.inr ⟨s, rfl⟩
/-- a function that goes a way through tokens, where what it captured stands -/
def Clo (b lb lo cap : Nat) (L : Toks) (F : FuncId) (args : Array Value) (Env : Value → World → Prop) (cl : PM Int) : Prop :=
 ∀ nv m N w, St b lb lo cap nv L m N w → Env nv w → Calls Tryz.prog F args w (PPost intV b lb lo cap nv L m N w (cl m N.length))
def Stays (b : Nat) (Env : Value → World → Prop) : Prop := ∀ nv nv' w w', Kp b nv nv' w w' → Env nv w → Env nv' w'
theorem St.cast {b lb lo cap : Nat} {nv : Value} {L : Toks} {m : Nat} {N N' : List Nd} {w : World} (h : St b lb lo cap nv L m N w) (e : N = N') : St b lb lo cap nv L m N' w := e ▸ h
set_option maxHeartbeats 2000000 in
set_option maxRecDepth 100000 in
theorem qdc {b lb lo cap : Nat} {nv : Value} {L : Toks} {m : Nat} {N : List Nd} {w : World} (h : St b lb lo cap nv L m N w) (d : Nat) (F : FuncId) (first cap2 : Array Value) (Env : Value → World → Prop) (hE : Stays b Env) (cl : PM Int)
  (hcl : Clo b lb lo cap L F (first.push (.int .i64 (d : Int)) ++ cap2) Env cl) (hF : ∀ args w, (Sem.run Tryz.prog (callFunc F args) w) = .ok (.enter F args) w) (he : Env nv w) (ss : List ByteArray) (gs c : Nat) (hg : Loc b nv gs (strs ss) w) (hss : ss.length ≤ 100) (r : PR Int) (hr : twoP L cl ss m N.length = r) :
  Calls Tryz.prog 213 #[.pointer (some ⟨b, 0, none⟩), .int .i64 (d : Int), .func (.func F) first cap2, .slice (some ⟨gs, 0, none⟩) ss.length c] w (PPost intV b lb lo cap nv L m N w r) := by
 have H := Lib.hid h
 have G := Lib.hid hg
 have CL := Lib.hid hcl
 have EN := Lib.hid he
 have HE := Lib.hid hE
 have R := Lib.hid hr
 clear h hg hcl he hE hr
 obtain ⟨r1, hr1⟩ : ∃ r1, cl m N.length = r1 := ⟨_, rfl⟩
 have C1 := Lib.hid (CL.out nv m N w H.out EN.out)
 rw [hr1] at C1
 rcases r1 with ⟨e1, e2⟩ | ⟨a1, m1, ns1⟩
 · have R2 : RowKit.Hid (.error (e1, e2) = r) := Lib.hid (by rw [← R.out]; unfold twoP; rw [qaJ hr1])
   clear R hr1
   go_enter Tryz.func213, Tryz.ntmps213
   go_wp2_with ((with_reducible refine C1.out.mono ?_); rintro e w1 ⟨he, nv1, hk1⟩; have HK1 := Lib.hid hk1; clear hk1; unfold noV at he; subst he)
   have := R2.out
   subst this
   exact ⟨rfl, PPost.err rfl HK1.out⟩
 · have R2 : RowKit.Hid (prep ns1 (qas L cl ss (L.length + 1) a1 m1 (N.length + ns1.length)) = r) := Lib.hid (by rw [← R.out]; unfold twoP; rw [qal hr1])
   clear R hr1
   go_enter Tryz.func213, Tryz.ntmps213
   go_wp2_with ((with_reducible refine C1.out.mono ?_); rintro e w1 ⟨he, nv1, hs1, hk1, hm1⟩; have HK1 := Lib.hid hk1; have HS1 := Lib.hid hs1; have HM1 := Lib.hid hm1; clear hk1 hs1 hm1; unfold intV at he; subst he)
   go_loopg [9] (L.length + 1) (fun g a wr => ∃ (z : Int) (m2 : Nat) (ns : List Nd) (nv2 : Value), a = .int .i64 z ∧ m ≤ m2 ∧ L.length + 1 ≤ m2 + g ∧ St b lb lo cap nv2 L m2 (N ++ ns) wr ∧ Kp b nv nv2 w wr ∧ prep ns (qas L cl ss g z m2 (N.length + ns.length)) = r)
   case atStart => exact ⟨a1, m1, ns1, nv1, rfl, HM1.out, by omega, HS1.out, HK1.out, R2.out⟩
   case round =>
    obtain ⟨z, m2, ns, nv2, rfl, hm2, hg, hst, hkp, hres⟩ := hrel
    obtain ⟨g0, rfl⟩ : ∃ g0, gk = g0 + 1 := ⟨gk - 1, by have := hst.pos; omega⟩
    have GS := Lib.hid (G.out.kp hkp)
    have HK := Lib.hid hkp
    have HM := Lib.hid hm2
    have HG := Lib.hid hg
    rcases oneOf_cases L ss m2 (N ++ ns).length with h1 | ⟨s, h1⟩
    · rw [twoL_none (by rw [← List.length_append]; exact h1)] at hres
      have RR := Lib.hid hres
      have O := Lib.hid (qbW hst ss gs c GS.out hss _ h1)
      clear hres h1 hst hkp hm2 hg
      go_wp2_with ((go_at_call 218; (with_reducible refine O.out.mono ?_); rintro e w2 ⟨he, nv3, hs3, hk3, _⟩; have HS3 := Lib.hid hs3; have HK3 := Lib.hid hk3; clear hs3 hk3; unfold optV at he; subst he))
      go_ret
      have := RR.out
      subst this
      exact PPost.res rfl (HS3.out.cast zal) (HK.out.trans HK3.out) HM.out
    · obtain ⟨r3, hr3⟩ : ∃ r3, cl (m2 + 1) (N.length + ns.length) = r3 := ⟨_, rfl⟩
      have O := Lib.hid (qbW hst ss gs c GS.out hss _ h1)
      rw [List.length_append] at h1
      rcases r3 with ⟨e1, e2⟩ | ⟨z3, m3, ns3⟩
      · rw [twoL_err h1 hr3] at hres
        have RR := Lib.hid hres
        have C3 : RowKit.Hid (∀ nv3 w3, St b lb lo cap nv3 L (m2 + 1) (N ++ ns ++ []) w3 → Env nv3 w3 → Calls Tryz.prog F (first.push (.int .i64 (d : Int)) ++ cap2) w3 (PPost intV b lb lo cap nv3 L (m2 + 1) (N ++ ns ++ []) w3 (.error (e1, e2)))) :=
         Lib.hid fun nv3 w3 hs he => by have := CL.out nv3 (m2 + 1) _ w3 hs he; rw [List.append_nil, List.length_append, hr3] at this; rw [List.append_nil]; exact this
        clear hres h1 hst hkp hm2 hg hr3
        go_wp2_with (first
         | ((go_at_call 218; (with_reducible refine O.out.mono ?_); rintro e w2 ⟨he, nv3, hs3, hk3, _⟩; have HS3 := Lib.hid hs3; have HK3 := Lib.hid hk3; clear hs3 hk3; unfold optV at he; subst he))
         | ((go_at_call 165; (with_reducible refine (qar _ _).mono ?_); rintro e _ ⟨rfl, d3, os3, rfl⟩)))
        refine (C3.out nv3 _ ((HS3.out.more _ _).alloc _) (HE.out _ _ _ _ (((HK.out.trans HK3.out).more _ _).alloc _) EN.out)).mono ?_
        rintro e w4 ⟨he, nv4, hk4⟩
        unfold noV at he
        subst he
        have HK4 := Lib.hid hk4
        clear hk4
        go_wp2_with fail
        have := RR.out
        subst this
        exact ⟨rfl, PPost.err rfl ((((HK.out.trans HK3.out).more _ _).alloc _).trans HK4.out)⟩
      · obtain ⟨r4, hr4⟩ : ∃ r4, layP L (twoNd z z3 s) m3 (N.length + ns.length + ns3.length) = r4 := ⟨_, rfl⟩
        have C3 : RowKit.Hid (∀ nv3 w3, St b lb lo cap nv3 L (m2 + 1) (N ++ ns ++ []) w3 → Env nv3 w3 → Calls Tryz.prog F (first.push (.int .i64 (d : Int)) ++ cap2) w3 (PPost intV b lb lo cap nv3 L (m2 + 1) (N ++ ns ++ []) w3 (.ok (z3, m3, ns3)))) :=
         Lib.hid fun nv3 w3 hs he => by have := CL.out nv3 (m2 + 1) _ w3 hs he; rw [List.append_nil, List.length_append, hr3] at this; rw [List.append_nil]; exact this
        have LA : RowKit.Hid (∀ nv4 w5, St b lb lo cap nv4 L m3 (N ++ ns ++ [] ++ ns3) w5 → Calls Tryz.prog 168 #[.pointer (some ⟨b, 0, none⟩), .agg #[.int .i64 11, .int .i64 z, .int .i64 z3, .int .i64 (-1), .int .i64 (-1), .int .i64 0, .string s, .string ⟨#[]⟩]] w5 (PPost intV b lb lo cap nv4 L m3 (N ++ ns ++ [] ++ ns3) w5 r4)) :=
         Lib.hid fun nv4 w5 hs => lay_any hs _ _ _ _ _ _ _ _ r4 (by rw [← hr4]; simp [twoNd, nd, Nat.add_assoc])
        have RR : RowKit.Hid (prep ns (thenR r4 fun a1 m4 ns4 => prep (ns3 ++ ns4) (qas L cl ss g0 a1 m4 (N.length + ns.length + (ns3 ++ ns4).length))) = r) := Lib.hid (by
         rw [← hres]
         congr 1
         rcases r4 with ⟨e1, e2⟩ | ⟨a1, m4, ns4⟩
         · rw [twoL_lay h1 hr3 hr4]; rfl
         · rw [twoL_ok h1 hr3 hr4]; rfl)
        clear hres h1 hst hkp hm2 hg hr3 hr4
        go_wp2_with (first
         | ((go_at_call 218; (with_reducible refine O.out.mono ?_); rintro e w2 ⟨he, nv3, hs3, hk3, _⟩; have HS3 := Lib.hid hs3; have HK3 := Lib.hid hk3; clear hs3 hk3; unfold optV at he; subst he))
         | ((go_at_call 165; (with_reducible refine (qar _ _).mono ?_); rintro e _ ⟨rfl, d3, os3, rfl⟩)))
        have LC := Lib.hid ((HS3.out.more d3 os3).loc (.cells #[.int .i64 11, .int .i64 z, .int .i64 (-1), .int .i64 (-1), .int .i64 (-1), .int .i64 0, .string s, .string ⟨#[]⟩] 166 (0, 0)))
        refine (C3.out nv3 _ ((HS3.out.more _ _).alloc _) (HE.out _ _ _ _ (((HK.out.trans HK3.out).more _ _).alloc _) EN.out)).mono ?_
        rintro e w4 ⟨he, nv4, hs4, hk4, hm4⟩
        unfold intV at he
        subst he
        have LC4 := Lib.hid (LC.out.kp hk4)
        have HS4 := Lib.hid hs4
        have HK4 := Lib.hid hk4
        have HM4 := Lib.hid hm4
        clear hs4 hk4 hm4 LC
        obtain ⟨kn, hkn⟩ : ∃ kn, (more w2 d3 os3).heap.size = kn := ⟨_, rfl⟩
        rw [hkn] at LC4
        rw [more_size] at hkn
        have hkw : w.heap.size ≤ kn := by have := (HK.out.trans HK3.out).size; omega
        have hlk : lb ≠ kn := by have := HS3.out.low; have := HS3.out.lt; omega
        rw [hkn]
        obtain ⟨n0, n1, n2, n3, n4, n5, n6, n7, z0, z1, z2, z3', z5, z6, z7, hkl⟩ := LC4.out.node
        have HKN := Lib.hid hkn
        have HKW := Lib.hid hkw
        have HLK := Lib.hid hlk
        clear hkn hkw hlk
        go_wp2_with fail
        refine (LA.out nv4 _ (HS4.out.setLoc LC4.out HLK.out 2 _)).mono ?_
        have KK : RowKit.Hid (Kp b nv nv4 w (w4.setCell ⟨kn, 2, none⟩ (.int .i64 z3))) := Lib.hid (((((HK.out.trans HK3.out).more _ _).alloc _).trans HK4.out).setNew HKW.out 2 _)
        rcases r4 with ⟨e1, e2⟩ | ⟨a4, m4, ns4⟩
        · rintro e w5 ⟨he, nv5, hk5⟩
          unfold noV at he
          subst he
          have HK5 := Lib.hid hk5
          clear hk5
          go_wp2_with fail
          have := RR.out
          subst this
          exact ⟨rfl, PPost.err rfl (KK.out.trans HK5.out)⟩
        · rintro e w5 ⟨he, nv5, hs5, hk5, hm5⟩
          unfold intV at he
          subst he
          have HS5 := Lib.hid hs5
          have HK5 := Lib.hid hk5
          have HM5 := Lib.hid hm5
          clear hs5 hk5 hm5 n0 n1 n2 n3 n4 n5 n6 n7 z0 z1 z2 z3' z5 z6 z7
          go_wp2_with fail
          go_roundg g0
          case measure => omega
          case rel =>
           have q1 := HM5.out
           have q2 := HM4.out
           have q3 := HM.out
           have q4 := HG.out
           have q5 := RR.out
           exact ⟨a4, m4, ns ++ (ns3 ++ ns4), nv5, rfl, by omega, by omega, HS5.out.cast zal, KK.out.trans HK5.out, by rw [← q5]; unfold thenR; dsimp only; rw [qcR, List.length_append, Nat.add_assoc]⟩
end Go.Proofs.YtpnabjopfpdkhaaGreatDoor
