/- Lemmas. -/
import Derived.Test.YtpoeknndkccbaaaGreatO07
import Derived.Test.YtpoeknndkccbaaaGreatO34
set_option linter.unusedSimpArgs false
set_option linter.unusedVariables false
namespace Go.Proofs.YtpoeknndkccbaaaGreat
open Go.RowKit
variable {b cap lb lo m : Nat} {nv : Value} {L : Toks} {N : List Nd} {ee wh : Int} {w w1 : World}
structure Rt (b lb lo cap : Nat) (nv : Value) (L : Toks) (m : Nat) (N : List Nd) (e wh : Int) (w : World) : Prop where
 ends : Ends L
 blk : w.heap[b]? = some (.cells #[.slice (some ⟨lb, lo, none⟩) L.length cap, .int .i64 (m : Int), nv, .int .i64 e, .int .i64 wh] 115 (0, 0))
 toks : ToksAt lb lo L w
 row : w.ownsRow (b + 1) 42 8 nv N.length (qac N)
 low : lb < b
 pos : m < L.length
 cnt : N.length ≤ 512
theorem Rt.lt (h : Rt b lb lo cap nv L m N ee wh w) : b < w.heap.size :=
 (Array.getElem?_eq_some_iff.1 h.blk).1
theorem Rt.ext (h : Rt b lb lo cap nv L m N ee wh w) (hx : Ext w w1) : Rt b lb lo cap nv L m N ee wh w1 := by
 have hb := hx.below
 refine ⟨h.ends, (hb.block b h.lt).trans h.blk, h.toks.of_block (hb.block lb (Nat.lt_trans h.low h.lt)), own_ext h.row hx, h.low, h.pos, h.cnt⟩
theorem Rt.alloc (h : Rt b lb lo cap nv L m N ee wh w) (o : Obj) : Rt b lb lo cap nv L m N ee wh (w.alloc o) := h.ext ((Ext.refl _).alloc o)
theorem Rt.more (h : Rt b lb lo cap nv L m N ee wh w) (d : Nat) (os : Array Obj) : Rt b lb lo cap nv L m N ee wh (more w d os) := h.ext ((Ext.refl _).more d os)
theorem Rt.rowNe (h : Rt b lb lo cap nv L m N ee wh w) {k : Nat} (hk : w.heap.size ≤ k) : nv.ownBlock ≠ some k := by
 intro e; have := (h.row.lt k e).2; omega
theorem Rt.loc (h : Rt b lb lo cap nv L m N ee wh w) (o : Obj) : Loc b nv w.heap.size o (w.alloc o) :=
 ⟨heap_alloc_new _ _, by have := h.lt; omega, h.rowNe (Nat.le_refl _)⟩
theorem Rt.setAt (h : Rt b lb lo cap nv L m N ee wh w) (m' : Nat) (z : Int) (hz : z = m') (hm : m' < L.length) : Rt b lb lo cap nv L m' N ee wh (w.setCell ⟨b, 1, none⟩ (.int .i64 z)) := by
 subst hz
 refine ⟨h.ends, ?_, h.toks.of_block (heap_set_other _ _ _ _ _ (by have := h.low; omega)), ?_, h.low, hm, h.cnt⟩
 · simp [World.setCell, Array.getElem?_modify, h.blk]
 · refine h.row.kept (row := some b) ⟨rfl, rfl, rfl, by simp [World.setCell], fun j hj hn => heap_set_other _ _ _ _ _ (fun e => hn (by rw [e]))⟩ (Or.inr fun e => ?_)
   have := (h.row.lt b e).1; omega
theorem Rt.push {v' : Value} (h : Rt b lb lo cap nv L m N ee wh w) {z : Nd} (hown : w1.ownsRow (b + 1) 42 8 v' (N.length + 1) (qac N ++ ndL z)) (hg : w.grownBy w1 nv.ownBlock) (hn : N.length < 512) :
  Rt b lb lo cap v' L m (N ++ [z]) ee wh (w1.setCell ⟨b, 2, none⟩ v') := by
 have hb : nv.ownBlock ≠ some b := fun e => by have := (h.row.lt b e).1; omega
 have hl : nv.ownBlock ≠ some lb := fun e => by have := (h.row.lt lb e).1; have := h.low; omega
 have e1 : w1.heap[b]? = w.heap[b]? := ownBlock_kept hg h.lt hb
 have e2 : w1.heap[lb]? = w.heap[lb]? := ownBlock_kept hg (Nat.lt_trans h.low h.lt) hl
 refine ⟨h.ends, ?_, (h.toks.of_block e2).of_block (heap_set_other _ _ _ _ _ (by have := h.low; omega)), ?_, h.low, h.pos, by simp; omega⟩
 · have := h.blk
   simp [World.setCell, Array.getElem?_modify, e1, this]
 · have hc : qac (N ++ [z]) = qac N ++ ndL z := by rw [qcA]; simp [qac]
   rw [hc, List.length_append]
   refine hown.kept (row := some b) ⟨rfl, rfl, rfl, by simp [World.setCell], fun j hj hn => heap_set_other _ _ _ _ _ (fun e => hn (by rw [e]))⟩ (Or.inr fun e => ?_)
   have := (hown.lt b e).1; omega
theorem Rt.grownFacts (h : Rt b lb lo cap nv L m N ee wh w) (hg : w.grownBy w1 nv.ownBlock) :
  w1.cell? ⟨b, 2, none⟩ = some nv ∧ w1.frozen? ⟨b, 2, none⟩ = false ∧ b < w1.heap.size := by
 have hb : nv.ownBlock ≠ some b := fun e => by have := (h.row.lt b e).1; omega
 have e1 : w1.heap[b]? = w.heap[b]? := ownBlock_kept hg h.lt hb
 have := h.blk
 refine ⟨?_, ?_, Nat.lt_of_lt_of_le h.lt hg.size⟩ <;> simp [World.cell?, World.frozen?, e1, this]
theorem Rt.facts (h : Rt b lb lo cap nv L m N ee wh w) :
  w.cell? ⟨b, 0, none⟩ = some (.slice (some ⟨lb, lo, none⟩) L.length cap) ∧ w.cell? ⟨b, 1, none⟩ = some (.int .i64 (m : Int)) ∧ w.cell? ⟨b, 2, none⟩ = some nv ∧ w.cell? ⟨b, 3, none⟩ = some (.int .i64 ee) ∧ w.cell? ⟨b, 4, none⟩ = some (.int .i64 wh) ∧
  w.frozen? ⟨b, 1, none⟩ = false ∧ w.frozen? ⟨b, 2, none⟩ = false ∧ w.frozen? ⟨b, 3, none⟩ = false ∧ w.frozen? ⟨b, 4, none⟩ = false ∧ b < w.heap.size := by
 have := h.blk
 refine ⟨?_, ?_, ?_, ?_, ?_, ?_, ?_, ?_, ?_, h.lt⟩ <;> simp [World.cell?, World.frozen?, this]
theorem Rt.tokFacts (h : Rt b lb lo cap nv L m N ee wh w) :
  w.cell? ⟨lb, lo + m * 4, none⟩ = some (.int .i64 (tk L m).1.k) ∧ w.cell? ⟨lb, lo + m * 4 + 1, none⟩ = some (.int .i64 (tk L m).2) ∧
  w.cell? ⟨lb, lo + m * 4 + 2, none⟩ = some (.string (tk L m).1.s) ∧ w.cell? ⟨lb, lo + m * 4 + 3, none⟩ = some (.int .i64 (tk L m).1.i) ∧ lb < w.heap.size :=
 ⟨(h.toks m h.pos).1, (h.toks m h.pos).2.1, (h.toks m h.pos).2.2.1, (h.toks m h.pos).2.2.2, Nat.lt_trans h.low h.lt⟩
theorem Rt.next (h : Rt b lb lo cap nv L m N ee wh w) (hk : (tk L m).1.k ≠ 0) : m + 1 < L.length := by
 have h1 := h.ends.at_ m h.pos
 have h2 := h.pos
 rcases Nat.lt_or_ge (m + 1) L.length with h3 | h3
 · exact h3
 · exact absurd (h1.2 zae) hk
theorem Rt.setErr (h : Rt b lb lo cap nv L m N ee wh w) (c a : Int) (hc : c ≠ 0) :
  Rt b lb lo cap nv L m N c a ((w.setCell ⟨b, 3, none⟩ (.int .i64 c)).setCell ⟨b, 4, none⟩ (.int .i64 a)) := by
 refine ⟨h.ends, ?_, (h.toks.of_block (heap_set_other _ _ _ _ _ (by have := h.low; omega))).of_block (heap_set_other _ _ _ _ _ (by have := h.low; omega)), ?_, h.low, h.pos, h.cnt⟩
 · simp [World.setCell, Array.getElem?_modify, h.blk]
 · exact ownsRow_setCell_below (ownsRow_setCell_below h.row zan _) zan _
theorem Rt.cast {N' : List Nd} (h : Rt b lb lo cap nv L m N ee wh w) (e : N = N') : Rt b lb lo cap nv L m N' ee wh w := e ▸ h
def RPost {α : Type} (V : α → Value) (Q : Value → Prop) (b lb lo cap : Nat) (nv : Value) (L : Toks) (m : Nat) (N : List Nd) (w : World) (r : PR α) (e : Ending) (w' : World) : Prop :=
 match r with
 | .error (c, a) => c ≠ 0 ∧ (∃ v, e = .returned v ∧ Q v) ∧ ∃ nv' m' N', Rt b lb lo cap nv' L m' N' c a w' ∧ Kp b nv nv' w w'
 | .ok (v, m', ns) => e = .returned (V v) ∧ ∃ nv', Rt b lb lo cap nv' L m' (N ++ ns) 0 0 w' ∧ Kp b nv nv' w w' ∧ m ≤ m'
theorem RPost.err {α : Type} {V : α → Value} {Q : Value → Prop} {nv' : Value} {m' : Nat} {N' : List Nd} {w' : World} {c a : Int} {v : Value} (hc : c ≠ 0) (hq : Q v) (hs : Rt b lb lo cap nv' L m' N' c a w') (hk : Kp b nv nv' w w') : RPost V Q b lb lo cap nv L m N w (.error (c, a)) (.returned v) w' := ⟨hc, ⟨v, rfl, hq⟩, nv', m', N', hs, hk⟩
theorem RPost.res {α : Type} {V : α → Value} {Q : Value → Prop} {nv' : Value} {m' : Nat} {ns : List Nd} {w' : World} {v : α} {e : Ending} (he : e = .returned (V v)) (hs : Rt b lb lo cap nv' L m' (N ++ ns) 0 0 w') (hk : Kp b nv nv' w w') (hm : m ≤ m') :
  RPost V Q b lb lo cap nv L m N w (.ok (v, m', ns)) e w' := ⟨he, nv', hs, hk, hm⟩
def isInt (v : Value) : Prop := ∃ z : Int, v = .int .i64 z
def isUnit (v : Value) : Prop := v = .tuple #[]
def isTok (v : Value) : Prop := ∃ (k a : Int) (s : ByteArray) (i : Int), v = .agg #[.int .i64 k, .int .i64 a, .string s, .int .i64 i]
end Go.Proofs.YtpoeknndkccbaaaGreat
