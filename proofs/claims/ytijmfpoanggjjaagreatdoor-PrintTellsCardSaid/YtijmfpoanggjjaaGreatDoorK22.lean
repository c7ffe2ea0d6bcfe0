/- Lemmas for the claim (texts Rar1, Rar2, Rar3, Rar4, Rar5, Rar6, what its proof uses of them). -/
import Derived.Test.YtijmfpoanggjjaaGreatDoorK03
import Derived.Test.YtijmfpoanggjjaaGreatDoorK06
set_option linter.unusedSimpArgs false
set_option linter.unusedVariables false
namespace Go.Proofs.YtijmfpoanggjjaaGreatDoor
open Go.RowKit
/-- the parser's block, and what hangs on it -/
structure Rt (b lb lo cap : Nat) (nv : Value) (L : Toks) (m : Nat) (N : List Nd) (e wh : Int) (w : World) : Prop where
 ends : Ends L
 blk : w.heap[b]? = some (.cells #[.slice (some ⟨lb, lo, none⟩) L.length cap, .int .i64 (m : Int), nv, .int .i64 e, .int .i64 wh] 132 (0, 0))
 toks : ToksAt lb lo L w
 row : w.ownsRow (b + 1) 34 8 nv N.length (qac N)
 low : lb < b
 pos : m < L.length
 cnt : N.length ≤ 512
theorem Rt.lt {b lb lo cap : Nat} {nv : Value} {L : Toks} {m : Nat} {N : List Nd} {ee wh : Int} {w : World} (h : Rt b lb lo cap nv L m N ee wh w) : b < w.heap.size :=
 (Array.getElem?_eq_some_iff.1 h.blk).1
theorem Rt.ext {b lb lo cap : Nat} {nv : Value} {L : Toks} {m : Nat} {N : List Nd} {ee wh : Int} {w w1 : World} (h : Rt b lb lo cap nv L m N ee wh w) (hx : Ext w w1) : Rt b lb lo cap nv L m N ee wh w1 := by
 have hb := hx.below
 refine ⟨h.ends, (hb.block b h.lt).trans h.blk, h.toks.of_block (hb.block lb (Nat.lt_trans h.low h.lt)), own_ext h.row hx, h.low, h.pos, h.cnt⟩
theorem Rt.alloc {b lb lo cap : Nat} {nv : Value} {L : Toks} {m : Nat} {N : List Nd} {ee wh : Int} {w : World} (h : Rt b lb lo cap nv L m N ee wh w) (o : Obj) : Rt b lb lo cap nv L m N ee wh (w.alloc o) := h.ext ((Ext.refl _).alloc o)
theorem Rt.more {b lb lo cap : Nat} {nv : Value} {L : Toks} {m : Nat} {N : List Nd} {ee wh : Int} {w : World} (h : Rt b lb lo cap nv L m N ee wh w) (d : Nat) (os : Array Obj) : Rt b lb lo cap nv L m N ee wh (more w d os) := h.ext ((Ext.refl _).more d os)
theorem Rt.rowNe {b lb lo cap : Nat} {nv : Value} {L : Toks} {m : Nat} {N : List Nd} {ee wh : Int} {w : World} (h : Rt b lb lo cap nv L m N ee wh w) {k : Nat} (hk : w.heap.size ≤ k) : nv.ownBlock ≠ some k := by
 intro e; have := (h.row.lt k e).2; omega
/-- a block that was just made -/
theorem Rt.loc {b lb lo cap : Nat} {nv : Value} {L : Toks} {m : Nat} {N : List Nd} {ee wh : Int} {w : World} (h : Rt b lb lo cap nv L m N ee wh w) (o : Obj) : Loc b nv w.heap.size o (w.alloc o) :=
 ⟨heap_alloc_new _ _, by have := h.lt; omega, h.rowNe (Nat.le_refl _)⟩
/-- how far is read is written down -/
theorem Rt.setAt {b lb lo cap : Nat} {nv : Value} {L : Toks} {m : Nat} {N : List Nd} {ee wh : Int} {w : World} (h : Rt b lb lo cap nv L m N ee wh w) (m' : Nat) (z : Int) (hz : z = m') (hm : m' < L.length) : Rt b lb lo cap nv L m' N ee wh (w.setCell ⟨b, 1, none⟩ (.int .i64 z)) := by
 subst hz
 refine ⟨h.ends, ?_, h.toks.of_block (heap_set_other _ _ _ _ _ (by have := h.low; omega)), ?_, h.low, hm, h.cnt⟩
 · simp [World.setCell, Array.getElem?_modify, h.blk]
 · refine h.row.kept (row := some b) ⟨rfl, rfl, rfl, by simp [World.setCell], fun j hj hn => heap_set_other _ _ _ _ _ (fun e => hn (by rw [e]))⟩ (Or.inr fun e => ?_)
   have := (h.row.lt b e).1; omega
/-- a node more is laid -/
theorem Rt.push {b lb lo cap : Nat} {nv v' : Value} {L : Toks} {m : Nat} {N : List Nd} {ee wh : Int} {w w1 : World} (h : Rt b lb lo cap nv L m N ee wh w) {z : Nd} (hown : w1.ownsRow (b + 1) 34 8 v' (N.length + 1) (qac N ++ ndL z)) (hg : w.grownBy w1 nv.ownBlock) (hn : N.length < 512) :
  Rt b lb lo cap v' L m (N ++ [z]) ee wh (w1.setCell ⟨b, 2, none⟩ v') := by
 have hb : nv.ownBlock ≠ some b := fun e => by have := (h.row.lt b e).1; omega
 have hl : nv.ownBlock ≠ some lb := fun e => by have := (h.row.lt lb e).1; have := h.low; omega
 have e1 : w1.heap[b]? = w.heap[b]? := ownBlock_kept hg h.lt hb
 have e2 : w1.heap[lb]? = w.heap[lb]? := ownBlock_kept hg (Nat.lt_trans h.low h.lt) hl
 refine ⟨h.ends, ?_, (h.toks.of_block e2).of_block (heap_set_other _ _ _ _ _ (by have := h.low; omega)), ?_, h.low, h.pos, by simp; omega⟩
 · have := h.blk
   simp [World.setCell, Array.getElem?_modify, e1, this]
 · have hc : qac (N ++ [z]) = qac N ++ ndL z := by rw [qaE]; simp [qac]
   rw [hc, List.length_append]
   refine hown.kept (row := some b) ⟨rfl, rfl, rfl, by simp [World.setCell], fun j hj hn => heap_set_other _ _ _ _ _ (fun e => hn (by rw [e]))⟩ (Or.inr fun e => ?_)
   have := (hown.lt b e).1; omega
theorem Rt.grownFacts {b lb lo cap : Nat} {nv : Value} {L : Toks} {m : Nat} {N : List Nd} {ee wh : Int} {w w1 : World} (h : Rt b lb lo cap nv L m N ee wh w) (hg : w.grownBy w1 nv.ownBlock) :
  w1.cell? ⟨b, 2, none⟩ = some nv ∧ w1.frozen? ⟨b, 2, none⟩ = false ∧ b < w1.heap.size := by
 have hb : nv.ownBlock ≠ some b := fun e => by have := (h.row.lt b e).1; omega
 have e1 : w1.heap[b]? = w.heap[b]? := ownBlock_kept hg h.lt hb
 have := h.blk
 refine ⟨?_, ?_, Nat.lt_of_lt_of_le h.lt hg.size⟩ <;> simp [World.cell?, World.frozen?, e1, this]
/-- what the walk reads of the block -/
theorem Rt.facts {b lb lo cap : Nat} {nv : Value} {L : Toks} {m : Nat} {N : List Nd} {ee wh : Int} {w : World} (h : Rt b lb lo cap nv L m N ee wh w) :
  w.cell? ⟨b, 0, none⟩ = some (.slice (some ⟨lb, lo, none⟩) L.length cap) ∧ w.cell? ⟨b, 1, none⟩ = some (.int .i64 (m : Int)) ∧ w.cell? ⟨b, 2, none⟩ = some nv ∧ w.cell? ⟨b, 3, none⟩ = some (.int .i64 ee) ∧ w.cell? ⟨b, 4, none⟩ = some (.int .i64 wh) ∧
  w.frozen? ⟨b, 1, none⟩ = false ∧ w.frozen? ⟨b, 2, none⟩ = false ∧ w.frozen? ⟨b, 3, none⟩ = false ∧ w.frozen? ⟨b, 4, none⟩ = false ∧ b < w.heap.size := by
 have := h.blk
 refine ⟨?_, ?_, ?_, ?_, ?_, ?_, ?_, ?_, ?_, h.lt⟩ <;> simp [World.cell?, World.frozen?, this]
theorem Rt.tokFacts {b lb lo cap : Nat} {nv : Value} {L : Toks} {m : Nat} {N : List Nd} {ee wh : Int} {w : World} (h : Rt b lb lo cap nv L m N ee wh w) :
  w.cell? ⟨lb, lo + m * 4, none⟩ = some (.int .i64 (tk L m).1.k) ∧ w.cell? ⟨lb, lo + m * 4 + 1, none⟩ = some (.int .i64 (tk L m).2) ∧
  w.cell? ⟨lb, lo + m * 4 + 2, none⟩ = some (.string (tk L m).1.s) ∧ w.cell? ⟨lb, lo + m * 4 + 3, none⟩ = some (.int .i64 (tk L m).1.i) ∧ lb < w.heap.size :=
 ⟨(h.toks m h.pos).1, (h.toks m h.pos).2.1, (h.toks m h.pos).2.2.1, (h.toks m h.pos).2.2.2, Nat.lt_trans h.low h.lt⟩
theorem Rt.next {b lb lo cap : Nat} {nv : Value} {L : Toks} {m : Nat} {N : List Nd} {ee wh : Int} {w : World} (h : Rt b lb lo cap nv L m N ee wh w) (hk : (tk L m).1.k ≠ 0) : m + 1 < L.length := by
 have h1 := h.ends.at_ m h.pos
 have h2 := h.pos
 rcases Nat.lt_or_ge (m + 1) L.length with h3 | h3
 · exact h3
 · exact absurd (h1.2 zal) hk
/-- what is wrong is written down -/
theorem Rt.setErr {b lb lo cap : Nat} {nv : Value} {L : Toks} {m : Nat} {N : List Nd} {ee wh : Int} {w : World} (h : Rt b lb lo cap nv L m N ee wh w) (c a : Int) (hc : c ≠ 0) :
  Rt b lb lo cap nv L m N c a ((w.setCell ⟨b, 3, none⟩ (.int .i64 c)).setCell ⟨b, 4, none⟩ (.int .i64 a)) := by
 refine ⟨h.ends, ?_, (h.toks.of_block (heap_set_other _ _ _ _ _ (by have := h.low; omega))).of_block (heap_set_other _ _ _ _ _ (by have := h.low; omega)), ?_, h.low, h.pos, h.cnt⟩
 · simp [World.setCell, Array.getElem?_modify, h.blk]
 · exact ownsRow_setCell_below (ownsRow_setCell_below h.row zbt _) zbt _
theorem Rt.cast {b lb lo cap : Nat} {nv : Value} {L : Toks} {m : Nat} {N N' : List Nd} {ee wh : Int} {w : World} (h : Rt b lb lo cap nv L m N ee wh w) (e : N = N') : Rt b lb lo cap nv L m N' ee wh w := e ▸ h
/-- what a way through tokens does to the document's parser -/
def RPost {α : Type} (V : α → Value) (Q : Value → Prop) (b lb lo cap : Nat) (nv : Value) (L : Toks) (m : Nat) (N : List Nd) (w : World) (r : PR α) (e : Ending) (w' : World) : Prop :=
 match r with
 | .error (c, a) => c ≠ 0 ∧ (∃ v, e = .returned v ∧ Q v) ∧ ∃ nv' m' N', Rt b lb lo cap nv' L m' N' c a w' ∧ Kp b nv nv' w w'
 | .ok (v, m', ns) => e = .returned (V v) ∧ ∃ nv', Rt b lb lo cap nv' L m' (N ++ ns) 0 0 w' ∧ Kp b nv nv' w w' ∧ m ≤ m'
theorem RPost.err {α : Type} {V : α → Value} {Q : Value → Prop} {b lb lo cap : Nat} {nv nv' : Value} {L : Toks} {m m' : Nat} {N N' : List Nd} {w w' : World} {c a : Int} {v : Value} (hc : c ≠ 0) (hq : Q v) (hs : Rt b lb lo cap nv' L m' N' c a w') (hk : Kp b nv nv' w w') : RPost V Q b lb lo cap nv L m N w (.error (c, a)) (.returned v) w' := ⟨hc, ⟨v, rfl, hq⟩, nv', m', N', hs, hk⟩
theorem RPost.res {α : Type} {V : α → Value} {Q : Value → Prop} {b lb lo cap : Nat} {nv nv' : Value} {L : Toks} {m m' : Nat} {N ns : List Nd} {w w' : World} {v : α} {e : Ending} (he : e = .returned (V v)) (hs : Rt b lb lo cap nv' L m' (N ++ ns) 0 0 w') (hk : Kp b nv nv' w w') (hm : m ≤ m') :
  RPost V Q b lb lo cap nv L m N w (.ok (v, m', ns)) e w' := ⟨he, nv', hs, hk, hm⟩
def isInt (v : Value) : Prop := ∃ z : Int, v = .int .i64 z
def isUnit (v : Value) : Prop := v = .tuple #[]
def isTok (v : Value) : Prop := ∃ (k a : Int) (s : ByteArray) (i : Int), v = .agg #[.int .i64 k, .int .i64 a, .string s, .int .i64 i]
end Go.Proofs.YtijmfpoanggjjaaGreatDoor

namespace Go.Proofs.YtijmfpoanggjjaaGreatDoor
open Go.RowKit
attribute [go_sem] more_more Array.size_append
set_option maxHeartbeats 1000000 in
theorem rfail_alive {b lb lo cap : Nat} {nv : Value} {L : Toks} {m : Nat} {N : List Nd} {w : World} {wh : Int} (h : Rt b lb lo cap nv L m N 0 wh w) (c : Int) :
  Calls Tryz.prog 84 #[.pointer (some ⟨b, 0, none⟩), .int .i64 c] w fun e w' => e = .returned (.tuple #[]) ∧ ∃ w1, Ext w w1 ∧ w' = (w1.setCell ⟨b, 3, none⟩ (.int .i64 c)).setCell ⟨b, 4, none⟩ (.int .i64 (tk L m).2) := by
 obtain ⟨c0, c1, c2, c3, c4, f1, f2, f3, f4, hb⟩ := h.facts
 obtain ⟨t0, t1, t2, t3, hlb⟩ := h.tokFacts
 have hp : (m : Int) < (L.length : Int) := by have := h.pos; omega
 have hp0 : 0 ≤ (m : Int) := by omega
 have hmx : (m : Int) ≤ 5000 := by have := h.ends.few; have := h.pos; omega
 have hne1 : lb ≠ b := by have := h.low; omega
 obtain ⟨⟨⟨k, ts, i⟩, a⟩, htt⟩ : ∃ tt, tk L m = tt := ⟨_, rfl⟩
 rw [htt] at t0 t1 t2 t3 ⊢
 dsimp only at t0 t1 t2 t3 ⊢
 clear htt h c2 f1 f2
 go_enter Tryz.func84, Tryz.ntmps84
 go_wp2_with fail
 refine qaa 14 27 [false, false, false, false, false, false, false, false, false, false, false, false, false, false] zam zam rfl ?_
 simp only [List.take_succ_cons, List.take_zero, List.drop_succ_cons, List.drop_zero]
 repeat (refine Lex.step rfl ?_; intro K hK; unfold StepG; go_simp; (first
   | refine hK _ ?_); clear hK K)
 refine Lex.nil fun WW hE => ?_
 obtain ⟨dd, oo, rfl⟩ := hE
 unfold FillH
 go_wp2_with fail
 rw [ends_normal]
 go_wp2_with fail
 go_end0
 exact ⟨rfl, more w dd oo, zac, by rw [qbr _ _ _ _ _ _ hb, qbr _ _ _ _ _ _ (by simpa using hb)]⟩
set_option maxHeartbeats 1000000 in
theorem qbw {b lb lo cap : Nat} {nv : Value} {L : Toks} {m : Nat} {N : List Nd} {w : World} {wh : Int} {ee : Int} (hee : ee ≠ 0) (h : Rt b lb lo cap nv L m N ee wh w) (c : Int) :
  Calls Tryz.prog 84 #[.pointer (some ⟨b, 0, none⟩), .int .i64 c] w fun e w' => e = .returned (.tuple #[]) ∧ Ext w w' := by
 obtain ⟨c0, c1, c2, c3, c4, f1, f2, f3, f4, hb⟩ := h.facts
 have q : (ee == 0) = false := by simpa using hee
 clear h c0 c1 c2 c4 f1 f2 f3 f4 hee
 go_enter Tryz.func84, Tryz.ntmps84
 go_wp2_with fail
 go_end0
 exact ⟨rfl, zac⟩
set_option maxHeartbeats 2000000 in
theorem qbd {b lb lo cap : Nat} {nv : Value} {L : Toks} {m : Nat} {N : List Nd} {w : World} {wh : Int} (h : Rt b lb lo cap nv L m N 0 wh w) (s : ByteArray) (hs : (s.size : Int) ≤ 100) :
  Calls Tryz.prog 139 #[.pointer (some ⟨b, 0, none⟩), .string s] w fun e w' => e = .returned (.bool (isP L s m)) ∧ Ext w w' := by
 obtain ⟨c0, c1, c2, c3, c4, f1, f2, f3, f4, hb⟩ := h.facts
 obtain ⟨t0, t1, t2, t3, hlb⟩ := h.tokFacts
 have hp : (m : Int) < (L.length : Int) := by have := h.pos; omega
 have hp0 : 0 ≤ (m : Int) := by omega
 have hmx : (m : Int) ≤ 5000 := by have := h.ends.few; have := h.pos; omega
 have hne1 : lb ≠ b := by have := h.low; omega
 obtain ⟨⟨⟨k, ts, i⟩, a⟩, htt⟩ : ∃ tt, tk L m = tt := ⟨_, rfl⟩
 have W := Lib.hid (rword_any s hs)
 cases hw : wordB s
 all_goals
  rw [hw] at W
  rw [isP_eq htt s _ hw]
  rw [htt] at t0 t1 t2 t3
  dsimp only at t0 t1 t2 t3 ⊢
  clear htt hw h c2 c4 f1 f2 f3 f4 hmx
 · by_cases hk : (k == 4) = true
   · rw [if_neg zbt, hk]
     go_enter Tryz.func139, Tryz.ntmps139
     go_wp2_with fail
     refine qaa 11 36 [false, false, false, false, false, false, false, false, false, false, false] zam zam rfl ?_
     simp only [List.take_succ_cons, List.take_zero, List.drop_succ_cons, List.drop_zero]
     iterate 10 (refine Lex.step rfl ?_; intro K hK; unfold StepG; go_simp; refine hK _ ?_; clear hK K)
     refine Lex.alloc 5 (.cells #[.int .i64 0, .int .i64 0, .string ⟨#[]⟩, .int .i64 0] 97) rfl rfl (fun d os => ?_) ?_
     · unfold StepG
       go_simp
       exact ⟨(Ext.refl _).alloc _, NewBlk.of_alloc _ _ _ _ _ zcn⟩
     refine Lex.nil fun WW hE => ?_
     intro u hu
     obtain ⟨dt1, ot1, dt2, ot2, rfl, rfl⟩ := hu.split hE
     clear hu hE
     go_simp
     unfold FillH
     go_wp2_with fail
     rw [ends_normal]
     go_wp2_with (go_at_call 108; refine (W.out _).mono ?_; rintro e _ ⟨rfl, d, os, rfl⟩)
     go_ret
     exact ⟨ret_bool zbt, zac⟩
   · have hk2 : (k == 4) = false := by simpa using hk
     clear hk
     rw [if_neg zbt, hk2]
     go_enter Tryz.func139, Tryz.ntmps139
     go_wp2_with fail
     refine qaa 11 36 [false, false, false, false, false, false, false, false, false, false, false] zam zam rfl ?_
     simp only [List.take_succ_cons, List.take_zero, List.drop_succ_cons, List.drop_zero]
     iterate 10 (refine Lex.step rfl ?_; intro K hK; unfold StepG; go_simp; refine hK _ ?_; clear hK K)
     refine Lex.alloc 5 (.cells #[.int .i64 0, .int .i64 0, .string ⟨#[]⟩, .int .i64 0] 97) rfl rfl (fun d os => ?_) ?_
     · unfold StepG
       go_simp
       exact ⟨(Ext.refl _).alloc _, NewBlk.of_alloc _ _ _ _ _ zcn⟩
     refine Lex.nil fun WW hE => ?_
     intro u hu
     obtain ⟨dt1, ot1, dt2, ot2, rfl, rfl⟩ := hu.split hE
     clear hu hE
     go_simp
     unfold FillH
     go_wp2_with fail
     rw [ends_normal]
     go_wp2_with (go_at_call 108; refine (W.out _).mono ?_; rintro e _ ⟨rfl, d, os, rfl⟩)
     go_ret
     exact ⟨ret_bool zbt, zac⟩
 · by_cases hk : (k == 5) = true
   · rw [if_pos rfl, hk]
     go_enter Tryz.func139, Tryz.ntmps139
     go_wp2_with fail
     refine qaa 11 36 [false, false, false, false, false, false, false, false, false, false, false] zam zam rfl ?_
     simp only [List.take_succ_cons, List.take_zero, List.drop_succ_cons, List.drop_zero]
     iterate 10 (refine Lex.step rfl ?_; intro K hK; unfold StepG; go_simp; refine hK _ ?_; clear hK K)
     refine Lex.alloc 5 (.cells #[.int .i64 0, .int .i64 0, .string ⟨#[]⟩, .int .i64 0] 97) rfl rfl (fun d os => ?_) ?_
     · unfold StepG
       go_simp
       exact ⟨(Ext.refl _).alloc _, NewBlk.of_alloc _ _ _ _ _ zcn⟩
     refine Lex.nil fun WW hE => ?_
     intro u hu
     obtain ⟨dt1, ot1, dt2, ot2, rfl, rfl⟩ := hu.split hE
     clear hu hE
     go_simp
     unfold FillH
     go_wp2_with fail
     rw [ends_normal]
     go_wp2_with (go_at_call 108; refine (W.out _).mono ?_; rintro e _ ⟨rfl, d, os, rfl⟩)
     go_ret
     exact ⟨ret_bool zbt, zac⟩
   · have hk2 : (k == 5) = false := by simpa using hk
     clear hk
     rw [if_pos rfl, hk2]
     go_enter Tryz.func139, Tryz.ntmps139
     go_wp2_with fail
     refine qaa 11 36 [false, false, false, false, false, false, false, false, false, false, false] zam zam rfl ?_
     simp only [List.take_succ_cons, List.take_zero, List.drop_succ_cons, List.drop_zero]
     iterate 10 (refine Lex.step rfl ?_; intro K hK; unfold StepG; go_simp; refine hK _ ?_; clear hK K)
     refine Lex.alloc 5 (.cells #[.int .i64 0, .int .i64 0, .string ⟨#[]⟩, .int .i64 0] 97) rfl rfl (fun d os => ?_) ?_
     · unfold StepG
       go_simp
       exact ⟨(Ext.refl _).alloc _, NewBlk.of_alloc _ _ _ _ _ zcn⟩
     refine Lex.nil fun WW hE => ?_
     intro u hu
     obtain ⟨dt1, ot1, dt2, ot2, rfl, rfl⟩ := hu.split hE
     clear hu hE
     go_simp
     unfold FillH
     go_wp2_with fail
     rw [ends_normal]
     go_wp2_with (go_at_call 108; refine (W.out _).mono ?_; rintro e _ ⟨rfl, d, os, rfl⟩)
     go_ret
     exact ⟨ret_bool zbt, zac⟩
set_option maxHeartbeats 2000000 in
theorem sees_dead {b lb lo cap : Nat} {nv : Value} {L : Toks} {m : Nat} {N : List Nd} {w : World} {wh : Int} {ee : Int} (hee : ee ≠ 0) (h : Rt b lb lo cap nv L m N ee wh w) (s : ByteArray) (hs : (s.size : Int) ≤ 100) :
  Calls Tryz.prog 139 #[.pointer (some ⟨b, 0, none⟩), .string s] w fun e w' => e = .returned (.bool false) ∧ Ext w w' := by
 obtain ⟨c0, c1, c2, c3, c4, f1, f2, f3, f4, hb⟩ := h.facts
 obtain ⟨t0, t1, t2, t3, hlb⟩ := h.tokFacts
 have hp : (m : Int) < (L.length : Int) := by have := h.pos; omega
 have hp0 : 0 ≤ (m : Int) := by omega
 have hmx : (m : Int) ≤ 5000 := by have := h.ends.few; have := h.pos; omega
 have hne1 : lb ≠ b := by have := h.low; omega
 obtain ⟨⟨⟨k, ts, i⟩, a⟩, htt⟩ : ∃ tt, tk L m = tt := ⟨_, rfl⟩
 have W := Lib.hid (rword_any s hs)
 have q : (ee == 0) = false := by simpa using hee
 cases hw : wordB s
 all_goals
  rw [hw] at W
  rw [htt] at t0 t1 t2 t3
  dsimp only at t0 t1 t2 t3 ⊢
  clear htt hw h c2 c4 f1 f2 f3 f4 hmx hee
  go_enter Tryz.func139, Tryz.ntmps139
  go_wp2_with fail
  refine qaa 11 36 [false, false, false, false, false, false, false, false, false, false, false] zam zam rfl ?_
  simp only [List.take_succ_cons, List.take_zero, List.drop_succ_cons, List.drop_zero]
  iterate 10 (refine Lex.step rfl ?_; intro K hK; unfold StepG; go_simp; refine hK _ ?_; clear hK K)
  refine Lex.alloc 5 (.cells #[.int .i64 0, .int .i64 0, .string ⟨#[]⟩, .int .i64 0] 97) rfl rfl (fun d os => ?_) ?_
  · unfold StepG
    go_simp
    exact ⟨(Ext.refl _).alloc _, NewBlk.of_alloc _ _ _ _ _ zcn⟩
  refine Lex.nil fun WW hE => ?_
  intro u hu
  obtain ⟨dt1, ot1, dt2, ot2, rfl, rfl⟩ := hu.split hE
  clear hu hE
  go_simp
  unfold FillH
  go_wp2_with fail
  rw [ends_normal]
  go_wp2_with (go_at_call 108; refine (W.out _).mono ?_; rintro e _ ⟨rfl, d, os, rfl⟩)
  go_ret
  exact ⟨rfl, zac⟩
theorem qbl {b lb lo cap : Nat} {nv : Value} {L : Toks} {m : Nat} {N : List Nd} {w : World} (h : Rt b lb lo cap nv L m N 0 0 w) (c : Int) (hc : c ≠ 0) :
  Calls Tryz.prog 84 #[.pointer (some ⟨b, 0, none⟩), .int .i64 c] w fun e w' => e = .returned (.tuple #[]) ∧ Rt b lb lo cap nv L m N c (tk L m).2 w' ∧ Kp b nv nv w w' :=
 (rfail_alive h c).mono fun e w' ⟨he, w1, hx, hw⟩ => ⟨he, hw ▸ (h.ext hx).setErr c _ hc, hw ▸ (((Kp.refl b nv w).ext hx).setB 3 _).setB 4 _⟩
set_option maxHeartbeats 1000000 in
theorem qcD {b lb lo cap : Nat} {nv : Value} {L : Toks} {m : Nat} {N : List Nd} {w : World} {wh : Int} {ee : Int} (hee : ee ≠ 0) (h : Rt b lb lo cap nv L m N ee wh w) (s : ByteArray) (hs : (s.size : Int) ≤ 100) :
  Calls Tryz.prog 127 #[.pointer (some ⟨b, 0, none⟩), .string s] w fun e w' => e = .returned (.bool false) ∧ Ext w w' := by
 have I := Lib.hid (sees_dead hee h s hs)
 clear h hee
 go_enter Tryz.func127, Tryz.ntmps127
 go_wp2_with ((go_at_call 139; (with_reducible refine I.out.mono ?_); rintro e _ ⟨rfl, d, os, rfl⟩))
 go_ret
 exact ⟨rfl, zac⟩
set_option maxHeartbeats 1000000 in
theorem qat {b lb lo cap : Nat} {nv : Value} {L : Toks} {m : Nat} {N : List Nd} {w : World} (h : Rt b lb lo cap nv L m N 0 0 w) (s : ByteArray) (hs : (s.size : Int) ≤ 100) (hn : isP L s m = false) :
  Calls Tryz.prog 127 #[.pointer (some ⟨b, 0, none⟩), .string s] w fun e w' => e = .returned (.bool false) ∧ Ext w w' := by
 have I := Lib.hid (qbd h s hs)
 rw [hn] at I
 clear hn h
 go_enter Tryz.func127, Tryz.ntmps127
 go_wp2_with ((go_at_call 139; (with_reducible refine I.out.mono ?_); rintro e _ ⟨rfl, d, os, rfl⟩))
 go_ret
 exact ⟨rfl, zac⟩
set_option maxHeartbeats 1000000 in
theorem qbn {b lb lo cap : Nat} {nv : Value} {L : Toks} {m : Nat} {N : List Nd} {w : World} (h : Rt b lb lo cap nv L m N 0 0 w) (s : ByteArray) (hs : (s.size : Int) ≤ 100) (hn : isP L s m = true) :
  Calls Tryz.prog 127 #[.pointer (some ⟨b, 0, none⟩), .string s] w fun e w' => e = .returned (.bool true) ∧ Rt b lb lo cap nv L (m + 1) N 0 0 w' ∧ Kp b nv nv w w' := by
 have I := Lib.hid (qbd h s hs)
 have H := Lib.hid h
 have NX := Lib.hid (h.next (isP_ne hn))
 rw [hn] at I
 have hm : (m : Int) ≤ 5000 := by have := h.ends.few; have := h.pos; omega
 have hm0 : 0 ≤ (m : Int) := by omega
 obtain ⟨c0, c1, c2, c3, c4, f1, f2, f3, f4, hb⟩ := h.facts
 clear hn h c0 c2 c3 c4 f2 f3 f4
 go_enter Tryz.func127, Tryz.ntmps127
 go_wp2_with ((go_at_call 139; (with_reducible refine I.out.mono ?_); rintro e _ ⟨rfl, d, os, rfl⟩))
 go_ret
 exact ⟨rfl, by rw [← qbr _ _ _ _ _ _ hb]; exact (H.out.more d os).setAt (m + 1) _ zal NX.out, by rw [← qbr _ _ _ _ _ _ hb]; exact ((Kp.refl b nv w).more d os).setB 1 _⟩
set_option maxHeartbeats 1000000 in
theorem qam {b lb lo cap : Nat} {nv : Value} {L : Toks} {m : Nat} {N : List Nd} {w : World} {wh : Int} {ee : Int} (hee : ee ≠ 0) (h : Rt b lb lo cap nv L m N ee wh w) (s : ByteArray) (hs : (s.size : Int) ≤ 100) :
  Calls Tryz.prog 123 #[.pointer (some ⟨b, 0, none⟩), .string s] w fun e w' => e = .returned (.tuple #[]) ∧ Ext w w' := by
 have I := Lib.hid (qcD hee h s hs)
 have FL : RowKit.Hid (∀ (c : Int) w1, Ext w w1 → Calls Tryz.prog 84 #[.pointer (some ⟨b, 0, none⟩), .int .i64 c] w1 fun e w' => e = .returned (.tuple #[]) ∧ Ext w1 w') := Lib.hid fun c w1 hx => qbw hee (h.ext hx) c
 clear h hee
 go_enter Tryz.func123, Tryz.ntmps123
 go_wp2_with (first
  | ((go_at_call 127; (with_reducible refine I.out.mono ?_); rintro e _ ⟨rfl, d, os, rfl⟩))
  | ((go_at_call 84; (with_reducible refine (FL.out _ _ zac).mono ?_); rintro e _ ⟨rfl, d2, os2, rfl⟩)))
 go_end0
 exact ⟨rfl, zac⟩
set_option maxHeartbeats 1000000 in
theorem need_any {b lb lo cap : Nat} {nv : Value} {L : Toks} {m : Nat} {N : List Nd} {w : World} (h : Rt b lb lo cap nv L m N 0 0 w) (s : ByteArray) (hs : (s.size : Int) ≤ 100) (r : PR Unit) (hr : must1 L s m N.length = r) :
  Calls Tryz.prog 123 #[.pointer (some ⟨b, 0, none⟩), .string s] w (RPost unitV isUnit b lb lo cap nv L m N w r) := by
 unfold must1 at hr
 cases hn : isP L s m
 · rw [hn, if_neg zbt] at hr
   subst hr
   have I := Lib.hid (qat h s hs hn)
   have FL : RowKit.Hid (∀ w1, Ext w w1 → Calls Tryz.prog 84 #[.pointer (some ⟨b, 0, none⟩), .int .i64 3] w1 fun e w' => e = .returned (.tuple #[]) ∧ Rt b lb lo cap nv L m N 3 (tk L m).2 w' ∧ Kp b nv nv w1 w') := Lib.hid fun w1 hx => qbl (h.ext hx) 3 zaq
   clear h hn
   go_enter Tryz.func123, Tryz.ntmps123
   go_wp2_with (first
    | ((go_at_call 127; (with_reducible refine I.out.mono ?_); rintro e _ ⟨rfl, d, os, rfl⟩))
    | ((go_at_call 84; (with_reducible refine (FL.out _ zac).mono ?_); rintro e w2 ⟨rfl, hs2, hk2⟩; have HS2 := Lib.hid hs2; have HK2 := Lib.hid hk2; clear hs2 hk2)))
   go_end0
   exact RPost.err zaq rfl HS2.out (((Kp.refl b nv w).more _ _).trans HK2.out)
 · rw [hn, if_pos rfl] at hr
   subst hr
   have I := Lib.hid (qbn h s hs hn)
   clear h hn
   go_enter Tryz.func123, Tryz.ntmps123
   go_wp2_with ((go_at_call 127; (with_reducible refine I.out.mono ?_); rintro e w2 ⟨rfl, hs2, hk2⟩; have HS2 := Lib.hid hs2; have HK2 := Lib.hid hk2; clear hs2 hk2))
   go_end0
   exact RPost.res rfl (HS2.out.cast (List.append_nil N).symm) HK2.out (Nat.le_succ _)
set_option maxHeartbeats 1000000 in
theorem qal (k a c : Int) (w : World) : Calls Tryz.prog 122 #[.int .i64 k, .int .i64 a, .int .i64 c] w fun e w' => e = .returned (.agg #[.int .i64 k, .int .i64 a, .int .i64 c, .int .i64 (-1), .int .i64 (-1), .int .i64 0, .string ⟨#[]⟩, .string ⟨#[]⟩]) ∧ Ext w w' := by
 go_enter Tryz.func122, Tryz.ntmps122
 go_wp2_with fail
 exact bodyPost_ret (v := .agg #[.int .i64 k, .int .i64 a, .int .i64 c, .int .i64 (-1), .int .i64 (-1), .int .i64 0, .string ⟨#[]⟩, .string ⟨#[]⟩]) (by simp [results, Tryz.results122, go_sem]) rfl ⟨rfl, zac⟩
end Go.Proofs.YtijmfpoanggjjaaGreatDoor

namespace Go.Proofs.YtijmfpoanggjjaaGreatDoor
open Go.RowKit
attribute [go_sem] more_more Array.size_append
theorem qem {b lb lo cap : Nat} {nv : Value} {L : Toks} {m : Nat} {N : List Nd} {ee wh : Int} {w : World} (h : Rt b lb lo cap nv L m N ee wh w) : ∃ len c p, nv = .slice p len c ∧ len = N.length := by
 rcases Go.Joins.ownsRow_forms h.row with ⟨rfl, h0⟩ | ⟨g1, c, rfl⟩
 · exact ⟨_, _, _, rfl, h0.symm⟩
 · exact ⟨_, _, _, rfl, rfl⟩
theorem Rt.setAny {b lb lo cap : Nat} {nv : Value} {L : Toks} {m : Nat} {N : List Nd} {ee wh : Int} {w : World} (h : Rt b lb lo cap nv L m N ee wh w) {k : Nat} (hb : k ≠ b) (hl : lb ≠ k) (hr : nv.ownBlock ≠ some k) (i : Nat) (v : Value) :
  Rt b lb lo cap nv L m N ee wh (w.setCell ⟨k, i, none⟩ v) := by
 refine ⟨h.ends, by rw [heap_set_other _ _ _ _ _ hb.symm]; exact h.blk, h.toks.of_block (heap_set_other _ _ _ _ _ hl), ?_, h.low, h.pos, h.cnt⟩
 exact h.row.kept (row := some k) ⟨rfl, rfl, rfl, by simp [World.setCell], fun j hj hn => heap_set_other _ _ _ _ _ (fun e => hn (by rw [e]))⟩ (Or.inr hr)
theorem Loc.four {b : Nat} {nv : Value} {k : Nat} {w : World} {v0 v1 v2 v3 : Value} {t : TypeId} (h : Loc b nv k (.cells #[v0, v1, v2, v3] t (0, 0)) w) : w.cell? ⟨k, 0, none⟩ = some v0 ∧ w.cell? ⟨k, 1, none⟩ = some v1 ∧ w.cell? ⟨k, 2, none⟩ = some v2 ∧ w.cell? ⟨k, 3, none⟩ = some v3 ∧
  w.frozen? ⟨k, 0, none⟩ = false ∧ w.frozen? ⟨k, 1, none⟩ = false ∧ w.frozen? ⟨k, 2, none⟩ = false ∧ w.frozen? ⟨k, 3, none⟩ = false ∧ k < w.heap.size := by
 have := h.is
 refine ⟨?_, ?_, ?_, ?_, ?_, ?_, ?_, ?_, h.lt⟩ <;> simp [World.cell?, World.frozen?, this]
set_option maxHeartbeats 2000000 in
theorem qcy {b lb lo cap : Nat} {nv : Value} {L : Toks} {m : Nat} {N : List Nd} {w : World} {wh : Int} {ee : Int} (hee : ee ≠ 0) (h : Rt b lb lo cap nv L m N ee wh w) (k0 : Int) :
  Calls Tryz.prog 121 #[.pointer (some ⟨b, 0, none⟩), .int .i64 k0] w fun e w' => e = .returned (.agg #[.int .i64 0, .int .i64 0, .string ⟨#[]⟩, .int .i64 0]) ∧ Ext w w' := by
 have FL : RowKit.Hid (∀ (c : Int) w1, Ext w w1 → Calls Tryz.prog 84 #[.pointer (some ⟨b, 0, none⟩), .int .i64 c] w1 fun e w' => e = .returned (.tuple #[]) ∧ Ext w1 w') := Lib.hid fun c w1 hx => qbw hee (h.ext hx) c
 obtain ⟨c0, c1, c2, c3, c4, f1, f2, f3, f4, hb⟩ := h.facts
 obtain ⟨t0, t1, t2, t3, hlb⟩ := h.tokFacts
 have hp : (m : Int) < (L.length : Int) := by have := h.pos; omega
 have hp0 : 0 ≤ (m : Int) := by omega
 have hmx : (m : Int) ≤ 5000 := by have := h.ends.few; have := h.pos; omega
 have hne1 : lb ≠ b := by have := h.low; omega
 obtain ⟨⟨⟨k, ts, i⟩, a⟩, htt⟩ : ∃ tt, tk L m = tt := ⟨_, rfl⟩
 rw [htt] at t0 t1 t2 t3
 dsimp only at t0 t1 t2 t3
 have q : (ee != 0) = true := by simpa using hee
 clear htt h c2 c4 f1 f2 f3 f4 hmx hee
 cases hk : (k != k0)
 all_goals
  go_enter Tryz.func121, Tryz.ntmps121
  go_wp2_with fail
  refine qaa 11 36 [false, false, false, false, false, false, false, false, false, false, false] zam zam rfl ?_
  simp only [List.take_succ_cons, List.take_zero, List.drop_succ_cons, List.drop_zero]
  iterate 10 (refine Lex.step rfl ?_; intro K hK; unfold StepG; go_simp; refine hK _ ?_; clear hK K)
  refine Lex.alloc 5 (.cells #[.int .i64 0, .int .i64 0, .string ⟨#[]⟩, .int .i64 0] 97) rfl rfl (fun d os => ?_) ?_
  · unfold StepG
    go_simp
    exact ⟨(Ext.refl _).alloc _, NewBlk.of_alloc _ _ _ _ _ zcn⟩
  refine Lex.nil fun WW hE => ?_
  intro u hu
  obtain ⟨dt1, ot1, dt2, ot2, rfl, rfl⟩ := hu.split hE
  clear hu hE
  go_simp
  unfold FillH
  go_wp2_with fail
  rw [ends_normal]
  go_wp2_with ((go_at_call 84; (with_reducible refine (FL.out _ _ zac).mono ?_); rintro e _ ⟨rfl, d2, os2, rfl⟩))
  exact bodyPost_ret (v := (.agg #[.int .i64 0, .int .i64 0, .string ⟨#[]⟩, .int .i64 0])) (by simp [results, Tryz.results121, go_sem]) rfl ⟨rfl, zac⟩
set_option maxHeartbeats 2000000 in
theorem qaT {b lb lo cap : Nat} {nv : Value} {L : Toks} {m : Nat} {N : List Nd} {w : World} (h : Rt b lb lo cap nv L m N 0 0 w) (k0 : Int) (h0 : k0 ≠ 0) (r : PR Tok) (hr : ofP L k0 m N.length = r) :
  Calls Tryz.prog 121 #[.pointer (some ⟨b, 0, none⟩), .int .i64 k0] w (RPost (fun t => tokV t (tk L m).2) isTok b lb lo cap nv L m N w r) := by
 have FL : RowKit.Hid (∀ w1, Ext w w1 → Calls Tryz.prog 84 #[.pointer (some ⟨b, 0, none⟩), .int .i64 3] w1 fun e w' => e = .returned (.tuple #[]) ∧ Rt b lb lo cap nv L m N 3 (tk L m).2 w' ∧ Kp b nv nv w1 w') := Lib.hid fun w1 hx => qbl (h.ext hx) 3 zaq
 obtain ⟨c0, c1, c2, c3, c4, f1, f2, f3, f4, hb⟩ := h.facts
 obtain ⟨t0, t1, t2, t3, hlb⟩ := h.tokFacts
 have hp : (m : Int) < (L.length : Int) := by have := h.pos; omega
 have hp0 : 0 ≤ (m : Int) := by omega
 have hmx : (m : Int) ≤ 5000 := by have := h.ends.few; have := h.pos; omega
 have hne1 : lb ≠ b := by have := h.low; omega
 have hnx : (tk L m).1.k = k0 → m + 1 < L.length := fun e => h.next (by rw [e]; exact h0)
 have H := Lib.hid h
 have LZ := Lib.hid (h.loc (.cells #[.int .i64 0, .int .i64 0, .string ⟨#[]⟩, .int .i64 0] 97 (0, 0)))
 obtain ⟨⟨⟨k, ts, i⟩, a⟩, htt⟩ : ∃ tt, tk L m = tt := ⟨_, rfl⟩
 unfold ofP at hr
 rw [htt] at t0 t1 t2 t3 hr hnx FL ⊢
 unfold tokV
 dsimp only at t0 t1 t2 t3 hr hnx FL ⊢
 clear htt h c2 c4 f2 f3 f4
 by_cases hk : k = k0
 · rw [if_pos hk] at hr
   have NX := Lib.hid (hnx hk)
   subst hk
   subst hr
   clear hnx
   have hkk : (k != k) = false := by simp
   go_enter Tryz.func121, Tryz.ntmps121
   go_wp2_with fail
   refine qaa 11 36 [false, false, false, false, false, false, false, false, false, false, false] zam zam rfl ?_
   simp only [List.take_succ_cons, List.take_zero, List.drop_succ_cons, List.drop_zero]
   iterate 10 (refine Lex.step rfl ?_; intro K hK; unfold StepG; go_simp; refine hK _ ?_; clear hK K)
   refine Lex.alloc 5 (.cells #[.int .i64 0, .int .i64 0, .string ⟨#[]⟩, .int .i64 0] 97) rfl rfl (fun d os => ?_) ?_
   · unfold StepG
     go_simp
     exact ⟨(Ext.refl _).alloc _, NewBlk.of_alloc _ _ _ _ _ zcn⟩
   refine Lex.nil fun WW hE => ?_
   intro u hu
   obtain ⟨dt1, ot1, dt2, ot2, rfl, rfl⟩ := hu.split hE
   clear hu hE
   go_simp
   unfold FillH
   go_wp2_with fail
   rw [ends_normal]
   go_wp2_with fail
   refine bodyPost_ret (v := .agg #[.int .i64 k, .int .i64 a, .string ts, .int .i64 i]) (by simp [results, Tryz.results121, go_sem]) rfl ?_
   refine RPost.res (nv' := nv) rfl (Rt.cast (N := N) ?_ (List.append_nil N).symm) ?_ (Nat.le_succ _)
   · have HS := Lib.hid (H.out.setAt (m + 1) ((m : Int) + 1) zal NX.out)
     repeat (first | (with_reducible exact HS.out) | (with_reducible apply Rt.alloc) | (with_reducible apply Rt.more))
   · have HK := Lib.hid ((Kp.refl b nv w).setB 1 (.int .i64 ((m : Int) + 1)))
     repeat (first | (with_reducible exact HK.out) | (with_reducible apply Kp.alloc) | (with_reducible apply Kp.more))
 · rw [if_neg hk] at hr
   subst hr
   have hkk : (k != k0) = true := by simpa using hk
   clear hnx hk
   go_enter Tryz.func121, Tryz.ntmps121
   go_wp2_with fail
   refine qaa 11 36 [false, false, false, false, false, false, false, false, false, false, false] zam zam rfl ?_
   simp only [List.take_succ_cons, List.take_zero, List.drop_succ_cons, List.drop_zero]
   iterate 10 (refine Lex.step rfl ?_; intro K hK; unfold StepG; go_simp; refine hK _ ?_; clear hK K)
   refine Lex.alloc 5 (.cells #[.int .i64 0, .int .i64 0, .string ⟨#[]⟩, .int .i64 0] 97) rfl rfl (fun d os => ?_) ?_
   · unfold StepG
     go_simp
     exact ⟨(Ext.refl _).alloc _, NewBlk.of_alloc _ _ _ _ _ zcn⟩
   refine Lex.nil fun WW hE => ?_
   intro u hu
   obtain ⟨dt1, ot1, dt2, ot2, rfl, rfl⟩ := hu.split hE
   clear hu hE
   go_simp
   unfold FillH
   go_wp2_with fail
   rw [ends_normal]
   go_wp2_with ((go_at_call 84; refine (FL.out _ zac).mono ?_; rintro e w2 ⟨rfl, hs2, hk2⟩; have HS2 := Lib.hid hs2; have HK2 := Lib.hid hk2; have L2 := Loc.kp (show Loc b nv w.heap.size (.cells #[.int .i64 0, .int .i64 0, .string ⟨#[]⟩, .int .i64 0] 97 (0, 0)) _ from by repeat (first | (with_reducible exact LZ.out) | (with_reducible apply Loc.alloc) | (with_reducible apply Loc.more))) hk2; clear hs2 hk2; obtain ⟨u0, u1, u2, u3, u4, y0, y1, y2, y3, hbb⟩ := HS2.out.facts; obtain ⟨x0, x1, x2, x3, g0, g1, g2, g3, hx⟩ := L2.four; have L2 := Lib.hid L2; clear u0 u1 u2 u4))
   have HKW := Lib.hid (((Kp.refl b nv w).ext zac).trans HK2.out)
   exact bodyPost_ret (v := (.agg #[.int .i64 0, .int .i64 0, .string ⟨#[]⟩, .int .i64 0])) (by simp [results, Tryz.results121, go_sem, x0, x1, x2, x3, hx]) rfl (RPost.err zaq ⟨_, _, _, _, rfl⟩ (nv' := nv) (m' := m) (N' := N) (by repeat (first | (with_reducible exact HS2.out) | (refine Rt.setAny ?_ L2.out.ne (by have := HS2.out.low; have := H.out.lt; have := H.out.low; omega) L2.out.nr _ _))) (by repeat (first | (with_reducible exact HKW.out) | (refine Kp.setNew ?_ (Nat.le_refl _) _ _))))
set_option maxHeartbeats 2000000 in
theorem qad {b lb lo cap : Nat} {nv : Value} {L : Toks} {m : Nat} {N : List Nd} {w : World} {wh : Int} {ee : Int} (hee : ee ≠ 0) (h : Rt b lb lo cap nv L m N ee wh w) (zk za zb zc zx zi : Int) (zs zt : ByteArray) :
  Calls Tryz.prog 125 #[.pointer (some ⟨b, 0, none⟩), .agg #[.int .i64 zk, .int .i64 za, .int .i64 zb, .int .i64 zc, .int .i64 zx, .int .i64 zi, .string zs, .string zt]] w fun e w' => e = .returned (.int .i64 (-1)) ∧ Ext w w' := by
 have FL : RowKit.Hid (∀ (c : Int) w1, Ext w w1 → Calls Tryz.prog 84 #[.pointer (some ⟨b, 0, none⟩), .int .i64 c] w1 fun e w' => e = .returned (.tuple #[]) ∧ Ext w1 w') := Lib.hid fun c w1 hx => qbw hee (h.ext hx) c
 obtain ⟨len, c, p, rfl, hlen⟩ := qem h
 have hcnt := h.cnt
 subst hlen
 have hcnt2 : (N.length : Int) ≤ 512 := by omega
 obtain ⟨c0, c1, c2, c3, c4, f1, f2, f3, f4, hb⟩ := h.facts
 have q : (ee != 0) = true := by simpa using hee
 clear h c0 c1 c4 f1 f2 f3 f4 hee hcnt
 by_cases h5 : 512 ≤ (N.length : Int)
 · have h6 : ((512 : Int) ≤ (N.length : Int)) = True := eq_true h5
   clear h5 hcnt2
   go_enter Tryz.func125, Tryz.ntmps125
   go_wp2_with ((go_at_call 84; (with_reducible refine (FL.out _ _ zac).mono ?_); rintro e _ ⟨rfl, d2, os2, rfl⟩))
   go_ret
   exact ⟨rfl, zac⟩
 · have h6 : ((512 : Int) ≤ (N.length : Int)) = False := eq_false h5
   clear h5 hcnt2
   go_enter Tryz.func125, Tryz.ntmps125
   go_wp2_with ((go_at_call 84; (with_reducible refine (FL.out _ _ zac).mono ?_); rintro e _ ⟨rfl, d2, os2, rfl⟩))
   go_ret
   exact ⟨rfl, zac⟩
set_option maxHeartbeats 2000000 in
set_option maxRecDepth 20000 in
theorem qaw {b lb lo cap : Nat} {nv : Value} {L : Toks} {m : Nat} {N : List Nd} {w : World} (h : Rt b lb lo cap nv L m N 0 0 w) (zk za zb zc zx zi : Int) (zs zt : ByteArray) (r : PR Int) (hr : layP L ⟨zk, za, zb, zc, zx, zi, zs, zt⟩ m N.length = r) :
  Calls Tryz.prog 125 #[.pointer (some ⟨b, 0, none⟩), .agg #[.int .i64 zk, .int .i64 za, .int .i64 zb, .int .i64 zc, .int .i64 zx, .int .i64 zi, .string zs, .string zt]] w (RPost intV isInt b lb lo cap nv L m N w r) := by
 have FL : RowKit.Hid (∀ w1, Ext w w1 → Calls Tryz.prog 84 #[.pointer (some ⟨b, 0, none⟩), .int .i64 5] w1 fun e w' => e = .returned (.tuple #[]) ∧ Rt b lb lo cap nv L m N 5 (tk L m).2 w' ∧ Kp b nv nv w1 w') := Lib.hid fun w1 hx => qbl (h.ext hx) 5 zaq
 obtain ⟨len, c, p, rfl, hlen⟩ := qem h
 have hcnt := h.cnt
 subst hlen
 have H := Lib.hid h
 obtain ⟨c0, c1, c2, c3, c4, f1, f2, f3, f4, hb⟩ := h.facts
 unfold layP at hr
 by_cases h5 : N.length = 512
 · rw [if_pos h5] at hr
   subst hr
   have q5 : ((512 : Int) ≤ (N.length : Int)) = True := eq_true zal
   clear h h5 c0 c1 c3 c4 f1 f3 f4 hcnt
   go_enter Tryz.func125, Tryz.ntmps125
   go_wp2_with ((go_at_call 84; refine (FL.out _ zac).mono ?_; rintro e w2 ⟨rfl, hs2, hk2⟩; have HS2 := Lib.hid hs2; have HK2 := Lib.hid hk2; clear hs2 hk2; obtain ⟨u0, u1, u2, u3, u4, y0, y1, y2, y3, hbb⟩ := HS2.out.facts; clear u0 u1 u2 u4))
   go_ret
   exact RPost.err zaq ⟨_, rfl⟩ HS2.out (((Kp.refl b _ w).ext zac).trans HK2.out)
 · rw [if_neg h5] at hr
   subst hr
   have q5 : ((512 : Int) ≤ (N.length : Int)) = False := eq_false zal
   have h512 : N.length < 512 := by omega
   have H5 := Lib.hid h512
   have hmx : (N.length : Int) ≤ 511 := by omega
   obtain ⟨i0, hi, hz0, hz1, hz2⟩ := info_parts ndInfo
   clear h h5 c0 c1 c4 f1 f3 f4 h512 hcnt FL
   go_enter Tryz.func125, Tryz.ntmps125
   go_wp2_with fail
   refine qaa 7 34 [true, false, false, false, false, false, false] zam zam rfl ?_
   simp only [List.take_succ_cons, List.take_zero, List.drop_succ_cons, List.drop_zero]
   refine Lex.stepP rfl rfl ?_; intro K hK; go_simp; refine hK _ ?_; clear hK K
   iterate 5 (refine Lex.step rfl ?_; intro K hK; unfold StepG; go_simp; refine hK _ ?_; clear hK K)
   refine Lex.sliceLit 24 (.cells #[.int .i64 zk, .int .i64 za, .int .i64 zb, .int .i64 zc, .int .i64 zx, .int .i64 zi, .string zs, .string zt] 34) 1 1 rfl rfl (fun d os => ?_) ?_
   · unfold StepG
     go_simp
     exact ⟨(Ext.refl _).alloc _, NewSl.of_alloc _ _ _ _ _ _ _ zcn⟩
   refine Lex.nil fun WW hE => ?_
   intro u hu
   obtain ⟨d1, os1, d2, os2, rfl, rfl⟩ := hu.split hE
   clear hu hE
   go_simp
   unfold FillH
   go_wp2_with (at_builtin; refine wpList_append_own_at _ rfl _ _ 22 rfl (b + 1) 34 i0 (.agg #[.int .i64 0, .int .i64 0, .int .i64 0, .int .i64 0, .int .i64 0, .int .i64 0, .string ⟨#[]⟩, .string ⟨#[]⟩]) 8 80 Tryz.underlying22 hi hz0 hz1 hz2 rfl zaq (.slice p N.length c) N.length (qac N) rfl ?c0 ⟨_, 0, none⟩ 1 1 [.int .i64 zk, .int .i64 za, .int .i64 zb, .int .i64 zc, .int .i64 zx, .int .i64 zi, .string zs, .string zt] rfl rfl ?c1 ?c2 ?c3 ?c4 ?c5 ?_)
   case c0 => repeat (first | (with_reducible exact H.out.row) | (with_reducible apply own_more) | (with_reducible refine World.ownsRow.alloc ?_ _))
   case c1 => exact news_splitP zcn
   case c2 => intro u hu; simp at hu; rcases hu with rfl | rfl | rfl | rfl | rfl | rfl | rfl | rfl <;> rfl
   case c3 => unfold maxLen; omega
   case c4 => omega
   case c5 => simp [more_size]; omega
   intro v' w1 hown' hgrow _ hblk
   have HS : RowKit.Hid (Rt b lb lo cap v' L m (N ++ [⟨zk, za, zb, zc, zx, zi, zs, zt⟩]) 0 0 (w1.setCell ⟨b, 2, none⟩ v')) := Lib.hid (Rt.push (by repeat (first | (with_reducible exact H.out) | (with_reducible apply Rt.alloc) | (with_reducible apply Rt.more))) hown' hgrow H5.out)
   have HK : RowKit.Hid (Kp b (.slice p N.length c) v' w (w1.setCell ⟨b, 2, none⟩ v')) := Lib.hid (Kp.push (by repeat (first | (with_reducible exact Kp.refl _ _ _) | (with_reducible apply Kp.alloc) | (with_reducible apply Kp.more))) hgrow (by simp only [more_size, World.size_alloc]; exact hblk))
   obtain ⟨hc2, hb1, hb2⟩ := Rt.grownFacts (show Rt b lb lo cap (.slice p N.length c) L m N 0 0 _ from by repeat (first | (with_reducible exact H.out) | (with_reducible apply Rt.alloc) | (with_reducible apply Rt.more))) hgrow
   have hb3 : ∃ g cap1, v' = .slice (some ⟨g, 0, none⟩) (N.length + 1) cap1 := by obtain ⟨g1, cap1, rfl, _, _⟩ := hown'.form zal; exact ⟨_, _, rfl⟩
   obtain ⟨g1, cap1, rfl⟩ := hb3
   clear hown' hgrow hblk
   go_wp2_with fail
   first | rw [ends_normal] | skip
   go_wp2_with fail
   go_ret
   exact RPost.res (by first | rfl | (show Ending.returned (.int .i64 _) = _; exact ret_int zal)) HS.out HK.out (Nat.le_refl _)
end Go.Proofs.YtijmfpoanggjjaaGreatDoor

namespace Go.Proofs.YtijmfpoanggjjaaGreatDoor
open Go.RowKit
attribute [go_sem] more_more Array.size_append
set_option maxHeartbeats 2000000 in
theorem qaV {b lb lo cap : Nat} {nv : Value} {L : Toks} {m : Nat} {N : List Nd} {w : World} {wh : Int} {ee : Int} (hee : ee ≠ 0) (h : Rt b lb lo cap nv L m N ee wh w) :
  Calls Tryz.prog 128 #[.pointer (some ⟨b, 0, none⟩)] w fun e w' => e = .returned (.int .i64 0) ∧ Ext w w' := by
 have FL : RowKit.Hid (∀ (c : Int) w1, Ext w w1 → Calls Tryz.prog 84 #[.pointer (some ⟨b, 0, none⟩), .int .i64 c] w1 fun e w' => e = .returned (.tuple #[]) ∧ Ext w1 w') := Lib.hid fun c w1 hx => qbw hee (h.ext hx) c
 have KD : RowKit.Hid (∀ (c : Int) w1, Ext w w1 → Calls Tryz.prog 121 #[.pointer (some ⟨b, 0, none⟩), .int .i64 c] w1 fun e w' => e = .returned (.agg #[.int .i64 0, .int .i64 0, .string ⟨#[]⟩, .int .i64 0]) ∧ Ext w1 w') := Lib.hid fun c w1 hx => qcy hee (h.ext hx) c
 obtain ⟨c0, c1, c2, c3, c4, f1, f2, f3, f4, hb⟩ := h.facts
 obtain ⟨t0, t1, t2, t3, hlb⟩ := h.tokFacts
 have hp : (m : Int) < (L.length : Int) := by have := h.pos; omega
 have hp0 : 0 ≤ (m : Int) := by omega
 have hne1 : lb ≠ b := by have := h.low; omega
 obtain ⟨⟨⟨k, ts, i⟩, a⟩, htt⟩ : ∃ tt, tk L m = tt := ⟨_, rfl⟩
 rw [htt] at t0 t1 t2 t3
 dsimp only at t0 t1 t2 t3
 clear htt h c2 c4 f1 f2 f3 f4 hee
 cases hk : (k == 2)
 · 
   go_enter Tryz.func128, Tryz.ntmps128
   go_wp2_with fail
   refine qaa 11 27 [false, false, false, false, false, false, false, false, false, false, false] zam zam rfl ?_
   simp only [List.take_succ_cons, List.take_zero, List.drop_succ_cons, List.drop_zero]
   iterate 10 (refine Lex.step rfl ?_; intro K hK; unfold StepG; go_simp; refine hK _ ?_; clear hK K)
   refine Lex.alloc 3 (.cells #[.int .i64 0, .int .i64 0, .string ⟨#[]⟩, .int .i64 0] 97) rfl rfl (fun d os => ?_) ?_
   · unfold StepG
     go_simp
     exact ⟨(Ext.refl _).alloc _, NewBlk.of_alloc _ _ _ _ _ zcn⟩
   refine Lex.nil fun WW hE => ?_
   intro u hu
   obtain ⟨dt1, ot1, dt2, ot2, rfl, rfl⟩ := hu.split hE
   clear hu hE
   go_simp
   unfold FillH
   go_wp2_with fail
   rw [ends_normal]
   go_wp2_with (first | ((go_at_call 84; (with_reducible refine (FL.out _ _ zac).mono ?_); rintro e _ ⟨rfl, d2, os2, rfl⟩)) | ((go_at_call 121; (with_reducible refine (KD.out _ _ zac).mono ?_); rintro e _ ⟨rfl, d3, os3, rfl⟩)))
   go_ret
   exact ⟨rfl, zac⟩
 · by_cases hi : 64 < i
   · 
     go_enter Tryz.func128, Tryz.ntmps128
     go_wp2_with fail
     refine qaa 11 27 [false, false, false, false, false, false, false, false, false, false, false] zam zam rfl ?_
     simp only [List.take_succ_cons, List.take_zero, List.drop_succ_cons, List.drop_zero]
     iterate 10 (refine Lex.step rfl ?_; intro K hK; unfold StepG; go_simp; refine hK _ ?_; clear hK K)
     refine Lex.alloc 3 (.cells #[.int .i64 0, .int .i64 0, .string ⟨#[]⟩, .int .i64 0] 97) rfl rfl (fun d os => ?_) ?_
     · unfold StepG
       go_simp
       exact ⟨(Ext.refl _).alloc _, NewBlk.of_alloc _ _ _ _ _ zcn⟩
     refine Lex.nil fun WW hE => ?_
     intro u hu
     obtain ⟨dt1, ot1, dt2, ot2, rfl, rfl⟩ := hu.split hE
     clear hu hE
     go_simp
     unfold FillH
     go_wp2_with fail
     rw [ends_normal]
     go_wp2_with (first | ((go_at_call 84; (with_reducible refine (FL.out _ _ zac).mono ?_); rintro e _ ⟨rfl, d2, os2, rfl⟩)) | ((go_at_call 121; (with_reducible refine (KD.out _ _ zac).mono ?_); rintro e _ ⟨rfl, d3, os3, rfl⟩)))
     go_ret
     exact ⟨rfl, zac⟩
   · have hi2 : i ≤ 64 := by omega
     clear hi
     go_enter Tryz.func128, Tryz.ntmps128
     go_wp2_with fail
     refine qaa 11 27 [false, false, false, false, false, false, false, false, false, false, false] zam zam rfl ?_
     simp only [List.take_succ_cons, List.take_zero, List.drop_succ_cons, List.drop_zero]
     iterate 10 (refine Lex.step rfl ?_; intro K hK; unfold StepG; go_simp; refine hK _ ?_; clear hK K)
     refine Lex.alloc 3 (.cells #[.int .i64 0, .int .i64 0, .string ⟨#[]⟩, .int .i64 0] 97) rfl rfl (fun d os => ?_) ?_
     · unfold StepG
       go_simp
       exact ⟨(Ext.refl _).alloc _, NewBlk.of_alloc _ _ _ _ _ zcn⟩
     refine Lex.nil fun WW hE => ?_
     intro u hu
     obtain ⟨dt1, ot1, dt2, ot2, rfl, rfl⟩ := hu.split hE
     clear hu hE
     go_simp
     unfold FillH
     go_wp2_with fail
     rw [ends_normal]
     go_wp2_with (first | ((go_at_call 84; (with_reducible refine (FL.out _ _ zac).mono ?_); rintro e _ ⟨rfl, d2, os2, rfl⟩)) | ((go_at_call 121; (with_reducible refine (KD.out _ _ zac).mono ?_); rintro e _ ⟨rfl, d3, os3, rfl⟩)))
     go_ret
     exact ⟨rfl, zac⟩
set_option maxHeartbeats 2000000 in
theorem qdP {b lb lo cap : Nat} {nv : Value} {L : Toks} {m : Nat} {N : List Nd} {w : World} (h : Rt b lb lo cap nv L m N 0 0 w) (r : PR Int) (hr : qdJ L m N.length = r) :
  Calls Tryz.prog 128 #[.pointer (some ⟨b, 0, none⟩)] w (RPost intV isInt b lb lo cap nv L m N w r) := by
 have FL : RowKit.Hid (∀ w1, Ext w w1 → Calls Tryz.prog 84 #[.pointer (some ⟨b, 0, none⟩), .int .i64 8] w1 fun e w' => e = .returned (.tuple #[]) ∧ Rt b lb lo cap nv L m N 8 (tk L m).2 w' ∧ Kp b nv nv w1 w') := Lib.hid fun w1 hx => qbl (h.ext hx) 8 zaq
 obtain ⟨c0, c1, c2, c3, c4, f1, f2, f3, f4, hb⟩ := h.facts
 obtain ⟨t0, t1, t2, t3, hlb⟩ := h.tokFacts
 have hp : (m : Int) < (L.length : Int) := by have := h.pos; omega
 have hp0 : 0 ≤ (m : Int) := by omega
 have hne1 : lb ≠ b := by have := h.low; omega
 have KA : RowKit.Hid (∀ w1, Ext w w1 → Calls Tryz.prog 121 #[.pointer (some ⟨b, 0, none⟩), .int .i64 2] w1 (RPost (fun t => tokV t (tk L m).2) isTok b lb lo cap nv L m N w1 (ofP L 2 m N.length))) := Lib.hid fun w1 hx => qaT (h.ext hx) 2 zaq _ rfl
 have H := Lib.hid h
 obtain ⟨⟨⟨k, ts, i⟩, a⟩, htt⟩ : ∃ tt, tk L m = tt := ⟨_, rfl⟩
 unfold qdJ pbind at hr
 unfold ofP at KA hr
 rw [htt] at t0 t1 t2 t3 FL KA hr
 unfold tokV at KA
 dsimp only at t0 t1 t2 t3 FL hr KA
 clear htt h c2 c4 f1 f2 f3 f4
 by_cases hk : k = 2
 · subst hk
   by_cases hi : 64 < i
   · rw [if_pos ⟨rfl, hi⟩] at hr
     subst hr
     go_enter Tryz.func128, Tryz.ntmps128
     go_wp2_with fail
     refine qaa 11 27 [false, false, false, false, false, false, false, false, false, false, false] zam zam rfl ?_
     simp only [List.take_succ_cons, List.take_zero, List.drop_succ_cons, List.drop_zero]
     iterate 10 (refine Lex.step rfl ?_; intro K hK; unfold StepG; go_simp; refine hK _ ?_; clear hK K)
     refine Lex.alloc 3 (.cells #[.int .i64 0, .int .i64 0, .string ⟨#[]⟩, .int .i64 0] 97) rfl rfl (fun d os => ?_) ?_
     · unfold StepG
       go_simp
       exact ⟨(Ext.refl _).alloc _, NewBlk.of_alloc _ _ _ _ _ zcn⟩
     refine Lex.nil fun WW hE => ?_
     intro u hu
     obtain ⟨dt1, ot1, dt2, ot2, rfl, rfl⟩ := hu.split hE
     clear hu hE
     go_simp
     unfold FillH
     go_wp2_with fail
     rw [ends_normal]
     go_wp2_with ((go_at_call 84; (with_reducible refine (FL.out _ zac).mono ?_); rintro e w2 ⟨rfl, hs2, hk2⟩; have HS2 := Lib.hid hs2; have HK2 := Lib.hid (((Kp.refl b nv w).ext zac).trans hk2); clear hs2 hk2))
     go_at_call 121
     refine (qcy zaq HS2.out 2).mono ?_
     rintro e _ ⟨rfl, d5, os5, rfl⟩
     go_wp2_with fail
     go_ret
     exact RPost.err zaq ⟨_, rfl⟩ (HS2.out.more _ _) (HK2.out.more _ _)
   · rw [if_neg zal, if_pos rfl] at hr
     rw [if_pos rfl] at KA
     subst hr
     have hi2 : i ≤ 64 := by omega
     clear hi
     go_enter Tryz.func128, Tryz.ntmps128
     go_wp2_with fail
     refine qaa 11 27 [false, false, false, false, false, false, false, false, false, false, false] zam zam rfl ?_
     simp only [List.take_succ_cons, List.take_zero, List.drop_succ_cons, List.drop_zero]
     iterate 10 (refine Lex.step rfl ?_; intro K hK; unfold StepG; go_simp; refine hK _ ?_; clear hK K)
     refine Lex.alloc 3 (.cells #[.int .i64 0, .int .i64 0, .string ⟨#[]⟩, .int .i64 0] 97) rfl rfl (fun d os => ?_) ?_
     · unfold StepG
       go_simp
       exact ⟨(Ext.refl _).alloc _, NewBlk.of_alloc _ _ _ _ _ zcn⟩
     refine Lex.nil fun WW hE => ?_
     intro u hu
     obtain ⟨dt1, ot1, dt2, ot2, rfl, rfl⟩ := hu.split hE
     clear hu hE
     go_simp
     unfold FillH
     go_wp2_with fail
     rw [ends_normal]
     go_wp2_with ((go_at_call 121; refine (KA.out _ zac).mono ?_; rintro e w1 ⟨rfl, nv1, hs1, hk1, _⟩; have HS1 := Lib.hid hs1; have HK1 := Lib.hid (((Kp.refl b nv w).ext zac).trans hk1); clear hs1 hk1))
     go_ret
     exact RPost.res rfl HS1.out HK1.out (Nat.le_succ _)
 · rw [if_neg zal, if_neg hk] at hr
   rw [if_neg hk] at KA
   subst hr
   have hk2 : (k == 2) = false := by simpa using hk
   clear hk
   go_enter Tryz.func128, Tryz.ntmps128
   go_wp2_with fail
   refine qaa 11 27 [false, false, false, false, false, false, false, false, false, false, false] zam zam rfl ?_
   simp only [List.take_succ_cons, List.take_zero, List.drop_succ_cons, List.drop_zero]
   iterate 10 (refine Lex.step rfl ?_; intro K hK; unfold StepG; go_simp; refine hK _ ?_; clear hK K)
   refine Lex.alloc 3 (.cells #[.int .i64 0, .int .i64 0, .string ⟨#[]⟩, .int .i64 0] 97) rfl rfl (fun d os => ?_) ?_
   · unfold StepG
     go_simp
     exact ⟨(Ext.refl _).alloc _, NewBlk.of_alloc _ _ _ _ _ zcn⟩
   refine Lex.nil fun WW hE => ?_
   intro u hu
   obtain ⟨dt1, ot1, dt2, ot2, rfl, rfl⟩ := hu.split hE
   clear hu hE
   go_simp
   unfold FillH
   go_wp2_with fail
   rw [ends_normal]
   go_wp2_with ((go_at_call 121; refine (KA.out _ zac).mono ?_; rintro e w1 ⟨hc, ⟨v, rfl, kq, aq, sq, iq, rfl⟩, nv1, m1, N1, hs1, hk1⟩; have HC := Lib.hid hc; have HS1 := Lib.hid hs1; have HK1 := Lib.hid (((Kp.refl b nv w).ext zac).trans hk1); clear hs1 hk1 hc))
   go_ret
   exact RPost.err HC.out ⟨_, rfl⟩ HS1.out HK1.out
/-- the signs of a level -/
def SignZ (z : Int) (ss : List ByteArray) : Prop := (z = 0 ∧ ss = ssOr) ∨ (z = 1 ∧ ss = ssAnd) ∨ (z = 2 ∧ ss = ssIs) ∨ (z = 3 ∧ ss = ssJoin) ∨ (z = 4 ∧ ss = ssSum) ∨ (z = 5 ∧ ss = qdD)
theorem qej {z : Int} {ss : List ByteArray} {s : ByteArray} (h : SignZ z ss) (hs : s ∈ ss) : (s.size : Int) ≤ 100 ∧ s.toList.isEmpty = false := by
 rcases h with ⟨_, rfl⟩ | ⟨_, rfl⟩ | ⟨_, rfl⟩ | ⟨_, rfl⟩ | ⟨_, rfl⟩ | ⟨_, rfl⟩
 · simp only [ssOr, List.mem_cons, List.not_mem_nil, or_false] at hs
   subst hs; exact ⟨by decide, by kernel_rfl⟩
 · simp only [ssAnd, List.mem_cons, List.not_mem_nil, or_false] at hs
   subst hs; exact ⟨by decide, by kernel_rfl⟩
 · simp only [ssIs, List.mem_cons, List.not_mem_nil, or_false] at hs
   rcases hs with rfl | rfl | rfl | rfl | rfl | rfl <;> exact ⟨by decide, by kernel_rfl⟩
 · simp only [ssJoin, List.mem_cons, List.not_mem_nil, or_false] at hs
   subst hs; exact ⟨by decide, by kernel_rfl⟩
 · simp only [ssSum, List.mem_cons, List.not_mem_nil, or_false] at hs
   rcases hs with rfl | rfl <;> exact ⟨by decide, by kernel_rfl⟩
 · simp only [qdD, List.mem_cons, List.not_mem_nil, or_false] at hs
   rcases hs with rfl | rfl | rfl <;> exact ⟨by decide, by kernel_rfl⟩
theorem sign_len {z : Int} {ss : List ByteArray} (h : SignZ z ss) : ss.length ≤ 6 := by
 rcases h with ⟨_, rfl⟩ | ⟨_, rfl⟩ | ⟨_, rfl⟩ | ⟨_, rfl⟩ | ⟨_, rfl⟩ | ⟨_, rfl⟩ <;> decide
theorem sign_get {z : Int} {ss : List ByteArray} (h : SignZ z ss) (j : Nat) : ((ss.getD j ⟨#[]⟩).size : Int) ≤ 100 := by
 by_cases hj : j < ss.length
 · refine (qej h ?_).1
   simp [List.getD, List.getElem?_eq_getElem hj]
 · have : ss.getD j ⟨#[]⟩ = ⟨#[]⟩ := by simp [List.getD, List.getElem?_eq_none (Nat.le_of_not_lt hj)]
   rw [this]; decide
set_option maxHeartbeats 1000000 in
theorem signs_any (z : Int) (ss : List ByteArray) (hz : SignZ z ss) (w : World) :
  Calls Tryz.prog 147 #[.int .i64 z] w fun e w' => e = .returned (.slice (some ⟨w.heap.size, 0, none⟩) ss.length ss.length) ∧ w' = w.alloc (strs ss) := by
 rcases hz with ⟨rfl, rfl⟩ | ⟨rfl, rfl⟩ | ⟨rfl, rfl⟩ | ⟨rfl, rfl⟩ | ⟨rfl, rfl⟩ | ⟨rfl, rfl⟩
 all_goals
  go_enter Tryz.func147, Tryz.ntmps147
  go_wp2_with fail
  go_ret
  exact ⟨rfl, rfl⟩
def optS : Option ByteArray → Value
 | none => .string ⟨#[]⟩
 | some s => .string s
def isStr (v : Value) : Prop := ∃ s, v = .string s
set_option maxHeartbeats 2000000 in
theorem qcL {b lb lo cap : Nat} {nv : Value} {L : Toks} {m : Nat} {N : List Nd} {w : World} {wh : Int} {ee : Int} (hee : ee ≠ 0) (h : Rt b lb lo cap nv L m N ee wh w) (z : Int) (ss : List ByteArray) (hz : SignZ z ss) :
  Calls Tryz.prog 143 #[.pointer (some ⟨b, 0, none⟩), .int .i64 z] w fun e w' => e = .returned (.string ⟨#[]⟩) ∧ Ext w w' := by
 have SG := Lib.hid (signs_any z ss hz)
 have hsm := sign_get hz
 have hss := sign_len hz
 have H := Lib.hid h
 have G := Lib.hid (h.loc (strs ss))
 have HE := Lib.hid hee
 have SM := Lib.hid hsm
 have hsz : (ss.length : Int) ≤ 6 := by omega
 clear h hee hz hsm
 go_enter Tryz.func143, Tryz.ntmps143
 go_wp2_with ((go_at_call 147; (with_reducible refine (SG.out _).mono ?_); rintro e _ ⟨rfl, rfl⟩))
 go_loopw [6] (fun i wr => ∃ j : Nat, i = .int .i64 (j : Int) ∧ j ≤ ss.length ∧ Ext (w.alloc (strs ss)) wr) (fun i _ => ss.length - (intOf i).toNat)
 case atStart => exact ⟨0, rfl, Nat.zero_le _, Ext.refl _⟩
 case round =>
  obtain ⟨j, rfl, hj, hx⟩ := hrel
  have HX := Lib.hid hx
  by_cases hlt : j < ss.length
  · have hlt2 : (j : Int) < (ss.length : Int) := by omega
    have hj0 : 0 ≤ (j : Int) := by omega
    have hcell := ((G.out.ext hx).str j hlt)
    have hsj := SM.out j
    obtain ⟨s, hs⟩ : ∃ s, ss.getD j ⟨#[]⟩ = s := ⟨_, rfl⟩
    rw [hs] at hcell hsj
    have T := Lib.hid (qcD HE.out ((H.out.alloc _).ext hx) s hsj)
    clear hlt hs hx hsj
    go_wp2_with ((go_at_call 127; (with_reducible refine T.out.mono ?_); rintro e _ ⟨rfl, d, os, rfl⟩))
    go_roundw
    case rel => exact ⟨j + 1, by go_num, by omega, HX.out.more _ _⟩
    case measure => simp [intOf]; omega
  · have hge : (ss.length : Int) ≤ (j : Int) := by omega
    clear hx hlt
    go_wp2_with fail
    go_ret
    exact ⟨rfl, ((Ext.refl _).alloc _).trans HX.out⟩
set_option maxHeartbeats 2000000 in
theorem qcr {b lb lo cap : Nat} {nv : Value} {L : Toks} {m : Nat} {N : List Nd} {w : World} (h : Rt b lb lo cap nv L m N 0 0 w) (z : Int) (ss : List ByteArray) (hz : SignZ z ss) (r : PR (Option ByteArray)) (hr : qbq L ss m N.length = r) :
  Calls Tryz.prog 143 #[.pointer (some ⟨b, 0, none⟩), .int .i64 z] w (RPost optS isStr b lb lo cap nv L m N w r) := by
 have SG := Lib.hid (signs_any z ss hz)
 have hsm := sign_get hz
 have hss := sign_len hz
 have H := Lib.hid h
 have G := Lib.hid (h.loc (strs ss))
 have SM := Lib.hid hsm
 have hr2 : findP L m ss = r := hr
 have R := Lib.hid hr2
 have hsz : (ss.length : Int) ≤ 6 := by omega
 clear h hz hsm hr hr2
 go_enter Tryz.func143, Tryz.ntmps143
 go_wp2_with ((go_at_call 147; (with_reducible refine (SG.out _).mono ?_); rintro e _ ⟨rfl, rfl⟩))
 go_loopw [6] (fun i wr => ∃ j : Nat, i = .int .i64 (j : Int) ∧ j ≤ ss.length ∧ Ext (w.alloc (strs ss)) wr ∧ findP L m (ss.drop j) = r) (fun i _ => ss.length - (intOf i).toNat)
 case atStart => exact ⟨0, rfl, Nat.zero_le _, Ext.refl _, R.out⟩
 case round =>
  obtain ⟨j, rfl, hj, hx, hr⟩ := hrel
  have HX := Lib.hid hx
  by_cases hlt : j < ss.length
  · have hlt2 : (j : Int) < (ss.length : Int) := by omega
    have hj0 : 0 ≤ (j : Int) := by omega
    have hcell := ((G.out.ext hx).str j hlt)
    have hsj := SM.out j
    rw [drop_cons ss j ⟨#[]⟩ hlt] at hr
    obtain ⟨s, hs⟩ : ∃ s, ss.getD j ⟨#[]⟩ = s := ⟨_, rfl⟩
    rw [hs] at hcell hsj hr
    cases hp : isP L s m
    · rw [findP_no hp] at hr
      have R2 := Lib.hid hr
      have T := Lib.hid (qat ((H.out.alloc (strs ss)).ext hx) s hsj hp)
      clear hlt hs hp R hr hx hsj
      go_wp2_with ((go_at_call 127; (with_reducible refine T.out.mono ?_); rintro e _ ⟨rfl, d, os, rfl⟩))
      go_roundw
      case rel => exact ⟨j + 1, by go_num, by omega, HX.out.more _ _, R2.out⟩
      case measure => simp [intOf]; omega
    · rw [findP_yes hp] at hr
      have R2 := Lib.hid hr
      have T := Lib.hid (qbn ((H.out.alloc (strs ss)).ext hx) s hsj hp)
      have G2 := Lib.hid (G.out.ext hx)
      have JL := Lib.hid hlt
      have HSJ := Lib.hid hs
      clear hlt hs hp hr R hx hsj
      go_wp2_with ((go_at_call 127; (with_reducible refine T.out.mono ?_); rintro e w2 ⟨rfl, hs2, hk2⟩; have hcell2 := ((G2.out.kp hk2).str j JL.out); rw [HSJ.out] at hcell2; have HS2 := Lib.hid hs2; have HK2 := Lib.hid ((((Kp.refl b nv w).alloc _).ext HX.out).trans hk2); clear hs2 hk2))
      go_ret
      have := R2.out
      subst this
      exact RPost.res rfl (HS2.out.cast (List.append_nil N).symm) HK2.out (Nat.le_succ _)
  · have hge : (ss.length : Int) ≤ (j : Int) := by omega
    have e : ss.drop j = [] := List.drop_eq_nil_of_le zal
    rw [e] at hr
    have R2 := Lib.hid hr
    clear hr e hx hlt
    go_wp2_with fail
    go_ret
    have := R2.out
    subst this
    exact RPost.res rfl (((H.out.alloc _).ext HX.out).cast (List.append_nil N).symm) (((Kp.refl b nv w).alloc _).ext HX.out) (Nat.le_refl _)
end Go.Proofs.YtijmfpoanggjjaaGreatDoor

namespace Go.Proofs.YtijmfpoanggjjaaGreatDoor
open Go.RowKit
attribute [go_sem] more_more Array.size_append
def nine : List ByteArray := [⟨#[108, 101, 116]⟩, ⟨#[115, 101, 116]⟩, ⟨#[112, 117, 116]⟩, ⟨#[100, 101, 108, 101, 116, 101]⟩, ⟨#[97, 98, 111, 114, 116]⟩, ⟨#[114, 101, 116, 117, 114, 110]⟩, ⟨#[105, 102]⟩, ⟨#[102, 111, 114]⟩, ⟨#[114, 101, 112, 101, 97, 116]⟩]
def qbh (L : Toks) (m : Nat) : Bool := (tk L m).1.k == 5 && nine.any fun s => (tk L m).1.s.toList == s.toList
theorem nine_snoc (t : ByteArray) (j : Nat) (h : j < nine.length) : (nine.take (j + 1)).any (fun s => t.toList == s.toList) = ((nine.take j).any (fun s => t.toList == s.toList) || t.toList == (nine.getD j ⟨#[]⟩).toList) := by
 have e : nine.take (j + 1) = nine.take j ++ [nine.getD j ⟨#[]⟩] := by
  rw [List.take_succ_eq_append_getElem h]
  congr 2
  simp [List.getD, List.getElem?_eq_getElem h]
 rw [e, List.any_append]
 simp
theorem nine_done (t : ByteArray) (j : Nat) (h : j < nine.length) (he : (t.toList == (nine.getD j ⟨#[]⟩).toList) = true) : nine.any (fun s => t.toList == s.toList) = true := by
 rw [List.any_eq_true]
 refine ⟨nine.getD j ⟨#[]⟩, ?_, he⟩
 simp [List.getD, List.getElem?_eq_getElem h]
set_option maxHeartbeats 4000000 in
set_option maxRecDepth 20000 in
theorem begins_any {b lb lo cap : Nat} {nv : Value} {L : Toks} {m : Nat} {N : List Nd} {w : World} (h : Rt b lb lo cap nv L m N 0 0 w) :
  Calls Tryz.prog 112 #[.pointer (some ⟨b, 0, none⟩)] w fun e w' => e = .returned (.bool (qbh L m)) ∧ Ext w w' := by
 have H := Lib.hid h
 have G := Lib.hid (h.loc (strs nine))
 have hp : (m : Int) < (L.length : Int) := by have := h.pos; omega
 have hp0 : 0 ≤ (m : Int) := by omega
 have hnl : nine.length = 9 := rfl
 obtain ⟨⟨⟨k, ts, i⟩, a⟩, htt⟩ : ∃ tt, tk L m = tt := ⟨_, rfl⟩
 have HT := Lib.hid htt
 unfold qbh
 rw [htt]
 dsimp only
 clear htt h
 obtain ⟨B, hB⟩ : ∃ B, (k == 5 && nine.any fun s => ts.toList == s.toList) = B := ⟨_, rfl⟩
 rw [hB]
 have HB := Lib.hid hB
 clear hB
 go_enter Tryz.func112, Tryz.ntmps112
 go_wp2_with fail
 go_loopw [7] (fun i wr => ∃ j : Nat, i = .int .i64 (j : Int) ∧ j ≤ 9 ∧ Ext (w.alloc (strs nine)) wr ∧ ((k == 5) = true → (nine.take j).any (fun s => ts.toList == s.toList) = false)) (fun i _ => 9 - (intOf i).toNat)
 case atStart => exact ⟨0, rfl, Nat.zero_le _, Ext.refl _, fun _ => rfl⟩
 case round =>
  obtain ⟨j, rfl, hj, hx, hno⟩ := hrel
  have HX := Lib.hid hx
  have HNO := Lib.hid hno
  by_cases hlt : j < 9
  · have hlt2 : (j : Int) < 9 := by omega
    have hj0 : 0 ≤ (j : Int) := by omega
    have hcell := ((G.out.ext hx).str j (by rw [hnl]; exact hlt))
    have H1 := (H.out.alloc (strs nine)).ext hx
    obtain ⟨c0, c1, c2, c3, c4, f1, f2, f3, f4, hb⟩ := H1.facts
    obtain ⟨t0, t1, t2, t3, hlb⟩ := H1.tokFacts
    rw [HT.out] at t0 t1 t2 t3
    dsimp only at t0 t1 t2 t3
    obtain ⟨s, hs⟩ : ∃ s, nine.getD j ⟨#[]⟩ = s := ⟨_, rfl⟩
    rw [hs] at hcell
    have HS := Lib.hid hs
    have HLT := Lib.hid hlt
    clear hx hno hlt hs H1 c2 c3 c4 f1 f2 f3 f4 t1 t3
    cases hk : (k == 5)
    · 
      go_wp2_with fail
      refine qaa 25 39 [false, false, false, false, false, false, false, false, false, false, false, false, false, false, false, false, false, false, false, false, false, false, false, false, false] zam zam rfl ?_
      simp only [List.take_succ_cons, List.take_zero, List.drop_succ_cons, List.drop_zero]
      repeat (refine Lex.step rfl ?_; intro K hK; unfold StepG; go_simp; (first
        | refine hK _ ?_); clear hK K)
      refine Lex.nil fun WW hE => ?_
      obtain ⟨dd, oo, rfl⟩ := hE
      unfold FillH
      go_wp2_with fail
      rw [ends_normal]
      go_wp2_with fail
      go_roundw
      case rel => exact ⟨j + 1, by go_num, by have := HLT.out; omega, HX.out.more _ _, fun h => by simp at h⟩
      case measure => have := HLT.out; simp [intOf]; omega
    · cases hq : (ts.toList == s.toList)
      · 
        go_wp2_with fail
        refine qaa 25 39 [false, false, false, false, false, false, false, false, false, false, false, false, false, false, false, false, false, false, false, false, false, false, false, false, false] zam zam rfl ?_
        simp only [List.take_succ_cons, List.take_zero, List.drop_succ_cons, List.drop_zero]
        repeat (refine Lex.step rfl ?_; intro K hK; unfold StepG; go_simp; (first
          | refine hK _ ?_); clear hK K)
        refine Lex.nil fun WW hE => ?_
        obtain ⟨dd, oo, rfl⟩ := hE
        unfold FillH
        go_wp2_with fail
        rw [ends_normal]
        go_wp2_with fail
        go_roundw
        case rel => exact ⟨j + 1, by go_num, by have := HLT.out; omega, HX.out.more _ _, fun h => by rw [nine_snoc _ _ (by rw [hnl]; exact HLT.out), HS.out, HNO.out hk]; simpa using hq⟩
        case measure => have := HLT.out; simp [intOf]; omega
      · have RR : RowKit.Hid (true = B) := Lib.hid (by rw [← HB.out, hk, nine_done ts j (by rw [hnl]; exact HLT.out) (by rw [HS.out]; exact hq)]; rfl)
        go_wp2_with fail
        refine qaa 25 39 [false, false, false, false, false, false, false, false, false, false, false, false, false, false, false, false, false, false, false, false, false, false, false, false, false] zam zam rfl ?_
        simp only [List.take_succ_cons, List.take_zero, List.drop_succ_cons, List.drop_zero]
        repeat (refine Lex.step rfl ?_; intro K hK; unfold StepG; go_simp; (first
          | refine hK _ ?_); clear hK K)
        refine Lex.nil fun WW hE => ?_
        obtain ⟨dd, oo, rfl⟩ := hE
        unfold FillH
        go_wp2_with fail
        rw [ends_normal]
        go_wp2_with fail
        go_ret
        exact ⟨ret_bool RR.out, ((Ext.refl _).alloc _).trans (HX.out.more _ _)⟩
  · have hge : (9 : Int) ≤ (j : Int) := by omega
    have RR : RowKit.Hid (false = B) := Lib.hid (by
     rw [← HB.out]
     cases hk : (k == 5)
     · rfl
     · have e : nine.take j = nine := List.take_of_length_le (by rw [hnl]; omega)
       have := hno hk
       rw [e] at this
       rw [this]; rfl)
    clear hx hno hlt
    go_wp2_with fail
    go_ret
    exact ⟨ret_bool RR.out, ((Ext.refl _).alloc _).trans HX.out⟩
end Go.Proofs.YtijmfpoanggjjaaGreatDoor

namespace Go.Proofs.YtijmfpoanggjjaaGreatDoor
open Go.RowKit
attribute [go_sem] more_more Array.size_append
set_option maxHeartbeats 1000000 in
theorem qdO {b lb lo cap : Nat} {nv : Value} {L : Toks} {m : Nat} {N : List Nd} {w : World} {wh : Int} {ee : Int} (hee : ee ≠ 0) (h : Rt b lb lo cap nv L m N ee wh w) (z d : Int) :
  Calls Tryz.prog 138 #[.pointer (some ⟨b, 0, none⟩), .int .i64 z, .int .i64 d] w fun e w' => e = .returned (.int .i64 (-1)) ∧ Ext w w' := by
 obtain ⟨c0, c1, c2, c3, c4, f1, f2, f3, f4, hb⟩ := h.facts
 have q : (ee != 0) = true := by simpa using hee
 clear h c0 c1 c2 c4 f1 f2 f3 f4 hee
 go_enter Tryz.func138, Tryz.ntmps138
 go_wp2_with fail
 go_ret
 exact ⟨rfl, zac⟩
set_option maxHeartbeats 1000000 in
theorem qaB {b lb lo cap : Nat} {nv : Value} {L : Toks} {m : Nat} {N : List Nd} {w : World} {wh : Int} {ee : Int} (hee : ee ≠ 0) (h : Rt b lb lo cap nv L m N ee wh w) (d : Int) :
  Calls Tryz.prog 124 #[.pointer (some ⟨b, 0, none⟩), .int .i64 d] w fun e w' => e = .returned (.int .i64 (-1)) ∧ Ext w w' := by
 have FL : RowKit.Hid (∀ (c : Int) w1, Ext w w1 → Calls Tryz.prog 84 #[.pointer (some ⟨b, 0, none⟩), .int .i64 c] w1 fun e w' => e = .returned (.tuple #[]) ∧ Ext w1 w') := Lib.hid fun c w1 hx => qbw hee (h.ext hx) c
 have LV : RowKit.Hid (∀ (z d : Int) w1, Ext w w1 → Calls Tryz.prog 138 #[.pointer (some ⟨b, 0, none⟩), .int .i64 z, .int .i64 d] w1 fun e w' => e = .returned (.int .i64 (-1)) ∧ Ext w1 w') := Lib.hid fun z d w1 hx => qdO hee (h.ext hx) z d
 clear h hee
 by_cases hd : 16 < d
 · 
   go_enter Tryz.func124, Tryz.ntmps124
   go_wp2_with (first
    | ((go_at_call 84; (with_reducible refine (FL.out _ _ zac).mono ?_); rintro e _ ⟨rfl, d2, os2, rfl⟩))
    | ((go_at_call 138; (with_reducible refine (LV.out _ _ _ zac).mono ?_); rintro e _ ⟨rfl, d3, os3, rfl⟩)))
   go_ret
   exact ⟨rfl, zac⟩
 · have hd2 : d ≤ 16 := by omega
   clear hd
   go_enter Tryz.func124, Tryz.ntmps124
   go_wp2_with (first
    | ((go_at_call 84; (with_reducible refine (FL.out _ _ zac).mono ?_); rintro e _ ⟨rfl, d2, os2, rfl⟩))
    | ((go_at_call 138; (with_reducible refine (LV.out _ _ _ zac).mono ?_); rintro e _ ⟨rfl, d3, os3, rfl⟩)))
   go_ret
   exact ⟨rfl, zac⟩
/-- the contract of expr, one, block at a depth -/
def RDp (b lb lo cap : Nat) (L : Toks) (F : FuncId) (z : Int) (p : PM Int) : Prop := ∀ nv m N w, Rt b lb lo cap nv L m N 0 0 w → ∀ r, p m N.length = r → Calls Tryz.prog F #[.pointer (some ⟨b, 0, none⟩), .int .i64 z] w (RPost intV isInt b lb lo cap nv L m N w r)
/-- the contract of a level -/
def RLv (b lb lo cap : Nat) (L : Toks) (z d : Int) (p : PM Int) : Prop := ∀ nv m N w, Rt b lb lo cap nv L m N 0 0 w → ∀ r, p m N.length = r → Calls Tryz.prog 138 #[.pointer (some ⟨b, 0, none⟩), .int .i64 z, .int .i64 d] w (RPost intV isInt b lb lo cap nv L m N w r)
set_option maxHeartbeats 1000000 in
theorem level_six {b lb lo cap : Nat} {L : Toks} (d : Int) (p : PM Int) (ho : RDp b lb lo cap L 142 d p) : RLv b lb lo cap L 6 d p := by
 intro nv m N w h r hr
 have O := Lib.hid (ho nv m N w h r hr)
 obtain ⟨c0, c1, c2, c3, c4, f1, f2, f3, f4, hb⟩ := h.facts
 clear h ho hr c0 c1 c2 c4 f1 f2 f3 f4
 rcases r with ⟨e1, e2⟩ | ⟨v, m1, ns⟩
 · 
   go_enter Tryz.func138, Tryz.ntmps138
   go_wp2_with ((go_at_call 142; (with_reducible refine O.out.mono ?_); rintro e w1 ⟨hc, ⟨v, rfl, y, rfl⟩, hp⟩; have HC := Lib.hid (And.intro hc hp); clear hc hp))
   go_ret
   exact ⟨HC.out.1, ⟨_, rfl, y, rfl⟩, HC.out.2⟩
 · 
   go_enter Tryz.func138, Tryz.ntmps138
   go_wp2_with ((go_at_call 142; (with_reducible refine O.out.mono ?_); rintro e w1 ⟨he, hp⟩; have HP := Lib.hid hp; clear hp; unfold intV at he; subst he))
   go_ret
   exact ⟨rfl, HP.out⟩
theorem comp_eq {L : Toks} (cl : PM Int) (ss : List ByteArray) (m n : Nat) : (pbind cl fun a => pbind (qbq L ss) fun o => match o with
  | none => pok a
  | some s => pbind cl fun b => layP L (twoNd a b s)) m n = thenR (cl m n) (fun a m1 ns => prep ns (thenR (qbq L ss m1 (n + ns.length)) fun o m2 _ => match o with
  | none => .ok (a, m2, [])
  | some s => thenR (cl m2 (n + ns.length)) fun b m3 ns3 => prep ns3 (layP L (twoNd a b s) m3 (n + ns.length + ns3.length)))) := by
 cases h1 : cl m n with
 | error e => rw [qaH h1]; rfl
 | ok v =>
  obtain ⟨a, m1, ns⟩ := v
  rw [qaG h1]
  show prep ns _ = prep ns _
  rcases oneOf_cases L ss m1 (n + ns.length) with h2 | ⟨s, h2⟩
  · rw [qaG h2, qbm, h2]; rfl
  · rw [qaG h2, qbm, h2]
    show prep ns (pbind cl (fun b => layP L (twoNd a b s)) (m1 + 1) (n + ns.length)) = _
    cases h3 : cl (m1 + 1) (n + ns.length) with
    | error e => rw [qaH h3]; simp only [thenR, h3]
    | ok v => obtain ⟨c, m3, ns3⟩ := v; rw [qaG h3]; simp only [thenR, h3]
set_option maxHeartbeats 4000000 in
set_option maxRecDepth 20000 in
theorem qbY {b lb lo cap : Nat} {L : Toks} (z d : Int) (ss : List ByteArray) (hz : SignZ z ss) (hz2 : z ≠ 2) (cl : PM Int) (hcl : RLv b lb lo cap L (z + 1) d cl) : RLv b lb lo cap L z d (twoP L cl ss) := by
 intro nv m N w h r hr
 have hzz : 0 ≤ z ∧ z ≤ 5 := by rcases hz with ⟨rfl, _⟩ | ⟨rfl, _⟩ | ⟨rfl, _⟩ | ⟨rfl, _⟩ | ⟨rfl, _⟩ | ⟨rfl, _⟩ <;> omega
 have hz0 : 0 ≤ z := hzz.1
 have hz5 : z ≤ 5 := hzz.2
 have q6 : (z == 6) = false := by simp; omega
 have q2 : (z == 2) = false := by simpa using hz2
 have HZ := Lib.hid hz
 have HCL := Lib.hid hcl
 have SE : RowKit.Hid (∀ s, s ∈ ss → s.toList.isEmpty = false) := Lib.hid fun s hs => (qej hz hs).2
 obtain ⟨r1, hr1⟩ : ∃ r1, cl m N.length = r1 := ⟨_, rfl⟩
 have C1 := Lib.hid (hcl nv m N w h r1 hr1)
 obtain ⟨c0, c1, c2, c3, c4, f1, f2, f3, f4, hb⟩ := h.facts
 have HL := Lib.hid h.ends.few
 clear h hcl hz hzz hz2 c0 c1 c2 c4 f1 f2 f3 f4
 rcases r1 with ⟨e1, e2⟩ | ⟨a1, m1, ns1⟩
 · have R2 : RowKit.Hid (.error (e1, e2) = r) := Lib.hid (by rw [← hr]; unfold twoP; rw [qaH hr1])
   clear hr hr1
   go_enter Tryz.func138, Tryz.ntmps138
   go_wp2_with ((go_at_call 138; (with_reducible refine (C1.out).mono ?_); rintro e w1 ⟨hc, ⟨v, rfl, y, rfl⟩, nv1, m1, N1, hs1, hk1⟩; have HC := Lib.hid hc; have HS := Lib.hid hs1; have HK := Lib.hid hk1; clear hc hs1 hk1))
   go_loopg [7] (0) (fun g x wr => x = .int .i64 y ∧ wr = w1)
   case atStart => exact ⟨rfl, rfl⟩
   case round =>
    obtain ⟨rfl, rfl⟩ := hrel
    go_wp2_with fail
    go_at_call 143
    refine (qcL HC.out HS.out z ss HZ.out).mono ?_
    rintro e _ ⟨rfl, d5, os5, rfl⟩
    go_wp2_with fail
    go_ret
    have := R2.out
    subst this
    exact RPost.err HC.out ⟨_, rfl⟩ (HS.out.more _ _) (HK.out.more _ _)
 · have R2 : RowKit.Hid (prep ns1 (qaZ L cl ss (L.length + 1) a1 m1 (N.length + ns1.length)) = r) := Lib.hid (by rw [← hr]; unfold twoP; rw [qaG hr1])
   clear hr hr1
   go_enter Tryz.func138, Tryz.ntmps138
   go_wp2_with ((go_at_call 138; (with_reducible refine (C1.out).mono ?_); rintro e w1 ⟨he, nv1, hs1, hk1, hm1⟩; unfold intV at he; subst he; have HS1 := Lib.hid hs1; have HK1 := Lib.hid hk1; have HM1 := Lib.hid hm1; clear hs1 hk1 hm1))
   go_loopg [7] (L.length + 1) (fun g x wr => (∃ (y : Int) (m2 : Nat) (ns : List Nd) (nv2 : Value), x = .int .i64 y ∧ m ≤ m2 ∧ L.length + 1 ≤ m2 + g ∧ Rt b lb lo cap nv2 L m2 (N ++ ns) 0 0 wr ∧ Kp b nv nv2 w wr ∧ prep ns (qaZ L cl ss g y m2 (N.length + ns.length)) = r) ∨
    (∃ (y c a : Int) (m2 : Nat) (N2 : List Nd) (nv2 : Value), x = .int .i64 y ∧ c ≠ 0 ∧ Rt b lb lo cap nv2 L m2 N2 c a wr ∧ Kp b nv nv2 w wr ∧ .error (c, a) = r))
   case atStart => exact Or.inl ⟨a1, m1, ns1, nv1, rfl, HM1.out, by omega, HS1.out, HK1.out, R2.out⟩
   case round =>
    rcases hrel with ⟨y, m2, ns, nv2, rfl, hm2, hg, hst, hkp, hres⟩ | ⟨y, c, a, m2, N2, nv2, rfl, hc, hst, hkp, hres⟩
    · obtain ⟨g0, rfl⟩ : ∃ g0, gk = g0 + 1 := ⟨gk - 1, by have := hst.pos; omega⟩
      have HK := Lib.hid hkp
      have HM := Lib.hid (And.intro hm2 hg)
      rcases oneOf_cases L ss m2 (N ++ ns).length with h1 | ⟨s, h1⟩
      · rw [twoL_none (by rw [← List.length_append]; exact h1)] at hres
        have RR := Lib.hid hres
        have O := Lib.hid (qcr hst z ss HZ.out _ h1)
        clear hres h1 hst hkp hm2 hg
        go_wp2_with ((go_at_call 143; (with_reducible refine O.out.mono ?_); rintro e w2 ⟨he, nv3, hs3, hk3, _⟩; have HS3 := Lib.hid hs3; have HK3 := Lib.hid hk3; clear hs3 hk3; unfold optS at he; subst he))
        go_ret
        have := RR.out
        subst this
        exact RPost.res rfl (HS3.out.cast zbt) (HK.out.trans HK3.out) HM.out.1
      · have hse : s.toList.isEmpty = false := by
          refine SE.out s ?_
          unfold qbq at h1
          cases hf : ss.find? (fun s => isP L s m2) with
          | none => rw [hf] at h1; simp at h1
          | some s' => rw [hf] at h1; simp at h1; rw [← h1]; exact List.mem_of_find?_eq_some hf
        have O := Lib.hid (qcr hst z ss HZ.out _ h1)
        rw [List.length_append] at h1
        obtain ⟨r3, hr3⟩ : ∃ r3, cl (m2 + 1) (N.length + ns.length) = r3 := ⟨_, rfl⟩
        have C3 : RowKit.Hid (∀ nv3 w3, Rt b lb lo cap nv3 L (m2 + 1) (N ++ ns ++ []) 0 0 w3 → Calls Tryz.prog 138 #[.pointer (some ⟨b, 0, none⟩), .int .i64 (z + 1), .int .i64 d] w3 (RPost intV isInt b lb lo cap nv3 L (m2 + 1) (N ++ ns ++ []) w3 r3)) :=
         Lib.hid fun nv3 w3 hs => HCL.out nv3 (m2 + 1) _ w3 hs r3 (by rw [List.append_nil, List.length_append]; exact hr3)
        rcases r3 with ⟨e1, e2⟩ | ⟨z3, m3, ns3⟩
        · rw [twoL_err h1 hr3] at hres
          have RR := Lib.hid hres
          clear hres h1 hst hkp hm2 hg hr3
          go_wp2_with ((go_at_call 143; (with_reducible refine O.out.mono ?_); rintro e w2 ⟨he, nv3, hs3, hk3, _⟩; have HS3 := Lib.hid hs3; have HK3 := Lib.hid hk3; clear hs3 hk3; unfold optS at he; subst he))
          refine (C3.out nv3 _ HS3.out).mono ?_
          rintro e w4 ⟨hc, ⟨v, rfl, y4, rfl⟩, nv4, m4, N4, hs4, hk4⟩
          have HC := Lib.hid hc
          have HS4 := Lib.hid hs4
          have HK4 := Lib.hid ((HK.out.trans HK3.out).trans hk4)
          clear hc hs4 hk4
          go_wp2_with (first | ((go_at_call 122; (with_reducible refine (qal _ _ _ _).mono ?_); rintro e _ ⟨rfl, d3, os3, rfl⟩)) | ((go_at_call 125; (with_reducible refine (qad HC.out (show Rt b lb lo cap nv4 L m4 N4 e1 e2 _ from zbn) _ _ _ _ _ _ _ _).mono ?_); rintro e _ ⟨rfl, d6, os6, rfl⟩)))
          go_roundg g0
          case measure => omega
          case rel => exact Or.inr ⟨-1, e1, e2, m4, N4, nv4, rfl, HC.out, zbn, zba, RR.out⟩
        · obtain ⟨r4, hr4⟩ : ∃ r4, layP L (twoNd y z3 s) m3 (N.length + ns.length + ns3.length) = r4 := ⟨_, rfl⟩
          have LA : RowKit.Hid (∀ nv4 w5, Rt b lb lo cap nv4 L m3 (N ++ ns ++ [] ++ ns3) 0 0 w5 → Calls Tryz.prog 125 #[.pointer (some ⟨b, 0, none⟩), .agg #[.int .i64 11, .int .i64 y, .int .i64 z3, .int .i64 (-1), .int .i64 (-1), .int .i64 0, .string s, .string ⟨#[]⟩]] w5 (RPost intV isInt b lb lo cap nv4 L m3 (N ++ ns ++ [] ++ ns3) w5 r4)) :=
           Lib.hid fun nv4 w5 hs => qaw hs _ _ _ _ _ _ _ _ r4 (by rw [← hr4]; simp [twoNd, nd, Nat.add_assoc])
          have RR : RowKit.Hid (prep ns (thenR r4 fun a1 m4 ns4 => prep (ns3 ++ ns4) (qaZ L cl ss g0 a1 m4 (N.length + ns.length + (ns3 ++ ns4).length))) = r) := Lib.hid (by
           rw [← hres]
           congr 1
           rcases r4 with ⟨e1, e2⟩ | ⟨a1, m4, ns4⟩
           · rw [twoL_lay h1 hr3 hr4]; rfl
           · rw [twoL_ok h1 hr3 hr4]; rfl)
          clear hres h1 hst hkp hm2 hg hr3 hr4
          go_wp2_with ((go_at_call 143; (with_reducible refine O.out.mono ?_); rintro e w2 ⟨he, nv3, hs3, hk3, _⟩; have HS3 := Lib.hid hs3; have HK3 := Lib.hid hk3; clear hs3 hk3; unfold optS at he; subst he))
          refine (C3.out nv3 _ HS3.out).mono ?_
          rintro e w4 ⟨he, nv4, hs4, hk4, hm4⟩
          unfold intV at he
          subst he
          have HS4 := Lib.hid hs4
          have HK4 := Lib.hid ((HK.out.trans HK3.out).trans hk4)
          have HM4 := Lib.hid hm4
          clear hs4 hk4 hm4
          go_wp2_with ((go_at_call 122; (with_reducible refine (qal _ _ _ _).mono ?_); rintro e _ ⟨rfl, d3, os3, rfl⟩))
          refine (LA.out nv4 _ (show Rt b lb lo cap nv4 L m3 (N ++ ns ++ [] ++ ns3) 0 0 _ from zbn)).mono ?_
          rcases r4 with ⟨e1, e2⟩ | ⟨a4, m4, ns4⟩
          · rintro e w5 ⟨hc, ⟨v, rfl, y5, rfl⟩, nv5, m5, N5, hs5, hk5⟩
            have HC := Lib.hid hc
            have HS5 := Lib.hid hs5
            have HK5 := Lib.hid (Kp.trans (show Kp b nv nv4 w _ from zba) hk5)
            clear hc hs5 hk5
            go_wp2_with fail
            go_roundg g0
            case measure => omega
            case rel => exact Or.inr ⟨y5, e1, e2, m5, N5, nv5, rfl, HC.out, HS5.out, HK5.out, RR.out⟩
          · rintro e w5 ⟨he, nv5, hs5, hk5, hm5⟩
            unfold intV at he
            subst he
            have HS5 := Lib.hid hs5
            have HK5 := Lib.hid (Kp.trans (show Kp b nv nv4 w _ from zba) hk5)
            have HM5 := Lib.hid hm5
            clear hs5 hk5 hm5
            go_wp2_with fail
            go_roundg g0
            case measure => omega
            case rel =>
             have q1 := HM5.out
             have q2 := HM4.out
             have q3 := HM.out
             have q5 := RR.out
             exact Or.inl ⟨a4, m4, ns ++ (ns3 ++ ns4), nv5, rfl, by omega, by omega, HS5.out.cast zbt, HK5.out, by rw [← q5]; unfold thenR; dsimp only; rw [qcX, List.length_append, Nat.add_assoc]⟩
    · have HC := Lib.hid hc
      have HS := Lib.hid hst
      have HK := Lib.hid hkp
      have RR := Lib.hid hres
      clear hc hst hkp hres
      go_wp2_with fail
      go_at_call 143
      refine (qcL HC.out HS.out z ss HZ.out).mono ?_
      rintro e _ ⟨rfl, d5, os5, rfl⟩
      go_wp2_with fail
      go_ret
      have := RR.out
      subst this
      exact RPost.err HC.out ⟨_, rfl⟩ (HS.out.more _ _) (HK.out.more _ _)
end Go.Proofs.YtijmfpoanggjjaaGreatDoor
