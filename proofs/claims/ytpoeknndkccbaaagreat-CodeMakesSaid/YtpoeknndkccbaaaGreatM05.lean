/- Lemmas for the claim (texts NdC, May3, Par2, what its proof uses of them). -/
import Derived.Test.YtpoeknndkccbaaaGreatM04
import Derived.Deep.OwnRows
import Derived.Lib.SmallJoins
import Derived.LoopTactic
import Derived.Deep.LoopGhost
set_option linter.unusedSimpArgs false
set_option linter.unusedVariables false
set_option maxHeartbeats 4000000
set_option maxRecDepth 20000
namespace Go.Proofs.YtpoeknndkccbaaaGreat
open Go.RowKit
variable {w : World} {base n : Nat}
attribute [go_sem] more_more Array.size_append
theorem qcP : ∀ (l : List Nd) (j : Nat) (z : Nd), l[j]? = some z → (qad l)[j * 8 + 0]? = some (.int .i64 z.k) ∧ (qad l)[j * 8 + 1]? = some (.int .i64 z.a) ∧ (qad l)[j * 8 + 2]? = some (.int .i64 z.b) ∧ (qad l)[j * 8 + 3]? = some (.int .i64 z.c) ∧ (qad l)[j * 8 + 4]? = some (.int .i64 z.x) ∧ (qad l)[j * 8 + 5]? = some (.int .i64 z.i) ∧ (qad l)[j * 8 + 6]? = some (.string z.s) ∧ (qad l)[j * 8 + 7]? = some (.string z.t)
 | [], j, z, h => by simp at h
 | y :: l, 0, z, h => by
  simp at h
  subst h
  exact ⟨rfl, rfl, rfl, rfl, rfl, rfl, rfl, rfl⟩
 | y :: l, j + 1, z, h => by
  have := qcP l j z (by simpa using h)
  have e : ∀ r, (qad (y :: l))[(j + 1) * 8 + r]? = (qad l)[j * 8 + r]? := by
   intro r
   have h1 : qad (y :: l) = ndL y ++ qad l := rfl
   rw [h1, List.getElem?_append_right (by simp [ndL]; omega)]
   congr 1
   simp [ndL]; omega
  rw [e 0, e 1, e 2, e 3, e 4, e 5, e 6, e 7]
  exact this
theorem qag {e : TypeId} {size : Nat} {v : Value} {xs : List Value} (h : w.ownsRow base e size v n xs) : ∃ p c, v = .slice p n c := by
 rcases Go.Joins.ownsRow_forms h with ⟨rfl, h0⟩ | ⟨g1, c, rfl⟩
 · exact ⟨none, 0, by rw [h0]⟩
 · exact ⟨_, _, rfl⟩
theorem qai {w' : World} {e : TypeId} {size : Nat} {v : Value} {xs : List Value} (h : w.ownsRow base e size v n xs) (hb : ∀ k, v.ownBlock = some k → k < w.heap.size → w'.heap[k]? = w.heap[k]?) : w'.ownsRow base e size v n xs := by
 obtain ⟨h1, h2⟩ := h
 refine ⟨h1, ?_⟩
 rcases h2 with h2 | ⟨g, cap, cur, rfl, hg, hh, r⟩
 · exact Or.inl h2
 · exact Or.inr ⟨g, cap, cur, rfl, hg, (hb g rfl (Array.getElem?_eq_some_iff.1 hh).1).trans hh, r⟩
theorem ndInfo : (Tryz.prog.info? 42).map (fun i => (i.zero, i.size, i.bytes)) = some (some (.agg #[.int .i64 0, .int .i64 0, .int .i64 0, .int .i64 0, .int .i64 0, .int .i64 0, .string ⟨#[]⟩, .string ⟨#[]⟩]), 8, 80) := by kernel_rfl
theorem intInfo : (Tryz.prog.info? 3).map (fun i => (i.zero, i.size, i.bytes)) = some (some (.int .i64 0), 1, 8) := by kernel_rfl
/-- a node's cells in memory -/
theorem nd_at {g cap : Nat} {ns : List Nd} (h : w.ownsRow base 42 8 (.slice (some ⟨g, 0, none⟩) n cap) n (qad ns)) {j : Nat} {z : Nd} (hj : ns[j]? = some z) :
  w.cell? ⟨g, j * 8, none⟩ = some (.int .i64 z.k) ∧ w.cell? ⟨g, j * 8 + 1, none⟩ = some (.int .i64 z.a) ∧ w.cell? ⟨g, j * 8 + 2, none⟩ = some (.int .i64 z.b) ∧ w.cell? ⟨g, j * 8 + 3, none⟩ = some (.int .i64 z.c) ∧ w.cell? ⟨g, j * 8 + 4, none⟩ = some (.int .i64 z.x) ∧ w.cell? ⟨g, j * 8 + 5, none⟩ = some (.int .i64 z.i) ∧ w.cell? ⟨g, j * 8 + 6, none⟩ = some (.string z.s) ∧ w.cell? ⟨g, j * 8 + 7, none⟩ = some (.string z.t) := by
 have hc := h.cells (g := g) rfl
 obtain ⟨h0, h1, h2, h3, h4, h5, h6, h7⟩ := qcP ns j z hj
 have e : ∀ i v, (qad ns)[i]? = some v → w.cell? ⟨g, i, none⟩ = some v := fun i v hi => by
  have := hc i v hi
  rwa [Addr.add_lit, Nat.zero_add] at this
 exact ⟨e _ _ h0, e _ _ h1, e _ _ h2, e _ _ h3, e _ _ h4, e _ _ h5, e _ _ h6, e _ _ h7⟩
end Go.Proofs.YtpoeknndkccbaaaGreat

namespace Go.Proofs.YtpoeknndkccbaaaGreat
open Go.RowKit
variable {W w w' : World} {H c k n : Nat} {nv : Value} {ns : List Nd} {fi : Int} {g : Nat → Nat}
attribute [go_sem] more_more Array.size_append
/-- the checker's memory: the program, how often each node is had -/
structure CkSt (W : World) (c H : Nat) (nv : Value) (ns : List Nd) (fi : Int) (n : Nat) (g : Nat → Nat) (w : World) : Prop where
 ext : Ext W w
 cell : w.heap[c]? = some (.cells #[nv, .int .i64 fi, .slice (some ⟨H, 0, none⟩) n n] 118 (0, 0))
 had : w.rowIs H 3 n (fun j => .int .i64 (g j : Int))
 row : w.ownsRow 0 42 8 nv n (qad ns)
 base : W.heap.size ≤ H ∧ H ≠ c ∧ nv.ownBlock ≠ some H ∧ ns.length = n
theorem CkSt.of_ext (h : CkSt W c H nv ns fi n g w) (hx : Ext w w') : CkSt W c H nv ns fi n g w' :=
 ⟨h.ext.trans hx, (hx.below.block _ (Array.getElem?_eq_some_iff.1 h.cell).1).trans h.cell, h.had.of_block (hx.below.block _ h.had.lt), own_ext h.row hx, h.base⟩
theorem CkSt.alloc (h : CkSt W c H nv ns fi n g w) (b : Obj) : CkSt W c H nv ns fi n g (w.alloc b) := h.of_ext ((Ext.refl w).alloc b)
theorem CkSt.more (h : CkSt W c H nv ns fi n g w) (d : Nat) (os : Array Obj) : CkSt W c H nv ns fi n g (more w d os) := h.of_ext ((Ext.refl w).more d os)
theorem CkSt.facts (h : CkSt W c H nv ns fi n g w) :
  w.cell? ⟨c, 0, none⟩ = some nv ∧ w.cell? ⟨c, 1, none⟩ = some (.int .i64 fi) ∧ w.cell? ⟨c, 2, none⟩ = some (.slice (some ⟨H, 0, none⟩) n n) ∧ c < w.heap.size ∧ H < w.heap.size := by
 have h1 := h.cell
 refine ⟨?_, ?_, ?_, (Array.getElem?_eq_some_iff.1 h1).1, h.had.lt⟩ <;> simp [World.cell?, h1]
theorem CkSt.set (h : CkSt W c H nv ns fi n g w) (k : Nat) (v : Int) (g' : Nat → Nat) (hg : ∀ j, (g' j : Int) = if j = k then v else (g j : Int)) :
  CkSt W c H nv ns fi n g' (w.setCell ⟨H, k, none⟩ (.int .i64 v)) := by
 obtain ⟨b1, b2, b4, b5⟩ := h.base
 refine ⟨h.ext.setCell b1 _, by rw [heap_set_other _ _ _ _ _ (Ne.symm b2)]; exact h.cell, (h.had.set k _).congr fun j _ => ?_, ?_, h.base⟩
 · rw [hg j]; split <;> rfl
 · exact qai h.row fun j hj _ => heap_set_other _ _ _ _ _ (fun e => b4 (by rw [← e]; exact hj))
theorem CkSt.congr {g' : Nat → Nat} (h : CkSt W c H nv ns fi n g w) (e : ∀ j, j < n → g j = g' j) : CkSt W c H nv ns fi n g' w :=
 ⟨h.ext, h.cell, h.had.congr fun j hj => by rw [e j hj], h.row, h.base⟩
/-- all but one block as it was -/
def Fr (H : Nat) (w w' : World) : Prop := ∀ q, q < w.heap.size → q ≠ H → w'.heap[q]? = w.heap[q]?
theorem Fr.refl (H : Nat) (w : World) : Fr H w w := fun _ _ _ => rfl
/-- a block -/
def KB (k : Nat) (cs : Array Value) (T : TypeId) (w : World) : Prop := w.heap[k]? = some (.cells cs T (0, 0))
theorem KB.lt {cs : Array Value} {T : TypeId} (h : KB k cs T w) : k < w.heap.size := (Array.getElem?_eq_some_iff.1 h).1
theorem KB.kept {cs : Array Value} {T : TypeId} (h : KB k cs T w) (hf : Fr H w w') (hn : k ≠ H) : KB k cs T w' := (hf k h.lt hn).trans h
theorem KB.of_ext {cs : Array Value} {T : TypeId} (h : KB k cs T w) (hx : Ext w w') : KB k cs T w' := (hx.below.block _ h.lt).trans h
theorem KB.new (w : World) (cs : Array Value) (T : TypeId) : KB w.heap.size cs T (w.alloc (.cells cs T (0, 0))) := heap_alloc_new _ _
theorem KB.cell {cs : Array Value} {T : TypeId} (h : KB k cs T w) (j : Nat) (v : Value) (hj : cs[j]? = some v) : w.cell? ⟨k, j, none⟩ = some v := by
 unfold KB at h
 simp [World.cell?, h, hj]
def qbf (ns : List Nd) (k : Int) : Int := match ns[k.toNat]? with | some z => z.k | none => 0
def qab (ns : List Nd) (k f t : Int) (st : Bool) : Bool := decide (f ≤ k) && decide (k < t) && (st == decide (20 ≤ qbf ns k))
def blkB (ns : List Nd) (k i : Int) : Bool := k == -1 || qab ns k 0 i true
def pone (a k : Int) : Nat := if a = k then 1 else 0
def addB (A : Bool) (k : Int) (g : Nat → Nat) : Nat → Nat := fun j => g j + if A = true then pone k j else 0
theorem qah (A : Bool) (k : Int) (g : Nat → Nat) (j m : Nat) (h : g j ≤ m) : addB A k g j ≤ m + 1 := by
 unfold addB pone; split <;> (try split) <;> omega
theorem qan (h : CkSt W c H nv ns fi n g w) (k f t : Int) (st : Bool) (h0 : 0 ≤ f) (ht : t ≤ (n : Int)) (hb : ∀ j, j < n → g j ≤ 9000) :
  Calls Tryz.prog 91 #[.pointer (some ⟨c, 0, none⟩), .int .i64 k, .int .i64 f, .int .i64 t, .bool st] w fun e w' => e = .returned (.bool (qab ns k f t st)) ∧ CkSt W c H nv ns fi n (addB (qab ns k f t st) k g) w' ∧ Fr H w w' := by
 have HS := Lib.hid h
 have HC0 := Lib.hid (h.congr (g' := addB false k g) fun j _ => by simp [addB])
 obtain ⟨c0, c1, c2, lc, lH⟩ := h.facts
 by_cases hf : f ≤ k
 rotate_left
 · have hr : qab ns k f t st = false := by unfold qab; rw [decide_eq_false hf]; rfl
   rw [hr]
   have q1 : k < f := by omega
   clear h hb c0 c1 c2 hf hr h0 ht
   go_enter Tryz.func91, Tryz.ntmps91
   go_wp2_with fail
   go_ret
   exact ⟨rfl, HC0.out, Fr.refl _ _⟩
 by_cases hk : k < t
 rotate_left
 · have hr : qab ns k f t st = false := by unfold qab; rw [decide_eq_false hk]; simp
   rw [hr]
   have q1 : f ≤ k := hf
   have q2 : t ≤ k := by omega
   clear h hb c0 c1 c2 hf hr h0 ht hk
   go_enter Tryz.func91, Tryz.ntmps91
   go_wp2_with fail
   go_ret
   exact ⟨rfl, HC0.out, Fr.refl _ _⟩
 obtain ⟨j, rfl⟩ : ∃ j : Nat, k = (j : Int) := ⟨k.toNat, by omega⟩
 have hj : j < n := by omega
 obtain ⟨z, hz⟩ : ∃ z, ns[j]? = some z := ⟨_, List.getElem?_eq_getElem (by rw [h.base.2.2.2]; exact hj)⟩
 have hp : ∃ G cap, nv = .slice (some ⟨G, 0, none⟩) n cap := by
  rcases Go.Joins.ownsRow_forms h.row with ⟨_, h0⟩ | ⟨g1, c1, h0⟩
  · omega
  · exact ⟨g1, c1, h0⟩
 obtain ⟨G, cap, rfl⟩ := hp
 have a0 := (nd_at h.row hz).1
 have hG := (h.row.lt G rfl).2
 have hkd : qbf ns (j : Int) = z.k := by unfold qbf; rw [show ((j : Int)).toNat = j from rfl, hz]
 obtain ⟨zk, hzk⟩ : ∃ zk, z.k = zk := ⟨_, rfl⟩
 rw [hzk] at a0 hkd
 have hr : qab ns (j : Int) f t st = (st == decide (20 ≤ zk)) := by unfold qab; rw [decide_eq_true hf, decide_eq_true hk, hkd]; simp
 rw [hr]
 have hc := h.had.cell hj
 have hfz := h.had.frozen j
 have hgj : (g j : Int) ≤ 9000 := by have := hb j hj; omega
 have hgj0 : 0 ≤ (g j : Int) := by omega
 obtain ⟨q, hq⟩ : ∃ q : Nat, g j = q := ⟨_, rfl⟩
 have HQ := Lib.hid hq
 simp only [hq] at hc hgj hgj0
 have hj0 : 0 ≤ (j : Int) := by omega
 refine ycs ?_; intro hjn
 clear h hb hq hj hz hzk hkd hr c1 ht h0
 cases st <;> by_cases hz20 : 20 ≤ zk
 · rw [decide_eq_true hz20, show ((false : Bool) == true) = false from rfl]
   go_enter Tryz.func91, Tryz.ntmps91
   go_wp2_with fail
   go_ret
   exact ⟨rfl, HC0.out, Fr.refl _ _⟩
 · rw [decide_eq_false hz20, show ((false : Bool) == false) = true from rfl]
   have hz2 : zk < 20 := by omega
   clear hz20
   go_enter Tryz.func91, Tryz.ntmps91
   go_wp2_with fail
   go_ret
   refine ⟨rfl, HS.out.set j _ _ fun i => ?_, fun q _ hq => heap_set_other _ _ _ _ _ hq⟩
   unfold addB pone
   rw [if_pos rfl]
   by_cases e : i = j
   · subst e; rw [if_pos rfl, if_pos rfl, HQ.out]; omega
   · rw [if_neg e, if_neg zaf]; rfl
 · rw [decide_eq_true hz20, show ((true : Bool) == true) = true from rfl]
   go_enter Tryz.func91, Tryz.ntmps91
   go_wp2_with fail
   go_ret
   refine ⟨rfl, HS.out.set j _ _ fun i => ?_, fun q _ hq => heap_set_other _ _ _ _ _ hq⟩
   unfold addB pone
   rw [if_pos rfl]
   by_cases e : i = j
   · subst e; rw [if_pos rfl, if_pos rfl, HQ.out]; omega
   · rw [if_neg e, if_neg zaf]; rfl
 · rw [decide_eq_false hz20, show ((true : Bool) == false) = false from rfl]
   refine ybr ?_; intro hzd
   have hz2 : zk < 20 := by omega
   clear hz20
   go_enter Tryz.func91, Tryz.ntmps91
   go_wp2_with fail
   go_ret
   exact ⟨rfl, HC0.out, Fr.refl _ _⟩
theorem qaX (h : CkSt W c H nv ns fi n g w) (k i : Int) (ht : i ≤ (n : Int)) (hb : ∀ j, j < n → g j ≤ 9000) :
  Calls Tryz.prog 56 #[.pointer (some ⟨c, 0, none⟩), .int .i64 k, .int .i64 i] w fun e w' => e = .returned (.bool (blkB ns k i)) ∧ CkSt W c H nv ns fi n (addB (blkB ns k i) k g) w' ∧ Fr H w w' := by
 by_cases hk : k = -1
 · subst hk
   have HC0 := Lib.hid (h.congr (g' := addB true (-1) g) fun j _ => by unfold addB pone; rw [if_pos rfl, if_neg zaf]; rfl)
   rw [show blkB ns (-1) i = true from rfl]
   clear h hb ht
   go_enter Tryz.func56, Tryz.ntmps56
   go_wp2_with fail
   go_ret
   exact ⟨rfl, HC0.out, Fr.refl _ _⟩
 · have T := Lib.hid (qan h k 0 i true zaf ht hb)
   rw [show blkB ns k i = qab ns k 0 i true from by unfold blkB; rw [show (k == -1) = false from by simpa using hk]; rfl]
   obtain ⟨A, hA⟩ : ∃ A, qab ns k 0 i true = A := ⟨_, rfl⟩
   rw [hA] at T ⊢
   have q : (k == -1) = false := by simpa using hk
   clear h hb ht hA hk
   go_enter Tryz.func56, Tryz.ntmps56
   go_wp2_with (((with_reducible refine T.out.mono ?_); rintro e' w1 ⟨rfl, h1, h2⟩; have H1 := Lib.hid h1; have H2 := Lib.hid h2; clear h1 h2))
   go_ret
   exact ⟨rfl, H1.out, H2.out⟩
end Go.Proofs.YtpoeknndkccbaaaGreat

namespace Go.Proofs.YtpoeknndkccbaaaGreat
open Go.RowKit
variable {b cap lb lo m : Nat} {nv : Value} {L : Toks} {N : List Nd} {w : World} {s : ByteArray} {r : List ByteArray}
attribute [go_sem] more_more Array.size_append
theorem qbg (h : St b lb lo cap nv L m N w) :
  Calls Tryz.prog 78 #[.pointer (some ⟨b, 0, none⟩)] w fun e w' => e = .returned (tokV (tk L m).1 (tk L m).2) ∧ Ext w w' := by
 obtain ⟨c0, c1, c2, c3, f1, f2, f3, hb⟩ := h.facts
 obtain ⟨t0, t1, t2, t3, hlb⟩ := h.tokFacts
 have hp : (m : Int) < (L.length : Int) := by have := h.pos; omega
 have hp0 : 0 ≤ (m : Int) := by omega
 obtain ⟨⟨⟨k, s, i⟩, a⟩, htt⟩ : ∃ tt, tk L m = tt := ⟨_, rfl⟩
 rw [htt] at t0 t1 t2 t3 ⊢
 unfold tokV
 clear htt h c2 c3 f1 f2 f3
 go_enter Tryz.func78, Tryz.ntmps78
 go_wp2_with fail
 refine qaa 10 13 [false, false, false, false, false, false, false, false, false, false] zae zae rfl ?_
 refine yac ?_
 repeat (refine Lex.step rfl ?_; intro K hK; unfold StepG; go_simp; (first
   | refine hK _ ?_); clear hK K)
 refine yaa ?_; intro dd oo
 go_wp2_with fail
 rw [ends_normal]
 go_wp2_with fail
 exact bodyPost_ret (v := .agg #[.int .i64 k, .int .i64 a, .string s, .int .i64 i]) (by simp [results, Tryz.results78, go_sem]) rfl ⟨rfl, zac⟩
theorem isP_eq {t : Tok} {a : Int} (ht : tk L m = (t, a)) (s : ByteArray) (b : Bool) (hw : wordB s = b) : isP L s m = (t.k == (if b = true then 5 else 4) && t.s.toList == s.toList) := by
 unfold isP; rw [ht, hw]
theorem is_any (h : St b lb lo cap nv L m N w) (s : ByteArray) :
  Calls Tryz.prog 140 #[.pointer (some ⟨b, 0, none⟩), .string s] w fun e w' => e = .returned (.bool (isP L s m)) ∧ Ext w w' := by
 refine yav ?_; intro TK
 obtain ⟨⟨⟨k, ts, i⟩, a⟩, htt⟩ : ∃ tt, tk L m = tt := ⟨_, rfl⟩
 have W := Lib.hid (word_any s)
 cases hw : wordB s
 all_goals
  rw [hw] at W
  rw [isP_eq htt s _ hw]
  rw [htt] at TK
  unfold tokV at TK
  clear htt hw h
  dsimp only at TK ⊢
 · by_cases hk : (k == 4) = true
   · rw [if_neg zay, hk]
     go_enter Tryz.func140, Tryz.ntmps140
     go_wp2_with (first
      | (go_at_call 103; refine (W.out _).mono ?_; rintro e _ ⟨rfl, d, os, rfl⟩)
      | (go_at_call 78; refine (TK.out _ zac).mono ?_; rintro e _ ⟨rfl, d2, os2, rfl⟩))
     go_ret
     refine ⟨ret_bool ?_, zac⟩
     simp
   · have hk2 : (k == 4) = false := by simpa using hk
     clear hk
     rw [if_neg zay, hk2]
     go_enter Tryz.func140, Tryz.ntmps140
     go_wp2_with (first
      | (go_at_call 103; refine (W.out _).mono ?_; rintro e _ ⟨rfl, d, os, rfl⟩)
      | (go_at_call 78; refine (TK.out _ zac).mono ?_; rintro e _ ⟨rfl, d2, os2, rfl⟩))
     go_ret
     refine ⟨ret_bool ?_, zac⟩
     simp
 · by_cases hk : (k == 5) = true
   · rw [if_pos rfl, hk]
     go_enter Tryz.func140, Tryz.ntmps140
     go_wp2_with (first
      | (go_at_call 103; refine (W.out _).mono ?_; rintro e _ ⟨rfl, d, os, rfl⟩)
      | (go_at_call 78; refine (TK.out _ zac).mono ?_; rintro e _ ⟨rfl, d2, os2, rfl⟩))
     go_ret
     refine ⟨ret_bool ?_, zac⟩
     simp
   · have hk2 : (k == 5) = false := by simpa using hk
     clear hk
     rw [if_pos rfl, hk2]
     go_enter Tryz.func140, Tryz.ntmps140
     go_wp2_with (first
      | (go_at_call 103; refine (W.out _).mono ?_; rintro e _ ⟨rfl, d, os, rfl⟩)
      | (go_at_call 78; refine (TK.out _ zac).mono ?_; rintro e _ ⟨rfl, d2, os2, rfl⟩))
     go_ret
     refine ⟨ret_bool ?_, zac⟩
     simp
theorem qbr (h : St b lb lo cap nv L m N w) (s : ByteArray) (hn : isP L s m = false) :
  Calls Tryz.prog 132 #[.pointer (some ⟨b, 0, none⟩), .string s] w fun e w' => e = .returned (.bool false) ∧ Ext w w' := by
 have I := Lib.hid (is_any h s)
 rw [hn] at I
 clear hn h
 go_enter Tryz.func132, Tryz.ntmps132
 go_wp2_with (go_at_call 140; refine I.out.mono ?_; rintro e _ ⟨rfl, d, os, rfl⟩)
 go_ret
 exact ⟨rfl, zac⟩
theorem qcZ (h : St b lb lo cap nv L m N w) (s : ByteArray) (hn : isP L s m = true) :
  Calls Tryz.prog 132 #[.pointer (some ⟨b, 0, none⟩), .string s] w fun e w' => e = .returned (.bool true) ∧ ∃ w1, Ext w w1 ∧ w' = w1.setCell ⟨b, 1, none⟩ (.int .i64 ((m : Int) + 1)) := by
 have I := Lib.hid (is_any h s)
 rw [hn] at I
 have hm : (m : Int) ≤ 5000 := by have := h.ends.few; have := h.pos; omega
 have hm0 : 0 ≤ (m : Int) := by omega
 obtain ⟨c0, c1, c2, c3, f1, f2, f3, hb⟩ := h.facts
 clear hn h c0 c2 c3 f2 f3
 go_enter Tryz.func132, Tryz.ntmps132
 go_wp2_with (go_at_call 140; refine I.out.mono ?_; rintro e _ ⟨rfl, d, os, rfl⟩)
 go_ret
 exact ⟨rfl, more w d os, zac, by rw [more_setCell _ _ _ _ _ _ hb]⟩
theorem fld_at (k a : Int) (s : ByteArray) (i : Int) (w : World) : (Instr.field 100 (.agg #[.int .i64 k, .int .i64 a, .string s, .int .i64 i]) 1).run Tryz.prog w = .ok (.int .i64 a) w := by kernel_rfl
theorem fld_s (k a : Int) (s : ByteArray) (i : Int) (w : World) : (Instr.field 100 (.agg #[.int .i64 k, .int .i64 a, .string s, .int .i64 i]) 2).run Tryz.prog w = .ok (.string s) w := by kernel_rfl
theorem fld_i (k a : Int) (s : ByteArray) (i : Int) (w : World) : (Instr.field 100 (.agg #[.int .i64 k, .int .i64 a, .string s, .int .i64 i]) 3).run Tryz.prog w = .ok (.int .i64 i) w := by kernel_rfl
attribute [go_sem] fld_at fld_s fld_i
theorem qbj (h : St b lb lo cap nv L m N w) (c : Int) :
  Calls Tryz.prog 79 #[.pointer (some ⟨b, 0, none⟩), .int .i64 c] w fun e w' => e = noV c (tk L m).2 ∧ Ext w w' := by
 refine yav ?_; intro TK
 obtain ⟨⟨⟨k, ts, i⟩, a⟩, htt⟩ : ∃ tt, tk L m = tt := ⟨_, rfl⟩
 rw [htt] at TK ⊢
 unfold tokV at TK
 dsimp only at TK ⊢
 clear htt h
 go_enter Tryz.func79, Tryz.ntmps79
 go_wp2_with (go_at_call 78; refine (TK.out _ zac).mono ?_; rintro e _ ⟨rfl, d2, os2, rfl⟩)
 exact ⟨rfl, rfl, zac⟩
theorem PPost.err {α : Type} {V : α → Value} {nv' : Value} {w' : World} {c a : Int} {e : Ending} (he : e = noV c a) (hk : Kp b nv nv' w w') : PPost V b lb lo cap nv L m N w (.error (c, a)) e w' := ⟨he, nv', hk⟩
theorem PPost.res {α : Type} {V : α → Value} {nv' : Value} {m' : Nat} {ns : List Nd} {w' : World} {v : α} {e : Ending} (he : e = .returned (V v)) (hs : St b lb lo cap nv' L m' (N ++ ns) w') (hk : Kp b nv nv' w w') (hm : m ≤ m') :
  PPost V b lb lo cap nv L m N w (.ok (v, m', ns)) e w' := ⟨he, nv', hs, hk, hm⟩
theorem qcs (h : St b lb lo cap nv L m N w) (d : Nat) (hd : d ≤ 17) (r : PR Unit) (hr : deepP L d m N.length = r) :
  Calls Tryz.prog 76 #[.pointer (some ⟨b, 0, none⟩), .int .i64 (d : Int)] w (PPost unitV b lb lo cap nv L m N w r) := by
 subst hr
 refine yah ?_; intro FL
 by_cases h16 : 16 < d
 · unfold deepP
   rw [if_pos h16]
   have h17 : (16 : Int) < (d : Int) := by omega
   refine Calls.mono (R := fun e w' => e = noV 14 (tk L m).2 ∧ Ext w w') ?_ fun e w' ⟨he, hx⟩ => PPost.err he ((Kp.refl b nv w).ext hx)
   clear h h16
   go_enter Tryz.func76, Tryz.ntmps76
   go_wp2_with (go_at_call 79; refine (FL.out _ _ zac).mono ?_; rintro e _ ⟨he, d3, os3, rfl⟩; unfold noV at he; subst he)
   exact ⟨rfl, rfl, zac⟩
 · unfold deepP
   rw [if_neg h16]
   have h17 : (d : Int) ≤ 16 := by omega
   refine Calls.mono (R := fun e w' => e = .returned (.tuple #[]) ∧ Ext w w') ?_ fun e w' ⟨he, hx⟩ => PPost.res he (by simpa using h.ext hx) ((Kp.refl b nv w).ext hx) (Nat.le_refl _)
   clear h h16
   go_enter Tryz.func76, Tryz.ntmps76
   go_wp2_with (go_at_call 79; refine (FL.out _ _ zac).mono ?_; rintro e _ ⟨he, d3, os3, rfl⟩; unfold noV at he; subst he)
   go_end0
   exact ⟨rfl, zac⟩
theorem of_any (h : St b lb lo cap nv L m N w) (k0 : Int) (h0 : k0 ≠ 0) (r : PR Tok) (hr : ofP L k0 m N.length = r) :
  Calls Tryz.prog 50 #[.pointer (some ⟨b, 0, none⟩), .int .i64 k0] w (PPost (fun t => tokV t (tk L m).2) b lb lo cap nv L m N w r) := by
 subst hr
 refine yav ?_; intro TK
 refine yah ?_; intro FL
 have hm : (m : Int) ≤ 5000 := by have := h.ends.few; have := h.pos; omega
 have hm0 : 0 ≤ (m : Int) := by omega
 have hnx : (tk L m).1.k = k0 → m + 1 < L.length := fun e => h.next (by rw [e]; exact h0)
 have H := Lib.hid h
 obtain ⟨c0, c1, c2, c3, f1, f2, f3, hb⟩ := h.facts
 clear h c0 c2 c3 f2 f3
 obtain ⟨⟨⟨k, ts, i⟩, a⟩, htt⟩ : ∃ tt, tk L m = tt := ⟨_, rfl⟩
 unfold ofP
 rw [htt] at TK FL hnx ⊢
 unfold tokV at TK
 unfold tokV
 dsimp only at TK FL hnx ⊢
 clear htt
 by_cases hk : k = k0
 · rw [if_pos hk]
   have hlt := hnx hk
   subst hk
   refine Calls.mono (R := fun e w' => e = .returned (.agg #[.int .i64 k, .int .i64 a, .string ts, .int .i64 i]) ∧ ∃ w1 w2, Ext w w1 ∧ w2 = w1.setCell ⟨b, 1, none⟩ (.int .i64 ((m : Int) + 1)) ∧ Ext w2 w') ?_
    fun e w' ⟨he, w1, w2, hx, hw, hx2⟩ => PPost.res he (by rw [List.append_nil]; exact (hw ▸ (H.out.ext hx).setAt (m + 1) _ zaf hlt).ext hx2) ((hw ▸ ((Kp.refl b nv w).ext hx).setB 1 _).ext hx2) (Nat.le_succ _)
   clear hnx
   have hlt := Lib.hid hlt
   have hkk : (k != k) = false := by simp
   go_enter Tryz.func50, Tryz.ntmps50
   go_wp2_with (first | (go_at_call 78; refine (TK.out _ zac).mono ?_; rintro e _ ⟨rfl, d2, os2, rfl⟩) | (go_at_call 79; refine (FL.out _ _ zac).mono ?_; rintro e _ ⟨he, d3, os3, rfl⟩; unfold noV at he; subst he))
   exact bodyPost_ret (v := .agg #[.int .i64 k, .int .i64 a, .string ts, .int .i64 i]) (by simp [results, Tryz.results50, go_sem]) rfl ⟨rfl, _, _, Ext.refl _, rfl, zac⟩
 · rw [if_neg hk]
   have hkk : (k != k0) = true := by simpa using hk
   refine Calls.mono (R := fun e w' => e = noV 3 a ∧ Ext w w') ?_ fun e w' ⟨he, hx⟩ => PPost.err he ((Kp.refl b nv w).ext hx)
   clear hnx hk
   go_enter Tryz.func50, Tryz.ntmps50
   go_wp2_with (first | (go_at_call 78; refine (TK.out _ zac).mono ?_; rintro e _ ⟨rfl, d2, os2, rfl⟩) | (go_at_call 79; refine (FL.out _ _ zac).mono ?_; rintro e _ ⟨he, d3, os3, rfl⟩; unfold noV at he; subst he))
   exact ⟨rfl, rfl, zac⟩
theorem nv_form (h : St b lb lo cap nv L m N w) : ∃ len c p, nv = .slice p len c ∧ len = N.length := by
 rcases Go.Joins.ownsRow_forms h.row with ⟨rfl, h0⟩ | ⟨g1, c, rfl⟩
 · exact ⟨_, _, _, rfl, h0.symm⟩
 · exact ⟨_, _, _, rfl, rfl⟩
theorem news_splitP {N d1 d2 : Nat} {os1 os2 : Array Obj} {cs : Array Value} {t : TypeId} (hN : N = w.heap.size + os1.size) :
  ∀ j u, cs.toList[j]? = some u → (more ((more w d1 os1).alloc (.cells cs t)) d2 os2).cell? ((⟨N, 0, none⟩ : Addr).add j) = some u := by
 intro j u h
 have hN' : N = (more w d1 os1).heap.size := by rw [more_size]; exact hN
 subst hN'
 rw [Addr.add_lit, qdc _ _ _ _ _ zay]
 simp only [World.cell?, heap_alloc_new]
 simpa using h
theorem qaM (h : St b lb lo cap nv L m N w) (zk za zb zc zx zi : Int) (zs zt : ByteArray) (r : PR Int) (hr : layP L ⟨zk, za, zb, zc, zx, zi, zs, zt⟩ m N.length = r) :
  Calls Tryz.prog 115 #[.pointer (some ⟨b, 0, none⟩), .agg #[.int .i64 zk, .int .i64 za, .int .i64 zb, .int .i64 zc, .int .i64 zx, .int .i64 zi, .string zs, .string zt]] w (PPost intV b lb lo cap nv L m N w r) := by
 subst hr
 refine yah ?_; intro FL
 obtain ⟨len, c, p, rfl, hlen⟩ := nv_form h
 have hcnt := h.cnt
 subst hlen
 have H := Lib.hid h
 obtain ⟨c0, c1, c2, c3, f1, f2, f3, hb⟩ := h.facts
 unfold layP
 by_cases h5 : N.length = 512
 · rw [if_pos h5]
   have q5 : ((N.length : Int) == 512) = true := by rw [h5]; rfl
   refine Calls.mono (R := fun e w' => e = noV 5 (tk L m).2 ∧ Ext w w') ?_ fun e w' ⟨he, hx⟩ => PPost.err he ((Kp.refl b _ w).ext hx)
   clear h h5 c0 c1 c3 f1 f3
   go_enter Tryz.func115, Tryz.ntmps115
   go_wp2_with (go_at_call 79; refine (FL.out _ _ zac).mono ?_; rintro e _ ⟨he, d3, os3, rfl⟩; unfold noV at he; subst he)
   exact ⟨rfl, rfl, zac⟩
 · rw [if_neg h5]
   have q5 : ((N.length : Int) == 512) = false := by simp; omega
   have h512 : N.length < 512 := by omega
   have H5 := Lib.hid h512
   have hmx : (N.length : Int) ≤ 511 := by omega
   obtain ⟨i0, hi, hz0, hz1, hz2⟩ := info_parts ndInfo
   clear h h5 c0 c1 c3 f1 f3 h512 hcnt FL
   go_enter Tryz.func115, Tryz.ntmps115
   go_wp2_with fail
   refine qaa 8 33 [true, false, false, false, false, false, false, false] zae zae rfl ?_
   refine yac ?_
   refine Lex.stepP rfl rfl ?_; intro K hK; go_simp; refine hK _ ?_; clear hK K
   iterate 6 (refine Lex.step rfl ?_; intro K hK; unfold StepG; go_simp; refine hK _ ?_; clear hK K)
   refine Lex.sliceLit 21 (.cells #[.int .i64 zk, .int .i64 za, .int .i64 zb, .int .i64 zc, .int .i64 zx, .int .i64 zi, .string zs, .string zt] 42) 1 1 rfl rfl (fun d os => ?_) ?_
   · unfold StepG
     go_simp
     exact ⟨(Ext.refl _).alloc _, NewSl.of_alloc _ _ _ _ _ _ _ zdh⟩
   refine Lex.nil fun WW hE => ?_
   intro u hu
   obtain ⟨d1, os1, d2, os2, rfl, rfl⟩ := hu.split hE
   clear hu hE
   go_simp
   unfold FillH
   go_wp2_with (at_builtin; refine wpList_append_own_at _ rfl _ _ 22 rfl (b + 1) 42 i0 (.agg #[.int .i64 0, .int .i64 0, .int .i64 0, .int .i64 0, .int .i64 0, .int .i64 0, .string ⟨#[]⟩, .string ⟨#[]⟩]) 8 80 Tryz.underlying22 hi hz0 hz1 hz2 rfl zax (.slice p N.length c) N.length (qad N) rfl ?c0 ⟨_, 0, none⟩ 1 1 [.int .i64 zk, .int .i64 za, .int .i64 zb, .int .i64 zc, .int .i64 zx, .int .i64 zi, .string zs, .string zt] rfl rfl ?c1 ?c2 ?c3 ?c4 ?c5 ?_)
   case c0 => repeat (first | (with_reducible exact H.out.row) | (with_reducible apply own_more) | (with_reducible refine World.ownsRow.alloc ?_ _))
   case c1 => exact news_splitP zdh
   case c2 => intro u hu; simp at hu; rcases hu with rfl | rfl | rfl | rfl | rfl | rfl | rfl | rfl <;> rfl
   case c3 => unfold maxLen; omega
   case c4 => omega
   case c5 => simp [more_size]; omega
   intro v' w1 hown' hgrow _ hblk
   have HS : RowKit.Hid (St b lb lo cap v' L m (N ++ [⟨zk, za, zb, zc, zx, zi, zs, zt⟩]) (w1.setCell ⟨b, 2, none⟩ v')) := Lib.hid (St.push (by repeat (first | (with_reducible exact H.out) | (with_reducible apply St.alloc) | (with_reducible apply St.more))) hown' hgrow H5.out)
   have HK : RowKit.Hid (Kp b (.slice p N.length c) v' w (w1.setCell ⟨b, 2, none⟩ v')) := Lib.hid (Kp.push (by repeat (first | (with_reducible exact Kp.refl _ _ _) | (with_reducible apply Kp.alloc) | (with_reducible apply Kp.more))) hgrow (by simp only [more_size, World.size_alloc]; exact hblk))
   obtain ⟨hc2, hb1, hb2⟩ := St.grownFacts (by repeat (first | (with_reducible exact H.out) | (with_reducible apply St.alloc) | (with_reducible apply St.more))) hgrow
   have hb3 : ∃ g cap1, v' = .slice (some ⟨g, 0, none⟩) (N.length + 1) cap1 := by obtain ⟨g1, cap1, rfl, _, _⟩ := hown'.form zaf; exact ⟨_, _, rfl⟩
   obtain ⟨g1, cap1, rfl⟩ := hb3
   clear hown' hgrow hblk
   go_wp2_with fail
   first | rw [ends_normal] | skip
   go_wp2_with fail
   go_ret
   exact PPost.res (by first | rfl | (show Ending.returned (.int .i64 _) = _; exact ret_int zaf)) HS.out HK.out (Nat.le_refl _)
theorem qaD (k : Int) (w : World) : Calls Tryz.prog 112 #[.int .i64 k] w fun e w' => e = .returned (.agg #[.int .i64 k, .int .i64 (-1), .int .i64 (-1), .int .i64 (-1), .int .i64 (-1), .int .i64 0, .string ⟨#[]⟩, .string ⟨#[]⟩]) ∧ Ext w w' := by
 go_enter Tryz.func112, Tryz.ntmps112
 go_wp2_with fail
 exact bodyPost_ret (v := .agg #[.int .i64 k, .int .i64 (-1), .int .i64 (-1), .int .i64 (-1), .int .i64 (-1), .int .i64 0, .string ⟨#[]⟩, .string ⟨#[]⟩]) (by simp [results, Tryz.results112, go_sem]) rfl ⟨rfl, zac⟩
theorem isP_ne (h : isP L s m = true) : (tk L m).1.k ≠ 0 := by
 unfold isP at h
 intro e
 rw [e] at h
 split at h <;> simp at h
/-- what the walk reads of a node of one's own -/
theorem Loc.node {k : Nat} {v0 v1 v2 v3 v4 v5 v6 v7 : Value} (h : Loc b nv k (.cells #[v0, v1, v2, v3, v4, v5, v6, v7] 42 (0, 0)) w) :
  w.cell? ⟨k, 0, none⟩ = some v0 ∧ w.cell? ⟨k, 1, none⟩ = some v1 ∧ w.cell? ⟨k, 2, none⟩ = some v2 ∧ w.cell? ⟨k, 3, none⟩ = some v3 ∧ w.cell? ⟨k, 4, none⟩ = some v4 ∧ w.cell? ⟨k, 5, none⟩ = some v5 ∧ w.cell? ⟨k, 6, none⟩ = some v6 ∧ w.cell? ⟨k, 7, none⟩ = some v7 ∧
  w.frozen? ⟨k, 0, none⟩ = false ∧ w.frozen? ⟨k, 1, none⟩ = false ∧ w.frozen? ⟨k, 2, none⟩ = false ∧ w.frozen? ⟨k, 3, none⟩ = false ∧ w.frozen? ⟨k, 5, none⟩ = false ∧ w.frozen? ⟨k, 6, none⟩ = false ∧ w.frozen? ⟨k, 7, none⟩ = false ∧ k < w.heap.size := by
 have := h.is
 refine ⟨?_, ?_, ?_, ?_, ?_, ?_, ?_, ?_, ?_, ?_, ?_, ?_, ?_, ?_, ?_, h.lt⟩ <;> simp [World.cell?, World.frozen?, this]
theorem qbB (h : St b lb lo cap nv L m N w) (s : ByteArray) (r : PR Bool) (hr : takesP L s m N.length = r) :
  Calls Tryz.prog 132 #[.pointer (some ⟨b, 0, none⟩), .string s] w (PPost (fun x => .bool x) b lb lo cap nv L m N w r) := by
 subst hr
 unfold takesP
 by_cases hp : isP L s m = true
 · rw [if_pos hp]
   refine (qcZ h s hp).mono fun e w' ⟨he, w1, hx, hw⟩ => ?_
   subst hw
   exact PPost.res he (by rw [List.append_nil]; exact (h.ext hx).setAt (m + 1) _ zaf (h.next (isP_ne hp))) (((Kp.refl b nv w).ext hx).setB 1 _) (Nat.le_succ _)
 · rw [if_neg hp]
   refine (qbr h s (by simpa using hp)).mono fun e w' ⟨he, hx⟩ => ?_
   exact PPost.res he (by rw [List.append_nil]; exact h.ext hx) ((Kp.refl b nv w).ext hx) (Nat.le_refl _)
theorem mustP_yes {n : Nat} (h : isP L s m = true) : mustP L (s :: r) m n = mustP L r (m + 1) n := by
 rw [mustP, qaJ (v := ()) (m1 := m + 1) (ns := []) (by unfold must1; rw [if_pos h]), qbt]; rfl
theorem mustP_no {n : Nat} (h : isP L s m = false) : mustP L (s :: r) m n = .error (3, (tk L m).2) := by
 rw [mustP]; exact qba (by unfold must1; rw [h]; rfl)
theorem drop_cons {α : Type} (ss : List α) (j : Nat) (d : α) (h : j < ss.length) : ss.drop j = ss.getD j d :: ss.drop (j + 1) := by
 rw [List.drop_eq_getElem_cons h]; simp [List.getD, List.getElem?_eq_getElem h]
/-- a row of texts of one's own -/
def strs (ss : List ByteArray) : Obj := .cells (ss.map Value.string).toArray 9 (0, 0)
theorem Loc.str {g : Nat} {ss : List ByteArray} (h : Loc b nv g (strs ss) w) (j : Nat) (hj : j < ss.length) : w.cell? ⟨g, j, none⟩ = some (.string (ss.getD j ⟨#[]⟩)) := by
 have := h.is
 unfold strs at this
 simp [World.cell?, this, List.getD, List.getElem?_eq_getElem hj]
theorem must_any (h : St b lb lo cap nv L m N w) (ss : List ByteArray) (g c : Nat) (hg : Loc b nv g (strs ss) w) (hss : ss.length ≤ 100) (r : PR Unit) (hr : mustP L ss m N.length = r) :
  Calls Tryz.prog 133 #[.pointer (some ⟨b, 0, none⟩), .slice (some ⟨g, 0, none⟩) ss.length c] w (PPost unitV b lb lo cap nv L m N w r) := by
 have H := Lib.hid h
 have G := Lib.hid hg
 have R := Lib.hid hr
 have hsz : (ss.length : Int) ≤ 100 := by omega
 clear h hg hr
 go_enter Tryz.func133, Tryz.ntmps133
 go_wp2_with fail
 go_loopw [8] (fun i wr => ∃ j : Nat, i = .int .i64 (j : Int) ∧ j ≤ ss.length ∧ St b lb lo cap nv L (m + j) N wr ∧ Kp b nv nv w wr ∧ mustP L (ss.drop j) (m + j) N.length = r) (fun i _ => ss.length - (intOf i).toNat)
 case atStart => exact ⟨0, rfl, Nat.zero_le _, H.out, Kp.refl _ _ _, R.out⟩
 case round =>
  obtain ⟨j, rfl, hj, hst, hkp, hr⟩ := hrel
  by_cases hlt : j < ss.length
  · have hlt2 : (j : Int) < (ss.length : Int) := by omega
    have hj0 : 0 ≤ (j : Int) := by omega
    have hcell := ((G.out.kp hkp).str j hlt)
    rw [drop_cons ss j ⟨#[]⟩ hlt] at hr
    obtain ⟨s, hs⟩ : ∃ s, ss.getD j ⟨#[]⟩ = s := ⟨_, rfl⟩
    rw [hs] at hcell hr
    have HS := Lib.hid hst
    have HK := Lib.hid hkp
    cases hp : isP L s (m + j)
    · rw [mustP_no hp] at hr
      subst hr
      have T := Lib.hid (qbr hst s hp)
      have FL := fun c (w1 : World) (hx : Ext wr w1) => qbj (hst.ext hx) c
      have FL := Lib.hid FL
      clear hst hkp hlt hs hp R
      go_wp2_with (first
       | (go_at_call 132; refine T.out.mono ?_; rintro e _ ⟨rfl, d, os, rfl⟩)
       | (go_at_call 79; refine (FL.out _ _ zac).mono ?_; rintro e _ ⟨he, d3, os3, rfl⟩; unfold noV at he; subst he))
      exact ⟨rfl, PPost.err rfl (HK.out.ext zac)⟩
    · rw [mustP_yes hp] at hr
      have R := Lib.hid hr
      have T := Lib.hid (qcZ hst s hp)
      have NX := Lib.hid (hst.next (isP_ne hp))
      clear hst hkp hlt hs hp hr
      go_wp2_with (go_at_call 132; refine T.out.mono ?_; rintro e _ ⟨rfl, w1, hx, rfl⟩; have HX := Lib.hid hx; clear hx)
      go_roundw
      case rel => exact ⟨j + 1, by go_num, by omega, by rw [← Nat.add_assoc]; exact (HS.out.ext HX.out).setAt (m + j + 1) _ zaf NX.out, (HK.out.ext HX.out).setB 1 _, by rw [← Nat.add_assoc]; exact R.out⟩
      case measure => simp [intOf]; omega
  · have hge : (ss.length : Int) ≤ (j : Int) := by omega
    have e : ss.drop j = [] := List.drop_eq_nil_of_le zaf
    rw [e, mustP] at hr
    have R2 := Lib.hid hr
    have HS := Lib.hid hst
    have HK := Lib.hid hkp
    clear hr e hst hkp
    go_wp2_with fail
    go_end0
    have := R2.out
    subst this
    exact PPost.res rfl (by rw [List.append_nil]; exact HS.out) HK.out (Nat.le_add_right _ _)
def optV : Option ByteArray → Value
 | none => .tuple #[.string ⟨#[]⟩, .bool false]
 | some s => .tuple #[.string s, .bool true]
def findP (L : Toks) (m : Nat) (ss : List ByteArray) : PR (Option ByteArray) := match ss.find? (fun s => isP L s m) with
 | none => .ok (none, m, [])
 | some s => .ok (some s, m + 1, [])
theorem findP_yes (h : isP L s m = true) : findP L m (s :: r) = .ok (some s, m + 1, []) := by
 unfold findP; rw [List.find?_cons]; simp [h]
theorem findP_no (h : isP L s m = false) : findP L m (s :: r) = findP L m r := by
 unfold findP; rw [List.find?_cons]; simp [h]
theorem qcu (h : St b lb lo cap nv L m N w) (ss : List ByteArray) (g c : Nat) (hg : Loc b nv g (strs ss) w) (hss : ss.length ≤ 100) (r : PR (Option ByteArray)) (hr : qbp L ss m N.length = r) :
  Calls Tryz.prog 147 #[.pointer (some ⟨b, 0, none⟩), .slice (some ⟨g, 0, none⟩) ss.length c] w (PPost optV b lb lo cap nv L m N w r) := by
 have H := Lib.hid h
 have G := Lib.hid hg
 have hr2 : findP L m ss = r := hr
 have R := Lib.hid hr2
 have hsz : (ss.length : Int) ≤ 100 := by omega
 clear h hg hr hr2
 go_enter Tryz.func147, Tryz.ntmps147
 go_wp2_with fail
 go_loopw [10] (fun i wr => ∃ j : Nat, i = .int .i64 (j : Int) ∧ j ≤ ss.length ∧ St b lb lo cap nv L m N wr ∧ Kp b nv nv w wr ∧ findP L m (ss.drop j) = r) (fun i _ => ss.length - (intOf i).toNat)
 case atStart => exact ⟨0, rfl, Nat.zero_le _, H.out, Kp.refl _ _ _, R.out⟩
 case round =>
  obtain ⟨j, rfl, hj, hst, hkp, hr⟩ := hrel
  by_cases hlt : j < ss.length
  · have hlt2 : (j : Int) < (ss.length : Int) := by omega
    have hj0 : 0 ≤ (j : Int) := by omega
    have hcell := ((G.out.kp hkp).str j hlt)
    rw [drop_cons ss j ⟨#[]⟩ hlt] at hr
    obtain ⟨s, hs⟩ : ∃ s, ss.getD j ⟨#[]⟩ = s := ⟨_, rfl⟩
    rw [hs] at hcell hr
    have HS := Lib.hid hst
    have HK := Lib.hid hkp
    cases hp : isP L s m
    · rw [findP_no hp] at hr
      have R2 := Lib.hid hr
      have T := Lib.hid (qbr hst s hp)
      clear hst hkp hlt hs hp R hr
      go_wp2_with (go_at_call 132; refine T.out.mono ?_; rintro e _ ⟨rfl, d, os, rfl⟩)
      go_roundw
      case rel => exact ⟨j + 1, by go_num, by omega, HS.out.more _ _, HK.out.more _ _, R2.out⟩
      case measure => simp [intOf]; omega
    · rw [findP_yes hp] at hr
      have R2 := Lib.hid hr
      have T := Lib.hid (qcZ hst s hp)
      have NX := Lib.hid (hst.next (isP_ne hp))
      clear hst hkp hlt hs hp hr R
      go_wp2_with (go_at_call 132; refine T.out.mono ?_; rintro e _ ⟨rfl, w1, hx, rfl⟩; have HX := Lib.hid hx; clear hx)
      go_ret2
      have := R2.out
      subst this
      exact PPost.res rfl (by rw [List.append_nil]; exact (HS.out.ext HX.out).setAt (m + 1) _ zaf NX.out) ((HK.out.ext HX.out).setB 1 _) (Nat.le_succ _)
  · have hge : (ss.length : Int) ≤ (j : Int) := by omega
    have e : ss.drop j = [] := List.drop_eq_nil_of_le zaf
    rw [e] at hr
    have R2 := Lib.hid hr
    have HS := Lib.hid hst
    have HK := Lib.hid hkp
    clear hr e hst hkp
    go_wp2_with fail
    go_ret2
    have := R2.out
    subst this
    exact PPost.res rfl (by rw [List.append_nil]; exact HS.out) HK.out (Nat.le_refl _)
theorem turns_any (h : St b lb lo cap nv L m N w) (r : PR Int) (hr : qdw L m N.length = r) :
  Calls Tryz.prog 113 #[.pointer (some ⟨b, 0, none⟩)] w (PPost intV b lb lo cap nv L m N w r) := by
 refine yav ?_; intro TK
 refine yah ?_; intro FL
 have OF : RowKit.Hid (∀ w1, Ext w w1 → Calls Tryz.prog 50 #[.pointer (some ⟨b, 0, none⟩), .int .i64 2] w1 (PPost (fun t => tokV t (tk L m).2) b lb lo cap nv L m N w1 (ofP L 2 m N.length))) := Lib.hid fun w1 hx => of_any (h.ext hx) 2 zax _ rfl
 have H := Lib.hid h
 obtain ⟨⟨⟨k, ts, i⟩, a⟩, htt⟩ : ∃ tt, tk L m = tt := ⟨_, rfl⟩
 unfold qdw pbind at hr
 unfold ofP at OF hr
 rw [htt] at TK FL OF hr
 unfold tokV at TK OF
 dsimp only at TK FL hr OF
 clear htt h
 by_cases hk : k = 2
 · subst hk
   by_cases hi : 64 < i
   · rw [if_pos ⟨rfl, hi⟩] at hr
     subst hr
     go_enter Tryz.func113, Tryz.ntmps113
     go_wp2_with (first | (go_at_call 78; refine (TK.out _ zac).mono ?_; rintro e _ ⟨rfl, d2, os2, rfl⟩) | (go_at_call 79; refine (FL.out _ _ zac).mono ?_; rintro e _ ⟨he, d3, os3, rfl⟩; unfold noV at he; subst he))
     exact ⟨rfl, PPost.err rfl ((Kp.refl b nv w).ext zac)⟩
   · rw [if_neg zaf, if_pos rfl] at hr
     rw [if_pos rfl] at OF
     subst hr
     have hi2 : i ≤ 64 := by omega
     clear hi
     go_enter Tryz.func113, Tryz.ntmps113
     go_wp2_with (first | (go_at_call 78; refine (TK.out _ zac).mono ?_; rintro e _ ⟨rfl, d2, os2, rfl⟩) | (go_at_call 79; refine (FL.out _ _ zac).mono ?_; rintro e _ ⟨he, d3, os3, rfl⟩; unfold noV at he; subst he) | (go_at_call 50; refine (OF.out _ zac).mono ?_; rintro e w1 ⟨rfl, nv1, hs1, hk1, _⟩; have HS1 := Lib.hid hs1; have HK1 := Lib.hid hk1; clear hs1 hk1))
     go_ret
     exact PPost.res rfl HS1.out (((Kp.refl b nv w).ext zac).trans HK1.out) (Nat.le_succ _)
 · rw [if_neg zaf, if_neg hk] at hr
   rw [if_neg hk] at OF
   subst hr
   have hk2 : (k == 2) = false := by simpa using hk
   clear hk
   go_enter Tryz.func113, Tryz.ntmps113
   go_wp2_with (first | (go_at_call 78; refine (TK.out _ zac).mono ?_; rintro e _ ⟨rfl, d2, os2, rfl⟩) | (go_at_call 79; refine (FL.out _ _ zac).mono ?_; rintro e _ ⟨he, d3, os3, rfl⟩; unfold noV at he; subst he) | (go_at_call 50; refine (OF.out _ zac).mono ?_; rintro e w1 ⟨he, nv1, hk1⟩; have HK1 := Lib.hid hk1; clear hk1; unfold noV at he; subst he))
   exact ⟨rfl, PPost.err rfl (((Kp.refl b nv w).ext zac).trans HK1.out)⟩
end Go.Proofs.YtpoeknndkccbaaaGreat
