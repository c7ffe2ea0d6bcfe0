/- Lemmas for the claim (texts May2, May4, Few, Sc1, Sc2, Sc3, Sc4, what its proof uses of them). -/
import Derived.Test.YtpnabjopfpdkhaaGreatDoorB05
import Derived.Test.YtpnabjopfpdkhaaGreatDoorB09
import Derived.Deep.OwnRows
import Derived.OpenShut
import Derived.Deep.Slices
import Derived.Deep.Fields
import Derived.Test.YtpnabjopfpdkhaaGreatDoorShelf
import Derived.RegionTactic
set_option linter.unusedSimpArgs false
set_option linter.unusedVariables false
namespace Go.Proofs.YtpnabjopfpdkhaaGreatDoor
open Go.RowKit
attribute [go_sem] more_more Array.size_append
def qdv (s : ByteArray) : Bool := (quoteF s.data.toList).2 == 0
set_option maxHeartbeats 1000000 in
theorem quoted_any (s : ByteArray) (w : World) : Calls Tryz.prog 221 #[.string s] w fun e w' => e = .returned (.bool (qdv s)) ∧ Ext w w' := by
 unfold qdv
 obtain ⟨q, er, hq⟩ : ∃ q er, quoteF s.data.toList = (q, er) := ⟨_, _, rfl⟩
 have Q := Lib.hid (quote_any s q er hq)
 rw [hq]
 dsimp only
 clear hq
 cases h : (er == 0)
 all_goals
  go_enter Tryz.func221, Tryz.ntmps221
  go_wp2_with ((go_at_call 229; (with_reducible refine (Q.out _).mono ?_); rintro e' _ ⟨rfl, d1, os1, rfl⟩))
  go_ret
  exact ⟨rfl, zaf⟩
/-- what stands at S -/
def txt2 (k : Int) (s : ByteArray) (bS : Bool) : Bool := if (k == 3) = true then qdv s else if (k == 11) = true then decide (0 ≤ qbL k s) else if bS = true then qdA s else s.toList.isEmpty
/-- what stands at T -/
def txt1 (t : ByteArray) (bT : Bool) : Bool := if bT = true then (!t.toList.isEmpty && qdA t) else t.toList.isEmpty
set_option maxHeartbeats 4000000 in
set_option maxRecDepth 20000 in
theorem texts_x (zk za zb zc zx zi : Int) (zs zt : ByteArray) (hs : zs.size ≤ maxLen) (b0 b1 b2 b3 bS bT : Bool) (w : World) :
  Calls Tryz.prog 199 #[.agg #[.int .i64 zk, .int .i64 za, .int .i64 zb, .int .i64 zc, .int .i64 zx, .int .i64 zi, .string zs, .string zt], .agg #[.bool b0, .bool b1, .bool b2, .bool b3, .bool bS, .bool bT]] w fun e w' => e = .returned (.bool (txt1 zt bT && txt2 zk zs bS)) ∧ Ext w w' := by
 have NMT := Lib.hid (fun w1 => name1_ok zt w1)
 have NMS := Lib.hid (fun w1 => name1_ok zs w1)
 have QS := Lib.hid (fun w1 => quoted_any zs w1)
 have CL := Lib.hid (fun w1 => close_any zk za zb zc zx zi zs zt hs w1)
 obtain ⟨NT, hNT⟩ : ∃ NT, qdA zt = NT := ⟨_, rfl⟩
 obtain ⟨NS, hNS⟩ : ∃ NS, qdA zs = NS := ⟨_, rfl⟩
 obtain ⟨QQ, hQ⟩ : ∃ QQ, qdv zs = QQ := ⟨_, rfl⟩
 obtain ⟨CC, hC⟩ : ∃ CC, qbL zk zs = CC := ⟨_, rfl⟩
 rw [hNT] at NMT
 rw [hNS] at NMS
 rw [hQ] at QS
 rw [hC] at CL
 have ht : txt1 zt bT = (if bT = true then (!zt.toList.isEmpty && NT) else zt.toList.isEmpty) := by unfold txt1; rw [hNT]
 rw [ht]
 clear ht hNT
 cases bT
 · rw [if_neg zal]
   cases qt : zt.toList.isEmpty
   · rw [Bool.false_and]
     go_enter Tryz.func199, Tryz.ntmps199
     go_wp2_with ((go_at_call 220; (with_reducible refine (NMT.out _).mono ?_); rintro e' _ ⟨rfl, d1, os1, rfl⟩))
     go_ret
     exact ⟨ret_bool zan, zaf⟩
   · rw [Bool.true_and]
     cases q3 : (zk == 3)
     rotate_left
     · rw [show txt2 zk zs bS = QQ from by unfold txt2; rw [q3, hQ]; rfl]
       go_enter Tryz.func199, Tryz.ntmps199
       go_wp2_with (first | ((go_at_call 220; (with_reducible refine (NMT.out _).mono ?_); rintro e' _ ⟨rfl, d1, os1, rfl⟩)) | ((go_at_call 221; (with_reducible refine (QS.out _).mono ?_); rintro e' _ ⟨rfl, d3, os3, rfl⟩)))
       go_ret
       exact ⟨ret_bool zan, zaf⟩
     cases q11 : (zk == 11)
     rotate_left
     · rw [show txt2 zk zs bS = decide (0 ≤ CC) from by unfold txt2; rw [q3, q11, hC]; rfl]
       by_cases hc0 : 0 ≤ CC
       · rw [decide_eq_true hc0]
         go_enter Tryz.func199, Tryz.ntmps199
         go_wp2_with (first | ((go_at_call 220; (with_reducible refine (NMT.out _).mono ?_); rintro e' _ ⟨rfl, d1, os1, rfl⟩)) | ((go_at_call 222; (with_reducible refine (CL.out _).mono ?_); rintro e' _ ⟨rfl, d4, os4, rfl⟩)))
         go_ret
         exact ⟨ret_bool zan, zaf⟩
       · rw [decide_eq_false hc0]
         have hc1 : CC < 0 := by omega
         clear hc0
         go_enter Tryz.func199, Tryz.ntmps199
         go_wp2_with (first | ((go_at_call 220; (with_reducible refine (NMT.out _).mono ?_); rintro e' _ ⟨rfl, d1, os1, rfl⟩)) | ((go_at_call 222; (with_reducible refine (CL.out _).mono ?_); rintro e' _ ⟨rfl, d4, os4, rfl⟩)))
         go_ret
         exact ⟨ret_bool zan, zaf⟩
     cases bS
     · rw [show txt2 zk zs false = zs.toList.isEmpty from by unfold txt2; rw [q3, q11]; rfl]
       cases qs : zs.toList.isEmpty
       all_goals
        go_enter Tryz.func199, Tryz.ntmps199
        go_wp2_with ((go_at_call 220; (with_reducible refine (NMT.out _).mono ?_); rintro e' _ ⟨rfl, d1, os1, rfl⟩))
        go_ret
        exact ⟨ret_bool zan, zaf⟩
     · rw [show txt2 zk zs true = NS from by unfold txt2; rw [q3, q11, hNS]; rfl]
       go_enter Tryz.func199, Tryz.ntmps199
       go_wp2_with (first | ((go_at_call 220; (with_reducible refine (NMT.out _).mono ?_); rintro e' _ ⟨rfl, d1, os1, rfl⟩)) | ((go_at_call 220; (with_reducible refine (NMS.out _).mono ?_); rintro e' _ ⟨rfl, d2, os2, rfl⟩)))
       go_ret
       exact ⟨ret_bool zan, zaf⟩
 · rw [if_pos rfl]
   cases qt : zt.toList.isEmpty
   · rw [Bool.not_false, Bool.true_and]
     cases NT
     · rw [Bool.false_and]
       go_enter Tryz.func199, Tryz.ntmps199
       go_wp2_with ((go_at_call 220; (with_reducible refine (NMT.out _).mono ?_); rintro e' _ ⟨rfl, d1, os1, rfl⟩))
       go_ret
       exact ⟨ret_bool zan, zaf⟩
     · rw [Bool.true_and]
       cases q3 : (zk == 3)
       rotate_left
       · rw [show txt2 zk zs bS = QQ from by unfold txt2; rw [q3, hQ]; rfl]
         go_enter Tryz.func199, Tryz.ntmps199
         go_wp2_with (first | ((go_at_call 220; (with_reducible refine (NMT.out _).mono ?_); rintro e' _ ⟨rfl, d1, os1, rfl⟩)) | ((go_at_call 221; (with_reducible refine (QS.out _).mono ?_); rintro e' _ ⟨rfl, d3, os3, rfl⟩)))
         go_ret
         exact ⟨ret_bool zan, zaf⟩
       cases q11 : (zk == 11)
       rotate_left
       · rw [show txt2 zk zs bS = decide (0 ≤ CC) from by unfold txt2; rw [q3, q11, hC]; rfl]
         by_cases hc0 : 0 ≤ CC
         · rw [decide_eq_true hc0]
           go_enter Tryz.func199, Tryz.ntmps199
           go_wp2_with (first | ((go_at_call 220; (with_reducible refine (NMT.out _).mono ?_); rintro e' _ ⟨rfl, d1, os1, rfl⟩)) | ((go_at_call 222; (with_reducible refine (CL.out _).mono ?_); rintro e' _ ⟨rfl, d4, os4, rfl⟩)))
           go_ret
           exact ⟨ret_bool zan, zaf⟩
         · rw [decide_eq_false hc0]
           have hc1 : CC < 0 := by omega
           clear hc0
           go_enter Tryz.func199, Tryz.ntmps199
           go_wp2_with (first | ((go_at_call 220; (with_reducible refine (NMT.out _).mono ?_); rintro e' _ ⟨rfl, d1, os1, rfl⟩)) | ((go_at_call 222; (with_reducible refine (CL.out _).mono ?_); rintro e' _ ⟨rfl, d4, os4, rfl⟩)))
           go_ret
           exact ⟨ret_bool zan, zaf⟩
       cases bS
       · rw [show txt2 zk zs false = zs.toList.isEmpty from by unfold txt2; rw [q3, q11]; rfl]
         cases qs : zs.toList.isEmpty
         all_goals
          go_enter Tryz.func199, Tryz.ntmps199
          go_wp2_with ((go_at_call 220; (with_reducible refine (NMT.out _).mono ?_); rintro e' _ ⟨rfl, d1, os1, rfl⟩))
          go_ret
          exact ⟨ret_bool zan, zaf⟩
       · rw [show txt2 zk zs true = NS from by unfold txt2; rw [q3, q11, hNS]; rfl]
         go_enter Tryz.func199, Tryz.ntmps199
         go_wp2_with (first | ((go_at_call 220; (with_reducible refine (NMT.out _).mono ?_); rintro e' _ ⟨rfl, d1, os1, rfl⟩)) | ((go_at_call 220; (with_reducible refine (NMS.out _).mono ?_); rintro e' _ ⟨rfl, d2, os2, rfl⟩)))
         go_ret
         exact ⟨ret_bool zan, zaf⟩
   · rw [Bool.not_true, Bool.false_and, Bool.false_and]
     go_enter Tryz.func199, Tryz.ntmps199
     go_wp2_with ((go_at_call 220; (with_reducible refine (NMT.out _).mono ?_); rintro e' _ ⟨rfl, d1, os1, rfl⟩))
     go_ret
     exact ⟨ret_bool zan, zaf⟩
end Go.Proofs.YtpnabjopfpdkhaaGreatDoor

namespace Go.Proofs.YtpnabjopfpdkhaaGreatDoor
open Go.RowKit
attribute [go_sem] more_more Array.size_append
theorem addB_id (A : Bool) (a : Int) (g : Nat → Nat) (h : A = true → a = -1) (j : Nat) : g j = addB A a g j := by
 unfold addB pone
 cases A
 · simp
 · rw [h rfl, if_pos rfl, if_neg zae]; rfl
theorem CkSt.idB {W : World} {c H : Nat} {nv : Value} {ns : List Nd} {fi : Int} {n : Nat} {g : Nat → Nat} {w : World} (h : CkSt W c H nv ns fi n g w) (A : Bool) (a : Int) (e : A = true → a = -1) : CkSt W c H nv ns fi n (addB A a g) w := h.congr fun j _ => addB_id A a g e j
theorem KB.alloc {k : Nat} {cs : Array Value} {T : TypeId} {w : World} (h : KB k cs T w) (b : Obj) : KB k cs T (w.alloc b) := h.of_ext ((Ext.refl w).alloc b)
theorem KB.more {k : Nat} {cs : Array Value} {T : TypeId} {w : World} (h : KB k cs T w) (d : Nat) (os : Array Obj) : KB k cs T (more w d os) := h.of_ext ((Ext.refl w).more d os)
theorem KB.newAt {k : Nat} (w : World) (cs : Array Value) (T : TypeId) (h : k = w.heap.size) : KB k cs T (w.alloc (.cells cs T (0, 0))) := by subst h; exact KB.new w cs T
def qdw (z : Nd) : Bool := qca z.k && numOk z.k z.c z.i && (txt1 z.t (shT z.k) && txt2 z.k z.s (shS z.k))
def aB (ns : List Nd) (i : Nat) (z : Nd) : Bool := if shA z.k = true then qaz ns z.a 0 i false else z.a == -1
def bB (ns : List Nd) (i : Nat) (z : Nd) : Bool := if shB z.k = true then qaz ns z.b 0 i false else if shBB z.k = true then blkB ns z.b i else z.b == -1
def cB (ns : List Nd) (i : Nat) (z : Nd) : Bool := z.c == -1 || (shBC z.k && blkB ns z.c i)
def xB (ns : List Nd) (i : Nat) (z : Nd) : Bool := z.x == -1 || (decide (20 ≤ z.k) && qaz ns z.x ((i : Int) + 1) ns.length true)
def nodeB (ns : List Nd) (i : Nat) (z : Nd) : Bool := qdw z && (aB ns i z && bB ns i z && cB ns i z && xB ns i z)
end Go.Proofs.YtpnabjopfpdkhaaGreatDoor

namespace Go.Proofs.YtpnabjopfpdkhaaGreatDoor
open Go.RowKit
attribute [go_sem] more_more Array.size_append
theorem KB.setAt {k : Nat} {cs : Array Value} {T : TypeId} {w : World} (h : KB k cs T w) (i : Nat) (v : Value) (hi : i < cs.size) : KB k (cs.set i v) T (w.setCell ⟨k, i, none⟩ v) := by
 unfold KB at h ⊢
 simp [World.setCell, Array.getElem?_modify, h, hi, Array.setIfInBounds]
theorem KB.setOther {k k' : Nat} {cs : Array Value} {T : TypeId} {w : World} (h : KB k cs T w) (i : Nat) (v : Value) (hk : k ≠ k') : KB k cs T (w.setCell ⟨k', i, none⟩ v) :=
 (heap_set_other _ _ _ _ _ hk).trans h
theorem KB.frozen {k : Nat} {cs : Array Value} {T : TypeId} {w : World} (h : KB k cs T w) (j : Nat) : w.frozen? ⟨k, j, none⟩ = false := by
 unfold KB at h
 simp [World.frozen?, h]
end Go.Proofs.YtpnabjopfpdkhaaGreatDoor

namespace Go.Proofs.YtpnabjopfpdkhaaGreatDoor
open Go.RowKit
attribute [go_sem] more_more Array.size_append
/-- what the walker has -/
structure Sc where
 seen : List ByteArray
 most : Int
 slots : List Int
 made : List ByteArray
 free : List ByteArray
 e : Int
 a : Int
/-- what is wrong first stays -/
def Sc.wrong (S : Sc) (e a : Int) : Sc := if S.e = 0 then { S with e := e, a := a } else S
def strV (l : List ByteArray) : List Value := l.map Value.string
def intL (l : List Int) : List Value := l.map fun x => .int .i64 x
/-- the walker's block and its four rows, no two of them one -/
structure WkV (W : World) (b : Nat) (nv : Value) (fi : Int) (ns : List Nd) (L : List (Nat × Obj)) (S : Sc) (sv tv mv fv : Value) (w : World) : Prop where
 ext : Ext W w
 cell : w.heap[b]? = some (.cells #[nv, .int .i64 fi, sv, .int .i64 S.most, tv, mv, fv, .int .i64 S.e, .int .i64 S.a] 200 (0, 0))
 row : w.ownsRow 0 166 8 nv ns.length (qae ns)
 seen : w.ownsRow W.heap.size 9 1 sv S.seen.length (strV S.seen)
 slots : w.ownsRow W.heap.size 3 1 tv S.slots.length (intL S.slots)
 made : w.ownsRow W.heap.size 9 1 mv S.made.length (strV S.made)
 free : w.ownsRow W.heap.size 9 1 fv S.free.length (strV S.free)
 base : W.heap.size ≤ b ∧ (∀ g, nv.ownBlock = some g → g < W.heap.size)
 apart : ∀ g, (sv.ownBlock = some g → g ≠ b ∧ tv.ownBlock ≠ some g ∧ mv.ownBlock ≠ some g ∧ fv.ownBlock ≠ some g) ∧
  (tv.ownBlock = some g → g ≠ b ∧ mv.ownBlock ≠ some g ∧ fv.ownBlock ≠ some g) ∧ (mv.ownBlock = some g → g ≠ b ∧ fv.ownBlock ≠ some g) ∧ (fv.ownBlock = some g → g ≠ b)
 loc : ∀ q, q ∈ L → w.heap[q.1]? = some q.2 ∧ q.1 ≠ b ∧ sv.ownBlock ≠ some q.1 ∧ tv.ownBlock ≠ some q.1 ∧ mv.ownBlock ≠ some q.1 ∧ fv.ownBlock ≠ some q.1
def Wk (W : World) (b : Nat) (nv : Value) (fi : Int) (ns : List Nd) (L : List (Nat × Obj)) (S : Sc) (w : World) : Prop := ∃ sv tv mv fv, WkV W b nv fi ns L S sv tv mv fv w
theorem WkV.of_ext {W : World} {b : Nat} {nv : Value} {fi : Int} {ns : List Nd} {L : List (Nat × Obj)} {S : Sc} {w : World} {sv tv mv fv : Value} {w' : World} (h : WkV W b nv fi ns L S sv tv mv fv w) (hx : Ext w w') : WkV W b nv fi ns L S sv tv mv fv w' :=
 ⟨h.ext.trans hx, (hx.below.block _ (Array.getElem?_eq_some_iff.1 h.cell).1).trans h.cell, own_ext h.row hx, own_ext h.seen hx, own_ext h.slots hx, own_ext h.made hx, own_ext h.free hx, h.base, h.apart, fun q hq => ⟨(hx.below.block _ (Array.getElem?_eq_some_iff.1 (h.loc q hq).1).1).trans (h.loc q hq).1, (h.loc q hq).2⟩⟩
theorem Wk.of_ext {W : World} {b : Nat} {nv : Value} {fi : Int} {ns : List Nd} {L : List (Nat × Obj)} {S : Sc} {w : World} {w' : World} (h : Wk W b nv fi ns L S w) (hx : Ext w w') : Wk W b nv fi ns L S w' := by
 obtain ⟨sv, tv, mv, fv, h⟩ := h
 exact ⟨sv, tv, mv, fv, h.of_ext hx⟩
/-- a cell of the walker's block, that is no row's, is set -/
theorem WkV.setB {W : World} {b : Nat} {nv : Value} {fi : Int} {ns : List Nd} {L : List (Nat × Obj)} {S : Sc} {w : World} {sv tv mv fv : Value} (h : WkV W b nv fi ns L S sv tv mv fv w) (i : Nat) (v : Value) (S' : Sc) (hi : i < 9)
  (hc : #[nv, .int .i64 fi, sv, .int .i64 S.most, tv, mv, fv, .int .i64 S.e, .int .i64 S.a].set i v hi = #[nv, .int .i64 fi, sv, .int .i64 S'.most, tv, mv, fv, .int .i64 S'.e, .int .i64 S'.a])
  (e1 : S'.seen = S.seen) (e2 : S'.slots = S.slots) (e3 : S'.made = S.made) (e4 : S'.free = S.free) :
  WkV W b nv fi ns L S' sv tv mv fv (w.setCell ⟨b, i, none⟩ v) := by
 have hk : ∀ (x : Value) (k : Nat), (∀ g, x.ownBlock = some g → g ≠ b) → x.ownBlock = some k → (w.setCell ⟨b, i, none⟩ v).heap[k]? = w.heap[k]? := fun x k hx hk => heap_set_other _ _ _ _ _ (hx k hk)
 have hA := h.apart
 refine ⟨h.ext.setCell h.base.1 _, ?_, qad h.row fun k q _ => hk nv k (fun g q => by have := h.base.2 g q; have := h.base.1; omega) q, ?_, ?_, ?_, ?_, h.base, h.apart, fun q hq => ⟨(heap_set_other _ _ _ _ _ (h.loc q hq).2.1).trans (h.loc q hq).1, (h.loc q hq).2⟩⟩
 · rw [← hc]
   exact KB.setAt (show KB b _ _ w from h.cell) i v hi
 · rw [e1]; exact qad h.seen fun k q _ => hk sv k (fun g q => ((hA g).1 q).1) q
 · rw [e2]; exact qad h.slots fun k q _ => hk tv k (fun g q => ((hA g).2.1 q).1) q
 · rw [e3]; exact qad h.made fun k q _ => hk mv k (fun g q => ((hA g).2.2.1 q).1) q
 · rw [e4]; exact qad h.free fun k q _ => hk fv k (fun g q => (hA g).2.2.2 q) q
theorem WkV.push_seen {W : World} {b : Nat} {nv : Value} {fi : Int} {ns : List Nd} {L : List (Nat × Obj)} {S : Sc} {w : World} {sv tv mv fv v' : Value} {w1 : World} {s : ByteArray} (h : WkV W b nv fi ns L S sv tv mv fv w) (hr : w1.ownsRow W.heap.size 9 1 v' (S.seen.length + 1) (strV S.seen ++ [.string s])) (hg : w.grownBy w1 sv.ownBlock) (hv : v'.ownBlock = sv.ownBlock ∨ v'.ownBlock = some w.heap.size) :
  WkV W b nv fi ns L { S with seen := S.seen ++ [s] } v' tv mv fv (w1.setCell ⟨b, 2, none⟩ v') := by
 have hA := h.apart
 have lb := (Array.getElem?_eq_some_iff.1 h.cell).1
 have hold : ∀ k, k < w.heap.size → sv.ownBlock ≠ some k → w1.heap[k]? = w.heap[k]? := fun k hk hn => hg.block k hk (Ne.symm hn)
 have L1 := fun g q => (h.seen.lt g q).2
 have L2 := fun g q => (h.slots.lt g q).2
 have L3 := fun g q => (h.made.lt g q).2
 have L4 := fun g q => (h.free.lt g q).2
 have hvn : ∀ g, v'.ownBlock = some g → sv.ownBlock = some g ∨ g = w.heap.size := fun g q => by
  rcases hv with e | e
  · exact Or.inl (e ▸ q)
  · rw [e] at q; exact Or.inr (Option.some.inj q).symm
 have hx1 : Ext W w1 := h.ext.grown hg fun k hk => (h.seen.lt k hk).1
 have hnb : sv.ownBlock ≠ some b := fun q => by have := hA b; simp_all
 have kb : KB b _ _ w1 := (hold b lb hnb).trans h.cell
 have keep : ∀ (x : Value) (n : Nat) (xs : List Value) (e : TypeId) (sz bs : Nat), w.ownsRow bs e sz x n xs → (∀ g, x.ownBlock = some g → g ≠ b) → (∀ g, x.ownBlock = some g → sv.ownBlock ≠ some g) → (w1.setCell ⟨b, 2, none⟩ v').ownsRow bs e sz x n xs := fun x n xs e sz bs hx h1 h2 =>
  qad hx fun k q hk => (heap_set_other _ _ _ _ _ (h1 k q)).trans (hold k hk (h2 k q))
 refine ⟨hx1.setCell h.base.1 _, KB.setAt kb 2 v' zal, keep _ _ _ _ _ _ h.row (fun g q => by have := h.base.2 g q; have := h.base.1; omega) (fun g q e => by have := h.base.2 g q; have := (h.seen.lt g e).1; omega), ?_, ?_, ?_, ?_, h.base, ?_, ?_⟩
 · dsimp only; rw [List.length_append]; unfold strV; rw [List.map_append]; exact qad hr fun k q _ => heap_set_other _ _ _ _ _ (fun e => by rcases hvn k q with e1 | e1; exact hnb (e ▸ e1); omega)
 · exact keep _ _ _ _ _ _ h.slots (fun g q => by have := hA g; simp_all) (fun g q e => by have := hA g; simp_all)
 · exact keep _ _ _ _ _ _ h.made (fun g q => by have := hA g; simp_all) (fun g q e => by have := hA g; simp_all)
 · exact keep _ _ _ _ _ _ h.free (fun g q => by have := hA g; simp_all) (fun g q e => by have := hA g; simp_all)
 · intro g
   have a := hA g
   have b1 := hA w.heap.size
   have n1 : sv.ownBlock ≠ some w.heap.size := fun q => absurd (L1 _ q) (Nat.lt_irrefl _)
   have n2 : tv.ownBlock ≠ some w.heap.size := fun q => absurd (L2 _ q) (Nat.lt_irrefl _)
   have n3 : mv.ownBlock ≠ some w.heap.size := fun q => absurd (L3 _ q) (Nat.lt_irrefl _)
   have n4 : fv.ownBlock ≠ some w.heap.size := fun q => absurd (L4 _ q) (Nat.lt_irrefl _)
   have nb : w.heap.size ≠ b := by omega
   rcases hv with e | e
   · rw [e]; exact a
   · by_cases hgs : g = w.heap.size
     · subst hgs
       simp_all
     · have q : v'.ownBlock ≠ some g := by rw [e]; intro e2; exact hgs (Option.some.inj e2).symm
       simp_all
 · intro q hq
   have hl := h.loc q hq
   have hlt := (Array.getElem?_eq_some_iff.1 hl.1).1
   have e1 : (w1.setCell ⟨b, 2, none⟩ v').heap[q.1]? = some q.2 := (heap_set_other _ _ _ _ _ hl.2.1).trans ((hold q.1 hlt (by have := hl.2; simp_all)).trans hl.1)
   have e2 : v'.ownBlock ≠ some q.1 := by
    intro e
    rcases hvn q.1 e with e3 | e3
    · have := hl.2; simp_all
    · omega
   have := hl.2
   refine ⟨e1, this.1, ?_⟩
   simp_all
theorem WkV.push_made {W : World} {b : Nat} {nv : Value} {fi : Int} {ns : List Nd} {L : List (Nat × Obj)} {S : Sc} {w : World} {sv tv mv fv v' : Value} {w1 : World} {s : ByteArray} (h : WkV W b nv fi ns L S sv tv mv fv w) (hr : w1.ownsRow W.heap.size 9 1 v' (S.made.length + 1) (strV S.made ++ [.string s])) (hg : w.grownBy w1 mv.ownBlock) (hv : v'.ownBlock = mv.ownBlock ∨ v'.ownBlock = some w.heap.size) :
  WkV W b nv fi ns L { S with made := S.made ++ [s] } sv tv v' fv (w1.setCell ⟨b, 5, none⟩ v') := by
 have hA := h.apart
 have lb := (Array.getElem?_eq_some_iff.1 h.cell).1
 have hold : ∀ k, k < w.heap.size → mv.ownBlock ≠ some k → w1.heap[k]? = w.heap[k]? := fun k hk hn => hg.block k hk (Ne.symm hn)
 have L1 := fun g q => (h.seen.lt g q).2
 have L2 := fun g q => (h.slots.lt g q).2
 have L3 := fun g q => (h.made.lt g q).2
 have L4 := fun g q => (h.free.lt g q).2
 have hvn : ∀ g, v'.ownBlock = some g → mv.ownBlock = some g ∨ g = w.heap.size := fun g q => by
  rcases hv with e | e
  · exact Or.inl (e ▸ q)
  · rw [e] at q; exact Or.inr (Option.some.inj q).symm
 have hx1 : Ext W w1 := h.ext.grown hg fun k hk => (h.made.lt k hk).1
 have hnb : mv.ownBlock ≠ some b := fun q => by have := hA b; simp_all
 have kb : KB b _ _ w1 := (hold b lb hnb).trans h.cell
 have keep : ∀ (x : Value) (n : Nat) (xs : List Value) (e : TypeId) (sz bs : Nat), w.ownsRow bs e sz x n xs → (∀ g, x.ownBlock = some g → g ≠ b) → (∀ g, x.ownBlock = some g → mv.ownBlock ≠ some g) → (w1.setCell ⟨b, 5, none⟩ v').ownsRow bs e sz x n xs := fun x n xs e sz bs hx h1 h2 =>
  qad hx fun k q hk => (heap_set_other _ _ _ _ _ (h1 k q)).trans (hold k hk (h2 k q))
 refine ⟨hx1.setCell h.base.1 _, KB.setAt kb 5 v' zal, keep _ _ _ _ _ _ h.row (fun g q => by have := h.base.2 g q; have := h.base.1; omega) (fun g q e => by have := h.base.2 g q; have := (h.made.lt g e).1; omega), ?_, ?_, ?_, ?_, h.base, ?_, ?_⟩
 · exact keep _ _ _ _ _ _ h.seen (fun g q => by have := hA g; simp_all) (fun g q e => by have := hA g; simp_all)
 · exact keep _ _ _ _ _ _ h.slots (fun g q => by have := hA g; simp_all) (fun g q e => by have := hA g; simp_all)
 · dsimp only; rw [List.length_append]; unfold strV; rw [List.map_append]; exact qad hr fun k q _ => heap_set_other _ _ _ _ _ (fun e => by rcases hvn k q with e1 | e1; exact hnb (e ▸ e1); omega)
 · exact keep _ _ _ _ _ _ h.free (fun g q => by have := hA g; simp_all) (fun g q e => by have := hA g; simp_all)
 · intro g
   have a := hA g
   have b1 := hA w.heap.size
   have n1 : sv.ownBlock ≠ some w.heap.size := fun q => absurd (L1 _ q) (Nat.lt_irrefl _)
   have n2 : tv.ownBlock ≠ some w.heap.size := fun q => absurd (L2 _ q) (Nat.lt_irrefl _)
   have n3 : mv.ownBlock ≠ some w.heap.size := fun q => absurd (L3 _ q) (Nat.lt_irrefl _)
   have n4 : fv.ownBlock ≠ some w.heap.size := fun q => absurd (L4 _ q) (Nat.lt_irrefl _)
   have nb : w.heap.size ≠ b := by omega
   rcases hv with e | e
   · rw [e]; exact a
   · by_cases hgs : g = w.heap.size
     · subst hgs
       simp_all
     · have q : v'.ownBlock ≠ some g := by rw [e]; intro e2; exact hgs (Option.some.inj e2).symm
       simp_all
 · intro q hq
   have hl := h.loc q hq
   have hlt := (Array.getElem?_eq_some_iff.1 hl.1).1
   have e1 : (w1.setCell ⟨b, 5, none⟩ v').heap[q.1]? = some q.2 := (heap_set_other _ _ _ _ _ hl.2.1).trans ((hold q.1 hlt (by have := hl.2; simp_all)).trans hl.1)
   have e2 : v'.ownBlock ≠ some q.1 := by
    intro e
    rcases hvn q.1 e with e3 | e3
    · have := hl.2; simp_all
    · omega
   have := hl.2
   refine ⟨e1, this.1, ?_⟩
   simp_all
theorem WkV.push_free {W : World} {b : Nat} {nv : Value} {fi : Int} {ns : List Nd} {L : List (Nat × Obj)} {S : Sc} {w : World} {sv tv mv fv v' : Value} {w1 : World} {s : ByteArray} (h : WkV W b nv fi ns L S sv tv mv fv w) (hr : w1.ownsRow W.heap.size 9 1 v' (S.free.length + 1) (strV S.free ++ [.string s])) (hg : w.grownBy w1 fv.ownBlock) (hv : v'.ownBlock = fv.ownBlock ∨ v'.ownBlock = some w.heap.size) :
  WkV W b nv fi ns L { S with free := S.free ++ [s] } sv tv mv v' (w1.setCell ⟨b, 6, none⟩ v') := by
 have hA := h.apart
 have lb := (Array.getElem?_eq_some_iff.1 h.cell).1
 have hold : ∀ k, k < w.heap.size → fv.ownBlock ≠ some k → w1.heap[k]? = w.heap[k]? := fun k hk hn => hg.block k hk (Ne.symm hn)
 have L1 := fun g q => (h.seen.lt g q).2
 have L2 := fun g q => (h.slots.lt g q).2
 have L3 := fun g q => (h.made.lt g q).2
 have L4 := fun g q => (h.free.lt g q).2
 have hvn : ∀ g, v'.ownBlock = some g → fv.ownBlock = some g ∨ g = w.heap.size := fun g q => by
  rcases hv with e | e
  · exact Or.inl (e ▸ q)
  · rw [e] at q; exact Or.inr (Option.some.inj q).symm
 have hx1 : Ext W w1 := h.ext.grown hg fun k hk => (h.free.lt k hk).1
 have hnb : fv.ownBlock ≠ some b := fun q => by have := hA b; simp_all
 have kb : KB b _ _ w1 := (hold b lb hnb).trans h.cell
 have keep : ∀ (x : Value) (n : Nat) (xs : List Value) (e : TypeId) (sz bs : Nat), w.ownsRow bs e sz x n xs → (∀ g, x.ownBlock = some g → g ≠ b) → (∀ g, x.ownBlock = some g → fv.ownBlock ≠ some g) → (w1.setCell ⟨b, 6, none⟩ v').ownsRow bs e sz x n xs := fun x n xs e sz bs hx h1 h2 =>
  qad hx fun k q hk => (heap_set_other _ _ _ _ _ (h1 k q)).trans (hold k hk (h2 k q))
 refine ⟨hx1.setCell h.base.1 _, KB.setAt kb 6 v' zal, keep _ _ _ _ _ _ h.row (fun g q => by have := h.base.2 g q; have := h.base.1; omega) (fun g q e => by have := h.base.2 g q; have := (h.free.lt g e).1; omega), ?_, ?_, ?_, ?_, h.base, ?_, ?_⟩
 · exact keep _ _ _ _ _ _ h.seen (fun g q => by have := hA g; simp_all) (fun g q e => by have := hA g; simp_all)
 · exact keep _ _ _ _ _ _ h.slots (fun g q => by have := hA g; simp_all) (fun g q e => by have := hA g; simp_all)
 · exact keep _ _ _ _ _ _ h.made (fun g q => by have := hA g; simp_all) (fun g q e => by have := hA g; simp_all)
 · dsimp only; rw [List.length_append]; unfold strV; rw [List.map_append]; exact qad hr fun k q _ => heap_set_other _ _ _ _ _ (fun e => by rcases hvn k q with e1 | e1; exact hnb (e ▸ e1); omega)
 · intro g
   have a := hA g
   have b1 := hA w.heap.size
   have n1 : sv.ownBlock ≠ some w.heap.size := fun q => absurd (L1 _ q) (Nat.lt_irrefl _)
   have n2 : tv.ownBlock ≠ some w.heap.size := fun q => absurd (L2 _ q) (Nat.lt_irrefl _)
   have n3 : mv.ownBlock ≠ some w.heap.size := fun q => absurd (L3 _ q) (Nat.lt_irrefl _)
   have n4 : fv.ownBlock ≠ some w.heap.size := fun q => absurd (L4 _ q) (Nat.lt_irrefl _)
   have nb : w.heap.size ≠ b := by omega
   rcases hv with e | e
   · rw [e]; exact a
   · by_cases hgs : g = w.heap.size
     · subst hgs
       simp_all
     · have q : v'.ownBlock ≠ some g := by rw [e]; intro e2; exact hgs (Option.some.inj e2).symm
       simp_all
 · intro q hq
   have hl := h.loc q hq
   have hlt := (Array.getElem?_eq_some_iff.1 hl.1).1
   have e1 : (w1.setCell ⟨b, 6, none⟩ v').heap[q.1]? = some q.2 := (heap_set_other _ _ _ _ _ hl.2.1).trans ((hold q.1 hlt (by have := hl.2; simp_all)).trans hl.1)
   have e2 : v'.ownBlock ≠ some q.1 := by
    intro e
    rcases hvn q.1 e with e3 | e3
    · have := hl.2; simp_all
    · omega
   have := hl.2
   refine ⟨e1, this.1, ?_⟩
   simp_all
set_option maxHeartbeats 2000000 in
theorem qdd {W : World} {b : Nat} {nv : Value} {fi : Int} {ns : List Nd} {L : List (Nat × Obj)} {S : Sc} {w : World} {sv tv mv fv : Value} (h : WkV W b nv fi ns L S sv tv mv fv w) (e a : Int) :
  Calls Tryz.prog 203 #[.pointer (some ⟨b, 0, none⟩), .int .i64 e, .int .i64 a] w fun r w' => r = .returned (.tuple #[]) ∧ WkV W b nv fi ns L (S.wrong e a) sv tv mv fv w' := by
 have H := Lib.hid h
 have KX := Lib.hid (show KB b _ _ w from h.cell)
 have x7 := KX.out.cell 7 _ rfl
 have x8 := KX.out.cell 8 _ rfl
 have f7 := KX.out.frozen 7
 have f8 := KX.out.frozen 8
 have lb := KX.out.lt
 dsimp only [List.getElem_toArray, List.getElem_cons_zero, List.getElem_cons_succ] at x7 x8
 obtain ⟨seen, most, slots, made, free, se, sa⟩ := S
 dsimp only at x7 x8 H
 unfold Sc.wrong
 dsimp only
 clear h
 by_cases h0 : se = 0
 · subst h0
   rw [if_pos rfl]
   go_enter Tryz.func203, Tryz.ntmps203
   go_wp2_with fail
   go_end0
   exact ⟨rfl, (H.out.setB 7 (.int .i64 e) ⟨seen, most, slots, made, free, e, sa⟩ zae rfl rfl rfl rfl rfl).setB 8 (.int .i64 a) ⟨seen, most, slots, made, free, e, a⟩ zae rfl rfl rfl rfl rfl⟩
 · rw [if_neg h0]
   have q : (se == 0) = false := by simpa using h0
   clear h0
   go_enter Tryz.func203, Tryz.ntmps203
   go_wp2_with fail
   go_end0
   exact ⟨rfl, H.out⟩
end Go.Proofs.YtpnabjopfpdkhaaGreatDoor

namespace Go.Proofs.YtpnabjopfpdkhaaGreatDoor
open Go.RowKit
attribute [go_sem] more_more Array.size_append
theorem qdO (l : List ByteArray) (j : Nat) (h : j < l.length) : (strV l)[j]? = some (.string (l.getD j ByteArray.empty)) := by
 unfold strV
 rw [List.getElem?_map, List.getElem?_eq_getElem h, List.getD_eq_getElem?_getD, List.getElem?_eq_getElem h]; rfl
theorem qbr {w : World} {base : Nat} {v : Value} {l : List ByteArray} (h : w.ownsRow base 9 1 v l.length (strV l)) (s : ByteArray) (hl : l.length ≤ 100000) :
  Calls Tryz.prog 202 #[v, .string s] w fun e w' => e = .returned (.bool (Lib.containsS l s)) ∧ w' = w := by
 rcases Go.Joins.ownsRow_forms h with ⟨rfl, h0⟩ | ⟨g, c, rfl⟩
 · have hl0 : l = [] := List.length_eq_zero_iff.1 h0
   subst hl0
   refine (Tryz.slices_Contains_string_empty none 0 s w).mono ?_
   rintro e w' ⟨rfl, rfl⟩
   exact ⟨rfl, rfl⟩
 · refine (Tryz.slices_Contains_string g 0 l.length c l s w (Nat.le_refl _) zae (fun j hj => by have := h.cells (g := g) rfl j _ (qdO l j hj); rwa [Addr.add_lit] at this)).mono ?_
   rintro e w' ⟨rfl, rfl⟩
   exact ⟨by rw [List.take_length], rfl⟩
/-- the last place at which a name stands; -1: none -/
def qaN (s : ByteArray) (l : List ByteArray) : Nat → Int
 | 0 => -1
 | j + 1 => if ((l.getD j ByteArray.empty).toList == s.toList) = true then (j : Int) else qaN s l j
/-- a name that is meant by a node -/
def Sc.use (S : Sc) (s : ByteArray) (i : Nat) : Sc :=
 let k := qaN s S.seen S.seen.length
 if k < 0 then
  let T := S.wrong 15 i
  if Lib.containsS T.free s = true then { T with slots := T.slots.set i k } else { T with free := T.free ++ [s], slots := T.slots.set i k }
 else { S with slots := S.slots.set i k }
theorem qcy {w : World} {base : Nat} {e : TypeId} {size : Nat} {n g cap : Nat} {xs : List Value} (h : w.ownsRow base e size (.slice (some ⟨g, 0, none⟩) n cap) n xs) {i : Nat} (hi : i < n * size) (u : Value) :
  (w.setCell ⟨g, i, none⟩ u).ownsRow base e size (.slice (some ⟨g, 0, none⟩) n cap) n (xs.set i u) := by
 obtain ⟨h1, h2⟩ := h
 refine ⟨by simpa using h1, ?_⟩
 rcases h2 with ⟨h2, _⟩ | ⟨g', cap', cur, h2, hb, hg, hn, hm, hc, ht⟩
 · simp at h2
 · simp only [Value.slice.injEq, Option.some.injEq, Addr.mk.injEq, true_and, and_true] at h2
   obtain ⟨rfl, rfl⟩ := h2
   refine Or.inr ⟨g, cap, cur.setIfInBounds i u, rfl, hb, ?_, hn, hm, by simpa using hc, ?_⟩
   · simp [World.setCell, Array.getElem?_modify, hg]
   · rw [Array.toList_setIfInBounds, List.take_set, ht]
theorem WkV.setSlot {W : World} {b : Nat} {nv : Value} {fi : Int} {ns : List Nd} {L : List (Nat × Obj)} {S : Sc} {w : World} {sv mv fv : Value} {g c n2 : Nat} (h : WkV W b nv fi ns L S sv (.slice (some ⟨g, 0, none⟩) n2 c) mv fv w) (i : Nat) (k : Int) (hi : i < S.slots.length) (hn : S.slots.length = n2) :
  WkV W b nv fi ns L { S with slots := S.slots.set i k } sv (.slice (some ⟨g, 0, none⟩) n2 c) mv fv (w.setCell ⟨g, i, none⟩ (.int .i64 k)) := by
 subst hn
 have hA := h.apart
 have hgb : g ≠ b := ((hA g).2.1 rfl).1
 have hg0 := (h.slots.lt g rfl).1
 have hk : ∀ (x : Value) (q : Nat), x.ownBlock ≠ some g → x.ownBlock = some q → (w.setCell ⟨g, i, none⟩ (.int .i64 k)).heap[q]? = w.heap[q]? := fun x q hx hq => heap_set_other _ _ _ _ _ (fun e => hx (by rw [← e]; exact hq))
 refine ⟨h.ext.setCell hg0 _, by rw [heap_set_other _ _ _ _ _ (Ne.symm hgb)]; exact h.cell, qad h.row fun q hq _ => hk nv q (fun e => by have := h.base.2 g e; omega) hq, qad h.seen fun q hq _ => hk sv q (fun e => ((hA g).1 e).2.1 rfl) hq, ?_, qad h.made fun q hq _ => hk mv q (fun e => ((hA g).2.1 rfl).2.1 e) hq, qad h.free fun q hq _ => hk fv q (fun e => ((hA g).2.1 rfl).2.2 e) hq, h.base, h.apart, fun q hq => ⟨(heap_set_other _ _ _ _ _ (fun e => (h.loc q hq).2.2.2.1 (by rw [e]; rfl))).trans (h.loc q hq).1, (h.loc q hq).2⟩⟩
 have e1 : intL (S.slots.set i k) = (intL S.slots).set i (.int .i64 k) := by unfold intL; rw [List.map_set]
 dsimp only
 rw [List.length_set, e1]
 exact qcy h.slots (by rw [Nat.mul_one]; exact hi) _
theorem qcE (l : List Int) (j : Nat) (h : j < l.length) : (intL l)[j]? = some (.int .i64 (l.getD j 0)) := by
 unfold intL
 rw [List.getElem?_map, List.getElem?_eq_getElem h, List.getD_eq_getElem?_getD, List.getElem?_eq_getElem h]; rfl
theorem own_fz {w : World} {base n m g c : Nat} {e : TypeId} {size : Nat} {xs : List Value} (h : w.ownsRow base e size (.slice (some ⟨g, 0, none⟩) m c) n xs) (j : Nat) : w.frozen? ⟨g, j, none⟩ = false := by
 rcases h.2 with ⟨h1, _⟩ | ⟨g', cap, cur, hv, _, hg, _⟩
 · cases h1
 · simp only [Value.slice.injEq, Option.some.injEq, Addr.mk.injEq, and_true, true_and] at hv
   rw [← hv.1] at hg
   simp [World.frozen?, hg]
theorem strInfo : (Tryz.prog.info? 9).map (fun i => (i.zero, i.size, i.bytes)) = some (some (.string ⟨#[]⟩), 1, 16) := by kernel_rfl
set_option maxHeartbeats 8000000 in
set_option maxRecDepth 20000 in
theorem use_any {W : World} {b : Nat} {nv : Value} {fi : Int} {ns : List Nd} {L : List (Nat × Obj)} {S : Sc} {w : World} {sv tv mv fv : Value} (h : WkV W b nv fi ns L S sv tv mv fv w) (s : ByteArray) (i : Nat) (hi : i < S.slots.length) (hs : S.seen.length ≤ 2000) (hf : S.free.length ≤ 2000) :
  Calls Tryz.prog 205 #[.pointer (some ⟨b, 0, none⟩), .string s, .int .i64 (i : Int)] w fun r w' => r = .returned (.tuple #[]) ∧ Wk W b nv fi ns L (S.use s i) w' := by
 have H := Lib.hid h
 have KX := Lib.hid (show KB b _ _ w from h.cell)
 have x2 := KX.out.cell 2 _ rfl
 have lb := KX.out.lt
 dsimp only [List.getElem_toArray, List.getElem_cons_zero, List.getElem_cons_succ] at x2
 obtain ⟨n, hn⟩ : ∃ n, S.seen.length = n := ⟨_, rfl⟩
 have HN := Lib.hid hn
 obtain ⟨p, c, hv⟩ := qag h.seen
 rw [hn] at hv hs
 subst hv
 have hni : (n : Int) ≤ 2000 := by omega
 have HI := Lib.hid hi
 have HFR := Lib.hid hf
 obtain ⟨n2, hn2⟩ : ∃ n2, S.slots.length = n2 := ⟨_, rfl⟩
 obtain ⟨g2, c2, _, htv⟩ : ∃ g2 c2, (g2 < w.heap.size) ∧ tv = .slice (some ⟨g2, 0, none⟩) n2 c2 := by
  obtain ⟨g1, cap1, e1, _, e3⟩ := h.slots.form zae
  exact ⟨g1, cap1, e3, by rw [e1, hn2]⟩
 subst htv
 have HN2 := Lib.hid hn2
 have hi2 : (i : Int) < (n2 : Int) := by omega
 have hi0 : 0 ≤ (i : Int) := by omega
 clear h hn hi hf hn2
 go_enter Tryz.func205, Tryz.ntmps205
 go_wp2_with fail
 go_loopw [6, 14] (fun y6 y14 wr => ∃ k : Nat, y14 = .int .i64 (k : Int) ∧ k ≤ n ∧ y6 = .int .i64 (qaN s S.seen k) ∧ wr = w) (fun _ y14 _ => n - (intOf y14).toNat)
 case atStart => exact ⟨0, rfl, Nat.zero_le _, rfl, rfl⟩
 case round =>
  obtain ⟨k, rfl, hk, rfl, rfl⟩ := hrel
  have hk0 : 0 ≤ (k : Int) := by omega
  by_cases hlt : k < n
  · have hp : ∃ g, p = some ⟨g, 0, none⟩ := by
      rcases Go.Joins.ownsRow_forms H.out.seen with ⟨_, h0⟩ | ⟨g1, c1, h0⟩
      · have := HN.out; omega
      · simp at h0; exact ⟨g1, h0.1⟩
    obtain ⟨g, rfl⟩ := hp
    have hki : (k : Int) < (n : Int) := by omega
    have hc := H.out.seen.cells (g := g) rfl k _ (qdO S.seen k (by rw [HN.out]; exact hlt))
    rw [Addr.add_lit, Nat.zero_add] at hc
    obtain ⟨t, ht⟩ : ∃ t, S.seen.getD k ByteArray.empty = t := ⟨_, rfl⟩
    rw [ht] at hc
    have HT := Lib.hid (show qaN s S.seen (k + 1) = if (t.toList == s.toList) = true then (k : Int) else qaN s S.seen k from by rw [qaN, ht])
    have HLT := Lib.hid hlt
    have hg := (H.out.seen.lt g rfl).2
    clear ht hlt
    obtain ⟨q, hq⟩ : ∃ q, qaN s S.seen k = q := ⟨_, rfl⟩
    rw [hq] at HT ⊢
    clear hq
    cases hb : (t.toList == s.toList)
    · have HT2 := Lib.hid (HT.out.trans (if_neg zbc))
      clear HT
      go_wp2_with fail
      go_roundw
      case rel => exact ⟨k + 1, by go_num, by have := HLT.out; omega, by rw [HT2.out], by first | rfl | trivial⟩
      case measure => have := HLT.out; simp [intOf]; omega
    · have HT2 := Lib.hid (HT.out.trans (if_pos hb))
      clear HT
      go_wp2_with fail
      go_roundw
      case rel => exact ⟨k + 1, by go_num, by have := HLT.out; omega, by rw [HT2.out], by first | rfl | trivial⟩
      case measure => have := HLT.out; simp [intOf]; omega
  · have hke : k = n := by omega
    subst hke
    have hl : S.use s i = (if qaN s S.seen k < 0 then (if Lib.containsS (S.wrong 15 i).free s = true then { S.wrong 15 i with slots := (S.wrong 15 i).slots.set i (qaN s S.seen k) } else { S.wrong 15 i with free := (S.wrong 15 i).free ++ [s], slots := (S.wrong 15 i).slots.set i (qaN s S.seen k) }) else { S with slots := S.slots.set i (qaN s S.seen k) }) := by unfold Sc.use; rw [HN.out]
    have HU := Lib.hid hl
    clear hl hlt
    obtain ⟨q, hq⟩ : ∃ q, qaN s S.seen k = q := ⟨_, rfl⟩
    rw [hq] at HU ⊢
    clear hq
    obtain ⟨i0, hi, hz0, hz1, hz2⟩ := info_parts strInfo
    by_cases hq0 : q < 0
    · have HU2 := Lib.hid (HU.out.trans (if_pos hq0))
      have hT1 : (S.wrong 15 i).free = S.free := by unfold Sc.wrong; split <;> rfl
      have hT2 : (S.wrong 15 i).slots = S.slots := by unfold Sc.wrong; split <;> rfl
      have WR := Lib.hid (qdd H.out 15 i)
      obtain ⟨T, hT⟩ : ∃ T, S.wrong 15 i = T := ⟨_, rfl⟩
      rw [hT] at HU2 WR hT1 hT2
      have hTf : T.free.length ≤ 2000 := by rw [hT1]; exact HFR.out
      have hTs : i < T.slots.length := by rw [hT2]; exact HI.out
      have HTF := Lib.hid hTf
      have HTS := Lib.hid hTs
      have HTN := Lib.hid (show T.slots.length = n2 from by rw [hT2]; exact HN2.out)
      clear hT hT1 hT2 HU hTf hTs
      cases hQ : Lib.containsS T.free s
      · have HU3 := Lib.hid (HU2.out.trans (if_neg (by rw [hQ]; simp)))
        have HQ := Lib.hid hQ
        clear HU2 hQ
        go_wp2_with (first
         | (go_at_call 203; (with_reducible refine WR.out.mono ?_); rintro e' w2 ⟨rfl, h2⟩; have H2 := Lib.hid h2; clear h2; have KX2 := Lib.hid (show KB b _ _ w2 from H2.out.cell); have x6 := KX2.out.cell 6 fv rfl; have x4 := KX2.out.cell 4 (.slice (some ⟨g2, 0, none⟩) n2 c2) rfl; have lb2 := KX2.out.lt; have lg2 := (H2.out.slots.lt g2 rfl).2; have hfb : fv.ownBlock ≠ some b := fun q => ((H2.out.apart b).2.2.2 q) rfl; have CF := Lib.hid (qbr H2.out.free s (Nat.le_trans HTF.out zae)))
         | (go_at_call 202; (with_reducible refine CF.out.mono ?_); rintro e' _ ⟨rfl, rfl⟩; rw [HQ.out])
         | (at_builtin; refine wpList_append_own_at _ rfl _ _ 23 rfl W.heap.size 9 i0 (.string ⟨#[]⟩) 1 16 Tryz.underlying23 hi hz0 hz1 hz2 rfl zaj fv T.free.length (strV T.free) rfl (H2.out.free.alloc _) ⟨_, 0, none⟩ 1 1 [.string s] rfl rfl (qaB zal) zax (by unfold maxLen; have := HTF.out; omega) (by have := HTF.out; omega) (by simp; have := H2.out.ext.size; omega) ?_))
        intro v' w1 hown' hgrow _ hblk
        obtain ⟨g3, cap3, rfl, _, _⟩ := hown'.form zae
        have HP := Lib.hid (WkV.push_free (s := s) (H2.out.of_ext ((Ext.refl _).alloc _)) hown' hgrow (by rw [World.size_alloc]; exact hblk))
        have KX3 := Lib.hid (show KB b _ _ w1 from (hgrow.block b (by rw [World.size_alloc]; omega) (Ne.symm hfb)).trans (KX2.out.alloc _))
        have z6 := KX3.out.cell 6 fv rfl
        have z6f := KX3.out.frozen 6
        have lb3 := KX3.out.lt
        have KX4 := Lib.hid (show KB b _ _ (w1.setCell ⟨b, 6, none⟩ _) from HP.out.cell)
        have z4 := KX4.out.cell 4 (.slice (some ⟨g2, 0, none⟩) n2 c2) rfl
        clear hown' hgrow hblk
        have y0 := HP.out.slots.cells (g := g2) rfl i _ (qcE T.slots i HTS.out)
        rw [Addr.add_lit, Nat.zero_add] at y0
        have y1 := own_fz HP.out.slots i
        have y2 := (HP.out.slots.lt g2 rfl).2
        go_wp2_with fail
        go_end0
        exact ⟨rfl, _, _, _, _, by rw [HU3.out]; exact HP.out.setSlot i q HTS.out HTN.out⟩
      · have HU3 := Lib.hid (HU2.out.trans (if_pos hQ))
        have HQ := Lib.hid hQ
        clear HU2 hQ
        go_wp2_with (first
         | (go_at_call 203; (with_reducible refine WR.out.mono ?_); rintro e' w2 ⟨rfl, h2⟩; have H2 := Lib.hid h2; clear h2; have KX2 := Lib.hid (show KB b _ _ w2 from H2.out.cell); have x6 := KX2.out.cell 6 fv rfl; have x4 := KX2.out.cell 4 (.slice (some ⟨g2, 0, none⟩) n2 c2) rfl; have lb2 := KX2.out.lt; have lg2 := (H2.out.slots.lt g2 rfl).2; have hfb : fv.ownBlock ≠ some b := fun q => ((H2.out.apart b).2.2.2 q) rfl; have CF := Lib.hid (qbr H2.out.free s (Nat.le_trans HTF.out zae)); have y0 := H2.out.slots.cells (g := g2) rfl i _ (qcE T.slots i HTS.out); rw [Addr.add_lit, Nat.zero_add] at y0; have y1 := own_fz H2.out.slots i; have y2 := (H2.out.slots.lt g2 rfl).2)
         | (go_at_call 202; (with_reducible refine CF.out.mono ?_); rintro e' _ ⟨rfl, rfl⟩; rw [HQ.out]))
        go_end0
        exact ⟨rfl, _, _, _, _, by rw [HU3.out]; exact H2.out.setSlot i q HTS.out HTN.out⟩
    · have HU2 := Lib.hid (HU.out.trans (if_neg hq0))
      have hq1 : 0 ≤ q := by omega
      have KX2 := Lib.hid (show KB b _ _ wr from H.out.cell)
      have x4 := KX2.out.cell 4 (.slice (some ⟨g2, 0, none⟩) n2 c2) rfl
      have y0 := H.out.slots.cells (g := g2) rfl i _ (qcE S.slots i HI.out)
      rw [Addr.add_lit, Nat.zero_add] at y0
      have y1 := own_fz H.out.slots i
      have y2 := (H.out.slots.lt g2 rfl).2
      clear hq0
      go_wp2_with fail
      go_end0
      exact ⟨rfl, _, _, _, _, by rw [HU2.out]; exact H.out.setSlot i q HI.out HN2.out⟩
end Go.Proofs.YtpnabjopfpdkhaaGreatDoor

namespace Go.Proofs.YtpnabjopfpdkhaaGreatDoor
open Go.RowKit
attribute [go_sem] more_more Array.size_append
def Sc.wrongSee (S : Sc) (s : ByteArray) (i : Int) : Sc := if Lib.containsS S.seen s = true then S.wrong 16 i else if 32 ≤ S.seen.length then S.wrong 5 i else S
/-- a name is made seen -/
def Sc.see (S : Sc) (s : ByteArray) (i : Int) : Sc :=
 let T := S.wrongSee s i
 { T with made := T.made ++ [s], seen := T.seen ++ [s], most := max T.most ((T.seen.length : Int) + 1) }
set_option maxHeartbeats 8000000 in
set_option maxRecDepth 20000 in
theorem see_any {W : World} {b : Nat} {nv : Value} {fi : Int} {ns : List Nd} {L : List (Nat × Obj)} {S : Sc} {w : World} {sv tv mv fv : Value} (h : WkV W b nv fi ns L S sv tv mv fv w) (s : ByteArray) (i : Int) (hs : S.seen.length ≤ 2000) (hf : S.made.length ≤ 2000) :
  Calls Tryz.prog 174 #[.pointer (some ⟨b, 0, none⟩), .string s, .int .i64 i] w fun r w' => r = .returned (.tuple #[]) ∧ Wk W b nv fi ns L (S.see s i) w' := by
 have H := Lib.hid h
 have KX := Lib.hid (show KB b _ _ w from h.cell)
 have x2 := KX.out.cell 2 sv rfl
 have lb := KX.out.lt
 obtain ⟨i0, hi, hz0, hz1, hz2⟩ := info_parts strInfo
 have CF := Lib.hid (qbr h.seen s zae)
 obtain ⟨sl, hsl⟩ : ∃ sl, S.seen.length = sl := ⟨_, rfl⟩
 obtain ⟨p, c, hv⟩ := qag h.seen
 rw [hsl] at hv
 subst hv
 cases hQ : Lib.containsS S.seen s
 · by_cases h32 : 32 ≤ S.seen.length
   · have hW : S.wrongSee s i = S.wrong 5 i := by unfold Sc.wrongSee; rw [if_neg (by rw [hQ]; simp), if_pos h32]
     have WR := Lib.hid (qdd h 5 i)
     have hT1 : (S.wrong 5 i).seen = S.seen := by unfold Sc.wrong; split <;> rfl
     have hT2 : (S.wrong 5 i).made = S.made := by unfold Sc.wrong; split <;> rfl
     have HU : RowKit.Hid (S.see s i = _) := Lib.hid (by unfold Sc.see; rw [hW])
     obtain ⟨T, hT⟩ : ∃ T, S.wrong 5 i = T := ⟨_, rfl⟩
     rw [hT] at WR hT1 hT2 HU
     have HTL := Lib.hid (show T.seen.length ≤ 2000 ∧ T.made.length ≤ 2000 from ⟨by rw [hT1]; exact hs, by rw [hT2]; exact hf⟩)
     have HQ := Lib.hid hQ
     have h3i : (32 : Int) ≤ (sl : Int) := by omega
     clear hW hT hT1 hT2 hQ h hs hf hsl h32
     go_enter Tryz.func174, Tryz.ntmps174
     go_wp2_with (first
      | (go_at_call 202; (with_reducible refine CF.out.mono ?_); rintro e' _ ⟨rfl, rfl⟩; rw [HQ.out])
      | (go_at_call 203; (with_reducible refine WR.out.mono ?_); rintro e' w2 ⟨rfl, h2⟩; have H2 := Lib.hid h2; clear h2; have KX2 := Lib.hid (show KB b _ _ w2 from H2.out.cell); have y5 := KX2.out.cell 5 mv rfl; have lb2 := KX2.out.lt)
      | (at_builtin; refine wpList_append_own_at _ rfl _ _ 23 rfl W.heap.size 9 i0 (.string ⟨#[]⟩) 1 16 Tryz.underlying23 hi hz0 hz1 hz2 rfl zaj mv T.made.length (strV T.made) rfl (H2.out.made.alloc _) ⟨_, 0, none⟩ 1 1 [.string s] rfl rfl (qaB zal) zax (by unfold maxLen; have := HTL.out; omega) (by have := HTL.out; omega) (by simp; have := H2.out.ext.size; omega) ?_))
     intro v1 w3 hown' hgrow _ hblk
     obtain ⟨g3, cap3, rfl, _, _⟩ := hown'.form zae
     have HP := Lib.hid (WkV.push_made (s := s) (H2.out.of_ext ((Ext.refl _).alloc _)) hown' hgrow (by rw [World.size_alloc]; exact hblk))
     have hmb : mv.ownBlock ≠ some b := fun q => ((H2.out.apart b).2.2.1 q).1 rfl
     have KX3 := Lib.hid (show KB b _ _ w3 from (hgrow.block b (by rw [World.size_alloc]; have := (show KB b _ _ _ from H2.out.cell).lt; omega) (Ne.symm hmb)).trans ((show KB b _ _ _ from H2.out.cell).alloc _))
     have z5 := KX3.out.cell 5 mv rfl
     have z5f := KX3.out.frozen 5
     have lb3 := KX3.out.lt
     have KX4 := Lib.hid (show KB b _ _ (w3.setCell ⟨b, 5, none⟩ _) from HP.out.cell)
     have z2 := KX4.out.cell 2 (.slice p sl c) rfl
     clear hown' hgrow hblk
     go_wp2_with (at_builtin; refine wpList_append_own_at _ rfl _ _ 23 rfl W.heap.size 9 i0 (.string ⟨#[]⟩) 1 16 Tryz.underlying23 hi hz0 hz1 hz2 rfl zaj (.slice p sl c) T.seen.length (strV T.seen) rfl (HP.out.seen.alloc _) ⟨_, 0, none⟩ 1 1 [.string s] rfl rfl (qaB zal) zax (by unfold maxLen; have := HTL.out; omega) (by have := HTL.out; omega) (by simp; have := HP.out.ext.size; omega) ?_)
     intro v2 w4 hown' hgrow _ hblk
     obtain ⟨g4, cap4, rfl, _, _⟩ := hown'.form zae
     have HP2 := Lib.hid (WkV.push_seen (s := s) (HP.out.of_ext ((Ext.refl _).alloc _)) hown' hgrow (by simpa using hblk))
     have hsb : (Value.slice p sl c).ownBlock ≠ some b := fun q => ((HP.out.apart b).1 q).1 rfl
     have KX5 := Lib.hid (show KB b _ _ w4 from (hgrow.block b (by rw [World.size_alloc]; have := KX4.out.lt; omega) (Ne.symm hsb)).trans (KX4.out.alloc _))
     have t2 := KX5.out.cell 2 (.slice p sl c) rfl
     have t2f := KX5.out.frozen 2
     have lb4 := KX5.out.lt
     have KX6 := Lib.hid (show KB b _ _ (w4.setCell ⟨b, 2, none⟩ _) from HP2.out.cell)
     have t22 := KX6.out.cell 2 (.slice (some ⟨g4, 0, none⟩) (T.seen.length + 1) cap4) rfl
     have t23 := KX6.out.cell 3 (.int .i64 T.most) rfl
     have t23f := KX6.out.frozen 3
     have lb6 := KX6.out.lt
     clear hown' hgrow hblk
     go_wp2_with fail
     go_region
     go_wp2_with fail
     go_end0
     exact ⟨rfl, _, _, _, _, by rw [HU.out]; exact (HP2.out.setB 3 (.int .i64 (max T.most ((T.seen.length : Int) + 1))) { T with made := T.made ++ [s], seen := T.seen ++ [s], most := max T.most ((T.seen.length : Int) + 1) } zae rfl rfl rfl rfl rfl).of_ext ((Ext.refl _).drew)⟩
   · have hW : S.wrongSee s i = S := by unfold Sc.wrongSee; rw [if_neg (by rw [hQ]; simp), if_neg h32]
     have HU : RowKit.Hid (S.see s i = _) := Lib.hid (by unfold Sc.see; rw [hW])
     have HTL := Lib.hid (show S.seen.length ≤ 2000 ∧ S.made.length ≤ 2000 from ⟨by exact hs, by exact hf⟩)
     have HQ := Lib.hid hQ
     have h3i : (sl : Int) < 32 := by omega
     have y5 := KX.out.cell 5 mv rfl
     clear hW hQ h hs hf hsl h32
     go_enter Tryz.func174, Tryz.ntmps174
     go_wp2_with (first
      | (go_at_call 202; (with_reducible refine CF.out.mono ?_); rintro e' _ ⟨rfl, rfl⟩; rw [HQ.out])
      | (at_builtin; refine wpList_append_own_at _ rfl _ _ 23 rfl W.heap.size 9 i0 (.string ⟨#[]⟩) 1 16 Tryz.underlying23 hi hz0 hz1 hz2 rfl zaj mv S.made.length (strV S.made) rfl (H.out.made.alloc _) ⟨_, 0, none⟩ 1 1 [.string s] rfl rfl (qaB zal) zax (by unfold maxLen; have := HTL.out; omega) (by have := HTL.out; omega) (by simp; have := H.out.ext.size; omega) ?_))
     intro v1 w3 hown' hgrow _ hblk
     obtain ⟨g3, cap3, rfl, _, _⟩ := hown'.form zae
     have HP := Lib.hid (WkV.push_made (s := s) (H.out.of_ext ((Ext.refl _).alloc _)) hown' hgrow (by rw [World.size_alloc]; exact hblk))
     have hmb : mv.ownBlock ≠ some b := fun q => ((H.out.apart b).2.2.1 q).1 rfl
     have KX3 := Lib.hid (show KB b _ _ w3 from (hgrow.block b (by rw [World.size_alloc]; have := (show KB b _ _ _ from H.out.cell).lt; omega) (Ne.symm hmb)).trans ((show KB b _ _ _ from H.out.cell).alloc _))
     have z5 := KX3.out.cell 5 mv rfl
     have z5f := KX3.out.frozen 5
     have lb3 := KX3.out.lt
     have KX4 := Lib.hid (show KB b _ _ (w3.setCell ⟨b, 5, none⟩ _) from HP.out.cell)
     have z2 := KX4.out.cell 2 (.slice p sl c) rfl
     clear hown' hgrow hblk
     go_wp2_with (at_builtin; refine wpList_append_own_at _ rfl _ _ 23 rfl W.heap.size 9 i0 (.string ⟨#[]⟩) 1 16 Tryz.underlying23 hi hz0 hz1 hz2 rfl zaj (.slice p sl c) S.seen.length (strV S.seen) rfl (HP.out.seen.alloc _) ⟨_, 0, none⟩ 1 1 [.string s] rfl rfl (qaB zal) zax (by unfold maxLen; have := HTL.out; omega) (by have := HTL.out; omega) (by simp; have := HP.out.ext.size; omega) ?_)
     intro v2 w4 hown' hgrow _ hblk
     obtain ⟨g4, cap4, rfl, _, _⟩ := hown'.form zae
     have HP2 := Lib.hid (WkV.push_seen (s := s) (HP.out.of_ext ((Ext.refl _).alloc _)) hown' hgrow (by simpa using hblk))
     have hsb : (Value.slice p sl c).ownBlock ≠ some b := fun q => ((HP.out.apart b).1 q).1 rfl
     have KX5 := Lib.hid (show KB b _ _ w4 from (hgrow.block b (by rw [World.size_alloc]; have := KX4.out.lt; omega) (Ne.symm hsb)).trans (KX4.out.alloc _))
     have t2 := KX5.out.cell 2 (.slice p sl c) rfl
     have t2f := KX5.out.frozen 2
     have lb4 := KX5.out.lt
     have KX6 := Lib.hid (show KB b _ _ (w4.setCell ⟨b, 2, none⟩ _) from HP2.out.cell)
     have t22 := KX6.out.cell 2 (.slice (some ⟨g4, 0, none⟩) (S.seen.length + 1) cap4) rfl
     have t23 := KX6.out.cell 3 (.int .i64 S.most) rfl
     have t23f := KX6.out.frozen 3
     have lb6 := KX6.out.lt
     clear hown' hgrow hblk
     go_wp2_with fail
     go_region
     go_wp2_with fail
     go_end0
     exact ⟨rfl, _, _, _, _, by rw [HU.out]; exact (HP2.out.setB 3 (.int .i64 (max S.most ((S.seen.length : Int) + 1))) { S with made := S.made ++ [s], seen := S.seen ++ [s], most := max S.most ((S.seen.length : Int) + 1) } zae rfl rfl rfl rfl rfl).of_ext ((Ext.refl _).drew)⟩
 · have hW : S.wrongSee s i = S.wrong 16 i := by unfold Sc.wrongSee; rw [if_pos hQ]
   have WR := Lib.hid (qdd h 16 i)
   have hT1 : (S.wrong 16 i).seen = S.seen := by unfold Sc.wrong; split <;> rfl
   have hT2 : (S.wrong 16 i).made = S.made := by unfold Sc.wrong; split <;> rfl
   have HU : RowKit.Hid (S.see s i = _) := Lib.hid (by unfold Sc.see; rw [hW])
   obtain ⟨T, hT⟩ : ∃ T, S.wrong 16 i = T := ⟨_, rfl⟩
   rw [hT] at WR hT1 hT2 HU
   have HTL := Lib.hid (show T.seen.length ≤ 2000 ∧ T.made.length ≤ 2000 from ⟨by rw [hT1]; exact hs, by rw [hT2]; exact hf⟩)
   have HQ := Lib.hid hQ
   clear hW hT hT1 hT2 hQ h hs hf hsl
   go_enter Tryz.func174, Tryz.ntmps174
   go_wp2_with (first
    | (go_at_call 202; (with_reducible refine CF.out.mono ?_); rintro e' _ ⟨rfl, rfl⟩; rw [HQ.out])
    | (go_at_call 203; (with_reducible refine WR.out.mono ?_); rintro e' w2 ⟨rfl, h2⟩; have H2 := Lib.hid h2; clear h2; have KX2 := Lib.hid (show KB b _ _ w2 from H2.out.cell); have y5 := KX2.out.cell 5 mv rfl; have lb2 := KX2.out.lt)
    | (at_builtin; refine wpList_append_own_at _ rfl _ _ 23 rfl W.heap.size 9 i0 (.string ⟨#[]⟩) 1 16 Tryz.underlying23 hi hz0 hz1 hz2 rfl zaj mv T.made.length (strV T.made) rfl (H2.out.made.alloc _) ⟨_, 0, none⟩ 1 1 [.string s] rfl rfl (qaB zal) zax (by unfold maxLen; have := HTL.out; omega) (by have := HTL.out; omega) (by simp; have := H2.out.ext.size; omega) ?_))
   intro v1 w3 hown' hgrow _ hblk
   obtain ⟨g3, cap3, rfl, _, _⟩ := hown'.form zae
   have HP := Lib.hid (WkV.push_made (s := s) (H2.out.of_ext ((Ext.refl _).alloc _)) hown' hgrow (by rw [World.size_alloc]; exact hblk))
   have hmb : mv.ownBlock ≠ some b := fun q => ((H2.out.apart b).2.2.1 q).1 rfl
   have KX3 := Lib.hid (show KB b _ _ w3 from (hgrow.block b (by rw [World.size_alloc]; have := (show KB b _ _ _ from H2.out.cell).lt; omega) (Ne.symm hmb)).trans ((show KB b _ _ _ from H2.out.cell).alloc _))
   have z5 := KX3.out.cell 5 mv rfl
   have z5f := KX3.out.frozen 5
   have lb3 := KX3.out.lt
   have KX4 := Lib.hid (show KB b _ _ (w3.setCell ⟨b, 5, none⟩ _) from HP.out.cell)
   have z2 := KX4.out.cell 2 (.slice p sl c) rfl
   clear hown' hgrow hblk
   go_wp2_with (at_builtin; refine wpList_append_own_at _ rfl _ _ 23 rfl W.heap.size 9 i0 (.string ⟨#[]⟩) 1 16 Tryz.underlying23 hi hz0 hz1 hz2 rfl zaj (.slice p sl c) T.seen.length (strV T.seen) rfl (HP.out.seen.alloc _) ⟨_, 0, none⟩ 1 1 [.string s] rfl rfl (qaB zal) zax (by unfold maxLen; have := HTL.out; omega) (by have := HTL.out; omega) (by simp; have := HP.out.ext.size; omega) ?_)
   intro v2 w4 hown' hgrow _ hblk
   obtain ⟨g4, cap4, rfl, _, _⟩ := hown'.form zae
   have HP2 := Lib.hid (WkV.push_seen (s := s) (HP.out.of_ext ((Ext.refl _).alloc _)) hown' hgrow (by simpa using hblk))
   have hsb : (Value.slice p sl c).ownBlock ≠ some b := fun q => ((HP.out.apart b).1 q).1 rfl
   have KX5 := Lib.hid (show KB b _ _ w4 from (hgrow.block b (by rw [World.size_alloc]; have := KX4.out.lt; omega) (Ne.symm hsb)).trans (KX4.out.alloc _))
   have t2 := KX5.out.cell 2 (.slice p sl c) rfl
   have t2f := KX5.out.frozen 2
   have lb4 := KX5.out.lt
   have KX6 := Lib.hid (show KB b _ _ (w4.setCell ⟨b, 2, none⟩ _) from HP2.out.cell)
   have t22 := KX6.out.cell 2 (.slice (some ⟨g4, 0, none⟩) (T.seen.length + 1) cap4) rfl
   have t23 := KX6.out.cell 3 (.int .i64 T.most) rfl
   have t23f := KX6.out.frozen 3
   have lb6 := KX6.out.lt
   clear hown' hgrow hblk
   go_wp2_with fail
   go_region
   go_wp2_with fail
   go_end0
   exact ⟨rfl, _, _, _, _, by rw [HU.out]; exact (HP2.out.setB 3 (.int .i64 (max T.most ((T.seen.length : Int) + 1))) { T with made := T.made ++ [s], seen := T.seen ++ [s], most := max T.most ((T.seen.length : Int) + 1) } zae rfl rfl rfl rfl rfl).of_ext ((Ext.refl _).drew)⟩
end Go.Proofs.YtpnabjopfpdkhaaGreatDoor

namespace Go.Proofs.YtpnabjopfpdkhaaGreatDoor
open Go.RowKit
attribute [go_sem] more_more Array.size_append
/-- one's own new block is laid into the frame -/
theorem WkV.locNew {W : World} {b : Nat} {nv : Value} {fi : Int} {ns : List Nd} {L : List (Nat × Obj)} {S : Sc} {w : World} {sv tv mv fv : Value} (h : WkV W b nv fi ns L S sv tv mv fv w) (o : Obj) : WkV W b nv fi ns ((w.heap.size, o) :: L) S sv tv mv fv (w.alloc o) := by
 have h' := h.of_ext ((Ext.refl w).alloc o)
 refine ⟨h'.ext, h'.cell, h'.row, h'.seen, h'.slots, h'.made, h'.free, h'.base, h'.apart, fun q hq => ?_⟩
 rcases List.mem_cons.1 hq with e | hq
 · subst e
   refine ⟨heap_alloc_new _ _, ?_, fun e => ?_, fun e => ?_, fun e => ?_, fun e => ?_⟩
   · have := (Array.getElem?_eq_some_iff.1 h.cell).1
     dsimp only; omega
   · exact absurd (h.seen.lt _ e).2 (Nat.lt_irrefl _)
   · exact absurd (h.slots.lt _ e).2 (Nat.lt_irrefl _)
   · exact absurd (h.made.lt _ e).2 (Nat.lt_irrefl _)
   · exact absurd (h.free.lt _ e).2 (Nat.lt_irrefl _)
 · exact h'.loc q hq
theorem WkV.locOut {W : World} {b : Nat} {nv : Value} {fi : Int} {ns : List Nd} {L : List (Nat × Obj)} {S : Sc} {w : World} {sv tv mv fv : Value} {q : Nat × Obj} (h : WkV W b nv fi ns (q :: L) S sv tv mv fv w) : WkV W b nv fi ns L S sv tv mv fv w :=
 ⟨h.ext, h.cell, h.row, h.seen, h.slots, h.made, h.free, h.base, h.apart, fun p hp => h.loc p (List.mem_cons_of_mem _ hp)⟩
theorem Wk.locNew {W : World} {b : Nat} {nv : Value} {fi : Int} {ns : List Nd} {L : List (Nat × Obj)} {S : Sc} {w : World} (h : Wk W b nv fi ns L S w) (o : Obj) : Wk W b nv fi ns ((w.heap.size, o) :: L) S (w.alloc o) := by
 obtain ⟨sv, tv, mv, fv, h⟩ := h
 exact ⟨sv, tv, mv, fv, h.locNew o⟩
theorem Wk.locOut {W : World} {b : Nat} {nv : Value} {fi : Int} {ns : List Nd} {L : List (Nat × Obj)} {S : Sc} {w : World} {q : Nat × Obj} (h : Wk W b nv fi ns (q :: L) S w) : Wk W b nv fi ns L S w := by
 obtain ⟨sv, tv, mv, fv, h⟩ := h
 exact ⟨sv, tv, mv, fv, h.locOut⟩
theorem Wk.locAt {W : World} {b : Nat} {nv : Value} {fi : Int} {ns : List Nd} {L : List (Nat × Obj)} {S : Sc} {w : World} {k : Nat} {cs : Array Value} {T : TypeId} (h : Wk W b nv fi ns L S w) (hq : (k, Obj.cells cs T (0, 0)) ∈ L) : KB k cs T w := by
 obtain ⟨sv, tv, mv, fv, h⟩ := h
 exact (h.loc _ hq).1
def Sc.useO (S : Sc) (s : ByteArray) (i : Nat) : Option Sc := if i < S.slots.length ∧ S.seen.length ≤ 2000 ∧ S.free.length ≤ 2000 then some (S.use s i) else none
def Sc.seeO (S : Sc) (s : ByteArray) (i : Int) : Option Sc := if S.seen.length ≤ 2000 ∧ S.made.length ≤ 2000 then some (S.see s i) else none
def seesO (i : Int) : List ByteArray → Sc → Option Sc
 | [], S => some S
 | s :: l, S => (S.seeO s i).bind (seesO i l)
def exprS (ns : List Nd) : Nat → Int → Sc → Option Sc
 | 0, i, S => if i < 0 then some S else none
 | f + 1, i, S => if i < 0 then some S else
  match ns[i.toNat]? with
  | none => none
  | some z => (exprS ns f z.a S).bind fun S1 => (exprS ns f z.b S1).bind fun S2 => if z.k = 4 then S2.useO z.s i.toNat else some S2
def qba (B : Int → Sc → Option Sc) (first i : Int) (names : List ByteArray) (S : Sc) : Option Sc :=
 (seesO i names S).bind fun S1 => (B first S1).bind fun S2 => if S.seen.length ≤ S2.seen.length then some { S2 with seen := S2.seen.take S.seen.length } else none
def Sc.slot (S : Sc) (i : Nat) : Option Sc := if i < S.slots.length then some { S with slots := S.slots.set i S.seen.length } else none
def stmS (E B : Int → Sc → Option Sc) (i : Nat) (z : Nd) (S : Sc) : Option Sc := (E z.a S).bind fun S1 =>
 if z.k = 22 then E z.b S1
 else if z.k = 20 then (S1.slot i).bind fun S2 => S2.seeO z.s i
 else if z.k = 21 then S1.useO z.s i
 else if z.k = 24 then (qba B z.b i [] S1).bind (qba B z.c i [])
 else if z.k = 25 then (S1.slot i).bind (qba B z.b i [z.s, z.t])
 else if z.k = 26 then qba B z.b i [] S1
 else some S1
def blkS (ns : List Nd) : Nat → Int → Sc → Option Sc
 | 0, i, S => if i < 0 then some S else none
 | f + 1, i, S => if i < 0 then some S else
  match ns[i.toNat]? with
  | none => none
  | some z => (stmS (exprS ns f) (blkS ns f) i.toNat z S).bind (blkS ns f z.x)
theorem qac {α β : Type} {x : Option α} {g : α → Option β} {r : β} (h : x.bind g = some r) : ∃ a, x = some a ∧ g a = some r := Option.bind_eq_some_iff.1 h
theorem exprS_neg (ns : List Nd) (f : Nat) (i : Int) (S : Sc) (h : i < 0) : exprS ns f i S = some S := by
 cases f <;> (unfold exprS; rw [if_pos h])
theorem qcd {ns : List Nd} {f : Nat} {i : Int} {S R : Sc} (h : 0 ≤ i) (hR : exprS ns f i S = some R) : ∃ g j z S1 S2, f = g + 1 ∧ i = ((j : Nat) : Int) ∧ ns[j]? = some z ∧ exprS ns g z.a S = some S1 ∧ exprS ns g z.b S1 = some S2 ∧ (if z.k = 4 then S2.useO z.s j else some S2) = some R := by
 cases f with
 | zero => unfold exprS at hR; rw [if_neg zae] at hR; cases hR
 | succ g =>
  unfold exprS at hR
  rw [if_neg zae] at hR
  obtain ⟨j, rfl⟩ : ∃ j : Nat, i = (j : Int) := ⟨i.toNat, by omega⟩
  rw [Int.toNat_natCast] at hR
  split at hR
  · cases hR
  · rename_i z hz
    obtain ⟨S1, h1, hR⟩ := qac hR
    obtain ⟨S2, h2, hR⟩ := qac hR
    exact ⟨g, j, z, S1, S2, rfl, rfl, hz, h1, h2, hR⟩
theorem useO_some {S R : Sc} {s : ByteArray} {i : Nat} (h : S.useO s i = some R) : i < S.slots.length ∧ S.seen.length ≤ 2000 ∧ S.free.length ≤ 2000 ∧ R = S.use s i := by
 unfold Sc.useO at h
 split at h
 · rename_i q; exact ⟨q.1, q.2.1, q.2.2, (Option.some.inj h).symm⟩
 · cases h
theorem qbv {S R : Sc} {s : ByteArray} {i : Int} (h : S.seeO s i = some R) : S.seen.length ≤ 2000 ∧ S.made.length ≤ 2000 ∧ R = S.see s i := by
 unfold Sc.seeO at h
 split at h
 · rename_i q; exact ⟨q.1, q.2, (Option.some.inj h).symm⟩
 · cases h
theorem qcI {S R : Sc} {i : Nat} (h : S.slot i = some R) : i < S.slots.length ∧ R = { S with slots := S.slots.set i S.seen.length } := by
 unfold Sc.slot at h
 split at h
 · rename_i q; exact ⟨q, (Option.some.inj h).symm⟩
 · cases h
theorem useO_any {W : World} {b : Nat} {nv : Value} {fi : Int} {ns : List Nd} {L : List (Nat × Obj)} {S R : Sc} {w : World} (h : Wk W b nv fi ns L S w) (s : ByteArray) (i : Nat) (hR : S.useO s i = some R) :
  Calls Tryz.prog 205 #[.pointer (some ⟨b, 0, none⟩), .string s, .int .i64 (i : Int)] w fun r w' => r = .returned (.tuple #[]) ∧ Wk W b nv fi ns L R w' := by
 obtain ⟨sv, tv, mv, fv, h⟩ := h
 obtain ⟨a1, a2, a3, rfl⟩ := useO_some hR
 exact use_any h s i a1 a2 a3
theorem seeO_any {W : World} {b : Nat} {nv : Value} {fi : Int} {ns : List Nd} {L : List (Nat × Obj)} {S R : Sc} {w : World} (h : Wk W b nv fi ns L S w) (s : ByteArray) (i : Int) (hR : S.seeO s i = some R) :
  Calls Tryz.prog 174 #[.pointer (some ⟨b, 0, none⟩), .string s, .int .i64 i] w fun r w' => r = .returned (.tuple #[]) ∧ Wk W b nv fi ns L R w' := by
 obtain ⟨sv, tv, mv, fv, h⟩ := h
 obtain ⟨a1, a2, rfl⟩ := qbv hR
 exact see_any h s i a1 a2
/-- the node's cells, behind the walker's block -/
theorem Wk.node {W : World} {b : Nat} {nv : Value} {fi : Int} {ns : List Nd} {L : List (Nat × Obj)} {S : Sc} {w : World} (h : Wk W b nv fi ns L S w) {j : Nat} {z : Nd} (hz : ns[j]? = some z) :
  ∃ G n cap, nv = .slice (some ⟨G, 0, none⟩) n cap ∧ G < w.heap.size ∧ j < n ∧ b < w.heap.size ∧ w.cell? ⟨b, 0, none⟩ = some (.slice (some ⟨G, 0, none⟩) n cap) ∧
  w.cell? ⟨G, j * 8, none⟩ = some (.int .i64 z.k) ∧ w.cell? ⟨G, j * 8 + 1, none⟩ = some (.int .i64 z.a) ∧ w.cell? ⟨G, j * 8 + 2, none⟩ = some (.int .i64 z.b) ∧ w.cell? ⟨G, j * 8 + 3, none⟩ = some (.int .i64 z.c) ∧ w.cell? ⟨G, j * 8 + 4, none⟩ = some (.int .i64 z.x) ∧ w.cell? ⟨G, j * 8 + 5, none⟩ = some (.int .i64 z.i) ∧ w.cell? ⟨G, j * 8 + 6, none⟩ = some (.string z.s) ∧ w.cell? ⟨G, j * 8 + 7, none⟩ = some (.string z.t) := by
 obtain ⟨sv, tv, mv, fv, h⟩ := h
 have hj := (List.getElem?_eq_some_iff.1 hz).1
 rcases Go.Joins.ownsRow_forms h.row with ⟨_, h0⟩ | ⟨g1, c1, h0⟩
 · omega
 · have hr := h.row
   subst h0
   have kb : KB b _ _ w := h.cell
   exact ⟨g1, ns.length, c1, rfl, (hr.lt g1 rfl).2, hj, kb.lt, kb.cell 0 _ rfl, nd_at hr hz⟩
theorem sexpr_neg {W : World} {b : Nat} {nv : Value} {fi : Int} {ns : List Nd} {L : List (Nat × Obj)} {S : Sc} {w : World} (i : Int) (hi : i < 0) (h : Wk W b nv fi ns L S w) :
  Calls Tryz.prog 204 #[.pointer (some ⟨b, 0, none⟩), .int .i64 i] w fun r w' => r = .returned (.tuple #[]) ∧ Wk W b nv fi ns L S w' := by
 have H := Lib.hid h
 clear h
 go_enter Tryz.func204, Tryz.ntmps204
 go_wp2_with fail
 (first | go_end0 | refine bodyPost_ret (results_none rfl _ _ _) rfl ?_)
 exact ⟨rfl, H.out⟩
set_option maxHeartbeats 4000000 in
set_option maxRecDepth 20000 in
theorem sexpr_any {W : World} {b : Nat} {nv : Value} {fi : Int} {ns : List Nd} : ∀ (f : Nat) (L : List (Nat × Obj)) (S R : Sc) (w : World) (i : Int), exprS ns f i S = some R → Wk W b nv fi ns L S w →
  Calls Tryz.prog 204 #[.pointer (some ⟨b, 0, none⟩), .int .i64 i] w fun r w' => r = .returned (.tuple #[]) ∧ Wk W b nv fi ns L R w' := by
 intro f
 induction f with
 | zero =>
  intro L S R w i hR h
  by_cases hi : i < 0
  · rw [exprS_neg ns 0 i S hi] at hR
    cases hR
    exact sexpr_neg i hi h
  · obtain ⟨g, _, _, _, _, e, _⟩ := qcd zae hR
    cases e
 | succ f ih =>
  intro L S R w i hR h
  by_cases hi : i < 0
  · rw [exprS_neg ns _ i S hi] at hR
    cases hR
    exact sexpr_neg i hi h
  obtain ⟨g, j, ⟨zk, za, zb, zc, zx, zi, zs, zt⟩, S1, S2, e, rfl, hz, h1, h2, h3⟩ := qcd zae hR
  obtain rfl : f = g := by omega
  dsimp only at h1 h2 h3
  obtain ⟨G, n, cap, rfl, hG, hj, lb, c0, a0, a1, a2, a3, a4, a5, a6, a7⟩ := h.node hz
  dsimp only at a0 a1 a2 a3 a4 a5 a6 a7
  have C1 := Lib.hid (fun w1 (hw : Wk W b (.slice (some ⟨G, 0, none⟩) n cap) fi ns ((w.heap.size, .cells #[.int .i64 zk, .int .i64 za, .int .i64 zb, .int .i64 zc, .int .i64 zx, .int .i64 zi, .string zs, .string zt] 166 (0, 0)) :: L) S w1) => ih _ S S1 w1 za h1 hw)
  have C2 := Lib.hid (fun w1 (hw : Wk W b (.slice (some ⟨G, 0, none⟩) n cap) fi ns ((w.heap.size, .cells #[.int .i64 zk, .int .i64 za, .int .i64 zb, .int .i64 zc, .int .i64 zx, .int .i64 zi, .string zs, .string zt] 166 (0, 0)) :: L) S1 w1) => ih _ S1 S2 w1 zb h2 hw)
  have H0 := Lib.hid (h.locNew (.cells #[.int .i64 zk, .int .i64 za, .int .i64 zb, .int .i64 zc, .int .i64 zx, .int .i64 zi, .string zs, .string zt] 166 (0, 0)))
  have hj0 : 0 ≤ (j : Int) := by omega
  have hjn : (j : Int) < (n : Int) := by omega
  by_cases hk : zk = 4
  · rw [if_pos hk] at h3
    have C3 := Lib.hid (fun w1 (hw : Wk W b (.slice (some ⟨G, 0, none⟩) n cap) fi ns ((w.heap.size, .cells #[.int .i64 zk, .int .i64 za, .int .i64 zb, .int .i64 zc, .int .i64 zx, .int .i64 zi, .string zs, .string zt] 166 (0, 0)) :: L) S2 w1) => useO_any hw zs j h3)
    subst hk
    clear ih hR h hz h1 h2 h3 hi hj e
    go_enter Tryz.func204, Tryz.ntmps204
    go_wp2_with (first
     | (go_at_call 204; (with_reducible refine (C1.out _ H0.out).mono ?_); rintro e' w2 ⟨rfl, h2⟩; have H2 := Lib.hid h2; clear h2; have KX := Lib.hid (H2.out.locAt List.mem_cons_self); have x2 := KX.out.cell 2 _ rfl; have lx := KX.out.lt)
     | (go_at_call 204; (with_reducible refine (C2.out _ H2.out).mono ?_); rintro e' w3 ⟨rfl, h3⟩; have H3 := Lib.hid h3; clear h3; have KX3 := Lib.hid (H3.out.locAt List.mem_cons_self); have x30 := KX3.out.cell 0 _ rfl; have x36 := KX3.out.cell 6 _ rfl; have lx3 := KX3.out.lt)
     | (go_at_call 205; (with_reducible refine (C3.out _ H3.out).mono ?_); rintro e' w4 ⟨rfl, h4⟩; have H4 := Lib.hid h4; clear h4))
    (first | go_end0 | refine bodyPost_ret (results_none rfl _ _ _) rfl ?_)
    exact ⟨rfl, H4.out.locOut⟩
  · rw [if_neg hk] at h3
    cases h3
    have hk2 : (zk == 4) = false := by simpa using hk
    clear ih hR h hz h1 h2 hi hj e hk
    go_enter Tryz.func204, Tryz.ntmps204
    go_wp2_with (first
     | (go_at_call 204; (with_reducible refine (C1.out _ H0.out).mono ?_); rintro e' w2 ⟨rfl, h2⟩; have H2 := Lib.hid h2; clear h2; have KX := Lib.hid (H2.out.locAt List.mem_cons_self); have x2 := KX.out.cell 2 _ rfl; have lx := KX.out.lt)
     | (go_at_call 204; (with_reducible refine (C2.out _ H2.out).mono ?_); rintro e' w3 ⟨rfl, h3⟩; have H3 := Lib.hid h3; clear h3; have KX3 := Lib.hid (H3.out.locAt List.mem_cons_self); have x30 := KX3.out.cell 0 _ rfl; have lx3 := KX3.out.lt))
    (first | go_end0 | refine bodyPost_ret (results_none rfl _ _ _) rfl ?_)
    exact ⟨rfl, H3.out.locOut⟩
end Go.Proofs.YtpnabjopfpdkhaaGreatDoor
