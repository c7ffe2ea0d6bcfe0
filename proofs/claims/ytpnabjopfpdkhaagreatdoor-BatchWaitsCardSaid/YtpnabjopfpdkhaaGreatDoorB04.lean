/- Lemmas for the claim (texts Grow2, Key1, Key2, Lf1, Lf2, Lf3, Lf4, Lf5, Lf6, Lf7, Lf8, Lf9, LfA, Tr1, Sm1, La0, what its proof uses of them). -/
import Derived.Test.YtpnabjopfpdkhaaGreatDoorB02
import Derived.LoopTactic
import Derived.Lib.LaidTab
import Derived.Deep.QuietTactic
import Derived.BigQuiet
set_option linter.unusedSimpArgs false
set_option linter.unusedVariables false
namespace Go.Proofs.YtpnabjopfpdkhaaGreatDoor
open Go.RowKit
section
variable {P : Program} {ops : Array Oper}
/-- a slice over a new block: a hole of which this is known -/
def NewSl (w0 : World) (o : Obj) (n c : Nat) : Fact := fun v W => ∃ g, v = .slice (some ⟨g, 0, none⟩) n c ∧ w0.heap.size ≤ g ∧ W.heap[g]? = some o
theorem NewSl.upc (w0 : World) (o : Obj) (n c : Nat) : Upc (NewSl w0 o n c) := by
 rintro v W W' ⟨d, os, rfl⟩ ⟨g, hv, hg, hh⟩
 have hlt : g < W.heap.size := by
  rcases Nat.lt_or_ge g W.heap.size with h | h
  · exact h
  · rw [Array.getElem?_eq_none h] at hh; cases hh
 exact ⟨g, hv, hg, by rw [more_heap _ _ _ _ hlt]; exact hh⟩
theorem NewSl.of_alloc (w0 : World) (d : Nat) (os : Array Obj) (o : Obj) (n c m : Nat) (hm : m = (more w0 d os).heap.size) : NewSl w0 o n c (.slice (some ⟨m, 0, none⟩) n c) ((more w0 d os).alloc o) := by
 subst hm
 exact ⟨_, rfl, by simp [more_size], heap_alloc_new _ _⟩
theorem Lex.sliceLit {w0 : World} {fin : Act → List (Tmp × Fact) → Prop} {o : Oper} {fl : List Bool} {rest : List Oper} {a : Act} {H : List (Tmp × Fact)} (t : Tmp) (ob : Obj) (n c : Nat) (ht : o.dst = some t) (hl : looks ops o H = [])
  (h : ∀ d os, StepG P ops o a (more w0 d os) (NewSl w0 ob n c)) (k : Lex P ops w0 fin fl rest a ((t, NewSl w0 ob n c) :: H)) : Lex P ops w0 fin (false :: fl) (o :: rest) a H :=
 Lex.gap t _ ht (NewSl.upc w0 ob n c) hl h k
/-- the world written out about that block -/
theorem NewSl.split {w0 : World} {o : Obj} {n c : Nat} {v : Value} {W : World} (h : NewSl w0 o n c v W) (hx : Ext w0 W) :
  ∃ d1 os1 d2 os2, W = more ((more w0 d1 os1).alloc o) d2 os2 ∧ v = .slice (some ⟨w0.heap.size + os1.size, 0, none⟩) n c := by
 obtain ⟨g, rfl, hg, hh⟩ := h
 obtain ⟨d1, os1, d2, os2, hw, hv⟩ := NewBlk.split (w0 := w0) (o := o) (v := .pointer (some ⟨g, 0, none⟩)) ⟨g, rfl, hg, hh⟩ hx
 simp only [Value.pointer.injEq, Option.some.injEq, Addr.mk.injEq, and_true] at hv
 exact ⟨d1, os1, d2, os2, hw, by rw [hv]⟩
end
end Go.Proofs.YtpnabjopfpdkhaaGreatDoor

set_option maxRecDepth 20000
namespace Go.Proofs.YtpnabjopfpdkhaaGreatDoor
open Go.RowKit
attribute [go_sem] more_more Array.size_append
/-- the key's table of signs lies where it was laid -/
def SignsAt (B : Nat) (w : World) : Prop := 0 < B ∧ w.cell? ⟨0, 0, none⟩ = some (.int .u64 288195191779622912) ∧ w.cell? ⟨0, 1, none⟩ = some (.int .u64 576460745860972544)
theorem SignsAt.below {B B' : Nat} {w w' : World} (h : SignsAt B w) (hb : Below B' w w') (hB : B ≤ B') : SignsAt B w' :=
 ⟨h.1, (hb.cell (p := ⟨0, 0, none⟩) (Nat.lt_of_lt_of_le h.1 hB)).trans h.2.1, (hb.cell (p := ⟨0, 1, none⟩) (Nat.lt_of_lt_of_le h.1 hB)).trans h.2.2⟩
theorem SignsAt.ext {B : Nat} {w w' : World} (h : SignsAt B w) (hx : Ext w w') (hB : B ≤ w.heap.size) : SignsAt B w' := h.below hx.below hB
theorem sign_tab : ∀ n : Fin 128, (bits BinOp.and IntKind.u64 ((if n.val < 64 then (288195191779622912 : Int) else 576460745860972544) / 2 ^ (n.val % 64)) 1 == 1) = signB (UInt8.ofNat n.val) := by decide +kernel
theorem and63_fin : ∀ n : Fin 256, bits BinOp.and IntKind.u8 (n.val : Int) 63 = ((n.val % 64 : Nat) : Int) := by decide +kernel
theorem sign_hi : ∀ n : Fin 256, 128 ≤ n.val → signB (UInt8.ofNat n.val) = false := by decide +kernel
set_option maxHeartbeats 4000000 in
set_option maxRecDepth 20000 in
theorem ksign_any (c : UInt8) (B : Nat) (w : World) (h : SignsAt B w) : Calls Tryz.prog 108 #[.int .u8 (c.toNat : Int)] w fun e w' => e = .returned (.bool (signB c)) ∧ Ext w w' := by
 obtain ⟨_, h0, h1⟩ := h
 have hc0 : (0 : Int) ≤ (c.toNat : Int) := by omega
 have hc1 : (c.toNat : Int) < 256 := by have := c.toNat_lt; omega
 have ha := and63_fin ⟨c.toNat, c.toNat_lt⟩
 have e8 : UInt8.ofNat c.toNat = c := by simp
 by_cases h128 : c.toNat < 128
 · have h128' : (c.toNat : Int) < 128 := by omega
   have hs := sign_tab ⟨c.toNat, h128⟩
   simp only [e8] at hs ha
   by_cases h64 : c.toNat < 64
   · have i0 : (c.toNat : Int) / 64 = 0 := by omega
     simp only [h64, if_true] at hs
     go_enter Tryz.func108, Tryz.ntmps108
     go_wp2_with fail
     go_ret
     exact ⟨rfl, Ext.refl _⟩
   · have i0 : (c.toNat : Int) / 64 = 1 := by omega
     simp only [h64, if_false] at hs
     go_enter Tryz.func108, Tryz.ntmps108
     go_wp2_with fail
     go_ret
     exact ⟨rfl, Ext.refl _⟩
 · have h128' : ¬ (c.toNat : Int) < 128 := by omega
   have hs := sign_hi ⟨c.toNat, c.toNat_lt⟩ (by simpa using h128)
   simp only [e8] at hs
   go_enter Tryz.func108, Tryz.ntmps108
   go_wp2_with fail
   go_ret
   exact ⟨rfl, Ext.refl _⟩
theorem all_snoc (l : List UInt8) (k : Nat) (h : k < l.length) (p : UInt8 → Bool) (h1 : (l.take k).all p = true) (h2 : p l[k] = true) : (l.take (k + 1)).all p = true := by
 rw [List.take_succ_eq_append_getElem h, List.all_append, h1]
 simp [h2]
theorem all_no (l : List UInt8) (k : Nat) (h : k < l.length) (p : UInt8 → Bool) (h2 : p l[k] = false) : l.all p = false := by
 rw [Bool.eq_false_iff]
 intro q
 have := List.all_eq_true.1 q _ (List.getElem_mem h)
 rw [h2] at this; cases this
theorem ba_len (s : ByteArray) : s.data.toList.length = s.size := by simp
theorem patB_yes {s : ByteArray} (h1 : s.size ≤ 24) (h2 : s.data.toList.all signB = true) : patB s = true := by unfold patB; simp [h1, h2]
theorem patB_long {s : ByteArray} (h1 : ¬ s.size ≤ 24) : patB s = false := by unfold patB; rw [decide_eq_false h1]; rfl
theorem patB_no {s : ByteArray} (h : s.data.toList.all signB = false) : patB s = false := by unfold patB; rw [h, Bool.and_false]
set_option maxHeartbeats 2000000 in
theorem formed_any (s : ByteArray) (hs : s.size ≤ maxLen) (B : Nat) (w : World) (h : SignsAt B w) (hB : B ≤ w.heap.size) : Calls Tryz.prog 95 #[.string s] w fun e w' => e = .returned (.bool (patB s)) ∧ Ext w w' := by
 unfold maxLen at hs
 have HS := Lib.hid h
 clear h
 by_cases h24 : s.size ≤ 24
 · have h24' : (s.size : Int) ≤ 24 := by omega
   go_enter Tryz.func95, Tryz.ntmps95
   go_wp2_with fail
   go_loopw [9] (fun i wr => ∃ k : Nat, i = .int .i64 (k : Int) ∧ k ≤ s.size ∧ (s.data.toList.take k).all signB = true ∧ Ext w wr) (fun i _ => s.size - (intOf i).toNat)
   case atStart => exact ⟨0, rfl, Nat.zero_le _, rfl, Ext.refl _⟩
   case round =>
    obtain ⟨k, rfl, hk, hall, d, os, rfl⟩ := hrel
    have HA := Lib.hid hall
    clear hall
    by_cases hlt : k < s.size
    · cases hsg : signB s[k] with
      | true =>
       have HG := Lib.hid hsg
       clear hsg
       go_wp2_with (go_at_call 108; refine (ksign_any _ B _ (HS.out.ext ((Ext.refl _).more _ _) hB)).mono ?_; rw [HG.out]; rintro e _ ⟨rfl, d2, os2, rfl⟩)
       go_roundw
       case rel => exact ⟨k + 1, by go_num, by omega, all_snoc _ k (by simpa using hlt) _ HA.out HG.out, zab⟩
       case measure => simp [intOf]; omega
      | false =>
       have HG := Lib.hid hsg
       clear hsg
       go_wp2_with (go_at_call 108; refine (ksign_any _ B _ (HS.out.ext ((Ext.refl _).more _ _) hB)).mono ?_; rw [HG.out]; rintro e _ ⟨rfl, d2, os2, rfl⟩)
       go_ret
       rw [patB_no (all_no _ k (by simpa using hlt) _ HG.out)]
       exact ⟨rfl, zab⟩
    · go_wp2_with fail
      go_ret
      rw [patB_yes h24 (by rw [List.take_of_length_le (by rw [ba_len]; omega)] at HA; exact HA.out)]
      exact ⟨rfl, zab⟩
 · have h24' : ¬ (s.size : Int) ≤ 24 := by omega
   go_enter Tryz.func95, Tryz.ntmps95
   go_wp2_with fail
   go_ret
   rw [patB_long h24]
   exact ⟨rfl, Ext.refl _⟩
end Go.Proofs.YtpnabjopfpdkhaaGreatDoor

set_option maxRecDepth 20000
namespace Go.Proofs.YtpnabjopfpdkhaaGreatDoor
open Go.RowKit
attribute [go_sem] more_more Array.size_append
end Go.Proofs.YtpnabjopfpdkhaaGreatDoor

set_option maxRecDepth 20000
namespace Go.Proofs.YtpnabjopfpdkhaaGreatDoor
open Go.RowKit
attribute [go_sem] more_more Array.size_append
theorem ltP1Y {a n x : Nat} (h : a < n) : (a < n + x) = True := by simp; omega
theorem ltP2Y {a n x y : Nat} (h : a < n) : (a < n + x + y) = True := by simp; omega
theorem ltP3Y {a n x y z : Nat} (h : a < n) : (a < n + x + y + z) = True := by simp; omega
theorem ltP4Y {a n x y z u : Nat} (h : a < n) : (a < n + x + y + z + u) = True := by simp; omega
theorem ltP5Y {a n x y z u v : Nat} (h : a < n) : (a < n + x + y + z + u + v) = True := by simp; omega
attribute [go_sem] ltP1Y ltP2Y ltP3Y ltP4Y ltP5Y
/-- an item as a value -/
def itV (x : It) : Value := .agg #[.string x.k, .int .i64 x.vk, .int .i64 x.vi, .string x.vs, .int .i64 x.ver]
def In64I (n : Int) : Prop := -9223372036854775808 ≤ n ∧ n ≤ 9223372036854775807
structure ItOk (x : It) : Prop where
 k : x.k.size ≤ 255
 vs : x.vs.size ≤ 255
 vk : In64I x.vk
 vi : In64I x.vi
 ver : In64I x.ver
/-- items' cells lie at an address -/
def ItsAt (w : World) (b off : Nat) (l : List It) : Prop := ∀ j x, l[j]? = some x →
 w.cell? ⟨b, off + j * 5, none⟩ = some (.string x.k) ∧ w.cell? ⟨b, off + j * 5 + 1, none⟩ = some (.int .i64 x.vk) ∧ w.cell? ⟨b, off + j * 5 + 2, none⟩ = some (.int .i64 x.vi) ∧
 w.cell? ⟨b, off + j * 5 + 3, none⟩ = some (.string x.vs) ∧ w.cell? ⟨b, off + j * 5 + 4, none⟩ = some (.int .i64 x.ver)
theorem ItsAt.of_block {w w' : World} {b off : Nat} {l : List It} (h : ItsAt w b off l) (e : w'.heap[b]? = w.heap[b]?) : ItsAt w' b off l := by
 intro j x hj
 obtain ⟨h1, h2, h3, h4, h5⟩ := h j x hj
 exact ⟨(World.cell?_of_block e).trans h1, (World.cell?_of_block e).trans h2, (World.cell?_of_block e).trans h3, (World.cell?_of_block e).trans h4, (World.cell?_of_block e).trans h5⟩
theorem ItsAt.lt {w : World} {b off : Nat} {l : List It} (h : ItsAt w b off l) (hl : 0 < l.length) : b < w.heap.size :=
 World.block_lt_of_cell? w _ (h 0 l[0] (List.getElem?_eq_getElem hl)).1
theorem ItsAt.ext {w w' : World} {b off : Nat} {l : List It} (h : ItsAt w b off l) (hx : Ext w w') : ItsAt w' b off l := by
 by_cases hl : 0 < l.length
 · exact h.of_block (hx.below.block b (h.lt hl))
 · intro j x hj
   have := (List.getElem?_eq_some_iff.1 hj).1
   omega
/-- a leaf's slice: it reads as the items -/
def LfAt (w : World) (b : Nat) (v : Value) (l : List It) : Prop :=
 (∀ x ∈ l, ItOk x) ∧ ∃ p cap, v = .slice p l.length cap ∧ l.length ≤ cap ∧ (0 < l.length → ∃ off, p = some ⟨b, off, none⟩ ∧ ItsAt w b off l)
theorem LfAt.ext {w w' : World} {b : Nat} {v : Value} {l : List It} (h : LfAt w b v l) (hx : Ext w w') : LfAt w' b v l := by
 obtain ⟨h0, p, cap, h1, h2, h3⟩ := h
 exact ⟨h0, p, cap, h1, h2, fun hl => by obtain ⟨off, e, hi⟩ := h3 hl; exact ⟨off, e, hi.ext hx⟩⟩
theorem LfAt.of_block {w w' : World} {b : Nat} {v : Value} {l : List It} (h : LfAt w b v l) (e : 0 < l.length → w'.heap[b]? = w.heap[b]?) : LfAt w' b v l := by
 obtain ⟨h0, p, cap, h1, h2, h3⟩ := h
 exact ⟨h0, p, cap, h1, h2, fun hl => by obtain ⟨off, e', hi⟩ := h3 hl; exact ⟨off, e', hi.of_block (e hl)⟩⟩
theorem LfAt.nil (w : World) (b : Nat) : LfAt w b (.slice none 0 0) [] := ⟨by simp, none, 0, rfl, Nat.le_refl _, by simp⟩
end Go.Proofs.YtpnabjopfpdkhaaGreatDoor

set_option maxRecDepth 20000
namespace Go.Proofs.YtpnabjopfpdkhaaGreatDoor
open Go.RowKit
attribute [go_sem] more_more Array.size_append
theorem get_at {l : List It} {k n : Nat} (hn : l.length = n) (h : k < n) : ∃ x, l[k]? = some x := ⟨_, List.getElem?_eq_getElem zae⟩
end Go.Proofs.YtpnabjopfpdkhaaGreatDoor

set_option maxRecDepth 20000
namespace Go.Proofs.YtpnabjopfpdkhaaGreatDoor
open Go.RowKit
attribute [go_sem] more_more Array.size_append
theorem encB_len (k i : Int) (s : ByteArray) (h : mayBY k i s = true) (h0 : -9223372036854775808 ≤ i) (h1 : i ≤ 9223372036854775807) : (encB k i s).length ≤ 80 := by
 unfold encB
 have z := zigZ_bd i h0 h1
 have q1 := qaI 9 (zigZ i).toNat zae
 rcases may_cases h with ⟨rfl, rfl, _⟩ | ⟨rfl, a, b, _⟩ | ⟨rfl, _⟩ | ⟨rfl, rfl, a⟩
 · simp
 · simp
 · simp; omega
 · have q2 := qaI 1 s.size zae
   simp; omega
end Go.Proofs.YtpnabjopfpdkhaaGreatDoor

set_option maxRecDepth 20000
namespace Go.Proofs.YtpnabjopfpdkhaaGreatDoor
open Go.RowKit
attribute [go_sem] more_more Array.size_append
theorem qaE {w : World} {b : Nat} {o : Obj} (h : w.heap[b]? = some o) : b < w.heap.size := (Array.getElem?_eq_some_iff.1 h).1
end Go.Proofs.YtpnabjopfpdkhaaGreatDoor

set_option maxRecDepth 20000
namespace Go.Proofs.YtpnabjopfpdkhaaGreatDoor
open Go.RowKit
attribute [go_sem] more_more Array.size_append
end Go.Proofs.YtpnabjopfpdkhaaGreatDoor

set_option maxRecDepth 20000
namespace Go.Proofs.YtpnabjopfpdkhaaGreatDoor
open Go.RowKit
attribute [go_sem] more_more Array.size_append
end Go.Proofs.YtpnabjopfpdkhaaGreatDoor

set_option maxRecDepth 20000
namespace Go.Proofs.YtpnabjopfpdkhaaGreatDoor
open Go.RowKit
attribute [go_sem] more_more Array.size_append
theorem itInfo : (Tryz.prog.info? 154).map (fun i => (i.zero, i.size, i.bytes)) = some (some (.agg #[.string ⟨#[]⟩, .int .i64 0, .int .i64 0, .string ⟨#[]⟩, .int .i64 0]), 5, 56) := by kernel_rfl
theorem qbx : ∀ (l : List It) (x : It), qaq (l ++ [x]) = qaq l ++ itL x
 | [], x => by simp [qaq]
 | y :: l, x => by simp [qaq, qbx l x]
theorem qdf : ∀ (l : List It) (j : Nat) (x : It), l[j]? = some x → (qaq l)[j * 5 + 0]? = some (.string x.k) ∧ (qaq l)[j * 5 + 1]? = some (.int .i64 x.vk) ∧ (qaq l)[j * 5 + 2]? = some (.int .i64 x.vi) ∧ (qaq l)[j * 5 + 3]? = some (.string x.vs) ∧ (qaq l)[j * 5 + 4]? = some (.int .i64 x.ver)
 | [], j, x, h => by simp at h
 | y :: l, 0, x, h => by
  simp at h; subst h
  exact ⟨rfl, rfl, rfl, rfl, rfl⟩
 | y :: l, j + 1, x, h => by
  have := qdf l j x (by simpa using h)
  have e : ∀ r, (qaq (y :: l))[(j + 1) * 5 + r]? = (qaq l)[j * 5 + r]? := by
   intro r
   have h1 : qaq (y :: l) = itL y ++ qaq l := rfl
   rw [h1, List.getElem?_append_right (by simp [itL]; omega)]
   congr 1
   simp [itL]; omega
  simp only [e]
  exact this
end Go.Proofs.YtpnabjopfpdkhaaGreatDoor

set_option maxRecDepth 20000
namespace Go.Proofs.YtpnabjopfpdkhaaGreatDoor
open Go.RowKit
attribute [go_sem] more_more Array.size_append
theorem news_it {w : World} {N : Nat} {xs : List Value} {t : TypeId} (hN : N = w.heap.size) : ∀ j u, xs[j]? = some u → (w.alloc (.cells xs.toArray t)).cell? ((⟨N, 0, none⟩ : Addr).add j) = some u := by
 intro j u hu
 subst hN
 rw [Addr.add_lit, Nat.zero_add]
 simp only [World.cell?, heap_alloc_new]
 simpa using hu
end Go.Proofs.YtpnabjopfpdkhaaGreatDoor

set_option maxRecDepth 20000
namespace Go.Proofs.YtpnabjopfpdkhaaGreatDoor
open Go.RowKit
attribute [go_sem] more_more Array.size_append
end Go.Proofs.YtpnabjopfpdkhaaGreatDoor

set_option maxRecDepth 20000
namespace Go.Proofs.YtpnabjopfpdkhaaGreatDoor
open Go.RowKit
attribute [go_sem] more_more Array.size_append
end Go.Proofs.YtpnabjopfpdkhaaGreatDoor

set_option maxRecDepth 20000
namespace Go.Proofs.YtpnabjopfpdkhaaGreatDoor
open Go.RowKit
attribute [go_sem] more_more Array.size_append
/-- a trunk's cells -/
def trC (v : Nat → Value) (V : Nat → Int) : Array Value := #[v 0, v 1, v 2, v 3, v 4, v 5, v 6, v 7, v 8, v 9, v 10, v 11, v 12, v 13, v 14, v 15, .int .i64 (V 0), .int .i64 (V 1), .int .i64 (V 2), .int .i64 (V 3), .int .i64 (V 4), .int .i64 (V 5), .int .i64 (V 6), .int .i64 (V 7), .int .i64 (V 8), .int .i64 (V 9), .int .i64 (V 10), .int .i64 (V 11), .int .i64 (V 12), .int .i64 (V 13), .int .i64 (V 14), .int .i64 (V 15)]
theorem trC_leaf (v : Nat → Value) (V : Nat → Int) (k : Nat) (hk : k < 16) : (trC v V)[k]? = some (v k) := by
 match k, hk with
 | 0, _ => rfl
 | 1, _ => rfl
 | 2, _ => rfl
 | 3, _ => rfl
 | 4, _ => rfl
 | 5, _ => rfl
 | 6, _ => rfl
 | 7, _ => rfl
 | 8, _ => rfl
 | 9, _ => rfl
 | 10, _ => rfl
 | 11, _ => rfl
 | 12, _ => rfl
 | 13, _ => rfl
 | 14, _ => rfl
 | 15, _ => rfl
 | k + 16, h => exact absurd h zae
/-- a trunk's block -/
def TrBlk (w : World) (N : Nat) (v : Nat → Value) (V : Nat → Int) : Prop := w.heap[N]? = some (.cells (trC v V) 63 (0, 0))
theorem TrBlk.ext {w w' : World} {N : Nat} {v : Nat → Value} {V : Nat → Int} (h : TrBlk w N v V) (hx : Ext w w') : TrBlk w' N v V := by
 unfold TrBlk at h ⊢
 rw [hx.below.block N (qaE h)]; exact h
theorem TrBlk.leaf {w : World} {N : Nat} {v : Nat → Value} {V : Nat → Int} (h : TrBlk w N v V) (k : Nat) (hk : k < 16) : w.cell? ⟨N, k, none⟩ = some (v k) := by
 unfold TrBlk at h
 simp only [World.cell?, h]
 exact trC_leaf v V k hk
/-- the leaves of a trunk -/
def LvsAt (w : World) (bs : Nat → Nat) (v : Nat → Value) (T : Nat → List It) : Prop := ∀ k, k < 16 → LfAt w (bs k) (v k) (T k)
end Go.Proofs.YtpnabjopfpdkhaaGreatDoor

set_option maxRecDepth 20000
namespace Go.Proofs.YtpnabjopfpdkhaaGreatDoor
open Go.RowKit
attribute [go_sem] more_more Array.size_append
end Go.Proofs.YtpnabjopfpdkhaaGreatDoor

namespace Go.Proofs.YtpnabjopfpdkhaaGreatDoor
open Go.RowKit
theorem qab {w w' : World} {a : Addr} {v : Value} (h : w.cell? a = some v) (hx : Ext w w') : w'.cell? a = some v := (World.cell?_of_block (hx.below.block a.block (World.block_lt_of_cell? _ _ h))).trans h
/-- things of n cells that lie in a row -/
def RowIn {α : Type} (w : World) (enc : α → List Value) (n : Nat) (v : Value) (l : List α) : Prop :=
 ∃ p cap, v = .slice p l.length cap ∧ l.length ≤ cap ∧ cap ≤ maxLen ∧ ∀ (j : Nat) x, l[j]? = some x → ∃ b off, p = some ⟨b, off, none⟩ ∧ ∀ (i : Nat) u, (enc x)[i]? = some u → w.cell? ⟨b, off + j * n + i, none⟩ = some u
theorem RowIn.ext {α : Type} {w w' : World} {enc : α → List Value} {n : Nat} {v : Value} {l : List α} (h : RowIn w enc n v l) (hx : Ext w w') : RowIn w' enc n v l := by
 obtain ⟨p, cap, h2, h3, h4, h5⟩ := h
 refine ⟨p, cap, h2, h3, h4, fun j x hj => ?_⟩
 obtain ⟨b, off, e, hc⟩ := h5 j x hj
 exact ⟨b, off, e, fun i u hi => qab (hc i u hi) hx⟩
theorem flat_at {α : Type} {enc : α → List Value} {n : Nat} (hn : ∀ a, (enc a).length = n) : ∀ (l : List α) (j i : Nat) (x : α) (u : Value), l[j]? = some x → (enc x)[i]? = some u → (l.flatMap enc)[j * n + i]? = some u
 | [], _, _, _, _, h, _ => by simp at h
 | y :: l, 0, i, x, u, h, hi => by
  simp at h; subst h
  rw [List.flatMap_cons, Nat.zero_mul, Nat.zero_add, List.getElem?_append_left (List.getElem?_eq_some_iff.1 hi).1]; exact hi
 | y :: l, j + 1, i, x, u, h, hi => by
  rw [List.flatMap_cons, List.getElem?_append_right (by rw [hn, Nat.add_mul]; omega), hn]
  have := flat_at hn l j i x u (by simpa using h) hi
  rw [show (j + 1) * n + i - n = j * n + i from by rw [Nat.add_mul]; omega]
  exact this
theorem flat_inv {α : Type} {enc : α → List Value} {n : Nat} (hn : ∀ a, (enc a).length = n) : ∀ (l : List α) (q : Nat) (u : Value), (l.flatMap enc)[q]? = some u → ∃ j i x, q = j * n + i ∧ i < n ∧ l[j]? = some x ∧ (enc x)[i]? = some u
 | [], _, _, h => by simp at h
 | y :: l, q, u, h => by
  rw [List.flatMap_cons] at h
  by_cases hq : q < n
  · rw [List.getElem?_append_left (by rw [hn]; exact hq)] at h
    exact ⟨0, q, y, by simp, hq, rfl, h⟩
  · rw [List.getElem?_append_right (by rw [hn]; omega), hn] at h
    obtain ⟨j, i, x, h1, h2, h3, h4⟩ := flat_inv hn l (q - n) u h
    exact ⟨j + 1, i, x, by rw [Nat.add_mul]; omega, h2, by simpa using h3, h4⟩
theorem qdZ {α : Type} {enc : α → List Value} {n : Nat} (hn : ∀ a, (enc a).length = n) : ∀ l : List α, (l.flatMap enc).length = l.length * n
 | [] => by simp
 | y :: l => by rw [List.flatMap_cons, List.length_append, hn, qdZ hn l, List.length_cons, Nat.add_mul]; omega
/-- a row of one's own is a row -/
theorem RowIn.own {α : Type} {w : World} {B : Nat} {T : TypeId} {enc : α → List Value} {n : Nat} (hn : ∀ a, (enc a).length = n) {v : Value} {l : List α} (h : w.ownsRow B T n v l.length (l.flatMap enc)) : RowIn w enc n v l := by
 rcases h.2 with ⟨rfl, h0⟩ | ⟨g, cap, cur, rfl, hb, hg, h1, h2, h3, h4⟩
 · refine ⟨none, 0, by rw [h0], by omega, by decide, fun j x hj => ?_⟩
   have := (List.getElem?_eq_some_iff.1 hj).1
   omega
 · refine ⟨some ⟨g, 0, none⟩, cap, rfl, h1, h2, fun j x hj => ⟨g, 0, rfl, fun i u hi => ?_⟩⟩
   have hf := flat_at hn l j i x u hj hi
   rw [Nat.zero_add]
   rw [← h4, List.getElem?_take] at hf
   split at hf
   · simpa [World.cell?, hg] using hf
   · cases hf
/-- a client's last transaction, and what it came to -/
structure La where
 c : Int
 t : Int
 code : Int
 vk : Int
 vi : Int
 vs : ByteArray
 ver : Int
def laL (x : La) : List Value := [.int .i64 x.c, .int .i64 x.t, .int .i64 x.code, .int .i64 x.vk, .int .i64 x.vi, .string x.vs, .int .i64 x.ver]
def laC (l : List La) : List Value := l.flatMap laL
def resB (code vk vi : Int) (vs : ByteArray) (ver : Int) : Bool := decide (0 ≤ code) && decide (code ≤ 23) && mayBY vk vi vs && decide (0 ≤ ver) && decide (ver ≤ 2147483647)
def qaT (c t : Int) : Bool := decide (0 ≤ c) && decide (c ≤ 255) && decide (1 ≤ t) && decide (t ≤ 2147483647)
def laB (x : La) : Bool := qaT x.c x.t && resB x.code x.vk x.vi x.vs x.ver
/-- what is wrong with a table, and where -/
def chkL : Option La → Nat → List La → Int × Int
 | _, _, [] => (0, 0)
 | none, i, x :: l => if laB x = false then (1, (i : Int)) else chkL (some x) (i + 1) l
 | some y, i, x :: l => if laB x = false then (1, (i : Int)) else if x.c ≤ y.c then (3, (i : Int)) else chkL (some x) (i + 1) l
def isL (l : List La) : Bool := (chkL none 0 l).1 == 0
/-- a client's time in a table -/
def timeL (l : List La) (c : Int) : Option Int := (l.find? (fun x => x.c == c)).map (·.t)
/-- the error's number of what a transaction came to -/
def askE (l : List La) (c t : Int) : Int :=
 if isL l = false ∨ qaT c t = false then 1 else match timeL l c with
 | none => 6
 | some u => if u < t then 6 else if t < u then 18 else 0
/-- a table in which is noted what a transaction came to -/
def noteL (l : List La) (x : La) : List La := l.filter (fun y => decide (y.c < x.c)) ++ [x] ++ l.filter (fun y => decide (x.c < y.c))
theorem qdQ : ∀ (l : List La) (p : Option La) (i : Nat), (chkL p i l).1 = 0 ↔ ((∀ x ∈ l, laB x = true) ∧ (∀ y, p = some y → ∀ x ∈ l, y.c < x.c) ∧ l.Pairwise (fun a b => a.c < b.c))
 | [], p, i => by simp [chkL]
 | x :: l, none, i => by
  unfold chkL
  cases h : laB x
  · simp [h]
  · rw [if_neg zal, qdQ l (some x) (i + 1)]
    simp [h]
 | x :: l, some y, i => by
  unfold chkL
  cases h : laB x
  · simp [h]
  · rw [if_neg zal]
    by_cases hc : x.c ≤ y.c
    · rw [if_pos hc]
      refine ⟨fun e => absurd (show (3 : Int) = 0 from e) zaj, fun ⟨_, h2, _⟩ => ?_⟩
      have := h2 y rfl x List.mem_cons_self
      omega
    · rw [if_neg hc, qdQ l (some x) (i + 1)]
      simp only [List.mem_cons, forall_eq_or_imp, Option.some.injEq, forall_eq', List.pairwise_cons, h, true_and]
      constructor
      · rintro ⟨a, b, c⟩
        exact ⟨a, ⟨by omega, fun z hz => by have := b z hz; omega⟩, b, c⟩
      · rintro ⟨a, ⟨b, c⟩, d, e⟩
        exact ⟨a, d, e⟩
theorem qdI (l : List La) : isL l = true ↔ (∀ x ∈ l, laB x = true) ∧ l.Pairwise (fun a b => a.c < b.c) := by
 unfold isL
 rw [beq_iff_eq, qdQ]
 simp
theorem noteL_is {d : List La} {x : La} (h : isL d = true) (hx : laB x = true) : isL (noteL d x) = true := by
 obtain ⟨h1, h2⟩ := (qdI d).1 h
 refine (qdI _).2 ⟨?_, ?_⟩
 · intro y hy
   simp only [noteL, List.mem_append, List.mem_filter, List.mem_singleton] at hy
   rcases hy with (⟨hy, -⟩ | rfl) | ⟨hy, -⟩
   · exact h1 y hy
   · exact hx
   · exact h1 y hy
 · unfold noteL
   rw [List.pairwise_append, List.pairwise_append]
   refine ⟨⟨h2.filter _, by simp, ?_⟩, h2.filter _, ?_⟩
   · intro a ha b hb
     simp at ha hb
     subst hb
     exact ha.2
   · intro a ha b hb
     simp at ha hb
     rcases ha with ⟨-, ha⟩ | rfl
     · omega
     · exact hb.2
theorem noteL_time (d : List La) (x : La) : timeL (noteL d x) x.c = some x.t := by
 unfold timeL noteL
 rw [List.append_assoc, List.find?_append, List.find?_eq_none.2 (fun y hy => by
  simp only [List.mem_filter, decide_eq_true_eq] at hy
  simp only [beq_iff_eq]
  omega)]
 simp
theorem askE_could {d : List La} {c t : Int} (h : askE d c t ≠ 1) : isL d = true ∧ qaT c t = true := by
 unfold askE at h
 split at h
 · exact absurd rfl h
 · rename_i h0
   simpa [not_or] using h0
end Go.Proofs.YtpnabjopfpdkhaaGreatDoor
