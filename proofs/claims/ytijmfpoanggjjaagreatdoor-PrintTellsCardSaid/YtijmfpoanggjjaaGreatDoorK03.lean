/- Lemmas for the claim (texts ParP, Par1, NdC, May3, NdA, Par2, Par3, Par4, Par5, ParF, Par6, Par7, RarQ, Par8, what its proof uses of them). -/
import Derived.Test.YtijmfpoanggjjaaGreatDoorK02
import Derived.Outline
import Derived.Deep.OwnRows
import Derived.Lib.SmallJoins
import Derived.OpenShut
import Derived.Deep.Slices
import Derived.Deep.Fields
import Derived.LoopTactic
import Derived.Deep.LoopGhost
import Derived.Laws.EntriesVeiled
import Derived.Defers
import Derived.Recover
import Derived.RegionTactic
import Derived.ChangeAlike
set_option linter.unusedSimpArgs false
set_option linter.unusedVariables false
namespace Go.Proofs.YtijmfpoanggjjaaGreatDoor
open Go.RowKit
/-- a node -/
structure Nd where
 k : Int
 a : Int
 b : Int
 c : Int
 x : Int
 i : Int
 s : ByteArray
 t : ByteArray
def nd (k : Int) : Nd := ⟨k, -1, -1, -1, -1, 0, ⟨#[]⟩, ⟨#[]⟩⟩
def ndL (z : Nd) : List Value := [.int .i64 z.k, .int .i64 z.a, .int .i64 z.b, .int .i64 z.c, .int .i64 z.x, .int .i64 z.i, .string z.s, .string z.t]
def qac (l : List Nd) : List Value := l.flatMap ndL
theorem qaE (l m : List Nd) : qac (l ++ m) = qac l ++ qac m := by simp [qac]
/-- tokens with their places -/
abbrev Toks := List (Tok × Int)
def tkL (t : Tok × Int) : List Value := [.int .i64 t.1.k, .int .i64 t.2, .string t.1.s, .int .i64 t.1.i]
def qbs (l : Toks) : List Value := l.flatMap tkL
def tk (L : Toks) (m : Nat) : Tok × Int := L.getD m (tok0, 0)
theorem qdx : ∀ (l : Toks) (j : Nat), j < l.length →
  (qbs l)[j * 4]? = some (.int .i64 (tk l j).1.k) ∧ (qbs l)[j * 4 + 1]? = some (.int .i64 (tk l j).2) ∧ (qbs l)[j * 4 + 2]? = some (.string (tk l j).1.s) ∧ (qbs l)[j * 4 + 3]? = some (.int .i64 (tk l j).1.i)
 | [], j, h => by simp at h
 | t :: l, 0, _ => ⟨rfl, rfl, rfl, rfl⟩
 | t :: l, j + 1, h => by
  have := qdx l j (by simpa using h)
  have e : ∀ r, (qbs (t :: l))[(j + 1) * 4 + r]? = (qbs l)[j * 4 + r]? := by
   intro r
   have h1 : qbs (t :: l) = tkL t ++ qbs l := rfl
   rw [h1, List.getElem?_append_right (by simp [tkL]; omega)]
   congr 1
   simp [tkL]; omega
  have e2 : tk (t :: l) (j + 1) = tk l j := rfl
  rw [e2, e 1, e 2, e 3, ← Nat.add_zero ((j + 1) * 4), e 0]
  simpa using this
/-- what a way through tokens comes to: the error and its place, or a value, how far is read, and the nodes that are new -/
abbrev PR (α : Type) := Except (Int × Int) (α × Nat × List Nd)
/-- a way through tokens: from a place on, behind so many nodes -/
abbrev PM (α : Type) := Nat → Nat → PR α
def prep {α : Type} (ns : List Nd) : PR α → PR α
 | .error e => .error e
 | .ok (v, m, ns') => .ok (v, m, ns ++ ns')
def pok {α : Type} (v : α) : PM α := fun m _ => .ok (v, m, [])
def pbind {α β : Type} (p : PM α) (f : α → PM β) : PM β := fun m n => match p m n with
 | .error e => .error e
 | .ok (v, m1, ns) => prep ns (f v m1 (n + ns.length))
theorem qaH {α β : Type} {p : PM α} {f : α → PM β} {m n : Nat} {e : Int × Int} (h : p m n = .error e) : pbind p f m n = .error e := by
 unfold pbind; rw [h]
theorem qaG {α β : Type} {p : PM α} {f : α → PM β} {m n : Nat} {v : α} {m1 : Nat} {ns : List Nd} (h : p m n = .ok (v, m1, ns)) : pbind p f m n = prep ns (f v m1 (n + ns.length)) := by
 unfold pbind; rw [h]
theorem qbm {α : Type} (r : PR α) : prep [] r = r := by
 cases r with
 | error e => rfl
 | ok v => obtain ⟨v, m, ns⟩ := v; rfl
theorem qcX {α : Type} (a b : List Nd) (r : PR α) : prep a (prep b r) = prep (a ++ b) r := by
 cases r with
 | error e => rfl
 | ok v => obtain ⟨v, m, ns⟩ := v; simp [prep]
section
variable (L : Toks)
def pno {α : Type} (e : Int) : PM α := fun m _ => .error (e, (tk L m).2)
/-- does a sign or a word stand there? -/
def isP (s : ByteArray) (m : Nat) : Bool := (tk L m).1.k == (if wordB s = true then 5 else 4) && ((tk L m).1.s).toList == s.toList
def takesP (s : ByteArray) : PM Bool := fun m _ => if isP L s m = true then .ok (true, m + 1, []) else .ok (false, m, [])
def must1 (s : ByteArray) : PM Unit := fun m _ => if isP L s m = true then .ok ((), m + 1, []) else .error (3, (tk L m).2)
def mustP : List ByteArray → PM Unit
 | [] => pok ()
 | s :: r => pbind (must1 L s) fun _ => mustP r
def ofP (k : Int) : PM Tok := fun m _ => if (tk L m).1.k = k then .ok ((tk L m).1, m + 1, []) else .error (3, (tk L m).2)
def layP (z : Nd) : PM Int := fun m n => if n = 512 then .error (5, (tk L m).2) else .ok ((n : Int), m, [z])
def deepP (d : Nat) : PM Unit := fun m _ => if 16 < d then .error (14, (tk L m).2) else .ok ((), m, [])
def skipP : PM Unit := fun m _ => .ok ((), m + 1, [])
def qdJ : PM Int := fun m n => if (tk L m).1.k = 2 ∧ 64 < (tk L m).1.i then .error (8, (tk L m).2) else pbind (ofP L 2) (fun t => pok t.i) m n
def qbq (ss : List ByteArray) : PM (Option ByteArray) := fun m _ => match ss.find? (fun s => isP L s m) with
 | none => .ok (none, m, [])
 | some s => .ok (some s, m + 1, [])
def twoNd (a b : Int) (s : ByteArray) : Nd := { nd 11 with a := a, b := b, s := s }
/-- what binds from the left by some signs -/
def qaZ (cl : PM Int) (ss : List ByteArray) : Nat → Int → PM Int
 | 0, a => pok a
 | g + 1, a => pbind (qbq L ss) fun o => match o with
  | none => pok a
  | some s => pbind cl fun b => pbind (layP L (twoNd a b s)) fun a' => qaZ cl ss g a'
def twoP (cl : PM Int) (ss : List ByteArray) : PM Int := pbind cl fun a => qaZ L cl ss (L.length + 1) a
def qdD : List ByteArray := [⟨#[42]⟩, ⟨#[47]⟩, ⟨#[37]⟩]
def ssSum : List ByteArray := [⟨#[43]⟩, ⟨#[45]⟩]
def ssJoin : List ByteArray := [⟨#[46, 46]⟩]
def ssIs : List ByteArray := [⟨#[61, 61]⟩, ⟨#[33, 61]⟩, ⟨#[60]⟩, ⟨#[60, 61]⟩, ⟨#[62]⟩, ⟨#[62, 61]⟩]
def ssAnd : List ByteArray := [⟨#[97, 110, 100]⟩]
def ssOr : List ByteArray := [⟨#[111, 114]⟩]
def timesP (one : PM Int) : PM Int := twoP L one qdD
def sumP (one : PM Int) : PM Int := twoP L (timesP L one) ssSum
def joinP (one : PM Int) : PM Int := twoP L (sumP L one) ssJoin
def compP (one : PM Int) : PM Int := pbind (joinP L one) fun a => pbind (qbq L ssIs) fun o => match o with
  | none => pok a
  | some s => pbind (joinP L one) fun b => layP L (twoNd a b s)
def andP (one : PM Int) : PM Int := twoP L (compP L one) ssAnd
def orP (one : PM Int) : PM Int := twoP L (andP L one) ssOr
def sIs (x : ByteArray) (l : List UInt8) : Bool := x.toList == l
/-- the kind of a node that a word calls -/
def callF (s : ByteArray) : Int :=
 if sIs s [103, 101, 116] = true then 5 else if sIs s [104, 97, 115] = true then 6 else if sIs s [108, 101, 110] = true then 7 else if sIs s [115, 104, 111, 119] = true then 8 else -1
def qcP (k : Int) (d : Nat) (o1 : PM Int) : PM Int := pbind (deepP L (d + 1)) fun _ => pbind o1 fun a => layP L { nd k with a := a }
def qee (d : Nat) (e1 o1 : PM Int) : PM Int := fun m n =>
 if isP L ⟨#[45]⟩ m = true then pbind (skipP) (fun _ => qcP L 10 d o1) m n
 else if isP L ⟨#[40]⟩ m = true then pbind (skipP) (fun _ => pbind e1 fun a => pbind (mustP L [⟨#[41]⟩]) fun _ => pok a) m n
 else pno L 3 m n
def qdW (d : Nat) (e1 o1 : PM Int) : PM Int := fun m n =>
 if callF (tk L m).1.s = -1 then
  if isP L ⟨#[110, 111, 116]⟩ m = true then pbind (skipP) (fun _ => qcP L 9 d o1) m n
  else if isP L ⟨#[110, 105, 108]⟩ m = true then pbind (skipP) (fun _ => layP L (nd 0)) m n
  else if sIs (tk L m).1.s [116, 114, 117, 101] = true then pbind (skipP) (fun _ => layP L { nd 1 with i := 1 }) m n
  else if sIs (tk L m).1.s [102, 97, 108, 115, 101] = true then pbind (skipP) (fun _ => layP L (nd 1)) m n
  else pno L 3 m n
 else pbind (skipP) (fun _ => pbind (mustP L [⟨#[40]⟩]) fun _ => pbind e1 fun a => pbind (mustP L [⟨#[41]⟩]) fun _ => layP L { nd (callF (tk L m).1.s) with a := a }) m n
/-- what binds closest -/
def oneP (d : Nat) (e1 o1 : PM Int) : PM Int := fun m n =>
 if (tk L m).1.k = 2 then pbind (skipP) (fun _ => layP L { nd 2 with i := (tk L m).1.i }) m n
 else if (tk L m).1.k = 3 then pbind (skipP) (fun _ => layP L { nd 3 with s := (tk L m).1.s }) m n
 else if (tk L m).1.k = 1 then pbind (skipP) (fun _ => layP L { nd 4 with s := (tk L m).1.s }) m n
 else if (tk L m).1.k = 4 then qee L d e1 o1 m n
 else if (tk L m).1.k = 5 then qdW L d e1 o1 m n
 else pno L 3 m n
/-- an expr, and what binds closest, so many places above the deepest -/
def exprD : Nat → PM Int × PM Int
 | 0 => (pno L 14, pno L 14)
 | D + 1 => (orP L (oneP L (16 - D) (exprD D).1 (exprD D).2), oneP L (16 - D) (exprD D).1 (exprD D).2)
def exprP (D : Nat) : PM Int := (exprD L D).1
def setNext (ns : List Nd) (j : Nat) (v : Int) : List Nd := ns.modify j fun z => { z with x := v }
/-- statements, one behind the other -/
def qbo (st : PM Int) : Nat → Int → Int → List Nd → Nat → Nat → PR Int
 | 0, first, _, acc, m, _ => .ok (first, m, acc)
 | g + 1, first, last, acc, m, n => match st m (n + acc.length) with
  | .error e => .error e
  | .ok (i, m1, ns) =>
   if i = -1 then .ok (first, m1, acc ++ ns)
   else if first = -1 then qbo st g i i (acc ++ ns) m1 n
   else qbo st g first i (setNext (acc ++ ns) (last.toNat - n) i) m1 n
def qbF (bl : PM Int) : PM Int := pbind (mustP L [⟨#[123]⟩]) fun _ => pbind bl fun n => pbind (mustP L [⟨#[125]⟩]) fun _ => pok n
def qda (k : Int) (ex : PM Int) : PM Int := pbind (skipP) fun _ => pbind (ofP L 1) fun t => pbind (mustP L [⟨#[61]⟩]) fun _ => pbind ex fun a => pbind (mustP L [⟨#[59]⟩]) fun _ => layP L { nd k with s := t.s, a := a }
def putP (ex : PM Int) : PM Int := pbind (skipP) fun _ => pbind ex fun a => pbind (mustP L [⟨#[44]⟩]) fun _ => pbind ex fun b => pbind (mustP L [⟨#[59]⟩]) fun _ => layP L { nd 22 with a := a, b := b }
def qbK (k : Int) (ex : PM Int) : PM Int := pbind (skipP) fun _ => pbind ex fun a => pbind (mustP L [⟨#[59]⟩]) fun _ => layP L { nd k with a := a }
def whenP (ex br : PM Int) : PM Int := pbind (skipP) fun _ => pbind ex fun a => pbind br fun b => pbind (takesP L ⟨#[101, 108, 115, 101]⟩) fun e =>
 if e = true then pbind br fun c => layP L { nd 24 with a := a, b := b, i := 1, c := c } else layP L { nd 24 with a := a, b := b }
def eachP (ex br : PM Int) : PM Int := pbind (skipP) fun _ => pbind (ofP L 1) fun s => pbind (mustP L [⟨#[44]⟩]) fun _ => pbind (ofP L 1) fun t =>
 pbind (mustP L [⟨#[105, 110]⟩, ⟨#[115, 99, 97, 110]⟩, ⟨#[40]⟩]) fun _ => pbind ex fun a => pbind (mustP L [⟨#[44]⟩]) fun _ => pbind (qdJ L) fun i => pbind (mustP L [⟨#[41]⟩]) fun _ =>
 pbind br fun b => layP L { nd 25 with s := s.s, t := t.s, a := a, i := i, b := b }
def qdZ (br : PM Int) : PM Int := pbind (skipP) fun _ => pbind (qdJ L) fun i => pbind br fun b => layP L { nd 26 with i := i, b := b }
/-- a statement; -1: none comes next -/
def stmtP (ex br : PM Int) : PM Int := fun m n =>
 if ¬ (tk L m).1.k = 5 then pok (-1) m n
 else if sIs (tk L m).1.s [108, 101, 116] = true then qda L 20 ex m n
 else if sIs (tk L m).1.s [115, 101, 116] = true then qda L 21 ex m n
 else if sIs (tk L m).1.s [112, 117, 116] = true then putP L ex m n
 else if sIs (tk L m).1.s [100, 101, 108, 101, 116, 101] = true then qbK L 23 ex m n
 else if sIs (tk L m).1.s [97, 98, 111, 114, 116] = true then qbK L 27 ex m n
 else if sIs (tk L m).1.s [114, 101, 116, 117, 114, 110] = true then qbK L 28 ex m n
 else if sIs (tk L m).1.s [105, 102] = true then whenP L ex br m n
 else if sIs (tk L m).1.s [102, 111, 114] = true then eachP L ex br m n
 else if sIs (tk L m).1.s [114, 101, 112, 101, 97, 116] = true then qdZ L br m n
 else pok (-1) m n
/-- a block so many places above the deepest -/
def blockD : Nat → PM Int
 | 0 => pno L 14
 | D + 1 => fun m n => qbo (stmtP L (exprP L (D + 1)) (qbF L (blockD D))) (L.length + 1) (-1) (-1) [] m n
/-- the program of tokens: its nodes and the first, or the error and its place -/
def progP : Except (Int × Int) (List Nd × Int) := match pbind (blockD L 16) (fun f => pbind (ofP L 0) fun _ => pok f) 0 0 with
 | .error e => .error e
 | .ok (f, _, ns) => .ok (ns, f)
/-- the tokens end where they end, and nowhere else -/
def endsOk : Bool := L ≠ [] && (List.range L.length).all fun j => ((tk L j).1.k == 0) == decide (j + 1 = L.length)
def qdM : Except (Int × Int) (List Nd × Int) := if endsOk L = true then progP L else .error (1, 0)
end
end Go.Proofs.YtijmfpoanggjjaaGreatDoor

namespace Go.Proofs.YtijmfpoanggjjaaGreatDoor
open Go.RowKit
theorem ltP1 {a n x : Nat} (h : a < n) : (a < n + x) = True := by simp; omega
theorem ltP2 {a n x y : Nat} (h : a < n) : (a < n + x + y) = True := by simp; omega
theorem ltP3 {a n x y z : Nat} (h : a < n) : (a < n + x + y + z) = True := by simp; omega
theorem ltP4 {a n x y z u : Nat} (h : a < n) : (a < n + x + y + z + u) = True := by simp; omega
theorem ltP5 {a n x y z u v : Nat} (h : a < n) : (a < n + x + y + z + u + v) = True := by simp; omega
attribute [go_sem] ltP1 ltP2 ltP3 ltP4 ltP5
/-- tokens lie at an address -/
def ToksAt (lb lo : Nat) (L : Toks) (w : World) : Prop := ∀ j, j < L.length →
 w.cell? ⟨lb, lo + j * 4, none⟩ = some (.int .i64 (tk L j).1.k) ∧ w.cell? ⟨lb, lo + j * 4 + 1, none⟩ = some (.int .i64 (tk L j).2) ∧
 w.cell? ⟨lb, lo + j * 4 + 2, none⟩ = some (.string (tk L j).1.s) ∧ w.cell? ⟨lb, lo + j * 4 + 3, none⟩ = some (.int .i64 (tk L j).1.i)
theorem ToksAt.lt {lb lo : Nat} {L : Toks} {w : World} (h : ToksAt lb lo L w) (hl : 0 < L.length) : lb < w.heap.size :=
 World.block_lt_of_cell? w _ (h 0 hl).1
theorem ToksAt.of_block {lb lo : Nat} {L : Toks} {w w' : World} (h : ToksAt lb lo L w) (e : w'.heap[lb]? = w.heap[lb]?) : ToksAt lb lo L w' := by
 intro j hj
 obtain ⟨h1, h2, h3, h4⟩ := h j hj
 exact ⟨(World.cell?_of_block e).trans h1, (World.cell?_of_block e).trans h2, (World.cell?_of_block e).trans h3, (World.cell?_of_block e).trans h4⟩
/-- tokens that end where they end, and nowhere else -/
structure Ends (L : Toks) : Prop where
 pos : 0 < L.length
 few : L.length ≤ 5000
 at_ : ∀ j, j < L.length → ((tk L j).1.k = 0 ↔ j + 1 = L.length)
/-- a block of one's own that the parser does not touch -/
structure Loc (b : Nat) (nv : Value) (k : Nat) (o : Obj) (w : World) : Prop where
 is : w.heap[k]? = some o
 ne : k ≠ b
 nr : nv.ownBlock ≠ some k
theorem Loc.lt {b : Nat} {nv : Value} {k : Nat} {o : Obj} {w : World} (h : Loc b nv k o w) : k < w.heap.size :=
 (Array.getElem?_eq_some_iff.1 h.is).1
/-- nothing changed but the parser's block and its row of nodes -/
structure Kp (b : Nat) (nv nv' : Value) (w w' : World) : Prop where
 os : w'.os = w.os
 tape : w'.tape = w.tape
 output : w'.output = w.output
 size : w.heap.size ≤ w'.heap.size
 block : ∀ k, k < w.heap.size → k ≠ b → nv.ownBlock ≠ some k → w'.heap[k]? = w.heap[k]?
 row : nv'.ownBlock = nv.ownBlock ∨ ∀ k, nv'.ownBlock = some k → w.heap.size ≤ k
theorem Kp.refl (b : Nat) (nv : Value) (w : World) : Kp b nv nv w w := ⟨rfl, rfl, rfl, Nat.le_refl _, fun _ _ _ _ => rfl, Or.inl rfl⟩
theorem Kp.trans {b : Nat} {nv nv1 nv2 : Value} {w w1 w2 : World} (h : Kp b nv nv1 w w1) (k : Kp b nv1 nv2 w1 w2) : Kp b nv nv2 w w2 := by
 refine ⟨k.os.trans h.os, k.tape.trans h.tape, k.output.trans h.output, Nat.le_trans h.size k.size, fun j hj hb hn => ?_, ?_⟩
 · have hn1 : nv1.ownBlock ≠ some j := by
     rcases h.row with e | e
     · rw [e]; exact hn
     · intro e2; have := e j e2; omega
   rw [k.block j (Nat.lt_of_lt_of_le hj h.size) hb hn1, h.block j hj hb hn]
 · rcases k.row with e | e
   · rcases h.row with e1 | e1
     · exact Or.inl (e.trans e1)
     · exact Or.inr (fun j hj => e1 j (by rw [← e]; exact hj))
   · exact Or.inr (fun j hj => Nat.le_trans h.size (e j hj))
theorem Kp.ext {b : Nat} {nv nv1 : Value} {w w1 w2 : World} (h : Kp b nv nv1 w w1) (hx : Ext w1 w2) : Kp b nv nv1 w w2 := by
 refine h.trans ?_
 have hb := hx.below
 exact ⟨hb.os, hb.tape, hb.output, hb.size, fun k hk _ _ => hb.block k hk, Or.inl rfl⟩
theorem Kp.alloc {b : Nat} {nv nv1 : Value} {w w1 : World} (h : Kp b nv nv1 w w1) (o : Obj) : Kp b nv nv1 w (w1.alloc o) := h.ext ((Ext.refl _).alloc o)
theorem Kp.more {b : Nat} {nv nv1 : Value} {w w1 : World} (h : Kp b nv nv1 w w1) (d : Nat) (os : Array Obj) : Kp b nv nv1 w (more w1 d os) := h.ext ((Ext.refl _).more d os)
theorem heap_set_other (w : World) (k i j : Nat) (v : Value) (h : j ≠ k) : (w.setCell ⟨k, i, none⟩ v).heap[j]? = w.heap[j]? := by
 simp [World.setCell, Array.getElem?_modify, Ne.symm h]
theorem Kp.setNew {b : Nat} {nv nv1 : Value} {w w1 : World} (h : Kp b nv nv1 w w1) {k : Nat} (hk : w.heap.size ≤ k) (i : Nat) (v : Value) : Kp b nv nv1 w (w1.setCell ⟨k, i, none⟩ v) :=
 ⟨h.os, h.tape, h.output, by simpa [World.setCell] using h.size, fun j hj hb hn => by rw [heap_set_other _ _ _ _ _ zal]; exact h.block j hj hb hn, h.row⟩
theorem Kp.setB {b : Nat} {nv nv1 : Value} {w w1 : World} (h : Kp b nv nv1 w w1) (i : Nat) (v : Value) : Kp b nv nv1 w (w1.setCell ⟨b, i, none⟩ v) :=
 ⟨h.os, h.tape, h.output, by simpa [World.setCell] using h.size, fun j hj hb hn => by rw [heap_set_other _ _ _ _ _ hb]; exact h.block j hj hb hn, h.row⟩
theorem Loc.kp {b : Nat} {nv nv1 : Value} {w w1 : World} {k : Nat} {o : Obj} (h : Loc b nv k o w) (hk : Kp b nv nv1 w w1) : Loc b nv1 k o w1 := by
 refine ⟨(hk.block k h.lt h.ne h.nr).trans h.is, h.ne, ?_⟩
 rcases hk.row with e | e
 · rw [e]; exact h.nr
 · intro e2; have := e k e2; have := h.lt; omega
theorem Loc.ext {b : Nat} {nv : Value} {w w1 : World} {k : Nat} {o : Obj} (h : Loc b nv k o w) (hx : Ext w w1) : Loc b nv k o w1 := h.kp ((Kp.refl b nv w).ext hx)
theorem Loc.set {b : Nat} {nv : Value} {w : World} {k : Nat} {cs : Array Value} {t : TypeId} (h : Loc b nv k (.cells cs t (0, 0)) w) (i : Nat) (v : Value) : Loc b nv k (.cells (cs.setIfInBounds i v) t (0, 0)) (w.setCell ⟨k, i, none⟩ v) := by
 refine ⟨?_, h.ne, h.nr⟩
 have := h.is
 simp [World.setCell, Array.getElem?_modify, this]
theorem Loc.more {b : Nat} {nv : Value} {w : World} {k : Nat} {o : Obj} (h : Loc b nv k o w) (d : Nat) (os : Array Obj) : Loc b nv k o (YtijmfpoanggjjaaGreatDoor.more w d os) := h.ext ((Ext.refl _).more d os)
theorem Loc.alloc {b : Nat} {nv : Value} {w : World} {k : Nat} {o : Obj} (h : Loc b nv k o w) (o' : Obj) : Loc b nv k o (w.alloc o') := h.ext ((Ext.refl _).alloc o')
theorem ownBlock_kept {w w1 : World} {row : Option Nat} {k : Nat} (hg : w.grownBy w1 row) (hk : k < w.heap.size) (hn : row ≠ some k) : w1.heap[k]? = w.heap[k]? := hg.block k hk (fun e => hn e.symm)
theorem Kp.push {b : Nat} {nv nv1 v' : Value} {w w1 w2 : World} (h : Kp b nv nv1 w w1) (hg : w1.grownBy w2 nv1.ownBlock) (hb : v'.ownBlock = nv1.ownBlock ∨ v'.ownBlock = some w1.heap.size) : Kp b nv v' w (w2.setCell ⟨b, 2, none⟩ v') := by
 refine h.trans (Kp.setB ⟨hg.os, hg.tape, hg.output, hg.size, fun k hk _ hn => ownBlock_kept hg hk hn, ?_⟩ 2 _)
 rcases hb with e | e
 · exact Or.inl e
 · exact Or.inr fun k hk => by rw [e] at hk; simp at hk; omega
def unitV : Unit → Value := fun _ => .tuple #[]
def intV : Int → Value := fun z => .int .i64 z
end Go.Proofs.YtijmfpoanggjjaaGreatDoor

namespace Go.Proofs.YtijmfpoanggjjaaGreatDoor
open Go.RowKit
attribute [go_sem] more_more Array.size_append
theorem qdd : ∀ (l : List Nd) (j : Nat) (z : Nd), l[j]? = some z → (qac l)[j * 8 + 0]? = some (.int .i64 z.k) ∧ (qac l)[j * 8 + 1]? = some (.int .i64 z.a) ∧ (qac l)[j * 8 + 2]? = some (.int .i64 z.b) ∧ (qac l)[j * 8 + 3]? = some (.int .i64 z.c) ∧ (qac l)[j * 8 + 4]? = some (.int .i64 z.x) ∧ (qac l)[j * 8 + 5]? = some (.int .i64 z.i) ∧ (qac l)[j * 8 + 6]? = some (.string z.s) ∧ (qac l)[j * 8 + 7]? = some (.string z.t)
 | [], j, z, h => by simp at h
 | y :: l, 0, z, h => by
  simp at h
  subst h
  exact ⟨rfl, rfl, rfl, rfl, rfl, rfl, rfl, rfl⟩
 | y :: l, j + 1, z, h => by
  have := qdd l j z (by simpa using h)
  have e : ∀ r, (qac (y :: l))[(j + 1) * 8 + r]? = (qac l)[j * 8 + r]? := by
   intro r
   have h1 : qac (y :: l) = ndL y ++ qac l := rfl
   rw [h1, List.getElem?_append_right (by simp [ndL]; omega)]
   congr 1
   simp [ndL]; omega
  rw [e 0, e 1, e 2, e 3, e 4, e 5, e 6, e 7]
  exact this
theorem qau {w : World} {base : Nat} {e : TypeId} {size : Nat} {v : Value} {n : Nat} {xs : List Value} (h : w.ownsRow base e size v n xs) : ∃ p c, v = .slice p n c := by
 rcases Go.Joins.ownsRow_forms h with ⟨rfl, h0⟩ | ⟨g1, c, rfl⟩
 · exact ⟨none, 0, by rw [h0]⟩
 · exact ⟨_, _, rfl⟩
theorem qaQ {w w' : World} {base : Nat} {e : TypeId} {size : Nat} {v : Value} {n : Nat} {xs : List Value} (h : w.ownsRow base e size v n xs) (hb : ∀ k, v.ownBlock = some k → k < w.heap.size → w'.heap[k]? = w.heap[k]?) : w'.ownsRow base e size v n xs := by
 obtain ⟨h1, h2⟩ := h
 refine ⟨h1, ?_⟩
 rcases h2 with h2 | ⟨g, cap, cur, rfl, hg, hh, r⟩
 · exact Or.inl h2
 · exact Or.inr ⟨g, cap, cur, rfl, hg, (hb g rfl (Array.getElem?_eq_some_iff.1 hh).1).trans hh, r⟩
theorem ndInfo : (Tryz.prog.info? 34).map (fun i => (i.zero, i.size, i.bytes)) = some (some (.agg #[.int .i64 0, .int .i64 0, .int .i64 0, .int .i64 0, .int .i64 0, .int .i64 0, .string ⟨#[]⟩, .string ⟨#[]⟩]), 8, 80) := by kernel_rfl
theorem intInfo : (Tryz.prog.info? 3).map (fun i => (i.zero, i.size, i.bytes)) = some (some (.int .i64 0), 1, 8) := by kernel_rfl
/-- a node's cells in memory -/
theorem nd_at {w : World} {base g cap n : Nat} {ns : List Nd} (h : w.ownsRow base 34 8 (.slice (some ⟨g, 0, none⟩) n cap) n (qac ns)) {j : Nat} {z : Nd} (hj : ns[j]? = some z) :
  w.cell? ⟨g, j * 8, none⟩ = some (.int .i64 z.k) ∧ w.cell? ⟨g, j * 8 + 1, none⟩ = some (.int .i64 z.a) ∧ w.cell? ⟨g, j * 8 + 2, none⟩ = some (.int .i64 z.b) ∧ w.cell? ⟨g, j * 8 + 3, none⟩ = some (.int .i64 z.c) ∧ w.cell? ⟨g, j * 8 + 4, none⟩ = some (.int .i64 z.x) ∧ w.cell? ⟨g, j * 8 + 5, none⟩ = some (.int .i64 z.i) ∧ w.cell? ⟨g, j * 8 + 6, none⟩ = some (.string z.s) ∧ w.cell? ⟨g, j * 8 + 7, none⟩ = some (.string z.t) := by
 have hc := h.cells (g := g) rfl
 obtain ⟨h0, h1, h2, h3, h4, h5, h6, h7⟩ := qdd ns j z hj
 have e : ∀ i v, (qac ns)[i]? = some v → w.cell? ⟨g, i, none⟩ = some v := fun i v hi => by
  have := hc i v hi
  rwa [Addr.add_lit, Nat.zero_add] at this
 exact ⟨e _ _ h0, e _ _ h1, e _ _ h2, e _ _ h3, e _ _ h4, e _ _ h5, e _ _ h6, e _ _ h7⟩
end Go.Proofs.YtijmfpoanggjjaaGreatDoor

namespace Go.Proofs.YtijmfpoanggjjaaGreatDoor
open Go.RowKit
attribute [go_sem] more_more Array.size_append
/-- the checker's memory: the program, how often each node is had -/
structure CkSt (W : World) (c H : Nat) (nv : Value) (ns : List Nd) (fi : Int) (n : Nat) (g : Nat → Nat) (w : World) : Prop where
 ext : Ext W w
 cell : w.heap[c]? = some (.cells #[nv, .int .i64 fi, .slice (some ⟨H, 0, none⟩) n n] 62 (0, 0))
 had : w.rowIs H 3 n (fun j => .int .i64 (g j : Int))
 row : w.ownsRow 0 34 8 nv n (qac ns)
 base : W.heap.size ≤ H ∧ H ≠ c ∧ nv.ownBlock ≠ some H ∧ ns.length = n
theorem CkSt.of_ext {W : World} {c H : Nat} {nv : Value} {ns : List Nd} {fi : Int} {n : Nat} {g : Nat → Nat} {w : World} {w' : World} (h : CkSt W c H nv ns fi n g w) (hx : Ext w w') : CkSt W c H nv ns fi n g w' :=
 ⟨h.ext.trans hx, (hx.below.block _ (Array.getElem?_eq_some_iff.1 h.cell).1).trans h.cell, h.had.of_block (hx.below.block _ h.had.lt), own_ext h.row hx, h.base⟩
theorem CkSt.alloc {W : World} {c H : Nat} {nv : Value} {ns : List Nd} {fi : Int} {n : Nat} {g : Nat → Nat} {w : World} (h : CkSt W c H nv ns fi n g w) (b : Obj) : CkSt W c H nv ns fi n g (w.alloc b) := h.of_ext ((Ext.refl w).alloc b)
theorem CkSt.more {W : World} {c H : Nat} {nv : Value} {ns : List Nd} {fi : Int} {n : Nat} {g : Nat → Nat} {w : World} (h : CkSt W c H nv ns fi n g w) (d : Nat) (os : Array Obj) : CkSt W c H nv ns fi n g (more w d os) := h.of_ext ((Ext.refl w).more d os)
theorem CkSt.facts {W : World} {c H : Nat} {nv : Value} {ns : List Nd} {fi : Int} {n : Nat} {g : Nat → Nat} {w : World} (h : CkSt W c H nv ns fi n g w) :
  w.cell? ⟨c, 0, none⟩ = some nv ∧ w.cell? ⟨c, 1, none⟩ = some (.int .i64 fi) ∧ w.cell? ⟨c, 2, none⟩ = some (.slice (some ⟨H, 0, none⟩) n n) ∧ c < w.heap.size ∧ H < w.heap.size := by
 have h1 := h.cell
 refine ⟨?_, ?_, ?_, (Array.getElem?_eq_some_iff.1 h1).1, h.had.lt⟩ <;> simp [World.cell?, h1]
theorem CkSt.set {W : World} {c H : Nat} {nv : Value} {ns : List Nd} {fi : Int} {n : Nat} {g : Nat → Nat} {w : World} (h : CkSt W c H nv ns fi n g w) (k : Nat) (v : Int) (g' : Nat → Nat) (hg : ∀ j, (g' j : Int) = if j = k then v else (g j : Int)) :
  CkSt W c H nv ns fi n g' (w.setCell ⟨H, k, none⟩ (.int .i64 v)) := by
 obtain ⟨b1, b2, b4, b5⟩ := h.base
 refine ⟨h.ext.setCell b1 _, by rw [heap_set_other _ _ _ _ _ (Ne.symm b2)]; exact h.cell, (h.had.set k _).congr fun j _ => ?_, ?_, h.base⟩
 · rw [hg j]; split <;> rfl
 · exact qaQ h.row fun j hj _ => heap_set_other _ _ _ _ _ (fun e => b4 (by rw [← e]; exact hj))
theorem CkSt.congr {W : World} {c H : Nat} {nv : Value} {ns : List Nd} {fi : Int} {n : Nat} {g : Nat → Nat} {w : World} {g' : Nat → Nat} (h : CkSt W c H nv ns fi n g w) (e : ∀ j, j < n → g j = g' j) : CkSt W c H nv ns fi n g' w :=
 ⟨h.ext, h.cell, h.had.congr fun j hj => by rw [e j hj], h.row, h.base⟩
/-- all but one block as it was -/
def Fr (H : Nat) (w w' : World) : Prop := ∀ q, q < w.heap.size → q ≠ H → w'.heap[q]? = w.heap[q]?
theorem Fr.refl (H : Nat) (w : World) : Fr H w w := fun _ _ _ => rfl
/-- a block -/
def KB (k : Nat) (cs : Array Value) (T : TypeId) (w : World) : Prop := w.heap[k]? = some (.cells cs T (0, 0))
theorem KB.lt {k : Nat} {cs : Array Value} {T : TypeId} {w : World} (h : KB k cs T w) : k < w.heap.size := (Array.getElem?_eq_some_iff.1 h).1
theorem KB.kept {k H : Nat} {cs : Array Value} {T : TypeId} {w w' : World} (h : KB k cs T w) (hf : Fr H w w') (hn : k ≠ H) : KB k cs T w' := (hf k h.lt hn).trans h
theorem KB.of_ext {k : Nat} {cs : Array Value} {T : TypeId} {w w' : World} (h : KB k cs T w) (hx : Ext w w') : KB k cs T w' := (hx.below.block _ h.lt).trans h
theorem KB.new (w : World) (cs : Array Value) (T : TypeId) : KB w.heap.size cs T (w.alloc (.cells cs T (0, 0))) := heap_alloc_new _ _
theorem KB.cell {k : Nat} {cs : Array Value} {T : TypeId} {w : World} (h : KB k cs T w) (j : Nat) (v : Value) (hj : cs[j]? = some v) : w.cell? ⟨k, j, none⟩ = some v := by
 unfold KB at h
 simp [World.cell?, h, hj]
def qaD (ns : List Nd) (k : Int) : Int := match ns[k.toNat]? with | some z => z.k | none => 0
def qab (ns : List Nd) (k f t : Int) (st : Bool) : Bool := decide (f ≤ k) && decide (k < t) && (st == decide (20 ≤ qaD ns k))
def blkB (ns : List Nd) (k i : Int) : Bool := k == -1 || qab ns k 0 i true
def pone (a k : Int) : Nat := if a = k then 1 else 0
def addB (A : Bool) (k : Int) (g : Nat → Nat) : Nat → Nat := fun j => g j + if A = true then pone k j else 0
theorem qah (A : Bool) (k : Int) (g : Nat → Nat) (j m : Nat) (h : g j ≤ m) : addB A k g j ≤ m + 1 := by
 unfold addB pone; split <;> (try split) <;> omega
set_option maxHeartbeats 4000000 in
set_option maxRecDepth 20000 in
theorem qan {W : World} {c H : Nat} {nv : Value} {ns : List Nd} {fi : Int} {n : Nat} {g : Nat → Nat} {w : World} (h : CkSt W c H nv ns fi n g w) (k f t : Int) (st : Bool) (h0 : 0 ≤ f) (ht : t ≤ (n : Int)) (hb : ∀ j, j < n → g j ≤ 9000) :
  Calls Tryz.prog 50 #[.pointer (some ⟨c, 0, none⟩), .int .i64 k, .int .i64 f, .int .i64 t, .bool st] w fun e w' => e = .returned (.bool (qab ns k f t st)) ∧ CkSt W c H nv ns fi n (addB (qab ns k f t st) k g) w' ∧ Fr H w w' := by
 have HS := Lib.hid h
 have HC0 := Lib.hid (h.congr (g' := addB false k g) fun j _ => by simp [addB])
 obtain ⟨c0, c1, c2, lc, lH⟩ := h.facts
 by_cases hf : f ≤ k
 rotate_left
 · have hr : qab ns k f t st = false := by unfold qab; rw [decide_eq_false hf]; rfl
   rw [hr]
   have q1 : k < f := by omega
   clear h hb c0 c1 c2 hf hr h0 ht
   go_enter Tryz.func50, Tryz.ntmps50
   go_wp2_with fail
   go_ret
   exact ⟨rfl, HC0.out, Fr.refl _ _⟩
 by_cases hk : k < t
 rotate_left
 · have hr : qab ns k f t st = false := by unfold qab; rw [decide_eq_false hk]; simp
   rw [hr]
   have q1 : f ≤ k := hf
   have q2 : t ≤ k := by omega
   clear h hb c0 c1 c2 hf hr h0 ht hk
   go_enter Tryz.func50, Tryz.ntmps50
   go_wp2_with fail
   go_ret
   exact ⟨rfl, HC0.out, Fr.refl _ _⟩
 obtain ⟨j, rfl⟩ : ∃ j : Nat, k = (j : Int) := ⟨k.toNat, by omega⟩
 have hj : j < n := by omega
 obtain ⟨z, hz⟩ : ∃ z, ns[j]? = some z := ⟨_, List.getElem?_eq_getElem (by rw [h.base.2.2.2]; exact hj)⟩
 have hp : ∃ G cap, nv = .slice (some ⟨G, 0, none⟩) n cap := by
  rcases Go.Joins.ownsRow_forms h.row with ⟨_, h0⟩ | ⟨g1, c1, h0⟩
  · omega
  · exact ⟨g1, c1, h0⟩
 obtain ⟨G, cap, rfl⟩ := hp
 have a0 := (nd_at h.row hz).1
 have hG := (h.row.lt G rfl).2
 have hkd : qaD ns (j : Int) = z.k := by unfold qaD; rw [show ((j : Int)).toNat = j from rfl, hz]
 obtain ⟨zk, hzk⟩ : ∃ zk, z.k = zk := ⟨_, rfl⟩
 rw [hzk] at a0 hkd
 have hr : qab ns (j : Int) f t st = (st == decide (20 ≤ zk)) := by unfold qab; rw [decide_eq_true hf, decide_eq_true hk, hkd]; simp
 rw [hr]
 have hc := h.had.cell hj
 have hfz := h.had.frozen j
 have hgj : (g j : Int) ≤ 9000 := by have := hb j hj; omega
 have hgj0 : 0 ≤ (g j : Int) := by omega
 obtain ⟨q, hq⟩ : ∃ q : Nat, g j = q := ⟨_, rfl⟩
 have HQ := Lib.hid hq
 simp only [hq] at hc hgj hgj0
 have hj0 : 0 ≤ (j : Int) := by omega
 have hjn : (j : Int) < (n : Int) := by omega
 clear h hb hq hj hz hzk hkd hr c1 ht h0
 cases st <;> by_cases hz20 : 20 ≤ zk
 · rw [decide_eq_true hz20, show ((false : Bool) == true) = false from rfl]
   go_enter Tryz.func50, Tryz.ntmps50
   go_wp2_with fail
   go_ret
   exact ⟨rfl, HC0.out, Fr.refl _ _⟩
 · rw [decide_eq_false hz20, show ((false : Bool) == false) = true from rfl]
   have hz2 : zk < 20 := by omega
   clear hz20
   go_enter Tryz.func50, Tryz.ntmps50
   go_wp2_with fail
   go_ret
   refine ⟨rfl, HS.out.set j _ _ fun i => ?_, fun q _ hq => heap_set_other _ _ _ _ _ hq⟩
   unfold addB pone
   rw [if_pos rfl]
   by_cases e : i = j
   · subst e; rw [if_pos rfl, if_pos rfl, HQ.out]; omega
   · rw [if_neg e, if_neg zal]; rfl
 · rw [decide_eq_true hz20, show ((true : Bool) == true) = true from rfl]
   go_enter Tryz.func50, Tryz.ntmps50
   go_wp2_with fail
   go_ret
   refine ⟨rfl, HS.out.set j _ _ fun i => ?_, fun q _ hq => heap_set_other _ _ _ _ _ hq⟩
   unfold addB pone
   rw [if_pos rfl]
   by_cases e : i = j
   · subst e; rw [if_pos rfl, if_pos rfl, HQ.out]; omega
   · rw [if_neg e, if_neg zal]; rfl
 · rw [decide_eq_false hz20, show ((true : Bool) == false) = false from rfl]
   have hzd : decide (20 ≤ zk) = false := decide_eq_false hz20
   have hz2 : zk < 20 := by omega
   clear hz20
   go_enter Tryz.func50, Tryz.ntmps50
   go_wp2_with fail
   go_ret
   exact ⟨rfl, HC0.out, Fr.refl _ _⟩
set_option maxHeartbeats 2000000 in
theorem qbf {W : World} {c H : Nat} {nv : Value} {ns : List Nd} {fi : Int} {n : Nat} {g : Nat → Nat} {w : World} (h : CkSt W c H nv ns fi n g w) (k i : Int) (ht : i ≤ (n : Int)) (hb : ∀ j, j < n → g j ≤ 9000) :
  Calls Tryz.prog 31 #[.pointer (some ⟨c, 0, none⟩), .int .i64 k, .int .i64 i] w fun e w' => e = .returned (.bool (blkB ns k i)) ∧ CkSt W c H nv ns fi n (addB (blkB ns k i) k g) w' ∧ Fr H w w' := by
 by_cases hk : k = -1
 · subst hk
   have HC0 := Lib.hid (h.congr (g' := addB true (-1) g) fun j _ => by unfold addB pone; rw [if_pos rfl, if_neg zal]; rfl)
   rw [show blkB ns (-1) i = true from rfl]
   clear h hb ht
   go_enter Tryz.func31, Tryz.ntmps31
   go_wp2_with fail
   go_ret
   exact ⟨rfl, HC0.out, Fr.refl _ _⟩
 · have T := Lib.hid (qan h k 0 i true zal ht hb)
   rw [show blkB ns k i = qab ns k 0 i true from by unfold blkB; rw [show (k == -1) = false from by simpa using hk]; rfl]
   obtain ⟨A, hA⟩ : ∃ A, qab ns k 0 i true = A := ⟨_, rfl⟩
   rw [hA] at T ⊢
   have q : (k == -1) = false := by simpa using hk
   clear h hb ht hA hk
   go_enter Tryz.func31, Tryz.ntmps31
   go_wp2_with ((go_at_call 50; (with_reducible refine T.out.mono ?_); rintro e' w1 ⟨rfl, h1, h2⟩; have H1 := Lib.hid h1; have H2 := Lib.hid h2; clear h1 h2))
   go_ret
   exact ⟨rfl, H1.out, H2.out⟩
end Go.Proofs.YtijmfpoanggjjaaGreatDoor

namespace Go.Proofs.YtijmfpoanggjjaaGreatDoor
open Go.RowKit
/-- nodes from a place on -/
def NdsAt (g o : Nat) (ns : List Nd) (w : World) : Prop := ∀ j z, ns[j]? = some z →
 w.cell? ⟨g, o + j * 8, none⟩ = some (.int .i64 z.k) ∧ w.cell? ⟨g, o + j * 8 + 1, none⟩ = some (.int .i64 z.a) ∧ w.cell? ⟨g, o + j * 8 + 2, none⟩ = some (.int .i64 z.b) ∧ w.cell? ⟨g, o + j * 8 + 3, none⟩ = some (.int .i64 z.c) ∧ w.cell? ⟨g, o + j * 8 + 4, none⟩ = some (.int .i64 z.x) ∧ w.cell? ⟨g, o + j * 8 + 5, none⟩ = some (.int .i64 z.i) ∧ w.cell? ⟨g, o + j * 8 + 6, none⟩ = some (.string z.s) ∧ w.cell? ⟨g, o + j * 8 + 7, none⟩ = some (.string z.t)
/-- a slice of nodes that came in -/
def NdsIn (w : World) (p : Option Addr) (n c : Nat) (ns : List Nd) : Prop := ns.length = n ∧ n ≤ c ∧ (0 < n → ∃ g o, p = some ⟨g, o, none⟩ ∧ g < w.heap.size ∧ NdsAt g o ns w)
theorem NdsIn.ext {w w' : World} {p : Option Addr} {n c : Nat} {ns : List Nd} (h : NdsIn w p n c ns) (hx : Ext w w') : NdsIn w' p n c ns := by
 obtain ⟨h1, h2, h3⟩ := h
 refine ⟨h1, h2, fun hn => ?_⟩
 obtain ⟨g, o, hp, hg, ha⟩ := h3 hn
 refine ⟨g, o, hp, Nat.lt_of_lt_of_le hg hx.size, fun j z hz => ?_⟩
 have e := fun i => World.cell?_of_block (w := w) (w' := w') (a := ⟨g, i, none⟩) (hx.below.block g hg)
 obtain ⟨a0, a1, a2, a3, a4, a5, a6, a7⟩ := ha j z hz
 exact ⟨(e _).trans a0, (e _).trans a1, (e _).trans a2, (e _).trans a3, (e _).trans a4, (e _).trans a5, (e _).trans a6, (e _).trans a7⟩
open Go.ChangeShapes Go.WideShapes Go.ChangeAt Go.Joins
theorem nodeCells : Tryz.prog.cellsOf 34 = 8 := by kernel_rfl
theorem nodeFields : ∃ f0 f1 f2 f3 f4 f5 f6 f7 : Field, Tryz.prog.underlying 34 = some (.struct #[f0, f1, f2, f3, f4, f5, f6, f7]) ∧ f0.type = 3 ∧ f1.type = 3 ∧ f2.type = 3 ∧ f3.type = 3 ∧ f4.type = 3 ∧ f5.type = 2 ∧ f6.type = 9 ∧ f7.type = 9 ∧ Deep.oneCellFields Tryz.prog #[f0, f1, f2, f3, f4, f5, f6, f7] = true := ⟨_, _, _, _, _, _, _, _, Tryz.underlying34, rfl, rfl, rfl, rfl, rfl, rfl, rfl, rfl, by kernel_rfl⟩
theorem list_ofN {α : Type} (len : Nat) (P : Nat → α → Prop) (h : ∀ i, i < len → ∃ a, P i a) : ∃ l : List α, l.length = len ∧ ∀ j a, l[j]? = some a → P j a := by
 induction len with
 | zero => exact ⟨[], rfl, fun j a hj => by simp at hj⟩
 | succ n ih =>
  obtain ⟨l, hl, hp⟩ := ih (fun i hi => h i zal)
  obtain ⟨a, ha⟩ := h n zal
  refine ⟨l ++ [a], by simp [hl], fun j b hj => ?_⟩
  rw [List.getElem?_append] at hj
  split at hj
  · exact hp j b hj
  · have : j = l.length := by
      have := (List.getElem?_eq_some_iff.1 hj).1
      simp at this; omega
    subst this
    simp at hj
    subst hj
    rw [hl]; exact ha
end Go.Proofs.YtijmfpoanggjjaaGreatDoor

namespace Go.Proofs.YtijmfpoanggjjaaGreatDoor
open Go.RowKit
attribute [go_sem] more_more Array.size_append
theorem isP_eq {L : Toks} {m : Nat} {t : Tok} {a : Int} (ht : tk L m = (t, a)) (s : ByteArray) (b : Bool) (hw : wordB s = b) : isP L s m = (t.k == (if b = true then 5 else 4) && t.s.toList == s.toList) := by
 unfold isP; rw [ht, hw]
theorem fld_at (k a : Int) (s : ByteArray) (i : Int) (w : World) : (Instr.field 97 (.agg #[.int .i64 k, .int .i64 a, .string s, .int .i64 i]) 1).run Tryz.prog w = .ok (.int .i64 a) w := by kernel_rfl
theorem fld_s (k a : Int) (s : ByteArray) (i : Int) (w : World) : (Instr.field 97 (.agg #[.int .i64 k, .int .i64 a, .string s, .int .i64 i]) 2).run Tryz.prog w = .ok (.string s) w := by kernel_rfl
theorem fld_i (k a : Int) (s : ByteArray) (i : Int) (w : World) : (Instr.field 97 (.agg #[.int .i64 k, .int .i64 a, .string s, .int .i64 i]) 3).run Tryz.prog w = .ok (.int .i64 i) w := by kernel_rfl
attribute [go_sem] fld_at fld_s fld_i
theorem news_splitP {w : World} {N d1 d2 : Nat} {os1 os2 : Array Obj} {cs : Array Value} {t : TypeId} (hN : N = w.heap.size + os1.size) :
  ∀ j u, cs.toList[j]? = some u → (more ((more w d1 os1).alloc (.cells cs t)) d2 os2).cell? ((⟨N, 0, none⟩ : Addr).add j) = some u := by
 intro j u h
 have hN' : N = (more w d1 os1).heap.size := by rw [more_size]; exact hN
 subst hN'
 rw [Addr.add_lit, qdC _ _ _ _ _ zbt]
 simp only [World.cell?, heap_alloc_new]
 simpa using h
theorem isP_ne {L : Toks} {m : Nat} {s : ByteArray} (h : isP L s m = true) : (tk L m).1.k ≠ 0 := by
 unfold isP at h
 intro e
 rw [e] at h
 split at h <;> simp at h
/-- what the walk reads of a node of one's own -/
theorem Loc.node {b : Nat} {nv : Value} {k : Nat} {w : World} {v0 v1 v2 v3 v4 v5 v6 v7 : Value} (h : Loc b nv k (.cells #[v0, v1, v2, v3, v4, v5, v6, v7] 34 (0, 0)) w) :
  w.cell? ⟨k, 0, none⟩ = some v0 ∧ w.cell? ⟨k, 1, none⟩ = some v1 ∧ w.cell? ⟨k, 2, none⟩ = some v2 ∧ w.cell? ⟨k, 3, none⟩ = some v3 ∧ w.cell? ⟨k, 4, none⟩ = some v4 ∧ w.cell? ⟨k, 5, none⟩ = some v5 ∧ w.cell? ⟨k, 6, none⟩ = some v6 ∧ w.cell? ⟨k, 7, none⟩ = some v7 ∧
  w.frozen? ⟨k, 0, none⟩ = false ∧ w.frozen? ⟨k, 1, none⟩ = false ∧ w.frozen? ⟨k, 2, none⟩ = false ∧ w.frozen? ⟨k, 3, none⟩ = false ∧ w.frozen? ⟨k, 5, none⟩ = false ∧ w.frozen? ⟨k, 6, none⟩ = false ∧ w.frozen? ⟨k, 7, none⟩ = false ∧ k < w.heap.size := by
 have := h.is
 refine ⟨?_, ?_, ?_, ?_, ?_, ?_, ?_, ?_, ?_, ?_, ?_, ?_, ?_, ?_, ?_, h.lt⟩ <;> simp [World.cell?, World.frozen?, this]
theorem qbD {L : Toks} {s : ByteArray} {r : List ByteArray} {m n : Nat} (h : isP L s m = true) : mustP L (s :: r) m n = mustP L r (m + 1) n := by
 rw [mustP, qaG (v := ()) (m1 := m + 1) (ns := []) (by unfold must1; rw [if_pos h]), qbm]; rfl
theorem qcU {L : Toks} {s : ByteArray} {r : List ByteArray} {m n : Nat} (h : isP L s m = false) : mustP L (s :: r) m n = .error (3, (tk L m).2) := by
 rw [mustP]; exact qaH (by unfold must1; rw [h]; rfl)
theorem drop_cons {α : Type} (ss : List α) (j : Nat) (d : α) (h : j < ss.length) : ss.drop j = ss.getD j d :: ss.drop (j + 1) := by
 rw [List.drop_eq_getElem_cons h]; simp [List.getD, List.getElem?_eq_getElem h]
/-- a row of texts of one's own -/
def strs (ss : List ByteArray) : Obj := .cells (ss.map Value.string).toArray 9 (0, 0)
theorem Loc.str {b : Nat} {nv : Value} {g : Nat} {ss : List ByteArray} {w : World} (h : Loc b nv g (strs ss) w) (j : Nat) (hj : j < ss.length) : w.cell? ⟨g, j, none⟩ = some (.string (ss.getD j ⟨#[]⟩)) := by
 have := h.is
 unfold strs at this
 simp [World.cell?, this, List.getD, List.getElem?_eq_getElem hj]
def optV : Option ByteArray → Value
 | none => .tuple #[.string ⟨#[]⟩, .bool false]
 | some s => .tuple #[.string s, .bool true]
def findP (L : Toks) (m : Nat) (ss : List ByteArray) : PR (Option ByteArray) := match ss.find? (fun s => isP L s m) with
 | none => .ok (none, m, [])
 | some s => .ok (some s, m + 1, [])
theorem findP_yes {L : Toks} {s : ByteArray} {r : List ByteArray} {m : Nat} (h : isP L s m = true) : findP L m (s :: r) = .ok (some s, m + 1, []) := by
 unfold findP; rw [List.find?_cons]; simp [h]
theorem findP_no {L : Toks} {s : ByteArray} {r : List ByteArray} {m : Nat} (h : isP L s m = false) : findP L m (s :: r) = findP L m r := by
 unfold findP; rw [List.find?_cons]; simp [h]
end Go.Proofs.YtijmfpoanggjjaaGreatDoor

namespace Go.Proofs.YtijmfpoanggjjaaGreatDoor
open Go.RowKit
attribute [go_sem] more_more Array.size_append
theorem twoL_none {L : Toks} {cl : PM Int} {ss : List ByteArray} {g : Nat} {a : Int} {m n : Nat} (h1 : qbq L ss m n = .ok (none, m, [])) : qaZ L cl ss (g + 1) a m n = .ok (a, m, []) := by
 rw [qaZ, qaG h1, qbm]; rfl
theorem twoL_err {L : Toks} {cl : PM Int} {ss : List ByteArray} {g : Nat} {a : Int} {m n : Nat} {s : ByteArray} {m1 : Nat} {e : Int × Int} (h1 : qbq L ss m n = .ok (some s, m1, [])) (h2 : cl m1 n = .error e) : qaZ L cl ss (g + 1) a m n = .error e := by
 rw [qaZ, qaG h1, qbm]
 exact qaH h2
theorem twoL_lay {L : Toks} {cl : PM Int} {ss : List ByteArray} {g : Nat} {a c : Int} {m n : Nat} {s : ByteArray} {m1 m2 : Nat} {ns : List Nd} {e : Int × Int} (h1 : qbq L ss m n = .ok (some s, m1, [])) (h2 : cl m1 n = .ok (c, m2, ns)) (h3 : layP L (twoNd a c s) m2 (n + ns.length) = .error e) : qaZ L cl ss (g + 1) a m n = .error e := by
 rw [qaZ, qaG h1, qbm]
 dsimp only [List.length_nil, Nat.add_zero]
 rw [qaG h2, qaH h3]
 rfl
theorem twoL_ok {L : Toks} {cl : PM Int} {ss : List ByteArray} {g : Nat} {a c a1 : Int} {m n : Nat} {s : ByteArray} {m1 m2 m3 : Nat} {ns ns2 : List Nd} (h1 : qbq L ss m n = .ok (some s, m1, [])) (h2 : cl m1 n = .ok (c, m2, ns)) (h3 : layP L (twoNd a c s) m2 (n + ns.length) = .ok (a1, m3, ns2)) : qaZ L cl ss (g + 1) a m n = prep (ns ++ ns2) (qaZ L cl ss g a1 m3 (n + (ns ++ ns2).length)) := by
 rw [qaZ, qaG h1, qbm]
 dsimp only [List.length_nil, Nat.add_zero]
 rw [qaG h2, qaG h3, qcX, List.length_append, Nat.add_assoc]
def thenR {α β : Type} (r : PR α) (f : α → Nat → List Nd → PR β) : PR β := match r with
 | .error e => .error e
 | .ok (v, m, ns) => f v m ns
theorem oneOf_cases (L : Toks) (ss : List ByteArray) (m n : Nat) : qbq L ss m n = .ok (none, m, []) ∨ ∃ s, qbq L ss m n = .ok (some s, m + 1, []) := by
 unfold qbq
 cases ss.find? fun s => isP L s m with
 | none => exact Or.inl rfl
 | some s => exact Or.inr ⟨s, rfl⟩
end Go.Proofs.YtijmfpoanggjjaaGreatDoor

namespace Go.Proofs.YtijmfpoanggjjaaGreatDoor
open Go.RowKit
attribute [go_sem] more_more Array.size_append
theorem mk_func (fn : Fn) (first cap : Array Value) (w : World) : (Instr.makeFunc fn first cap).run Tryz.prog w = .ok (.func fn first cap) w := rfl
attribute [go_sem] mk_func
end Go.Proofs.YtijmfpoanggjjaaGreatDoor

namespace Go.Proofs.YtijmfpoanggjjaaGreatDoor
open Go.RowKit
attribute [go_sem] more_more Array.size_append
theorem qaz {α : Type} {p : PM α} {m : Nat} {N : List Nd} {r : PR α} (hr : p m N.length = r) : prep [] (p m (N.length + ([] : List Nd).length)) = r := by rw [qbm]; exact hr
theorem qaj {α β : Type} {NS : List Nd} {p : PM α} {f : α → PM β} {m n : Nat} {r : PR β} (hr : prep NS (pbind p f m n) = r) : ∃ r1, p m n = r1 := ⟨_, rfl⟩
theorem qaC {α : Type} {NS : List Nd} {p : PM α} {m n : Nat} {r : PR α} (hr : prep NS (p m n) = r) : ∃ r1, p m n = r1 := ⟨_, rfl⟩
theorem qak {α β : Type} {NS : List Nd} {p : PM α} {f : α → PM β} {m n : Nat} {r : PR β} {c a : Int} (hr : prep NS (pbind p f m n) = r) (h : p m n = .error (c, a)) : .error (c, a) = r := by
 rw [qaH h] at hr; exact hr
theorem qaf {α β : Type} {N NS ns : List Nd} {p : PM α} {f : α → PM β} {m m1 : Nat} {v : α} {r : PR β} (hr : prep NS (pbind p f m (N.length + NS.length)) = r) (h : p m (N.length + NS.length) = .ok (v, m1, ns)) :
  prep (NS ++ ns) (f v m1 (N.length + (NS ++ ns).length)) = r := by
 rw [qaG h, qcX] at hr
 rw [List.length_append, ← Nat.add_assoc]; exact hr
theorem qaO {α : Type} {NS : List Nd} {p : PM α} {m n : Nat} {r : PR α} {c a : Int} (hr : prep NS (p m n) = r) (h : p m n = .error (c, a)) : .error (c, a) = r := by
 rw [h] at hr; exact hr
theorem qaX {α : Type} {NS ns : List Nd} {p : PM α} {m m1 n : Nat} {v : α} {r : PR α} (hr : prep NS (p m n) = r) (h : p m n = .ok (v, m1, ns)) : .ok (v, m1, NS ++ ns) = r := by
 rw [h] at hr; exact hr
theorem must1_yes {L : Toks} {s : ByteArray} {m n : Nat} (h : isP L s m = true) : mustP L [s] m n = .ok ((), m + 1, []) := by rw [qbD h]; rfl
end Go.Proofs.YtijmfpoanggjjaaGreatDoor

namespace Go.Proofs.YtijmfpoanggjjaaGreatDoor
open Go.RowKit
def Fwd {α : Type} (p : PM α) : Prop := ∀ m n v m1 ns, p m n = .ok (v, m1, ns) → m ≤ m1
def Lays (p : PM Int) : Prop := ∀ m n v m1 ns, p m n = .ok (v, m1, ns) → v + 1 = (n : Int) + ns.length ∧ 0 < ns.length
theorem prep_inv {α : Type} {ns : List Nd} {r : PR α} {v : α} {m : Nat} {l : List Nd} (h : prep ns r = .ok (v, m, l)) : ∃ l1, r = .ok (v, m, l1) ∧ l = ns ++ l1 := by
 cases r with
 | error e => simp [prep] at h
 | ok x => obtain ⟨v', m', l'⟩ := x; simp only [prep, Except.ok.injEq, Prod.mk.injEq] at h; obtain ⟨rfl, rfl, rfl⟩ := h; exact ⟨_, rfl, rfl⟩
theorem qdw {α β : Type} {p : PM α} {f : α → PM β} {m n : Nat} {v : β} {m2 : Nat} {l : List Nd} (h : pbind p f m n = .ok (v, m2, l)) :
  ∃ a m1 l1 l2, p m n = .ok (a, m1, l1) ∧ f a m1 (n + l1.length) = .ok (v, m2, l2) ∧ l = l1 ++ l2 := by
 unfold pbind at h
 cases hp : p m n with
 | error e => rw [hp] at h; simp at h
 | ok x =>
  obtain ⟨a, m1, l1⟩ := x
  rw [hp] at h
  obtain ⟨l2, h1, h2⟩ := prep_inv h
  exact ⟨a, m1, l1, l2, rfl, h1, h2⟩
theorem Fwd.bind {α β : Type} {p : PM α} {f : α → PM β} (hp : Fwd p) (hf : ∀ a, Fwd (f a)) : Fwd (pbind p f) := by
 intro m n v m1 ns h
 obtain ⟨a, m2, l1, l2, h1, h2, _⟩ := qdw h
 exact Nat.le_trans (hp _ _ _ _ _ h1) (hf a _ _ _ _ _ h2)
theorem Lays.bind {α : Type} {p : PM α} {f : α → PM Int} (hf : ∀ a, Lays (f a)) : Lays (pbind p f) := by
 intro m n v m1 ns h
 obtain ⟨a, m2, l1, l2, h1, h2, rfl⟩ := qdw h
 have := hf a _ _ _ _ _ h2
 simp only [List.length_append]
 omega
theorem Fwd.ok {α : Type} (v : α) : Fwd (pok v) := by
 intro m n v m1 ns h; simp [pok] at h; omega
theorem Fwd.no {α : Type} (L : Toks) (e : Int) : Fwd (pno (α := α) L e) := by intro m n v m1 ns h; simp [pno] at h
section
variable (L : Toks)
theorem Fwd.skip : Fwd skipP := by intro m n v m1 ns h; simp [skipP] at h; omega
theorem Fwd.lay (z : Nd) : Fwd (layP L z) := by
 intro m n v m1 ns h; unfold layP at h; split at h
 · simp at h
 · simp at h; omega
theorem Lays.lay (z : Nd) : Lays (layP L z) := by
 intro m n v m1 ns h; unfold layP at h; split at h
 · simp at h
 · simp at h; obtain ⟨rfl, _, rfl⟩ := h; simp
theorem Fwd.deep (d : Nat) : Fwd (deepP L d) := by
 intro m n v m1 ns h; unfold deepP at h; split at h
 · simp at h
 · simp at h; omega
theorem Fwd.takes (s : ByteArray) : Fwd (takesP L s) := by
 intro m n v m1 ns h; unfold takesP at h; split at h <;> simp at h <;> omega
theorem Fwd.must1 (s : ByteArray) : Fwd (must1 L s) := by
 intro m n v m1 ns h; unfold Go.Proofs.YtijmfpoanggjjaaGreatDoor.must1 at h; split at h <;> simp at h <;> omega
theorem Fwd.must : ∀ ss, Fwd (mustP L ss)
 | [] => Fwd.ok ()
 | s :: r => by rw [mustP]; exact Fwd.bind (Fwd.must1 L s) fun _ => Fwd.must r
theorem Fwd.of (k : Int) : Fwd (ofP L k) := by
 intro m n v m1 ns h; unfold ofP at h; split at h <;> simp at h <;> omega
theorem Fwd.oneOf (ss : List ByteArray) : Fwd (qbq L ss) := by
 intro m n v m1 ns h; unfold qbq at h; split at h <;> simp at h <;> omega
theorem Fwd.turns : Fwd (qdJ L) := by
 have h2 : Fwd (pbind (ofP L 2) (fun t => pok t.i)) := Fwd.bind (Fwd.of L 2) fun t => Fwd.ok _
 intro m n v m1 ns h; unfold qdJ at h; split at h
 · simp at h
 · exact h2 _ _ _ _ _ h
end
theorem strict {α : Type} {f : Unit → PM α} (hf : ∀ a, Fwd (f a)) {m n : Nat} {v : α} {m1 : Nat} {ns : List Nd} (h : pbind skipP f m n = .ok (v, m1, ns)) : m < m1 := by
 obtain ⟨a, m2, l1, l2, h1, h2, _⟩ := qdw h
 have := hf a _ _ _ _ _ h2
 simp [skipP] at h1
 omega
/-- goes on by a token at least, and lays a node last -/
def Strong (p : PM Int) : Prop := (∀ m n v m1 ns, p m n = .ok (v, m1, ns) → m < m1) ∧ Lays p
theorem Strong.of {f : Unit → PM Int} (hf : ∀ a, Fwd (f a)) (hl : ∀ a, Lays (f a)) : Strong (pbind skipP f) := ⟨fun _ _ _ _ _ h => strict hf h, Lays.bind hl⟩
section
variable {L : Toks} {ex br : PM Int}
theorem qbe (k : Int) (he : Fwd ex) : Strong (qda L k ex) :=
 Strong.of (fun _ => Fwd.bind (Fwd.of L 1) fun _ => Fwd.bind (Fwd.must L _) fun _ => Fwd.bind he fun _ => Fwd.bind (Fwd.must L _) fun _ => Fwd.lay L _)
  (fun _ => Lays.bind fun _ => Lays.bind fun _ => Lays.bind fun _ => Lays.bind fun _ => Lays.lay L _)
theorem qcM (he : Fwd ex) : Strong (putP L ex) :=
 Strong.of (fun _ => Fwd.bind he fun _ => Fwd.bind (Fwd.must L _) fun _ => Fwd.bind he fun _ => Fwd.bind (Fwd.must L _) fun _ => Fwd.lay L _)
  (fun _ => Lays.bind fun _ => Lays.bind fun _ => Lays.bind fun _ => Lays.bind fun _ => Lays.lay L _)
theorem qaK (k : Int) (he : Fwd ex) : Strong (qbK L k ex) :=
 Strong.of (fun _ => Fwd.bind he fun _ => Fwd.bind (Fwd.must L _) fun _ => Fwd.lay L _) (fun _ => Lays.bind fun _ => Lays.bind fun _ => Lays.lay L _)
theorem qcp (he : Fwd ex) (hb : Fwd br) : Strong (whenP L ex br) := by
 refine Strong.of (fun _ => Fwd.bind he fun _ => Fwd.bind hb fun _ => Fwd.bind (Fwd.takes L _) fun e => ?_) (fun _ => Lays.bind fun _ => Lays.bind fun _ => Lays.bind fun e => ?_)
 · cases e
   · exact Fwd.lay L _
   · exact Fwd.bind hb fun _ => Fwd.lay L _
 · cases e
   · exact Lays.lay L _
   · exact Lays.bind fun _ => Lays.lay L _
theorem qcl (he : Fwd ex) (hb : Fwd br) : Strong (eachP L ex br) :=
 Strong.of (fun _ => Fwd.bind (Fwd.of L 1) fun _ => Fwd.bind (Fwd.must L _) fun _ => Fwd.bind (Fwd.of L 1) fun _ => Fwd.bind (Fwd.must L _) fun _ => Fwd.bind he fun _ => Fwd.bind (Fwd.must L _) fun _ => Fwd.bind (Fwd.turns L) fun _ => Fwd.bind (Fwd.must L _) fun _ => Fwd.bind hb fun _ => Fwd.lay L _)
  (fun _ => Lays.bind fun _ => Lays.bind fun _ => Lays.bind fun _ => Lays.bind fun _ => Lays.bind fun _ => Lays.bind fun _ => Lays.bind fun _ => Lays.bind fun _ => Lays.bind fun _ => Lays.lay L _)
theorem qbP (hb : Fwd br) : Strong (qdZ L br) :=
 Strong.of (fun _ => Fwd.bind (Fwd.turns L) fun _ => Fwd.bind hb fun _ => Fwd.lay L _) (fun _ => Lays.bind fun _ => Lays.bind fun _ => Lays.lay L _)
/-- what a statement hands back: none, with nothing done; or the place of its node, the last one -/
theorem stmt_ok (he : Fwd ex) (hb : Fwd br) {m n : Nat} {v : Int} {m1 : Nat} {ns : List Nd} (h : stmtP L ex br m n = .ok (v, m1, ns)) :
  (v = -1 ∧ m1 = m ∧ ns = []) ∨ (m < m1 ∧ v + 1 = (n : Int) + ns.length ∧ 0 < ns.length) := by
 have st : ∀ {p : PM Int}, Strong p → p m n = .ok (v, m1, ns) → m < m1 ∧ v + 1 = (n : Int) + ns.length ∧ 0 < ns.length := fun hs h => ⟨hs.1 _ _ _ _ _ h, hs.2 _ _ _ _ _ h⟩
 have no : pok (-1) m n = .ok (v, m1, ns) → v = -1 ∧ m1 = m ∧ ns = [] := fun h => by simp [pok] at h; exact ⟨h.1.symm, h.2.1.symm, h.2.2⟩
 unfold stmtP at h
 split at h
 · exact Or.inl (no h)
 split at h
 · exact Or.inr (st (qbe _ he) h)
 split at h
 · exact Or.inr (st (qbe _ he) h)
 split at h
 · exact Or.inr (st (qcM he) h)
 split at h
 · exact Or.inr (st (qaK _ he) h)
 split at h
 · exact Or.inr (st (qaK _ he) h)
 split at h
 · exact Or.inr (st (qaK _ he) h)
 split at h
 · exact Or.inr (st (qcp he hb) h)
 split at h
 · exact Or.inr (st (qcl he hb) h)
 split at h
 · exact Or.inr (st (qbP hb) h)
 · exact Or.inl (no h)
theorem Fwd.stmt (he : Fwd ex) (hb : Fwd br) : Fwd (stmtP L ex br) := by
 intro m n v m1 ns h
 rcases stmt_ok he hb h with ⟨_, rfl, _⟩ | ⟨h1, _⟩
 · exact Nat.le_refl _
 · omega
end
section
variable (L : Toks)
theorem Fwd.two {cl : PM Int} (hc : Fwd cl) (ss : List ByteArray) : ∀ g a, Fwd (qaZ L cl ss g a)
 | 0, a => Fwd.ok a
 | g + 1, a => by
  rw [qaZ]
  refine Fwd.bind (Fwd.oneOf L ss) fun o => ?_
  cases o with
  | none => exact Fwd.ok a
  | some s => exact Fwd.bind hc fun b => Fwd.bind (Fwd.lay L _) fun a' => Fwd.two hc ss g a'
theorem Fwd.twoP {cl : PM Int} (hc : Fwd cl) (ss : List ByteArray) : Fwd (twoP L cl ss) := Fwd.bind hc fun a => Fwd.two L hc ss _ a
theorem Fwd.comp {o : PM Int} (ho : Fwd o) : Fwd (compP L o) := by
 have hj : Fwd (joinP L o) := Fwd.twoP L (Fwd.twoP L (Fwd.twoP L ho _) _) _
 refine Fwd.bind hj fun a => Fwd.bind (Fwd.oneOf L _) fun o => ?_
 cases o with
 | none => exact Fwd.ok a
 | some s => exact Fwd.bind hj fun b => Fwd.lay L _
theorem Fwd.or {o : PM Int} (ho : Fwd o) : Fwd (orP L o) := Fwd.twoP L (Fwd.twoP L (Fwd.comp L ho) _) _
theorem Fwd.within (k : Int) (d : Nat) {o1 : PM Int} (ho : Fwd o1) : Fwd (qcP L k d o1) := Fwd.bind (Fwd.deep L _) fun _ => Fwd.bind ho fun _ => Fwd.lay L _
theorem Fwd.one (d : Nat) {e1 o1 : PM Int} (he : Fwd e1) (ho : Fwd o1) : Fwd (oneP L d e1 o1) := by
 have sk : ∀ {p : PM Int}, Fwd p → Fwd (pbind skipP fun _ => p) := fun hp => Fwd.bind Fwd.skip fun _ => hp
 have hs : Fwd (qee L d e1 o1) := by
  intro m n v m1 ns h
  unfold qee at h
  split at h
  · exact sk (Fwd.within L _ d ho) _ _ _ _ _ h
  split at h
  · exact sk (Fwd.bind he fun _ => Fwd.bind (Fwd.must L _) fun _ => Fwd.ok _) _ _ _ _ _ h
  · exact Fwd.no L _ _ _ _ _ _ h
 have hw : Fwd (qdW L d e1 o1) := by
  intro m n v m1 ns h
  unfold qdW at h
  split at h
  · split at h
    · exact sk (Fwd.within L _ d ho) _ _ _ _ _ h
    split at h
    · exact sk (Fwd.lay L _) _ _ _ _ _ h
    split at h
    · exact sk (Fwd.lay L _) _ _ _ _ _ h
    split at h
    · exact sk (Fwd.lay L _) _ _ _ _ _ h
    · exact Fwd.no L _ _ _ _ _ _ h
  · exact Fwd.bind Fwd.skip (fun _ => Fwd.bind (Fwd.must L _) fun _ => Fwd.bind he fun _ => Fwd.bind (Fwd.must L _) fun _ => Fwd.lay L _) _ _ _ _ _ h
 intro m n v m1 ns h
 unfold oneP at h
 split at h
 · exact sk (Fwd.lay L _) _ _ _ _ _ h
 split at h
 · exact sk (Fwd.lay L _) _ _ _ _ _ h
 split at h
 · exact sk (Fwd.lay L _) _ _ _ _ _ h
 split at h
 · exact hs _ _ _ _ _ h
 split at h
 · exact hw _ _ _ _ _ h
 · exact Fwd.no L _ _ _ _ _ _ h
theorem Fwd.exprD : ∀ D, Fwd (exprD L D).1 ∧ Fwd (exprD L D).2
 | 0 => ⟨Fwd.no L _, Fwd.no L _⟩
 | D + 1 => by
  have := Fwd.exprD D
  have ho := Fwd.one L (16 - D) this.1 this.2
  exact ⟨Fwd.or L ho, ho⟩
theorem Fwd.braced {b : PM Int} (hb : Fwd b) : Fwd (qbF L b) := Fwd.bind (Fwd.must L _) fun _ => Fwd.bind hb fun _ => Fwd.bind (Fwd.must L _) fun _ => Fwd.ok _
theorem Fwd.loop {st : PM Int} (hs : Fwd st) : ∀ g fi la acc m n v m1 ns, qbo st g fi la acc m n = .ok (v, m1, ns) → m ≤ m1
 | 0, fi, la, acc, m, n, v, m1, ns, h => by simp [qbo] at h; omega
 | g + 1, fi, la, acc, m, n, v, m1, ns, h => by
  rw [qbo] at h
  cases hst : st m (n + acc.length) with
  | error e => rw [hst] at h; simp at h
  | ok x =>
   obtain ⟨i, m2, ns2⟩ := x
   rw [hst] at h
   dsimp only at h
   have h1 := hs _ _ _ _ _ hst
   split at h
   · simp at h; omega
   split at h
   · exact Nat.le_trans h1 (Fwd.loop hs g _ _ _ _ _ _ _ _ h)
   · exact Nat.le_trans h1 (Fwd.loop hs g _ _ _ _ _ _ _ _ h)
theorem Fwd.blockD : ∀ D, Fwd (blockD L D)
 | 0 => Fwd.no L _
 | D + 1 => fun m n v m1 ns h => Fwd.loop (Fwd.stmt (Fwd.exprD L (D + 1)).1 (Fwd.braced L (Fwd.blockD D))) _ _ _ _ _ _ _ _ _ h
end
end Go.Proofs.YtijmfpoanggjjaaGreatDoor

namespace Go.Proofs.YtijmfpoanggjjaaGreatDoor
open Go.RowKit
attribute [go_sem] more_more Array.size_append
theorem ite_t {α : Type} {NS : List Nd} {p q : PM α} {m n : Nat} {r : PR α} (h : prep NS ((if true = true then p else q) m n) = r) : prep NS (p m n) = r := h
theorem ite_f {α : Type} {NS : List Nd} {p q : PM α} {m n : Nat} {r : PR α} (h : prep NS ((if false = true then p else q) m n) = r) : prep NS (q m n) = r := h
end Go.Proofs.YtijmfpoanggjjaaGreatDoor

namespace Go.Proofs.YtijmfpoanggjjaaGreatDoor
open Go.RowKit
attribute [go_sem] more_more Array.size_append
theorem ownsRow_set {w : World} {base : Nat} {e : TypeId} {size : Nat} {n g cap : Nat} {xs : List Value} (h : w.ownsRow base e size (.slice (some ⟨g, 0, none⟩) n cap) n xs) {i : Nat} (hi : i < n * size) (u : Value) :
  (w.setCell ⟨g, i, none⟩ u).ownsRow base e size (.slice (some ⟨g, 0, none⟩) n cap) n (xs.set i u) := by
 obtain ⟨h1, h2⟩ := h
 refine ⟨by simpa using h1, ?_⟩
 rcases h2 with ⟨h2, _⟩ | ⟨g', cap', cur, h2, hb, hg, hn, hm, hc, ht⟩
 · simp at h2
 · simp only [Value.slice.injEq, Option.some.injEq, Addr.mk.injEq, true_and, and_true] at h2
   obtain ⟨rfl, rfl⟩ := h2
   refine Or.inr ⟨g, cap, cur.setIfInBounds i u, rfl, hb, ?_, hn, hm, by simpa using hc, ?_⟩
   · simp [World.setCell, Array.getElem?_modify, hg]
   · rw [Array.toList_setIfInBounds, List.take_set, ht]
theorem qdh : ∀ (l : List Nd) (j : Nat) (v : Int), j < l.length → qac (setNext l j v) = (qac l).set (j * 8 + 4) (.int .i64 v)
 | [], j, v, h => by simp at h
 | z :: l, 0, v, _ => by simp [setNext, qac, ndL]
 | z :: l, j + 1, v, h => by
  have := qdh l j v (by simpa using h)
  have e1 : setNext (z :: l) (j + 1) v = z :: setNext l j v := by simp [setNext]
  have e2 : ∀ l, qac (z :: l) = ndL z ++ qac l := fun _ => rfl
  rw [e1, e2, e2, this, List.set_append_right _ _ (by simp [ndL]; omega)]
  congr 2
  simp [ndL]; omega
theorem qci (l : List Nd) (j : Nat) (v : Int) : (setNext l j v).length = l.length := by simp [setNext]
theorem qdF (a l : List Nd) (j : Nat) (v : Int) : setNext (a ++ l) (a.length + j) v = a ++ setNext l j v := by
 simp only [setNext]
 induction a with
 | nil => simp
 | cons z a ih =>
  have e : (z :: a).length + j = (a.length + j) + 1 := by simp; omega
  rw [e, List.cons_append, List.modify_succ_cons, ih]; rfl
theorem Kp.setRow {b : Nat} {nv nv1 : Value} {w w1 : World} (h : Kp b nv nv1 w w1) {g : Nat} (hg : nv1.ownBlock = some g) (i : Nat) (v : Value) : Kp b nv nv1 w (w1.setCell ⟨g, i, none⟩ v) := by
 refine ⟨h.os, h.tape, h.output, by simpa [World.setCell] using h.size, fun j hj hb hn => ?_, h.row⟩
 rw [heap_set_other _ _ _ _ _ ?_]
 · exact h.block j hj hb hn
 · intro e
   subst e
   rcases h.row with e | e
   · exact hn (e ▸ hg)
   · have := e _ hg; omega
end Go.Proofs.YtijmfpoanggjjaaGreatDoor

namespace Go.Proofs.YtijmfpoanggjjaaGreatDoor
open Go.RowKit
/-- each of the places is followed by the next one -/
def qba (n : Nat) : List Int → List Nd → List Nd
 | a :: b :: r, acc => qba n (b :: r) (setNext acc (a.toNat - n) b)
 | _, acc => acc
theorem qdc (l : List Nd) (j : Nat) (v : Int) : (setNext l j v).length = l.length := by simp [setNext]
theorem setNext_left (a b : List Nd) (j : Nat) (v : Int) (h : j < a.length) : setNext (a ++ b) j v = setNext a j v ++ b := by
 unfold setNext
 induction a generalizing j with
 | nil => simp at h
 | cons z a ih =>
  cases j with
  | zero => simp
  | succ j => simp only [List.cons_append, List.modify_succ_cons]; rw [ih j (by simpa using h)]
theorem qck (n : Nat) : ∀ (l : List Int) (acc : List Nd), (qba n l acc).length = acc.length
 | [], acc => rfl
 | [a], acc => rfl
 | a :: b :: r, acc => by rw [qba, qck n (b :: r), qdc]
theorem qca (n : Nat) (i : Int) (ns : List Nd) : ∀ (l : List Int) (acc : List Nd) (hl : l ≠ []), (∀ x ∈ l, (n : Int) ≤ x ∧ x < (n : Int) + acc.length) →
  qba n (l ++ [i]) (acc ++ ns) = setNext (qba n l acc ++ ns) ((l.getLast hl).toNat - n) i
 | [], acc, hl, _ => absurd rfl hl
 | [a], acc, _, h => rfl
 | a :: b :: r, acc, _, h => by
  have ha := h a zbt
  have e : qba n (a :: b :: r ++ [i]) (acc ++ ns) = qba n (b :: r ++ [i]) (setNext (acc ++ ns) (a.toNat - n) b) := rfl
  rw [e, setNext_left _ _ _ _ zal, qca n i ns (b :: r) _ zbt (fun x hx => by rw [qdc]; exact h x (by simp [List.mem_cons] at hx ⊢; exact Or.inr hx))]
  rfl
/-- the document's statements, not yet qdH: their places, how far, their nodes -/
def blockR (st : PM Int) : Nat → List Int → List Nd → Nat → Nat → Except (Int × Int) (List Int × Nat × List Nd)
 | 0, l, acc, m, _ => .ok (l, m, acc)
 | g + 1, l, acc, m, n => match st m (n + acc.length) with
  | .error e => .error e
  | .ok (i, m1, ns) => if i = -1 then .ok (l, m1, acc ++ ns) else blockR st g (l ++ [i]) (acc ++ ns) m1 n
def qcI : List Int → Int
 | [] => -1
 | a :: _ => a
/-- qdH at the end, it is the same -/
theorem qdN (st : PM Int) (hok : ∀ m n v m1 ns, st m n = .ok (v, m1, ns) → (v = -1 ∧ m1 = m ∧ ns = []) ∨ (m < m1 ∧ v + 1 = (n : Int) + ns.length ∧ 0 < ns.length)) :
  ∀ (g : Nat) (l : List Int) (acc : List Nd) (m n : Nat), (∀ x ∈ l, (n : Int) ≤ x ∧ x < (n : Int) + acc.length) →
  qbo st g (qcI l) (l.getLastD (-1)) (qba n l acc) m n = match blockR st g l acc m n with
   | .error e => .error e
   | .ok (l', m', acc') => .ok (qcI l', m', qba n l' acc')
 | 0, l, acc, m, n, h => rfl
 | g + 1, l, acc, m, n, h => by
  rw [qbo, blockR, qck]
  cases hs : st m (n + acc.length) with
  | error e => rfl
  | ok v =>
   obtain ⟨i, m1, ns⟩ := v
   dsimp only
   have hk := hok _ _ _ _ _ hs
   by_cases hi : i = -1
   · rw [if_pos hi, if_pos hi]
     rcases hk with ⟨_, _, rfl⟩ | ⟨_, h2, _⟩
     · simp
     · omega
   · rw [if_neg hi, if_neg hi]
     have hv : (n : Int) ≤ i ∧ i < (n : Int) + (acc ++ ns).length := by
      rcases hk with ⟨h1, _⟩ | ⟨_, h2, h3⟩
      · exact absurd h1 hi
      · simp only [List.length_append]; omega
     have hall : ∀ x ∈ l ++ [i], (n : Int) ≤ x ∧ x < (n : Int) + (acc ++ ns).length := by
      intro x hx
      rcases List.mem_append.1 hx with hx | hx
      · have := h x hx; simp only [List.length_append]; omega
      · simp at hx; subst hx; exact hv
     have ih := qdN st hok g (l ++ [i]) (acc ++ ns) m1 n hall
     cases l with
     | nil =>
      rw [if_pos (show qcI [] = -1 from rfl)]
      exact ih
     | cons a r =>
      have ha := h a zbt
      rw [if_neg (by show ¬ a = -1; omega)]
      rw [qca n i ns (a :: r) acc zbt h] at ih
      have e1 : qcI (a :: r ++ [i]) = qcI (a :: r) := rfl
      have e2 : (a :: r ++ [i]).getLastD (-1) = i := by rw [List.getLastD_eq_getLast?, List.getLast?_concat]; rfl
      rw [e1, e2] at ih
      have e3 : (a :: r).getLastD (-1) = (a :: r).getLast zbt := by rw [List.getLastD_eq_getLast?, List.getLast?_eq_some_getLast zbt]; rfl
      rw [e3]
      exact ih
end Go.Proofs.YtijmfpoanggjjaaGreatDoor

namespace Go.Proofs.YtijmfpoanggjjaaGreatDoor
open Go.RowKit
attribute [go_sem] more_more Array.size_append
/-- what Tokens hands back -/
def ParsePost (w : World) (r : Except (Int × Int) (List Nd × Int)) (e : Ending) (w' : World) : Prop :=
 match r with
 | .error (c, a) => e = .returned (.tuple #[.agg #[.slice none 0 0, .int .i64 0], .int .i64 c, .int .i64 a]) ∧ Ext w w'
 | .ok (ns, f) => ∃ nv, e = .returned (.tuple #[.agg #[nv, .int .i64 f], .int .i64 0, .int .i64 0]) ∧ w'.ownsRow w.heap.size 34 8 nv ns.length (qac ns) ∧ Ext w w'
def okAt (L : Toks) (j : Nat) : Bool := ((tk L j).1.k == 0) == decide (j + 1 = L.length)
theorem ends_yes {L : Toks} (h0 : 0 < L.length) (hf : L.length ≤ 5000) (h : ∀ j, j < L.length → okAt L j = true) : Ends L ∧ qdM L = progP L := by
 have he : endsOk L = true := by
  unfold endsOk
  rw [Bool.and_eq_true, List.all_eq_true]
  refine ⟨by cases L with | nil => simp at h0 | cons a l => simp, fun j hj => ?_⟩
  have := h j (by simpa using hj)
  unfold okAt at this
  exact this
 refine ⟨⟨h0, hf, fun j hj => ?_⟩, by unfold qdM; rw [he]; rfl⟩
 have := h j hj
 unfold okAt at this
 rw [beq_iff_eq] at this
 constructor
 · intro e; rw [e] at this; simpa using this.symm
 · intro e; have e2 := decide_eq_true e; rw [e2] at this; simpa using this
theorem ext_kp {b : Nat} {nv nv' : Value} {w w1 w2 : World} (hx : Ext w w1) (h : Kp b nv nv' w1 w2) (hb : w.heap.size ≤ b) (hn : nv.ownBlock = none) : Ext w w2 := by
 have h1 := hx.below
 refine Ext.of_below ⟨h.os.trans h1.os, h.tape.trans h1.tape, h.output.trans h1.output, Nat.le_trans h1.size h.size, fun k hk => ?_⟩
 rw [h.block k (Nat.lt_of_lt_of_le hk h1.size) zal (by rw [hn]; simp)]
 exact h1.block k hk
theorem Loc.two {b : Nat} {nv : Value} {k : Nat} {w : World} {v0 v1 : Value} {t : TypeId} (h : Loc b nv k (.cells #[v0, v1] t (0, 0)) w) : w.cell? ⟨k, 0, none⟩ = some v0 ∧ w.cell? ⟨k, 1, none⟩ = some v1 ∧ w.frozen? ⟨k, 0, none⟩ = false ∧ w.frozen? ⟨k, 1, none⟩ = false ∧ k < w.heap.size := by
 have := h.is
 refine ⟨?_, ?_, ?_, ?_, h.lt⟩ <;> simp [World.cell?, World.frozen?, this]
end Go.Proofs.YtijmfpoanggjjaaGreatDoor
