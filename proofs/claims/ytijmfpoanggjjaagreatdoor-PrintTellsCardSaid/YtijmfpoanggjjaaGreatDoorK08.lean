/- Lemmas for the claim (texts May4, what its proof uses of them). -/
import Derived.Test.YtijmfpoanggjjaaGreatDoorK03
import Derived.Test.YtijmfpoanggjjaaGreatDoorK07
set_option linter.unusedSimpArgs false
set_option linter.unusedVariables false
namespace Go.Proofs.YtijmfpoanggjjaaGreatDoor
open Go.RowKit
attribute [go_sem] more_more Array.size_append
theorem addB_id (A : Bool) (a : Int) (g : Nat → Nat) (h : A = true → a = -1) (j : Nat) : g j = addB A a g j := by
 unfold addB pone
 cases A
 · simp
 · rw [h rfl, if_pos rfl, if_neg zal]; rfl
theorem CkSt.idB {W : World} {c H : Nat} {nv : Value} {ns : List Nd} {fi : Int} {n : Nat} {g : Nat → Nat} {w : World} (h : CkSt W c H nv ns fi n g w) (A : Bool) (a : Int) (e : A = true → a = -1) : CkSt W c H nv ns fi n (addB A a g) w := h.congr fun j _ => addB_id A a g e j
theorem KB.alloc {k : Nat} {cs : Array Value} {T : TypeId} {w : World} (h : KB k cs T w) (b : Obj) : KB k cs T (w.alloc b) := h.of_ext ((Ext.refl w).alloc b)
theorem KB.more {k : Nat} {cs : Array Value} {T : TypeId} {w : World} (h : KB k cs T w) (d : Nat) (os : Array Obj) : KB k cs T (more w d os) := h.of_ext ((Ext.refl w).more d os)
theorem KB.newAt {k : Nat} (w : World) (cs : Array Value) (T : TypeId) (h : k = w.heap.size) : KB k cs T (w.alloc (.cells cs T (0, 0))) := by subst h; exact KB.new w cs T
def qag (z : Nd) : Bool := qae z.k && numOk z.k z.c z.i && (txt1 z.t (shT z.k) && txt2 z.k z.s (shS z.k))
def aB (ns : List Nd) (i : Nat) (z : Nd) : Bool := if shA z.k = true then qab ns z.a 0 i false else z.a == -1
def bB (ns : List Nd) (i : Nat) (z : Nd) : Bool := if shB z.k = true then qab ns z.b 0 i false else if shBB z.k = true then blkB ns z.b i else z.b == -1
def cB (ns : List Nd) (i : Nat) (z : Nd) : Bool := z.c == -1 || (shBC z.k && blkB ns z.c i)
def xB (ns : List Nd) (i : Nat) (z : Nd) : Bool := z.x == -1 || (decide (20 ≤ z.k) && qab ns z.x ((i : Int) + 1) ns.length true)
def nodeB (ns : List Nd) (i : Nat) (z : Nd) : Bool := qag z && (aB ns i z && bB ns i z && cB ns i z && xB ns i z)
end Go.Proofs.YtijmfpoanggjjaaGreatDoor
