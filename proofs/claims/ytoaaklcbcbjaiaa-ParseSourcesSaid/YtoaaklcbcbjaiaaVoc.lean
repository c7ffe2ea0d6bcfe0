/- Words for worlds that have only grown: 'more w d os' is w with new blocks os behind its heap and its draws at d; 'Ext w w'' says that w' is such a world. The rules read a block of w through it. -/
import Derived.WalkKit
import Derived.ProofKit
import Derived.OpenShut
import Derived.ShutString
import Derived.ChangeOld
import Derived.Below
import Derived.WalkLawsBesides
import Derived.WalkSpells
import Derived.Lib.Hide
namespace Go.Proofs.Ytoaaklcbcbjaiaa
open Go.RowKit

/-- the world with blocks more behind its heap, its draws at d -/
def more (w : World) (d : Nat) (os : Array Obj) : World := { w with drawn := d, heap := w.heap ++ os }

theorem more_size (w : World) (d : Nat) (os : Array Obj) : (more w d os).heap.size = w.heap.size + os.size := by simp [more]
theorem more_heap (w : World) (d : Nat) (os : Array Obj) (b : Nat) (h : b < w.heap.size) : (more w d os).heap[b]? = w.heap[b]? := by
  simp [more, Array.getElem?_append, h]
theorem more_cell (w : World) (d : Nat) (os : Array Obj) (b i : Nat) (h : b < w.heap.size) : (more w d os).cell? ⟨b, i, none⟩ = w.cell? ⟨b, i, none⟩ :=
  World.cell?_of_block (more_heap w d os b h)
theorem more_frozen (w : World) (d : Nat) (os : Array Obj) (b i : Nat) (h : b < w.heap.size) : (more w d os).frozen? ⟨b, i, none⟩ = w.frozen? ⟨b, i, none⟩ :=
  World.frozen?_of_block (more_heap w d os b h)
theorem more_tape (w : World) (d : Nat) (os : Array Obj) : (more w d os).tape = w.tape := rfl
theorem more_os (w : World) (d : Nat) (os : Array Obj) : (more w d os).os = w.os := rfl
theorem more_drawn (w : World) (d : Nat) (os : Array Obj) : (more w d os).drawn = d := rfl
theorem more_drew (w : World) (d : Nat) (os : Array Obj) : (more w d os).drew = more w (d + 1) os := rfl
theorem drew_more (w : World) (d : Nat) (os : Array Obj) : more w.drew d os = more w d os := rfl
theorem more_drewN (w : World) (d n : Nat) (os : Array Obj) : (more w d os).drewN n = more w (d + n) os := rfl
theorem drewN_more (w : World) (d n : Nat) (os : Array Obj) : more (w.drewN n) d os = more w d os := rfl
theorem more_shape (w : World) (d : Nat) (os : Array Obj) (b : Nat) (h : b < w.heap.size) : (more w d os).shape? b = w.shape? b := by
  simp [World.shape?, more_heap w d os b h]
theorem more_setCell (w : World) (d : Nat) (os : Array Obj) (b i : Nat) (v : Value) (h : b < w.heap.size) :
    (more w d os).setCell ⟨b, i, none⟩ v = more (w.setCell ⟨b, i, none⟩ v) d os := by
  unfold World.setCell more
  congr 1
  apply Array.ext_getElem?
  intro k
  simp only [Array.getElem?_modify, Array.getElem?_append, Array.size_modify]
  by_cases hk : b = k
  · subst hk; simp [h]
  · simp [hk]
theorem more_more (w : World) (d d' : Nat) (os os' : Array Obj) : more (more w d os) d' os' = more w d' (os ++ os') := by simp [more, Array.append_assoc]

theorem ltF1 (a : Nat) (b0 : Nat) : a < a + 1 + b0 := by omega
theorem leF1 (a : Nat) (b0 : Nat) : a ≤ a + b0 := by omega
theorem neF1 (a : Nat) (b0 : Nat) : (a = a + 1 + b0) = False := by simp; omega
theorem neG1 (a : Nat) (b0 : Nat) : (a + 1 + b0 = a) = False := by simp; omega
theorem ltF2 (a : Nat) (b0 b1 : Nat) : a < a + 1 + b0 + b1 := by omega
theorem leF2 (a : Nat) (b0 b1 : Nat) : a ≤ a + b0 + b1 := by omega
theorem neF2 (a : Nat) (b0 b1 : Nat) : (a = a + 1 + b0 + b1) = False := by simp; omega
theorem neG2 (a : Nat) (b0 b1 : Nat) : (a + 1 + b0 + b1 = a) = False := by simp; omega
theorem ltF3 (a : Nat) (b0 b1 b2 : Nat) : a < a + 1 + b0 + b1 + b2 := by omega
theorem leF3 (a : Nat) (b0 b1 b2 : Nat) : a ≤ a + b0 + b1 + b2 := by omega
theorem neF3 (a : Nat) (b0 b1 b2 : Nat) : (a = a + 1 + b0 + b1 + b2) = False := by simp; omega
theorem neG3 (a : Nat) (b0 b1 b2 : Nat) : (a + 1 + b0 + b1 + b2 = a) = False := by simp; omega
theorem ltF4 (a : Nat) (b0 b1 b2 b3 : Nat) : a < a + 1 + b0 + b1 + b2 + b3 := by omega
theorem leF4 (a : Nat) (b0 b1 b2 b3 : Nat) : a ≤ a + b0 + b1 + b2 + b3 := by omega
theorem neF4 (a : Nat) (b0 b1 b2 b3 : Nat) : (a = a + 1 + b0 + b1 + b2 + b3) = False := by simp; omega
theorem neG4 (a : Nat) (b0 b1 b2 b3 : Nat) : (a + 1 + b0 + b1 + b2 + b3 = a) = False := by simp; omega
theorem ltF5 (a : Nat) (b0 b1 b2 b3 b4 : Nat) : a < a + 1 + b0 + b1 + b2 + b3 + b4 := by omega
theorem leF5 (a : Nat) (b0 b1 b2 b3 b4 : Nat) : a ≤ a + b0 + b1 + b2 + b3 + b4 := by omega
theorem neF5 (a : Nat) (b0 b1 b2 b3 b4 : Nat) : (a = a + 1 + b0 + b1 + b2 + b3 + b4) = False := by simp; omega
theorem neG5 (a : Nat) (b0 b1 b2 b3 b4 : Nat) : (a + 1 + b0 + b1 + b2 + b3 + b4 = a) = False := by simp; omega
theorem ltF6 (a : Nat) (b0 b1 b2 b3 b4 b5 : Nat) : a < a + 1 + b0 + b1 + b2 + b3 + b4 + b5 := by omega
theorem leF6 (a : Nat) (b0 b1 b2 b3 b4 b5 : Nat) : a ≤ a + b0 + b1 + b2 + b3 + b4 + b5 := by omega
theorem neF6 (a : Nat) (b0 b1 b2 b3 b4 b5 : Nat) : (a = a + 1 + b0 + b1 + b2 + b3 + b4 + b5) = False := by simp; omega
theorem neG6 (a : Nat) (b0 b1 b2 b3 b4 b5 : Nat) : (a + 1 + b0 + b1 + b2 + b3 + b4 + b5 = a) = False := by simp; omega
theorem ltF7 (a : Nat) (b0 b1 b2 b3 b4 b5 b6 : Nat) : a < a + 1 + b0 + b1 + b2 + b3 + b4 + b5 + b6 := by omega
theorem leF7 (a : Nat) (b0 b1 b2 b3 b4 b5 b6 : Nat) : a ≤ a + b0 + b1 + b2 + b3 + b4 + b5 + b6 := by omega
theorem neF7 (a : Nat) (b0 b1 b2 b3 b4 b5 b6 : Nat) : (a = a + 1 + b0 + b1 + b2 + b3 + b4 + b5 + b6) = False := by simp; omega
theorem neG7 (a : Nat) (b0 b1 b2 b3 b4 b5 b6 : Nat) : (a + 1 + b0 + b1 + b2 + b3 + b4 + b5 + b6 = a) = False := by simp; omega
theorem ltF8 (a : Nat) (b0 b1 b2 b3 b4 b5 b6 b7 : Nat) : a < a + 1 + b0 + b1 + b2 + b3 + b4 + b5 + b6 + b7 := by omega
theorem leF8 (a : Nat) (b0 b1 b2 b3 b4 b5 b6 b7 : Nat) : a ≤ a + b0 + b1 + b2 + b3 + b4 + b5 + b6 + b7 := by omega
theorem neF8 (a : Nat) (b0 b1 b2 b3 b4 b5 b6 b7 : Nat) : (a = a + 1 + b0 + b1 + b2 + b3 + b4 + b5 + b6 + b7) = False := by simp; omega
theorem neG8 (a : Nat) (b0 b1 b2 b3 b4 b5 b6 b7 : Nat) : (a + 1 + b0 + b1 + b2 + b3 + b4 + b5 + b6 + b7 = a) = False := by simp; omega
theorem ltF9 (a : Nat) (b0 b1 b2 b3 b4 b5 b6 b7 b8 : Nat) : a < a + 1 + b0 + b1 + b2 + b3 + b4 + b5 + b6 + b7 + b8 := by omega
theorem leF9 (a : Nat) (b0 b1 b2 b3 b4 b5 b6 b7 b8 : Nat) : a ≤ a + b0 + b1 + b2 + b3 + b4 + b5 + b6 + b7 + b8 := by omega
theorem neF9 (a : Nat) (b0 b1 b2 b3 b4 b5 b6 b7 b8 : Nat) : (a = a + 1 + b0 + b1 + b2 + b3 + b4 + b5 + b6 + b7 + b8) = False := by simp; omega
theorem neG9 (a : Nat) (b0 b1 b2 b3 b4 b5 b6 b7 b8 : Nat) : (a + 1 + b0 + b1 + b2 + b3 + b4 + b5 + b6 + b7 + b8 = a) = False := by simp; omega
theorem ltF10 (a : Nat) (b0 b1 b2 b3 b4 b5 b6 b7 b8 b9 : Nat) : a < a + 1 + b0 + b1 + b2 + b3 + b4 + b5 + b6 + b7 + b8 + b9 := by omega
theorem leF10 (a : Nat) (b0 b1 b2 b3 b4 b5 b6 b7 b8 b9 : Nat) : a ≤ a + b0 + b1 + b2 + b3 + b4 + b5 + b6 + b7 + b8 + b9 := by omega
theorem neF10 (a : Nat) (b0 b1 b2 b3 b4 b5 b6 b7 b8 b9 : Nat) : (a = a + 1 + b0 + b1 + b2 + b3 + b4 + b5 + b6 + b7 + b8 + b9) = False := by simp; omega
theorem neG10 (a : Nat) (b0 b1 b2 b3 b4 b5 b6 b7 b8 b9 : Nat) : (a + 1 + b0 + b1 + b2 + b3 + b4 + b5 + b6 + b7 + b8 + b9 = a) = False := by simp; omega
theorem ltF11 (a : Nat) (b0 b1 b2 b3 b4 b5 b6 b7 b8 b9 b10 : Nat) : a < a + 1 + b0 + b1 + b2 + b3 + b4 + b5 + b6 + b7 + b8 + b9 + b10 := by omega
theorem leF11 (a : Nat) (b0 b1 b2 b3 b4 b5 b6 b7 b8 b9 b10 : Nat) : a ≤ a + b0 + b1 + b2 + b3 + b4 + b5 + b6 + b7 + b8 + b9 + b10 := by omega
theorem neF11 (a : Nat) (b0 b1 b2 b3 b4 b5 b6 b7 b8 b9 b10 : Nat) : (a = a + 1 + b0 + b1 + b2 + b3 + b4 + b5 + b6 + b7 + b8 + b9 + b10) = False := by simp; omega
theorem neG11 (a : Nat) (b0 b1 b2 b3 b4 b5 b6 b7 b8 b9 b10 : Nat) : (a + 1 + b0 + b1 + b2 + b3 + b4 + b5 + b6 + b7 + b8 + b9 + b10 = a) = False := by simp; omega
theorem ltF12 (a : Nat) (b0 b1 b2 b3 b4 b5 b6 b7 b8 b9 b10 b11 : Nat) : a < a + 1 + b0 + b1 + b2 + b3 + b4 + b5 + b6 + b7 + b8 + b9 + b10 + b11 := by omega
theorem leF12 (a : Nat) (b0 b1 b2 b3 b4 b5 b6 b7 b8 b9 b10 b11 : Nat) : a ≤ a + b0 + b1 + b2 + b3 + b4 + b5 + b6 + b7 + b8 + b9 + b10 + b11 := by omega
theorem neF12 (a : Nat) (b0 b1 b2 b3 b4 b5 b6 b7 b8 b9 b10 b11 : Nat) : (a = a + 1 + b0 + b1 + b2 + b3 + b4 + b5 + b6 + b7 + b8 + b9 + b10 + b11) = False := by simp; omega
theorem neG12 (a : Nat) (b0 b1 b2 b3 b4 b5 b6 b7 b8 b9 b10 b11 : Nat) : (a + 1 + b0 + b1 + b2 + b3 + b4 + b5 + b6 + b7 + b8 + b9 + b10 + b11 = a) = False := by simp; omega
theorem ltF13 (a : Nat) (b0 b1 b2 b3 b4 b5 b6 b7 b8 b9 b10 b11 b12 : Nat) : a < a + 1 + b0 + b1 + b2 + b3 + b4 + b5 + b6 + b7 + b8 + b9 + b10 + b11 + b12 := by omega
theorem leF13 (a : Nat) (b0 b1 b2 b3 b4 b5 b6 b7 b8 b9 b10 b11 b12 : Nat) : a ≤ a + b0 + b1 + b2 + b3 + b4 + b5 + b6 + b7 + b8 + b9 + b10 + b11 + b12 := by omega
theorem neF13 (a : Nat) (b0 b1 b2 b3 b4 b5 b6 b7 b8 b9 b10 b11 b12 : Nat) : (a = a + 1 + b0 + b1 + b2 + b3 + b4 + b5 + b6 + b7 + b8 + b9 + b10 + b11 + b12) = False := by simp; omega
theorem neG13 (a : Nat) (b0 b1 b2 b3 b4 b5 b6 b7 b8 b9 b10 b11 b12 : Nat) : (a + 1 + b0 + b1 + b2 + b3 + b4 + b5 + b6 + b7 + b8 + b9 + b10 + b11 + b12 = a) = False := by simp; omega
theorem ltF14 (a : Nat) (b0 b1 b2 b3 b4 b5 b6 b7 b8 b9 b10 b11 b12 b13 : Nat) : a < a + 1 + b0 + b1 + b2 + b3 + b4 + b5 + b6 + b7 + b8 + b9 + b10 + b11 + b12 + b13 := by omega
theorem leF14 (a : Nat) (b0 b1 b2 b3 b4 b5 b6 b7 b8 b9 b10 b11 b12 b13 : Nat) : a ≤ a + b0 + b1 + b2 + b3 + b4 + b5 + b6 + b7 + b8 + b9 + b10 + b11 + b12 + b13 := by omega
theorem neF14 (a : Nat) (b0 b1 b2 b3 b4 b5 b6 b7 b8 b9 b10 b11 b12 b13 : Nat) : (a = a + 1 + b0 + b1 + b2 + b3 + b4 + b5 + b6 + b7 + b8 + b9 + b10 + b11 + b12 + b13) = False := by simp; omega
theorem neG14 (a : Nat) (b0 b1 b2 b3 b4 b5 b6 b7 b8 b9 b10 b11 b12 b13 : Nat) : (a + 1 + b0 + b1 + b2 + b3 + b4 + b5 + b6 + b7 + b8 + b9 + b10 + b11 + b12 + b13 = a) = False := by simp; omega
theorem ltF15 (a : Nat) (b0 b1 b2 b3 b4 b5 b6 b7 b8 b9 b10 b11 b12 b13 b14 : Nat) : a < a + 1 + b0 + b1 + b2 + b3 + b4 + b5 + b6 + b7 + b8 + b9 + b10 + b11 + b12 + b13 + b14 := by omega
theorem leF15 (a : Nat) (b0 b1 b2 b3 b4 b5 b6 b7 b8 b9 b10 b11 b12 b13 b14 : Nat) : a ≤ a + b0 + b1 + b2 + b3 + b4 + b5 + b6 + b7 + b8 + b9 + b10 + b11 + b12 + b13 + b14 := by omega
theorem neF15 (a : Nat) (b0 b1 b2 b3 b4 b5 b6 b7 b8 b9 b10 b11 b12 b13 b14 : Nat) : (a = a + 1 + b0 + b1 + b2 + b3 + b4 + b5 + b6 + b7 + b8 + b9 + b10 + b11 + b12 + b13 + b14) = False := by simp; omega
theorem neG15 (a : Nat) (b0 b1 b2 b3 b4 b5 b6 b7 b8 b9 b10 b11 b12 b13 b14 : Nat) : (a + 1 + b0 + b1 + b2 + b3 + b4 + b5 + b6 + b7 + b8 + b9 + b10 + b11 + b12 + b13 + b14 = a) = False := by simp; omega
theorem ltF16 (a : Nat) (b0 b1 b2 b3 b4 b5 b6 b7 b8 b9 b10 b11 b12 b13 b14 b15 : Nat) : a < a + 1 + b0 + b1 + b2 + b3 + b4 + b5 + b6 + b7 + b8 + b9 + b10 + b11 + b12 + b13 + b14 + b15 := by omega
theorem leF16 (a : Nat) (b0 b1 b2 b3 b4 b5 b6 b7 b8 b9 b10 b11 b12 b13 b14 b15 : Nat) : a ≤ a + b0 + b1 + b2 + b3 + b4 + b5 + b6 + b7 + b8 + b9 + b10 + b11 + b12 + b13 + b14 + b15 := by omega
theorem neF16 (a : Nat) (b0 b1 b2 b3 b4 b5 b6 b7 b8 b9 b10 b11 b12 b13 b14 b15 : Nat) : (a = a + 1 + b0 + b1 + b2 + b3 + b4 + b5 + b6 + b7 + b8 + b9 + b10 + b11 + b12 + b13 + b14 + b15) = False := by simp; omega
theorem neG16 (a : Nat) (b0 b1 b2 b3 b4 b5 b6 b7 b8 b9 b10 b11 b12 b13 b14 b15 : Nat) : (a + 1 + b0 + b1 + b2 + b3 + b4 + b5 + b6 + b7 + b8 + b9 + b10 + b11 + b12 + b13 + b14 + b15 = a) = False := by simp; omega
theorem ltF17 (a : Nat) (b0 b1 b2 b3 b4 b5 b6 b7 b8 b9 b10 b11 b12 b13 b14 b15 b16 : Nat) : a < a + 1 + b0 + b1 + b2 + b3 + b4 + b5 + b6 + b7 + b8 + b9 + b10 + b11 + b12 + b13 + b14 + b15 + b16 := by omega
theorem leF17 (a : Nat) (b0 b1 b2 b3 b4 b5 b6 b7 b8 b9 b10 b11 b12 b13 b14 b15 b16 : Nat) : a ≤ a + b0 + b1 + b2 + b3 + b4 + b5 + b6 + b7 + b8 + b9 + b10 + b11 + b12 + b13 + b14 + b15 + b16 := by omega
theorem neF17 (a : Nat) (b0 b1 b2 b3 b4 b5 b6 b7 b8 b9 b10 b11 b12 b13 b14 b15 b16 : Nat) : (a = a + 1 + b0 + b1 + b2 + b3 + b4 + b5 + b6 + b7 + b8 + b9 + b10 + b11 + b12 + b13 + b14 + b15 + b16) = False := by simp; omega
theorem neG17 (a : Nat) (b0 b1 b2 b3 b4 b5 b6 b7 b8 b9 b10 b11 b12 b13 b14 b15 b16 : Nat) : (a + 1 + b0 + b1 + b2 + b3 + b4 + b5 + b6 + b7 + b8 + b9 + b10 + b11 + b12 + b13 + b14 + b15 + b16 = a) = False := by simp; omega
theorem ltF18 (a : Nat) (b0 b1 b2 b3 b4 b5 b6 b7 b8 b9 b10 b11 b12 b13 b14 b15 b16 b17 : Nat) : a < a + 1 + b0 + b1 + b2 + b3 + b4 + b5 + b6 + b7 + b8 + b9 + b10 + b11 + b12 + b13 + b14 + b15 + b16 + b17 := by omega
theorem leF18 (a : Nat) (b0 b1 b2 b3 b4 b5 b6 b7 b8 b9 b10 b11 b12 b13 b14 b15 b16 b17 : Nat) : a ≤ a + b0 + b1 + b2 + b3 + b4 + b5 + b6 + b7 + b8 + b9 + b10 + b11 + b12 + b13 + b14 + b15 + b16 + b17 := by omega
theorem neF18 (a : Nat) (b0 b1 b2 b3 b4 b5 b6 b7 b8 b9 b10 b11 b12 b13 b14 b15 b16 b17 : Nat) : (a = a + 1 + b0 + b1 + b2 + b3 + b4 + b5 + b6 + b7 + b8 + b9 + b10 + b11 + b12 + b13 + b14 + b15 + b16 + b17) = False := by simp; omega
theorem neG18 (a : Nat) (b0 b1 b2 b3 b4 b5 b6 b7 b8 b9 b10 b11 b12 b13 b14 b15 b16 b17 : Nat) : (a + 1 + b0 + b1 + b2 + b3 + b4 + b5 + b6 + b7 + b8 + b9 + b10 + b11 + b12 + b13 + b14 + b15 + b16 + b17 = a) = False := by simp; omega
theorem ltF19 (a : Nat) (b0 b1 b2 b3 b4 b5 b6 b7 b8 b9 b10 b11 b12 b13 b14 b15 b16 b17 b18 : Nat) : a < a + 1 + b0 + b1 + b2 + b3 + b4 + b5 + b6 + b7 + b8 + b9 + b10 + b11 + b12 + b13 + b14 + b15 + b16 + b17 + b18 := by omega
theorem leF19 (a : Nat) (b0 b1 b2 b3 b4 b5 b6 b7 b8 b9 b10 b11 b12 b13 b14 b15 b16 b17 b18 : Nat) : a ≤ a + b0 + b1 + b2 + b3 + b4 + b5 + b6 + b7 + b8 + b9 + b10 + b11 + b12 + b13 + b14 + b15 + b16 + b17 + b18 := by omega
theorem neF19 (a : Nat) (b0 b1 b2 b3 b4 b5 b6 b7 b8 b9 b10 b11 b12 b13 b14 b15 b16 b17 b18 : Nat) : (a = a + 1 + b0 + b1 + b2 + b3 + b4 + b5 + b6 + b7 + b8 + b9 + b10 + b11 + b12 + b13 + b14 + b15 + b16 + b17 + b18) = False := by simp; omega
theorem neG19 (a : Nat) (b0 b1 b2 b3 b4 b5 b6 b7 b8 b9 b10 b11 b12 b13 b14 b15 b16 b17 b18 : Nat) : (a + 1 + b0 + b1 + b2 + b3 + b4 + b5 + b6 + b7 + b8 + b9 + b10 + b11 + b12 + b13 + b14 + b15 + b16 + b17 + b18 = a) = False := by simp; omega
theorem ltF20 (a : Nat) (b0 b1 b2 b3 b4 b5 b6 b7 b8 b9 b10 b11 b12 b13 b14 b15 b16 b17 b18 b19 : Nat) : a < a + 1 + b0 + b1 + b2 + b3 + b4 + b5 + b6 + b7 + b8 + b9 + b10 + b11 + b12 + b13 + b14 + b15 + b16 + b17 + b18 + b19 := by omega
theorem leF20 (a : Nat) (b0 b1 b2 b3 b4 b5 b6 b7 b8 b9 b10 b11 b12 b13 b14 b15 b16 b17 b18 b19 : Nat) : a ≤ a + b0 + b1 + b2 + b3 + b4 + b5 + b6 + b7 + b8 + b9 + b10 + b11 + b12 + b13 + b14 + b15 + b16 + b17 + b18 + b19 := by omega
theorem neF20 (a : Nat) (b0 b1 b2 b3 b4 b5 b6 b7 b8 b9 b10 b11 b12 b13 b14 b15 b16 b17 b18 b19 : Nat) : (a = a + 1 + b0 + b1 + b2 + b3 + b4 + b5 + b6 + b7 + b8 + b9 + b10 + b11 + b12 + b13 + b14 + b15 + b16 + b17 + b18 + b19) = False := by simp; omega
theorem neG20 (a : Nat) (b0 b1 b2 b3 b4 b5 b6 b7 b8 b9 b10 b11 b12 b13 b14 b15 b16 b17 b18 b19 : Nat) : (a + 1 + b0 + b1 + b2 + b3 + b4 + b5 + b6 + b7 + b8 + b9 + b10 + b11 + b12 + b13 + b14 + b15 + b16 + b17 + b18 + b19 = a) = False := by simp; omega
theorem ltF21 (a : Nat) (b0 b1 b2 b3 b4 b5 b6 b7 b8 b9 b10 b11 b12 b13 b14 b15 b16 b17 b18 b19 b20 : Nat) : a < a + 1 + b0 + b1 + b2 + b3 + b4 + b5 + b6 + b7 + b8 + b9 + b10 + b11 + b12 + b13 + b14 + b15 + b16 + b17 + b18 + b19 + b20 := by omega
theorem leF21 (a : Nat) (b0 b1 b2 b3 b4 b5 b6 b7 b8 b9 b10 b11 b12 b13 b14 b15 b16 b17 b18 b19 b20 : Nat) : a ≤ a + b0 + b1 + b2 + b3 + b4 + b5 + b6 + b7 + b8 + b9 + b10 + b11 + b12 + b13 + b14 + b15 + b16 + b17 + b18 + b19 + b20 := by omega
theorem neF21 (a : Nat) (b0 b1 b2 b3 b4 b5 b6 b7 b8 b9 b10 b11 b12 b13 b14 b15 b16 b17 b18 b19 b20 : Nat) : (a = a + 1 + b0 + b1 + b2 + b3 + b4 + b5 + b6 + b7 + b8 + b9 + b10 + b11 + b12 + b13 + b14 + b15 + b16 + b17 + b18 + b19 + b20) = False := by simp; omega
theorem neG21 (a : Nat) (b0 b1 b2 b3 b4 b5 b6 b7 b8 b9 b10 b11 b12 b13 b14 b15 b16 b17 b18 b19 b20 : Nat) : (a + 1 + b0 + b1 + b2 + b3 + b4 + b5 + b6 + b7 + b8 + b9 + b10 + b11 + b12 + b13 + b14 + b15 + b16 + b17 + b18 + b19 + b20 = a) = False := by simp; omega
theorem ltF22 (a : Nat) (b0 b1 b2 b3 b4 b5 b6 b7 b8 b9 b10 b11 b12 b13 b14 b15 b16 b17 b18 b19 b20 b21 : Nat) : a < a + 1 + b0 + b1 + b2 + b3 + b4 + b5 + b6 + b7 + b8 + b9 + b10 + b11 + b12 + b13 + b14 + b15 + b16 + b17 + b18 + b19 + b20 + b21 := by omega
theorem leF22 (a : Nat) (b0 b1 b2 b3 b4 b5 b6 b7 b8 b9 b10 b11 b12 b13 b14 b15 b16 b17 b18 b19 b20 b21 : Nat) : a ≤ a + b0 + b1 + b2 + b3 + b4 + b5 + b6 + b7 + b8 + b9 + b10 + b11 + b12 + b13 + b14 + b15 + b16 + b17 + b18 + b19 + b20 + b21 := by omega
theorem neF22 (a : Nat) (b0 b1 b2 b3 b4 b5 b6 b7 b8 b9 b10 b11 b12 b13 b14 b15 b16 b17 b18 b19 b20 b21 : Nat) : (a = a + 1 + b0 + b1 + b2 + b3 + b4 + b5 + b6 + b7 + b8 + b9 + b10 + b11 + b12 + b13 + b14 + b15 + b16 + b17 + b18 + b19 + b20 + b21) = False := by simp; omega
theorem neG22 (a : Nat) (b0 b1 b2 b3 b4 b5 b6 b7 b8 b9 b10 b11 b12 b13 b14 b15 b16 b17 b18 b19 b20 b21 : Nat) : (a + 1 + b0 + b1 + b2 + b3 + b4 + b5 + b6 + b7 + b8 + b9 + b10 + b11 + b12 + b13 + b14 + b15 + b16 + b17 + b18 + b19 + b20 + b21 = a) = False := by simp; omega
theorem ltF23 (a : Nat) (b0 b1 b2 b3 b4 b5 b6 b7 b8 b9 b10 b11 b12 b13 b14 b15 b16 b17 b18 b19 b20 b21 b22 : Nat) : a < a + 1 + b0 + b1 + b2 + b3 + b4 + b5 + b6 + b7 + b8 + b9 + b10 + b11 + b12 + b13 + b14 + b15 + b16 + b17 + b18 + b19 + b20 + b21 + b22 := by omega
theorem leF23 (a : Nat) (b0 b1 b2 b3 b4 b5 b6 b7 b8 b9 b10 b11 b12 b13 b14 b15 b16 b17 b18 b19 b20 b21 b22 : Nat) : a ≤ a + b0 + b1 + b2 + b3 + b4 + b5 + b6 + b7 + b8 + b9 + b10 + b11 + b12 + b13 + b14 + b15 + b16 + b17 + b18 + b19 + b20 + b21 + b22 := by omega
theorem neF23 (a : Nat) (b0 b1 b2 b3 b4 b5 b6 b7 b8 b9 b10 b11 b12 b13 b14 b15 b16 b17 b18 b19 b20 b21 b22 : Nat) : (a = a + 1 + b0 + b1 + b2 + b3 + b4 + b5 + b6 + b7 + b8 + b9 + b10 + b11 + b12 + b13 + b14 + b15 + b16 + b17 + b18 + b19 + b20 + b21 + b22) = False := by simp; omega
theorem neG23 (a : Nat) (b0 b1 b2 b3 b4 b5 b6 b7 b8 b9 b10 b11 b12 b13 b14 b15 b16 b17 b18 b19 b20 b21 b22 : Nat) : (a + 1 + b0 + b1 + b2 + b3 + b4 + b5 + b6 + b7 + b8 + b9 + b10 + b11 + b12 + b13 + b14 + b15 + b16 + b17 + b18 + b19 + b20 + b21 + b22 = a) = False := by simp; omega
theorem ltF24 (a : Nat) (b0 b1 b2 b3 b4 b5 b6 b7 b8 b9 b10 b11 b12 b13 b14 b15 b16 b17 b18 b19 b20 b21 b22 b23 : Nat) : a < a + 1 + b0 + b1 + b2 + b3 + b4 + b5 + b6 + b7 + b8 + b9 + b10 + b11 + b12 + b13 + b14 + b15 + b16 + b17 + b18 + b19 + b20 + b21 + b22 + b23 := by omega
theorem leF24 (a : Nat) (b0 b1 b2 b3 b4 b5 b6 b7 b8 b9 b10 b11 b12 b13 b14 b15 b16 b17 b18 b19 b20 b21 b22 b23 : Nat) : a ≤ a + b0 + b1 + b2 + b3 + b4 + b5 + b6 + b7 + b8 + b9 + b10 + b11 + b12 + b13 + b14 + b15 + b16 + b17 + b18 + b19 + b20 + b21 + b22 + b23 := by omega
theorem neF24 (a : Nat) (b0 b1 b2 b3 b4 b5 b6 b7 b8 b9 b10 b11 b12 b13 b14 b15 b16 b17 b18 b19 b20 b21 b22 b23 : Nat) : (a = a + 1 + b0 + b1 + b2 + b3 + b4 + b5 + b6 + b7 + b8 + b9 + b10 + b11 + b12 + b13 + b14 + b15 + b16 + b17 + b18 + b19 + b20 + b21 + b22 + b23) = False := by simp; omega
theorem neG24 (a : Nat) (b0 b1 b2 b3 b4 b5 b6 b7 b8 b9 b10 b11 b12 b13 b14 b15 b16 b17 b18 b19 b20 b21 b22 b23 : Nat) : (a + 1 + b0 + b1 + b2 + b3 + b4 + b5 + b6 + b7 + b8 + b9 + b10 + b11 + b12 + b13 + b14 + b15 + b16 + b17 + b18 + b19 + b20 + b21 + b22 + b23 = a) = False := by simp; omega
theorem ltF25 (a : Nat) (b0 b1 b2 b3 b4 b5 b6 b7 b8 b9 b10 b11 b12 b13 b14 b15 b16 b17 b18 b19 b20 b21 b22 b23 b24 : Nat) : a < a + 1 + b0 + b1 + b2 + b3 + b4 + b5 + b6 + b7 + b8 + b9 + b10 + b11 + b12 + b13 + b14 + b15 + b16 + b17 + b18 + b19 + b20 + b21 + b22 + b23 + b24 := by omega
theorem leF25 (a : Nat) (b0 b1 b2 b3 b4 b5 b6 b7 b8 b9 b10 b11 b12 b13 b14 b15 b16 b17 b18 b19 b20 b21 b22 b23 b24 : Nat) : a ≤ a + b0 + b1 + b2 + b3 + b4 + b5 + b6 + b7 + b8 + b9 + b10 + b11 + b12 + b13 + b14 + b15 + b16 + b17 + b18 + b19 + b20 + b21 + b22 + b23 + b24 := by omega
theorem neF25 (a : Nat) (b0 b1 b2 b3 b4 b5 b6 b7 b8 b9 b10 b11 b12 b13 b14 b15 b16 b17 b18 b19 b20 b21 b22 b23 b24 : Nat) : (a = a + 1 + b0 + b1 + b2 + b3 + b4 + b5 + b6 + b7 + b8 + b9 + b10 + b11 + b12 + b13 + b14 + b15 + b16 + b17 + b18 + b19 + b20 + b21 + b22 + b23 + b24) = False := by simp; omega
theorem neG25 (a : Nat) (b0 b1 b2 b3 b4 b5 b6 b7 b8 b9 b10 b11 b12 b13 b14 b15 b16 b17 b18 b19 b20 b21 b22 b23 b24 : Nat) : (a + 1 + b0 + b1 + b2 + b3 + b4 + b5 + b6 + b7 + b8 + b9 + b10 + b11 + b12 + b13 + b14 + b15 + b16 + b17 + b18 + b19 + b20 + b21 + b22 + b23 + b24 = a) = False := by simp; omega
theorem ltF26 (a : Nat) (b0 b1 b2 b3 b4 b5 b6 b7 b8 b9 b10 b11 b12 b13 b14 b15 b16 b17 b18 b19 b20 b21 b22 b23 b24 b25 : Nat) : a < a + 1 + b0 + b1 + b2 + b3 + b4 + b5 + b6 + b7 + b8 + b9 + b10 + b11 + b12 + b13 + b14 + b15 + b16 + b17 + b18 + b19 + b20 + b21 + b22 + b23 + b24 + b25 := by omega
theorem leF26 (a : Nat) (b0 b1 b2 b3 b4 b5 b6 b7 b8 b9 b10 b11 b12 b13 b14 b15 b16 b17 b18 b19 b20 b21 b22 b23 b24 b25 : Nat) : a ≤ a + b0 + b1 + b2 + b3 + b4 + b5 + b6 + b7 + b8 + b9 + b10 + b11 + b12 + b13 + b14 + b15 + b16 + b17 + b18 + b19 + b20 + b21 + b22 + b23 + b24 + b25 := by omega
theorem neF26 (a : Nat) (b0 b1 b2 b3 b4 b5 b6 b7 b8 b9 b10 b11 b12 b13 b14 b15 b16 b17 b18 b19 b20 b21 b22 b23 b24 b25 : Nat) : (a = a + 1 + b0 + b1 + b2 + b3 + b4 + b5 + b6 + b7 + b8 + b9 + b10 + b11 + b12 + b13 + b14 + b15 + b16 + b17 + b18 + b19 + b20 + b21 + b22 + b23 + b24 + b25) = False := by simp; omega
theorem neG26 (a : Nat) (b0 b1 b2 b3 b4 b5 b6 b7 b8 b9 b10 b11 b12 b13 b14 b15 b16 b17 b18 b19 b20 b21 b22 b23 b24 b25 : Nat) : (a + 1 + b0 + b1 + b2 + b3 + b4 + b5 + b6 + b7 + b8 + b9 + b10 + b11 + b12 + b13 + b14 + b15 + b16 + b17 + b18 + b19 + b20 + b21 + b22 + b23 + b24 + b25 = a) = False := by simp; omega
theorem ltF27 (a : Nat) (b0 b1 b2 b3 b4 b5 b6 b7 b8 b9 b10 b11 b12 b13 b14 b15 b16 b17 b18 b19 b20 b21 b22 b23 b24 b25 b26 : Nat) : a < a + 1 + b0 + b1 + b2 + b3 + b4 + b5 + b6 + b7 + b8 + b9 + b10 + b11 + b12 + b13 + b14 + b15 + b16 + b17 + b18 + b19 + b20 + b21 + b22 + b23 + b24 + b25 + b26 := by omega
theorem leF27 (a : Nat) (b0 b1 b2 b3 b4 b5 b6 b7 b8 b9 b10 b11 b12 b13 b14 b15 b16 b17 b18 b19 b20 b21 b22 b23 b24 b25 b26 : Nat) : a ≤ a + b0 + b1 + b2 + b3 + b4 + b5 + b6 + b7 + b8 + b9 + b10 + b11 + b12 + b13 + b14 + b15 + b16 + b17 + b18 + b19 + b20 + b21 + b22 + b23 + b24 + b25 + b26 := by omega
theorem neF27 (a : Nat) (b0 b1 b2 b3 b4 b5 b6 b7 b8 b9 b10 b11 b12 b13 b14 b15 b16 b17 b18 b19 b20 b21 b22 b23 b24 b25 b26 : Nat) : (a = a + 1 + b0 + b1 + b2 + b3 + b4 + b5 + b6 + b7 + b8 + b9 + b10 + b11 + b12 + b13 + b14 + b15 + b16 + b17 + b18 + b19 + b20 + b21 + b22 + b23 + b24 + b25 + b26) = False := by simp; omega
theorem neG27 (a : Nat) (b0 b1 b2 b3 b4 b5 b6 b7 b8 b9 b10 b11 b12 b13 b14 b15 b16 b17 b18 b19 b20 b21 b22 b23 b24 b25 b26 : Nat) : (a + 1 + b0 + b1 + b2 + b3 + b4 + b5 + b6 + b7 + b8 + b9 + b10 + b11 + b12 + b13 + b14 + b15 + b16 + b17 + b18 + b19 + b20 + b21 + b22 + b23 + b24 + b25 + b26 = a) = False := by simp; omega
theorem ltF28 (a : Nat) (b0 b1 b2 b3 b4 b5 b6 b7 b8 b9 b10 b11 b12 b13 b14 b15 b16 b17 b18 b19 b20 b21 b22 b23 b24 b25 b26 b27 : Nat) : a < a + 1 + b0 + b1 + b2 + b3 + b4 + b5 + b6 + b7 + b8 + b9 + b10 + b11 + b12 + b13 + b14 + b15 + b16 + b17 + b18 + b19 + b20 + b21 + b22 + b23 + b24 + b25 + b26 + b27 := by omega
theorem leF28 (a : Nat) (b0 b1 b2 b3 b4 b5 b6 b7 b8 b9 b10 b11 b12 b13 b14 b15 b16 b17 b18 b19 b20 b21 b22 b23 b24 b25 b26 b27 : Nat) : a ≤ a + b0 + b1 + b2 + b3 + b4 + b5 + b6 + b7 + b8 + b9 + b10 + b11 + b12 + b13 + b14 + b15 + b16 + b17 + b18 + b19 + b20 + b21 + b22 + b23 + b24 + b25 + b26 + b27 := by omega
theorem neF28 (a : Nat) (b0 b1 b2 b3 b4 b5 b6 b7 b8 b9 b10 b11 b12 b13 b14 b15 b16 b17 b18 b19 b20 b21 b22 b23 b24 b25 b26 b27 : Nat) : (a = a + 1 + b0 + b1 + b2 + b3 + b4 + b5 + b6 + b7 + b8 + b9 + b10 + b11 + b12 + b13 + b14 + b15 + b16 + b17 + b18 + b19 + b20 + b21 + b22 + b23 + b24 + b25 + b26 + b27) = False := by simp; omega
theorem neG28 (a : Nat) (b0 b1 b2 b3 b4 b5 b6 b7 b8 b9 b10 b11 b12 b13 b14 b15 b16 b17 b18 b19 b20 b21 b22 b23 b24 b25 b26 b27 : Nat) : (a + 1 + b0 + b1 + b2 + b3 + b4 + b5 + b6 + b7 + b8 + b9 + b10 + b11 + b12 + b13 + b14 + b15 + b16 + b17 + b18 + b19 + b20 + b21 + b22 + b23 + b24 + b25 + b26 + b27 = a) = False := by simp; omega
theorem ltF29 (a : Nat) (b0 b1 b2 b3 b4 b5 b6 b7 b8 b9 b10 b11 b12 b13 b14 b15 b16 b17 b18 b19 b20 b21 b22 b23 b24 b25 b26 b27 b28 : Nat) : a < a + 1 + b0 + b1 + b2 + b3 + b4 + b5 + b6 + b7 + b8 + b9 + b10 + b11 + b12 + b13 + b14 + b15 + b16 + b17 + b18 + b19 + b20 + b21 + b22 + b23 + b24 + b25 + b26 + b27 + b28 := by omega
theorem leF29 (a : Nat) (b0 b1 b2 b3 b4 b5 b6 b7 b8 b9 b10 b11 b12 b13 b14 b15 b16 b17 b18 b19 b20 b21 b22 b23 b24 b25 b26 b27 b28 : Nat) : a ≤ a + b0 + b1 + b2 + b3 + b4 + b5 + b6 + b7 + b8 + b9 + b10 + b11 + b12 + b13 + b14 + b15 + b16 + b17 + b18 + b19 + b20 + b21 + b22 + b23 + b24 + b25 + b26 + b27 + b28 := by omega
theorem neF29 (a : Nat) (b0 b1 b2 b3 b4 b5 b6 b7 b8 b9 b10 b11 b12 b13 b14 b15 b16 b17 b18 b19 b20 b21 b22 b23 b24 b25 b26 b27 b28 : Nat) : (a = a + 1 + b0 + b1 + b2 + b3 + b4 + b5 + b6 + b7 + b8 + b9 + b10 + b11 + b12 + b13 + b14 + b15 + b16 + b17 + b18 + b19 + b20 + b21 + b22 + b23 + b24 + b25 + b26 + b27 + b28) = False := by simp; omega
theorem neG29 (a : Nat) (b0 b1 b2 b3 b4 b5 b6 b7 b8 b9 b10 b11 b12 b13 b14 b15 b16 b17 b18 b19 b20 b21 b22 b23 b24 b25 b26 b27 b28 : Nat) : (a + 1 + b0 + b1 + b2 + b3 + b4 + b5 + b6 + b7 + b8 + b9 + b10 + b11 + b12 + b13 + b14 + b15 + b16 + b17 + b18 + b19 + b20 + b21 + b22 + b23 + b24 + b25 + b26 + b27 + b28 = a) = False := by simp; omega
theorem ltF30 (a : Nat) (b0 b1 b2 b3 b4 b5 b6 b7 b8 b9 b10 b11 b12 b13 b14 b15 b16 b17 b18 b19 b20 b21 b22 b23 b24 b25 b26 b27 b28 b29 : Nat) : a < a + 1 + b0 + b1 + b2 + b3 + b4 + b5 + b6 + b7 + b8 + b9 + b10 + b11 + b12 + b13 + b14 + b15 + b16 + b17 + b18 + b19 + b20 + b21 + b22 + b23 + b24 + b25 + b26 + b27 + b28 + b29 := by omega
theorem leF30 (a : Nat) (b0 b1 b2 b3 b4 b5 b6 b7 b8 b9 b10 b11 b12 b13 b14 b15 b16 b17 b18 b19 b20 b21 b22 b23 b24 b25 b26 b27 b28 b29 : Nat) : a ≤ a + b0 + b1 + b2 + b3 + b4 + b5 + b6 + b7 + b8 + b9 + b10 + b11 + b12 + b13 + b14 + b15 + b16 + b17 + b18 + b19 + b20 + b21 + b22 + b23 + b24 + b25 + b26 + b27 + b28 + b29 := by omega
theorem neF30 (a : Nat) (b0 b1 b2 b3 b4 b5 b6 b7 b8 b9 b10 b11 b12 b13 b14 b15 b16 b17 b18 b19 b20 b21 b22 b23 b24 b25 b26 b27 b28 b29 : Nat) : (a = a + 1 + b0 + b1 + b2 + b3 + b4 + b5 + b6 + b7 + b8 + b9 + b10 + b11 + b12 + b13 + b14 + b15 + b16 + b17 + b18 + b19 + b20 + b21 + b22 + b23 + b24 + b25 + b26 + b27 + b28 + b29) = False := by simp; omega
theorem neG30 (a : Nat) (b0 b1 b2 b3 b4 b5 b6 b7 b8 b9 b10 b11 b12 b13 b14 b15 b16 b17 b18 b19 b20 b21 b22 b23 b24 b25 b26 b27 b28 b29 : Nat) : (a + 1 + b0 + b1 + b2 + b3 + b4 + b5 + b6 + b7 + b8 + b9 + b10 + b11 + b12 + b13 + b14 + b15 + b16 + b17 + b18 + b19 + b20 + b21 + b22 + b23 + b24 + b25 + b26 + b27 + b28 + b29 = a) = False := by simp; omega
attribute [go_sem] more_size more_cell more_frozen more_tape more_os more_drawn more_drew drew_more more_drewN drewN_more more_shape more_setCell
attribute [go_sem] ltF1 leF1 neF1 neG1 ltF2 leF2 neF2 neG2 ltF3 leF3 neF3 neG3 ltF4 leF4 neF4 neG4 ltF5 leF5 neF5 neG5 ltF6 leF6 neF6 neG6 ltF7 leF7 neF7 neG7 ltF8 leF8 neF8 neG8 ltF9 leF9 neF9 neG9 ltF10 leF10 neF10 neG10
attribute [go_sem] ltF11 leF11 neF11 neG11 ltF12 leF12 neF12 neG12 ltF13 leF13 neF13 neG13 ltF14 leF14 neF14 neG14 ltF15 leF15 neF15 neG15 ltF16 leF16 neF16 neG16 ltF17 leF17 neF17 neG17 ltF18 leF18 neF18 neG18 ltF19 leF19 neF19 neG19 ltF20 leF20 neF20 neG20
attribute [go_sem] ltF21 leF21 neF21 neG21 ltF22 leF22 neF22 neG22 ltF23 leF23 neF23 neG23 ltF24 leF24 neF24 neG24 ltF25 leF25 neF25 neG25 ltF26 leF26 neF26 neG26 ltF27 leF27 neF27 neG27 ltF28 leF28 neF28 neG28 ltF29 leF29 neF29 neG29 ltF30 leF30 neF30 neG30

/-- w' is w with blocks more, and draws -/
def Ext (w w' : World) : Prop := ∃ d os, w' = more w d os

theorem Ext.refl (w : World) : Ext w w := ⟨w.drawn, #[], by simp [more]⟩
theorem Ext.more {a w : World} (h : Ext a w) (d : Nat) (os : Array Obj) : Ext a (more w d os) := by
  obtain ⟨d', os', rfl⟩ := h; exact ⟨_, _, more_more _ _ _ _ _⟩
theorem Ext.trans {a b c : World} (h : Ext a b) (k : Ext b c) : Ext a c := by obtain ⟨d, os, rfl⟩ := k; exact h.more d os
theorem Ext.alloc {a w : World} (h : Ext a w) (o : Obj) : Ext a (w.alloc o) := by
  have e : w.alloc o = Ytoaaklcbcbjaiaa.more w w.drawn #[o] := by
    unfold World.alloc Ytoaaklcbcbjaiaa.more
    congr 1
  rw [e]; exact h.more _ _
theorem Ext.drew {a w : World} (h : Ext a w) : Ext a w.drew := by
  obtain ⟨d, os, rfl⟩ := h; exact ⟨d + 1, os, rfl⟩
theorem Ext.drewN {a w : World} (h : Ext a w) (n : Nat) : Ext a (w.drewN n) := by
  obtain ⟨d, os, rfl⟩ := h; exact ⟨d + n, os, rfl⟩
theorem Ext.setCell {a w : World} (h : Ext a w) {p : Addr} (hp : a.heap.size ≤ p.block) (v : Value) : Ext a (w.setCell p v) := by
  obtain ⟨d, os, rfl⟩ := h
  refine ⟨d, os.modify (p.block - a.heap.size) (fun
      | .cells c elem frozen => .cells (if p.spot.isSome then c else c.setIfInBounds p.off v) elem frozen
      | o => o), ?_⟩
  unfold World.setCell Ytoaaklcbcbjaiaa.more
  congr 1
  apply Array.ext_getElem?
  intro k
  simp only [Array.getElem?_modify, Array.getElem?_append]
  by_cases hk : p.block = k
  · subst hk
    have : ¬ p.block < a.heap.size := by omega
    simp [this]
    rfl
  · by_cases hk2 : k < a.heap.size
    · simp [hk, hk2]
    · have : ¬ p.block - a.heap.size = k - a.heap.size := by omega
      simp [hk, hk2, this]
theorem Ext.size {w w' : World} (h : Ext w w') : w.heap.size ≤ w'.heap.size := by
  obtain ⟨d, os, rfl⟩ := h
  simp [more_size]
theorem Ext.below {w w' : World} (h : Ext w w') : Below w.heap.size w w' := by
  obtain ⟨d, os, rfl⟩ := h
  exact ⟨rfl, rfl, rfl, by simp [more_size], fun k hk => more_heap _ _ _ _ hk⟩
theorem Ext.of_below {w w' : World} (h : Below w.heap.size w w') : Ext w w' := by
  have hh : w'.heap = w.heap ++ w'.heap.extract w.heap.size w'.heap.size := by
    apply Array.ext_getElem?
    intro k
    have h4 := h.size
    rw [Array.getElem?_append]
    by_cases hk : k < w.heap.size
    · rw [if_pos hk]; exact h.block k hk
    · rw [if_neg hk, Array.getElem?_extract]
      by_cases hk2 : k < w'.heap.size
      · rw [if_pos (by omega), Nat.add_sub_cancel' (by omega)]
      · rw [if_neg (by omega), Array.getElem?_eq_none (by omega)]
  refine ⟨w'.drawn, w'.heap.extract w.heap.size w'.heap.size, ?_⟩
  have h1 := h.os
  have h2 := h.tape
  have h3 := h.output
  unfold Ytoaaklcbcbjaiaa.more
  rw [← hh, ← h1, ← h2, ← h3]

end Go.Proofs.Ytoaaklcbcbjaiaa
