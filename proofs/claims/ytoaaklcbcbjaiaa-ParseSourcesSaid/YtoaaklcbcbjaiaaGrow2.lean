/- More words for a region that draws its order: a new row as a hole. -/
import Derived.Test.YtoaaklcbcbjaiaaGrow
set_option linter.unusedSimpArgs false
set_option linter.unusedVariables false
namespace Go.Proofs.Ytoaaklcbcbjaiaa
open Go.RowKit

section
variable {P : Program} {ops : Array Oper}
/-- a slice over a new block: a hole of which this is known -/
def NewSl (w0 : World) (o : Obj) (n c : Nat) : Fact := fun v W => ∃ g, v = .slice (some ⟨g, 0, none⟩) n c ∧ w0.heap.size ≤ g ∧ W.heap[g]? = some o
theorem NewSl.upc (w0 : World) (o : Obj) (n c : Nat) : Upc (NewSl w0 o n c) := by
  rintro v W W' ⟨d, os, rfl⟩ ⟨g, hv, hg, hh⟩
  have hlt : g < W.heap.size := by
    rcases Nat.lt_or_ge g W.heap.size with h | h
    · exact h
    · rw [Array.getElem?_eq_none h] at hh; cases hh
  exact ⟨g, hv, hg, by rw [more_heap _ _ _ _ hlt]; exact hh⟩
theorem NewSl.of_alloc (w0 : World) (d : Nat) (os : Array Obj) (o : Obj) (n c m : Nat) (hm : m = (more w0 d os).heap.size) : NewSl w0 o n c (.slice (some ⟨m, 0, none⟩) n c) ((more w0 d os).alloc o) := by
  subst hm
  exact ⟨_, rfl, by simp [more_size], heap_alloc_new _ _⟩
theorem Lex.sliceLit {w0 : World} {fin : Act → List (Tmp × Fact) → Prop} {o : Oper} {fl : List Bool} {rest : List Oper} {a : Act} {H : List (Tmp × Fact)} (t : Tmp) (ob : Obj) (n c : Nat) (ht : o.dst = some t) (hl : looks ops o H = [])
    (h : ∀ d os, StepG P ops o a (more w0 d os) (NewSl w0 ob n c)) (k : Lex P ops w0 fin fl rest a ((t, NewSl w0 ob n c) :: H)) : Lex P ops w0 fin (false :: fl) (o :: rest) a H :=
  Lex.gap t _ ht (NewSl.upc w0 ob n c) hl h k
/-- the world written out about that block -/
theorem NewSl.split {w0 : World} {o : Obj} {n c : Nat} {v : Value} {W : World} (h : NewSl w0 o n c v W) (hx : Ext w0 W) :
    ∃ d1 os1 d2 os2, W = more ((more w0 d1 os1).alloc o) d2 os2 ∧ v = .slice (some ⟨w0.heap.size + os1.size, 0, none⟩) n c := by
  obtain ⟨g, rfl, hg, hh⟩ := h
  obtain ⟨d1, os1, d2, os2, hw, hv⟩ := NewBlk.split (w0 := w0) (o := o) (v := .pointer (some ⟨g, 0, none⟩)) ⟨g, rfl, hg, hh⟩ hx
  simp only [Value.pointer.injEq, Option.some.injEq, Addr.mk.injEq, and_true] at hv
  exact ⟨d1, os1, d2, os2, hw, by rw [hv]⟩
end
end Go.Proofs.Ytoaaklcbcbjaiaa
