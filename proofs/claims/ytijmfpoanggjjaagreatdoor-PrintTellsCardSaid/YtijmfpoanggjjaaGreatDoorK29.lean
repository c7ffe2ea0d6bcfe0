/- Lemmas for the claim (texts PSrc, RSame, what its proof uses of them). -/
import Derived.Test.YtijmfpoanggjjaaGreatDoorK03
import Derived.Test.YtijmfpoanggjjaaGreatDoorK06
import Derived.Deep.OwnRows
set_option linter.unusedSimpArgs false
set_option linter.unusedVariables false
namespace Go.Proofs.YtijmfpoanggjjaaGreatDoor
open Go.RowKit
attribute [go_sem] more_more Array.size_append
/-- a source's tokens with their places -/
def qch (l : List (Tok × Nat)) : Toks := l.map fun t => (t.1, (t.2 : Int))
theorem toksOf_length (l : List (Tok × Nat)) : (qch l).length = l.length := by simp [qch]
theorem toksOf_cells (l : List (Tok × Nat)) : qbs (qch l) = qay l := by
 induction l with
 | nil => rfl
 | cons t l ih =>
  have e1 : qbs (qch (t :: l)) = tkL (t.1, (t.2 : Int)) ++ qbs (qch l) := rfl
  have e2 : qay (t :: l) = [.int .i64 t.1.k, .int .i64 (t.2 : Int), .string t.1.s, .int .i64 t.1.i] ++ qay l := rfl
  rw [e1, e2, ih]; rfl
/-- the program of a source, or the error and its place -/
def qef (s : List UInt8) : Except (Int × Int) (List Nd × Int) :=
 if (lexF s).2.1 = 0 then qdM (qch (lexF s).1) else .error ((lexF s).2.1, ((lexF s).2.2 : Int))
theorem lexG_len (s : List UInt8) : ∀ (g k : Nat) (acc l : List (Tok × Nat)) (x : Nat), k ≤ s.length → s.length + 1 ≤ k + g → acc.length ≤ 1024 → lexG s g k acc = (l, 0, x) → 0 < l.length ∧ l.length ≤ 1025
 | 0, k, acc, l, x, hk, hg, _, _ => by omega
 | g + 1, k, acc, l, x, hk, hg, ha, h => by
  rw [lexG] at h
  split at h
  · simp only [Prod.mk.injEq] at h
    obtain ⟨rfl, _, _⟩ := h
    simp; omega
  split at h
  · rename_i h1 h2
    simp only [Prod.mk.injEq] at h
    exact absurd h.2.1 h2
  split at h
  · simp only [Prod.mk.injEq] at h
    omega
  · rename_i h1 h2 h3
    have hd : 0 < (s.drop (k + skipL false (s.drop k))).length := by simp; omega
    obtain ⟨r, n1, er, hr⟩ : ∃ r n1 er, oneF (s.drop (k + skipL false (s.drop k))) = (r, n1, er) := ⟨_, _, _, rfl⟩
    rw [hr] at h h2
    dsimp only at h h2
    have h2' : er = 0 := by simpa using h2
    subst h2'
    have hb := oneF_bd _ r n1 hd hr
    simp only [List.length_drop] at hb
    exact lexG_len s g _ _ l x zal zal zby h
theorem lexF_len (s : List UInt8) (h : (lexF s).2.1 = 0) : 0 < (lexF s).1.length ∧ (lexF s).1.length ≤ 1025 := by
 unfold lexF at h ⊢
 split at h
 · simp at h
 · rename_i hs
   rw [if_neg hs]
   obtain ⟨l, e, x, hx⟩ : ∃ l e x, lexG s (s.length + 1) 0 [] = (l, e, x) := ⟨_, _, _, rfl⟩
   rw [hx] at h ⊢
   dsimp only at h ⊢
   subst h
   exact lexG_len s _ 0 [] l x (Nat.zero_le _) zal zbt hx
theorem toks_at {w : World} {base g cap n : Nat} {l : List (Tok × Nat)} (h : w.ownsRow base 97 4 (.slice (some ⟨g, 0, none⟩) n cap) n (qay l)) (hn : n = l.length) : ToksAt g 0 (qch l) w := by
 intro j hj
 have hc := h.cells (g := g) rfl
 rw [← toksOf_cells] at hc
 obtain ⟨h1, h2, h3, h4⟩ := qdx (qch l) j hj
 have e : ∀ i v, (qbs (qch l))[i]? = some v → w.cell? ⟨g, i, none⟩ = some v := fun i v hi => by
  have := hc i v hi
  rwa [Addr.add_lit, Nat.zero_add] at this
 refine ⟨?_, ?_, ?_, ?_⟩
 · rw [Nat.zero_add]; exact e _ _ h1
 · rw [Nat.zero_add]; exact e _ _ h2
 · rw [Nat.zero_add]; exact e _ _ h3
 · rw [Nat.zero_add]; exact e _ _ h4
theorem own_swap {w : World} {o o' : Obj} {d d2 : Nat} {os os2 : Array Obj} {base : Nat} {e : TypeId} {size : Nat} {v : Value} {n : Nat} {xs : List Value} (h : (more (more (w.alloc o) d os) d2 os2).ownsRow base e size v n xs) (hb : w.heap.size < base) : (more (w.alloc o') d2 (os ++ os2)).ownsRow base e size v n xs := by
 refine h.kept (row := some w.heap.size) ⟨rfl, rfl, rfl, by simp only [more_size, World.size_alloc, Array.size_append]; omega, fun k hk hne => ?_⟩ (Or.inr fun e => by have := (h.lt _ e).1; omega)
 have hne : k ≠ w.heap.size := fun e => hne (by rw [e])
 simp only [more, World.alloc, Array.append_assoc]
 simp only [Array.getElem?_append, Array.size_push, Array.getElem?_push, if_neg hne]
end Go.Proofs.YtijmfpoanggjjaaGreatDoor

namespace Go.Proofs.YtijmfpoanggjjaaGreatDoor
open Go.RowKit
attribute [go_sem] more_more Array.size_append
end Go.Proofs.YtijmfpoanggjjaaGreatDoor
