/- Lemmas for the claim (texts RT1, what its proof uses of them). -/
import Derived.Test.YtpchohjkelopoaaGreatDoorK15
import Derived.Deep.RegionHeld3
import Derived.Deep.MidRow
import Derived.Deep.DeepCutAuto
set_option linter.unusedSimpArgs false
set_option linter.unusedVariables false
set_option maxRecDepth 20000
namespace Go.Proofs.YtpchohjkelopoaaGreatDoor
open Go.RowKit
attribute [go_sem] more_more Array.size_append
theorem StrsAt.ext {w w' : World} {v : Value} {l : List ByteArray} (h : StrsAt w v l) (hx : Ext w w') : StrsAt w' v l := by
  rcases h with h | ⟨b, off, cap, h1, h2, h3⟩
  · exact Or.inl h
  · exact Or.inr ⟨b, off, cap, h1, h2, fun j u hj => cell_ext (h3 j u hj) hx⟩
/-- blocks that hold neither a table nor texts are as they were -/
def Kept (w w' : World) : Prop := ∀ (k : Nat) (cur : Array Value) (T : TypeId) (fz : Nat × Nat), w.heap[k]? = some (.cells cur T fz) → T ≠ 132 → T ≠ 9 → w'.heap[k]? = w.heap[k]?
theorem Kept.tab {B bt bm : Nat} {tv : Value} {l : List ByteArray} {w w' : World} (h : TabAt B bt bm tv l w) (hk : TabKept bt bm tv.ownBlock w w') : Kept w w' := fun _ _ _ _ hb h1 h2 => kept_ty h hk hb h1 h2
theorem Kept.str {w w' : World} {B n size : Nat} {v : Value} {xs : List Value} (h : w.ownsRow B 9 size v n xs) (hg : w.grownBy w' v.ownBlock) : Kept w w' := fun _ _ _ _ hb _ h2 => blk_str h hg hb h2
theorem LvTy.kept {w w' : World} {bs : Nat → Nat} {T : Nat → List It} (h : LvTy w bs T) (hk : Kept w w') : LvTy w' bs T := fun k hk16 hl => by
  obtain ⟨cur, fz, hc⟩ := h k hk16 hl
  exact ⟨cur, fz, by rw [hk _ _ _ _ hc (by decide) (by decide)]; exact hc⟩
theorem LvsAt.kept {w w' : World} {bs : Nat → Nat} {v : Nat → Value} {T : Nat → List It} (h : LvsAt w bs v T) (hy : LvTy w bs T) (hk : Kept w w') : LvsAt w' bs v T := fun k hk16 => (h k hk16).of_block fun hl => by
  obtain ⟨cur, fz, hc⟩ := hy k hk16 hl
  exact hk _ _ _ _ hc (by decide) (by decide)
theorem own_kept {w w' : World} {base size n : Nat} {v : Value} {e : TypeId} {xs : List Value} (h : w.ownsRow base e size v n xs) (hk : Kept w w') (h1 : e ≠ 132) (h2 : e ≠ 9) : w'.ownsRow base e size v n xs :=
  own_block h fun k hb => by
    obtain ⟨cur, hc⟩ := own_type h hb
    exact hk _ _ _ _ hc h1 h2
/-- behind what the document does to its list -/
theorem both_step {B bt bm : Nat} {tv lv lv' : Value} {l l' : List ByteArray} {w w' : World} (h : Mid B bt bm tv lv l l' w) (ho : w'.ownsRow B 9 1 lv' l'.length (l'.map Value.string)) (hg : w.grownBy w' lv.ownBlock) (hk : lv'.ownBlock = lv.ownBlock ∨ ∃ k, lv'.ownBlock = some k ∧ w.heap.size ≤ k) : Both B bt bm tv lv' l' w' ∧ Below B w w' ∧ Kept w w' := by
  obtain ⟨⟨lv2, he, hb⟩, b⟩ := both_of (n := 0) (er := 0) (e := .returned (.tuple #[lv', .int .i64 ((0 : Nat) : Int), .int .i64 0])) h ⟨lv', rfl, ho, hg, hk⟩
  simp only [Ending.returned.injEq, Value.tuple.injEq, Array.mk.injEq, List.cons.injEq, and_true] at he
  obtain rfl := he
  exact ⟨hb, b, Kept.str h.2.1 hg⟩
end Go.Proofs.YtpchohjkelopoaaGreatDoor
