/- Lemmas for the claim (texts PT2a, what its proof uses of them). -/
import Derived.Test.YtpchohjkelopoaaGreatDoorK27
import Derived.Test.YtpchohjkelopoaaGreatDoorK29
set_option linter.unusedSimpArgs false
set_option linter.unusedVariables false
set_option maxRecDepth 20000
namespace Go.Proofs.YtpchohjkelopoaaGreatDoor
open Go.RowKit
attribute [go_sem] more_more Array.size_append
theorem ps_form {w : World} {v : Value} {ps : List Pc} (h : PsAt w v ps) : ∃ p cap, v = .slice p ps.length cap ∧ ∀ j x, ps[j]? = some x → PcIn w x ∧ ∃ b off, p = some ⟨b, off, none⟩ ∧ w.cell? ⟨b, off + j * 3, none⟩ = some (.int .i64 x.bk) ∧ w.cell? ⟨b, off + j * 3 + 1, none⟩ = some (.int .i64 x.ver) ∧ w.cell? ⟨b, off + j * 3 + 2, none⟩ = some x.pv := by
  rcases h with ⟨p, cap, rfl, rfl⟩ | ⟨b, off, cap, rfl, h2, h3⟩
  · exact ⟨p, cap, rfl, fun j x hj => by simp at hj⟩
  · exact ⟨_, cap, rfl, fun j x hj => by
      obtain ⟨a, c0, c1, c2⟩ := h3 j x hj
      exact ⟨a, b, off, rfl, c0, c1, c2⟩⟩
theorem ne_type {w : World} {N M : Nat} {C C' : Array Value} {t t' : TypeId} {f f' : Nat × Nat} (h : w.heap[N]? = some (.cells C t f)) (h' : w.heap[M]? = some (.cells C' t' f')) (ht : t ≠ t') : N ≠ M := fun e => by
  rw [e, h'] at h; simp at h; exact ht h.2.1.symm
theorem tab_row {B bt bm : Nat} {tv : Value} {l : List ByteArray} {W : World} {M : Nat} {C : Array Value} (h : TabAt B bt bm tv l W) (hb : W.heap[M]? = some (.cells C 39 (0, 0))) (x : Array Value) : TabAt B bt bm tv l (W.setRow M x) :=
  tab_grown h (grown_row W M x) (fun k hk => by obtain rfl := Option.some.inj hk; exact tab_other h hb (by decide) (by decide))
/-- the parcel's cells, from the call's beginning -/
def PcAt (pb o : Nat) (x : Pc) (w : World) : Prop := w.cell? ⟨pb, o, none⟩ = some (.int .i64 x.bk) ∧ w.cell? ⟨pb, o + 1, none⟩ = some (.int .i64 x.ver) ∧ w.cell? ⟨pb, o + 2, none⟩ = some x.pv
end Go.Proofs.YtpchohjkelopoaaGreatDoor
