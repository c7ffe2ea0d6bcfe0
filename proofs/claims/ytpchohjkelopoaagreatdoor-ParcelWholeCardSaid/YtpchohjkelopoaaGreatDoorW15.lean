/- Lemmas for the claim (texts RRd, RmR, what its proof uses of them). -/
import Derived.Test.YtpchohjkelopoaaGreatDoorW12
import Derived.Test.YtpchohjkelopoaaGreatDoorRows
import Derived.Deep.Strs
import Derived.Stop.LaidErr
import Derived.Stop.Joined
import Derived.LaidMore
import Derived.Lib.LaidTab
import Derived.LaidLaws
import Derived.ChangeSame
import Derived.ChangeVars
import Derived.JoinedOf
import Derived.RowKitTokens
import Derived.OpenShut
set_option linter.unusedSimpArgs false
set_option linter.unusedVariables false
set_option maxRecDepth 20000
namespace Go.Proofs.YtpchohjkelopoaaGreatDoor
open Go.RowKit
attribute [go_sem] more_more Array.size_append
end Go.Proofs.YtpchohjkelopoaaGreatDoor

set_option maxRecDepth 100000
namespace Go.Proofs.YtpchohjkelopoaaGreatDoor
open Go.RowKit
open Go.ChangeShapes Go.WideShapes Go.ChangeAt Go.Joins
theorem weightsAll_mem {H : Type} {P : Program} {e : TypeId} {d : DataW H} {n : Nat} (hn : n ∈ d.weights P e) : ∀ (ds : List (DataW H)), d ∈ ds → n ∈ DataW.weightsAll P e ds
  | [], h => by simp at h
  | x :: ds, h => by
    simp only [DataW.weightsAll, List.mem_append]
    rcases List.mem_cons.1 h with rfl | h
    · exact Or.inl hn
    · exact Or.inr (weightsAll_mem hn ds h)
/-- the laid table of powers -/
theorem pow_of {r : List (String × DataW Unit)} {W : World} (h3 : laidMet Tryz.prog (("internal/strconv.uint64pow10", Rows.laid_internal_strconv_uint64pow10) :: r) W) : Pow10 W.heap.size W := by
  have hg : Tryz.prog.globalNamed "internal/strconv.uint64pow10" = some 4 := by kernel_rfl
  have hgt : (Tryz.prog.globals[4]?).map (·.type) = some 258 := by kernel_rfl
  have t := Lib.tabIs_of_head (k := .u64) (zs := Lib.pow10Tab) hg hgt Tryz.underlying258 Tryz.underlying191 (by kernel_rfl) (by kernel_rfl) h3
  refine ⟨⟨4, hg, ?_⟩, t⟩
  unfold Lib.TabIs World.var? at t
  rw [hg] at t
  simp only [Option.bind_some] at t
  rcases Nat.lt_or_ge 4 W.heap.size with h | h
  · exact h
  · rw [Array.getElem?_eq_none h] at t; cases t
/-- the laid table of signs -/
theorem signs_of {r : List (String × DataW Unit)} {W : World} (h : laidMet Tryz.prog (("plenum/key.signs", Rows.laid_plenum_key_signs) :: r) W) : SignsAt W.heap.size W := by
  have hg : Tryz.prog.globalNamed "plenum/key.signs" = some 3 := by kernel_rfl
  have hgt : (Tryz.prog.globals[3]?).map (·.type) = some 249 := by kernel_rfl
  have t := Lib.tabIs_of_head (k := .u64) (zs := [288195191779622912, 576460745860972544]) hg hgt Tryz.underlying249 Tryz.underlying191 (by kernel_rfl) (by kernel_rfl) h
  have c0 := t.cell hg 0 (by decide)
  have c1 := t.cell hg 1 (by decide)
  exact ⟨World.block_lt_of_cell? _ _ c0, c0, c1⟩
end Go.Proofs.YtpchohjkelopoaaGreatDoor
