/- What came in: slices of ints and of strings, as lists; what the condition of a tied row of chapter 12 gives, and a world that meets it. -/
import Derived.Test.YtpchohjkelopoaaDoorUn1
import Derived.Test.YtpchohjkelopoaaDoorU01
import Derived.Test.YtpchohjkelopoaaDoorRows
import Derived.Deep.Strs
import Derived.Stop.LaidErr
import Derived.Stop.Joined
import Derived.LaidMore
import Derived.Lib.LaidTab
import Derived.LaidLaws
import Derived.ChangeSame
import Derived.ChangeVars
import Derived.JoinedOf
import Derived.RowKitTokens
import Derived.OpenShut
set_option linter.unusedSimpArgs false
set_option linter.unusedVariables false
set_option maxRecDepth 100000
namespace Go.Proofs.YtpchohjkelopoaaDoor
open Go.RowKit
open Go.ChangeShapes Go.WideShapes Go.ChangeAt Go.Joins

theorem intCells : Tryd.prog.cellsOf 3 = 1 := by kernel_rfl
theorem strCells1 : Tryd.prog.cellsOf 9 = 1 := by kernel_rfl
theorem open_intsR {H : Type} {enc : TypeId × Value → H} {W : World} {base : Nat} {t : TypeId} (ht : Tryd.prog.underlying t = some (.slice 3)) {v : Value} {d : DataW H} {p : List MemPlace} (hval : Value.okWide Tryd.prog W .any base t v)
    (hd : DataW.Trod enc Tryd.prog W 0 (fun _ => true) true t v d p) : ∃ l, IntsAt W v l ∧ In64L l := by
  obtain ⟨a1, len, cap, rfl⟩ := okWide_slice ht hval
  obtain ⟨fuel, hf⟩ := hd
  rcases open_ints ht Tryd.underlying3 intCells hf with ⟨hcs, hx⟩ | ⟨a, len', cap', zs, hcs, _, hl, hm, hz, hx, hcell, hwz⟩
  · simp [Value.cells] at hcs
    obtain ⟨rfl, rfl, rfl⟩ := hcs
    exact ⟨[], Or.inl ⟨none, 0, rfl, rfl⟩, fun u hu => by simp at hu⟩
  · simp [Value.cells] at hcs
    obtain ⟨rfl, rfl, rfl⟩ := hcs
    simp only [if_true] at hz
    rcases Nat.eq_zero_or_pos len with h0 | h0
    · subst h0
      exact ⟨[], Or.inl ⟨some a, cap, rfl, rfl⟩, fun u hu => by simp at hu⟩
    · obtain ⟨ab, ao, spot⟩ := a
      have hspot : spot = none := by simpa [Addr.add] using World.cell?_spot (hcell 0 (by omega))
      subst hspot
      have hlen : (zs.take len).length = len := by rw [List.length_take]; omega
      refine ⟨zs.take len, Or.inr ⟨ab, ao, cap, by rw [hlen], by omega, fun j u hj => ?_⟩, fun u hu => ?_⟩
      · have hz2 : zs[j]? = some u := by
          rw [List.getElem?_take] at hj
          split at hj
          · exact hj
          · simp at hj
        have hjl := (List.getElem?_eq_some_iff.1 hz2).1
        have hcj := hcell j hjl
        rw [Addr.add_lit] at hcj
        rw [hcj]
        simp [List.getD, hz2]
      · have := hwz u (List.mem_of_mem_take hu)
        simp only [Lit.wf, Bool.and_eq_true, decide_eq_true_eq] at this
        simpa [IntKind.min, IntKind.max, IntKind.bits, IntKind.signed] using this

theorem star : "*" ++ "errors.errorString" = "*errors.errorString" := by decide
theorem errRow (u : TypeId) (h : Tryd.prog.typeName? 3 u = some "*errors.errorString") : u = 145 :=
  typeName_ptr_named (nm := "errors.errorString") (by rw [star]; kernel_rfl) (by kernel_rfl) (by decide) u (by rw [star]; exact h)
theorem laid_err {n : String} {text : List UInt8} {r : List (String × DataW Unit)} {W : World} {g : Nat} (h : laidMet Tryd.prog ((n, .iface "*errors.errorString" (.ptr (.agg [.lit (.string text)]))) :: r) W)
    (hg : Tryd.prog.globalNamed n = some g) (ht : (Tryd.prog.globals[g]?).map (·.type) = some 72) : ∃ te pe, W.cell? ⟨g, 0, none⟩ = some (.iface te pe) := by
  obtain ⟨a, s, hv, _⟩ := laid_sentinel h hg ht Tryd.underlying72 errRow Tryd.underlying145 Tryd.underlying147 rfl rfl Tryd.underlying9 (by kernel_rfl) (by kernel_rfl)
  exact ⟨_, _, by simpa using World.var?_cell hg hv 0⟩
/-- the laid table of powers -/
theorem pow_of {r : List (String × DataW Unit)} {W : World} (h3 : laidMet Tryd.prog (("internal/strconv.uint64pow10", Rows.laid_internal_strconv_uint64pow10) :: r) W) : Pow10 W.heap.size W := by
  have hg : Tryd.prog.globalNamed "internal/strconv.uint64pow10" = some 3 := by kernel_rfl
  have hgt : (Tryd.prog.globals[3]?).map (·.type) = some 149 := by kernel_rfl
  have t := Lib.tabIs_of_head (k := .u64) (zs := Lib.pow10Tab) hg hgt Tryd.underlying149 Tryd.underlying98 (by kernel_rfl) (by kernel_rfl) h3
  refine ⟨⟨3, hg, ?_⟩, t⟩
  unfold Lib.TabIs World.var? at t
  rw [hg] at t
  simp only [Option.bind_some] at t
  rcases Nat.lt_or_ge 3 W.heap.size with h | h
  · exact h
  · rw [Array.getElem?_eq_none h] at t; cases t
/-- the laid table of signs -/
theorem signs_of {r : List (String × DataW Unit)} {W : World} (h : laidMet Tryd.prog (("plenum/key.signs", Rows.laid_plenum_key_signs) :: r) W) : SignsAt W.heap.size W := by
  have hg : Tryd.prog.globalNamed "plenum/key.signs" = some 4 := by kernel_rfl
  have hgt : (Tryd.prog.globals[4]?).map (·.type) = some 153 := by kernel_rfl
  have t := Lib.tabIs_of_head (k := .u64) (zs := [288195191779622912, 576460745860972544]) hg hgt Tryd.underlying153 Tryd.underlying98 (by kernel_rfl) (by kernel_rfl) h
  have c0 := t.cell hg 0 (by decide)
  have c1 := t.cell hg 1 (by decide)
  exact ⟨World.block_lt_of_cell? _ _ c0, c0, c1⟩
/-- what the condition gives -/
theorem env_of_laid {W : World} (h : laidMetH Tryd.prog Rows.rootUnlikeRow.laid W) : Env W.heap.size W := by
  rw [MakeChecks.laidMetH_plain _ _ _ (by kernel_rfl)] at h
  have h3 := laidMet.tail (laidMet.tail h)
  have h4 := laidMet.tail h3
  have h5 := laidMet.tail h4
  have h6 := laidMet.tail h5
  obtain ⟨t2, p2, c2⟩ := laid_err (g := 2) h4 (by kernel_rfl) (by kernel_rfl)
  obtain ⟨t1, p1, c1⟩ := laid_err (g := 1) h5 (by kernel_rfl) (by kernel_rfl)
  exact ⟨Nat.le_refl _, signs_of h6, ⟨World.block_lt_of_cell? _ _ c2, ⟨t1, p1, c1⟩, ⟨t2, p2, c2⟩⟩, pow_of h3⟩
theorem door_met (os : Os) (args : Array Value) : laidMetH Tryd.prog Rows.rootUnlikeRow.laid ((World.doorLaid Tryd.prog 67 os).forCall (fun _ _ => 0) ⟨#[], args, []⟩).memory :=
  laidMetH_of_parts3 (fuel := 8) (laidMet_of_run' 8 (by kernel_rfl) (by kernel_rfl)) (by kernel_rfl) (by kernel_rfl)
end Go.Proofs.YtpchohjkelopoaaDoor
