/- Lemmas for the claim (texts RmR, what its proof uses of them). -/
import Derived.Test.YtpchohjkelopoaaGreatDoorP01
import Derived.Test.YtpchohjkelopoaaGreatDoorP13
import Derived.Test.YtpchohjkelopoaaGreatDoorRows
import Derived.Deep.Strs
import Derived.Stop.LaidErr
import Derived.Stop.Joined
import Derived.LaidMore
import Derived.Lib.LaidTab
import Derived.LaidLaws
import Derived.ChangeSame
import Derived.ChangeVars
import Derived.JoinedOf
import Derived.RowKitTokens
import Derived.OpenShut
set_option linter.unusedSimpArgs false
set_option linter.unusedVariables false
set_option maxRecDepth 100000
namespace Go.Proofs.YtpchohjkelopoaaGreatDoor
open Go.RowKit
open Go.ChangeShapes Go.WideShapes Go.ChangeAt Go.Joins
theorem strCells1 : Tryz.prog.cellsOf 9 = 1 := by kernel_rfl
theorem weightsAll_mem {H : Type} {P : Program} {e : TypeId} {d : DataW H} {n : Nat} (hn : n ∈ d.weights P e) : ∀ (ds : List (DataW H)), d ∈ ds → n ∈ DataW.weightsAll P e ds
  | [], h => by simp at h
  | x :: ds, h => by
    simp only [DataW.weightsAll, List.mem_append]
    rcases List.mem_cons.1 h with rfl | h
    · exact Or.inl hn
    · exact Or.inr (weightsAll_mem hn ds h)
theorem open_strsR {H : Type} {enc : TypeId × Value → H} {W : World} {base : Nat} {t : TypeId} (ht : Tryz.prog.underlying t = some (.slice 9)) {ts : List TypeId} {ds : List (DataW H)} {j : Nat} {v : Value} {d : DataW H} {p : List MemPlace}
    (hval : Value.okWide Tryz.prog W .any base t v) (hd : DataW.Trod enc Tryz.prog W 0 (fun _ => true) true t v d p) (hs : (DataW.weightsEach Tryz.prog ts ds).all (· ≤ reachBytes) = true) (htj : ts[j]? = some t) (hdj : ds[j]? = some d) :
    ∃ l, StrsAt W v l ∧ ∀ s ∈ l, s.size ≤ 140737488351232 := by
  obtain ⟨a1, len, cap, rfl⟩ := okWide_slice ht hval
  obtain ⟨fuel, hf⟩ := hd
  rcases Deep.open_strs ht Tryz.underlying9 strCells1 hf with ⟨hcs, hx⟩ | ⟨a, len', cap', m, Sx, hcs, _, hl, hm, hmm, hx, hcell⟩
  · simp [Value.cells] at hcs
    obtain ⟨rfl, rfl, rfl⟩ := hcs
    exact ⟨[], Or.inl ⟨none, 0, rfl, rfl⟩, fun u hu => by simp at hu⟩
  · simp [Value.cells] at hcs
    obtain ⟨rfl, rfl, rfl⟩ := hcs
    simp only [if_true] at hmm
    subst hmm
    simp only [Prod.mk.injEq] at hx
    obtain ⟨rfl, rfl⟩ := hx
    rcases Nat.eq_zero_or_pos len with h0 | h0
    · subst h0
      exact ⟨[], Or.inl ⟨some a, m, rfl, rfl⟩, fun u hu => by simp at hu⟩
    · obtain ⟨ab, ao, spot⟩ := a
      have hspot : spot = none := by simpa [Addr.add] using World.cell?_spot (hcell 0 (by omega)).1
      subst hspot
      refine ⟨(List.range len).map Sx, Or.inr ⟨ab, ao, m, by simp, by simpa using hl, fun i u hi => ?_⟩, fun s hs2 => ?_⟩
      · simp only [List.getElem?_map, Option.map_eq_some_iff] at hi
        obtain ⟨z, hz, rfl⟩ := hi
        obtain ⟨hz1, hz2⟩ := List.getElem?_eq_some_iff.1 hz
        simp at hz1 hz2
        subst hz2
        have := (hcell i (by omega)).1
        rw [Addr.add_lit] at this
        exact this
      · obtain ⟨i, hi, rfl⟩ := List.mem_map.1 hs2
        have hmem := List.all_eq_true.1 hs _ (DataW.weights_mem_each htj hdj ((Sx i).data.toList.length) (by
          simp only [DataW.weights, ht, List.mem_cons, List.mem_append]
          refine Or.inr (Or.inl (weightsAll_mem (d := .lit (.string (Sx i).data.toList)) (by simp [DataW.weights]) _ ?_))
          exact List.mem_map.2 ⟨i, hi, rfl⟩))
        have e : reachBytes = 140737488351232 := by decide
        rw [e] at hmem
        simpa using hmem
/-- the laid table of powers -/
theorem pow_of {r : List (String × DataW Unit)} {W : World} (h3 : laidMet Tryz.prog (("internal/strconv.uint64pow10", Rows.laid_internal_strconv_uint64pow10) :: r) W) : Pow10 W.heap.size W := by
  have hg : Tryz.prog.globalNamed "internal/strconv.uint64pow10" = some 4 := by kernel_rfl
  have hgt : (Tryz.prog.globals[4]?).map (·.type) = some 258 := by kernel_rfl
  have t := Lib.tabIs_of_head (k := .u64) (zs := Lib.pow10Tab) hg hgt Tryz.underlying258 Tryz.underlying191 (by kernel_rfl) (by kernel_rfl) h3
  refine ⟨⟨4, hg, ?_⟩, t⟩
  unfold Lib.TabIs World.var? at t
  rw [hg] at t
  simp only [Option.bind_some] at t
  rcases Nat.lt_or_ge 4 W.heap.size with h | h
  · exact h
  · rw [Array.getElem?_eq_none h] at t; cases t
/-- the laid table of signs -/
theorem signs_of {r : List (String × DataW Unit)} {W : World} (h : laidMet Tryz.prog (("plenum/key.signs", Rows.laid_plenum_key_signs) :: r) W) : SignsAt W.heap.size W := by
  have hg : Tryz.prog.globalNamed "plenum/key.signs" = some 3 := by kernel_rfl
  have hgt : (Tryz.prog.globals[3]?).map (·.type) = some 249 := by kernel_rfl
  have t := Lib.tabIs_of_head (k := .u64) (zs := [288195191779622912, 576460745860972544]) hg hgt Tryz.underlying249 Tryz.underlying191 (by kernel_rfl) (by kernel_rfl) h
  have c0 := t.cell hg 0 (by decide)
  have c1 := t.cell hg 1 (by decide)
  exact ⟨World.block_lt_of_cell? _ _ c0, c0, c1⟩
end Go.Proofs.YtpchohjkelopoaaGreatDoor
