/- What came in: slices of ints and of strings, as lists; what the condition of a tied row of chapter 02 gives, and a world that meets it. -/
import Derived.Test.YtojejhmodaaoiaaDoorTmP
import Derived.Test.YtojejhmodaaoiaaDoorRow
import Derived.Test.YtojejhmodaaoiaaDoorRows
import Derived.Deep.Strs
import Derived.Stop.LaidErr
import Derived.Stop.Joined
import Derived.LaidMore
import Derived.LaidLaws
import Derived.ChangeSame
import Derived.ChangeVars
import Derived.JoinedOf
import Derived.RowKitTokens
import Derived.OpenShut
set_option linter.unusedSimpArgs false
set_option linter.unusedVariables false
namespace Go.Proofs.YtojejhmodaaoiaaDoor
open Go.RowKit
open Go.ChangeShapes Go.WideShapes Go.ChangeAt Go.Joins

theorem intCells : Tryd.prog.cellsOf 3 = 1 := by kernel_rfl
theorem strCells1 : Tryd.prog.cellsOf 9 = 1 := by kernel_rfl
theorem open_intsR {H : Type} {enc : TypeId × Value → H} {W : World} {base : Nat} {t : TypeId} (ht : Tryd.prog.underlying t = some (.slice 3)) {v : Value} {d : DataW H} {p : List MemPlace} (hval : Value.okWide Tryd.prog W .any base t v)
    (hd : DataW.Trod enc Tryd.prog W 0 (fun _ => true) true t v d p) : ∃ l, IntsAt W v l ∧ In64L l := by
  obtain ⟨a1, len, cap, rfl⟩ := okWide_slice ht hval
  obtain ⟨fuel, hf⟩ := hd
  rcases open_ints ht Tryd.underlying3 intCells hf with ⟨hcs, hx⟩ | ⟨a, len', cap', zs, hcs, _, hl, hm, hz, hx, hcell, hwz⟩
  · simp [Value.cells] at hcs
    obtain ⟨rfl, rfl, rfl⟩ := hcs
    exact ⟨[], Or.inl ⟨none, 0, rfl, rfl⟩, fun u hu => by simp at hu⟩
  · simp [Value.cells] at hcs
    obtain ⟨rfl, rfl, rfl⟩ := hcs
    simp only [if_true] at hz
    rcases Nat.eq_zero_or_pos len with h0 | h0
    · subst h0
      exact ⟨[], Or.inl ⟨some a, cap, rfl, rfl⟩, fun u hu => by simp at hu⟩
    · obtain ⟨ab, ao, spot⟩ := a
      have hspot : spot = none := by simpa [Addr.add] using World.cell?_spot (hcell 0 (by omega))
      subst hspot
      have hlen : (zs.take len).length = len := by rw [List.length_take]; omega
      refine ⟨zs.take len, Or.inr ⟨ab, ao, cap, by rw [hlen], by omega, fun j u hj => ?_⟩, fun u hu => ?_⟩
      · have hz2 : zs[j]? = some u := by
          rw [List.getElem?_take] at hj
          split at hj
          · exact hj
          · simp at hj
        have hjl := (List.getElem?_eq_some_iff.1 hz2).1
        have hcj := hcell j hjl
        rw [Addr.add_lit] at hcj
        rw [hcj]
        simp [List.getD, hz2]
      · have := hwz u (List.mem_of_mem_take hu)
        simp only [Lit.wf, Bool.and_eq_true, decide_eq_true_eq] at this
        simpa [IntKind.min, IntKind.max, IntKind.bits, IntKind.signed] using this

/-- strings that lie in a row, or an empty slice -/
def StrsAt (w : World) (v : Value) (l : List ByteArray) : Prop :=
  (∃ p cap, v = .slice p 0 cap ∧ l = []) ∨ ∃ b off cap, v = .slice (some ⟨b, off, none⟩) l.length cap ∧ l.length ≤ cap ∧ ∀ j u, l[j]? = some u → w.cell? ⟨b, off + j, none⟩ = some (.string u)
theorem weightsAll_mem {H : Type} {P : Program} {e : TypeId} {d : DataW H} {n : Nat} (hn : n ∈ d.weights P e) : ∀ (ds : List (DataW H)), d ∈ ds → n ∈ DataW.weightsAll P e ds
  | [], h => by simp at h
  | x :: ds, h => by
    simp only [DataW.weightsAll, List.mem_append]
    rcases List.mem_cons.1 h with rfl | h
    · exact Or.inl hn
    · exact Or.inr (weightsAll_mem hn ds h)
theorem open_strsR {H : Type} {enc : TypeId × Value → H} {W : World} {base : Nat} {t : TypeId} (ht : Tryd.prog.underlying t = some (.slice 9)) {ts : List TypeId} {ds : List (DataW H)} {j : Nat} {v : Value} {d : DataW H} {p : List MemPlace}
    (hval : Value.okWide Tryd.prog W .any base t v) (hd : DataW.Trod enc Tryd.prog W 0 (fun _ => true) true t v d p) (hs : (DataW.weightsEach Tryd.prog ts ds).all (· ≤ reachBytes) = true) (htj : ts[j]? = some t) (hdj : ds[j]? = some d) :
    ∃ l, StrsAt W v l ∧ ∀ s ∈ l, s.size ≤ 140737488351232 := by
  obtain ⟨a1, len, cap, rfl⟩ := okWide_slice ht hval
  obtain ⟨fuel, hf⟩ := hd
  rcases Deep.open_strs ht Tryd.underlying9 strCells1 hf with ⟨hcs, hx⟩ | ⟨a, len', cap', m, Sx, hcs, _, hl, hm, hmm, hx, hcell⟩
  · simp [Value.cells] at hcs
    obtain ⟨rfl, rfl, rfl⟩ := hcs
    exact ⟨[], Or.inl ⟨none, 0, rfl, rfl⟩, fun u hu => by simp at hu⟩
  · simp [Value.cells] at hcs
    obtain ⟨rfl, rfl, rfl⟩ := hcs
    simp only [if_true] at hmm
    subst hmm
    simp only [Prod.mk.injEq] at hx
    obtain ⟨rfl, rfl⟩ := hx
    rcases Nat.eq_zero_or_pos len with h0 | h0
    · subst h0
      exact ⟨[], Or.inl ⟨some a, m, rfl, rfl⟩, fun u hu => by simp at hu⟩
    · obtain ⟨ab, ao, spot⟩ := a
      have hspot : spot = none := by simpa [Addr.add] using World.cell?_spot (hcell 0 (by omega)).1
      subst hspot
      refine ⟨(List.range len).map Sx, Or.inr ⟨ab, ao, m, by simp, by simpa using hl, fun i u hi => ?_⟩, fun s hs2 => ?_⟩
      · simp only [List.getElem?_map, Option.map_eq_some_iff] at hi
        obtain ⟨z, hz, rfl⟩ := hi
        obtain ⟨hz1, hz2⟩ := List.getElem?_eq_some_iff.1 hz
        simp at hz1 hz2
        subst hz2
        have := (hcell i (by omega)).1
        rw [Addr.add_lit] at this
        exact this
      · obtain ⟨i, hi, rfl⟩ := List.mem_map.1 hs2
        have hmem := List.all_eq_true.1 hs _ (DataW.weights_mem_each htj hdj ((Sx i).data.toList.length) (by
          simp only [DataW.weights, ht, List.mem_cons, List.mem_append]
          refine Or.inr (Or.inl (weightsAll_mem (d := .lit (.string (Sx i).data.toList)) (by simp [DataW.weights]) _ ?_))
          exact List.mem_map.2 ⟨i, hi, rfl⟩))
        have e : reachBytes = 140737488351232 := by decide
        rw [e] at hmem
        simpa using hmem

/-- what the condition gives -/
theorem of_laid {W : World} (h : laidMetH Tryd.prog Rows.termListsRow.laid W) : Pow10 W.heap.size W := by
  rw [MakeChecks.laidMetH_plain _ _ _ (by kernel_rfl)] at h
  have h3 := laidMet.tail (laidMet.tail h)
  have hg : Tryd.prog.globalNamed "internal/strconv.uint64pow10" = some 0 := by kernel_rfl
  have hgt : (Tryd.prog.globals[0]?).map (·.type) = some 77 := by kernel_rfl
  have t := Lib.tabIs_of_head (k := .u64) (zs := Lib.pow10Tab) hg hgt Tryd.underlying77 Tryd.underlying70 (by kernel_rfl) (by kernel_rfl) h3
  refine ⟨⟨0, hg, ?_⟩, t⟩
  unfold Lib.TabIs World.var? at t
  rw [hg] at t
  simp only [Option.bind_some] at t
  rcases Nat.lt_or_ge 0 W.heap.size with h | h
  · exact h
  · rw [Array.getElem?_eq_none h] at t; cases t
theorem door_met (os : Os) (args : Array Value) : laidMetH Tryd.prog Rows.termListsRow.laid ((World.doorLaid Tryd.prog 24 os).forCall (fun _ _ => 0) ⟨#[], args, []⟩).memory :=
  laidMetH_of_parts3 (fuel := 8) (laidMet_of_run' 8 (by kernel_rfl) (by kernel_rfl)) (by kernel_rfl) (by kernel_rfl)
end Go.Proofs.YtojejhmodaaoiaaDoor
