/- Lemmas for the claim (texts Opn2, what its proof uses of them). -/
import Derived.Test.YtpchohjkelopoaaGreatDoorP21
import Derived.Test.YtpchohjkelopoaaGreatDoorP28
set_option linter.unusedSimpArgs false
set_option linter.unusedVariables false
set_option maxRecDepth 100000
namespace Go.Proofs.YtpchohjkelopoaaGreatDoor
open Go.RowKit
attribute [go_sem] more_more Array.size_append
open Go.ChangeShapes Go.WideShapes Go.ChangeAt Go.Joins
theorem part_two {α : Type} (L : List α) (i n : Nat) : L.drop i = (L.drop i).take n ++ L.drop (i + n) := by
  rw [← List.drop_drop, List.take_append_drop]
theorem part_end {α : Type} {L : List α} {n : Nat} (h : L.length = n) : L.drop n = [] := List.drop_eq_nil_of_le (by omega)
section
variable {H : Type} {enc : TypeId × Value → H} {W : World}
theorem cSt : Tryz.prog.cellsOf 56 = 35 := by kernel_rfl
theorem storeFields : ∃ f0 f1 f2 f3 : Field, Tryz.prog.underlying 56 = some (.struct #[f0, f1, f2, f3]) ∧ (f0.type = 29 ∧ f0.offset = 0) ∧ (f1.type = 3 ∧ f1.offset = 32) ∧ (f2.type = 3 ∧ f2.offset = 33) ∧ (f3.type = 3 ∧ f3.offset = 34) := ⟨_, _, _, _, Tryz.underlying56, ⟨rfl, rfl⟩, ⟨rfl, rfl⟩, ⟨rfl, rfl⟩, ⟨rfl, rfl⟩⟩
theorem rd_store {fuel : Nat} {cs : List Value} {x : DataW H × List MemPlace} (h : DataW.trod enc Tryz.prog W 0 (fun _ => true) true fuel 56 cs = some x) (hs : Sm 56 x.1) :
    ∃ (bs : Nat → Nat) (v : Nat → Value) (T : Nat → List It) (V : Nat → Int) (a b c : Int), cs = (stC v V a b c).toList ∧ (∀ k, k < 16 → LfIn W (bs k) (v k) (T k)) ∧ In64I a ∧ In64I b ∧ In64I c := by
  obtain ⟨f0, f1, f2, f3, hst, ⟨t0, o0⟩, ⟨t1, o1⟩, ⟨t2, o2⟩, ⟨t3, o3⟩⟩ := storeFields
  obtain ⟨ys, n', _, rfl, hlen, hyl, hf⟩ := DataW.trod_struct hst h
  rw [cSt] at hlen
  match ys, hyl with
  | [y0, y1, y2, y3], _ =>
    have g0 := hf 0 f0 rfl
    have g1 := hf 1 f1 rfl
    have g2 := hf 2 f2 rfl
    have g3 := hf 3 f3 rfl
    have s0 := sm_field (i := 0) (f := f0) (d := y0.1) hst hs rfl rfl
    rw [t0, o0, cTr] at g0
    rw [t1, o1, cI] at g1
    rw [t2, o2, cI] at g2
    rw [t3, o3, cI] at g3
    rw [t0] at s0
    obtain ⟨bs, v, T, V, e0, a0⟩ := rd_trunk g0 s0
    obtain ⟨a, e1, w1⟩ := rd_int Tryz.underlying3 g1
    obtain ⟨b, e2, w2⟩ := rd_int Tryz.underlying3 g2
    obtain ⟨c, e3, w3⟩ := rd_int Tryz.underlying3 g3
    refine ⟨bs, v, T, V, a, b, c, ?_, a0, w1, w2, w3⟩
    have q := part_two cs 0 32
    rw [part_two cs (0 + 32) 1, part_two cs (0 + 32 + 1) 1, part_two cs (0 + 32 + 1 + 1) 1, part_end (n := 0 + 32 + 1 + 1 + 1) hlen, e0] at q
    simp only [Nat.zero_add, Nat.reduceAdd] at q
    rw [e1, e2, e3, List.drop_zero] at q
    rw [q]; rfl
theorem open_store {v : Value} {d : DataW H} {p : List MemPlace} (hd : DataW.Trod enc Tryz.prog W 0 (fun _ => true) true 56 v d p) (hs : Sm 56 d) :
    ∃ (bs : Nat → Nat) (vv : Nat → Value) (T : Nat → List It) (V : Nat → Int) (a b c : Int), v = .agg (stC vv V a b c) ∧ (∀ k, k < 16 → LfIn W (bs k) (vv k) (T k)) ∧ In64I a ∧ In64I b ∧ In64I c := by
  obtain ⟨fuel, h⟩ := hd
  have hlen : v.cells.toList.length = 35 := by
    obtain ⟨f0, f1, f2, f3, hst, _⟩ := storeFields
    obtain ⟨_, _, _, _, hlen, _⟩ := DataW.trod_struct hst h
    rw [cSt] at hlen; exact hlen
  obtain ⟨cs, rfl⟩ := cells_agg (v := v) (n := 35) (by decide) (by simpa using hlen)
  obtain ⟨bs, vv, T, V, a, b, c, e, q⟩ := rd_store h hs
  refine ⟨bs, vv, T, V, a, b, c, ?_, q⟩
  congr 1
  exact Array.toList_inj.1 e
end
end Go.Proofs.YtpchohjkelopoaaGreatDoor
