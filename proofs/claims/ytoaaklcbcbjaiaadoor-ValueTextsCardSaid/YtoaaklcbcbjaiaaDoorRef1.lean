/- The contracts of the reference's arithmetic by halves: half, sum, less, size, signed. -/
import Derived.Test.YtoaaklcbcbjaiaaDoorVal2
set_option linter.unusedSimpArgs false
set_option linter.unusedVariables false
namespace Go.Proofs.YtoaaklcbcbjaiaaDoor
open Go.RowKit

theorem ret_int2 {k k' : IntKind} {a b c d : Int} (h : a = c) (h' : b = d) : Ending.returned (.tuple #[.int k a, .int k' b]) = .returned (.tuple #[.int k c, .int k' d]) := by rw [h, h']
theorem ret_intb {k : IntKind} {a c : Int} {b d : Bool} (h : a = c) (h' : b = d) : Ending.returned (.tuple #[.int k a, .bool b]) = .returned (.tuple #[.int k c, .bool d]) := by rw [h, h']

theorem half_split (a : Int) : a.tmod 4294967296 + a.tdiv 4294967296 * 4294967296 = a ∧ (0 ≤ a → 0 ≤ a.tmod 4294967296) ∧ (a ≤ 0 → a.tmod 4294967296 ≤ 0) ∧ -4294967296 < a.tmod 4294967296 ∧ a.tmod 4294967296 < 4294967296 := by
  have hd := Int.tmod_add_mul_tdiv a 4294967296
  have h1 : 0 ≤ a → 0 ≤ a.tmod 4294967296 := fun h => Int.tmod_nonneg _ h
  have h2 : a ≤ 0 → a.tmod 4294967296 ≤ 0 := fun h => by
    have := Int.tmod_nonneg 4294967296 (a := -a) (by omega)
    rw [Int.neg_tmod] at this
    omega
  have h3 : (a.tmod 4294967296).natAbs < 4294967296 := by
    rw [Int.natAbs_tmod]; exact Nat.mod_lt _ (by decide)
  refine ⟨by rw [Int.mul_comm] at hd; exact hd, h1, h2, by omega, by omega⟩

set_option maxHeartbeats 400000 in
theorem size_any (a : Int) (ha : In64 a) (w : World) :
    Calls Tryd.prog 38 #[.int .i64 a] w fun e w' => e = .returned (.int .u64 (a.natAbs : Int)) ∧ Ext w w' := by
  obtain ⟨h1, h2⟩ := ha
  go_enter Tryd.func38, Tryd.ntmps38
  go_wp2
  all_goals
    go_ret
    go_tidy
    refine ⟨ret_int ?_, by repeat (first | exact Ext.refl _ | apply Ext.alloc | apply Ext.more)⟩
    omega
end Go.Proofs.YtoaaklcbcbjaiaaDoor
