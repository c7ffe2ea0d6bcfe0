/- The chapter's examples: awake. -/
import Derived.Test.YtojejhmodaaoiaaLex9
import Derived.Test.YtojejhmodaaoiaaLex2
set_option linter.unusedSimpArgs false
set_option linter.unusedVariables false
namespace Go.Proofs.Ytojejhmodaaoiaa
open Go.RowKit

theorem ex1 : lexF (⟨#[112, 117, 116, 32, 34, 97, 34, 44, 32, 49, 59]⟩ : ByteArray).data.toList =
    ([(⟨5, ⟨#[112, 117, 116]⟩, 0⟩, 0), (⟨3, ⟨#[97]⟩, 0⟩, 4), (⟨4, ⟨#[44]⟩, 0⟩, 7), (⟨2, ⟨#[]⟩, 1⟩, 9), (⟨4, ⟨#[59]⟩, 0⟩, 10), (tok0, 11)], 0, 0) := by kernel_rfl
theorem ex2 : lexF (⟨#[48, 49]⟩ : ByteArray).data.toList = ([], 3, 0) := by kernel_rfl
theorem ex3 : lexF (⟨#[34, 97]⟩ : ByteArray).data.toList = ([], 2, 0) := by kernel_rfl

def Aw1Post (w : World) (e : Ending) (w' : World) : Prop :=
  ∃ g cap, e = .returned (.tuple #[.slice (some ⟨g, 0, none⟩) 6 cap, .int .i64 0, .int .i64 0]) ∧ 6 ≤ cap ∧ g < w'.heap.size ∧
    w'.cell? ⟨g, 0, none⟩ = some (.int .i64 5) ∧ w'.cell? ⟨g, 1, none⟩ = some (.int .i64 0) ∧ w'.cell? ⟨g, 2, none⟩ = some (.string ⟨#[112, 117, 116]⟩) ∧ w'.cell? ⟨g, 3, none⟩ = some (.int .i64 0) ∧
    w'.cell? ⟨g, 4, none⟩ = some (.int .i64 3) ∧ w'.cell? ⟨g, 5, none⟩ = some (.int .i64 4) ∧ w'.cell? ⟨g, 6, none⟩ = some (.string ⟨#[97]⟩) ∧ w'.cell? ⟨g, 7, none⟩ = some (.int .i64 0) ∧
    w'.cell? ⟨g, 12, none⟩ = some (.int .i64 2) ∧ w'.cell? ⟨g, 13, none⟩ = some (.int .i64 9) ∧ w'.cell? ⟨g, 14, none⟩ = some (.string ⟨#[]⟩) ∧ w'.cell? ⟨g, 15, none⟩ = some (.int .i64 1) ∧
    w'.cell? ⟨g, 20, none⟩ = some (.int .i64 0) ∧ w'.cell? ⟨g, 21, none⟩ = some (.int .i64 11) ∧ w'.cell? ⟨g, 22, none⟩ = some (.string ⟨#[]⟩) ∧ w'.cell? ⟨g, 23, none⟩ = some (.int .i64 0) ∧ Ext w w'

/-- a row of tokens, cell by cell -/
theorem tok_cell {w : World} {base g cap n : Nat} {l : List (Tok × Nat)} (h : w.ownsRow base 28 4 (.slice (some ⟨g, 0, none⟩) n cap) n (tokCells l)) (j : Nat) (u : Value) (hj : (tokCells l)[j]? = some u) : w.cell? ⟨g, j, none⟩ = some u := by
  have := h.cells (g := g) rfl j u hj
  rw [Addr.add_lit] at this
  simpa using this
theorem tok_cap {w : World} {base g cap n : Nat} {e : TypeId} {size : Nat} {xs : List Value} (h : w.ownsRow base e size (.slice (some ⟨g, 0, none⟩) n cap) n xs) : n ≤ cap := by
  rcases h.2 with ⟨h1, _⟩ | ⟨g', cap', _, h1, _, _, h2, _⟩
  · cases h1
  · simp only [Value.slice.injEq] at h1; omega

theorem aw_tok1 (w : World) : Calls Try.prog 8 #[.string ⟨#[112, 117, 116, 32, 34, 97, 34, 44, 32, 49, 59]⟩] w (Aw1Post w) := by
  refine (tokens_any _ _ ex1 w).mono ?_
  rintro e w' (⟨_, g, cap, rfl, ho, hx⟩ | ⟨h, _⟩)
  · have C := tok_cell ho
    exact ⟨g, cap, rfl, tok_cap ho, (ho.lt g rfl).2, C _ _ rfl, C _ _ rfl, C _ _ rfl, C _ _ rfl, C _ _ rfl, C _ _ rfl, C _ _ rfl, C _ _ rfl, C _ _ rfl, C _ _ rfl, C _ _ rfl, C _ _ rfl, C _ _ rfl, C _ _ rfl, C _ _ rfl, C _ _ rfl, hx⟩
  · exact absurd rfl h
theorem aw_tok2 (w : World) : Calls Try.prog 8 #[.string ⟨#[48, 49]⟩] w fun e w' => e = .returned (.tuple #[.slice none 0 0, .int .i64 3, .int .i64 0]) ∧ Ext w w' := by
  refine (tokens_any _ _ ex2 w).mono ?_
  rintro e w' (⟨h, _⟩ | ⟨_, rfl, hx⟩)
  · exact absurd h (by decide)
  · exact ⟨rfl, hx⟩
theorem aw_tok3 (w : World) : Calls Try.prog 8 #[.string ⟨#[34, 97]⟩] w fun e w' => e = .returned (.tuple #[.slice none 0 0, .int .i64 2, .int .i64 0]) ∧ Ext w w' := by
  refine (tokens_any _ _ ex3 w).mono ?_
  rintro e w' (⟨h, _⟩ | ⟨_, rfl, hx⟩)
  · exact absurd h (by decide)
  · exact ⟨rfl, hx⟩
theorem aw_word (w : World) : Calls Try.prog 11 #[.string ⟨#[116, 114, 117, 101]⟩] w fun e w' => e = .returned (.bool true) ∧ Ext w w' := by
  have e : wordB ⟨#[116, 114, 117, 101]⟩ = true := by kernel_rfl
  have := word_any ⟨#[116, 114, 117, 101]⟩ w
  rwa [e] at this

set_option maxHeartbeats 2000000 in
set_option maxRecDepth 20000 in
theorem awake_any (w : World) : Calls Try.prog 7 #[] w fun e w' => e = .returned (.bool true) ∧ Ext w w' := by
  go_enter Try.func7, Try.ntmps7
  go_wp2_with (first
    | (go_at_call 8; (with_reducible refine (aw_tok1 _).mono ?_); rintro e w1 ⟨g, cap, rfl, hcap, hg, c0, c1, c2, c3, c4, c5, c6, c7, c12, c13, c14, c15, c20, c21, c22, c23, hx1⟩; have HX1 := Lib.hid hx1; clear hx1)
    | (go_at_call 8; (with_reducible refine (aw_tok2 _).mono ?_); rintro e _ ⟨rfl, d, os, rfl⟩)
    | (go_at_call 8; (with_reducible refine (aw_tok3 _).mono ?_); rintro e _ ⟨rfl, d, os, rfl⟩)
    | (go_at_call 11; refine (aw_word _).mono ?_; rintro e _ ⟨rfl, d, os, rfl⟩))
  go_ret
  exact ⟨rfl, HX1.out.trans (by repeat (first | exact Ext.refl _ | apply Ext.alloc | apply Ext.more))⟩
end Go.Proofs.Ytojejhmodaaoiaa
