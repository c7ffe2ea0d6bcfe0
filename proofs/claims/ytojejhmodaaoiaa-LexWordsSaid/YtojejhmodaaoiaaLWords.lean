/- LexWords: which texts are words, and what is quoted how, is as the document says. No condition. -/
import Derived.Test.YtojejhmodaaoiaaLexA
import Derived.Test.YtojejhmodaaoiaaRWd
import Derived.Test.YtojejhmodaaoiaaRow
import Derived.Test.YtojejhmodaaoiaaRows
import Derived.OpenShut
set_option linter.unusedSimpArgs false
set_option linter.unusedVariables false
namespace Go.Proofs.Ytojejhmodaaoiaa
open Go.RowKit

set_option maxHeartbeats 2000000 in
set_option maxRecDepth 20000 in
theorem lwords_walk (s : ByteArray) (hs : s.size ≤ 140737488351232) (w : World) : Calls Try.prog 5 #[.string s] w fun e w' => e = .returned (.bool true) ∧ Ext w w' := by
  by_cases h : 100 < s.size
  · have hsz : (s.extract 0 100).size = 100 := by simp; omega
    obtain ⟨t, ht⟩ : ∃ t, s.extract 0 100 = t := ⟨_, rfl⟩
    rw [ht] at hsz
    obtain ⟨q, er, hq⟩ : ∃ q er, quoteF t.data.toList = (q, er) := ⟨_, _, rfl⟩
    have HQ := Lib.hid hq
    have hw1 := word_any t
    have hw2 := rword_any t (by omega)
    generalize wordB t = B at hw1 hw2
    have HW1 := Lib.hid hw1
    have HW2 := Lib.hid hw2
    clear hq hsz hw1 hw2
    have h1 : (100 : Int) < s.size := by omega
    cases B
    all_goals
      go_enter Try.func5, Try.ntmps5
      go_wp2_with (first
        | (go_at_call 9; refine (quote_any t q er HQ.out _).mono ?_; rintro e _ ⟨rfl, d, os, rfl⟩)
        | (go_at_call 10; refine (rquote_any t q er HQ.out _).mono ?_; rintro e _ ⟨rfl, rfl⟩)
        | (go_at_call 11; refine (HW1.out _).mono ?_; rintro e _ ⟨rfl, d, os, rfl⟩)
        | (go_at_call 12; refine (HW2.out _).mono ?_; rintro e _ ⟨rfl, d, os, rfl⟩)
        | (go_at_call 7; refine (awake_any _).mono ?_; rintro e _ ⟨rfl, d, os, rfl⟩))
      go_ret
      exact ⟨rfl, by repeat (first | exact Ext.refl _ | apply Ext.alloc | apply Ext.more)⟩
  · obtain ⟨q, er, hq⟩ : ∃ q er, quoteF s.data.toList = (q, er) := ⟨_, _, rfl⟩
    have HQ := Lib.hid hq
    have hw1 := word_any s
    have hw2 := rword_any s (by omega)
    generalize wordB s = B at hw1 hw2
    have HW1 := Lib.hid hw1
    have HW2 := Lib.hid hw2
    clear hq hw1 hw2
    have h1 : (s.size : Int) ≤ 100 := by omega
    cases B
    all_goals
      go_enter Try.func5, Try.ntmps5
      go_wp2_with (first
        | (go_at_call 9; refine (quote_any s q er HQ.out _).mono ?_; rintro e _ ⟨rfl, d, os, rfl⟩)
        | (go_at_call 10; refine (rquote_any s q er HQ.out _).mono ?_; rintro e _ ⟨rfl, rfl⟩)
        | (go_at_call 11; refine (HW1.out _).mono ?_; rintro e _ ⟨rfl, d, os, rfl⟩)
        | (go_at_call 12; refine (HW2.out _).mono ?_; rintro e _ ⟨rfl, d, os, rfl⟩)
        | (go_at_call 7; refine (awake_any _).mono ?_; rintro e _ ⟨rfl, d, os, rfl⟩))
      go_ret
      exact ⟨rfl, by repeat (first | exact Ext.refl _ | apply Ext.alloc | apply Ext.more)⟩

namespace LexWordsRow
/-! ### The row -/
section
open Go.ChangeShapes Go.WideShapes Go.ChangeAt Go.RowKit Go.Joins
open Go.ChangeMaps (open_string shut_string)
theorem own : ownKnob Try.prog.godebug = none := by kernel_rfl
theorem laid : laidOutB Try.prog = true := by kernel_rfl

set_option maxRecDepth 100000 in
theorem lifted (os : Os) (started : os.Started) (H : Type) (enc : TypeId × Value → H) :
    ReturnsInHanded {} Try.checked os 5 .any (Rows.lexWordsSpec.pre6 enc Try.prog Try.f5 Rows.lexWordsRow.domain false) (Rows.lexWordsSpec.post enc Try.prog Try.f5 false true false false) := by
  refine returnsInHanded_of_change_sized (C := Try.checked) own started (by kernel_rfl) Try.func5
    (ChangeSpec.witness6 (enc := enc) (C := Try.checked) false ⟨#[], #[.string ⟨#[]⟩], []⟩ 8 (by kernel_rfl) (by kernel_rfl) (by kernel_rfl) (by kernel_rfl)) ?_
  intro W base args ds gs before hval0 hW hcnd hsz0 _
  have hval : ∀ (j : Nat) t v, Try.f5.params[j]? = some t → args[j]? = some v → Value.okWide Try.prog W .any base t v := hval0
  have hW' := hW
  obtain ⟨p, q, hA0, hV, rfl, hfz, hnd⟩ := hW
  have hA : DataW.TrodAll enc Try.prog W 0 (fun _ => true) true Try.f5.params.toList args.toList ds p := hA0
  have hAk := hA
  have hpr : Try.f5.params.toList.all (fun t => Try.prog.readableRec t && decide (t < Try.prog.types.size)) = true := by kernel_rfl
  have hlt := hA.lt
  obtain ⟨rfl, rfl⟩ := trodVars_none hV
  have hsz : (DataW.weightsEach Try.prog (Try.f5.params.toList ++ []) (ds ++ [])).all (· ≤ reachBytes) = true := hsz0
  rw [Try.params5] at hA hval hsz
  simp only [List.append_nil] at hsz
  obtain ⟨v0, vs0, d0, ds0, p0, q0, hargs, rfl, rfl, h0, r0⟩ := trodAll_cons hA
  obtain ⟨rfl, rfl, rfl⟩ := trodAll_nil r0
  obtain rfl : args = #[v0] := by cases args; simp_all
  obtain ⟨s, rfl, rfl, rfl, ws⟩ := open_string Try.underlying9 (hval 0 9 v0 rfl rfl) h0
  have ss : s.size ≤ 140737488351232 := by
    have h := sized_string hsz (j := 0) rfl rfl
    have e : reachBytes = 140737488351232 := by decide
    rw [e] at h
    simpa using h
  clear hA0 hval0 hsz0
  refine (lwords_walk s ss W).mono fun e W' ⟨he, hx⟩ => ?_
  subst he
  exact ⟨_, rfl, _, _, _, [], _, [], hW', trodAll_mk1 (shut_bool Try.underlying4 _), trodAll_below laid hx.below hpr hAk hlt, rfl, hx.below.frame _, fun h => by cases h⟩

theorem proved : Rows.LexWordsSaid :=
  OpenClaim.holds_of_wide 5 Try.f5 rfl rfl rfl rfl rfl rfl rfl ⟨rfl, rfl, rfl, rfl, rfl⟩ rfl rfl rfl rfl rfl (by kernel_rfl) Try.func5 (by kernel_rfl)
    (of_decide_eq_true (by kernel_rfl)) (by unfold Func.isWrapper; first | (rw [if_pos (by decide +kernel)]; kernel_rfl) | (rw [if_neg (by decide +kernel)]; exact ⟨rfl, rfl⟩))
    (fun os started H enc _ => lifted os started H enc)
end
#print axioms proved
end LexWordsRow
end Go.Proofs.Ytojejhmodaaoiaa
