/- ParseSources: whatever source there is, it is the document's program, or refused with its error, at its place. No condition. -/
import Derived.Test.YtoaaklcbcbjaiaaRSrc
import Derived.Test.YtoaaklcbcbjaiaaParO2
import Derived.Test.YtoaaklcbcbjaiaaRow
import Derived.Test.YtoaaklcbcbjaiaaRows
import Derived.OpenShut
set_option linter.unusedSimpArgs false
set_option linter.unusedVariables false
namespace Go.Proofs.Ytoaaklcbcbjaiaa
open Go.RowKit
attribute [go_sem] more_more Array.size_append

set_option maxHeartbeats 4000000 in
set_option maxRecDepth 20000 in
theorem psou_err (s b : ByteArray) (FW : RowKit.Hid (∀ w, Calls Try.prog 19 #[.string s] w fun e w' => e = .returned (.string b) ∧ Ext w w')) (ec ea : Int) (w : World)
    (PT : RowKit.Hid (∀ w1, Calls Try.prog 20 #[.string b] w1 (ParsePost w1 (.error (ec, ea))))) (RT : RowKit.Hid (∀ w1, Calls Try.prog 21 #[.string b] w1 (ParsePost w1 (.error (ec, ea))))) :
    Calls Try.prog 6 #[.string s] w fun e w' => e = .returned (.bool true) ∧ Ext w w' := by
  go_enter Try.func6, Try.ntmps6
  go_wp2_with (first
    | ((go_at_call 19; (with_reducible refine (FW.out _).mono ?_); rintro e _ ⟨rfl, d0, os0, rfl⟩))
    | ((go_at_call 20; (with_reducible refine (PT.out _).mono ?_); rintro e _ ⟨rfl, d1, os1, rfl⟩))
    | ((go_at_call 21; (with_reducible refine (RT.out _).mono ?_); rintro e _ ⟨rfl, d2, os2, rfl⟩))
    | ((go_at_call 18; (with_reducible refine (same_any [] _ _ 0 0 _ _ (World.ownsRow_nil _ _ _ _) (World.ownsRow_nil _ _ _ _) (by decide)).mono ?_); rintro e _ ⟨rfl, d3, os3, rfl⟩))
    | ((go_at_call 15; (with_reducible refine (awake_any _).mono ?_); rintro e _ ⟨rfl, d4, os4, rfl⟩)))
  go_ret
  exact ⟨rfl, by repeat (first | exact Ext.refl _ | apply Ext.alloc | apply Ext.more)⟩

set_option maxHeartbeats 4000000 in
set_option maxRecDepth 20000 in
theorem psou_ok (s b : ByteArray) (FW : RowKit.Hid (∀ w, Calls Try.prog 19 #[.string s] w fun e w' => e = .returned (.string b) ∧ Ext w w')) (ns : List Nd) (fi : Int) (HNL : RowKit.Hid (ns.length ≤ 512)) (w : World)
    (PT : RowKit.Hid (∀ w1, Calls Try.prog 20 #[.string b] w1 (ParsePost w1 (.ok (ns, fi))))) (RT : RowKit.Hid (∀ w1, Calls Try.prog 21 #[.string b] w1 (ParsePost w1 (.ok (ns, fi))))) :
    Calls Try.prog 6 #[.string s] w fun e w' => e = .returned (.bool true) ∧ Ext w w' := by
  go_enter Try.func6, Try.ntmps6
  go_wp2_with (first
    | ((go_at_call 19; (with_reducible refine (FW.out _).mono ?_); rintro e _ ⟨rfl, d0, os0, rfl⟩))
    | ((go_at_call 20; (with_reducible refine (PT.out _).mono ?_); rintro e _ ⟨nv1, he, hrow, d1, os1, rfl⟩; obtain ⟨p1, c1, rfl⟩ := row_formO hrow; subst he; have HR1 := Lib.hid (hrow.mono (Nat.zero_le _)); clear hrow; rw [more_more] at HR1))
    | ((go_at_call 21; (with_reducible refine (RT.out _).mono ?_); rintro e _ ⟨nv2, he, hrow, d2, os2, rfl⟩; obtain ⟨p2, c2, rfl⟩ := row_formO hrow; subst he; have HR2 := Lib.hid (hrow.mono (Nat.zero_le _)); clear hrow))
    | ((go_at_call 18; (with_reducible refine (same_any ns _ _ 0 0 _ _ (by repeat (first | (with_reducible exact HR1.out) | (with_reducible apply own_more) | (with_reducible refine World.ownsRow.alloc ?_ _))) (by repeat (first | (with_reducible exact HR2.out) | (with_reducible apply own_more) | (with_reducible refine World.ownsRow.alloc ?_ _))) HNL.out).mono ?_); rintro e _ ⟨rfl, d3, os3, rfl⟩))
    | ((go_at_call 15; (with_reducible refine (awake_any _).mono ?_); rintro e _ ⟨rfl, d4, os4, rfl⟩)))
  go_ret
  exact ⟨rfl, by repeat (first | exact Ext.refl _ | apply Ext.alloc | apply Ext.more)⟩

theorem psou_walk (w : World) (s : ByteArray) : Calls Try.prog 6 #[.string s] w fun e w' => e = .returned (.bool true) ∧ Ext w w' := by
  rcases hr : sourceF (fewB s).data.toList with ⟨ec, ea⟩ | ⟨ns, fi⟩
  · exact psou_err s (fewB s) (Lib.hid fun w => few_any s w) ec ea w (Lib.hid (source_any _ _ hr)) (Lib.hid (rsource_any _ _ hr))
  · have hl : ns.length ≤ 512 := by
      have h := hr
      unfold sourceF at h
      split at h
      · exact (order_law _ ns fi h).2.2.2.2.2
      · cases h
    exact psou_ok s (fewB s) (Lib.hid fun w => few_any s w) ns fi (Lib.hid hl) w (Lib.hid (source_any _ _ hr)) (Lib.hid (rsource_any _ _ hr))

namespace ParseSourcesRow

/-! ### The row -/
section
open Go.ChangeShapes Go.WideShapes Go.ChangeAt Go.RowKit Go.Joins
open Go.ChangeMaps (open_string shut_string)
theorem own : ownKnob Try.prog.godebug = none := by kernel_rfl
theorem laid : laidOutB Try.prog = true := by kernel_rfl

set_option maxRecDepth 100000 in
theorem lifted (os : Os) (started : os.Started) (H : Type) (enc : TypeId × Value → H) :
    ReturnsInHanded {} Try.checked os 6 .any (Rows.parseSourcesSpec.pre6 enc Try.prog Try.f6 Rows.parseSourcesRow.domain false) (Rows.parseSourcesSpec.post enc Try.prog Try.f6 false true false false) := by
  refine returnsInHanded_of_change_sized (C := Try.checked) own started (by kernel_rfl) Try.func6
    (ChangeSpec.witness6 (enc := enc) (C := Try.checked) false ⟨#[], #[.string ⟨#[]⟩], []⟩ 8 (by kernel_rfl) (by kernel_rfl) (by kernel_rfl) (by kernel_rfl)) ?_
  intro W base args ds gs before hval0 hW hcnd hsz0 _
  have hval : ∀ (j : Nat) t v, Try.f6.params[j]? = some t → args[j]? = some v → Value.okWide Try.prog W .any base t v := hval0
  have hW' := hW
  obtain ⟨p, q, hA0, hV, rfl, hfz, hnd⟩ := hW
  have hA : DataW.TrodAll enc Try.prog W 0 (fun _ => true) true Try.f6.params.toList args.toList ds p := hA0
  have hAk := hA
  have hpr : Try.f6.params.toList.all (fun t => Try.prog.readableRec t && decide (t < Try.prog.types.size)) = true := by kernel_rfl
  have hlt := hA.lt
  obtain ⟨rfl, rfl⟩ := trodVars_none hV
  have hsz : (DataW.weightsEach Try.prog (Try.f6.params.toList ++ []) (ds ++ [])).all (· ≤ reachBytes) = true := hsz0
  rw [Try.params6] at hA hval hsz
  simp only [List.append_nil] at hsz
  obtain ⟨v0, vs0, d0, ds0, p0, q0, hargs, rfl, rfl, h0, r0⟩ := trodAll_cons hA
  obtain ⟨rfl, rfl, rfl⟩ := trodAll_nil r0
  obtain rfl : args = #[v0] := by cases args; simp_all
  obtain ⟨s, rfl, rfl, rfl, ws⟩ := open_string Try.underlying9 (hval 0 9 v0 rfl rfl) h0
  have ss : s.size ≤ 140737488351232 := by
    have h := sized_string hsz (j := 0) rfl rfl
    have e : reachBytes = 140737488351232 := by decide
    rw [e] at h
    simpa using h
  clear hA0 hval0 hsz0
  refine (psou_walk W s).mono fun e W' ⟨he, hx⟩ => ?_
  subst he
  exact ⟨_, rfl, _, _, _, [], _, [], hW', trodAll_mk1 (shut_bool Try.underlying4 _), trodAll_below laid hx.below hpr hAk hlt, rfl, hx.below.frame _, fun h => by cases h⟩

theorem proved : Rows.ParseSourcesSaid :=
  OpenClaim.holds_of_wide 6 Try.f6 rfl rfl rfl rfl rfl rfl rfl ⟨rfl, rfl, rfl, rfl, rfl⟩ rfl rfl rfl rfl rfl (by kernel_rfl) Try.func6 (by kernel_rfl)
    (of_decide_eq_true (by kernel_rfl)) (by unfold Func.isWrapper; first | (rw [if_pos (by decide +kernel)]; kernel_rfl) | (rw [if_neg (by decide +kernel)]; exact ⟨rfl, rfl⟩))
    (fun os started H enc _ => lifted os started H enc)
end
#print axioms proved
end ParseSourcesRow
end Go.Proofs.Ytoaaklcbcbjaiaa
