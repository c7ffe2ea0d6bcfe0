/- CodeMakes: every program's code has numbers such as the document says, or it is refused with its error, at its node. No condition. -/
import Derived.Test.YtpoeknndkccbaaaGreatM01
import Derived.Test.YtpoeknndkccbaaaGreatM11
import Derived.Test.YtpoeknndkccbaaaGreatM45
import Derived.Test.YtpoeknndkccbaaaGreatRows
set_option linter.unusedSimpArgs false
set_option linter.unusedVariables false
set_option maxRecDepth 100000
namespace Go.Proofs.YtpoeknndkccbaaaGreat
open Go.RowKit
namespace CodeMakesRow
/-! ### The row -/
section
open Go.ChangeShapes Go.WideShapes Go.ChangeAt Go.RowKit Go.Joins
open Go.ChangeMaps (open_string shut_string)
theorem own : ownKnob Tryz.prog.godebug = none := by kernel_rfl
theorem laid : laidOutB Tryz.prog = true := by kernel_rfl
theorem progCells : Tryz.prog.cellsOf 24 = 2 := by kernel_rfl
theorem lifted (os : Os) (started : os.Started) (H : Type) (enc : TypeId × Value → H) :
  ReturnsInHanded {} Tryz.checked os 3 .any (Rows.codeMakesSpec.pre6 enc Tryz.prog Tryz.f3 Rows.codeMakesRow.domain false) (Rows.codeMakesSpec.post enc Tryz.prog Tryz.f3 false true false false) := by
 refine returnsInHanded_of_change_sized (C := Tryz.checked) own started zae Tryz.func3
  (ChangeSpec.witness6 (enc := enc) (C := Tryz.checked) false ⟨#[], #[.agg #[.slice none 0 0, .int .i64 0]], []⟩ 8 zae zae zae zae) ?_
 intro W base args ds gs before hval0 hW hcnd hsz0 _
 have hval : ∀ (j : Nat) t v, Tryz.f3.params[j]? = some t → args[j]? = some v → Value.okWide Tryz.prog W .any base t v := hval0
 have hW' := hW
 obtain ⟨p, q, hA0, hV, rfl, hfz, hnd⟩ := hW
 have hA : DataW.TrodAll enc Tryz.prog W 0 (fun _ => true) true Tryz.f3.params.toList args.toList ds p := hA0
 have hAk := hA
 have hpr : Tryz.f3.params.toList.all (fun t => Tryz.prog.readableRec t && decide (t < Tryz.prog.types.size)) = true := by kernel_rfl
 have hlt := hA.lt
 obtain ⟨rfl, rfl⟩ := trodVars_none hV
 have hsz : (DataW.weightsEach Tryz.prog (Tryz.f3.params.toList ++ []) (ds ++ [])).all (· ≤ reachBytes) = true := hsz0
 rw [Tryz.params3] at hA hval hsz
 simp only [List.append_nil] at hsz
 obtain ⟨v0, vs0, d0, ds0, p0, q0, hargs, rfl, rfl, h0, r0⟩ := trodAll_cons hA
 obtain ⟨rfl, rfl, rfl⟩ := trodAll_nil r0
 obtain rfl : args = #[v0] := by cases args; simp_all
 obtain ⟨c00, c01, y00, y01, m0, rfl, rfl, rfl, hy00, hy01⟩ := open_agg2 Tryz.underlying24 zae progCells (hval 0 24 v0 rfl rfl) h0
 obtain ⟨p_fi, e01, rfl, wp_fi⟩ := DataW.trod_int Tryz.underlying3 hy01
 obtain ⟨p_p, p_n, p_c, p_ns, e00, hp⟩ := open_nodesF hy00
 simp at e01
 subst e00 e01
 clear hA0 hval0 hsz0
 refine (cmakes_walk W p_p p_n p_c p_ns p_fi hp).mono fun e W' ⟨he, hx⟩ => ?_
 subst he
 exact ⟨_, rfl, _, _, _, [], _, [], hW', trodAll_mk1 (shut_bool Tryz.underlying4 _), qcg laid hx.below hpr hAk hlt, rfl, hx.below.frame _, fun h => by cases h⟩
theorem proved : Rows.CodeMakesSaid :=
 OpenClaim.holds_of_wide 3 Tryz.f3 rfl rfl rfl rfl rfl rfl rfl ⟨rfl, rfl, rfl, rfl, rfl⟩ rfl rfl rfl rfl rfl zae Tryz.func3 zae
  (of_decide_eq_true zae) (by unfold Func.isWrapper; first | (rw [if_pos (by decide +kernel)]; kernel_rfl) | (rw [if_neg (by decide +kernel)]; exact ⟨rfl, rfl⟩))
  (fun os started H enc _ => lifted os started H enc)
end
#print axioms proved
end CodeMakesRow
end Go.Proofs.YtpoeknndkccbaaaGreat
