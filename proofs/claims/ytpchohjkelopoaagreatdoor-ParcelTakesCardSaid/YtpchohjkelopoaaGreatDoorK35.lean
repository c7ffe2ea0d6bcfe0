/- ParcelTakes: whatever manifest there is, whatever one has, and whatever parcels come, in whatever order, the crate is the document's each time, or the parcel is refused with its error; so is the store in the end: the statement that plenumlaw15.ParcelTakes returns true, for all that comes, with the laid tables as the program lays them. -/
import Derived.Test.YtpchohjkelopoaaGreatDoorK29
import Derived.Test.YtpchohjkelopoaaGreatDoorK33
import Derived.Test.YtpchohjkelopoaaGreatDoorK34
import Derived.Test.YtpchohjkelopoaaGreatDoorTie
import Derived.Test.YtpchohjkelopoaaGreatDoorCards
set_option linter.unusedSimpArgs false
set_option linter.unusedVariables false
set_option maxRecDepth 100000
namespace Go.Proofs.YtpchohjkelopoaaGreatDoor
open Go.RowKit
namespace ParcelTakesRow
/-! ### The row, and the card -/
section
open Go.ChangeShapes Go.WideShapes Go.ChangeAt Go.RowKit Go.Joins
open Go.ChangeMaps (open_string shut_string)
theorem own : ownKnob Tryz.prog.godebug = none := by kernel_rfl
theorem laid : laidOutB Tryz.prog = true := by kernel_rfl
set_option maxRecDepth 100000 in
theorem lifted (os : Os) (started : os.Started) (H : Type) (enc : TypeId × Value → H) :
    ReturnsInHanded {} Tryz.checked os 3 .any (fun w args => (Rows.parcelTakesSpec.pre enc Tryz.prog Tryz.f3 Rows.parcelTakesRow.domain false w args ∧ laidMetH Tryz.prog Rows.parcelTakesRow.laid w) ∧ sizedMet enc Tryz.prog Tryz.f3 (OpenSpec.ofChange Rows.parcelTakesSpec) false w args) (Rows.parcelTakesSpec.post enc Tryz.prog Tryz.f3 false true false false) := by
  refine returnsInHanded_of_change_and (C := Tryz.checked) (X := fun w _ => laidMetH Tryz.prog Rows.parcelTakesRow.laid w) (fun _ _ _ hh h => h.of_heap hh) own started (by kernel_rfl) Tryz.func3
    (ChangeSpec.witness_shaped (enc := enc) (C := Tryz.checked) (os := os) (X := fun w _ => laidMetH Tryz.prog Rows.parcelTakesRow.laid w) false (World.doorLaid Tryz.prog 67 os) #[.agg #[.slice none 0 0, .int .i64 0, .int .i64 0, .int .i64 0, .int .i64 0, .int .i64 0, .int .i64 0, .int .i64 0, .int .i64 0, .int .i64 0, .int .i64 0, .int .i64 0, .int .i64 0, .int .i64 0, .int .i64 0, .int .i64 0, .int .i64 0, .int .i64 0, .int .i64 0, .int .i64 0, .slice none 0 0, .slice none 0 0, .slice none 0 0, .slice none 0 0, .slice none 0 0, .slice none 0 0, .slice none 0 0, .slice none 0 0, .slice none 0 0, .slice none 0 0, .slice none 0 0, .slice none 0 0, .slice none 0 0, .slice none 0 0, .slice none 0 0, .slice none 0 0, .int .i64 0, .int .i64 0, .int .i64 0, .int .i64 0, .int .i64 0, .int .i64 0, .int .i64 0, .int .i64 0, .int .i64 0, .int .i64 0, .int .i64 0, .int .i64 0, .int .i64 0, .int .i64 0, .int .i64 0, .int .i64 0, .slice none 0 0]] 8 rfl (World.shaped_of_RefB (by kernel_rfl) (by kernel_rfl)) (by kernel_rfl) (by kernel_rfl) (by kernel_rfl) (door15_met os _)) ?_
  intro W base args ds gs before hval0 hW hcnd hsz0 hL _
  have hval : ∀ (j : Nat) t v, Tryz.f3.params[j]? = some t → args[j]? = some v → Value.okWide Tryz.prog W .any base t v := hval0
  have hW' := hW
  obtain ⟨p, q, hA0, hV, rfl, hfz, hnd⟩ := hW
  have hA : DataW.TrodAll enc Tryz.prog W 0 (fun _ => true) true Tryz.f3.params.toList args.toList ds p := hA0
  have hAk := hA
  have hpr : Tryz.f3.params.toList.all (fun t => Tryz.prog.readableRec t && decide (t < Tryz.prog.types.size)) = true := by kernel_rfl
  have hlt := hA.lt
  obtain ⟨rfl, rfl⟩ := trodVars_none hV
  have hsz : (DataW.weightsEach Tryz.prog (Tryz.f3.params.toList ++ []) (ds ++ [])).all (· ≤ reachBytes) = true := hsz0
  rw [Tryz.params3] at hA hval hsz
  simp only [List.append_nil] at hsz
  obtain ⟨v0, vs0, d0, ds0, p0, q0, hargs, rfl, rfl, h0, r0⟩ := trodAll_cons hA
  obtain ⟨rfl, rfl, rfl⟩ := trodAll_nil r0
  obtain rfl : args = #[v0] := by cases args; simp_all
  obtain ⟨x_tv, x_ts, x_a, x_b, x_c, x_L, x_bs, x_v, x_T, x_V, x_pv, x_ps, rfl, hsx, hzx, hlx, hpx⟩ := open_coming h0 (sm_of hsz (j := 0) rfl rfl)
  clear hA0 hval0 hsz0
  refine (pk_walk W.heap.size x_tv x_ts x_a x_b x_c x_L x_bs x_v x_T x_V x_pv x_ps W hsx hzx (env15_of_laid hL) hlx hpx).mono fun e W' ⟨he, hx⟩ => ?_
  subst he
  exact ⟨_, rfl, _, _, _, [], _, [], hW', trodAll_mk1 (shut_bool Tryz.underlying4 _), trodAll_below laid hx.below hpr hAk hlt, rfl, hx.below.frame _, fun h => by cases h⟩
theorem row_proved : Rows.ParcelTakesSaid :=
  OpenClaim.holds_of_wide 3 Tryz.f3 rfl rfl rfl rfl rfl rfl rfl ⟨rfl, rfl, rfl, rfl, rfl⟩ rfl rfl rfl rfl rfl (by kernel_rfl) Tryz.func3 (by kernel_rfl)
    (of_decide_eq_true (by kernel_rfl)) (by unfold Func.isWrapper; first | (rw [if_pos (by decide +kernel)]; kernel_rfl) | (rw [if_neg (by decide +kernel)]; exact ⟨rfl, rfl⟩))
    (fun os started H enc _ => lifted os started H enc)
theorem proved : Rows.ParcelTakesCardSaid :=
  Claim7.holds_tied_plain_at .later [] Rows.parcelTakesCard.laidKinds true Rows.parcelTakesCard.stood.harness Rows.parcelTakesCard.stood.looks
    row_proved (fun _ h => by cases h) (by kernel_rfl) (fun _ h => by cases h) parcelTakes_row_tie rfl ⟨rfl, rfl⟩ (by kernel_rfl) rfl
    (fun f fn hf hfn => by
      obtain rfl : f = 3 := Option.some.inj ((show Tryz.prog.funcNamed "plenum/plenumlaw15.ParcelTakes" = some 3 by kernel_rfl).symm.trans hf) |>.symm
      obtain rfl : fn = Tryz.f3 := (Option.some.inj (Tryz.func3.symm.trans hfn)).symm
      exact ⟨by kernel_rfl, fun j t ht => by
        rw [Tryz.params3] at ht
        have key : ∀ t ∈ Tryz.f3.params.toList, Tryz.prog.wantsStandIn t = false := by decide +kernel
        exact key t (by rw [Tryz.params3]; exact List.mem_of_getElem? (by simpa using ht))⟩) (by kernel_rfl)
end
#print axioms proved
end ParcelTakesRow
end Go.Proofs.YtpchohjkelopoaaGreatDoor
