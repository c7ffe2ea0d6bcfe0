/- BatchWaits: what was added to a queue waits, all others of other clients as they were, and once it is done it is gone: the statement that plenumlaw27.BatchWaits returns true, for every queue, transaction and table of replies, with the laid table as the program lays it. -/
import Derived.Test.YtpnabjopfpdkhaaGreatDoorB33
import Derived.Test.YtpnabjopfpdkhaaGreatDoorB34
import Derived.Test.YtpnabjopfpdkhaaGreatDoorTie
import Derived.Test.YtpnabjopfpdkhaaGreatDoorCards
set_option linter.unusedSimpArgs false
set_option linter.unusedVariables false
set_option maxRecDepth 100000
namespace Go.Proofs.YtpnabjopfpdkhaaGreatDoor
open Go.RowKit
namespace BatchWaitsRow
/-! ### The row, and the card -/
section
open Go.ChangeShapes Go.WideShapes Go.ChangeAt Go.RowKit Go.Joins
open Go.ChangeMaps (open_string shut_string)
theorem own : ownKnob Tryz.prog.godebug = none := by kernel_rfl
theorem laid : laidOutB Tryz.prog = true := by kernel_rfl
set_option maxRecDepth 100000 in
theorem lifted (os : Os) (started : os.Started) (H : Type) (enc : TypeId × Value → H) :
  ReturnsInHanded {} Tryz.checked os 4 .any (fun w args => (Rows.batchWaitsSpec.pre enc Tryz.prog Tryz.f4 Rows.batchWaitsRow.domain false w args ∧ laidMetH Tryz.prog Rows.batchWaitsRow.laid w) ∧ sizedMet enc Tryz.prog Tryz.f4 (OpenSpec.ofChange Rows.batchWaitsSpec) false w args) (Rows.batchWaitsSpec.post enc Tryz.prog Tryz.f4 false true false false) := by
 refine returnsInHanded_of_change_and (C := Tryz.checked) (X := fun w _ => laidMetH Tryz.prog Rows.batchWaitsRow.laid w) (fun _ _ _ hh h => h.of_heap hh) own started zad Tryz.func4
  (ChangeSpec.witness_shaped (enc := enc) (C := Tryz.checked) (os := os) (X := fun w _ => laidMetH Tryz.prog Rows.batchWaitsRow.laid w) false (World.doorLaid Tryz.prog 14 os) #[.slice none 0 0, .agg #[.int .i64 0, .int .i64 0, .slice none 0 0, .slice none 0 0, .string ⟨#[]⟩, .int .i64 0], .slice none 0 0] 8 rfl (World.shaped_of_RefB zad zad) zad zad zad (door_met os _)) ?_
 intro W base args ds gs before hval0 hW hcnd hsz0 hL _
 have hval : ∀ (j : Nat) t v, Tryz.f4.params[j]? = some t → args[j]? = some v → Value.okWide Tryz.prog W .any base t v := hval0
 have hW' := hW
 obtain ⟨p, q, hA0, hV, rfl, hfz, hnd⟩ := hW
 have hA : DataW.TrodAll enc Tryz.prog W 0 (fun _ => true) true Tryz.f4.params.toList args.toList ds p := hA0
 have hAk := hA
 have hpr : Tryz.f4.params.toList.all (fun t => Tryz.prog.readableRec t && decide (t < Tryz.prog.types.size)) = true := by kernel_rfl
 have hlt := hA.lt
 obtain ⟨rfl, rfl⟩ := trodVars_none hV
 have hsz : (DataW.weightsEach Tryz.prog (Tryz.f4.params.toList ++ []) (ds ++ [])).all (· ≤ reachBytes) = true := hsz0
 rw [Tryz.params4] at hA hval hsz
 simp only [List.append_nil] at hsz
 obtain ⟨v0, vs0, d0, ds0, p0, q0, hargs, rfl, rfl, h0, r0⟩ := trodAll_cons hA
 obtain ⟨v1, vs1, d1, ds1, p1, q1, rfl, rfl, rfl, h1, r1⟩ := trodAll_cons r0
 obtain ⟨v2, vs2, d2, ds2, p2, q2, rfl, rfl, rfl, h2, r2⟩ := trodAll_cons r1
 obtain ⟨rfl, rfl, rfl⟩ := trodAll_nil r2
 obtain rfl : args = #[v0, v1, v2] := by cases args; simp_all
 obtain ⟨q_l, hq, nq⟩ := open_txs (hval 0 22 v0 rfl rfl) h0 (sm_of hsz (j := 0) rfl rfl)
 obtain ⟨t_x, rfl, ht⟩ := open_tx h1 (sm_of hsz (j := 1) rfl rfl)
 obtain ⟨done_l, hdone, zdone, ndone⟩ := open_las (hval 2 28 v2 rfl rfl) h2 (sm_of hsz (j := 2) rfl rfl)
 clear hA0 hval0 hsz0
 refine (waits_walk v0 q_l t_x v2 done_l W.heap.size W (signs27_of hL) (Nat.le_refl _) hq nq ht ⟨hdone, fun x hx => (zdone x hx).2.2.2.2.1⟩ ndone (fun x hx => (zdone x hx).2.2.2.2.2.1)).mono fun e W' ⟨he, hx⟩ => ?_
 subst he
 exact ⟨_, rfl, _, _, _, [], _, [], hW', trodAll_mk1 (shut_bool Tryz.underlying4 _), qci laid hx.below hpr hAk hlt, rfl, hx.below.frame _, fun h => by cases h⟩
theorem row_proved : Rows.BatchWaitsSaid :=
 OpenClaim.holds_of_wide 4 Tryz.f4 rfl rfl rfl rfl rfl rfl rfl ⟨rfl, rfl, rfl, rfl, rfl⟩ rfl rfl rfl rfl rfl zad Tryz.func4 zad
  (of_decide_eq_true zad) (by unfold Func.isWrapper; first | (rw [if_pos (by decide +kernel)]; kernel_rfl) | (rw [if_neg (by decide +kernel)]; exact ⟨rfl, rfl⟩))
  (fun os started H enc _ => lifted os started H enc)
theorem proved : Rows.BatchWaitsCardSaid :=
 Claim7.holds_tied_plain_at .later [] Rows.batchWaitsCard.laidKinds true Rows.batchWaitsCard.stood.harness Rows.batchWaitsCard.stood.looks
  row_proved (fun _ h => by cases h) zad (fun _ h => by cases h) batchWaits_row_tie rfl ⟨rfl, rfl⟩ zad rfl
  (fun f fn hf hfn => by
   obtain rfl : f = 4 := Option.some.inj ((show Tryz.prog.funcNamed "plenum/plenumlaw27.BatchWaits" = some 4 by kernel_rfl).symm.trans hf) |>.symm
   obtain rfl : fn = Tryz.f4 := (Option.some.inj (Tryz.func4.symm.trans hfn)).symm
   exact ⟨by kernel_rfl, fun j t ht => by
    rw [Tryz.params4] at ht
    have key : ∀ t ∈ Tryz.f4.params.toList, Tryz.prog.wantsStandIn t = false := by decide +kernel
    exact key t (by rw [Tryz.params4]; exact List.mem_of_getElem? (by simpa using ht))⟩) zad
end
#print axioms proved
end BatchWaitsRow
end Go.Proofs.YtpnabjopfpdkhaaGreatDoor
