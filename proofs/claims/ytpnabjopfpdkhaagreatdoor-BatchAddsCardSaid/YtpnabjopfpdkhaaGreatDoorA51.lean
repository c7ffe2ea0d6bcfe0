/- Lemmas. -/
import Derived.Test.YtpnabjopfpdkhaaGreatDoorA49
import Derived.Test.YtpnabjopfpdkhaaGreatDoorA50
import Derived.Test.YtpnabjopfpdkhaaGreatDoorTie
import Derived.Test.YtpnabjopfpdkhaaGreatDoorCards
set_option linter.unusedSimpArgs false
set_option linter.unusedVariables false
set_option maxRecDepth 100000
set_option maxRecDepth 100000
namespace Go.Proofs.YtpnabjopfpdkhaaGreatDoor
open Go.RowKit
theorem qez {W:World} (h:laidMetH Tryz.prog Rows.batchAddsRow.laid W):SignsAt W.heap.size W:=by
 rw[MakeChecks.laidMetH_plain _ _ _ zaf] at h;exact signs_of h
theorem qeX (os:Os) (args:Array Value):laidMetH Tryz.prog Rows.batchAddsRow.laid ((World.doorLaid Tryz.prog 14 os).forCall (fun _ _=>0) ⟨#[],args,[]⟩).memory :=
 laidMetH_of_parts3 (fuel:=8) (laidMet_of_run' 8 zaf zaf) zaf zaf
namespace BatchAddsRow
section
open Go.ChangeShapes Go.WideShapes Go.ChangeAt Go.RowKit Go.Joins
open Go.ChangeMaps (open_string shut_string)
theorem own:ownKnob Tryz.prog.godebug=none:=by kernel_rfl
theorem laid:laidOutB Tryz.prog=true:=by kernel_rfl
theorem lifted (os:Os) (started:os.Started) (H:Type) (enc:TypeId × Value→H) :
  ReturnsInHanded {} Tryz.checked os 3 .any (fun w args=>(Rows.batchAddsSpec.pre enc Tryz.prog Tryz.f3 Rows.batchAddsRow.domain false w args∧laidMetH Tryz.prog Rows.batchAddsRow.laid w)∧sizedMet enc Tryz.prog Tryz.f3 (OpenSpec.ofChange Rows.batchAddsSpec) false w args) (Rows.batchAddsSpec.post enc Tryz.prog Tryz.f3 false true false false):=by
 refine returnsInHanded_of_change_and (C:=Tryz.checked) (X:=fun w _=>laidMetH Tryz.prog Rows.batchAddsRow.laid w) (fun _ _ _ hh h=>h.of_heap hh) own started zaf Tryz.func3
  (ChangeSpec.witness_shaped (enc:=enc) (C:=Tryz.checked) (os:=os) (X:=fun w _=>laidMetH Tryz.prog Rows.batchAddsRow.laid w) false (World.doorLaid Tryz.prog 14 os) #[.slice none 0 0,.agg #[.int .i64 0,.int .i64 0,.slice none 0 0,.slice none 0 0,.string ⟨#[]⟩,.int .i64 0],.slice none 0 0] 8 rfl (World.shaped_of_RefB zaf zaf) zaf zaf zaf (qeX os _)) ?_
 intro W base args ds gs before hval0 hW hcnd hsz0 hL _
 have hval:∀ (j:Nat) t v,Tryz.f3.params[j]?=some t→args[j]?=some v→Value.okWide Tryz.prog W .any base t v:=hval0
 have hW':=hW
 obtain⟨p,q,hA0,hV,rfl,hfz,hnd⟩:=hW
 have hA:DataW.TrodAll enc Tryz.prog W 0 (fun _=>true) true Tryz.f3.params.toList args.toList ds p:=hA0
 have hAk:=hA
 have hpr:Tryz.f3.params.toList.all (fun t=>Tryz.prog.readableRec t&&decide (t<Tryz.prog.types.size))=true:=by kernel_rfl
 have hlt:=hA.lt
 obtain⟨rfl,rfl⟩:=trodVars_none hV
 have hsz:(DataW.weightsEach Tryz.prog (Tryz.f3.params.toList++[]) (ds++[])).all (·≤reachBytes)=true:=hsz0
 rw[Tryz.params3] at hA hval hsz;simp only[List.append_nil] at hsz
 obtain⟨v0,vs0,d0,ds0,p0,q0,hargs,rfl,rfl,h0,r0⟩:=trodAll_cons hA
 obtain⟨v1,vs1,d1,ds1,p1,q1,rfl,rfl,rfl,h1,r1⟩:=trodAll_cons r0
 obtain⟨v2,vs2,d2,ds2,p2,q2,rfl,rfl,rfl,h2,r2⟩:=trodAll_cons r1
 obtain⟨rfl,rfl,rfl⟩:=trodAll_nil r2
 obtain rfl:args=#[v0,v1,v2]:=by cases args;simp_all
 obtain⟨q_l,hq,nq⟩:=open_txs (hval 0 22 v0 rfl rfl) h0 (sm_of hsz (j:=0) rfl rfl)
 obtain⟨t_x,rfl,ht⟩:=open_tx h1 (sm_of hsz (j:=1) rfl rfl)
 obtain⟨done_l,hdone,zdone,ndone⟩:=open_las (hval 2 28 v2 rfl rfl) h2 (sm_of hsz (j:=2) rfl rfl)
 clear hA0 hval0 hsz0
 refine (adds_walk v0 q_l t_x v2 done_l W.heap.size W (qez hL) (Nat.le_refl _) hq nq ht ⟨hdone,fun x hx=>(zdone x hx).2.2.2.2.1⟩ ndone (fun x hx=>(zdone x hx).2.2.2.2.2.1)).mono fun e W' ⟨he,hx⟩=>?_
 subst he
 exact⟨_,rfl,_,_,_,[],_,[],hW',trodAll_mk1 (shut_bool Tryz.underlying4 _),qcZ laid hx.below hpr hAk hlt,rfl,hx.below.frame _,fun h=>by cases h⟩
theorem row_proved:Rows.BatchAddsSaid :=
 OpenClaim.holds_of_wide 3 Tryz.f3 rfl rfl rfl rfl rfl rfl rfl ⟨rfl,rfl,rfl,rfl,rfl⟩ rfl rfl rfl rfl rfl zaf Tryz.func3 zaf
  (of_decide_eq_true zaf) (by unfold Func.isWrapper;first | (rw[if_pos (by decide +kernel)];kernel_rfl) | (rw[if_neg (by decide +kernel)];exact⟨rfl,rfl⟩))
  (fun os started H enc _=>lifted os started H enc)
theorem proved:Rows.BatchAddsCardSaid :=
 Claim7.holds_tied_plain_at .later [] Rows.batchAddsCard.laidKinds true Rows.batchAddsCard.stood.harness Rows.batchAddsCard.stood.looks
  row_proved (fun _ h=>by cases h) zaf (fun _ h=>by cases h) batchAdds_row_tie rfl ⟨rfl,rfl⟩ zaf rfl
  (fun f fn hf hfn=>by
   obtain rfl:f=3:=Option.some.inj ((show Tryz.prog.funcNamed "plenum/plenumlaw27.BatchAdds"=some 3 by kernel_rfl).symm.trans hf) |>.symm;obtain rfl:fn=Tryz.f3:=(Option.some.inj (Tryz.func3.symm.trans hfn)).symm
   exact⟨by kernel_rfl,fun j t ht=>by
    rw[Tryz.params3] at ht
    have key:∀ t∈Tryz.f3.params.toList,Tryz.prog.wantsStandIn t=false:=by decide +kernel
    exact key t (by rw[Tryz.params3];exact List.mem_of_getElem? (by simpa using ht))⟩) zaf
end
#print axioms proved
end BatchAddsRow
end Go.Proofs.YtpnabjopfpdkhaaGreatDoor
