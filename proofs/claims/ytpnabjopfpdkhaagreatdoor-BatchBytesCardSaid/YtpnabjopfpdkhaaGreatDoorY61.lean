/- Lemmas. -/
import Derived.Test.YtpnabjopfpdkhaaGreatDoorY58
import Derived.Test.YtpnabjopfpdkhaaGreatDoorTie
import Derived.Test.YtpnabjopfpdkhaaGreatDoorCards
set_option linter.all false
set_option maxRecDepth 100000
namespace Go.Proofs.YtpnabjopfpdkhaaGreatDoor
open Go.Proofs.Tryz RowKit
def qej {W:World} (h:laidMetH prog Rows.batchBytesRow.laid W):SignsAt W.heap.size W:=by
 rw[MakeChecks.laidMetH_plain _ _ _ zv] at h;exact signs_of h
def qeZ (os:Os) (args:Array Value):laidMetH prog Rows.batchBytesRow.laid ((World.doorLaid prog 14 os).forCall (fun _ _=>0) ⟨#[],args,[]⟩).memory :=
 laidMetH_of_parts3 (fuel:=8) (laidMet_of_run' 8 zv zv) zv zv
namespace BatchBytesRow
section
open Go.ChangeShapes Go.WideShapes Go.ChangeAt Go.RowKit Go.Joins
open Go.ChangeMaps (open_string shut_string)
def own:ownKnob prog.godebug=none:=by kernel_rfl
def laid:laidOutB prog=true:=by kernel_rfl
def u8cells:prog.cellsOf 5=1:=by kernel_rfl
def u8bytes:prog.bytesOf 5=1:=by kernel_rfl
theorem lifted (os:Os) (started:os.Started) (H:Type) (enc:TypeId × Value->H) :
  ReturnsInHanded {} Tryz.checked os 6 .any (fun w args=>(Rows.batchBytesSpec.pre enc prog Tryz.f6 Rows.batchBytesRow.domain false w args/\laidMetH prog Rows.batchBytesRow.laid w)/\sizedMet enc prog Tryz.f6 (OpenSpec.ofChange Rows.batchBytesSpec) false w args) (Rows.batchBytesSpec.post enc prog Tryz.f6 false true false false):=by
 refine returnsInHanded_of_change_and (C:=Tryz.checked) (X:=fun w _=>laidMetH prog Rows.batchBytesRow.laid w) (fun _ _ _ hh h=>h.of_heap hh) own started zv func6
  (ChangeSpec.witness_shaped (enc:=enc) (C:=Tryz.checked) (os:=os) (X:=fun w _=>laidMetH prog Rows.batchBytesRow.laid w) false (World.doorLaid prog 14 os) #[.slice none 0 0,.slice none 0 0] 8 rfl (World.shaped_of_RefB zv zv) zv zv zv (qeZ os _)) ?_
 intro W base args ds gs before hval0 hW hcnd hsz0 hL _;have hval:∀ (j:Nat) t v,Tryz.f6.params[j]?=some t->args[j]?=some v->Value.okWide prog W .any base t v:=hval0;have hW':=hW;obtain⟨p,q,hA0,hV,rfl,hfz,hnd⟩:=hW;have hA:DataW.TrodAll enc prog W 0 (fun _=>true) true Tryz.f6.params.toList args.toList ds p:=hA0;have hAk:=hA;have hpr:Tryz.f6.params.toList.all (fun t=>prog.readableRec t&&decide (t<prog.types.size))=true:=zv;have hlt:=hA.lt;obtain⟨rfl,rfl⟩:=trodVars_none hV;have hsz:(DataW.weightsEach prog (Tryz.f6.params.toList++[]) (ds++[])).all (·<=reachBytes)=true:=hsz0;rw[Tryz.params6] at hA hval hsz;simp only[List.append_nil] at hsz;obtain⟨v0,vs0,d0,ds0,p0,q0,hargs,rfl,rfl,h0,r0⟩:=trodAll_cons hA;obtain⟨v1,vs1,d1,ds1,p1,q1,rfl,rfl,rfl,h1,r1⟩:=trodAll_cons r0;obtain⟨rfl,rfl,rfl⟩:=trodAll_nil r1;obtain rfl:args=#[v0,v1]:=by cases args;simp_all
 obtain⟨l_l,hl,nl⟩:=open_txs (hval 0 22 v0 rfl rfl) h0 (sm_of hsz (j:=0) rfl rfl);obtain⟨b_l,hb⟩:=open_bytesR underlying53 underlying5 u8cells u8bytes (hval 1 53 v1 rfl rfl) h1 hsz (j:=1) rfl rfl;clear hA0 hval0 hsz0;refine (bytes_walk v0 l_l v1 b_l W.heap.size W (qej hL) (Nat.le_refl _) hl nl hb).mono fun e W' ⟨he,hx⟩=>?_
 subst he;exact⟨_,rfl,_,_,_,[],_,[],hW',trodAll_mk1 (shut_bool underlying4 _),qdp laid hx.below hpr hAk hlt,rfl,hx.below.frame _,fun h=>by cases h⟩
theorem row_proved:Rows.BatchBytesSaid :=
 OpenClaim.holds_of_wide 6 Tryz.f6 rfl rfl rfl rfl rfl rfl rfl ⟨rfl,rfl,rfl,rfl,rfl⟩ rfl rfl rfl rfl rfl zv func6 zv
  (of_decide_eq_true zv) (by unfold Func.isWrapper;first | (rw[if_pos (by decide +kernel)];kernel_rfl) | (rw[if_neg (by decide +kernel)];exact⟨rfl,rfl⟩))
  (fun os started H enc _=>lifted os started H enc)
theorem proved:Rows.BatchBytesCardSaid :=
 Claim7.holds_tied_plain_at .later [] Rows.batchBytesCard.laidKinds true Rows.batchBytesCard.stood.harness Rows.batchBytesCard.stood.looks
  row_proved (fun _ h=>by cases h) zv (fun _ h=>by cases h) batchBytes_row_tie rfl ⟨rfl,rfl⟩ zv rfl
  (fun f fn hf hfn=>by
   obtain rfl:f=6:=Option.some.inj ((show prog.funcNamed "plenum/plenumlaw27.BatchBytes"=some 6 by kernel_rfl).symm.trans hf) |>.symm;obtain rfl:fn=Tryz.f6:=(Option.some.inj (func6.symm.trans hfn)).symm
   exact⟨zv,fun j t ht=>by
    rw[Tryz.params6] at ht;have key:∀ t∈Tryz.f6.params.toList,prog.wantsStandIn t=false:=by decide +kernel
    exact key t (by rw[Tryz.params6];exact List.mem_of_getElem? (by simpa using ht))⟩) zv
end
#print axioms proved
end BatchBytesRow
end Go.Proofs.YtpnabjopfpdkhaaGreatDoor
