/- Lemmas. -/
import Derived.Test.YtpnabjopfpdkhaaGreatDoorA20
import Derived.LoopTactic
import Derived.Deep.LoopGhost
set_option linter.unusedSimpArgs false
set_option linter.unusedVariables false
set_option maxHeartbeats 4000000
set_option maxRecDepth 20000
namespace Go.Proofs.YtpnabjopfpdkhaaGreatDoor
open Go.RowKit
variable {ns:List Nd} {nv:Value}
attribute [go_sem] more_more Array.size_append
theorem qdX (fi:Int) {w:World} (hr:w.ownsRow 0 166 8 nv ns.length (qac ns)) {j:Nat} {zk:Int} (hk:zk=0∨zk=1∨zk=2∨zk=4) {za zb zc zx zi:Int} {zs zt:ByteArray} (hz:ns[j]?=some (⟨zk,za,zb,zc,zx,zi,zs,zt⟩:Nd)) :
  Calls Tryz.prog 148 #[.agg #[nv,.int .i64 fi],.int .i64 (j:Int)] w fun e w'=>e=.returned (.bool (nodeB ns j (⟨zk,za,zb,zc,zx,zi,zs,zt⟩:Nd)))∧Ext w w':=by
 obtain⟨r,hr0⟩:∃ r,nodeB ns j (⟨zk,za,zb,zc,zx,zi,zs,zt⟩:Nd)=r:=⟨_,rfl⟩
 rw[hr0];have hjn:=(List.getElem?_eq_some_iff.1 hz).1
 obtain⟨G,c,rfl,hG,-⟩:=qaN hr hjn
 obtain⟨a0,a1,a2,a3,a4,a5,a6,a7⟩:=nd_at hr hz
 dsimp only at a0 a1 a2 a3 a4 a5 a6 a7
 have hj1:(j:Int)<(ns.length:Int):=by omega
 have hj0:0≤(j:Int):=by omega
 have ZX:=qcv (zx:=zx) hr hjn;have HR:=Lib.hid hr;clear hr hz hjn;have NT:=Lib.hid (qcf zt);have NS:=Lib.hid (qcf zs);refine yav ⟨?_⟩;intro NN
 obtain⟨q,er,hq⟩:∃ q er,qbM zs.data.toList=(q,er):=⟨_,_,rfl⟩
 have NQ:=Lib.hid (fun W=>qbz zs q er hq W);have HQ:=Lib.hid (show qbe zs=(er==0) by unfold qbe;rw[hq]);refine yba ?_;intro NC;clear hq
 obtain⟨ab,hab⟩:∃ b,qal ns za 0 j false=b:=⟨_,rfl⟩
 refine yap ?_;intro EA;have HA:=Lib.hid hab;clear hab
 obtain⟨eb,heb⟩:∃ b,qal ns zb 0 j false=b:=⟨_,rfl⟩
 refine yaq ?_;intro EB;have HB:=Lib.hid heb;clear heb
 obtain⟨bb,hbb⟩:∃ b,blkB ns zb j=b:=⟨_,rfl⟩
 refine yao ?_;intro EBB;have HBB:=Lib.hid hbb;clear hbb
 obtain⟨cb,hcb⟩:∃ b,blkB ns zc j=b:=⟨_,rfl⟩
 refine yar ?_;intro EC;have HC:=Lib.hid hcb;clear hcb;have HR0:=Lib.hid hr0;clear hr0;rcases hk with rfl | rfl | rfl | rfl
 all_goals
  rcases ZX with rfl | ⟨p4,p5,HX,p6 | ⟨p6,p7⟩⟩ | ⟨x,kk,rfl,p4,p5,p6,p6',p7,p7',p8,p9,hcx,HX⟩
 all_goals
  try have HX:=Lib.hid HX
  go_enter Tryz.func148,Tryz.ntmps148
  go_wp2_with (first
   | (go_at_call 187;(with_reducible refine (EA.out _ zaa).mono ?_);rintro e' _ ⟨rfl,d1,os1,rfl⟩)
   | (go_at_call 187;(with_reducible refine (EB.out _ zaa).mono ?_);rintro e' _ ⟨rfl,d1,os1,rfl⟩)
   | (go_at_call 147;(with_reducible refine (EBB.out _ zaa).mono ?_);rintro e' _ ⟨rfl,d1,os1,rfl⟩)
   | (go_at_call 147;(with_reducible refine (EC.out _ zaa).mono ?_);rintro e' _ ⟨rfl,d1,os1,rfl⟩)
   | ((with_reducible refine (NT.out _).mono ?_);rintro e' _ ⟨rfl,d1,os1,rfl⟩)
   | ((with_reducible refine (NS.out _).mono ?_);rintro e' _ ⟨rfl,d1,os1,rfl⟩)
   | ((with_reducible refine (NQ.out _).mono ?_);rintro e' _ ⟨rfl,rfl⟩)
   | ((with_reducible refine (NC.out _ _ _ _ _ _).mono ?_);rintro e' _ ⟨rfl,d1,os1,rfl⟩))
  all_goals first
   | (go_ret;exact⟨ret_bool zal,zaa⟩)
theorem qeb (fi:Int) {w:World} (hr:w.ownsRow 0 166 8 nv ns.length (qac ns)) {j:Nat} {zk:Int} (hk:zk=3∨zk=5∨zk=6∨zk=7) {za zb zc zx zi:Int} {zs zt:ByteArray} (hz:ns[j]?=some (⟨zk,za,zb,zc,zx,zi,zs,zt⟩:Nd)) :
  Calls Tryz.prog 148 #[.agg #[nv,.int .i64 fi],.int .i64 (j:Int)] w fun e w'=>e=.returned (.bool (nodeB ns j (⟨zk,za,zb,zc,zx,zi,zs,zt⟩:Nd)))∧Ext w w':=by
 obtain⟨r,hr0⟩:∃ r,nodeB ns j (⟨zk,za,zb,zc,zx,zi,zs,zt⟩:Nd)=r:=⟨_,rfl⟩
 rw[hr0];have hjn:=(List.getElem?_eq_some_iff.1 hz).1
 obtain⟨G,c,rfl,hG,-⟩:=qaN hr hjn
 obtain⟨a0,a1,a2,a3,a4,a5,a6,a7⟩:=nd_at hr hz
 dsimp only at a0 a1 a2 a3 a4 a5 a6 a7
 have hj1:(j:Int)<(ns.length:Int):=by omega
 have hj0:0≤(j:Int):=by omega
 have ZX:=qcv (zx:=zx) hr hjn;have HR:=Lib.hid hr;clear hr hz hjn;have NT:=Lib.hid (qcf zt);have NS:=Lib.hid (qcf zs);refine yav ⟨?_⟩;intro NN
 obtain⟨q,er,hq⟩:∃ q er,qbM zs.data.toList=(q,er):=⟨_,_,rfl⟩
 have NQ:=Lib.hid (fun W=>qbz zs q er hq W);have HQ:=Lib.hid (show qbe zs=(er==0) by unfold qbe;rw[hq]);refine yba ?_;intro NC;clear hq
 obtain⟨ab,hab⟩:∃ b,qal ns za 0 j false=b:=⟨_,rfl⟩
 refine yap ?_;intro EA;have HA:=Lib.hid hab;clear hab
 obtain⟨eb,heb⟩:∃ b,qal ns zb 0 j false=b:=⟨_,rfl⟩
 refine yaq ?_;intro EB;have HB:=Lib.hid heb;clear heb
 obtain⟨bb,hbb⟩:∃ b,blkB ns zb j=b:=⟨_,rfl⟩
 refine yao ?_;intro EBB;have HBB:=Lib.hid hbb;clear hbb
 obtain⟨cb,hcb⟩:∃ b,blkB ns zc j=b:=⟨_,rfl⟩
 refine yar ?_;intro EC;have HC:=Lib.hid hcb;clear hcb;have HR0:=Lib.hid hr0;clear hr0;rcases hk with rfl | rfl | rfl | rfl
 all_goals
  rcases ZX with rfl | ⟨p4,p5,HX,p6 | ⟨p6,p7⟩⟩ | ⟨x,kk,rfl,p4,p5,p6,p6',p7,p7',p8,p9,hcx,HX⟩
 all_goals
  try have HX:=Lib.hid HX
  go_enter Tryz.func148,Tryz.ntmps148
  go_wp2_with (first
   | (go_at_call 187;(with_reducible refine (EA.out _ zaa).mono ?_);rintro e' _ ⟨rfl,d1,os1,rfl⟩)
   | (go_at_call 187;(with_reducible refine (EB.out _ zaa).mono ?_);rintro e' _ ⟨rfl,d1,os1,rfl⟩)
   | (go_at_call 147;(with_reducible refine (EBB.out _ zaa).mono ?_);rintro e' _ ⟨rfl,d1,os1,rfl⟩)
   | (go_at_call 147;(with_reducible refine (EC.out _ zaa).mono ?_);rintro e' _ ⟨rfl,d1,os1,rfl⟩)
   | ((with_reducible refine (NT.out _).mono ?_);rintro e' _ ⟨rfl,d1,os1,rfl⟩)
   | ((with_reducible refine (NS.out _).mono ?_);rintro e' _ ⟨rfl,d1,os1,rfl⟩)
   | ((with_reducible refine (NQ.out _).mono ?_);rintro e' _ ⟨rfl,rfl⟩)
   | ((with_reducible refine (NC.out _ _ _ _ _ _).mono ?_);rintro e' _ ⟨rfl,d1,os1,rfl⟩))
  all_goals first
   | (go_ret;exact⟨ret_bool zal,zaa⟩)
theorem qdY (fi:Int) {w:World} (hr:w.ownsRow 0 166 8 nv ns.length (qac ns)) {j:Nat} {zk:Int} (hk:zk=8∨zk=9∨zk=10∨zk=11) {za zb zc zx zi:Int} {zs zt:ByteArray} (hz:ns[j]?=some (⟨zk,za,zb,zc,zx,zi,zs,zt⟩:Nd)) :
  Calls Tryz.prog 148 #[.agg #[nv,.int .i64 fi],.int .i64 (j:Int)] w fun e w'=>e=.returned (.bool (nodeB ns j (⟨zk,za,zb,zc,zx,zi,zs,zt⟩:Nd)))∧Ext w w':=by
 obtain⟨r,hr0⟩:∃ r,nodeB ns j (⟨zk,za,zb,zc,zx,zi,zs,zt⟩:Nd)=r:=⟨_,rfl⟩
 rw[hr0];have hjn:=(List.getElem?_eq_some_iff.1 hz).1
 obtain⟨G,c,rfl,hG,-⟩:=qaN hr hjn
 obtain⟨a0,a1,a2,a3,a4,a5,a6,a7⟩:=nd_at hr hz
 dsimp only at a0 a1 a2 a3 a4 a5 a6 a7
 have hj1:(j:Int)<(ns.length:Int):=by omega
 have hj0:0≤(j:Int):=by omega
 have ZX:=qcv (zx:=zx) hr hjn;have HR:=Lib.hid hr;clear hr hz hjn;have NT:=Lib.hid (qcf zt);have NS:=Lib.hid (qcf zs);refine yav ⟨?_⟩;intro NN
 obtain⟨q,er,hq⟩:∃ q er,qbM zs.data.toList=(q,er):=⟨_,_,rfl⟩
 have NQ:=Lib.hid (fun W=>qbz zs q er hq W);have HQ:=Lib.hid (show qbe zs=(er==0) by unfold qbe;rw[hq]);refine yba ?_;intro NC;clear hq
 obtain⟨ab,hab⟩:∃ b,qal ns za 0 j false=b:=⟨_,rfl⟩
 refine yap ?_;intro EA;have HA:=Lib.hid hab;clear hab
 obtain⟨eb,heb⟩:∃ b,qal ns zb 0 j false=b:=⟨_,rfl⟩
 refine yaq ?_;intro EB;have HB:=Lib.hid heb;clear heb
 obtain⟨bb,hbb⟩:∃ b,blkB ns zb j=b:=⟨_,rfl⟩
 refine yao ?_;intro EBB;have HBB:=Lib.hid hbb;clear hbb
 obtain⟨cb,hcb⟩:∃ b,blkB ns zc j=b:=⟨_,rfl⟩
 refine yar ?_;intro EC;have HC:=Lib.hid hcb;clear hcb;have HR0:=Lib.hid hr0;clear hr0;rcases hk with rfl | rfl | rfl | rfl
 all_goals
  rcases ZX with rfl | ⟨p4,p5,HX,p6 | ⟨p6,p7⟩⟩ | ⟨x,kk,rfl,p4,p5,p6,p6',p7,p7',p8,p9,hcx,HX⟩
 all_goals
  try have HX:=Lib.hid HX
  go_enter Tryz.func148,Tryz.ntmps148
  go_wp2_with (first
   | (go_at_call 187;(with_reducible refine (EA.out _ zaa).mono ?_);rintro e' _ ⟨rfl,d1,os1,rfl⟩)
   | (go_at_call 187;(with_reducible refine (EB.out _ zaa).mono ?_);rintro e' _ ⟨rfl,d1,os1,rfl⟩)
   | (go_at_call 147;(with_reducible refine (EBB.out _ zaa).mono ?_);rintro e' _ ⟨rfl,d1,os1,rfl⟩)
   | (go_at_call 147;(with_reducible refine (EC.out _ zaa).mono ?_);rintro e' _ ⟨rfl,d1,os1,rfl⟩)
   | ((with_reducible refine (NT.out _).mono ?_);rintro e' _ ⟨rfl,d1,os1,rfl⟩)
   | ((with_reducible refine (NS.out _).mono ?_);rintro e' _ ⟨rfl,d1,os1,rfl⟩)
   | ((with_reducible refine (NQ.out _).mono ?_);rintro e' _ ⟨rfl,rfl⟩)
   | ((with_reducible refine (NC.out _ _ _ _ _ _).mono ?_);rintro e' _ ⟨rfl,d1,os1,rfl⟩))
  all_goals first
   | (go_ret;exact⟨ret_bool zal,zaa⟩)
end Go.Proofs.YtpnabjopfpdkhaaGreatDoor
