/- Lemmas. -/
import Derived.Test.YtpnabjopfpdkhaaGreatDoorY15
set_option linter.all false
set_option maxHeartbeats 4000000
set_option maxRecDepth 20000
namespace Go.Proofs.YtpnabjopfpdkhaaGreatDoor
open Tryz RowKit
attribute [go_sem] more_more Array.size_append
def rnode_g6 {ns:List Nd} {nv:Value} (fi:Int) {w:World} (hr:w.ownsRow 0 166 8 nv ns.length (qac ns)) {j:Nat} {zk:Int} (hk:zk=25\/zk=26) {za zb zc zx zi:Int} {zs zt:ByteArray} (hz:ns[j]?=some (⟨zk,za,zb,zc,zx,zi,zs,zt⟩:Nd)) :
  Calls prog 148 #[.agg #[nv,.int .i64 fi],.int .i64 (j:Int)] w fun e w'=>e=.returned (.bool (nodeB ns j (⟨zk,za,zb,zc,zx,zi,zs,zt⟩:Nd)))/\Ext w w':=by
 obtain⟨r,hr0⟩:∃ r,nodeB ns j (⟨zk,za,zb,zc,zx,zi,zs,zt⟩:Nd)=r:=⟨_,rfl⟩
 rw[hr0];have hjn:=(List.getElem?_eq_some_iff.1 hz).1;obtain⟨G,c,rfl,hG,-⟩:=qaS hr hjn;obtain⟨a0,a1,a2,a3,a4,a5,a6,a7⟩:=nd_at hr hz;dsimp only at a0 a1 a2 a3 a4 a5 a6 a7;have hj1:(j:Int)<(ns.length:Int):=Y;have hj0:0<=(j:Int):=Y;have ZX:=qcM (zx:=zx) hr hjn;have HR:=J hr;clear hr hz hjn;have NT:=J (qco zt);have NS:=J (qco zs);refine yat ⟨?_⟩;intro NN;obtain⟨q,er,hq⟩:∃ q er,qbW zs.data.toList=(q,er):=⟨_,_,rfl⟩
 have NQ:=J (fun W=>qbz zs q er hq W);have HQ:=J (show qbh zs=(er==0) by unfold qbh;rw[hq]);refine yax ?_;intro NC;clear hq;obtain⟨ab,hab⟩:∃ b,qam ns za 0 j false=b:=⟨_,rfl⟩
 refine yao ?_;intro EA;have HA:=J hab;clear hab;obtain⟨eb,heb⟩:∃ b,qam ns zb 0 j false=b:=⟨_,rfl⟩
 refine yap ?_;intro EB;have HB:=J heb;clear heb;obtain⟨bb,hbb⟩:∃ b,blkB ns zb j=b:=⟨_,rfl⟩
 refine yan ?_;intro EBB;have HBB:=J hbb;clear hbb;obtain⟨cb,hcb⟩:∃ b,blkB ns zc j=b:=⟨_,rfl⟩
 refine yaq ?_;intro EC;have HC:=J hcb;clear hcb;have HR0:=J hr0;clear hr0;rcases hk with rfl | rfl
 all_goals
  rcases ZX with rfl | ⟨p4,p5,HX,p6 | ⟨p6,p7⟩⟩ | ⟨x,kk,rfl,p4,p5,p6,p6',p7,p7',p8,p9,hcx,HX⟩
 all_goals
  try have HX:=J HX
  go_enter func148,ntmps148
  go_wp2_with (first
   | ((with_reducible refine (EA.out _ zq).mono ?_);rintro e' _ ⟨rfl,d1,os1,rfl⟩)
   | ((with_reducible refine (EB.out _ zq).mono ?_);rintro e' _ ⟨rfl,d1,os1,rfl⟩)
   | ((with_reducible refine (EBB.out _ zq).mono ?_);rintro e' _ ⟨rfl,d1,os1,rfl⟩)
   | ((with_reducible refine (EC.out _ zq).mono ?_);rintro e' _ ⟨rfl,d1,os1,rfl⟩)
   | ((with_reducible refine (NT.out _).mono ?_);rintro e' _ ⟨rfl,d1,os1,rfl⟩)
   | ((with_reducible refine (NS.out _).mono ?_);rintro e' _ ⟨rfl,d1,os1,rfl⟩)
   | ((with_reducible refine (NQ.out _).mono ?_);rintro e' _ ⟨rfl,rfl⟩)
   | ((with_reducible refine (NC.out _ _ _ _ _ _).mono ?_);rintro e' _ ⟨rfl,d1,os1,rfl⟩))
  all_goals first
   | (go_ret;exact⟨ret_bool zal,zq⟩)
end Go.Proofs.YtpnabjopfpdkhaaGreatDoor
