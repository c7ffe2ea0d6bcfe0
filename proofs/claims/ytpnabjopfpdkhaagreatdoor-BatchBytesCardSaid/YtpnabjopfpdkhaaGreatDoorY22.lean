/- Lemmas. -/
import Derived.Test.YtpnabjopfpdkhaaGreatDoorY16
import Derived.Test.YtpnabjopfpdkhaaGreatDoorY17
import Derived.Test.YtpnabjopfpdkhaaGreatDoorY18
import Derived.Test.YtpnabjopfpdkhaaGreatDoorY19
import Derived.Test.YtpnabjopfpdkhaaGreatDoorY20
import Derived.Test.YtpnabjopfpdkhaaGreatDoorY21
set_option linter.all false
set_option maxHeartbeats 4000000
set_option maxRecDepth 20000
namespace Go.Proofs.YtpnabjopfpdkhaaGreatDoor
open Tryz RowKit
variable {ns:List Nd} {nv:Value}
attribute [go_sem] more_more Array.size_append
def rnode_none (fi:Int) {w:World} (hr:w.ownsRow 0 166 8 nv ns.length (qac ns)) {j:Nat} {zk za zb zc zx zi:Int} {zs zt:ByteArray} (hz:ns[j]?=some (⟨zk,za,zb,zc,zx,zi,zs,zt⟩:Nd)) (h:¬ (zk=0\/zk=1\/zk=2\/zk=3\/zk=4\/zk=5\/zk=6\/zk=7\/zk=8\/zk=9\/zk=10\/zk=11\/zk=20\/zk=21\/zk=22\/zk=23\/zk=24\/zk=25\/zk=26\/zk=27\/zk=28)) :
  Calls prog 148 #[.agg #[nv,.int .i64 fi],.int .i64 (j:Int)] w fun e w'=>e=.returned (.bool (nodeB ns j ⟨zk,za,zb,zc,zx,zi,zs,zt⟩))/\Ext w w':=by
 have hv:nodeB ns j ⟨zk,za,zb,zc,zx,zi,zs,zt⟩=false:=by
  have:qcm zk=false:=by
   unfold qcm;simp;omega
  unfold nodeB qdY;simp only[this,Bool.false_and]
 rw[hv];have hjn:=(List.getElem?_eq_some_iff.1 hz).1;obtain⟨G,c,rfl,hG,-⟩:=qaS hr hjn;obtain⟨a0,a1,a2,a3,a4,a5,a6,a7⟩:=nd_at hr hz;dsimp only at a0 a1 a2 a3 a4 a5 a6 a7;have hj1:(j:Int)<(ns.length:Int):=Y;have hj0:0<=(j:Int):=Y;clear hr hz hjn hv;have h3:zk<0\/28<zk\/(11<zk/\zk<20):=Y;rcases h3 with h3 | h3 | ⟨h3,h4⟩
 . clear h;go_enter func148,ntmps148;go_wp2_with fail;go_ret;exact⟨rfl,zq⟩
 . have h5:(zk<0)=False:=zg;clear h;go_enter func148,ntmps148;go_wp2_with fail;go_ret;exact⟨rfl,zq⟩
 . have h5:(zk<0)=False:=zg;have h6:(28<zk)=False:=zg;clear h;go_enter func148,ntmps148;go_wp2_with fail;go_ret;exact⟨rfl,zq⟩
def rnode_any (fi:Int) {w:World} (hr:w.ownsRow 0 166 8 nv ns.length (qac ns)) {j:Nat} {z:Nd} (hz:ns[j]?=some z) :
  Calls prog 148 #[.agg #[nv,.int .i64 fi],.int .i64 (j:Int)] w fun e w'=>e=.returned (.bool (nodeB ns j z))/\Ext w w':=by
 obtain⟨zk,za,zb,zc,zx,zi,zs,zt⟩:=z;by_cases h:zk=0\/zk=1\/zk=2\/zk=3\/zk=4\/zk=5\/zk=6\/zk=7\/zk=8\/zk=9\/zk=10\/zk=11\/zk=20\/zk=21\/zk=22\/zk=23\/zk=24\/zk=25\/zk=26\/zk=27\/zk=28
 . rcases h with h | h | h | h | h | h | h | h | h | h | h | h | h | h | h | h | h | h | h | h | h
   . exact qew fi hr Y hz
   . exact qew fi hr Y hz
   . exact qew fi hr Y hz
   . exact qeq fi hr Y hz
   . exact qew fi hr Y hz
   . exact qeq fi hr Y hz
   . exact qeq fi hr Y hz
   . exact qeq fi hr Y hz
   . exact qek fi hr Y hz
   . exact qek fi hr Y hz
   . exact qek fi hr Y hz
   . exact qek fi hr Y hz
   . exact qeo fi hr Y hz
   . exact qeo fi hr Y hz
   . exact qeo fi hr Y hz
   . exact qeo fi hr Y hz
   . exact qgA fi hr Y hz
   . exact rnode_g6 fi hr Y hz
   . exact rnode_g6 fi hr Y hz
   . exact qgA fi hr Y hz
   . exact qgA fi hr Y hz
 . exact rnode_none fi hr hz h
def kidsL (z:Nd):List Int:=[z.a,z.b,z.c,z.x]
def preL (l:List Int) (m:Nat) (k:Int):Nat:=((l.take m).map fun a=>pone a k).sum
def preL_succ (l:List Int) (m:Nat) (k a:Int) (h:l[m]?=some a):preL l (m+1) k=preL l m k+pone a k:=by
 unfold preL;rw[List.take_add_one,h];simp
def preL_all (z:Nd) (k:Int):preL (kidsL z) 4 k=prefs z k:=by
 unfold preL kidsL prefs;simp;omega
def preL_le (l:List Int) (m:Nat) (k:Int):preL l m k<=l.length:=by
  unfold preL
  have h:∀ l:List Int,(l.map fun a=>pone a k).sum<=l.length:=by
    intro l
    induction l with
    | nil=>simp
    | cons a l ih => simp only [List.map_cons, List.sum_cons, List.length_cons]; have : pone a k <= 1 := by unfold pone; split <;> omega
                     omega
  exact Nat.le_trans (h _) zg
def pone_le (a k:Int):pone a k<=1:=by unfold pone;split<;>omega
def had_any (fi:Int) {w:World} (hr:w.ownsRow 0 166 8 nv ns.length (qac ns)) (hn:ns.length<=512) (k:Int):Calls prog 149 #[.agg #[nv,.int .i64 fi],.int .i64 k] w fun e w'=>e=.returned (.int .i64 ((pone fi k+pcnt ns k:Nat):Int))/\Ext w w':=by
 have HR:=J hr;have HN:=J hn;have hnl:(ns.length:Int)<=512:=Y;obtain⟨pv,pc,rfl⟩:=qad hr;have h0:∃ c0:Nat,pone fi k=c0:=⟨_,rfl⟩
 clear hr hn
 have main:∀ (c0:Nat),pone fi k=c0->∀ (a:Bool),(fi==k)=a->Calls prog 149 #[.agg #[.slice pv ns.length pc,.int .i64 fi],.int .i64 k] w fun e w'=>e=.returned (.int .i64 ((c0+pcnt ns k:Nat):Int))/\Ext w w':=by
  intro c0 hc0 a ha
  have hv:(c0:Int)=if a=true then 1 else 0:=by
   rw[<-hc0,<-ha];unfold pone;by_cases e:fi=k
   . subst e;simp
   . simp[e]
  have HV:=J hv;have hc1:(c0:Int)<=1:=by have:=pone_le fi k;omega
  have hc2:0<=(c0:Int):=Y;clear hc0 hv h0;cases a
  all_goals
   have hv:=HV.out;simp only[Bool.false_eq_true,if_false,if_true] at hv;have HV2:=J hv;clear hv;go_enter func149,ntmps149;go_wp2_with fail;go_loopw [5,6,7,9] (fun c i _ _ wr=>∃ (m:Nat),m<=ns.length/\i=.int .i64 (m:Int)/\c=.int .i64 ((c0+pcnt (ns.take m) k:Nat):Int)/\Ext w wr/\KB w.heap.size #[.slice pv ns.length pc,.int .i64 fi] 132 wr) (fun _ i _ _ _=>ns.length-(intOf i).toNat)
   case atStart=>exact⟨0,Nat.zero_le _,rfl,by have:=HV2.out;simp[pcnt,this],zq,KB.new _ _ _⟩
   case round =>
    obtain⟨m,hm,rfl,rfl,hx,hkb⟩:=hrel;have HX:=J hx;have KP:=J hkb;have xp0:=hkb.cell 0 _ rfl;have lp:=hkb.lt;clear hkb;by_cases hlt:m<ns.length
    . obtain⟨z,hz⟩:∃ z,ns[m]?=some z:=⟨ns[m]'hlt,List.getElem?_eq_getElem hlt⟩
      have hrw:=own_ext HR.out hx;obtain⟨G,cp,hpv,-,-⟩:=qaS HR.out hlt;have hpv1:pv=some ⟨G,0,none⟩:=(by simp only[Value.slice.injEq] at hpv;exact hpv.1)
      subst hpv1;have hG:=(hrw.lt G rfl).2;obtain⟨a0,a1,a2,a3,a4,a5,a6,a7⟩:=nd_at hrw hz;have HST:=J (pcnt_take ns m z hz k);have HPA:=J (preL_all z k);obtain⟨zk,za,zb,zc,zx,zi,zs,zt⟩:=z;dsimp only at a0 a1 a2 a3 a4 a5 a6 a7;have HM:=J hlt;have hm1:(m:Int)<(ns.length:Int):=Y;have hm0:0<=(m:Int):=Y;obtain⟨q,hq⟩:∃ q,pcnt (ns.take m) k=q:=⟨_,rfl⟩
      have hq1:(q:Int)<=2048:=(by have:=pcnt_le (ns.take m) k;have:=HN.out;simp at *;omega)
      rw[hq] at HST ⊢;clear hx hrw hpv hz hq hlt hm;go_wp2_with fail;obtain⟨W5,hW5⟩:∃ W5:World,W5=wr.alloc (.cells #[.int .i64 zk,.int .i64 za,.int .i64 zb,.int .i64 zc,.int .i64 zx,.int .i64 zi,.string zs,.string zt] 166 (0,0)):=⟨_,rfl⟩
      go_loopw [5,9,38] (fun c _ i wi=>∃ (r:Nat),r<=4/\i=.int .i64 (r:Int)/\c=.int .i64 ((c0+q+preL (kidsL ⟨zk,za,zb,zc,zx,zi,zs,zt⟩) r k:Nat):Int)/\wi=(wr.alloc (.cells #[.int .i64 zk,.int .i64 za,.int .i64 zb,.int .i64 zc,.int .i64 zx,.int .i64 zi,.string zs,.string zt] 166 (0,0))).alloc (.cells #[.int .i64 za,.int .i64 zb,.int .i64 zc,.int .i64 zx] 3 (0,0))) (fun _ _ i _=>4-(intOf i).toNat)
      case atStart=>exact⟨0,Nat.zero_le _,rfl,by simp[preL],rfl⟩
      case round =>
       obtain⟨r,hr4,rfl,rfl,rfl⟩:=hrel;have HL4:=J (preL_le (kidsL ⟨zk,za,zb,zc,zx,zi,zs,zt⟩) r k);by_cases hr:r<4
       . obtain⟨y,hy,hyc⟩:∃ y:Int,(kidsL ⟨zk,za,zb,zc,zx,zi,zs,zt⟩)[r]?=some y/\(#[.int .i64 za,.int .i64 zb,.int .i64 zc,.int .i64 zx]:Array Value)[r]?=some (.int .i64 y):=by
           have h4:r=0\/r=1\/r=2\/r=3:=Y;rcases h4 with rfl | rfl | rfl | rfl<;>exact⟨_,rfl,rfl⟩
         have HS2:=J (preL_succ _ r k y hy);have kq:=KB.new (wr.alloc (.cells #[.int .i64 zk,.int .i64 za,.int .i64 zb,.int .i64 zc,.int .i64 zx,.int .i64 zi,.string zs,.string zt] 166 (0,0))) #[.int .i64 za,.int .i64 zb,.int .i64 zc,.int .i64 zx] 3;have xq:=kq.cell r _ hyc;obtain⟨p,hp⟩:∃ p,preL (kidsL ⟨zk,za,zb,zc,zx,zi,zs,zt⟩) r k=p:=⟨_,rfl⟩
         rw[hp] at HS2 HL4 ⊢;have hp4:(p:Int)<=4:=(by have:=HL4.out;simp[kidsL] at this;omega)
         have HR4:=J hr;have hr1:(r:Int)<4:=Y;have hr0:0<=(r:Int):=Y;rw[World.size_alloc] at xq;clear hy hyc kq hp hr hr4;by_cases hyk:y=k
         . subst hyk;have HS3:=J (show preL (kidsL ⟨zk,za,zb,zc,zx,zi,zs,zt⟩) (r+1) y=p+1 by rw[HS2.out];unfold pone;simp);go_wp2_with fail;go_roundw
           case rel=>exact⟨r+1,by have:=HR4.out;omega,by go_num,by rw[HS3.out];go_num,(by first | trivial | rfl)⟩
           case measure=>have:=HR4.out;simp[intOf];omega
         . have hyk2:(y==k)=false:=(by simpa using hyk)
           have HS3:=J (show preL (kidsL ⟨zk,za,zb,zc,zx,zi,zs,zt⟩) (r+1) k=p by rw[HS2.out];unfold pone;simp[hyk]);clear hyk;go_wp2_with fail;go_roundw
           case rel=>exact⟨r+1,by have:=HR4.out;omega,by go_num,by rw[HS3.out],(by first | trivial | rfl)⟩
           case measure=>have:=HR4.out;simp[intOf];omega
       . have hre:r=4:=Y;subst hre;have HPB:=HPA.out;rw[HPB];obtain⟨p,hp⟩:∃ p,prefs ⟨zk,za,zb,zc,zx,zi,zs,zt⟩ k=p:=⟨_,rfl⟩
         rw[hp] at HST ⊢;clear hp hr hr4 HPB;go_wp2_with fail;go_roundw
         case rel=>exact⟨m+1,by have:=HM.out;omega,by go_num,by rw[HST.out];go_num,HX.out.trans zq,KB.of_ext KP.out zq⟩
         case measure=>have:=HM.out;simp[intOf];omega
    . have hme:m=ns.length:=Y;subst hme;rw[List.take_length];clear hlt hm hx;go_wp2_with fail;go_ret;exact⟨rfl,HX.out⟩
 exact main _ rfl _ rfl
def qgQ {fi:Int} (h:qdl ns=false\/onceB ns fi=false\/blkB ns fi ns.length=false\/512<ns.length):mayB ns fi=false:=by
 unfold mayB;rcases h with h | h | h | h
 . rw[h];simp
 . rw[h];simp
 . rw[h];simp
 . have:decide (ns.length<=512)=false:=by simp;omega
   rw[this];rfl
def mayB_yes {fi:Int} (h1:ns.length<=512) (h2:qdl ns=true) (h3:blkB ns fi ns.length=true) (h4:onceB ns fi=true):mayB ns fi=true:=by
 unfold mayB;rw[h2,h3,h4,show decide (ns.length<=512)=true by simpa using h1];rfl
def rmay_long (fi:Int) {w:World} (hr:w.ownsRow 0 166 8 nv ns.length (qac ns)) (hn:512<ns.length):Calls prog 120 #[.agg #[nv,.int .i64 fi]] w fun e w'=>e=.returned (.bool (mayB ns fi))/\Ext w w':=by
 rw[qgQ (Or.inr (Or.inr (Or.inr hn)))];obtain⟨pv,pc,rfl⟩:=qad hr;have hnl:(512:Int)<(ns.length:Int):=Y;have hnl2:(512<ns.length)=True:=zg;clear hr hn;go_enter func120,ntmps120;go_wp2_with fail;go_ret;exact⟨rfl,zq⟩
def rmay_short (fi:Int) {w:World} (hr:w.ownsRow 0 166 8 nv ns.length (qac ns)) (hn:ns.length<=512):Calls prog 120 #[.agg #[nv,.int .i64 fi]] w fun e w'=>e=.returned (.bool (mayB ns fi))/\Ext w w':=by
 obtain⟨rm,hrm⟩:∃ r,mayB ns fi=r:=⟨_,rfl⟩
 rw[hrm];have HRM:=J hrm;clear hrm;have HR:=J hr;have HN:=J hn;have BK:=fun W (hx:Ext w W)=>qaV fi (own_ext HR.out hx) fi (ns.length:Int) (Int.le_refl _)
 obtain⟨pv,pc,rfl⟩:=qad hr;have hnl:((512:Int)<(ns.length:Int))=False:=zg;have hnl2:(512<ns.length)=False:=zg;have hnl3:(ns.length:Int)<=512:=Y;clear hr hn;by_cases hb:blkB ns fi ns.length=false
 . have HV:=J (show rm=false from HRM.out.symm.trans (qgQ (Or.inr (Or.inr (Or.inl hb)))));rw[hb] at BK;have BK:=J BK;clear hb;go_enter func120,ntmps120
   go_wp2_with ((with_reducible refine (BK.out _ zq).mono ?_);rintro e' _ ⟨rfl,d1,os1,rfl⟩)
   go_ret;exact⟨ret_bool HV.out.symm,zq⟩
 have hb1:blkB ns fi ns.length=true:=by simpa using hb
 rw[hb1] at BK;have BK:=J BK;have HB:=J hb1;clear hb hb1;go_enter func120,ntmps120
 go_wp2_with ((with_reducible refine (BK.out _ zq).mono ?_);rintro e' _ ⟨rfl,d1,os1,rfl⟩)
 go_loopw [3] (fun i wr=>∃ (m:Nat),m<=ns.length/\i=.int .i64 (m:Int)/\Hid (∀ j,j<m->(∀ z,ns[j]?=some z->nodeB ns j z=true)/\pone fi j+pcnt ns j=1)/\Ext w wr/\KB w.heap.size #[.slice pv ns.length pc,.int .i64 fi] 132 wr) (fun i _=>ns.length-(intOf i).toNat)
 case atStart=>exact⟨0,Nat.zero_le _,rfl,J fun j hj=>absurd hj (Nat.not_lt_zero _),zq,KB.of_ext (KB.new _ _ _) zq⟩
 case round =>
  obtain⟨m,hm,rfl,HF,hx,hkb⟩:=hrel;have HX:=J hx;have KP:=J hkb;have xp0:=hkb.cell 0 _ rfl;have xp1:=hkb.cell 1 _ rfl;have lp:=hkb.lt;clear hkb hx;by_cases hlt:m<ns.length
  . obtain⟨z,hz⟩:∃ z,ns[m]?=some z:=⟨ns[m]'hlt,List.getElem?_eq_getElem hlt⟩
    have ND:=fun W (hx:Ext wr W)=>rnode_any fi (own_ext HR.out (HX.out.trans hx)) hz
    have HD:=J (fun W (hx:Ext wr W)=>had_any fi (own_ext HR.out (HX.out.trans hx)) HN.out (m:Int));have HM:=J hlt;have hm1:(m:Int)<(ns.length:Int):=Y;have hm0:0<=(m:Int):=Y;cases hnb:nodeB ns m z
    . rw[hnb] at ND;have HV:=J (show rm=false from HRM.out.symm.trans (qgQ (Or.inl (nodesB_no hz hnb))));have ND:=J ND;clear hnb hz hlt hm
      go_wp2_with ((with_reducible refine (ND.out _ zq).mono ?_);rintro e' _ ⟨rfl,d1,os1,rfl⟩)
      go_ret;exact⟨ret_bool HV.out.symm,HX.out.trans zq⟩
    . rw[hnb] at ND;have ND:=J ND;by_cases ho:pone fi m+pcnt ns m=1
      . rw[ho] at HD;have HO:=J ho;have HNB:=J hnb;have HZ:=J hz;clear hnb hz hlt hm ho
        go_wp2_with (first | ((with_reducible refine (ND.out _ zq).mono ?_);rintro e' _ ⟨rfl,d1,os1,rfl⟩) | ((with_reducible refine (HD.out _ zq).mono ?_);rintro e' _ ⟨rfl,d1,os1,rfl⟩))
        go_roundw
        case rel=>exact⟨m+1,by have:=HM.out;omega,by go_num,J fun j hj=>by
         by_cases e:j=m
         . subst e;exact⟨fun y hy=>by have:=HZ.out;rw[hy] at this;cases this;exact HNB.out,HO.out⟩
         . exact HF.out j Y,HX.out.trans zq,KB.of_ext KP.out zq⟩
        case measure=>have:=HM.out;simp[intOf];omega
      . have HV:=J (show rm=false from HRM.out.symm.trans (qgQ (Or.inr (Or.inl (allB_no hlt ho)))));obtain⟨q,hq⟩:∃ q,pone fi m+pcnt ns m=q:=⟨_,rfl⟩
        rw[hq] at HD ho;have hq1:((q:Int) !=1)=true:=(by rw[bne_iff_ne];omega)
        have hq2:(q !=1)=true:=(by rw[bne_iff_ne];omega)
        clear hnb hz hlt hm ho hq
        go_wp2_with (first | ((with_reducible refine (ND.out _ zq).mono ?_);rintro e' _ ⟨rfl,d1,os1,rfl⟩) | ((with_reducible refine (HD.out _ zq).mono ?_);rintro e' _ ⟨rfl,d1,os1,rfl⟩))
        go_ret;exact⟨ret_bool HV.out.symm,HX.out.trans zq⟩
  . have hme:m=ns.length:=Y;subst hme;have HV:=J (show rm=true from HRM.out.symm.trans (mayB_yes HN.out (qga fun j z hz=>(HF.out j (List.getElem?_eq_some_iff.1 hz).1).1 z hz) HB.out (allB_yes fun j hj=>(HF.out j hj).2)));clear hlt hm;go_wp2_with fail;go_ret;exact⟨ret_bool HV.out.symm,HX.out⟩
def rmay_any (fi:Int) {w:World} (hr:w.ownsRow 0 166 8 nv ns.length (qac ns)):Calls prog 120 #[.agg #[nv,.int .i64 fi]] w fun e w'=>e=.returned (.bool (mayB ns fi))/\Ext w w':=by
 by_cases hn:ns.length<=512
 . exact rmay_short fi hr hn
 . exact rmay_long fi hr Y
end Go.Proofs.YtpnabjopfpdkhaaGreatDoor
