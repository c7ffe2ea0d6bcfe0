/- Lemmas. -/
import Derived.Test.YtpnabjopfpdkhaaGreatDoorY09
import Derived.Test.YtpnabjopfpdkhaaGreatDoorY10
import Derived.Test.YtpnabjopfpdkhaaGreatDoorY22
set_option linter.all false
set_option maxHeartbeats 8000000
set_option maxRecDepth 20000
namespace Go.Proofs.YtpnabjopfpdkhaaGreatDoor
open Tryz RowKit
variable {w:World} {B:Nat} {l:List Stp}
attribute [go_sem] more_more Array.size_append
def qeS (s:ByteArray) (l:List ByteArray) (k:Nat) (x:ByteArray) (hx:l[k]?=some x) (b:Bool) (hb:(x.toList==s.toList)=b):qaz s l (k+1)=if b=true then(k:Int) else qaz s l k:=by
 subst hb;show(if ((l.getD k ByteArray.empty).toList==s.toList)=true then(k:Int) else qaz s l k)=_
 rw[List.getD_eq_getElem?_getD,hx];rfl
def rlast_any {sv:Value} {l:List ByteArray} (h:w.ownsRow 0 9 1 sv l.length (strV l)) (hl:l.length<=4000) (s:ByteArray) :
  Calls prog 122 #[sv,.string s] w fun e w'=>e=.returned (.int .i64 (lastI l s))/\Ext w w':=by
 obtain⟨n,hn⟩:∃ n,l.length=n:=⟨_,rfl⟩
 obtain⟨p,c,hv⟩:=qad h;rw[hn] at hv hl;subst hv;obtain⟨r,hr⟩:∃ r,lastI l s=r:=⟨_,rfl⟩
 rw[hr];have HR:=J (show qaz s l n=r from by rw[<-hn];exact hr);have H:=J h;have HN:=J hn;have hni:(n:Int)<=4000:=Y;have hn0:0<=(n:Int):=Y;clear h hn hr hl;go_enter func122,ntmps122;go_wp2_with fail;go_loopw [5] (fun y wr=>∃ i:Int,y=.int .i64 i/\-1<=i/\i<(n:Int)/\qaz s l (i+1).toNat=r/\wr=w) (fun y _=>(intOf y+1).toNat)
 case atStart=>exact⟨(n:Int)-1,rfl,Y,Y,by rw[show((n:Int)-1+1).toNat=n from by omega];exact HR.out,rfl⟩
 case round =>
  obtain⟨i,rfl,h1,h2,hq,rfl⟩:=hrel;by_cases hi:0<=i
  . obtain⟨k,rfl⟩:∃ k:Nat,i=(k:Int):=⟨i.toNat,Y⟩
    have hk:k<n:=Y;obtain⟨x,hx⟩:∃ x,l[k]?=some x:=⟨_,List.getElem?_eq_getElem (by rw[HN.out];exact hk)⟩
    obtain⟨g,rfl⟩:∃ g,p=some ⟨g,0,none⟩:=by
     rcases Go.Joins.ownsRow_forms H.out with ⟨_,h0⟩ | ⟨g1,c1,h0⟩
     . have:=HN.out;omega
     . simp at h0;exact⟨g1,h0.1⟩
    have hc:=H.out.cells (g:=g) rfl k (.string x) (by unfold strV;rw[List.getElem?_map,hx];rfl);rw[Addr.add_lit,Nat.zero_add] at hc;have hg:=(H.out.lt g rfl).2;rw[show((k:Int)+1).toNat=k+1 from by omega] at hq;cases hb:(x.toList==s.toList)
    . have HQ:=J (show qaz s l ((k:Int)-1+1).toNat=r from by rw[qeS s l k x hx false hb] at hq;rw[show((k:Int)-1+1).toNat=k from by omega];simpa using hq);clear hx hq;go_wp2_with fail;go_roundw
      case rel=>exact⟨(k:Int)-1,rfl,Y,Y,HQ.out,by first | rfl | trivial⟩
      case measure=>first | (simp[intOf];done) | (simp[intOf];omega)
    . have HQ:=J (show(k:Int)=r from by rw[qeS s l k x hx true hb] at hq;simpa using hq);clear hx hq;go_wp2_with fail;go_ret;exact⟨by(rw[<-HQ.out];rfl),Ext.refl _⟩
  . have hi2:i=-1:=Y;subst hi2;have HQ:=J (show(-1:Int)=r from by have:qaz s l ((-1:Int)+1).toNat=-1:=rfl;rw[<-hq];exact this.symm);clear hq hi;go_wp2_with fail;go_ret;exact⟨by(rw[<-HQ.out];rfl),Ext.refl _⟩
def stepsE_nd (ns:List Nd):∀ (f:Nat) (i:Int) (sn:List ByteArray),∀ x∈qay ns f i sn,x.nd<ns.length:=by
 intro f
 induction f with
 | zero=>intro i sn x hx;cases hx
 | succ f ih =>
  intro i sn x hx;unfold qay at hx
  split at hx
  . cases hx
  split at hx
  . cases hx
  rename_i z hz;simp only[List.mem_append] at hx;rcases hx with (h | h) | h
  . exact ih _ _ x h
  . exact ih _ _ x h
  . split at h
    . simp at h;subst h;exact(List.getElem?_eq_some_iff.1 hz).1
    . cases h
def stepsB_nd (ns:List Nd):∀ (f:Nat) (i:Int) (sn:List ByteArray),∀ x∈qau ns f i sn,x.nd<ns.length:=by
 intro f
 induction f with
 | zero=>intro i sn x hx;cases hx
 | succ f ih =>
  intro i sn x hx;unfold qau at hx
  split at hx
  . cases hx
  split at hx
  . cases hx
  rename_i z hz;have hj:=(List.getElem?_eq_some_iff.1 hz).1;simp only[List.mem_append] at hx;rcases hx with (h | h) | h
  . exact stepsE_nd ns f _ _ x h
  . unfold qbK at h
    split at h
    . simp at h;subst h;exact hj
    split at h
    . simp at h;subst h;exact hj
    split at h
    . exact stepsE_nd ns f _ _ x h
    split at h
    . rcases List.mem_append.1 h with h | h
      . exact ih _ _ x h
      . exact ih _ _ x h
    split at h
    . simp only[List.mem_append,List.mem_cons,List.not_mem_nil,or_false] at h;rcases h with (h | h) | h
      . subst h;exact hj
      . subst h;exact hj
      . exact ih _ _ x h
    split at h
    . exact ih _ _ x h
    . cases h
  . exact ih _ _ x h
def stepsE_sn (ns:List Nd) (N:Nat):∀ (f:Nat) (i:Int) (sn:List ByteArray),sn.length<=N->∀ x∈qay ns f i sn,x.sn.length<=N:=by
 intro f
 induction f with
 | zero=>intro i sn _ x hx;cases hx
 | succ f ih =>
  intro i sn hn x hx;unfold qay at hx
  split at hx
  . cases hx
  split at hx
  . cases hx
  simp only[List.mem_append] at hx;rcases hx with (h | h) | h
  . exact ih _ _ hn x h
  . exact ih _ _ hn x h
  . split at h
    . simp at h;subst h;exact hn
    . cases h
def stepsB_sn (ns:List Nd):∀ (f:Nat) (i:Int) (sn:List ByteArray),∀ x∈qau ns f i sn,x.sn.length<=sn.length+2*f:=by
 intro f
 induction f with
 | zero=>intro i sn x hx;cases hx
 | succ f ih =>
  intro i sn x hx;unfold qau at hx
  split at hx
  . cases hx
  split at hx
  . cases hx
  rename_i z hz;simp only[List.mem_append] at hx;rcases hx with (h | h) | h
  . have:=stepsE_sn ns sn.length f _ _ (Nat.le_refl _) x h;omega
  . unfold qbK at h
    split at h
    . simp at h;subst h;dsimp only;omega
    split at h
    . simp at h;subst h;dsimp only;omega
    split at h
    . have:=stepsE_sn ns sn.length f _ _ (Nat.le_refl _) x h;omega
    split at h
    . rcases List.mem_append.1 h with h | h
      . have:=ih _ _ x h;omega
      . have:=ih _ _ x h;omega
    split at h
    . simp only[List.mem_append,List.mem_cons,List.not_mem_nil,or_false] at h;rcases h with (h | h) | h
      . subst h;dsimp only;omega
      . subst h;simp;omega
      . have:=ih _ _ x h;simp at this;omega
    split at h
    . have:=ih _ _ x h;omega
    . cases h
  . have:=ih _ _ x h
    split at this<;>(try simp at this)<;>omega
def qfi:∀ (l:List (Stp × Value)) (j:Nat) (q:Stp × Value),l[j]?=some q->(qaB l)[j*4]?=some (.int .i64 (q.1.nd:Int))/\(qaB l)[j*4+1]?=some (.bool q.1.mkx)/\(qaB l)[j*4+2]?=some (.string q.1.nm)/\(qaB l)[j*4+3]?=some q.2
 | [],_,_,h=>by simp at h
 | y::l,0,x,h=>by simp at h;subst h;exact⟨rfl,rfl,rfl,rfl⟩
 | y::l,j+1,x,h=>by
  have:=qfi l j x jx;rw[show(j+1)*4=j*4+4 from by omega];exact this
def rsOut:Except (Int × Nat) (List Int × Int)->List Int × Int × Int × Int
 | .ok q=>(q.1,q.2,0,-1)
 | .error e=>([],0,e.1,(e.2:Int))
def rslots_out (ns:List Nd) (fi:Int):qfI ns fi=rsOut (rfold (qau ns ns.length fi []) (List.replicate ns.length (-1),0)):=by
 unfold qfI rsOut;cases rfold (qau ns ns.length fi []) (List.replicate ns.length (-1),0)<;>rfl
def StepsAt.form {v:Value} (h:StepsAt B v l w):∃ p c,v=.slice p l.length c:=by
 obtain⟨vs,h1,h2,h3⟩:=h;exact qad h2
def StepsAt.at {n c:Nat} {p:Option Addr} (h:StepsAt B (.slice p n c) l w) {j:Nat} {x:Stp} (hx:l[j]?=some x):∃ g sv,p=some ⟨g,0,none⟩/\g<w.heap.size/\w.cell? ⟨g,j*4,none⟩=some (.int .i64 (x.nd:Int))/\w.cell? ⟨g,j*4+1,none⟩=some (.bool x.mkx)/\w.cell? ⟨g,j*4+2,none⟩=some (.string x.nm)/\w.cell? ⟨g,j*4+3,none⟩=some sv/\w.ownsRow 0 9 1 sv x.sn.length (strV x.sn):=by
 obtain⟨vs,h1,h2,h3⟩:=h;have hj:=(List.getElem?_eq_some_iff.1 hx).1;obtain⟨g,k,hv,_,hg⟩:=h2.form Y;simp only[Value.slice.injEq] at hv;obtain⟨rfl,rfl,rfl⟩:=hv
 obtain⟨q,hq,hqx⟩:∃ q,vs[j]?=some q/\q.1=x:=by
  have:(vs.map Prod.fst)[j]?=some x:=by rw[h1];exact hx
  rw[List.getElem?_map] at this;obtain⟨q,e1,e2⟩:=Option.map_eq_some_iff.1 this;exact⟨q,e1,e2⟩
 obtain⟨a0,a1,a2,a3⟩:=qfi vs j q hq;have hc:=h2.cells (g:=g) rfl;have d0:=hc _ _ a0;have d1:=hc _ _ a1;have d2:=hc _ _ a2;have d3:=hc _ _ a3;rw[Addr.add_lit,Nat.zero_add] at d0 d1 d2 d3;rw[hqx] at d0 d1 d2;exact⟨g,q.2,rfl,hg,d0,d1,d2,d3,by rw[<-hqx];exact h3 q (List.mem_of_getElem? hq)⟩
def StepsAt.setOther {b n g c:Nat} {v:Value} {xs:List Value} (h:StepsAt B v l w) (hr:w.ownsRow b 3 1 (.slice (some ⟨g,0,none⟩) n c) n xs) (i:Nat) (u:Value):StepsAt B v l (w.setCell ⟨g,i,none⟩ u):=by
 obtain⟨vs,h1,h2,h3⟩:=h;refine ⟨vs,h1,own_block h2 fun q hq _=>heap_set_other _ _ _ _ _ ?_,fun q hq=>own_block (h3 q hq) fun r hr2 _=>heap_set_other _ _ _ _ _ ?_⟩
 . intro e;subst e;exact qdr hr h2 zw _ rfl hq
 . intro e;subst e;exact qdr hr (h3 q hq) zw _ rfl hr2
def qgj (l:List Int) (i:Nat) (v:Int):intL (l.set i v)=(intL l).set i (.int .i64 v):=by unfold intL;rw[List.map_set]
def rslots_no {ns:List Nd} {nv:Value} (fi:Int) {w:World} (hr:w.ownsRow 0 166 8 nv ns.length (qac ns)) (hm:mayB ns fi=false) :
  Calls prog 106 #[.agg #[nv,.int .i64 fi]] w fun e w'=>∃ v,e=.returned (.tuple #[v,.int .i64 0,.int .i64 1,.int .i64 (-1)])/\Ext w w':=by
 obtain⟨p1,c1,hv⟩:=qad hr;have RM:=J (fun W' (hx:Ext w W')=>rmay_any fi (own_ext hr hx));rw[hm] at RM;rw[hv] at RM ⊢;clear hr hm hv;go_enter func106,ntmps106
 go_wp2_with ((with_reducible refine (RM.out _ zq).mono ?_);rintro e' w2 ⟨rfl,hx2⟩;have HX2:=J (Ext.trans ((Ext.refl w).alloc _) hx2);clear hx2)
 exact bodyPost_ret (v:=.tuple #[.slice none 0 0,.int .i64 0,.int .i64 1,.int .i64 (-1)]) zbp rfl ⟨_,rfl,HX2.out⟩
def rslots_yes {ns:List Nd} {nv:Value} (fi:Int) {w:World} (hr:w.ownsRow 0 166 8 nv ns.length (qac ns)) (hm:mayB ns fi=true) (l:List Int) (mo e a:Int) (hf:qfI ns fi=(l,mo,e,a)) :
  Calls prog 106 #[.agg #[nv,.int .i64 fi]] w fun r w'=>∃ v,r=.returned (.tuple #[v,.int .i64 mo,.int .i64 e,.int .i64 a])/\Ext w w':=by
 obtain⟨p1,c1,hv⟩:=qad hr;obtain⟨n,hnl⟩:∃ n,ns.length=n:=⟨_,rfl⟩
 have RM:=J (fun W' (hx:Ext w W')=>rmay_any fi (own_ext hr hx));have hn:=(qbC hm).1;obtain⟨tn,htn,tr⟩:=qgJ hm;have BK:=J (fun W' (hx:Ext w W')=>srblock_all (nv:=nv) fi n fi tn [] (.slice none 0 0) W' tr Y Y zg (own_ext hr hx) (World.ownsRow_nil _ _ _ _));rw[hm] at RM;have HND:=J (stepsB_nd ns n fi []);have HSN:=J (stepsB_sn ns n fi []);have HSZ:=J (show(qau ns n fi []).length<=2*tn/\tn<=n from⟨stepsB_len ns n fi tn [] tr,Y⟩);rw[rslots_out] at hf;rw[hnl] at hf hv hn HND;rw[hv] at RM BK ⊢;obtain⟨S,hS⟩:∃ S,qau ns n fi []=S:=⟨_,rfl⟩
 rw[hS] at hf BK HND HSN HSZ;have hni:(n:Int)<=512:=Y;have HF:=J hf;have HN5:=J hn;clear hr hm hv hf hS htn tr hn hnl;obtain⟨i0,hi,hz0,hz1,hz2⟩:=info_parts intInfo2;go_enter func106,ntmps106
 go_wp2_with ((with_reducible refine (RM.out _ zq).mono ?_);rintro e' w2 ⟨rfl,hx2⟩;have HX2:=J (Ext.trans ((Ext.refl w).alloc _) hx2);have KP:=J ((KB.new w _ _).of_ext hx2);clear hx2)
 obtain⟨Bx,hBx⟩:∃ Bx,w.heap.size=Bx:=⟨_,rfl⟩
 rw[hBx] at KP ⊢;have HBX:=J hBx;clear RM hBx;go_loopw [7,6] (fun y v wr=>∃ k:Nat,y=.int .i64 (k:Int)/\k<=n/\wr.ownsRow w2.heap.size 3 1 v k (intL (List.replicate k (-1)))/\Ext w2 wr) (fun y _ _=>n-(intOf y).toNat)
 case atStart=>exact⟨0,rfl,Nat.zero_le _,World.ownsRow_nil _ _ _ _,Ext.refl _⟩
 case round =>
  obtain⟨k,rfl,hk,hrow,hxr⟩:=hrel;obtain⟨p3,c3,rfl⟩:=qad hrow;have RW:=J hrow;have HX:=J hxr;have KX:=J (KP.out.of_ext hxr);have x0:wr.cell? ⟨Bx,0,none⟩=some (.slice p1 n c1):=KX.out.cell 0 _ rfl;have x1:wr.cell? ⟨Bx,1,none⟩=some (.int .i64 fi):=KX.out.cell 1 _ rfl;have lx:=KX.out.lt;have hk0:0<=(k:Int):=Y;clear hrow hxr;by_cases hlt:k<n
  . have hkn:(k:Int)<(n:Int):=Y;have HLT:=J hlt;have HC:=J (show intL (List.replicate k (-1))++[.int .i64 (-1)]=intL (List.replicate (k+1) (-1)) from by rw[List.replicate_succ'];unfold intL;rw[List.map_append];rfl);clear hlt hk
    go_wp2_with (at_builtin;refine wpList_append_own_at _ rfl _ _ 160 rfl w2.heap.size 3 i0 (.int .i64 0) 1 8 underlying160 hi hz0 hz1 hz2 rfl zw (.slice p3 k c3) k (intL (List.replicate k (-1))) rfl (RW.out.alloc _) ⟨_,0,none⟩ 1 1 [.int .i64 (-1)] rfl rfl (qaq zy) ji (by have:=HLT.out;have:=HN5.out;unfold maxLen;omega) (by have:=HLT.out;have:=HN5.out;omega) (by simp;have:=HX.out.size;omega) ?_)
    intro v' w1 hown hgrow _ _;have HO:=J (show w1.ownsRow w2.heap.size 3 1 v' (k+1) (intL (List.replicate (k+1) (-1))) from by rw[<-HC.out];exact hown);have HX2:=J ((HX.out.alloc _).grown hgrow fun k hk=>(RW.out.lt k hk).1);have KX2:=J (KP.out.of_ext HX2.out);have q0:w1.cell? ⟨Bx,0,none⟩=some (.slice p1 n c1):=KX2.out.cell 0 _ rfl;have lq:=KX2.out.lt;clear hown hgrow;go_wp2_with fail;go_roundw
    case rel=>exact⟨k+1,by go_num,by have:=HLT.out;omega,HO.out,HX2.out⟩
    case measure=>have:=HLT.out;simp[intOf];omega
  . have hke:k=n:=Y;subst hke;clear hlt hk
    go_wp2_with ((with_reducible refine (BK.out _ (HX2.out.trans HX.out)).mono ?_);rintro e' w3 ⟨v3,rfl,hst,hx3⟩;have HST:=J (hst.mono (show w2.heap.size<=_ from HX.out.size));have HO3:=J (own_ext RW.out hx3);have HX3:=J (HX.out.trans hx3);clear hst hx3)
    obtain⟨m,hm⟩:∃ m,S.length=m:=⟨_,rfl⟩
    obtain⟨pv,cv,hv3⟩:=HST.out.form;rw[hm] at hv3;subst hv3;have HM:=J hm;obtain⟨R0,hR0⟩:∃ R0,rfold S (List.replicate k (-1),0)=R0:=⟨_,rfl⟩
    have HR0:=J hR0;have HF2:=J (show rsOut R0=(l,mo,e,a) from by rw[<-hR0];exact HF.out);have hmi:(m:Int)<=100000:=(by have:=HSZ.out;have:=HM.out;have:=HN5.out;omega)
    clear hm hR0 x0 x1 lx HF;go_loopw [10,9] (fun y z wr=>∃ j:Nat,y=.int .i64 (j:Int)/\j<=m/\∃ q:List Int × Int,z=.int .i64 q.2/\0<=q.2/\q.2<=100/\q.1.length=k/\rfold (S.drop j) q=R0/\StepsAt w2.heap.size (.slice pv m cv) S wr/\wr.ownsRow w2.heap.size 3 1 (.slice p3 k c3) k (intL q.1)/\Ext w2 wr) (fun y _ _=>m-(intOf y).toNat)
    case atStart=>exact⟨0,rfl,Nat.zero_le _,(List.replicate k (-1),0),rfl,(show(0:Int)<=0 from Int.le_refl 0),(show(0:Int)<=100 from by decide),zy,HR0.out,HST.out,HO3.out,HX3.out⟩
    case round =>
     obtain⟨j,rfl,hj,⟨ql,qm⟩,rfl,hq0,hq1,hql,hqf,hst,hro,hxr⟩:=hrel;dsimp only at hq0 hq1 hql hqf hro;have RW2:=J hro;have HXr:=J hxr;have HSr:=J hst;have HQL:=J hql;have hj0:0<=(j:Int):=Y;clear hro hxr hql;by_cases hlt:j<m
     . have hjm:(j:Int)<(m:Int):=Y;obtain⟨x,hx⟩:∃ x,S[j]?=some x:=⟨_,List.getElem?_eq_getElem (by rw[HM.out];exact hlt)⟩
       have hmem:=List.mem_of_getElem? hx;have hnd:=HND.out x hmem;have hsn:=HSN.out x hmem
       have hdr:S.drop j=x::S.drop (j+1):=by
        have hlt2:j<S.length:=(by rw[HM.out];exact hlt)
        rw[List.drop_eq_getElem_cons hlt2];rw[List.getElem?_eq_getElem hlt2] at hx;rw[Option.some.inj hx]
       rw[hdr] at hqf;obtain⟨xd,xm,xn,xs⟩:=x;dsimp only at hnd hsn;obtain⟨g,sv,rfl,hg,c0,c1',c2,c3',hsv⟩:=hst.at hx;dsimp only at c0 c1' c2 hsv;obtain⟨t,ht⟩:∃ t,xs.length=t:=⟨_,rfl⟩
       obtain⟨ps,cs,hvs⟩:=qad hsv;rw[ht] at hvs hsn;subst hvs;have HSV:=J hsv;have HT:=J ht;have hti:(t:Int)<=2000:=(by have:=HN5.out;simp at hsn;omega)
       have ht0:0<=(t:Int):=Y;have RL:=J (fun W' (hx:Ext wr W')=>rlast_any (own_ext HSV.out hx) (by rw[HT.out];omega) xn);obtain⟨at',hat⟩:∃ q,lastI xs xn=q:=⟨_,rfl⟩
       rw[hat] at RL
       obtain⟨g3,rfl⟩:∃ g3,p3=some ⟨g3,0,none⟩:=by
        rcases Go.Joins.ownsRow_forms RW2.out with ⟨_,h0⟩ | ⟨g1,c1,h0⟩
        . omega
        . simp at h0;exact⟨g1,h0.1⟩
       obtain⟨ov,hov⟩:∃ v,ql[xd]?=some v:=⟨_,List.getElem?_eq_getElem (by rw[HQL.out];exact hnd)⟩
       have hgd:ql.getD xd (-1)=ov:=(by rw[List.getD_eq_getElem?_getD,hov];rfl)
       have oc:=RW2.out.cells (g:=g3) rfl xd (.int .i64 ov) (by unfold intL;rw[List.getElem?_map,hov];rfl);rw[Addr.add_lit,Nat.zero_add] at oc;have of:=qfZ RW2.out xd;have lg3:=(RW2.out.lt g3 rfl).2;have hndk:(xd:Int)<(k:Int):=Y;have hnd0:0<=(xd:Int):=Y;have HND1:=J hnd;have HLT:=J hlt
       have hrs:rstep (ql,qm) ⟨xd,xm,xn,xs⟩=(if xm=true then(if 0<=at' then .error (16,xd) else if 32<=t then .error (5,xd) else .ok (if ov<0 then ql.set xd (t:Int) else ql,max qm ((t:Int)+1))) else if at'<0 then .error (15,xd) else .ok (ql.set xd at',qm)):=by
        unfold rstep;dsimp only;rw[hat,ht,hgd]
       unfold rfold at hqf;rw[hrs] at hqf;clear hrs hx hdr hmem hov hgd hat ht hsn hsv hst hlt;cases xm
       . rw[if_neg zy] at hqf;by_cases hneg:at'<0
         . rw[if_pos hneg] at hqf;dsimp only at hqf;have hE:=HF2.out;rw[<-hqf] at hE;simp only[rsOut,Prod.mk.injEq] at hE;obtain⟨rfl,rfl,rfl,rfl⟩:=hE;clear hqf
           go_wp2_with ((with_reducible refine (RL.out _ qb).mono ?_);rintro e' _ ⟨rfl,d4,o4,rfl⟩)
           go_region
           go_wp2_with fail;exact bodyPost_ret (v:=.tuple #[.slice none 0 0,.int .i64 0,.int .i64 15,.int .i64 (xd:Int)]) zbp rfl ⟨_,rfl,HX2.out.trans zbd⟩
         . rw[if_neg hneg] at hqf;dsimp only at hqf;have HQF:=J hqf;have hpos:0<=at':=Y;have HST2:=J (HSr.out.setOther RW2.out xd (.int .i64 at'));have RW3:=J (show(wr.setCell ⟨g3,xd,none⟩ (.int .i64 at')).ownsRow w2.heap.size 3 1 (.slice (some ⟨g3,0,none⟩) k c3) k (intL (ql.set xd at')) from by rw[qgj];exact qbq RW2.out (by have:=HND1.out;omega) _);have HX4:=J (HXr.out.setCell (show w2.heap.size<=(⟨g3,xd,none⟩:Addr).block from(RW2.out.lt g3 rfl).1) (.int .i64 at'));clear hqf hneg
           go_wp2_with ((with_reducible refine (RL.out _ qb).mono ?_);rintro e' _ ⟨rfl,d4,o4,rfl⟩)
           go_roundw
           case rel=>exact⟨j+1,by go_num,by have:=HLT.out;omega,(ql.set xd at',qm),rfl,by first | assumption | (dsimp only;omega),by first | assumption | (dsimp only;omega),by dsimp only;rw[List.length_set];exact HQL.out,HQF.out,HST2.out.ext zq,own_ext RW3.out zq,HX4.out.trans zq⟩
           case measure=>have:=HLT.out;simp[intOf];omega
       . rw[if_pos rfl] at hqf;by_cases hpos:0<=at'
         . rw[if_pos hpos] at hqf;dsimp only at hqf;have hE:=HF2.out;rw[<-hqf] at hE;simp only[rsOut,Prod.mk.injEq] at hE;obtain⟨rfl,rfl,rfl,rfl⟩:=hE;clear hqf
           go_wp2_with ((with_reducible refine (RL.out _ qb).mono ?_);rintro e' _ ⟨rfl,d4,o4,rfl⟩)
           go_region
           go_wp2_with fail;exact bodyPost_ret (v:=.tuple #[.slice none 0 0,.int .i64 0,.int .i64 16,.int .i64 (xd:Int)]) zbp rfl ⟨_,rfl,HX2.out.trans zbd⟩
         rw[if_neg hpos] at hqf;have hneg:at'<0:=Y;clear hpos;by_cases h32:32<=t
         . rw[if_pos h32] at hqf;have h32i:32<=(t:Int):=Y;dsimp only at hqf;have hE:=HF2.out;rw[<-hqf] at hE;simp only[rsOut,Prod.mk.injEq] at hE;obtain⟨rfl,rfl,rfl,rfl⟩:=hE;clear hqf
           go_wp2_with ((with_reducible refine (RL.out _ qb).mono ?_);rintro e' _ ⟨rfl,d4,o4,rfl⟩)
           go_region
           go_wp2_with fail;exact bodyPost_ret (v:=.tuple #[.slice none 0 0,.int .i64 0,.int .i64 5,.int .i64 (xd:Int)]) zbp rfl ⟨_,rfl,HX2.out.trans zbd⟩
         rw[if_neg h32] at hqf;have h32i:(t:Int)<32:=Y;dsimp only at hqf;clear h32;by_cases hov:ov<0
         . by_cases hmx:qm<(t:Int)+1
           . have HQF:=J (show rfold (S.drop (j+1)) (ql.set xd (t:Int),(t:Int)+1)=R0 from by rw[<-hqf,if_pos hov,show max qm ((t:Int)+1)=(t:Int)+1 from by omega]);have HST2:=J (HSr.out.setOther RW2.out xd (.int .i64 (t:Int)));have RW3:=J (show(wr.setCell ⟨g3,xd,none⟩ (.int .i64 (t:Int))).ownsRow w2.heap.size 3 1 (.slice (some ⟨g3,0,none⟩) k c3) k (intL (ql.set xd (t:Int))) from by rw[qgj];exact qbq RW2.out (by have:=HND1.out;omega) _);have HX4:=J (HXr.out.setCell (show w2.heap.size<=(⟨g3,xd,none⟩:Addr).block from(RW2.out.lt g3 rfl).1) (.int .i64 (t:Int)));clear hqf
             go_wp2_with ((with_reducible refine (RL.out _ qb).mono ?_);rintro e' _ ⟨rfl,d4,o4,rfl⟩)
             go_roundw
             case rel=>exact⟨j+1,by go_num,by have:=HLT.out;omega,(ql.set xd (t:Int),(t:Int)+1),rfl,by first | assumption | (dsimp only;omega),by first | assumption | (dsimp only;omega),by dsimp only;rw[List.length_set];exact HQL.out,HQF.out,HST2.out.ext zq,own_ext RW3.out zq,HX4.out.trans zq⟩
             case measure=>have:=HLT.out;simp[intOf];omega
           . have HQF:=J (show rfold (S.drop (j+1)) (ql.set xd (t:Int),qm)=R0 from by rw[<-hqf,if_pos hov,show max qm ((t:Int)+1)=qm from by omega]);have hmx2:(t:Int)+1<=qm:=Y;have hmx3:decide (qm<(t:Int)+1)=false:=(by simpa using hmx2)
             have HST2:=J (HSr.out.setOther RW2.out xd (.int .i64 (t:Int)));have RW3:=J (show(wr.setCell ⟨g3,xd,none⟩ (.int .i64 (t:Int))).ownsRow w2.heap.size 3 1 (.slice (some ⟨g3,0,none⟩) k c3) k (intL (ql.set xd (t:Int))) from by rw[qgj];exact qbq RW2.out (by have:=HND1.out;omega) _);have HX4:=J (HXr.out.setCell (show w2.heap.size<=(⟨g3,xd,none⟩:Addr).block from(RW2.out.lt g3 rfl).1) (.int .i64 (t:Int)));clear hqf hmx
             go_wp2_with ((with_reducible refine (RL.out _ qb).mono ?_);rintro e' _ ⟨rfl,d4,o4,rfl⟩)
             go_roundw
             case rel=>exact⟨j+1,by go_num,by have:=HLT.out;omega,(ql.set xd (t:Int),qm),rfl,by first | assumption | (dsimp only;omega),by first | assumption | (dsimp only;omega),by dsimp only;rw[List.length_set];exact HQL.out,HQF.out,HST2.out.ext zq,own_ext RW3.out zq,HX4.out.trans zq⟩
             case measure=>have:=HLT.out;simp[intOf];omega
         . have hov2:0<=ov:=Y;by_cases hmx:qm<(t:Int)+1
           . have HQF:=J (show rfold (S.drop (j+1)) (ql,(t:Int)+1)=R0 from by rw[<-hqf,if_neg hov,show max qm ((t:Int)+1)=(t:Int)+1 from by omega]);clear hqf
             go_wp2_with ((with_reducible refine (RL.out _ qb).mono ?_);rintro e' _ ⟨rfl,d4,o4,rfl⟩)
             go_roundw
             case rel=>exact⟨j+1,by go_num,by have:=HLT.out;omega,(ql,(t:Int)+1),rfl,by first | assumption | (dsimp only;omega),by first | assumption | (dsimp only;omega),HQL.out,HQF.out,HSr.out.ext zq,own_ext RW2.out zq,HXr.out.trans zq⟩
             case measure=>have:=HLT.out;simp[intOf];omega
           . have HQF:=J (show rfold (S.drop (j+1)) (ql,qm)=R0 from by rw[<-hqf,if_neg hov,show max qm ((t:Int)+1)=qm from by omega]);have hmx2:(t:Int)+1<=qm:=Y;have hmx3:decide (qm<(t:Int)+1)=false:=(by simpa using hmx2)
             clear hqf hmx
             go_wp2_with ((with_reducible refine (RL.out _ qb).mono ?_);rintro e' _ ⟨rfl,d4,o4,rfl⟩)
             go_roundw
             case rel=>exact⟨j+1,by go_num,by have:=HLT.out;omega,(ql,qm),rfl,by first | assumption | (dsimp only;omega),by first | assumption | (dsimp only;omega),HQL.out,HQF.out,HSr.out.ext zq,own_ext RW2.out zq,HXr.out.trans zq⟩
             case measure=>have:=HLT.out;simp[intOf];omega
     . have hje:j=m:=Y;subst hje;have hE:=HF2.out;rw[List.drop_eq_nil_of_le (by rw[HM.out];exact Nat.le_refl _)] at hqf;unfold rfold at hqf;rw[<-hqf] at hE;simp only[rsOut,Prod.mk.injEq] at hE;obtain⟨rfl,rfl,rfl,rfl⟩:=hE;clear hqf hlt hj;go_wp2_with fail;exact bodyPost_ret (v:=.tuple #[.slice p3 k c3,.int .i64 qm,.int .i64 0,.int .i64 (-1)]) zbp rfl ⟨_,rfl,HX2.out.trans zbd⟩
end Go.Proofs.YtpnabjopfpdkhaaGreatDoor
