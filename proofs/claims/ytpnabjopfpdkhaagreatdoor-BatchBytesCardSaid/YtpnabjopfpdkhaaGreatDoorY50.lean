/- Lemmas. -/
import Derived.Test.YtpnabjopfpdkhaaGreatDoorY29
import Derived.Test.YtpnabjopfpdkhaaGreatDoorY48
set_option linter.all false
set_option maxHeartbeats 4000000
set_option maxRecDepth 20000
namespace Go.Proofs.YtpnabjopfpdkhaaGreatDoor
open Tryz RowKit
variable {L:Toks} {b cap g lb lo m n n0:Nat} {lv nv:Value} {N acc:List Nd} {w w1:World} {l:List Int} {st:PM Int}
attribute [go_sem] more_more Array.size_append
def stmt_yes {ex br:PM Int} (he:Fwd ex) (hb:Fwd br) {m n:Nat} {v:Int} {m1:Nat} {ns:List Nd} (hbg:qba L m=true) (h:stmtP L ex br m n=.ok (v,m1,ns)):m<m1/\v+1=(n:Int)+ns.length/\0<ns.length:=by
 have hk5:=qda hbg;unfold stmtP sIs at h;rw[if_neg (by rw[hk5];simp)] at h;by_cases q_let:(tk L m).1.s.toList=[108,101,116]
 . rw[if_pos (by rw[q_let];rfl)] at h;exact⟨(qbd _ he).1 _ _ _ _ _ h,(qbd _ he).2 _ _ _ _ _ h⟩
 rw[if_neg (by simpa using q_let)] at h;by_cases q_set:(tk L m).1.s.toList=[115,101,116]
 . rw[if_pos (by rw[q_set];rfl)] at h;exact⟨(qbd _ he).1 _ _ _ _ _ h,(qbd _ he).2 _ _ _ _ _ h⟩
 rw[if_neg (by simpa using q_set)] at h;by_cases q_put:(tk L m).1.s.toList=[112,117,116]
 . rw[if_pos (by rw[q_put];rfl)] at h;exact⟨(qdO he).1 _ _ _ _ _ h,(qdO he).2 _ _ _ _ _ h⟩
 rw[if_neg (by simpa using q_put)] at h;by_cases q_delete:(tk L m).1.s.toList=[100,101,108,101,116,101]
 . rw[if_pos (by rw[q_delete];rfl)] at h;exact⟨(qax _ he).1 _ _ _ _ _ h,(qax _ he).2 _ _ _ _ _ h⟩
 rw[if_neg (by simpa using q_delete)] at h;by_cases q_abort:(tk L m).1.s.toList=[97,98,111,114,116]
 . rw[if_pos (by rw[q_abort];rfl)] at h;exact⟨(qax _ he).1 _ _ _ _ _ h,(qax _ he).2 _ _ _ _ _ h⟩
 rw[if_neg (by simpa using q_abort)] at h;by_cases q_return:(tk L m).1.s.toList=[114,101,116,117,114,110]
 . rw[if_pos (by rw[q_return];rfl)] at h;exact⟨(qax _ he).1 _ _ _ _ _ h,(qax _ he).2 _ _ _ _ _ h⟩
 rw[if_neg (by simpa using q_return)] at h;by_cases q_if:(tk L m).1.s.toList=[105,102]
 . rw[if_pos (by rw[q_if];rfl)] at h;exact⟨(qcV he hb).1 _ _ _ _ _ h,(qcV he hb).2 _ _ _ _ _ h⟩
 rw[if_neg (by simpa using q_if)] at h;by_cases q_for:(tk L m).1.s.toList=[102,111,114]
 . rw[if_pos (by rw[q_for];rfl)] at h;exact⟨(qcY he hb).1 _ _ _ _ _ h,(qcY he hb).2 _ _ _ _ _ h⟩
 rw[if_neg (by simpa using q_for)] at h;by_cases q_repeat:(tk L m).1.s.toList=[114,101,112,101,97,116]
 . rw[if_pos (by rw[q_repeat];rfl)] at h;exact⟨(qce hb).1 _ _ _ _ _ h,(qce hb).2 _ _ _ _ _ h⟩
 rw[if_neg (by simpa using q_repeat)] at h;exfalso;unfold qba at hbg;rw[nine_not rfl q_let q_set q_put q_delete q_abort q_return q_if q_for q_repeat] at hbg;simp at hbg
def Rt.grown {ee wh:Int} {row:Option Nat} (h:Rt b lb lo cap nv L m N ee wh w) (hg:w.grownBy w1 row) (hr:∀ k,row=some k->b<k/\nv.ownBlock≠some k):Rt b lb lo cap nv L m N ee wh w1:=by
 have hb:row≠some b:=fun e=>by have:=(hr b e).1;omega
 have hl:row≠some lb:=fun e=>by have:=(hr lb e).1;have:=h.low;omega
 refine ⟨h.ends,(ownBlock_kept hg h.lt hb).trans h.blk,h.toks.of_block (ownBlock_kept hg (Nat.lt_trans h.low h.lt) hl),h.row.kept hg ?_,h.low,h.pos,h.cnt⟩
 cases hn:nv.ownBlock with
 | none=>exact Or.inl rfl
 | some k=>exact Or.inr fun e=>(hr k e.symm).2 hn
def Kp.grown {nv1:Value} {w2:World} {row:Option Nat} (h:Kp b nv nv1 w w1) (hg:w1.grownBy w2 row) (hr:∀ k,row=some k->w.heap.size<=k):Kp b nv nv1 w w2:=by
 refine ⟨hg.os.trans h.os,hg.tape.trans h.tape,hg.output.trans h.output,Nat.le_trans h.size hg.size,fun j hj hb hn=>?_,h.row⟩;rw[ownBlock_kept hg (Nat.lt_of_lt_of_le hj h.size) (fun e=>by have:=hr j e;omega)];exact h.block j hj hb hn
def intsL (l:List Int):List Value:=l.map fun z=>.int .i64 z
structure Ls (n0:Nat) (nv lv:Value) (l:List Int) (w:World):Prop where
 row:w.ownsRow n0 3 1 lv l.length (intsL l)
 ne:∀ k,lv.ownBlock=some k->nv.ownBlock≠some k
def Ls.kp {nv1:Value} (h:Ls n0 nv lv l w) (hk:Kp b nv nv1 w w1) (hb:b<n0):Ls n0 nv1 lv l w1:=by
 refine ⟨own_block h.row fun k hl hlt=>hk.block k hlt (by have:=(h.row.lt k hl).1;omega) (h.ne k hl),fun k hl=>?_⟩;rcases hk.row with e | e
 . rw[e];exact h.ne k hl
 . intro e2;have:=e k e2;have:=(h.row.lt k hl).2;omega
def Ls.ext (h:Ls n0 nv lv l w) (hx:Ext w w1):Ls n0 nv lv l w1:=⟨own_ext h.row hx,h.ne⟩
def Ls.cell (h:Ls n0 nv lv l w) {g n c:Nat} (hv:lv=.slice (some ⟨g,0,none⟩) n c) (j:Nat) (z:Int) (hj:l[j]?=some z):w.cell? ⟨g,j,none⟩=some (.int .i64 z):=by
 have:=h.row.cells (g:=g) (by rw[hv];rfl) j (.int .i64 z) (by simp[intsL,hj])
 rwa [Addr.add_lit,Nat.zero_add] at this
def blockR_err {e:Int × Int} (h:st m (n+acc.length)=.error e):blockR st (g+1) l acc m n=.error e:=by rw[blockR,h]
def blockR_end (h:st m (n+acc.length)=.ok (-1,m,[])):blockR st (g+1) l acc m n=.ok (l,m,acc):=by rw[blockR,h];simp
def blockR_nxt {i:Int} {m1:Nat} {ns:List Nd} (h:st m (n+acc.length)=.ok (i,m1,ns)) (hi:i≠-1):blockR st (g+1) l acc m n=blockR st g (l++[i]) (acc++ns) m1 n:=by rw[blockR,h];dsimp only;rw[if_neg hi]
def linked (n:Nat):Except (Int × Int) (List Int × Nat × List Nd)->PR Int
 | .error e=>.error e
 | .ok (l,m,acc)=>.ok (qdS l,m,qaZ n l acc)
def Rt.setNext {c:Nat} (h:Rt b lb lo cap (.slice (some ⟨g,0,none⟩) N.length c) L m N 0 0 w) {j:Nat} (hj:j<N.length) (v:Int) :
  Rt b lb lo cap (.slice (some ⟨g,0,none⟩) N.length c) L m (setNext N j v) 0 0 (w.setCell ⟨g,j*8+4,none⟩ (.int .i64 v)):=by
 have hg:=h.row.lt g rfl;refine ⟨h.ends,by rw[heap_set_other _ _ _ _ _ Y];exact h.blk,h.toks.of_block (heap_set_other _ _ _ _ _ jh),?_,h.low,h.pos,by rw[setNext_length];exact h.cnt⟩;rw[setNext_length,qcW _ _ _ hj];exact qeX h.row Y _
def Rt.nextFacts {c:Nat} (h:Rt b lb lo cap (.slice (some ⟨g,0,none⟩) N.length c) L m N 0 0 w) {j:Nat} (hj:j<N.length) :
  (∃ x,w.cell? ⟨g,j*8+4,none⟩=some (.int .i64 x))/\w.frozen? ⟨g,j*8+4,none⟩=false/\g<w.heap.size:=by
 have hg:=h.row.lt g rfl;obtain⟨h1,h2⟩:=h.row;rcases h2 with ⟨h2,_⟩ | ⟨g',cap',cur,h2,hb,hgg,hn,hm,hc,ht⟩
 . simp at h2
 . simp only[Value.slice.injEq,Option.some.injEq,Addr.mk.injEq,true_and,and_true] at h2;obtain⟨rfl,rfl⟩:=h2;refine ⟨?_,by simp[World.frozen?,hgg],hg.2⟩
   have:∃ x,(qac N)[j*8+4]?=some (.int .i64 x):=by
    clear h1 ht h hg hb hgg hn hm hc
    induction N generalizing j with
    | nil=>simp at hj
    | cons z l ih =>
     have e2:qac (z::l)=ndL z++qac l:=rfl
     cases j with
     | zero=>exact⟨z.x,by rw[e2];rfl⟩
     | succ j =>
      obtain⟨x,hx⟩:=ih (j:=j) (by simpa using hj);exact⟨x,by rw[e2,List.getElem?_append_right (by simp[ndL];omega)];rw[<-hx];congr 1;simp[ndL];omega⟩
   obtain⟨x,hx⟩:=this;refine ⟨x,?_⟩;rw[<-ht,List.getElem?_take] at hx
   split at hx
   . simp[World.cell?,hgg];simpa using hx
   . simp at hx
def rnv_some {ee wh:Int} (h:Rt b lb lo cap nv L m N ee wh w) (hl:0<N.length):∃ g c,nv=.slice (some ⟨g,0,none⟩) N.length c:=by
 rcases Go.Joins.ownsRow_forms h.row with ⟨rfl,h0⟩ | ⟨g1,c,rfl⟩
 . omega
 . exact⟨_,_,rfl⟩
def Ls.setRow (h:Ls n0 nv lv l w) (hg:nv.ownBlock=some g) (i:Nat) (v:Value):Ls n0 nv lv l (w.setCell ⟨g,i,none⟩ v) :=
 ⟨own_block h.row fun k hk _=>heap_set_other _ _ _ _ _ (fun e=>h.ne k hk (by rw[hg,e])),h.ne⟩
def link_step (n:Nat) (l:List Int) (acc:List Nd) (j:Nat) (q:Nat) (z:Int) (h1:l[j]?=some (q:Int)) (h2:l[j+1]?=some z) (hall:∀ x∈l,(n:Int)<=x/\x<(n:Int)+acc.length) :
  qaZ n (l.take (j+1+1)) acc=setNext (qaZ n (l.take (j+1)) acc) (q-n) z:=by
 have ht:l.take (j+1)=l.take j++[(q:Int)]:=by rw[List.take_add_one,h1];rfl
 have e1:l.take (j+1+1)=l.take (j+1)++[z]:=by rw[List.take_add_one (i:=j+1),h2];rfl
 have hne:l.take (j+1)≠[]:=by rw[ht];simp
 have:=qcs n z [] (l.take (j+1)) acc hne (fun x hx=>hall x (List.mem_of_mem_take hx));rw[List.append_nil,List.append_nil,<-e1] at this;rw[this]
 have hl:(l.take (j+1)).getLast hne=(q:Int):=by
  have:∀ (x:List Int) (hx:x≠[]),x=l.take j++[(q:Int)]->x.getLast hx=(q:Int):=by
   intro x hx e;subst e;simp
  exact this _ hne ht
 rw[hl];rfl
def rblock_deep:RDp b lb lo cap L 118 (17:Int) (pno L 14):=by
 intro nv m N w h r hr;have FL:=J (qbI h 14 zw);have R:=J hr;clear h hr;go_enter func118,ntmps118
 go_wp2_with (((with_reducible refine FL.out.mono ?_);rintro e w1 ⟨rfl,hs1,hk1⟩;have HS:=J hs1;have HK:=J hk1;clear hs1 hk1))
 obtain⟨c0,c1,c2,c3,c4,f1,f2,f3,f4,hb⟩:=HS.out.facts;clear c0 c1 c2 c4 f1 f2 f3 f4
 go_loopg [5] (0) (fun g x wr=>wr=w1)
 case atStart=>exact rfl
 case round =>
  obtain rfl:=hrel;go_wp2_with fail;go_ret;have:=R.out;subst this;exact RPost.err zw ⟨_,rfl⟩ HS.out HK.out
def rblock_any (h:Rt b lb lo cap nv L m N 0 0 w) (d:Nat) (hd:d<=16) (st:PM Int)
  (hst:∀ nv m N w,Rt b lb lo cap nv L m N 0 0 w->qba L m=true->∀ r,st m N.length=r->Calls prog 146 #[.pointer (some ⟨b,0,none⟩),.int .i64 (d:Int)] w (RPost intV isInt b lb lo cap nv L m N w r))
  (hyes:∀ m n v m1 ns,qba L m=true->st m n=.ok (v,m1,ns)->m<m1/\v+1=(n:Int)+ns.length/\0<ns.length)
  (hno:∀ m n,qba L m=false->st m n=.ok (-1,m,[]))
  (r:PR Int) (hr:linked N.length (blockR st (L.length+1) [] [] m N.length)=r) :
  Calls prog 118 #[.pointer (some ⟨b,0,none⟩),.int .i64 (d:Int)] w (RPost intV isInt b lb lo cap nv L m N w r):=by
 have H:=J h;have HT:=J hst;have HY:=J hyes;have HN:=J hno;have HR:=J hr;have hbn:b<w.heap.size:=h.lt;have HBN:=J hbn;have hd0:0<=(d:Int):=Y;have hd1:(d:Int)<=16:=Y;have LN:=J h.ends.few;obtain⟨i0,hi,hz0,hz1,hz2⟩:=info_parts intInfo;clear h hst hyes hno hr hbn;go_enter func118,ntmps118;go_wp2_with fail
 go_loopg [5] (L.length+1) (fun g x wr=>(∃ (lv:Value) (l:List Int) (acc:List Nd) (m2:Nat) (nv2:Value),lv=x/\Ls w.heap.size nv2 lv l wr/\l.length<=m2/\m<=m2/\L.length+1<=m2+g/\Rt b lb lo cap nv2 L m2 (N++acc) 0 0 wr/\Kp b nv nv2 w wr/\linked N.length (blockR st g l acc m2 N.length)=r/\(∀ y∈l,(N.length:Int)<=y/\y<(N.length:Int)+acc.length)) \/
  (∃ (c a:Int) (nv2:Value) (m2:Nat) (N2:List Nd),c≠0/\Rt b lb lo cap nv2 L m2 N2 c a wr/\Kp b nv nv2 w wr/\r=.error (c,a)))
 case atStart=>exact Or.inl ⟨.slice none 0 0,[],[],m,nv,rfl,⟨World.ownsRow_nil _ _ _ _,fun k hk=>by simp[Value.ownBlock] at hk⟩,Nat.zero_le _,Nat.le_refl _,Y,H.out.cast (List.append_nil _).symm,Kp.refl _ _ _,HR.out,fun y hy=>by simp at hy⟩
 case round =>
  rcases hrel with ⟨lv,l,acc,m2,nv2,rfl,hls,hlm,hm2,hg,hs2,hk2,hres,hall⟩ | ⟨c,a,nv2,m2,N2,hc,hs2,hk2,hres⟩
  rotate_left
  . have HS:=J hs2;have HK:=J hk2;have HC:=J hc;have HE:=J hres;have q:(c==0)=false:=(by simpa using hc)
    have q2:(c !=0)=true:=(by simpa using hc)
    obtain⟨c0,c1,c2,c3,c4,f1,f2,f3,f4,hb⟩:=hs2.facts;clear hs2 hk2 hc hres c0 c1 c2 c4 f1 f2 f3 f4;go_wp2_with fail;go_ret;have:=HE.out;subst this;exact RPost.err HC.out ⟨_,rfl⟩ HS.out HK.out
  obtain⟨g0,rfl⟩:∃ g0,gk=g0+1:=⟨gk-1,by have:=hs2.pos;omega⟩
  have HS:=J hs2;have HK:=J hk2;have HM:=J (And.intro hlm (And.intro hm2 hg));have HL:=J hls;have HA:=J hall;have HP:=J hs2.pos;obtain⟨c0,c1,c2,c3,c4,f1,f2,f3,f4,hb⟩:=hs2.facts;have BG:=J (begins_any hs2);clear hs2 hk2 hlm hm2 hg hls hall c0 c1 c2 c4 f1 f2 f3 f4;cases hbg:qba L m2
  . -- no statement more
    rw[hbg] at BG;rw[blockR_end (HN.out _ _ hbg)] at hres;have HE:=J hres;clear hres hbg;have BGA:True:=trivial
    cases l with
    | nil =>
     have hlv:∃ p c,lv=.slice p 0 c:=by
      rcases Go.Joins.ownsRow_forms HL.out.row with ⟨h1,_⟩ | ⟨g1,c,h1⟩
      . exact⟨_,_,h1⟩
      . exact⟨_,_,h1⟩
     obtain⟨p,cc,rfl⟩:=hlv
     go_wp2_with (((with_reducible refine BG.out.mono ?_);rintro e _ ⟨rfl,d1,os1,rfl⟩))
     go_ret;have:=HE.out
     subst this;exact RPost.res rfl (HS.out.more _ _) (HK.out.more _ _) HM.out.2.1
    | cons l0 lr =>
     have hlv:∃ g1 c,lv=.slice (some ⟨g1,0,none⟩) (l0::lr).length c:=by
      rcases Go.Joins.ownsRow_forms HL.out.row with ⟨_,h1⟩ | ⟨g1,c,h1⟩
      . simp at h1
      . exact⟨_,_,h1⟩
     obtain⟨gl,cl,rfl⟩:=hlv;have hacc:0<acc.length:=(by have:=HA.out l0 zy;omega)
     obtain⟨gg,cc,hnv⟩:=rnv_some HS.out (by rw[List.length_append];omega);subst hnv;obtain⟨q0,hq0⟩:∃ q0,(l0::lr).length=q0:=⟨_,rfl⟩
     have HQ0:=J hq0;have hq1:1<=q0:=(by rw[<-hq0];simp)
     have hqb:q0<=5000:=(by have h1:=HM.out.1;have h2:=HP.out;have h3:=LN.out;omega)
     have qe:(((q0:Nat):Int)==0)=false:=zg;rw[hq0] at HL ⊢;have HL2:=J (show Ls w.heap.size (.slice (some ⟨gg,0,none⟩) (N++acc).length cc) (.slice (some ⟨gl,0,none⟩) q0 cl) (l0::lr) wr from HL.out)
     go_wp2_with (((with_reducible refine BG.out.mono ?_);rintro e _ ⟨rfl,d1,os1,rfl⟩))
     go_loopw [6] (fun ii wr2=>∃ j:Nat,ii=.int .i64 (j:Int)/\j+1<=q0/\Rt b lb lo cap (.slice (some ⟨gg,0,none⟩) (N++acc).length cc) L m2 (N++qaZ N.length ((l0::lr).take (j+1)) acc) 0 0 wr2/\Ls w.heap.size (.slice (some ⟨gg,0,none⟩) (N++acc).length cc) (.slice (some ⟨gl,0,none⟩) q0 cl) (l0::lr) wr2/\Kp b nv (.slice (some ⟨gg,0,none⟩) (N++acc).length cc) w wr2) (fun ii _=>q0-(intOf ii).toNat)
     case atStart=>exact⟨0,rfl,hq1,HS.out.more _ _,HL2.out.ext ((Ext.refl _).more _ _),HK.out.more _ _⟩
     case round =>
      obtain⟨j,rfl,hj,hs2,hl2,hk2⟩:=hrel;have HS2:=J hs2;have HL3:=J hl2;have HK2:=J hk2;have hgl:=(hl2.row.lt gl rfl).2;have k0:=hl2.cell (g:=gl) rfl;clear hs2 hl2 hk2;by_cases hlt:j+1<q0
      . obtain⟨z0,hz0'⟩:∃ z,(l0::lr)[j]?=some z:=⟨_,List.getElem?_eq_getElem (by rw[HQ0.out];omega)⟩
        obtain⟨z1,hz1'⟩:∃ z,(l0::lr)[j+1]?=some z:=⟨_,List.getElem?_eq_getElem (by rw[HQ0.out];omega)⟩
        obtain⟨q,rfl⟩:∃ q:Nat,z0=(q:Int):=⟨z0.toNat,by have:=(HA.out z0 (List.mem_of_getElem? hz0')).1;omega⟩
        have hr:=HA.out (q:Int) (List.mem_of_getElem? hz0');have ka:=k0 j _ hz0';have kb:=k0 (j+1) _ hz1';have hlst:=link_step N.length (l0::lr) acc j q z1 hz0' hz1' HA.out;have HLST:=J hlst;obtain⟨M,hM⟩:∃ M,N++qaZ N.length ((l0::lr).take (j+1)) acc=M:=⟨_,rfl⟩
        have hml:M.length=(N++acc).length:=(by rw[<-hM,List.length_append,List.length_append,qcZ])
        rw[hM] at HS2;have HMM:=J hM;obtain⟨T,hT⟩:∃ T,(N++acc).length=T:=⟨_,rfl⟩
        have hqT:q<T:=(by rw[<-hT,List.length_append];omega)
        rw[hT] at HS2 HL3 HK2 hml ⊢;have HT2:=J hT;have HML:=J hml;have HS4:Hid (Rt b lb lo cap (.slice (some ⟨gg,0,none⟩) M.length cc) L m2 M 0 0 wr):=J (by rw[HML.out];exact HS2.out);obtain⟨c0,c1,c2,c3,c4,f1,f2,f3,f4,hb⟩:=HS2.out.facts;obtain⟨⟨xx,n4⟩,z4,hgg⟩:=HS4.out.nextFacts (j:=q) (by rw[HML.out];exact hqT);have hqi:(q:Int)<(T:Int):=Y;have hji:(j:Int)<(q0:Int):=Y;have hji1:(j:Int)+1<(q0:Int):=Y;have hw1:IntKind.i64.wrap ((j:Int)+1)=(j:Int)+1:=IntWalk.i64_in _ Y;have hw2:(0:Int)<=(j:Int)+1:=Y;have hw3:((j:Int)+1).toNat=j+1:=Y;have HLT:=J hlt;have HRN:Hid (N.length<=q):=J Y;have HQT:=J hqT;clear k0 hlst hM hT hml hz0' hz1' hr c0 c1 c3 c4 f1 f2 f3 f4 hlt;go_wp2_with fail;refine qaa 15 61 (List.replicate 15 false) zv zv rfl ?_;refine zh ?_
        repeat(refine Lex.step rfl ?_;intro K hK;unfold StepG;go_simp;(first
          | refine hK _ ?_);clear hK K)
        refine zd ?_;intro dd oo;go_wp2_with fail;rw[ends_normal];clear hw1 hw2 hw3;go_wp2_with fail;go_roundw
        case rel =>
         refine ⟨j+1,by go_num,by have:=HLT.out;omega,?_,(HL3.out.setRow rfl _ _).ext ((Ext.refl _).more dd oo),(HK2.out.setRow rfl _ _).more dd oo⟩
         have e:N++qaZ N.length ((l0::lr).take (j+1+1)) acc=setNext M q z1:=by
          rw[HLST.out,<-HMM.out,<-qcU]
          congr 1
          have:=HRN.out;omega
         have h4:=(HS4.out.setNext (j:=q) (by rw[HML.out];exact HQT.out) z1).more dd oo;rw[HML.out] at h4;rw[e];exact h4
        case measure=>have:=HLT.out;simp[intOf];omega
      . have hq2:j+1=q0:=Y;subst hq2;have hall:(l0::lr).take (j+1)=l0::lr:=List.take_of_length_le (by rw[HQ0.out];omega);have k1:=k0 0 l0 rfl;rw[hall] at HS2;have hj0:(0:Int)<(j:Int)+1:=Y;clear hlt k0 hall hj;go_wp2_with fail;go_ret;have:=HE.out;subst this;exact RPost.res rfl HS2.out HK2.out HM.out.2.1
  . rw[hbg] at BG;obtain⟨r1,h1⟩:∃ r1,st m2 (N.length+acc.length)=r1:=⟨_,rfl⟩
    have SC:=J (fun w1 (hx:Ext wr w1)=>HT.out nv2 m2 (N++acc) w1 (HS.out.ext hx) hbg r1 (by rw[List.length_append];exact h1));have hlen:(l.length:Int)<=5000:=(by have h1:=HM.out.1;have h2:=HP.out;have h3:=LN.out;omega)
    have hlen2:l.length<=5000:=Y;have SB:=J (fun v m1 ns=>HY.out m2 (N.length+acc.length) v m1 ns hbg);have H1:=J h1;have HE:=J hres;clear hres hbg h1;rcases r1 with ⟨c,a⟩ | ⟨v,m3,ns⟩
    . have HE2:=J ((congrArg (linked N.length) (blockR_err (g:=g0) (l:=l) H1.out)).symm.trans HE.out)
      go_wp2_with (first
       | (((with_reducible refine BG.out.mono ?_);rintro e _ ⟨rfl,d1,os1,rfl⟩))
       | (((with_reducible refine (SC.out _ zf).mono ?_);rintro e w2 ⟨hc,⟨y,rfl,yq,rfl⟩,nvE,mE,NE,hsE,hkE⟩;have HC:=J hc;have HSE:=J hsE;have HKE:=J hkE;have HLE:=J ((HL.out.ext ((Ext.refl _).more d1 os1)).kp hkE HBN.out);clear hc hsE hkE))
       | (at_builtin;refine wpList_append_own_at _ rfl _ _ 160 rfl w.heap.size 3 i0 (.int .i64 0) 1 8 underlying160 hi hz0 hz1 hz2 rfl zw lv l.length (intsL l) rfl ?c0 ⟨_,0,none⟩ 1 1 [.int .i64 yq] rfl rfl ?c1 ?c2 ?c3 ?c4 ?c5 ?_))
      case c0=>exact(HLE.out.row.alloc _)
      case c1=>exact qaq rfl
      case c2=>intro u hu;simp at hu;subst hu;rfl
      case c3=>unfold maxLen;omega
      case c4=>omega
      case c5=>have h1:=HK.out.size;have h2:=HKE.out.size;simp only[more_size] at h2;simp only[World.size_alloc];omega
      intro v' w1 hown' hgrow _ hblk;have HSE2:=J ((HSE.out.alloc (.cells #[.int .i64 yq] 3 (0,0))).grown hgrow (fun k hk=>⟨by have:=(HL.out.row.lt k hk).1;have:=HBN.out;omega,HLE.out.ne k hk⟩));have HKE2:=J (((HK.out.more d1 os1).trans HKE.out).alloc (.cells #[.int .i64 yq] 3 (0,0)) |>.grown hgrow (fun k hk=>(HL.out.row.lt k hk).1));clear hown' hgrow hblk;go_wp2_with fail
      go_roundg g0
      case measure=>omega
      case rel=>exact Or.inr ⟨c,a,nvE,mE,NE,HC.out,HSE2.out,HKE2.out,HE2.out.symm⟩
    . have hv:=SB.out v m3 ns H1.out;have hv1:v≠-1:=Y;have HV:=J hv;have HE2:=J ((congrArg (linked N.length) (blockR_nxt (g:=g0) (l:=l) H1.out hv1)).symm.trans HE.out);clear hv hv1
      go_wp2_with (first
       | (((with_reducible refine BG.out.mono ?_);rintro e _ ⟨rfl,d1,os1,rfl⟩))
       | (((with_reducible refine (SC.out _ zf).mono ?_);rintro e w2 ⟨he,nvE,hsE,hkE,hmE⟩;unfold intV at he;subst he;have HSE:=J hsE;have HKE:=J hkE;have HLE:=J ((HL.out.ext ((Ext.refl _).more d1 os1)).kp hkE HBN.out);clear hsE hkE hmE))
       | (at_builtin;refine wpList_append_own_at _ rfl _ _ 160 rfl w.heap.size 3 i0 (.int .i64 0) 1 8 underlying160 hi hz0 hz1 hz2 rfl zw lv l.length (intsL l) rfl ?c0 ⟨_,0,none⟩ 1 1 [.int .i64 v] rfl rfl ?c1 ?c2 ?c3 ?c4 ?c5 ?_))
      case c0=>exact(HLE.out.row.alloc _)
      case c1=>exact qaq rfl
      case c2=>intro u hu;simp at hu;subst hu;rfl
      case c3=>unfold maxLen;omega
      case c4=>omega
      case c5=>have h1:=HK.out.size;have h2:=HKE.out.size;simp only[more_size] at h2;simp only[World.size_alloc];omega
      intro v' w1 hown' hgrow _ hblk;have HSE2:=J ((HSE.out.alloc (.cells #[.int .i64 v] 3 (0,0))).grown hgrow (fun k hk=>⟨by have:=(HL.out.row.lt k hk).1;have:=HBN.out;omega,HLE.out.ne k hk⟩));have HKE2:=J (((HK.out.more d1 os1).trans HKE.out).alloc (.cells #[.int .i64 v] 3 (0,0)) |>.grown hgrow (fun k hk=>(HL.out.row.lt k hk).1))
      have HLN:Hid (Ls w.heap.size nvE v' (l++[v]) w1):=J (by
       refine ⟨?_,fun k hk e=>?_⟩
       . have e1:intsL (l++[v])=intsL l++[.int .i64 v]:=(by simp[intsL])
         rw[e1,List.length_append];exact hown'
       . rcases hblk with e2 | e2
         . exact HLE.out.ne k (e2 ▸ hk) e
         . rw[e2] at hk;have h2:=Option.some.inj hk;have h3:=(HSE.out.row.lt k e).2;have h4:w2.heap.size<=k:=by rw[<-h2];simp
           omega)
      clear hown' hgrow hblk;go_wp2_with fail
      go_roundg g0
      case measure=>omega
      case rel =>
       have h1:=HM.out;have h2:=HV.out;refine Or.inl ⟨v',l++[v],acc++ns,m3,nvE,rfl,HLN.out,by rw[List.length_append,List.length_singleton];omega,Y,Y,(HSE2.out.cast (List.append_assoc _ _ _)),HKE2.out,HE2.out,fun y hy=>?_⟩;rw[List.length_append];rcases List.mem_append.1 hy with hy | hy
       . have:=HA.out y hy;omega
       . simp at hy;subst hy;omega
def qfr (b lb lo cap:Nat) (L:Toks):∀ D d:Nat,d+D=17->RDp b lb lo cap L 118 (d:Int) (blockD L D)
 | 0,d,hd=>by
  have e:d=17:=Y
  subst e;exact rblock_deep
 | D+1,d,hd=>by
  have hb:=qfr b lb lo cap L D (d+1) Y;have he:=(qfX b lb lo cap L (D+1) d Y).1;have ec:((d+1:Nat):Int)=(d:Int)+1:=Y;have fe:=(Fwd.exprD L (D+1)).1;have fb:=Fwd.braced L (Fwd.blockD L D);intro nv m N w hs r hr
  refine rblock_any hs d Y (stmtP L (exprP L (D+1)) (qaC L (blockD L D))) (fun nv m N w hs hbg r hr=>rstmt_any hs hbg d Y _ _ he (hb.cast ec) r hr)
   (fun m n v m1 ns hbg h=>stmt_yes fe fb hbg h) (fun m n hbg=>stmt_none hbg) r ?_
  have:=qfY (stmtP L (exprP L (D+1)) (qaC L (blockD L D))) (fun m n v m1 ns h=>stmt_ok fe fb h) (L.length+1) [] [] m N.length (fun x hx=>by simp at hx);refine Eq.trans ?_ (this.symm.trans hr);generalize blockR (stmtP L (exprP L (D+1)) (qaC L (blockD L D))) (L.length+1) [] [] m N.length=X;cases X<;>rfl
def zeros (L:Toks):Nat->Nat
 | 0=>0
 | j+1=>zeros L j+(if (tk L j).1.k=0 then 1 else 0)
def zeros_le (L:Toks):∀ j,zeros L j<=j
 | 0=>Nat.le_refl _
 | j+1=>by have:=zeros_le L j;rw[zeros];split<;>omega
def qdQ (L:Toks):∀ n,zeros L n=0↔∀ j,j<n->(tk L j).1.k≠0
 | 0=>by simp[zeros]
 | n+1=>by
  have ih:=qdQ L n;rw[zeros]
  constructor
  . intro h j hj;have h1:zeros L n=0:=Y;rcases Nat.lt_or_ge j n with h2 | h2
    . exact ih.1 h1 j h2
    . have:j=n:=by omega
      subst this;intro e;rw[if_pos e] at h;omega
  . intro h;rw[ih.2 (fun j hj=>h j Y),if_neg (h n Y)]
def zeros_ends (hn:L.length=n+1) (h1:zeros L (n+1)=1) (h2:(tk L n).1.k=0):∀ j,j<L.length->okAt L j=true:=by
 rw[zeros,if_pos h2] at h1;have h0:=(qdQ L n).1 Y;intro j hj;unfold okAt;rw[hn];by_cases h:j=n
 . subst h;simp[h2]
 . have:=h0 j Y;have e1:((tk L j).1.k==0)=false:=by simpa using this
   have e2:decide (j+1=n+1)=false:=zg;rw[e1,e2];rfl
def zeros_not (hn:L.length=n+1) (h:zeros L (n+1)≠1\/(tk L n).1.k≠0):qcn L=.error (1,0):=by
 have he:¬ qeg L=true:=by
  intro he;unfold qeg at he;rw[Bool.and_eq_true,List.all_eq_true] at he
  have h1:∀ j,j<n+1->((tk L j).1.k==0)=decide (j+1=n+1):=fun j hj=>by
   have:=he.2 j zg;rw[hn] at this
   simpa using this
  have hl:(tk L n).1.k=0:=by have:=h1 n Y;simpa using this
  rcases h with h | h
  . apply h;rw[zeros,if_pos hl,(qdQ L n).2 (fun j hj e=>?_)];have:=h1 j Y;rw[e] at this;simp at this;omega
  . exact h hl
 unfold qcn;rw[if_neg he]
def rtokens_any (L:Toks) (lb lo cap:Nat) (h0:0<L.length) (hf:L.length<=5000) (w:World) (ht:ToksAt lb lo L w) (r:Except (Int × Int) (List Nd × Int)) (hr:qcn L=r) :
  Calls prog 105 #[.slice (some ⟨lb,lo,none⟩) L.length cap] w (qdi w r):=by
 have hlb:=ht.lt h0;have HT:=J ht;have HR:=J hr;obtain⟨n,hn⟩:∃ n,L.length=n+1:=⟨L.length-1,Y⟩
 have hl0:0<(L.length:Int):=Y;have hl1:(L.length:Int)<=5000:=Y;have HN:=J hn;clear ht hr hn;go_enter func105,ntmps105;go_wp2_with fail;go_loopw [5,6] (fun x y wr=>∃ j:Nat,y=.int .i64 (j:Int)/\j<=L.length/\x=.int .i64 (zeros L j:Int)/\wr=w.alloc (.cells #[.slice none 0 0,.int .i64 0] 132 (0,0))) (fun _ y _=>L.length-(intOf y).toNat)
 case atStart=>exact⟨0,rfl,Nat.zero_le _,rfl,rfl⟩
 case round =>
  obtain⟨j,rfl,hj,rfl,rfl⟩:=hrel;have hz:=zeros_le L j;obtain⟨zj,hzj⟩:∃ zj,zeros L j=zj:=⟨_,rfl⟩
  by_cases hlt:j<L.length
  . obtain⟨t0,t1,t2,t3⟩:=HT.out.of_block (w':=w.alloc (.cells #[.slice none 0 0,.int .i64 0] 132 (0,0))) (((Ext.refl _).alloc _).below.block lb hlb) j hlt;have hlt2:(j:Int)<(L.length:Int):=Y;have hj0:0<=(j:Int):=Y;have hzs:zeros L (j+1)=zj+(if (tk L j).1.k=0 then 1 else 0):=(by rw[zeros,hzj])
    have HZ:=J hzs;have HLT:=J hlt;rw[hzj] at hz ⊢;have hzi:(zj:Int)<=(j:Int):=Y;have hlb2:lb<w.heap.size:=hlb;obtain⟨⟨⟨k,ts,i⟩,a⟩,htt⟩:∃ tt,tk L j=tt:=⟨_,rfl⟩
    rw[htt] at t0 HZ;dsimp only at t0 HZ;clear hzj hzs htt t1 t2 t3;cases q1:(k==0)
    . have hk:¬ k=0:=by simpa using q1
      go_wp2_with fail;go_roundw
      case rel=>exact⟨j+1,by go_num,by have:=HLT.out;omega,by rw[HZ.out,if_neg hk];rfl,by first | rfl | trivial⟩
      case measure=>have:=HLT.out;simp[intOf];omega
    . have hk:k=0:=by simpa using q1
      go_wp2_with fail;go_roundw
      case rel=>exact⟨j+1,by go_num,by have:=HLT.out;omega,by rw[HZ.out,if_pos hk];go_num,by first | rfl | trivial⟩
      case measure=>have:=HLT.out;simp[intOf];omega
  . have hje:j=n+1:=jj;subst hje;have hnl:((n:Int)+1)=(L.length:Int):=jj;have hz9:((L.length:Int)==0)=false:=beq_eq_false_iff_ne.2 Y;by_cases hone:zj=1;rotate_left
    . have RR:=J (HR.out.symm.trans (zeros_not HN.out (Or.inl (by rw[hzj];exact hone))));rw[hzj];have q1:((zj:Int) !=1)=true:=zg;clear hzj hz hone hj;have hnlt:¬ ((((n+1:Nat)):Int)<(L.length:Int)):=Y;go_wp2_with fail;have:=RR.out;subst this;exact bodyPost_ret (v:=.tuple #[.agg #[.slice none 0 0,.int .i64 0],.int .i64 1,.int .i64 0]) (by simp[results,results105,go_sem]) rfl ⟨rfl,zf⟩
    obtain⟨t0,t1,t2,t3⟩:=HT.out.of_block (w':=w.alloc (.cells #[.slice none 0 0,.int .i64 0] 132 (0,0))) (((Ext.refl _).alloc _).below.block lb hlb) n jj;clear t1 t2 t3;rw[hzj,hone];have hq:((L.length:Int)-1).toNat=n:=Y;have hq1:((L.length:Int)-1)<(L.length:Int):=Y;have hq2:0<=((L.length:Int)-1):=Y;have hnlt:¬ ((((n+1:Nat)):Int)<(L.length:Int)):=Y;by_cases hk0:(tk L n).1.k=0;rotate_left
    . have RR:=J (HR.out.symm.trans (zeros_not HN.out (Or.inr hk0)));have q1:((tk L n).1.k !=0)=true:=(by simpa using hk0)
      clear hzj hz hone hj hk0 hlt;go_wp2_with fail;have:=RR.out;subst this;exact bodyPost_ret (v:=.tuple #[.agg #[.slice none 0 0,.int .i64 0],.int .i64 1,.int .i64 0]) (by simp[results,results105,go_sem]) rfl ⟨rfl,zf⟩
    obtain⟨hE,hP⟩:=ends_yes h0 hf (zeros_ends HN.out (by rw[hzj];exact hone) hk0);have HE:=J hE;have RR:=J (hP.symm.trans HR.out);rw[hk0] at t0;clear hzj hz hone hj hk0 hE hP hlt;go_wp2_with fail
    go_at_call 118
    obtain⟨P0,hP0⟩:∃ P0:Obj,P0=(.cells #[.slice none 0 0,.int .i64 0] 132 (0,0)):=⟨_,rfl⟩
    have X2:Ext w ((w.alloc (.cells #[.slice none 0 0,.int .i64 0] 132 (0,0))).alloc (.cells #[.slice (some ⟨lb,lo,none⟩) L.length cap,.int .i64 0,.slice none 0 0,.int .i64 0,.int .i64 0] 210 (0,0))):=((Ext.refl _).alloc _).alloc _
    have LP:Loc (w.heap.size+1) (.slice none 0 0) w.heap.size (.cells #[.slice none 0 0,.int .i64 0] 132 (0,0)) ((w.alloc (.cells #[.slice none 0 0,.int .i64 0] 132 (0,0))).alloc (.cells #[.slice (some ⟨lb,lo,none⟩) L.length cap,.int .i64 0,.slice none 0 0,.int .i64 0,.int .i64 0] 210 (0,0))) :=
     ⟨(((Ext.refl _).alloc _).below.block _ zy).trans (heap_alloc_new _ _),Y,by simp[Value.ownBlock]⟩
    have S0:Rt (w.heap.size+1) lb lo cap (.slice none 0 0) L 0 [] 0 0 ((w.alloc (.cells #[.slice none 0 0,.int .i64 0] 132 (0,0))).alloc (.cells #[.slice (some ⟨lb,lo,none⟩) L.length cap,.int .i64 0,.slice none 0 0,.int .i64 0,.int .i64 0] 210 (0,0))) :=
     ⟨HE.out,by have:=heap_alloc_new (w.alloc (.cells #[.slice none 0 0,.int .i64 0] 132 (0,0))) (.cells #[.slice (some ⟨lb,lo,none⟩) L.length cap,.int .i64 0,.slice none 0 0,.int .i64 0,.int .i64 0] 210 (0,0));rwa [World.size_alloc] at this,HT.out.of_block (X2.below.block lb hlb),World.ownsRow_nil _ _ _ _,Y,h0,zy⟩
    obtain⟨W1,hW1⟩:∃ W1,((w.alloc (.cells #[.slice none 0 0,.int .i64 0] 132 (0,0))).alloc (.cells #[.slice (some ⟨lb,lo,none⟩) L.length cap,.int .i64 0,.slice none 0 0,.int .i64 0,.int .i64 0] 210 (0,0)))=W1:=⟨_,rfl⟩
    rw[hW1] at LP S0 X2;rw[hW1];clear hW1 t0 hP0;have LP:=J LP;have X2:=J X2;obtain⟨r1,h1⟩:∃ r1,blockD L 16 0 0=r1:=⟨_,rfl⟩
    refine ((qfr (w.heap.size+1) lb lo cap L 16 1 rfl).cast (z':=1) rfl _ _ _ _ S0 r1 h1).mono ?_;clear S0;rcases r1 with ⟨c1,a1⟩ | ⟨fv,m1,ns1⟩
    . have R2:Hid (.error (c1,a1)=r):=J (by rw[<-RR.out];unfold progP;rw[qap h1]);clear h1 RR;rintro e w1 ⟨hc,⟨v,rfl,yq,rfl⟩,nv1,mE,NE,hs,hk⟩;have XK:=J (qfF X2.out hk Y rfl);have q1:(c1==0)=false:=(by simpa using hc)
      have q2:(c1 !=0)=true:=(by simpa using hc)
      have HS:=J hs;have LP1:=LP.out.kp hk;obtain⟨p0,p1,y0,y1,lp⟩:=LP1.two;obtain⟨c0,c1',c2,c3,c4,f1,f2,f3,f4,hb⟩:=hs.facts;clear LP1 hk hs hc c0 c1' c2 f1 f2 f3 f4;go_wp2_with fail;refine qaa 19 87 (List.replicate 19 false) zv zv rfl ?_;refine zh ?_
      repeat(refine Lex.step rfl ?_;intro K hK;unfold StepG;go_simp;(first
        | refine hK _ ?_);clear hK K)
      refine zd ?_;intro dd oo;go_wp2_with fail;rw[ends_normal];go_wp2_with fail
      go_region
      go_wp2_with fail;have:=R2.out;subst this;refine bodyPost_ret (v:=.tuple #[.agg #[.slice none 0 0,.int .i64 0],.int .i64 c1,.int .i64 a1]) zbz rfl ⟨rfl,?_⟩
      repeat(first | (with_reducible exact XK.out) | (with_reducible apply Ext.more) | (with_reducible refine Ext.setCell ?_ je _) | (with_reducible apply Ext.drew))
    . rintro e w1 ⟨he,nv1,hs,hk,_⟩;unfold intV at he;subst he;have hs:=hs.cast (List.nil_append _);have XK:=J (qfF X2.out hk Y rfl);have LP1:=LP.out.kp hk;obtain⟨p0,p1,y0,y1,lp⟩:=LP1.two;obtain⟨c0,c1',c2,c3,c4,f1,f2,f3,f4,hb⟩:=hs.facts;obtain⟨t0,t1,t2,t3,hlb3⟩:=hs.tokFacts;have hmi:(m1:Int)<(L.length:Int):=(by have:=hs.pos;omega)
      have hm0:0<=(m1:Int):=Y;have HS:=J hs;have HK:=J hk;clear LP1 hk hs t1 t2 t3;by_cases hk0:(tk L m1).1.k=0
      . have R2:Hid (.ok (ns1,fv)=r):=J (by
          rw[<-RR.out];unfold progP;rw[qai h1,qai (v:=(tk L m1).1) (m1:=m1+1) (ns:=[]) (by unfold ofP;rw[if_pos hk0])]
          simp[pok,prep])
        rw[hk0] at t0;obtain⟨len,cc,pp,rfl,hlen⟩:=qgP HS.out;clear h1 RR hk0 f1 f2 f3 f4 hlen;go_wp2_with fail;refine qaa 19 87 (List.replicate 19 false) zv zv rfl ?_;refine zh ?_
        repeat(refine Lex.step rfl ?_;intro K hK;unfold StepG;go_simp;(first
          | refine hK _ ?_);clear hK K)
        refine zd ?_;intro dd oo;go_wp2_with fail;rw[ends_normal];go_wp2_with fail;have:=R2.out;subst this;refine bodyPost_ret (v:=.tuple #[.agg #[.slice pp len cc,.int .i64 fv],.int .i64 0,.int .i64 0]) zbz rfl ⟨.slice pp len cc,rfl,?_,?_⟩
        . refine World.ownsRow.mono (base:=w.heap.size+1+1) ?_ Y
          repeat(first | (with_reducible exact HS.out.row) | (with_reducible apply own_more) | (with_reducible refine ownsRow_setCell_below ?_ je _))
        . repeat(first | (with_reducible exact XK.out) | (with_reducible apply Ext.more) | (with_reducible refine Ext.setCell ?_ je _) | (with_reducible apply Ext.drew))
      . have R2:Hid (.error (3,(tk L m1).2)=r):=J (by rw[<-RR.out];unfold progP;rw[qai h1,qap (e:=(3,(tk L m1).2)) (by unfold ofP;rw[if_neg hk0])];rfl);have q1:((tk L m1).1.k !=0)=true:=(by simpa using hk0)
        have FL:=J (fun w2 (hx:Ext w1 w2)=>qbI (HS.out.ext hx) 3 zw);clear h1 RR hk0 f1 f2 f3 f4 c4;go_wp2_with fail;refine qaa 19 87 (List.replicate 19 false) zv zv rfl ?_;refine zh ?_
        repeat(refine Lex.step rfl ?_;intro K hK;unfold StepG;go_simp;(first
          | refine hK _ ?_);clear hK K)
        refine zd ?_;intro dd oo;go_wp2_with fail;rw[ends_normal]
        go_wp2_with (((with_reducible refine (FL.out _ zf).mono ?_);rintro e wF ⟨rfl,hsf,hkf⟩;have HSF:=J hsf;have HKF:=J (HK.out.trans (((Kp.refl _ _ _).ext zf).trans hkf));obtain⟨k0,k1,k2,k3,k4,j1,j2,j3,j4,kb1⟩:=hsf.facts;clear hsf hkf k0 k1 k2 j1 j2 j3 j4;clear p0 p1 y0 y1 lp;obtain⟨p0,p1,y0,y1,lp⟩:=(LP.out.kp HKF.out).two))
        have XF:=J (qfF X2.out HKF.out Y rfl)
        go_region
        go_wp2_with fail;have:=R2.out;subst this;refine bodyPost_ret (v:=.tuple #[.agg #[.slice none 0 0,.int .i64 0],.int .i64 3,.int .i64 (tk L m1).2]) zbz rfl ⟨rfl,?_⟩
        repeat(first | (with_reducible exact XF.out) | (with_reducible apply Ext.more) | (with_reducible refine Ext.setCell ?_ je _) | (with_reducible apply Ext.drew))
end Go.Proofs.YtpnabjopfpdkhaaGreatDoor
