/- Lemmas. -/
import Derived.Test.YtpnabjopfpdkhaaGreatDoorY38
import Derived.Laws.OwnMore
import Derived.Lib.SliceRun
set_option linter.all false
set_option maxHeartbeats 4000000
set_option maxRecDepth 20000
namespace Go.Proofs.YtpnabjopfpdkhaaGreatDoor
open Go.Proofs.Tryz RowKit
variable {j:Nat}
attribute [go_sem] more_more Array.size_append
def txC_set:∀ (R:List Tx) (i:Nat) (x:Tx),i<R.length->((((((txC R).set (i*6) (.int .i64 x.c)).set (i*6+1) (.int .i64 x.t)).set (i*6+2) x.rv).set (i*6+3) x.wv).set (i*6+4) (.string x.src)).set (i*6+5) (.int .i64 x.gas)=txC (R.set i x)
 | [],i,x,h=>by simp at h
 | y::R,0,x,h=>rfl
 | y::R,i+1,x,h=>by
  have:=txC_set R i x jx;show _=txL y++txC (R.set i x)
  rw[<-this]
  have e:∀ (l:List Value) (q:Nat) (u:Value),(txL y++l).set (q+6) u=txL y++l.set q u:=by
   intro l q u;rw[List.set_append_right _ _ (by simp[txL])];simp[txL]
  show((((((txL y++txC R).set ((i+1)*6) _).set ((i+1)*6+1) _).set ((i+1)*6+2) _).set ((i+1)*6+3) _).set ((i+1)*6+4) _).set ((i+1)*6+5) _=_
  rw[show(i+1)*6=i*6+6 from by omega,show i*6+6+1=i*6+1+6 from by omega,show i*6+6+2=i*6+2+6 from by omega,show i*6+6+3=i*6+3+6 from by omega,show i*6+6+4=i*6+4+6 from by omega,show i*6+6+5=i*6+5+6 from by omega,e,e,e,e,e,e]
def qgH {P:Program} (w:World) (t e ty:TypeId) (z:Value) (ht:P.underlying t=some (.slice e)) (hv:∀ w,(zeroValue e).run P w=.ok z w) (b o n c:Nat) (hn:0<n) (h1:∀ v∈(Builtin.zeroCells z.cells n).toList,v.oneCell'=true)
  (hc:∀ j,j<(Builtin.zeroCells z.cells n).toList.length->(w.cell? ⟨b,o+j,none⟩).isSome=true) (hf:∀ j,j<(Builtin.zeroCells z.cells n).toList.length->w.frozen? ⟨b,o+j,none⟩=false) :
  (Builtin.clear_ #[t] ty #[.slice (some ⟨b,o,none⟩) n c]).run P w=.ok (.tuple #[]) (w.setCells b o (Builtin.zeroCells z.cells n).toList):=by
 have hst:=run_storeCells_cells (P:=P) b o (Builtin.zeroCells z.cells n).toList 0 w (by simpa using hc) (by simpa using hf) h1;simp only[Nat.add_zero] at hst;obtain⟨m,rfl⟩:∃ m,n=m+1:=⟨n-1,Y⟩
 simp[Builtin.clear_,run_underlying ht,hv] at hst ⊢;rw[hst];rfl
def qfl (a b:List Tx):txC (a++b)=txC a++txC b:=List.flatMap_append
def txC_len (l:List Tx):(txC l).length=l.length*6:=qgV qca l
def putC_keep:∀ (vs:List Value) (o:Nat) (C:Array Value),(putC C o vs).size=C.size/\∀ j,j<o->(putC C o vs)[j]?=C[j]?
 | [],_,_=>⟨rfl,fun _ _=>rfl⟩
 | u::vs,o,C=>by
  obtain⟨h1,h2⟩:=putC_keep vs (o+1) (C.setIfInBounds o u);refine ⟨by unfold putC;rw[h1];simp,fun j hj=>?_⟩;unfold putC;rw[h2 j Y,Array.getElem?_setIfInBounds_ne Y]
def own_cleared {w:World} {B g n cap i:Nat} {R:List Tx} (h:w.ownsRow B 27 6 (.slice (some ⟨g,0,none⟩) n cap) n (txC R)) (hi:i<=n) (hR:R.length=n) (vs:List Value) :
  (w.setCells g (i*6) vs).ownsRow B 27 6 (.slice (some ⟨g,0,none⟩) i cap) i (txC (R.take i))/\w.grownBy (w.setCells g (i*6) vs) (some g):=by
 rcases h.2 with ⟨h',_⟩ | ⟨g',cap',cur,h',hb,hg,hnc,hcm,hcs,htake⟩
 . simp at h'
 . simp only[Value.slice.injEq,Option.some.injEq,Addr.mk.injEq,and_true,true_and] at h';obtain⟨rfl,rfl⟩:=h';rw[qcz g _ _ vs (i*6) w cur hg];obtain⟨q1,q2⟩:=putC_keep vs (i*6) cur
   have e:txC (R.take i)=(txC R).take (i*6):=by
    have h1:txC R=txC (R.take i)++txC (R.drop i):=(by rw[<-qfl,List.take_append_drop])
    rw[h1,List.take_left' (by rw[txC_len,List.length_take];omega)]
   refine ⟨⟨by rw[e,List.length_take,txC_len];omega,.inr ⟨g,cap,_,rfl,hb,setRow_heap w g _ _ _ _ hg,Y,hcm,by rw[q1,hcs],?_⟩⟩,⟨rfl,rfl,rfl,zy,fun k hk hne=>setRow_other w g k _ (fun q=>hne (by rw[q]))⟩⟩;rw[e,<-htake,List.take_take,Nat.min_eq_left Y];apply List.ext_getElem?;intro j;rw[List.getElem?_take,List.getElem?_take];split
   . rw[Array.getElem?_toList,Array.getElem?_toList,q2 j zo]
   . rfl
def zeroCells_tx (n:Nat):(Builtin.zeroCells (Value.agg #[.int .i64 0,.int .i64 0,.slice none 0 0,.slice none 0 0,.string ⟨#[]⟩,.int .i64 0]).cells n).toList.length=n*6/\∀ v∈(Builtin.zeroCells (Value.agg #[.int .i64 0,.int .i64 0,.slice none 0 0,.slice none 0 0,.string ⟨#[]⟩,.int .i64 0]).cells n).toList,v.oneCell'=true:=by
 constructor
 . simp[Builtin.zeroCells,Value.cells]
 . intro v hv;simp[Builtin.zeroCells,Value.cells] at hv;obtain⟨a,_,rfl⟩:=hv;have h:a % 6<6:=Nat.mod_lt _ zw
   revert h
   generalize a % 6=r;intro h;rcases(show r=0\/r=1\/r=2\/r=3\/r=4\/r=5 by omega) with rfl | rfl | rfl | rfl | rfl | rfl<;>rfl
def grown_of_ext {w w':World} (h:Ext w w') (row:Option Nat):w.grownBy w' row:=⟨h.below.os,h.below.tape,h.below.output,h.size,fun k hk _=>h.below.block k hk⟩
def qaj {a b c:World} {row:Option Nat} (h:a.grownBy b row) (k:b.grownBy c row):a.grownBy c row :=
 ⟨k.os.trans h.os,k.tape.trans h.tape,k.output.trans h.output,Nat.le_trans h.size k.size,fun q hq hne=>(k.block q (Nat.lt_of_lt_of_le hq h.size) hne).trans (h.block q hq hne)⟩
def keptL (p:Tx->Bool) (l:List Tx) (j:Nat):List Tx:=(l.take j).filter fun x=>!p x
def kept_le (p:Tx->Bool) (l:List Tx) (j:Nat):(keptL p l j).length<=j:=by
 unfold keptL;exact Nat.le_trans (List.length_filter_le _ _) zg
def kept_step {p:Tx->Bool} {l:List Tx} {x:Tx} (hx:l[j]?=some x):keptL p l (j+1)=if p x=true then keptL p l j else keptL p l j++[x]:=by
 unfold keptL;rw[List.take_add_one,hx,List.filter_append];cases h:p x<;>simp[h]
def rowL (p:Tx->Bool) (l:List Tx) (j:Nat):List Tx:=keptL p l j++l.drop (keptL p l j).length
def rowL_len (p:Tx->Bool) (l:List Tx) (j:Nat) (hj:j<=l.length):(rowL p l j).length=l.length:=by
 have:=kept_le p l j;unfold rowL;simp;omega
def rowL_get {p:Tx->Bool} {l:List Tx} {q:Nat} (hq:(keptL p l j).length<=q):(rowL p l j)[q]?=l[q]?:=by
 unfold rowL;rw[List.getElem?_append_right hq,List.getElem?_drop]
 congr 1
 omega
def rowL_skip {p:Tx->Bool} {l:List Tx} {x:Tx} (hx:l[j]?=some x) (h:p x=true):rowL p l (j+1)=rowL p l j:=by
 unfold rowL;rw[kept_step hx,if_pos h]
def rowL_keep {p:Tx->Bool} {l:List Tx} {x:Tx} (hx:l[j]?=some x) (h:p x=false):rowL p l (j+1)=(rowL p l j).set (keptL p l j).length x:=by
 have h1:=kept_le p l j;have h2:=(List.getElem?_eq_some_iff.1 hx).1;unfold rowL;rw[kept_step hx,if_neg (by rw[h];simp),List.set_append_right _ _ (Nat.le_refl _),Nat.sub_self,List.drop_eq_getElem_cons (show(keptL p l j).length<l.length by omega),List.set_cons_zero];simp
def kept_first {p:Tx->Bool} {l:List Tx} {i:Nat} (h:l.findIdx? p=some i):i<l.length/\(keptL p l (i+1)).length=i/\rowL p l (i+1)=l:=by
 rw[List.findIdx?_eq_some_iff_getElem] at h;obtain⟨hi,h1,h2⟩:=h
 have e:keptL p l i=l.take i:=by
  unfold keptL;rw[List.filter_eq_self];intro x hx;obtain⟨j,hj⟩:=List.getElem?_of_mem hx;rw[List.getElem?_take] at hj
  split at hj
  . rename_i hji;have:=h2 j hji;obtain⟨_,hq⟩:=List.getElem?_eq_some_iff.1 hj;rw[hq] at this
    simpa using this
  . cases hj
 have e2:keptL p l (i+1)=l.take i:=by rw[kept_step (List.getElem?_eq_getElem hi),if_pos h1,e]
 have e3:(l.take i).length=i:=zg;refine ⟨hi,by rw[e2,e3],?_⟩;unfold rowL;rw[e2,e3,List.take_append_drop]
def del_any (gn:Nat) (cb:Array Value) (eg:∀ args w,(callFunc gn args).run prog w=.ok (.enter gn args) w) (p:Tx->Bool) (B:Nat) (v:Value) (l:List Tx) (w:World) (h:TxRow B w v l) (hl:l.length<=100000)
  (hp:∀ x∈l,∀ W,w.grownBy W v.ownBlock->Calls prog gn (#[txV x]++cb) W fun e w'=>e=.returned (.bool (p x))/\Ext W w') :
  Calls prog 39 #[v,.func (.func gn) #[] cb] w fun e w'=>∃ v',e=.returned v'/\TxRow B w' v' (l.filter fun x=>!p x)/\w.grownBy w' v.ownBlock:=by
 have IX:=J (qfc gn cb eg p v l w h.inn hl (fun x hm W hx=>hp x hm W (grown_of_ext hx _)));have HP:=J hp;have HB:=J h.1;have HR:=J h;have HBB:=J h.2.1
 cases hf:l.findIdx? p with
 | none =>
  have e1:idxI p l=-1:=by unfold idxI;rw[hf]
  have e2:(l.filter fun x=>!p x)=l:=by
   rw[List.filter_eq_self];intro x hx;rw[List.findIdx?_eq_none_iff] at hf;rw[hf x hx];rfl
  rw[e1] at IX;rw[e2];clear h hl hp hf e1 e2 HP HB;go_enter func39,ntmps39
  go_wp2_with ((with_reducible refine IX.out.mono ?_);rintro e' w1 ⟨rfl,hx⟩;have HX:=J hx;clear hx)
  go_ret
  exact⟨_,rfl,HR.out.ext HX.out,grown_of_ext HX.out _⟩
 | some i =>
  have e1:idxI p l=(i:Int):=by unfold idxI;rw[hf]
  obtain⟨hi,k1,k2⟩:=kept_first hf;rw[e1] at IX
  obtain⟨g,cap,hv⟩:∃ g cap,v=.slice (some ⟨g,0,none⟩) l.length cap:=by
   rcases Go.Joins.ownsRow_forms h.2.2 with ⟨_,h0⟩ | ⟨g1,c1,h0⟩
   . omega
   . exact⟨g1,c1,h0⟩
  subst hv;have HT:=J (fun x (hm:x∈l)=>qbO (h.inn.1 x hm));have hgB:=(h.2.2.lt g rfl).1;have HGB:=J hgB;obtain⟨n,hn⟩:∃ n,l.length=n:=⟨_,rfl⟩
  rw[hn] at hl hi IX HP HR ⊢;have HN:=J hn;have HF:=J (show i<n/\(keptL p l (i+1)).length=i/\rowL p l (i+1)=l from⟨hi,k1,k2⟩);have hin:(i:Int)<(n:Int):=Y;have hi0:(0:Int)<=(i:Int):=Y;have hln:(n:Int)<=100000:=Y;clear h hp hf e1 k1 k2 hn hgB;go_enter func39,ntmps39
  go_wp2_with ((with_reducible refine IX.out.mono ?_);rintro e' w1 ⟨rfl,hx⟩;have HX:=J hx;clear hx)
  have HW1:=J (show w.grownBy w1 (some g)/\w1.ownsRow B 27 6 (.slice (some ⟨g,0,none⟩) n cap) n (txC l) from⟨grown_of_ext HX.out _,by have:=own_ext HR.out.2.2 HX.out;rw[HN.out] at this;exact this⟩)
  go_loopg [5,6] n (fun gk s5 s6 wr=>∃ j:Nat,s6=.int .i64 j/\s5=.int .i64 (keptL p l j).length/\i<j/\j<=n/\n-j<=gk/\(keptL p l j).length<j/\w.grownBy wr (some g)/\wr.ownsRow B 27 6 (.slice (some ⟨g,0,none⟩) n cap) n (txC (rowL p l j)))
  case atStart=>exact⟨i+1,by go_num,by rw[HF.out.2.1],Y,Y,Y,by rw[HF.out.2.1];omega,HW1.out.1,by rw[HF.out.2.2];exact HW1.out.2⟩
  case round =>
   obtain⟨j,rfl,rfl,hij,hjn,hg,hkj,hgr,how⟩:=hrel;obtain⟨m,hm⟩:∃ m,(keptL p l j).length=m:=⟨_,rfl⟩
   rw[hm] at hkj ⊢;have HM:=J hm;have HG:=J hg;have HGR:=J hgr;have HOW:=J how;have hgl:g<wr.heap.size:=(how.lt g rfl).2;have hm0:(0:Int)<=(m:Int):=Y;have hmn:(m:Int)<(n:Int):=Y;have HMJ:=J hkj;have HIJ:=J hij;have HJN:=J hjn;clear hm hg hgr hkj hij;by_cases hlt:j<n
   . obtain⟨x,hx⟩:∃ x,l[j]?=some x:=⟨_,List.getElem?_eq_getElem jj⟩
     have cj:∀ k u,(txL x)[k]?=some u->wr.cell? ⟨g,j*6+k,none⟩=some u:=fun k u hu=>by
      have hk:=(List.getElem?_eq_some_iff.1 hu).1;rw[how.cellAt _ (by rw[show(txL x).length=6 from rfl] at hk;omega)];exact flat_at qca _ j k x u ((rowL_get (by have:=HM.out;have:=HMJ.out;omega)).trans hx) hu
     have cm:∀ k,k<6->∃ u,wr.cell? ⟨g,m*6+k,none⟩=some u:=fun k hk=>by
      refine ⟨_,(how.cellAt _ Y).trans (List.getElem?_eq_getElem ?_)⟩;rw[txC_len,rowL_len _ _ _ jj,HN.out];omega
     obtain⟨y0,m0⟩:=cm 0 Y;obtain⟨y1,m1⟩:=cm 1 Y;obtain⟨y2,m2⟩:=cm 2 Y;obtain⟨y3,m3⟩:=cm 3 Y;obtain⟨y4,m4⟩:=cm 4 Y;obtain⟨y5,m5⟩:=cm 5 Y;have f0:=how.frozenAt (m*6);have f1:=how.frozenAt (m*6+1);have f2:=how.frozenAt (m*6+2);have f3:=how.frozenAt (m*6+3);have f4:=how.frozenAt (m*6+4);have f5:=how.frozenAt (m*6+5);have c0:=cj 0 _ rfl;have c1:=cj 1 _ rfl;have c2:=cj 2 _ rfl;have c3:=cj 3 _ rfl;have c4:=cj 4 _ rfl;have c5:=cj 5 _ rfl;simp only[Nat.add_zero] at c0 m0;have hltz:(j:Int)<(n:Int):=Y;have hj0:(0:Int)<=(j:Int):=Y;have HX2:=J hx;have PX:=J (fun W hW=>HP.out x (List.mem_of_getElem? hx) W hW);obtain⟨p1,q1,k1,p2,q2,k2,e1,e2⟩:=HT.out x (List.mem_of_getElem? hx);obtain⟨q,hq⟩:∃ q,p x=q:=⟨_,rfl⟩
     rw[hq] at PX;have HQ:=J hq;clear how cj cm hx hq hlt;obtain⟨xc,xt,xrv,xwv,xs,xg,xrd,xwr⟩:=x;dsimp only at e1 e2 c0 c1 c2 c3 c4 c5;subst e1 e2;unfold txV at PX;dsimp only at PX;cases q
     . go_wp2_with ((with_reducible refine (PX.out _ (qaj HGR.out (grown_of_ext zq _))).mono ?_);rintro e' _ ⟨rfl,d1,os1,rfl⟩)
       have O1:=HOW.out.stored (m*6) (.int .i64 xc);have O2:=O1.1.stored (m*6+1) (.int .i64 xt);have O3:=O2.1.stored (m*6+2) (.slice p1 q1 k1);have O4:=O3.1.stored (m*6+3) (.slice p2 q2 k2);have O5:=O4.1.stored (m*6+4) (.string xs);have O6:=O5.1.stored (m*6+5) (.int .i64 xg);rw[txC_set (rowL p l j) m ⟨xc,xt,.slice p1 q1 k1,.slice p2 q2 k2,xs,xg,xrd,xwr⟩ (by rw[rowL_len _ _ _ (by have:=HN.out;have:=HJN.out;omega),HN.out];have:=HMJ.out;have:=HJN.out;omega)] at O6;have OW:=J O6.1;have OG:=J (qaj (qaj (qaj (qaj (qaj (qaj HGR.out O1.2) O2.2) O3.2) O4.2) O5.2) O6.2);clear O1 O2 O3 O4 O5 O6
       go_roundg (gk-1)
       case measure=>have:=HG.out;omega
       case rel=>exact⟨j+1,by go_num,by rw[kept_step HX2.out,if_neg (by rw[HQ.out];simp),List.length_append,HM.out];go_num,by have:=HIJ.out;omega,Y,by have:=HG.out;omega,by rw[kept_step HX2.out,if_neg (by rw[HQ.out];simp),List.length_append,HM.out];have:=HMJ.out;simp;omega,qaj OG.out (grown_of_ext zq _),by rw[rowL_keep HX2.out HQ.out,HM.out];exact own_ext OW.out zq⟩
     . go_wp2_with ((with_reducible refine (PX.out _ (qaj HGR.out (grown_of_ext zq _))).mono ?_);rintro e' _ ⟨rfl,d1,os1,rfl⟩)
       go_roundg (gk-1)
       case measure=>have:=HG.out;omega
       case rel=>exact⟨j+1,by go_num,by rw[kept_step HX2.out,if_pos HQ.out,HM.out],by have:=HIJ.out;omega,Y,by have:=HG.out;omega,by rw[kept_step HX2.out,if_pos HQ.out,HM.out];have:=HMJ.out;omega,qaj HGR.out (grown_of_ext zq _),by rw[rowL_skip HX2.out HQ.out];exact own_ext HOW.out zq⟩
   . have:j=n:=by omega
     subst this
     have hcap:j<=cap:=by
      rcases how.2 with ⟨h',_⟩ | ⟨_,_,_,h',_,_,hnc,_⟩
      . cases h'
      . simp only[Value.slice.injEq] at h';omega
     have hcm:cap≠m:=(by have:=HMJ.out;omega)
     have hz:=zeroCells_tx (j-m)
     have CL:=qgH (P:=prog) wr 22 27 0 (.agg #[.int .i64 0,.int .i64 0,.slice none 0 0,.slice none 0 0,.string ⟨#[]⟩,.int .i64 0]) underlying22 Tryz.zeroValue27 g (m*6) (j-m) (cap-m) (by have:=HMJ.out;omega) hz.2
      (fun q hq=>by rw[hz.1] at hq;rw[how.cellAt _ (by have:=HMJ.out;omega),List.getElem?_eq_getElem (by rw[txC_len,rowL_len _ _ _ jj,HN.out];have:=HMJ.out;omega)];rfl)
      (fun q hq=>how.frozenAt _)
     have OC:=own_cleared how (show m<=j by have:=HMJ.out;omega) (by rw[rowL_len _ _ _ jj,HN.out]) (Builtin.zeroCells (Value.agg #[.int .i64 0,.int .i64 0,.slice none 0 0,.slice none 0 0,.string ⟨#[]⟩,.int .i64 0]).cells (j-m)).toList;obtain⟨W2,hW2⟩:∃ W2,wr.setCells g (m*6) (Builtin.zeroCells (Value.agg #[.int .i64 0,.int .i64 0,.slice none 0 0,.slice none 0 0,.string ⟨#[]⟩,.int .i64 0]).cells (j-m)).toList=W2:=⟨_,rfl⟩
     rw[hW2] at CL OC;have OW:=J OC.1;have OG:=J (qaj HGR.out OC.2);have hjm:((j:Int)-(m:Int)).toNat=j-m:=Y;clear hW2 OC hz how;go_wp2_with fail;go_ret;have hk:keptL p l j=l.filter fun x=>!p x:=(by unfold keptL;rw[List.take_of_length_le jj])
     have hkm:(l.filter fun x=>!p x).length=m:=(by rw[<-hk];exact HM.out)
     refine ⟨_,rfl,⟨fun x hx W hW=>HB.out x (List.mem_filter.1 hx).1 W (fun k hk=>(hW k hk).trans (OG.out.block k (by have:=HBB.out;omega) (by simp;have:=HGB.out;omega))),Nat.le_trans HBB.out OG.out.size,?_⟩,OG.out⟩;rw[hkm];have:=OW.out;rw[show(rowL p l j).take m=l.filter fun x=>!p x from by unfold rowL;rw[hk,List.take_left' hkm]] at this;exact this
end Go.Proofs.YtpnabjopfpdkhaaGreatDoor
