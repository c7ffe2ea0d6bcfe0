/- Lemmas. -/
import Derived.Test.YtpnabjopfpdkhaaGreatDoorY26
import Derived.Test.YtpnabjopfpdkhaaGreatDoorY27
import Derived.Defers
import Derived.Recover
import Derived.RegionTactic
import Derived.ChangeAlike
set_option linter.all false
set_option maxHeartbeats 4000000
set_option maxRecDepth 20000
namespace Go.Proofs.YtpnabjopfpdkhaaGreatDoor
open Tryz RowKit
variable {w w1:World} {b cap g lb lo m m1 n:Nat} {L:Toks} {N acc ns:List Nd} {nv:Value} {st:PM Int} {fi la z:Int}
attribute [go_sem] more_more Array.size_append
def qeX {base:Nat} {e:TypeId} {size:Nat} {xs:List Value} (h:w.ownsRow base e size (.slice (some ⟨g,0,none⟩) n cap) n xs) {i:Nat} (hi:i<n*size) (u:Value) :
  (w.setCell ⟨g,i,none⟩ u).ownsRow base e size (.slice (some ⟨g,0,none⟩) n cap) n (xs.set i u):=by
 obtain⟨h1,h2⟩:=h;refine ⟨by simpa using h1,?_⟩;rcases h2 with ⟨h2,_⟩ | ⟨g',cap',cur,h2,hb,hg,hn,hm,hc,ht⟩
 . simp at h2
 . simp only[Value.slice.injEq,Option.some.injEq,Addr.mk.injEq,true_and,and_true] at h2;obtain⟨rfl,rfl⟩:=h2;refine Or.inr ⟨g,cap,cur.setIfInBounds i u,rfl,hb,?_,hn,hm,by simpa using hc,?_⟩
   . simp[World.setCell,Array.getElem?_modify,hg]
   . rw[Array.toList_setIfInBounds,List.take_set,ht]
def qcW:∀ (l:List Nd) (j:Nat) (v:Int),j<l.length->qac (setNext l j v)=(qac l).set (j*8+4) (.int .i64 v)
 | [],j,v,h=>by simp at h
 | z::l,0,v,_=>by simp[setNext,qac,ndL]
 | z::l,j+1,v,h=>by
  have:=qcW l j v jx;have e1:setNext (z::l) (j+1) v=z::setNext l j v:=by simp[setNext]
  have e2:∀ l,qac (z::l)=ndL z++qac l:=fun _=>rfl
  rw[e1,e2,e2,this,List.set_append_right _ _ (by simp[ndL];omega)]
  congr 2
  simp[ndL];omega
def setNext_length (l:List Nd) (j:Nat) (v:Int):(setNext l j v).length=l.length:=by simp[setNext]
def qcU (a l:List Nd) (j:Nat) (v:Int):setNext (a++l) (a.length+j) v=a++setNext l j v:=by
 simp only[setNext]
 induction a with
 | nil=>simp
 | cons z a ih =>
  have e:(z::a).length+j=(a.length+j)+1:=zg;rw[e,List.cons_append,List.modify_succ_cons,ih];rfl
def St.setNext {c:Nat} (h:St b lb lo cap (.slice (some ⟨g,0,none⟩) N.length c) L m N w) {j:Nat} (hj:j<N.length) (v:Int) :
  St b lb lo cap (.slice (some ⟨g,0,none⟩) N.length c) L m (setNext N j v) (w.setCell ⟨g,j*8+4,none⟩ (.int .i64 v)):=by
 have hg:=h.row.lt g rfl;refine ⟨h.ends,by rw[heap_set_other _ _ _ _ _ Y];exact h.blk,h.toks.of_block (heap_set_other _ _ _ _ _ jh),?_,h.low,h.pos,by rw[setNext_length];exact h.cnt⟩;rw[setNext_length,qcW _ _ _ hj];exact qeX h.row Y _
def Kp.setRow {nv1:Value} (h:Kp b nv nv1 w w1) {g:Nat} (hg:nv1.ownBlock=some g) (i:Nat) (v:Value):Kp b nv nv1 w (w1.setCell ⟨g,i,none⟩ v):=by
 refine ⟨h.os,h.tape,h.output,by simpa [World.setCell] using h.size,fun j hj hb hn=>?_,h.row⟩;rw[heap_set_other _ _ _ _ _ ?_]
 . exact h.block j hj hb hn
 . intro e;subst e;rcases h.row with e | e
   . exact hn (e ▸ hg)
   . have:=e _ hg;omega
def St.nextFacts {c:Nat} (h:St b lb lo cap (.slice (some ⟨g,0,none⟩) N.length c) L m N w) {j:Nat} (hj:j<N.length) :
  (∃ x,w.cell? ⟨g,j*8+4,none⟩=some (.int .i64 x))/\w.frozen? ⟨g,j*8+4,none⟩=false/\g<w.heap.size:=by
 have hg:=h.row.lt g rfl;obtain⟨h1,h2⟩:=h.row;rcases h2 with ⟨h2,_⟩ | ⟨g',cap',cur,h2,hb,hgg,hn,hm,hc,ht⟩
 . simp at h2
 . simp only[Value.slice.injEq,Option.some.injEq,Addr.mk.injEq,true_and,and_true] at h2;obtain⟨rfl,rfl⟩:=h2;refine ⟨?_,by simp[World.frozen?,hgg],hg.2⟩
   have:∃ x,(qac N)[j*8+4]?=some (.int .i64 x):=by
    clear h1 ht h hg hb hgg hn hm hc
    induction N generalizing j with
    | nil=>simp at hj
    | cons z l ih =>
     have e2:qac (z::l)=ndL z++qac l:=rfl
     cases j with
     | zero=>exact⟨z.x,by rw[e2];rfl⟩
     | succ j =>
      obtain⟨x,hx⟩:=ih (j:=j) (by simpa using hj);exact⟨x,by rw[e2,List.getElem?_append_right (by simp[ndL];omega)];rw[<-hx];congr 1;simp[ndL];omega⟩
   obtain⟨x,hx⟩:=this;refine ⟨x,?_⟩;rw[<-ht,List.getElem?_take] at hx
   split at hx
   . simp[World.cell?,hgg];simpa using hx
   . simp at hx
def loop_err {e:Int × Int} (h:st m (n+acc.length)=.error e):qan st (g+1) fi la acc m n=.error e:=by rw[qan,h]
def loop_end (h:st m (n+acc.length)=.ok (-1,m1,ns)):qan st (g+1) fi la acc m n=.ok (fi,m1,acc++ns):=by rw[qan,h];rfl
def loop_fst {i:Int} (h:st m (n+acc.length)=.ok (i,m1,ns)) (hi:i≠-1):qan st (g+1) (-1) la acc m n=qan st g i i (acc++ns) m1 n:=by rw[qan,h];dsimp only;rw[if_neg hi,if_pos rfl]
def loop_nxt {i:Int} (h:st m (n+acc.length)=.ok (i,m1,ns)) (hi:i≠-1) (hf:fi≠-1):qan st (g+1) fi la acc m n=qan st g fi i (setNext (acc++ns) (la.toNat-n) i) m1 n:=by rw[qan,h];dsimp only;rw[if_neg hi,if_neg hf]
def nv_some (h:St b lb lo cap nv L m N w) (hl:0<N.length):∃ g c,nv=.slice (some ⟨g,0,none⟩) N.length c:=by
 rcases Go.Joins.ownsRow_forms h.row with ⟨rfl,h0⟩ | ⟨g1,c,rfl⟩
 . omega
 . exact⟨_,_,rfl⟩
def block_any (h:St b lb lo cap nv L m N w) (d:Nat) (hd:d<=16) (st:PM Int)
  (hst:Dp b lb lo cap L 131 (d:Int) st) (hok:∀ m n v m1 ns,st m n=.ok (v,m1,ns)->(v=-1/\m1=m/\ns=[])\/(m<m1/\v+1=(n:Int)+ns.length/\0<ns.length))
  (r:PR Int) (hr:qan st (L.length+1) (-1) (-1) [] m N.length=r):Calls prog 111 #[.pointer (some ⟨b,0,none⟩),.int .i64 (d:Int)] w (PPost intV b lb lo cap nv L m N w r):=by
 have H:=J h;have HT:=J hst;have HO:=J hok;have HR:=J hr;have D:=J (qdq h d Y (.ok ((),m,[])) (by unfold deepP;rw[if_neg Y]));clear h hst hok hr;go_enter func111,ntmps111
 go_wp2_with (((with_reducible refine D.out.mono ?_);rintro e w1 ⟨he,nv1,hs,hk,_⟩;unfold unitV at he;subst he;have HS1:=J (hs.cast (List.append_nil _));have HK1:=J hk;clear hs hk))
 go_loopg [5,6] (L.length+1) (fun g x y wr=>∃ (fi la:Int) (acc:List Nd) (m2:Nat) (nv2:Value),x=.int .i64 fi/\y=.int .i64 la/\m<=m2/\L.length+1<=m2+g/\St b lb lo cap nv2 L m2 (N++acc) wr/\Kp b nv nv2 w wr/\qan st g fi la acc m2 N.length=r/\(fi≠-1->(N.length:Int)<=la/\la<(N.length:Int)+acc.length))
 case atStart=>exact⟨-1,-1,[],m,nv1,rfl,rfl,Nat.le_refl _,Y,HS1.out.cast (List.append_nil _).symm,HK1.out,HR.out,fun h=>absurd rfl h⟩
 case round =>
  obtain⟨fi,la,acc,m2,nv2,rfl,rfl,hm2,hg,hs2,hk2,hres,hla⟩:=hrel;obtain⟨g0,rfl⟩:∃ g0,gk=g0+1:=⟨gk-1,by have:=hs2.pos;omega⟩
  have HK:=J hk2;have HM:=J (And.intro hm2 hg);have HLA:=J hla;obtain⟨r1,h1⟩:∃ r1,st m2 (N.length+acc.length)=r1:=⟨_,rfl⟩
  have SC:=J (HT.out _ _ _ _ hs2 r1 (by rw[List.length_append];exact h1));clear hm2 hg hs2 hk2 hla;rcases r1 with ⟨e1,e2⟩ | ⟨v,m3,ns⟩
  . rw[loop_err h1] at hres;subst hres;clear h1
    go_wp2_with (((with_reducible refine SC.out.mono ?_);rintro e w2 ⟨he,nv3,hk⟩;unfold noV at he;subst he;have HK2:=J (HK.out.trans hk);clear hk))
    exact⟨rfl,PPost.err rfl HK2.out⟩
  by_cases hv:v=-1
  . subst hv;rw[loop_end h1] at hres;have RR:=J hres;have HB:=J (HO.out _ _ _ _ _ h1);clear hres h1
    go_wp2_with (((with_reducible refine SC.out.mono ?_);rintro e w2 ⟨he,nv3,hs,hk,_⟩;unfold intV at he;subst he;have HS:=J (hs.cast (List.append_assoc _ _ _));have HK2:=J (HK.out.trans hk);clear hs hk))
    go_ret;have:=RR.out;subst this;refine PPost.res rfl HS.out HK2.out ?_;have h1:=HM.out.1;rcases HB.out with ⟨_,h2,_⟩ | ⟨h2,_⟩<;>omega
  have HB:Hid (m2<m3/\v+1=((N.length+acc.length:Nat):Int)+ns.length/\0<ns.length):=J (by
   rcases HO.out _ _ _ _ _ h1 with ⟨h2,_⟩ | h2
   . exact absurd h2 hv
   . exact h2)
  have hv2:(v==-1)=false:=by simpa using hv
  by_cases hf:fi=-1
  . subst hf;rw[loop_fst h1 hv] at hres;have RR:=J hres;clear hres h1 hv
    go_wp2_with (((with_reducible refine SC.out.mono ?_);rintro e w2 ⟨he,nv3,hs,hk,_⟩;unfold intV at he;subst he;have HS:=J (hs.cast (List.append_assoc _ _ _));have HK2:=J (HK.out.trans hk);clear hs hk))
    go_roundg g0
    case measure=>omega
    case rel =>
     have h1:=HM.out;have h2:=HB.out;exact⟨v,v,acc++ns,m3,nv3,rfl,rfl,Y,Y,HS.out,HK2.out,RR.out,fun _=>⟨Y,by simp only[List.length_append];omega⟩⟩
  . rw[loop_nxt h1 hv hf] at hres;have RR:=J hres;have hf2:(fi==-1)=false:=(by simpa using hf)
    have HF:=J hf;obtain⟨j,rfl⟩:∃ j:Nat,la=(j:Int):=⟨la.toNat,by have:=(HLA.out hf).1;omega⟩
    clear hres h1 hv hf;obtain⟨M,hM⟩:∃ M,N++(acc++ns)=M:=⟨_,rfl⟩
    have HMM:=J hM;have hjm:j<M.length:=(by have h1:=(HLA.out HF.out).2;rw[<-hM];simp only[List.length_append];omega)
    have hji:(j:Int)<(M.length:Int):=Y;have hj0:0<=(j:Int):=Y;have HJ:=J hjm;clear hM hjm
    go_wp2_with (((with_reducible refine SC.out.mono ?_);rintro e w2 ⟨he,nv3,hs,hk,_⟩;unfold intV at he;subst he;have HS:=J (hs.cast (List.append_assoc _ _ _));have HK2:=J (HK.out.trans hk);clear hs hk;rw[HMM.out] at HS;obtain⟨gg,cc,rfl⟩:=nv_some HS.out (by have:=HJ.out;omega);obtain⟨c0,c1,c2,c3,f1,f2,f3,hb⟩:=HS.out.facts;obtain⟨⟨xx,n4⟩,z4,hgl⟩:=HS.out.nextFacts HJ.out;clear c0 c1 c3 f1 f2 f3))
    go_roundg g0
    case measure=>omega
    case rel =>
     have h1:=HM.out;have h2:=HB.out;have h3:=HLA.out HF.out
     have e:N++setNext (acc++ns) ((j:Int).toNat-N.length) v=setNext M j v:=by
      rw[<-HMM.out,<-qcU]
      congr 1
      omega
     exact⟨fi,v,setNext (acc++ns) ((j:Int).toNat-N.length) v,m3,_,rfl,rfl,Y,Y,by rw[e];exact HS.out.setNext HJ.out v,HK2.out.setRow rfl _ _,RR.out,fun _=>⟨Y,by rw[setNext_length,List.length_append];omega⟩⟩
def Dp.cast {F:FuncId} {z':Int} {p:PM Int} (h:Dp b lb lo cap L F z p) (e:z=z'):Dp b lb lo cap L F z' p:=e ▸ h
def Dp.clo {F:FuncId} {p:PM Int} (h:Dp b lb lo cap L F z p):Clo b lb lo cap L F #[.pointer (some ⟨b,0,none⟩),.int .i64 z] (fun _ _=>True) p:=fun nv m N w hs _=>h nv m N w hs _ rfl
def expr_deep:Dp b lb lo cap L 196 (17:Int) (pno L 14):=by
 intro nv m N w h r hr;have D:=J (qdq (h.alloc (.cells #[.pointer (some ⟨b,0,none⟩)] 191 (0,0))) 17 Y (.error (14,(tk L m).2)) (by unfold deepP;rw[if_pos Y]));have R:=J hr;clear h hr;go_enter func196,ntmps196
 go_wp2_with ((go_at_call 130;refine D.out.mono ?_;rintro e w1 ⟨he,nv1,hk⟩;unfold noV at he;subst he;have HK:=J hk;clear hk))
 have:=R.out;subst this;exact⟨rfl,PPost.err rfl (((Kp.refl b nv w).alloc _).trans HK.out)⟩
def block_deep:Dp b lb lo cap L 111 (17:Int) (pno L 14):=by
 intro nv m N w h r hr;have D:=J (qdq h 17 Y (.error (14,(tk L m).2)) (by unfold deepP;rw[if_pos Y]));have R:=J hr;clear h hr;go_enter func111,ntmps111
 go_wp2_with ((go_at_call 130;refine D.out.mono ?_;rintro e w1 ⟨he,nv1,hk⟩;unfold noV at he;subst he;have HK:=J hk;clear hk))
 have:=R.out;subst this;exact⟨rfl,PPost.err rfl HK.out⟩
def exprs_any (b lb lo cap:Nat) (L:Toks):∀ D d:Nat,d+D=17->Dp b lb lo cap L 196 (d:Int) (exprD L D).1/\(d<=16->Dp b lb lo cap L 214 (d:Int) (exprD L D).2)
 | 0,d,hd=>by
  have e:d=17:=Y;subst e
  exact⟨expr_deep,fun h=>by omega⟩
 | D+1,d,hd=>by
  obtain⟨h1,h2⟩:=exprs_any b lb lo cap L D (d+1) Y;have ec:((d+1:Nat):Int)=(d:Int)+1:=Y;have ed:16-D=d:=Y
  have ho:Dp b lb lo cap L 214 (d:Int) (oneP L d (exprD L D).1 (exprD L D).2):=fun nv m N w hs r hr =>
   one_any hs d Y _ _ (fun h=>(h2 Y).cast ec) (h1.cast ec) r hr
  have e2:exprD L (D+1)=(orP L (oneP L (16-D) (exprD L D).1 (exprD L D).2),oneP L (16-D) (exprD L D).1 (exprD L D).2):=rfl;rw[e2,ed];refine ⟨fun nv m N w hs r hr=>?_,fun _=>ho⟩;have:=expr_any d Y _ ho.clo nv m N w hs trivial;rw[<-hr];exact this
def qfG (b lb lo cap:Nat) (L:Toks):∀ D d:Nat,d+D=17->Dp b lb lo cap L 111 (d:Int) (blockD L D)
 | 0,d,hd=>by
  have e:d=17:=Y
  subst e;exact block_deep
 | D+1,d,hd=>by
  have hb:=qfG b lb lo cap L D (d+1) Y;have he:=(exprs_any b lb lo cap L (D+1) d Y).1;have ec:((d+1:Nat):Int)=(d:Int)+1:=Y;intro nv m N w hs r hr
  exact block_any hs d Y _ (fun nv m N w hs r hr=>stmt_any hs d Y _ _ he (hb.cast ec) r hr)
   (fun m n v m1 ns h=>stmt_ok (Fwd.exprD L (D+1)).1 (Fwd.braced L (Fwd.blockD L D)) h) r hr
def of_end (h:St b lb lo cap nv L m N w) :
  Calls prog 112 #[.pointer (some ⟨b,0,none⟩),.int .i64 0] w fun e w'=>((tk L m).1.k=0/\(∃ v,e=.returned v)/\∃ w1,Ext w w1/\Ext (w1.setCell ⟨b,1,none⟩ (.int .i64 ((m:Int)+1))) w')\/((tk L m).1.k≠0/\e=noV 3 (tk L m).2/\Ext w w'):=by
 refine yag ?_;intro TK;refine yaf ?_;intro FL;have hm:(m:Int)<=5000:=by have:=h.ends.few;have:=h.pos;omega
 have hm0:0<=(m:Int):=Y;obtain⟨c0,c1,c2,c3,f1,f2,f3,hb⟩:=h.facts;clear h c0 c2 c3 f2 f3;obtain⟨⟨⟨k,ts,i⟩,a⟩,htt⟩:∃ tt,tk L m=tt:=⟨_,rfl⟩
 rw[htt] at TK FL ⊢;unfold tokV at TK;dsimp only at TK FL ⊢;clear htt;by_cases hk:k=0
 . subst hk
   refine Calls.mono (R:=fun e w'=>e=.returned (.agg #[.int .i64 0,.int .i64 a,.string ts,.int .i64 i])/\∃ w1,Ext w w1/\Ext (w1.setCell ⟨b,1,none⟩ (.int .i64 ((m:Int)+1))) w') ?_
    fun e w' ⟨he,hw⟩=>Or.inl ⟨rfl,⟨_,he⟩,hw⟩
   go_enter func112,ntmps112
   go_wp2_with (first | (go_at_call 132;refine (TK.out _ zf).mono ?_;rintro e _ ⟨rfl,d2,os2,rfl⟩) | (go_at_call 133;refine (FL.out _ _ zf).mono ?_;rintro e _ ⟨he,d3,os3,rfl⟩;unfold noV at he;subst he))
   exact bodyPost_ret (v:=.agg #[.int .i64 0,.int .i64 a,.string ts,.int .i64 i]) (by simp[results,results112,go_sem]) rfl ⟨rfl,_,Ext.refl _,zf⟩
 . have hkk:(k !=0)=true:=by simpa using hk
   refine Calls.mono (R:=fun e w'=>e=noV 3 a/\Ext w w') ?_ fun e w' ⟨he,hx⟩=>Or.inr ⟨hk,he,hx⟩
   clear hk;go_enter func112,ntmps112
   go_wp2_with (first | (go_at_call 132;refine (TK.out _ zf).mono ?_;rintro e _ ⟨rfl,d2,os2,rfl⟩) | (go_at_call 133;refine (FL.out _ _ zf).mono ?_;rintro e _ ⟨he,d3,os3,rfl⟩;unfold noV at he;subst he))
   exact⟨rfl,rfl,zf⟩
def catch_idle (a1 a2 a3:Addr) (w:World) :
  CallsD prog 110 #[.pointer (some a1),.pointer (some a2),.pointer (some a3)] .returning w fun e u' w'=>e=.returned (.tuple #[])/\u'=.returning/\w'=w:=by
 refine callsD_of_wpS func110 rfl fun c₀ cs hu=>?_
 apply wpS_seq;apply wpS_region;simp[wpOpsS,go_sem,recoverD,hu,ntmps110,Exit.thenS];refine wpS_of_wp ?_;go_wp2_with fail;cases c₀;simp_all[bodyPostS,results,results110]
def frame_lit (a b c x y:Value):(#[a,b,c]++((Array.replicate 12 undef).setIfInBounds 2 x).setIfInBounds 0 y)=#[a,b,c,y,undef,x,undef,undef,undef,undef,undef,undef,undef,undef,undef]:=rfl
def qcq (kp ke ka:Nat) (c a:Int) (v0 v1 v2 v3:Value) (older:List PanicEntry) (w:World) (h0:w.cell? ⟨kp,0,none⟩=some v0) (h1:w.cell? ⟨kp,1,none⟩=some v1) (h2:w.cell? ⟨ke,0,none⟩=some v2) (h3:w.cell? ⟨ka,0,none⟩=some v3)
  (z0:w.frozen? ⟨kp,0,none⟩=false) (z1:w.frozen? ⟨kp,1,none⟩=false) (z2:w.frozen? ⟨ke,0,none⟩=false) (z3:w.frozen? ⟨ka,0,none⟩=false) (l1:kp<w.heap.size) (l2:ke<w.heap.size) (l3:ka<w.heap.size) (n1:kp≠ke) (n2:kp≠ka) (n3:ke≠ka) :
  CallsD prog 110 #[.pointer (some ⟨kp,0,none⟩),.pointer (some ⟨ke,0,none⟩),.pointer (some ⟨ka,0,none⟩)] (.panicking ({ v:=.iface 190 (.agg #[.int .i64 c,.int .i64 a]),recovered:=false }::older)) w fun e u' w' =>
   e=.returned (.tuple #[])/\u'=.panicking ({ v:=.iface 190 (.agg #[.int .i64 c,.int .i64 a]),recovered:=true }::older)/\w'=(((((w.setCell ⟨kp,0,none⟩ (.slice none 0 0)).setCell ⟨kp,1,none⟩ (.int .i64 0)).setCell ⟨ke,0,none⟩ (.int .i64 c)).setCell ⟨ka,0,none⟩ (.int .i64 a)).alloc (.cells #[.int .i64 c,.int .i64 a] 190 (0,0))).drew:=by
 refine callsD_of_wpS func110 rfl fun c₀ cs hu=>?_
 apply wpS_seq;apply wpS_region;simp[wpOpsS,go_sem,recoverD,hu,ntmps110,Exit.thenS];refine wpS_of_wp ?_;rw[frame_lit];have n1':=n1.symm;have n2':=n2.symm;have n3':=n3.symm;have hta:∀ (c a:Int) (w:World),(Instr.typeAssert (.iface 190 (.agg #[.int .i64 c,.int .i64 a])) 20 190 false).run prog w=.ok (.agg #[.int .i64 c,.int .i64 a]) w:=fun c a w=>by kernel_rfl
 go_wp2_with fail
 go_region
 cases c₀;simp_all (config:={ zetaDelta:=true }) [bodyPostS,results,results110]
def qdi (w:World) (r:Except (Int × Int) (List Nd × Int)) (e:Ending) (w':World):Prop :=
 match r with
 | .error (c,a)=>e=.returned (.tuple #[.agg #[.slice none 0 0,.int .i64 0],.int .i64 c,.int .i64 a])/\Ext w w'
 | .ok (ns,f)=>∃ nv,e=.returned (.tuple #[.agg #[nv,.int .i64 f],.int .i64 0,.int .i64 0])/\w'.ownsRow w.heap.size 166 8 nv ns.length (qac ns)/\Ext w w'
def okAt (L:Toks) (j:Nat):Bool:=((tk L j).1.k==0)==decide (j+1=L.length)
def ends_no {j:Nat} (hj:j<L.length) (h:okAt L j=false):qcn L=.error (1,0):=by
 have:qeg L=false:=by
  unfold qeg;rw[Bool.and_eq_false_iff]
  right
  rw[List.all_eq_false];exact⟨j,by simpa using hj,by unfold okAt at h;simp[h]⟩
 unfold qcn;rw[this];rfl
def ends_yes (h0:0<L.length) (hf:L.length<=5000) (h:∀ j,j<L.length->okAt L j=true):Ends L/\qcn L=progP L:=by
 have he:qeg L=true:=by
  unfold qeg;rw[Bool.and_eq_true,List.all_eq_true];refine ⟨by cases L with | nil=>simp at h0 | cons a l=>simp,fun j hj=>?_⟩;have:=h j (by simpa using hj);unfold okAt at this;exact this
 refine ⟨⟨h0,hf,fun j hj=>?_⟩,by unfold qcn;rw[he];rfl⟩;have:=h j hj;unfold okAt at this;rw[beq_iff_eq] at this
 constructor
 . intro e;rw[e] at this;simpa using this.symm
 . intro e;have e2:=decide_eq_true e;rw[e2] at this;simpa using this
def blk_ext {w':World} (h:Ext w w') (k:Nat) (hk:k<w.heap.size):w'.heap[k]?=w.heap[k]?:=h.below.block k hk
def qfF {nv':Value} {w2:World} (hx:Ext w w1) (h:Kp b nv nv' w1 w2) (hb:w.heap.size<=b) (hn:nv.ownBlock=none):Ext w w2:=by
 have h1:=hx.below;refine Ext.of_below ⟨h.os.trans h1.os,h.tape.trans h1.tape,h.output.trans h1.output,Nat.le_trans h1.size h.size,fun k hk=>?_⟩;rw[h.block k (Nat.lt_of_lt_of_le hk h1.size) Y (by rw[hn];simp)];exact h1.block k hk
def Loc.two {k:Nat} {v0 v1:Value} {t:TypeId} (h:Loc b nv k (.cells #[v0,v1] t (0,0)) w):w.cell? ⟨k,0,none⟩=some v0/\w.cell? ⟨k,1,none⟩=some v1/\w.frozen? ⟨k,0,none⟩=false/\w.frozen? ⟨k,1,none⟩=false/\k<w.heap.size:=by
 have:=h.is;refine ⟨?_,?_,?_,?_,h.lt⟩<;>simp[World.cell?,World.frozen?,this]
def Loc.oneF {k:Nat} {v0:Value} {t:TypeId} (h:Loc b nv k (.cells #[v0] t (0,0)) w):w.cell? ⟨k,0,none⟩=some v0/\w.frozen? ⟨k,0,none⟩=false/\k<w.heap.size:=by
 have:=h.is;refine ⟨?_,?_,h.lt⟩<;>simp[World.cell?,World.frozen?,this]
def St.endFacts {w2:World} (h:St b lb lo cap nv L m N w) (hx:Ext w w1) (hy:Ext (w1.setCell ⟨b,1,none⟩ (.int .i64 z)) w2) :
  w2.cell? ⟨b,2,none⟩=some nv/\w2.cell? ⟨b,3,none⟩=some (.int .i64 0)/\w2.frozen? ⟨b,3,none⟩=false/\b<w2.heap.size/\w2.ownsRow (b+1) 166 8 nv N.length (qac N)/\Kp b nv nv w w2:=by
 have h1:=h.ext hx;have hb:b<(w1.setCell ⟨b,1,none⟩ (.int .i64 z)).heap.size:=by rw[World.size_setCell];exact h1.lt
 have e:(w1.setCell ⟨b,1,none⟩ (.int .i64 z)).heap[b]?=some (.cells #[.slice (some ⟨lb,lo,none⟩) L.length cap,.int .i64 z,nv,.int .i64 0] 193 (0,0)):=by
  simp[World.setCell,Array.getElem?_modify,h1.blk]
 have e2:=(hy.below.block b hb).trans e;refine ⟨?_,?_,?_,?_,?_,(((Kp.refl b nv w).ext hx).setB 1 _).ext hy⟩
 . simp[World.cell?,e2]
 . simp[World.cell?,e2]
 . simp[World.frozen?,e2]
 . have:=hy.size;omega
 . exact own_ext (ownsRow_setCell_below h1.row zy _) hy
def parse_any (L:Toks) (lb lo cap:Nat) (h0:0<L.length) (hf:L.length<=5000) (w:World) (ht:ToksAt lb lo L w) (r:Except (Int × Int) (List Nd × Int)) (hr:qcn L=r) :
  Calls prog 97 #[.slice (some ⟨lb,lo,none⟩) L.length cap] w (qdi w r):=by
 have hlb:=ht.lt h0;have HT:=J ht;have HR:=J hr;have hl0:0<(L.length:Int):=Y;have hl1:(L.length:Int)<=5000:=Y;clear ht hr;go_enter_defers func97,ntmps97;go_wp2_with fail
 go_loopg [11] (L.length) (fun g x wr=>∃ j:Nat,x=.int .i64 (j:Int)/\j<=L.length/\L.length<=j+g/\(∀ i,i<j->okAt L i=true)/\∃ d os,wr=more (((w.alloc (.cells #[.slice none 0 0,.int .i64 0] 132 (0,0))).alloc (.cells #[.int .i64 0] 32 (0,0))).alloc (.cells #[.int .i64 0] 3 (0,0))) d os)
 case atStart=>exact⟨0,rfl,Y,Y,fun i h=>by omega,Ext.refl _⟩
 case round =>
  obtain⟨j,rfl,hj,hg,hall,d,os,rfl⟩:=hrel;have HALL:=J hall;clear hall;by_cases hlt:j<L.length
  . obtain⟨t0,t1,t2,t3⟩:=HT.out j hlt;have hlt2:(j:Int)<(L.length:Int):=Y;have hj0:0<=(j:Int):=Y;have HLT:=J hlt;have HG:=J hg
    have hok:okAt L j=(((tk L j).1.k==0)==((j:Int)==(L.length:Int)-1)):=by
     unfold okAt
     congr 1
     rw[Bool.eq_iff_iff];simp;omega
    have HOK:=J hok;obtain⟨⟨⟨k,ts,i⟩,a⟩,htt⟩:∃ tt,tk L j=tt:=⟨_,rfl⟩
    rw[htt] at t0 t1 t2 t3 HOK;dsimp only at t0 t1 t2 t3 HOK;clear hok hlt hg htt;cases q1:(k==0)<;>cases q2:((j:Int)==(L.length:Int)-1)
    . rw[q1,q2] at HOK;go_wp2_with fail;obtain⟨g0,rfl⟩:∃ g0,gk=g0+1:=⟨gk-1,by have:=HG.out;have:=HLT.out;omega⟩
      go_roundg g0
      case measure=>omega
      case rel =>
       have h1:=HG.out;have h2:=HLT.out
       exact⟨j+1,by go_num,Y,Y,fun i hi=>by
        rcases Nat.lt_or_ge i j with h | h
        . exact HALL.out i h
        . have:i=j:=by omega
          subst this;rw[HOK.out];rfl,zf⟩
    . rw[q1,q2] at HOK;have RR:=J (HR.out.symm.trans (ends_no HLT.out (HOK.out.trans rfl)));go_wp2_with fail;have:=RR.out;subst this;exact⟨.tuple #[.agg #[.slice none 0 0,.int .i64 0],.int .i64 1,.int .i64 0],by simp[results,results97,go_sem],rfl,zf⟩
    . rw[q1,q2] at HOK;have RR:=J (HR.out.symm.trans (ends_no HLT.out (HOK.out.trans rfl)));go_wp2_with fail;have:=RR.out;subst this;exact⟨.tuple #[.agg #[.slice none 0 0,.int .i64 0],.int .i64 1,.int .i64 0],by simp[results,results97,go_sem],rfl,zf⟩
    . rw[q1,q2] at HOK;go_wp2_with fail;obtain⟨g0,rfl⟩:∃ g0,gk=g0+1:=⟨gk-1,by have:=HG.out;have:=HLT.out;omega⟩
      go_roundg g0
      case measure=>omega
      case rel =>
       have h1:=HG.out;have h2:=HLT.out
       exact⟨j+1,by go_num,Y,Y,fun i hi=>by
        rcases Nat.lt_or_ge i j with h | h
        . exact HALL.out i h
        . have:i=j:=by omega
          subst this;rw[HOK.out];rfl,zf⟩
  . have hje:j=L.length:=Y;subst hje;obtain⟨hE,hP⟩:=ends_yes h0 hf HALL.out;have HE:=J hE;have RR:=J (hP.symm.trans HR.out);have hz:((L.length:Int)==0)=false:=beq_eq_false_iff_ne.2 Y;clear hlt hg hj hE hP;go_wp2_with fail
    go_at_call 111
    have X1:Ext w (more (((w.alloc (.cells #[.slice none 0 0,.int .i64 0] 132 (0,0))).alloc (.cells #[.int .i64 0] 32 (0,0))).alloc (.cells #[.int .i64 0] 3 (0,0))) d os):=zf;have hX1:=X1.size;have hsz:(more (((w.alloc (.cells #[.slice none 0 0,.int .i64 0] 132 (0,0))).alloc (.cells #[.int .i64 0] 32 (0,0))).alloc (.cells #[.int .i64 0] 3 (0,0))) d os).heap.size=w.heap.size+1+1+1+os.size:=by simp only[more_size,World.size_alloc]
    have LP:Loc (more (((w.alloc (.cells #[.slice none 0 0,.int .i64 0] 132 (0,0))).alloc (.cells #[.int .i64 0] 32 (0,0))).alloc (.cells #[.int .i64 0] 3 (0,0))) d os).heap.size (.slice none 0 0) w.heap.size (.cells #[.slice none 0 0,.int .i64 0] 132 (0,0)) ((more (((w.alloc (.cells #[.slice none 0 0,.int .i64 0] 132 (0,0))).alloc (.cells #[.int .i64 0] 32 (0,0))).alloc (.cells #[.int .i64 0] 3 (0,0))) d os).alloc (.cells #[.slice (some ⟨lb,lo,none⟩) L.length cap,.int .i64 0,.slice none 0 0,.int .i64 0] 193 (0,0))) :=
     ⟨(blk_ext (w:=w.alloc (.cells #[.slice none 0 0,.int .i64 0] 132 (0,0))) zf _ zy).trans (heap_alloc_new _ _),Y,by simp[Value.ownBlock]⟩
    have LE:Loc (more (((w.alloc (.cells #[.slice none 0 0,.int .i64 0] 132 (0,0))).alloc (.cells #[.int .i64 0] 32 (0,0))).alloc (.cells #[.int .i64 0] 3 (0,0))) d os).heap.size (.slice none 0 0) (w.heap.size+1) (.cells #[.int .i64 0] 32 (0,0)) ((more (((w.alloc (.cells #[.slice none 0 0,.int .i64 0] 132 (0,0))).alloc (.cells #[.int .i64 0] 32 (0,0))).alloc (.cells #[.int .i64 0] 3 (0,0))) d os).alloc (.cells #[.slice (some ⟨lb,lo,none⟩) L.length cap,.int .i64 0,.slice none 0 0,.int .i64 0] 193 (0,0))) :=
     ⟨(blk_ext (w:=(w.alloc (.cells #[.slice none 0 0,.int .i64 0] 132 (0,0))).alloc (.cells #[.int .i64 0] 32 (0,0))) zf _ zy).trans (by have:=heap_alloc_new (w.alloc (.cells #[.slice none 0 0,.int .i64 0] 132 (0,0))) (.cells #[.int .i64 0] 32 (0,0));rwa [World.size_alloc] at this),Y,by simp[Value.ownBlock]⟩
    have LA:Loc (more (((w.alloc (.cells #[.slice none 0 0,.int .i64 0] 132 (0,0))).alloc (.cells #[.int .i64 0] 32 (0,0))).alloc (.cells #[.int .i64 0] 3 (0,0))) d os).heap.size (.slice none 0 0) (w.heap.size+1+1) (.cells #[.int .i64 0] 3 (0,0)) ((more (((w.alloc (.cells #[.slice none 0 0,.int .i64 0] 132 (0,0))).alloc (.cells #[.int .i64 0] 32 (0,0))).alloc (.cells #[.int .i64 0] 3 (0,0))) d os).alloc (.cells #[.slice (some ⟨lb,lo,none⟩) L.length cap,.int .i64 0,.slice none 0 0,.int .i64 0] 193 (0,0))) :=
     ⟨(blk_ext (w:=(((w.alloc (.cells #[.slice none 0 0,.int .i64 0] 132 (0,0))).alloc (.cells #[.int .i64 0] 32 (0,0))).alloc (.cells #[.int .i64 0] 3 (0,0)))) zf _ zy).trans (by have:=heap_alloc_new ((w.alloc (.cells #[.slice none 0 0,.int .i64 0] 132 (0,0))).alloc (.cells #[.int .i64 0] 32 (0,0))) (.cells #[.int .i64 0] 3 (0,0));rwa [World.size_alloc,World.size_alloc] at this),Y,by simp[Value.ownBlock]⟩
    have S0:St (more (((w.alloc (.cells #[.slice none 0 0,.int .i64 0] 132 (0,0))).alloc (.cells #[.int .i64 0] 32 (0,0))).alloc (.cells #[.int .i64 0] 3 (0,0))) d os).heap.size lb lo cap (.slice none 0 0) L 0 [] ((more (((w.alloc (.cells #[.slice none 0 0,.int .i64 0] 132 (0,0))).alloc (.cells #[.int .i64 0] 32 (0,0))).alloc (.cells #[.int .i64 0] 3 (0,0))) d os).alloc (.cells #[.slice (some ⟨lb,lo,none⟩) L.length cap,.int .i64 0,.slice none 0 0,.int .i64 0] 193 (0,0))) :=
     ⟨HE.out,heap_alloc_new _ _,HT.out.of_block ((X1.alloc _).below.block lb hlb),World.ownsRow_nil _ _ _ _,Y,h0,zy⟩
    have X2:=J (X1.alloc (.cells #[.slice (some ⟨lb,lo,none⟩) L.length cap,.int .i64 0,.slice none 0 0,.int .i64 0] 193 (0,0)));obtain⟨kb,hkb⟩:∃ kb,(more (((w.alloc (.cells #[.slice none 0 0,.int .i64 0] 132 (0,0))).alloc (.cells #[.int .i64 0] 32 (0,0))).alloc (.cells #[.int .i64 0] 3 (0,0))) d os).heap.size=kb:=⟨_,rfl⟩
    rw[hkb] at LP LE LA S0;have hkw:w.heap.size+3<=kb:=Y;rw[hkb] at hsz;rw[<-hsz];clear hkb hsz X1 hX1;obtain⟨W1,hW1⟩:∃ W1,(more (((w.alloc (.cells #[.slice none 0 0,.int .i64 0] 132 (0,0))).alloc (.cells #[.int .i64 0] 32 (0,0))).alloc (.cells #[.int .i64 0] 3 (0,0))) d os).alloc (.cells #[.slice (some ⟨lb,lo,none⟩) L.length cap,.int .i64 0,.slice none 0 0,.int .i64 0] 193 (0,0))=W1:=⟨_,rfl⟩
    rw[hW1] at LP LE LA S0 X2;rw[hW1];clear hW1;have LP:=J LP;have LE:=J LE;have LA:=J LA;obtain⟨r1,h1⟩:∃ r1,blockD L 16 0 0=r1:=⟨_,rfl⟩
    refine ((qfG kb lb lo cap L 16 1 rfl).cast (z':=1) rfl _ _ _ _ S0 r1 h1).mono ?_;clear S0;rcases r1 with ⟨c1,a1⟩ | ⟨fv,m1,ns1⟩
    . have R2:Hid (.error (c1,a1)=r):=J (by rw[<-RR.out];unfold progP;rw[qap h1]);clear h1 RR;rintro e w1 ⟨he,nv1,hk⟩;unfold noV at he;subst he;have XK:=J (qfF X2.out hk Y rfl);have LP1:=LP.out.kp hk;have LE1:=LE.out.kp hk;have LA1:=LA.out.kp hk;obtain⟨p0,p1,y0,y1,lp⟩:=LP1.two;obtain⟨p2,y2,le⟩:=LE1.oneF;obtain⟨p3,y3,la⟩:=LA1.oneF;clear LP1 LE1 LA1 hk;go_wp2_with fail;refine yam ⟨?_⟩;refine (qcq w.heap.size (w.heap.size+1) (w.heap.size+1+1) c1 a1 _ _ _ _ [] _ p0 p1 p2 p3 y0 y1 y2 y3 lp le la Y Y Y).mono ?_;rintro e u' w'' ⟨rfl,rfl,rfl⟩;have:=R2.out;subst this;refine ⟨.tuple #[.agg #[.slice none 0 0,.int .i64 0],.int .i64 c1,.int .i64 a1],?_,rfl,(((((XK.out.setCell je _).setCell je _).setCell je _).setCell je _).alloc _).drew⟩;simp[results,results97,go_sem,p0,p1,p2,p3,lp,le,la]
    . rintro e w1 ⟨he,nv1,hs,hk,_⟩;unfold intV at he;subst he;have hs:=hs.cast (List.nil_append _);have OE:=J (of_end hs);go_wp2_with fail
      go_at_call 112
      refine OE.out.mono ?_;rintro e w2 (⟨hk0,⟨v,rfl⟩,wx,hx,hy⟩ | ⟨hk0,he,hx⟩)
      . have R2:Hid (.ok (ns1,fv)=r):=J (by
          rw[<-RR.out];unfold progP;rw[qai h1,qai (v:=(tk L m1).1) (m1:=m1+1) (ns:=[]) (by unfold ofP;rw[if_pos hk0])]
          simp[pok,prep])
        obtain⟨b2,b3,g3,hb2,hrow,hk2⟩:=hs.endFacts hx hy;have hk3:=hk.trans hk2;have XK:=J (qfF X2.out hk3 Y rfl);have LP1:=LP.out.kp hk3;have LE1:=LE.out.kp hk3;have LA1:=LA.out.kp hk3;obtain⟨p0,p1,y0,y1,lp⟩:=LP1.two;obtain⟨p2,y2,le⟩:=LE1.oneF;obtain⟨p3,y3,la⟩:=LA1.oneF;obtain⟨len,cc,pp,rfl,hlen⟩:=nv_form hs;have HROW:=J hrow;have hne1:kb≠w.heap.size:=Y;have hne2:kb≠w.heap.size+1:=Y;have hne3:kb≠w.heap.size+1+1:=Y;have HKW:=J hkw;clear hs hk hk2 hk3 LP1 LE1 LA1 hx hy hrow h1 RR hk0 OE hkw hlen;go_wp2_with fail;refine yam ⟨?_⟩;refine (catch_idle _ _ _ _).mono ?_;rintro e u' w'' ⟨rfl,rfl,rfl⟩;have:=R2.out;subst this;have hkw:=HKW.out;refine ⟨.tuple #[.agg #[.slice pp len cc,.int .i64 fv],.int .i64 0,.int .i64 0],?_,.slice pp len cc,rfl,?_,?_⟩
        . simp[results,results97,go_sem,p0,p1,p2,p3,lp,le,la,hne1,hne2,hne3]
        . refine World.ownsRow.mono (base:=kb+1) ?_ Y
          repeat(first | (with_reducible exact HROW.out) | (with_reducible refine ownsRow_setCell_below ?_ je _))
        . repeat(first | (with_reducible exact XK.out) | (with_reducible refine Ext.setCell ?_ je _))
      . have R2:Hid (.error (3,(tk L m1).2)=r):=J (by rw[<-RR.out];unfold progP;rw[qai h1,qap (e:=(3,(tk L m1).2)) (by unfold ofP;rw[if_neg hk0])];rfl);have hk3:=hk.trans ((Kp.refl _ _ _).ext hx);unfold noV at he;subst he;clear hs hk hx h1 RR hk0 OE;have XK:=J (qfF X2.out hk3 Y rfl);have LP1:=LP.out.kp hk3;have LE1:=LE.out.kp hk3;have LA1:=LA.out.kp hk3;obtain⟨p0,p1,y0,y1,lp⟩:=LP1.two;obtain⟨p2,y2,le⟩:=LE1.oneF;obtain⟨p3,y3,la⟩:=LA1.oneF;clear LP1 LE1 LA1 hk3;go_wp2_with fail;refine yam ⟨?_⟩;refine (qcq w.heap.size (w.heap.size+1) (w.heap.size+1+1) 3 (tk L m1).2 _ _ _ _ [] _ p0 p1 p2 p3 y0 y1 y2 y3 lp le la Y Y Y).mono ?_;rintro e u' w'' ⟨rfl,rfl,rfl⟩;have:=R2.out;subst this;refine ⟨.tuple #[.agg #[.slice none 0 0,.int .i64 0],.int .i64 3,.int .i64 (tk L m1).2],?_,rfl,(((((XK.out.setCell je _).setCell je _).setCell je _).setCell je _).alloc _).drew⟩;simp[results,results97,go_sem,p0,p1,p2,p3,lp,le,la]
end Go.Proofs.YtpnabjopfpdkhaaGreatDoor
