/- Lemmas. -/
import Derived.Test.YtpnabjopfpdkhaaGreatDoorY50
import Derived.Test.YtpnabjopfpdkhaaGreatDoorY38
set_option linter.all false
set_option maxHeartbeats 4000000
set_option maxRecDepth 20000
namespace Go.Proofs.YtpnabjopfpdkhaaGreatDoor
open Go.Proofs.Tryz RowKit
attribute [go_sem] more_more Array.size_append
def qeK (s:ByteArray) (r:Except (Int × Int) (List Nd × Int)) (hr:qaY s.data.toList=r) (w:World):Calls prog 90 #[.string s] w (qdi w r):=by
 obtain⟨l,e,x,hx⟩:∃ l e x,lexF s.data.toList=(l,e,x):=⟨_,_,_,rfl⟩
 unfold qaY at hr;have hlen:=lexF_len s.data.toList;rw[hx] at hr hlen;dsimp only at hr hlen;have T:=J (tok16 s _ hx);clear hx;by_cases he:e=0
 . subst he;rw[if_pos rfl] at hr;obtain⟨h0,h1⟩:=hlen rfl;have HR:=J hr;have HL:=J (And.intro h0 h1);clear hr hlen h0 h1;go_enter func90,ntmps90;go_wp2_with fail
   go_at_call 104
   refine (T.out _).mono ?_;rintro e w1 (⟨_,g,cap,he,hrow,hx⟩ | ⟨h2,_⟩)
   . dsimp only at he hrow;subst he;obtain⟨d,os,rfl⟩:=hx;have TA:=J (toks_at hrow rfl);clear hrow;go_wp2_with fail
     go_at_call 105
     have P:=rtokens_any (qcl l) g 0 cap (by rw[toksOf_length];exact HL.out.1) (by rw[toksOf_length];have:=HL.out.2;omega) _ TA.out _ HR.out;rw[toksOf_length] at P;refine P.mono ?_;clear P;rcases r with ⟨c1,a1⟩ | ⟨ns,f1⟩
     . rintro e w2 ⟨he,d2,os2,rfl⟩;subst he;go_wp2_with fail;exact bodyPost_ret (v:=.tuple #[.agg #[.slice none 0 0,.int .i64 0],.int .i64 c1,.int .i64 a1]) zcg rfl ⟨rfl,zf⟩
     . rintro e w2 ⟨nv,he,hrow2,hx2⟩
       obtain⟨len,cc,pp,rfl⟩:∃ len cc pp,nv=.slice pp len cc:=by
        rcases Go.Joins.ownsRow_forms hrow2 with ⟨rfl,h0⟩ | ⟨g1,c,rfl⟩
        . exact⟨_,_,_,rfl⟩
        . exact⟨_,_,_,rfl⟩
       have HROW:=J hrow2;obtain⟨d2,os2,rfl⟩:=hx2;subst he;clear hrow2;go_wp2_with fail;refine bodyPost_ret (v:=.tuple #[.agg #[.slice pp len cc,.int .i64 f1],.int .i64 0,.int .i64 0]) zcg rfl ⟨.slice pp len cc,rfl,?_,zf⟩;exact(own_swap HROW.out zck).mono zck
   . exact absurd rfl h2
 . rw[if_neg he] at hr;have he2:(e !=0)=true:=by simpa using he
   have HR:=J hr;have HE:=J he;clear hr hlen he;go_enter func90,ntmps90;go_wp2_with fail
   go_at_call 104
   refine (T.out _).mono ?_;rintro e' w1 (⟨h0,_⟩ | ⟨_,he,hx⟩)
   . exact absurd h0 HE.out
   . dsimp only at he;subst he;obtain⟨d,os,rfl⟩:=hx;go_wp2_with fail;have:=HR.out;subst this;exact bodyPost_ret (v:=.tuple #[.agg #[.slice none 0 0,.int .i64 0],.int .i64 e,.int .i64 (x:Int)]) zcg rfl ⟨rfl,zf⟩
end Go.Proofs.YtpnabjopfpdkhaaGreatDoor
namespace Go.Proofs.YtpnabjopfpdkhaaGreatDoor
open Go.Proofs.Tryz RowKit
attribute [go_sem] more_more Array.size_append
def qgU (s:ByteArray) (c a:Int) (hr:qaY s.data.toList=.error (c,a)) (hc:c≠0) (w:World) :
  Calls prog 78 #[.string s] w fun r w'=>r=.returned (.tuple #[.agg #[.slice none 0 0,.int .i64 0],.int .i64 c,.int .i64 a])/\Ext w w':=by
 have SC:=J (fun W'=>qeK s _ hr W');have he2:(c !=0)=true:=by simpa using hc
 clear hr hc;go_enter func78,ntmps78
 go_wp2_with ((with_reducible refine (SC.out _).mono ?_);rintro e' _ ⟨rfl,d2,o2,rfl⟩)
 exact bodyPost_ret (v:=.tuple #[.agg #[.slice none 0 0,.int .i64 0],.int .i64 c,.int .i64 a]) (by simp[results,results78,go_sem]) rfl ⟨rfl,zq⟩
def rsource20_ok (s:ByteArray) (ns:List Nd) (fi:Int) (hr:qaY s.data.toList=.ok (ns,fi)) (l:List Int) (mo e a:Int) (hf:qbi ns fi=(l,mo,e,a)) (w:World) :
  Calls prog 78 #[.string s] w fun r w'=>∃ nv,r=.returned (.tuple #[.agg #[nv,.int .i64 fi],.int .i64 e,.int .i64 a])/\w'.ownsRow w.heap.size 166 8 nv ns.length (qac ns)/\Ext w w':=by
 have SC:=J (fun W'=>qeK s _ hr W');have RM:=J (fun (W':World) nv (h:World.ownsRow W' 0 166 8 nv ns.length (qac ns))=>rmake_any fi h l mo e a hf);clear hr hf;go_enter func78,ntmps78
 go_wp2_with ((with_reducible refine (SC.out _).mono ?_);rintro e' w2 ⟨nv,rfl,hn,hx2⟩;obtain⟨pn,kn,hvn⟩:=qad hn;subst hvn;have HN:=J hn;have HX2:=J (Ext.trans ((Ext.refl w).alloc _) hx2);have KR:=J ((KB.new w #[.slice none 0 0,.int .i64 0] 132).of_ext hx2);have lr:=KR.out.lt;clear hx2 hn)
 obtain⟨Br,hBr⟩:∃ Br,w.heap.size=Br:=⟨_,rfl⟩
 have HBR:=J hBr;rw[hBr] at KR lr ⊢;clear hBr
 go_wp2_with ((with_reducible refine (RM.out _ _ (own_ext (HN.out.mono (Nat.zero_le _)) zq)).mono ?_);rintro e' w3 ⟨rfl,hx3⟩;have HX3:=J (Ext.trans ((Ext.refl w2).alloc _) hx3);have KP:=J ((KB.new w2 #[.slice pn ns.length kn,.int .i64 fi] 132).of_ext hx3);have p0:w3.cell? ⟨w2.heap.size,0,none⟩=some (.slice pn ns.length kn):=KP.out.cell 0 _ rfl;have p1:w3.cell? ⟨w2.heap.size,1,none⟩=some (.int .i64 fi):=KP.out.cell 1 _ rfl;have lp:=KP.out.lt;have KR3:=J (KR.out.of_ext (Ext.trans ((Ext.refl w2).alloc _) hx3));have lr3:=KR3.out.lt;have r0f:=KR3.out.frozen 0;have r1f:=KR3.out.frozen 1;have r0c:=KR3.out.cell 0 _ rfl;have r1c:=KR3.out.cell 1 _ rfl;clear hx3)
 have KR4:=J ((KR3.out.setAt 0 (.slice pn ns.length kn) zy).setAt 1 (.int .i64 fi) zy);have q0:((w3.setCell ⟨Br,0,none⟩ (.slice pn ns.length kn)).setCell ⟨Br,1,none⟩ (.int .i64 fi)).cell? ⟨Br,0,none⟩=some (.slice pn ns.length kn):=KR4.out.cell 0 _ rfl;have q1:((w3.setCell ⟨Br,0,none⟩ (.slice pn ns.length kn)).setCell ⟨Br,1,none⟩ (.int .i64 fi)).cell? ⟨Br,1,none⟩=some (.int .i64 fi):=KR4.out.cell 1 _ rfl;have HNB:=J (fun q (hq:(Value.slice pn ns.length kn).ownBlock=some q)=>show q≠Br from by have:=(HN.out.lt q hq).1;have:=HBR.out;simp at *;omega);exact bodyPost_ret (v:=.tuple #[.agg #[.slice pn ns.length kn,.int .i64 fi],.int .i64 e,.int .i64 a]) (by simp[results,results78,go_sem,q0,q1]) rfl ⟨_,rfl,own_block (own_ext (HN.out.mono (by have:=HBR.out;first | omega | (simp;done) | (simp;omega))) HX3.out) (fun q hq _=>(heap_set_other _ _ _ _ _ (HNB.out q hq)).trans (heap_set_other _ _ _ _ _ (HNB.out q hq))),((HX2.out.trans HX3.out).setCell (Nat.le_of_eq HBR.out) _).setCell (Nat.le_of_eq HBR.out) _⟩
end Go.Proofs.YtpnabjopfpdkhaaGreatDoor
namespace Go.Proofs.YtpnabjopfpdkhaaGreatDoor
open Go.Proofs.Tryz RowKit
attribute [go_sem] more_more Array.size_append
def rsrc20_any (s:ByteArray) (w:World):Calls prog 78 #[.string s] w fun e w'=>∃ p n c fi,e=.returned (.tuple #[.agg #[.slice p n c,.int .i64 fi],.int .i64 (srcE s).1,.int .i64 (srcE s).2])/\Ext w w':=by
 unfold srcE
 cases hr:qaY s.data.toList with
 | error x =>
  obtain⟨c,a⟩:=x
  exact(qgU s c a hr (src_err hr) w).mono fun _ _ ⟨h1,h2⟩=>⟨_,_,_,_,h1,h2⟩
 | ok x =>
  obtain⟨ns,fi⟩:=x;obtain⟨l,mo,e,a,hf⟩:∃ l mo e a,qbi ns fi=(l,mo,e,a):=⟨_,_,_,_,rfl⟩
  dsimp only;rw[hf]
  exact(rsource20_ok s ns fi hr l mo e a hf w).mono fun _ _ ⟨nv,h1,h2,h3⟩=>by
   obtain⟨p,c,rfl⟩:=qad h2;exact⟨_,_,_,_,h1,h3⟩
def tx_cells22 (t:Tx) {w:World} (h:TxAt w t):∃ c u p1 m1 k1 p2 m2 k2 s g,t.c=c/\t.t=u/\txV t=.agg #[.int .i64 c,.int .i64 u,.slice p1 m1 k1,.slice p2 m2 k2,.string s,.int .i64 g]:=by
 obtain⟨p1,m1,k1,p2,m2,k2,e1,e2⟩:=qbO h;exact⟨_,_,p1,m1,k1,p2,m2,k2,_,_,rfl,rfl,by unfold txV;rw[e1,e2]⟩
def qeF (v:Value) (l:List ByteArray) (w:World) (h:PatS w v l):Calls prog 77 #[v] w fun e w'=>e=.returned (.bool (patsF l))/\Ext w w':=by
 have hz9:=h.2.2;obtain⟨h,hz,-⟩:=h;obtain⟨p,cap,rfl,hp⟩:=qav h;obtain⟨n,hn⟩:∃ n,l.length=n:=⟨_,rfl⟩
 obtain⟨q,hq⟩:∃ q,patG none l=q:=⟨_,rfl⟩
 unfold patsF;rw[hq,hn];rw[hn] at hz9;have HN:=J hn;have hln:(n:Int)<=140737488351232:=Y;have HQ:=J hq;have KP:=J (fun s (hs:s∈l) W=>rpat_any s (by have:=hz s hs;unfold maxLen;omega) W);have AH:=J (fun s y (hs:s∈l) (hy:y∈l) W=>ahead_any s y (by have:=hz s hs;unfold maxLen;omega) (by have:=hz y hy;unfold maxLen;omega) W);clear h hz hn hq hz9;go_enter func77,ntmps77;go_wp2_with fail;go_loopw [3] (fun i wr=>∃ k:Nat,i=.int .i64 (k:Int)/\k<=n/\patG (prevP l k) (l.drop k)=q/\Ext w wr) (fun i _=>n-(intOf i).toNat)
 case atStart=>exact⟨0,rfl,Nat.zero_le _,HQ.out,Ext.refl _⟩
 case round =>
  obtain⟨k,rfl,hk,hch,d,os,rfl⟩:=hrel;by_cases hlt:k<n
  case neg =>
   have hkn:n=k:=Y;subst hkn;have hq2:q=true:=by rw[<-hch,List.drop_eq_nil_of_le jj];cases prevP l n<;>rfl
   subst hq2;clear hch hk hlt;go_wp2_with fail;go_ret;exact⟨ret_bool (by simp only[Bool.true_and,decide_eq_decide];omega),zq⟩
  obtain⟨s,hs⟩:∃ s,l[k]?=some s:=⟨_,List.getElem?_eq_getElem jj⟩
  obtain⟨b,off,rfl,hc⟩:=hp.out k s hs;have hbl:=World.block_lt_of_cell? _ _ hc;have hsm:=List.mem_of_getElem? hs;have KS:=J (KP.out s hsm);have HLT:=J hlt;cases hb:patB s
  . rw[hb] at KS;have hq2:q=false:=(by rw[<-hch];exact patG_bad hs _ hb)
    subst hq2;clear hch hs hb hsm
    go_wp2_with ((with_reducible refine (KS.out _).mono ?_);rintro e' _ ⟨rfl,d1,os1,rfl⟩)
    go_ret;exact⟨ret_bool zy,zq⟩
  rw[hb] at KS;rcases k with _ | k
  . have HC:=J (show patG (some s) (l.drop 1)=q from by rw[<-qfP hs hb];exact hch);simp only[Nat.add_zero] at hc;have HS:=J hs;clear hch hb hs hsm
    go_wp2_with ((with_reducible refine (KS.out _).mono ?_);rintro e' _ ⟨rfl,d1,os1,rfl⟩)
    refine qaa 15 34 (List.replicate 15 false) zv zv rfl ?_;refine zh ?_
    repeat(refine Lex.step rfl ?_;intro K hK;unfold StepG;go_simp;(refine hK _ ?_);clear hK K)
    refine zd ?_;intro dd oo;go_wp2_with fail
    try rw[ends_normal]
    try go_wp2_with fail
    go_roundw
    case rel=>exact⟨1,by go_num,by have:=HLT.out;omega,by rw[show prevP l 1=some s from HS.out];exact HC.out,zq⟩
    case measure=>simp[intOf];have:=HLT.out;omega
  . obtain⟨y,hy⟩:∃ y,l[k]?=some y:=⟨_,List.getElem?_eq_getElem jj⟩
    obtain⟨b',off',he,hc'⟩:=hp.out k y hy;simp only[Option.some.injEq,Addr.mk.injEq] at he;obtain⟨rfl,rfl,-⟩:=he;have HS:=J hs;have AS:=J (AH.out y s (List.mem_of_getElem? hy) hsm);rw[show prevP l (k+1)=some y from hy,patG_step hs hb] at hch;have kk0:(0:Int)<(k:Int)+1:=Y;have kk1:(0:Int)<=(k:Int):=Y;have kk3:(0:Int)<=(k:Int)+1:=Y;have kk4:(k:Int)+1<(n:Int):=Y;have kw3:((k:Int)+1).toNat=k+1:=Y;have kk2:(k:Int)<(n:Int):=Y;have kw1:IntKind.i64.wrap (k:Int)=(k:Int):=IntWalk.i64_in _ Y;clear hs hb hy hsm hlt hk;cases ho:ltB y s
    . have hq2:q=false:=(by rw[<-hch,ho];rfl)
      rw[ho] at AS;subst hq2;clear hch ho
      go_wp2_with ((with_reducible refine (KS.out _).mono ?_);rintro e' _ ⟨rfl,d1,os1,rfl⟩)
      refine qaa 15 34 (List.replicate 15 false) zv zv rfl ?_;refine zh ?_
      repeat(refine Lex.step rfl ?_;intro K hK;unfold StepG;go_simp;(first | refine hK _ ?_ | ((with_reducible refine ⟨_,fun d os=>(ret1 (AS.out _)),?_⟩);go_simp;refine hK _ ?_));clear hK K)
      refine zd ?_;intro dd oo;go_wp2_with fail
      try rw[ends_normal]
      try go_wp2_with fail
      go_ret;exact⟨ret_bool zy,zq⟩
    . rw[ho] at AS;rw[ho,Bool.true_and] at hch;have HC:=J hch;clear hch ho
      go_wp2_with ((with_reducible refine (KS.out _).mono ?_);rintro e' _ ⟨rfl,d1,os1,rfl⟩)
      refine qaa 15 34 (List.replicate 15 false) zv zv rfl ?_;refine zh ?_
      repeat(refine Lex.step rfl ?_;intro K hK;unfold StepG;go_simp;(first | refine hK _ ?_ | ((with_reducible refine ⟨_,fun d os=>(ret1 (AS.out _)),?_⟩);go_simp;refine hK _ ?_));clear hK K)
      refine zd ?_;intro dd oo;go_wp2_with fail
      try rw[ends_normal]
      try go_wp2_with fail
      go_roundw
      case rel=>exact⟨k+2,by go_num,by have:=HLT.out;omega,by rw[show prevP l (k+2)=some s from HS.out];exact HC.out,zq⟩
      case measure=>simp[intOf];have:=HLT.out;omega
def rcheck22_any (x:Tx) (w:World) (h:TxAt w x):Calls prog 59 #[txV x] w fun e w'=>e=.returned (.tuple #[.int .i64 (chkT x).1,.int .i64 (chkT x).2])/\Ext w w':=by
  obtain⟨hr,hw,hz,h1,h2,h3⟩:=h;have PR:=J (fun W (hx:Ext w W)=>qeF x.rv x.rd W (hr.ext hx));have PW:=J (fun W (hx:Ext w W)=>qeF x.wv x.wr W (hw.ext hx));have CS:=J (fun W=>rsrc20_any x.src W);obtain⟨p1,m1,k1,hv1⟩:∃ p m k,x.rv=.slice p m k:=by obtain⟨p,c,e,-⟩:=qav hr.1;exact⟨p,_,c,e⟩
  obtain⟨p2,m2,k2,hv2⟩:∃ p m k,x.wv=.slice p m k:=by obtain⟨p,c,e,-⟩:=qav hw.1;exact⟨p,_,c,e⟩
  obtain⟨r,hr0⟩:∃ r,chkT x=r:=⟨_,rfl⟩
  rw[hr0];unfold chkT at hr0;obtain⟨pr,hpr⟩:∃ b,patsF x.rd=b:=⟨_,rfl⟩
  obtain⟨pw,hpw⟩:∃ b,patsF x.wr=b:=⟨_,rfl⟩
  obtain⟨c,a,hca⟩:∃ c a,srcE x.src=(c,a):=⟨_,_,rfl⟩
  rw[hpr] at PR hr0;rw[hpw] at PW hr0;rw[hca] at CS hr0;obtain⟨nm,hnm⟩:∃ b,numsT x=b:=⟨_,rfl⟩
  rw[hnm] at hr0;have HR:=J hr0;have HNM:Hid (nm=decide (0<=x.c/\x.c<=255/\1<=x.t/\x.t<=2147483647/\0<=x.gas/\x.gas<=100000)):=J (by rw[<-hnm];unfold numsT;simp only[Bool.decide_and,Bool.and_assoc]);clear hr0 hpr hpw hca hr hw hnm;obtain⟨xc,xt,xrv,xwv,xs,xg,xrd,xwr⟩:=x;dsimp only at hv1 hv2;subst hv1 hv2;unfold txV;dsimp only at HNM;go_enter func59,ntmps59
  go_wp2_with (first
    | ((with_reducible refine (PR.out _ zq).mono ?_);rintro e' _ ⟨rfl,d1,os1,rfl⟩)
    | ((with_reducible refine (PW.out _ zq).mono ?_);rintro e' _ ⟨rfl,d1,os1,rfl⟩)
    | ((with_reducible refine (CS.out _).mono ?_);rintro e' _ ⟨p,n,cc,fi,rfl,d1,os1,rfl⟩))
  all_goals
    go_ret2
    exact⟨by
      rw[<-HR.out]
      first
        | (have hnm:nm=true:=by rw[HNM.out];exact decide_eq_true Y
           simp_all;done)
        | (have hnm:nm=false:=by rw[HNM.out];exact decide_eq_false Y
           simp_all;done),zq⟩
def qfQ (x:Tx) (w:World) (h:TxAt w x):Calls prog 33 #[txV x] w fun e w'=>e=.returned (.bool (okT x))/\Ext w w':=by
 have CK:=J (fun W (hx:Ext w W)=>rcheck22_any x W (h.ext hx));obtain⟨c,u,p1,m1,k1,p2,m2,k2,s,g,-,-,hV⟩:=tx_cells22 x h;rw[hV] at CK ⊢;unfold okT;obtain⟨r,hr⟩:∃ r,chkT x=r:=⟨_,rfl⟩
 rw[hr] at CK ⊢;obtain⟨e,a⟩:=r;clear h hr hV;go_enter func33,ntmps33
 go_wp2_with ((with_reducible refine (CK.out _ zq).mono ?_);rintro e' _ ⟨rfl,d1,os1,rfl⟩)
 go_ret;exact⟨rfl,zq⟩
end Go.Proofs.YtpnabjopfpdkhaaGreatDoor
