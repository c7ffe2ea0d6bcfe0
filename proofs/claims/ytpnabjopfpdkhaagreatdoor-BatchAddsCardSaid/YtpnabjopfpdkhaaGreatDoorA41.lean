/- Lemmas. -/
import Derived.Test.YtpnabjopfpdkhaaGreatDoorA29
import Derived.Test.YtpnabjopfpdkhaaGreatDoorA32
import Derived.Test.YtpnabjopfpdkhaaGreatDoorA40
import Derived.Deep.DeepCutAuto
set_option linter.unusedSimpArgs false
set_option linter.unusedVariables false
set_option maxHeartbeats 4000000
set_option maxRecDepth 20000
namespace Go.Proofs.YtpnabjopfpdkhaaGreatDoor
open Go.RowKit
attribute [go_sem] more_more Array.size_append
theorem rsrc20_any (s:ByteArray) (w:World):Calls Tryz.prog 78 #[.string s] w fun e w'=>∃ p n c fi,e=.returned (.tuple #[.agg #[.slice p n c,.int .i64 fi],.int .i64 (srcE s).1,.int .i64 (srcE s).2])∧Ext w w':=by
 unfold srcE
 cases hr:qaU s.data.toList with
 | error x =>
  obtain⟨c,a⟩:=x
  exact(qgk s c a hr (src_err hr) w).mono fun _ _ ⟨h1,h2⟩=>⟨_,_,_,_,h1,h2⟩
 | ok x =>
  obtain⟨ns,fi⟩:=x
  obtain⟨l,mo,e,a,hf⟩:∃ l mo e a,qbg ns fi=(l,mo,e,a):=⟨_,_,_,_,rfl⟩
  dsimp only;rw[hf]
  exact(rsource20_ok s ns fi hr l mo e a hf w).mono fun _ _ ⟨nv,h1,h2,h3⟩=>by
   obtain⟨p,c,rfl⟩:=qae h2
   exact⟨_,_,_,_,h1,h3⟩
theorem tx_cells22 (t:Tx) {w:World} (h:TxAt w t):∃ c u p1 m1 k1 p2 m2 k2 s g,t.c=c∧t.t=u∧txV t=.agg #[.int .i64 c,.int .i64 u,.slice p1 m1 k1,.slice p2 m2 k2,.string s,.int .i64 g]:=by
 obtain⟨p1,m1,k1,p2,m2,k2,e1,e2⟩:=qbK h
 exact⟨_,_,p1,m1,k1,p2,m2,k2,_,_,rfl,rfl,by unfold txV;rw[e1,e2]⟩
theorem qeO (v:Value) (l:List ByteArray) (w:World) (h:PatS w v l):Calls Tryz.prog 77 #[v] w fun e w'=>e=.returned (.bool (patsF l))∧Ext w w':=by
 have hz9:=h.2.2
 obtain⟨h,hz,-⟩:=h
 obtain⟨p,cap,rfl,hp⟩:=qaE h
 obtain⟨n,hn⟩:∃ n,l.length=n:=⟨_,rfl⟩
 obtain⟨q,hq⟩:∃ q,patG none l=q:=⟨_,rfl⟩
 unfold patsF;rw[hq,hn];rw[hn] at hz9;have HN:=Lib.hid hn
 have hln:(n:Int)≤140737488351232:=by omega
 have HQ:=Lib.hid hq;have KP:=Lib.hid (fun s (hs:s∈l) W=>rpat_any s (by have:=hz s hs;unfold maxLen;omega) W);have AH:=Lib.hid (fun s y (hs:s∈l) (hy:y∈l) W=>ahead_any s y (by have:=hz s hs;unfold maxLen;omega) (by have:=hz y hy;unfold maxLen;omega) W);clear h hz hn hq hz9;go_enter Tryz.func77,Tryz.ntmps77;go_wp2_with fail;go_loopw [3] (fun i wr=>∃ k:Nat,i=.int .i64 (k:Int)∧k≤n∧patG (prevP l k) (l.drop k)=q∧Ext w wr) (fun i _=>n-(intOf i).toNat)
 case atStart=>exact⟨0,rfl,Nat.zero_le _,HQ.out,Ext.refl _⟩
 case round =>
  obtain⟨k,rfl,hk,hch,d,os,rfl⟩:=hrel
  by_cases hlt:k<n
  case neg =>
   have hkn:n=k:=by omega
   subst hkn
   have hq2:q=true:=by rw[←hch,List.drop_eq_nil_of_le zap];cases prevP l n<;>rfl
   subst hq2;clear hch hk hlt;go_wp2_with fail;go_ret
   exact⟨ret_bool (by simp only[Bool.true_and,decide_eq_decide];omega),zaa⟩
  obtain⟨s,hs⟩:∃ s,l[k]?=some s:=⟨_,List.getElem?_eq_getElem zap⟩
  obtain⟨b,off,rfl,hc⟩:=hp.out k s hs
  have hbl:=World.block_lt_of_cell? _ _ hc;have hsm:=List.mem_of_getElem? hs;have KS:=Lib.hid (KP.out s hsm);have HLT:=Lib.hid hlt
  cases hb:patB s
  · rw[hb] at KS
    have hq2:q=false:=by rw[←hch];exact patG_bad hs _ hb
    subst hq2;clear hch hs hb hsm
    go_wp2_with ((with_reducible refine (KS.out _).mono ?_);rintro e' _ ⟨rfl,d1,os1,rfl⟩)
    go_ret
    exact⟨ret_bool zaj,zaa⟩
  rw[hb] at KS;rcases k with _ | k
  · have HC:=Lib.hid (show patG (some s) (l.drop 1)=q from by rw[←qfg hs hb];exact hch)
    simp only[Nat.add_zero] at hc;have HS:=Lib.hid hs;clear hch hb hs hsm
    go_wp2_with ((with_reducible refine (KS.out _).mono ?_);rintro e' _ ⟨rfl,d1,os1,rfl⟩)
    refine qaa 15 34 (List.replicate 15 false) zaf zaf rfl ?_;refine yac ?_
    repeat(refine Lex.step rfl ?_;intro K hK;unfold StepG;go_simp;(refine hK _ ?_);clear hK K)
    refine yaa ?_;intro dd oo;go_wp2_with fail
    try rw[ends_normal]
    try go_wp2_with fail
    go_roundw
    case rel=>exact⟨1,by go_num,by have:=HLT.out;omega,by rw[show prevP l 1=some s from HS.out];exact HC.out,zaa⟩
    case measure=>simp[intOf];have:=HLT.out;omega
  · obtain⟨y,hy⟩:∃ y,l[k]?=some y:=⟨_,List.getElem?_eq_getElem zap⟩
    obtain⟨b',off',he,hc'⟩:=hp.out k y hy
    simp only[Option.some.injEq,Addr.mk.injEq] at he
    obtain⟨rfl,rfl,-⟩:=he
    have HS:=Lib.hid hs;have AS:=Lib.hid (AH.out y s (List.mem_of_getElem? hy) hsm);rw[show prevP l (k+1)=some y from hy,patG_step hs hb] at hch
    have kk0:(0:Int)<(k:Int)+1:=by omega
    have kk1:(0:Int)≤(k:Int):=by omega
    have kk3:(0:Int)≤(k:Int)+1:=by omega
    have kk4:(k:Int)+1<(n:Int):=by omega
    have kw3:((k:Int)+1).toNat=k+1:=by omega
    have kk2:(k:Int)<(n:Int):=by omega
    have kw1:IntKind.i64.wrap (k:Int)=(k:Int):=IntWalk.i64_in _ zac
    clear hs hb hy hsm hlt hk
    cases ho:ltB y s
    · have hq2:q=false:=by rw[←hch,ho];rfl
      rw[ho] at AS;subst hq2;clear hch ho
      go_wp2_with ((with_reducible refine (KS.out _).mono ?_);rintro e' _ ⟨rfl,d1,os1,rfl⟩)
      refine qaa 15 34 (List.replicate 15 false) zaf zaf rfl ?_;refine yac ?_
      repeat(refine Lex.step rfl ?_;intro K hK;unfold StepG;go_simp;(first | refine hK _ ?_ | ((with_reducible refine ⟨_,fun d os=>(ret1 (AS.out _)),?_⟩);go_simp;refine hK _ ?_));clear hK K)
      refine yaa ?_;intro dd oo;go_wp2_with fail
      try rw[ends_normal]
      try go_wp2_with fail
      go_ret
      exact⟨ret_bool zaj,zaa⟩
    · rw[ho] at AS
      rw[ho,Bool.true_and] at hch;have HC:=Lib.hid hch;clear hch ho
      go_wp2_with ((with_reducible refine (KS.out _).mono ?_);rintro e' _ ⟨rfl,d1,os1,rfl⟩)
      refine qaa 15 34 (List.replicate 15 false) zaf zaf rfl ?_;refine yac ?_
      repeat(refine Lex.step rfl ?_;intro K hK;unfold StepG;go_simp;(first | refine hK _ ?_ | ((with_reducible refine ⟨_,fun d os=>(ret1 (AS.out _)),?_⟩);go_simp;refine hK _ ?_));clear hK K)
      refine yaa ?_;intro dd oo;go_wp2_with fail
      try rw[ends_normal]
      try go_wp2_with fail
      go_roundw
      case rel=>exact⟨k+2,by go_num,by have:=HLT.out;omega,by rw[show prevP l (k+2)=some s from HS.out];exact HC.out,zaa⟩
      case measure=>simp[intOf];have:=HLT.out;omega
theorem rcheck22_any (x:Tx) (w:World) (h:TxAt w x):Calls Tryz.prog 59 #[txV x] w fun e w'=>e=.returned (.tuple #[.int .i64 (chkT x).1,.int .i64 (chkT x).2])∧Ext w w':=by
  obtain⟨hr,hw,hz,h1,h2,h3⟩:=h
  have PR:=Lib.hid (fun W (hx:Ext w W)=>qeO x.rv x.rd W (hr.ext hx));have PW:=Lib.hid (fun W (hx:Ext w W)=>qeO x.wv x.wr W (hw.ext hx));have CS:=Lib.hid (fun W=>rsrc20_any x.src W)
  obtain⟨p1,m1,k1,hv1⟩:∃ p m k,x.rv=.slice p m k:=by obtain⟨p,c,e,-⟩:=qaE hr.1;exact⟨p,_,c,e⟩
  obtain⟨p2,m2,k2,hv2⟩:∃ p m k,x.wv=.slice p m k:=by obtain⟨p,c,e,-⟩:=qaE hw.1;exact⟨p,_,c,e⟩
  obtain⟨r,hr0⟩:∃ r,chkT x=r:=⟨_,rfl⟩
  rw[hr0];unfold chkT at hr0
  obtain⟨pr,hpr⟩:∃ b,patsF x.rd=b:=⟨_,rfl⟩
  obtain⟨pw,hpw⟩:∃ b,patsF x.wr=b:=⟨_,rfl⟩
  obtain⟨c,a,hca⟩:∃ c a,srcE x.src=(c,a):=⟨_,_,rfl⟩
  rw[hpr] at PR hr0;rw[hpw] at PW hr0;rw[hca] at CS hr0
  obtain⟨nm,hnm⟩:∃ b,numsT x=b:=⟨_,rfl⟩
  rw[hnm] at hr0;have HR:=Lib.hid hr0
  have HNM:Hid (nm=decide (0≤x.c∧x.c≤255∧1≤x.t∧x.t≤2147483647∧0≤x.gas∧x.gas≤100000)):=Lib.hid (by rw[←hnm];unfold numsT;simp only[Bool.decide_and,Bool.and_assoc])
  clear hr0 hpr hpw hca hr hw hnm
  obtain⟨xc,xt,xrv,xwv,xs,xg,xrd,xwr⟩:=x
  dsimp only at hv1 hv2;subst hv1 hv2;unfold txV;dsimp only at HNM;go_enter Tryz.func59,Tryz.ntmps59
  go_wp2_with (first
    | (go_at_call 77;(with_reducible refine (PR.out _ zaa).mono ?_);rintro e' _ ⟨rfl,d1,os1,rfl⟩)
    | (go_at_call 77;(with_reducible refine (PW.out _ zaa).mono ?_);rintro e' _ ⟨rfl,d1,os1,rfl⟩)
    | ((with_reducible refine (CS.out _).mono ?_);rintro e' _ ⟨p,n,cc,fi,rfl,d1,os1,rfl⟩))
  all_goals
    go_ret2
    exact⟨by
      rw[←HR.out]
      first
        | (have hnm:nm=true:=by rw[HNM.out];exact decide_eq_true zac
           simp_all;done)
        | (have hnm:nm=false:=by rw[HNM.out];exact decide_eq_false zac
           simp_all;done),zaa⟩
theorem qfv (x:Tx) (w:World) (h:TxAt w x):Calls Tryz.prog 33 #[txV x] w fun e w'=>e=.returned (.bool (okT x))∧Ext w w':=by
 have CK:=Lib.hid (fun W (hx:Ext w W)=>rcheck22_any x W (h.ext hx))
 obtain⟨c,u,p1,m1,k1,p2,m2,k2,s,g,-,-,hV⟩:=tx_cells22 x h
 rw[hV] at CK ⊢;unfold okT
 obtain⟨r,hr⟩:∃ r,chkT x=r:=⟨_,rfl⟩
 rw[hr] at CK ⊢
 obtain⟨e,a⟩:=r
 clear h hr hV;go_enter Tryz.func33,Tryz.ntmps33
 go_wp2_with (go_at_call 59;(with_reducible refine (CK.out _ zaa).mono ?_);rintro e' _ ⟨rfl,d1,os1,rfl⟩)
 go_ret
 exact⟨rfl,zaa⟩
end Go.Proofs.YtpnabjopfpdkhaaGreatDoor
