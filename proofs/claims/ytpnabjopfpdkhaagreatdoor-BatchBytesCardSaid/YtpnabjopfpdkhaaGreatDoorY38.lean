/- Lemmas. -/
import Derived.Test.YtpnabjopfpdkhaaGreatDoorY37
import Derived.Test.YtpnabjopfpdkhaaGreatDoorRows
import Derived.Deep.Strs
import Derived.Stop.LaidErr
import Derived.Stop.Joined
import Derived.LaidMore
import Derived.LaidLaws
import Derived.ChangeSame
import Derived.ChangeVars
import Derived.JoinedOf
import Derived.RowKitTokens
set_option linter.all false
set_option maxHeartbeats 4000000
set_option maxRecDepth 100000
namespace Go.Proofs.YtpnabjopfpdkhaaGreatDoor
open Go.Proofs.Tryz RowKit
variable {W w w':World} {v:Value} {l:List ByteArray} {B N k m n:Nat} {s:ByteArray} {t:List UInt8}
structure Tx where
 c:Int
 t:Int
 rv:Value
 wv:Value
 src:ByteArray
 gas:Int
 rd:List ByteArray
 wr:List ByteArray
def txL (x:Tx):List Value:=[.int .i64 x.c,.int .i64 x.t,x.rv,x.wv,.string x.src,.int .i64 x.gas]
def txV (x:Tx):Value:=.agg #[.int .i64 x.c,.int .i64 x.t,x.rv,x.wv,.string x.src,.int .i64 x.gas]
def txC (l:List Tx):List Value:=l.flatMap txL
def srcE (s:ByteArray):Int × Int:=match qaY s.data.toList with
 | .error x=>x
 | .ok (ns,fi)=>((qbi ns fi).2.2.1,(qbi ns fi).2.2.2)
def patG:Option ByteArray->List ByteArray->Bool
 | _,[]=>true
 | none,s::l=>patB s&&patG (some s) l
 | some y,s::l=>patB s&&(ltB y s&&patG (some s) l)
def patsF (l:List ByteArray):Bool:=patG none l&&decide (l.length<=8)
def numsT (x:Tx):Bool:=decide (0<=x.c)&&decide (x.c<=255)&&decide (1<=x.t)&&decide (x.t<=2147483647)&&decide (0<=x.gas)&&decide (x.gas<=100000)
def chkT (x:Tx):Int × Int :=
 if numsT x=false then(1,0) else if patsF x.rd=false then(1,1) else if patsF x.wr=false then(1,2) else if (srcE x.src).1=0 then(0,0) else((srcE x.src).1,3)
def okT (x:Tx):Bool:=(chkT x).1==0
def PatS (w:World) (v:Value) (l:List ByteArray):Prop:=StrsAt w v l/\(∀ s∈l,s.size<=140737488351232)/\l.length<=140737488351232
def TxAt (w:World) (x:Tx):Prop:=PatS w x.rv x.rd/\PatS w x.wv x.wr/\x.src.size<=140737488351232/\In64I x.c/\In64I x.t/\In64I x.gas
def PatS.ext (h:PatS w v l) (hx:Ext w w'):PatS w' v l:=⟨h.1.ext hx,h.2⟩
def TxAt.ext {x:Tx} (h:TxAt w x) (hx:Ext w w'):TxAt w' x:=⟨h.1.ext hx,h.2.1.ext hx,h.2.2⟩
def TxIn (w:World) (v:Value) (l:List Tx):Prop:=(∀ x∈l,TxAt w x)/\RowIn w txL 6 v l
def TxIn.ext {l:List Tx} (h:TxIn w v l) (hx:Ext w w'):TxIn w' v l:=⟨fun x hm=>(h.1 x hm).ext hx,h.2.ext hx⟩
attribute [go_sem] more_more Array.size_append
def src_err {s:List UInt8} {c a:Int} (h:qaY s=.error (c,a)):c≠0:=by
 unfold qaY at h
 split at h
 . exact parse_nz _ c a h
 . rename_i hq;simp only[Except.error.injEq,Prod.mk.injEq] at h;rw[<-h.1];exact hq
def qav (h:StrsAt w v l):∃ p cap,v=.slice p l.length cap/\Hid (∀ j u,l[j]?=some u->∃ b off,p=some ⟨b,off,none⟩/\w.cell? ⟨b,off+j,none⟩=some (.string u)):=by
 rcases h with ⟨p,cap,rfl,rfl⟩ | ⟨b,off,cap,rfl,h1,h2⟩
 . exact⟨p,cap,rfl,fun j u hj=>by simp at hj⟩
 . exact⟨_,cap,rfl,fun j u hj=>⟨b,off,rfl,h2 j u hj⟩⟩
def csrc_any (s:ByteArray) (w:World):Calls prog 73 #[.string s] w fun e w'=>∃ v,e=.returned (.tuple #[v,.int .i64 (srcE s).1,.int .i64 (srcE s).2])/\Ext w w':=by
 unfold srcE
 cases hr:qaY s.data.toList with
 | error x =>
  obtain⟨c,a⟩:=x
  exact(csource_err s c a hr (src_err hr) w).mono fun _ _ ⟨h1,h2⟩=>⟨_,h1,h2⟩
 | ok x =>
  obtain⟨ns,fi⟩:=x;have hz:∀ z∈ns,z.s.size<=maxLen:=fun z hm=>by have:=(source_tidy hr z hm).1;unfold maxLen;omega
  obtain⟨l,mo,e,a,hf⟩:∃ l mo e a,qbi ns fi=(l,mo,e,a):=⟨_,_,_,_,rfl⟩
  dsimp only;rw[hf];by_cases he:e=0
  . subst he;obtain⟨R,hR,-⟩:=code_of hf;exact(csource_ok s ns fi hr hz l mo a hf R hR w).mono fun _ _ ⟨c,h1,_,h2⟩=>⟨.pointer (some ⟨c,0,none⟩),by rw[h1,(qdV hf).2.1],h2⟩
  . exact(csource_no s ns fi hr hz l mo e a hf he w).mono fun _ _ ⟨h1,h2⟩=>⟨_,h1,h2⟩
def kpat_any (s:ByteArray) (hs:s.size<=maxLen) (B:Nat) (w:World) (h:SignsAt B w) (hB:B<=w.heap.size):Calls prog 83 #[.string s] w fun e w'=>e=.returned (.bool (patB s))/\Ext w w':=by
 have FM:=J (fun W (hx:Ext w W)=>formed_any s hs B W (h.ext hx hB) (Nat.le_trans hB hx.size));clear h hB;go_enter func83,ntmps83
 go_wp2_with ((with_reducible refine (FM.out _ zq).mono ?_);rintro e' _ ⟨rfl,d1,os1,rfl⟩)
 go_ret;exact⟨rfl,zq⟩
def numbers_anyT (x:Tx) (w:World):Calls prog 71 #[txV x] w fun e w'=>e=.returned (.bool (numsT x))/\Ext w w':=by
 obtain⟨c,t,rv,wv,src,gas,rd,wr⟩:=x;obtain⟨r,hr⟩:∃ r,numsT ⟨c,t,rv,wv,src,gas,rd,wr⟩=r:=⟨_,rfl⟩
 rw[hr];unfold numsT at hr;dsimp only at hr;have HR:=J hr;clear hr;unfold txV;go_enter func71,ntmps71;go_wp2_with fail
 all_goals
  go_ret;exact⟨ret_bool (by rw[<-HR.out];simp_all<;>omega),zq⟩
def patG_bad (hs:l[k]?=some s) (p:Option ByteArray) (h:patB s=false):patG p (l.drop k)=false:=by
 rw[List.drop_eq_getElem_cons (List.getElem?_eq_some_iff.1 hs).1,(List.getElem?_eq_some_iff.1 hs).2];cases p<;>simp[patG,h]
def qfP (hs:l[0]?=some s) (h:patB s=true):patG none (l.drop 0)=patG (some s) (l.drop 1):=by
 rw[List.drop_eq_getElem_cons (List.getElem?_eq_some_iff.1 hs).1,(List.getElem?_eq_some_iff.1 hs).2];simp[patG,h]
def patG_step {y:ByteArray} (hs:l[k]?=some s) (h:patB s=true):patG (some y) (l.drop k)=(ltB y s&&patG (some s) (l.drop (k+1))):=by
 rw[List.drop_eq_getElem_cons (List.getElem?_eq_some_iff.1 hs).1,(List.getElem?_eq_some_iff.1 hs).2];simp[patG,h]
def prevP (l:List ByteArray):Nat->Option ByteArray
 | 0=>none
 | k+1=>l[k]?
def le_str {a b:ByteArray} {r:Bool} (h:ltB a b=r):(Op.bytesLess b.toList a.toList||b.toList==a.toList)=!r:=by
 rw[bl_le,Lib.toList_data,Lib.toList_data];unfold ltB at h;rw[h]
def qeb (v:Value) (l:List ByteArray) (B:Nat) (w:World) (hS:SignsAt B w) (hB:B<=w.heap.size) (h:PatS w v l) (hz9:l.length<=140737488351232):Calls prog 72 #[v] w fun e w'=>e=.returned (.bool (patsF l))/\Ext w w':=by
 obtain⟨h,hz,-⟩:=h;obtain⟨p,cap,rfl,hp⟩:=qav h;obtain⟨n,hn⟩:∃ n,l.length=n:=⟨_,rfl⟩
 obtain⟨q,hq⟩:∃ q,patG none l=q:=⟨_,rfl⟩
 unfold patsF;rw[hq,hn];have HN:=J hn;have hln:(n:Int)<=140737488351232:=Y;have HQ:=J hq;have KP:=J (fun s (hs:s∈l) W (hx:Ext w W)=>kpat_any s (by have:=hz s hs;unfold maxLen;omega) B W (hS.ext hx hB) (Nat.le_trans hB hx.size));clear h hz hn hq hS hB;go_enter func72,ntmps72;go_wp2_with fail;go_loopw [7] (fun i wr=>∃ k:Nat,i=.int .i64 (k:Int)/\k<=n/\patG (prevP l k) (l.drop k)=q/\Ext w wr) (fun i _=>n-(intOf i).toNat)
 case atStart=>exact⟨0,rfl,Nat.zero_le _,HQ.out,Ext.refl _⟩
 case round =>
  obtain⟨k,rfl,hk,hch,d,os,rfl⟩:=hrel;by_cases hlt:k<n
  case neg =>
   have hkn:k=n:=Y;subst hkn;have hq2:q=true:=by rw[<-hch,List.drop_eq_nil_of_le jj];cases prevP l k<;>rfl
   subst hq2;clear hch hk hlt;go_wp2_with fail;go_ret;exact⟨ret_bool (by simp only[Bool.true_and,decide_eq_decide];omega),zq⟩
  obtain⟨s,hs⟩:∃ s,l[k]?=some s:=⟨_,List.getElem?_eq_getElem jj⟩
  obtain⟨b,off,rfl,hc⟩:=hp.out k s hs;have hbl:=World.block_lt_of_cell? _ _ hc;have KS:=J (KP.out s (List.mem_of_getElem? hs));have HLT:=J hlt;cases hb:patB s
  . rw[hb] at KS;have hq2:q=false:=(by rw[<-hch];exact patG_bad hs _ hb)
    subst hq2;clear hch hs hb
    go_wp2_with ((with_reducible refine (KS.out _ zq).mono ?_);rintro e' _ ⟨rfl,d1,os1,rfl⟩)
    go_ret;exact⟨ret_bool zy,zq⟩
  rw[hb] at KS;rcases k with _ | k
  . have HC:=J (show patG (some s) (l.drop 1)=q from by rw[<-qfP hs hb];exact hch);simp only[Nat.add_zero] at hc;have HS:=J hs;clear hch hb hs
    go_wp2_with ((with_reducible refine (KS.out _ zq).mono ?_);rintro e' _ ⟨rfl,d1,os1,rfl⟩)
    go_roundw
    case rel=>exact⟨1,by go_num,by have:=HLT.out;omega,by rw[show prevP l 1=some s from HS.out];exact HC.out,zq⟩
    case measure=>simp[intOf];have:=HLT.out;omega
  . obtain⟨y,hy⟩:∃ y,l[k]?=some y:=⟨_,List.getElem?_eq_getElem jj⟩
    obtain⟨b',off',he,hc'⟩:=hp.out k y hy;simp only[Option.some.injEq,Addr.mk.injEq] at he;obtain⟨rfl,rfl,-⟩:=he;have HS:=J hs;have hnz:l.length<=140737488351232:=hz9;have kk0:(0:Int)<(k:Int)+1:=Y;have kk1:(0:Int)<=(k:Int):=Y;have kk3:(0:Int)<=(k:Int)+1:=Y;have kk4:(k:Int)+1<(n:Int):=Y;have kk2:(k:Int)<(n:Int):=Y;have kw1:wrap64 (k:Int)=(k:Int):=IntWalk.wrap64_in _ jj;clear hnz;rw[show prevP l (k+1)=some y from hy,patG_step hs hb] at hch;cases ho:ltB y s
    . have hle:=le_str ho;have hq2:q=false:=(by rw[<-hch,ho];rfl)
      subst hq2;clear hch hs hb hy ho
      go_wp2_with ((with_reducible refine (KS.out _ zq).mono ?_);rintro e' _ ⟨rfl,d1,os1,rfl⟩)
      go_ret;exact⟨ret_bool zy,zq⟩
    . have hle:=le_str ho;rw[ho,Bool.true_and] at hch;have HC:=J hch;clear hch hs hb hy ho
      go_wp2_with ((with_reducible refine (KS.out _ zq).mono ?_);rintro e' _ ⟨rfl,d1,os1,rfl⟩)
      go_roundw
      case rel=>exact⟨k+2,by go_num,by have:=HLT.out;omega,by rw[show prevP l (k+2)=some s from HS.out];exact HC.out,zq⟩
      case measure=>simp[intOf];have:=HLT.out;omega
def qgi (x:Tx) (B:Nat) (w:World) (hS:SignsAt B w) (hB:B<=w.heap.size) (h:TxAt w x):Calls prog 52 #[txV x] w fun e w'=>e=.returned (.tuple #[.int .i64 (chkT x).1,.int .i64 (chkT x).2])/\Ext w w':=by
 obtain⟨hr,hw,-⟩:=h;have NM:=J (fun W=>numbers_anyT x W);have PR:=J (fun W (hx:Ext w W)=>qeb x.rv x.rd B W (hS.ext hx hB) (Nat.le_trans hB hx.size) (hr.ext hx) hr.2.2);have PW:=J (fun W (hx:Ext w W)=>qeb x.wv x.wr B W (hS.ext hx hB) (Nat.le_trans hB hx.size) (hw.ext hx) hw.2.2);have CS:=J (fun W=>csrc_any x.src W);obtain⟨r,hr0⟩:∃ r,chkT x=r:=⟨_,rfl⟩
 rw[hr0];unfold chkT at hr0;obtain⟨pr,hpr⟩:∃ b,patsF x.rd=b:=⟨_,rfl⟩
 obtain⟨pw,hpw⟩:∃ b,patsF x.wr=b:=⟨_,rfl⟩
 obtain⟨nm,hnm⟩:∃ b,numsT x=b:=⟨_,rfl⟩
 obtain⟨c,a,hca⟩:∃ c a,srcE x.src=(c,a):=⟨_,_,rfl⟩
 rw[hpr] at PR hr0;rw[hpw] at PW hr0;rw[hnm] at NM hr0;rw[hca] at CS hr0;have HR:=J hr0;clear hr0 hpr hpw hnm hca hr hw hS hB;obtain⟨xc,xt,xrv,xwv,xs,xg,xrd,xwr⟩:=x;unfold txV at NM ⊢;go_enter func52,ntmps52
 go_wp2_with (first
  | ((with_reducible refine (NM.out _).mono ?_);rintro e' _ ⟨rfl,d1,os1,rfl⟩)
  | ((with_reducible refine (PR.out _ zq).mono ?_);rintro e' _ ⟨rfl,d1,os1,rfl⟩)
  | ((with_reducible refine (PW.out _ zq).mono ?_);rintro e' _ ⟨rfl,d1,os1,rfl⟩)
  | ((with_reducible refine (CS.out _).mono ?_);rintro e' _ ⟨v,rfl,d1,os1,rfl⟩))
 all_goals
  go_ret2;exact⟨by rw[<-HR.out];simp_all,zq⟩
def qcO (x:Tx) (B:Nat) (w:World) (hS:SignsAt B w) (hB:B<=w.heap.size) (h:TxAt w x):Calls prog 28 #[txV x] w fun e w'=>e=.returned (.bool (!okT x))/\Ext w w':=by
 have CH:=J (fun W (hx:Ext w W)=>qgi x B W (hS.ext hx hB) (Nat.le_trans hB hx.size) (h.ext hx));obtain⟨c,hc⟩:∃ c,(chkT x).1=c:=⟨_,rfl⟩
 unfold okT;rw[hc] at CH ⊢;clear h hS hB hc;obtain⟨xc,xt,xrv,xwv,xs,xg,xrd,xwr⟩:=x;unfold txV at CH ⊢;go_enter func28,ntmps28
 go_wp2_with ((with_reducible refine (CH.out _ zq).mono ?_);rintro e' _ ⟨rfl,d1,os1,rfl⟩)
 go_ret;exact⟨ret_bool (by simp[bne]),zq⟩
def ofQ (q:List Tx) (c:Int):Option Nat:=q.findIdx? (fun x=>x.c==c)
def qdy (q:List Tx):Bool:=(q.zipIdx.all fun p=>ofQ q p.1.c==some p.2)&&decide (q.length<=64)&&q.all okT
def addQ (q:List Tx) (t:Tx) (d:List La):Except Int (List Tx) :=
 if qdy q=false\/okT t=false\/isL d=false then .error 1
 else if askE d t.c t.t≠6 then .error 18
 else match ofQ q t.c with
  | none=>if q.length=64 then .error 5 else .ok (q++[t])
  | some i=>match q[i]? with
   | none=>.error 1
   | some x=>if x.t=t.t then .error 16 else if t.t<x.t then .error 18 else .ok (q.set i t)
def dropQ (q:List Tx) (d:List La):Except Int (List Tx) :=
 if qdy q=false\/isL d=false then .error 1 else .ok (q.filter fun x=>askE d x.c x.t==6)
def ofQ_some {q:List Tx} {c:Int} {i:Nat} (h:ofQ q c=some i):∃ x,q[i]?=some x/\x.c=c/\∀ j y,j<i->q[j]?=some y->y.c≠c:=by
 unfold ofQ at h;rw[List.findIdx?_eq_some_iff_getElem] at h;obtain⟨hi,h1,h2⟩:=h;refine ⟨q[i],List.getElem?_eq_getElem hi,by simpa using h1,fun j y hj hy=>?_⟩;have:=h2 j hj;obtain⟨hjl,e⟩:=List.getElem?_eq_some_iff.1 hy;rw[e] at this
 simpa using this
def qbO {x:Tx} (h:TxAt w x):∃ p1 m1 k1 p2 m2 k2,x.rv=.slice p1 m1 k1/\x.wv=.slice p2 m2 k2:=by
 obtain⟨p1,k1,e1,-⟩:=qav h.1.1;obtain⟨p2,k2,e2,-⟩:=qav h.2.1.1;exact⟨p1,_,k1,p2,_,k2,e1,e2⟩
def idxI (p:Tx->Bool) (l:List Tx):Int:=match l.findIdx? p with
 | some i=>(i:Int)
 | none=>-1
def idxI_at {p:Tx->Bool} {l:List Tx} {x:Tx} (hx:l[k]?=some x) (hp:p x=true) (h:∀ j y,j<k->l[j]?=some y->p y=false):idxI p l=(k:Int):=by
 have hk:=(List.getElem?_eq_some_iff.1 hx).1;unfold idxI;rw[List.findIdx?_eq_some_iff_getElem.2 ⟨hk,by rw[(List.getElem?_eq_some_iff.1 hx).2];exact hp,fun j hj=>by rw[h j _ hj (List.getElem?_eq_getElem Y)];simp⟩]
def idxI_no {p:Tx->Bool} {l:List Tx} (h:∀ (j:Nat) y,l[j]?=some y->p y=false):idxI p l=-1:=by
 unfold idxI;rw[List.findIdx?_eq_none_iff.2 (fun x hx=>by obtain⟨j,hj⟩:=List.getElem?_of_mem hx;exact h j x hj)]
def qfc (gn:Nat) (cb:Array Value) (eg:∀ args w,(callFunc gn args).run prog w=.ok (.enter gn args) w) (p:Tx->Bool) (v:Value) (l:List Tx) (w:World) (h:TxIn w v l) (hl:l.length<=100000)
  (hp:∀ x∈l,∀ W,Ext w W->Calls prog gn (#[txV x]++cb) W fun e w'=>e=.returned (.bool (p x))/\Ext W w'):Calls prog 57 #[v,.func (.func gn) #[] cb] w fun e w'=>e=.returned (.int .i64 (idxI p l))/\Ext w w':=by
 obtain⟨ht,pp,cap,rfl,-,-,hr⟩:=h;obtain⟨n,hn⟩:∃ n,l.length=n:=⟨_,rfl⟩
 rw[hn] at hl ⊢;obtain⟨r,hr0⟩:∃ r,idxI p l=r:=⟨_,rfl⟩
 rw[hr0];have HN:=J hn;have HR:=J hr0;have HP:=J hp;have HC:=J hr;have hln:(n:Int)<=100000:=Y;clear ht hr hp hn hr0;go_enter func57,ntmps57;go_wp2_with fail
 go_loopg [5,8] n (fun gg _ s8 wr=>∃ k:Nat,k<=n/\n-k<=gg/\s8=.int .i64 k/\Ext w wr/\Hid (∀ j y,j<k->l[j]?=some y->p y=false))
 case atStart=>exact⟨0,Nat.zero_le _,Y,rfl,Ext.refl _,J fun j y hj=>absurd hj (Nat.not_lt_zero _)⟩
 case round =>
  obtain⟨k,hk,hg,rfl,⟨d,os,rfl⟩,A⟩:=hrel;by_cases hlt:k<n
  . have hltz:(k:Int)<(n:Int):=Y;have hk0:0<=(k:Int):=Y;obtain⟨x,hx⟩:∃ x,l[k]?=some x:=⟨_,List.getElem?_eq_getElem jj⟩
    obtain⟨b,off,rfl,hc⟩:=HC.out k x hx;have c0:=hc 0 _ rfl;have c1:=hc 1 _ rfl;have c2:=hc 2 _ rfl;have c3:=hc 3 _ rfl;have c4:=hc 4 _ rfl;have c5:=hc 5 _ rfl;have hbl:=World.block_lt_of_cell? _ _ c0;simp only[Nat.add_zero] at c0 hbl;have PX:=J (HP.out x (List.mem_of_getElem? hx));have HX:=J hx;clear hc hx;obtain⟨q,hq⟩:∃ q,p x=q:=⟨_,rfl⟩
    rw[hq] at PX;have HQ:=J hq;clear hq;obtain⟨xc,xt,xrv,xwv,xs,xg,xrd,xwr⟩:=x;unfold txV at PX;dsimp only at c0 c1 c2 c3 c4 c5 PX;cases q
    . go_wp2_with ((with_reducible refine (PX.out _ zq).mono ?_);rintro e' _ ⟨rfl,d1,os1,rfl⟩)
      go_roundg (n-(k+1))
      case measure=>omega
      case rel =>
       refine ⟨k+1,Y,Y,by go_num,zq,J fun j y hj hy=>?_⟩;by_cases e:j=k
       . subst e;rw[HX.out] at hy;cases hy;exact HQ.out
       . exact A.out j y Y hy
    . have HF:=J (idxI_at HX.out HQ.out A.out)
      go_wp2_with ((with_reducible refine (PX.out _ zq).mono ?_);rintro e' _ ⟨rfl,d1,os1,rfl⟩)
      go_ret;exact⟨ret_int (by rw[<-HR.out,HF.out]),zq⟩
  . have:k=n:=by omega
    subst this;have HF:=J (idxI_no (p:=p) (l:=l) fun j y hy=>A.out j y (by have:=(List.getElem?_eq_some_iff.1 hy).1;rw[HN.out] at this;exact this) hy);go_wp2_with fail;go_ret;exact⟨ret_int (by rw[<-HR.out,HF.out]),zq⟩
def qbM (gn:Nat) (cb:Array Value) (eg:∀ args w,(callFunc gn args).run prog w=.ok (.enter gn args) w) (p:Tx->Bool) (v:Value) (l:List Tx) (w:World) (h:TxIn w v l) (hl:l.length<=100000)
  (hp:∀ x∈l,∀ W,Ext w W->Calls prog gn (#[txV x]++cb) W fun e w'=>e=.returned (.bool (p x))/\Ext W w'):Calls prog 35 #[v,.func (.func gn) #[] cb] w fun e w'=>e=.returned (.bool (l.any p))/\Ext w w':=by
 have IX:=J (fun W (hx:Ext w W)=>qfc gn cb eg p v l W (h.ext hx) hl (fun x hm W' hx'=>hp x hm W' (hx.trans hx')));obtain⟨r,hr⟩:∃ r,idxI p l=r:=⟨_,rfl⟩
 have HR:=J (show decide (0<=r)=l.any p from by
  rw[<-hr];unfold idxI
  cases h:l.findIdx? p with
  | none =>
   rw[List.findIdx?_eq_none_iff] at h;rw[show l.any p=false from by rw[List.any_eq_false];intro x hx;rw[h x hx];simp];rfl
  | some i =>
   rw[List.findIdx?_eq_some_iff_getElem] at h;obtain⟨hi,h1,-⟩:=h;rw[show l.any p=true from List.any_eq_true.2 ⟨_,List.getElem_mem hi,h1⟩]
   simp)
 rw[hr] at IX;clear h hl hp hr;go_enter func35,ntmps35
 go_wp2_with ((with_reducible refine (IX.out _ zq).mono ?_);rintro e' _ ⟨rfl,d1,os1,rfl⟩)
 go_ret;exact⟨ret_bool HR.out,zq⟩
def entersOf (args:Array Value) (w:World):(callFunc 58 args).run prog w=.ok (.enter 58 args) w:=by kernel_rfl
def entersWr (args:Array Value) (w:World):(callFunc 28 args).run prog w=.ok (.enter 28 args) w:=by kernel_rfl
def of1_any (x:Tx) (c:Int) (b:Nat) (w:World) (hc:w.cell? ⟨b,0,none⟩=some (.int .i64 c)):Calls prog 58 (#[txV x]++#[.pointer (some ⟨b,0,none⟩)]) w fun e w'=>e=.returned (.bool (x.c==c))/\Ext w w':=by
 obtain⟨xc,xt,xrv,xwv,xs,xg,xrd,xwr⟩:=x;have hb:=World.block_lt_of_cell? _ _ hc;show Calls prog 58 #[.agg #[.int .i64 xc,.int .i64 xt,xrv,xwv,.string xs,.int .i64 xg],.pointer (some ⟨b,0,none⟩)] w fun e w'=>e=.returned (.bool (xc==c))/\Ext w w'
 go_enter func58,ntmps58;go_wp2_with fail;go_ret;exact⟨rfl,zq⟩
def bof_any (v:Value) (l:List Tx) (c:Int) (w:World) (h:TxIn w v l) (hl:l.length<=100000):Calls prog 32 #[v,.int .i64 c] w fun e w'=>e=.returned (.int .i64 (idxI (fun x=>x.c==c) l))/\Ext w w':=by
 have IX:=J (qfc _ #[.pointer (some ⟨w.heap.size,0,none⟩)] entersOf (fun x=>x.c==c) v l (w.alloc (.cells #[.int .i64 c] 3)) (h.ext ((Ext.refl _).alloc _)) hl (fun x hm W' hx'=>of1_any x c w.heap.size W' (cell_ext ((KB.new w #[.int .i64 c] 3).cell 0 _ rfl) hx')));obtain⟨r,hr⟩:∃ r,idxI (fun x=>x.c==c) l=r:=⟨_,rfl⟩
 rw[hr] at IX ⊢;clear h hl hr;go_enter func32,ntmps32
 go_wp2_with ((with_reducible refine (IX.out).mono ?_);rintro e' _ ⟨rfl,d1,os1,rfl⟩)
 go_ret;exact⟨rfl,zq⟩
def idx_of (l:List Tx) (c:Int) (k:Nat):(idxI (fun x=>x.c==c) l==(k:Int))=(ofQ l c==some k):=by
 unfold idxI ofQ
 cases h:l.findIdx? (fun x=>x.c==c) with
 | none=>simp
 | some i =>
  rw[Bool.eq_iff_iff,beq_iff_eq,beq_iff_eq,Option.some.injEq];exact Int.ofNat_inj
def ownsB (l:List Tx) (k:Nat):Bool:=((l.zipIdx).drop k).all fun p=>ofQ l p.1.c==some p.2
def owns_step {l:List Tx} {x:Tx} (h:l[k]?=some x):ownsB l k=((ofQ l x.c==some k)&&ownsB l (k+1)):=by
 have hk:=(List.getElem?_eq_some_iff.1 h).1;unfold ownsB;rw[List.drop_eq_getElem_cons (by simpa using hk),List.all_cons]
 congr 1
 simp[(List.getElem?_eq_some_iff.1 h).2]
def owns_end {l:List Tx}:ownsB l l.length=true:=by unfold ownsB;rw[List.drop_eq_nil_of_le zy];rfl
def queue_owns (l:List Tx):qdy l=(ownsB l 0&&(decide (l.length<=64)&&!(l.any fun x=>!okT x))):=by
 unfold qdy ownsB;rw[List.drop_zero,Bool.and_assoc]
 congr 2
 rw[List.any_eq_not_all_not];simp
def qfM (v:Value) (l:List Tx) (B:Nat) (w:World) (hS:SignsAt B w) (hB:B<=w.heap.size) (h:TxIn w v l) (hl:l.length<=100000):Calls prog 12 #[v] w fun e w'=>e=.returned (.bool (qdy l))/\Ext w w':=by
 have OF:=J (fun c W (hx:Ext w W)=>bof_any v l c W (h.ext hx) hl);have CT:=J (fun W (hx:Ext w W)=>qbM _ #[] entersWr (fun x=>!okT x) v l W (h.ext hx) hl (fun x hm W' hx'=>qcO x B W' (hS.ext (hx.trans hx') hB) (Nat.le_trans hB (hx.trans hx').size) ((h.1 x hm).ext (hx.trans hx'))));rw[queue_owns];obtain⟨ht,pp,cap,rfl,-,-,hr⟩:=h;obtain⟨q,hq⟩:∃ q,ownsB l 0=q:=⟨_,rfl⟩
 obtain⟨a,ha⟩:∃ a,(l.any fun x=>!okT x)=a:=⟨_,rfl⟩
 rw[ha] at CT;rw[hq,ha];have HL:=J (owns_end (l:=l));obtain⟨n,hn⟩:∃ n,l.length=n:=⟨_,rfl⟩
 rw[hn] at hl OF CT HL ⊢;have HN:=J hn;have HQ:=J hq;have HC:=J hr;have HT:=J ht;have hln:(n:Int)<=100000:=Y;clear ht hr hn hq ha hS hB;go_enter func12,ntmps12;go_wp2_with fail;go_loopw [7] (fun i wr=>∃ k:Nat,i=.int .i64 (k:Int)/\k<=n/\ownsB l k=q/\Ext w wr) (fun i _=>n-(intOf i).toNat)
 case atStart=>exact⟨0,rfl,Nat.zero_le _,HQ.out,Ext.refl _⟩
 case round =>
  obtain⟨k,rfl,hk,hch,d,os,rfl⟩:=hrel;by_cases hlt:k<n
  case neg =>
   have hkn:k=n:=Y;subst hkn;have hq2:q=true:=by rw[<-hch];exact HL.out
   subst hq2;clear hch hk hlt
   go_wp2_with ((with_reducible refine (CT.out _ zq).mono ?_);rintro e' _ ⟨rfl,d1,os1,rfl⟩)
   all_goals
    go_ret;exact⟨ret_bool (by simp_all<;>omega),zq⟩
  have hltz:(k:Int)<(n:Int):=Y;obtain⟨x,hx⟩:∃ x,l[k]?=some x:=⟨_,List.getElem?_eq_getElem jj⟩
  obtain⟨b,off,rfl,hc⟩:=HC.out k x hx;have c0:=hc 0 _ rfl;have c1:=hc 1 _ rfl;have c2:=hc 2 _ rfl;have c3:=hc 3 _ rfl;have c4:=hc 4 _ rfl;have c5:=hc 5 _ rfl;have hbl:=World.block_lt_of_cell? _ _ c0;simp only[Nat.add_zero] at c0 hbl;obtain⟨p1,m1,k1,p2,m2,k2,e1,e2⟩:=qbO (HT.out x (List.mem_of_getElem? hx));rw[owns_step hx,<-idx_of] at hch;have OX:=J (OF.out x.c);obtain⟨r,hr⟩:∃ r,idxI (fun y=>y.c==x.c) l=r:=⟨_,rfl⟩
  rw[hr] at OX hch;clear hc hx hr;obtain⟨xc,xt,xrv,xwv,xs,xg,xrd,xwr⟩:=x;dsimp only at c0 c1 c2 c3 c4 c5 OX e1 e2;subst e1 e2;have HLT:=J hlt;clear hlt;cases e:(r==(k:Int))
  . rw[e,Bool.false_and] at hch;subst hch;have e2:(r !=(k:Int))=true:=(by simp[bne,e])
    clear e
    go_wp2_with ((with_reducible refine (OX.out _ zq).mono ?_);rintro e' _ ⟨rfl,d1,os1,rfl⟩)
    go_ret;exact⟨ret_bool zy,zq⟩
  . rw[e,Bool.true_and] at hch;have e2:(r !=(k:Int))=false:=(by simp[bne,e])
    have HCH:=J hch;clear e hch
    go_wp2_with ((with_reducible refine (OX.out _ zq).mono ?_);rintro e' _ ⟨rfl,d1,os1,rfl⟩)
    go_roundw
    case rel=>exact⟨k+1,by go_num,by have:=HLT.out;omega,HCH.out,zq⟩
    case measure=>simp[intOf];have:=HLT.out;omega
def txInfo:(prog.info? 27).map (fun i=>(i.zero,i.size,i.bytes))=some (some (.agg #[.int .i64 0,.int .i64 0,.slice none 0 0,.slice none 0 0,.string ⟨#[]⟩,.int .i64 0]),6,88):=by kernel_rfl
def qca (x:Tx):(txL x).length=6:=rfl
def txC_one {l:List Tx} (h:∀ x∈l,TxAt w x):∀ u∈txC l,u.oneCell'=true:=by
 intro u hu;obtain⟨x,hx,hm⟩:=List.mem_flatMap.1 hu;obtain⟨p1,m1,k1,p2,m2,k2,e1,e2⟩:=qbO (h x hx);simp[txL,e1,e2] at hm;rcases hm with rfl | rfl | rfl | rfl | rfl | rfl<;>rfl
def TxRow (B:Nat) (w:World) (v:Value) (l:List Tx):Prop:=(∀ x∈l,∀ W:World,(∀ k,k<B->W.heap[k]?=w.heap[k]?)->TxAt W x)/\B<=w.heap.size/\w.ownsRow B 27 6 v l.length (txC l)
def TxRow.ext {l:List Tx} (h:TxRow B w v l) (hx:Ext w w'):TxRow B w' v l:=⟨fun x hm W hW=>h.1 x hm W (fun k hk=>(hW k hk).trans (hx.below.block k (Nat.lt_of_lt_of_le hk h.2.1))),Nat.le_trans h.2.1 hx.size,own_ext h.2.2 hx⟩
def TxRow.inn {l:List Tx} (h:TxRow B w v l):TxIn w v l:=⟨fun x hm=>h.1 x hm w (fun _ _=>rfl),RowIn.own qca h.2.2⟩
def PatS.blocks (h:PatS w v l) (hW:∀ k,k<w.heap.size->W.heap[k]?=w.heap[k]?):PatS W v l:=by
 obtain⟨h1,h2⟩:=h;refine ⟨?_,h2⟩;rcases h1 with h1 | ⟨b,off,cap,e,h3,h4⟩
 . exact .inl h1
 . exact .inr ⟨b,off,cap,e,h3,fun j u hj=>(World.cell?_of_block (hW b (World.block_lt_of_cell? _ _ (h4 j u hj)))).trans (h4 j u hj)⟩
def TxAt.blocks {x:Tx} (h:TxAt w x) (hW:∀ k,k<w.heap.size->W.heap[k]?=w.heap[k]?):TxAt W x:=⟨h.1.blocks hW,h.2.1.blocks hW,h.2.2⟩
def src_tx {l:List Tx} (h:TxIn w v l):Src prog 6 22 v l.length (txC l) w:=by
 obtain⟨ht,p,cap,rfl,hc,-,hr⟩:=h
 cases hl:l with
 | nil =>
  cases p with
  | none=>exact Src.ofNil w underlying22 cap
  | some a=>exact Src.ofSlice w underlying22 a 0 cap [] rfl zy zy
 | cons y r =>
  obtain⟨b,off,rfl,-⟩:=hr 0 y (by rw[hl];rfl);rw[<-hl];refine Src.ofSlice w underlying22 ⟨b,off,none⟩ l.length cap (txC l) (qgV qca l) (fun q u hq=>?_) (txC_one ht);obtain⟨j,i,x,rfl,hi,hj,hu⟩:=flat_inv qca l q u hq;obtain⟨b',off',he,hcell⟩:=hr j x hj;simp only[Option.some.injEq,Addr.mk.injEq] at he;obtain⟨rfl,rfl,-⟩:=he;rw[Addr.add_lit,<-Nat.add_assoc];exact hcell i u hu
def qfH (v:Value) (l:List Tx) (w:World) (h:TxIn w v l) (hl:l.length<=100000):Calls prog 31 #[v] w fun e w'=>∃ v',e=.returned v'/\TxRow w.heap.size w' v' l/\Ext w w':=by
 obtain⟨i0,hi,hz0,hz1,hz2⟩:=info_parts txInfo;have HSRC:=J (fun W (hx:Ext w W)=>src_tx (h.ext hx));have HT:=J (fun x (hm:x∈l) (W:World) (hx:∀ k,k<w.heap.size->W.heap[k]?=w.heap[k]?)=>(h.1 x hm).blocks hx);obtain⟨ht,p,cap,rfl,hc,-,hr⟩:=h;obtain⟨n,hn⟩:∃ n,l.length=n:=⟨_,rfl⟩
 have h0:p=none->l=[]:=fun e=>by
  cases hq:l with
  | nil=>rfl
  | cons y r =>
   obtain⟨b,off,he,-⟩:=hr 0 y (by rw[hq];rfl);rw[e] at he;cases he
 have HN:=J hn;have qe:∀ (w:World) (a:Option Addr) (n c n' c':Nat),(binOp .eql 22 (.slice a n c) (.slice none n' c')).run prog w=.ok (.bool a.isNone) w:=fun w a n c n' c'=>Lib.run_eql_slice_nil w _ _ a n c n' c' underlying22
 rw[hn] at HSRC hl ⊢;clear ht hr hn hc
 cases p with
 | none =>
  obtain rfl:=h0 rfl;clear HSRC;go_enter func31,ntmps31;go_wp2_with fail;go_ret
  exact⟨_,rfl,⟨zy,Nat.le_refl _,World.ownsRow_nil _ _ _ _⟩,Ext.refl _⟩
 | some a =>
  clear h0;go_enter func31,ntmps31
  go_wp2_with (at_builtin;refine qag _ rfl _ _ 22 22 rfl w.heap.size 27 i0 (.agg #[.int .i64 0,.int .i64 0,.slice none 0 0,.slice none 0 0,.string ⟨#[]⟩,.int .i64 0]) 6 88 underlying22 hi hz0 hz1 hz2 rfl zw _ 0 _ rfl (World.ownsRow_made w #[] 0 (Nat.le_refl _) (Nat.zero_le _) rfl) _ n _ rfl (HSRC.out _ ((Ext.refl _).alloc _)) ?c3 ?c4 ?c5 ?_)
  case c3=>unfold maxLen;omega
  case c4=>omega
  case c5=>simp
  intro v1 w1 hown hgrow _;go_wp2_with fail;go_ret;have HX:=Ext.grown ((Ext.refl w).alloc _) hgrow (fun k hk=>by simp[Value.ownBlock] at hk;omega);refine ⟨v1,rfl,⟨fun x hm W hW=>HT.out x hm W (fun k hk=>(hW k hk).trans (HX.below.block k hk)),HX.size,?_⟩,HX⟩;rw[HN.out]
  simpa using hown
def textX (s:ByteArray):ByteArray:=⟨(putB s.size).toArray⟩++s
def listX (n:Nat) (l:List ByteArray):ByteArray:=l.foldl (fun a s=>a++textX s) ⟨(putB n).toArray⟩
def listX_snoc (n:Nat) (l:List ByteArray) (s:ByteArray):listX n (l++[s])=listX n l++textX s:=by unfold listX;rw[List.foldl_append];rfl
def textX_len (h:s.size<=100000):(textX s).size<=100010:=by
 have hl:=qao 9 s.size Y;unfold textX;rw[ByteArray.size_append];have:(⟨(putB s.size).toArray⟩:ByteArray).size=(putB s.size).length:=by show(putB s.size).toArray.size=_;rw[List.size_toArray]
 omega
def listX_len (hn:n<=100000) (l:List ByteArray) (h:∀ s∈l,s.size<=100000):(listX n l).size<=10+l.length*100010:=by
 have go:∀ (l:List ByteArray) (a:ByteArray),(∀ s∈l,s.size<=100000)->(l.foldl (fun a s=>a++textX s) a).size<=a.size+l.length*100010:=by
  intro l
  induction l with
  | nil=>intro a _;simp
  | cons x l ih =>
   intro a h;have h1:=ih (a++textX x) (fun y hy=>h y (List.mem_cons_of_mem _ hy));have h2:=textX_len (h x zy);rw[ByteArray.size_append] at h1;rw[List.foldl_cons,List.length_cons];omega
 have hl:=qao 9 n Y;have h1:=go l ⟨(putB n).toArray⟩ h;have h2:(⟨(putB n).toArray⟩:ByteArray).size=(putB n).length:=by show(putB n).toArray.size=_;rw[List.size_toArray]
 unfold listX;omega
def qbA (v:Value) (l:List ByteArray) (w:World) (h:StrsAt w v l) (hs:∀ s∈l,s.size<=100000) (hl:l.length<=100000):Calls prog 37 #[v] w fun e w'=>e=.returned (.string (listX l.length l))/\Ext w w':=by
 obtain⟨p,cap,rfl,hp⟩:=qav h;have HLEN:=J (fun k (hk:k<=l.length)=>listX_len hl (l.take k) (fun s h=>hs s (List.mem_of_mem_take h)));obtain⟨n,hn⟩:∃ n,l.length=n:=⟨_,rfl⟩
 obtain⟨q,hq⟩:∃ q,listX n l=q:=⟨_,rfl⟩
 have HN:=J hn;rw[hn] at hl HLEN ⊢;rw[hq];have HQ:=J hq;have HS:=J hs;have hln:(n:Int)<=100000:=Y;clear h hs hn hq;go_enter func37,ntmps37
 go_wp2_with (go_at_call 42;refine (qbL (n:Int) Y Y _).mono ?_;rw[Int.toNat_natCast];rintro e _ ⟨rfl,d,os,rfl⟩)
 go_loopw [3,4] (fun s i wr=>∃ k:Nat,i=.int .i64 (k:Int)/\k<=n/\s=.string (listX n (l.take k))/\Ext w wr) (fun _ i _=>n-(intOf i).toNat)
 case atStart=>exact⟨0,rfl,Nat.zero_le _,rfl,zq⟩
 case round =>
  obtain⟨k,rfl,hk,rfl,d,os,rfl⟩:=hrel;have HL:=J (HLEN.out k hk);obtain⟨a,ha⟩:∃ a,listX n (l.take k)=a:=⟨_,rfl⟩
  rw[ha] at HL ⊢;have HA:=J ha;clear ha;by_cases hlt:k<n
  case neg =>
   have hkn:k=n:=Y;subst hkn;have hq2:q=a:=by rw[<-HA.out,<-HQ.out,List.take_of_length_le jj]
   subst hq2;clear hk hlt;go_wp2_with fail;go_ret;exact⟨rfl,zq⟩
  obtain⟨s,hs⟩:∃ s,l[k]?=some s:=⟨_,List.getElem?_eq_getElem jj⟩
  obtain⟨b,off,rfl,hc⟩:=hp.out k s hs;have hbl:=World.block_lt_of_cell? _ _ hc;have hz:=HS.out s (List.mem_of_getElem? hs);have TX:=J (fun W=>rtext_any s Y W);have HSN:=J hs;have hzt:=textX_len hz;have haz:(a.size:Int)<=100000000000:=by have:=HL.out;simp at this;omega
  obtain⟨t,ht⟩:∃ t,textX s=t:=⟨_,rfl⟩
  unfold textX at ht;rw[ht] at TX;have HT:=J ht;have htz:(t.size:Int)<=200000:=by rw[<-ht];unfold textX at hzt;omega
  have HLT:=J hlt;clear hs hz hzt ht
  go_wp2_with (((with_reducible refine (TX.out _).mono ?_);rintro e' _ ⟨rfl,d1,os1,rfl⟩))
  go_roundw
  case measure=>have:=HLT.out;simp[intOf];omega
  case rel=>exact⟨k+1,by go_num,by have:=HLT.out;omega,by rw[List.take_add_one,HSN.out,Option.toList_some,listX_snoc,HA.out];unfold textX;rw[HT.out],zq⟩
def TxSm (x:Tx):Prop:=(∀ s∈x.rd,s.size<=100000)/\x.rd.length<=100000/\(∀ s∈x.wr,s.size<=100000)/\x.wr.length<=100000
def sameX (a b:Tx):Bool:=a.c==b.c&&(a.t==b.t&&(a.gas==b.gas&&(decide (a.src=b.src)&&(decide (listX a.rd.length a.rd=listX b.rd.length b.rd)&&decide (listX a.wr.length a.wr=listX b.wr.length b.wr)))))
def bytes_inj {a b:ByteArray} (e:a.toList=b.toList):a=b:=ByteArray.ext (by simpa [ByteArray.toList_eq] using e)
def em_and {p q:Prop} (h:q):¬p\/p/\q:=(Classical.em p).elim (fun h1=>.inr ⟨h1,h⟩) .inl
def sameX_self (a:Tx):sameX a a=true:=by simp[sameX]
def rsame22_any (a b:Tx) (w:World) (ha:TxAt w a) (hb:TxAt w b) (sa:TxSm a) (sb:TxSm b):Calls prog 16 #[txV a,txV b] w fun e w'=>e=.returned (.bool (sameX a b))/\Ext w w':=by
 have A1:=J (fun W (hx:Ext w W)=>qbA a.rv a.rd W (ha.ext hx).1.1 sa.1 sa.2.1);have A2:=J (fun W (hx:Ext w W)=>qbA a.wv a.wr W (ha.ext hx).2.1.1 sa.2.2.1 sa.2.2.2);have B1:=J (fun W (hx:Ext w W)=>qbA b.rv b.rd W (hb.ext hx).1.1 sb.1 sb.2.1);have B2:=J (fun W (hx:Ext w W)=>qbA b.wv b.wr W (hb.ext hx).2.1.1 sb.2.2.1 sb.2.2.2);obtain⟨q,hq⟩:∃ q,sameX a b=q:=⟨_,rfl⟩
 rw[hq];unfold sameX at hq;obtain⟨p1,m1,k1,p2,m2,k2,e1,e2⟩:=qbO ha;obtain⟨p3,m3,k3,p4,m4,k4,e3,e4⟩:=qbO hb;obtain⟨ac,av,arv,awv,az,ag,ard,awr⟩:=a;obtain⟨bc,bt,brv,bwv,bz,bg,brd,bwr⟩:=b;dsimp only at hq A1 A2 B1 B2 e1 e2 e3 e4;unfold txV;dsimp only;subst e1 e2 e3 e4;obtain⟨x1,hx1⟩:∃ x,listX ard.length ard=x:=⟨_,rfl⟩
 obtain⟨x2,hx2⟩:∃ x,listX awr.length awr=x:=⟨_,rfl⟩
 obtain⟨x3,hx3⟩:∃ x,listX brd.length brd=x:=⟨_,rfl⟩
 obtain⟨x4,hx4⟩:∃ x,listX bwr.length bwr=x:=⟨_,rfl⟩
 rw[hx1] at A1 hq;rw[hx2] at A2 hq;rw[hx3] at B1 hq;rw[hx4] at B2 hq;have HQ:=J hq;clear hq ha hb sa sb hx1 hx2 hx3 hx4;rcases em_and (p:=ac=bc) (em_and (p:=av=bt) (em_and (p:=ag=bg) (em_and (p:=az=bz) (em_and (p:=x1=x3) (Classical.em (x2=x4)).symm)))) with h | ⟨rfl,h | ⟨rfl,h | ⟨rfl,h | ⟨rfl,h | ⟨rfl,h | rfl⟩⟩⟩⟩⟩
 all_goals
  first | (have hf:=eq_false h;obtain rfl:q=false:=by rw[<-HQ.out];simp[h]) | (obtain rfl:q=true:=by rw[<-HQ.out];simp)
  try have hg:=eq_false (fun e=>h (bytes_inj e))
  clear HQ;go_enter func16,ntmps16;go_wp2_with fail;refine qaa 49 53 (List.replicate 49 false) zv zv rfl ?_;refine zh ?_
  repeat(refine Lex.step rfl ?_;intro K hK;unfold StepG;go_simp;(first | refine hK _ ?_ | ((first | with_reducible refine ⟨_,fun d os=>(ret1 (A1.out _ zq)),?_⟩ | with_reducible refine ⟨_,fun d os=>(ret1 (A2.out _ zq)),?_⟩ | with_reducible refine ⟨_,fun d os=>(ret1 (B1.out _ zq)),?_⟩ | with_reducible refine ⟨_,fun d os=>(ret1 (B2.out _ zq)),?_⟩);go_simp;refine hK _ ?_));clear hK K)
  refine zd ?_;intro dd oo;go_wp2_with fail
  try rw[ends_normal]
  try go_wp2_with fail
  go_ret;exact⟨ret_bool (by first | (simp;done) | (simp;exact fun e=>h (bytes_inj e))),zq⟩
def numC (most:Nat) (l:List UInt8):Nat × List UInt8 × Int :=
 if (cutG 0 0 l).2.2≠0 then(0,l,(cutG 0 0 l).2.2) else if most<(cutG 0 0 l).1 then(0,l,8) else((cutG 0 0 l).1,l.drop (cutG 0 0 l).2.1,0)
def numS (most:Nat) (s:List UInt8 × Int):Nat × List UInt8 × Int:=if s.2≠0 then(0,s) else numC most s.1
def qaO:Nat->List UInt8->List ByteArray × List UInt8 × Int
 | 0,l=>([],l,0)
 | k+1,l=>if (cutT l).2.2≠0 then([],l,(cutT l).2.2) else
  if (qaO k (l.drop (cutT l).2.1)).2.2≠0 then([],l,(qaO k (l.drop (cutT l).2.1)).2.2)
  else(⟨(cutT l).1.toArray⟩::(qaO k (l.drop (cutT l).2.1)).1,(qaO k (l.drop (cutT l).2.1)).2.1,0)
def listC (l:List UInt8):List ByteArray × List UInt8 × Int :=
 if (numC 8 l).2.2≠0 then([],l,(numC 8 l).2.2) else if (qaO (numC 8 l).1 (numC 8 l).2.1).2.2≠0 then([],l,(qaO (numC 8 l).1 (numC 8 l).2.1).2.2) else qaO (numC 8 l).1 (numC 8 l).2.1
def listS (s:List UInt8 × Int):List ByteArray × List UInt8 × Int:=if s.2≠0 then([],s) else listC s.1
def txD (c t g:Nat) (rd wr:List ByteArray) (src:List UInt8):Tx:=⟨(c:Int),(t:Int),.slice none 0 0,.slice none 0 0,⟨src.toArray⟩,(g:Int),rd,wr⟩
def tx0:Tx:=txD 0 0 0 [] [] []
def decT (l:List UInt8):Tx × Int :=
 let c:=numS 255 (l,0)
 let t:=numS 2147483647 c.2
 let r:=listS t.2
 let w:=listS r.2
 let g:=numS 2147483647 w.2
 let n:=numS 4096 g.2
 if n.2.2≠0 then(tx0,n.2.2) else if n.2.1.length<n.1 then(tx0,2) else if n.1<n.2.1.length then(tx0,7)
 else if okT (txD c.1 t.1 g.1 r.1 w.1 n.2.1)=true then(txD c.1 t.1 g.1 r.1 w.1 n.2.1,0) else(tx0,1)
def decsC:Nat->List UInt8->List Tx × Int
 | 0,l=>if l=[] then([],0) else([],7)
 | k+1,l =>
  if (numC 18446744073709551615 l).2.2≠0 then([],(numC 18446744073709551615 l).2.2)
  else if (numC 18446744073709551615 l).2.1.length<(numC 18446744073709551615 l).1 then([],2)
  else if (decT ((numC 18446744073709551615 l).2.1.take (numC 18446744073709551615 l).1)).2≠0 then([],(decT ((numC 18446744073709551615 l).2.1.take (numC 18446744073709551615 l).1)).2)
  else if (decsC k ((numC 18446744073709551615 l).2.1.drop (numC 18446744073709551615 l).1)).2≠0 then([],(decsC k ((numC 18446744073709551615 l).2.1.drop (numC 18446744073709551615 l).1)).2)
  else((decT ((numC 18446744073709551615 l).2.1.take (numC 18446744073709551615 l).1)).1::(decsC k ((numC 18446744073709551615 l).2.1.drop (numC 18446744073709551615 l).1)).1,0)
def decL (l:List UInt8):List Tx × Int:=if (numC 64 l).2.2≠0 then([],(numC 64 l).2.2) else decsC (numC 64 l).1 (numC 64 l).2.1
def textB (s:ByteArray):List UInt8:=putB s.size++s.data.toList
def listB (l:List ByteArray):List UInt8:=putB l.length++l.flatMap textB
def encT (x:Tx):List UInt8:=putB x.c.toNat++putB x.t.toNat++listB x.rd++listB x.wr++putB x.gas.toNat++putB x.src.size++x.src.data.toList
def encL (l:List Tx):List UInt8:=putB l.length++l.flatMap fun t=>putB (encT t).length++encT t
def qbY {most x:Nat} (tl:List UInt8) (h:x<=most) (hm:x<18446744073709551616):numC most (putB x++tl)=(x,tl,0):=by
 have hg:=cutG_put x x 0 0 tl (Nat.le_refl _) Y Y Y;simp only[Nat.pow_zero,Nat.mul_one,Nat.zero_add] at hg;unfold numC;rw[hg];dsimp only;rw[if_neg zy,if_neg Y,List.drop_left]
def cutT_put (t tl:List UInt8) (h:t.length<=255):cutT (putB t.length++(t++tl))=(t,(putB t.length).length+t.length,0):=by
 have hg:=cutG_put t.length t.length 0 0 (t++tl) (Nat.le_refl _) Y Y Y;simp only[Nat.pow_zero,Nat.mul_one,Nat.zero_add] at hg;unfold cutT;rw[hg];dsimp only;rw[if_neg zy,if_neg Y,if_neg (by simp only[List.length_append];omega),List.drop_left,List.take_left]
def qfR:∀ (l:List ByteArray) (tl:List UInt8),(∀ s∈l,s.size<=255)->qaO l.length (l.flatMap textB++tl)=(l,tl,0)
 | [],tl,_=>rfl
 | s::l,tl,h=>by
  have hs:s.size=s.data.toList.length:=Array.length_toList.symm;have hc:=cutT_put s.data.toList (l.flatMap textB++tl) (by rw[<-hs];exact h s List.mem_cons_self)
  have e:(s::l).flatMap textB++tl=putB s.data.toList.length++(s.data.toList++(l.flatMap textB++tl)):=by
   rw[List.flatMap_cons,List.append_assoc];unfold textB;rw[hs,List.append_assoc]
  have ih:=qfR l tl fun x hx=>h x (List.mem_cons_of_mem _ hx)
  have ed:(putB s.data.toList.length++(s.data.toList++(l.flatMap textB++tl))).drop ((putB s.data.toList.length).length+s.data.toList.length)=l.flatMap textB++tl:=by
   rw[<-List.append_assoc,List.drop_left' List.length_append]
  rw[e,List.length_cons,qaO,hc];dsimp only;rw[ed,ih];simp
def listC_put (l:List ByteArray) (tl:List UInt8) (h:∀ s∈l,s.size<=255) (hl:l.length<=8):listC (listB l++tl)=(l,tl,0):=by
 have h1:numC 8 (listB l++tl)=(l.length,l.flatMap textB++tl,0):=by
  unfold listB;rw[List.append_assoc];exact qbY _ hl Y
 unfold listC;rw[h1];dsimp only;rw[if_neg zy,qfR l tl h];simp
def qfu:∀ (l:List ByteArray) (p:Option ByteArray),patG p l=true->∀ s∈l,s.size<=24
 | [],_,_,s,hs=>by cases hs
 | x::l,p,h,s,hs=>by
  have hx:patB x=true/\patG (some x) l=true:=by
   cases p<;>simp only[patG,Bool.and_eq_true] at h
   . exact h
   . exact⟨h.1,h.2.2⟩
  rcases List.mem_cons.1 hs with rfl | hs
  . have:=hx.1;unfold patB at this;simp only[Bool.and_eq_true,decide_eq_true_eq] at this;exact this.1
  . exact qfu l _ hx.2 s hs
def qdB {x:Tx} (h:okT x=true):numsT x=true/\patsF x.rd=true/\patsF x.wr=true:=by
 unfold okT chkT at h;cases h1:numsT x<;>cases h2:patsF x.rd<;>cases h3:patsF x.wr<;>simp_all
def qas (x:Tx):Tx:={ x with rv:=.slice none 0 0,wv:=.slice none 0 0 }
def okT_strip (x:Tx):okT (qas x)=okT x:=rfl
def decT_enc (x:Tx) (h:okT x=true) (hs:x.src.size<=4096):decT (encT x)=(qas x,0):=by
 obtain⟨h1,h2,h3⟩:=qdB h;unfold numsT at h1;simp only[Bool.and_eq_true,decide_eq_true_eq] at h1;obtain⟨⟨⟨⟨⟨c0,c1⟩,t0⟩,t1⟩,g0⟩,g1⟩:=h1;unfold patsF at h2 h3;rw[Bool.and_eq_true,decide_eq_true_eq] at h2 h3
 have e1:numS 255 (encT x,0)=(x.c.toNat,putB x.t.toNat++(listB x.rd++(listB x.wr++(putB x.gas.toNat++(putB x.src.size++x.src.data.toList)))),0):=by
  unfold numS encT;rw[if_neg zy];simp only[List.append_assoc];exact qbY _ Y Y
 have e2:numS 2147483647 (putB x.t.toNat++(listB x.rd++(listB x.wr++(putB x.gas.toNat++(putB x.src.size++x.src.data.toList)))),0)=(x.t.toNat,listB x.rd++(listB x.wr++(putB x.gas.toNat++(putB x.src.size++x.src.data.toList))),0):=by
  unfold numS;rw[if_neg zy];exact qbY _ Y Y
 have sm:∀ {l:List ByteArray},patG none l=true->∀ s∈l,s.size<=255:=fun q s hs=>by have:=qfu _ _ q s hs;omega
 have e3:listS (listB x.rd++(listB x.wr++(putB x.gas.toNat++(putB x.src.size++x.src.data.toList))),0)=(x.rd,listB x.wr++(putB x.gas.toNat++(putB x.src.size++x.src.data.toList)),0):=by
  unfold listS;rw[if_neg zy];exact listC_put _ _ (sm h2.1) h2.2
 have e4:listS (listB x.wr++(putB x.gas.toNat++(putB x.src.size++x.src.data.toList)),0)=(x.wr,putB x.gas.toNat++(putB x.src.size++x.src.data.toList),0):=by
  unfold listS;rw[if_neg zy];exact listC_put _ _ (sm h3.1) h3.2
 have e5:numS 2147483647 (putB x.gas.toNat++(putB x.src.size++x.src.data.toList),0)=(x.gas.toNat,putB x.src.size++x.src.data.toList,0):=by
  unfold numS;rw[if_neg zy];exact qbY _ Y Y
 have e6:numS 4096 (putB x.src.size++x.src.data.toList,0)=(x.src.size,x.src.data.toList,0):=by
  unfold numS;rw[if_neg zy];exact qbY _ Y Y
 have hl:x.src.data.toList.length=x.src.size:=Array.length_toList
 have ex:txD x.c.toNat x.t.toNat x.gas.toNat x.rd x.wr x.src.data.toList=qas x:=by
  unfold txD qas;rw[Int.toNat_of_nonneg c0,Int.toNat_of_nonneg Y,Int.toNat_of_nonneg g0]
 unfold decT;simp only[e1,e2,e3,e4,e5,e6];rw[if_neg zy,if_neg Y,if_neg Y,ex,okT_strip,if_pos h]
def decsC_enc:∀ (l:List Tx),(∀ x∈l,okT x=true/\x.src.size<=4096/\(encT x).length<18446744073709551616)->decsC l.length (l.flatMap fun t=>putB (encT t).length++encT t)=(l.map qas,0)
 | [],_=>rfl
 | x::l,h=>by
  obtain⟨h1,h2,h3⟩:=h x List.mem_cons_self
  have e:((x::l).flatMap fun t=>putB (encT t).length++encT t)=putB (encT x).length++(encT x++l.flatMap fun t=>putB (encT t).length++encT t):=by
   rw[List.flatMap_cons,List.append_assoc]
  have hn:=qbY (most:=18446744073709551615) (x:=(encT x).length) (encT x++l.flatMap fun t=>putB (encT t).length++encT t) Y h3;have ih:=decsC_enc l fun y hy=>h y (List.mem_cons_of_mem _ hy)
  rw[e,List.length_cons,decsC,hn];dsimp only;rw[if_neg zy,if_neg zy,List.take_left,List.drop_left,decT_enc x h1 h2,ih];simp
def decL_enc (l:List Tx) (h:∀ x∈l,okT x=true/\x.src.size<=4096/\(encT x).length<18446744073709551616) (hl:l.length<=64):decL (encL l)=(l.map qas,0):=by
 unfold decL encL;rw[qbY _ hl Y];dsimp only;rw[if_neg zy];exact decsC_enc l h
def cellsB_cell (l:List UInt8):∀ u∈qae l,u.oneCell'=true:=by
 intro u hu;unfold qae at hu;obtain⟨_,_,rfl⟩:=List.mem_map.1 hu;rfl
def textB_len (h:s.size<=255):(textB s).length<=257:=by
 have:=qao 1 s.size Y;have hl:s.data.toList.length=s.size:=Array.length_toList;unfold textB;rw[List.length_append];omega
def qbr (hn:n<=255):∀ (l:List ByteArray),(∀ s∈l,s.size<=255)->(putB n++l.flatMap textB).length<=2+l.length*257
 | [],_=>by have:=qao 1 n Y;simp;omega
 | s::l,h=>by
  have h1:=qbr hn l fun x hx=>h x (List.mem_cons_of_mem _ hx)
  have h2:=textB_len (h s List.mem_cons_self);rw[List.length_append] at h1 ⊢;rw[List.flatMap_cons,List.length_append,List.length_cons];omega
def app_core {ops:Array Oper} {rest:List Oper} {o:Oper} {a:Act} {Q:Exit->Act->World->Prop} (hgd:o.guard=none) (s x:Operand) (tx:TypeId) (ho:o.op=.call { callee:=.builtin .append,args:=#[s,x],argTypes:=#[53,tx] })
  {v u:Value} {A B:List UInt8} {nA nB:Nat} (h:w.ownsRow W.heap.size 5 1 v nA (qae A)) (hs:a.eval s=v) (hu:Src prog 1 tx u nB (qae B) w) (hx:a.eval x=u) (hX:Ext W w) (hA:0<A.length) (hnB:B.length=nB) (hl:A.length+B.length<=140737488355328)
  (H:∀ g c n w',Hid ((A++B).length=n)->Hid (w'.ownsRow W.heap.size 5 1 (.slice (some ⟨g,0,none⟩) n c) n (qae (A++B)))->Hid (Ext W w')->Hid (w.grownBy w' v.ownBlock)->wpList prog ops Q rest (a.put o.dst (.slice (some ⟨g,0,none⟩) n c)) w'):wpList prog ops Q (o::rest) a w:=by
 obtain⟨i0,hi,hz0,hz1,hz2⟩:=info_parts qcC;obtain rfl:A.length=nA:=by have:=h.1;rw[cellsB_length] at this;omega
 subst hnB;refine qag w hgd s x 53 tx ho W.heap.size 5 i0 (.int .u8 0) 1 1 underlying53 hi hz0 hz1 hz2 rfl zw v A.length (qae A) hs h u B.length (qae B) hx hu jq Y hX.size ?_;intro v' w' hown hgrow _;rw[<-qby,<-List.length_append] at hown;obtain⟨g,c,rfl,_,_⟩:=hown.form (by rw[List.length_append];omega);exact H g c _ w' (J rfl) (J hown) (J (hX.grown hgrow fun k hk=>(h.lt k hk).1)) (J hgrow)
def qfB {ops:Array Oper} {rest:List Oper} {o:Oper} {a:Act} {Q:Exit->Act->World->Prop} (hgd:o.guard=none) (s x:Operand) (ho:o.op=.call { callee:=.builtin .append,args:=#[s,x],argTypes:=#[53,53] })
  {v u:Value} {A B:List UInt8} {nA b0 nB:Nat} (h:w.ownsRow W.heap.size 5 1 v nA (qae A)) (hs:a.eval s=v) (hu:w.ownsRow b0 5 1 u nB (qae B)) (hx:a.eval x=u) (hX:Ext W w) (hA:0<A.length) (hl:A.length+B.length<=140737488355328)
  (H:∀ g c n w',Hid ((A++B).length=n)->Hid (w'.ownsRow W.heap.size 5 1 (.slice (some ⟨g,0,none⟩) n c) n (qae (A++B)))->Hid (Ext W w')->Hid (w.grownBy w' v.ownBlock)->wpList prog ops Q rest (a.put o.dst (.slice (some ⟨g,0,none⟩) n c)) w'):wpList prog ops Q (o::rest) a w :=
 app_core hgd s x 53 ho h hs (qfm underlying53 hu (cellsB_cell B)) hx hX hA (by have:=hu.1;rw[cellsB_length] at this;omega) hl H
def app_str {ops:Array Oper} {rest:List Oper} {o:Oper} {a:Act} {Q:Exit->Act->World->Prop} (hgd:o.guard=none) (s x:Operand) (ho:o.op=.call { callee:=.builtin .append,args:=#[s,x],argTypes:=#[53,9] })
  {v:Value} {t:ByteArray} {A:List UInt8} {nA:Nat} (h:w.ownsRow W.heap.size 5 1 v nA (qae A)) (hs:a.eval s=v) (hx:a.eval x=.string t) (hX:Ext W w) (hA:0<A.length) (hl:A.length+t.size<=140737488355328)
  (H:∀ g c n w',Hid ((A++t.data.toList).length=n)->Hid (w'.ownsRow W.heap.size 5 1 (.slice (some ⟨g,0,none⟩) n c) n (qae (A++t.data.toList)))->Hid (Ext W w')->Hid (w.grownBy w' v.ownBlock)->wpList prog ops Q rest (a.put o.dst (.slice (some ⟨g,0,none⟩) n c)) w'):wpList prog ops Q (o::rest) a w :=
 app_core hgd s x 9 ho h hs (by have:=Src.ofString w underlying9 t;rw[qdn] at this;exact this) hx hX hA Array.length_toList (by rw[show t.data.toList.length=t.size from Array.length_toList];exact hl) H
def kb6 {a0 a1 a2 a3 a4 a5:Value} {T:TypeId} (h:KB k #[a0,a1,a2,a3,a4,a5] T w):k<w.heap.size/\w.cell? ⟨k,0,none⟩=some a0/\w.cell? ⟨k,1,none⟩=some a1/\w.cell? ⟨k,2,none⟩=some a2/\w.cell? ⟨k,3,none⟩=some a3/\w.cell? ⟨k,4,none⟩=some a4/\w.cell? ⟨k,5,none⟩=some a5 :=
 ⟨h.lt,h.cell 0 _ rfl,h.cell 1 _ rfl,h.cell 2 _ rfl,h.cell 3 _ rfl,h.cell 4 _ rfl,h.cell 5 _ rfl⟩
def OwnB.out {e:Ending} {l:List UInt8} (h:OwnB w w' e l):∃ g c n,e=.returned (.slice (some ⟨g,0,none⟩) n c)/\Hid (l.length=n)/\Hid (w'.ownsRow w.heap.size 5 1 (.slice (some ⟨g,0,none⟩) n c) n (qae l))/\Hid (Ext w w'):=by
 obtain⟨g,c,he,ho,hx⟩:=h;exact⟨g,c,_,he,J rfl,J ho,J hx⟩
def OwnB.of {l:List UInt8} {g c:Nat} (hn:Hid (l.length=n)) (ho:Hid (w'.ownsRow w.heap.size 5 1 (.slice (some ⟨g,0,none⟩) n c) n (qae l))) (hx:Hid (Ext w w')):OwnB w w' (.returned (.slice (some ⟨g,0,none⟩) n c)) l:=by
 have e:=hn.out;subst e;exact⟨g,c,rfl,ho.out,hx.out⟩
def qea (v:Value) (l:List ByteArray) (w:World) (h:StrsAt w v l) (hs:∀ s∈l,s.size<=255) (hl:l.length<=255):Calls prog 66 #[v] w fun e w'=>OwnB w w' e (listB l):=by
 obtain⟨p,cap,rfl,hp⟩:=qav h;obtain⟨n,hn⟩:∃ n,l.length=n:=⟨_,rfl⟩
 unfold listB;have HN:=J hn;rw[hn] at hl ⊢;have HS:=J hs;have HBL:=J (fun k=>qbr hl (l.take k) fun s h=>hs s (List.mem_of_mem_take h));have hln:(n:Int)<=255:=Y;clear h hs hn;go_enter func66,ntmps66
 go_wp2_with (first
  | (go_at_call 46;refine (qbF _ Y Y _).mono ?_;intro e w1 h1;obtain⟨g,c,m,rfl,HM,HO,HX⟩:=h1.out;clear h1;simp only[Int.toNat_natCast] at HM HO))
 go_loopw [3,15] (fun o i wr=>∃ (k:Nat) (B:List UInt8) (g c m:Nat),i=.int .i64 (k:Int)/\k<=n/\putB n++(l.take k).flatMap textB=B/\o=.slice (some ⟨g,0,none⟩) m c/\Hid (B.length=m)/\Hid (wr.ownsRow w.heap.size 5 1 (.slice (some ⟨g,0,none⟩) m c) m (qae B))/\Hid (Ext w wr)) (fun _ i _=>n-(intOf i).toNat)
 case atStart=>exact⟨0,putB n,_,_,_,rfl,Nat.zero_le _,zy,rfl,HM,HO,HX⟩
 case round =>
  clear HM HO HX;obtain⟨k,B,g,c,m,rfl,hk,hB,rfl,HM,HO,HX⟩:=hrel;have HBB:=J hB;have HBl:=J (show B.length<=70000 from by have:=HBL.out k;rw[hB,List.length_take] at this;omega);clear hB;by_cases hlt:k<n
  case neg =>
   have hkn:k=n:=Y;subst hkn;have HE:=J (show putB k++l.flatMap textB=B from by rw[<-HBB.out,List.take_of_length_le jj]);clear hk hlt;go_wp2_with fail;go_ret;rw[HE.out];exact OwnB.of HM HO HX
  obtain⟨s,hs⟩:∃ s,l[k]?=some s:=⟨_,List.getElem?_eq_getElem jj⟩
  have hz:=HS.out s (List.mem_of_getElem? hs);have hsz:(s.size:Int)<=255:=Y;obtain⟨b,off,rfl,hc⟩:=hp.out k s hs;have hc2:=qaf hc HX.out;have hbl:=World.block_lt_of_cell? _ _ hc2;have TX:=J (fun W=>qfn s hsz W);have HNX:=J (show B++textB s=putB n++(l.take (k+1)).flatMap textB from by rw[List.take_add_one,hs,<-HBB.out];simp[List.append_assoc]);have HZ:=J (textB_len hz);have HPB:=J (show 0<B.length from by rw[<-HBB.out,List.length_append];have:=qdA n;omega);have hlt2:(k:Int)<(n:Int):=Y;clear hs hc
  go_wp2_with (first
   | ((with_reducible refine Calls.mono (TX.out _) ?_);intro e w2 h2;obtain⟨g2,c2,m2,rfl,HM2,HO2,HX2⟩:=h2.out;clear h2;have HO:=J (own_ext HO.out HX2.out);have HX:=J (HX.out.trans HX2.out))
   | (at_builtin;refine qfB rfl _ _ rfl HO.out rfl HO2.out rfl HX.out HPB.out (by have:=HBl.out;have:=HZ.out;unfold textB at this;omega) ?_;intro g c m w3 HM HO HX _))
  go_roundw
  case measure=>simp[intOf];omega
  case rel=>exact⟨k+1,B++textB s,g,c,m,by go_num,Y,HNX.out.symm,rfl,HM,HO,HX⟩
def tmay_any (x:Tx) (B:Nat) (w:World) (hS:SignsAt B w) (hB:B<=w.heap.size) (h:TxAt w x):Calls prog 65 #[txV x] w fun e w'=>e=.returned (.bool (okT x))/\Ext w w':=by
 have CH:=J (fun W (hx:Ext w W)=>qgi x B W (hS.ext hx hB) (Nat.le_trans hB hx.size) (h.ext hx));obtain⟨c,hc⟩:∃ c,(chkT x).1=c:=⟨_,rfl⟩
 unfold okT;rw[hc] at CH ⊢;clear h hS hB hc;obtain⟨xc,xt,xrv,xwv,xs,xg,xrd,xwr⟩:=x;unfold txV at CH ⊢;go_enter func65,ntmps65
 go_wp2_with (((with_reducible refine (CH.out _ zq).mono ?_);rintro e' _ ⟨rfl,d1,os1,rfl⟩))
 go_ret;exact⟨ret_bool zy,zq⟩
def tencode_any (x:Tx) (B:Nat) (w:World) (hS:SignsAt B w) (hB:B<=w.heap.size) (h:TxAt w x) (ok:okT x=true) (hz:x.src.size<=4096):Calls prog 47 #[txV x] w fun e w'=>OwnB w w' e (encT x):=by
 have MA:=J (fun W (hx:Ext w W)=>tmay_any x B W (hS.ext hx hB) (Nat.le_trans hB hx.size) (h.ext hx));rw[ok] at MA;obtain⟨h1,h2,h3⟩:=qdB ok;unfold numsT at h1;simp only[Bool.and_eq_true,decide_eq_true_eq] at h1;obtain⟨⟨⟨⟨⟨c0,c1⟩,t0⟩,t1⟩,g0⟩,g1⟩:=h1;unfold patsF at h2 h3;rw[Bool.and_eq_true,decide_eq_true_eq] at h2 h3;have sm:∀ {l:List ByteArray},patG none l=true->∀ s∈l,s.size<=255:=fun q s hs=>by have:=qfu _ _ q s hs;omega
 have LR:=J (fun W (hx:Ext w W)=>qea x.rv x.rd W (h.1.ext hx).1 (sm h2.1) Y);have LW:=J (fun W (hx:Ext w W)=>qea x.wv x.wr W (h.2.1.ext hx).1 (sm h3.1) Y);obtain⟨lr,hlr⟩:∃ b,listB x.rd=b:=⟨_,rfl⟩
 obtain⟨lw,hlw⟩:∃ b,listB x.wr=b:=⟨_,rfl⟩
 have QR:=J (show lr.length<=3000 from by rw[<-hlr];have:=qbr (show x.rd.length<=255 by omega) x.rd (sm h2.1);unfold listB;omega);have QW:=J (show lw.length<=3000 from by rw[<-hlw];have:=qbr (show x.wr.length<=255 by omega) x.wr (sm h3.1);unfold listB;omega);unfold encT;rw[hlr] at LR ⊢;rw[hlw] at LW ⊢;have HZ:=J hz;clear h ok h2 h3 sm hS hB hlr hlw;obtain⟨xc,xt,xrv,xwv,xs,xg,xrd,xwr⟩:=x;dsimp only at c0 c1 t0 t1 g0 g1 hz HZ LR LW ⊢;unfold txV at MA ⊢;have P1:=J (fun W=>qbF xc c0 Y W);have P2:=J (fun W=>qbF xt Y Y W);have P3:=J (fun W=>qbF xg g0 Y W);have P4:=J (fun W=>qbF (xs.size:Int) Y Y W);rw[Int.toNat_natCast] at P4;have QN:=J (And.intro (qao 9 xc.toNat Y) (And.intro (qao 9 xt.toNat Y) (And.intro (qao 9 xg.toNat Y) (And.intro (qao 9 xs.size Y) (And.intro (qdA xc.toNat) HZ.out)))));obtain⟨l1,hl1⟩:∃ l,putB xc.toNat=l:=⟨_,rfl⟩
 obtain⟨l2,hl2⟩:∃ l,putB xt.toNat=l:=⟨_,rfl⟩
 obtain⟨l3,hl3⟩:∃ l,putB xg.toNat=l:=⟨_,rfl⟩
 obtain⟨l4,hl4⟩:∃ l,putB xs.size=l:=⟨_,rfl⟩
 rw[hl1] at P1 QN ⊢;rw[hl2] at P2 QN ⊢;rw[hl3] at P3 QN ⊢;rw[hl4] at P4 QN ⊢;have u1:IntKind.u64.wrap xc=xc:=by rw[qaK];omega
 have u2:IntKind.u64.wrap xt=xt:=by rw[qaK];omega
 have u3:IntKind.u64.wrap xg=xg:=by rw[qaK];omega
 have u4:IntKind.u64.wrap (xs.size:Int)=(xs.size:Int):=by rw[qaK];omega
 clear hl1 hl2 hl3 hl4;go_enter func47,ntmps47
 go_wp2_with (first
  | (((with_reducible refine (MA.out _ zq).mono ?_);rintro e' _ ⟨rfl,d1,os1,rfl⟩)))
 clear MA;have XW:=J (show Ext w (w.alloc (.cells #[.int .i64 xc,.int .i64 xt,xrv,xwv,.string xs,.int .i64 xg] 27)) from zq);have K:=J (show ∀ W',Ext (w.alloc (.cells #[.int .i64 xc,.int .i64 xt,xrv,xwv,.string xs,.int .i64 xg] 27)) W'->KB w.heap.size #[.int .i64 xc,.int .i64 xt,xrv,xwv,.string xs,.int .i64 xg] 27 W' from fun W' hx=>(KB.new w _ _).of_ext hx);have hbs:=Nat.le_of_lt (K.out _ (Ext.refl _)).lt;generalize w.alloc (.cells #[.int .i64 xc,.int .i64 xt,xrv,xwv,.string xs,.int .i64 xg] 27)=W1 at *;obtain⟨bx,hbx⟩:∃ bx,w.heap.size=bx:=⟨_,rfl⟩
 rw[hbx] at K ⊢;have X:=J ((Ext.refl W1).more d1 os1);generalize more W1 d1 os1=w0 at *;obtain⟨lb,b0,b1,b2,b3,b4,b5⟩:=kb6 (K.out _ X.out);refine qaa 8 _ (List.replicate 8 false) zv zv rfl ?_;refine qg ?_
 iterate 3 (refine Lex.step rfl ?_;intro K hK;unfold StepG;go_simp;refine hK _ ?_;clear hK K)
 refine Lex.gap 10 (OwnFact W1.heap.size l1) rfl (OwnFact.upc _ _) rfl (fun d os=>?_) ?_
 . unfold StepG;go_simp;exact retO (P1.out _) (by have:=X.out.size;simp[more_size];omega)
 iterate 3 (refine Lex.step rfl ?_;intro K hK;unfold StepG;go_simp;refine hK _ ?_;clear hK K)
 refine Lex.gap 14 (OwnFact W1.heap.size l2) rfl (OwnFact.upc _ _) rfl (fun d os=>?_) ?_
 . unfold StepG;go_simp;exact retO (P2.out _) (by have:=X.out.size;simp[more_size];omega)
 refine Lex.nil fun WW hE=>?_
 obtain⟨dd,oo,rfl⟩:=hE;unfold FillH FillH;rintro _ ⟨g2,c2,rfl,o2⟩ _ ⟨g1,c1,rfl,o1⟩;unfold FillH;have X:=J (X.out.trans ((Ext.refl w0).more dd oo));have HO:=J o1;have HO2:=J o2;clear o1 o2 lb b0 b1 b2 b3 b4 b5;generalize more w0 dd oo=w1 at *;obtain⟨lb,b0,b1,b2,b3,b4,b5⟩:=kb6 (K.out _ X.out)
 go_wp2_with (at_builtin;refine qfB rfl _ _ rfl HO.out rfl HO2.out rfl X.out (by have:=QN.out;(try simp only[List.length_append]);omega) zbu ?_;intro g c m w3 HM HO X _;obtain⟨lb,b0,b1,b2,b3,b4,b5⟩:=kb6 (K.out _ X.out))
 rw[ends_normal]
 go_wp2_with (first
  | ((with_reducible refine Calls.mono (LR.out _ (XW.out.trans X.out)) ?_);intro e w2 h2;obtain⟨g2,c2,m2,rfl,HM2,HO2,HX2⟩:=h2.out;clear h2;have HO:=J (own_ext HO.out HX2.out);have X:=J (X.out.trans HX2.out);obtain⟨lb,b0,b1,b2,b3,b4,b5⟩:=kb6 (K.out _ X.out))
  | ((with_reducible refine Calls.mono (LW.out _ (XW.out.trans X.out)) ?_);intro e w2 h2;obtain⟨g2,c2,m2,rfl,HM2,HO2,HX2⟩:=h2.out;clear h2;have HO:=J (own_ext HO.out HX2.out);have X:=J (X.out.trans HX2.out);obtain⟨lb,b0,b1,b2,b3,b4,b5⟩:=kb6 (K.out _ X.out))
  | ((with_reducible refine Calls.mono (P3.out _) ?_);intro e w2 h2;obtain⟨g2,c2,m2,rfl,HM2,HO2,HX2⟩:=h2.out;clear h2;have HO:=J (own_ext HO.out HX2.out);have X:=J (X.out.trans HX2.out);obtain⟨lb,b0,b1,b2,b3,b4,b5⟩:=kb6 (K.out _ X.out))
  | ((with_reducible refine Calls.mono (P4.out _) ?_);intro e w2 h2;obtain⟨g2,c2,m2,rfl,HM2,HO2,HX2⟩:=h2.out;clear h2;have HO:=J (own_ext HO.out HX2.out);have X:=J (X.out.trans HX2.out);obtain⟨lb,b0,b1,b2,b3,b4,b5⟩:=kb6 (K.out _ X.out))
  | (at_builtin;refine qfB rfl _ _ rfl HO.out rfl HO2.out rfl X.out (by have:=QN.out;(try simp only[List.length_append]);omega) zbu ?_;intro g c m w3 HM HO X _;obtain⟨lb,b0,b1,b2,b3,b4,b5⟩:=kb6 (K.out _ X.out))
  | (at_builtin;refine app_str rfl _ _ rfl HO.out rfl rfl X.out (by have:=QN.out;(try simp only[List.length_append]);omega) zbu ?_;intro g c m w3 HM HO X _))
 go_ret;exact OwnB.of HM (J (HO.out.mono hbs)) (J (XW.out.trans X.out))
def qev {x:Tx} (ok:okT x=true) (hz:x.src.size<=4096):(encT x).length<=20000:=by
 obtain⟨h1,h2,h3⟩:=qdB ok;unfold numsT at h1;simp only[Bool.and_eq_true,decide_eq_true_eq] at h1;unfold patsF at h2 h3;rw[Bool.and_eq_true,decide_eq_true_eq] at h2 h3;have sm:∀ {l:List ByteArray},patG none l=true->∀ s∈l,s.size<=255:=fun q s hs=>by have:=qfu _ _ q s hs;omega
 have q1:=qbr (show x.rd.length<=255 by omega) x.rd (sm h2.1);have q2:=qbr (show x.wr.length<=255 by omega) x.wr (sm h3.1);have p1:=qao 9 x.c.toNat Y;have p2:=qao 9 x.t.toNat Y;have p3:=qao 9 x.gas.toNat Y;have p4:=qao 9 x.src.size Y;have hl:x.src.data.toList.length=x.src.size:=Array.length_toList;unfold encT listB;simp only[List.length_append] at *;omega
def tx_formC {x:Tx} (h:TxAt w x):∃ c u p1 m1 k1 p2 m2 k2 s g,txV x=.agg #[.int .i64 c,.int .i64 u,.slice p1 m1 k1,.slice p2 m2 k2,.string s,.int .i64 g]/\txL x=[.int .i64 c,.int .i64 u,.slice p1 m1 k1,.slice p2 m2 k2,.string s,.int .i64 g]:=by
 obtain⟨p1,k1,e1,_⟩:=qav h.1.1;obtain⟨p2,k2,e2,_⟩:=qav h.2.1.1;exact⟨_,_,p1,_,k1,p2,_,k2,_,_,by unfold txV;rw[e1,e2],by unfold txL;rw[e1,e2]⟩
def bencode_no (v:Value) (l:List Tx) (B:Nat) (w:World) (hS:SignsAt B w) (hB:B<=w.heap.size) (h:TxIn w v l) (hl:l.length<=100000) (hno:(l.all okT&&decide (l.length<=64))=false):Calls prog 25 #[v] w fun e w'=>e=.returned (.slice none 0 0)/\Ext w w':=by
 have CT:=J (fun W (hx:Ext w W)=>qbM 28 #[] (fun _ _=>by kernel_rfl) (fun y=>!okT y) v l W (h.ext hx) hl (fun y hm W' hx'=>qcO y B W' (hS.ext (hx.trans hx') hB) (Nat.le_trans hB (hx.trans hx').size) ((h.1 y hm).ext (hx.trans hx'))));obtain⟨_,p,cap,rfl,_,_,_⟩:=h;obtain⟨n,hn⟩:∃ n,l.length=n:=⟨_,rfl⟩
 rw[hn] at hno hl CT;have hln:(n:Int)<=100000:=Y;by_cases h64:n<=64
 . have hb:l.any (fun y=>!okT y)=true:=by
     rw[decide_eq_true h64,Bool.and_true] at hno;rw[List.all_eq_false] at hno;obtain⟨y,hy,hy2⟩:=hno;exact List.any_eq_true.2 ⟨y,hy,by simpa using hy2⟩
   rw[hb] at CT;have hn1:(64<(n:Int))=False:=zg;clear hno hb hS hB;go_enter func25,ntmps25
   go_wp2_with ((with_reducible refine Calls.mono (CT.out _ zq) ?_);rintro e' _ ⟨rfl,d1,os1,rfl⟩)
   go_ret;exact⟨rfl,zq⟩
 . have hn1:(64<(n:Int))=True:=zg;clear hno CT hS hB;go_enter func25,ntmps25;go_wp2_with fail;go_ret;exact⟨rfl,zq⟩
def itemB (t:Tx):List UInt8:=putB (encT t).length++encT t
def qer:∀ (l:List Tx),(∀ x∈l,okT x=true/\x.src.size<=4096)->(l.flatMap itemB).length<=l.length*20010
 | [],_=>by simp
 | x::l,h=>by
  have h1:=qer l fun y hy=>h y (List.mem_cons_of_mem _ hy)
  have h2:=qev (h x List.mem_cons_self).1 (h x List.mem_cons_self).2;have h3:=qao 9 (encT x).length Y;rw[List.flatMap_cons,List.length_append,List.length_cons];unfold itemB at h1 ⊢;rw[List.length_append];omega
def bencode_yes (v:Value) (l:List Tx) (B:Nat) (w:World) (hS:SignsAt B w) (hB:B<=w.heap.size) (h:TxIn w v l) (ok:l.all okT=true) (hl:l.length<=64) (hz:∀ x∈l,x.src.size<=4096):Calls prog 25 #[v] w fun e w'=>OwnB w w' e (encL l):=by
 have CT:=J (fun W (hx:Ext w W)=>qbM 28 #[] (fun _ _=>by kernel_rfl) (fun y=>!okT y) v l W (h.ext hx) Y (fun y hm W' hx'=>qcO y B W' (hS.ext (hx.trans hx') hB) (Nat.le_trans hB (hx.trans hx').size) ((h.1 y hm).ext (hx.trans hx'))))
 have hb:l.any (fun y=>!okT y)=false:=by
  rw[List.any_eq_false];intro y hy;rw[List.all_eq_true.1 ok y hy];simp
 rw[hb] at CT;have HALL:=J (fun y (hy:y∈l)=>And.intro (List.all_eq_true.1 ok y hy) (hz y hy));have TE:=J (fun y (hy:y∈l) W (hx:Ext w W)=>tencode_any y B W (hS.ext hx hB) (Nat.le_trans hB hx.size) ((h.1 y hy).ext hx) (List.all_eq_true.1 ok y hy) (hz y hy));obtain⟨ht,p,cap,rfl,_,_,hr⟩:=h;obtain⟨n,hn⟩:∃ n,l.length=n:=⟨_,rfl⟩
 unfold encL;have HN:=J hn;have HBL:=J (fun k=>qer (l.take k) fun s h=>HALL.out s (List.mem_of_mem_take h));rw[hn] at hl CT ⊢;have HT:=J ht;have HR:=J hr;have hln:(n:Int)<=64:=Y;have hn1:(64<(n:Int))=False:=zg;have u1:IntKind.u64.wrap (n:Int)=(n:Int):=by rw[qaK];omega
 have HP:=J (And.intro (qao 9 n Y) (qdA n));have P1:=J (fun W=>qbF (n:Int) Y Y W);rw[Int.toNat_natCast] at P1;clear ok hz hb hn ht hr hS hB;go_enter func25,ntmps25
 go_wp2_with (first
  | ((with_reducible refine Calls.mono (CT.out _ zq) ?_);rintro e' _ ⟨rfl,d1,os1,rfl⟩)
  | ((with_reducible refine Calls.mono (P1.out _) ?_);intro e w2 h2;obtain⟨g,c,m,rfl,HM,HO,HX⟩:=h2.out;clear h2))
 go_loopw [3,20] (fun o i wr=>∃ (k:Nat) (B:List UInt8) (g c m:Nat),i=.int .i64 (k:Int)/\k<=n/\Hid (putB n++(l.take k).flatMap itemB=B)/\o=.slice (some ⟨g,0,none⟩) m c/\Hid (B.length=m)/\Hid (wr.ownsRow w.heap.size 5 1 (.slice (some ⟨g,0,none⟩) m c) m (qae B))/\Hid (Ext w wr)) (fun _ i _=>n-(intOf i).toNat)
 case atStart=>exact⟨0,putB n,_,_,_,rfl,Nat.zero_le _,J zy,rfl,HM,J (HO.out.mono jf),J (Ext.trans zq HX.out)⟩
 case round =>
  clear HM HO HX;obtain⟨k,B,g,c,m,rfl,hk,HBB,rfl,HM,HO,X⟩:=hrel;have HBl:=J (show B.length<=2000000 from by have:=HBL.out k;have:=HP.out.1;rw[<-HBB.out,List.length_append];rw[List.length_take] at *;omega);by_cases hlt:k<n
  case neg =>
   have hkn:k=n:=Y;subst hkn;have HE:=J (show putB k++l.flatMap itemB=B from by rw[<-HBB.out,List.take_of_length_le jj]);clear hk hlt;go_wp2_with fail;go_ret;change OwnB _ _ _ (putB k++l.flatMap itemB);rw[HE.out];exact OwnB.of HM HO X
  obtain⟨y,hy⟩:∃ y,l[k]?=some y:=⟨_,List.getElem?_eq_getElem jj⟩
  have hym:=List.mem_of_getElem? hy;obtain⟨yc,yt,y1,z1,l1,y2,z2,l2,ys,yg,hV,hL⟩:=tx_formC (HT.out y hym);have T1:=J (TE.out y hym);rw[hV] at T1;obtain⟨b,off,rfl,hc⟩:=HR.out k y hy;rw[hL] at hc;have f0:=qaf (hc 0 _ rfl) X.out;have f1:=qaf (hc 1 _ rfl) X.out;have f2:=qaf (hc 2 _ rfl) X.out;have f3:=qaf (hc 3 _ rfl) X.out;have f4:=qaf (hc 4 _ rfl) X.out;have f5:=qaf (hc 5 _ rfl) X.out;simp only[Nat.add_zero] at f0;have hlb:=World.block_lt_of_cell? _ _ f0;obtain⟨E,hE⟩:∃ E,encT y=E:=⟨_,rfl⟩
  have HNX:=J (show(B++putB E.length)++E=putB n++(l.take (k+1)).flatMap itemB from by rw[List.take_add_one,hy,<-HBB.out,<-hE];simp[List.append_assoc,itemB]);have hEl:=qev (HALL.out y hym).1 (HALL.out y hym).2;rw[hE] at T1 hEl;have HPB:=J (show 0<B.length from by rw[<-HBB.out,List.length_append];have:=HP.out.2;omega);obtain⟨em,hem⟩:∃ m,E.length=m:=⟨_,rfl⟩
  rw[hem] at hEl HNX;have P2:=J (fun W=>qbF (em:Int) Y Y W);rw[Int.toNat_natCast] at P2;have u2:IntKind.u64.wrap (em:Int)=(em:Int):=by rw[qaK];omega
  have HEM:=J hem;have HZ:=J (And.intro (qao 9 em Y) hEl);have hgw:=(HO.out.lt g rfl).2;have hlt2:(k:Int)<(n:Int):=Y;have XA:=J (show Ext wr (wr.alloc (.cells #[.int .i64 yc,.int .i64 yt,.slice y1 z1 l1,.slice y2 z2 l2,.string ys,.int .i64 yg] 27)) from zq);clear hy hym hV hL hc hE hem
  go_wp2_with (first
   | ((with_reducible refine Calls.mono (T1.out _ (X.out.trans XA.out)) ?_);intro e w2 h2;obtain⟨gs,cs,ms,rfl,HMs,HOs,HXs⟩:=h2.out;clear h2;obtain rfl:em=ms:=(by rw[<-HEM.out,<-HMs.out]);have hgs:g<gs:=Nat.lt_of_lt_of_le hgw (Nat.le_trans XA.out.size (HOs.out.lt gs rfl).1);have HO:=J (own_ext HO.out (XA.out.trans HXs.out));have X:=J (X.out.trans (XA.out.trans HXs.out)))
   | ((with_reducible refine Calls.mono (P2.out _) ?_);intro e w3 h3;obtain⟨g2,c2,m2,rfl,HM2,HO2,HX2⟩:=h3.out;clear h3;have HO:=J (own_ext HO.out HX2.out);have HOs:=J (own_ext HOs.out HX2.out);have X:=J (X.out.trans HX2.out))
   | (at_builtin;refine qfB rfl _ _ rfl HO.out rfl HO2.out rfl X.out HPB.out (by have:=HBl.out;have:=HZ.out;omega) ?_;intro g3 c3 m3 w4 HM HO X HG;have HOs:=J (own_block HOs.out fun k hk hl=>HG.out.block k hl fun e=>by simp only[Value.ownBlock,Option.some.injEq] at hk e;omega);clear HG HO2)
   | (at_builtin;refine qfB rfl _ _ rfl HO.out rfl HOs.out rfl X.out (by have:=HPB.out;rw[List.length_append];omega) (by have:=HBl.out;have:=HZ.out;have:=HEM.out;rw[List.length_append];omega) ?_;intro g4 c4 m4 w5 HM HO X HG))
  go_roundw
  case measure=>simp[intOf];omega
  case rel=>exact⟨k+1,_,g4,c4,m4,by go_num,Y,J HNX.out.symm,rfl,HM,HO,X⟩
def strs_formC (h:StrsAt w v l):∃ p cap,v=.slice p l.length cap/\l.length<=cap/\Hid (∀ j u,l[j]?=some u->∃ b off,p=some ⟨b,off,none⟩/\w.cell? ⟨b,off+j,none⟩=some (.string u)):=by
 rcases h with ⟨p,cap,rfl,rfl⟩ | ⟨b,off,cap,rfl,h1,h2⟩
 . exact⟨p,cap,rfl,Nat.zero_le _,fun j u hj=>by simp at hj⟩
 . exact⟨_,cap,rfl,h1,fun j u hj=>⟨b,off,rfl,h2 j u hj⟩⟩
def news_kc {cs:Array Value} {T:TypeId} (h:KB k cs T w):∀ j u,cs.toList[j]?=some u->w.cell? ((⟨k,0,none⟩:Addr).add j)=some u:=fun j u hu=>by
 rw[Addr.add_lit,Nat.zero_add];exact h.cell j u (by simpa using hu)
def strInfo21:(prog.info? 9).map (fun i=>(i.zero,i.size,i.bytes))=some (some (.string ⟨#[]⟩),1,16):=by kernel_rfl
def fewW (l:List ByteArray):List ByteArray:=(l.take 20).map (cutS 60)
def qgx (l:List ByteArray):(fewW l).length<=20:=by unfold fewW;simp;omega
def fewW_sz (l:List ByteArray):∀ s∈fewW l,s.size<=60:=by
 intro s hs;unfold fewW at hs;obtain⟨t,_,rfl⟩:=List.mem_map.1 hs;exact cutS_le 60 t
def wC (l:List ByteArray) (k:Nat):List Value:=((l.map (cutS 60)).take k).map Value.string
def fewW_of (h:m=min l.length 20):wC l m=(fewW l).map Value.string/\m=(fewW l).length:=by
 subst h;unfold fewW wC
 constructor
 . rw[<-List.map_take];by_cases h:l.length<=20
   . rw[Nat.min_eq_left h,List.take_of_length_le (Nat.le_refl _),List.take_of_length_le h]
   . rw[Nat.min_eq_right Y]
 . simp;omega
def pat21_any (v:Value) (l:List ByteArray) (w:World) (h:StrsAt w v l) (hz:∀ s∈l,s.size<=140737488351232) (hl:l.length<=140737488351232) :
  Calls prog 70 #[v] w fun e w'=>∃ v',e=.returned v'/\w'.ownsRow w.heap.size 9 1 v' (fewW l).length ((fewW l).map Value.string)/\Ext w w':=by
 obtain⟨i1,hi1,hy0,hy1,hy2⟩:=info_parts strInfo21;obtain⟨p,cap,rfl,hcap,hp⟩:=strs_formC h;obtain⟨n,hn⟩:∃ n,l.length=n:=⟨_,rfl⟩
 rw[hn] at hcap hl ⊢;have HN:=J hn;have HS:=J hz;obtain⟨m,hm⟩:∃ m,m=min n 20:=⟨_,rfl⟩
 have HF:=J (fewW_of (l:=l) (m:=m) (by rw[hn];exact hm));have HM:=J hm;have hm20:m<=20:=Y;have hmn:m<=n:=Y;have hmi:(m:Int)<=20:=Y;have hln:(n:Int)<=140737488351232:=Y;clear h hz hn hm;go_enter func70,ntmps70
 go_upto_if 8 with fail
 go_cut [0] (fun s0 wx=>s0=.slice p m cap/\w=wx)
 case first =>
  by_cases hbig:(20:Int)<n
  . have hmm:m=20:=(by have:=HM.out;omega)
    subst hmm;have h20:(20:Int)<=cap:=Y;go_wp2_with fail
    go_meet
    exact⟨rfl,rfl⟩
  . have hmm:m=n:=(by have:=HM.out;omega)
    subst hmm;go_wp2_with fail
    go_meet
    exact⟨rfl,rfl⟩
 case rest =>
  obtain⟨rfl,rfl⟩:=hcut
  go_wp2_with fail;go_loopw [3,4] (fun lv ii wr=>∃ (k:Nat),ii=.int .i64 (k:Int)/\k<=m/\Hid (wr.ownsRow w.heap.size 9 1 lv k (wC l k)/\Ext w wr)) (fun _ ii _=>m-(intOf ii).toNat)
  case atStart=>exact⟨0,rfl,Nat.zero_le _,J ⟨World.ownsRow_nil _ _ _ _,Ext.refl _⟩⟩
  case round =>
   obtain⟨k,rfl,hkm,hH⟩:=hrel;obtain⟨lv,hlv⟩:∃ x,x=u3:=⟨_,rfl⟩
   subst hlv;by_cases hlt:k<m
   case neg =>
    have hk:k=m:=Y;subst hk;clear hlt;go_wp2_with fail;go_ret;have:=hH.out;rw[HF.out.1,HF.out.2] at this;exact⟨_,rfl,this⟩
   obtain⟨s,hsx⟩:∃ s,l[k]?=some s:=⟨_,List.getElem?_eq_getElem jj⟩
   obtain⟨b,off,rfl,c0⟩:=hp.out k s hsx;have c1:=cell_ext c0 hH.out.2;have hb1:=World.block_lt_of_cell? _ _ c1;have hz:=HS.out s (List.mem_of_getElem? hsx);have hzi:(s.size:Int)<=140737488351232:=Y;have HSN:=J (show wC l (k+1)=wC l k++[.string (cutS 60 s)] from by unfold wC;rw[List.take_add_one,List.getElem?_map,hsx];simp);have HLT:=J hlt;clear hsx c0 hz
   go_upto_if 23 with fail
   go_cut [5] (fun s5 wx=>s5=.string (cutS 60 s)/\wr=wx)
   case first =>
    by_cases hbig:(60:Int)<s.size
    . have hcut:cutS 60 s=s.extract 0 60:=(by unfold cutS;rw[if_pos Y])
      have hI2:(60:Int)<=s.size:=Y;go_wp2_with fail
      go_meet
      exact⟨by rw[hcut],rfl⟩
    . have hcut:cutS 60 s=s:=(by unfold cutS;rw[if_neg Y])
      go_wp2_with fail
      go_meet
      exact⟨by rw[hcut],rfl⟩
   case rest =>
    obtain⟨rfl,rfl⟩:=hcut;obtain⟨t,ht⟩:∃ t,cutS 60 s=t:=⟨_,rfl⟩
    rw[ht] at HSN ⊢;clear ht
    go_wp2_with (at_builtin;refine wpList_append_own_at _ rfl _ _ 23 rfl w.heap.size 9 i1 (.string ⟨#[]⟩) 1 16 underlying23 hi1 hy0 hy1 hy2 rfl zw lv k (wC l k) rfl (own_ext hH.out.1 zq) ⟨_,0,none⟩ 1 1 [.string t] rfl rfl ?c1 ?c2 ?c3 ?c4 ?c5 ?_)
    try case c1=>exact news_kc (KB.new _ _ _)
    case c2=>first | rfl | (intro u hu;simp at hu;subst hu;rfl)
    case c3=>unfold maxLen;omega
    case c4=>omega
    case c5=>have:=hH.out.2.size;simp;omega
    intro v' w7 hown hgrow _ _;have HX7:Ext w w7:=Ext.grown (Ext.trans hH.out.2 zq) hgrow (fun k hk=>by have:=hH.out.1.lt k (by rw[<-hk]);omega);have H7:=J (And.intro hown HX7);clear hown hgrow HX7;go_wp2_with fail;go_roundw
    case measure=>have:=HLT.out;simp[intOf];omega
    case rel=>exact⟨k+1,by go_num,by have:=HLT.out;omega,by rw[HSN.out];exact H7⟩
def RowF (B:Nat) (l:List ByteArray):Fact:=fun v W'=>∃ p cap,v=.slice p l.length cap/\W'.ownsRow B 9 1 v l.length (l.map Value.string)
def RowF.upc (B:Nat) (l:List ByteArray):Upc (RowF B l):=fun v W W' hx ⟨g,cap,h1,h2⟩=>⟨g,cap,h1,own_ext h2 hx⟩
def RowF.mk {C:Nat} (h:W.ownsRow C 9 1 v l.length (l.map Value.string)) (hb:B<=C):RowF B l v W:=by
 obtain⟨p,c,rfl⟩:=qad h;exact⟨p,c,rfl,h.mono (base':=B) hb⟩
def RowF.move {C:Nat} {W':World} (h:RowF B l v W) (hc:C<=B) (hW:∀ k,B<=k->W'.heap[k]?=W.heap[k]?):RowF C l v W':=by
 obtain⟨p,c,hv,h1,h2⟩:=h;refine ⟨p,c,hv,h1,?_⟩;rcases h2 with h | ⟨g,cap,cur,e,hb,hg,r⟩
 . exact .inl h
 . exact .inr ⟨g,cap,cur,e,Nat.le_trans hc hb,(hW g hb).trans hg,r⟩
def want_load {g:Nat} {cs:Array Value} (h:KB g cs 25 w) (hc:cs.size=2):(loadVar 25 ⟨g,0,none⟩).run prog w=.ok (.agg cs) w :=
 run_loadVar_row w g 25 25 cs (0,0) _ h underlying25 rfl (by rw[hc];kernel_rfl)
def res_cellW {fn:Func} {p:Tmp} {ty:TypeId} (h:fn.results=#[.cell p ty]) (tmps:Array Value) (w:World) (a:Addr) (r:Value)
  (hp:tmps.getD p undef=.pointer (some a)) (hl:(loadVar ty a).run prog w=.ok r w):(results fn tmps).run prog w=.ok r w:=by
 have hp':tmps[p]?.getD undef=.pointer (some a):=by simpa using hp
 simp[results,h,hp',asAddr,hl]
def wants_any (a b:Value) (la lb:List ByteArray) (w:World) (ha:PatS w a la) (hb:PatS w b lb):Calls prog 51 #[.agg #[a,b]] w fun e w'=>∃ a' b',e=.returned (.agg #[a',b'])/\RowF w.heap.size (fewW la) a' w'/\RowF w.heap.size (fewW lb) b' w'/\Ext w w':=by
 have PA:=J (show ∀ W,Ext w W->w.heap.size+2<=W.heap.size->Calls prog 70 #[a] W fun e w'=>∃ v',e=Ending.returned v'/\RowF (w.heap.size+2) (fewW la) v' w'/\Ext W w' from fun W hx hs=>(pat21_any a la W (ha.1.ext hx) ha.2.1 ha.2.2).mono fun e w' ⟨v',h1,h2,h3⟩=>⟨v',h1,RowF.mk h2 hs,h3⟩);have PB:=J (show ∀ W,Ext w W->w.heap.size+2<=W.heap.size->Calls prog 70 #[b] W fun e w'=>∃ v',e=Ending.returned v'/\RowF (w.heap.size+2) (fewW lb) v' w'/\Ext W w' from fun W hx hs=>(pat21_any b lb W (hb.1.ext hx) hb.2.1 hb.2.2).mono fun e w' ⟨v',h1,h2,h3⟩=>⟨v',h1,RowF.mk h2 hs,h3⟩);obtain⟨pa,ca,hva⟩:∃ p c,a=.slice p la.length c:=by obtain⟨p,c,h,-⟩:=qav ha.1;exact⟨p,c,h⟩
 obtain⟨pb,cb,hvb⟩:∃ p c,b=.slice p lb.length c:=by obtain⟨p,c,h,-⟩:=qav hb.1;exact⟨p,c,h⟩
 obtain⟨na,hna⟩:∃ n,la.length=n:=⟨_,rfl⟩
 obtain⟨nb,hnb⟩:∃ n,lb.length=n:=⟨_,rfl⟩
 rw[hna] at hva;rw[hnb] at hvb;subst hva hvb;clear ha hb hna hnb;obtain⟨ra,hra⟩:∃ r,RowF (w.heap.size+2) (fewW la)=r:=⟨_,rfl⟩
 obtain⟨rb,hrb⟩:∃ r,RowF (w.heap.size+2) (fewW lb)=r:=⟨_,rfl⟩
 have UA:=J (show Upc ra from hra ▸ RowF.upc _ _);have UB:=J (show Upc rb from hrb ▸ RowF.upc _ _);have FA:=J (show ∀ v W,ra v W->∃ p n c,v=.slice p n c from fun v W h=>by rw[<-hra] at h;obtain⟨p,c,h1,-⟩:=h;exact⟨p,_,c,h1⟩);have FB:=J (show ∀ v W,rb v W->∃ p n c,v=.slice p n c from fun v W h=>by rw[<-hrb] at h;obtain⟨p,c,h1,-⟩:=h;exact⟨p,_,c,h1⟩);have MA:=J (show ∀ v W W',ra v W->(∀ k,w.heap.size+2<=k->W'.heap[k]?=W.heap[k]?)->RowF w.heap.size (fewW la) v W' from fun v W W' h hW=>by rw[<-hra] at h;exact h.move Y hW);have MB:=J (show ∀ v W W',rb v W->(∀ k,w.heap.size+2<=k->W'.heap[k]?=W.heap[k]?)->RowF w.heap.size (fewW lb) v W' from fun v W W' h hW=>by rw[<-hrb] at h;exact h.move Y hW);rw[hra] at PA;rw[hrb] at PB;clear hra hrb;go_enter func51,ntmps51;go_wp2_with fail;refine qaa 6 10 (List.replicate 6 false) zv zv rfl ?_;refine zh ?_
 iterate 2 (refine Lex.step rfl ?_;intro K hK;unfold StepG;go_simp;refine hK _ ?_;clear hK K)
 refine Lex.gap 5 ra rfl UA.out rfl (fun d os=>?_) ?_
 . unfold StepG;go_simp;exact(PA.out _ zq jf).mono fun e w' ⟨v',h1,h2,h3⟩=>⟨v',h1,h3,h2⟩
 iterate 2 (refine Lex.step rfl ?_;intro K hK;unfold StepG;go_simp;refine hK _ ?_;clear hK K)
 refine Lex.gap 8 rb rfl UB.out rfl (fun d os=>?_) ?_
 . unfold StepG;go_simp;exact(PB.out _ zq jf).mono fun e w' ⟨v',h1,h2,h3⟩=>⟨v',h1,h3,h2⟩
 refine Lex.nil fun WW hE=>?_
 intro u hu v hv;obtain⟨pu,nu,cu,rfl⟩:=FB.out _ _ hu;obtain⟨pv,nv,cv,rfl⟩:=FA.out _ _ hv;obtain⟨dd,oo,rfl⟩:=hE;have HU:=J hu;have HV:=J hv;clear hu hv;unfold FillH;go_wp2_with fail;rw[ends_normal];go_wp2_with fail
 have HK:=fun (A B C:Obj) k (hk:w.heap.size+2<=k)=>(show(more ((w.alloc A).alloc B) dd oo).heap[k]?=(more ((w.alloc A).alloc C) dd oo).heap[k]? from by
  show(((w.heap.push _).push _)++oo)[k]?=(((w.heap.push _).push _)++oo)[k]?
  rw[Array.getElem?_append_right zg,Array.getElem?_append_right zg]
  simp)
 exact bodyPost_ret (v:=.agg #[.slice pv nv cv,.slice pu nu cu]) (res_cellW rfl _ _ ⟨w.heap.size+1,0,none⟩ _ rfl (want_load (g:=w.heap.size+1) (cs:=#[.slice pv nv cv,.slice pu nu cu]) (by have:=(KB.new (w.alloc (.cells #[.slice pa na ca,.slice pb nb cb] 25)) #[.slice pv nv cv,.slice pu nu cu] 25).of_ext (Ext.more (Ext.refl _) dd oo);rw[World.size_alloc] at this;exact this) rfl)) rfl ⟨_,_,rfl,MA.out _ _ _ HV.out (HK _ _ _),MB.out _ _ _ HU.out (HK _ _ _),zq⟩
def jobC (s:ByteArray) (v:Nat->Value) (a b:Value):Array Value:=#[.string s,v 0,v 1,v 2,v 3,v 4,v 5,v 6,v 7,v 8,v 9,v 10,v 11,v 12,v 13,v 14,v 15,.int .i64 0,.int .i64 0,.int .i64 0,.int .i64 0,.int .i64 0,.int .i64 0,.int .i64 0,.int .i64 0,.int .i64 0,.int .i64 0,.int .i64 0,.int .i64 0,.int .i64 0,.int .i64 0,.int .i64 0,.int .i64 0,.int .i64 0,.int .i64 0,.int .i64 0,a,b,.int .i64 0]
def jobC_ext (s:ByteArray) (v:Nat->Value) (a b:Value):jobC s v a b=(#[.string s]++stC v (fun _=>0) 0 0 0)++#[a,b,.int .i64 0]:=by kernel_rfl
def JB (w:World) (N:Nat) (C:Array Value):Prop:=w.heap[N]?=some (.cells C 67 (0,0))
def JB.ext {C:Array Value} (h:JB w N C) (hx:Ext w w'):JB w' N C:=by
 unfold JB at h ⊢;rw[hx.below.block N (qbc h)];exact h
def JB.set {C D:Array Value} (h:JB w N C):JB (w.setRow N D) N D:=by
 unfold JB at h ⊢;exact setRow_heap w N _ _ _ _ h
def JB.other {M:Nat} {C D:Array Value} (h:JB w N C) (hne:N≠M):JB (w.setRow M D) N C:=by
 unfold JB at h ⊢;rw[setRow_other _ _ _ _ hne];exact h
def job_size (s:ByteArray) (v:Nat->Value) (a b:Value):(jobC s v a b).size=39:=rfl
def job_st (s:ByteArray) (v:Nat->Value) (a b:Value):∀ j u,(stC v (fun _=>0) 0 0 0).toList[j]?=some u->(jobC s v a b)[1+j]?=some u:=by
 intro j u h;have hj:=(List.getElem?_eq_some_iff.1 h).1;have h35:(stC v (fun _=>0) 0 0 0).size=35:=rfl;rw[jobC_ext,Array.getElem?_append_left (by rw[Array.size_append,h35];simp at hj ⊢;omega),Array.getElem?_append_right zy];rw[show 1+j-(#[Value.string s]:Array Value).size=j from by simp,<-Array.getElem?_toList];exact h
def job_want (s:ByteArray) (v:Nat->Value) (a b:Value):∀ j u,(#[a,b]:Array Value).toList[j]?=some u->(jobC s v a b)[36+j]?=some u:=by
 intro j u h
 match j,h with
 | 0,h=>simp at h;subst h;rfl
 | 1,h=>simp at h;subst h;rfl
def job_put (s:ByteArray) (v v':Nat->Value) (a b:Value):putC (jobC s v a b) 1 (stC v' (fun _=>0) 0 0 0).toList=jobC s v' a b:=by kernel_rfl
def job_putW (s:ByteArray) (v:Nat->Value) (a b a' b':Value):putC (jobC s v a b) 36 (#[a',b']:Array Value).toList=jobC s v a' b':=by kernel_rfl
def JB.cell {C:Array Value} (h:JB w N C) (j:Nat):w.cell? ⟨N,j,none⟩=C[j]?:=by
 unfold JB at h;simp[World.cell?,h]
def JB.there {C:Array Value} (h:JB w N C) (o n:Nat) (hn:o+n<=C.size):w.there N o n:=by
 intro j hj;refine ⟨?_,?_⟩
 . rw[h.cell,Array.getElem?_eq_getElem Y];rfl
 . unfold JB at h;simp[World.frozen?,h]
def job_one (s:ByteArray) (v:Nat->Value) (a b:Value) (h:∀ k,k<16->(v k).oneCell'=true) (ha:a.oneCell'=true) (hb:b.oneCell'=true):(jobC s v a b).all (·.oneCell')=true:=by
 have hi:(Value.int .i64 0).oneCell'=true:=rfl;have hst:(Value.string s).oneCell'=true:=rfl;rw[jobC_ext,Array.all_append,Array.all_append,stC_one v _ 0 0 0 h];simp[ha,hb,hi,hst]
def job_load {v:Nat->Value} {a b:Value} (h:JB w N (jobC s v a b)):(loadVar 67 ⟨N,0,none⟩).run prog w=.ok (.agg (jobC s v a b)) w :=
 run_loadVar_row (P:=prog) w N 67 _ _ _ _ h underlying67 rfl zv
def RowF.one (h:RowF B l v W):v.oneCell'=true:=by
 obtain⟨p,c,rfl,-⟩:=h;rfl
def JB.new {A:Obj} {C:Array Value}:JB ((w.alloc A).alloc (.cells C 67)) (w.heap.size+1) C:=by
 have:=heap_alloc_new (w.alloc A) (.cells C 67);rw[World.size_alloc] at this;exact this
def v00:Nat->Value:=fun _=>.slice none 0 0
def few21_any (s:ByteArray) (hs:s.size<=140737488351232) (a b:Value) (la lb:List ByteArray) (w:World) (ha:PatS w a la) (hb:PatS w b lb):Calls prog 27 #[.agg (jobC s v00 a b)] w fun e w'=>∃ v a' b',e=.returned (.agg (jobC (cutS 1200 s) v a' b'))/\RowF w.heap.size (fewW la) a' w'/\RowF w.heap.size (fewW lb) b' w'/\Ext w w'/\∀ k,k<16->(v k).oneCell'=true:=by
 have FS:=J (fun W=>few13_any (fun _=>0) v00 (fun _=>[]) (fun _=>0) 0 0 0 W (fun k hk=>⟨fun x hx=>by simp at hx,zy,none,0,rfl,Nat.le_refl _,fun h=>by simp at h⟩));have WA:=J (fun W (hx:Ext w W)=>wants_any a b la lb W (ha.ext hx) (hb.ext hx));clear ha hb;have hsi:(s.size:Int)<=140737488351232:=Y;obtain⟨t,ht⟩:∃ t,cutS 1200 s=t:=⟨_,rfl⟩
 rw[ht];go_enter func27,ntmps27
 go_upto_region 1 with fail
 generalize hW0:World.alloc _ _=W0;have J0:JB W0 w.heap.size (jobC s v00 a b):=by rw[<-hW0];exact(heap_alloc_old _ _ zy).trans (heap_alloc_new w _)
 obtain⟨C0,J1,hC0⟩:∃ C,JB W0 (w.heap.size+1) C/\C.size=39:=by
  rw[<-hW0];exact⟨_,JB.new,rfl⟩
 have HX0:Ext w W0:=by rw[<-hW0];exact((Ext.refl _).alloc _).alloc _
 have hs0:W0.heap.size=w.heap.size+2:=by rw[<-hW0];simp
 clear hW0;have c0:W0.cell? ⟨w.heap.size,0,none⟩=some (.string s):=J0.cell 0;have f0:W0.frozen? ⟨w.heap.size,0,none⟩=false:=by unfold JB at J0;simp[World.frozen?,J0]
 have hlt0:w.heap.size<W0.heap.size:=Y;have HJ0:=J J0;have HJ1:=J J1;have HHX:=J HX0;have HHS:=J hs0;clear J0 J1 HX0 hs0
 go_upto_if 6 with fail
 go_cut [7] (fun s7 wx=>JB wx w.heap.size (jobC t v00 a b)/\∃ C,JB wx (w.heap.size+1) C/\C.size=39/\Ext w wx/\wx.heap.size=w.heap.size+2)
 case first =>
  by_cases hbig:(1200:Int)<s.size
  . have hI2:(1200:Int)<=s.size:=Y;have hcut:cutS 1200 s=s.extract 0 1200:=(by unfold cutS;rw[if_pos Y])
    go_wp2_with fail
    go_meet
    rw[setCell_eq_setRow W0 w.heap.size 0 _ _ _ _ HJ0.out];rw[<-ht,hcut];exact⟨HJ0.out.set,C0,HJ1.out.other (Nat.succ_ne_self _),hC0,HHX.out.setRow (Nat.le_refl _) _,by rw[size_setRow];exact HHS.out⟩
  . have hcut:cutS 1200 s=s:=(by unfold cutS;rw[if_neg Y])
    go_wp2_with fail
    go_meet
    rw[<-ht,hcut];exact⟨HJ0.out,C0,HJ1.out,hC0,HHX.out,HHS.out⟩
 case rest =>
  obtain⟨h0,C1,h1,hC1,hx,hs⟩:=hcut
  rename World=>W1
  have H0:=J h0;have H1:=J h1;have HX:=J hx;have HS:=J hs;clear h0 h1 hx hs HJ0 HJ1 HHX HHS c0 f0 hlt0
  go_wp2_with (first
   | (refine qaR rfl 65 _ rfl w.heap.size 1 rfl 67 (jobC t v00 a b) (stC v00 (fun _=>0) 0 0 0) (0,0) _ H0.out underlying65 rfl zv (job_st t v00 a b) ?_)
   | (go_at_call 50;refine (FS.out _).mono ?_;rintro e w2 ⟨bs2,v2,rfl,hl,hy,hx2⟩;have HL:=J hl;have HX2:=J (show Ext w w2/\w.heap.size+2<=w2.heap.size from⟨HX.out.trans hx2,by have:=hx2.size;have:=HS.out;omega⟩);have H2:=J (H0.out.ext hx2);have H3:=J (H1.out.ext hx2);clear hl hy hx2)
   | (refine qaU rfl 65 _ _ rfl w.heap.size 1 (stC v2 (fun _=>0) 0 0 0) _ (jobC t v2 a b) _ _ rfl rfl H2.out (H2.out.there 1 35 (by rw[job_size];decide)) zv (stC_one v2 _ 0 0 0 HL.out.one) (job_put t v00 v2 a b) ?_)
   | (refine qaR rfl 25 _ rfl w.heap.size 36 rfl 67 (jobC t v2 a b) #[a,b] (0,0) _ H2.out.set underlying25 rfl zv (job_want t v2 a b) ?_)
   | (go_at_call 51;refine (WA.out _ (HX2.out.1.setRow (Nat.le_refl _) _)).mono ?_;rintro e w3 ⟨a',b',rfl,ra,rb,hx3⟩;rw[size_setRow] at ra rb;have R:=J (And.intro ra rb);have O:=J (And.intro ra.one rb.one);have HX3:=J ((HX2.out.1.setRow (Nat.le_refl _) _).trans hx3);have H4:=J (JB.ext (JB.set (D:=jobC t v2 a b) H2.out) hx3);have H5:=J (JB.ext (JB.other (D:=jobC t v2 a b) H3.out (Nat.succ_ne_self _)) hx3);clear ra rb hx3)
   | (refine qaU rfl 25 _ _ rfl w.heap.size 36 #[a',b'] _ (jobC t v2 a' b') _ _ rfl rfl H4.out (H4.out.there 36 2 (by rw[job_size];decide)) zv (by have:=O.out;simp[this.1,this.2]) (job_putW t v2 a b a' b') ?_)
   | (refine wpList_load_row rfl 67 _ rfl w.heap.size rfl 67 (jobC t v2 a' b') (0,0) _ H4.out.set underlying67 rfl zv ?_)
   | (refine wpList_store_rowTo rfl 67 _ _ rfl rfl (w.heap.size+1) (jobC t v2 a' b') rfl rfl 67 C1 (H5.out.other (Nat.succ_ne_self _)) zv hC1 (job_one t v2 a' b' HL.out.one O.out.1 O.out.2) ?_))
  have hld:=job_load (JB.set (D:=jobC t v2 a' b') (JB.other (D:=jobC t v2 a' b') H5.out (Nat.succ_ne_self _)))
  have hmv:∀ k,w2.heap.size<=k->((w3.setRow w.heap.size (jobC t v2 a' b')).setRow (w.heap.size+1) (jobC t v2 a' b')).heap[k]?=w3.heap[k]?:=fun k hk=>by
   have:=HX2.out.2;rw[setRow_other _ _ _ _ Y,setRow_other _ _ _ _ Y]
  exact bodyPost_ret (v:=.agg (jobC t v2 a' b')) (results_cellY (p:=2) (ty:=67) rfl _ _ ⟨w.heap.size+1,0,none⟩ _ rfl hld) rfl ⟨v2,a',b',rfl,R.out.1.move HX2.out.1.size hmv,R.out.2.move HX2.out.1.size hmv,(HX3.out.setRow (Nat.le_refl _) _).setRow (Nat.le_succ _) _,HL.out.one⟩
def TB (w:World) (N:Nat) (C:Array Value):Prop:=w.heap[N]?=some (.cells C 27 (0,0))
def TB.ext {C:Array Value} (h:TB w N C) (hx:Ext w w'):TB w' N C:=by
 unfold TB at h ⊢;rw[hx.below.block N (qbc h)];exact h
def TB.set {C D:Array Value} (h:TB w N C):TB (w.setRow N D) N D:=by
 unfold TB at h ⊢;exact setRow_heap w N _ _ _ _ h
def TB.other {M:Nat} {C D:Array Value} (h:TB w N C) (hne:N≠M):TB (w.setRow M D) N C:=by
 unfold TB at h ⊢;rw[setRow_other _ _ _ _ hne];exact h
def TB.cell {C:Array Value} (h:TB w N C) (j:Nat):w.cell? ⟨N,j,none⟩=C[j]?:=by
 unfold TB at h;simp[World.cell?,h]
def TB.there {C:Array Value} (h:TB w N C) (o n:Nat) (hn:o+n<=C.size):w.there N o n:=by
 intro j hj;refine ⟨?_,?_⟩
 . rw[h.cell,Array.getElem?_eq_getElem Y];rfl
 . unfold TB at h;simp[World.frozen?,h]
def TB.new {A:Obj} {C:Array Value}:TB ((w.alloc A).alloc (.cells C 27)) (w.heap.size+1) C:=by
 have:=heap_alloc_new (w.alloc A) (.cells C 27);rw[World.size_alloc] at this;exact this
def txn_load {C:Array Value} (h:TB w N C) (hC:C.size=6):(loadVar 27 ⟨N,0,none⟩).run prog w=.ok (.agg C) w :=
 run_loadVar_row (P:=prog) w N 27 _ _ _ _ h underlying27 rfl (by rw[hC];kernel_rfl)
def txA (c t:Int) (a b:Value) (s:ByteArray) (g:Int):Array Value:=#[.int .i64 c,.int .i64 t,a,b,.string s,.int .i64 g]
def txA_want (c t:Int) (a b:Value) (s:ByteArray) (g:Int):∀ j u,(#[a,b]:Array Value).toList[j]?=some u->(txA c t a b s g)[2+j]?=some u:=by
 intro j u h
 match j,h with
 | 0,h=>simp at h;subst h;rfl
 | 1,h=>simp at h;subst h;rfl
def txA_put (c t:Int) (a b a' b':Value) (s:ByteArray) (g:Int):putC (txA c t a b s g) 2 (#[a',b']:Array Value).toList=txA c t a' b' s g:=by kernel_rfl
def qgS (c t:Int) (a b:Value) (s:ByteArray) (g:Int) (ha:a.oneCell'=true) (hb:b.oneCell'=true):(txA c t a b s g).all (·.oneCell')=true:=by
 have hi:∀ x,(Value.int .i64 x).oneCell'=true:=fun _=>rfl
 have hst:(Value.string s).oneCell'=true:=rfl;simp[txA,ha,hb,hi,hst]
def few22_any (c t g:Int) (s:ByteArray) (hs:s.size<=140737488351232) (a b:Value) (la lb:List ByteArray) (w:World) (ha:PatS w a la) (hb:PatS w b lb):Calls prog 8 #[.agg (txA c t a b s g)] w fun e w'=>∃ a' b',e=.returned (.agg (txA c t a' b' (cutS 1200 s) g))/\RowF w.heap.size (fewW la) a' w'/\RowF w.heap.size (fewW lb) b' w'/\Ext w w':=by
 have oa:a.oneCell'=true:=by obtain⟨p,c,rfl,-⟩:=qav ha.1;rfl
 have ob:b.oneCell'=true:=by obtain⟨p,c,rfl,-⟩:=qav hb.1;rfl
 have FJ:=J (fun W (hx:Ext w W)=>few21_any s hs a b la lb W (ha.ext hx) (hb.ext hx));have OA:=J (And.intro oa ob);clear ha hb oa ob;obtain⟨z,hz⟩:∃ z,cutS 1200 s=z:=⟨_,rfl⟩
 rw[hz] at FJ ⊢;clear hz;go_enter func8,ntmps8
 go_upto_region 1 with fail
 generalize hW0:World.alloc _ _=W0;have J0:TB W0 w.heap.size (txA c t a b s g):=by rw[<-hW0];exact(heap_alloc_old _ _ zy).trans (heap_alloc_new w _)
 obtain⟨C0,J1,hC0⟩:∃ C,TB W0 (w.heap.size+1) C/\C.size=6:=by
  rw[<-hW0];exact⟨_,TB.new,rfl⟩
 have HX0:Ext w W0:=by rw[<-hW0];exact((Ext.refl _).alloc _).alloc _
 have hs0:W0.heap.size=w.heap.size+2:=by rw[<-hW0];simp
 clear hW0;have c4:W0.cell? ⟨w.heap.size,4,none⟩=some (.string s):=J0.cell 4;have hlt0:w.heap.size<W0.heap.size:=Y;have HJ0:=J J0;have HJ1:=J J1;have HHX:=J HX0;have HHS:=J hs0;clear J0 J1 HX0 hs0
 go_upto_region 2 with (first
  | (refine qaR rfl 25 _ rfl w.heap.size 2 rfl 27 (txA c t a b s g) #[a,b] (0,0) _ HJ0.out underlying25 rfl zv (txA_want c t a b s g) ?_)
  | (refine wpList_buildTo rfl 67 _ rfl _ rfl (jobC s v00 a b) zv ?_)
  | (go_at_call 27;refine (FJ.out _ HHX.out).mono ?_;rintro e w3 ⟨v3,a',b',rfl,ra,rb,hx3,hv3⟩;have V3:=J hv3;have O:=J (And.intro ra.one rb.one);have R:=J (And.intro ra rb);have H2:=J (HJ0.out.ext hx3);have H3:=J (HJ1.out.ext hx3);have HX3:=J (And.intro hx3 (HHX.out.trans hx3));clear ra rb hx3 hv3)
  | (refine wpList_store_rowTo rfl 67 _ _ rfl rfl w3.heap.size (jobC z v3 a' b') rfl rfl 67 _ (heap_alloc_new w3 _) zv rfl (job_one z v3 a' b' V3.out O.out.1 O.out.2) ?_))
 generalize hW4:World.setRow _ _ _=W4;have hsz:w.heap.size+2<=w3.heap.size:=by have:=HX3.out.1.size;have:=HHS.out;omega
 have J4:JB W4 w3.heap.size (jobC z v3 a' b'):=by rw[<-hW4];exact JB.set (heap_alloc_new w3 _)
 have H4:TB W4 w.heap.size (txA c t a b s g):=by rw[<-hW4];exact(H2.out.ext ((Ext.refl w3).alloc _)).other Y
 have G4:TB W4 (w.heap.size+1) C0:=by rw[<-hW4];exact(H3.out.ext ((Ext.refl w3).alloc _)).other Y
 have X4:Ext w3 W4:=by rw[<-hW4];exact((Ext.refl w3).alloc _).setRow (Nat.le_refl _) _
 clear hW4 c4 hlt0;have d0:W4.cell? ⟨w3.heap.size,0,none⟩=some (.string z):=J4.cell 0;have d4:W4.cell? ⟨w.heap.size,4,none⟩=some (.string s):=H4.cell 4;have f4:W4.frozen? ⟨w.heap.size,4,none⟩=false:=by unfold TB at H4;simp[World.frozen?,H4]
 have l4:w.heap.size<W4.heap.size:=by have:=X4.size;omega
 have l5:w3.heap.size<W4.heap.size:=World.block_lt_of_cell? _ _ d0;have K4:=J (And.intro J4 (And.intro H4 (And.intro G4 X4)));have HSZ:=J hsz;clear J4 H4 G4 X4 hsz
 go_upto_region 3 with fail
 rw[setCell_eq_setRow W4 w.heap.size 4 _ _ _ _ K4.out.2.1];generalize hW5:World.setRow _ _ _=W5;have J5:JB W5 w3.heap.size (jobC z v3 a' b'):=by rw[<-hW5];exact JB.other K4.out.1 (by have:=HSZ.out;omega)
 have H5:TB W5 w.heap.size (txA c t a b z g):=by rw[<-hW5];exact TB.set K4.out.2.1
 have G5:TB W5 (w.heap.size+1) C0:=by rw[<-hW5];exact TB.other K4.out.2.2.1 Y
 have X5:Ext w W5:=by rw[<-hW5];exact(HX3.out.2.trans K4.out.2.2.2).setRow (Nat.le_refl _) _
 have R5:RowF (w.heap.size+2) (fewW la) a' W5/\RowF (w.heap.size+2) (fewW lb) b' W5:=by
  have h1:=RowF.upc _ _ _ _ _ K4.out.2.2.2 R.out.1;have h2:=RowF.upc _ _ _ _ _ K4.out.2.2.2 R.out.2;rw[HHS.out] at h1 h2;rw[<-hW5];exact⟨h1.move (Nat.le_refl _) (fun k hk=>setRow_other _ _ _ _ Y),h2.move (Nat.le_refl _) (fun k hk=>setRow_other _ _ _ _ Y)⟩
 clear hW5 d0 d4 f4 l4 l5;have K5:=J (And.intro J5 (And.intro H5 (And.intro G5 (And.intro X5 R5))));clear J5 H5 G5 X5 R5
 go_wp2_with (first
  | (refine qaR rfl 25 _ rfl w3.heap.size 36 rfl 67 (jobC z v3 a' b') #[a',b'] (0,0) _ K5.out.1 underlying25 rfl zv (job_want z v3 a' b') ?_)
  | (refine qaU rfl 25 _ _ rfl w.heap.size 2 #[a',b'] _ (txA c t a' b' z g) _ _ rfl rfl K5.out.2.1 (K5.out.2.1.there 2 2 (by simp[txA])) zv (by have:=O.out;simp[this.1,this.2]) (txA_put c t a b a' b' z g) ?_)
  | (refine wpList_load_row rfl 27 _ rfl w.heap.size rfl 27 (txA c t a' b' z g) (0,0) _ K5.out.2.1.set underlying27 rfl zv ?_)
  | (refine wpList_store_rowTo rfl 27 _ _ rfl rfl (w.heap.size+1) (txA c t a' b' z g) rfl rfl 27 C0 (K5.out.2.2.1.other (Nat.succ_ne_self _)) zv hC0 (qgS c t a' b' z g O.out.1 O.out.2) ?_))
 have hld:=txn_load (TB.set (D:=txA c t a' b' z g) (TB.other (D:=txA c t a' b' z g) K5.out.2.2.1 (Nat.succ_ne_self _))) rfl
 have hmv:∀ k,w.heap.size+2<=k->((W5.setRow w.heap.size (txA c t a' b' z g)).setRow (w.heap.size+1) (txA c t a' b' z g)).heap[k]?=W5.heap[k]?:=fun k hk=>by
  rw[setRow_other _ _ _ _ Y,setRow_other _ _ _ _ Y]
 exact bodyPost_ret (v:=.agg (txA c t a' b' z g)) (results_cellY (p:=2) (ty:=27) rfl _ _ ⟨w.heap.size+1,0,none⟩ _ rfl hld) rfl ⟨a',b',rfl,K5.out.2.2.2.2.1.move Y hmv,K5.out.2.2.2.2.2.move Y hmv,(K5.out.2.2.2.1.setRow (Nat.le_refl _) _).setRow (Nat.le_succ _) _⟩
def fewT (x:Tx) (a b:Value):Tx:={ x with rv:=a,wv:=b,src:=cutS 1200 x.src,rd:=fewW x.rd,wr:=fewW x.wr }
def fewT_sm (x:Tx) (a b:Value):TxSm (fewT x a b) :=
 ⟨fun s hs=>Nat.le_trans (fewW_sz _ s hs) zw,Nat.le_trans (qgx _) zw,fun s hs=>Nat.le_trans (fewW_sz _ s hs) zw,Nat.le_trans (qgx _) zw⟩
def RowF.strs (h:RowF B l v W):StrsAt W v l:=by
 obtain⟨p,c,rfl,h⟩:=h;rcases h.2 with ⟨h1,h0⟩ | ⟨g,cap,cur,h1,hb,hg,h2,h3,h4,h5⟩
 . exact .inl ⟨none,0,by rw[h1],List.length_eq_zero_iff.1 h0⟩
 . refine .inr ⟨g,0,cap,by rw[h1],h2,fun j u hj=>?_⟩;have hf:(l.map Value.string)[j]?=some (.string u):=by rw[List.getElem?_map,hj];rfl
   rw[<-h5,List.getElem?_take] at hf
   split at hf
   . simpa [World.cell?,hg] using hf
   . cases hf
def RowF.pats (h:RowF B (fewW l) v W):PatS W v (fewW l) :=
 ⟨h.strs,fun s hs=>Nat.le_trans (fewW_sz _ s hs) zw,Nat.le_trans (qgx _) zw⟩
def fewtx_any (x:Tx) (w:World) (h:TxAt w x):Calls prog 8 #[txV x] w fun e w'=>∃ a b,e=.returned (txV (fewT x a b))/\RowF w.heap.size (fewW x.rd) a w'/\RowF w.heap.size (fewW x.wr) b w'/\TxAt w' (fewT x a b)/\Ext w w' :=
 (few22_any x.c x.t x.gas x.src h.2.2.1 x.rv x.wv x.rd x.wr w h.1 h.2.1).mono fun e w' ⟨a,b,h1,h2,h3,h4⟩ =>
  ⟨a,b,h1,h2,h3,⟨h2.pats,h3.pats,Nat.le_trans (cutS_le _ _) zw,h.2.2.2⟩,h4⟩
def of27_any (t:Int) (w:World):Calls prog 36 #[.int .i64 t] w fun e w'=>e=.returned (txV ⟨3,t,.slice none 0 0,.slice none 0 0,⟨#[]⟩,0,[],[]⟩)/\Ext w w':=by
 unfold txV;dsimp only;go_enter func36,ntmps36;go_wp2_with fail;exact bodyPost_ret (v:=.agg (txA 3 t (.slice none 0 0) (.slice none 0 0) ⟨#[]⟩ 0)) (results_cellY (p:=2) (ty:=27) rfl _ _ ⟨w.heap.size,0,none⟩ _ rfl (txn_load (heap_alloc_new w _) rfl)) rfl ⟨rfl,zq⟩
def resT (l:List UInt8) (done:List ByteArray) (m:Nat) (tl:List UInt8):List ByteArray × List UInt8 × Int:=if (qaO m tl).2.2≠0 then([],l,(qaO m tl).2.2) else(done++(qaO m tl).1,(qaO m tl).2.1,0)
def resT_err {l tl:List UInt8} {done:List ByteArray} {n1:Nat} {e1:Int} (h:cutT tl=(t,n1,e1)) (he:e1≠0):resT l done (m+1) tl=([],l,e1):=by
 unfold resT qaO;rw[h];simp[he]
def resT_step {l tl:List UInt8} {done:List ByteArray} {n1:Nat} (h:cutT tl=(t,n1,0)):resT l done (m+1) tl=resT l (done++[⟨t.toArray⟩]) m (tl.drop n1):=by
 unfold resT;rw[qaO,h];by_cases q:(qaO m (tl.drop n1)).2.2=0<;>simp[q]
def resT_end (l tl:List UInt8) (done:List ByteArray):resT l done 0 tl=(done,tl,0):=by simp[resT,qaO]
def qeL (l:List UInt8) {x n:Nat} {e0:Int} (hg:cutG 0 0 l=(x,n,e0)):listC l=if e0≠0 then([],l,e0) else if 8<x then([],l,8) else resT l [] x (l.drop n):=by
 have h1:numC 8 l=if e0≠0 then(0,l,e0) else if 8<x then(0,l,8) else(x,l.drop n,0):=by unfold numC;rw[hg]
 unfold listC;rw[h1];by_cases q:e0=0
 . subst q;by_cases q2:8<x
   . simp[q2]
   . simp only[ne_eq,not_true_eq_false,if_false,if_neg q2];unfold resT;by_cases q3:(qaO x (l.drop n)).2.2=0
     . rw[if_neg (by simpa using q3),if_neg (by simpa using q3),List.nil_append,<-q3]
     . rw[if_pos q3,if_pos q3]
 . simp[q]
def qgY {l:List UInt8} {e:Int} (h:cutT l=(t,n,e)):t.length<=255/\n<=l.length:=by
 unfold cutT at h;obtain⟨x,m,e0,hg⟩:∃ x n e,cutG 0 0 l=(x,n,e):=⟨_,_,_,rfl⟩
 rw[hg] at h;dsimp only at h
 repeat' split at h
 all_goals (cases h;first | (simp;done) | (simp only[List.length_take,List.length_drop];omega))
def vcutlist_any (b off cap:Nat) (l:List UInt8) (w:World) (hm:l.length<=1000000000) (hcap:l.length<=cap) (hb:BytesAt w b off l) (ts:List ByteArray) (rest:List UInt8) (e:Int) (hr:listC l=(ts,rest,e)) :
  Calls prog 79 #[.slice (some ⟨b,off,none⟩) l.length cap,.int .i64 8] w fun e' w'=>∃ v at_,e'=.returned (.tuple #[v,.int .i64 ((at_:Nat):Int),.int .i64 e])/\at_<=l.length/\l.drop at_=rest/\RowF w.heap.size ts v w'/\Ext w w':=by
 obtain⟨x,n,e0,hg⟩:∃ x n e,cutG 0 0 l=(x,n,e):=⟨_,_,_,rfl⟩
 have C0:=J (fun W (hx:Ext w W)=>qcF b off cap l W jq (hb.ext hx) x n e0 hg);rw[qeL l hg] at hr;have hxn:=qbe hg;have CT:=J (fun k (hk:k<=l.length) W (hx:Ext w W) t n1 e1 (hc:cutT (l.drop k)=(t,n1,e1))=>vcuttext_any b (tlO off k cap) (cap-k) (l.drop k) W (by rw[List.length_drop];unfold maxLen;omega) (by rw[List.length_drop];omega) ((hb.ext hx).tl k hcap) t n1 e1 hc);simp only[List.length_drop] at CT;obtain⟨len,hlen⟩:∃ len,l.length=len:=⟨_,rfl⟩
 have HL:=J hlen;rw[hlen] at C0 hxn hm hcap CT ⊢;have HR:=J hr;obtain⟨i0,hi,hz0,hz1,hz2⟩:=info_parts qeO;clear hb hg hlen hr;by_cases q0:e0=0;rotate_left
 . have q1:(e0 !=0)=true:=by simpa using q0
   have HE:=HR.out;rw[if_pos q0] at HE;cases HE;clear CT;go_enter func79,ntmps79
   go_wp2_with ((with_reducible refine Calls.mono (C0.out _ zq) ?_);rintro e' _ ⟨rfl,d1,os1,rfl⟩)
   go_ret3;exact yba
 subst q0;have HR:=J (show(if 8<x then([],l,8) else resT l [] x (l.drop n))=(ts,rest,e) from by rw[<-HR.out,if_neg (show ¬ (0:Int)≠0 by simp)]);by_cases q8:8<x
 . have q1:(8<(x:Int))=True:=zg;have HE:=HR.out;rw[if_pos q8] at HE;cases HE;clear CT;go_enter func79,ntmps79
   go_wp2_with ((with_reducible refine Calls.mono (C0.out _ zq) ?_);rintro e' _ ⟨rfl,d1,os1,rfl⟩)
   go_ret3;exact yba
 have q1:(8<(x:Int))=False:=zg;have HR:=J (show resT l [] x (l.drop n)=(ts,rest,e) from by rw[<-HR.out,if_neg q8]);have hx8:(x:Int)<=8:=Y;go_enter func79,ntmps79
 go_wp2_with ((with_reducible refine Calls.mono (C0.out _ zq) ?_);rintro e' _ ⟨rfl,d1,os1,rfl⟩)
 go_loopw [8,10,34] (fun a o i wr=>∃ (k at_:Nat) (done:List ByteArray) (p:Option Addr) (c:Nat),a=.int .i64 (at_:Int)/\i=.int .u64 (k:Int)/\k<=x/\at_<=len/\done.length=k/\o=.slice p k c/\Hid (resT l done (x-k) (l.drop at_)=(ts,rest,e))/\Hid (wr.ownsRow w.heap.size 9 1 (.slice p k c) k (done.map Value.string))/\Hid (Ext w wr)) (fun _ _ i _=>x-(intOf i).toNat)
 case atStart=>exact⟨0,n,[],none,0,rfl,rfl,Nat.zero_le _,hxn.2,rfl,rfl,HR,J (World.ownsRow_nil _ _ _ _),J zq⟩
 case round =>
  obtain⟨k,at_,done,p,c,rfl,rfl,hk,hat,hdl,rfl,HS,HO,X⟩:=hrel;by_cases hlt:k<x
  case neg =>
   have hkn:x=k:=Y;subst hkn;have HE:=HS.out;rw[Nat.sub_self,resT_end] at HE;cases HE;have HDL:=J hdl;clear hk hlt hdl;go_wp2_with fail;go_ret3;exact⟨.slice p x c,at_,rfl,hat,rfl,⟨p,c,by rw[HDL.out],by rw[HDL.out];exact HO.out⟩,X.out⟩
  obtain⟨t,n1,e1,hc⟩:∃ t n e,cutT (l.drop at_)=(t,n,e):=⟨_,_,_,rfl⟩
  have T1:=J (CT.out at_ hat wr X.out t n1 e1 hc);have hbd:=qgY hc;rw[List.length_drop,HL.out] at hbd;have hsl:=fun W:World=>sl_tail b off len cap at_ hat W
  obtain⟨o1,ho1⟩:∃ o1,tlO off at_ cap=o1:=⟨_,rfl⟩
  obtain⟨l1,hl1⟩:∃ l1,len-at_=l1:=⟨_,rfl⟩
  obtain⟨c1,hc1⟩:∃ c1,cap-at_=c1:=⟨_,rfl⟩
  rw[ho1,hl1,hc1] at hsl T1;have hlt2:(k:Int)<(x:Int):=Y;obtain⟨m,hm2⟩:∃ m,x-k=m+1:=⟨x-k-1,Y⟩
  rw[hm2] at HS;by_cases z:e1=0;rotate_left
  . have z1:(e1 !=0)=true:=(by simpa using z)
    have HE:=HS.out;rw[resT_err hc z] at HE;cases HE;clear ho1 hl1 hc1 hm2 hc
    go_wp2_with ((with_reducible refine Calls.mono T1.out ?_);rintro e' _ ⟨rfl,d2,os2,rfl⟩)
    go_ret3;exact⟨_,0,rfl,Nat.zero_le _,rfl,⟨none,0,rfl,World.ownsRow_nil _ _ _ _⟩,Ext.trans X.out zq⟩
  subst z;rw[resT_step hc,List.drop_drop] at HS;have hk1:x-(k+1)=m:=Y;have HDL:=J hdl;clear ho1 hl1 hc1 hm2 hc hdl
  go_wp2_with (first
   | ((with_reducible refine Calls.mono T1.out ?_);rintro e' w2 ⟨rfl,hx2⟩;have HO:=J (own_ext HO.out hx2);have X:=J (X.out.trans hx2);clear hx2)
   | (at_builtin;refine wpList_append_own_at _ rfl _ _ 23 rfl w.heap.size 9 i0 (.string ⟨#[]⟩) 1 16 underlying23 hi hz0 hz1 hz2 rfl zw (.slice p k c) k (done.map Value.string) rfl (HO.out.alloc _) ⟨_,0,none⟩ 1 1 [.string ⟨t.toArray⟩] rfl rfl (qaq zy) ji jq Y (by have:=X.out.size;simp;omega) ?_))
  intro v3 w3 hown hgrow _ _;have X3:=J (qbR (X.out.alloc _) (HO.out.alloc _) hgrow);obtain⟨p3,c3,rfl⟩:=qad hown;have H3:=J hown;clear hown hgrow;go_wp2_with fail;go_roundw
  case measure=>simp[intOf];omega
  case rel=>exact⟨k+1,at_+n1,done++[⟨t.toArray⟩],p3,c3,by go_num,by go_num,Y,Y,by rw[List.length_append,HDL.out];rfl,rfl,by rw[hk1];exact HS,J (by rw[List.map_append];exact H3.out),X3⟩
end Go.Proofs.YtpnabjopfpdkhaaGreatDoor
namespace Go.Proofs.YtpnabjopfpdkhaaGreatDoor
open Go.Proofs.Tryz Go.RowKit
open Go.ChangeShapes Go.WideShapes Go.ChangeAt Go.Joins
def qcT {H:Type} {P:Program} {e:TypeId} {d:DataW H} {n:Nat} (hn:n∈d.weights P e):∀ (ds:List (DataW H)),d∈ds->n∈DataW.weightsAll P e ds
 | [],h=>by simp at h
 | x::ds,h=>by
  simp only[DataW.weightsAll,List.mem_append];rcases List.mem_cons.1 h with rfl | h
  . exact Or.inl hn
  . exact Or.inr (qcT hn ds h)
def signs_of {r:List (String × DataW Unit)} {W:World} (h:laidMet prog (("plenum/key.signs",Rows.laid_plenum_key_signs)::r) W):SignsAt W.heap.size W:=by
 have hg:prog.globalNamed "plenum/key.signs"=some 0:=zv;have hgt:(prog.globals[0]?).map (·.type)=some 217:=zv;have t:=Lib.tabIs_of_head (k:=.u64) (zs:=[288195191779622912,576460745860972544]) hg hgt underlying217 underlying85 zv zv h;have c0:=t.cell hg 0 zw;have c1:=t.cell hg 1 zw;exact⟨World.block_lt_of_cell? _ _ c0,c0,c1⟩
def list_of {α:Type} (len:Nat) (P:Nat->α->Prop) (h:∀ i,i<len->∃ a,P i a):∃ l:List α,l.length=len/\∀ j a,l[j]?=some a->P j a:=by
 induction len with
 | zero=>exact⟨[],rfl,fun j a hj=>by simp at hj⟩
 | succ n ih =>
  obtain⟨l,hl,hp⟩:=ih (fun i hi=>h i Y);obtain⟨a,ha⟩:=h n Y;refine ⟨l++[a],by simp[hl],fun j b hj=>?_⟩;rcases Nat.lt_or_ge j l.length with hlt | hge
  . rw[List.getElem?_append_left hlt] at hj;exact hp j b hj
  . rw[List.getElem?_append_right hge] at hj
    have hz:j-l.length=0:=by
     rcases Nat.eq_zero_or_pos (j-l.length) with hz | hz
     . exact hz
     . rw[List.getElem?_eq_none zg] at hj;cases hj
    rw[hz] at hj;simp at hj;subst hj;have:j=n:=by omega
    subst this;exact ha
def Sm {H:Type} (t:TypeId) (d:DataW H):Prop:=∀ n∈d.weights prog t,n<=140737488351232
def sm_of {H:Type} {ts:List TypeId} {ds:List (DataW H)} {j:Nat} {t:TypeId} {d:DataW H} (hs:(DataW.weightsEach prog ts ds).all (·<=reachBytes)=true) (ht:ts[j]?=some t) (hd:ds[j]?=some d):Sm t d:=fun n hn=>by
 have:=List.all_eq_true.1 hs _ (DataW.weights_mem_each ht hd n hn);have e:reachBytes=140737488351232:=zw;rw[e] at this
 simpa using this
def qet {H:Type} {t:TypeId} {fs:Array Field} {parts:List (DataW H)} (ht:prog.underlying t=some (.struct fs)) (h:Sm t (.agg parts)) {i:Nat} {f:Field} {d:DataW H} (hf:fs[i]?=some f) (hd:parts[i]?=some d):Sm f.type d:=fun n hn=>h n (by
 simp only[DataW.weights,ht]
 exact DataW.weights_mem_each (ts:=fs.toList.map (·.type)) (j:=i) (by simp[hf]) hd n hn)
def sm_slice {H:Type} {t e:TypeId} {els sp:List (DataW H)} (ht:prog.underlying t=some (.slice e)) (h:Sm t (.slice els sp)):(els.length+sp.length)*prog.bytesOf e<=140737488351232/\∀ d∈els,Sm e d :=
 ⟨h _ (by simp only[DataW.weights,ht];exact List.mem_cons_self ..),fun d hd n hn=>h n (by
  simp only[DataW.weights,ht,List.mem_cons,List.mem_append]
  exact Or.inr (Or.inl (qcT hn els hd)))⟩
section
variable {H:Type} {enc:TypeId × Value->H} {W:World}
def rd_string {fuel:Nat} {t:TypeId} {cs:List Value} {x:DataW H × List MemPlace} (ht:prog.underlying t=some .string) (h:DataW.trod enc prog W 0 (fun _=>true) true fuel t cs=some x) (hs:Sm t x.1):∃ s:ByteArray,cs=[.string s]/\s.size<=140737488351232:=by
 obtain⟨s,rfl,rfl,_⟩:=DataW.trod_string ht h;refine ⟨s,rfl,?_⟩;have:=hs s.data.toList.length (by simp[DataW.weights]);rw[qfO] at this;exact this
def rd_int {fuel:Nat} {t:TypeId} {cs:List Value} {x:DataW H × List MemPlace} (ht:prog.underlying t=some (.int .i64)) (h:DataW.trod enc prog W 0 (fun _=>true) true fuel t cs=some x):∃ z:Int,cs=[.int .i64 z]/\In64I z:=by
 obtain⟨z,rfl,_,w⟩:=DataW.trod_int ht h;refine ⟨z,rfl,?_⟩;simp only[Lit.wf,Bool.and_eq_true,decide_eq_true_eq] at w;have w':-9223372036854775808<=z/\z<=9223372036854775807:=by simpa [IntKind.min,IntKind.max,IntKind.bits,IntKind.signed] using w
 exact w'
def cS:prog.cellsOf 9=1:=by kernel_rfl
def cI:prog.cellsOf 3=1:=by kernel_rfl
def cTx:prog.cellsOf 23=1:=by kernel_rfl
def rd_strs {fuel:Nat} {cs:List Value} {x:DataW H × List MemPlace} (h:DataW.trod enc prog W 0 (fun _=>true) true fuel 23 cs=some x) (hs:Sm 23 x.1):∃ v l,cs=[v]/\StrsAt W v l/\(∀ s∈l,s.size<=140737488351232)/\l.length<=140737488351232:=by
 rcases Deep.open_slice underlying23 h with ⟨rfl,rfl⟩ | ⟨a,len,cap,m,n,D,Pl,rfl,hb,hl,hm,hmm,rfl,hi⟩
 . exact⟨_,[],rfl,Or.inl ⟨none,0,rfl,rfl⟩,zy,zy⟩
 . simp only[if_true] at hmm;subst hmm;obtain⟨hb1,hb2⟩:=sm_slice underlying23 hs
   have key:∀ i,i<len->∃ s:ByteArray,s.size<=140737488351232/\W.cell? (a.add i)=some (.string s):=by
    intro i hil;obtain⟨cs',hc,ht'⟩:=hi i Y;rw[cS] at hc;obtain⟨s,rfl,hin⟩:=rd_string underlying9 ht' (hb2 _ (List.mem_map.2 ⟨i,List.mem_range.2 hil,rfl⟩));obtain⟨_,_,hat⟩:=World.cells?_some hc;have:=hat 0 Y;rw[Deep.add_add,Nat.mul_one,Nat.add_zero] at this;exact⟨s,hin,this⟩
   rcases Nat.eq_zero_or_pos len with h0 | h0
   . subst h0;exact⟨_,[],rfl,Or.inl ⟨some a,m,rfl,rfl⟩,zy,zy⟩
   obtain⟨ab,ao,spot⟩:=a
   have hspot:spot=none:=by
    obtain⟨s,_,hx0⟩:=key 0 Y
    simpa [Addr.add] using World.cell?_spot hx0
   subst hspot
   obtain⟨l,hll,hp⟩:=list_of len (fun j (s:ByteArray)=>s.size<=140737488351232/\W.cell? ⟨ab,ao+j,none⟩=some (.string s)) (fun i hi2=>by
    obtain⟨s,h1,h2⟩:=key i hi2;rw[Addr.add_lit] at h2
    exact⟨s,h1,h2⟩)
   refine ⟨_,l,rfl,Or.inr ⟨ab,ao,m,by rw[hll],Y,fun j u hj=>(hp j u hj).2⟩,fun s hs2=>?_,by
    have hby:1<=prog.bytesOf 9:=(by rw[show prog.bytesOf 9=16 by kernel_rfl];decide)
    have:=Nat.le_trans (Nat.le_mul_of_pos_right _ hby) hb1;simp at this
    omega⟩
   obtain⟨j,hj⟩:=List.getElem?_of_mem hs2;exact(hp j s hj).1
end
end Go.Proofs.YtpnabjopfpdkhaaGreatDoor
