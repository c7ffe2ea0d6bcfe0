/- Lemmas. -/
import Derived.Test.YtpnabjopfpdkhaaGreatDoorT23
import Derived.Test.YtpnabjopfpdkhaaGreatDoorT24
import Derived.Test.YtpnabjopfpdkhaaGreatDoorT27
import Derived.Test.YtpnabjopfpdkhaaGreatDoorT29
import Derived.Deep.DeepCutAuto
import Derived.Deep.CutBlock
import Derived.Test.YtpnabjopfpdkhaaGreatDoorRows
import Derived.Deep.Strs
import Derived.Stop.LaidErr
import Derived.Stop.Joined
import Derived.LaidMore
import Derived.Lib.LaidTab
import Derived.LaidLaws
import Derived.ChangeSame
import Derived.ChangeVars
import Derived.JoinedOf
import Derived.RowKitTokens
import Derived.OpenShut
import Derived.Deep.Slices
import Derived.Deep.Fields
set_option linter.unusedSimpArgs false
set_option linter.unusedVariables false
namespace Go.Proofs.YtpnabjopfpdkhaaGreatDoor
open Go.RowKit
variable {W w w':World} {v:Value} {l:List ByteArray} {B N k:Nat} {s:ByteArray}
structure Tx where
 c:Int
 t:Int
 rv:Value
 wv:Value
 src:ByteArray
 gas:Int
 rd:List ByteArray
 wr:List ByteArray
def txL (x:Tx):List Value:=[.int .i64 x.c,.int .i64 x.t,x.rv,x.wv,.string x.src,.int .i64 x.gas]
def txV (x:Tx):Value:=.agg #[.int .i64 x.c,.int .i64 x.t,x.rv,x.wv,.string x.src,.int .i64 x.gas]
def txC (l:List Tx):List Value:=l.flatMap txL
def srcE (s:ByteArray):Int × Int:=match qaT s.data.toList with
 | .error x=>x
 | .ok (ns,fi)=>((qbf ns fi).2.2.1,(qbf ns fi).2.2.2)
def patG:Option ByteArray→List ByteArray→Bool
 | _,[]=>true
 | none,s::l=>patB s&&patG (some s) l
 | some y,s::l=>patB s&&(ltB y s&&patG (some s) l)
def patsF (l:List ByteArray):Bool:=patG none l&&decide (l.length≤8)
def numsT (x:Tx):Bool:=decide (0≤x.c)&&decide (x.c≤255)&&decide (1≤x.t)&&decide (x.t≤2147483647)&&decide (0≤x.gas)&&decide (x.gas≤100000)
def chkT (x:Tx):Int × Int :=
 if numsT x=false then(1,0) else if patsF x.rd=false then(1,1) else if patsF x.wr=false then(1,2) else if (srcE x.src).1=0 then(0,0) else((srcE x.src).1,3)
def okT (x:Tx):Bool:=(chkT x).1==0
def PatS (w:World) (v:Value) (l:List ByteArray):Prop:=StrsAt w v l∧(∀ s∈l,s.size≤140737488351232)∧l.length≤140737488351232
def TxAt (w:World) (x:Tx):Prop:=PatS w x.rv x.rd∧PatS w x.wv x.wr∧x.src.size≤140737488351232∧In64I x.c∧In64I x.t∧In64I x.gas
theorem PatS.ext (h:PatS w v l) (hx:Ext w w'):PatS w' v l:=⟨h.1.ext hx,h.2⟩
theorem TxAt.ext {x:Tx} (h:TxAt w x) (hx:Ext w w'):TxAt w' x:=⟨h.1.ext hx,h.2.1.ext hx,h.2.2⟩
def TxIn (w:World) (v:Value) (l:List Tx):Prop:=(∀ x∈l,TxAt w x)∧RowIn w txL 6 v l
theorem TxIn.ext {l:List Tx} (h:TxIn w v l) (hx:Ext w w'):TxIn w' v l:=⟨fun x hm=>(h.1 x hm).ext hx,h.2.ext hx⟩
set_option maxHeartbeats 4000000
set_option maxRecDepth 20000
attribute [go_sem] more_more Array.size_append
theorem src_err {s:List UInt8} {c a:Int} (h:qaT s=.error (c,a)):c≠0:=by
 unfold qaT at h
 split at h
 · exact parse_nz _ c a h
 · rename_i hq
   simp only[Except.error.injEq,Prod.mk.injEq] at h;rw[←h.1];exact hq
theorem qaG (h:StrsAt w v l):∃ p cap,v=.slice p l.length cap∧Hid (∀ j u,l[j]?=some u→∃ b off,p=some ⟨b,off,none⟩∧w.cell? ⟨b,off+j,none⟩=some (.string u)):=by
 rcases h with ⟨p,cap,rfl,rfl⟩ | ⟨b,off,cap,rfl,h1,h2⟩
 · exact⟨p,cap,rfl,fun j u hj=>by simp at hj⟩
 · exact⟨_,cap,rfl,fun j u hj=>⟨b,off,rfl,h2 j u hj⟩⟩
theorem csrc_any (s:ByteArray) (w:World):Calls Tryz.prog 73 #[.string s] w fun e w'=>∃ v,e=.returned (.tuple #[v,.int .i64 (srcE s).1,.int .i64 (srcE s).2])∧Ext w w':=by
 unfold srcE
 cases hr:qaT s.data.toList with
 | error x =>
  obtain⟨c,a⟩:=x
  exact(csource_err s c a hr (src_err hr) w).mono fun _ _ ⟨h1,h2⟩=>⟨_,h1,h2⟩
 | ok x =>
  obtain⟨ns,fi⟩:=x
  have hz:∀ z∈ns,z.s.size≤maxLen:=fun z hm=>by have:=(source_tidy hr z hm).1;unfold maxLen;omega
  obtain⟨l,mo,e,a,hf⟩:∃ l mo e a,qbf ns fi=(l,mo,e,a):=⟨_,_,_,_,rfl⟩
  dsimp only;rw[hf]
  by_cases he:e=0
  · subst he
    obtain⟨R,hR,-⟩:=code_of hf
    exact(csource_ok s ns fi hr hz l mo a hf R hR w).mono fun _ _ ⟨c,h1,_,h2⟩=>⟨.pointer (some ⟨c,0,none⟩),by rw[h1,(qdB hf).2.1],h2⟩
  · exact(csource_no s ns fi hr hz l mo e a hf he w).mono fun _ _ ⟨h1,h2⟩=>⟨_,h1,h2⟩
theorem kpat_any (s:ByteArray) (hs:s.size≤maxLen) (B:Nat) (w:World) (h:SignsAt B w) (hB:B≤w.heap.size):Calls Tryz.prog 83 #[.string s] w fun e w'=>e=.returned (.bool (patB s))∧Ext w w':=by
 have FM:=Lib.hid (fun W (hx:Ext w W)=>formed_any s hs B W (h.ext hx hB) (Nat.le_trans hB hx.size));clear h hB;go_enter Tryz.func83,Tryz.ntmps83
 go_wp2_with ((with_reducible refine (FM.out _ zaa).mono ?_);rintro e' _ ⟨rfl,d1,os1,rfl⟩)
 go_ret
 exact⟨rfl,zaa⟩
theorem numbers_anyT (x:Tx) (w:World):Calls Tryz.prog 71 #[txV x] w fun e w'=>e=.returned (.bool (numsT x))∧Ext w w':=by
 obtain⟨c,t,rv,wv,src,gas,rd,wr⟩:=x
 obtain⟨r,hr⟩:∃ r,numsT ⟨c,t,rv,wv,src,gas,rd,wr⟩=r:=⟨_,rfl⟩
 rw[hr];unfold numsT at hr;dsimp only at hr;have HR:=Lib.hid hr;clear hr;unfold txV;go_enter Tryz.func71,Tryz.ntmps71;go_wp2_with fail
 all_goals
  go_ret
  exact⟨ret_bool (by rw[←HR.out];simp_all<;>omega),zaa⟩
theorem patG_bad (hs:l[k]?=some s) (p:Option ByteArray) (h:patB s=false):patG p (l.drop k)=false:=by
 rw[List.drop_eq_getElem_cons (List.getElem?_eq_some_iff.1 hs).1,(List.getElem?_eq_some_iff.1 hs).2]
 cases p<;>simp[patG,h]
theorem qft (hs:l[0]?=some s) (h:patB s=true):patG none (l.drop 0)=patG (some s) (l.drop 1):=by
 rw[List.drop_eq_getElem_cons (List.getElem?_eq_some_iff.1 hs).1,(List.getElem?_eq_some_iff.1 hs).2]
 simp[patG,h]
theorem patG_step {y:ByteArray} (hs:l[k]?=some s) (h:patB s=true):patG (some y) (l.drop k)=(ltB y s&&patG (some s) (l.drop (k+1))):=by
 rw[List.drop_eq_getElem_cons (List.getElem?_eq_some_iff.1 hs).1,(List.getElem?_eq_some_iff.1 hs).2]
 simp[patG,h]
def prevP (l:List ByteArray):Nat→Option ByteArray
 | 0=>none
 | k+1=>l[k]?
theorem le_str {a b:ByteArray} {r:Bool} (h:ltB a b=r):(Op.bytesLess b.toList a.toList||b.toList==a.toList)=!r:=by
 rw[bl_le,Lib.toList_data,Lib.toList_data];unfold ltB at h;rw[h]
theorem qdK (v:Value) (l:List ByteArray) (B:Nat) (w:World) (hS:SignsAt B w) (hB:B≤w.heap.size) (h:PatS w v l) (hz9:l.length≤140737488351232):Calls Tryz.prog 72 #[v] w fun e w'=>e=.returned (.bool (patsF l))∧Ext w w':=by
 obtain⟨h,hz,-⟩:=h
 obtain⟨p,cap,rfl,hp⟩:=qaG h
 obtain⟨n,hn⟩:∃ n,l.length=n:=⟨_,rfl⟩
 obtain⟨q,hq⟩:∃ q,patG none l=q:=⟨_,rfl⟩
 unfold patsF;rw[hq,hn];have HN:=Lib.hid hn
 have hln:(n:Int)≤140737488351232:=by omega
 have HQ:=Lib.hid hq;have KP:=Lib.hid (fun s (hs:s∈l) W (hx:Ext w W)=>kpat_any s (by have:=hz s hs;unfold maxLen;omega) B W (hS.ext hx hB) (Nat.le_trans hB hx.size));clear h hz hn hq hS hB;go_enter Tryz.func72,Tryz.ntmps72;go_wp2_with fail;go_loopw [7] (fun i wr=>∃ k:Nat,i=.int .i64 (k:Int)∧k≤n∧patG (prevP l k) (l.drop k)=q∧Ext w wr) (fun i _=>n-(intOf i).toNat)
 case atStart=>exact⟨0,rfl,Nat.zero_le _,HQ.out,Ext.refl _⟩
 case round =>
  obtain⟨k,rfl,hk,hch,d,os,rfl⟩:=hrel
  by_cases hlt:k<n
  case neg =>
   have hkn:k=n:=by omega
   subst hkn
   have hq2:q=true:=by rw[←hch,List.drop_eq_nil_of_le zap];cases prevP l k<;>rfl
   subst hq2;clear hch hk hlt;go_wp2_with fail;go_ret
   exact⟨ret_bool (by simp only[Bool.true_and,decide_eq_decide];omega),zaa⟩
  obtain⟨s,hs⟩:∃ s,l[k]?=some s:=⟨_,List.getElem?_eq_getElem zap⟩
  obtain⟨b,off,rfl,hc⟩:=hp.out k s hs
  have hbl:=World.block_lt_of_cell? _ _ hc;have KS:=Lib.hid (KP.out s (List.mem_of_getElem? hs));have HLT:=Lib.hid hlt
  cases hb:patB s
  · rw[hb] at KS
    have hq2:q=false:=by rw[←hch];exact patG_bad hs _ hb
    subst hq2;clear hch hs hb
    go_wp2_with ((with_reducible refine (KS.out _ zaa).mono ?_);rintro e' _ ⟨rfl,d1,os1,rfl⟩)
    go_ret
    exact⟨ret_bool zaj,zaa⟩
  rw[hb] at KS;rcases k with _ | k
  · have HC:=Lib.hid (show patG (some s) (l.drop 1)=q from by rw[←qft hs hb];exact hch)
    simp only[Nat.add_zero] at hc;have HS:=Lib.hid hs;clear hch hb hs
    go_wp2_with ((with_reducible refine (KS.out _ zaa).mono ?_);rintro e' _ ⟨rfl,d1,os1,rfl⟩)
    go_roundw
    case rel=>exact⟨1,by go_num,by have:=HLT.out;omega,by rw[show prevP l 1=some s from HS.out];exact HC.out,zaa⟩
    case measure=>simp[intOf];have:=HLT.out;omega
  · obtain⟨y,hy⟩:∃ y,l[k]?=some y:=⟨_,List.getElem?_eq_getElem zap⟩
    obtain⟨b',off',he,hc'⟩:=hp.out k y hy
    simp only[Option.some.injEq,Addr.mk.injEq] at he
    obtain⟨rfl,rfl,-⟩:=he
    have HS:=Lib.hid hs
    have hnz:l.length≤140737488351232:=hz9
    have kk0:(0:Int)<(k:Int)+1:=by omega
    have kk1:(0:Int)≤(k:Int):=by omega
    have kk3:(0:Int)≤(k:Int)+1:=by omega
    have kk4:(k:Int)+1<(n:Int):=by omega
    have kk2:(k:Int)<(n:Int):=by omega
    have kw1:wrap64 (k:Int)=(k:Int):=IntWalk.wrap64_in _ zap
    clear hnz;rw[show prevP l (k+1)=some y from hy,patG_step hs hb] at hch
    cases ho:ltB y s
    · have hle:=le_str ho
      have hq2:q=false:=by rw[←hch,ho];rfl
      subst hq2;clear hch hs hb hy ho
      go_wp2_with ((with_reducible refine (KS.out _ zaa).mono ?_);rintro e' _ ⟨rfl,d1,os1,rfl⟩)
      go_ret
      exact⟨ret_bool zaj,zaa⟩
    · have hle:=le_str ho
      rw[ho,Bool.true_and] at hch;have HC:=Lib.hid hch;clear hch hs hb hy ho
      go_wp2_with ((with_reducible refine (KS.out _ zaa).mono ?_);rintro e' _ ⟨rfl,d1,os1,rfl⟩)
      go_roundw
      case rel=>exact⟨k+2,by go_num,by have:=HLT.out;omega,by rw[show prevP l (k+2)=some s from HS.out];exact HC.out,zaa⟩
      case measure=>simp[intOf];have:=HLT.out;omega
theorem tcheck_any (x:Tx) (B:Nat) (w:World) (hS:SignsAt B w) (hB:B≤w.heap.size) (h:TxAt w x):Calls Tryz.prog 52 #[txV x] w fun e w'=>e=.returned (.tuple #[.int .i64 (chkT x).1,.int .i64 (chkT x).2])∧Ext w w':=by
 obtain⟨hr,hw,-⟩:=h
 have NM:=Lib.hid (fun W=>numbers_anyT x W);have PR:=Lib.hid (fun W (hx:Ext w W)=>qdK x.rv x.rd B W (hS.ext hx hB) (Nat.le_trans hB hx.size) (hr.ext hx) hr.2.2);have PW:=Lib.hid (fun W (hx:Ext w W)=>qdK x.wv x.wr B W (hS.ext hx hB) (Nat.le_trans hB hx.size) (hw.ext hx) hw.2.2);have CS:=Lib.hid (fun W=>csrc_any x.src W)
 obtain⟨r,hr0⟩:∃ r,chkT x=r:=⟨_,rfl⟩
 rw[hr0];unfold chkT at hr0
 obtain⟨pr,hpr⟩:∃ b,patsF x.rd=b:=⟨_,rfl⟩
 obtain⟨pw,hpw⟩:∃ b,patsF x.wr=b:=⟨_,rfl⟩
 obtain⟨nm,hnm⟩:∃ b,numsT x=b:=⟨_,rfl⟩
 obtain⟨c,a,hca⟩:∃ c a,srcE x.src=(c,a):=⟨_,_,rfl⟩
 rw[hpr] at PR hr0;rw[hpw] at PW hr0;rw[hnm] at NM hr0;rw[hca] at CS hr0;have HR:=Lib.hid hr0;clear hr0 hpr hpw hnm hca hr hw hS hB
 obtain⟨xc,xt,xrv,xwv,xs,xg,xrd,xwr⟩:=x
 unfold txV at NM ⊢;go_enter Tryz.func52,Tryz.ntmps52
 go_wp2_with (first
  | ((with_reducible refine (NM.out _).mono ?_);rintro e' _ ⟨rfl,d1,os1,rfl⟩)
  | ((with_reducible refine (PR.out _ zaa).mono ?_);rintro e' _ ⟨rfl,d1,os1,rfl⟩)
  | ((with_reducible refine (PW.out _ zaa).mono ?_);rintro e' _ ⟨rfl,d1,os1,rfl⟩)
  | ((with_reducible refine (CS.out _).mono ?_);rintro e' _ ⟨v,rfl,d1,os1,rfl⟩))
 all_goals
  go_ret2
  exact⟨by rw[←HR.out];simp_all,zaa⟩
theorem qfi (x:Tx) (B:Nat) (w:World) (hS:SignsAt B w) (hB:B≤w.heap.size) (h:TxAt w x):Calls Tryz.prog 28 #[txV x] w fun e w'=>e=.returned (.bool (!okT x))∧Ext w w':=by
 have CH:=Lib.hid (fun W (hx:Ext w W)=>tcheck_any x B W (hS.ext hx hB) (Nat.le_trans hB hx.size) (h.ext hx))
 obtain⟨c,hc⟩:∃ c,(chkT x).1=c:=⟨_,rfl⟩
 unfold okT;rw[hc] at CH ⊢;clear h hS hB hc
 obtain⟨xc,xt,xrv,xwv,xs,xg,xrd,xwr⟩:=x
 unfold txV at CH ⊢;go_enter Tryz.func28,Tryz.ntmps28
 go_wp2_with ((with_reducible refine (CH.out _ zaa).mono ?_);rintro e' _ ⟨rfl,d1,os1,rfl⟩)
 go_ret
 exact⟨ret_bool (by simp[bne]),zaa⟩
def ofQ (q:List Tx) (c:Int):Option Nat:=q.findIdx? (fun x=>x.c==c)
def qbe (q:List Tx):Bool:=(q.zipIdx.all fun p=>ofQ q p.1.c==some p.2)&&decide (q.length≤64)&&q.all okT
def addQ (q:List Tx) (t:Tx) (d:List La):Except Int (List Tx) :=
 if qbe q=false∨okT t=false∨isL d=false then .error 1
 else if askE d t.c t.t≠6 then .error 18
 else match ofQ q t.c with
  | none=>if q.length=64 then .error 5 else .ok (q++[t])
  | some i=>match q[i]? with
   | none=>.error 1
   | some x=>if x.t=t.t then .error 16 else if t.t<x.t then .error 18 else .ok (q.set i t)
def dropQ (q:List Tx) (d:List La):Except Int (List Tx) :=
 if qbe q=false∨isL d=false then .error 1 else .ok (q.filter fun x=>askE d x.c x.t==6)
theorem ofQ_some {q:List Tx} {c:Int} {i:Nat} (h:ofQ q c=some i):∃ x,q[i]?=some x∧x.c=c∧∀ j y,j<i→q[j]?=some y→y.c≠c:=by
 unfold ofQ at h;rw[List.findIdx?_eq_some_iff_getElem] at h
 obtain⟨hi,h1,h2⟩:=h
 refine ⟨q[i],List.getElem?_eq_getElem hi,by simpa using h1,fun j y hj hy=>?_⟩
 have:=h2 j hj
 obtain⟨hjl,e⟩:=List.getElem?_eq_some_iff.1 hy
 rw[e] at this
 simpa using this
theorem ofQ_of {q:List Tx} (hn:(q.map Tx.c).Nodup) {i:Nat} {x:Tx} (h:q[i]?=some x):ofQ q x.c=some i:=by
 unfold ofQ;rw[List.findIdx?_eq_some_iff_getElem]
 obtain⟨hi,e⟩:=List.getElem?_eq_some_iff.1 h
 refine ⟨hi,by rw[e];simp,fun j hj=>?_⟩;simp only[beq_iff_eq];intro hc
 have:=(List.pairwise_iff_getElem.1 hn) j i zam (by simpa using hi) hj
 simp only[List.getElem_map,e] at this;exact this hc
theorem qfe (q:List Tx):qbe q=true↔(q.map Tx.c).Nodup∧q.length≤64∧∀ x∈q,okT x=true:=by
 unfold qbe;simp only[Bool.and_eq_true,decide_eq_true_eq,List.all_eq_true,beq_iff_eq,and_assoc]
 refine and_congr_left fun _=>?_
 constructor
 · intro h
   refine List.pairwise_iff_getElem.2 fun i j hi hj hij e=>?_
   simp only[List.length_map] at hi hj;simp only[List.getElem_map] at e;have h1:=h (q[j],j) (by rw[List.mem_zipIdx_iff_getElem?];exact List.getElem?_eq_getElem hj)
   obtain⟨x,_,_,h4⟩:=ofQ_some h1
   exact h4 i q[i] hij (List.getElem?_eq_getElem zac) e
 · rintro hn ⟨x,i⟩ hp
   rw[List.mem_zipIdx_iff_getElem?] at hp;exact ofQ_of hn hp
theorem nodup_c {q:List Tx} (hn:(q.map Tx.c).Nodup) {i j:Nat} {x y:Tx} (hx:q[i]?=some x) (hy:q[j]?=some y) (hc:x.c=y.c):i=j:=by
 have h1:=ofQ_of hn hx;have h2:=ofQ_of hn hy;rw[hc,h2] at h1
 exact(Option.some.inj h1).symm
theorem qca {x:Tx} (h:TxAt w x):∃ p1 m1 k1 p2 m2 k2,x.rv=.slice p1 m1 k1∧x.wv=.slice p2 m2 k2:=by
 obtain⟨p1,k1,e1,-⟩:=qaG h.1.1
 obtain⟨p2,k2,e2,-⟩:=qaG h.2.1.1
 exact⟨p1,_,k1,p2,_,k2,e1,e2⟩
def idxI (p:Tx→Bool) (l:List Tx):Int:=match l.findIdx? p with
 | some i=>(i:Int)
 | none=>-1
theorem idxI_at {p:Tx→Bool} {l:List Tx} {x:Tx} (hx:l[k]?=some x) (hp:p x=true) (h:∀ j y,j<k→l[j]?=some y→p y=false):idxI p l=(k:Int):=by
 have hk:=(List.getElem?_eq_some_iff.1 hx).1;unfold idxI;rw[List.findIdx?_eq_some_iff_getElem.2 ⟨hk,by rw[(List.getElem?_eq_some_iff.1 hx).2];exact hp,fun j hj=>by rw[h j _ hj (List.getElem?_eq_getElem zac)];simp⟩]
theorem idxI_no {p:Tx→Bool} {l:List Tx} (h:∀ (j:Nat) y,l[j]?=some y→p y=false):idxI p l=-1:=by
 unfold idxI;rw[List.findIdx?_eq_none_iff.2 (fun x hx=>by obtain⟨j,hj⟩:=List.getElem?_of_mem hx;exact h j x hj)]
theorem qeP (gn:Nat) (cb:Array Value) (eg:∀ args w,(callFunc gn args).run Tryz.prog w=.ok (.enter gn args) w) (p:Tx→Bool) (v:Value) (l:List Tx) (w:World) (h:TxIn w v l) (hl:l.length≤100000)
  (hp:∀ x∈l,∀ W,Ext w W→Calls Tryz.prog gn (#[txV x]++cb) W fun e w'=>e=.returned (.bool (p x))∧Ext W w'):Calls Tryz.prog 57 #[v,.func (.func gn) #[] cb] w fun e w'=>e=.returned (.int .i64 (idxI p l))∧Ext w w':=by
 obtain⟨ht,pp,cap,rfl,-,-,hr⟩:=h
 obtain⟨n,hn⟩:∃ n,l.length=n:=⟨_,rfl⟩
 rw[hn] at hl ⊢
 obtain⟨r,hr0⟩:∃ r,idxI p l=r:=⟨_,rfl⟩
 rw[hr0];have HN:=Lib.hid hn;have HR:=Lib.hid hr0;have HP:=Lib.hid hp;have HC:=Lib.hid hr
 have hln:(n:Int)≤100000:=by omega
 clear ht hr hp hn hr0;go_enter Tryz.func57,Tryz.ntmps57;go_wp2_with fail
 go_loopg [5,8] n (fun gg _ s8 wr=>∃ k:Nat,k≤n∧n-k≤gg∧s8=.int .i64 k∧Ext w wr∧RowKit.Hid (∀ j y,j<k→l[j]?=some y→p y=false))
 case atStart=>exact⟨0,Nat.zero_le _,by omega,rfl,Ext.refl _,Lib.hid fun j y hj=>absurd hj (Nat.not_lt_zero _)⟩
 case round =>
  obtain⟨k,hk,hg,rfl,⟨d,os,rfl⟩,A⟩:=hrel
  by_cases hlt:k<n
  · have hltz:(k:Int)<(n:Int):=by omega
    have hk0:0≤(k:Int):=by omega
    obtain⟨x,hx⟩:∃ x,l[k]?=some x:=⟨_,List.getElem?_eq_getElem zap⟩
    obtain⟨b,off,rfl,hc⟩:=HC.out k x hx
    have c0:=hc 0 _ rfl;have c1:=hc 1 _ rfl;have c2:=hc 2 _ rfl;have c3:=hc 3 _ rfl;have c4:=hc 4 _ rfl;have c5:=hc 5 _ rfl;have hbl:=World.block_lt_of_cell? _ _ c0;simp only[Nat.add_zero] at c0 hbl;have PX:=Lib.hid (HP.out x (List.mem_of_getElem? hx));have HX:=Lib.hid hx;clear hc hx
    obtain⟨q,hq⟩:∃ q,p x=q:=⟨_,rfl⟩
    rw[hq] at PX;have HQ:=Lib.hid hq;clear hq
    obtain⟨xc,xt,xrv,xwv,xs,xg,xrd,xwr⟩:=x
    unfold txV at PX;dsimp only at c0 c1 c2 c3 c4 c5 PX
    cases q
    · go_wp2_with ((with_reducible refine (PX.out _ zaa).mono ?_);rintro e' _ ⟨rfl,d1,os1,rfl⟩)
      go_roundg (n-(k+1))
      case measure=>omega
      case rel =>
       refine ⟨k+1,by omega,by omega,by go_num,zaa,Lib.hid fun j y hj hy=>?_⟩
       by_cases e:j=k
       · subst e;rw[HX.out] at hy;cases hy;exact HQ.out
       · exact A.out j y zac hy
    · have HF:=Lib.hid (idxI_at HX.out HQ.out A.out)
      go_wp2_with ((with_reducible refine (PX.out _ zaa).mono ?_);rintro e' _ ⟨rfl,d1,os1,rfl⟩)
      go_ret
      exact⟨ret_int (by rw[←HR.out,HF.out]),zaa⟩
  · have:k=n:=by omega
    subst this;have HF:=Lib.hid (idxI_no (p:=p) (l:=l) fun j y hy=>A.out j y (by have:=(List.getElem?_eq_some_iff.1 hy).1;rw[HN.out] at this;exact this) hy);go_wp2_with fail;go_ret
    exact⟨ret_int (by rw[←HR.out,HF.out]),zaa⟩
theorem qdP (gn:Nat) (cb:Array Value) (eg:∀ args w,(callFunc gn args).run Tryz.prog w=.ok (.enter gn args) w) (p:Tx→Bool) (v:Value) (l:List Tx) (w:World) (h:TxIn w v l) (hl:l.length≤100000)
  (hp:∀ x∈l,∀ W,Ext w W→Calls Tryz.prog gn (#[txV x]++cb) W fun e w'=>e=.returned (.bool (p x))∧Ext W w'):Calls Tryz.prog 35 #[v,.func (.func gn) #[] cb] w fun e w'=>e=.returned (.bool (l.any p))∧Ext w w':=by
 have IX:=Lib.hid (fun W (hx:Ext w W)=>qeP gn cb eg p v l W (h.ext hx) hl (fun x hm W' hx'=>hp x hm W' (hx.trans hx')))
 obtain⟨r,hr⟩:∃ r,idxI p l=r:=⟨_,rfl⟩
 have HR:=Lib.hid (show decide (0≤r)=l.any p from by
  rw[←hr];unfold idxI
  cases h:l.findIdx? p with
  | none =>
   rw[List.findIdx?_eq_none_iff] at h;rw[show l.any p=false from by rw[List.any_eq_false];intro x hx;rw[h x hx];simp];rfl
  | some i =>
   rw[List.findIdx?_eq_some_iff_getElem] at h
   obtain⟨hi,h1,-⟩:=h
   rw[show l.any p=true from List.any_eq_true.2 ⟨_,List.getElem_mem hi,h1⟩]
   simp)
 rw[hr] at IX;clear h hl hp hr;go_enter Tryz.func35,Tryz.ntmps35
 go_wp2_with ((with_reducible refine (IX.out _ zaa).mono ?_);rintro e' _ ⟨rfl,d1,os1,rfl⟩)
 go_ret
 exact⟨ret_bool HR.out,zaa⟩
theorem entersOf (args:Array Value) (w:World):(callFunc 58 args).run Tryz.prog w=.ok (.enter 58 args) w:=by kernel_rfl
theorem entersWr (args:Array Value) (w:World):(callFunc 28 args).run Tryz.prog w=.ok (.enter 28 args) w:=by kernel_rfl
theorem of1_any (x:Tx) (c:Int) (b:Nat) (w:World) (hc:w.cell? ⟨b,0,none⟩=some (.int .i64 c)):Calls Tryz.prog 58 (#[txV x]++#[.pointer (some ⟨b,0,none⟩)]) w fun e w'=>e=.returned (.bool (x.c==c))∧Ext w w':=by
 obtain⟨xc,xt,xrv,xwv,xs,xg,xrd,xwr⟩:=x
 have hb:=World.block_lt_of_cell? _ _ hc
 show Calls Tryz.prog 58 #[.agg #[.int .i64 xc,.int .i64 xt,xrv,xwv,.string xs,.int .i64 xg],.pointer (some ⟨b,0,none⟩)] w fun e w'=>e=.returned (.bool (xc==c))∧Ext w w'
 go_enter Tryz.func58,Tryz.ntmps58;go_wp2_with fail;go_ret
 exact⟨rfl,zaa⟩
theorem bof_any (v:Value) (l:List Tx) (c:Int) (w:World) (h:TxIn w v l) (hl:l.length≤100000):Calls Tryz.prog 32 #[v,.int .i64 c] w fun e w'=>e=.returned (.int .i64 (idxI (fun x=>x.c==c) l))∧Ext w w':=by
 have IX:=Lib.hid (qeP _ #[.pointer (some ⟨w.heap.size,0,none⟩)] entersOf (fun x=>x.c==c) v l (w.alloc (.cells #[.int .i64 c] 3)) (h.ext ((Ext.refl _).alloc _)) hl (fun x hm W' hx'=>of1_any x c w.heap.size W' (cell_ext ((KB.new w #[.int .i64 c] 3).cell 0 _ rfl) hx')))
 obtain⟨r,hr⟩:∃ r,idxI (fun x=>x.c==c) l=r:=⟨_,rfl⟩
 rw[hr] at IX ⊢;clear h hl hr;go_enter Tryz.func32,Tryz.ntmps32
 go_wp2_with ((with_reducible refine (IX.out).mono ?_);rintro e' _ ⟨rfl,d1,os1,rfl⟩)
 go_ret
 exact⟨rfl,zaa⟩
theorem idx_of (l:List Tx) (c:Int) (k:Nat):(idxI (fun x=>x.c==c) l==(k:Int))=(ofQ l c==some k):=by
 unfold idxI ofQ
 cases h:l.findIdx? (fun x=>x.c==c) with
 | none=>simp
 | some i =>
  rw[Bool.eq_iff_iff,beq_iff_eq,beq_iff_eq,Option.some.injEq];exact Int.ofNat_inj
def ownsB (l:List Tx) (k:Nat):Bool:=((l.zipIdx).drop k).all fun p=>ofQ l p.1.c==some p.2
theorem owns_step {l:List Tx} {x:Tx} (h:l[k]?=some x):ownsB l k=((ofQ l x.c==some k)&&ownsB l (k+1)):=by
 have hk:=(List.getElem?_eq_some_iff.1 h).1;unfold ownsB;rw[List.drop_eq_getElem_cons (by simpa using hk),List.all_cons]
 congr 1
 simp[(List.getElem?_eq_some_iff.1 h).2]
theorem owns_end {l:List Tx}:ownsB l l.length=true:=by unfold ownsB;rw[List.drop_eq_nil_of_le zaj];rfl
theorem queue_owns (l:List Tx):qbe l=(ownsB l 0&&(decide (l.length≤64)&&!(l.any fun x=>!okT x))):=by
 unfold qbe ownsB;rw[List.drop_zero,Bool.and_assoc]
 congr 2
 rw[List.any_eq_not_all_not]
 simp
theorem qdw (v:Value) (l:List Tx) (B:Nat) (w:World) (hS:SignsAt B w) (hB:B≤w.heap.size) (h:TxIn w v l) (hl:l.length≤100000):Calls Tryz.prog 12 #[v] w fun e w'=>e=.returned (.bool (qbe l))∧Ext w w':=by
 have OF:=Lib.hid (fun c W (hx:Ext w W)=>bof_any v l c W (h.ext hx) hl);have CT:=Lib.hid (fun W (hx:Ext w W)=>qdP _ #[] entersWr (fun x=>!okT x) v l W (h.ext hx) hl (fun x hm W' hx'=>qfi x B W' (hS.ext (hx.trans hx') hB) (Nat.le_trans hB (hx.trans hx').size) ((h.1 x hm).ext (hx.trans hx'))));rw[queue_owns]
 obtain⟨ht,pp,cap,rfl,-,-,hr⟩:=h
 obtain⟨q,hq⟩:∃ q,ownsB l 0=q:=⟨_,rfl⟩
 obtain⟨a,ha⟩:∃ a,(l.any fun x=>!okT x)=a:=⟨_,rfl⟩
 rw[ha] at CT;rw[hq,ha];have HL:=Lib.hid (owns_end (l:=l))
 obtain⟨n,hn⟩:∃ n,l.length=n:=⟨_,rfl⟩
 rw[hn] at hl OF CT HL ⊢;have HN:=Lib.hid hn;have HQ:=Lib.hid hq;have HC:=Lib.hid hr;have HT:=Lib.hid ht
 have hln:(n:Int)≤100000:=by omega
 clear ht hr hn hq ha hS hB;go_enter Tryz.func12,Tryz.ntmps12;go_wp2_with fail;go_loopw [7] (fun i wr=>∃ k:Nat,i=.int .i64 (k:Int)∧k≤n∧ownsB l k=q∧Ext w wr) (fun i _=>n-(intOf i).toNat)
 case atStart=>exact⟨0,rfl,Nat.zero_le _,HQ.out,Ext.refl _⟩
 case round =>
  obtain⟨k,rfl,hk,hch,d,os,rfl⟩:=hrel
  by_cases hlt:k<n
  case neg =>
   have hkn:k=n:=by omega
   subst hkn
   have hq2:q=true:=by rw[←hch];exact HL.out
   subst hq2;clear hch hk hlt
   go_wp2_with ((with_reducible refine (CT.out _ zaa).mono ?_);rintro e' _ ⟨rfl,d1,os1,rfl⟩)
   all_goals
    go_ret
    exact⟨ret_bool (by simp_all<;>omega),zaa⟩
  have hltz:(k:Int)<(n:Int):=by omega
  obtain⟨x,hx⟩:∃ x,l[k]?=some x:=⟨_,List.getElem?_eq_getElem zap⟩
  obtain⟨b,off,rfl,hc⟩:=HC.out k x hx
  have c0:=hc 0 _ rfl;have c1:=hc 1 _ rfl;have c2:=hc 2 _ rfl;have c3:=hc 3 _ rfl;have c4:=hc 4 _ rfl;have c5:=hc 5 _ rfl;have hbl:=World.block_lt_of_cell? _ _ c0;simp only[Nat.add_zero] at c0 hbl
  obtain⟨p1,m1,k1,p2,m2,k2,e1,e2⟩:=qca (HT.out x (List.mem_of_getElem? hx))
  rw[owns_step hx,←idx_of] at hch;have OX:=Lib.hid (OF.out x.c)
  obtain⟨r,hr⟩:∃ r,idxI (fun y=>y.c==x.c) l=r:=⟨_,rfl⟩
  rw[hr] at OX hch;clear hc hx hr
  obtain⟨xc,xt,xrv,xwv,xs,xg,xrd,xwr⟩:=x
  dsimp only at c0 c1 c2 c3 c4 c5 OX e1 e2;subst e1 e2;have HLT:=Lib.hid hlt;clear hlt
  cases e:(r==(k:Int))
  · rw[e,Bool.false_and] at hch
    subst hch
    have e2:(r !=(k:Int))=true:=by simp[bne,e]
    clear e
    go_wp2_with ((with_reducible refine (OX.out _ zaa).mono ?_);rintro e' _ ⟨rfl,d1,os1,rfl⟩)
    go_ret
    exact⟨ret_bool zaj,zaa⟩
  · rw[e,Bool.true_and] at hch
    have e2:(r !=(k:Int))=false:=by simp[bne,e]
    have HCH:=Lib.hid hch;clear e hch
    go_wp2_with ((with_reducible refine (OX.out _ zaa).mono ?_);rintro e' _ ⟨rfl,d1,os1,rfl⟩)
    go_roundw
    case rel=>exact⟨k+1,by go_num,by have:=HLT.out;omega,HCH.out,zaa⟩
    case measure=>simp[intOf];have:=HLT.out;omega
theorem txInfo:(Tryz.prog.info? 27).map (fun i=>(i.zero,i.size,i.bytes))=some (some (.agg #[.int .i64 0,.int .i64 0,.slice none 0 0,.slice none 0 0,.string ⟨#[]⟩,.int .i64 0]),6,88):=by kernel_rfl
theorem qcr (x:Tx):(txL x).length=6:=rfl
theorem txC_one {l:List Tx} (h:∀ x∈l,TxAt w x):∀ u∈txC l,u.oneCell'=true:=by
 intro u hu
 obtain⟨x,hx,hm⟩:=List.mem_flatMap.1 hu
 obtain⟨p1,m1,k1,p2,m2,k2,e1,e2⟩:=qca (h x hx)
 simp[txL,e1,e2] at hm
 rcases hm with rfl | rfl | rfl | rfl | rfl | rfl<;>rfl
def TxRow (B:Nat) (w:World) (v:Value) (l:List Tx):Prop:=(∀ x∈l,∀ W:World,(∀ k,k<B→W.heap[k]?=w.heap[k]?)→TxAt W x)∧B≤w.heap.size∧w.ownsRow B 27 6 v l.length (txC l)
theorem TxRow.ext {l:List Tx} (h:TxRow B w v l) (hx:Ext w w'):TxRow B w' v l:=⟨fun x hm W hW=>h.1 x hm W (fun k hk=>(hW k hk).trans (hx.below.block k (Nat.lt_of_lt_of_le hk h.2.1))),Nat.le_trans h.2.1 hx.size,own_ext h.2.2 hx⟩
theorem TxRow.inn {l:List Tx} (h:TxRow B w v l):TxIn w v l:=⟨fun x hm=>h.1 x hm w (fun _ _=>rfl),RowIn.own qcr h.2.2⟩
theorem PatS.blocks (h:PatS w v l) (hW:∀ k,k<w.heap.size→W.heap[k]?=w.heap[k]?):PatS W v l:=by
 obtain⟨h1,h2⟩:=h
 refine ⟨?_,h2⟩
 rcases h1 with h1 | ⟨b,off,cap,e,h3,h4⟩
 · exact .inl h1
 · exact .inr ⟨b,off,cap,e,h3,fun j u hj=>(World.cell?_of_block (hW b (World.block_lt_of_cell? _ _ (h4 j u hj)))).trans (h4 j u hj)⟩
theorem TxAt.blocks {x:Tx} (h:TxAt w x) (hW:∀ k,k<w.heap.size→W.heap[k]?=w.heap[k]?):TxAt W x:=⟨h.1.blocks hW,h.2.1.blocks hW,h.2.2⟩
theorem src_tx {l:List Tx} (h:TxIn w v l):Src Tryz.prog 6 22 v l.length (txC l) w:=by
 obtain⟨ht,p,cap,rfl,hc,-,hr⟩:=h
 cases hl:l with
 | nil =>
  cases p with
  | none=>exact Src.ofNil w Tryz.underlying22 cap
  | some a=>exact Src.ofSlice w Tryz.underlying22 a 0 cap [] rfl zaj zaj
 | cons y r =>
  obtain⟨b,off,rfl,-⟩:=hr 0 y (by rw[hl];rfl)
  rw[←hl];refine Src.ofSlice w Tryz.underlying22 ⟨b,off,none⟩ l.length cap (txC l) (qfB qcr l) (fun q u hq=>?_) (txC_one ht)
  obtain⟨j,i,x,rfl,hi,hj,hu⟩:=flat_inv qcr l q u hq
  obtain⟨b',off',he,hcell⟩:=hr j x hj
  simp only[Option.some.injEq,Addr.mk.injEq] at he
  obtain⟨rfl,rfl,-⟩:=he
  rw[Addr.add_lit,←Nat.add_assoc];exact hcell i u hu
theorem qdA (v:Value) (l:List Tx) (w:World) (h:TxIn w v l) (hl:l.length≤100000):Calls Tryz.prog 31 #[v] w fun e w'=>∃ v',e=.returned v'∧TxRow w.heap.size w' v' l∧Ext w w':=by
 obtain⟨i0,hi,hz0,hz1,hz2⟩:=info_parts txInfo
 have HSRC:=Lib.hid (fun W (hx:Ext w W)=>src_tx (h.ext hx));have HT:=Lib.hid (fun x (hm:x∈l) (W:World) (hx:∀ k,k<w.heap.size→W.heap[k]?=w.heap[k]?)=>(h.1 x hm).blocks hx)
 obtain⟨ht,p,cap,rfl,hc,-,hr⟩:=h
 obtain⟨n,hn⟩:∃ n,l.length=n:=⟨_,rfl⟩
 have h0:p=none→l=[]:=fun e=>by
  cases hq:l with
  | nil=>rfl
  | cons y r =>
   obtain⟨b,off,he,-⟩:=hr 0 y (by rw[hq];rfl)
   rw[e] at he;cases he
 have HN:=Lib.hid hn
 have qe:∀ (w:World) (a:Option Addr) (n c n' c':Nat),(binOp .eql 22 (.slice a n c) (.slice none n' c')).run Tryz.prog w=.ok (.bool a.isNone) w:=fun w a n c n' c'=>Lib.run_eql_slice_nil w _ _ a n c n' c' Tryz.underlying22
 rw[hn] at HSRC hl ⊢;clear ht hr hn hc
 cases p with
 | none =>
  obtain rfl:=h0 rfl;clear HSRC;go_enter Tryz.func31,Tryz.ntmps31;go_wp2_with fail;go_ret
  exact⟨_,rfl,⟨by simp,Nat.le_refl _,World.ownsRow_nil _ _ _ _⟩,Ext.refl _⟩
 | some a =>
  clear h0;go_enter Tryz.func31,Tryz.ntmps31
  go_wp2_with (at_builtin;refine qah _ rfl _ _ 22 22 rfl w.heap.size 27 i0 (.agg #[.int .i64 0,.int .i64 0,.slice none 0 0,.slice none 0 0,.string ⟨#[]⟩,.int .i64 0]) 6 88 Tryz.underlying22 hi hz0 hz1 hz2 rfl zal _ 0 _ rfl (World.ownsRow_made w #[] 0 (Nat.le_refl _) (Nat.zero_le _) rfl) _ n _ rfl (HSRC.out _ ((Ext.refl _).alloc _)) ?c3 ?c4 ?c5 ?_)
  case c3=>unfold maxLen;omega
  case c4=>omega
  case c5=>simp
  intro v1 w1 hown hgrow _;go_wp2_with fail;go_ret;have HX:=Ext.grown ((Ext.refl w).alloc _) hgrow (fun k hk=>by simp[Value.ownBlock] at hk;omega);refine ⟨v1,rfl,⟨fun x hm W hW=>HT.out x hm W (fun k hk=>(hW k hk).trans (HX.below.block k hk)),HX.size,?_⟩,HX⟩;rw[HN.out]
  simpa using hown
def textX (s:ByteArray):ByteArray:=⟨(putB s.size).toArray⟩++s
def listX (n:Nat) (l:List ByteArray):ByteArray:=l.foldl (fun a s=>a++textX s) ⟨(putB n).toArray⟩
theorem listX_snoc (n:Nat) (l:List ByteArray) (s:ByteArray):listX n (l++[s])=listX n l++textX s:=by unfold listX;rw[List.foldl_append];rfl
theorem textX_len (h:s.size≤100000):(textX s).size≤100010:=by
 have hl:=qba 9 s.size zac;unfold textX;rw[ByteArray.size_append]
 have:(⟨(putB s.size).toArray⟩:ByteArray).size=(putB s.size).length:=by show(putB s.size).toArray.size=_;rw[List.size_toArray]
 omega
theorem listX_len {n:Nat} (hn:n≤100000) (l:List ByteArray) (h:∀ s∈l,s.size≤100000):(listX n l).size≤10+l.length*100010:=by
 have go:∀ (l:List ByteArray) (a:ByteArray),(∀ s∈l,s.size≤100000)→(l.foldl (fun a s=>a++textX s) a).size≤a.size+l.length*100010:=by
  intro l
  induction l with
  | nil=>intro a _;simp
  | cons x l ih =>
   intro a h;have h1:=ih (a++textX x) (fun y hy=>h y (List.mem_cons_of_mem _ hy));have h2:=textX_len (h x zaj);rw[ByteArray.size_append] at h1;rw[List.foldl_cons,List.length_cons]
   omega
 have hl:=qba 9 n zac;have h1:=go l ⟨(putB n).toArray⟩ h
 have h2:(⟨(putB n).toArray⟩:ByteArray).size=(putB n).length:=by show(putB n).toArray.size=_;rw[List.size_toArray]
 unfold listX
 omega
theorem qcB (v:Value) (l:List ByteArray) (w:World) (h:StrsAt w v l) (hs:∀ s∈l,s.size≤100000) (hl:l.length≤100000):Calls Tryz.prog 37 #[v] w fun e w'=>e=.returned (.string (listX l.length l))∧Ext w w':=by
 obtain⟨p,cap,rfl,hp⟩:=qaG h
 have HLEN:=Lib.hid (fun k (hk:k≤l.length)=>listX_len hl (l.take k) (fun s h=>hs s (List.mem_of_mem_take h)))
 obtain⟨n,hn⟩:∃ n,l.length=n:=⟨_,rfl⟩
 obtain⟨q,hq⟩:∃ q,listX n l=q:=⟨_,rfl⟩
 have HN:=Lib.hid hn;rw[hn] at hl HLEN ⊢;rw[hq];have HQ:=Lib.hid hq;have HS:=Lib.hid hs
 have hln:(n:Int)≤100000:=by omega
 clear h hs hn hq;go_enter Tryz.func37,Tryz.ntmps37
 go_wp2_with (go_at_call 42;refine (rput_any (n:Int) zac zac _).mono ?_;rw[Int.toNat_natCast];rintro e _ ⟨rfl,d,os,rfl⟩)
 go_loopw [3,4] (fun s i wr=>∃ k:Nat,i=.int .i64 (k:Int)∧k≤n∧s=.string (listX n (l.take k))∧Ext w wr) (fun _ i _=>n-(intOf i).toNat)
 case atStart=>exact⟨0,rfl,Nat.zero_le _,rfl,zaa⟩
 case round =>
  obtain⟨k,rfl,hk,rfl,d,os,rfl⟩:=hrel
  have HL:=Lib.hid (HLEN.out k hk)
  obtain⟨a,ha⟩:∃ a,listX n (l.take k)=a:=⟨_,rfl⟩
  rw[ha] at HL ⊢;have HA:=Lib.hid ha;clear ha
  by_cases hlt:k<n
  case neg =>
   have hkn:k=n:=by omega
   subst hkn
   have hq2:q=a:=by rw[←HA.out,←HQ.out,List.take_of_length_le zap]
   subst hq2;clear hk hlt;go_wp2_with fail;go_ret
   exact⟨rfl,zaa⟩
  obtain⟨s,hs⟩:∃ s,l[k]?=some s:=⟨_,List.getElem?_eq_getElem zap⟩
  obtain⟨b,off,rfl,hc⟩:=hp.out k s hs
  have hbl:=World.block_lt_of_cell? _ _ hc;have hz:=HS.out s (List.mem_of_getElem? hs);have TX:=Lib.hid (fun W=>rtext_any s zac W);have HSN:=Lib.hid hs;have hzt:=textX_len hz
  have haz:(a.size:Int)≤100000000000:=by have:=HL.out;simp at this;omega
  obtain⟨t,ht⟩:∃ t,textX s=t:=⟨_,rfl⟩
  unfold textX at ht;rw[ht] at TX;have HT:=Lib.hid ht
  have htz:(t.size:Int)≤200000:=by rw[←ht];unfold textX at hzt;omega
  have HLT:=Lib.hid hlt;clear hs hz hzt ht
  go_wp2_with (((with_reducible refine (TX.out _).mono ?_);rintro e' _ ⟨rfl,d1,os1,rfl⟩))
  go_roundw
  case measure=>have:=HLT.out;simp[intOf];omega
  case rel=>exact⟨k+1,by go_num,by have:=HLT.out;omega,by rw[List.take_add_one,HSN.out,Option.toList_some,listX_snoc,HA.out];unfold textX;rw[HT.out],zaa⟩
def TxSm (x:Tx):Prop:=(∀ s∈x.rd,s.size≤100000)∧x.rd.length≤100000∧(∀ s∈x.wr,s.size≤100000)∧x.wr.length≤100000
def sameX (a b:Tx):Bool:=a.c==b.c&&(a.t==b.t&&(a.gas==b.gas&&(decide (a.src=b.src)&&(decide (listX a.rd.length a.rd=listX b.rd.length b.rd)&&decide (listX a.wr.length a.wr=listX b.wr.length b.wr)))))
theorem bytes_inj {a b:ByteArray} (e:a.toList=b.toList):a=b:=ByteArray.ext (by simpa [ByteArray.toList_eq] using e)
theorem em_and {p q:Prop} (h:q):¬p∨p∧q:=(Classical.em p).elim (fun h1=>.inr ⟨h1,h⟩) .inl
theorem sameX_self (a:Tx):sameX a a=true:=by simp[sameX]
theorem rsame22_any (a b:Tx) (w:World) (ha:TxAt w a) (hb:TxAt w b) (sa:TxSm a) (sb:TxSm b):Calls Tryz.prog 16 #[txV a,txV b] w fun e w'=>e=.returned (.bool (sameX a b))∧Ext w w':=by
 have A1:=Lib.hid (fun W (hx:Ext w W)=>qcB a.rv a.rd W (ha.ext hx).1.1 sa.1 sa.2.1);have A2:=Lib.hid (fun W (hx:Ext w W)=>qcB a.wv a.wr W (ha.ext hx).2.1.1 sa.2.2.1 sa.2.2.2);have B1:=Lib.hid (fun W (hx:Ext w W)=>qcB b.rv b.rd W (hb.ext hx).1.1 sb.1 sb.2.1);have B2:=Lib.hid (fun W (hx:Ext w W)=>qcB b.wv b.wr W (hb.ext hx).2.1.1 sb.2.2.1 sb.2.2.2)
 obtain⟨q,hq⟩:∃ q,sameX a b=q:=⟨_,rfl⟩
 rw[hq];unfold sameX at hq
 obtain⟨p1,m1,k1,p2,m2,k2,e1,e2⟩:=qca ha
 obtain⟨p3,m3,k3,p4,m4,k4,e3,e4⟩:=qca hb
 obtain⟨ac,av,arv,awv,az,ag,ard,awr⟩:=a
 obtain⟨bc,bt,brv,bwv,bz,bg,brd,bwr⟩:=b
 dsimp only at hq A1 A2 B1 B2 e1 e2 e3 e4;unfold txV;dsimp only;subst e1 e2 e3 e4
 obtain⟨x1,hx1⟩:∃ x,listX ard.length ard=x:=⟨_,rfl⟩
 obtain⟨x2,hx2⟩:∃ x,listX awr.length awr=x:=⟨_,rfl⟩
 obtain⟨x3,hx3⟩:∃ x,listX brd.length brd=x:=⟨_,rfl⟩
 obtain⟨x4,hx4⟩:∃ x,listX bwr.length bwr=x:=⟨_,rfl⟩
 rw[hx1] at A1 hq;rw[hx2] at A2 hq;rw[hx3] at B1 hq;rw[hx4] at B2 hq;have HQ:=Lib.hid hq;clear hq ha hb sa sb hx1 hx2 hx3 hx4
 rcases em_and (p:=ac=bc) (em_and (p:=av=bt) (em_and (p:=ag=bg) (em_and (p:=az=bz) (em_and (p:=x1=x3) (Classical.em (x2=x4)).symm)))) with h | ⟨rfl,h | ⟨rfl,h | ⟨rfl,h | ⟨rfl,h | ⟨rfl,h | rfl⟩⟩⟩⟩⟩
 all_goals
  first | (have hf:=eq_false h;obtain rfl:q=false:=by rw[←HQ.out];simp[h]) | (obtain rfl:q=true:=by rw[←HQ.out];simp)
  try have hg:=eq_false (fun e=>h (bytes_inj e))
  clear HQ;go_enter Tryz.func16,Tryz.ntmps16;go_wp2_with fail;refine qaa 49 53 (List.replicate 49 false) zaf zaf rfl ?_;refine yac ?_
  repeat(refine Lex.step rfl ?_;intro K hK;unfold StepG;go_simp;(first | refine hK _ ?_ | ((first | with_reducible refine ⟨_,fun d os=>(ret1 (A1.out _ zaa)),?_⟩ | with_reducible refine ⟨_,fun d os=>(ret1 (A2.out _ zaa)),?_⟩ | with_reducible refine ⟨_,fun d os=>(ret1 (B1.out _ zaa)),?_⟩ | with_reducible refine ⟨_,fun d os=>(ret1 (B2.out _ zaa)),?_⟩);go_simp;refine hK _ ?_));clear hK K)
  refine yaa ?_;intro dd oo;go_wp2_with fail
  try rw[ends_normal]
  try go_wp2_with fail
  go_ret
  exact⟨ret_bool (by first | (simp;done) | (simp;exact fun e=>h (bytes_inj e))),zaa⟩
theorem strs_formC (h:StrsAt w v l):∃ p cap,v=.slice p l.length cap∧l.length≤cap∧Hid (∀ j u,l[j]?=some u→∃ b off,p=some ⟨b,off,none⟩∧w.cell? ⟨b,off+j,none⟩=some (.string u)):=by
 rcases h with ⟨p,cap,rfl,rfl⟩ | ⟨b,off,cap,rfl,h1,h2⟩
 · exact⟨p,cap,rfl,Nat.zero_le _,fun j u hj=>by simp at hj⟩
 · exact⟨_,cap,rfl,h1,fun j u hj=>⟨b,off,rfl,h2 j u hj⟩⟩
theorem news_kc {cs:Array Value} {T:TypeId} (h:KB k cs T w):∀ j u,cs.toList[j]?=some u→w.cell? ((⟨k,0,none⟩:Addr).add j)=some u:=fun j u hu=>by
 rw[Addr.add_lit,Nat.zero_add];exact h.cell j u (by simpa using hu)
theorem strInfo21:(Tryz.prog.info? 9).map (fun i=>(i.zero,i.size,i.bytes))=some (some (.string ⟨#[]⟩),1,16):=by kernel_rfl
def fewW (l:List ByteArray):List ByteArray:=(l.take 20).map (cutS 60)
theorem qgh (l:List ByteArray):(fewW l).length≤20:=by unfold fewW;simp;omega
theorem fewW_sz (l:List ByteArray):∀ s∈fewW l,s.size≤60:=by
 intro s hs;unfold fewW at hs
 obtain⟨t,_,rfl⟩:=List.mem_map.1 hs
 exact qfL 60 t
def wC (l:List ByteArray) (k:Nat):List Value:=((l.map (cutS 60)).take k).map Value.string
theorem fewW_of {m:Nat} (h:m=min l.length 20):wC l m=(fewW l).map Value.string∧m=(fewW l).length:=by
 subst h;unfold fewW wC
 constructor
 · rw[←List.map_take]
   by_cases h:l.length≤20
   · rw[Nat.min_eq_left h,List.take_of_length_le (Nat.le_refl _),List.take_of_length_le h]
   · rw[Nat.min_eq_right zac]
 · simp;omega
theorem pat21_any (v:Value) (l:List ByteArray) (w:World) (h:StrsAt w v l) (hz:∀ s∈l,s.size≤140737488351232) (hl:l.length≤140737488351232) :
  Calls Tryz.prog 70 #[v] w fun e w'=>∃ v',e=.returned v'∧w'.ownsRow w.heap.size 9 1 v' (fewW l).length ((fewW l).map Value.string)∧Ext w w':=by
 obtain⟨i1,hi1,hy0,hy1,hy2⟩:=info_parts strInfo21
 obtain⟨p,cap,rfl,hcap,hp⟩:=strs_formC h
 obtain⟨n,hn⟩:∃ n,l.length=n:=⟨_,rfl⟩
 rw[hn] at hcap hl ⊢;have HN:=Lib.hid hn;have HS:=Lib.hid hz
 obtain⟨m,hm⟩:∃ m,m=min n 20:=⟨_,rfl⟩
 have HF:=Lib.hid (fewW_of (l:=l) (m:=m) (by rw[hn];exact hm));have HM:=Lib.hid hm
 have hm20:m≤20:=by omega
 have hmn:m≤n:=by omega
 have hmi:(m:Int)≤20:=by omega
 have hln:(n:Int)≤140737488351232:=by omega
 clear h hz hn hm;go_enter Tryz.func70,Tryz.ntmps70
 go_upto_if 8 with fail
 go_cut [0] (fun s0 wx=>s0=.slice p m cap∧w=wx)
 case first =>
  by_cases hbig:(20:Int)<n
  · have hmm:m=20:=by have:=HM.out;omega
    subst hmm
    have h20:(20:Int)≤cap:=by omega
    go_wp2_with fail
    go_meet
    exact⟨rfl,rfl⟩
  · have hmm:m=n:=by have:=HM.out;omega
    subst hmm;go_wp2_with fail
    go_meet
    exact⟨rfl,rfl⟩
 case rest =>
  obtain⟨rfl,rfl⟩:=hcut
  go_wp2_with fail;go_loopw [3,4] (fun lv ii wr=>∃ (k:Nat),ii=.int .i64 (k:Int)∧k≤m∧Hid (wr.ownsRow w.heap.size 9 1 lv k (wC l k)∧Ext w wr)) (fun _ ii _=>m-(intOf ii).toNat)
  case atStart=>exact⟨0,rfl,Nat.zero_le _,Lib.hid ⟨World.ownsRow_nil _ _ _ _,Ext.refl _⟩⟩
  case round =>
   obtain⟨k,rfl,hkm,hH⟩:=hrel
   obtain⟨lv,hlv⟩:∃ x,x=u3:=⟨_,rfl⟩
   subst hlv
   by_cases hlt:k<m
   case neg =>
    have hk:k=m:=by omega
    subst hk;clear hlt;go_wp2_with fail;go_ret
    have:=hH.out
    rw[HF.out.1,HF.out.2] at this
    exact⟨_,rfl,this⟩
   obtain⟨s,hsx⟩:∃ s,l[k]?=some s:=⟨_,List.getElem?_eq_getElem zap⟩
   obtain⟨b,off,rfl,c0⟩:=hp.out k s hsx
   have c1:=cell_ext c0 hH.out.2;have hb1:=World.block_lt_of_cell? _ _ c1;have hz:=HS.out s (List.mem_of_getElem? hsx)
   have hzi:(s.size:Int)≤140737488351232:=by omega
   have HSN:=Lib.hid (show wC l (k+1)=wC l k++[.string (cutS 60 s)] from by unfold wC;rw[List.take_add_one,List.getElem?_map,hsx];simp);have HLT:=Lib.hid hlt;clear hsx c0 hz
   go_upto_if 23 with fail
   go_cut [5] (fun s5 wx=>s5=.string (cutS 60 s)∧wr=wx)
   case first =>
    by_cases hbig:(60:Int)<s.size
    · have hcut:cutS 60 s=s.extract 0 60:=by unfold cutS;rw[if_pos zac]
      have hI2:(60:Int)≤s.size:=by omega
      go_wp2_with fail
      go_meet
      exact⟨by rw[hcut],rfl⟩
    · have hcut:cutS 60 s=s:=by unfold cutS;rw[if_neg zac]
      go_wp2_with fail
      go_meet
      exact⟨by rw[hcut],rfl⟩
   case rest =>
    obtain⟨rfl,rfl⟩:=hcut
    obtain⟨t,ht⟩:∃ t,cutS 60 s=t:=⟨_,rfl⟩
    rw[ht] at HSN ⊢;clear ht
    go_wp2_with (at_builtin;refine wpList_append_own_at _ rfl _ _ 23 rfl w.heap.size 9 i1 (.string ⟨#[]⟩) 1 16 Tryz.underlying23 hi1 hy0 hy1 hy2 rfl zal lv k (wC l k) rfl (own_ext hH.out.1 zaa) ⟨_,0,none⟩ 1 1 [.string t] rfl rfl ?c1 ?c2 ?c3 ?c4 ?c5 ?_)
    try case c1=>exact news_kc (KB.new _ _ _)
    case c2=>first | rfl | (intro u hu;simp at hu;subst hu;rfl)
    case c3=>unfold maxLen;omega
    case c4=>omega
    case c5=>have:=hH.out.2.size;simp;omega
    intro v' w7 hown hgrow _ _
    have HX7:Ext w w7:=Ext.grown (Ext.trans hH.out.2 zaa) hgrow (fun k hk=>by have:=hH.out.1.lt k (by rw[←hk]);omega)
    have H7:=Lib.hid (And.intro hown HX7);clear hown hgrow HX7;go_wp2_with fail;go_roundw
    case measure=>have:=HLT.out;simp[intOf];omega
    case rel=>exact⟨k+1,by go_num,by have:=HLT.out;omega,by rw[HSN.out];exact H7⟩
def RowF (B:Nat) (l:List ByteArray):Fact:=fun v W'=>∃ p cap,v=.slice p l.length cap∧W'.ownsRow B 9 1 v l.length (l.map Value.string)
theorem RowF.upc (B:Nat) (l:List ByteArray):Upc (RowF B l):=fun v W W' hx ⟨g,cap,h1,h2⟩=>⟨g,cap,h1,own_ext h2 hx⟩
theorem RowF.mk {C:Nat} (h:W.ownsRow C 9 1 v l.length (l.map Value.string)) (hb:B≤C):RowF B l v W:=by
 obtain⟨p,c,rfl⟩:=qad h
 exact⟨p,c,rfl,h.mono (base':=B) hb⟩
theorem RowF.move {C:Nat} {W':World} (h:RowF B l v W) (hc:C≤B) (hW:∀ k,B≤k→W'.heap[k]?=W.heap[k]?):RowF C l v W':=by
 obtain⟨p,c,hv,h1,h2⟩:=h
 refine ⟨p,c,hv,h1,?_⟩
 rcases h2 with h | ⟨g,cap,cur,e,hb,hg,r⟩
 · exact .inl h
 · exact .inr ⟨g,cap,cur,e,Nat.le_trans hc hb,(hW g hb).trans hg,r⟩
theorem want_load {g:Nat} {cs:Array Value} (h:KB g cs 25 w) (hc:cs.size=2):(loadVar 25 ⟨g,0,none⟩).run Tryz.prog w=.ok (.agg cs) w :=
 run_loadVar_row w g 25 25 cs (0,0) _ h Tryz.underlying25 rfl (by rw[hc];kernel_rfl)
theorem res_cellW {fn:Func} {p:Tmp} {ty:TypeId} (h:fn.results=#[.cell p ty]) (tmps:Array Value) (w:World) (a:Addr) (r:Value)
  (hp:tmps.getD p undef=.pointer (some a)) (hl:(loadVar ty a).run Tryz.prog w=.ok r w):(results fn tmps).run Tryz.prog w=.ok r w:=by
 have hp':tmps[p]?.getD undef=.pointer (some a):=by simpa using hp
 simp[results,h,hp',asAddr,hl]
theorem wants_any (a b:Value) (la lb:List ByteArray) (w:World) (ha:PatS w a la) (hb:PatS w b lb):Calls Tryz.prog 51 #[.agg #[a,b]] w fun e w'=>∃ a' b',e=.returned (.agg #[a',b'])∧RowF w.heap.size (fewW la) a' w'∧RowF w.heap.size (fewW lb) b' w'∧Ext w w':=by
 have PA:=Lib.hid (show ∀ W,Ext w W→w.heap.size+2≤W.heap.size→Calls Tryz.prog 70 #[a] W fun e w'=>∃ v',e=Ending.returned v'∧RowF (w.heap.size+2) (fewW la) v' w'∧Ext W w' from fun W hx hs=>(pat21_any a la W (ha.1.ext hx) ha.2.1 ha.2.2).mono fun e w' ⟨v',h1,h2,h3⟩=>⟨v',h1,RowF.mk h2 hs,h3⟩);have PB:=Lib.hid (show ∀ W,Ext w W→w.heap.size+2≤W.heap.size→Calls Tryz.prog 70 #[b] W fun e w'=>∃ v',e=Ending.returned v'∧RowF (w.heap.size+2) (fewW lb) v' w'∧Ext W w' from fun W hx hs=>(pat21_any b lb W (hb.1.ext hx) hb.2.1 hb.2.2).mono fun e w' ⟨v',h1,h2,h3⟩=>⟨v',h1,RowF.mk h2 hs,h3⟩)
 obtain⟨pa,ca,hva⟩:∃ p c,a=.slice p la.length c:=by obtain⟨p,c,h,-⟩:=qaG ha.1;exact⟨p,c,h⟩
 obtain⟨pb,cb,hvb⟩:∃ p c,b=.slice p lb.length c:=by obtain⟨p,c,h,-⟩:=qaG hb.1;exact⟨p,c,h⟩
 obtain⟨na,hna⟩:∃ n,la.length=n:=⟨_,rfl⟩
 obtain⟨nb,hnb⟩:∃ n,lb.length=n:=⟨_,rfl⟩
 rw[hna] at hva;rw[hnb] at hvb;subst hva hvb;clear ha hb hna hnb
 obtain⟨ra,hra⟩:∃ r,RowF (w.heap.size+2) (fewW la)=r:=⟨_,rfl⟩
 obtain⟨rb,hrb⟩:∃ r,RowF (w.heap.size+2) (fewW lb)=r:=⟨_,rfl⟩
 have UA:=Lib.hid (show Upc ra from hra ▸ RowF.upc _ _);have UB:=Lib.hid (show Upc rb from hrb ▸ RowF.upc _ _);have FA:=Lib.hid (show ∀ v W,ra v W→∃ p n c,v=.slice p n c from fun v W h=>by rw[←hra] at h;obtain⟨p,c,h1,-⟩:=h;exact⟨p,_,c,h1⟩);have FB:=Lib.hid (show ∀ v W,rb v W→∃ p n c,v=.slice p n c from fun v W h=>by rw[←hrb] at h;obtain⟨p,c,h1,-⟩:=h;exact⟨p,_,c,h1⟩);have MA:=Lib.hid (show ∀ v W W',ra v W→(∀ k,w.heap.size+2≤k→W'.heap[k]?=W.heap[k]?)→RowF w.heap.size (fewW la) v W' from fun v W W' h hW=>by rw[←hra] at h;exact h.move zac hW);have MB:=Lib.hid (show ∀ v W W',rb v W→(∀ k,w.heap.size+2≤k→W'.heap[k]?=W.heap[k]?)→RowF w.heap.size (fewW lb) v W' from fun v W W' h hW=>by rw[←hrb] at h;exact h.move zac hW)
 rw[hra] at PA;rw[hrb] at PB;clear hra hrb;go_enter Tryz.func51,Tryz.ntmps51;go_wp2_with fail;refine qaa 6 10 (List.replicate 6 false) zaf zaf rfl ?_;refine yac ?_
 iterate 2 (refine Lex.step rfl ?_;intro K hK;unfold StepG;go_simp;refine hK _ ?_;clear hK K)
 refine Lex.gap 5 ra rfl UA.out rfl (fun d os=>?_) ?_
 · unfold StepG
   go_simp
   exact(PA.out _ zaa zbg).mono fun e w' ⟨v',h1,h2,h3⟩=>⟨v',h1,h3,h2⟩
 iterate 2 (refine Lex.step rfl ?_;intro K hK;unfold StepG;go_simp;refine hK _ ?_;clear hK K)
 refine Lex.gap 8 rb rfl UB.out rfl (fun d os=>?_) ?_
 · unfold StepG
   go_simp
   exact(PB.out _ zaa zbg).mono fun e w' ⟨v',h1,h2,h3⟩=>⟨v',h1,h3,h2⟩
 refine Lex.nil fun WW hE=>?_
 intro u hu v hv
 obtain⟨pu,nu,cu,rfl⟩:=FB.out _ _ hu
 obtain⟨pv,nv,cv,rfl⟩:=FA.out _ _ hv
 obtain⟨dd,oo,rfl⟩:=hE
 have HU:=Lib.hid hu;have HV:=Lib.hid hv;clear hu hv;unfold FillH;go_wp2_with fail;rw[ends_normal];go_wp2_with fail
 have HK:=fun (A B C:Obj) k (hk:w.heap.size+2≤k)=>(show(more ((w.alloc A).alloc B) dd oo).heap[k]?=(more ((w.alloc A).alloc C) dd oo).heap[k]? from by
  show(((w.heap.push _).push _)++oo)[k]?=(((w.heap.push _).push _)++oo)[k]?
  rw[Array.getElem?_append_right zam,Array.getElem?_append_right zam]
  simp)
 exact bodyPost_ret (v:=.agg #[.slice pv nv cv,.slice pu nu cu]) (res_cellW rfl _ _ ⟨w.heap.size+1,0,none⟩ _ rfl (want_load (g:=w.heap.size+1) (cs:=#[.slice pv nv cv,.slice pu nu cu]) (by have:=(KB.new (w.alloc (.cells #[.slice pa na ca,.slice pb nb cb] 25)) #[.slice pv nv cv,.slice pu nu cu] 25).of_ext (Ext.more (Ext.refl _) dd oo);rw[World.size_alloc] at this;exact this) rfl)) rfl ⟨_,_,rfl,MA.out _ _ _ HV.out (HK _ _ _),MB.out _ _ _ HU.out (HK _ _ _),zaa⟩
def jobC (s:ByteArray) (v:Nat→Value) (a b:Value):Array Value:=#[.string s,v 0,v 1,v 2,v 3,v 4,v 5,v 6,v 7,v 8,v 9,v 10,v 11,v 12,v 13,v 14,v 15,.int .i64 0,.int .i64 0,.int .i64 0,.int .i64 0,.int .i64 0,.int .i64 0,.int .i64 0,.int .i64 0,.int .i64 0,.int .i64 0,.int .i64 0,.int .i64 0,.int .i64 0,.int .i64 0,.int .i64 0,.int .i64 0,.int .i64 0,.int .i64 0,.int .i64 0,a,b,.int .i64 0]
theorem jobC_ext (s:ByteArray) (v:Nat→Value) (a b:Value):jobC s v a b=(#[.string s]++stC v (fun _=>0) 0 0 0)++#[a,b,.int .i64 0]:=by kernel_rfl
def JB (w:World) (N:Nat) (C:Array Value):Prop:=w.heap[N]?=some (.cells C 67 (0,0))
theorem JB.ext {C:Array Value} (h:JB w N C) (hx:Ext w w'):JB w' N C:=by
 unfold JB at h ⊢;rw[hx.below.block N (qaX h)];exact h
theorem JB.set {C D:Array Value} (h:JB w N C):JB (w.setRow N D) N D:=by
 unfold JB at h ⊢;exact setRow_heap w N _ _ _ _ h
theorem JB.other {M:Nat} {C D:Array Value} (h:JB w N C) (hne:N≠M):JB (w.setRow M D) N C:=by
 unfold JB at h ⊢;rw[setRow_other _ _ _ _ hne];exact h
theorem job_size (s:ByteArray) (v:Nat→Value) (a b:Value):(jobC s v a b).size=39:=rfl
theorem job_st (s:ByteArray) (v:Nat→Value) (a b:Value):∀ j u,(stC v (fun _=>0) 0 0 0).toList[j]?=some u→(jobC s v a b)[1+j]?=some u:=by
 intro j u h;have hj:=(List.getElem?_eq_some_iff.1 h).1
 have h35:(stC v (fun _=>0) 0 0 0).size=35:=rfl
 rw[jobC_ext,Array.getElem?_append_left (by rw[Array.size_append,h35];simp at hj ⊢;omega),Array.getElem?_append_right zaj];rw[show 1+j-(#[Value.string s]:Array Value).size=j from by simp,←Array.getElem?_toList];exact h
theorem job_want (s:ByteArray) (v:Nat→Value) (a b:Value):∀ j u,(#[a,b]:Array Value).toList[j]?=some u→(jobC s v a b)[36+j]?=some u:=by
 intro j u h
 match j,h with
 | 0,h=>simp at h;subst h;rfl
 | 1,h=>simp at h;subst h;rfl
theorem job_put (s:ByteArray) (v v':Nat→Value) (a b:Value):putC (jobC s v a b) 1 (stC v' (fun _=>0) 0 0 0).toList=jobC s v' a b:=by kernel_rfl
theorem job_putW (s:ByteArray) (v:Nat→Value) (a b a' b':Value):putC (jobC s v a b) 36 (#[a',b']:Array Value).toList=jobC s v a' b':=by kernel_rfl
theorem JB.cell {C:Array Value} (h:JB w N C) (j:Nat):w.cell? ⟨N,j,none⟩=C[j]?:=by
 unfold JB at h
 simp[World.cell?,h]
theorem JB.there {C:Array Value} (h:JB w N C) (o n:Nat) (hn:o+n≤C.size):w.there N o n:=by
 intro j hj;refine ⟨?_,?_⟩
 · rw[h.cell,Array.getElem?_eq_getElem zac];rfl
 · unfold JB at h;simp[World.frozen?,h]
theorem job_one (s:ByteArray) (v:Nat→Value) (a b:Value) (h:∀ k,k<16→(v k).oneCell'=true) (ha:a.oneCell'=true) (hb:b.oneCell'=true):(jobC s v a b).all (·.oneCell')=true:=by
 have hi:(Value.int .i64 0).oneCell'=true:=rfl
 have hst:(Value.string s).oneCell'=true:=rfl
 rw[jobC_ext,Array.all_append,Array.all_append,stC_one v _ 0 0 0 h]
 simp[ha,hb,hi,hst]
theorem job_load {v:Nat→Value} {a b:Value} (h:JB w N (jobC s v a b)):(loadVar 67 ⟨N,0,none⟩).run Tryz.prog w=.ok (.agg (jobC s v a b)) w :=
 run_loadVar_row (P:=Tryz.prog) w N 67 _ _ _ _ h Tryz.underlying67 rfl zaf
theorem RowF.one (h:RowF B l v W):v.oneCell'=true:=by
 obtain⟨p,c,rfl,-⟩:=h
 rfl
theorem JB.new {A:Obj} {C:Array Value}:JB ((w.alloc A).alloc (.cells C 67)) (w.heap.size+1) C:=by
 have:=heap_alloc_new (w.alloc A) (.cells C 67)
 rw[World.size_alloc] at this;exact this
def v00:Nat→Value:=fun _=>.slice none 0 0
theorem few21_any (s:ByteArray) (hs:s.size≤140737488351232) (a b:Value) (la lb:List ByteArray) (w:World) (ha:PatS w a la) (hb:PatS w b lb):Calls Tryz.prog 27 #[.agg (jobC s v00 a b)] w fun e w'=>∃ v a' b',e=.returned (.agg (jobC (cutS 1200 s) v a' b'))∧RowF w.heap.size (fewW la) a' w'∧RowF w.heap.size (fewW lb) b' w'∧Ext w w'∧∀ k,k<16→(v k).oneCell'=true:=by
 have FS:=Lib.hid (fun W=>few13_any (fun _=>0) v00 (fun _=>[]) (fun _=>0) 0 0 0 W (fun k hk=>⟨fun x hx=>by simp at hx,by simp,none,0,rfl,Nat.le_refl _,fun h=>by simp at h⟩));have WA:=Lib.hid (fun W (hx:Ext w W)=>wants_any a b la lb W (ha.ext hx) (hb.ext hx));clear ha hb
 have hsi:(s.size:Int)≤140737488351232:=by omega
 obtain⟨t,ht⟩:∃ t,cutS 1200 s=t:=⟨_,rfl⟩
 rw[ht];go_enter Tryz.func27,Tryz.ntmps27
 go_upto_region 1 with fail
 generalize hW0:World.alloc _ _=W0
 have J0:JB W0 w.heap.size (jobC s v00 a b):=by rw[←hW0];exact(heap_alloc_old _ _ zaj).trans (heap_alloc_new w _)
 obtain⟨C0,J1,hC0⟩:∃ C,JB W0 (w.heap.size+1) C∧C.size=39:=by
  rw[←hW0]
  exact⟨_,JB.new,rfl⟩
 have HX0:Ext w W0:=by rw[←hW0];exact((Ext.refl _).alloc _).alloc _
 have hs0:W0.heap.size=w.heap.size+2:=by rw[←hW0];simp
 clear hW0
 have c0:W0.cell? ⟨w.heap.size,0,none⟩=some (.string s):=J0.cell 0
 have f0:W0.frozen? ⟨w.heap.size,0,none⟩=false:=by unfold JB at J0;simp[World.frozen?,J0]
 have hlt0:w.heap.size<W0.heap.size:=by omega
 have HJ0:=Lib.hid J0;have HJ1:=Lib.hid J1;have HHX:=Lib.hid HX0;have HHS:=Lib.hid hs0;clear J0 J1 HX0 hs0
 go_upto_if 6 with fail
 go_cut [7] (fun s7 wx=>JB wx w.heap.size (jobC t v00 a b)∧∃ C,JB wx (w.heap.size+1) C∧C.size=39∧Ext w wx∧wx.heap.size=w.heap.size+2)
 case first =>
  by_cases hbig:(1200:Int)<s.size
  · have hI2:(1200:Int)≤s.size:=by omega
    have hcut:cutS 1200 s=s.extract 0 1200:=by unfold cutS;rw[if_pos zac]
    go_wp2_with fail
    go_meet
    rw[setCell_eq_setRow W0 w.heap.size 0 _ _ _ _ HJ0.out];rw[←ht,hcut]
    exact⟨HJ0.out.set,C0,HJ1.out.other (Nat.succ_ne_self _),hC0,HHX.out.setRow (Nat.le_refl _) _,by rw[size_setRow];exact HHS.out⟩
  · have hcut:cutS 1200 s=s:=by unfold cutS;rw[if_neg zac]
    go_wp2_with fail
    go_meet
    rw[←ht,hcut]
    exact⟨HJ0.out,C0,HJ1.out,hC0,HHX.out,HHS.out⟩
 case rest =>
  obtain⟨h0,C1,h1,hC1,hx,hs⟩:=hcut
  rename World=>W1
  have H0:=Lib.hid h0;have H1:=Lib.hid h1;have HX:=Lib.hid hx;have HS:=Lib.hid hs;clear h0 h1 hx hs HJ0 HJ1 HHX HHS c0 f0 hlt0
  go_wp2_with (first
   | (refine qaN rfl 65 _ rfl w.heap.size 1 rfl 67 (jobC t v00 a b) (stC v00 (fun _=>0) 0 0 0) (0,0) _ H0.out Tryz.underlying65 rfl zaf (job_st t v00 a b) ?_)
   | (go_at_call 50;refine (FS.out _).mono ?_;rintro e w2 ⟨bs2,v2,rfl,hl,hy,hx2⟩;have HL:=Lib.hid hl;have HX2:=Lib.hid (show Ext w w2∧w.heap.size+2≤w2.heap.size from⟨HX.out.trans hx2,by have:=hx2.size;have:=HS.out;omega⟩);have H2:=Lib.hid (H0.out.ext hx2);have H3:=Lib.hid (H1.out.ext hx2);clear hl hy hx2)
   | (refine qaS rfl 65 _ _ rfl w.heap.size 1 (stC v2 (fun _=>0) 0 0 0) _ (jobC t v2 a b) _ _ rfl rfl H2.out (H2.out.there 1 35 (by rw[job_size];decide)) zaf (stC_one v2 _ 0 0 0 HL.out.one) (job_put t v00 v2 a b) ?_)
   | (refine qaN rfl 25 _ rfl w.heap.size 36 rfl 67 (jobC t v2 a b) #[a,b] (0,0) _ H2.out.set Tryz.underlying25 rfl zaf (job_want t v2 a b) ?_)
   | (go_at_call 51;refine (WA.out _ (HX2.out.1.setRow (Nat.le_refl _) _)).mono ?_;rintro e w3 ⟨a',b',rfl,ra,rb,hx3⟩;rw[size_setRow] at ra rb;have R:=Lib.hid (And.intro ra rb);have O:=Lib.hid (And.intro ra.one rb.one);have HX3:=Lib.hid ((HX2.out.1.setRow (Nat.le_refl _) _).trans hx3);have H4:=Lib.hid (JB.ext (JB.set (D:=jobC t v2 a b) H2.out) hx3);have H5:=Lib.hid (JB.ext (JB.other (D:=jobC t v2 a b) H3.out (Nat.succ_ne_self _)) hx3);clear ra rb hx3)
   | (refine qaS rfl 25 _ _ rfl w.heap.size 36 #[a',b'] _ (jobC t v2 a' b') _ _ rfl rfl H4.out (H4.out.there 36 2 (by rw[job_size];decide)) zaf (by have:=O.out;simp[this.1,this.2]) (job_putW t v2 a b a' b') ?_)
   | (refine wpList_load_row rfl 67 _ rfl w.heap.size rfl 67 (jobC t v2 a' b') (0,0) _ H4.out.set Tryz.underlying67 rfl zaf ?_)
   | (refine wpList_store_rowTo rfl 67 _ _ rfl rfl (w.heap.size+1) (jobC t v2 a' b') rfl rfl 67 C1 (H5.out.other (Nat.succ_ne_self _)) zaf hC1 (job_one t v2 a' b' HL.out.one O.out.1 O.out.2) ?_))
  have hld:=job_load (JB.set (D:=jobC t v2 a' b') (JB.other (D:=jobC t v2 a' b') H5.out (Nat.succ_ne_self _)))
  have hmv:∀ k,w2.heap.size≤k→((w3.setRow w.heap.size (jobC t v2 a' b')).setRow (w.heap.size+1) (jobC t v2 a' b')).heap[k]?=w3.heap[k]?:=fun k hk=>by
   have:=HX2.out.2
   rw[setRow_other _ _ _ _ zac,setRow_other _ _ _ _ zac]
  exact bodyPost_ret (v:=.agg (jobC t v2 a' b')) (results_cellY (p:=2) (ty:=67) rfl _ _ ⟨w.heap.size+1,0,none⟩ _ rfl hld) rfl ⟨v2,a',b',rfl,R.out.1.move HX2.out.1.size hmv,R.out.2.move HX2.out.1.size hmv,(HX3.out.setRow (Nat.le_refl _) _).setRow (Nat.le_succ _) _,HL.out.one⟩
def TB (w:World) (N:Nat) (C:Array Value):Prop:=w.heap[N]?=some (.cells C 27 (0,0))
theorem TB.ext {C:Array Value} (h:TB w N C) (hx:Ext w w'):TB w' N C:=by
 unfold TB at h ⊢;rw[hx.below.block N (qaX h)];exact h
theorem TB.set {C D:Array Value} (h:TB w N C):TB (w.setRow N D) N D:=by
 unfold TB at h ⊢;exact setRow_heap w N _ _ _ _ h
theorem TB.other {M:Nat} {C D:Array Value} (h:TB w N C) (hne:N≠M):TB (w.setRow M D) N C:=by
 unfold TB at h ⊢;rw[setRow_other _ _ _ _ hne];exact h
theorem TB.cell {C:Array Value} (h:TB w N C) (j:Nat):w.cell? ⟨N,j,none⟩=C[j]?:=by
 unfold TB at h
 simp[World.cell?,h]
theorem TB.there {C:Array Value} (h:TB w N C) (o n:Nat) (hn:o+n≤C.size):w.there N o n:=by
 intro j hj;refine ⟨?_,?_⟩
 · rw[h.cell,Array.getElem?_eq_getElem zac];rfl
 · unfold TB at h;simp[World.frozen?,h]
theorem TB.new {A:Obj} {C:Array Value}:TB ((w.alloc A).alloc (.cells C 27)) (w.heap.size+1) C:=by
 have:=heap_alloc_new (w.alloc A) (.cells C 27)
 rw[World.size_alloc] at this;exact this
theorem txn_load {C:Array Value} (h:TB w N C) (hC:C.size=6):(loadVar 27 ⟨N,0,none⟩).run Tryz.prog w=.ok (.agg C) w :=
 run_loadVar_row (P:=Tryz.prog) w N 27 _ _ _ _ h Tryz.underlying27 rfl (by rw[hC];kernel_rfl)
def txA (c t:Int) (a b:Value) (s:ByteArray) (g:Int):Array Value:=#[.int .i64 c,.int .i64 t,a,b,.string s,.int .i64 g]
theorem txA_want (c t:Int) (a b:Value) (s:ByteArray) (g:Int):∀ j u,(#[a,b]:Array Value).toList[j]?=some u→(txA c t a b s g)[2+j]?=some u:=by
 intro j u h
 match j,h with
 | 0,h=>simp at h;subst h;rfl
 | 1,h=>simp at h;subst h;rfl
theorem txA_put (c t:Int) (a b a' b':Value) (s:ByteArray) (g:Int):putC (txA c t a b s g) 2 (#[a',b']:Array Value).toList=txA c t a' b' s g:=by kernel_rfl
theorem txA_one (c t:Int) (a b:Value) (s:ByteArray) (g:Int) (ha:a.oneCell'=true) (hb:b.oneCell'=true):(txA c t a b s g).all (·.oneCell')=true:=by
 have hi:∀ x,(Value.int .i64 x).oneCell'=true:=fun _=>rfl
 have hst:(Value.string s).oneCell'=true:=rfl
 simp[txA,ha,hb,hi,hst]
theorem few22_any (c t g:Int) (s:ByteArray) (hs:s.size≤140737488351232) (a b:Value) (la lb:List ByteArray) (w:World) (ha:PatS w a la) (hb:PatS w b lb):Calls Tryz.prog 8 #[.agg (txA c t a b s g)] w fun e w'=>∃ a' b',e=.returned (.agg (txA c t a' b' (cutS 1200 s) g))∧RowF w.heap.size (fewW la) a' w'∧RowF w.heap.size (fewW lb) b' w'∧Ext w w':=by
 have oa:a.oneCell'=true:=by obtain⟨p,c,rfl,-⟩:=qaG ha.1;rfl
 have ob:b.oneCell'=true:=by obtain⟨p,c,rfl,-⟩:=qaG hb.1;rfl
 have FJ:=Lib.hid (fun W (hx:Ext w W)=>few21_any s hs a b la lb W (ha.ext hx) (hb.ext hx));have OA:=Lib.hid (And.intro oa ob);clear ha hb oa ob
 obtain⟨z,hz⟩:∃ z,cutS 1200 s=z:=⟨_,rfl⟩
 rw[hz] at FJ ⊢;clear hz;go_enter Tryz.func8,Tryz.ntmps8
 go_upto_region 1 with fail
 generalize hW0:World.alloc _ _=W0
 have J0:TB W0 w.heap.size (txA c t a b s g):=by rw[←hW0];exact(heap_alloc_old _ _ zaj).trans (heap_alloc_new w _)
 obtain⟨C0,J1,hC0⟩:∃ C,TB W0 (w.heap.size+1) C∧C.size=6:=by
  rw[←hW0]
  exact⟨_,TB.new,rfl⟩
 have HX0:Ext w W0:=by rw[←hW0];exact((Ext.refl _).alloc _).alloc _
 have hs0:W0.heap.size=w.heap.size+2:=by rw[←hW0];simp
 clear hW0
 have c4:W0.cell? ⟨w.heap.size,4,none⟩=some (.string s):=J0.cell 4
 have hlt0:w.heap.size<W0.heap.size:=by omega
 have HJ0:=Lib.hid J0;have HJ1:=Lib.hid J1;have HHX:=Lib.hid HX0;have HHS:=Lib.hid hs0;clear J0 J1 HX0 hs0
 go_upto_region 2 with (first
  | (refine qaN rfl 25 _ rfl w.heap.size 2 rfl 27 (txA c t a b s g) #[a,b] (0,0) _ HJ0.out Tryz.underlying25 rfl zaf (txA_want c t a b s g) ?_)
  | (refine wpList_buildTo rfl 67 _ rfl _ rfl (jobC s v00 a b) zaf ?_)
  | (go_at_call 27;refine (FJ.out _ HHX.out).mono ?_;rintro e w3 ⟨v3,a',b',rfl,ra,rb,hx3,hv3⟩;have V3:=Lib.hid hv3;have O:=Lib.hid (And.intro ra.one rb.one);have R:=Lib.hid (And.intro ra rb);have H2:=Lib.hid (HJ0.out.ext hx3);have H3:=Lib.hid (HJ1.out.ext hx3);have HX3:=Lib.hid (And.intro hx3 (HHX.out.trans hx3));clear ra rb hx3 hv3)
  | (refine wpList_store_rowTo rfl 67 _ _ rfl rfl w3.heap.size (jobC z v3 a' b') rfl rfl 67 _ (heap_alloc_new w3 _) zaf rfl (job_one z v3 a' b' V3.out O.out.1 O.out.2) ?_))
 generalize hW4:World.setRow _ _ _=W4
 have hsz:w.heap.size+2≤w3.heap.size:=by have:=HX3.out.1.size;have:=HHS.out;omega
 have J4:JB W4 w3.heap.size (jobC z v3 a' b'):=by rw[←hW4];exact JB.set (heap_alloc_new w3 _)
 have H4:TB W4 w.heap.size (txA c t a b s g):=by rw[←hW4];exact(H2.out.ext ((Ext.refl w3).alloc _)).other zac
 have G4:TB W4 (w.heap.size+1) C0:=by rw[←hW4];exact(H3.out.ext ((Ext.refl w3).alloc _)).other zac
 have X4:Ext w3 W4:=by rw[←hW4];exact((Ext.refl w3).alloc _).setRow (Nat.le_refl _) _
 clear hW4 c4 hlt0
 have d0:W4.cell? ⟨w3.heap.size,0,none⟩=some (.string z):=J4.cell 0
 have d4:W4.cell? ⟨w.heap.size,4,none⟩=some (.string s):=H4.cell 4
 have f4:W4.frozen? ⟨w.heap.size,4,none⟩=false:=by unfold TB at H4;simp[World.frozen?,H4]
 have l4:w.heap.size<W4.heap.size:=by have:=X4.size;omega
 have l5:w3.heap.size<W4.heap.size:=World.block_lt_of_cell? _ _ d0
 have K4:=Lib.hid (And.intro J4 (And.intro H4 (And.intro G4 X4)));have HSZ:=Lib.hid hsz;clear J4 H4 G4 X4 hsz
 go_upto_region 3 with fail
 rw[setCell_eq_setRow W4 w.heap.size 4 _ _ _ _ K4.out.2.1];generalize hW5:World.setRow _ _ _=W5
 have J5:JB W5 w3.heap.size (jobC z v3 a' b'):=by rw[←hW5];exact JB.other K4.out.1 (by have:=HSZ.out;omega)
 have H5:TB W5 w.heap.size (txA c t a b z g):=by rw[←hW5];exact TB.set K4.out.2.1
 have G5:TB W5 (w.heap.size+1) C0:=by rw[←hW5];exact TB.other K4.out.2.2.1 zac
 have X5:Ext w W5:=by rw[←hW5];exact(HX3.out.2.trans K4.out.2.2.2).setRow (Nat.le_refl _) _
 have R5:RowF (w.heap.size+2) (fewW la) a' W5∧RowF (w.heap.size+2) (fewW lb) b' W5:=by
  have h1:=RowF.upc _ _ _ _ _ K4.out.2.2.2 R.out.1;have h2:=RowF.upc _ _ _ _ _ K4.out.2.2.2 R.out.2;rw[HHS.out] at h1 h2;rw[←hW5]
  exact⟨h1.move (Nat.le_refl _) (fun k hk=>setRow_other _ _ _ _ zac),h2.move (Nat.le_refl _) (fun k hk=>setRow_other _ _ _ _ zac)⟩
 clear hW5 d0 d4 f4 l4 l5;have K5:=Lib.hid (And.intro J5 (And.intro H5 (And.intro G5 (And.intro X5 R5))));clear J5 H5 G5 X5 R5
 go_wp2_with (first
  | (refine qaN rfl 25 _ rfl w3.heap.size 36 rfl 67 (jobC z v3 a' b') #[a',b'] (0,0) _ K5.out.1 Tryz.underlying25 rfl zaf (job_want z v3 a' b') ?_)
  | (refine qaS rfl 25 _ _ rfl w.heap.size 2 #[a',b'] _ (txA c t a' b' z g) _ _ rfl rfl K5.out.2.1 (K5.out.2.1.there 2 2 (by simp[txA])) zaf (by have:=O.out;simp[this.1,this.2]) (txA_put c t a b a' b' z g) ?_)
  | (refine wpList_load_row rfl 27 _ rfl w.heap.size rfl 27 (txA c t a' b' z g) (0,0) _ K5.out.2.1.set Tryz.underlying27 rfl zaf ?_)
  | (refine wpList_store_rowTo rfl 27 _ _ rfl rfl (w.heap.size+1) (txA c t a' b' z g) rfl rfl 27 C0 (K5.out.2.2.1.other (Nat.succ_ne_self _)) zaf hC0 (txA_one c t a' b' z g O.out.1 O.out.2) ?_))
 have hld:=txn_load (TB.set (D:=txA c t a' b' z g) (TB.other (D:=txA c t a' b' z g) K5.out.2.2.1 (Nat.succ_ne_self _))) rfl
 have hmv:∀ k,w.heap.size+2≤k→((W5.setRow w.heap.size (txA c t a' b' z g)).setRow (w.heap.size+1) (txA c t a' b' z g)).heap[k]?=W5.heap[k]?:=fun k hk=>by
  rw[setRow_other _ _ _ _ zac,setRow_other _ _ _ _ zac]
 exact bodyPost_ret (v:=.agg (txA c t a' b' z g)) (results_cellY (p:=2) (ty:=27) rfl _ _ ⟨w.heap.size+1,0,none⟩ _ rfl hld) rfl ⟨a',b',rfl,K5.out.2.2.2.2.1.move zac hmv,K5.out.2.2.2.2.2.move zac hmv,(K5.out.2.2.2.1.setRow (Nat.le_refl _) _).setRow (Nat.le_succ _) _⟩
def fewT (x:Tx) (a b:Value):Tx:={ x with rv:=a,wv:=b,src:=cutS 1200 x.src,rd:=fewW x.rd,wr:=fewW x.wr }
theorem fewT_sm (x:Tx) (a b:Value):TxSm (fewT x a b) :=
 ⟨fun s hs=>Nat.le_trans (fewW_sz _ s hs) zal,Nat.le_trans (qgh _) zal,fun s hs=>Nat.le_trans (fewW_sz _ s hs) zal,Nat.le_trans (qgh _) zal⟩
theorem RowF.strs (h:RowF B l v W):StrsAt W v l:=by
 obtain⟨p,c,rfl,h⟩:=h
 rcases h.2 with ⟨h1,h0⟩ | ⟨g,cap,cur,h1,hb,hg,h2,h3,h4,h5⟩
 · exact .inl ⟨none,0,by rw[h1],List.length_eq_zero_iff.1 h0⟩
 · refine .inr ⟨g,0,cap,by rw[h1],h2,fun j u hj=>?_⟩
   have hf:(l.map Value.string)[j]?=some (.string u):=by rw[List.getElem?_map,hj];rfl
   rw[←h5,List.getElem?_take] at hf
   split at hf
   · simpa [World.cell?,hg] using hf
   · cases hf
theorem RowF.pats (h:RowF B (fewW l) v W):PatS W v (fewW l) :=
 ⟨h.strs,fun s hs=>Nat.le_trans (fewW_sz _ s hs) zal,Nat.le_trans (qgh _) zal⟩
theorem fewtx_any (x:Tx) (w:World) (h:TxAt w x):Calls Tryz.prog 8 #[txV x] w fun e w'=>∃ a b,e=.returned (txV (fewT x a b))∧RowF w.heap.size (fewW x.rd) a w'∧RowF w.heap.size (fewW x.wr) b w'∧TxAt w' (fewT x a b)∧Ext w w' :=
 (few22_any x.c x.t x.gas x.src h.2.2.1 x.rv x.wv x.rd x.wr w h.1 h.2.1).mono fun e w' ⟨a,b,h1,h2,h3,h4⟩ =>
  ⟨a,b,h1,h2,h3,⟨h2.pats,h3.pats,Nat.le_trans (qfL _ _) zal,h.2.2.2⟩,h4⟩
theorem of27_any (t:Int) (w:World):Calls Tryz.prog 36 #[.int .i64 t] w fun e w'=>e=.returned (txV ⟨3,t,.slice none 0 0,.slice none 0 0,⟨#[]⟩,0,[],[]⟩)∧Ext w w':=by
 unfold txV;dsimp only;go_enter Tryz.func36,Tryz.ntmps36;go_wp2_with fail;exact bodyPost_ret (v:=.agg (txA 3 t (.slice none 0 0) (.slice none 0 0) ⟨#[]⟩ 0)) (results_cellY (p:=2) (ty:=27) rfl _ _ ⟨w.heap.size,0,none⟩ _ rfl (txn_load (heap_alloc_new w _) rfl)) rfl ⟨rfl,zaa⟩
end Go.Proofs.YtpnabjopfpdkhaaGreatDoor
set_option maxRecDepth 100000
namespace Go.Proofs.YtpnabjopfpdkhaaGreatDoor
open Go.RowKit
open Go.ChangeShapes Go.WideShapes Go.ChangeAt Go.Joins
theorem qcF {H:Type} {P:Program} {e:TypeId} {d:DataW H} {n:Nat} (hn:n∈d.weights P e):∀ (ds:List (DataW H)),d∈ds→n∈DataW.weightsAll P e ds
 | [],h=>by simp at h
 | x::ds,h=>by
  simp only[DataW.weightsAll,List.mem_append];rcases List.mem_cons.1 h with rfl | h
  · exact Or.inl hn
  · exact Or.inr (qcF hn ds h)
theorem signs_of {r:List (String × DataW Unit)} {W:World} (h:laidMet Tryz.prog (("plenum/key.signs",Rows.laid_plenum_key_signs)::r) W):SignsAt W.heap.size W:=by
 have hg:Tryz.prog.globalNamed "plenum/key.signs"=some 0:=by kernel_rfl
 have hgt:(Tryz.prog.globals[0]?).map (·.type)=some 217:=by kernel_rfl
 have t:=Lib.tabIs_of_head (k:=.u64) (zs:=[288195191779622912,576460745860972544]) hg hgt Tryz.underlying217 Tryz.underlying85 zaf zaf h;have c0:=t.cell hg 0 zal;have c1:=t.cell hg 1 zal
 exact⟨World.block_lt_of_cell? _ _ c0,c0,c1⟩
theorem list_of {α:Type} (len:Nat) (P:Nat→α→Prop) (h:∀ i,i<len→∃ a,P i a):∃ l:List α,l.length=len∧∀ j a,l[j]?=some a→P j a:=by
 induction len with
 | zero=>exact⟨[],rfl,fun j a hj=>by simp at hj⟩
 | succ n ih =>
  obtain⟨l,hl,hp⟩:=ih (fun i hi=>h i zac)
  obtain⟨a,ha⟩:=h n zac
  refine ⟨l++[a],by simp[hl],fun j b hj=>?_⟩;rcases Nat.lt_or_ge j l.length with hlt | hge
  · rw[List.getElem?_append_left hlt] at hj
    exact hp j b hj
  · rw[List.getElem?_append_right hge] at hj
    have hz:j-l.length=0:=by
     rcases Nat.eq_zero_or_pos (j-l.length) with hz | hz
     · exact hz
     · rw[List.getElem?_eq_none zam] at hj;cases hj
    rw[hz] at hj
    simp at hj
    subst hj
    have:j=n:=by omega
    subst this;exact ha
def Sm {H:Type} (t:TypeId) (d:DataW H):Prop:=∀ n∈d.weights Tryz.prog t,n≤140737488351232
theorem sm_of {H:Type} {ts:List TypeId} {ds:List (DataW H)} {j:Nat} {t:TypeId} {d:DataW H} (hs:(DataW.weightsEach Tryz.prog ts ds).all (·≤reachBytes)=true) (ht:ts[j]?=some t) (hd:ds[j]?=some d):Sm t d:=fun n hn=>by
 have:=List.all_eq_true.1 hs _ (DataW.weights_mem_each ht hd n hn)
 have e:reachBytes=140737488351232:=by decide
 rw[e] at this
 simpa using this
theorem qbQ {H:Type} {t:TypeId} {fs:Array Field} {parts:List (DataW H)} (ht:Tryz.prog.underlying t=some (.struct fs)) (h:Sm t (.agg parts)) {i:Nat} {f:Field} {d:DataW H} (hf:fs[i]?=some f) (hd:parts[i]?=some d):Sm f.type d:=fun n hn=>h n (by
 simp only[DataW.weights,ht]
 exact DataW.weights_mem_each (ts:=fs.toList.map (·.type)) (j:=i) (by simp[hf]) hd n hn)
theorem sm_slice {H:Type} {t e:TypeId} {els sp:List (DataW H)} (ht:Tryz.prog.underlying t=some (.slice e)) (h:Sm t (.slice els sp)):(els.length+sp.length)*Tryz.prog.bytesOf e≤140737488351232∧∀ d∈els,Sm e d :=
 ⟨h _ (by simp only[DataW.weights,ht];exact List.mem_cons_self ..),fun d hd n hn=>h n (by
  simp only[DataW.weights,ht,List.mem_cons,List.mem_append]
  exact Or.inr (Or.inl (qcF hn els hd)))⟩
section
variable {H:Type} {enc:TypeId × Value→H} {W:World}
theorem qen {fuel:Nat} {t:TypeId} {cs:List Value} {x:DataW H × List MemPlace} (ht:Tryz.prog.underlying t=some .string) (h:DataW.trod enc Tryz.prog W 0 (fun _=>true) true fuel t cs=some x) (hs:Sm t x.1):∃ s:ByteArray,cs=[.string s]∧s.size≤140737488351232:=by
 obtain⟨s,rfl,rfl,_⟩:=DataW.trod_string ht h
 refine ⟨s,rfl,?_⟩
 have:=hs s.data.toList.length (by simp[DataW.weights])
 rw[qbK] at this;exact this
theorem qdg {fuel:Nat} {t:TypeId} {cs:List Value} {x:DataW H × List MemPlace} (ht:Tryz.prog.underlying t=some (.int .i64)) (h:DataW.trod enc Tryz.prog W 0 (fun _=>true) true fuel t cs=some x):∃ z:Int,cs=[.int .i64 z]∧In64I z:=by
 obtain⟨z,rfl,_,w⟩:=DataW.trod_int ht h
 refine ⟨z,rfl,?_⟩;simp only[Lit.wf,Bool.and_eq_true,decide_eq_true_eq] at w
 have w':-9223372036854775808≤z∧z≤9223372036854775807:=by simpa [IntKind.min,IntKind.max,IntKind.bits,IntKind.signed] using w
 exact w'
theorem valFields:∃ f0 f1 f2:Field,Tryz.prog.underlying 45=some (.struct #[f0,f1,f2])∧(f0.type=3∧f0.offset=0)∧(f1.type=2∧f1.offset=1)∧(f2.type=9∧f2.offset=2):=⟨_,_,_,Tryz.underlying45,⟨rfl,rfl⟩,⟨rfl,rfl⟩,⟨rfl,rfl⟩⟩
theorem cS:Tryz.prog.cellsOf 9=1:=by kernel_rfl
theorem cI:Tryz.prog.cellsOf 3=1:=by kernel_rfl
theorem cL:Tryz.prog.cellsOf 2=1:=by kernel_rfl
theorem cV:Tryz.prog.cellsOf 45=3:=by kernel_rfl
theorem cTx:Tryz.prog.cellsOf 23=1:=by kernel_rfl
theorem rd_val {fuel:Nat} {cs:List Value} {x:DataW H × List MemPlace} (h:DataW.trod enc Tryz.prog W 0 (fun _=>true) true fuel 45 cs=some x) (hs:Sm 45 x.1) :
  ∃ (k i:Int) (s:ByteArray),cs=[.int .i64 k,.int .i64 i,.string s]∧In64I k∧In64I i∧s.size≤140737488351232:=by
 obtain⟨f0,f1,f2,hst,⟨t0,o0⟩,⟨t1,o1⟩,⟨t2,o2⟩⟩:=valFields
 obtain⟨ys,n',_,rfl,hlen,hyl,hf⟩:=DataW.trod_struct hst h
 rw[cV] at hlen
 match cs,hlen with
 | [x0,x1,x2],_ =>
  match ys,hyl with
  | [y0,y1,y2],_ =>
   have g0:=hf 0 f0 rfl;have g1:=hf 1 f1 rfl;have g2:=hf 2 f2 rfl;have s2:=qbQ (i:=2) (f:=f2) (d:=y2.1) hst hs rfl rfl;rw[t0,o0,cI] at g0;rw[t1,o1,cL] at g1;rw[t2,o2,cS] at g2;rw[t2] at s2
   obtain⟨z0,e0,w0⟩:=qdg Tryz.underlying3 g0
   obtain⟨z1,e1,w1⟩:=qdg Tryz.underlying2 g1
   obtain⟨z2,e2,w2⟩:=qen Tryz.underlying9 g2 s2
   simp at e0 e1 e2
   subst e0 e1 e2
   exact⟨z0,z1,z2,rfl,w0,w1,w2⟩
theorem rd_strs {fuel:Nat} {cs:List Value} {x:DataW H × List MemPlace} (h:DataW.trod enc Tryz.prog W 0 (fun _=>true) true fuel 23 cs=some x) (hs:Sm 23 x.1):∃ v l,cs=[v]∧StrsAt W v l∧(∀ s∈l,s.size≤140737488351232)∧l.length≤140737488351232:=by
 rcases Deep.open_slice Tryz.underlying23 h with ⟨rfl,rfl⟩ | ⟨a,len,cap,m,n,D,Pl,rfl,hb,hl,hm,hmm,rfl,hi⟩
 · exact⟨_,[],rfl,Or.inl ⟨none,0,rfl,rfl⟩,by simp,by simp⟩
 · simp only[if_true] at hmm
   subst hmm
   obtain⟨hb1,hb2⟩:=sm_slice Tryz.underlying23 hs
   have key:∀ i,i<len→∃ s:ByteArray,s.size≤140737488351232∧W.cell? (a.add i)=some (.string s):=by
    intro i hil
    obtain⟨cs',hc,ht'⟩:=hi i zac
    rw[cS] at hc
    obtain⟨s,rfl,hin⟩:=qen Tryz.underlying9 ht' (hb2 _ (List.mem_map.2 ⟨i,List.mem_range.2 hil,rfl⟩))
    obtain⟨_,_,hat⟩:=World.cells?_some hc
    have:=hat 0 zac
    rw[Deep.add_add,Nat.mul_one,Nat.add_zero] at this
    exact⟨s,hin,this⟩
   rcases Nat.eq_zero_or_pos len with h0 | h0
   · subst h0
     exact⟨_,[],rfl,Or.inl ⟨some a,m,rfl,rfl⟩,by simp,by simp⟩
   obtain⟨ab,ao,spot⟩:=a
   have hspot:spot=none:=by
    obtain⟨s,_,hx0⟩:=key 0 zac
    simpa [Addr.add] using World.cell?_spot hx0
   subst hspot
   obtain⟨l,hll,hp⟩:=list_of len (fun j (s:ByteArray)=>s.size≤140737488351232∧W.cell? ⟨ab,ao+j,none⟩=some (.string s)) (fun i hi2=>by
    obtain⟨s,h1,h2⟩:=key i hi2
    rw[Addr.add_lit] at h2
    exact⟨s,h1,h2⟩)
   refine ⟨_,l,rfl,Or.inr ⟨ab,ao,m,by rw[hll],by omega,fun j u hj=>(hp j u hj).2⟩,fun s hs2=>?_,by
    have hby:1≤Tryz.prog.bytesOf 9:=by rw[show Tryz.prog.bytesOf 9=16 by kernel_rfl];decide
    have:=Nat.le_trans (Nat.le_mul_of_pos_right _ hby) hb1
    simp at this
    omega⟩
   obtain⟨j,hj⟩:=List.getElem?_of_mem hs2
   exact(hp j s hj).1
end
end Go.Proofs.YtpnabjopfpdkhaaGreatDoor
