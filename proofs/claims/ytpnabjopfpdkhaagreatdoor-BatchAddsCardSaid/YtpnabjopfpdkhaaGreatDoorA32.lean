/- Lemmas. -/
import Derived.Test.YtpnabjopfpdkhaaGreatDoorA27
import Derived.Test.YtpnabjopfpdkhaaGreatDoorA28
import Derived.Test.YtpnabjopfpdkhaaGreatDoorA29
import Derived.Test.YtpnabjopfpdkhaaGreatDoorA31
import Derived.Deep.DeepCutAuto
import Derived.Deep.CutBlock
set_option linter.unusedSimpArgs false
set_option linter.unusedVariables false
namespace Go.Proofs.YtpnabjopfpdkhaaGreatDoor
open Go.RowKit
variable {W w w':World} {v:Value} {l:List ByteArray} {c:Int} {B k:Nat} {s:ByteArray}
structure Tx where
 c:Int
 t:Int
 rv:Value
 wv:Value
 src:ByteArray
 gas:Int
 rd:List ByteArray
 wr:List ByteArray
def txL (x:Tx):List Value:=[.int .i64 x.c,.int .i64 x.t,x.rv,x.wv,.string x.src,.int .i64 x.gas]
def txV (x:Tx):Value:=.agg #[.int .i64 x.c,.int .i64 x.t,x.rv,x.wv,.string x.src,.int .i64 x.gas]
def txC (l:List Tx):List Value:=l.flatMap txL
def srcE (s:ByteArray):Int × Int:=match qaU s.data.toList with
 | .error x=>x
 | .ok (ns,fi)=>((qbg ns fi).2.2.1,(qbg ns fi).2.2.2)
def patG:Option ByteArray→List ByteArray→Bool
 | _,[]=>true
 | none,s::l=>patB s&&patG (some s) l
 | some y,s::l=>patB s&&(ltB y s&&patG (some s) l)
def patsF (l:List ByteArray):Bool:=patG none l&&decide (l.length≤8)
def numsT (x:Tx):Bool:=decide (0≤x.c)&&decide (x.c≤255)&&decide (1≤x.t)&&decide (x.t≤2147483647)&&decide (0≤x.gas)&&decide (x.gas≤100000)
def chkT (x:Tx):Int × Int :=
 if numsT x=false then(1,0) else if patsF x.rd=false then(1,1) else if patsF x.wr=false then(1,2) else if (srcE x.src).1=0 then(0,0) else((srcE x.src).1,3)
def okT (x:Tx):Bool:=(chkT x).1==0
def PatS (w:World) (v:Value) (l:List ByteArray):Prop:=StrsAt w v l∧(∀ s∈l,s.size≤140737488351232)∧l.length≤140737488351232
def TxAt (w:World) (x:Tx):Prop:=PatS w x.rv x.rd∧PatS w x.wv x.wr∧x.src.size≤140737488351232∧In64I x.c∧In64I x.t∧In64I x.gas
theorem PatS.ext (h:PatS w v l) (hx:Ext w w'):PatS w' v l:=⟨h.1.ext hx,h.2⟩
theorem TxAt.ext {x:Tx} (h:TxAt w x) (hx:Ext w w'):TxAt w' x:=⟨h.1.ext hx,h.2.1.ext hx,h.2.2⟩
def TxIn (w:World) (v:Value) (l:List Tx):Prop:=(∀ x∈l,TxAt w x)∧RowIn w txL 6 v l
theorem TxIn.ext {l:List Tx} (h:TxIn w v l) (hx:Ext w w'):TxIn w' v l:=⟨fun x hm=>(h.1 x hm).ext hx,h.2.ext hx⟩
set_option maxHeartbeats 4000000
set_option maxRecDepth 20000
attribute [go_sem] more_more Array.size_append
theorem src_err {s:List UInt8} {a:Int} (h:qaU s=.error (c,a)):c≠0:=by
 unfold qaU at h
 split at h
 · exact parse_nz _ c a h
 · rename_i hq
   simp only[Except.error.injEq,Prod.mk.injEq] at h;rw[←h.1];exact hq
theorem qaE (h:StrsAt w v l):∃ p cap,v=.slice p l.length cap∧Hid (∀ j u,l[j]?=some u→∃ b off,p=some ⟨b,off,none⟩∧w.cell? ⟨b,off+j,none⟩=some (.string u)):=by
 rcases h with ⟨p,cap,rfl,rfl⟩ | ⟨b,off,cap,rfl,h1,h2⟩
 · exact⟨p,cap,rfl,fun j u hj=>by simp at hj⟩
 · exact⟨_,cap,rfl,fun j u hj=>⟨b,off,rfl,h2 j u hj⟩⟩
theorem csrc_any (s:ByteArray) (w:World):Calls Tryz.prog 73 #[.string s] w fun e w'=>∃ v,e=.returned (.tuple #[v,.int .i64 (srcE s).1,.int .i64 (srcE s).2])∧Ext w w':=by
 unfold srcE
 cases hr:qaU s.data.toList with
 | error x =>
  obtain⟨c,a⟩:=x
  exact(csource_err s c a hr (src_err hr) w).mono fun _ _ ⟨h1,h2⟩=>⟨_,h1,h2⟩
 | ok x =>
  obtain⟨ns,fi⟩:=x
  have hz:∀ z∈ns,z.s.size≤maxLen:=fun z hm=>by have:=(source_tidy hr z hm).1;unfold maxLen;omega
  obtain⟨l,mo,e,a,hf⟩:∃ l mo e a,qbg ns fi=(l,mo,e,a):=⟨_,_,_,_,rfl⟩
  dsimp only;rw[hf]
  by_cases he:e=0
  · subst he
    obtain⟨R,hR,-⟩:=code_of hf
    exact(csource_ok s ns fi hr hz l mo a hf R hR w).mono fun _ _ ⟨c,h1,_,h2⟩=>⟨.pointer (some ⟨c,0,none⟩),by rw[h1,(qdA hf).2.1],h2⟩
  · exact(csource_no s ns fi hr hz l mo e a hf he w).mono fun _ _ ⟨h1,h2⟩=>⟨_,h1,h2⟩
theorem kpat_any (s:ByteArray) (hs:s.size≤maxLen) (B:Nat) (w:World) (h:SignsAt B w) (hB:B≤w.heap.size):Calls Tryz.prog 83 #[.string s] w fun e w'=>e=.returned (.bool (patB s))∧Ext w w':=by
 have FM:=Lib.hid (fun W (hx:Ext w W)=>formed_any s hs B W (h.ext hx hB) (Nat.le_trans hB hx.size));clear h hB;go_enter Tryz.func83,Tryz.ntmps83
 go_wp2_with (go_at_call 95;(with_reducible refine (FM.out _ zaa).mono ?_);rintro e' _ ⟨rfl,d1,os1,rfl⟩)
 go_ret
 exact⟨rfl,zaa⟩
theorem numbers_anyT (x:Tx) (w:World):Calls Tryz.prog 71 #[txV x] w fun e w'=>e=.returned (.bool (numsT x))∧Ext w w':=by
 obtain⟨c,t,rv,wv,src,gas,rd,wr⟩:=x
 obtain⟨r,hr⟩:∃ r,numsT ⟨c,t,rv,wv,src,gas,rd,wr⟩=r:=⟨_,rfl⟩
 rw[hr];unfold numsT at hr;dsimp only at hr;have HR:=Lib.hid hr;clear hr;unfold txV;go_enter Tryz.func71,Tryz.ntmps71;go_wp2_with fail
 all_goals
  go_ret
  exact⟨ret_bool (by rw[←HR.out];simp_all<;>omega),zaa⟩
theorem patG_bad (hs:l[k]?=some s) (p:Option ByteArray) (h:patB s=false):patG p (l.drop k)=false:=by
 rw[List.drop_eq_getElem_cons (List.getElem?_eq_some_iff.1 hs).1,(List.getElem?_eq_some_iff.1 hs).2]
 cases p<;>simp[patG,h]
theorem qfg (hs:l[0]?=some s) (h:patB s=true):patG none (l.drop 0)=patG (some s) (l.drop 1):=by
 rw[List.drop_eq_getElem_cons (List.getElem?_eq_some_iff.1 hs).1,(List.getElem?_eq_some_iff.1 hs).2]
 simp[patG,h]
theorem patG_step {y:ByteArray} (hs:l[k]?=some s) (h:patB s=true):patG (some y) (l.drop k)=(ltB y s&&patG (some s) (l.drop (k+1))):=by
 rw[List.drop_eq_getElem_cons (List.getElem?_eq_some_iff.1 hs).1,(List.getElem?_eq_some_iff.1 hs).2]
 simp[patG,h]
def prevP (l:List ByteArray):Nat→Option ByteArray
 | 0=>none
 | k+1=>l[k]?
theorem le_str {a b:ByteArray} {r:Bool} (h:ltB a b=r):(Op.bytesLess b.toList a.toList||b.toList==a.toList)=!r:=by
 rw[bl_le,Lib.toList_data,Lib.toList_data];unfold ltB at h;rw[h]
theorem qdS (v:Value) (l:List ByteArray) (B:Nat) (w:World) (hS:SignsAt B w) (hB:B≤w.heap.size) (h:PatS w v l) (hz9:l.length≤140737488351232):Calls Tryz.prog 72 #[v] w fun e w'=>e=.returned (.bool (patsF l))∧Ext w w':=by
 obtain⟨h,hz,-⟩:=h
 obtain⟨p,cap,rfl,hp⟩:=qaE h
 obtain⟨n,hn⟩:∃ n,l.length=n:=⟨_,rfl⟩
 obtain⟨q,hq⟩:∃ q,patG none l=q:=⟨_,rfl⟩
 unfold patsF;rw[hq,hn];have HN:=Lib.hid hn
 have hln:(n:Int)≤140737488351232:=by omega
 have HQ:=Lib.hid hq;have KP:=Lib.hid (fun s (hs:s∈l) W (hx:Ext w W)=>kpat_any s (by have:=hz s hs;unfold maxLen;omega) B W (hS.ext hx hB) (Nat.le_trans hB hx.size));clear h hz hn hq hS hB;go_enter Tryz.func72,Tryz.ntmps72;go_wp2_with fail;go_loopw [7] (fun i wr=>∃ k:Nat,i=.int .i64 (k:Int)∧k≤n∧patG (prevP l k) (l.drop k)=q∧Ext w wr) (fun i _=>n-(intOf i).toNat)
 case atStart=>exact⟨0,rfl,Nat.zero_le _,HQ.out,Ext.refl _⟩
 case round =>
  obtain⟨k,rfl,hk,hch,d,os,rfl⟩:=hrel
  by_cases hlt:k<n
  case neg =>
   have hkn:k=n:=by omega
   subst hkn
   have hq2:q=true:=by rw[←hch,List.drop_eq_nil_of_le zap];cases prevP l k<;>rfl
   subst hq2;clear hch hk hlt;go_wp2_with fail;go_ret
   exact⟨ret_bool (by simp only[Bool.true_and,decide_eq_decide];omega),zaa⟩
  obtain⟨s,hs⟩:∃ s,l[k]?=some s:=⟨_,List.getElem?_eq_getElem zap⟩
  obtain⟨b,off,rfl,hc⟩:=hp.out k s hs
  have hbl:=World.block_lt_of_cell? _ _ hc;have KS:=Lib.hid (KP.out s (List.mem_of_getElem? hs));have HLT:=Lib.hid hlt
  cases hb:patB s
  · rw[hb] at KS
    have hq2:q=false:=by rw[←hch];exact patG_bad hs _ hb
    subst hq2;clear hch hs hb
    go_wp2_with (go_at_call 83;(with_reducible refine (KS.out _ zaa).mono ?_);rintro e' _ ⟨rfl,d1,os1,rfl⟩)
    go_ret
    exact⟨ret_bool zaj,zaa⟩
  rw[hb] at KS;rcases k with _ | k
  · have HC:=Lib.hid (show patG (some s) (l.drop 1)=q from by rw[←qfg hs hb];exact hch)
    simp only[Nat.add_zero] at hc;have HS:=Lib.hid hs;clear hch hb hs
    go_wp2_with (go_at_call 83;(with_reducible refine (KS.out _ zaa).mono ?_);rintro e' _ ⟨rfl,d1,os1,rfl⟩)
    go_roundw
    case rel=>exact⟨1,by go_num,by have:=HLT.out;omega,by rw[show prevP l 1=some s from HS.out];exact HC.out,zaa⟩
    case measure=>simp[intOf];have:=HLT.out;omega
  · obtain⟨y,hy⟩:∃ y,l[k]?=some y:=⟨_,List.getElem?_eq_getElem zap⟩
    obtain⟨b',off',he,hc'⟩:=hp.out k y hy
    simp only[Option.some.injEq,Addr.mk.injEq] at he
    obtain⟨rfl,rfl,-⟩:=he
    have HS:=Lib.hid hs
    have hnz:l.length≤140737488351232:=hz9
    have kk0:(0:Int)<(k:Int)+1:=by omega
    have kk1:(0:Int)≤(k:Int):=by omega
    have kk3:(0:Int)≤(k:Int)+1:=by omega
    have kk4:(k:Int)+1<(n:Int):=by omega
    have kk2:(k:Int)<(n:Int):=by omega
    have kw1:wrap64 (k:Int)=(k:Int):=IntWalk.wrap64_in _ zap
    clear hnz;rw[show prevP l (k+1)=some y from hy,patG_step hs hb] at hch
    cases ho:ltB y s
    · have hle:=le_str ho
      have hq2:q=false:=by rw[←hch,ho];rfl
      subst hq2;clear hch hs hb hy ho
      go_wp2_with (go_at_call 83;(with_reducible refine (KS.out _ zaa).mono ?_);rintro e' _ ⟨rfl,d1,os1,rfl⟩)
      go_ret
      exact⟨ret_bool zaj,zaa⟩
    · have hle:=le_str ho
      rw[ho,Bool.true_and] at hch;have HC:=Lib.hid hch;clear hch hs hb hy ho
      go_wp2_with (go_at_call 83;(with_reducible refine (KS.out _ zaa).mono ?_);rintro e' _ ⟨rfl,d1,os1,rfl⟩)
      go_roundw
      case rel=>exact⟨k+2,by go_num,by have:=HLT.out;omega,by rw[show prevP l (k+2)=some s from HS.out];exact HC.out,zaa⟩
      case measure=>simp[intOf];have:=HLT.out;omega
theorem tcheck_any (x:Tx) (B:Nat) (w:World) (hS:SignsAt B w) (hB:B≤w.heap.size) (h:TxAt w x):Calls Tryz.prog 52 #[txV x] w fun e w'=>e=.returned (.tuple #[.int .i64 (chkT x).1,.int .i64 (chkT x).2])∧Ext w w':=by
 obtain⟨hr,hw,-⟩:=h
 have NM:=Lib.hid (fun W=>numbers_anyT x W);have PR:=Lib.hid (fun W (hx:Ext w W)=>qdS x.rv x.rd B W (hS.ext hx hB) (Nat.le_trans hB hx.size) (hr.ext hx) hr.2.2);have PW:=Lib.hid (fun W (hx:Ext w W)=>qdS x.wv x.wr B W (hS.ext hx hB) (Nat.le_trans hB hx.size) (hw.ext hx) hw.2.2);have CS:=Lib.hid (fun W=>csrc_any x.src W)
 obtain⟨r,hr0⟩:∃ r,chkT x=r:=⟨_,rfl⟩
 rw[hr0];unfold chkT at hr0
 obtain⟨pr,hpr⟩:∃ b,patsF x.rd=b:=⟨_,rfl⟩
 obtain⟨pw,hpw⟩:∃ b,patsF x.wr=b:=⟨_,rfl⟩
 obtain⟨nm,hnm⟩:∃ b,numsT x=b:=⟨_,rfl⟩
 obtain⟨c,a,hca⟩:∃ c a,srcE x.src=(c,a):=⟨_,_,rfl⟩
 rw[hpr] at PR hr0;rw[hpw] at PW hr0;rw[hnm] at NM hr0;rw[hca] at CS hr0;have HR:=Lib.hid hr0;clear hr0 hpr hpw hnm hca hr hw hS hB
 obtain⟨xc,xt,xrv,xwv,xs,xg,xrd,xwr⟩:=x
 unfold txV at NM ⊢;go_enter Tryz.func52,Tryz.ntmps52
 go_wp2_with (first
  | ((with_reducible refine (NM.out _).mono ?_);rintro e' _ ⟨rfl,d1,os1,rfl⟩)
  | (go_at_call 72;(with_reducible refine (PR.out _ zaa).mono ?_);rintro e' _ ⟨rfl,d1,os1,rfl⟩)
  | (go_at_call 72;(with_reducible refine (PW.out _ zaa).mono ?_);rintro e' _ ⟨rfl,d1,os1,rfl⟩)
  | ((with_reducible refine (CS.out _).mono ?_);rintro e' _ ⟨v,rfl,d1,os1,rfl⟩))
 all_goals
  go_ret2
  exact⟨by rw[←HR.out];simp_all,zaa⟩
theorem qfl (x:Tx) (B:Nat) (w:World) (hS:SignsAt B w) (hB:B≤w.heap.size) (h:TxAt w x):Calls Tryz.prog 28 #[txV x] w fun e w'=>e=.returned (.bool (!okT x))∧Ext w w':=by
 have CH:=Lib.hid (fun W (hx:Ext w W)=>tcheck_any x B W (hS.ext hx hB) (Nat.le_trans hB hx.size) (h.ext hx))
 obtain⟨c,hc⟩:∃ c,(chkT x).1=c:=⟨_,rfl⟩
 unfold okT;rw[hc] at CH ⊢;clear h hS hB hc
 obtain⟨xc,xt,xrv,xwv,xs,xg,xrd,xwr⟩:=x
 unfold txV at CH ⊢;go_enter Tryz.func28,Tryz.ntmps28
 go_wp2_with (go_at_call 52;(with_reducible refine (CH.out _ zaa).mono ?_);rintro e' _ ⟨rfl,d1,os1,rfl⟩)
 go_ret
 exact⟨ret_bool (by simp[bne]),zaa⟩
def ofQ (q:List Tx) (c:Int):Option Nat:=q.findIdx? (fun x=>x.c==c)
def qaT (q:List Tx):Bool:=(q.zipIdx.all fun p=>ofQ q p.1.c==some p.2)&&decide (q.length≤64)&&q.all okT
def addQ (q:List Tx) (t:Tx) (d:List La):Except Int (List Tx) :=
 if qaT q=false∨okT t=false∨isL d=false then .error 1
 else if askE d t.c t.t≠6 then .error 18
 else match ofQ q t.c with
  | none=>if q.length=64 then .error 5 else .ok (q++[t])
  | some i=>match q[i]? with
   | none=>.error 1
   | some x=>if x.t=t.t then .error 16 else if t.t<x.t then .error 18 else .ok (q.set i t)
def dropQ (q:List Tx) (d:List La):Except Int (List Tx) :=
 if qaT q=false∨isL d=false then .error 1 else .ok (q.filter fun x=>askE d x.c x.t==6)
theorem qfS {q:List Tx} {i:Nat} (h:ofQ q c=some i):∃ x,q[i]?=some x∧x.c=c∧∀ j y,j<i→q[j]?=some y→y.c≠c:=by
 unfold ofQ at h;rw[List.findIdx?_eq_some_iff_getElem] at h
 obtain⟨hi,h1,h2⟩:=h
 refine ⟨q[i],List.getElem?_eq_getElem hi,by simpa using h1,fun j y hj hy=>?_⟩
 have:=h2 j hj
 obtain⟨hjl,e⟩:=List.getElem?_eq_some_iff.1 hy
 rw[e] at this
 simpa using this
theorem ofQ_none {q:List Tx} (h:ofQ q c=none):∀ x∈q,x.c≠c:=by
 unfold ofQ at h;rw[List.findIdx?_eq_none_iff] at h;intro x hx
 simpa using h x hx
theorem ofQ_of {q:List Tx} (hn:(q.map Tx.c).Nodup) {i:Nat} {x:Tx} (h:q[i]?=some x):ofQ q x.c=some i:=by
 unfold ofQ;rw[List.findIdx?_eq_some_iff_getElem]
 obtain⟨hi,e⟩:=List.getElem?_eq_some_iff.1 h
 refine ⟨hi,by rw[e];simp,fun j hj=>?_⟩;simp only[beq_iff_eq];intro hc
 have:=(List.pairwise_iff_getElem.1 hn) j i zam (by simpa using hi) hj
 simp only[List.getElem_map,e] at this;exact this hc
theorem qaZ (q:List Tx):qaT q=true↔(q.map Tx.c).Nodup∧q.length≤64∧∀ x∈q,okT x=true:=by
 unfold qaT;simp only[Bool.and_eq_true,decide_eq_true_eq,List.all_eq_true,beq_iff_eq,and_assoc]
 refine and_congr_left fun _=>?_
 constructor
 · intro h
   refine List.pairwise_iff_getElem.2 fun i j hi hj hij e=>?_
   simp only[List.length_map] at hi hj;simp only[List.getElem_map] at e;have h1:=h (q[j],j) (by rw[List.mem_zipIdx_iff_getElem?];exact List.getElem?_eq_getElem hj)
   obtain⟨x,_,_,h4⟩:=qfS h1
   exact h4 i q[i] hij (List.getElem?_eq_getElem zac) e
 · rintro hn ⟨x,i⟩ hp
   rw[List.mem_zipIdx_iff_getElem?] at hp;exact ofQ_of hn hp
theorem qfE {q:List Tx} (hn:(q.map Tx.c).Nodup) {i j:Nat} {x y:Tx} (hx:q[i]?=some x) (hy:q[j]?=some y) (hc:x.c=y.c):i=j:=by
 have h1:=ofQ_of hn hx;have h2:=ofQ_of hn hy;rw[hc,h2] at h1
 exact(Option.some.inj h1).symm
theorem addQ_ok {q x:List Tx} {t:Tx} {d:List La} (h:addQ q t d=.ok x) :
  qaT q=true∧okT t=true∧isL d=true∧askE d t.c t.t=6∧qaT x=true∧∃ i,x[i]?=some t∧(∀ (j:Nat) (y:Tx),j≠i→x[j]?=some y→y.c≠t.c∧q[j]?=some y)∧(∀ (j:Nat) (y:Tx),q[j]?=some y→(j≠i→x[j]?=some y∧y.c≠t.c)∧(j=i→y.c=t.c∧y.t≠t.t)):=by
 unfold addQ at h
 split at h
 · cases h
 · rename_i h0
   simp only[not_or,Bool.not_eq_false] at h0
   obtain⟨h1,h2,h3⟩:=h0
   split at h
   · cases h
   · rename_i h4
     simp only[ne_eq,Decidable.not_not] at h4
     obtain⟨n1,n2,n3⟩:=(qaZ q).1 h1
     split at h
     · rename_i h5
       split at h
       · cases h
       · rename_i h6
         obtain rfl:=Except.ok.inj h;have h7:=ofQ_none h5;refine ⟨h1,h2,h3,h4,(qaZ _).2 ⟨?_,by rw[List.length_append];simp;omega,?_⟩,q.length,by simp,fun j y hj hy=>?_,fun j y hy=>?_⟩
         · rw[List.map_append,List.nodup_append]
           refine ⟨n1,by simp,?_⟩;intro a ha b hb e
           simp at hb
           subst hb e
           obtain⟨z,hz,hz2⟩:=List.mem_map.1 ha
           exact h7 z hz hz2
         · intro z hz
           rcases List.mem_append.1 hz with hz | hz
           · exact n3 z hz
           · simp at hz;rw[hz];exact h2
         · rw[List.getElem?_append] at hy
           split at hy
           · exact⟨h7 y (List.mem_of_getElem? hy),hy⟩
           · rename_i hlt
             have:j-q.length=0:=by
              have:=(List.getElem?_eq_some_iff.1 hy).1
              simpa using this
             omega
         · have hlt:=(List.getElem?_eq_some_iff.1 hy).1
           refine ⟨fun _=>⟨by rw[List.getElem?_append_left hlt];exact hy,h7 y (List.mem_of_getElem? hy)⟩,fun e=>by omega⟩
     · rename_i i h5
       obtain⟨z,hz,hzc,-⟩:=qfS h5
       rw[hz] at h;dsimp only at h
       split at h
       · cases h
       · rename_i h6
         split at h
         · cases h
         · rename_i h7
           obtain rfl:=Except.ok.inj h;have hlt:=(List.getElem?_eq_some_iff.1 hz).1;refine ⟨h1,h2,h3,h4,(qaZ _).2 ⟨?_,by rw[List.length_set];omega,?_⟩,i,by simp[hlt],fun j y hj hy=>?_,fun j y hy=>?_⟩
           · have e:(q.set i t).map Tx.c=q.map Tx.c:=by
               rw[List.map_set]
               apply List.ext_getElem?
               intro k;rw[List.getElem?_set]
               split
               · rename_i hk;subst hk
                 simp only[List.length_map,hlt,if_true,List.getElem?_map,hz,Option.map_some,hzc]
               · rfl
             rw[e];exact n1
           · intro u hu
             rcases List.mem_or_eq_of_mem_set hu with hu | rfl
             · exact n3 u hu
             · exact h2
           · rw[List.getElem?_set_ne (Ne.symm hj)] at hy
             refine ⟨fun e=>hj (qfE n1 hy hz (by rw[e,hzc])),hy⟩
           · refine ⟨fun hj=>⟨by rw[List.getElem?_set_ne (Ne.symm hj)];exact hy,fun e=>hj (qfE n1 hy hz (by rw[e,hzc]))⟩,fun e=>?_⟩
             subst e;rw[hz] at hy
             cases hy
             exact⟨hzc,h6⟩
theorem qbK {x:Tx} (h:TxAt w x):∃ p1 m1 k1 p2 m2 k2,x.rv=.slice p1 m1 k1∧x.wv=.slice p2 m2 k2:=by
 obtain⟨p1,k1,e1,-⟩:=qaE h.1.1
 obtain⟨p2,k2,e2,-⟩:=qaE h.2.1.1
 exact⟨p1,_,k1,p2,_,k2,e1,e2⟩
def idxI (p:Tx→Bool) (l:List Tx):Int:=match l.findIdx? p with
 | some i=>(i:Int)
 | none=>-1
theorem idxI_at {p:Tx→Bool} {l:List Tx} {x:Tx} (hx:l[k]?=some x) (hp:p x=true) (h:∀ j y,j<k→l[j]?=some y→p y=false):idxI p l=(k:Int):=by
 have hk:=(List.getElem?_eq_some_iff.1 hx).1;unfold idxI;rw[List.findIdx?_eq_some_iff_getElem.2 ⟨hk,by rw[(List.getElem?_eq_some_iff.1 hx).2];exact hp,fun j hj=>by rw[h j _ hj (List.getElem?_eq_getElem zac)];simp⟩]
theorem idxI_no {p:Tx→Bool} {l:List Tx} (h:∀ (j:Nat) y,l[j]?=some y→p y=false):idxI p l=-1:=by
 unfold idxI;rw[List.findIdx?_eq_none_iff.2 (fun x hx=>by obtain⟨j,hj⟩:=List.getElem?_of_mem hx;exact h j x hj)]
theorem qeo (gn:Nat) (cb:Array Value) (eg:∀ args w,(callFunc gn args).run Tryz.prog w=.ok (.enter gn args) w) (p:Tx→Bool) (v:Value) (l:List Tx) (w:World) (h:TxIn w v l) (hl:l.length≤100000)
  (hp:∀ x∈l,∀ W,Ext w W→Calls Tryz.prog gn (#[txV x]++cb) W fun e w'=>e=.returned (.bool (p x))∧Ext W w'):Calls Tryz.prog 57 #[v,.func (.func gn) #[] cb] w fun e w'=>e=.returned (.int .i64 (idxI p l))∧Ext w w':=by
 obtain⟨ht,pp,cap,rfl,-,-,hr⟩:=h
 obtain⟨n,hn⟩:∃ n,l.length=n:=⟨_,rfl⟩
 rw[hn] at hl ⊢
 obtain⟨r,hr0⟩:∃ r,idxI p l=r:=⟨_,rfl⟩
 rw[hr0];have HN:=Lib.hid hn;have HR:=Lib.hid hr0;have HP:=Lib.hid hp;have HC:=Lib.hid hr
 have hln:(n:Int)≤100000:=by omega
 clear ht hr hp hn hr0;go_enter Tryz.func57,Tryz.ntmps57;go_wp2_with fail
 go_loopg [5,8] n (fun gg _ s8 wr=>∃ k:Nat,k≤n∧n-k≤gg∧s8=.int .i64 k∧Ext w wr∧RowKit.Hid (∀ j y,j<k→l[j]?=some y→p y=false))
 case atStart=>exact⟨0,Nat.zero_le _,by omega,rfl,Ext.refl _,Lib.hid fun j y hj=>absurd hj (Nat.not_lt_zero _)⟩
 case round =>
  obtain⟨k,hk,hg,rfl,⟨d,os,rfl⟩,A⟩:=hrel
  by_cases hlt:k<n
  · have hltz:(k:Int)<(n:Int):=by omega
    have hk0:0≤(k:Int):=by omega
    obtain⟨x,hx⟩:∃ x,l[k]?=some x:=⟨_,List.getElem?_eq_getElem zap⟩
    obtain⟨b,off,rfl,hc⟩:=HC.out k x hx
    have c0:=hc 0 _ rfl;have c1:=hc 1 _ rfl;have c2:=hc 2 _ rfl;have c3:=hc 3 _ rfl;have c4:=hc 4 _ rfl;have c5:=hc 5 _ rfl;have hbl:=World.block_lt_of_cell? _ _ c0;simp only[Nat.add_zero] at c0 hbl;have PX:=Lib.hid (HP.out x (List.mem_of_getElem? hx));have HX:=Lib.hid hx;clear hc hx
    obtain⟨q,hq⟩:∃ q,p x=q:=⟨_,rfl⟩
    rw[hq] at PX;have HQ:=Lib.hid hq;clear hq
    obtain⟨xc,xt,xrv,xwv,xs,xg,xrd,xwr⟩:=x
    unfold txV at PX;dsimp only at c0 c1 c2 c3 c4 c5 PX
    cases q
    · go_wp2_with ((with_reducible refine (PX.out _ zaa).mono ?_);rintro e' _ ⟨rfl,d1,os1,rfl⟩)
      go_roundg (n-(k+1))
      case measure=>omega
      case rel =>
       refine ⟨k+1,by omega,by omega,by go_num,zaa,Lib.hid fun j y hj hy=>?_⟩
       by_cases e:j=k
       · subst e;rw[HX.out] at hy;cases hy;exact HQ.out
       · exact A.out j y zac hy
    · have HF:=Lib.hid (idxI_at HX.out HQ.out A.out)
      go_wp2_with ((with_reducible refine (PX.out _ zaa).mono ?_);rintro e' _ ⟨rfl,d1,os1,rfl⟩)
      go_ret
      exact⟨ret_int (by rw[←HR.out,HF.out]),zaa⟩
  · have:k=n:=by omega
    subst this;have HF:=Lib.hid (idxI_no (p:=p) (l:=l) fun j y hy=>A.out j y (by have:=(List.getElem?_eq_some_iff.1 hy).1;rw[HN.out] at this;exact this) hy);go_wp2_with fail;go_ret
    exact⟨ret_int (by rw[←HR.out,HF.out]),zaa⟩
theorem qdN (gn:Nat) (cb:Array Value) (eg:∀ args w,(callFunc gn args).run Tryz.prog w=.ok (.enter gn args) w) (p:Tx→Bool) (v:Value) (l:List Tx) (w:World) (h:TxIn w v l) (hl:l.length≤100000)
  (hp:∀ x∈l,∀ W,Ext w W→Calls Tryz.prog gn (#[txV x]++cb) W fun e w'=>e=.returned (.bool (p x))∧Ext W w'):Calls Tryz.prog 35 #[v,.func (.func gn) #[] cb] w fun e w'=>e=.returned (.bool (l.any p))∧Ext w w':=by
 have IX:=Lib.hid (fun W (hx:Ext w W)=>qeo gn cb eg p v l W (h.ext hx) hl (fun x hm W' hx'=>hp x hm W' (hx.trans hx')))
 obtain⟨r,hr⟩:∃ r,idxI p l=r:=⟨_,rfl⟩
 have HR:=Lib.hid (show decide (0≤r)=l.any p from by
  rw[←hr];unfold idxI
  cases h:l.findIdx? p with
  | none =>
   rw[List.findIdx?_eq_none_iff] at h;rw[show l.any p=false from by rw[List.any_eq_false];intro x hx;rw[h x hx];simp];rfl
  | some i =>
   rw[List.findIdx?_eq_some_iff_getElem] at h
   obtain⟨hi,h1,-⟩:=h
   rw[show l.any p=true from List.any_eq_true.2 ⟨_,List.getElem_mem hi,h1⟩]
   simp)
 rw[hr] at IX;clear h hl hp hr;go_enter Tryz.func35,Tryz.ntmps35
 go_wp2_with (go_at_call 57;(with_reducible refine (IX.out _ zaa).mono ?_);rintro e' _ ⟨rfl,d1,os1,rfl⟩)
 go_ret
 exact⟨ret_bool HR.out,zaa⟩
theorem entersOf (args:Array Value) (w:World):(callFunc 58 args).run Tryz.prog w=.ok (.enter 58 args) w:=by kernel_rfl
theorem entersWr (args:Array Value) (w:World):(callFunc 28 args).run Tryz.prog w=.ok (.enter 28 args) w:=by kernel_rfl
theorem of1_any (x:Tx) (c:Int) (b:Nat) (w:World) (hc:w.cell? ⟨b,0,none⟩=some (.int .i64 c)):Calls Tryz.prog 58 (#[txV x]++#[.pointer (some ⟨b,0,none⟩)]) w fun e w'=>e=.returned (.bool (x.c==c))∧Ext w w':=by
 obtain⟨xc,xt,xrv,xwv,xs,xg,xrd,xwr⟩:=x
 have hb:=World.block_lt_of_cell? _ _ hc
 show Calls Tryz.prog 58 #[.agg #[.int .i64 xc,.int .i64 xt,xrv,xwv,.string xs,.int .i64 xg],.pointer (some ⟨b,0,none⟩)] w fun e w'=>e=.returned (.bool (xc==c))∧Ext w w'
 go_enter Tryz.func58,Tryz.ntmps58;go_wp2_with fail;go_ret
 exact⟨rfl,zaa⟩
theorem bof_any (v:Value) (l:List Tx) (c:Int) (w:World) (h:TxIn w v l) (hl:l.length≤100000):Calls Tryz.prog 32 #[v,.int .i64 c] w fun e w'=>e=.returned (.int .i64 (idxI (fun x=>x.c==c) l))∧Ext w w':=by
 have IX:=Lib.hid (qeo _ #[.pointer (some ⟨w.heap.size,0,none⟩)] entersOf (fun x=>x.c==c) v l (w.alloc (.cells #[.int .i64 c] 3)) (h.ext ((Ext.refl _).alloc _)) hl (fun x hm W' hx'=>of1_any x c w.heap.size W' (cell_ext ((KB.new w #[.int .i64 c] 3).cell 0 _ rfl) hx')))
 obtain⟨r,hr⟩:∃ r,idxI (fun x=>x.c==c) l=r:=⟨_,rfl⟩
 rw[hr] at IX ⊢;clear h hl hr;go_enter Tryz.func32,Tryz.ntmps32
 go_wp2_with ((with_reducible refine (IX.out).mono ?_);rintro e' _ ⟨rfl,d1,os1,rfl⟩)
 go_ret
 exact⟨rfl,zaa⟩
theorem idx_of (l:List Tx) (c:Int) (k:Nat):(idxI (fun x=>x.c==c) l==(k:Int))=(ofQ l c==some k):=by
 unfold idxI ofQ
 cases h:l.findIdx? (fun x=>x.c==c) with
 | none=>simp
 | some i =>
  rw[Bool.eq_iff_iff,beq_iff_eq,beq_iff_eq,Option.some.injEq];exact Int.ofNat_inj
def ownsB (l:List Tx) (k:Nat):Bool:=((l.zipIdx).drop k).all fun p=>ofQ l p.1.c==some p.2
theorem owns_step {l:List Tx} {x:Tx} (h:l[k]?=some x):ownsB l k=((ofQ l x.c==some k)&&ownsB l (k+1)):=by
 have hk:=(List.getElem?_eq_some_iff.1 h).1;unfold ownsB;rw[List.drop_eq_getElem_cons (by simpa using hk),List.all_cons]
 congr 1
 simp[(List.getElem?_eq_some_iff.1 h).2]
theorem owns_end {l:List Tx}:ownsB l l.length=true:=by unfold ownsB;rw[List.drop_eq_nil_of_le zaj];rfl
theorem queue_owns (l:List Tx):qaT l=(ownsB l 0&&(decide (l.length≤64)&&!(l.any fun x=>!okT x))):=by
 unfold qaT ownsB;rw[List.drop_zero,Bool.and_assoc]
 congr 2
 rw[List.any_eq_not_all_not]
 simp
theorem qdu (v:Value) (l:List Tx) (B:Nat) (w:World) (hS:SignsAt B w) (hB:B≤w.heap.size) (h:TxIn w v l) (hl:l.length≤100000):Calls Tryz.prog 12 #[v] w fun e w'=>e=.returned (.bool (qaT l))∧Ext w w':=by
 have OF:=Lib.hid (fun c W (hx:Ext w W)=>bof_any v l c W (h.ext hx) hl);have CT:=Lib.hid (fun W (hx:Ext w W)=>qdN _ #[] entersWr (fun x=>!okT x) v l W (h.ext hx) hl (fun x hm W' hx'=>qfl x B W' (hS.ext (hx.trans hx') hB) (Nat.le_trans hB (hx.trans hx').size) ((h.1 x hm).ext (hx.trans hx'))));rw[queue_owns]
 obtain⟨ht,pp,cap,rfl,-,-,hr⟩:=h
 obtain⟨q,hq⟩:∃ q,ownsB l 0=q:=⟨_,rfl⟩
 obtain⟨a,ha⟩:∃ a,(l.any fun x=>!okT x)=a:=⟨_,rfl⟩
 rw[ha] at CT;rw[hq,ha];have HL:=Lib.hid (owns_end (l:=l))
 obtain⟨n,hn⟩:∃ n,l.length=n:=⟨_,rfl⟩
 rw[hn] at hl OF CT HL ⊢;have HN:=Lib.hid hn;have HQ:=Lib.hid hq;have HC:=Lib.hid hr;have HT:=Lib.hid ht
 have hln:(n:Int)≤100000:=by omega
 clear ht hr hn hq ha hS hB;go_enter Tryz.func12,Tryz.ntmps12;go_wp2_with fail;go_loopw [7] (fun i wr=>∃ k:Nat,i=.int .i64 (k:Int)∧k≤n∧ownsB l k=q∧Ext w wr) (fun i _=>n-(intOf i).toNat)
 case atStart=>exact⟨0,rfl,Nat.zero_le _,HQ.out,Ext.refl _⟩
 case round =>
  obtain⟨k,rfl,hk,hch,d,os,rfl⟩:=hrel
  by_cases hlt:k<n
  case neg =>
   have hkn:k=n:=by omega
   subst hkn
   have hq2:q=true:=by rw[←hch];exact HL.out
   subst hq2;clear hch hk hlt
   go_wp2_with (go_at_call 35;(with_reducible refine (CT.out _ zaa).mono ?_);rintro e' _ ⟨rfl,d1,os1,rfl⟩)
   all_goals
    go_ret
    exact⟨ret_bool (by simp_all<;>omega),zaa⟩
  have hltz:(k:Int)<(n:Int):=by omega
  obtain⟨x,hx⟩:∃ x,l[k]?=some x:=⟨_,List.getElem?_eq_getElem zap⟩
  obtain⟨b,off,rfl,hc⟩:=HC.out k x hx
  have c0:=hc 0 _ rfl;have c1:=hc 1 _ rfl;have c2:=hc 2 _ rfl;have c3:=hc 3 _ rfl;have c4:=hc 4 _ rfl;have c5:=hc 5 _ rfl;have hbl:=World.block_lt_of_cell? _ _ c0;simp only[Nat.add_zero] at c0 hbl
  obtain⟨p1,m1,k1,p2,m2,k2,e1,e2⟩:=qbK (HT.out x (List.mem_of_getElem? hx))
  rw[owns_step hx,←idx_of] at hch;have OX:=Lib.hid (OF.out x.c)
  obtain⟨r,hr⟩:∃ r,idxI (fun y=>y.c==x.c) l=r:=⟨_,rfl⟩
  rw[hr] at OX hch;clear hc hx hr
  obtain⟨xc,xt,xrv,xwv,xs,xg,xrd,xwr⟩:=x
  dsimp only at c0 c1 c2 c3 c4 c5 OX e1 e2;subst e1 e2;have HLT:=Lib.hid hlt;clear hlt
  cases e:(r==(k:Int))
  · rw[e,Bool.false_and] at hch
    subst hch
    have e2:(r !=(k:Int))=true:=by simp[bne,e]
    clear e
    go_wp2_with (go_at_call 32;(with_reducible refine (OX.out _ zaa).mono ?_);rintro e' _ ⟨rfl,d1,os1,rfl⟩)
    go_ret
    exact⟨ret_bool zaj,zaa⟩
  · rw[e,Bool.true_and] at hch
    have e2:(r !=(k:Int))=false:=by simp[bne,e]
    have HCH:=Lib.hid hch;clear e hch
    go_wp2_with (go_at_call 32;(with_reducible refine (OX.out _ zaa).mono ?_);rintro e' _ ⟨rfl,d1,os1,rfl⟩)
    go_roundw
    case rel=>exact⟨k+1,by go_num,by have:=HLT.out;omega,HCH.out,zaa⟩
    case measure=>simp[intOf];have:=HLT.out;omega
theorem txInfo:(Tryz.prog.info? 27).map (fun i=>(i.zero,i.size,i.bytes))=some (some (.agg #[.int .i64 0,.int .i64 0,.slice none 0 0,.slice none 0 0,.string ⟨#[]⟩,.int .i64 0]),6,88):=by kernel_rfl
theorem qbU (x:Tx):(txL x).length=6:=rfl
theorem txC_one {l:List Tx} (h:∀ x∈l,TxAt w x):∀ u∈txC l,u.oneCell'=true:=by
 intro u hu
 obtain⟨x,hx,hm⟩:=List.mem_flatMap.1 hu
 obtain⟨p1,m1,k1,p2,m2,k2,e1,e2⟩:=qbK (h x hx)
 simp[txL,e1,e2] at hm
 rcases hm with rfl | rfl | rfl | rfl | rfl | rfl<;>rfl
def TxRow (B:Nat) (w:World) (v:Value) (l:List Tx):Prop:=(∀ x∈l,∀ W:World,(∀ k,k<B→W.heap[k]?=w.heap[k]?)→TxAt W x)∧B≤w.heap.size∧w.ownsRow B 27 6 v l.length (txC l)
theorem TxRow.ext {l:List Tx} (h:TxRow B w v l) (hx:Ext w w'):TxRow B w' v l:=⟨fun x hm W hW=>h.1 x hm W (fun k hk=>(hW k hk).trans (hx.below.block k (Nat.lt_of_lt_of_le hk h.2.1))),Nat.le_trans h.2.1 hx.size,own_ext h.2.2 hx⟩
theorem TxRow.inn {l:List Tx} (h:TxRow B w v l):TxIn w v l:=⟨fun x hm=>h.1 x hm w (fun _ _=>rfl),RowIn.own qbU h.2.2⟩
theorem PatS.blocks (h:PatS w v l) (hW:∀ k,k<w.heap.size→W.heap[k]?=w.heap[k]?):PatS W v l:=by
 obtain⟨h1,h2⟩:=h
 refine ⟨?_,h2⟩
 rcases h1 with h1 | ⟨b,off,cap,e,h3,h4⟩
 · exact .inl h1
 · exact .inr ⟨b,off,cap,e,h3,fun j u hj=>(World.cell?_of_block (hW b (World.block_lt_of_cell? _ _ (h4 j u hj)))).trans (h4 j u hj)⟩
theorem TxAt.blocks {x:Tx} (h:TxAt w x) (hW:∀ k,k<w.heap.size→W.heap[k]?=w.heap[k]?):TxAt W x:=⟨h.1.blocks hW,h.2.1.blocks hW,h.2.2⟩
theorem src_tx {l:List Tx} (h:TxIn w v l):Src Tryz.prog 6 22 v l.length (txC l) w:=by
 obtain⟨ht,p,cap,rfl,hc,-,hr⟩:=h
 cases hl:l with
 | nil =>
  cases p with
  | none=>exact Src.ofNil w Tryz.underlying22 cap
  | some a=>exact Src.ofSlice w Tryz.underlying22 a 0 cap [] rfl zaj zaj
 | cons y r =>
  obtain⟨b,off,rfl,-⟩:=hr 0 y (by rw[hl];rfl)
  rw[←hl];refine Src.ofSlice w Tryz.underlying22 ⟨b,off,none⟩ l.length cap (txC l) (qfX qbU l) (fun q u hq=>?_) (txC_one ht)
  obtain⟨j,i,x,rfl,hi,hj,hu⟩:=flat_inv qbU l q u hq
  obtain⟨b',off',he,hcell⟩:=hr j x hj
  simp only[Option.some.injEq,Addr.mk.injEq] at he
  obtain⟨rfl,rfl,-⟩:=he
  rw[Addr.add_lit,←Nat.add_assoc];exact hcell i u hu
theorem qfo (v:Value) (l:List Tx) (w:World) (h:TxIn w v l) (hl:l.length≤100000):Calls Tryz.prog 31 #[v] w fun e w'=>∃ v',e=.returned v'∧TxRow w.heap.size w' v' l∧Ext w w':=by
 obtain⟨i0,hi,hz0,hz1,hz2⟩:=info_parts txInfo
 have HSRC:=Lib.hid (fun W (hx:Ext w W)=>src_tx (h.ext hx));have HT:=Lib.hid (fun x (hm:x∈l) (W:World) (hx:∀ k,k<w.heap.size→W.heap[k]?=w.heap[k]?)=>(h.1 x hm).blocks hx)
 obtain⟨ht,p,cap,rfl,hc,-,hr⟩:=h
 obtain⟨n,hn⟩:∃ n,l.length=n:=⟨_,rfl⟩
 have h0:p=none→l=[]:=fun e=>by
  cases hq:l with
  | nil=>rfl
  | cons y r =>
   obtain⟨b,off,he,-⟩:=hr 0 y (by rw[hq];rfl)
   rw[e] at he;cases he
 have HN:=Lib.hid hn
 have qe:∀ (w:World) (a:Option Addr) (n c n' c':Nat),(binOp .eql 22 (.slice a n c) (.slice none n' c')).run Tryz.prog w=.ok (.bool a.isNone) w:=fun w a n c n' c'=>Lib.run_eql_slice_nil w _ _ a n c n' c' Tryz.underlying22
 rw[hn] at HSRC hl ⊢;clear ht hr hn hc
 cases p with
 | none =>
  obtain rfl:=h0 rfl;clear HSRC;go_enter Tryz.func31,Tryz.ntmps31;go_wp2_with fail;go_ret
  exact⟨_,rfl,⟨by simp,Nat.le_refl _,World.ownsRow_nil _ _ _ _⟩,Ext.refl _⟩
 | some a =>
  clear h0;go_enter Tryz.func31,Tryz.ntmps31
  go_wp2_with (at_builtin;refine qah _ rfl _ _ 22 22 rfl w.heap.size 27 i0 (.agg #[.int .i64 0,.int .i64 0,.slice none 0 0,.slice none 0 0,.string ⟨#[]⟩,.int .i64 0]) 6 88 Tryz.underlying22 hi hz0 hz1 hz2 rfl zak _ 0 _ rfl (World.ownsRow_made w #[] 0 (Nat.le_refl _) (Nat.zero_le _) rfl) _ n _ rfl (HSRC.out _ ((Ext.refl _).alloc _)) ?c3 ?c4 ?c5 ?_)
  case c3=>unfold maxLen;omega
  case c4=>omega
  case c5=>simp
  intro v1 w1 hown hgrow _;go_wp2_with fail;go_ret;have HX:=Ext.grown ((Ext.refl w).alloc _) hgrow (fun k hk=>by simp[Value.ownBlock] at hk;omega);refine ⟨v1,rfl,⟨fun x hm W hW=>HT.out x hm W (fun k hk=>(hW k hk).trans (HX.below.block k hk)),HX.size,?_⟩,HX⟩;rw[HN.out]
  simpa using hown
def textX (s:ByteArray):ByteArray:=⟨(putB s.size).toArray⟩++s
def listX (n:Nat) (l:List ByteArray):ByteArray:=l.foldl (fun a s=>a++textX s) ⟨(putB n).toArray⟩
theorem listX_snoc (n:Nat) (l:List ByteArray) (s:ByteArray):listX n (l++[s])=listX n l++textX s:=by unfold listX;rw[List.foldl_append];rfl
theorem textX_len (h:s.size≤100000):(textX s).size≤100010:=by
 have hl:=qbc 9 s.size zac;unfold textX;rw[ByteArray.size_append]
 have:(⟨(putB s.size).toArray⟩:ByteArray).size=(putB s.size).length:=by show(putB s.size).toArray.size=_;rw[List.size_toArray]
 omega
theorem listX_len {n:Nat} (hn:n≤100000) (l:List ByteArray) (h:∀ s∈l,s.size≤100000):(listX n l).size≤10+l.length*100010:=by
 have go:∀ (l:List ByteArray) (a:ByteArray),(∀ s∈l,s.size≤100000)→(l.foldl (fun a s=>a++textX s) a).size≤a.size+l.length*100010:=by
  intro l
  induction l with
  | nil=>intro a _;simp
  | cons x l ih =>
   intro a h;have h1:=ih (a++textX x) (fun y hy=>h y (List.mem_cons_of_mem _ hy));have h2:=textX_len (h x zaj);rw[ByteArray.size_append] at h1;rw[List.foldl_cons,List.length_cons]
   omega
 have hl:=qbc 9 n zac;have h1:=go l ⟨(putB n).toArray⟩ h
 have h2:(⟨(putB n).toArray⟩:ByteArray).size=(putB n).length:=by show(putB n).toArray.size=_;rw[List.size_toArray]
 unfold listX
 omega
theorem qcA (v:Value) (l:List ByteArray) (w:World) (h:StrsAt w v l) (hs:∀ s∈l,s.size≤100000) (hl:l.length≤100000):Calls Tryz.prog 37 #[v] w fun e w'=>e=.returned (.string (listX l.length l))∧Ext w w':=by
 obtain⟨p,cap,rfl,hp⟩:=qaE h
 have HLEN:=Lib.hid (fun k (hk:k≤l.length)=>listX_len hl (l.take k) (fun s h=>hs s (List.mem_of_mem_take h)))
 obtain⟨n,hn⟩:∃ n,l.length=n:=⟨_,rfl⟩
 obtain⟨q,hq⟩:∃ q,listX n l=q:=⟨_,rfl⟩
 have HN:=Lib.hid hn;rw[hn] at hl HLEN ⊢;rw[hq];have HQ:=Lib.hid hq;have HS:=Lib.hid hs
 have hln:(n:Int)≤100000:=by omega
 clear h hs hn hq;go_enter Tryz.func37,Tryz.ntmps37
 go_wp2_with (go_at_call 42;refine (rput_any (n:Int) zac zac _).mono ?_;rw[Int.toNat_natCast];rintro e _ ⟨rfl,d,os,rfl⟩)
 go_loopw [3,4] (fun s i wr=>∃ k:Nat,i=.int .i64 (k:Int)∧k≤n∧s=.string (listX n (l.take k))∧Ext w wr) (fun _ i _=>n-(intOf i).toNat)
 case atStart=>exact⟨0,rfl,Nat.zero_le _,rfl,zaa⟩
 case round =>
  obtain⟨k,rfl,hk,rfl,d,os,rfl⟩:=hrel
  have HL:=Lib.hid (HLEN.out k hk)
  obtain⟨a,ha⟩:∃ a,listX n (l.take k)=a:=⟨_,rfl⟩
  rw[ha] at HL ⊢;have HA:=Lib.hid ha;clear ha
  by_cases hlt:k<n
  case neg =>
   have hkn:k=n:=by omega
   subst hkn
   have hq2:q=a:=by rw[←HA.out,←HQ.out,List.take_of_length_le zap]
   subst hq2;clear hk hlt;go_wp2_with fail;go_ret
   exact⟨rfl,zaa⟩
  obtain⟨s,hs⟩:∃ s,l[k]?=some s:=⟨_,List.getElem?_eq_getElem zap⟩
  obtain⟨b,off,rfl,hc⟩:=hp.out k s hs
  have hbl:=World.block_lt_of_cell? _ _ hc;have hz:=HS.out s (List.mem_of_getElem? hs);have TX:=Lib.hid (fun W=>rtext_any s zac W);have HSN:=Lib.hid hs;have hzt:=textX_len hz
  have haz:(a.size:Int)≤100000000000:=by have:=HL.out;simp at this;omega
  obtain⟨t,ht⟩:∃ t,textX s=t:=⟨_,rfl⟩
  unfold textX at ht;rw[ht] at TX;have HT:=Lib.hid ht
  have htz:(t.size:Int)≤200000:=by rw[←ht];unfold textX at hzt;omega
  have HLT:=Lib.hid hlt;clear hs hz hzt ht
  go_wp2_with (((with_reducible refine (TX.out _).mono ?_);rintro e' _ ⟨rfl,d1,os1,rfl⟩))
  go_roundw
  case measure=>have:=HLT.out;simp[intOf];omega
  case rel=>exact⟨k+1,by go_num,by have:=HLT.out;omega,by rw[List.take_add_one,HSN.out,Option.toList_some,listX_snoc,HA.out];unfold textX;rw[HT.out],zaa⟩
def TxSm (x:Tx):Prop:=(∀ s∈x.rd,s.size≤100000)∧x.rd.length≤100000∧(∀ s∈x.wr,s.size≤100000)∧x.wr.length≤100000
def sameX (a b:Tx):Bool:=a.c==b.c&&(a.t==b.t&&(a.gas==b.gas&&(decide (a.src=b.src)&&(decide (listX a.rd.length a.rd=listX b.rd.length b.rd)&&decide (listX a.wr.length a.wr=listX b.wr.length b.wr)))))
theorem bytes_inj {a b:ByteArray} (e:a.toList=b.toList):a=b:=ByteArray.ext (by simpa [ByteArray.toList_eq] using e)
theorem em_and {p q:Prop} (h:q):¬p∨p∧q:=(Classical.em p).elim (fun h1=>.inr ⟨h1,h⟩) .inl
theorem sameX_self (a:Tx):sameX a a=true:=by simp[sameX]
theorem rsame22_any (a b:Tx) (w:World) (ha:TxAt w a) (hb:TxAt w b) (sa:TxSm a) (sb:TxSm b):Calls Tryz.prog 16 #[txV a,txV b] w fun e w'=>e=.returned (.bool (sameX a b))∧Ext w w':=by
 have A1:=Lib.hid (fun W (hx:Ext w W)=>qcA a.rv a.rd W (ha.ext hx).1.1 sa.1 sa.2.1);have A2:=Lib.hid (fun W (hx:Ext w W)=>qcA a.wv a.wr W (ha.ext hx).2.1.1 sa.2.2.1 sa.2.2.2);have B1:=Lib.hid (fun W (hx:Ext w W)=>qcA b.rv b.rd W (hb.ext hx).1.1 sb.1 sb.2.1);have B2:=Lib.hid (fun W (hx:Ext w W)=>qcA b.wv b.wr W (hb.ext hx).2.1.1 sb.2.2.1 sb.2.2.2)
 obtain⟨q,hq⟩:∃ q,sameX a b=q:=⟨_,rfl⟩
 rw[hq];unfold sameX at hq
 obtain⟨p1,m1,k1,p2,m2,k2,e1,e2⟩:=qbK ha
 obtain⟨p3,m3,k3,p4,m4,k4,e3,e4⟩:=qbK hb
 obtain⟨ac,av,arv,awv,az,ag,ard,awr⟩:=a
 obtain⟨bc,bt,brv,bwv,bz,bg,brd,bwr⟩:=b
 dsimp only at hq A1 A2 B1 B2 e1 e2 e3 e4;unfold txV;dsimp only;subst e1 e2 e3 e4
 obtain⟨x1,hx1⟩:∃ x,listX ard.length ard=x:=⟨_,rfl⟩
 obtain⟨x2,hx2⟩:∃ x,listX awr.length awr=x:=⟨_,rfl⟩
 obtain⟨x3,hx3⟩:∃ x,listX brd.length brd=x:=⟨_,rfl⟩
 obtain⟨x4,hx4⟩:∃ x,listX bwr.length bwr=x:=⟨_,rfl⟩
 rw[hx1] at A1 hq;rw[hx2] at A2 hq;rw[hx3] at B1 hq;rw[hx4] at B2 hq;have HQ:=Lib.hid hq;clear hq ha hb sa sb hx1 hx2 hx3 hx4
 rcases em_and (p:=ac=bc) (em_and (p:=av=bt) (em_and (p:=ag=bg) (em_and (p:=az=bz) (em_and (p:=x1=x3) (Classical.em (x2=x4)).symm)))) with h | ⟨rfl,h | ⟨rfl,h | ⟨rfl,h | ⟨rfl,h | ⟨rfl,h | rfl⟩⟩⟩⟩⟩
 all_goals
  first | (have hf:=eq_false h;obtain rfl:q=false:=by rw[←HQ.out];simp[h]) | (obtain rfl:q=true:=by rw[←HQ.out];simp)
  try have hg:=eq_false (fun e=>h (bytes_inj e))
  clear HQ;go_enter Tryz.func16,Tryz.ntmps16;go_wp2_with fail;refine qaa 49 53 (List.replicate 49 false) zaf zaf rfl ?_;refine yac ?_
  repeat(refine Lex.step rfl ?_;intro K hK;unfold StepG;go_simp;(first | refine hK _ ?_ | ((first | with_reducible refine ⟨_,fun d os=>(ret1 (A1.out _ zaa)),?_⟩ | with_reducible refine ⟨_,fun d os=>(ret1 (A2.out _ zaa)),?_⟩ | with_reducible refine ⟨_,fun d os=>(ret1 (B1.out _ zaa)),?_⟩ | with_reducible refine ⟨_,fun d os=>(ret1 (B2.out _ zaa)),?_⟩);go_simp;refine hK _ ?_));clear hK K)
  refine yaa ?_;intro dd oo;go_wp2_with fail
  try rw[ends_normal]
  try go_wp2_with fail
  go_ret
  exact⟨ret_bool (by first | (simp;done) | (simp;exact fun e=>h (bytes_inj e))),zaa⟩
theorem strs_formC (h:StrsAt w v l):∃ p cap,v=.slice p l.length cap∧l.length≤cap∧Hid (∀ j u,l[j]?=some u→∃ b off,p=some ⟨b,off,none⟩∧w.cell? ⟨b,off+j,none⟩=some (.string u)):=by
 rcases h with ⟨p,cap,rfl,rfl⟩ | ⟨b,off,cap,rfl,h1,h2⟩
 · exact⟨p,cap,rfl,Nat.zero_le _,fun j u hj=>by simp at hj⟩
 · exact⟨_,cap,rfl,h1,fun j u hj=>⟨b,off,rfl,h2 j u hj⟩⟩
theorem news_kc {cs:Array Value} {T:TypeId} (h:KB k cs T w):∀ j u,cs.toList[j]?=some u→w.cell? ((⟨k,0,none⟩:Addr).add j)=some u:=fun j u hu=>by
 rw[Addr.add_lit,Nat.zero_add];exact h.cell j u (by simpa using hu)
theorem strInfo21:(Tryz.prog.info? 9).map (fun i=>(i.zero,i.size,i.bytes))=some (some (.string ⟨#[]⟩),1,16):=by kernel_rfl
def fewW (l:List ByteArray):List ByteArray:=(l.take 20).map (cutS 60)
theorem qgu (l:List ByteArray):(fewW l).length≤20:=by unfold fewW;simp;omega
theorem fewW_sz (l:List ByteArray):∀ s∈fewW l,s.size≤60:=by
 intro s hs;unfold fewW at hs
 obtain⟨t,_,rfl⟩:=List.mem_map.1 hs
 exact qeM 60 t
def wC (l:List ByteArray) (k:Nat):List Value:=((l.map (cutS 60)).take k).map Value.string
theorem fewW_of {m:Nat} (h:m=min l.length 20):wC l m=(fewW l).map Value.string∧m=(fewW l).length:=by
 subst h;unfold fewW wC
 constructor
 · rw[←List.map_take]
   by_cases h:l.length≤20
   · rw[Nat.min_eq_left h,List.take_of_length_le (Nat.le_refl _),List.take_of_length_le h]
   · rw[Nat.min_eq_right zac]
 · simp;omega
theorem pat21_any (v:Value) (l:List ByteArray) (w:World) (h:StrsAt w v l) (hz:∀ s∈l,s.size≤140737488351232) (hl:l.length≤140737488351232) :
  Calls Tryz.prog 70 #[v] w fun e w'=>∃ v',e=.returned v'∧w'.ownsRow w.heap.size 9 1 v' (fewW l).length ((fewW l).map Value.string)∧Ext w w':=by
 obtain⟨i1,hi1,hy0,hy1,hy2⟩:=info_parts strInfo21
 obtain⟨p,cap,rfl,hcap,hp⟩:=strs_formC h
 obtain⟨n,hn⟩:∃ n,l.length=n:=⟨_,rfl⟩
 rw[hn] at hcap hl ⊢;have HN:=Lib.hid hn;have HS:=Lib.hid hz
 obtain⟨m,hm⟩:∃ m,m=min n 20:=⟨_,rfl⟩
 have HF:=Lib.hid (fewW_of (l:=l) (m:=m) (by rw[hn];exact hm));have HM:=Lib.hid hm
 have hm20:m≤20:=by omega
 have hmn:m≤n:=by omega
 have hmi:(m:Int)≤20:=by omega
 have hln:(n:Int)≤140737488351232:=by omega
 clear h hz hn hm;go_enter Tryz.func70,Tryz.ntmps70
 go_upto_if 8 with fail
 go_cut [0] (fun s0 wx=>s0=.slice p m cap∧w=wx)
 case first =>
  by_cases hbig:(20:Int)<n
  · have hmm:m=20:=by have:=HM.out;omega
    subst hmm
    have h20:(20:Int)≤cap:=by omega
    go_wp2_with fail
    go_meet
    exact⟨rfl,rfl⟩
  · have hmm:m=n:=by have:=HM.out;omega
    subst hmm;go_wp2_with fail
    go_meet
    exact⟨rfl,rfl⟩
 case rest =>
  obtain⟨rfl,rfl⟩:=hcut
  go_wp2_with fail;go_loopw [3,4] (fun lv ii wr=>∃ (k:Nat),ii=.int .i64 (k:Int)∧k≤m∧Hid (wr.ownsRow w.heap.size 9 1 lv k (wC l k)∧Ext w wr)) (fun _ ii _=>m-(intOf ii).toNat)
  case atStart=>exact⟨0,rfl,Nat.zero_le _,Lib.hid ⟨World.ownsRow_nil _ _ _ _,Ext.refl _⟩⟩
  case round =>
   obtain⟨k,rfl,hkm,hH⟩:=hrel
   obtain⟨lv,hlv⟩:∃ x,x=u3:=⟨_,rfl⟩
   subst hlv
   by_cases hlt:k<m
   case neg =>
    have hk:k=m:=by omega
    subst hk;clear hlt;go_wp2_with fail;go_ret
    have:=hH.out
    rw[HF.out.1,HF.out.2] at this
    exact⟨_,rfl,this⟩
   obtain⟨s,hsx⟩:∃ s,l[k]?=some s:=⟨_,List.getElem?_eq_getElem zap⟩
   obtain⟨b,off,rfl,c0⟩:=hp.out k s hsx
   have c1:=cell_ext c0 hH.out.2;have hb1:=World.block_lt_of_cell? _ _ c1;have hz:=HS.out s (List.mem_of_getElem? hsx)
   have hzi:(s.size:Int)≤140737488351232:=by omega
   have HSN:=Lib.hid (show wC l (k+1)=wC l k++[.string (cutS 60 s)] from by unfold wC;rw[List.take_add_one,List.getElem?_map,hsx];simp);have HLT:=Lib.hid hlt;clear hsx c0 hz
   go_upto_if 23 with fail
   go_cut [5] (fun s5 wx=>s5=.string (cutS 60 s)∧wr=wx)
   case first =>
    by_cases hbig:(60:Int)<s.size
    · have hcut:cutS 60 s=s.extract 0 60:=by unfold cutS;rw[if_pos zac]
      have hI2:(60:Int)≤s.size:=by omega
      go_wp2_with fail
      go_meet
      exact⟨by rw[hcut],rfl⟩
    · have hcut:cutS 60 s=s:=by unfold cutS;rw[if_neg zac]
      go_wp2_with fail
      go_meet
      exact⟨by rw[hcut],rfl⟩
   case rest =>
    obtain⟨rfl,rfl⟩:=hcut
    obtain⟨t,ht⟩:∃ t,cutS 60 s=t:=⟨_,rfl⟩
    rw[ht] at HSN ⊢;clear ht
    go_wp2_with (at_builtin;refine wpList_append_own_at _ rfl _ _ 23 rfl w.heap.size 9 i1 (.string ⟨#[]⟩) 1 16 Tryz.underlying23 hi1 hy0 hy1 hy2 rfl zak lv k (wC l k) rfl (own_ext hH.out.1 zaa) ⟨_,0,none⟩ 1 1 [.string t] rfl rfl ?c1 ?c2 ?c3 ?c4 ?c5 ?_)
    try case c1=>exact news_kc (KB.new _ _ _)
    case c2=>first | rfl | (intro u hu;simp at hu;subst hu;rfl)
    case c3=>unfold maxLen;omega
    case c4=>omega
    case c5=>have:=hH.out.2.size;simp;omega
    intro v' w7 hown hgrow _ _
    have HX7:Ext w w7:=Ext.grown (Ext.trans hH.out.2 zaa) hgrow (fun k hk=>by have:=hH.out.1.lt k (by rw[←hk]);omega)
    have H7:=Lib.hid (And.intro hown HX7);clear hown hgrow HX7;go_wp2_with fail;go_roundw
    case measure=>have:=HLT.out;simp[intOf];omega
    case rel=>exact⟨k+1,by go_num,by have:=HLT.out;omega,by rw[HSN.out];exact H7⟩
def RowF (B:Nat) (l:List ByteArray):Fact:=fun v W'=>∃ p cap,v=.slice p l.length cap∧W'.ownsRow B 9 1 v l.length (l.map Value.string)
theorem RowF.upc (B:Nat) (l:List ByteArray):Upc (RowF B l):=fun v W W' hx ⟨g,cap,h1,h2⟩=>⟨g,cap,h1,own_ext h2 hx⟩
theorem RowF.mk {C:Nat} (h:W.ownsRow C 9 1 v l.length (l.map Value.string)) (hb:B≤C):RowF B l v W:=by
 obtain⟨p,c,rfl⟩:=qae h
 exact⟨p,c,rfl,h.mono (base':=B) hb⟩
theorem RowF.move {C:Nat} {W':World} (h:RowF B l v W) (hc:C≤B) (hW:∀ k,B≤k→W'.heap[k]?=W.heap[k]?):RowF C l v W':=by
 obtain⟨p,c,hv,h1,h2⟩:=h
 refine ⟨p,c,hv,h1,?_⟩
 rcases h2 with h | ⟨g,cap,cur,e,hb,hg,r⟩
 · exact .inl h
 · exact .inr ⟨g,cap,cur,e,Nat.le_trans hc hb,(hW g hb).trans hg,r⟩
theorem want_load {g:Nat} {cs:Array Value} (h:KB g cs 25 w) (hc:cs.size=2):(loadVar 25 ⟨g,0,none⟩).run Tryz.prog w=.ok (.agg cs) w :=
 run_loadVar_row w g 25 25 cs (0,0) _ h Tryz.underlying25 rfl (by rw[hc];kernel_rfl)
theorem res_cellW {fn:Func} {p:Tmp} {ty:TypeId} (h:fn.results=#[.cell p ty]) (tmps:Array Value) (w:World) (a:Addr) (r:Value)
  (hp:tmps.getD p undef=.pointer (some a)) (hl:(loadVar ty a).run Tryz.prog w=.ok r w):(results fn tmps).run Tryz.prog w=.ok r w:=by
 have hp':tmps[p]?.getD undef=.pointer (some a):=by simpa using hp
 simp[results,h,hp',asAddr,hl]
theorem wants_any (a b:Value) (la lb:List ByteArray) (w:World) (ha:PatS w a la) (hb:PatS w b lb):Calls Tryz.prog 51 #[.agg #[a,b]] w fun e w'=>∃ a' b',e=.returned (.agg #[a',b'])∧RowF w.heap.size (fewW la) a' w'∧RowF w.heap.size (fewW lb) b' w'∧Ext w w':=by
 have PA:=Lib.hid (show ∀ W,Ext w W→w.heap.size+2≤W.heap.size→Calls Tryz.prog 70 #[a] W fun e w'=>∃ v',e=Ending.returned v'∧RowF (w.heap.size+2) (fewW la) v' w'∧Ext W w' from fun W hx hs=>(pat21_any a la W (ha.1.ext hx) ha.2.1 ha.2.2).mono fun e w' ⟨v',h1,h2,h3⟩=>⟨v',h1,RowF.mk h2 hs,h3⟩);have PB:=Lib.hid (show ∀ W,Ext w W→w.heap.size+2≤W.heap.size→Calls Tryz.prog 70 #[b] W fun e w'=>∃ v',e=Ending.returned v'∧RowF (w.heap.size+2) (fewW lb) v' w'∧Ext W w' from fun W hx hs=>(pat21_any b lb W (hb.1.ext hx) hb.2.1 hb.2.2).mono fun e w' ⟨v',h1,h2,h3⟩=>⟨v',h1,RowF.mk h2 hs,h3⟩)
 obtain⟨pa,ca,hva⟩:∃ p c,a=.slice p la.length c:=by obtain⟨p,c,h,-⟩:=qaE ha.1;exact⟨p,c,h⟩
 obtain⟨pb,cb,hvb⟩:∃ p c,b=.slice p lb.length c:=by obtain⟨p,c,h,-⟩:=qaE hb.1;exact⟨p,c,h⟩
 obtain⟨na,hna⟩:∃ n,la.length=n:=⟨_,rfl⟩
 obtain⟨nb,hnb⟩:∃ n,lb.length=n:=⟨_,rfl⟩
 rw[hna] at hva;rw[hnb] at hvb;subst hva hvb;clear ha hb hna hnb
 obtain⟨ra,hra⟩:∃ r,RowF (w.heap.size+2) (fewW la)=r:=⟨_,rfl⟩
 obtain⟨rb,hrb⟩:∃ r,RowF (w.heap.size+2) (fewW lb)=r:=⟨_,rfl⟩
 have UA:=Lib.hid (show Upc ra from hra ▸ RowF.upc _ _);have UB:=Lib.hid (show Upc rb from hrb ▸ RowF.upc _ _);have FA:=Lib.hid (show ∀ v W,ra v W→∃ p n c,v=.slice p n c from fun v W h=>by rw[←hra] at h;obtain⟨p,c,h1,-⟩:=h;exact⟨p,_,c,h1⟩);have FB:=Lib.hid (show ∀ v W,rb v W→∃ p n c,v=.slice p n c from fun v W h=>by rw[←hrb] at h;obtain⟨p,c,h1,-⟩:=h;exact⟨p,_,c,h1⟩);have MA:=Lib.hid (show ∀ v W W',ra v W→(∀ k,w.heap.size+2≤k→W'.heap[k]?=W.heap[k]?)→RowF w.heap.size (fewW la) v W' from fun v W W' h hW=>by rw[←hra] at h;exact h.move zac hW);have MB:=Lib.hid (show ∀ v W W',rb v W→(∀ k,w.heap.size+2≤k→W'.heap[k]?=W.heap[k]?)→RowF w.heap.size (fewW lb) v W' from fun v W W' h hW=>by rw[←hrb] at h;exact h.move zac hW)
 rw[hra] at PA;rw[hrb] at PB;clear hra hrb;go_enter Tryz.func51,Tryz.ntmps51;go_wp2_with fail;refine qaa 6 10 (List.replicate 6 false) zaf zaf rfl ?_;refine yac ?_
 iterate 2 (refine Lex.step rfl ?_;intro K hK;unfold StepG;go_simp;refine hK _ ?_;clear hK K)
 refine Lex.gap 5 ra rfl UA.out rfl (fun d os=>?_) ?_
 · unfold StepG
   go_simp
   exact(PA.out _ zaa zbf).mono fun e w' ⟨v',h1,h2,h3⟩=>⟨v',h1,h3,h2⟩
 iterate 2 (refine Lex.step rfl ?_;intro K hK;unfold StepG;go_simp;refine hK _ ?_;clear hK K)
 refine Lex.gap 8 rb rfl UB.out rfl (fun d os=>?_) ?_
 · unfold StepG
   go_simp
   exact(PB.out _ zaa zbf).mono fun e w' ⟨v',h1,h2,h3⟩=>⟨v',h1,h3,h2⟩
 refine Lex.nil fun WW hE=>?_
 intro u hu v hv
 obtain⟨pu,nu,cu,rfl⟩:=FB.out _ _ hu
 obtain⟨pv,nv,cv,rfl⟩:=FA.out _ _ hv
 obtain⟨dd,oo,rfl⟩:=hE
 have HU:=Lib.hid hu;have HV:=Lib.hid hv;clear hu hv;unfold FillH;go_wp2_with fail;rw[ends_normal];go_wp2_with fail
 have HK:=fun (A B C:Obj) k (hk:w.heap.size+2≤k)=>(show(more ((w.alloc A).alloc B) dd oo).heap[k]?=(more ((w.alloc A).alloc C) dd oo).heap[k]? from by
  show(((w.heap.push _).push _)++oo)[k]?=(((w.heap.push _).push _)++oo)[k]?
  rw[Array.getElem?_append_right zam,Array.getElem?_append_right zam]
  simp)
 exact bodyPost_ret (v:=.agg #[.slice pv nv cv,.slice pu nu cu]) (res_cellW rfl _ _ ⟨w.heap.size+1,0,none⟩ _ rfl (want_load (g:=w.heap.size+1) (cs:=#[.slice pv nv cv,.slice pu nu cu]) (by have:=(KB.new (w.alloc (.cells #[.slice pa na ca,.slice pb nb cb] 25)) #[.slice pv nv cv,.slice pu nu cu] 25).of_ext (Ext.more (Ext.refl _) dd oo);rw[World.size_alloc] at this;exact this) rfl)) rfl ⟨_,_,rfl,MA.out _ _ _ HV.out (HK _ _ _),MB.out _ _ _ HU.out (HK _ _ _),zaa⟩
end Go.Proofs.YtpnabjopfpdkhaaGreatDoor
