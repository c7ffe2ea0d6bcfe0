/- Lemmas. -/
import Derived.Test.YtpnabjopfpdkhaaGreatDoorA41
import Derived.Test.YtpnabjopfpdkhaaGreatDoorA48
import Derived.Deep.DeepCutAuto
import Derived.StillTailTactics
import Derived.Deep.CutBlock
set_option linter.unusedSimpArgs false
set_option linter.unusedVariables false
set_option maxHeartbeats 4000000
set_option maxRecDepth 20000
namespace Go.Proofs.YtpnabjopfpdkhaaGreatDoor
open Go.RowKit
attribute [go_sem] more_more Array.size_append
theorem qfJ (y:Tx) {w:World} (h:TxAt w y):∃ c u p1 m1 k1 p2 m2 k2 s g,txV y=.agg (txA c u (.slice p1 m1 k1) (.slice p2 m2 k2) s g)∧txL y=[.int .i64 c,.int .i64 u,.slice p1 m1 k1,.slice p2 m2 k2,.string s,.int .i64 g]∧y.c=c∧y.t=u:=by
 obtain⟨p1,m1,k1,p2,m2,k2,e1,e2⟩:=qbK h
 exact⟨_,_,p1,m1,k1,p2,m2,k2,_,_,by unfold txV txA;rw[e1,e2],by unfold txL;rw[e1,e2],rfl,rfl⟩
theorem rbatch_any (v:Value) (l:List Tx) (w:World) (h:TxIn w v l) (hl:l.length≤100000):Calls Tryz.prog 22 #[v] w fun e w'=>e=.returned (.bool (l.all okT&&decide (l.length≤64)))∧Ext w w':=by
 have HI:=Lib.hid h
 obtain⟨ht,p,cap,rfl,hcap,hmx,hr⟩:=h
 obtain⟨n,hn⟩:∃ n,l.length=n:=⟨_,rfl⟩
 obtain⟨q,hq⟩:∃ q,l.all okT=q:=⟨_,rfl⟩
 rw[hq,hn];rw[hn] at hcap hl;have HN:=Lib.hid hn;have HQ:=Lib.hid hq;have HR:=Lib.hid hr;have HT:=Lib.hid ht
 have hln:(n:Int)≤100000:=by omega
 clear hn hq hr ht;go_enter Tryz.func22,Tryz.ntmps22;go_wp2_with fail;go_loopw [3] (fun i wr=>∃ k:Nat,i=.int .i64 (k:Int)∧k≤n∧Hid ((l.take k).all okT=true)∧Hid (Ext w wr)) (fun i _=>n-(intOf i).toNat)
 case atStart=>exact⟨0,rfl,Nat.zero_le _,Lib.hid rfl,Lib.hid zaa⟩
 case round =>
  obtain⟨k,rfl,hk,hA,hH⟩:=hrel
  by_cases hlt:k<n
  case neg =>
   have hkn:n=k:=by omega
   subst hkn
   have hq2:q=true:=by rw[←HQ.out,←hA.out,List.take_of_length_le zap]
   subst hq2;clear hk hlt;go_wp2_with fail;go_ret
   exact⟨ret_bool (by simp only[Bool.true_and,decide_eq_decide];omega),hH.out.trans zaa⟩
  case pos =>
   obtain⟨y,hy⟩:∃ y,l[k]?=some y:=⟨_,List.getElem?_eq_getElem zap⟩
   have hym:=List.mem_of_getElem? hy
   obtain⟨yc,yt,y1,z1,l1,y2,z2,l2,ys,yg,hV,hL,-,-⟩:=qfJ y (HT.out y hym)
   have MY:=Lib.hid (fun W (hx:Ext w W)=>qfv y W ((HT.out y hym).ext hx));rw[hV] at MY;unfold txA at MY
   obtain⟨b,off,rfl,hc⟩:=HR.out k y hy
   rw[hL] at hc;have f0:=qad (hc 0 _ rfl) hH.out;have f1:=qad (hc 1 _ rfl) hH.out;have f2:=qad (hc 2 _ rfl) hH.out;have f3:=qad (hc 3 _ rfl) hH.out;have f4:=qad (hc 4 _ rfl) hH.out;have f5:=qad (hc 5 _ rfl) hH.out;simp only[Nat.add_zero] at f0;have hlb:=World.block_lt_of_cell? _ _ f0;have HLT:=Lib.hid hlt;have HY:=Lib.hid hy;clear hy hV hL hc
   cases ho:okT y with
   | false =>
    rw[ho] at MY
    have hq2:q=false:=by rw[←HQ.out,List.all_eq_false];exact⟨y,hym,by simp[ho]⟩
    subst hq2;clear ho hym
    go_wp2_with (go_at_call 33;(with_reducible refine (MY.out _ (hH.out.trans zaa)).mono ?_);rintro e' _ ⟨rfl,d1,os1,rfl⟩)
    go_ret
    exact⟨ret_bool zaj,hH.out.trans zaa⟩
   | true =>
    rw[ho] at MY
    have HA2:Hid ((l.take (k+1)).all okT=true):=Lib.hid (by rw[List.take_add_one,HY.out,Option.toList_some,List.all_append,hA.out];simp[ho])
    clear ho hym
    go_wp2_with (go_at_call 33;(with_reducible refine (MY.out _ (hH.out.trans zaa)).mono ?_);rintro e' _ ⟨rfl,d1,os1,rfl⟩)
    go_roundw
    case measure=>have:=HLT.out;simp[intOf];omega
    case rel=>exact⟨k+1,by go_num,by have:=HLT.out;omega,HA2,Lib.hid (hH.out.trans zaa)⟩
theorem qfy (v:Value) (l:List Tx) (w:World) (h:TxIn w v l) (hl:l.length≤100000):Calls Tryz.prog 13 #[v] w fun e w'=>e=.returned (.bool (qaT l))∧Ext w w':=by
 have HI:=Lib.hid h;have RB:=Lib.hid (fun W (hx:Ext w W)=>rbatch_any v l W (h.ext hx) hl)
 obtain⟨ht,p,cap,rfl,hcap,hmx,hr⟩:=h
 obtain⟨q,hq⟩:∃ q,qaT l=q:=⟨_,rfl⟩
 obtain⟨qb,hqb⟩:∃ q,(l.all okT&&decide (l.length≤64))=q:=⟨_,rfl⟩
 rw[hq];rw[hqb] at RB
 have HB:=Lib.hid (show(l.map Tx.c).Nodup→qb=q from fun hd=>by
  rw[←hqb,←hq,Bool.eq_iff_iff,qaZ,Bool.and_eq_true,List.all_eq_true,decide_eq_true_eq]
  exact⟨fun ⟨a,b⟩=>⟨hd,b,a⟩,fun ⟨_,b,a⟩=>⟨a,b⟩⟩)
 have HF:=Lib.hid (show(∃ (i j:Nat) (x y:Tx),i≠j∧l[i]?=some x∧l[j]?=some y∧x.c=y.c)→q=false from fun ⟨i,j,x,y,hne,hx,hy,hc⟩=>by
  rw[←hq]
  cases e:qaT l with
  | false=>rfl
  | true=>exact absurd (qfE ((qaZ l).1 e).1 hx hy hc) hne)
 obtain⟨n,hn⟩:∃ n,l.length=n:=⟨_,rfl⟩
 rw[hn] at RB hcap hl ⊢;have HN:=Lib.hid hn;have HR:=Lib.hid hr;have HT:=Lib.hid ht
 have hln:(n:Int)≤100000:=by omega
 clear hn hq hqb hr ht;go_enter Tryz.func13,Tryz.ntmps13;go_wp2_with fail;go_loopw [3,4] (fun i j wr=>∃ k:Nat,i=.int .i64 (k:Int)∧k≤n∧Hid (((l.take k).map Tx.c).Nodup)∧Hid (Ext w wr)) (fun i _ _=>n-(intOf i).toNat)
 case atStart=>exact⟨0,rfl,Nat.zero_le _,Lib.hid zaj,Lib.hid zaa⟩
 case round =>
  obtain⟨k,rfl,hk,hA,hH⟩:=hrel
  by_cases hlt:k<n
  case neg =>
   have hkn:n=k:=by omega
   subst hkn
   have hq2:qb=q:=HB.out (by have:=hA.out;rwa [List.take_of_length_le zap] at this)
   subst hq2;clear hk hlt
   go_wp2_with (go_at_call 22;(with_reducible refine (RB.out _ (hH.out.trans zaa)).mono ?_);rintro e' _ ⟨rfl,d1,os1,rfl⟩)
   go_ret
   exact⟨rfl,hH.out.trans zaa⟩
  case pos =>
   obtain⟨x,hx⟩:∃ x,l[k]?=some x:=⟨_,List.getElem?_eq_getElem zap⟩
   obtain⟨b,off,rfl,hc⟩:=HR.out k x hx
   have HC:=Lib.hid (hc 0 _ rfl)
   obtain⟨xc,hxc⟩:∃ c,x.c=c:=⟨_,rfl⟩
   have HX:=Lib.hid (And.intro hx hxc);rw[hxc] at HC;have HLT:=Lib.hid hlt;clear hx hxc hc;go_wp2_with fail;go_loopw [4] (fun j wv=>∃ m:Nat,j=.int .i64 (m:Int)∧m≤k∧Hid (∀ (a:Nat) (y:Tx),a<m→l[a]?=some y→y.c≠xc)∧Hid (Ext w wv)) (fun j _=>k-(intOf j).toNat)
   case atStart=>exact⟨0,rfl,Nat.zero_le _,Lib.hid (fun a y h=>by omega),Lib.hid (hH.out.trans zaa)⟩
   case round =>
    clear hH
    obtain⟨m,rfl,hmk,hD,hH⟩:=hrel
    by_cases hlm:m<k
    case pos =>
     obtain⟨y,hy⟩:∃ y,l[m]?=some y:=⟨_,List.getElem?_eq_getElem zap⟩
     obtain⟨b',off',e0,hc⟩:=HR.out m y hy
     simp only[Option.some.injEq,Addr.mk.injEq] at e0
     obtain⟨rfl,rfl,-⟩:=e0
     obtain⟨yc,hyc⟩:∃ c,y.c=c:=⟨_,rfl⟩
     have f0:=qad (hc 0 _ rfl) hH.out;have g0:=qad HC.out hH.out;rw[hyc] at f0;simp only[Nat.add_zero] at f0 g0;have hlb:=World.block_lt_of_cell? _ _ f0;have HLM:=Lib.hid hlm
     have hkn:k<n:=hlt
     have hmn:m<n:=by omega
     have HY:=Lib.hid (And.intro hy hyc);clear hy hyc hc
     by_cases hcc:yc=xc
     · have hb:(yc==xc)=true:=by simp[hcc]
       have hq2:q=false:=HF.out ⟨m,k,y,x,by omega,HY.out.1,HX.out.1,by rw[HY.out.2,HX.out.2,hcc]⟩
       subst hq2;clear hcc
       go_upto_region 7 with fail
       go_region
       go_wp2_with fail;go_ret
       exact⟨rfl,hH.out.trans zaa⟩
     · have hb:(yc==xc)=false:=by simpa using hcc
       have HD2:Hid (∀ (a:Nat) (y:Tx),a<m+1→l[a]?=some y→y.c≠xc):=Lib.hid (fun a z ha hz=>by
        by_cases h:a=m
        · subst h
          have:=HY.out.1
          rw[hz] at this
          cases this
          rw[HY.out.2];exact hcc
        · exact hD.out a z zac hz)
       clear hcc
       go_upto_region 7 with fail
       go_region
       go_wp2_with fail;go_roundw
       case measure=>have:=HLM.out;simp[intOf];omega
       case rel=>exact⟨m+1,by go_num,by have:=HLM.out;omega,HD2,Lib.hid (hH.out.trans zaa)⟩
    case neg =>
     have hmk2:k=m:=by omega
     subst hmk2
     have HA2:Hid (((l.take (k+1)).map Tx.c).Nodup):=Lib.hid (by
      rw[List.take_add_one,HX.out.1,Option.toList_some,List.map_append,List.nodup_append];refine ⟨hA.out,by simp,fun a ha c hc2 e=>?_⟩
      simp at hc2
      subst hc2 e
      obtain⟨y,hy,he⟩:=List.mem_map.1 ha
      obtain⟨j,hj⟩:=List.getElem?_of_mem hy
      rw[List.getElem?_take] at hj
      split at hj
      · rename_i hjk
        exact hD.out j y hjk hj (he.trans HX.out.2)
      · cases hj)
     clear hlm hmk;go_wp2_with fail;go_roundw
     case measure=>have:=HLT.out;simp[intOf];omega
     case rel=>exact⟨k+1,by go_num,by have:=HLT.out;omega,HA2,Lib.hid (hH.out.trans zaa)⟩
theorem qcK (v v':Value) (l:List Tx) (w:World) (h:TxIn w v l) (h':TxIn w v' l) (hs:∀ x∈l,TxSm x) (hl:l.length≤100000):Calls Tryz.prog 14 #[v,v'] w fun e w'=>e=.returned (.bool true)∧Ext w w':=by
 have HI:=Lib.hid (And.intro h h')
 obtain⟨ht,p,cap,rfl,hcap,-,hr⟩:=h
 obtain⟨ht',p',cap',rfl,hcap',-,hr'⟩:=h'
 obtain⟨n,hn⟩:∃ n,l.length=n:=⟨_,rfl⟩
 rw[hn] at hcap hcap' hl ⊢;have HN:=Lib.hid hn;have HR:=Lib.hid (And.intro hr hr');have HT:=Lib.hid (And.intro ht hs)
 have hln:(n:Int)≤100000:=by omega
 clear hn hr hr' ht ht' hs;go_enter Tryz.func14,Tryz.ntmps14;go_wp2_with fail;go_loopw [5] (fun i wr=>∃ k:Nat,i=.int .i64 (k:Int)∧k≤n∧Hid (Ext w wr)) (fun i _=>n-(intOf i).toNat)
 case atStart=>exact⟨0,rfl,Nat.zero_le _,Lib.hid zaa⟩
 case round =>
  obtain⟨k,rfl,hk,hH⟩:=hrel
  by_cases hlt:k<n
  case neg =>
   have hkn:n=k:=by omega
   subst hkn;clear hk hlt;go_wp2_with fail;go_ret
   exact⟨rfl,hH.out.trans zaa⟩
  case pos =>
   obtain⟨y,hy⟩:∃ y,l[k]?=some y:=⟨_,List.getElem?_eq_getElem zap⟩
   have hym:=List.mem_of_getElem? hy
   obtain⟨yc,yt,y1,z1,l1,y2,z2,l2,ys,yg,hV,hL,-,-⟩:=qfJ y (HT.out.1 y hym)
   have SM:=Lib.hid (fun W (hx:Ext w W)=>rsame22_any y y W ((HT.out.1 y hym).ext hx) ((HT.out.1 y hym).ext hx) (HT.out.2 y hym) (HT.out.2 y hym));rw[hV,sameX_self] at SM;unfold txA at SM
   obtain⟨b,off,rfl,hc⟩:=HR.out.1 k y hy
   obtain⟨b',off',rfl,hc'⟩:=HR.out.2 k y hy
   rw[hL] at hc hc';have f0:=qad (hc 0 _ rfl) hH.out;have f1:=qad (hc 1 _ rfl) hH.out;have f2:=qad (hc 2 _ rfl) hH.out;have f3:=qad (hc 3 _ rfl) hH.out;have f4:=qad (hc 4 _ rfl) hH.out;have f5:=qad (hc 5 _ rfl) hH.out;simp only[Nat.add_zero] at f0;have g0:=qad (hc' 0 _ rfl) hH.out;have g1:=qad (hc' 1 _ rfl) hH.out;have g2:=qad (hc' 2 _ rfl) hH.out;have g3:=qad (hc' 3 _ rfl) hH.out;have g4:=qad (hc' 4 _ rfl) hH.out;have g5:=qad (hc' 5 _ rfl) hH.out;simp only[Nat.add_zero] at g0;have hlb:=World.block_lt_of_cell? _ _ f0;have hlg:=World.block_lt_of_cell? _ _ g0;have HLT:=Lib.hid hlt;clear hy hV hL hc hc' hym
   go_upto_region 6 with fail
   go_still_tail 8,zaf
   go_wp2_with (go_at_call 16;(with_reducible refine (SM.out _ (hH.out.trans zaa)).mono ?_);rintro e' _ ⟨rfl,d2,os2,rfl⟩)
   go_roundw
   case measure=>have:=HLT.out;simp[intOf];omega
   case rel=>exact⟨k+1,by go_num,by have:=HLT.out;omega,Lib.hid (hH.out.trans zaa)⟩
theorem qfF (l:List Tx) (x:Tx):txC (l++[x])=txC l++txL x:=by rw[qfH];simp[txC]
theorem txin_take {w:World} {p:Option Addr} {n c m:Nat} {l:List Tx} (h:TxIn w (.slice p n c) l) (hm:m≤n):TxIn w (.slice p m c) (l.take m):=by
 obtain⟨ht,p',c',e,h1,h2,h3⟩:=h
 simp only[Value.slice.injEq] at e
 obtain⟨rfl,rfl,rfl⟩:=e
 refine ⟨fun x hx=>ht x (List.mem_of_mem_take hx),p,c,by rw[List.length_take,Nat.min_eq_left hm],by rw[List.length_take];omega,h2,fun j x hj=>?_⟩;rw[List.getElem?_take] at hj
 split at hj
 · exact h3 j x hj
 · cases hj
def putT (t:Tx) (x:Tx):Tx:=if x.c=t.c then t else x
def anyT (c:Int) (l:List Tx) (k:Nat):Bool:=(l.take k).any fun x=>x.c==c
theorem anyT_step {c:Int} {l:List Tx} {k:Nat} {x:Tx} (h:l[k]?=some x):anyT c l (k+1)=(anyT c l k||(x.c==c)):=by
 unfold anyT;rw[List.take_add_one,h,Option.toList_some,List.any_append]
 simp
theorem mapT_step {t:Tx} {l:List Tx} {k:Nat} {x:Tx} (h:l[k]?=some x):(l.take (k+1)).map (putT t)=(l.take k).map (putT t)++[putT t x]:=by
 rw[List.take_add_one,h,Option.toList_some,List.map_append]
 rfl
theorem addQ_at {q:List Tx} {t:Tx} {d:List La} (h1:qaT q=true) (h2:okT t=true) (h3:isL d=true) (h4:askE d t.c t.t=6) {k:Nat} {y:Tx} (hy:q[k]?=some y) (hc:y.c=t.c) :
  addQ q t d=if y.t=t.t then .error 16 else if t.t<y.t then .error 18 else .ok (q.map (putT t)):=by
 have hn:=((qaZ q).1 h1).1;have ho:=ofQ_of hn hy;rw[hc] at ho;unfold addQ;rw[if_neg (by simp[h1,h2,h3]),if_neg (by simp[h4]),ho];dsimp only;rw[hy];dsimp only
 have hs:q.set k t=q.map (putT t):=by
  apply List.ext_getElem?
  intro j;rw[List.getElem?_set,List.getElem?_map]
  split
  · rename_i e
    subst e;rw[hy]
    simp[putT,hc,(List.getElem?_eq_some_iff.1 hy).1]
  · rename_i e
    cases hj:q[j]? with
    | none=>rfl
    | some z =>
     have hz:z.c≠t.c:=fun e2=>e (qfE hn hy hj (hc.trans e2.symm))
     simp[putT,hz]
 rw[hs]
theorem addQ_not {q:List Tx} {t:Tx} {d:List La} (h1:qaT q=true) (h2:okT t=true) (h3:isL d=true) (h4:askE d t.c t.t=6) (hc:∀ y∈q,y.c≠t.c) :
  addQ q t d=if q.length=64 then .error 5 else .ok (q.map (putT t)++[t]):=by
 have ho:ofQ q t.c=none:=by
  unfold ofQ;rw[List.findIdx?_eq_none_iff];intro x hx
  simpa using hc x hx
 have hs:q.map (putT t)=q:=by
  conv=>rhs;rw[←List.map_id q]
  exact List.map_congr_left fun x hx=>by simp[putT,hc x hx]
 unfold addQ;rw[if_neg (by simp[h1,h2,h3]),if_neg (by simp[h4]),ho,hs]
def Add27Post (w:World) (r:Except Int (List Tx)) (e:Ending) (w':World):Prop:=match r with
 | .error c=>e=.returned (.tuple #[.slice none 0 0,.int .i64 c])∧Ext w w'
 | .ok x=>∃ v',e=.returned (.tuple #[v',.int .i64 0])∧TxIn w' v' x∧Ext w w'
theorem radd27_any (v:Value) (q:List Tx) (t:Tx) (dv:Value) (d:List La) (w:World) (h:TxIn w v q) (hl:q.length≤100000) (ht:TxAt w t) (hd:LaAt w dv d) (hdl:d.length≤100000) :
  Calls Tryz.prog 11 #[v,txV t,dv] w (Add27Post w (addQ q t d)):=by
 obtain⟨i0,hi,hz0,hz1,hz2⟩:=info_parts txInfo
 have QU:=Lib.hid (fun W (hx:Ext w W)=>qfy v q W (h.ext hx) hl);have MY:=Lib.hid (fun W (hx:Ext w W)=>qfv t W (ht.ext hx));have IS:=Lib.hid (fun W (hx:Ext w W)=>ris26_any dv d W (hd.ext hx) hdl);have AK:=Lib.hid (fun W (hx:Ext w W)=>rask_any dv d t.c t.t W (hd.ext hx) hdl)
 obtain⟨dp,dc,hdv⟩:∃ p c,dv=.slice p d.length c:=⟨_,_,hd.1.choose_spec.choose_spec.1⟩
 obtain⟨tc,tt,p1,m1,k1,p2,m2,k2,ts,tg,hV,hL,hec,het⟩:=qfJ t ht
 rw[hV] at MY ⊢;rw[hec,het] at AK;have HIN:=Lib.hid (And.intro h ht)
 obtain⟨r,hr0⟩:∃ r,addQ q t d=r:=⟨_,rfl⟩
 rw[hr0]
 obtain⟨n,hn⟩:∃ n,q.length=n:=⟨_,rfl⟩
 obtain⟨nd,hnd⟩:∃ n,d.length=n:=⟨_,rfl⟩
 obtain⟨ra,hra⟩:∃ r,rsC (askR d tc tt)=r:=⟨_,rfl⟩
 obtain⟨x1,x2,x3,x4,x5,hrf⟩:∃ a b c s e,ra=#[.int .i64 a,.int .i64 b,.int .i64 c,.string s,.int .i64 e]:=⟨_,_,_,_,_,hra.symm⟩
 rw[hra] at AK;subst hrf;rw[hnd] at hdv;subst hdv
 obtain⟨pp,cap,hv,hcap,hmx,hr⟩:=h.2
 subst hv;rw[hn] at hcap hl QU ⊢;have HN:=Lib.hid hn;have HR:=Lib.hid hr;have HL:=Lib.hid hL;have HE:=Lib.hid (And.intro hec het)
 have hln:(n:Int)≤100000:=by omega
 have HR0:=Lib.hid hr0;unfold txA at MY ⊢;clear hr hn hnd hra h ht hd hdl hV hL hec het
 by_cases hbad:qaT q=false∨okT t=false∨isL d=false
 · have hre:r=.error 1:=by rw[←hr0];unfold addQ;rw[if_pos hbad]
   subst hre
   obtain⟨b1,hb1⟩:∃ b,qaT q=b:=⟨_,rfl⟩
   obtain⟨b2,hb2⟩:∃ b,okT t=b:=⟨_,rfl⟩
   obtain⟨b3,hb3⟩:∃ b,isL d=b:=⟨_,rfl⟩
   rw[hb1] at QU hbad;rw[hb2] at MY hbad;rw[hb3] at IS hbad;clear hb1 hb2 hb3 hr0;go_enter Tryz.func11,Tryz.ntmps11
   go_wp2_with (first
    | (go_at_call 13;(with_reducible refine (QU.out _ zaa).mono ?_);rintro e' _ ⟨rfl,d1,os1,rfl⟩)
    | (go_at_call 33;(with_reducible refine (MY.out _ zaa).mono ?_);rintro e' _ ⟨rfl,d2,os2,rfl⟩)
    | (go_at_call 20;(with_reducible refine (IS.out _ zaa).mono ?_);rintro e' _ ⟨rfl,d3,os3,rfl⟩)
    | (go_at_call 34;(with_reducible refine (AK.out _ zaa).mono ?_);rintro e' _ ⟨rfl,d4,os4,rfl⟩))
   all_goals try(exfalso;simp_all;done)
   all_goals
    go_ret2
    exact⟨rfl,zaa⟩
 · obtain⟨hb1,hb2,hb3⟩:qaT q=true∧okT t=true∧isL d=true:=by simpa [not_or] using hbad
   rw[hb1] at QU;rw[hb2] at MY;rw[hb3] at IS
   by_cases h6:askE d tc tt=6
   rotate_left
   · have hre:r=.error 18:=by rw[←hr0];unfold addQ;rw[if_neg hbad,if_pos (by rw[HE.out.1,HE.out.2];exact h6)]
     subst hre
     obtain⟨ae,hae⟩:∃ a,askE d tc tt=a:=⟨_,rfl⟩
     rw[hae] at AK h6
     have hne:(ae !=6)=true:=by simpa using h6
     clear hbad hb1 hb2 hb3 hr0 hae h6;go_enter Tryz.func11,Tryz.ntmps11
     go_wp2_with (first
     | (go_at_call 13;(with_reducible refine (QU.out _ zaa).mono ?_);rintro e' _ ⟨rfl,d1,os1,rfl⟩)
     | (go_at_call 33;(with_reducible refine (MY.out _ zaa).mono ?_);rintro e' _ ⟨rfl,d2,os2,rfl⟩)
     | (go_at_call 20;(with_reducible refine (IS.out _ zaa).mono ?_);rintro e' _ ⟨rfl,d3,os3,rfl⟩)
     | (go_at_call 34;(with_reducible refine (AK.out _ zaa).mono ?_);rintro e' _ ⟨rfl,d4,os4,rfl⟩))
     go_ret2
     exact⟨rfl,zaa⟩
   have FE:=Lib.hid (fun k y (hy:q[k]?=some y) (hc:y.c=tc)=>(hr0.symm.trans (addQ_at hb1 hb2 hb3 (by rw[HE.out.1,HE.out.2];exact h6) hy (by rw[HE.out.1];exact hc)):r=_));have FO:=Lib.hid (fun (hc:∀ y∈q,y.c≠tc)=>(hr0.symm.trans (addQ_not hb1 hb2 hb3 (by rw[HE.out.1,HE.out.2];exact h6) (by rw[HE.out.1];exact hc)):r=_));rw[HE.out.2] at FE;rw[HN.out] at FO;rw[h6] at AK
   have hn64:n≤64:=by have:=((qaZ q).1 hb1).2.1;rw[HN.out] at this;exact this
   clear hbad hb1 hb2 hb3 hr0 h6
   obtain⟨wb,hwb⟩:∃ W,w.alloc (.cells #[.int .i64 tc,.int .i64 tt,.slice p1 m1 k1,.slice p2 m2 k2,.string ts,.int .i64 tg] 27)=W:=⟨_,rfl⟩
   have HWB:=Lib.hid hwb
   have KT:KB w.heap.size #[.int .i64 tc,.int .i64 tt,.slice p1 m1 k1,.slice p2 m2 k2,.string ts,.int .i64 tg] 27 wb:=by rw[←hwb];exact KB.new _ _ _
   have XB:Ext w wb:=by rw[←hwb];exact(Ext.refl w).alloc _
   have KH:=Lib.hid KT;have XH:=Lib.hid XB;clear hwb KT XB;go_enter Tryz.func11,Tryz.ntmps11
   go_wp2_with (first
    | (go_at_call 13;(with_reducible refine (QU.out _ zaa).mono ?_);rintro e' _ ⟨rfl,d1,os1,rfl⟩)
    | (go_at_call 33;(with_reducible refine (MY.out _ zaa).mono ?_);rintro e' _ ⟨rfl,d2,os2,rfl⟩)
    | (go_at_call 20;(with_reducible refine (IS.out _ zaa).mono ?_);rintro e' _ ⟨rfl,d3,os3,rfl⟩)
    | (go_at_call 34;(with_reducible refine (AK.out _ zaa).mono ?_);rintro e' _ ⟨rfl,d4,os4,rfl⟩))
   go_loopw [10,11,12,13] (fun lv th ii s13 wr=>∃ (k m:Nat) (cs:List Value),ii=.int .i64 (k:Int)∧k≤n∧m≤64∧th=.bool (anyT tc q k)∧Hid (((q.take k).map (putT t)).length=m∧txC ((q.take k).map (putT t))=cs)∧Hid (∀ (j:Nat) (y:Tx),j<k→q[j]?=some y→y.c=tc→y.t<tt)∧Hid (wr.ownsRow wb.heap.size 27 6 lv m cs∧Ext wb wr)) (fun _ _ ii _ _=>n-(intOf ii).toNat)
   case atStart=>exact⟨0,0,[],rfl,Nat.zero_le _,Nat.zero_le _,rfl,Lib.hid ⟨rfl,rfl⟩,Lib.hid (fun j y hj=>by omega),Lib.hid ⟨World.ownsRow_nil _ _ _ _,by rw[←HWB.out];exact zaa⟩⟩
   case round =>
    obtain⟨k,m,cs,rfl,hkm,hm64,rfl,hF,hP,hH⟩:=hrel
    obtain⟨lv,hlv⟩:∃ x,x=u10:=⟨_,rfl⟩
    subst hlv
    by_cases hlt:k<n
    case neg =>
     have hk:n=k:=by omega
     subst hk;clear hlt;rw[List.take_of_length_le zap] at hF
     have hmn:n=m:=by rw[←hF.out.1,List.length_map];exact HN.out.symm
     subst hmn
     obtain⟨th,hth⟩:∃ b,anyT tc q n=b:=⟨_,rfl⟩
     rw[hth]
     cases th with
     | true =>
      unfold anyT at hth;rw[List.take_of_length_le zap,List.any_eq_true] at hth
      obtain⟨y,hym,hyc⟩:=hth
      obtain⟨j,hj⟩:=List.getElem?_of_mem hym
      have hyc2:y.c=tc:=by simpa using hyc
      have hjl:j<n:=by have:=(List.getElem?_eq_some_iff.1 hj).1;have:=HN.out;omega
      have hlt2:=hP.out j y hjl hj hyc2
      have hre:r=.ok (q.map (putT t)):=by rw[FE.out j y hj hyc2,if_neg zac,if_neg zac]
      subst hre;clear hym hyc hj hyc2 hjl hlt2;go_wp2_with fail;go_ret2
      exact⟨_,rfl,⟨fun x hx=>by
       obtain⟨y,hy,rfl⟩:=List.mem_map.1 hx
       unfold putT
       split
       · exact HIN.out.2.ext (XH.out.trans hH.out.2)
       · exact(HIN.out.1.1 y hy).ext (XH.out.trans hH.out.2),RowIn.own qbU (by have:=hF.out;unfold txC at this;rw[←this.2,←this.1] at hH;exact hH.out.1)⟩,XH.out.trans hH.out.2⟩
     | false =>
      unfold anyT at hth;rw[List.take_of_length_le zap,List.any_eq_false] at hth;have hre:=FO.out (fun y hy=>by simpa using hth y hy);clear hth
      by_cases h64:n=64
      · rw[if_pos h64] at hre
        subst hre
        have h64i:(64:Int)≤(n:Int):=by omega
        clear h64;go_wp2_with fail;go_ret2
        exact⟨rfl,XH.out.trans hH.out.2⟩
      · rw[if_neg h64] at hre
        subst hre
        have h64i:¬ (64:Int)≤(n:Int):=by omega
        have g0:=(KH.out.of_ext hH.out.2).cell 0 _ rfl;have g1:=(KH.out.of_ext hH.out.2).cell 1 _ rfl;have g2:=(KH.out.of_ext hH.out.2).cell 2 _ rfl;have g3:=(KH.out.of_ext hH.out.2).cell 3 _ rfl;have g4:=(KH.out.of_ext hH.out.2).cell 4 _ rfl;have g5:=(KH.out.of_ext hH.out.2).cell 5 _ rfl;have hlg:=World.block_lt_of_cell? _ _ g0;clear h64
        go_wp2_with (at_builtin;refine wpList_append_own_at _ rfl _ _ 22 rfl wb.heap.size 27 i0 (.agg #[.int .i64 0,.int .i64 0,.slice none 0 0,.slice none 0 0,.string ⟨#[]⟩,.int .i64 0]) 6 88 Tryz.underlying22 hi hz0 hz1 hz2 rfl zak lv n cs rfl ?c0 ⟨_,0,none⟩ 1 1 [.int .i64 tc,.int .i64 tt,.slice p1 m1 k1,.slice p2 m2 k2,.string ts,.int .i64 tg] rfl rfl ?c1 ?c2 ?c3 ?c4 ?c5 ?_)
        case c0=>exact own_ext hH.out.1 zaa
        try case c1=>exact qcR (KB.newAt _ _ _ (by simp[more_size];try omega))
        case c2=>first | exact⟨rfl,rfl,rfl,rfl,rfl,rfl⟩ | (intro u hu;simp at hu;rcases hu with rfl | rfl | rfl | rfl | rfl | rfl<;>rfl)
        case c3=>unfold maxLen;omega
        case c4=>omega
        case c5=>first | exact Ext.size (Ext.trans hH.out.2 zaa) | (have:=hH.out.2.size;simp;omega)
        intro v' w7 hown hgrow _ _
        have HX7:Ext wb w7:=Ext.grown (Ext.trans hH.out.2 zaa) hgrow (fun k hk=>by have:=hH.out.1.lt k (by rw[←hk]);omega)
        have H7:=Lib.hid (And.intro hown HX7);clear hown hgrow HX7;go_wp2_with fail;go_ret2
        exact⟨_,rfl,⟨fun x hx=>by
         rcases List.mem_append.1 hx with hx | hx
         · obtain⟨y,hy,rfl⟩:=List.mem_map.1 hx
           unfold putT
           split
           · exact HIN.out.2.ext (XH.out.trans H7.out.2)
           · exact(HIN.out.1.1 y hy).ext (XH.out.trans H7.out.2)
         · simp at hx
           subst hx
           exact HIN.out.2.ext (XH.out.trans H7.out.2),RowIn.own qbU (by
           have:=hF.out
           have h7:=H7.out.1;rw[List.length_append,this.1,show List.flatMap txL (List.map (putT t) q++[t])=cs++txL t from by rw[←this.2];exact qfF _ _,HL.out]
           exact h7)⟩,XH.out.trans H7.out.2⟩
    case pos =>
     obtain⟨y,hy⟩:∃ y,q[k]?=some y:=⟨_,List.getElem?_eq_getElem zap⟩
     have hym:=List.mem_of_getElem? hy
     obtain⟨yc,yt,y1,z1,l1,y2,z2,l2,ys,yg,hYV,hYL,hyc,hyt⟩:=qfJ y (HIN.out.1.1 y hym)
     have HY:=Lib.hid (And.intro hy (And.intro hyc hyt));have HMS:=Lib.hid (mapT_step (t:=t) hy);have HAS:=Lib.hid (anyT_step (c:=tc) hy);have HYL:=Lib.hid hYL;rw[hyc] at HAS
     have HM:Hid (m=k):=Lib.hid (by rw[←hF.out.1,List.length_map,List.length_take];have:=HN.out;omega)
     have hm64':m<64:=by have:=HM.out;omega
     obtain⟨b,off,rfl,hc⟩:=HR.out k y hy
     rw[hYL] at hc;have f0:=qad (hc 0 _ rfl) (XH.out.trans hH.out.2);have f1:=qad (hc 1 _ rfl) (XH.out.trans hH.out.2);have f2:=qad (hc 2 _ rfl) (XH.out.trans hH.out.2);have f3:=qad (hc 3 _ rfl) (XH.out.trans hH.out.2);have f4:=qad (hc 4 _ rfl) (XH.out.trans hH.out.2);have f5:=qad (hc 5 _ rfl) (XH.out.trans hH.out.2);simp only[Nat.add_zero] at f0;have hlb:=World.block_lt_of_cell? _ _ f0;have g0:=(KH.out.of_ext hH.out.2).cell 0 _ rfl;have g1:=(KH.out.of_ext hH.out.2).cell 1 _ rfl;have g2:=(KH.out.of_ext hH.out.2).cell 2 _ rfl;have g3:=(KH.out.of_ext hH.out.2).cell 3 _ rfl;have g4:=(KH.out.of_ext hH.out.2).cell 4 _ rfl
     have g5:=(KH.out.of_ext hH.out.2).cell 5 _ rfl;have hlg:=World.block_lt_of_cell? _ _ g0;have HLT:=Lib.hid hlt
     obtain⟨th,hth⟩:∃ b,anyT tc q k=b:=⟨_,rfl⟩
     rw[hth] at HAS ⊢;clear hy hym hYV hYL hyc hyt hc hth
     by_cases hcc:yc=tc
     · have hFE:=FE.out k y HY.out.1 (HY.out.2.1.trans hcc)
       rw[HY.out.2.2] at hFE
       have hb:(yc==tc)=true:=by simp[hcc]
       by_cases h16:yt=tt
       · rw[if_pos h16] at hFE
         subst hFE
         have hb2:(yt==tt)=true:=by simp[h16]
         clear hcc h16;go_wp2_with fail;go_ret2
         exact⟨rfl,XH.out.trans (hH.out.2.trans zaa)⟩
       rw[if_neg h16] at hFE
       have hb2:(yt==tt)=false:=by simpa using h16
       by_cases h18:tt<yt
       · rw[if_pos h18] at hFE
         subst hFE;clear hcc h16;go_wp2_with fail;go_ret2
         exact⟨rfl,XH.out.trans (hH.out.2.trans zaa)⟩
       have HP2:Hid (∀ (j:Nat) (z:Tx),j<k+1→q[j]?=some z→z.c=tc→z.t<tt):=Lib.hid (fun j z hj hz hzc=>by
        by_cases e:j=k
        · subst e
          have:=HY.out.1
          rw[hz] at this
          cases this
          rw[HY.out.2.2];omega
        · exact hP.out j z zac hz hzc)
       have HAN:Hid (anyT tc q (k+1)=true):=Lib.hid (by rw[HAS.out,hb,Bool.or_true])
       have HF2:Hid (((q.take (k+1)).map (putT t)).length=m+1∧txC ((q.take (k+1)).map (putT t))=cs++[.int .i64 tc,.int .i64 tt,.slice p1 m1 k1,.slice p2 m2 k2,.string ts,.int .i64 tg]):=Lib.hid (by
        have e:putT t y=t:=by unfold putT;rw[if_pos (by rw[HY.out.2.1,hcc,HE.out.1])]
        rw[HMS.out,e,qfF,HL.out,hF.out.2,List.length_append,hF.out.1]
        exact⟨rfl,rfl⟩)
       clear hcc h16 hFE
       go_wp2_with (at_builtin;refine wpList_append_own_at _ rfl _ _ 22 rfl wb.heap.size 27 i0 (.agg #[.int .i64 0,.int .i64 0,.slice none 0 0,.slice none 0 0,.string ⟨#[]⟩,.int .i64 0]) 6 88 Tryz.underlying22 hi hz0 hz1 hz2 rfl zak lv m cs rfl ?d0 ⟨_,0,none⟩ 1 1 [.int .i64 tc,.int .i64 tt,.slice p1 m1 k1,.slice p2 m2 k2,.string ts,.int .i64 tg] rfl rfl ?d1 ?d2 ?d3 ?d4 ?d5 ?_)
       all_goals try(exfalso;omega)
       case d0=>exact own_ext hH.out.1 zaa
       try case d1=>exact qcR (KB.newAt _ _ _ (by simp[more_size];try omega))
       case d2=>first | exact⟨rfl,rfl,rfl,rfl,rfl,rfl⟩ | (intro u hu;simp at hu;rcases hu with rfl | rfl | rfl | rfl | rfl | rfl<;>rfl)
       case d3=>unfold maxLen;omega
       case d4=>omega
       case d5=>first | exact Ext.size (Ext.trans hH.out.2 zaa) | (have:=hH.out.2.size;simp;omega)
       intro v' w7 hown hgrow _ _
       have HX7:Ext wb w7:=Ext.grown (Ext.trans hH.out.2 zaa) hgrow (fun k hk=>by have:=hH.out.1.lt k (by rw[←hk]);omega)
       have H7:=Lib.hid (And.intro hown HX7);clear hown hgrow HX7;go_wp2_with fail;go_roundw
       case measure=>have:=HLT.out;simp[intOf];omega
       case rel=>exact⟨k+1,m+1,_,by go_num,by have:=HLT.out;omega,by have:=HM.out;omega,by rw[HAN.out],HF2,HP2,H7⟩
     · have hb:(yc==tc)=false:=by simpa using hcc
       have HP2:Hid (∀ (j:Nat) (z:Tx),j<k+1→q[j]?=some z→z.c=tc→z.t<tt):=Lib.hid (fun j z hj hz hzc=>by
        by_cases e:j=k
        · subst e
          have:=HY.out.1
          rw[hz] at this
          cases this
          exact absurd (HY.out.2.1.symm.trans hzc) hcc
        · exact hP.out j z zac hz hzc)
       have HAN:Hid (anyT tc q (k+1)=th):=Lib.hid (by rw[HAS.out,hb,Bool.or_false])
       have HF2:Hid (((q.take (k+1)).map (putT t)).length=m+1∧txC ((q.take (k+1)).map (putT t))=cs++[.int .i64 yc,.int .i64 yt,.slice y1 z1 l1,.slice y2 z2 l2,.string ys,.int .i64 yg]):=Lib.hid (by
        have e:putT t y=y:=by unfold putT;rw[if_neg (by rw[HY.out.2.1,HE.out.1];exact hcc)]
        rw[HMS.out,e,qfF,HYL.out,hF.out.2,List.length_append,hF.out.1]
        exact⟨rfl,rfl⟩)
       clear hcc
       go_wp2_with (at_builtin;refine wpList_append_own_at _ rfl _ _ 22 rfl wb.heap.size 27 i0 (.agg #[.int .i64 0,.int .i64 0,.slice none 0 0,.slice none 0 0,.string ⟨#[]⟩,.int .i64 0]) 6 88 Tryz.underlying22 hi hz0 hz1 hz2 rfl zak lv m cs rfl ?e0 ⟨_,0,none⟩ 1 1 [.int .i64 yc,.int .i64 yt,.slice y1 z1 l1,.slice y2 z2 l2,.string ys,.int .i64 yg] rfl rfl ?e1 ?e2 ?e3 ?e4 ?e5 ?_)
       all_goals try(exfalso;omega)
       case e0=>exact own_ext hH.out.1 zaa
       try case e1=>exact qcR (KB.newAt _ _ _ (by simp[more_size];try omega))
       case e2=>first | exact⟨rfl,rfl,rfl,rfl,rfl,rfl⟩ | (intro u hu;simp at hu;rcases hu with rfl | rfl | rfl | rfl | rfl | rfl<;>rfl)
       case e3=>unfold maxLen;omega
       case e4=>omega
       case e5=>first | exact Ext.size (Ext.trans hH.out.2 zaa) | (have:=hH.out.2.size;simp;omega)
       intro v' w7 hown hgrow _ _
       have HX7:Ext wb w7:=Ext.grown (Ext.trans hH.out.2 zaa) hgrow (fun k hk=>by have:=hH.out.1.lt k (by rw[←hk]);omega)
       have H7:=Lib.hid (And.intro hown HX7);clear hown hgrow HX7;go_wp2_with fail;go_roundw
       case measure=>have:=HLT.out;simp[intOf];omega
       case rel=>exact⟨k+1,m+1,_,by go_num,by have:=HLT.out;omega,by have:=HM.out;omega,by rw[HAN.out],HF2,HP2,H7⟩
def tx7:Tx:=⟨-7,0,.slice none 0 0,.slice none 0 0,⟨#[]⟩,0,[],[]⟩
theorem tx7_at (w:World):TxAt w tx7:=⟨⟨strs_nil w,by simp[tx7],by simp[tx7]⟩,⟨strs_nil w,by simp[tx7],by simp[tx7]⟩,(Nat.zero_le _:(0:Nat)≤_),(by unfold In64I;omega:In64I (-7)),(by unfold In64I;omega:In64I 0),(by unfold In64I;omega:In64I 0)⟩
def PX (x:List Tx):Fact:=fun v W=>∃ v',v=.tuple #[v',.int .i64 0]∧TxIn W v' x
def PY (x:List Tx):Fact:=fun v W=>TxIn W v x
theorem PX.upc (x:List Tx):Upc (PX x):=fun v W W' hx ⟨v',h1,h2⟩=>⟨v',h1,h2.ext hx⟩
theorem PY.upc (x:List Tx):Upc (PY x):=fun v W W' hx h=>h.ext hx
theorem addQ_mem {q x:List Tx} {t:Tx} {d:List La} (h:addQ q t d=.ok x):(∀ y∈x,y∈q∨y=t)∧x.length≤64:=by
 obtain⟨h1,h2,h3,h4,h5,i,hi,h6,-⟩:=addQ_ok h
 refine ⟨fun y hy=>?_,((qaZ x).1 h5).2.1⟩
 obtain⟨j,hj⟩:=List.getElem?_of_mem hy
 by_cases hji:j=i
 · subst hji
   rw[hi] at hj
   cases hj
   exact .inr rfl
 · exact .inl (List.mem_of_getElem? (h6 j y hji hj).2)
theorem adds_walk (qv:Value) (q:List Tx) (t:Tx) (dv:Value) (d:List La) (B:Nat) (w:World) (hS:SignsAt B w) (hB:B≤w.heap.size) (hq:TxIn w qv q) (hql:q.length≤140737488351232) (ht:TxAt w t) (hd:LaAt w dv d) (hdl:d.length≤140737488351232) (hdz:∀ x∈d,x.vs.size≤140737488351232) :
  Calls Tryz.prog 3 #[qv,txV t,dv] w fun e w'=>e=.returned (.bool true)∧Ext w w':=by
 obtain⟨b1,hb1⟩:∃ b,w.heap.size+1=b:=⟨_,rfl⟩
 have FQ:=Lib.hid (fun W (hx:Ext w W) (hb:w.heap.size+1≤W.heap.size)=>pq_any qv q b1 W (hq.ext hx) hql (hb1 ▸ hb));have FT:=Lib.hid (fun W (hx:Ext w W) (hb:w.heap.size+1≤W.heap.size)=>pt_any t b1 W (ht.ext hx) (hb1 ▸ hb));have FD:=Lib.hid (fun W (hx:Ext w W) (hb:w.heap.size+1≤W.heap.size)=>pd_any dv d b1 W (hd.ext hx) hdl hdz (hb1 ▸ hb));have SG:=Lib.hid (fun W (hx:Ext w W)=>(⟨hS.ext hx hB,Nat.le_trans hB hx.size⟩:SignsAt B W∧B≤W.heap.size));have AW:=Lib.hid (fun W (hx:Ext w W)=>awake27_any B W (SG.out W hx).1 (SG.out W hx).2)
 obtain⟨rq,hrq⟩:∃ r,PQ b1=r:=⟨_,rfl⟩
 obtain⟨rt,hrt⟩:∃ r,PT b1 t=r:=⟨_,rfl⟩
 obtain⟨rd,hrd⟩:∃ r,PD b1=r:=⟨_,rfl⟩
 have UQ:=Lib.hid (show Upc rq from hrq ▸ PQ.upc _);have UT:=Lib.hid (show Upc rt from hrt ▸ PT.upc _ _);have UD:=Lib.hid (show Upc rd from hrd ▸ PD.upc _);have HF:=Lib.hid (And.intro hrq (And.intro hrt (And.intro hrd hb1)));rw[hrq] at FQ;rw[hrt] at FT;rw[hrd] at FD
 obtain⟨tc,tt,p1,m1,k1,p2,m2,k2,ts,tg,-,-,hV⟩:=tx_cells t ht
 rw[hV] at FT ⊢
 obtain⟨vp,vc,hv⟩:∃ p c,qv=.slice p q.length c:=⟨_,_,hq.2.choose_spec.choose_spec.1⟩
 obtain⟨dp,dc,hdv⟩:∃ p c,dv=.slice p d.length c:=⟨_,_,hd.1.choose_spec.choose_spec.1⟩
 obtain⟨n0,hn0⟩:∃ n,q.length=n:=⟨_,rfl⟩
 obtain⟨n1,hn1⟩:∃ n,d.length=n:=⟨_,rfl⟩
 rw[hn0] at hv;rw[hn1] at hdv;subst hv hdv;clear hV hn0 hn1 hq hd ht hS hB hql hdl hdz hrq hrt hrd hb1;unfold txA at FT ⊢;go_enter Tryz.func3,Tryz.ntmps3
 go_upto_region 1 with fail
 refine qaa 6 76 (List.replicate 6 false) zaf zaf rfl ?_;refine yac ?_
 (refine Lex.step rfl ?_;intro K hK;unfold StepG;go_simp;refine hK _ ?_;clear hK K)
 refine Lex.gap 13 rq rfl UQ.out rfl (fun d os=>?_) ?_
 · unfold StepG
   go_simp;exact FQ.out _ zaa zbf
 (refine Lex.step rfl ?_;intro K hK;unfold StepG;go_simp;refine hK _ ?_;clear hK K)
 refine Lex.gap 15 rt rfl UT.out rfl (fun d os=>?_) ?_
 · unfold StepG
   go_simp;exact FT.out _ zaa zbf
 (refine Lex.step rfl ?_;intro K hK;unfold StepG;go_simp;refine hK _ ?_;clear hK K)
 refine Lex.gap 17 rd rfl UD.out rfl (fun d os=>?_) ?_
 · unfold StepG
   go_simp;exact FD.out _ zaa zbf
 refine Lex.nil fun WW hE=>?_
 intro vd hvd vt hvt vq hvq
 obtain⟨e1,e2,e3,e4⟩:=HF.out
 subst e1 e2 e3
 obtain⟨dd,oo,rfl⟩:=hE
 obtain⟨tc',tt',q1,n1,l1,q2,n2,l2,ts',tg',rfl⟩:=PT.form hvt
 have HVQ:=Lib.hid hvq;have HVD:=Lib.hid hvd;have HVT:=Lib.hid hvt;have TB1:=Lib.hid (TB.kb ((KB.new w #[.int .i64 tc,.int .i64 tt,.slice p1 m1 k1,.slice p2 m2 k2,.string ts,.int .i64 tg] 27).of_ext (Ext.more (Ext.refl _) dd oo)));clear hvd hvq hvt;unfold FillH
 go_upto_region 2 with (refine wpList_store_rowTo rfl 27 _ _ rfl rfl w.heap.size (txA tc' tt' (.slice q1 n1 l1) (.slice q2 n2 l2) ts' tg') rfl rfl 27 #[.int .i64 tc,.int .i64 tt,.slice p1 m1 k1,.slice p2 m2 k2,.string ts,.int .i64 tg] TB1.out zaf rfl (txA_one tc' tt' _ _ ts' tg' rfl rfl) ?_)
 generalize hW2:World.setRow _ _ _=W2
 have HO:∀ k,b1≤k→W2.heap[k]?=(more (w.alloc (.cells #[.int .i64 tc,.int .i64 tt,.slice p1 m1 k1,.slice p2 m2 k2,.string ts,.int .i64 tg] 27)) dd oo).heap[k]?:=fun k hk=>by rw[←hW2];exact setRow_other _ _ _ _ zac
 have X2:Ext w W2:=by rw[←hW2];exact Ext.setRow zaa (Nat.le_refl _) _
 have T2:TB W2 w.heap.size (txA tc' tt' (.slice q1 n1 l1) (.slice q2 n2 l2) ts' tg'):=by rw[←hW2];exact TB.set TB1.out
 obtain⟨t',et,hTA,hTS⟩:=(HVT.out.move HO).inn
 obtain⟨q',qp,qc,rfl,hQI,hQL,hQS⟩:=(HVQ.out.move HO).inn
 obtain⟨d',dp',dc',rfl,hDI,hDL⟩:=(HVD.out.move HO).inn
 have ec:t'.c=tc'∧t'.t=tt':=by unfold txA txV at et;simp at et;exact⟨et.1.symm,et.2.1.symm⟩
 clear hW2 HO TB1 HVT HVQ HVD
 have b0:W2.cell? ⟨w.heap.size,0,none⟩=some (.int .i64 tc'):=T2.cell 0
 have b1:W2.cell? ⟨w.heap.size,1,none⟩=some (.int .i64 tt'):=T2.cell 1
 have b2:W2.cell? ⟨w.heap.size,2,none⟩=some (.slice q1 n1 l1):=T2.cell 2
 have b3:W2.cell? ⟨w.heap.size,3,none⟩=some (.slice q2 n2 l2):=T2.cell 3
 have b4:W2.cell? ⟨w.heap.size,4,none⟩=some (.string ts'):=T2.cell 4
 have b5:W2.cell? ⟨w.heap.size,5,none⟩=some (.int .i64 tg'):=T2.cell 5
 have hw2:=World.block_lt_of_cell? _ _ b0;have HSRC:=Lib.hid (fun W (hx:Ext W2 W)=>src_tx (hQI.ext hx));have QU:=Lib.hid (fun W (hx:Ext W2 W)=>qfy _ q' W (hQI.ext hx) zac);have BC:=Lib.hid (fun W (hx:Ext W2 W)=>qdu _ q' B W (SG.out W (X2.trans hx)).1 (SG.out W (X2.trans hx)).2 (hQI.ext hx) zac);have SQ:=Lib.hid (fun W v (hx:Ext W2 W) (h:TxIn W v q')=>qcK v _ q' W h (hQI.ext hx) hQS zac);have AD:=Lib.hid (fun W v (hx:Ext W2 W) (h:TxIn W v q')=>qee v q' t' (.slice dp' d'.length dc') d' B W (SG.out W (X2.trans hx)).1 (SG.out W (X2.trans hx)).2 h zac (hTA.ext hx) (hDI.ext hx) zac);have RA:=Lib.hid (fun W (hx:Ext W2 W)=>radd27_any (.slice qp q'.length qc) q' t' (.slice dp' d'.length dc') d' W (hQI.ext hx) zac (hTA.ext hx) (hDI.ext hx) zac)
 have XH2:=Lib.hid X2
 obtain⟨r,hr⟩:∃ r,addQ q' t' d'=r:=⟨_,rfl⟩
 rw[hr,←et] at AD RA;unfold txA at AD RA
 obtain⟨n,hn⟩:∃ n,q'.length=n:=⟨_,rfl⟩
 obtain⟨n2,hn2⟩:∃ n,d'.length=n:=⟨_,rfl⟩
 have HN:=Lib.hid hn;rw[hn] at HSRC QU BC SQ RA hQL hQI ⊢;rw[hn2] at AD RA ⊢
 obtain⟨qb,hqb⟩:∃ b,qaT q'=b:=⟨_,rfl⟩
 rw[hqb] at QU BC;have HH:=Lib.hid (And.intro hQI (And.intro hQS hTS));have HRR:=Lib.hid hr;have HT2:=Lib.hid T2
 obtain⟨i0,hi,hz0,hz1,hz2⟩:=info_parts txInfo
 clear hr et ec hTA hTS hQI hQS hDI T2 X2 hn hn2 hqb
 go_upto_region 3 with (first
  | (at_builtin;refine qah _ rfl _ _ 22 22 rfl W2.heap.size 27 i0 (.agg #[.int .i64 0,.int .i64 0,.slice none 0 0,.slice none 0 0,.string ⟨#[]⟩,.int .i64 0]) 6 88 Tryz.underlying22 hi hz0 hz1 hz2 rfl zak _ 0 _ rfl (World.ownsRow_made W2 #[] 0 (Nat.le_refl _) (Nat.zero_le _) rfl) _ n _ rfl (HSRC.out _ ((Ext.refl _).alloc _)) ?c3 ?c4 ?c5 ?_))
 try case c3=>unfold maxLen;omega
 try case c4=>omega
 try case c5=>simp
 intro v3 w3 hown hgrow _;have HX3:=Lib.hid (Ext.grown ((Ext.refl W2).alloc _) hgrow (fun k hk=>by simp[Value.ownBlock] at hk;omega));have R3:=Lib.hid (show w3.ownsRow W2.heap.size 27 6 v3 n (txC q') from by simpa [txC] using hown);clear hown hgrow
 go_upto_region 3 with (at_builtin;refine wpList_append_own_at _ rfl _ _ 22 rfl W2.heap.size 27 i0 (.agg #[.int .i64 0,.int .i64 0,.slice none 0 0,.slice none 0 0,.string ⟨#[]⟩,.int .i64 0]) 6 88 Tryz.underlying22 hi hz0 hz1 hz2 rfl zak v3 n (txC q') rfl ?d0 ⟨_,0,none⟩ 1 1 [.int .i64 (-7),.int .i64 0,.slice none 0 0,.slice none 0 0,.string ⟨#[]⟩,.int .i64 0] rfl rfl ?d1 ?d2 ?d3 ?d4 ?d5 ?_)
 try case d0=>exact own_ext R3.out zaa
 try case d1=>exact qcR (KB.newAt _ _ _ (by simp[more_size];try omega))
 try case d2=>first | exact⟨rfl,rfl,rfl,rfl,rfl,rfl⟩ | (intro u hu;simp at hu;rcases hu with rfl | rfl | rfl | rfl | rfl | rfl<;>rfl)
 try case d3=>unfold maxLen;omega
 try case d4=>omega
 try case d5=>exact Ext.size (Ext.trans HX3.out zaa)
 intro v4 w4 hown hgrow _ _
 have HX4:Hid (Ext W2 w4):=Lib.hid (Ext.grown (Ext.trans HX3.out zaa) hgrow (fun k hk=>by have:=R3.out.lt k (by rw[←hk]);omega))
 obtain⟨g4,c4,hv4⟩:∃ g c,v4=.slice (some ⟨g,0,none⟩) (n+1) c:=by
  obtain⟨g,c,h,_⟩:=hown.form zac
  exact⟨g,c,h⟩
 subst hv4
 have RF:TxIn w4 (.slice (some ⟨g4,0,none⟩) (n+1) c4) (q'++[tx7]):=⟨fun x hx=>by
  rcases List.mem_append.1 hx with hx | hx
  · exact(HH.out.1.1 x hx).ext HX4.out
  · simp at hx
    subst hx
    exact tx7_at w4,RowIn.own qbU (by
    rw[List.length_append,HN.out,List.flatMap_append]
    exact hown)⟩
 have R4:Hid (TxIn w4 (.slice (some ⟨g4,0,none⟩) n c4) q'):=Lib.hid (by
  have:=txin_take RF (Nat.le_succ n)
  rwa [List.take_left' HN.out] at this)
 have hc4:n+1≤c4:=by
  obtain⟨_,p',c',e,h1,_⟩:=RF
  simp only[Value.slice.injEq] at e
  obtain⟨_,e1,e2⟩:=e
  omega
 have c7:w4.cell? ⟨g4,n*6,none⟩=some (.int .i64 (-7)):=by
  obtain⟨_,p',c',e,_,_,hr⟩:=RF
  simp only[Value.slice.injEq] at e
  obtain⟨b,off,e2,hc⟩:=hr n tx7 (by rw[List.getElem?_append_right zap,HN.out];simp)
  rw[←e.1] at e2;simp only[Option.some.injEq,Addr.mk.injEq] at e2
  obtain⟨rfl,rfl,-⟩:=e2
  have:=hc 0 _ rfl
  rwa [Nat.zero_add,Nat.add_zero] at this
 have hl7:=World.block_lt_of_cell? _ _ c7;have b0:=qad (HT2.out.cell 0) HX4.out;have b1:=qad (HT2.out.cell 1) HX4.out;have b2:=qad (HT2.out.cell 2) HX4.out;have b3:=qad (HT2.out.cell 3) HX4.out;have b4:=qad (HT2.out.cell 4) HX4.out;have b5:=qad (HT2.out.cell 5) HX4.out;simp only[txA] at b0 b1 b2 b3 b4 b5;have hlb:=World.block_lt_of_cell? _ _ b0
 have hni:(n:Int)≤66:=by omega
 have hci:(n:Int)≤(c4:Int):=by omega
 clear RF hown hgrow hw2 HX3 R3
 go_upto_region 3 with fail
 cases r with
 | error c =>
  have SX:=Lib.hid (fun W (_ _:True)=>qcK (.slice none 0 0) (.slice none 0 0) [] W (qdZ W) (qdZ W) (fun x hx=>by simp at hx) zaj);refine qaa 10 76 [false,false,false,false,false,false,false,false,false,true] zaf zaf rfl ?_;refine yac ?_
  repeat(first
   | (refine Lex.step rfl ?_;intro K hK;unfold StepG;go_simp;refine hK _ ?_;clear hK K)
   | (refine Lex.step rfl ?_;intro K hK;unfold StepG;go_simp;(with_reducible refine ⟨_,fun d os=>(ret1 (AD.out _ _ (HX4.out.trans zaa) (R4.out.ext zaa))),?_⟩);go_simp;refine hK _ ?_;clear hK K)
   | (refine Lex.stepP rfl rfl ?_;intro K hK;go_simp;refine hK _ ?_;clear hK K))
  refine yaa ?_;intro dd oo
  go_wp2_with (first
   | (go_at_call 11;(with_reducible refine (RA.out _ (HX4.out.trans zaa)).mono ?_);rintro e' _ ⟨rfl,d4,os4,rfl⟩)
   | (go_at_call 12;(with_reducible refine (BC.out _ (HX4.out.trans zaa)).mono ?_);rintro e' _ ⟨rfl,d5,os5,rfl⟩)
   | (go_at_call 13;(with_reducible refine (QU.out _ (HX4.out.trans zaa)).mono ?_);rintro e' _ ⟨rfl,d6,os6,rfl⟩)
   | ((with_reducible refine (SX.out _ trivial trivial).mono ?_);rintro e' _ ⟨rfl,d7,os7,rfl⟩)
   | (go_at_call 14;(with_reducible refine (SQ.out _ _ (HX4.out.trans zaa) (R4.out.ext (zaa))).mono ?_);rintro e' _ ⟨rfl,d8,os8,rfl⟩)
   | (go_at_call 15;(with_reducible refine (AW.out _ (XH2.out.trans (HX4.out.trans zaa))).mono ?_);rintro e' _ ⟨rfl,d9,os9,rfl⟩))
  go_ret
  exact⟨rfl,XH2.out.trans (HX4.out.trans zaa)⟩
 | ok x =>
  obtain⟨hxm,hx64⟩:=addQ_mem HRR.out
  have HXS:Hid (∀ y∈x,TxSm y):=Lib.hid (fun y hy=>by
   rcases hxm y hy with h | rfl
   · exact HH.out.2.1 y h
   · exact HH.out.2.2)
  have HX64:=Lib.hid hx64;have SX:=Lib.hid (fun W v v' (h:TxIn W v x) (h':TxIn W v' x)=>qcK v v' x W h h' HXS.out (Nat.le_trans HX64.out zak))
  obtain⟨rp,hrp⟩:∃ r,PX x=r:=⟨_,rfl⟩
  obtain⟨ry,hry⟩:∃ r,PY x=r:=⟨_,rfl⟩
  have UP:=Lib.hid (show Upc rp from hrp ▸ PX.upc _);have UY:=Lib.hid (show Upc ry from hry ▸ PY.upc _);have PE:=Lib.hid (show ∀ v W,rp v W→∃ v',v=.tuple #[v',.int .i64 0]∧ry v' W from fun v W h=>by rw[←hrp] at h;rw[←hry];exact h);have YE:=Lib.hid (show ∀ v W,ry v W→TxIn W v x from fun v W h=>by rw[←hry] at h;exact h);have AP:=Lib.hid (show ∀ W,Ext w4 W→Calls Tryz.prog 10 #[.slice (some ⟨g4,0,none⟩) n c4,.agg #[.int .i64 tc',.int .i64 tt',.slice q1 n1 l1,.slice q2 _ l2,.string ts',.int .i64 tg'],.slice dp' n2 dc'] W (RetG W rp) from fun W hx=>(AD.out W _ (HX4.out.trans hx) (R4.out.ext hx)).mono fun e w' ⟨v',h1,h2,h3⟩=>⟨_,h1,h3,by rw[←hrp];exact⟨v',rfl,h2.inn⟩⟩)
  clear hrp hry hxm hx64 AD;refine qaa 10 76 [false,false,false,false,false,false,false,false,false,true] zaf zaf rfl ?_;refine yac ?_
  iterate 6 (refine Lex.step rfl ?_;intro K hK;unfold StepG;go_simp;refine hK _ ?_;clear hK K)
  refine Lex.gap 31 rp rfl UP.out rfl (fun d os=>?_) ?_
  · unfold StepG
    go_simp;exact AP.out _ zaa
  refine Lex.gap1 24 rp 31 rp rfl UP.out rfl (fun u d os hu=>?_) ?_
  · unfold StepG
    go_simp;exact hu
  refine Lex.gap1 32 ry 24 rp rfl UY.out rfl (fun u d os hu=>?_) ?_
  · obtain⟨v',rfl,hy⟩:=PE.out _ _ hu
    unfold StepG;go_simp;exact hy
  refine Lex.det (.int .i64 0) (fun W hE=>?_) ?_
  · rw[show looks _ _ _=[(24,rp)] from rfl]
    intro u hu
    obtain⟨v',rfl,hy⟩:=PE.out _ _ hu
    unfold FillH StepK PureStep;simp only[Region.wanted,if_true];refine ⟨_,fun w=>?_,rfl⟩;go_simp
  refine Lex.nil fun WW hE=>?_
  obtain⟨dd,oo,rfl⟩:=hE
  intro vy hy v24 h24 v31 h31;have RX:=Lib.hid (YE.out _ _ hy);clear hy h24 h31;unfold FillH
  go_upto_region 5 with (first
   | (go_at_call 11;(with_reducible refine (RA.out _ (HX4.out.trans zaa)).mono ?_);rintro e' w6 ⟨v6,rfl,r6,x6⟩;have X6:Hid (Ext w4 w6):=Lib.hid (Ext.trans zaa x6);have RX6:=Lib.hid (RX.out.ext (Ext.trans zaa x6));have R6:=Lib.hid r6;clear r6 x6)
   | (go_at_call 12;(with_reducible refine (BC.out _ (HX4.out.trans (X6.out.trans zaa))).mono ?_);rintro e' _ ⟨rfl,d5,os5,rfl⟩)
   | (go_at_call 13;(with_reducible refine (QU.out _ (HX4.out.trans (X6.out.trans zaa))).mono ?_);rintro e' _ ⟨rfl,d6,os6,rfl⟩)
   | (go_at_call 14;(with_reducible refine (SX.out _ _ _ (RX6.out.ext zaa) (R6.out.ext zaa)).mono ?_);rintro e' _ ⟨rfl,d7,os7,rfl⟩)
   | (go_at_call 14;(with_reducible refine (SQ.out _ _ (HX4.out.trans (X6.out.trans zaa)) (R4.out.ext (X6.out.trans zaa))).mono ?_);rintro e' _ ⟨rfl,d8,os8,rfl⟩)
   | (go_at_call 15;(with_reducible refine (AW.out _ (XH2.out.trans (HX4.out.trans (X6.out.trans zaa)))).mono ?_);rintro e' _ ⟨rfl,d9,os9,rfl⟩))
  have h7c:=qad c7 X6.out;have dl7:=World.block_lt_of_cell? _ _ h7c;clear c7 hl7 b0 b1 b2 b3 b4 b5 hlb
  go_wp2_with (first
   | (go_at_call 11;(with_reducible refine (RA.out _ (HX4.out.trans zaa)).mono ?_);rintro e' w6 ⟨v6,rfl,r6,x6⟩;have X6:Hid (Ext w4 w6):=Lib.hid (Ext.trans zaa x6);have RX6:=Lib.hid (RX.out.ext (Ext.trans zaa x6));have R6:=Lib.hid r6;clear r6 x6)
   | (go_at_call 12;(with_reducible refine (BC.out _ (HX4.out.trans (X6.out.trans zaa))).mono ?_);rintro e' _ ⟨rfl,d5,os5,rfl⟩)
   | (go_at_call 13;(with_reducible refine (QU.out _ (HX4.out.trans (X6.out.trans zaa))).mono ?_);rintro e' _ ⟨rfl,d6,os6,rfl⟩)
   | (go_at_call 14;(with_reducible refine (SX.out _ _ _ (RX6.out.ext zaa) (R6.out.ext zaa)).mono ?_);rintro e' _ ⟨rfl,d7,os7,rfl⟩)
   | (go_at_call 14;(with_reducible refine (SQ.out _ _ (HX4.out.trans (X6.out.trans zaa)) (R4.out.ext (X6.out.trans zaa))).mono ?_);rintro e' _ ⟨rfl,d8,os8,rfl⟩)
   | (go_at_call 15;(with_reducible refine (AW.out _ (XH2.out.trans (HX4.out.trans (X6.out.trans zaa)))).mono ?_);rintro e' _ ⟨rfl,d9,os9,rfl⟩))
  go_ret
  exact⟨rfl,XH2.out.trans (HX4.out.trans (X6.out.trans zaa))⟩
end Go.Proofs.YtpnabjopfpdkhaaGreatDoor
