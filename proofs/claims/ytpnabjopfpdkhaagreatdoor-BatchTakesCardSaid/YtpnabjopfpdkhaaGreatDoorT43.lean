/- Lemmas. -/
import Derived.Test.YtpnabjopfpdkhaaGreatDoorT39
import Derived.Test.YtpnabjopfpdkhaaGreatDoorT42
import Derived.Deep.DeepCutAuto
import Derived.StillTailTactics
set_option linter.unusedSimpArgs false
set_option linter.unusedVariables false
set_option maxHeartbeats 4000000
set_option maxRecDepth 20000
namespace Go.Proofs.YtpnabjopfpdkhaaGreatDoor
open Go.RowKit
attribute [go_sem] more_more Array.size_append
theorem tx_row' (y:Tx) {w:World} (h:TxAt w y):∃ c u p1 m1 k1 p2 m2 k2 s g,txV y=.agg (txA c u (.slice p1 m1 k1) (.slice p2 m2 k2) s g)∧txL y=[.int .i64 c,.int .i64 u,.slice p1 m1 k1,.slice p2 m2 k2,.string s,.int .i64 g]∧y.c=c∧y.t=u:=by
 obtain⟨p1,m1,k1,p2,m2,k2,e1,e2⟩:=qca h
 exact⟨_,_,p1,m1,k1,p2,m2,k2,_,_,by unfold txV txA;rw[e1,e2],by unfold txL;rw[e1,e2],rfl,rfl⟩
theorem rbatch_any (v:Value) (l:List Tx) (w:World) (h:TxIn w v l) (hl:l.length≤100000):Calls Tryz.prog 22 #[v] w fun e w'=>e=.returned (.bool (l.all okT&&decide (l.length≤64)))∧Ext w w':=by
 have HI:=Lib.hid h
 obtain⟨ht,p,cap,rfl,hcap,hmx,hr⟩:=h
 obtain⟨n,hn⟩:∃ n,l.length=n:=⟨_,rfl⟩
 obtain⟨q,hq⟩:∃ q,l.all okT=q:=⟨_,rfl⟩
 rw[hq,hn];rw[hn] at hcap hl;have HN:=Lib.hid hn;have HQ:=Lib.hid hq;have HR:=Lib.hid hr;have HT:=Lib.hid ht
 have hln:(n:Int)≤100000:=by omega
 clear hn hq hr ht;go_enter Tryz.func22,Tryz.ntmps22;go_wp2_with fail;go_loopw [3] (fun i wr=>∃ k:Nat,i=.int .i64 (k:Int)∧k≤n∧Hid ((l.take k).all okT=true)∧Hid (Ext w wr)) (fun i _=>n-(intOf i).toNat)
 case atStart=>exact⟨0,rfl,Nat.zero_le _,Lib.hid rfl,Lib.hid zaa⟩
 case round =>
  obtain⟨k,rfl,hk,hA,hH⟩:=hrel
  by_cases hlt:k<n
  case neg =>
   have hkn:n=k:=by omega
   subst hkn
   have hq2:q=true:=by rw[←HQ.out,←hA.out,List.take_of_length_le zap]
   subst hq2;clear hk hlt;go_wp2_with fail;go_ret
   exact⟨ret_bool (by simp only[Bool.true_and,decide_eq_decide];omega),hH.out.trans zaa⟩
  case pos =>
   obtain⟨y,hy⟩:∃ y,l[k]?=some y:=⟨_,List.getElem?_eq_getElem zap⟩
   have hym:=List.mem_of_getElem? hy
   obtain⟨yc,yt,y1,z1,l1,y2,z2,l2,ys,yg,hV,hL,-,-⟩:=tx_row' y (HT.out y hym)
   have MY:=Lib.hid (fun W (hx:Ext w W)=>rmay22_any y W ((HT.out y hym).ext hx));rw[hV] at MY;unfold txA at MY
   obtain⟨b,off,rfl,hc⟩:=HR.out k y hy
   rw[hL] at hc;have f0:=qaf (hc 0 _ rfl) hH.out;have f1:=qaf (hc 1 _ rfl) hH.out;have f2:=qaf (hc 2 _ rfl) hH.out;have f3:=qaf (hc 3 _ rfl) hH.out;have f4:=qaf (hc 4 _ rfl) hH.out;have f5:=qaf (hc 5 _ rfl) hH.out;simp only[Nat.add_zero] at f0;have hlb:=World.block_lt_of_cell? _ _ f0;have HLT:=Lib.hid hlt;have HY:=Lib.hid hy;clear hy hV hL hc
   cases ho:okT y with
   | false =>
    rw[ho] at MY
    have hq2:q=false:=by rw[←HQ.out,List.all_eq_false];exact⟨y,hym,by simp[ho]⟩
    subst hq2;clear ho hym
    go_wp2_with ((with_reducible refine (MY.out _ (hH.out.trans zaa)).mono ?_);rintro e' _ ⟨rfl,d1,os1,rfl⟩)
    go_ret
    exact⟨ret_bool zaj,hH.out.trans zaa⟩
   | true =>
    rw[ho] at MY
    have HA2:Hid ((l.take (k+1)).all okT=true):=Lib.hid (by rw[List.take_add_one,HY.out,Option.toList_some,List.all_append,hA.out];simp[ho])
    clear ho hym
    go_wp2_with ((with_reducible refine (MY.out _ (hH.out.trans zaa)).mono ?_);rintro e' _ ⟨rfl,d1,os1,rfl⟩)
    go_roundw
    case measure=>have:=HLT.out;simp[intOf];omega
    case rel=>exact⟨k+1,by go_num,by have:=HLT.out;omega,HA2,Lib.hid (hH.out.trans zaa)⟩
theorem rqueue_any (v:Value) (l:List Tx) (w:World) (h:TxIn w v l) (hl:l.length≤100000):Calls Tryz.prog 13 #[v] w fun e w'=>e=.returned (.bool (qbe l))∧Ext w w':=by
 have HI:=Lib.hid h;have RB:=Lib.hid (fun W (hx:Ext w W)=>rbatch_any v l W (h.ext hx) hl)
 obtain⟨ht,p,cap,rfl,hcap,hmx,hr⟩:=h
 obtain⟨q,hq⟩:∃ q,qbe l=q:=⟨_,rfl⟩
 obtain⟨qb,hqb⟩:∃ q,(l.all okT&&decide (l.length≤64))=q:=⟨_,rfl⟩
 rw[hq];rw[hqb] at RB
 have HB:=Lib.hid (show(l.map Tx.c).Nodup→qb=q from fun hd=>by
  rw[←hqb,←hq,Bool.eq_iff_iff,qfe,Bool.and_eq_true,List.all_eq_true,decide_eq_true_eq]
  exact⟨fun ⟨a,b⟩=>⟨hd,b,a⟩,fun ⟨_,b,a⟩=>⟨a,b⟩⟩)
 have HF:=Lib.hid (show(∃ (i j:Nat) (x y:Tx),i≠j∧l[i]?=some x∧l[j]?=some y∧x.c=y.c)→q=false from fun ⟨i,j,x,y,hne,hx,hy,hc⟩=>by
  rw[←hq]
  cases e:qbe l with
  | false=>rfl
  | true=>exact absurd (nodup_c ((qfe l).1 e).1 hx hy hc) hne)
 obtain⟨n,hn⟩:∃ n,l.length=n:=⟨_,rfl⟩
 rw[hn] at RB hcap hl ⊢;have HN:=Lib.hid hn;have HR:=Lib.hid hr;have HT:=Lib.hid ht
 have hln:(n:Int)≤100000:=by omega
 clear hn hq hqb hr ht;go_enter Tryz.func13,Tryz.ntmps13;go_wp2_with fail;go_loopw [3,4] (fun i j wr=>∃ k:Nat,i=.int .i64 (k:Int)∧k≤n∧Hid (((l.take k).map Tx.c).Nodup)∧Hid (Ext w wr)) (fun i _ _=>n-(intOf i).toNat)
 case atStart=>exact⟨0,rfl,Nat.zero_le _,Lib.hid zaj,Lib.hid zaa⟩
 case round =>
  obtain⟨k,rfl,hk,hA,hH⟩:=hrel
  by_cases hlt:k<n
  case neg =>
   have hkn:n=k:=by omega
   subst hkn
   have hq2:qb=q:=HB.out (by have:=hA.out;rwa [List.take_of_length_le zap] at this)
   subst hq2;clear hk hlt
   go_wp2_with ((with_reducible refine (RB.out _ (hH.out.trans zaa)).mono ?_);rintro e' _ ⟨rfl,d1,os1,rfl⟩)
   go_ret
   exact⟨rfl,hH.out.trans zaa⟩
  case pos =>
   obtain⟨x,hx⟩:∃ x,l[k]?=some x:=⟨_,List.getElem?_eq_getElem zap⟩
   obtain⟨b,off,rfl,hc⟩:=HR.out k x hx
   have HC:=Lib.hid (hc 0 _ rfl)
   obtain⟨xc,hxc⟩:∃ c,x.c=c:=⟨_,rfl⟩
   have HX:=Lib.hid (And.intro hx hxc);rw[hxc] at HC;have HLT:=Lib.hid hlt;clear hx hxc hc;go_wp2_with fail;go_loopw [4] (fun j wv=>∃ m:Nat,j=.int .i64 (m:Int)∧m≤k∧Hid (∀ (a:Nat) (y:Tx),a<m→l[a]?=some y→y.c≠xc)∧Hid (Ext w wv)) (fun j _=>k-(intOf j).toNat)
   case atStart=>exact⟨0,rfl,Nat.zero_le _,Lib.hid (fun a y h=>by omega),Lib.hid (hH.out.trans zaa)⟩
   case round =>
    clear hH
    obtain⟨m,rfl,hmk,hD,hH⟩:=hrel
    by_cases hlm:m<k
    case pos =>
     obtain⟨y,hy⟩:∃ y,l[m]?=some y:=⟨_,List.getElem?_eq_getElem zap⟩
     obtain⟨b',off',e0,hc⟩:=HR.out m y hy
     simp only[Option.some.injEq,Addr.mk.injEq] at e0
     obtain⟨rfl,rfl,-⟩:=e0
     obtain⟨yc,hyc⟩:∃ c,y.c=c:=⟨_,rfl⟩
     have f0:=qaf (hc 0 _ rfl) hH.out;have g0:=qaf HC.out hH.out;rw[hyc] at f0;simp only[Nat.add_zero] at f0 g0;have hlb:=World.block_lt_of_cell? _ _ f0;have HLM:=Lib.hid hlm
     have hkn:k<n:=hlt
     have hmn:m<n:=by omega
     have HY:=Lib.hid (And.intro hy hyc);clear hy hyc hc
     by_cases hcc:yc=xc
     · have hb:(yc==xc)=true:=by simp[hcc]
       have hq2:q=false:=HF.out ⟨m,k,y,x,by omega,HY.out.1,HX.out.1,by rw[HY.out.2,HX.out.2,hcc]⟩
       subst hq2;clear hcc
       go_upto_region 7 with fail
       go_region
       go_wp2_with fail;go_ret
       exact⟨rfl,hH.out.trans zaa⟩
     · have hb:(yc==xc)=false:=by simpa using hcc
       have HD2:Hid (∀ (a:Nat) (y:Tx),a<m+1→l[a]?=some y→y.c≠xc):=Lib.hid (fun a z ha hz=>by
        by_cases h:a=m
        · subst h
          have:=HY.out.1
          rw[hz] at this
          cases this
          rw[HY.out.2];exact hcc
        · exact hD.out a z zac hz)
       clear hcc
       go_upto_region 7 with fail
       go_region
       go_wp2_with fail;go_roundw
       case measure=>have:=HLM.out;simp[intOf];omega
       case rel=>exact⟨m+1,by go_num,by have:=HLM.out;omega,HD2,Lib.hid (hH.out.trans zaa)⟩
    case neg =>
     have hmk2:k=m:=by omega
     subst hmk2
     have HA2:Hid (((l.take (k+1)).map Tx.c).Nodup):=Lib.hid (by
      rw[List.take_add_one,HX.out.1,Option.toList_some,List.map_append,List.nodup_append];refine ⟨hA.out,by simp,fun a ha c hc2 e=>?_⟩
      simp at hc2
      subst hc2 e
      obtain⟨y,hy,he⟩:=List.mem_map.1 ha
      obtain⟨j,hj⟩:=List.getElem?_of_mem hy
      rw[List.getElem?_take] at hj
      split at hj
      · rename_i hjk
        exact hD.out j y hjk hj (he.trans HX.out.2)
      · cases hj)
     clear hlm hmk;go_wp2_with fail;go_roundw
     case measure=>have:=HLT.out;simp[intOf];omega
     case rel=>exact⟨k+1,by go_num,by have:=HLT.out;omega,HA2,Lib.hid (hH.out.trans zaa)⟩
theorem qcH (v v':Value) (l:List Tx) (w:World) (h:TxIn w v l) (h':TxIn w v' l) (hs:∀ x∈l,TxSm x) (hl:l.length≤100000):Calls Tryz.prog 14 #[v,v'] w fun e w'=>e=.returned (.bool true)∧Ext w w':=by
 have HI:=Lib.hid (And.intro h h')
 obtain⟨ht,p,cap,rfl,hcap,-,hr⟩:=h
 obtain⟨ht',p',cap',rfl,hcap',-,hr'⟩:=h'
 obtain⟨n,hn⟩:∃ n,l.length=n:=⟨_,rfl⟩
 rw[hn] at hcap hcap' hl ⊢;have HN:=Lib.hid hn;have HR:=Lib.hid (And.intro hr hr');have HT:=Lib.hid (And.intro ht hs)
 have hln:(n:Int)≤100000:=by omega
 clear hn hr hr' ht ht' hs;go_enter Tryz.func14,Tryz.ntmps14;go_wp2_with fail;go_loopw [5] (fun i wr=>∃ k:Nat,i=.int .i64 (k:Int)∧k≤n∧Hid (Ext w wr)) (fun i _=>n-(intOf i).toNat)
 case atStart=>exact⟨0,rfl,Nat.zero_le _,Lib.hid zaa⟩
 case round =>
  obtain⟨k,rfl,hk,hH⟩:=hrel
  by_cases hlt:k<n
  case neg =>
   have hkn:n=k:=by omega
   subst hkn;clear hk hlt;go_wp2_with fail;go_ret
   exact⟨rfl,hH.out.trans zaa⟩
  case pos =>
   obtain⟨y,hy⟩:∃ y,l[k]?=some y:=⟨_,List.getElem?_eq_getElem zap⟩
   have hym:=List.mem_of_getElem? hy
   obtain⟨yc,yt,y1,z1,l1,y2,z2,l2,ys,yg,hV,hL,-,-⟩:=tx_row' y (HT.out.1 y hym)
   have SM:=Lib.hid (fun W (hx:Ext w W)=>rsame22_any y y W ((HT.out.1 y hym).ext hx) ((HT.out.1 y hym).ext hx) (HT.out.2 y hym) (HT.out.2 y hym));rw[hV,sameX_self] at SM;unfold txA at SM
   obtain⟨b,off,rfl,hc⟩:=HR.out.1 k y hy
   obtain⟨b',off',rfl,hc'⟩:=HR.out.2 k y hy
   rw[hL] at hc hc';have f0:=qaf (hc 0 _ rfl) hH.out;have f1:=qaf (hc 1 _ rfl) hH.out;have f2:=qaf (hc 2 _ rfl) hH.out;have f3:=qaf (hc 3 _ rfl) hH.out;have f4:=qaf (hc 4 _ rfl) hH.out;have f5:=qaf (hc 5 _ rfl) hH.out;simp only[Nat.add_zero] at f0;have g0:=qaf (hc' 0 _ rfl) hH.out;have g1:=qaf (hc' 1 _ rfl) hH.out;have g2:=qaf (hc' 2 _ rfl) hH.out;have g3:=qaf (hc' 3 _ rfl) hH.out;have g4:=qaf (hc' 4 _ rfl) hH.out;have g5:=qaf (hc' 5 _ rfl) hH.out;simp only[Nat.add_zero] at g0;have hlb:=World.block_lt_of_cell? _ _ f0;have hlg:=World.block_lt_of_cell? _ _ g0;have HLT:=Lib.hid hlt;clear hy hV hL hc hc' hym
   go_upto_region 6 with fail
   go_still_tail 8,zaf
   go_wp2_with ((with_reducible refine (SM.out _ (hH.out.trans zaa)).mono ?_);rintro e' _ ⟨rfl,d2,os2,rfl⟩)
   go_roundw
   case measure=>have:=HLT.out;simp[intOf];omega
   case rel=>exact⟨k+1,by go_num,by have:=HLT.out;omega,Lib.hid (hH.out.trans zaa)⟩
def dropF (d:List La) (l:List Tx):List Tx:=l.filter fun y=>askE d y.c y.t==6
theorem dropF_step {d:List La} {l:List Tx} {k:Nat} {x:Tx} (h:l[k]?=some x):dropF d (l.take (k+1))=if (askE d x.c x.t==6)=true then dropF d (l.take k)++[x] else dropF d (l.take k):=by
 unfold dropF;rw[List.take_add_one,h,Option.toList_some,List.filter_append]
 cases hp:(askE d x.c x.t==6)<;>simp[hp]
theorem txC_snoc (l:List Tx) (x:Tx):txC (l++[x])=txC l++txL x:=by rw[qfC];simp[txC]
theorem rdrop27_any (v:Value) (q:List Tx) (dv:Value) (d:List La) (w:World) (h:TxIn w v q) (hl:q.length≤100000) (hd:LaAt w dv d) (hdl:d.length≤100000) :
  Calls Tryz.prog 21 #[v,dv] w fun e w'=>∃ v',e=.returned v'∧TxIn w' v' (dropF d q)∧Ext w w':=by
 obtain⟨i0,hi,hz0,hz1,hz2⟩:=info_parts txInfo
 have HIN:=Lib.hid h;have AK:=Lib.hid (fun c t W (hx:Ext w W)=>rask_any dv d c t W (hd.ext hx) hdl)
 obtain⟨dp,dc,hdv⟩:∃ p c,dv=.slice p d.length c:=⟨_,_,hd.1.choose_spec.choose_spec.1⟩
 obtain⟨ht,pp,cap,rfl,hcap,hmx,hr⟩:=h
 obtain⟨n,hn⟩:∃ n,q.length=n:=⟨_,rfl⟩
 obtain⟨nd,hnd⟩:∃ n,d.length=n:=⟨_,rfl⟩
 rw[hn] at hcap hl ⊢;rw[hnd] at hdv;subst hdv;have HN:=Lib.hid hn;have HR:=Lib.hid hr;have HT:=Lib.hid ht
 have hln:(n:Int)≤100000:=by omega
 have HB:=Lib.hid (show ∀ k,(dropF d (q.take k)).length≤n from fun k=>by
  unfold dropF;have h1:=List.length_filter_le (fun y:Tx=>askE d y.c y.t==6) (q.take k)
  have h2:(q.take k).length≤n:=by rw[List.length_take];omega
  omega)
 clear hn hnd hr ht hd hdl;go_enter Tryz.func21,Tryz.ntmps21;go_wp2_with fail;go_loopw [5,6,7,8] (fun lv ii s7 s8 wr=>∃ (k m:Nat) (cs:List Value),ii=.int .i64 (k:Int)∧k≤n∧Hid ((dropF d (q.take k)).length=m∧txC (dropF d (q.take k))=cs)∧Hid (wr.ownsRow w.heap.size 27 6 lv m cs∧Ext w wr)) (fun _ ii _ _ _=>n-(intOf ii).toNat)
 case atStart=>exact⟨0,0,[],rfl,Nat.zero_le _,Lib.hid ⟨rfl,rfl⟩,Lib.hid ⟨World.ownsRow_nil _ _ _ _,zaa⟩⟩
 case round =>
  obtain⟨k,m,cs,rfl,hkm,hF,hH⟩:=hrel
  obtain⟨lv,hlv⟩:∃ x,x=u5:=⟨_,rfl⟩
  subst hlv
  by_cases hlt:k<n
  case neg =>
   have hk:n=k:=by omega
   subst hk;clear hlt;rw[List.take_of_length_le zap] at hF;go_wp2_with fail;go_ret
   exact⟨_,rfl,⟨fun x hm=>(HIN.out.1 x (List.mem_filter.1 hm).1).ext hH.out.2,RowIn.own qcr (by have:=hF.out;unfold txC at this;rw[←this.2,←this.1] at hH;exact hH.out.1)⟩,hH.out.2⟩
  case pos =>
   obtain⟨y,hy⟩:∃ y,q[k]?=some y:=⟨_,List.getElem?_eq_getElem zap⟩
   have hym:=List.mem_of_getElem? hy;have HSN:=Lib.hid (dropF_step (d:=d) hy)
   obtain⟨yc,yt,y1,z1,l1,y2,z2,l2,ys,yg,hV,hL,hyc,hyt⟩:=tx_row' y (HT.out y hym)
   have AK2:=Lib.hid (AK.out yc yt);rw[hyc,hyt] at HSN
   obtain⟨b,off,rfl,hc⟩:=HR.out k y hy
   rw[hL] at hc;have f0:=qaf (hc 0 _ rfl) hH.out.2;have f1:=qaf (hc 1 _ rfl) hH.out.2;have f2:=qaf (hc 2 _ rfl) hH.out.2;have f3:=qaf (hc 3 _ rfl) hH.out.2;have f4:=qaf (hc 4 _ rfl) hH.out.2;have f5:=qaf (hc 5 _ rfl) hH.out.2;simp only[Nat.add_zero] at f0;have hlb:=World.block_lt_of_cell? _ _ f0;have HLT:=Lib.hid hlt;have HL:=Lib.hid hL
   obtain⟨ra,hra⟩:∃ r,rsC (askR d yc yt)=r:=⟨_,rfl⟩
   obtain⟨ae,hae⟩:∃ r,askE d yc yt=r:=⟨_,rfl⟩
   rw[hra,hae] at AK2;rw[hae] at HSN
   obtain⟨x1,x2,x3,x4,x5,hrf⟩:∃ a b c s e,ra=#[.int .i64 a,.int .i64 b,.int .i64 c,.string s,.int .i64 e]:=⟨_,_,_,_,_,hra.symm⟩
   subst hrf;clear hy hym hV hL hc hyc hyt hra hae
   go_upto_region 5 with fail
   refine qaa 16 40 [false,false,false,false,false,false,false,false,false,false,false,false,false,false,true,false] zaf zaf rfl ?_;refine yac ?_
   repeat(first
    | (refine Lex.step rfl ?_;intro K hK;unfold StepG;go_simp;refine hK _ ?_;clear hK K)
    | (refine Lex.step rfl ?_;intro K hK;unfold StepG;go_simp;(with_reducible refine ⟨_,fun d os=>(ret1 (AK2.out _ (hH.out.2.trans zaa))),?_⟩);go_simp;refine hK _ ?_;clear hK K)
    | (refine Lex.stepP rfl rfl ?_;intro K hK;go_simp;refine hK _ ?_;clear hK K))
   refine Lex.alloc 7 (.cells #[.int .i64 0,.int .i64 0,.int .i64 0,.string ⟨#[]⟩,.int .i64 0] 47) rfl rfl (fun d os=>?_) ?_
   · unfold StepG
     go_simp;exact yai
   refine Lex.nil fun W hE=>?_
   intro u hu
   obtain⟨d1,os1,d2,os2,rfl,rfl⟩:=hu.split hE
   clear hu hE;go_simp;unfold FillH
   by_cases h6:ae=6
   rotate_left
   · have hb:(ae==6)=false:=by simpa using h6
     have HE:Hid ((dropF d (q.take (k+1))).length=m∧txC (dropF d (q.take (k+1)))=cs):=Lib.hid (by rw[HSN.out,hb];exact hF.out)
     clear h6;go_wp2_with fail;go_roundw
     case measure=>have:=HLT.out;simp[intOf];omega
     case rel=>exact⟨k+1,m,cs,by go_num,by have:=HLT.out;omega,HE,Lib.hid ⟨own_ext hH.out.1 zaa,Ext.trans hH.out.2 zaa⟩⟩
   · subst h6
     have HE:Hid ((dropF d (q.take (k+1))).length=m+1∧txC (dropF d (q.take (k+1)))=cs++[.int .i64 yc,.int .i64 yt,.slice y1 z1 l1,.slice y2 z2 l2,.string ys,.int .i64 yg]):=Lib.hid (by
      rw[HSN.out];simp only[beq_self_eq_true,if_true];rw[txC_snoc,HL.out,hF.out.2,List.length_append,hF.out.1]
      exact⟨rfl,rfl⟩)
     have HLL:Hid (m≤n):=Lib.hid (by have:=HB.out k;rw[hF.out.1] at this;exact this)
     go_wp2_with (at_builtin;refine wpList_append_own_at _ rfl _ _ 22 rfl w.heap.size 27 i0 (.agg #[.int .i64 0,.int .i64 0,.slice none 0 0,.slice none 0 0,.string ⟨#[]⟩,.int .i64 0]) 6 88 Tryz.underlying22 hi hz0 hz1 hz2 rfl zal lv m cs rfl ?c0 ⟨_,0,none⟩ 1 1 [.int .i64 yc,.int .i64 yt,.slice y1 z1 l1,.slice y2 z2 l2,.string ys,.int .i64 yg] rfl rfl ?c1 ?c2 ?c3 ?c4 ?c5 ?_)
     case c0=>exact own_ext hH.out.1 zaa
     try case c1=>exact qgm (KB.newAt _ _ _ (by simp[more_size];try omega))
     case c2=>first | exact⟨rfl,rfl,rfl,rfl,rfl,rfl⟩ | (intro u hu;simp at hu;rcases hu with rfl | rfl | rfl | rfl | rfl | rfl<;>rfl)
     case c3=>have:=HLL.out;unfold maxLen;omega
     case c4=>have:=HLL.out;omega
     case c5=>exact Ext.size (Ext.trans hH.out.2 zaa)
     intro v' w7 hown hgrow _ _
     have HX7:Ext w w7:=Ext.grown (Ext.trans hH.out.2 zaa) hgrow (fun k hk=>by have:=hH.out.1.lt k (by rw[←hk]);omega)
     have H7:=Lib.hid (And.intro hown HX7);clear hown hgrow HX7;go_wp2_with fail;go_roundw
     case measure=>have:=HLT.out;simp[intOf];omega
     case rel=>exact⟨k+1,m+1,_,by go_num,by have:=HLT.out;omega,HE,H7⟩
theorem txin_take {w:World} {p:Option Addr} {n c m:Nat} {l:List Tx} (h:TxIn w (.slice p n c) l) (hm:m≤n):TxIn w (.slice p m c) (l.take m):=by
 obtain⟨ht,p',c',e,h1,h2,h3⟩:=h
 simp only[Value.slice.injEq] at e
 obtain⟨rfl,rfl,rfl⟩:=e
 refine ⟨fun x hx=>ht x (List.mem_of_mem_take hx),p,c,by rw[List.length_take,Nat.min_eq_left hm],by rw[List.length_take];omega,h2,fun j x hj=>?_⟩;rw[List.getElem?_take] at hj
 split at hj
 · exact h3 j x hj
 · cases hj
def headN (most:Int) (n:Nat):Nat:=(max 0 (min most (n:Int))).toNat
theorem take27_any (v:Value) (q:List Tx) (most:Int) (B:Nat) (w:World) (hS:SignsAt B w) (hB:B≤w.heap.size) (h:TxIn w v q) (hl:q.length≤100000) :
  Calls Tryz.prog 19 #[v,.int .i64 most] w (AddPost w.heap.size w (if qbe q=true then .ok (q.take (headN most q.length)) else .error 1)):=by
 have CK:=Lib.hid (fun W (hx:Ext w W)=>qdw v q B W (hS.ext hx hB) (Nat.le_trans hB hx.size) (h.ext hx) hl)
 obtain⟨p,c,rfl⟩:∃ p c,v=.slice p q.length c:=⟨_,_,h.2.choose_spec.choose_spec.1⟩
 obtain⟨p',c',e,hcap,hmx,hr⟩:=h.2
 simp only[Value.slice.injEq] at e
 obtain⟨rfl,-,rfl⟩:=e
 have CL:=Lib.hid (fun m (hm:m≤q.length) W (hx:Ext w W)=>qdA (.slice p m c) (q.take m) W (txin_take (h.ext hx) hm) (by rw[List.length_take];omega));have HIN:=Lib.hid h
 obtain⟨n,hn⟩:∃ n,q.length=n:=⟨_,rfl⟩
 rw[hn] at CK CL hcap hl ⊢
 have hci:(n:Int)≤(c:Int):=by omega
 clear hr hn h hS hB
 cases hq:qbe q with
 | false =>
  rw[if_neg zaj];rw[hq] at CK;clear CL hq;go_enter Tryz.func19,Tryz.ntmps19
  go_wp2_with ((with_reducible refine (CK.out _ zaa).mono ?_);rintro e' _ ⟨rfl,d1,os1,rfl⟩)
  go_ret2
  exact⟨rfl,zaa⟩
 | true =>
  rw[if_pos rfl];rw[hq] at CK;clear hq;have CM:=Lib.hid (CL.out (headN most n) (by unfold headN;omega));unfold headN at CM ⊢;clear CL;go_enter Tryz.func19,Tryz.ntmps19
  go_wp2_with (first
   | ((with_reducible refine (CK.out _ zaa).mono ?_);rintro e' _ ⟨rfl,d1,os1,rfl⟩)
   | ((with_reducible refine (CM.out _ zaa).mono ?_);rintro e' w5 ⟨cv,rfl,hcr,hx5⟩;have HX5:Hid (Ext w w5):=Lib.hid (Ext.trans zaa hx5);have HC:=Lib.hid hcr;clear hcr hx5))
  go_ret2
  exact⟨cv,rfl,TxRow.low HIN.out HC.out (fun x hm=>List.mem_of_mem_take hm) HX5.out (Ext.size zaa),HX5.out⟩
theorem TxIn.cap {w:World} {p:Option Addr} {n c:Nat} {l:List Tx} (h:TxIn w (.slice p n c) l):n≤c:=by
 obtain⟨_,p',c',e,h1,_⟩:=h
 simp only[Value.slice.injEq] at e
 obtain⟨_,e1,e2⟩:=e
 omega
theorem takes_walk (qv:Value) (q:List Tx) (most:Int) (dv:Value) (d:List La) (B:Nat) (w:World) (hm64:-9223372036854775808≤most∧most≤9223372036854775807) (hS:SignsAt B w) (hB:B≤w.heap.size) (hq:TxIn w qv q) (hql:q.length≤140737488351232) (hd:LaAt w dv d) (hdl:d.length≤140737488351232) (hdz:∀ x∈d,x.vs.size≤140737488351232) :
  Calls Tryz.prog 5 #[qv,.int .i64 most,dv] w fun e w'=>e=.returned (.bool true)∧Ext w w':=by
 obtain⟨i0,hi,hz0,hz1,hz2⟩:=info_parts txInfo
 obtain⟨hm1,hm2⟩:=hm64
 have FQ:=Lib.hid (fun W (hx:Ext w W)=>pq_any qv q w.heap.size W (hq.ext hx) hql hx.size);have FD:=Lib.hid (fun W (hx:Ext w W)=>pd_any dv d w.heap.size W (hd.ext hx) hdl hdz hx.size);have SG:=Lib.hid (fun W (hx:Ext w W)=>(⟨hS.ext hx hB,Nat.le_trans hB hx.size⟩:SignsAt B W∧B≤W.heap.size));have AW:=Lib.hid (fun W (hx:Ext w W)=>awake27_any B W (SG.out W hx).1 (SG.out W hx).2);clear hS hB hq hql hd hdl hdz;go_enter Tryz.func5,Tryz.ntmps5
 go_upto_region 2 with (first
  | ((with_reducible refine (FQ.out _ zaa).mono ?_);rintro e' w1 ⟨v1,rfl,x1,f1⟩;have X1:Hid (Ext w w1):=Lib.hid (Ext.trans zaa x1);have F1:=Lib.hid f1;clear x1 f1)
  | ((with_reducible refine (FD.out _ (X1.out.trans zaa)).mono ?_);rintro e' w2 ⟨v2,rfl,x2,f2⟩;have X2:Hid (Ext w1 w2):=Lib.hid (Ext.trans zaa x2);have F2:=Lib.hid f2;clear x2 f2))
 have XX:Ext w w2:=X1.out.trans X2.out
 have XH:=Lib.hid XX
 obtain⟨q',qp,qc,rfl,hQI,hQL,hQS⟩:=(PQ.upc _ _ _ _ X2.out F1.out).inn
 obtain⟨d',dp,dc,rfl,hDI,hDL⟩:=F2.out.inn
 clear X1 X2 F1 F2 XX;have HSRC:=Lib.hid (fun W (hx:Ext w2 W)=>src_tx (hQI.ext hx));have QU:=Lib.hid (fun W (hx:Ext w2 W)=>rqueue_any _ q' W (hQI.ext hx) zac);have SM:=Lib.hid (fun W v (hx:Ext w2 W) (h:TxIn W v q')=>qcH v _ q' W h (hQI.ext hx) hQS zac);have IS:=Lib.hid (fun W (hx:Ext w2 W)=>ris26_any _ d' W (hDI.ext hx) zac);have TK:=Lib.hid (fun W v (hx:Ext w2 W) (h:TxIn W v q')=>take27_any v q' most B W (SG.out W (XH.out.trans hx)).1 (SG.out W (XH.out.trans hx)).2 h zac);have DR:=Lib.hid (fun W v (hx:Ext w2 W) (h:TxIn W v q')=>bdrop_any v q' _ d' B W (SG.out W (XH.out.trans hx)).1 (SG.out W (XH.out.trans hx)).2 h zac (hDI.ext hx) zac)
 have HDQ:dropQ q' d'=if qbe q'=false∨isL d'=false then .error 1 else .ok (dropF d' q'):=rfl
 obtain⟨n,hn⟩:∃ n,q'.length=n:=⟨_,rfl⟩
 obtain⟨n2,hn2⟩:∃ n,d'.length=n:=⟨_,rfl⟩
 have HN:=Lib.hid hn;rw[hn] at HSRC QU SM TK hQL hQI ⊢;rw[hn2] at DR IS hDI ⊢;have HH:=Lib.hid (And.intro hQI (And.intro hDI hQS))
 have hDL2:n2≤260:=by omega
 have HD2:=Lib.hid hn2;clear hn hn2 hQI hDI hQS hDL
 go_upto_region 3 with (at_builtin;refine qah _ rfl _ _ 22 22 rfl w2.heap.size 27 i0 (.agg #[.int .i64 0,.int .i64 0,.slice none 0 0,.slice none 0 0,.string ⟨#[]⟩,.int .i64 0]) 6 88 Tryz.underlying22 hi hz0 hz1 hz2 rfl zal _ 0 _ rfl (World.ownsRow_made w2 #[] 0 (Nat.le_refl _) (Nat.zero_le _) rfl) _ n _ rfl (HSRC.out _ ((Ext.refl _).alloc _)) ?c3 ?c4 ?c5 ?_)
 case c3=>unfold maxLen;omega
 case c4=>omega
 case c5=>simp
 intro v3 w3 hown hgrow _;have HX3:=Lib.hid (Ext.grown ((Ext.refl w2).alloc _) hgrow (fun k hk=>by simp[Value.ownBlock] at hk;omega))
 have R3:Hid (TxIn w3 v3 q'):=Lib.hid ⟨fun x hm=>(HH.out.1.1 x hm).ext HX3.out,RowIn.own qcr (by rw[HN.out];simpa [txC] using hown)⟩
 clear hown hgrow
 have hni:(n:Int)≤66:=by omega
 have hqc:n≤qc:=HH.out.1.cap
 have hqi:(n:Int)≤(qc:Int):=by omega
 cases hqb:qbe q' with
 | false =>
  have hdq:dropQ q' d'=.error 1:=by rw[HDQ,hqb,if_pos (Or.inl rfl)]
  rw[hdq] at DR;rw[hqb] at QU TK;simp only[Bool.false_eq_true,if_false] at TK;clear hdq hqb HDQ
  go_wp2_with (first
   | ((with_reducible refine (TK.out _ _ (HX3.out.trans zaa) (R3.out.ext zaa)).mono ?_);rintro e' _ ⟨rfl,d1,os1,rfl⟩)
   | ((with_reducible refine (DR.out _ _ (HX3.out.trans zaa) (R3.out.ext zaa)).mono ?_);rintro e' _ ⟨rfl,d2,os2,rfl⟩)
   | ((with_reducible refine (SM.out _ _ (HX3.out.trans zaa) (R3.out.ext zaa)).mono ?_);rintro e' _ ⟨rfl,d3,os3,rfl⟩)
   | ((with_reducible refine (QU.out _ (HX3.out.trans zaa)).mono ?_);rintro e' _ ⟨rfl,d4,os4,rfl⟩)
   | ((with_reducible refine (AW.out _ (XH.out.trans (HX3.out.trans zaa))).mono ?_);rintro e' _ ⟨rfl,d5,os5,rfl⟩))
  go_ret
  exact⟨rfl,XH.out.trans (HX3.out.trans zaa)⟩
 | true =>
  rw[hqb] at QU TK;simp only[if_true] at TK
  obtain⟨m,hm⟩:∃ m,headN most n=m:=⟨_,rfl⟩
  rw[hm] at TK
  have hmn:m≤n:=by rw[←hm];unfold headN;omega
  have HLM:Hid ((q'.take m).length=m):=Lib.hid (by rw[List.length_take,HN.out];omega)
  have ST:=Lib.hid (fun W v (hx:Ext w2 W) (h:TxIn W v (q'.take m))=>qcH v (.slice qp m qc) (q'.take m) W h (txin_take (HH.out.1.ext hx) hmn) (fun x hx=>HH.out.2.2 x (List.mem_of_mem_take hx)) (by rw[HLM.out];omega))
  have hcase:(most<0∧m=0)∨(0≤most∧(n:Int)<most∧m=n)∨(0≤most∧most≤(n:Int)∧m=most.toNat):=by rw[←hm];unfold headN;omega
  cases hil:isL d' with
  | false =>
   have hdq:dropQ q' d'=.error 1:=by rw[HDQ,hil,if_pos (Or.inr rfl)]
   rw[hdq] at DR;rw[hil] at IS;clear hdq hqb hil HDQ hm
   have hmi:(m:Int)≤(qc:Int):=by omega
   rcases hcase with ⟨h1,rfl⟩ | ⟨h0,h1,rfl⟩ | ⟨h0,h1,rfl⟩
   all_goals
    go_wp2_with (first
     | ((with_reducible refine (TK.out _ _ (HX3.out.trans zaa) (R3.out.ext zaa)).mono ?_);rintro e' w4 ⟨vx,rfl,rx,xx⟩;have X4:Hid (Ext w3 w4):=Lib.hid (Ext.trans zaa xx);have R4:=Lib.hid rx.inn;clear rx xx)
     | ((with_reducible refine (DR.out _ _ (HX3.out.trans (X4.out.trans zaa)) (R3.out.ext (X4.out.trans zaa))).mono ?_);rintro e' _ ⟨rfl,d2,os2,rfl⟩)
     | ((with_reducible refine (SM.out _ _ (HX3.out.trans (X4.out.trans zaa)) (R3.out.ext (X4.out.trans zaa))).mono ?_);rintro e' _ ⟨rfl,d3,os3,rfl⟩)
     | ((with_reducible refine (QU.out _ (HX3.out.trans (X4.out.trans zaa))).mono ?_);rintro e' _ ⟨rfl,d4,os4,rfl⟩)
     | ((with_reducible refine (ST.out _ _ (HX3.out.trans (X4.out.trans zaa)) (R4.out.ext zaa)).mono ?_);rintro e' _ ⟨rfl,d5,os5,rfl⟩)
     | ((with_reducible refine (IS.out _ (HX3.out.trans (X4.out.trans zaa))).mono ?_);rintro e' _ ⟨rfl,d8,os8,rfl⟩)
     | ((with_reducible refine (AW.out _ (XH.out.trans (HX3.out.trans (X4.out.trans zaa)))).mono ?_);rintro e' _ ⟨rfl,d7,os7,rfl⟩))
   all_goals
    go_ret
    exact⟨rfl,XH.out.trans (HX3.out.trans (X4.out.trans zaa))⟩
  | true =>
   have hdq:dropQ q' d'=.ok (dropF d' q'):=by rw[HDQ,hqb,hil,if_neg zaj]
   rw[hdq] at DR;rw[hil] at IS
   have HLD:Hid ((dropF d' q').length≤100000):=Lib.hid (by have:=List.length_filter_le (fun y:Tx=>askE d' y.c y.t==6) q';unfold dropF;have:=HN.out;omega)
   have RD:=Lib.hid (fun W (hx:Ext w2 W)=>rdrop27_any (.slice qp n qc) q' (.slice dp n2 dc) d' W (HH.out.1.ext hx) zap (HH.out.2.1.ext hx) (by have:=HD2.out;omega));have SD:=Lib.hid (fun W v v' (hx:Ext w2 W) (h:TxIn W v (dropF d' q')) (h':TxIn W v' (dropF d' q'))=>qcH v v' (dropF d' q') W h h' (fun x hx=>HH.out.2.2 x (List.mem_filter.1 hx).1) HLD.out);clear hdq hqb hil HDQ hm
   have hmi:(m:Int)≤(qc:Int):=by omega
   rcases hcase with ⟨h1,rfl⟩ | ⟨h0,h1,rfl⟩ | ⟨h0,h1,rfl⟩
   all_goals
    go_wp2_with (first
     | ((with_reducible refine (TK.out _ _ (HX3.out.trans zaa) (R3.out.ext zaa)).mono ?_);rintro e' w4 ⟨vx,rfl,rx,xx⟩;have X4:Hid (Ext w3 w4):=Lib.hid (Ext.trans zaa xx);have R4:=Lib.hid rx.inn;clear rx xx)
     | ((with_reducible refine (DR.out _ _ (HX3.out.trans (X4.out.trans zaa)) (R3.out.ext (X4.out.trans zaa))).mono ?_);rintro e' w5 ⟨vy,rfl,ry,xy⟩;have X5:Hid (Ext w4 w5):=Lib.hid (Ext.trans zaa xy);have R5:=Lib.hid ry.inn;clear ry xy)
     | ((with_reducible refine (SM.out _ _ (HX3.out.trans (X4.out.trans (X5.out.trans zaa))) (R3.out.ext (X4.out.trans (X5.out.trans zaa)))).mono ?_);rintro e' _ ⟨rfl,d3,os3,rfl⟩)
     | ((with_reducible refine (QU.out _ (HX3.out.trans (X4.out.trans (X5.out.trans zaa)))).mono ?_);rintro e' _ ⟨rfl,d4,os4,rfl⟩)
     | ((with_reducible refine (ST.out _ _ (HX3.out.trans (X4.out.trans (X5.out.trans zaa))) (R4.out.ext (X5.out.trans zaa))).mono ?_);rintro e' _ ⟨rfl,d5,os5,rfl⟩)
     | ((with_reducible refine (IS.out _ (HX3.out.trans (X4.out.trans (X5.out.trans zaa)))).mono ?_);rintro e' _ ⟨rfl,d8,os8,rfl⟩)
     | ((with_reducible refine (RD.out _ (HX3.out.trans (X4.out.trans (X5.out.trans zaa)))).mono ?_);rintro e' w6 ⟨vd,rfl,rd,xd⟩;have X6:Hid (Ext w5 w6):=Lib.hid (Ext.trans zaa xd);have R6:=Lib.hid rd;clear rd xd)
     | ((with_reducible refine (SD.out _ _ _ (HX3.out.trans (X4.out.trans (X5.out.trans (X6.out.trans zaa)))) (R5.out.ext (X6.out.trans zaa)) (R6.out.ext zaa)).mono ?_);rintro e' _ ⟨rfl,d6,os6,rfl⟩)
     | ((with_reducible refine (AW.out _ (XH.out.trans (HX3.out.trans (X4.out.trans (X5.out.trans (X6.out.trans zaa)))))).mono ?_);rintro e' _ ⟨rfl,d7,os7,rfl⟩))
   all_goals
    go_ret
    exact⟨rfl,XH.out.trans (HX3.out.trans (X4.out.trans (X5.out.trans (X6.out.trans zaa))))⟩
end Go.Proofs.YtpnabjopfpdkhaaGreatDoor
