/- Lemmas. -/
import Derived.Test.YtpnabjopfpdkhaaGreatDoorA44
set_option linter.unusedSimpArgs false
set_option linter.unusedVariables false
set_option maxHeartbeats 4000000
set_option maxRecDepth 20000
namespace Go.Proofs.YtpnabjopfpdkhaaGreatDoor
open Go.RowKit
attribute [go_sem] more_more Array.size_append
theorem find_uniq {l:List La} {c:Int} {k:Nat} {x:La} (hs:l.Pairwise (fun a b=>a.c<b.c)) (hx:l[k]?=some x) (hc:x.c=c):l.find? (fun x=>x.c==c)=some x:=by
 obtain⟨hk,he⟩:=List.getElem?_eq_some_iff.1 hx
 rw[List.find?_eq_some_iff_getElem];refine ⟨by simp[hc],k,hk,he,fun j hj=>?_⟩
 have:=List.pairwise_iff_getElem.1 hs j k zac hk hj
 rw[he] at this
 simp;omega
theorem rask_any (v:Value) (l:List La) (c t:Int) (w:World) (h:LaAt w v l) (hl:l.length≤100000):Calls Tryz.prog 34 #[v,.int .i64 c,.int .i64 t] w fun e w'=>e=.returned (.tuple #[.agg (rsC (askR l c t)),.int .i64 (askE l c t)])∧Ext w w':=by
 have IS:=Lib.hid (fun W (hx:Ext w W)=>ris26_any v l W (h.ext hx) hl);have CB:=Lib.hid (fun W=>qfk c t W)
 obtain⟨⟨pp,cap,rfl,-,-,hr⟩,hv⟩:=h
 obtain⟨n,hn⟩:∃ n,l.length=n:=⟨_,rfl⟩
 have HN:=Lib.hid hn;rw[hn] at hl IS ⊢;have HC:=Lib.hid hr;clear hr hv hn
 have HEZ:askE l c t=if isL l=false∨qbD c t=false then 1 else match timeL l c with
  | none=>6
  | some u=>if u<t then 6 else if t<u then 18 else 0:=rfl
 cases his:isL l
 · have e1:askE l c t=1:=by rw[HEZ,his];simp
   have e2:askR l c t=la0:=by unfold askR;rw[e1];simp
   rw[e1,e2];rw[his] at IS;clear HEZ his e1 e2;go_enter Tryz.func34,Tryz.ntmps34
   go_wp2_with (first
    | (go_at_call 20;(with_reducible refine (IS.out _ zaa).mono ?_);rintro e' _ ⟨rfl,d1,os1,rfl⟩)
    | ((with_reducible refine (CB.out _).mono ?_);rintro e' _ ⟨rfl,d2,os2,rfl⟩))
   try go_wp2_with fail
   exact yaf
 rw[his] at IS;have hs:=(isL_iff l).1 his |>.2
 cases hcb:qbD c t
 · have e1:askE l c t=1:=by rw[HEZ,hcb];simp
   have e2:askR l c t=la0:=by unfold askR;rw[e1];simp
   rw[e1,e2];rw[hcb] at CB;clear HEZ his e1 e2 hs hcb;go_enter Tryz.func34,Tryz.ntmps34
   go_wp2_with (first
    | (go_at_call 20;(with_reducible refine (IS.out _ zaa).mono ?_);rintro e' _ ⟨rfl,d1,os1,rfl⟩)
    | ((with_reducible refine (CB.out _).mono ?_);rintro e' _ ⟨rfl,d2,os2,rfl⟩))
   try go_wp2_with fail
   exact yaf
 rw[hcb] at CB;rw[his,hcb,if_neg zaj] at HEZ;have HE:=Lib.hid HEZ;have HS:=Lib.hid hs
 obtain⟨ae,hae⟩:∃ z,askE l c t=z:=⟨_,rfl⟩
 obtain⟨ar,har⟩:∃ z,askR l c t=z:=⟨_,rfl⟩
 have HR:=Lib.hid (show ar=if ae=0 then(l.find? (fun x=>x.c==c)).getD la0 else la0 from by rw[←har,←hae];rfl);rw[hae] at HE ⊢;rw[har];clear HEZ his hs hcb hae har;go_enter Tryz.func34,Tryz.ntmps34
 go_wp2_with (first
   | (go_at_call 20;(with_reducible refine (IS.out _ zaa).mono ?_);rintro e' _ ⟨rfl,d1,os1,rfl⟩)
   | ((with_reducible refine (CB.out _).mono ?_);rintro e' _ ⟨rfl,d2,os2,rfl⟩))
 have HW:=Lib.hid (KB.new w #[.int .i64 0,.int .i64 0,.int .i64 0,.string ⟨#[]⟩,.int .i64 0] 47);go_loopw [8] (fun i wr=>∃ k:Nat,i=.int .i64 (k:Int)∧k≤n∧Ext (w.alloc (.cells #[.int .i64 0,.int .i64 0,.int .i64 0,.string ⟨#[]⟩,.int .i64 0] 47 (0,0))) wr∧RowKit.Hid (∀ j x,j<k→l[j]?=some x→x.c=c→x.t<t)) (fun i _=>n-(intOf i).toNat)
 case atStart=>exact⟨0,rfl,Nat.zero_le _,zaa,Lib.hid fun j x hj=>absurd hj (Nat.not_lt_zero _)⟩
 case round =>
  obtain⟨k,rfl,hk,⟨d,os,rfl⟩,A⟩:=hrel
  by_cases hlt:k<n
  case neg =>
   have hkn:k=n:=by omega
   subst hkn
   have ER:ae=6:=by
    rw[HE.out];unfold timeL
    cases hq:l.find? (fun x=>x.c==c) with
    | none=>rfl
    | some x =>
     have hm:=List.mem_of_find?_eq_some hq;have hc:=List.find?_some hq
     obtain⟨j,hj⟩:=List.getElem?_of_mem hm
     have:=A.out j x (by have:=(List.getElem?_eq_some_iff.1 hj).1;rw[HN.out] at this;exact this) hj (by simpa using hc)
     dsimp only[Option.map_some];rw[if_pos this]
   have RR:ar=la0:=by rw[HR.out,ER];simp
   subst ER RR;clear hk hlt;go_wp2_with fail;exact yai
  have hltz:(k:Int)<(n:Int):=by omega
  have hk0:(0:Int)≤(k:Int):=by omega
  obtain⟨x,hx⟩:∃ x,l[k]?=some x:=⟨_,List.getElem?_eq_getElem zap⟩
  obtain⟨b,off,rfl,hc⟩:=HC.out k x hx
  have c0:=hc 0 _ rfl;have c1:=hc 1 _ rfl;have c2:=hc 2 _ rfl;have c3:=hc 3 _ rfl;have c4:=hc 4 _ rfl;have c5:=hc 5 _ rfl;have c6:=hc 6 _ rfl;have hbl:=World.block_lt_of_cell? _ _ c0;simp only[Nat.add_zero] at c0 hbl;have HX:=Lib.hid hx;have HLT:=Lib.hid hlt;have HU:=Lib.hid (fun (e:x.c=c)=>find_uniq HS.out hx e);have HAE:=Lib.hid (fun (e:x.c=c)=>show ae=if x.t<t then 6 else if t<x.t then 18 else 0 from by rw[HE.out];unfold timeL;rw[HU.out e];rfl);clear hc hx hlt
  obtain⟨xc,xt,xe,xk,xi,xs,xv⟩:=x
  dsimp only at c0 c1 c2 c3 c4 c5 c6
  by_cases h1:xc=c
  rotate_left
  · have q1:(xc==c)=false:=by simpa using h1
    clear h1;go_wp2_with fail;go_roundw
    case rel=>exact⟨k+1,by go_num,by have:=HLT.out;omega,zaa,Lib.hid fun j y hj hy hyc=>by
     by_cases e:j=k
     · subst e;rw[HX.out] at hy;cases hy;simp at q1;exact absurd hyc q1
     · exact A.out j y zac hy hyc⟩
    case measure=>simp[intOf];have:=HLT.out;omega
  have q1:(xc==c)=true:=by simpa using h1
  have HA2:=Lib.hid (HAE.out h1);have HU2:=Lib.hid (HU.out h1);clear h1 HAE HU
  by_cases h2:xt=t
  · have ER:ae=0:=by rw[HA2.out];dsimp only;rw[if_neg zac,if_neg zac]
    have RR:ar=⟨xc,xt,xe,xk,xi,xs,xv⟩:=by rw[HR.out,ER,HU2.out];rfl
    subst ER RR
    have q2:(xt==t)=true:=by simpa using h2
    clear h2;go_wp2_with fail;exact bodyPost_ret (v:=.tuple #[.agg #[.int .i64 xe,.int .i64 xk,.int .i64 xi,.string xs,.int .i64 xv],.int .i64 0]) (rcell_slot rfl _ _ ⟨w.heap.size,0,none⟩ _ rfl (qbd (cs:=#[.int .i64 xe,.int .i64 xk,.int .i64 xi,.string xs,.int .i64 xv]) ((KB.new w _ _).of_ext zaa) rfl) _ rfl) rfl ⟨rfl,zaa⟩
  have q2:(xt==t)=false:=by simpa using h2
  by_cases h3:t<xt
  · have ER:ae=18:=by rw[HA2.out];dsimp only;rw[if_neg zac,if_pos h3]
    have RR:ar=la0:=by rw[HR.out,ER];simp
    subst ER RR;clear h2;go_wp2_with fail;exact bodyPost_ret (v:=.tuple #[.agg #[.int .i64 0,.int .i64 0,.int .i64 0,.string ⟨#[]⟩,.int .i64 0],.int .i64 18]) (rcell_slot rfl _ _ ⟨w.heap.size,0,none⟩ _ rfl (qbd (cs:=#[.int .i64 0,.int .i64 0,.int .i64 0,.string ⟨#[]⟩,.int .i64 0]) ((KB.new w _ _).of_ext zaa) rfl) _ rfl) rfl ⟨rfl,zaa⟩
  have q3:xt<t:=by omega
  have q4:(t<xt)=False:=by simp;omega
  clear h2 h3;go_wp2_with fail;go_roundw
  case rel=>exact⟨k+1,by go_num,by have:=HLT.out;omega,zaa,Lib.hid fun j y hj hy hyc=>by
   by_cases e:j=k
   · subst e;rw[HX.out] at hy;cases hy;exact q3
   · exact A.out j y zac hy hyc⟩
  case measure=>simp[intOf];have:=HLT.out;omega
end Go.Proofs.YtpnabjopfpdkhaaGreatDoor
