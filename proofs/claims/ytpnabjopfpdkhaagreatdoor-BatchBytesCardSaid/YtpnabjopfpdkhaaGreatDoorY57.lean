/- Lemmas. -/
import Derived.Test.YtpnabjopfpdkhaaGreatDoorY56
set_option linter.all false
set_option maxHeartbeats 4000000
set_option maxRecDepth 20000
namespace Go.Proofs.YtpnabjopfpdkhaaGreatDoor
open Go.Proofs.Tryz RowKit
attribute [go_sem] more_more Array.size_append
def sl_mid (s:ByteArray) (at_ n:Nat) (h:at_+n<=s.size):∃ s2:ByteArray,s2.data.toList=(s.data.toList.drop at_).take n/\s2.size=n/\∀ W:World,(Instr.slice 9 (.string s) (some (.int .i64 (at_:Int))) (some (.int .i64 ((at_:Int)+(n:Int)))) none).run prog W=.ok (.string s2) W:=by
 refine ⟨s.extract at_ (at_+n),?_,?_,fun W=>?_⟩
 . rw[ByteArray.data_extract,Array.toList_extract];rw[List.extract_eq_take_drop,show at_+n-at_=n by omega]
 . rw[ByteArray.size_extract];omega
 . rw[run_slice_string_if W 9 s .i64 .i64 (at_:Int) ((at_:Int)+(n:Int)) underlying9,if_pos ⟨Y,Y⟩,if_pos ⟨Y,Y⟩,show((at_:Int)).toNat=at_ from by omega,show((at_:Int)+(n:Int)).toNat=at_+n from by omega]
def own_keepB {B k n m:Nat} {T:TypeId} {v:Value} {cs:List Value} {W W':World} (h:W.ownsRow B T n v m cs) (hk:k<B) (hg:W.grownBy W' (some k)):W'.ownsRow B T n v m cs :=
 own_block h fun j hj hl=>hg.block j hl fun q=>by
  have:=(h.lt j hj).1;cases q;omega
def grown_row {w:World} {g:Nat} {old cs:Array Value} {T:TypeId} (hh:w.heap[g]?=some (.cells old T (0,0))):w.grownBy (w.setRow g cs) (some g) :=
 ⟨rfl,rfl,rfl,by simp[World.setRow],fun i _ hi=>setRow_other _ _ _ _ (fun e=>hi (by rw[e]))⟩
def TupT (B:Nat) (t:Tx) (e:Int):Fact:=fun v W=>∃ x,v=.tuple #[txV x,.int .i64 e]/\qas x=t/\TxP B W x
def TupT.upc (B:Nat) (t:Tx) (e:Int):Upc (TupT B t e):=fun v W W' hx ⟨x,h1,h2,h3⟩=>⟨x,h1,h2,h3.ext hx⟩
def OneT (B:Nat) (t:Tx):Fact:=fun v W=>∃ x,v=txV x/\qas x=t/\TxP B W x
def OneT.upc (B:Nat) (t:Tx):Upc (OneT B t):=fun v W W' hx ⟨x,h1,h2,h3⟩=>⟨x,h1,h2,h3.ext hx⟩
def numS_cut {l:List UInt8} {x n:Nat} {e:Int} (hc:cutG 0 0 l=(x,n,e)):numS 18446744073709551615 (l,0)=if e≠0 then(0,l,e) else(x,l.drop n,0):=by
 have hx:=(qbe hc).1;unfold numS;rw[if_neg (show ¬ (0:Int)≠0 by simp),qcE _ hc,if_neg (show ¬ 18446744073709551615<x by omega)]
def BatF (done:List Tx) (m:Nat) (tl:List UInt8) (E:Int) (r:List Tx × Int):Prop:=(E=0/\resX (done.map qas) m tl=r)\/(E≠0/\r=([],E))
def rdecode27_any (s:ByteArray) (l:List UInt8) (hsl:s.data.toList=l) (w:World) (hm:s.size<=1000000000) (ts:List Tx) (e:Int) (hr:decL l=(ts,e)) :
  Calls prog 26 #[.string s] w fun r w'=>∃ v xs,r=.returned (.tuple #[v,.int .i64 e])/\xs.map qas=ts/\TxIn w' v xs/\(∀ x∈xs,TxSm x)/\xs.length<=64/\Ext w w':=by
 obtain⟨i0,hi,hz0,hz1,hz2⟩:=info_parts txInfo;obtain⟨n0,s0,e0,h0⟩:∃ a b c,numS 64 (l,0)=(a,b,c):=⟨_,_,_,rfl⟩
 have hn64:=qbQ h0
 have HB0:Hid (BatF [] n0 s0 e0 (ts,e)):=J (by
  have h1:numC 64 l=(n0,s0,e0):=by unfold numS at h0;rwa [if_neg zy] at h0
  unfold decL at hr;rw[h1] at hr;dsimp only at hr;by_cases q:e0=0
  . rw[if_neg (by simpa using q)] at hr;exact .inl ⟨q,by rw[List.map_nil,resX_nil _ _ (decsC_nil _ _)];exact hr⟩
  . rw[if_pos q] at hr
    exact .inr ⟨q,hr.symm⟩)
 have N0:=J (qfa h0 (show s.data.toList.drop 0=l from by rw[List.drop_zero];exact hsl));have hx64:(n0:Int)<=64:=Y;have wr0:IntKind.i64.wrap (n0:Int)=(n0:Int):=IntWalk.i64_in _ Y
 have C:=J (show RtS w w.heap.size s 0 0 (w.alloc (.cells #[.string s,.int .i64 0,.int .i64 0] 95 (0,0))) from
  ⟨KB.new _ _ _,Nat.zero_le _,hm,Nat.le_refl _,zq⟩)
 have HM:=J hm;clear h0 hr hm hn64;go_enter func26,ntmps26
 go_wp2_with ((with_reducible refine Calls.mono (qcg 64 zw C.out n0 s0 e0 N0.out) ?_);rintro r W1 ⟨rfl,at1,hd,hC,hG⟩;have HD1:=J hd;have C:=J hC;have hw1:w.heap.size<W1.heap.size:=hC.lt;clear hd hC hG)
 go_loopw [6,7] (fun o i wr=>∃ (k at_:Nat) (E:Int) (done:List Tx) (p:Option Addr) (c:Nat),o=.slice p k c/\i=.int .i64 (k:Int)/\k<=n0/\Hid (done.length=k)/\Hid (BatF done (n0-k) (s.data.toList.drop at_) E (ts,e))/\Hid (RtS w w.heap.size s at_ E wr)/\Hid (wr.ownsRow (w.heap.size+1) 27 6 (.slice p k c) k (txC done))/\Hid (∀ x∈done,TxP (w.heap.size+1) wr x)) (fun _ i _=>n0-(intOf i).toNat)
 case atStart=>exact⟨0,at1,e0,[],none,0,rfl,rfl,Nat.zero_le _,J rfl,J (by rw[HD1.out];exact HB0.out),C,J (World.ownsRow_nil _ _ _ _),J (fun x hm=>absurd hm zy)⟩
 case round =>
  clear C HD1 HB0;obtain⟨k,at_,E,done,p,c,rfl,rfl,hk,HDL,HB,C,HO,HX⟩:=hrel;obtain⟨hK,ha,-,-,hX⟩:=C.out;have X:=J hX;obtain⟨⟨kl,k0,k1,k2⟩,kf⟩:=kb3f hK;clear hK hX;by_cases hE:E=0;rotate_left
  . have hE1:(E==0)=false:=(by simpa using hE)
    have hE2:(E !=0)=true:=by simpa using hE
    have hr:(ts,e)=([],E):=by
     rcases HB.out with ⟨h,_⟩ | ⟨_,h⟩
     . exact absurd h hE
     . exact h
    cases hr;clear hE;by_cases hlt:k<n0
    all_goals
     first | (have hltz:((k:Int)<(n0:Int))=True:=eq_true Y) | (have hltz:((k:Int)<(n0:Int))=False:=eq_false Y)
     go_upto_region 18 with fail
     go_region
     go_wp2_with fail;go_ret2
     exact⟨_,[],rfl,rfl,nilTx _,zy,zy,X.out.trans zq⟩
  subst hE
  have HS:Hid (resX (done.map qas) (n0-k) (s.data.toList.drop at_)=(ts,e)):=J (by
   rcases HB.out with ⟨_,h⟩ | ⟨h,_⟩
   . exact h
   . exact absurd rfl h)
  have hq:s.data.toList.length=s.size:=rfl;by_cases hlt:k<n0
  case neg =>
   have hkn:n0=k:=Y;subst hkn;have HE:=HS.out;rw[Nat.sub_self,resX_end] at HE;by_cases z:at_=s.size
   . have z1:((at_:Int)<(s.size:Int))=False:=eq_false Y;rw[if_pos (List.drop_eq_nil_of_le Y)] at HE;cases HE;clear hlt hk z;go_wp2_with fail;go_ret2;exact⟨.slice p n0 c,done,rfl,rfl,⟨fun x hx=>(HX.out x hx).at_,RowIn.own (B:=w.heap.size+1) (T:=27) qca (by rw[HDL.out];exact HO.out)⟩,fun x hx=>(HX.out x hx).sm,by rw[HDL.out];omega,X.out⟩
   . have z1:((at_:Int)<(s.size:Int))=True:=eq_true Y;rw[if_neg (fun e=>by have:=congrArg List.length e;rw[List.length_drop] at this;simp at this;omega)] at HE;cases HE;clear hlt hk z
     go_upto_region 18 with fail
     go_region
     go_wp2_with fail;go_ret2
     exact⟨_,[],rfl,rfl,nilTx _,zy,zy,(ext_setNew X.out (Nat.le_refl _)).trans zq⟩
  obtain⟨x1,n1,e1,hc⟩:∃ x n e,cutG 0 0 (s.data.toList.drop at_)=(x,n,e):=⟨_,_,_,rfl⟩
  have hbd:=qbe hc;obtain⟨m,hm2⟩:∃ m,n0-k=m+1:=⟨n0-k-1,Y⟩
  rw[hm2] at HS;have hlt2:(k:Int)<(n0:Int):=Y;by_cases z:e1=0;rotate_left
  . have z1:(e1==0)=false:=(by simpa using z)
    have z2:(e1 !=0)=true:=(by simpa using z)
    have HE:=HS.out;rw[resX_bad _ _ hc z] at HE;cases HE;have NN:=J (numS_cut hc);have NN:=J (by have:=NN.out;rwa [if_pos z] at this);clear hm2 hc z
    go_upto_region 18 with ((with_reducible refine Calls.mono (qcg 18446744073709551615 zw C.out _ _ _ NN.out) ?_);rintro r W2 ⟨rfl,at2,-,hC,-⟩;obtain⟨hK2,ha2,-,-,hX2⟩:=hC;have X2:=J hX2;obtain⟨⟨ml,m0,m1,m2⟩,mf⟩:=kb3f hK2;clear hK2 hX2)
    go_region
    go_wp2_with fail;go_ret2
    exact⟨_,[],rfl,rfl,nilTx _,zy,zy,X2.out.trans zq⟩
  subst z;have NN:=J (numS_cut hc);have NN:=J (by have:=NN.out;rwa [if_neg (show ¬ (0:Int)≠0 by simp)] at this);have hsz:s.size<=1000000000:=HM.out
  go_upto_region 8 with ((with_reducible refine Calls.mono (qcg 18446744073709551615 zw C.out _ _ _ NN.out) ?_);rintro r W2 ⟨rfl,at2,hd,hC,hG⟩;have HD2:=J hd;have C2:=J hC;have G2:=J hG;obtain⟨hK2,ha2,-,-,hX2⟩:=hC;have X2:=J hX2;obtain⟨⟨ml,m0,m1,m2⟩,mf⟩:=kb3f hK2;clear hK2 hX2 hd hG)
  have hl2:((s.data.toList.drop at_).drop n1).length=s.size-at2:=by rw[<-HD2.out,List.length_drop,hq]
  have wsub:IntKind.i64.wrap ((s.size:Int)-(at2:Int))=((s.size-at2:Nat):Int):=by rw[IntWalk.i64_in _ Y];omega
  have wcv:IntKind.u64.wrap ((s.size-at2:Nat):Int)=((s.size-at2:Nat):Int):=IntWalk.u64_in _ Y;have HO2:=J (own_keepB HO.out (Nat.lt_succ_self _) G2.out);have HX2:=J (fun x hx=>TxP.keep (HX.out x hx) (Nat.lt_succ_self _) G2.out);obtain⟨lf,hlf⟩:∃ lf,s.size-at2=lf:=⟨_,rfl⟩
  rw[hlf] at hl2 wsub wcv;by_cases zs:lf<x1
  . have zs1:((lf:Int)<(x1:Int))=True:=eq_true Y;have HE:=HS.out;rw[qgb _ _ hc (by rw[hl2];exact zs)] at HE;cases HE;clear hm2 hc hl2 zs
    go_upto_region 18 with fail
    go_region
    go_wp2_with fail;go_ret2
    exact⟨_,[],rfl,rfl,nilTx _,zy,zy,(ext_setNew X2.out (Nat.le_refl _)).trans zq⟩
  have zs1:((lf:Int)<(x1:Int))=False:=eq_false Y;obtain⟨s2,hs2,hz2',hslm⟩:=sl_mid s at2 x1 Y;obtain⟨t2,e2,hd2⟩:∃ t e,decT ((s.data.toList.drop at2).take x1)=(t,e):=⟨_,_,rfl⟩
  have wx:IntKind.i64.wrap (x1:Int)=(x1:Int):=IntWalk.i64_in _ Y;have wa:IntKind.i64.wrap ((at2:Int)+(x1:Int))=(at2:Int)+(x1:Int):=IntWalk.i64_in _ Y;obtain⟨rp,hrp⟩:∃ r,TupT (w.heap.size+1) t2 e2=r:=⟨_,rfl⟩
  obtain⟨ry,hry⟩:∃ r,OneT (w.heap.size+1) t2=r:=⟨_,rfl⟩
  have UP:=J (show Upc rp from hrp ▸ TupT.upc _ _ _);have UY:=J (show Upc ry from hry ▸ OneT.upc _ _);have PE:=J (show ∀ v W,rp v W->∃ v',v=.tuple #[v',.int .i64 e2]/\ry v' W from fun v W h=>by rw[<-hrp] at h;rw[<-hry];obtain⟨x,h1,h2,h3⟩:=h;exact⟨_,h1,x,rfl,h2,h3⟩);have YE:=J (show ∀ v W',ry v W'->OneT (w.heap.size+1) t2 v W' from fun v W' h=>by rw[<-hry] at h;exact h);have hb2:w.heap.size+1<=W2.heap.size:=Y
  have AP:=J (show ∀ W3,Ext W2 W3->Calls prog 49 #[.string s2] W3 (RetG W3 rp) from fun W3 hx=>(qgO s2 _ hs2 W3 Y).mono fun r W4 ⟨x,g1,g2,g3,g4⟩=>by
   rw[hd2] at g1 g2
   exact⟨_,g1,g4,hrp ▸ ⟨x,rfl,g2,TxP.low g3 (Nat.le_trans hb2 hx.size)⟩⟩)
  have HNX:Hid (∀ y,qas y=t2->BatF (done++[y]) m (s.data.toList.drop (at2+x1)) e2 (ts,e)):=J (fun y hy=>by
   have HE:=HS.out;by_cases q:e2=0
   . rw[resX_step _ _ hc (by rw[hl2];exact zs) (by rw[<-HD2.out,hd2];exact q),<-HD2.out,hd2] at HE;refine .inl ⟨q,?_⟩;rw[List.map_append,List.map_cons,List.map_nil,hy,<-List.drop_drop];exact HE
   . rw[resX_tx _ _ hc (by rw[hl2];exact zs) (by rw[<-HD2.out,hd2];exact q),<-HD2.out,hd2] at HE
     exact .inr ⟨q,HE.symm⟩)
  have HM2:=J hm2;clear hrp hry hs2 hd2 hl2 hc hm2
  go_upto_region 11 with fail
  refine qaa 18 117 [false,false,false,false,false,false,false,false,false,false,false,false,false,false,false,false,true,false] zv zv rfl ?_;refine zh ?_
  iterate 13 (refine Lex.step rfl ?_;intro K hK;unfold StepG;go_simp;refine hK _ ?_;clear hK K)
  refine Lex.gap 70 rp rfl UP.out rfl (fun d os=>?_) ?_
  . unfold StepG;go_simp;exact AP.out _ zq
  refine Lex.gap1 56 rp 70 rp rfl UP.out rfl (fun u d os hu=>?_) ?_
  . unfold StepG;go_simp;exact hu
  refine Lex.gap1 71 ry 56 rp rfl UY.out rfl (fun u d os hu=>?_) ?_
  . obtain⟨v',rfl,hy⟩:=PE.out _ _ hu;unfold StepG;go_simp;exact hy
  refine Lex.det (.int .i64 e2) (fun W hE=>?_) ?_
  . rw[show looks _ _ _=[(56,rp)] from rfl];intro u hu;obtain⟨v',rfl,hy⟩:=PE.out _ _ hu;unfold FillH StepK PureStep;simp only[Region.wanted,if_true];refine ⟨_,fun w=>?_,rfl⟩;go_simp
  refine Lex.alloc 9 (.cells #[.int .i64 0,.int .i64 0,.slice none 0 0,.slice none 0 0,.string ⟨#[]⟩,.int .i64 0] 27) rfl rfl (fun d os=>?_) ?_
  . unfold StepG;go_simp;exact ja
  refine Lex.nil fun WW hE=>?_
  intro v9 h9 v71 h71 v56 h56 v70 h70;obtain⟨g,rfl,hg,hh⟩:=h9;obtain⟨y,rfl,hy1,hy2⟩:=YE.out _ _ h71;have O1:=J (tx_one hy2.at_);have XE:=J hE;have HY:=J (And.intro hy1 hy2);have hgk:w.heap.size<g:=Y;clear h56 h70 h71 hE hy1 hy2;unfold FillH
  go_wp2_with (refine wpList_store_rowTo rfl 27 _ _ rfl rfl g (txA y.c y.t y.rv y.wv y.src y.gas) rfl rfl 27 _ hh zv rfl (qgS _ _ _ _ _ _ O1.out.1 O1.out.2) ?_)
  rw[ends_normal];have HH:=J hh;have RG:=J (grown_row (cs:=txA y.c y.t y.rv y.wv y.src y.gas) hh);have K4:=J (show KB g (txA y.c y.t y.rv y.wv y.src y.gas) 27 (WW.setRow g (txA y.c y.t y.rv y.wv y.src y.gas)) from setRow_heap _ _ _ _ _ _ hh);have X4:=J (show Ext W2 (WW.setRow g (txA y.c y.t y.rv y.wv y.src y.gas)) from Ext.setRow XE.out hg _);have TY4:=J (TxP.grown HY.out.2 RG.out (fun j hj=>by cases hj;exact⟨_,_,HH.out⟩));clear hh RG HH;obtain⟨W4,hW4⟩:∃ W4,WW.setRow g (txA y.c y.t y.rv y.wv y.src y.gas)=W4:=⟨_,rfl⟩
  rw[hW4] at K4 X4 TY4 ⊢;clear hW4;have C4:=J (RtS.ext C2.out X4.out);have HO4:=J (own_ext HO2.out X4.out);have HX4:=J (fun x hx=>TxP.ext (HX2.out x hx) X4.out);obtain⟨hK4,-,-,-,hX4⟩:=C4.out;have X4w:=J hX4;clear ml m0 m1 m2 mf kl k0 k1 k2 kf;obtain⟨⟨ml,m0,m1,m2⟩,mf⟩:=kb3f hK4;clear hK4 hX4
  go_upto_region 14 with fail
  have hle:at2+x1<=s.size:=Y;have C5:=J ((RtS.adv C4.out hle (z:=(at2:Int)+(x1:Int)) zy).err e2);have K5:=J ((K4.out.setOther 1 (.int .i64 ((at2:Int)+(x1:Int))) Y).setOther 2 (.int .i64 e2) Y:KB g _ _ ((W4.setCell ⟨w.heap.size,1,none⟩ (.int .i64 ((at2:Int)+(x1:Int)))).setCell ⟨w.heap.size,2,none⟩ (.int .i64 e2)));have HO5:=J (own_keepB HO4.out (Nat.lt_succ_self _) (qak (qak (grown_refl W4 (some w.heap.size)) 1 (.int .i64 ((at2:Int)+(x1:Int)))) 2 (.int .i64 e2)));have HX5:=J (fun x hx=>TxP.keep (HX4.out x hx) (Nat.lt_succ_self _) (qak (qak (grown_refl W4 (some w.heap.size)) 1 (.int .i64 ((at2:Int)+(x1:Int)))) 2 (.int .i64 e2)));have TY5:=J (TxP.keep TY4.out (Nat.lt_succ_self _) (qak (qak (grown_refl W4 (some w.heap.size)) 1 (.int .i64 ((at2:Int)+(x1:Int)))) 2 (.int .i64 e2)));obtain⟨W5,hW5⟩:∃ W5,(W4.setCell ⟨w.heap.size,1,none⟩ (.int .i64 ((at2:Int)+(x1:Int)))).setCell ⟨w.heap.size,2,none⟩ (.int .i64 e2)=W5:=⟨_,rfl⟩
  rw[hW5] at C5 K5 HO5 HX5 TY5 ⊢;clear hW5 ml m0 m1 m2 mf K4 C4 HO4 HX4 TY4 X4w;obtain⟨yc,yt,yr,yw,ys,yg,yrd,ywr⟩:=y;dsimp only at K5 O1;obtain⟨⟨gl,g0,g1,g2,g3,g4,g5⟩,gf⟩:=kb6f (show KB g #[.int .i64 yc,.int .i64 yt,yr,yw,.string ys,.int .i64 yg] 27 W5 from K5.out);obtain⟨-,-,-,-,hX5⟩:=C5.out;have X5:=J hX5;clear hX5
  go_wp2_with (at_builtin;refine wpList_append_own_at _ rfl _ _ 22 rfl (w.heap.size+1) 27 i0 (.agg #[.int .i64 0,.int .i64 0,.slice none 0 0,.slice none 0 0,.string ⟨#[]⟩,.int .i64 0]) 6 88 underlying22 hi hz0 hz1 hz2 rfl zw (.slice p k c) k (txC done) rfl ?c0 ⟨_,0,none⟩ 1 1 [.int .i64 yc,.int .i64 yt,yr,yw,.string ys,.int .i64 yg] rfl rfl ?c1 ?c2 ?c3 ?c4 ?c5 ?_)
  case c0=>exact own_ext HO5.out zq
  try case c1=>exact news_kb (KB.new _ _ _)
  case c2=>intro u hu;simp at hu;rcases hu with rfl | rfl | rfl | rfl | rfl | rfl;all_goals first | rfl | exact O1.out.1 | exact O1.out.2
  case c3=>unfold maxLen;omega
  case c4=>omega
  case c5=>have h1:=X5.out.size;simp;omega
  intro v' w7 hown hgrow _ _;obtain⟨p7,c7,rfl⟩:=qad hown;have XA5:=J (show Ext W5 (W5.alloc (.cells #[.int .i64 yc,.int .i64 yt,yr,yw,.string ys,.int .i64 yg] 27)) from zq);have HOA:=J (own_ext HO5.out XA5.out)
  have hty:∀ j,(Value.slice p k c).ownBlock=some j->∃ cs fr,(W5.alloc (.cells #[.int .i64 yc,.int .i64 yt,yr,yw,.string ys,.int .i64 yg] 27)).heap[j]?=some (.cells cs 27 fr):=fun j hj=>by
   obtain⟨cur,h⟩:=own_type HOA.out hj;exact⟨_,_,h⟩
  have hX7:Ext w w7:=Ext.grown (X5.out.trans XA5.out) hgrow (fun j hj=>by have:=HOA.out.lt j (by rw[<-hj]);omega);have C7:Hid (RtS w w.heap.size s (at2+x1) e2 w7):=J ⟨(hgrow.block w.heap.size (RtS.ext C5.out XA5.out).lt (fun e=>by have:=(HOA.out.lt _ e.symm).1;omega)).trans (RtS.ext C5.out XA5.out).1,hle,HM.out,Nat.le_refl _,hX7⟩
  have HX7:Hid (∀ x∈done++[⟨yc,yt,yr,yw,ys,yg,yrd,ywr⟩],TxP (w.heap.size+1) w7 x):=J (fun x hx=>by
   rcases List.mem_append.1 hx with hx | hx
   . exact TxP.grown (TxP.ext (HX5.out x hx) XA5.out) hgrow hty
   . rw[List.mem_singleton.1 hx]
     exact TxP.grown (TxP.ext TY5.out XA5.out) hgrow hty)
  have HC:txC (done++[⟨yc,yt,yr,yw,ys,yg,yrd,ywr⟩])=txC done++[.int .i64 yc,.int .i64 yt,yr,yw,.string ys,.int .i64 yg]:=by rw[qfl];simp[txC,txL]
  have HO7:Hid (w7.ownsRow (w.heap.size+1) 27 6 (.slice p7 (k+1) c7) (k+1) (txC (done++[⟨yc,yt,yr,yw,ys,yg,yrd,ywr⟩]))):=J (by rw[HC];exact hown);have HB7:=J (HNX.out ⟨yc,yt,yr,yw,ys,yg,yrd,ywr⟩ HY.out.1);have hmk:n0-(k+1)=m:=by have:=HM2.out;omega
  clear hown hgrow hty HC hX7;go_wp2_with fail;go_roundw
  case measure=>simp[intOf];omega
  case rel=>exact⟨k+1,at2+x1,e2,done++[⟨yc,yt,yr,yw,ys,yg,yrd,ywr⟩],p7,c7,rfl,by go_num,Y,J (by rw[List.length_append,HDL.out];rfl),J (by rw[hmk];exact HB7.out),C7,HO7,HX7⟩
end Go.Proofs.YtpnabjopfpdkhaaGreatDoor
