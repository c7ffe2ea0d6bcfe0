/- Lemmas. -/
import Derived.Test.YtpnabjopfpdkhaaGreatDoorA42
import Derived.Test.YtpnabjopfpdkhaaGreatDoorA45
import Derived.Deep.DeepCutAuto
import Derived.Deep.CutBlock
set_option linter.unusedSimpArgs false
set_option linter.unusedVariables false
set_option maxHeartbeats 4000000
set_option maxRecDepth 20000
namespace Go.Proofs.YtpnabjopfpdkhaaGreatDoor
open Go.RowKit
variable {B:Nat} {w:World}
attribute [go_sem] more_more Array.size_append
theorem RowF.grown {l:List ByteArray} {v:Value} {W W':World} {row:Option Nat} (h:RowF B l v W) (hg:W.grownBy W' row) (hr:∀ g,row=some g→∃ cs fr,W.heap[g]?=some (.cells cs 27 fr)):RowF B l v W':=by
 obtain⟨p,c,hv,h1,h2⟩:=h
 refine ⟨p,c,hv,h1,?_⟩
 rcases h2 with h | ⟨g,cap,cur,e,hb,hg2,r⟩
 · exact .inl h
 · refine .inr ⟨g,cap,cur,e,hb,(hg.block g (qaY hg2) (fun e=>?_)).trans hg2,r⟩
   obtain⟨cs,fr,h3⟩:=hr g e.symm
   rw[hg2] at h3
   simp at h3
def TxFw (B:Nat) (w:World) (l:List Tx):Prop:=∀ x∈l,(∃ y a b,x=fewT y a b)∧RowF B x.rd x.rv w∧RowF B x.wr x.wv w∧TxAt w x
theorem TxFw.ext {w':World} {l:List Tx} (h:TxFw B w l) (hx:Ext w w'):TxFw B w' l:=fun x hm=>by
 obtain⟨h1,h2,h3,h4⟩:=h x hm
 exact⟨h1,RowF.upc _ _ _ _ _ hx h2,RowF.upc _ _ _ _ _ hx h3,h4.ext hx⟩
theorem TxFw.grown {w':World} {l:List Tx} {row:Option Nat} (h:TxFw B w l) (hg:w.grownBy w' row) (hr:∀ g,row=some g→∃ cs fr,w.heap[g]?=some (.cells cs 27 fr)):TxFw B w' l:=fun x hm=>by
 obtain⟨⟨y,a,b,rfl⟩,h2,h3,h4⟩:=h x hm
 have g2:=RowF.grown h2 hg hr;have g3:=RowF.grown h3 hg hr
 exact⟨⟨y,a,b,rfl⟩,g2,g3,g2.pats,g3.pats,h4.2.2⟩
theorem few25_any (v:Value) (l:List Tx) (w:World) (h:TxIn w v l) (hl:l.length≤140737488351232) :
  Calls Tryz.prog 7 #[v] w fun e w'=>∃ v' l',e=.returned v'∧l'.length≤66∧TxFw w.heap.size w' l'∧w'.ownsRow w.heap.size 27 6 v' l'.length (txC l')∧Ext w w':=by
 obtain⟨i0,hi,hz0,hz1,hz2⟩:=info_parts txInfo
 obtain⟨ht,pp,cap,rfl,hcap,hmx,hr⟩:=h
 obtain⟨n,hn⟩:∃ n,l.length=n:=⟨_,rfl⟩
 rw[hn] at hcap hl ⊢;have HN:=Lib.hid hn;have HT:=Lib.hid ht;have HR:=Lib.hid hr
 obtain⟨m,hm⟩:∃ m,m=min n 66:=⟨_,rfl⟩
 have HM:=Lib.hid hm
 have hm66:m≤66:=by omega
 have hmn:m≤n:=by omega
 have hmi:(m:Int)≤66:=by omega
 have hln:(n:Int)≤140737488351232:=by omega
 clear ht hr hn hm;go_enter Tryz.func7,Tryz.ntmps7
 go_upto_if 7 with fail
 go_cut [0] (fun s0 wx=>s0=.slice pp m cap∧w=wx)
 case first =>
  by_cases hbig:(66:Int)<n
  · have hmm:m=66:=by have:=HM.out;omega
    subst hmm
    have h20:(66:Int)≤cap:=by omega
    go_wp2_with fail
    go_meet
    exact⟨rfl,rfl⟩
  · have hmm:m=n:=by have:=HM.out;omega
    subst hmm;go_wp2_with fail
    go_meet
    exact⟨rfl,rfl⟩
 case rest =>
  obtain⟨rfl,rfl⟩:=hcut
  go_wp2_with fail;go_loopw [3,4] (fun lv ii wr=>∃ (k:Nat),ii=.int .i64 (k:Int)∧k≤m∧Hid (∃ l':List Tx,l'.length=k∧TxFw w.heap.size wr l'∧wr.ownsRow w.heap.size 27 6 lv k (txC l')∧Ext w wr)) (fun _ ii _=>m-(intOf ii).toNat)
  case atStart=>exact⟨0,rfl,Nat.zero_le _,Lib.hid ⟨[],rfl,fun x hx=>by simp at hx,World.ownsRow_nil _ _ _ _,Ext.refl _⟩⟩
  case round =>
   obtain⟨k,rfl,hkm,hH⟩:=hrel
   obtain⟨lv,hlv⟩:∃ x,x=u3:=⟨_,rfl⟩
   subst hlv
   obtain⟨l',hlk,hfw,hown,hxx⟩:=hH.out
   by_cases hlt:k<m
   case neg =>
    have hk:k=m:=by omega
    subst hk;subst hlk;clear hlt;go_wp2_with fail;go_ret
    exact⟨_,l',rfl,hm66,hfw,hown,hxx⟩
   obtain⟨x,hsx⟩:∃ x,l[k]?=some x:=⟨_,List.getElem?_eq_getElem zap⟩
   obtain⟨b,off,rfl,hc⟩:=HR.out k x hsx
   have c0:=qad (hc 0 _ rfl) hxx;have c1:=qad (hc 1 _ rfl) hxx;have c2:=qad (hc 2 _ rfl) hxx;have c3:=qad (hc 3 _ rfl) hxx;have c4:=qad (hc 4 _ rfl) hxx;have c5:=qad (hc 5 _ rfl) hxx;simp only[Nat.add_zero] at c0;have hb1:=World.block_lt_of_cell? _ _ c0;have FT:=Lib.hid (fun W (hx:Ext wr W)=>fewtx_any x W ((HT.out x (List.mem_of_getElem? hsx)).ext (hxx.trans hx)));have HH:=Lib.hid (And.intro hlk (And.intro hfw (And.intro hown hxx)));have HLT:=Lib.hid hlt
   obtain⟨p1,q1,k1,p2,q2,k2,e1,e2⟩:=qbK (HT.out x (List.mem_of_getElem? hsx))
   clear hsx hc hlk hfw hown hxx hH
   obtain⟨xc,xt,xrv,xwv,xs,xg,xrd,xwr⟩:=x
   dsimp only at c0 c1 c2 c3 c4 c5 e1 e2;subst e1 e2;unfold txV at FT;dsimp only[fewT] at FT
   go_wp2_with (first
    | (go_at_call 8;(with_reducible refine (FT.out _ zaa).mono ?_);rintro e' w3 ⟨a,b2,rfl,ra,rb,rt,hx3⟩;have R:=Lib.hid (And.intro ra (And.intro rb (And.intro rt hx3)));clear ra rb rt hx3;obtain⟨pa,ca,hva,-⟩:=R.out.1;obtain⟨pb,cb,hvb,-⟩:=R.out.2.1;subst hva hvb)
    | (at_builtin;refine wpList_append_own_at _ rfl _ _ 22 rfl w.heap.size 27 i0 (.agg #[.int .i64 0,.int .i64 0,.slice none 0 0,.slice none 0 0,.string ⟨#[]⟩,.int .i64 0]) 6 88 Tryz.underlying22 hi hz0 hz1 hz2 rfl zak lv k (txC l') rfl ?c0 ⟨_,0,none⟩ 1 1 [.int .i64 xc,.int .i64 xt,.slice pa (fewW xrd).length ca,.slice pb (fewW xwr).length cb,.string (cutS 1200 xs),.int .i64 xg] rfl rfl ?c1 ?c2 ?c3 ?c4 ?c5 ?_))
   case c0=>exact own_ext HH.out.2.2.1 (Ext.trans (by exact R.out.2.2.2) zaa)
   try case c1=>exact qcR (KB.new _ _ _)
   case c2=>intro u hu;simp at hu;rcases hu with rfl | rfl | rfl | rfl | rfl | rfl<;>rfl
   case c3=>unfold maxLen;omega
   case c4=>omega
   case c5=>have h1:=HH.out.2.2.2.size;have h2:=R.out.2.2.2.size;simp;omega
   intro v' w7 hown hgrow _ _;have XW:=R.out.2.2.2.alloc (.cells #[.int .i64 xc,.int .i64 xt,.slice pa (fewW xrd).length ca,.slice pb (fewW xwr).length cb,.string (cutS 1200 xs),.int .i64 xg] 27);have own':=own_ext HH.out.2.2.1 XW
   have hty:∀ g,lv.ownBlock=some g→∃ cs fr,(w3.alloc (.cells #[.int .i64 xc,.int .i64 xt,.slice pa (fewW xrd).length ca,.slice pb (fewW xwr).length cb,.string (cutS 1200 xs),.int .i64 xg] 27)).heap[g]?=some (.cells cs 27 fr):=fun g hg=>by
    obtain⟨cur,h⟩:=own_type own' hg
    exact⟨_,_,h⟩
   have HX7:Ext w w7:=Ext.grown (HH.out.2.2.2.trans XW) hgrow (fun k hk=>by have:=own'.lt k (by rw[←hk]);omega)
   have T3:TxFw w.heap.size w3 [(fewT ⟨xc,xt,.slice p1 q1 k1,.slice p2 q2 k2,xs,xg,xrd,xwr⟩ (.slice pa (fewW xrd).length ca) (.slice pb (fewW xwr).length cb))]:=fun y hy=>by
    obtain rfl:=List.mem_singleton.1 hy
    exact⟨⟨_,_,_,rfl⟩,R.out.1.move HH.out.2.2.2.size (fun _ _=>rfl),R.out.2.1.move HH.out.2.2.2.size (fun _ _=>rfl),R.out.2.2.1⟩
   have T7:=(T3.ext ((Ext.refl w3).alloc (.cells #[.int .i64 xc,.int .i64 xt,.slice pa (fewW xrd).length ca,.slice pb (fewW xwr).length cb,.string (cutS 1200 xs),.int .i64 xg] 27))).grown hgrow hty;have F7:=(HH.out.2.1.ext XW).grown hgrow hty
   have HC:txC (l'++[(fewT ⟨xc,xt,.slice p1 q1 k1,.slice p2 q2 k2,xs,xg,xrd,xwr⟩ (.slice pa (fewW xrd).length ca) (.slice pb (fewW xwr).length cb))])=txC l'++[.int .i64 xc,.int .i64 xt,.slice pa (fewW xrd).length ca,.slice pb (fewW xwr).length cb,.string (cutS 1200 xs),.int .i64 xg]:=by rw[qfH];simp[txC,txL,fewT]
   have H7:=Lib.hid (show ∃ l2:List Tx,l2.length=k+1∧TxFw w.heap.size w7 l2∧w7.ownsRow w.heap.size 27 6 v' (k+1) (txC l2)∧Ext w w7 from⟨_,by rw[List.length_append,HH.out.1];rfl,fun y hy=>(List.mem_append.1 hy).elim (F7 y) (T7 y),by rw[HC];exact hown,HX7⟩);clear hown hgrow XW own' hty HX7 T3 T7 F7 HC;go_wp2_with fail;go_roundw
   case measure=>have:=HLT.out;simp[intOf];omega
   case rel=>exact⟨k+1,by go_num,by have:=HLT.out;omega,H7⟩
theorem laInfo26:(Tryz.prog.info? 70).map (fun i=>(i.zero,i.size,i.bytes))=some (some (.agg #[.int .i64 0,.int .i64 0,.int .i64 0,.int .i64 0,.int .i64 0,.string ⟨#[]⟩,.int .i64 0]),7,64):=by kernel_rfl
def fewLa (x:La):La:={ x with vs:=cutS 200 x.vs }
theorem laC_snoc (l:List La) (x:La):laC (l++[x])=laC l++laL x:=by unfold laC;rw[List.flatMap_append];simp
def wL (l:List La) (k:Nat):List Value:=laC ((l.take k).map fewLa)
theorem few26_any (v:Value) (l:List La) (w:World) (h:LaAt w v l) (hl:l.length≤140737488351232) (hs:∀ x∈l,x.vs.size≤140737488351232) :
  Calls Tryz.prog 9 #[v] w fun e w'=>∃ v',e=.returned v'∧w'.ownsRow w.heap.size 70 7 v' (min l.length 260) (laC ((l.take 260).map fewLa))∧Ext w w':=by
 obtain⟨i0,hi,hz0,hz1,hz2⟩:=info_parts laInfo26
 obtain⟨⟨pp,cap,rfl,hcap,hmx,hr⟩,hv⟩:=h
 obtain⟨n,hn⟩:∃ n,l.length=n:=⟨_,rfl⟩
 rw[hn] at hcap hl ⊢;have HN:=Lib.hid hn;have HR:=Lib.hid hr;have HS:=Lib.hid hs
 obtain⟨m,hm⟩:∃ m,m=min n 260:=⟨_,rfl⟩
 rw[←hm]
 have HF:=Lib.hid (show wL l m=laC ((l.take 260).map fewLa) from by
  unfold wL
  by_cases h:n≤260
  · rw[List.take_of_length_le zac,List.take_of_length_le zac]
  · rw[show m=260 from by omega])
 have HM:=Lib.hid hm
 have hm66:m≤260:=by omega
 have hmn:m≤n:=by omega
 have hmi:(m:Int)≤260:=by omega
 have hln:(n:Int)≤140737488351232:=by omega
 rw[←HF.out];clear hr hn hm hv hs HF;go_enter Tryz.func9,Tryz.ntmps9
 go_upto_if 8 with fail
 go_cut [0] (fun s0 wx=>s0=.slice pp m cap∧w=wx)
 case first =>
  by_cases hbig:(260:Int)<n
  · have hmm:m=260:=by have:=HM.out;omega
    subst hmm
    have h20:(260:Int)≤cap:=by omega
    go_wp2_with fail
    go_meet
    exact⟨rfl,rfl⟩
  · have hmm:m=n:=by have:=HM.out;omega
    subst hmm;go_wp2_with fail
    go_meet
    exact⟨rfl,rfl⟩
 case rest =>
  obtain⟨rfl,rfl⟩:=hcut
  go_wp2_with fail;go_loopw [3,4] (fun lv ii wr=>∃ (k:Nat),ii=.int .i64 (k:Int)∧k≤m∧Hid (wr.ownsRow w.heap.size 70 7 lv k (wL l k)∧Ext w wr)) (fun _ ii _=>m-(intOf ii).toNat)
  case atStart=>exact⟨0,rfl,Nat.zero_le _,Lib.hid ⟨World.ownsRow_nil _ _ _ _,Ext.refl _⟩⟩
  case round =>
   obtain⟨k,rfl,hkm,hH⟩:=hrel
   obtain⟨lv,hlv⟩:∃ x,x=u3:=⟨_,rfl⟩
   subst hlv
   by_cases hlt:k<m
   case neg =>
    have hk:k=m:=by omega
    subst hk;clear hlt;go_wp2_with fail;go_ret
    exact⟨_,rfl,hH.out⟩
   obtain⟨x,hsx⟩:∃ x,l[k]?=some x:=⟨_,List.getElem?_eq_getElem zap⟩
   obtain⟨b,off,rfl,hc⟩:=HR.out k x hsx
   have c0:=qad (hc 0 _ rfl) hH.out.2;have c1:=qad (hc 1 _ rfl) hH.out.2;have c2:=qad (hc 2 _ rfl) hH.out.2;have c3:=qad (hc 3 _ rfl) hH.out.2;have c4:=qad (hc 4 _ rfl) hH.out.2;have c5:=qad (hc 5 _ rfl) hH.out.2;have c6:=qad (hc 6 _ rfl) hH.out.2;simp only[Nat.add_zero] at c0;have hb1:=World.block_lt_of_cell? _ _ c0;have hz:=HS.out x (List.mem_of_getElem? hsx);have HSN:=Lib.hid (show wL l (k+1)=wL l k++laL (fewLa x) from by unfold wL;rw[List.take_add_one,hsx,Option.toList_some,List.map_append];exact laC_snoc _ _);have HLT:=Lib.hid hlt;clear hsx hc
   obtain⟨xc,xt,xe,xk,xi,xs,xv⟩:=x
   dsimp only at c0 c1 c2 c3 c4 c5 c6 hz
   have hzi:(xs.size:Int)≤140737488351232:=by omega
   go_upto_if 26 with fail
   go_cut [27] (fun s27 wx=>wr.alloc (.cells #[.int .i64 xc,.int .i64 xt,.int .i64 xe,.int .i64 xk,.int .i64 xi,.string (cutS 200 xs),.int .i64 xv] 70)=wx)
   case first =>
    by_cases hbig:(200:Int)<xs.size
    · have hcut:cutS 200 xs=xs.extract 0 200:=by unfold cutS;rw[if_pos zac]
      have hI2:(200:Int)≤xs.size:=by omega
      go_wp2_with fail
      go_meet
      rw[hcut]
    · have hcut:cutS 200 xs=xs:=by unfold cutS;rw[if_neg zac]
      go_wp2_with fail
      go_meet
      rw[hcut]
   case rest =>
    obtain rfl:=hcut
    go_wp2_with (at_builtin;refine wpList_append_own_at _ rfl _ _ 28 rfl w.heap.size 70 i0 (.agg #[.int .i64 0,.int .i64 0,.int .i64 0,.int .i64 0,.int .i64 0,.string ⟨#[]⟩,.int .i64 0]) 7 64 Tryz.underlying28 hi hz0 hz1 hz2 rfl zak lv k (wL l k) rfl ?c0 ⟨_,0,none⟩ 1 1 [.int .i64 xc,.int .i64 xt,.int .i64 xe,.int .i64 xk,.int .i64 xi,.string (cutS 200 xs),.int .i64 xv] rfl rfl ?c1 ?c2 ?c3 ?c4 ?c5 ?_)
    case c0=>exact own_ext hH.out.1 zaa
    try case c1=>exact qcR (KB.new _ _ _)
    case c2=>first | exact⟨rfl,rfl,rfl,rfl,rfl,rfl,rfl⟩ | (intro u hu;simp at hu;rcases hu with rfl | rfl | rfl | rfl | rfl | rfl | rfl<;>rfl)
    case c3=>unfold maxLen;omega
    case c4=>omega
    case c5=>have h1:=hH.out.2.size;simp;omega
    intro v' w7 hown hgrow _ _
    have HX7:Ext w w7:=Ext.grown (Ext.trans hH.out.2 zaa) hgrow (fun k hk=>by have:=hH.out.1.lt k (by rw[←hk]);omega)
    have H7:=Lib.hid (show w7.ownsRow w.heap.size 70 7 v' (k+1) (wL l (k+1))∧Ext w w7 from⟨by rw[HSN.out];exact hown,HX7⟩);clear hown hgrow HX7;go_wp2_with fail;go_roundw
    case measure=>have:=HLT.out;simp[intOf];omega
    case rel=>exact⟨k+1,by go_num,by have:=HLT.out;omega,H7⟩
theorem qdZ (w:World):TxIn w (.slice none 0 0) []:=⟨fun x hx=>by simp at hx,none,0,rfl,Nat.le_refl _,by decide,fun j x hj=>by simp at hj⟩
theorem enc0_any (w:World):Calls Tryz.prog 25 #[.slice none 0 0] w fun e w'=>OwnB w w' e [0]:=by
 have CT:=Lib.hid (fun W=>qdN _ #[] entersWr (fun x=>!okT x) (.slice none 0 0) [] W (qdZ W) zak (fun x hm=>by simp at hm));have VP:=Lib.hid (fun W=>qfZ 0 zak zak W);rw[show putB (0:Int).toNat=[0] from by simp[putB]] at VP;go_enter Tryz.func25,Tryz.ntmps25
 go_wp2_with (first
  | ((with_reducible refine (CT.out _).mono ?_);rintro e' _ ⟨rfl,d1,os1,rfl⟩)
  | ((with_reducible refine (VP.out _).mono ?_);rintro e' w3 ⟨g,cap,rfl,ho,hx⟩;have HO:=Lib.hid (ho.mono (base':=w.heap.size) (Ext.size zaa));have HX:=Lib.hid (show Ext w w3 from Ext.trans zaa hx);clear ho hx))
 go_loopw [3,20] (fun s3 i wr=>s3=.slice (some ⟨g,0,none⟩) 1 cap∧i=.int .i64 0∧w3=wr) (fun _ _ _=>0)
 case atStart=>exact⟨rfl,rfl,rfl⟩
 case round =>
  obtain⟨rfl,rfl,rfl⟩:=hrel
  go_wp2_with fail;go_ret
  exact⟨g,cap,rfl,HO.out,HX.out⟩
def tx3 (t:Int):Tx:=⟨3,t,.slice none 0 0,.slice none 0 0,⟨#[]⟩,0,[],[]⟩
theorem awk1:addQ [] (tx3 5) []=.ok [tx3 5]:=by kernel_rfl
theorem awk2:addQ [tx3 5] (tx3 5) []=.error 16:=by kernel_rfl
theorem awk3:addQ [tx3 5] (tx3 6) []=.ok [tx3 6]:=by kernel_rfl
theorem awk4:dropQ [tx3 6] [⟨3,6,0,0,0,⟨#[]⟩,0⟩]=.ok []:=by kernel_rfl
theorem of27_b (t:Int) (w:World):Calls Tryz.prog 36 #[.int .i64 t] w fun e w'=>e=.returned (txV (tx3 t))∧Ext w w':=of27_any t w
theorem strs_nil (w:World):StrsAt w (.slice none 0 0) []:=.inl ⟨none,0,rfl,rfl⟩
theorem tx3_at (t:Int) (h:In64I t) (w:World):TxAt w (tx3 t):=⟨⟨strs_nil w,by simp[tx3],by simp[tx3]⟩,⟨strs_nil w,by simp[tx3],by simp[tx3]⟩,(Nat.zero_le _:(0:Nat)≤_),(by unfold In64I;omega:In64I 3),h,(by unfold In64I;omega:In64I 0)⟩
theorem la_nil (w:World):LaAt w (.slice none 0 0) []:=⟨⟨none,0,rfl,Nat.le_refl _,by decide,fun j x hj=>by simp at hj⟩,fun x hx=>by simp at hx⟩
theorem la_one {g:Nat} (h:KB g #[.int .i64 3,.int .i64 6,.int .i64 0,.int .i64 0,.int .i64 0,.string ⟨#[]⟩,.int .i64 0] 70 w):LaAt w (.slice (some ⟨g,0,none⟩) 1 1) [⟨3,6,0,0,0,⟨#[]⟩,0⟩]:=by
 refine ⟨⟨some ⟨g,0,none⟩,1,rfl,Nat.le_refl _,by decide,fun j x hj=>⟨g,0,rfl,fun i u hi=>?_⟩⟩,fun x hx=>by simp at hx;subst hx;exact(by unfold In64I;omega:In64I 0)⟩
 match j,hj with
 | 0,hj =>
  simp at hj
  subst hj;rw[Nat.zero_mul,Nat.zero_add];exact h.cell _ _ (by rw[←hi];simp[laL])
theorem awake27_any (B:Nat) (w:World) (hS:SignsAt B w) (hB:B≤w.heap.size):Calls Tryz.prog 15 #[] w fun e w'=>e=.returned (.bool true)∧Ext w w':=by
 have OF:=Lib.hid of27_b;have ST:=Lib.hid (fun W (hx:Ext w W)=>(⟨hS.ext hx hB,Nat.le_trans hB hx.size⟩:SignsAt B W∧B≤W.heap.size));have A1:=Lib.hid (fun W (hx:Ext w W)=>qee (.slice none 0 0) [] (tx3 5) (.slice none 0 0) [] B W (ST.out W hx).1 (ST.out W hx).2 (qdZ W) zak (tx3_at 5 (by unfold In64I;omega) W) (la_nil W) zak);have A2:=Lib.hid (fun W v (hx:Ext w W) (h:TxIn W v [tx3 5])=>qee v [tx3 5] (tx3 5) (.slice none 0 0) [] B W (ST.out W hx).1 (ST.out W hx).2 h zaj (tx3_at 5 (by unfold In64I;omega) W) (la_nil W) zak);have A3:=Lib.hid (fun W v (hx:Ext w W) (h:TxIn W v [tx3 5])=>qee v [tx3 5] (tx3 6) (.slice none 0 0) [] B W (ST.out W hx).1 (ST.out W hx).2 h zaj (tx3_at 6 (by unfold In64I;omega) W) (la_nil W) zak)
 have D1:=Lib.hid (fun W v dv (hx:Ext w W) (h:TxIn W v [tx3 6]) (hd:LaAt W dv [⟨3,6,0,0,0,⟨#[]⟩,0⟩])=>bdrop_any v [tx3 6] dv _ B W (ST.out W hx).1 (ST.out W hx).2 h zaj hd zaj);have EN:=Lib.hid enc0_any;rw[awk1] at A1;rw[awk2] at A2;rw[awk3] at A3;rw[awk4] at D1;go_enter Tryz.func15,Tryz.ntmps15
 go_wp2_with (first
  | ((with_reducible refine (OF.out _ _).mono ?_);rintro e' _ ⟨rfl,d1,os1,rfl⟩)
  | (go_at_call 10;(with_reducible refine (A1.out _ zaa).mono ?_);rintro e' w1 ⟨v1,rfl,r1,x1⟩;have X1:Hid (Ext w w1):=Lib.hid (Ext.trans zaa x1);have R1:=Lib.hid r1.inn;obtain⟨p1,c1,hv1,-,-,-⟩:=r1.inn.2;simp only[List.length_singleton] at hv1;subst hv1;clear r1 x1)
  | (go_at_call 10;(with_reducible refine (A2.out _ _ (X1.out.trans zaa) (R1.out.ext zaa)).mono ?_);rintro e' _ ⟨rfl,d2,os2,rfl⟩)
  | (go_at_call 10;(with_reducible refine (A3.out _ _ (X1.out.trans zaa) (R1.out.ext zaa)).mono ?_);rintro e' w3 ⟨v3,rfl,r3,x3⟩;have X3:Hid (Ext w w3):=Lib.hid (X1.out.trans (Ext.trans zaa x3));have R3:=Lib.hid r3.inn;obtain⟨p3,c3,hv3,-,-,hr3⟩:=r3.inn.2;obtain⟨b3,o3,rfl,hc3⟩:=hr3 0 _ rfl;have z3:w3.cell? ⟨b3,o3+1,none⟩=some (.int .i64 6):=(by have:=hc3 1 (.int .i64 6) rfl;rwa [Nat.zero_mul,Nat.add_zero] at this);simp only[List.length_singleton] at hv3;subst hv3;have hb3:=World.block_lt_of_cell? _ _ z3;clear r3 x3 hr3 hc3)
  | (go_at_call 18;(with_reducible refine (D1.out _ _ _ (X3.out.trans zaa) (R3.out.ext zaa) (la_one (KB.new _ _ _))).mono ?_);rintro e' w4 ⟨v4,rfl,r4,x4⟩;have X4:Hid (Ext w w4):=Lib.hid (X3.out.trans (Ext.trans zaa x4));obtain⟨p4,c4,hv4,-,-,-⟩:=r4.inn.2;simp only[List.length_nil] at hv4;subst hv4;have z4:=qad z3 (Ext.trans zaa x4);have hb4:=World.block_lt_of_cell? _ _ z4;clear r4 x4 z3 hb3)
  | ((with_reducible refine (EN.out _).mono ?_);rintro e' w5 ⟨g5,c5,rfl,ho5,hx5⟩;have X5:Hid (Ext w w5):=Lib.hid (X4.out.trans (Ext.trans zaa hx5));simp only[List.length_singleton] at ho5;have hcv:=conv_own (P:=Tryz.prog) (src:=53) (dst:=9) Tryz.underlying53 Tryz.underlying5 Tryz.underlying9 ho5;clear ho5 hx5))
 go_ret
 exact⟨rfl,X5.out.trans zaa⟩
end Go.Proofs.YtpnabjopfpdkhaaGreatDoor
