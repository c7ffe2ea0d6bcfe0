/- Lemmas. -/
import Derived.Test.YtpnabjopfpdkhaaGreatDoorY39
set_option linter.all false
set_option maxHeartbeats 4000000
set_option maxRecDepth 20000
namespace Go.Proofs.YtpnabjopfpdkhaaGreatDoor
open Go.Proofs.Tryz RowKit
variable {W w:World} {B j k:Nat} {l:List UInt8} {e:Int} {a0 a1 a2 a3 a4 a5 v:Value}
attribute [go_sem] more_more Array.size_append
def CuS.setO {b i:Nat} (h:CuS w k b l e W) (hj:k<j) (v:Value):CuS w k b l e (W.setCell ⟨j,i,none⟩ v):=by
 obtain⟨off,cap,h1,h2,h3,h4,h5,h6,h7⟩:=h;exact⟨off,cap,h1.setOther i v Y,bytes_other h2 Y v,h3,h4,h5,h6,ext_setNew h7 Y⟩
def CuS.lt {b:Nat} (h:CuS w k b l e W):k<W.heap.size:=by
 obtain⟨off,cap,h1,_⟩:=h;exact h1.lt
def KB.keepG {k':Nat} {cs:Array Value} {T:TypeId} {W':World} (h:KB k' cs T W) (hg:W.grownBy W' (some k)) (hn:k<k'):KB k' cs T W':=(hg.block k' h.lt (fun e=>by cases e;omega)).trans h
def kb6f {T:TypeId} (h:KB k #[a0,a1,a2,a3,a4,a5] T w):(k<w.heap.size/\w.cell? ⟨k,0,none⟩=some a0/\w.cell? ⟨k,1,none⟩=some a1/\w.cell? ⟨k,2,none⟩=some a2/\w.cell? ⟨k,3,none⟩=some a3/\w.cell? ⟨k,4,none⟩=some a4/\w.cell? ⟨k,5,none⟩=some a5)/\∀ i,w.frozen? ⟨k,i,none⟩=false :=
 ⟨kb6 h,fun i=>h.frozen i⟩
def RowF.setO {i:Nat} {l:List ByteArray} {u:Value} (h:RowF B l v W) (hj:j<B):RowF B l v (W.setCell ⟨j,i,none⟩ u):=RowF.keep h hj (qak (grown_refl _ _) _ _)
def row6 {l:List ByteArray} (h:RowF B l v W) (hj:j<B):RowF B l v ((((((W.setCell ⟨j,0,none⟩ a0).setCell ⟨j,1,none⟩ a1).setCell ⟨j,2,none⟩ a2).setCell ⟨j,3,none⟩ a3).setCell ⟨j,4,none⟩ a4).setCell ⟨j,5,none⟩ a5) :=
 RowF.setO (RowF.setO (RowF.setO (RowF.setO (RowF.setO (RowF.setO h hj) hj) hj) hj) hj) hj
def ext6 (h:Ext w W) (hj:w.heap.size<=j):Ext w ((((((W.setCell ⟨j,0,none⟩ a0).setCell ⟨j,1,none⟩ a1).setCell ⟨j,2,none⟩ a2).setCell ⟨j,3,none⟩ a3).setCell ⟨j,4,none⟩ a4).setCell ⟨j,5,none⟩ a5) :=
 ext_setNew (ext_setNew (ext_setNew (ext_setNew (ext_setNew (ext_setNew h hj) hj) hj) hj) hj) hj
def qbQ {most:Nat} {s:List UInt8 × Int} {v:Nat} (h:numS most s=(v,l,e)):v<=most:=by
 unfold numS numC at h
 repeat' split at h
 all_goals (cases h;omega)
def textsC_bd:∀ (k:Nat) (l:List UInt8),(qaO k l).1.length<=k/\∀ s∈(qaO k l).1,s.size<=255
 | 0,l=>by simp[qaO]
 | k+1,l=>by
  have ih:=textsC_bd k (l.drop (cutT l).2.1);obtain⟨t,n,e,hc⟩:∃ t n e,cutT l=(t,n,e):=⟨_,_,_,rfl⟩
  have hb:=(qgY hc).1;rw[hc] at ih;unfold qaO;rw[hc];dsimp only at ih ⊢;split
  . simp
  . split
    . simp
    . refine ⟨zg,fun s hs=>?_⟩;rcases List.mem_cons.1 hs with rfl | hs
      . rw[qcr];exact hb
      . exact ih.2 s hs
def qes {s:List UInt8 × Int} {ts:List ByteArray} (h:listS s=(ts,l,e)):ts.length<=8/\∀ t∈ts,t.size<=255:=by
 unfold listS at h
 split at h
 . cases h;simp
 . unfold listC at h;obtain⟨v,r,e0,hn⟩:∃ a b c,numC 8 s.1=(a,b,c):=⟨_,_,_,rfl⟩
   have hv:v<=8:=qbQ (most:=8) (s:=(s.1,0)) (l:=r) (e:=e0) (by unfold numS;rw[if_neg zy];exact hn);rw[hn] at h;dsimp only at h;have hb:=textsC_bd v r
   repeat' split at h
   . cases h;simp
   . cases h;simp
   . rw[h] at hb;exact⟨Nat.le_trans hb.1 hv,hb.2⟩
def RowF.patS {l:List ByteArray} (h:RowF B l v W) (hl:l.length<=8/\∀ t∈l,t.size<=255):PatS W v l :=
 ⟨RowF.strs h,fun s hs=>Nat.le_trans (hl.2 s hs) Y,Y⟩
def tx0_at (w:World):TxAt w tx0:=⟨⟨.inl ⟨none,0,rfl,rfl⟩,by simp[tx0,txD],by simp[tx0,txD]⟩,⟨.inl ⟨none,0,rfl,rfl⟩,by simp[tx0,txD],by simp[tx0,txD]⟩,(by show(0:Nat)<=140737488351232;omega),⟨by simp[tx0,txD],by simp[tx0,txD]⟩,⟨by simp[tx0,txD],by simp[tx0,txD]⟩,⟨by simp[tx0,txD],by simp[tx0,txD]⟩⟩
def RowF.blk {l:List ByteArray} {W':World} (h:RowF B l v W) (hg:∀ k,B<=k->k<W.heap.size->W'.heap[k]?=W.heap[k]?):RowF B l v W':=by
 obtain⟨p,c,e,ho⟩:=h;exact⟨p,c,e,own_block ho fun j hj hl=>hg j (ho.lt j hj).1 hl⟩
def TxN (w w':World) (x:Tx):Prop:=∀ W:World,(∀ k,w.heap.size<=k->k<w'.heap.size->W.heap[k]?=w'.heap[k]?)->TxAt W x
def txN_more {Wf:World} {d B3 B4:Nat} {os:Array Obj} {x:Tx} (h3:RowF B3 x.rd x.rv Wf) (h4:RowF B4 x.wr x.wv Wf) (q3:x.rd.length<=8/\∀ t∈x.rd,t.size<=255) (q4:x.wr.length<=8/\∀ t∈x.wr,t.size<=255) (l3:w.heap.size<=B3) (l4:w.heap.size<=B4) (hr:x.src.size<=140737488351232/\In64I x.c/\In64I x.t/\In64I x.gas):TxN w (more Wf d os) x:=by
 intro W hW;have hx:Ext Wf (more Wf d os):=Ext.more (Ext.refl _) _ _;have hb:∀ k,w.heap.size<=k->k<Wf.heap.size->W.heap[k]?=Wf.heap[k]?:=fun k h1 h2=>(hW k h1 (Nat.lt_of_lt_of_le h2 hx.size)).trans (hx.below.block k h2)
 exact⟨RowF.patS (RowF.blk h3 fun k h1 h2=>hb k (Nat.le_trans l3 h1) h2) q3,RowF.patS (RowF.blk h4 fun k h1 h2=>hb k (Nat.le_trans l4 h1) h2) q4,hr⟩
def tdecode_any (b off cap:Nat) (l:List UInt8) (B:Nat) (w:World) (hS:SignsAt B w) (hB:B<=w.heap.size) (hm:l.length<=1000000000) (hcap:l.length<=cap) (hb:BytesAt w b off l) (hbl:b<w.heap.size) :
  Calls prog 45 #[.slice (some ⟨b,off,none⟩) l.length cap] w fun r w'=>∃ x,r=.returned (.tuple #[txV x,.int .i64 (decT l).2])/\qas x=(decT l).1/\TxN w w' x/\Ext w w':=by
 obtain⟨n1,s1,e1,h1⟩:∃ a b c,numS 255 (l,0)=(a,b,c):=⟨_,_,_,rfl⟩
 obtain⟨n2,s2,e2,h2⟩:∃ a b c,numS 2147483647 (s1,e1)=(a,b,c):=⟨_,_,_,rfl⟩
 obtain⟨t3,s3,e3,h3⟩:∃ a b c,listS (s2,e2)=(a,b,c):=⟨_,_,_,rfl⟩
 obtain⟨t4,s4,e4,h4⟩:∃ a b c,listS (s3,e3)=(a,b,c):=⟨_,_,_,rfl⟩
 obtain⟨n5,s5,e5,h5⟩:∃ a b c,numS 2147483647 (s4,e4)=(a,b,c):=⟨_,_,_,rfl⟩
 obtain⟨n6,s6,e6,h6⟩:∃ a b c,numS 4096 (s5,e5)=(a,b,c):=⟨_,_,_,rfl⟩
 have HD:decT l=if e6≠0 then(tx0,e6) else if s6.length<n6 then(tx0,2) else if n6<s6.length then(tx0,7) else if okT (txD n1 n2 n5 t3 t4 s6)=true then(txD n1 n2 n5 t3 t4 s6,0) else(tx0,1):=by
  unfold decT;simp only[h1,h2,h3,h4,h5,h6]
 have hne:(0:Int)=0:=rfl;have q1:=qbQ h1;have q2:=qbQ h2;have q5:=qbQ h5;have q6:=qbQ h6;have Q3:=J (qes h3);have Q4:=J (qes h4);have QQ:=J (And.intro q1 (And.intro q2 q5));have hq6:(n6:Int)<=4096:=Y;clear q1 q2 q5 q6;have N1:=J h1;have N2:=J h2;have N3:=J h3;have N4:=J h4;have N5:=J h5;have N6:=J h6;have HDD:=J HD;obtain⟨WA,hWA⟩:∃ WA,w.alloc (.cells #[.int .i64 0,.int .i64 0,.slice none 0 0,.slice none 0 0,.string ⟨#[]⟩,.int .i64 0] 27 (0,0))=WA:=⟨_,rfl⟩
 have XA:=J (show Ext w WA from by rw[<-hWA];exact zq);have RB:=J (show KB w.heap.size #[.int .i64 0,.int .i64 0,.slice none 0 0,.slice none 0 0,.string ⟨#[]⟩,.int .i64 0] 27 WA from by rw[<-hWA];exact KB.new _ _ _);have hsz:WA.heap.size=w.heap.size+1:=by rw[<-hWA];simp
 have C:=J (show CuS WA (w.heap.size+1) b l 0 ((w.alloc (.cells #[.int .i64 0,.int .i64 0,.slice none 0 0,.slice none 0 0,.string ⟨#[]⟩,.int .i64 0] 27 (0,0))).alloc (.cells #[.slice (some ⟨b,off,none⟩) l.length cap,.int .i64 0] 113 (0,0))) from by
  rw[hWA]
  exact⟨off,cap,KB.newAt _ _ _ hsz.symm,BytesAt.ext hb (XA.out.trans zq),hcap,hm,Y,Y,zq⟩)
 clear h1 h2 h3 h4 h5 h6 HD hne hWA;go_enter func45,ntmps45
 go_wp2_with (first
  | ((with_reducible refine Calls.mono (qeu 255 zw C.out n1 s1 e1 N1.out) ?_);rintro r W1 ⟨rfl,hC,hG⟩;have C:=J hC;clear hC hG)
  | ((with_reducible refine Calls.mono (qeu 2147483647 zw C.out n2 s2 e2 N2.out) ?_);rintro r W2 ⟨rfl,hC,hG⟩;have C:=J hC;clear hC hG;have hk2:=C.out.lt)
  | ((with_reducible refine Calls.mono (clist_any (CuS.ext C.out zq) t3 s3 e3 N3.out) ?_);rintro r W3 ⟨v3,rfl,hR,hC,hG⟩;have C:=J hC;have D:=J (show KB W2.heap.size #[.int .i64 (n1:Int),.int .i64 (n2:Int),.slice none 0 0,.slice none 0 0,.string ⟨#[]⟩,.int .i64 0] 27 W3 from KB.keepG (KB.new W2 _ _) hG hk2);have R3:=J (show RowF (W2.heap.size+1) t3 v3 W3 from(by rw[World.size_alloc] at hR;exact hR));obtain⟨p3,c3,rfl⟩:∃ p c,v3=.slice p t3.length c:=zcp;clear hR hC hG)
  | ((with_reducible refine Calls.mono (clist_any C.out t4 s4 e4 N4.out) ?_);rintro r W4 ⟨v4,rfl,hR,hC,hG⟩;have C:=J hC;have dlB:W2.heap.size<W3.heap.size:=D.out.lt;have D:=J (KB.keepG D.out hG hk2);have R3:=J (RowF.keep R3.out (Nat.lt_succ_of_lt hk2) hG);have R4:=J hR;obtain⟨p4,c4,rfl⟩:∃ p c,v4=.slice p t4.length c:=zcp;clear hR hC hG;obtain⟨⟨dl,d0,d1,d2,d3,d4,d5⟩,df⟩:=kb6f D.out)
  | ((with_reducible refine Calls.mono (qeu 2147483647 zw (CuS.setO (CuS.setO C.out hk2 _) hk2 _) n5 s5 e5 N5.out) ?_);rintro r W5 ⟨rfl,hC,hG⟩;have C:=J hC;have D:=J (show KB W2.heap.size #[.int .i64 (n1:Int),.int .i64 (n2:Int),.slice p3 t3.length c3,.slice p4 t4.length c4,.string ⟨#[]⟩,.int .i64 0] 27 W5 from KB.keepG ((D.out.setAt 2 (.slice p3 t3.length c3) zy).setAt 3 (.slice p4 t4.length c4) zy) hG hk2);have R3:=J (RowF.keep (RowF.setO (RowF.setO R3.out (Nat.lt_succ_self _)) (Nat.lt_succ_self _)) (Nat.lt_succ_of_lt hk2) hG);have R4:=J (RowF.keep (RowF.setO (RowF.setO R4.out dlB) dlB) (Nat.lt_trans hk2 dlB) hG);clear hC hG dl d0 d1 d2 d3 d4 d5 df;obtain⟨⟨dl,d0,d1,d2,d3,d4,d5⟩,df⟩:=kb6f D.out)
  | ((with_reducible refine Calls.mono (qeu 4096 zw (CuS.setO C.out hk2 _) n6 s6 e6 N6.out) ?_);rintro r W6 ⟨rfl,hC,hG⟩;have C:=J hC;have D:=J (show KB W2.heap.size #[.int .i64 (n1:Int),.int .i64 (n2:Int),.slice p3 t3.length c3,.slice p4 t4.length c4,.string ⟨#[]⟩,.int .i64 (n5:Int)] 27 W6 from KB.keepG (D.out.setAt 5 (.int .i64 (n5:Int)) zy) hG hk2);have R3:=J (RowF.keep (RowF.setO R3.out (Nat.lt_succ_self _)) (Nat.lt_succ_of_lt hk2) hG);have R4:=J (RowF.keep (RowF.setO R4.out dlB) (Nat.lt_trans hk2 dlB) hG);clear hC hG dl d0 d1 d2 d3 d4 d5 df;obtain⟨⟨dl,d0,d1,d2,d3,d4,d5⟩,df⟩:=kb6f D.out;obtain⟨o6,q6,hK,hBT,hq6,hl6,-,-,hX6⟩:=C.out;have HBT:=J hBT;have X6:=J hX6;obtain⟨kl,k0,k1,kf0,kf1⟩:=kb2 hK;have cv:=qgI (P:=prog) underlying53 underlying5 underlying9 hBT s6.length rfl (cap:=q6);clear hK hBT hX6;obtain⟨⟨rl,r0,r1,r2,r3,r4,r5⟩,rf⟩:=kb6f (RB.out.of_ext X6.out);have XW:=J (XA.out.trans X6.out);have HX:=J (fun (u:Value)=>show TxAt (W6.setCell ⟨W2.heap.size,4,none⟩ u) ⟨(n1:Int),(n2:Int),.slice p3 t3.length c3,.slice p4 t4.length c4,⟨s6.toArray⟩,(n5:Int),t3,t4⟩ from⟨RowF.patS (RowF.setO R3.out (Nat.lt_succ_self _)) Q3.out,RowF.patS (RowF.setO R4.out dlB) Q4.out,(by rw[qcr];omega),zbl,zbl,zbl⟩);have XS:=J (fun (u:Value)=>show Ext w (W6.setCell ⟨W2.heap.size,4,none⟩ u) from ext_setNew XW.out Y);have MA:=J (fun u=>tmay_any _ B (W6.setCell ⟨W2.heap.size,4,none⟩ u) (hS.ext (XS.out u) hB) (Nat.le_trans hB (XS.out u).size) (HX.out u));unfold txV at MA;dsimp only at MA))
 . go_region
   go_wp2_with fail;refine bodyPost_ret (v:=.tuple #[.agg #[.int .i64 0,.int .i64 0,.slice none 0 0,.slice none 0 0,.string ⟨#[]⟩,.int .i64 0],.int .i64 e6]) zbx rfl ?_
   exact⟨tx0,by rw[HDD.out,if_pos jw];rfl,by rw[HDD.out,if_pos jw];rfl,fun W _=>tx0_at W,Ext.trans XW.out zq⟩
 . refine bodyPost_ret (v:=.tuple #[.agg #[.int .i64 0,.int .i64 0,.slice none 0 0,.slice none 0 0,.string ⟨#[]⟩,.int .i64 0],.int .i64 2]) zbx rfl ?_;exact⟨tx0,by rw[HDD.out,if_neg jw,if_pos Y];rfl,by rw[HDD.out,if_neg jw,if_pos Y];rfl,fun W _=>tx0_at W,XW.out⟩
 . refine bodyPost_ret (v:=.tuple #[.agg #[.int .i64 0,.int .i64 0,.slice none 0 0,.slice none 0 0,.string ⟨#[]⟩,.int .i64 0],.int .i64 7]) zbx rfl ?_;exact⟨tx0,by rw[HDD.out,if_neg jw,if_neg Y,if_pos Y];rfl,by rw[HDD.out,if_neg jw,if_neg Y,if_pos Y];rfl,fun W _=>tx0_at W,XW.out⟩
 . refine Calls.mono (MA.out _) ?_;rintro r W7 ⟨rfl,dq,oq,rfl⟩;have ne1:(w.heap.size=W2.heap.size)=False:=eq_false Y;have ne2:(W2.heap.size=w.heap.size)=False:=eq_false Y;obtain⟨ok,hok⟩:∃ b,okT (txD n1 n2 n5 t3 t4 s6)=b:=⟨_,rfl⟩
   rw[show okT ⟨(n1:Int),(n2:Int),.slice p3 t3.length c3,.slice p4 t4.length c4,⟨s6.toArray⟩,(n5:Int),t3,t4⟩=ok from hok];have HOK:=J hok;clear hok;cases ok
   . go_wp2_with fail;refine bodyPost_ret (v:=.tuple #[.agg #[.int .i64 0,.int .i64 0,.slice none 0 0,.slice none 0 0,.string ⟨#[]⟩,.int .i64 0],.int .i64 1]) (by simp[results,results45,r0,r1,r2,r3,r4,r5,rf,rl,ne1,ne2,go_sem]) rfl ?_;exact⟨tx0,by rw[HDD.out,if_neg jw,if_neg Y,if_neg Y,if_neg (by rw[HOK.out];simp)];rfl,by rw[HDD.out,if_neg jw,if_neg Y,if_neg Y,if_neg (by rw[HOK.out];simp)];rfl,fun W _=>tx0_at W,Ext.trans (XS.out _) zq⟩
   . go_wp2_with fail;refine bodyPost_ret (v:=.tuple #[.agg #[.int .i64 (n1:Int),.int .i64 (n2:Int),.slice p3 t3.length c3,.slice p4 t4.length c4,.string ⟨s6.toArray⟩,.int .i64 (n5:Int)],.int .i64 0]) (by simp[results,results45,r0,r1,r2,r3,r4,r5,rf,rl,ne1,ne2,go_sem]) rfl ?_;have hwB:w.heap.size<W2.heap.size+1:=Y;have hwC:w.heap.size<W3.heap.size:=Y;refine ⟨⟨(n1:Int),(n2:Int),.slice p3 t3.length c3,.slice p4 t4.length c4,⟨s6.toArray⟩,(n5:Int),t3,t4⟩,by rw[HDD.out,if_neg jw,if_neg Y,if_neg Y,if_pos HOK.out];rfl,by rw[HDD.out,if_neg jw,if_neg Y,if_neg Y,if_pos HOK.out];rfl,?_,Ext.trans (ext6 (XS.out _) (Nat.le_refl _)) zq⟩;exact txN_more (row6 (RowF.setO R3.out (Nat.lt_succ_self _)) hwB) (row6 (RowF.setO R4.out dlB) hwC) Q3.out Q4.out Y Y (HX.out (.int .i64 0)).2.2
end Go.Proofs.YtpnabjopfpdkhaaGreatDoor
