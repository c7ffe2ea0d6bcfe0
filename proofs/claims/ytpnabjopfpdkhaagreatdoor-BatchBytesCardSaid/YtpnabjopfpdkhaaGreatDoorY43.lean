/- Lemmas. -/
import Derived.Test.YtpnabjopfpdkhaaGreatDoorY41
import Derived.Test.YtpnabjopfpdkhaaGreatDoorY42
set_option linter.all false
set_option maxHeartbeats 4000000
set_option maxRecDepth 20000
namespace Go.Proofs.YtpnabjopfpdkhaaGreatDoor
open Go.Proofs.Tryz RowKit
variable {W w:World} {v:Value} {at_ k:Nat} {s:ByteArray} {e:Int}
attribute [go_sem] more_more Array.size_append
def qgW (kd:IntKind) (b o len cap k:Nat) (hk:k<=len) (W:World):(Instr.slice 53 (.slice (some ⟨b,o,none⟩) len cap) (some (.int kd (k:Int))) none none).run prog W=.ok (.slice (some ⟨b,tlO o k cap,none⟩) (len-k) (cap-k)) W:=by
 have h:=run_slice_l (P:=prog) (w:=W) 53 (some ⟨b,o,none⟩) len cap underlying53 kd (k:Int) Y Y;have hs:(sizeOf (prog.elem 53)).run prog W=.ok 1 W:=zv;rw[h,hs];show Result.ok (sliced (some ⟨b,o,none⟩) (Int.toNat (k:Int)) len cap 1) W=_
 rw[Int.toNat_natCast];unfold sliced tlO
 congr 2
 by_cases hc:cap=k
 . rw[if_pos hc,if_pos hc]
 . rw[if_neg hc,if_neg hc,Option.map_some,Addr.add_lit,Nat.mul_one]
def sl_headK (kd:IntKind) (b o len cap k:Nat) (hk:k<=cap) (W:World):(Instr.slice 53 (.slice (some ⟨b,o,none⟩) len cap) none (some (.int kd (k:Int))) none).run prog W=.ok (.slice (some ⟨b,o,none⟩) k cap) W:=by
 have h:=run_slice_h (P:=prog) (w:=W) 53 (some ⟨b,o,none⟩) len cap underlying53 kd (k:Int) Y Y;have hs:(sizeOf (prog.elem 53)).run prog W=.ok 1 W:=zv;rw[h,hs];show Result.ok (sliced (some ⟨b,o,none⟩) 0 (Int.toNat (k:Int)) cap 1) W=_
 rw[Int.toNat_natCast];unfold sliced;simp;intro _;rfl
def qcE (most:Nat) {l:List UInt8} {x n:Nat} {e:Int} (hg:cutG 0 0 l=(x,n,e)):numC most l=if e≠0 then(0,l,e) else if most<x then(0,l,8) else(x,l.drop n,0):=by unfold numC;rw[hg]
def resX (done:List Tx) (m:Nat) (tl:List UInt8):List Tx × Int:=if (decsC m tl).2≠0 then([],(decsC m tl).2) else(done++(decsC m tl).1,0)
def resX_nil (m:Nat) (tl:List UInt8) (h:(decsC m tl).2≠0->(decsC m tl).1=[]):resX [] m tl=decsC m tl:=by
 unfold resX;by_cases q:(decsC m tl).2=0
 . rw[if_neg (by simpa using q),List.nil_append,<-q]
 . rw[if_pos q,<-h q]
def decsC_nil:∀ (m:Nat) (tl:List UInt8),(decsC m tl).2≠0->(decsC m tl).1=[]
 | 0,tl=>by
  unfold decsC
  split<;>simp
 | m+1,tl=>by
  unfold decsC;split
  . simp
  . split
    . simp
    . split
      . simp
      . split<;>simp
def resX_end (done:List Tx) (tl:List UInt8):resX done 0 tl=if tl=[] then(done,0) else([],7):=by
 unfold resX decsC;by_cases q:tl=[]<;>simp[q]
def resX_bad (done:List Tx) (m:Nat) {tl:List UInt8} {x n:Nat} {e:Int} (hg:cutG 0 0 tl=(x,n,e)) (he:e≠0):resX done (m+1) tl=([],e):=by
 unfold resX decsC;rw[qcE _ hg];simp[he]
def qgb (done:List Tx) (m:Nat) {tl:List UInt8} {x n:Nat} (hg:cutG 0 0 tl=(x,n,0)) (he:(tl.drop n).length<x):resX done (m+1) tl=([],2):=by
 have hx:=(qbe hg).1;unfold resX decsC;rw[qcE _ hg,if_neg (show ¬ (0:Int)≠0 by simp),if_neg (show ¬ 18446744073709551615<x by omega)];dsimp only;rw[if_neg (show ¬ (0:Int)≠0 by simp),if_pos he];rfl
def resX_tx (done:List Tx) (m:Nat) {tl:List UInt8} {x n:Nat} (hg:cutG 0 0 tl=(x,n,0)) (hx2:¬ (tl.drop n).length<x) (he:(decT ((tl.drop n).take x)).2≠0):resX done (m+1) tl=([],(decT ((tl.drop n).take x)).2):=by
 have hx:=(qbe hg).1;unfold resX decsC;rw[qcE _ hg,if_neg (show ¬ (0:Int)≠0 by simp),if_neg (show ¬ 18446744073709551615<x by omega)];dsimp only;rw[if_neg (show ¬ (0:Int)≠0 by simp),if_neg hx2,if_pos he];dsimp only;rw[if_pos he]
def resX_step (done:List Tx) (m:Nat) {tl:List UInt8} {x n:Nat} (hg:cutG 0 0 tl=(x,n,0)) (hx2:¬ (tl.drop n).length<x) (he:(decT ((tl.drop n).take x)).2=0):resX done (m+1) tl=resX (done++[(decT ((tl.drop n).take x)).1]) m ((tl.drop n).drop x):=by
 have hx:=(qbe hg).1;unfold resX;rw[decsC,qcE _ hg,if_neg (show ¬ (0:Int)≠0 by simp),if_neg (show ¬ 18446744073709551615<x by omega)];dsimp only;rw[if_neg (show ¬ (0:Int)≠0 by simp),if_neg hx2,if_neg (show ¬ (decT ((tl.drop n).take x)).2≠0 by rw[he];simp)];generalize decsC m ((tl.drop n).drop x)=D;by_cases q:D.2=0<;>simp[q]
def TxO (w:World) (v:Value) (l:List Tx):Prop:=∀ x∈l,∀ W:World,(∀ k,k<w.heap.size->v.ownBlock≠some k->W.heap[k]?=w.heap[k]?)->TxAt W x
def TxO.ext {w':World} {l:List Tx} (h:TxO w v l) (hx:Ext w w'):TxO w' v l:=fun x hm W hW=>h x hm W fun k hk ho=>(hW k (Nat.lt_of_lt_of_le hk hx.size) ho).trans (hx.below.block k hk)
def TxO.all {l:List Tx} (h:TxO w v l):∀ x∈l,TxAt w x:=fun x hm=>h x hm w fun _ _ _=>rfl
def TxO.push {w2 w3 W3:World} {v3:Value} {l:List Tx} {x:Tx} (h:TxO w v l) (hx:TxN w w2 x) (h12:Ext w w2) (h23:Ext w2 w3) (hg:w3.grownBy W3 v.ownBlock) (ho:v3.ownBlock=v.ownBlock\/v3.ownBlock=some w3.heap.size) (hv:∀ k,v.ownBlock=some k->k<w.heap.size):TxO W3 v3 (l++[x]):=by
 intro y hm W hW
 have key:∀ k,k<w3.heap.size->v.ownBlock≠some k->W.heap[k]?=w3.heap[k]?:=fun k hk hn=>(hW k (Nat.lt_of_lt_of_le hk hg.size) (by
  rcases ho with ho | ho
  . rw[ho];exact hn
  . rw[ho];intro e;cases e;omega)).trans (hg.block k hk fun e=>hn e.symm)
 rcases List.mem_append.1 hm with hm | hm
 . exact(h.ext (h12.trans h23)) y hm W key
 . rw[List.mem_singleton.1 hm];refine hx W fun k h1 h2=>(key k (Nat.lt_of_lt_of_le h2 h23.size) fun e=>?_).trans (h23.below.block k h2)
   have:=hv k e;omega
def lenOfS:Value->Nat
 | .slice _ n _=>n
 | _=>0
def own_low {B n:Nat} {T:TypeId} {xs:List Value} {s:Nat} (h:W.ownsRow B T s v n xs) (e:v.ownBlock=some k):k<W.heap.size:=(h.lt k e).2
def qec (w:World) (old cs:Array Value) (t:TypeId):(w.alloc (.cells old t)).setRow w.heap.size cs=w.alloc (.cells cs t):=by
 have h:∀ f:Obj->Obj,f (.cells old t)=.cells cs t->(w.heap.push (.cells old t)).modify w.heap.size f=w.heap.push (.cells cs t):=by
  intro f hf;apply Array.ext
  . simp
  . intro i h1 h2;rw[Array.getElem_modify];split
    . next e=>subst e;simp[hf]
    . next e =>
      have hi:i<w.heap.size:=(by simp at h2;omega)
      rw[Array.getElem_push_lt hi,Array.getElem_push_lt hi]
 unfold World.setRow World.alloc;dsimp only;rw[h _ rfl]
def tx_one {x:Tx} (h:TxAt w x):x.rv.oneCell'=true/\x.wv.oneCell'=true:=by
 obtain⟨p1,m1,k1,p2,m2,k2,e1,e2⟩:=qbO h;rw[e1,e2];exact⟨rfl,rfl⟩
def nilTx (w:World):TxIn w (.slice none 0 0) []:=⟨fun x hm=>absurd hm zy,RowIn.own (B:=0) (T:=27) qca (World.ownsRow_nil _ 0 _ _)⟩
def qeI (b off cap:Nat) (l:List UInt8) (B:Nat) (w:World) (hS:SignsAt B w) (hB:B<=w.heap.size) (hm:l.length<=1000000000) (hcap:l.length<=cap) (hb:BytesAt w b off l) (hbl:b<w.heap.size) (ts:List Tx) (e:Int) (hr:decL l=(ts,e)) :
    Calls prog 24 #[.slice (some ⟨b,off,none⟩) l.length cap] w fun r w'=>∃ v xs,r=.returned (.tuple #[v,.int .i64 e])/\xs.map qas=ts/\TxIn w' v xs/\Ext w w':=by
  obtain⟨x,n,e0,hg⟩:∃ x n e,cutG 0 0 l=(x,n,e):=⟨_,_,_,rfl⟩
  have C0:=J (fun W (hx:Ext w W)=>qcF b off cap l W jq (hb.ext hx) x n e0 hg);unfold decL at hr;rw[qcE 64 hg] at hr;have hxn:=qbe hg;have CV:=J (fun (o c:Nat) (t:List UInt8) (lt:Nat) (hl:t.length=lt) (W:World) (hbt:BytesAt W b o t) (hlm:lt<=1000000000) x n e (hc:cutG 0 0 t=(x,n,e))=>hl ▸ qcF b o c t W jq hbt x n e hc);have CD:=J (fun (o c:Nat) (t:List UInt8) (lt:Nat) (hl:t.length=lt) (W:World) (hx:Ext w W) (hbt:BytesAt W b o t) (hlm:lt<=1000000000) (hlc:lt<=c)=>hl ▸ tdecode_any b o c t B W (hS.ext hx hB) (Nat.le_trans hB hx.size) Y Y hbt (Nat.lt_of_lt_of_le hbl hx.size));obtain⟨i0,hi,hz0,hz1,hz2⟩:=info_parts txInfo;have HT:=J (show BytesAt w b (tlO off n cap) (l.drop n) from hb.tl n hcap);have hsl:=fun W:World=>qgW .i64 b off l.length cap n hxn.2 W
  obtain⟨o1,ho1⟩:∃ o1,tlO off n cap=o1:=⟨_,rfl⟩
  obtain⟨l1,hl1⟩:∃ l1,l.length-n=l1:=⟨_,rfl⟩
  obtain⟨c1,hc1⟩:∃ c1,cap-n=c1:=⟨_,rfl⟩
  have hlc1:l1<=c1:=Y;have hlm1:l1<=1000000000:=Y;have HL1:=J (show(l.drop n).length=l1 from by rw[List.length_drop];exact hl1);rw[ho1,hl1,hc1] at hsl;rw[ho1] at HT;obtain⟨len,hlen⟩:∃ len,l.length=len:=⟨_,rfl⟩
  rw[hlen] at C0 hsl ⊢;have HR:=J hr;clear hr hg hb hlen ho1 hl1 hc1 hm hcap hS;by_cases q0:e0=0;rotate_left
  . have q1:(e0 !=0)=true:=(by simpa using q0)
    have HE:=HR.out;rw[if_pos q0] at HE;dsimp only at HE;rw[if_pos q0] at HE;cases HE;go_enter func24,ntmps24;go_wp2_with fail;go_step3
    go_wp2_with ((with_reducible refine Calls.mono (C0.out _ zq) ?_);rintro e' _ ⟨rfl,d1,os1,rfl⟩)
    rw[Exit.noGoto_ret];go_ret2;exact⟨_,[],rfl,rfl,nilTx _,zq⟩
  subst q0;by_cases q8:64<x
  . have q1:(64<(x:Int))=True:=zg;have HE:=HR.out;rw[if_neg (show ¬ (0:Int)≠0 by simp),if_pos q8] at HE;dsimp only at HE;rw[if_pos zw] at HE;cases HE;go_enter func24,ntmps24;go_wp2_with fail;go_step3
    go_wp2_with ((with_reducible refine Calls.mono (C0.out _ zq) ?_);rintro e' _ ⟨rfl,d1,os1,rfl⟩)
    rw[Exit.noGoto_ret];go_ret2;exact⟨_,[],rfl,rfl,nilTx _,zq⟩
  have q1:(64<(x:Int))=False:=zg
  have HR:=J (show resX (([]:List Tx).map qas) x (l.drop n)=(ts,e) from by
    have HE:=HR.out;rw[if_neg (show ¬ (0:Int)≠0 by simp),if_neg q8] at HE;dsimp only at HE;rw[if_neg (show ¬ (0:Int)≠0 by simp)] at HE;rw[List.map_nil,resX_nil _ _ (decsC_nil _ _)]
    exact HE)
  have hx8:(x:Int)<=64:=Y;go_enter func24,ntmps24;go_wp2_with fail;go_step3
  go_wp2_with ((with_reducible refine Calls.mono (C0.out _ zq) ?_);rintro e' _ ⟨rfl,d1,os1,rfl⟩)
  go_wp2_with fail;go_step3
  go_wp2_with fail;go_loopw [7,8] (fun r o wr=>∃ (k:Nat) (tl:List UInt8) (lt of2 cap2:Nat) (done:List Tx) (p:Option Addr) (c:Nat),r=.slice (some ⟨b,of2,none⟩) lt cap2/\o=.slice p k c/\k<=x/\lt<=cap2/\lt<=1000000000/\Hid (tl.length=lt)/\Hid (done.length=k)/\Hid (BytesAt wr b of2 tl)/\Hid (resX (done.map qas) (x-k) tl=(ts,e))/\Hid (wr.ownsRow w.heap.size 27 6 (.slice p k c) k (txC done))/\Hid (TxO wr (.slice p k c) done)/\Hid (Ext w wr)) (fun _ o _=>x-lenOfS o)
  case atStart=>exact⟨0,l.drop n,l1,o1,c1,[],none,0,rfl,rfl,Nat.zero_le _,hlc1,hlm1,HL1,J rfl,J (HT.out.ext zq),HR,J (World.ownsRow_nil _ _ _ _),J (fun x hm=>absurd hm zy),J zq⟩
  case round =>
    obtain⟨k,tl,lt,of2,cap2,done,p,c,rfl,rfl,hk,hlc,hlm,HLT,HDL,HBT,HS,HO,HX,X⟩:=hrel;by_cases hlt:k<x
    case neg =>
      have hkx:x=k:=Y;subst hkx;have HE:=HS.out;rw[Nat.sub_self,resX_end] at HE;by_cases z:lt=0
      . subst z;rw[if_pos (List.eq_nil_of_length_eq_zero HLT.out)] at HE;cases HE;clear hk hlt;go_wp2_with fail;rw[Exit.noGoto_ret];go_ret2;exact⟨.slice p x c,done,rfl,rfl,⟨HX.out.all,RowIn.own (B:=w.heap.size) (T:=27) qca (by rw[HDL.out];exact HO.out)⟩,X.out⟩
      . have z1:(0<(lt:Int))=True:=zg;rw[if_neg (fun q=>z (by rw[<-HLT.out,q];rfl))] at HE;cases HE;clear hk hlt;go_wp2_with fail;rw[Exit.noGoto_ret];go_ret2;exact⟨_,[],rfl,rfl,nilTx _,X.out⟩
    obtain⟨x1,n1,e1,hc⟩:∃ x n e,cutG 0 0 tl=(x,n,e):=⟨_,_,_,rfl⟩
    have V1:=J (CV.out of2 cap2 tl lt HLT.out wr HBT.out hlm x1 n1 e1 hc);have hbd:=qbe hc;rw[HLT.out] at hbd;obtain⟨m,hm2⟩:∃ m,x-k=m+1:=⟨x-k-1,Y⟩
    rw[hm2] at HS;have hlt2:(k:Int)<(x:Int):=Y;by_cases z:e1=0;rotate_left
    . have z1:(e1 !=0)=true:=(by simpa using z)
      have HE:=HS.out;rw[resX_bad _ _ hc z] at HE;cases HE;clear hm2 hc
      go_wp2_with ((with_reducible refine Calls.mono V1.out ?_);rintro e' _ ⟨rfl,d2,os2,rfl⟩)
      rw[Exit.noGoto_ret];go_ret2;exact⟨_,[],rfl,rfl,nilTx _,Ext.trans X.out zq⟩
    subst z;have hsl2:=fun W:World=>qgW .i64 b of2 lt cap2 n1 hbd.2 W
    have HT2:=J (show BytesAt wr b (tlO of2 n1 cap2) (tl.drop n1) from HBT.out.tl n1 (by rw[HLT.out];exact hlc));obtain⟨o2,ho2⟩:∃ o,tlO of2 n1 cap2=o:=⟨_,rfl⟩
    obtain⟨l2,hl2⟩:∃ l,lt-n1=l:=⟨_,rfl⟩
    obtain⟨c2,hc2⟩:∃ c,cap2-n1=c:=⟨_,rfl⟩
    have HL2:=J (show(tl.drop n1).length=l2 from by rw[List.length_drop,HLT.out];exact hl2);rw[ho2,hl2,hc2] at hsl2;rw[ho2] at HT2;have hlc2:l2<=c2:=Y;have hlm2:l2<=1000000000:=Y;by_cases zs:l2<x1
    . have zs1:((l2:Int)<(x1:Int))=True:=zg;have HE:=HS.out;rw[qgb _ _ hc (by rw[HL2.out];exact zs)] at HE;cases HE;clear hm2 hc ho2 hl2 hc2
      go_wp2_with ((with_reducible refine Calls.mono V1.out ?_);rintro e' _ ⟨rfl,d2,os2,rfl⟩)
      rw[Exit.noGoto_ret];go_ret2;exact⟨_,[],rfl,rfl,nilTx _,Ext.trans X.out zq⟩
    have zs1:((l2:Int)<(x1:Int))=False:=zg;have hsh:=fun W:World=>sl_headK .u64 b o2 l2 c2 x1 Y W
    have D1:=J (fun W (hx:Ext wr W)=>CD.out o2 c2 ((tl.drop n1).take x1) x1 (by rw[List.length_take,HL2.out];omega) W (X.out.trans hx) ((HT2.out.take x1).ext hx) Y Y);obtain⟨tx,e2,hd⟩:∃ t e,decT ((tl.drop n1).take x1)=(t,e):=⟨_,_,rfl⟩
    rw[hd] at D1;unfold txV at D1;dsimp only at D1;by_cases z2:e2=0;rotate_left
    . have z3:(e2 !=0)=true:=(by simpa using z2)
      have HE:=HS.out;rw[resX_tx _ _ hc (by rw[HL2.out];exact zs) (by rw[hd];exact z2),hd] at HE;cases HE;clear hm2 hc ho2 hl2 hc2 hd
      go_wp2_with (first
        | ((with_reducible refine Calls.mono V1.out ?_);rintro e' _ ⟨rfl,d2,os2,rfl⟩)
        | ((with_reducible refine Calls.mono (D1.out _ zq) ?_);rintro e' W2 ⟨y,rfl,-,hn,hx2⟩;have O1:=J (tx_one (hn W2 fun _ _ _=>rfl));have X2:=J hx2;clear hn hx2)
        | (refine wpList_store_rowTo rfl 27 _ _ rfl rfl W2.heap.size (txA y.c y.t y.rv y.wv y.src y.gas) rfl rfl 27 _ (heap_alloc_new W2 _) zv rfl (qgS _ _ _ _ _ _ O1.out.1 O1.out.2) ?_))
      rw[qec,Exit.noGoto_ret];go_ret2;exact⟨_,[],rfl,rfl,nilTx _,Ext.trans X.out (Ext.trans (Ext.trans zq X2.out) zq)⟩
    subst z2;rw[resX_step _ _ hc (by rw[HL2.out];exact zs) (by rw[hd]),hd] at HS;dsimp only at HS;have hsl3:=fun W:World=>qgW .u64 b o2 l2 c2 x1 Y W
    have HT3:=J (show BytesAt wr b (tlO o2 x1 c2) ((tl.drop n1).drop x1) from HT2.out.tl x1 (by rw[HL2.out];exact hlc2));obtain⟨o3,ho3⟩:∃ o,tlO o2 x1 c2=o:=⟨_,rfl⟩
    obtain⟨l3,hl3⟩:∃ l,l2-x1=l:=⟨_,rfl⟩
    obtain⟨c3,hc3⟩:∃ c,c2-x1=c:=⟨_,rfl⟩
    have HL3:=J (show((tl.drop n1).drop x1).length=l3 from by rw[List.length_drop,HL2.out];exact hl3);rw[ho3,hl3,hc3] at hsl3;rw[ho3] at HT3;have hlc3:l3<=c3:=Y;have hlm3:l3<=1000000000:=Y;clear hc ho2 hl2 hc2 hd ho3 hl3 hc3
    go_upto_region 18 with (first
      | ((with_reducible refine Calls.mono V1.out ?_);rintro e' _ ⟨rfl,d2,os2,rfl⟩)
      | ((with_reducible refine Calls.mono (D1.out _ zq) ?_);rintro e' W2 ⟨y,rfl,hy,hn,hx2⟩;have HY:=J hy;have HN:=J hn;have O1:=J (tx_one (hn W2 fun _ _ _=>rfl));have X2:=J hx2;clear hy hn hx2)
      | (refine wpList_store_rowTo rfl 27 _ _ rfl rfl W2.heap.size (txA y.c y.t y.rv y.wv y.src y.gas) rfl rfl 27 _ (heap_alloc_new W2 _) zv rfl (qgS _ _ _ _ _ _ O1.out.1 O1.out.2) ?_))
    rw[qec];have HO4:=J (own_ext (own_ext (own_more HO.out d2 os2) X2.out) (Ext.alloc (Ext.refl W2) (.cells (txA y.c y.t y.rv y.wv y.src y.gas) 27)));obtain⟨W4,hW4⟩:∃ W4,W2.alloc (.cells (txA y.c y.t y.rv y.wv y.src y.gas) 27)=W4:=⟨_,rfl⟩
    have HS4:=J (show W4.heap.size=W2.heap.size+1 from by rw[<-hW4];simp);have X4:=J (show Ext W2 W4 from by rw[<-hW4];exact Ext.alloc (Ext.refl W2) _);have K4:=KB.new W2 (txA y.c y.t y.rv y.wv y.src y.gas) 27;rw[hW4] at HO4 K4 ⊢;obtain⟨⟨dl,g0,g1,g2,g3,g4,g5⟩,gf⟩:=kb6f K4
    have ag:(Value.slice p k c).ownBlock≠some W2.heap.size:=fun e=>by
      have e1:=own_low HO.out e;have e2:=X2.out.size;rw[more_size] at e2;omega
    have hb4:w.heap.size<=W4.heap.size:=by
      have e1:=X.out.size;have e2:=X2.out.size;have e3:=X4.out.size;rw[more_size] at e2;omega
    clear hW4 K4
    go_region_held3 (fun w'=>w'.cell? ⟨W2.heap.size,0,none⟩=some (.int .i64 y.c)/\w'.cell? ⟨W2.heap.size,1,none⟩=some (.int .i64 y.t)/\w'.cell? ⟨W2.heap.size,2,none⟩=some y.rv/\w'.cell? ⟨W2.heap.size,3,none⟩=some y.wv/\w'.cell? ⟨W2.heap.size,4,none⟩=some (.string y.src)/\w'.cell? ⟨W2.heap.size,5,none⟩=some (.int .i64 y.gas))
      (first
        | go_keep
        | (go_split_ands
           refine ⟨?_,?_,?_,?_,?_,?_⟩<;>(rw[hgrow.cell_far _ zg (Ne.symm ag)];assumption)))
      ((refine step_append_lies _ jy _ _ _ jy w.heap.size 27 i0 _ 6 88 underlying22 hi hz0 hz1 hz2 rfl Y (.slice p k c) k (txC done) jy ((HO4.out.alloc _).drew)
          ⟨W4.heap.size,0,none⟩ 1 1 (txA y.c y.t y.rv y.wv y.src y.gas).toList jy jy (World.news_of_block (cs:=txA y.c y.t y.rv y.wv y.src y.gas) (t:=27) (fr:=(0,0)) (heap_alloc_new W4 _)) (by simp[txA,O1.out.1,O1.out.2];exact⟨rfl,rfl,rfl,rfl⟩)
          Y jq Y zg (W4.heap.size+1) zy ?_;intro gg cap3 w5 hown5 hgrow hat hlt5))
    have X5:=J (qbR (Ext.trans X.out (Ext.trans (Ext.trans (show Ext wr (more wr d2 os2) from zq) X2.out) (Ext.trans X4.out zq))) ((HO4.out.alloc _).drew) hgrow)
    have HX5:=J (TxO.push (w:=more wr d2 os2) (v3:=.slice (some ⟨gg,0,none⟩) (k+1) cap3) (HX.out.ext zq) HN.out X2.out (Ext.trans X4.out zq) hgrow (by
      rcases hat with h | h
      . exact .inl (by rw[h];rfl)
      . exact .inr (by rw[h];simp[Value.ownBlock])) (fun k e=>own_low (own_more HO.out d2 os2) e))
    have HB5:=J (show BytesAt w5 b o3 ((tl.drop n1).drop x1) from BytesAt.of_block (HT3.out.ext (Ext.trans (Ext.trans (show Ext wr (more wr d2 os2) from zq) X2.out) (Ext.trans X4.out zq))) (hgrow.block b zg (fun e=>by have:=(HO.out.lt b e.symm).1;omega)));have HO5:=J hown5;clear hown5 hgrow hat hlt5 ag hb4;go_wp2_with fail;go_roundw
    case measure=>simp[lenOfS];omega
    case rel=>exact⟨k+1,(tl.drop n1).drop x1,l3,o3,c3,done++[y],some ⟨gg,0,none⟩,cap3,rfl,rfl,Y,hlc3,hlm3,HL3,J (by rw[List.length_append,HDL.out];rfl),HB5,J (by rw[List.map_append,show x-(k+1)=m by omega,List.map_cons,List.map_nil,HY.out];exact HS.out),J (by rw[qfl];exact HO5.out),HX5,X5⟩
def kb3f {a0 a1 a2:Value} {T:TypeId} (h:KB k #[a0,a1,a2] T w):(k<w.heap.size/\w.cell? ⟨k,0,none⟩=some a0/\w.cell? ⟨k,1,none⟩=some a1/\w.cell? ⟨k,2,none⟩=some a2)/\∀ i,w.frozen? ⟨k,i,none⟩=false :=
 ⟨⟨h.lt,h.cell 0 _ rfl,h.cell 1 _ rfl,h.cell 2 _ rfl⟩,fun i=>h.frozen i⟩
def RtS (w:World) (k:Nat) (s:ByteArray) (at_:Nat) (e:Int) (W:World):Prop:=KB k #[.string s,.int .i64 (at_:Int),.int .i64 e] 95 W/\at_<=s.size/\s.size<=1000000000/\w.heap.size<=k/\Ext w W
def RtS.ext {W':World} (h:RtS w k s at_ e W) (hx:Ext W W'):RtS w k s at_ e W':=⟨h.1.of_ext hx,h.2.1,h.2.2.1,h.2.2.2.1,h.2.2.2.2.trans hx⟩
def RtS.err (h:RtS w k s at_ e W) (e':Int):RtS w k s at_ e' (W.setCell ⟨k,2,none⟩ (.int .i64 e')):=⟨h.1.setAt 2 (.int .i64 e') zy,h.2.1,h.2.2.1,h.2.2.2.1,ext_setNew h.2.2.2.2 h.2.2.2.1⟩
def RtS.adv {at2:Nat} (h:RtS w k s at_ e W) (h2:at2<=s.size) {z:Int} (hz:z=(at2:Int)):RtS w k s at2 e (W.setCell ⟨k,1,none⟩ (.int .i64 z)):=by
 subst hz;exact⟨h.1.setAt 1 (.int .i64 (at2:Int)) zy,h2,h.2.2.1,h.2.2.2.1,ext_setNew h.2.2.2.2 h.2.2.2.1⟩
def sl_str (s:ByteArray) (at_:Nat) (h:at_<=s.size):∃ s2:ByteArray,s2.data.toList=s.data.toList.drop at_/\s2.size=s.size-at_/\∀ W:World,(Instr.slice 9 (.string s) (some (.int .i64 (at_:Int))) none none).run prog W=.ok (.string s2) W:=by
 refine ⟨s.extract at_ s.size,?_,?_,fun W=>?_⟩
 . rw[ByteArray.data_extract,Array.toList_extract];rw[List.extract_eq_take_drop,List.take_of_length_le zy]
 . rw[ByteArray.size_extract];omega
 . rw[run_slice_string_from_if W 9 s .i64 (at_:Int) underlying9];simp[h]
def qcg (most:Nat) (hmost:(most:Int)<18446744073709551616) (h:RtS w k s at_ e W) (v:Nat) (l':List UInt8) (e':Int) (hr:numS most (s.data.toList.drop at_,e)=(v,l',e')) :
  Calls prog 48 #[.pointer (some ⟨k,0,none⟩),.int .u64 (most:Int)] W fun r W'=>r=.returned (.int .u64 (v:Int))/\∃ at2,s.data.toList.drop at2=l'/\RtS w k s at2 e' W'/\W.grownBy W' (some k):=by
 have HC:=J h;obtain⟨h1,h2,h3,h4,h5⟩:=h;obtain⟨⟨hk,c0,c1,c2⟩,cf⟩:=kb3f h1;unfold numS at hr;by_cases he:e=0;rotate_left
 . have he1:(e !=0)=true:=by simpa using he
   rw[if_pos he] at hr;cases hr;go_enter func48,ntmps48;go_wp2_with fail;go_ret;exact⟨rfl,at_,rfl,HC.out.ext zq,qal (grown_refl _ _) zq⟩
 subst he;rw[if_neg zy] at hr;obtain⟨x,n,e0,hg⟩:∃ x n e,cutG 0 0 (s.data.toList.drop at_)=(x,n,e):=⟨_,_,_,rfl⟩
 rw[qcE _ hg] at hr;have hxn:=qbe hg;obtain⟨s2,hs2,hz2,hsl⟩:=sl_str s at_ h2;have CG:=J (fun W'=>qeB s2 jq W' x n e0 (by rw[hs2];exact hg))
 have hn2:at_+n<=s.size:=by
  have:=hxn.2;rw[List.length_drop] at this;have hq:s.data.toList.length=s.size:=rfl;omega
 have HR:=J hr;clear hr hg hs2 h1;have w1:IntKind.i64.wrap ((at_:Int)+(n:Int))=((at_+n:Nat):Int):=by rw[IntWalk.i64_in _ Y];simp
 by_cases z0:e0=0;rotate_left
 . have z1:(e0==0)=false:=by simpa using z0
   have z2:(e0 !=0)=true:=by simpa using z0
   have HE:=HR.out;rw[if_pos z0] at HE;cases HE;go_enter func48,ntmps48
   go_upto_region 3 with fail
   refine qaa 17 49 (List.replicate 17 false) zv zv rfl ?_;refine zh ?_
   repeat(refine Lex.step rfl ?_;intro K hK;unfold StepG;go_simp;(first | refine hK _ ?_ | ((with_reducible refine ⟨_,fun d os=>(ret1 (CG.out _)),?_⟩);go_simp;refine hK _ ?_));clear hK K)
   refine zd ?_;intro dd oo;go_wp2_with fail;rw[ends_normal];go_wp2_with fail;go_ret;exact⟨rfl,at_,rfl,(HC.out.err _).ext zq,qal (qak (grown_refl _ _) _ _) zq⟩
 subst z0;have HR:=J (show(if most<x then(0,s.data.toList.drop at_,8) else(x,(s.data.toList.drop at_).drop n,0))=(v,l',e') from by rw[<-HR.out,if_neg (show ¬ (0:Int)≠0 by simp)]);by_cases zx:most<x
 . have z1:((most:Int)<(x:Int))=True:=zg;have HE:=HR.out;rw[if_pos zx] at HE;cases HE;go_enter func48,ntmps48
   go_upto_region 3 with fail
   refine qaa 17 49 (List.replicate 17 false) zv zv rfl ?_;refine zh ?_
   repeat(refine Lex.step rfl ?_;intro K hK;unfold StepG;go_simp;(first | refine hK _ ?_ | ((with_reducible refine ⟨_,fun d os=>(ret1 (CG.out _)),?_⟩);go_simp;refine hK _ ?_));clear hK K)
   refine zd ?_;intro dd oo;go_wp2_with fail;rw[ends_normal];go_wp2_with fail;go_ret;exact⟨rfl,at_,rfl,(HC.out.err _).ext zq,qal (qak (grown_refl _ _) _ _) zq⟩
 . have z1:((most:Int)<(x:Int))=False:=zg;have HE:=HR.out;rw[if_neg zx] at HE;cases HE;go_enter func48,ntmps48
   go_upto_region 3 with fail
   refine qaa 17 49 (List.replicate 17 false) zv zv rfl ?_;refine zh ?_
   repeat(refine Lex.step rfl ?_;intro K hK;unfold StepG;go_simp;(first | refine hK _ ?_ | ((with_reducible refine ⟨_,fun d os=>(ret1 (CG.out _)),?_⟩);go_simp;refine hK _ ?_));clear hK K)
   refine zd ?_;intro dd oo;go_wp2_with fail;rw[ends_normal];go_wp2_with fail;go_ret;exact⟨rfl,at_+n,by rw[List.drop_drop],(HC.out.adv hn2 (z:=(at_:Int)+(n:Int)) zy).ext zq,qal (qak (grown_refl _ _) _ _) zq⟩
def rcutlist_any (s:ByteArray) (l:List UInt8) (hl:s.data.toList=l) (w:World) (hm:s.size<=1000000000) (ts:List ByteArray) (rest:List UInt8) (e:Int) (hr:listC l=(ts,rest,e)) :
  Calls prog 81 #[.string s,.int .i64 8] w fun e' w'=>∃ v at_,e'=.returned (.tuple #[v,.int .i64 ((at_:Nat):Int),.int .i64 e])/\at_<=s.size/\l.drop at_=rest/\RowF w.heap.size ts v w'/\Ext w w':=by
 obtain⟨x,n,e0,hg⟩:∃ x n e,cutG 0 0 l=(x,n,e):=⟨_,_,_,rfl⟩
 have C0:=J (fun W=>qeB s jq W x n e0 (by rw[hl];exact hg));rw[qeL l hg] at hr;have hxn:=qbe hg;have hll:l.length=s.size:=by rw[<-hl];rfl
 rw[hll] at hxn;have HLL:=J hll;have HL:=J hl;have HR:=J hr;obtain⟨i0,hi,hz0,hz1,hz2⟩:=info_parts qeO;clear hg hr hl hll;by_cases q0:e0=0;rotate_left
 . have q1:(e0 !=0)=true:=by simpa using q0
   have HE:=HR.out;rw[if_pos q0] at HE;cases HE;go_enter func81,ntmps81
   go_wp2_with ((with_reducible refine Calls.mono (C0.out _) ?_);rintro e' _ ⟨rfl,d1,os1,rfl⟩)
   go_ret3;exact yba
 subst q0;have HR:=J (show(if 8<x then([],l,8) else resT l [] x (l.drop n))=(ts,rest,e) from by rw[<-HR.out,if_neg (show ¬ (0:Int)≠0 by simp)]);by_cases q8:8<x
 . have q1:(8<(x:Int))=True:=zg;have HE:=HR.out;rw[if_pos q8] at HE;cases HE;go_enter func81,ntmps81
   go_wp2_with ((with_reducible refine Calls.mono (C0.out _) ?_);rintro e' _ ⟨rfl,d1,os1,rfl⟩)
   go_ret3;exact yba
 have q1:(8<(x:Int))=False:=zg;have HR:=J (show resT l [] x (l.drop n)=(ts,rest,e) from by rw[<-HR.out,if_neg q8]);have hx8:(x:Int)<=8:=Y;have x1:IntKind.i64.wrap (x:Int)=(x:Int):=IntWalk.i64_in _ Y;go_enter func81,ntmps81
 go_wp2_with ((with_reducible refine Calls.mono (C0.out _) ?_);rintro e' _ ⟨rfl,d1,os1,rfl⟩)
 go_loopw [8,10] (fun a o wr=>∃ (k at_:Nat) (done:List ByteArray) (p:Option Addr) (c:Nat),a=.int .i64 (at_:Int)/\k<=x/\at_<=s.size/\Hid (done.length=k)/\o=.slice p k c/\Hid (resT l done (x-k) (l.drop at_)=(ts,rest,e))/\Hid (wr.ownsRow w.heap.size 9 1 (.slice p k c) k (done.map Value.string))/\Hid (Ext w wr)) (fun _ o _=>x-lenOfS o)
 case atStart=>exact⟨0,n,[],none,0,rfl,Nat.zero_le _,hxn.2,J rfl,rfl,HR,J (World.ownsRow_nil _ _ _ _),J zq⟩
 case round =>
  obtain⟨k,at_,done,p,c,rfl,hk,hat,HDL,rfl,HS,HO,X⟩:=hrel;by_cases hlt:k<x
  case neg =>
   have hkn:x=k:=Y;subst hkn;have HE:=HS.out;rw[Nat.sub_self,resT_end] at HE;cases HE;clear hk hlt;go_wp2_with fail;go_ret3;exact⟨.slice p x c,at_,rfl,hat,rfl,⟨p,c,by rw[HDL.out],by rw[HDL.out];exact HO.out⟩,X.out⟩
  obtain⟨s2,hs2,hz2',hsl⟩:=sl_str s at_ hat;obtain⟨t,n1,e1,hc⟩:∃ t n e,cutT (l.drop at_)=(t,n,e):=⟨_,_,_,rfl⟩
  have T1:=J (fun W=>rcuttext_any s2 W Y t n1 e1 (by rw[hs2,HL.out];exact hc));have hbd:=qgY hc;rw[List.length_drop,HLL.out] at hbd;have hlt2:(k:Int)<(x:Int):=Y;obtain⟨m,hm2⟩:∃ m,x-k=m+1:=⟨x-k-1,Y⟩
  rw[hm2] at HS;by_cases z:e1=0;rotate_left
  . have z1:(e1 !=0)=true:=(by simpa using z)
    have HE:=HS.out;rw[resT_err hc z] at HE;cases HE;clear hm2 hc hs2
    go_wp2_with ((with_reducible refine Calls.mono (T1.out _) ?_);rintro e' _ ⟨rfl,d2,os2,rfl⟩)
    go_ret3;exact⟨_,0,rfl,Nat.zero_le _,rfl,⟨none,0,rfl,World.ownsRow_nil _ _ _ _⟩,Ext.trans X.out zq⟩
  subst z;rw[resT_step hc,List.drop_drop] at HS;have hk1:x-(k+1)=m:=Y;clear hm2 hc hs2
  go_wp2_with (first
   | ((with_reducible refine Calls.mono (T1.out _) ?_);rintro e' w2 ⟨rfl,hx2⟩;have HO:=J (own_ext HO.out hx2);have X:=J (X.out.trans hx2);clear hx2)
   | (at_builtin;refine wpList_append_own_at _ rfl _ _ 23 rfl w.heap.size 9 i0 (.string ⟨#[]⟩) 1 16 underlying23 hi hz0 hz1 hz2 rfl zw (.slice p k c) k (done.map Value.string) rfl (HO.out.alloc _) ⟨_,0,none⟩ 1 1 [.string ⟨t.toArray⟩] rfl rfl (qaq zy) ji jq Y (by have:=X.out.size;simp;omega) ?_))
  intro v3 w3 hown hgrow _ _;have X3:=J (qbR (X.out.alloc _) (HO.out.alloc _) hgrow);obtain⟨p3,c3,rfl⟩:=qad hown;have H3:=J hown;clear hown hgrow;go_wp2_with fail;go_roundw
  case measure=>simp[lenOfS];omega
  case rel=>exact⟨k+1,at_+n1,done++[⟨t.toArray⟩],p3,c3,by go_num,Y,Y,J (by rw[List.length_append,HDL.out];rfl),rfl,by rw[hk1];exact HS,J (by rw[List.map_append];exact H3.out),X3⟩
def RowF.lower {B B':Nat} {l:List ByteArray} (h:RowF B l v W) (hb:B'<=B):RowF B' l v W:=by
 obtain⟨p,c,e,ho⟩:=h;refine ⟨p,c,e,ho.1,?_⟩;rcases ho.2 with h | ⟨g,cap,cur,h1,h2,h3⟩
 . exact .inl h
 . exact .inr ⟨g,cap,cur,h1,Nat.le_trans hb h2,h3⟩
def TupF (B:Nat) (l:List ByteArray) (z e:Int):Fact:=fun v W=>∃ v',v=.tuple #[v',.int .i64 z,.int .i64 e]/\RowF B l v' W
def TupF.upc (B:Nat) (l:List ByteArray) (z e:Int):Upc (TupF B l z e):=fun v W W' hx ⟨v',h1,h2⟩=>⟨v',h1,RowF.upc B l v' W W' hx h2⟩
def qfh:∀ (k:Nat) (l:List UInt8),∃ a,a<=l.length/\(qaO k l).2.1=l.drop a
 | 0,l=>⟨0,Nat.zero_le _,rfl⟩
 | k+1,l=>by
  obtain⟨t,n,e,hc⟩:∃ t n e,cutT l=(t,n,e):=⟨_,_,_,rfl⟩
  have hb:=(qgY hc).2;obtain⟨a,ha,h⟩:=qfh k (l.drop n);unfold qaO;rw[hc];dsimp only;split
  . exact⟨0,Nat.zero_le _,rfl⟩
  . split
    . exact⟨0,Nat.zero_le _,rfl⟩
    . rw[List.length_drop] at ha;exact⟨n+a,Y,by dsimp only;rw[h,List.drop_drop]⟩
def listC_drop (l:List UInt8):∃ a,a<=l.length/\(listC l).2.1=l.drop a:=by
 have hn:∃ a,a<=l.length/\(numC 8 l).2.1=l.drop a:=by
  obtain⟨x,n,e,hg⟩:∃ x n e,cutG 0 0 l=(x,n,e):=⟨_,_,_,rfl⟩
  have hb:=(qbe hg).2;rw[qcE 8 hg];split
  . exact⟨0,Nat.zero_le _,rfl⟩
  . split
    . exact⟨0,Nat.zero_le _,rfl⟩
    . exact⟨n,hb,rfl⟩
 obtain⟨a,ha,h⟩:=hn;obtain⟨c,hc,h2⟩:=qfh (numC 8 l).1 (numC 8 l).2.1;unfold listC;split
 . exact⟨0,Nat.zero_le _,rfl⟩
 . split
   . exact⟨0,Nat.zero_le _,rfl⟩
   . refine ⟨a+c,?_,by rw[h2,h,List.drop_drop]⟩;rw[h,List.length_drop] at hc;omega
def rlist_any (h:RtS w k s at_ e W) (ts:List ByteArray) (l':List UInt8) (e':Int) (hr:listS (s.data.toList.drop at_,e)=(ts,l',e')) :
  Calls prog 68 #[.pointer (some ⟨k,0,none⟩)] W fun r W'=>∃ v,r=.returned v/\RowF W.heap.size ts v W'/\∃ at2,s.data.toList.drop at2=l'/\RtS w k s at2 e' W'/\W.grownBy W' (some k):=by
 have HC:=J h;obtain⟨h1,h2,h3,h4,h5⟩:=h;obtain⟨⟨hk,c0,c1,c2⟩,cf⟩:=kb3f h1;unfold listS at hr;by_cases he:e=0;rotate_left
 . have he1:(e !=0)=true:=by simpa using he
   rw[if_pos he] at hr;cases hr;go_enter func68,ntmps68;go_wp2_with fail;go_ret;exact⟨.slice none 0 0,rfl,⟨none,0,rfl,World.ownsRow_nil _ _ _ _⟩,at_,rfl,HC.out.ext zq,qal (grown_refl _ _) zq⟩
 subst he;rw[if_neg zy] at hr;obtain⟨s2,hs2,hz2,hsl⟩:=sl_str s at_ h2;obtain⟨n,hn⟩:∃ n,s2.size-l'.length=n:=⟨_,rfl⟩
 have hln:s2.data.toList.length=s2.size:=rfl;obtain⟨rp,hrp⟩:∃ r,TupF W.heap.size ts (n:Int) e'=r:=⟨_,rfl⟩
 obtain⟨ry,hry⟩:∃ r,RowF W.heap.size ts=r:=⟨_,rfl⟩
 have UP:=J (show Upc rp from hrp ▸ TupF.upc _ _ _ _);have UY:=J (show Upc ry from hry ▸ RowF.upc _ _);have PE:=J (show ∀ v W,rp v W->∃ v',v=.tuple #[v',.int .i64 (n:Int),.int .i64 e']/\ry v' W from fun v W h=>by rw[<-hrp] at h;rw[<-hry];exact h);have YE:=J (show ∀ v W',ry v W'->RowF W.heap.size ts v W' from fun v W' h=>by rw[<-hry] at h;exact h)
 have AP:=J (show ∀ W2,Ext W W2->Calls prog 81 #[.string s2,.int .i64 8] W2 (RetG W2 rp) from fun W2 hx=>(rcutlist_any s2 _ hs2 W2 Y ts l' e' hr).mono fun r W3 ⟨v,a,e1,e2,e3,e4,e5⟩=>by
  have ha:a=n:=by
   rw[<-hn,<-e3,<-hs2,List.length_drop,hln];omega
  subst ha
  exact⟨_,e1,e5,hrp ▸ ⟨v,rfl,RowF.lower e4 hx.size⟩⟩)
 have HDN:Hid (s.data.toList.drop (at_+n)=l'/\at_+n<=s.size):=J (by
  obtain⟨a,ha,hd⟩:=listC_drop (s.data.toList.drop at_);rw[hr] at hd;dsimp only at hd;have hq:s.data.toList.length=s.size:=rfl;rw[List.length_drop,hq] at ha
  have:n=a:=by
   rw[<-hn,hd,List.length_drop,List.length_drop,hq,hz2];omega
  subst this
  exact⟨by rw[hd,List.drop_drop],Y⟩)
 clear hrp hry hn hr hs2 hln h1;have w1:IntKind.i64.wrap ((at_:Int)+(n:Int))=(at_:Int)+(n:Int):=IntWalk.i64_in _ (by have:=HDN.out.2;omega);go_enter func68,ntmps68
 go_upto_region 3 with fail
 refine qaa 14 38 [false,false,false,false,false,false,false,false,false,false,false,false,true,true] zv zv rfl ?_;refine zh ?_
 iterate 9 (refine Lex.step rfl ?_;intro K hK;unfold StepG;go_simp;refine hK _ ?_;clear hK K)
 refine Lex.gap 21 rp rfl UP.out rfl (fun d os=>?_) ?_
 . unfold StepG;go_simp;exact AP.out _ zq
 refine Lex.gap1 11 rp 21 rp rfl UP.out rfl (fun u d os hu=>?_) ?_
 . unfold StepG;go_simp;exact hu
 refine Lex.gap1 22 ry 11 rp rfl UY.out rfl (fun u d os hu=>?_) ?_
 . obtain⟨v',rfl,hy⟩:=PE.out _ _ hu;unfold StepG;go_simp;exact hy
 refine Lex.det (.int .i64 (n:Int)) (fun W hE=>?_) ?_
 . rw[show looks _ _ _=[(11,rp)] from rfl];intro u hu;obtain⟨v',rfl,hy⟩:=PE.out _ _ hu;unfold FillH StepK PureStep;simp only[Region.wanted,if_true];refine ⟨_,fun w=>?_,rfl⟩;go_simp
 refine Lex.det (.int .i64 e') (fun W hE=>?_) ?_
 . rw[show looks _ _ _=[(11,rp)] from rfl];intro u hu;obtain⟨v',rfl,hy⟩:=PE.out _ _ hu;unfold FillH StepK PureStep;simp only[Region.wanted,if_true];refine ⟨_,fun w=>?_,rfl⟩;go_simp
 refine Lex.nil fun WW hE=>?_
 obtain⟨dd,oo,rfl⟩:=hE;intro vy hy v24 h24 v31 h31;have RX:=J (YE.out _ _ hy);clear hy h24 h31;unfold FillH;go_wp2_with fail;rw[ends_normal];go_wp2_with fail;go_ret;refine ⟨vy,rfl,?_,at_+n,HDN.out.1,((HC.out.adv HDN.out.2 (z:=(at_:Int)+(n:Int)) zy).err e').ext zq,qal (qak (qak (grown_refl _ _) _ _) _ _) zq⟩;rw[<-more_setCell _ dd oo k 2 _ (by simpa using hk),<-more_setCell _ dd oo k 1 _ hk];exact RowF.setO (RowF.setO RX.out hk) hk
end Go.Proofs.YtpnabjopfpdkhaaGreatDoor
