/- Lemmas. -/
import Derived.Test.YtpnabjopfpdkhaaGreatDoorY38
set_option linter.all false
set_option maxHeartbeats 4000000
set_option maxRecDepth 20000
namespace Go.Proofs.YtpnabjopfpdkhaaGreatDoor
open Go.Proofs.Tryz RowKit
variable {W w:World} {b k:Nat} {l:List UInt8} {e:Int}
attribute [go_sem] more_more Array.size_append
def CuS (w:World) (k b:Nat) (l:List UInt8) (e:Int) (W:World):Prop:=∃ off cap,KB k #[.slice (some ⟨b,off,none⟩) l.length cap,.int .i64 e] 113 W/\BytesAt W b off l/\l.length<=cap/\l.length<=1000000000/\b<w.heap.size/\w.heap.size<=k/\Ext w W
def CuS.ext {W':World} (h:CuS w k b l e W) (hx:Ext W W'):CuS w k b l e W':=by
 obtain⟨off,cap,h1,h2,h3,h4,h5,h6,h7⟩:=h;exact⟨off,cap,h1.of_ext hx,h2.ext hx,h3,h4,h5,h6,h7.trans hx⟩
def bytes_other {off i:Nat} (h:BytesAt W b off l) (hk:b≠k) (v:Value):BytesAt (W.setCell ⟨k,i,none⟩ v) b off l:=h.of_block (Below.heap_setCell _ _ _ _ hk)
def ext_setNew {i:Nat} {v:Value} (h:Ext w W) (hk:w.heap.size<=k):Ext w (W.setCell ⟨k,i,none⟩ v):=Ext.grown h (qak (grown_refl _ _) i v) fun j hj=>by cases hj;exact hk
def kb2 {a0 a1:Value} {T:TypeId} (h:KB k #[a0,a1] T w):k<w.heap.size/\w.cell? ⟨k,0,none⟩=some a0/\w.cell? ⟨k,1,none⟩=some a1/\w.frozen? ⟨k,0,none⟩=false/\w.frozen? ⟨k,1,none⟩=false:=⟨h.lt,h.cell 0 _ rfl,h.cell 1 _ rfl,h.frozen 0,h.frozen 1⟩
def CuS.err (h:CuS w k b l e W) (e':Int):CuS w k b l e' (W.setCell ⟨k,1,none⟩ (.int .i64 e')):=by
 obtain⟨off,cap,h1,h2,h3,h4,h5,h6,h7⟩:=h;exact⟨off,cap,h1.setAt 1 (.int .i64 e') zy,bytes_other h2 Y _,h3,h4,h5,h6,ext_setNew h7 h6⟩
def CuS.adv {off cap:Nat} {l':List UInt8} {v0:Value} (h1:KB k #[v0,.int .i64 e] 113 W) (h2:BytesAt W b off l') (h3:l'.length<=cap) (h4:l'.length<=1000000000) (h5:b<w.heap.size) (h6:w.heap.size<=k) (h7:Ext w W) {n:Nat} (hn:l'.length=n):CuS w k b l' e (W.setCell ⟨k,0,none⟩ (.slice (some ⟨b,off,none⟩) n cap)):=by
 subst hn;exact⟨off,cap,h1.setAt 0 (.slice (some ⟨b,off,none⟩) l'.length cap) zy,bytes_other h2 Y _,h3,h4,h5,h6,ext_setNew h7 h6⟩
def qeu (most:Nat) (hmost:(most:Int)<9223372036854775807) (h:CuS w k b l e W) (v:Nat) (l':List UInt8) (e':Int) (hr:numS most (l,e)=(v,l',e')) :
  Calls prog 63 #[.pointer (some ⟨k,0,none⟩),.int .u64 (most:Int)] W fun r W'=>r=.returned (.int .i64 (v:Int))/\CuS w k b l' e' W'/\W.grownBy W' (some k):=by
 have HC:=J h;obtain⟨off,cap,h1,h2,h3,h4,h5,h6,h7⟩:=h;obtain⟨hk,c0,c1,f0,f1⟩:=kb2 h1;unfold numS at hr;by_cases he:e=0;rotate_left
 . have he1:(e !=0)=true:=by simpa using he
   rw[if_pos he] at hr;cases hr;go_enter func63,ntmps63;go_wp2_with fail;go_ret;exact⟨rfl,CuS.ext HC.out zq,qal (grown_refl _ _) zq⟩
 subst he;rw[if_neg zy] at hr;unfold numC at hr;obtain⟨x,n,e0,hg⟩:∃ x n e,cutG 0 0 l=(x,n,e):=⟨_,_,_,rfl⟩
 rw[hg] at hr;dsimp only at hr;have hxn:=qbe hg;have CG:=J (fun W' (hx:Ext W W')=>qcF b off cap l W' jq (h2.ext hx) x n e0 hg);have HB:=J (show BytesAt W b (tlO off n cap) (l.drop n) from h2.tl n h3);have hsl:=fun W:World=>sl_tail b off l.length cap n hxn.2 W
 obtain⟨o1,ho1⟩:∃ o1,tlO off n cap=o1:=⟨_,rfl⟩
 obtain⟨l1,hl1⟩:∃ l1,l.length-n=l1:=⟨_,rfl⟩
 obtain⟨c2,hc2⟩:∃ c1,cap-n=c1:=⟨_,rfl⟩
 obtain⟨len,hlen⟩:∃ len,l.length=len:=⟨_,rfl⟩
 have HL:=J hlen;rw[ho1,hl1,hc2] at hsl;rw[ho1] at HB;rw[hlen] at CG c0 hsl hl1;have H1:=J h1;have H2:=J h2;have hbk:b≠k:=Y;have H7:=J h7;have HR:=J hr;have q8:(e0==0)=(e0==0):=rfl;clear hr hg h1 h2 h7 ho1 q8;by_cases z0:e0=0;rotate_left
 . have z1:(e0==0)=false:=by simpa using z0
   have z2:(e0 !=0)=true:=by simpa using z0
   have HE:=HR.out;rw[if_pos z0] at HE;cases HE;go_enter func63,ntmps63
   go_wp2_with ((with_reducible refine Calls.mono (CG.out _ zq) ?_);rintro e' _ ⟨rfl,d1,os1,rfl⟩)
   go_ret;exact⟨rfl,CuS.ext (CuS.err HC.out _) zq,qal (qak (grown_refl _ _) _ _) zq⟩
 subst z0;have HR:=J (show(if most<x then(0,l,8) else(x,l.drop n,0))=(v,l',e') from by rw[<-HR.out,if_neg (show ¬ (0:Int)≠0 by simp)]);by_cases zx:most<x
 . have z1:((most:Int)<(x:Int))=True:=zg;have HE:=HR.out;rw[if_pos zx] at HE;cases HE;go_enter func63,ntmps63
   go_wp2_with ((with_reducible refine Calls.mono (CG.out _ zq) ?_);rintro e' _ ⟨rfl,d1,os1,rfl⟩)
   go_ret;exact⟨rfl,CuS.ext (CuS.err HC.out _) zq,qal (qak (grown_refl _ _) _ _) zq⟩
 have z1:((most:Int)<(x:Int))=False:=zg;have HE:=HR.out;rw[if_neg zx] at HE;cases HE;have u1:IntKind.i64.wrap (v:Int)=(v:Int):=IntWalk.i64_in _ Y;have g1:(l.drop n).length<=c2:=by rw[List.length_drop];omega
 have g2:(l.drop n).length<=1000000000:=by rw[List.length_drop];omega
 have g3:(l.drop n).length=l1:=by rw[List.length_drop,HL.out,hl1]
 clear hmost zx;go_enter func63,ntmps63
 go_wp2_with ((with_reducible refine Calls.mono (CG.out _ zq) ?_);rintro e' _ ⟨rfl,d1,os1,rfl⟩)
 go_ret;exact⟨ret_int (by first | rfl | exact u1),CuS.ext (CuS.adv H1.out HB.out g1 g2 h5 h6 H7.out g3) zq,qal (qak (grown_refl _ _) _ _) zq⟩
def RowF.keep {B:Nat} {l:List ByteArray} {v:Value} {W':World} (h:RowF B l v W) (hk:k<B) (hg:W.grownBy W' (some k)):RowF B l v W':=by
 obtain⟨p,c,e,ho⟩:=h;refine ⟨p,c,e,own_block ho fun j hj hl=>hg.block j hl ?_⟩;have:=(ho.lt j hj).1;intro q;cases q;omega
def clist_any (h:CuS w k b l e W) (ts:List ByteArray) (l':List UInt8) (e':Int) (hr:listS (l,e)=(ts,l',e')) :
  Calls prog 64 #[.pointer (some ⟨k,0,none⟩)] W fun r W'=>∃ v,r=.returned v/\RowF W.heap.size ts v W'/\CuS w k b l' e' W'/\W.grownBy W' (some k):=by
 have HC:=J h;obtain⟨off,cap,h1,h2,h3,h4,h5,h6,h7⟩:=h;obtain⟨hk,c0,c1,f0,f1⟩:=kb2 h1;unfold listS at hr;by_cases he:e=0;rotate_left
 . have he1:(e !=0)=true:=by simpa using he
   rw[if_pos he] at hr;cases hr;go_enter func64,ntmps64;go_wp2_with fail;go_ret;exact⟨.slice none 0 0,rfl,⟨none,0,rfl,World.ownsRow_nil _ _ _ _⟩,CuS.ext HC.out zq,qal (grown_refl _ _) zq⟩
 subst he;rw[if_neg zy] at hr;have CL:=J (fun W' (hx:Ext W W')=>vcutlist_any b off cap l W' h4 h3 (h2.ext hx) ts l' e' hr);obtain⟨len,hlen⟩:∃ len,l.length=len:=⟨_,rfl⟩
 have HL:=J hlen;rw[hlen] at CL c0 h1;have H1:=J h1;have HKW:=J hk;have HSL:=J (fun n (hn:n<=len) (W:World)=>sl_tail b off len cap n hn W);have HB:=J h2;have hbk:b≠k:=Y;clear hr h1 h2 hlen;go_enter func64,ntmps64
 go_wp2_with ((with_reducible refine Calls.mono (CL.out _ zq) ?_);rintro r w2 ⟨v,n,rfl,hn,hd,hrow,hx⟩;have HX:=J (show Ext W w2 from Ext.trans zq hx);have HD:=J hd;have HROW:=J hrow;clear hd hrow hx;have hsl:=HSL.out n hn;obtain⟨o1,ho1⟩:∃ o1,tlO off n cap=o1:=⟨_,rfl⟩;obtain⟨l1,hl1⟩:∃ l1,len-n=l1:=⟨_,rfl⟩;obtain⟨c2,hc2⟩:∃ c2,cap-n=c2:=⟨_,rfl⟩;rw[ho1,hl1,hc2] at hsl;have HBT:=J (show BytesAt w2 b o1 l' from(by rw[<-ho1,<-HD.out];exact BytesAt.ext (BytesAt.tl HB.out n h3) HX.out));have HG:=J (show l'.length=l1/\l'.length<=c2/\l'.length<=1000000000 from(by rw[<-HD.out,List.length_drop,HL.out];have:=HL.out;omega));clear ho1 hl1 hc2;obtain⟨hk,c0,c1,f0,f1⟩:=kb2 (H1.out.of_ext HX.out))
 go_ret;exact⟨v,rfl,RowF.keep HROW.out HKW.out (qak (qak (grown_refl _ _) _ _) _ _),CuS.adv ((H1.out.of_ext HX.out).setAt 1 (.int .i64 e') zy) (bytes_other HBT.out hbk _) HG.out.2.1 HG.out.2.2 h5 h6 (ext_setNew (h7.trans HX.out) h6) HG.out.1,qak (qak (qal (grown_refl _ _) HX.out) _ _) _ _⟩
end Go.Proofs.YtpnabjopfpdkhaaGreatDoor
namespace Go.Proofs.YtpnabjopfpdkhaaGreatDoor
open Go.Proofs.Tryz RowKit
attribute [go_sem] more_more Array.size_append
def textX_eq (s:ByteArray):textX s=⟨(textB s).toArray⟩:=by
 apply ByteArray.ext;simp[textX,textB,ByteArray.data_append]
def listX_eq (l:List ByteArray):listX l.length l=⟨(listB l).toArray⟩:=by
 have go:∀ (l:List ByteArray) (a:List UInt8),l.foldl (fun a s=>a++textX s) (⟨a.toArray⟩:ByteArray)=⟨(a++l.flatMap textB).toArray⟩:=by
  intro l
  induction l with
  | nil=>intro a;simp
  | cons s l ih =>
   intro a;rw[List.foldl_cons,textX_eq];have e:(⟨a.toArray⟩:ByteArray)++⟨(textB s).toArray⟩=⟨(a++textB s).toArray⟩:=by apply ByteArray.ext;simp[ByteArray.data_append]
   rw[e,ih,List.flatMap_cons,List.append_assoc]
 exact go l _
def qcr (l:List UInt8):(⟨l.toArray⟩:ByteArray).size=l.length:=by show l.toArray.size=_;rw[List.size_toArray]
def qhd (x:Tx) (w:World) (h:TxAt w x) (ok:okT x=true) (hz:x.src.size<=4096):Calls prog 43 #[txV x] w fun e w'=>e=.returned (.string ⟨(encT x).toArray⟩)/\Ext w w':=by
 obtain⟨h1,h2,h3⟩:=qdB ok;unfold numsT at h1;simp only[Bool.and_eq_true,decide_eq_true_eq] at h1;obtain⟨⟨⟨⟨⟨c0,c1⟩,t0⟩,t1⟩,g0⟩,g1⟩:=h1;unfold patsF at h2 h3;rw[Bool.and_eq_true,decide_eq_true_eq] at h2 h3;have sm:∀ {l:List ByteArray},patG none l=true->∀ s∈l,s.size<=255:=fun q s hs=>by have:=qfu _ _ q s hs;omega
 have LR:=J (fun W (hx:Ext w W)=>qbA x.rv x.rd W (h.1.ext hx).1 (fun s hs=>Nat.le_trans (sm h2.1 s hs) Y) Y);have LW:=J (fun W (hx:Ext w W)=>qbA x.wv x.wr W (h.2.1.ext hx).1 (fun s hs=>Nat.le_trans (sm h3.1 s hs) Y) Y);rw[listX_eq] at LR LW;have q1:=qbr (show x.rd.length<=255 by omega) x.rd (sm h2.1);have q2:=qbr (show x.wr.length<=255 by omega) x.wr (sm h3.1);have p1:=qao 9 x.c.toNat Y;have p2:=qao 9 x.t.toNat Y;have p3:=qao 9 x.gas.toNat Y;have p4:=qao 9 x.src.size Y;obtain⟨q,hq⟩:∃ q,(⟨(encT x).toArray⟩:ByteArray)=q:=⟨_,rfl⟩
 have e:q=((((((⟨(putB x.c.toNat).toArray⟩:ByteArray)++⟨(putB x.t.toNat).toArray⟩)++⟨(listB x.rd).toArray⟩)++⟨(listB x.wr).toArray⟩)++⟨(putB x.gas.toNat).toArray⟩)++⟨(putB x.src.size).toArray⟩)++x.src:=by
  rw[<-hq];apply ByteArray.ext;simp[encT,ByteArray.data_append]
 change (listB x.rd).length<=_ at q1;change (listB x.wr).length<=_ at q2;rw[<-qcr] at p1 p2 p3 p4 q1 q2;obtain⟨xc,xt,xrv,xwv,xs,xg,xrd,xwr⟩:=x;dsimp only at *;have P1:=J (fun W=>qbL xc c0 Y W);have P2:=J (fun W=>qbL xt Y Y W);have P3:=J (fun W=>qbL xg g0 Y W);have P4:=J (fun W=>qbL (xs.size:Int) Y Y W);rw[Int.toNat_natCast] at P4;rw[hq];obtain⟨s1,e1⟩:∃ s,(⟨(putB xc.toNat).toArray⟩:ByteArray)=s:=⟨_,rfl⟩
 obtain⟨s2,e2⟩:∃ s,(⟨(putB xt.toNat).toArray⟩:ByteArray)=s:=⟨_,rfl⟩
 obtain⟨s3,e3⟩:∃ s,(⟨(listB xrd).toArray⟩:ByteArray)=s:=⟨_,rfl⟩
 obtain⟨s4,e4⟩:∃ s,(⟨(listB xwr).toArray⟩:ByteArray)=s:=⟨_,rfl⟩
 obtain⟨s5,e5⟩:∃ s,(⟨(putB xg.toNat).toArray⟩:ByteArray)=s:=⟨_,rfl⟩
 obtain⟨s6,e6⟩:∃ s,(⟨(putB xs.size).toArray⟩:ByteArray)=s:=⟨_,rfl⟩
 rw[e1] at P1 p1;rw[e2] at P2 p2;rw[e3] at LR q1;rw[e4] at LW q2;rw[e5] at P3 p3;rw[e6] at P4 p4;rw[e1,e2,e3,e4,e5,e6] at e;have u1:IntKind.u64.wrap xc=xc:=by rw[qaK];omega
 have u2:IntKind.u64.wrap xt=xt:=by rw[qaK];omega
 have u3:IntKind.u64.wrap xg=xg:=by rw[qaK];omega
 have u4:IntKind.u64.wrap (xs.size:Int)=(xs.size:Int):=by rw[qaK];omega
 have n1:(9223372036854775807<s1.size+s2.size)=False:=eq_false Y;have n2:(9223372036854775807<s1.size+s2.size+s3.size)=False:=eq_false Y;have n3:(9223372036854775807<s1.size+s2.size+s3.size+s4.size)=False:=eq_false Y;have n4:(9223372036854775807<s1.size+s2.size+s3.size+s4.size+s5.size)=False:=eq_false Y;have n5:(9223372036854775807<s1.size+s2.size+s3.size+s4.size+s5.size+s6.size)=False:=eq_false Y;have n6:(9223372036854775807<s1.size+s2.size+s3.size+s4.size+s5.size+s6.size+xs.size)=False:=eq_false Y;have HE:=J e;clear h ok h2 h3 sm hq e1 e2 e3 e4 e5 e6 p1 p2 p3 p4 q1 q2 e hz;unfold txV;dsimp only;go_enter func43,ntmps43;go_wp2_with fail;refine qaa 19 _ (List.replicate 19 false) zv zv rfl ?_;refine qg ?_
 repeat(refine Lex.step rfl ?_;intro K hK;unfold StepG;go_simp;(first
   | refine hK _ ?_
   | (with_reducible refine ⟨_,fun d os=>(ret1 (P1.out _)),?_⟩;go_simp;refine hK _ ?_)
   | (with_reducible refine ⟨_,fun d os=>(ret1 (P2.out _)),?_⟩;go_simp;refine hK _ ?_)
   | (with_reducible refine ⟨_,fun d os=>(ret1 (LR.out _ zq)),?_⟩;go_simp;refine hK _ ?_)
   | (with_reducible refine ⟨_,fun d os=>(ret1 (LW.out _ zq)),?_⟩;go_simp;refine hK _ ?_));clear hK K)
 refine zd ?_;intro dd oo;go_wp2_with fail;rw[ends_normal];go_wp2_with fail;refine qaa 15 _ (List.replicate 15 false) zv zv rfl ?_;refine qg ?_
 repeat(refine Lex.step rfl ?_;intro K hK;unfold StepG;go_simp;(first
   | refine hK _ ?_
   | (with_reducible refine ⟨_,fun d os=>(ret1 (P3.out _)),?_⟩;go_simp;refine hK _ ?_)
   | (with_reducible refine ⟨_,fun d os=>(ret1 (P4.out _)),?_⟩;go_simp;refine hK _ ?_));clear hK K)
 refine zd ?_;intro dd oo;go_wp2_with fail;rw[ends_normal];go_wp2_with fail;go_ret;exact⟨by rw[HE.out];rfl,zq⟩
def qgw (v:Value) (l:List Tx) (w:World) (h:TxIn w v l) (ok:l.all okT=true) (hl:l.length<=64) (hz:∀ x∈l,x.src.size<=4096):Calls prog 23 #[v] w fun e w'=>e=.returned (.string ⟨(encL l).toArray⟩)/\Ext w w':=by
 have HALL:=J (fun y (hy:y∈l)=>And.intro (List.all_eq_true.1 ok y hy) (hz y hy));have TE:=J (fun y (hy:y∈l) W (hx:Ext w W)=>qhd y W ((h.1 y hy).ext hx) (List.all_eq_true.1 ok y hy) (hz y hy));obtain⟨ht,p,cap,rfl,_,_,hr⟩:=h;obtain⟨n,hn⟩:∃ n,l.length=n:=⟨_,rfl⟩
 have HBL:=J (fun k=>qer (l.take k) fun s h=>HALL.out s (List.mem_of_mem_take h));obtain⟨q,hq⟩:∃ q,(⟨(encL l).toArray⟩:ByteArray)=q:=⟨_,rfl⟩
 rw[hq];have HQ:=J (show q=⟨(putB n++l.flatMap itemB).toArray⟩ from by rw[<-hq,<-hn];rfl);have HN:=J hn;rw[hn] at hl ⊢;have HT:=J ht;have HR:=J hr;have hln:(n:Int)<=64:=Y;have u1:IntKind.u64.wrap (n:Int)=(n:Int):=by rw[qaK];omega
 have HP:=J (qao 9 n Y);have P1:=J (fun W=>qbL (n:Int) Y Y W);rw[Int.toNat_natCast] at P1;clear ok hz hn ht hr hq;go_enter func23,ntmps23
 go_wp2_with ((with_reducible refine Calls.mono (P1.out _) ?_);rintro e' _ ⟨rfl,d1,os1,rfl⟩)
 go_loopw [3,4] (fun s i wr=>∃ (k:Nat) (a:ByteArray),i=.int .i64 (k:Int)/\k<=n/\s=.string a/\Hid (a=⟨(putB n++(l.take k).flatMap itemB).toArray⟩)/\Hid (Ext w wr)) (fun _ i _=>n-(intOf i).toNat)
 case atStart=>exact⟨0,_,rfl,Nat.zero_le _,rfl,J zy,J zq⟩
 case round =>
  obtain⟨k,a,rfl,hk,rfl,HA,X⟩:=hrel;have haz:(a.size:Int)<=2000000:=by have:=HBL.out k;have:=HP.out;rw[HA.out,qcr,List.length_append];rw[List.length_take] at *;omega
  by_cases hlt:k<n
  case neg =>
   have hkn:k=n:=Y;subst hkn;have HE:=J (show q=a from by rw[HQ.out,HA.out,List.take_of_length_le jj]);clear hk hlt haz;go_wp2_with fail;go_ret;exact⟨by rw[HE.out];rfl,X.out⟩
  obtain⟨y,hy⟩:∃ y,l[k]?=some y:=⟨_,List.getElem?_eq_getElem jj⟩
  have hym:=List.mem_of_getElem? hy;obtain⟨yc,yt,y1,z1,l1,y2,z2,l2,ys,yg,hV,hL⟩:=tx_formC (HT.out y hym);have T1:=J (TE.out y hym);rw[hV] at T1;obtain⟨b,off,rfl,hc⟩:=HR.out k y hy;rw[hL] at hc;have f0:=qaf (hc 0 _ rfl) X.out;have f1:=qaf (hc 1 _ rfl) X.out;have f2:=qaf (hc 2 _ rfl) X.out;have f3:=qaf (hc 3 _ rfl) X.out;have f4:=qaf (hc 4 _ rfl) X.out;have f5:=qaf (hc 5 _ rfl) X.out;simp only[Nat.add_zero] at f0;have hlb:=World.block_lt_of_cell? _ _ f0;have hEl:=qev (HALL.out y hym).1 (HALL.out y hym).2;obtain⟨t,ht⟩:∃ t,(⟨(encT y).toArray⟩:ByteArray)=t:=⟨_,rfl⟩
  have htl:t.size=(encT y).length:=by rw[<-ht,qcr]
  rw[ht] at T1;have htz:(t.size:Int)<=20000:=Y;have P2:=J (fun W=>qbL (t.size:Int) Y Y W);rw[Int.toNat_natCast] at P2;obtain⟨u,hu⟩:∃ u,(⟨(putB t.size).toArray⟩:ByteArray)=u:=⟨_,rfl⟩
  have huz:(u.size:Int)<=10:=by rw[<-hu,qcr];have:=qao 9 t.size Y;omega
  rw[hu] at P2;have HNX:=J (show a++(u++t)=⟨(putB n++(l.take (k+1)).flatMap itemB).toArray⟩ from by rw[List.take_add_one,hy,HA.out,<-hu,htl,<-ht];apply ByteArray.ext;simp[ByteArray.data_append,itemB]);have u2:IntKind.u64.wrap (t.size:Int)=(t.size:Int):=by rw[qaK];omega
  have n1:(9223372036854775807<u.size+t.size)=False:=eq_false Y;have n2:(9223372036854775807<a.size+(u.size+t.size))=False:=eq_false Y;have hlt2:(k:Int)<(n:Int):=Y;clear hy hym hV hL hc ht htl hu haz huz hEl
  go_wp2_with (first
   | ((with_reducible refine Calls.mono (T1.out _ X.out) ?_);rintro e _ ⟨rfl,d2,os2,rfl⟩)
   | ((with_reducible refine Calls.mono (P2.out _) ?_);rintro e _ ⟨rfl,d3,os3,rfl⟩))
  go_roundw
  case measure=>simp[intOf];omega
  case rel=>exact⟨k+1,_,by go_num,Y,rfl,HNX,J (X.out.trans zq)⟩
end Go.Proofs.YtpnabjopfpdkhaaGreatDoor
