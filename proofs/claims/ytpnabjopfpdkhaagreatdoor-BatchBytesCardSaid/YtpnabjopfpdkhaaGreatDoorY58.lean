/- Lemmas. -/
import Derived.Test.YtpnabjopfpdkhaaGreatDoorY57
set_option linter.all false
set_option maxHeartbeats 4000000
set_option maxRecDepth 20000
namespace Go.Proofs.YtpnabjopfpdkhaaGreatDoor
open Go.Proofs.Tryz RowKit
attribute [go_sem] more_more Array.size_append
def tx_row' (y:Tx) {w:World} (h:TxAt w y):∃ c u p1 m1 k1 p2 m2 k2 s g,txV y=.agg (txA c u (.slice p1 m1 k1) (.slice p2 m2 k2) s g)/\txL y=[.int .i64 c,.int .i64 u,.slice p1 m1 k1,.slice p2 m2 k2,.string s,.int .i64 g]/\y.c=c/\y.t=u:=by
 obtain⟨p1,m1,k1,p2,m2,k2,e1,e2⟩:=qbO h;exact⟨_,_,p1,m1,k1,p2,m2,k2,_,_,by unfold txV txA;rw[e1,e2],by unfold txL;rw[e1,e2],rfl,rfl⟩
def rbatch_any (v:Value) (l:List Tx) (w:World) (h:TxIn w v l) (hl:l.length<=100000):Calls prog 22 #[v] w fun e w'=>e=.returned (.bool (l.all okT&&decide (l.length<=64)))/\Ext w w':=by
 have HI:=J h;obtain⟨ht,p,cap,rfl,hcap,hmx,hr⟩:=h;obtain⟨n,hn⟩:∃ n,l.length=n:=⟨_,rfl⟩
 obtain⟨q,hq⟩:∃ q,l.all okT=q:=⟨_,rfl⟩
 rw[hq,hn];rw[hn] at hcap hl;have HN:=J hn;have HQ:=J hq;have HR:=J hr;have HT:=J ht;have hln:(n:Int)<=100000:=Y;clear hn hq hr ht;go_enter func22,ntmps22;go_wp2_with fail;go_loopw [3] (fun i wr=>∃ k:Nat,i=.int .i64 (k:Int)/\k<=n/\Hid ((l.take k).all okT=true)/\Hid (Ext w wr)) (fun i _=>n-(intOf i).toNat)
 case atStart=>exact⟨0,rfl,Nat.zero_le _,J rfl,J zq⟩
 case round =>
  obtain⟨k,rfl,hk,hA,hH⟩:=hrel;by_cases hlt:k<n
  case neg =>
   have hkn:n=k:=Y;subst hkn;have hq2:q=true:=by rw[<-HQ.out,<-hA.out,List.take_of_length_le jj]
   subst hq2;clear hk hlt;go_wp2_with fail;go_ret;exact⟨ret_bool (by simp only[Bool.true_and,decide_eq_decide];omega),hH.out.trans zq⟩
  case pos =>
   obtain⟨y,hy⟩:∃ y,l[k]?=some y:=⟨_,List.getElem?_eq_getElem jj⟩
   have hym:=List.mem_of_getElem? hy;obtain⟨yc,yt,y1,z1,l1,y2,z2,l2,ys,yg,hV,hL,-,-⟩:=tx_row' y (HT.out y hym);have MY:=J (fun W (hx:Ext w W)=>qfQ y W ((HT.out y hym).ext hx));rw[hV] at MY;unfold txA at MY;obtain⟨b,off,rfl,hc⟩:=HR.out k y hy;rw[hL] at hc;have f0:=qaf (hc 0 _ rfl) hH.out;have f1:=qaf (hc 1 _ rfl) hH.out;have f2:=qaf (hc 2 _ rfl) hH.out;have f3:=qaf (hc 3 _ rfl) hH.out;have f4:=qaf (hc 4 _ rfl) hH.out;have f5:=qaf (hc 5 _ rfl) hH.out;simp only[Nat.add_zero] at f0;have hlb:=World.block_lt_of_cell? _ _ f0;have HLT:=J hlt;have HY:=J hy;clear hy hV hL hc
   cases ho:okT y with
   | false =>
    rw[ho] at MY;have hq2:q=false:=(by rw[<-HQ.out,List.all_eq_false];exact⟨y,hym,by simp[ho]⟩)
    subst hq2;clear ho hym
    go_wp2_with ((with_reducible refine (MY.out _ (hH.out.trans zq)).mono ?_);rintro e' _ ⟨rfl,d1,os1,rfl⟩)
    go_ret
    exact⟨ret_bool zy,hH.out.trans zq⟩
   | true =>
    rw[ho] at MY;have HA2:Hid ((l.take (k+1)).all okT=true):=J (by rw[List.take_add_one,HY.out,Option.toList_some,List.all_append,hA.out];simp[ho]);clear ho hym
    go_wp2_with ((with_reducible refine (MY.out _ (hH.out.trans zq)).mono ?_);rintro e' _ ⟨rfl,d1,os1,rfl⟩)
    go_roundw
    case measure=>have:=HLT.out;simp[intOf];omega
    case rel=>exact⟨k+1,by go_num,by have:=HLT.out;omega,HA2,J (hH.out.trans zq)⟩
end Go.Proofs.YtpnabjopfpdkhaaGreatDoor
namespace Go.Proofs.YtpnabjopfpdkhaaGreatDoor
open Go.Proofs.Tryz RowKit
attribute [go_sem] more_more Array.size_append
def sameX_strip {a b:Tx} (h:qas a=qas b):sameX a b=true:=by
 have e:sameX a b=sameX (qas a) (qas b):=rfl;rw[e,h];exact sameX_self _
def txsm_strip {a b:Tx} (h:qas a=qas b) (hb:TxSm b):TxSm a:=by
 have e:TxSm a=TxSm (qas a):=rfl;rw[e,h];exact hb
def strip_at {l m:List Tx} (h:l.map qas=m.map qas) {k:Nat} {y z:Tx} (hy:l[k]?=some y) (hz:m[k]?=some z):qas y=qas z:=by
 have e:=congrArg (fun x:List Tx=>x[k]?) h
 simpa [hy,hz] using e
def qee (v v':Value) (l m:List Tx) (w:World) (h:TxIn w v l) (h':TxIn w v' m) (he:l.map qas=m.map qas) (hs:∀ x∈m,TxSm x) (hl:m.length<=100000):Calls prog 14 #[v,v'] w fun e w'=>e=.returned (.bool true)/\Ext w w':=by
 have hlen:l.length=m.length:=by simpa using congrArg List.length he
 obtain⟨ht,p,cap,rfl,hcap,-,hr⟩:=h;obtain⟨ht',p',cap',rfl,hcap',-,hr'⟩:=h';obtain⟨n,hn⟩:∃ n,m.length=n:=⟨_,rfl⟩
 rw[hlen] at hcap ⊢;rw[hn] at hcap hcap' hl ⊢;have HN:=J (And.intro hn (hlen.trans hn));have HR:=J (And.intro hr hr');have HT:=J (And.intro ht ht');have HS:=J (And.intro he hs);have hln:(n:Int)<=100000:=Y;clear hn hr hr' ht ht' hs he hlen;go_enter func14,ntmps14;go_wp2_with fail;go_loopw [5] (fun i wr=>∃ k:Nat,i=.int .i64 (k:Int)/\k<=n/\Hid (Ext w wr)) (fun i _=>n-(intOf i).toNat)
 case atStart=>exact⟨0,rfl,Nat.zero_le _,J zq⟩
 case round =>
  obtain⟨k,rfl,hk,hH⟩:=hrel;by_cases hlt:k<n
  case neg =>
   have hkn:n=k:=Y;subst hkn;clear hk hlt;go_wp2_with fail;go_ret;exact⟨rfl,hH.out.trans zq⟩
  case pos =>
   obtain⟨y,hy⟩:∃ y,l[k]?=some y:=⟨_,List.getElem?_eq_getElem (by have:=HN.out.2;omega)⟩
   obtain⟨z,hz⟩:∃ z,m[k]?=some z:=⟨_,List.getElem?_eq_getElem (by have:=HN.out.1;omega)⟩
   have hym:=List.mem_of_getElem? hy;have hzm:=List.mem_of_getElem? hz;have hyz:=strip_at HS.out.1 hy hz;obtain⟨yc,yt,y1,z1,l1,y2,z2,l2,ys,yg,hV,hL,-,-⟩:=tx_row' y (HT.out.1 y hym);obtain⟨uc,ut,u1,v1,m1,u2,v2,m2,us,ug,hU,hM,-,-⟩:=tx_row' z (HT.out.2 z hzm);have SM:=J (fun W (hx:Ext w W)=>rsame22_any y z W ((HT.out.1 y hym).ext hx) ((HT.out.2 z hzm).ext hx) (txsm_strip hyz (HS.out.2 z hzm)) (HS.out.2 z hzm));rw[hV,hU,sameX_strip hyz] at SM;unfold txA at SM;obtain⟨b,off,rfl,hc⟩:=HR.out.1 k y hy;obtain⟨b',off',rfl,hc'⟩:=HR.out.2 k z hz;rw[hL] at hc;rw[hM] at hc';have f0:=qaf (hc 0 _ rfl) hH.out;have f1:=qaf (hc 1 _ rfl) hH.out;have f2:=qaf (hc 2 _ rfl) hH.out;have f3:=qaf (hc 3 _ rfl) hH.out;have f4:=qaf (hc 4 _ rfl) hH.out;have f5:=qaf (hc 5 _ rfl) hH.out;simp only[Nat.add_zero] at f0;have g0:=qaf (hc' 0 _ rfl) hH.out;have g1:=qaf (hc' 1 _ rfl) hH.out;have g2:=qaf (hc' 2 _ rfl) hH.out;have g3:=qaf (hc' 3 _ rfl) hH.out;have g4:=qaf (hc' 4 _ rfl) hH.out;have g5:=qaf (hc' 5 _ rfl) hH.out;simp only[Nat.add_zero] at g0;have hlb:=World.block_lt_of_cell? _ _ f0;have hlg:=World.block_lt_of_cell? _ _ g0;have HLT:=J hlt;clear hy hz hV hU hL hM hc hc' hym hzm hyz
   go_upto_region 6 with fail
   go_still_tail 8,zv
   go_wp2_with ((with_reducible refine (SM.out _ (hH.out.trans zq)).mono ?_);rintro e' _ ⟨rfl,d2,os2,rfl⟩)
   go_roundw
   case measure=>have:=HLT.out;simp[intOf];omega
   case rel=>exact⟨k+1,by go_num,by have:=HLT.out;omega,J (hH.out.trans zq)⟩
def vcut_nil (p:Option Addr) (cap:Nat) (w:World):Calls prog 44 #[.slice p 0 cap] w fun e w'=>e=.returned (.tuple #[.int .u64 0,.int .i64 0,.int .i64 2])/\Ext w w':=by
 go_enter func44,ntmps44
 go_wp2
 go_step3
 go_wp2
 go_step3
 go_wp2
 go_loop [5,10] (fun vv ii=>vv=.int .u64 0/\ii=.int .i64 0) (fun _ _=>0)
 case atStart=>exact⟨rfl,rfl⟩
 case round =>
  obtain⟨rfl,rfl⟩:=hrel
  go_wp2
  try rw[Exit.noGoto_ret]
  go_ret3;exact⟨rfl,Ext.refl _⟩
def qeT (p:Option Addr) (cap:Nat) (w:World):Calls prog 24 #[.slice p 0 cap] w fun e w'=>∃ v xs,e=.returned (.tuple #[v,.int .i64 2])/\xs.map qas=[]/\TxIn w' v xs/\Ext w w':=by
 have C0:=J (fun W=>vcut_nil p cap W);go_enter func24,ntmps24;go_wp2_with fail;go_step3
 go_wp2_with ((with_reducible refine Calls.mono (C0.out _) ?_);rintro e' _ ⟨rfl,d1,os1,rfl⟩)
 rw[Exit.noGoto_ret];go_ret2;exact⟨_,[],rfl,rfl,nilTx _,zq⟩
def conv_none {P:Program} (w:World) (src dst e:TypeId) (hs:P.underlying src=some (.slice e)) (he:P.underlying e=some (.int .u8)) (hd:P.underlying dst=some .string):(convert src dst (.slice none 0 0)).run P w=.ok (.string ⟨#[]⟩) w:=by
 rw[run_convert_bytes_string w src dst e none 0 0 hs he hd];rfl
def qgg {P:Program} (w:World) (src dst e:TypeId) (p:Option Addr) (cap:Nat) (hs:P.underlying src=some (.slice e)) (he:P.underlying e=some (.int .u8)) (hd:P.underlying dst=some .string):(convert src dst (.slice p 0 cap)).run P w=.ok (.string ⟨#[]⟩) w:=by
 rw[run_convert_bytes_string w src dst e p 0 cap hs he hd];cases p<;>rfl
def bytes_own {w:World} {base g cap n:Nat} {l:List UInt8} (h:w.ownsRow base 5 1 (.slice (some ⟨g,0,none⟩) n cap) n (qae l)):BytesAt w g 0 l:=by
 intro j u hj;have:=h.cells (g:=g) rfl j (.int .u8 (u.toNat:Int)) (by simp[qae,hj]);rw[Addr.add_lit] at this;exact this
def encL_small {l:List Tx} (h:∀ x∈l,okT x=true/\x.src.size<=4096) (hl:l.length<=64):(encL l).length<=1000000000:=by
 have h1:=qer l h;have h2:=qao 1 l.length Y;show(putB l.length++l.flatMap itemB).length<=_
 rw[List.length_append];omega
def PQ.inn2 {B:Nat} {v:Value} {W:World} (h:PQ B v W):∃ l p c,v=.slice p l.length c/\TxIn W v l/\l.length<=66/\∀ x∈l,TxSm x/\x.src.size<=1200:=by
 obtain⟨p,l,c,h1,h2,h3,h4⟩:=h;refine ⟨l,p,c,h1,⟨fun x hm=>(h3 x hm).2.2.2,RowIn.own qca h4⟩,h2,fun x hm=>?_⟩;obtain⟨⟨y,a,b,rfl⟩,_⟩:=h3 x hm;exact⟨fewT_sm _ _ _,cutS_le _ _⟩
def qdN (qv:Value) (q:List Tx) (p:Option Addr) (len cap n:Nat) (st:ByteArray) (ts:List Tx) (ee:Int) (B:Nat) (w:World) (hn:(n=len/\len<=3000)\/(n=3000/\3000<len)) (hcap:len<=cap) (hS:SignsAt B w) (hB:B<=w.heap.size) (hq:TxIn w qv q) (hql:q.length<=140737488351232)
  (YD:Hid (∀ W,Ext w W->Calls prog 24 #[.slice p n cap] W fun r w'=>∃ v xs,r=.returned (.tuple #[v,.int .i64 ee])/\xs.map qas=ts/\TxIn w' v xs/\Ext W w'))
  (CV:Hid (∀ W,Ext w W->(convert 53 9 (.slice p n cap)).run prog W=.ok (.string st) W))
  (ZD:Hid (∀ W,Calls prog 26 #[.string st] W fun r w'=>∃ v xs,r=.returned (.tuple #[v,.int .i64 ee])/\xs.map qas=ts/\TxIn w' v xs/\(∀ x∈xs,TxSm x)/\xs.length<=64/\Ext W w')) :
  Calls prog 6 #[qv,.slice p len cap] w fun e w'=>e=.returned (.bool true)/\Ext w w':=by
 have FQ:=J (fun W (hx:Ext w W)=>pq_any qv q w.heap.size W (hq.ext hx) hql hx.size);have SG:=J (fun W (hx:Ext w W)=>(⟨hS.ext hx hB,Nat.le_trans hB hx.size⟩:SignsAt B W/\B<=W.heap.size));have AW:=J (fun W (hx:Ext w W)=>awake27_any B W (SG.out W hx).1 (SG.out W hx).2);clear hS hB hq hql;rcases hn with ⟨rfl,hn⟩ | ⟨rfl,hn⟩
 all_goals
  go_enter func6,ntmps6
  go_upto_region 5 with ((with_reducible refine (FQ.out _ zq).mono ?_);rintro e' w1 ⟨v1,rfl,x1,f1⟩;have X1:Hid (Ext w w1):=J (Ext.trans zq x1);have F1:=J f1;clear x1 f1)
  obtain⟨q',qp,qc,rfl,hQI,hQL,hQS⟩:=F1.out.inn2;clear F1;have RB:=J (fun W (hx:Ext w1 W)=>rbatch_any (.slice qp q'.length qc) q' W (hQI.ext hx) Y);have SM:=J (fun W v xs (hx:Ext w1 W) (h:TxIn W v xs) (he:xs.map qas=q'.map qas)=>qee v (.slice qp q'.length qc) xs q' W h (hQI.ext hx) he (fun x hm=>(hQS x hm).1) Y);have EN:=J (fun (hno:(q'.all okT&&decide (q'.length<=64))=false) W (hx:Ext w1 W)=>bencode_no (.slice qp q'.length qc) q' B W (SG.out W (X1.out.trans hx)).1 (SG.out W (X1.out.trans hx)).2 (hQI.ext hx) Y hno);have EY:=J (fun (ok:q'.all okT=true) (hl:q'.length<=64) W (hx:Ext w1 W)=>bencode_yes (.slice qp q'.length qc) q' B W (SG.out W (X1.out.trans hx)).1 (SG.out W (X1.out.trans hx)).2 (hQI.ext hx) ok hl (fun x hm=>Nat.le_trans (hQS x hm).2 Y));have ER:=J (fun (ok:q'.all okT=true) (hl:q'.length<=64) W (hx:Ext w1 W)=>qgw (.slice qp q'.length qc) q' W (hQI.ext hx) ok hl (fun x hm=>Nat.le_trans (hQS x hm).2 Y));have DE:=J (fun (ok:q'.all okT=true) (hl:q'.length<=64) (g c z:Nat) (hz:(encL q').length=z) W (hx:Ext w1 W) (ho:BytesAt W g 0 (encL q')) (hcz:z<=c) (hg:g<W.heap.size)=>(hz ▸ qeI g 0 c (encL q') B W (SG.out W (X1.out.trans hx)).1 (SG.out W (X1.out.trans hx)).2 (encL_small (fun x hm=>⟨List.all_eq_true.1 ok x hm,Nat.le_trans (hQS x hm).2 Y⟩) hl) Y ho hg (q'.map qas) 0 (decL_enc q' (fun x hm=>⟨List.all_eq_true.1 ok x hm,Nat.le_trans (hQS x hm).2 Y,by have:=qev (List.all_eq_true.1 ok x hm) (Nat.le_trans (hQS x hm).2 Y);omega⟩) hl):Calls prog 24 #[.slice (some ⟨g,0,none⟩) z c] W fun r w'=>∃ v xs,r=.returned (.tuple #[v,.int .i64 0])/\xs.map qas=q'.map qas/\TxIn w' v xs/\Ext W w'))
  have SZ:=J (fun W v v' xs zs (h:TxIn W v xs) (h':TxIn W v' zs) (he:xs.map qas=ts) (he':zs.map qas=ts) (hs:∀ x∈zs,TxSm x) (hl:zs.length<=64)=>qee v v' xs zs W h h' (he.trans he'.symm) hs Y);obtain⟨k,hk⟩:∃ k,q'.length=k:=⟨_,rfl⟩
  rw[hk] at RB SM EN EY ER DE hQL ⊢;have hn3:=fun W=>conv_none (P:=prog) W 53 9 5 underlying53 underlying5 underlying9
  clear hQI hQS hk
  cases hok:(q'.all okT&&decide (k<=64)) with
  | false =>
   rw[hok] at RB;have EN:=J (EN.out hok);clear hok EY ER DE SM
   go_wp2_with (first
    | ((with_reducible refine (RB.out _ zq).mono ?_);rintro e' _ ⟨rfl,d1,os1,rfl⟩)
    | ((with_reducible refine (YD.out _ (X1.out.trans zq)).mono ?_);rintro e' w2 ⟨v2,xs,rfl,h2,i2,x2⟩;have X2:Hid (Ext w1 w2):=J (Ext.trans zq x2);have I2:=J (And.intro h2 i2);clear h2 i2 x2))
   rw[CV.out _ (X1.out.trans X2.out)]
   go_wp2_with (first
    | ((with_reducible refine (ZD.out _).mono ?_);rintro e' w3 ⟨v3,zs,rfl,h3,i3,s3,l3,x3⟩;have X3:Hid (Ext w2 w3):=J (Ext.trans zq x3);have I3:=J (And.intro h3 (And.intro i3 (And.intro s3 l3)));clear h3 i3 s3 l3 x3)
    | ((with_reducible refine (EN.out _ (X2.out.trans (X3.out.trans zq))).mono ?_);rintro e' _ ⟨rfl,d4,os4,rfl⟩)
    | ((with_reducible refine (SZ.out _ _ _ xs zs (I2.out.2.ext (X3.out.trans zq)) (I3.out.2.1.ext zq) I2.out.1 I3.out.1 I3.out.2.2.1 I3.out.2.2.2).mono ?_);rintro e' _ ⟨rfl,d5,os5,rfl⟩)
    | ((with_reducible refine (AW.out _ (X1.out.trans (X2.out.trans (X3.out.trans zq)))).mono ?_);rintro e' _ ⟨rfl,d6,os6,rfl⟩))
   go_ret
   exact⟨rfl,X1.out.trans (X2.out.trans (X3.out.trans zq))⟩
  | true =>
   rw[hok] at RB;obtain⟨ok,hl⟩:=(Bool.and_eq_true _ _).mp hok;have hl:k<=64:=by simpa using hl
   have ER:=J (ER.out ok hl);have EY:=J (EY.out ok hl);have DE:=J (DE.out ok hl);obtain⟨el,hel⟩:∃ l,encL q'=l:=⟨_,rfl⟩
   rw[hel] at ER EY DE;clear hok EN ok hl hel
   go_wp2_with (first
    | ((with_reducible refine (RB.out _ zq).mono ?_);rintro e' _ ⟨rfl,d1,os1,rfl⟩)
    | ((with_reducible refine (ER.out _ zq).mono ?_);rintro e' _ ⟨rfl,d2,os2,rfl⟩)
    | ((with_reducible refine (EY.out _ zq).mono ?_);rintro e' w3 ho3;obtain⟨g3,c3,z3,rfl,hz3,ho3,hx3⟩:=OwnB.out ho3;have X3:Hid (Ext w1 w3):=J (Ext.trans zq hx3.out);have hg3:=own_low ho3.out rfl;clear hx3)
    | ((with_reducible refine (DE.out g3 c3 z3 hz3.out _ (X3.out.trans zq) ((bytes_own ho3.out).ext zq) (row_cap ho3.out) (Nat.lt_of_lt_of_le hg3 (show w3.heap.size<=_ from(show Ext w3 _ from zq).size))).mono ?_);rintro e' w4 ⟨v4,ys,rfl,h4,i4,x4⟩;have X4:Hid (Ext w3 w4):=J (Ext.trans zq x4);have I4:=J (And.intro h4 i4);clear h4 i4 x4)
    | ((with_reducible refine (SM.out _ _ ys (X3.out.trans (X4.out.trans zq)) (I4.out.2.ext zq) I4.out.1).mono ?_);rintro e' _ ⟨rfl,d5,os5,rfl⟩)
    | ((with_reducible refine (YD.out _ (X1.out.trans (X3.out.trans (X4.out.trans zq)))).mono ?_);rintro e' w5 ⟨v5,xs,rfl,h5,i5,x5⟩;have X5:Hid (Ext w4 w5):=J (Ext.trans zq x5);have I5:=J (And.intro h5 i5);clear h5 i5 x5))
   rw[CV.out _ (X1.out.trans (X3.out.trans (X4.out.trans X5.out)))]
   go_wp2_with (first
    | ((with_reducible refine (ZD.out _).mono ?_);rintro e' w6 ⟨v6,zs,rfl,h6,i6,s6,l6,x6⟩;have X6:Hid (Ext w5 w6):=J (Ext.trans zq x6);have I6:=J (And.intro h6 (And.intro i6 (And.intro s6 l6)));clear h6 i6 s6 l6 x6)
    | ((with_reducible refine (EY.out _ (X3.out.trans (X4.out.trans (X5.out.trans (X6.out.trans zq))))).mono ?_);rintro e' w7 ho7;obtain⟨g7,c7,z7,rfl,hz7,ho7,hx7⟩:=OwnB.out ho7;have X7:Hid (Ext w6 w7):=J (Ext.trans zq hx7.out);have hcv:=qgD (P:=prog) (src:=53) (dst:=9) underlying53 underlying5 underlying9 ho7.out;clear hx7)
    | ((with_reducible refine (SZ.out _ _ _ xs zs (I5.out.2.ext (X6.out.trans (X7.out.trans zq))) (I6.out.2.1.ext (X7.out.trans zq)) I5.out.1 I6.out.1 I6.out.2.2.1 I6.out.2.2.2).mono ?_);rintro e' _ ⟨rfl,d8,os8,rfl⟩)
    | ((with_reducible refine (AW.out _ (X1.out.trans (X3.out.trans (X4.out.trans (X5.out.trans (X6.out.trans (X7.out.trans zq))))))).mono ?_);rintro e' _ ⟨rfl,d9,os9,rfl⟩))
   go_ret;exact⟨rfl,X1.out.trans (X3.out.trans (X4.out.trans (X5.out.trans (X6.out.trans (X7.out.trans zq)))))⟩
def bytes_walk (qv:Value) (q:List Tx) (bv:Value) (l:List UInt8) (B:Nat) (w:World) (hS:SignsAt B w) (hB:B<=w.heap.size) (hq:TxIn w qv q) (hql:q.length<=140737488351232) (hb:RowB w bv l) :
  Calls prog 6 #[qv,bv] w fun e w'=>e=.returned (.bool true)/\Ext w w':=by
 rcases hb with ⟨p,cap,rfl,-,rfl⟩ | ⟨b,off,cap,rfl,h1,-,h2⟩
 . exact qdN qv q p 0 cap 0 ⟨#[]⟩ [] 2 B w (.inl ⟨rfl,Y⟩) (Nat.zero_le _) hS hB hq hql (J fun W _=>qeT p cap W)
     (J fun W _=>qgg (P:=prog) W 53 9 5 p cap underlying53 underlying5 underlying9)
     (J fun W=>rdecode27_any ⟨#[]⟩ [] rfl W zw [] 2 zv)
 by_cases h0:l.length=0
 . have:l=[]:=List.eq_nil_of_length_eq_zero h0;subst this
   exact qdN qv q _ 0 cap 0 ⟨#[]⟩ [] 2 B w (.inl ⟨rfl,Y⟩) (Nat.zero_le _) hS hB hq hql (J fun W _=>qeT _ cap W)
    (J fun W _=>qgg (P:=prog) W 53 9 5 _ cap underlying53 underlying5 underlying9)
    (J fun W=>rdecode27_any ⟨#[]⟩ [] rfl W zw [] 2 zv)
 have hbl:=h2.lt Y;have hl:(l.take 3000).length=min 3000 l.length:=List.length_take;have hB3:=h2.take 3000;obtain⟨ts,e,hd⟩:∃ ts e,decL (l.take 3000)=(ts,e):=⟨_,_,rfl⟩
 refine qdN qv q (some ⟨b,off,none⟩) l.length cap (l.take 3000).length ⟨(l.take 3000).toArray⟩ ts e B w Y h1 hS hB hq hql
  (J fun W hx=>qeI b off cap (l.take 3000) B W (hS.ext hx hB) (Nat.le_trans hB hx.size) Y Y (hB3.ext hx) (Nat.lt_of_lt_of_le hbl hx.size) ts e hd)
  (J fun W hx=>qgI underlying53 underlying5 underlying9 (hB3.ext hx) _ rfl)
  (J fun W=>rdecode27_any ⟨(l.take 3000).toArray⟩ (l.take 3000) zy W (by rw[qcr];omega) ts e hd)
end Go.Proofs.YtpnabjopfpdkhaaGreatDoor
namespace Go.Proofs.YtpnabjopfpdkhaaGreatDoor
open Go.Proofs.Tryz
open Go.RowKit Go.ChangeShapes Go.WideShapes Go.ChangeAt Go.Joins
variable {H:Type} {enc:TypeId × Value->H} {W:World}
def rd_rowIn {α:Type} (en:α->List Value) (n:Nat) (hn:∀ a,(en a).length=n) (h1:1<=n) (Q:α->Prop) {S E:TypeId} (hS:prog.underlying S=some (.slice E)) (hc:prog.cellsOf E=n) (hby:1<=prog.bytesOf E)
  (rd:∀ {fuel:Nat} {cs:List Value} {x:DataW H × List MemPlace},DataW.trod enc prog W 0 (fun _=>true) true fuel E cs=some x->Sm E x.1->∃ a,cs=en a/\Q a)
  {fuel:Nat} {cs:List Value} {x:DataW H × List MemPlace} (h:DataW.trod enc prog W 0 (fun _=>true) true fuel S cs=some x) (hs:Sm S x.1):∃ v l,cs=[v]/\RowIn W en n v l/\(∀ a∈l,Q a)/\l.length<=140737488351232:=by
 rcases Deep.open_slice hS h with ⟨rfl,rfl⟩ | ⟨a,len,cap,m,k,D,Pl,rfl,hb,hl,hm,hmm,rfl,hi⟩
 . exact⟨_,[],rfl,⟨none,0,rfl,Nat.le_refl _,zw,zy⟩,zy,zy⟩
 . simp only[if_true] at hmm;subst hmm;obtain⟨hb1,hb2⟩:=sm_slice hS hs
   have hcap:m<=140737488351232:=by
    have e:((List.range len).map D).length+(((List.range m).drop len).map D).length=m:=zg
    first | (rw[e] at hb1;exact Nat.le_trans (Nat.le_mul_of_pos_right _ hby) hb1) | (refine Nat.le_trans (Nat.le_trans ?_ (Nat.le_mul_of_pos_right _ hby)) hb1;simp;omega)
   have key:∀ i,i<len->∃ p:α,Q p/\∀ j u,(en p)[j]?=some u->W.cell? (a.add (i*n+j))=some u:=by
    intro i hil;obtain⟨cs',hc',ht'⟩:=hi i Y;rw[hc] at hc';obtain⟨p,rfl,hin⟩:=rd ht' (hb2 _ (List.mem_map.2 ⟨i,List.mem_range.2 hil,rfl⟩));obtain⟨_,_,hat⟩:=World.cells?_some hc';refine ⟨p,hin,fun j u hj=>?_⟩;have:=hat j (by have:=(List.getElem?_eq_some_iff.1 hj).1;rw[hn] at this;exact this);rw[Deep.add_add] at this;rw[this];exact hj
   rcases Nat.eq_zero_or_pos len with h0 | h0
   . subst h0;exact⟨_,[],rfl,⟨some a,m,rfl,Nat.zero_le _,jq,zy⟩,zy,zy⟩
   obtain⟨ab,ao,spot⟩:=a
   have hspot:spot=none:=by
    obtain⟨p,_,hx0⟩:=key 0 Y;have:=hx0 0 _ (List.getElem?_eq_getElem (by rw[hn];omega))
    simpa [Addr.add] using World.cell?_spot this
   subst hspot
   obtain⟨l,hll,hp⟩:=list_of len (fun j (p:α)=>Q p/\∀ i u,(en p)[i]?=some u->W.cell? ⟨ab,ao+j*n+i,none⟩=some u) (fun i hi2=>by
    obtain⟨p,h1,h2⟩:=key i hi2;refine ⟨p,h1,fun j u hj=>?_⟩;have:=h2 j u hj;rw[Addr.add_lit] at this
    rw[Nat.add_assoc];exact this)
   refine ⟨_,l,rfl,⟨some ⟨ab,ao,none⟩,m,by rw[hll],Y,jq,fun j p hj=>⟨ab,ao,rfl,(hp j p hj).2⟩⟩,fun p hm=>?_,Y⟩;obtain⟨j,hj⟩:=List.getElem?_of_mem hm;exact(hp j p hj).1
def wantFields:∃ f0 f1:Field,prog.underlying 25=some (.struct #[f0,f1])/\(f0.type=23/\f0.offset=0)/\(f1.type=23/\f1.offset=1):=⟨_,_,underlying25,⟨rfl,rfl⟩,⟨rfl,rfl⟩⟩
def txnFields:∃ f0 f1 f2 f3 f4:Field,prog.underlying 27=some (.struct #[f0,f1,f2,f3,f4])/\(f0.type=3/\f0.offset=0)/\(f1.type=3/\f1.offset=1)/\(f2.type=25/\f2.offset=2)/\(f3.type=9/\f3.offset=4)/\(f4.type=3/\f4.offset=5):=⟨_,_,_,_,_,underlying27,⟨rfl,rfl⟩,⟨rfl,rfl⟩,⟨rfl,rfl⟩,⟨rfl,rfl⟩,⟨rfl,rfl⟩⟩
def cWt:prog.cellsOf 25=2:=by kernel_rfl
def cTn:prog.cellsOf 27=6:=by kernel_rfl
def rd_want {fuel:Nat} {cs:List Value} {x:DataW H × List MemPlace} (h:DataW.trod enc prog W 0 (fun _=>true) true fuel 25 cs=some x) (hs:Sm 25 x.1):∃ v1 l1 v2 l2,cs=[v1,v2]/\PatS W v1 l1/\PatS W v2 l2:=by
 obtain⟨f0,f1,hst,⟨t0,o0⟩,⟨t1,o1⟩⟩:=wantFields;obtain⟨ys,n',_,rfl,hlen,hyl,hf⟩:=DataW.trod_struct hst h;rw[cWt] at hlen
 match cs,hlen with
 | [x0,x1],_ =>
  match ys,hyl with
  | [y0,y1],_ =>
   have g0:=hf 0 f0 rfl;have g1:=hf 1 f1 rfl;have s0:=qet (i:=0) (f:=f0) (d:=y0.1) hst hs rfl rfl;have s1:=qet (i:=1) (f:=f1) (d:=y1.1) hst hs rfl rfl;rw[t0,o0,cTx] at g0;rw[t1,o1,cTx] at g1;rw[t0] at s0;rw[t1] at s1;obtain⟨z0,l0,e0,w0⟩:=rd_strs g0 s0;obtain⟨z1,l1,e1,w1⟩:=rd_strs g1 s1;simp at e0 e1;subst e0 e1;exact⟨_,l0,_,l1,rfl,w0,w1⟩
def rd_tx {fuel:Nat} {cs:List Value} {x:DataW H × List MemPlace} (h:DataW.trod enc prog W 0 (fun _=>true) true fuel 27 cs=some x) (hs:Sm 27 x.1):∃ p:Tx,cs=txL p/\TxAt W p:=by
 obtain⟨f0,f1,f2,f3,f4,hst,⟨t0,o0⟩,⟨t1,o1⟩,⟨t2,o2⟩,⟨t3,o3⟩,⟨t4,o4⟩⟩:=txnFields;obtain⟨ys,n',_,rfl,hlen,hyl,hf⟩:=DataW.trod_struct hst h;rw[cTn] at hlen
 match cs,hlen with
 | [x0,x1,x2,x3,x4,x5],_ =>
  match ys,hyl with
  | [y0,y1,y2,y3,y4],_ =>
   have g0:=hf 0 f0 rfl;have g1:=hf 1 f1 rfl;have g2:=hf 2 f2 rfl;have g3:=hf 3 f3 rfl;have g4:=hf 4 f4 rfl;have s2:=qet (i:=2) (f:=f2) (d:=y2.1) hst hs rfl rfl;have s3:=qet (i:=3) (f:=f3) (d:=y3.1) hst hs rfl rfl;rw[t0,o0,cI] at g0;rw[t1,o1,cI] at g1;rw[t2,o2,cWt] at g2;rw[t3,o3,cS] at g3;rw[t4,o4,cI] at g4;rw[t2] at s2;rw[t3] at s3;obtain⟨z0,e0,w0⟩:=rd_int underlying3 g0;obtain⟨z1,e1,w1⟩:=rd_int underlying3 g1;obtain⟨u1,l1,u2,l2,e2,w2,w3⟩:=rd_want g2 s2;obtain⟨z3,e3,w4⟩:=rd_string underlying9 g3 s3;obtain⟨z4,e4,w5⟩:=rd_int underlying3 g4;simp at e0 e1 e2 e3 e4;obtain⟨rfl,rfl⟩:=e2;subst e0 e1 e3 e4;exact⟨⟨z0,z1,x2,x3,z3,z4,l1,l2⟩,rfl,w2,w3,w4,w0,w1,w5⟩
def open_txs {v:Value} {d:DataW H} {p:List MemPlace} {base:Nat} (hval:Value.okWide prog W .any base 22 v) (hd:DataW.Trod enc prog W 0 (fun _=>true) true 22 v d p) (hs:Sm 22 d):∃ l,TxIn W v l/\l.length<=140737488351232:=by
 obtain⟨a1,len,cap,rfl⟩:=okWide_slice underlying22 hval;obtain⟨fuel,h⟩:=hd;obtain⟨v',l,e,q,r,z⟩:=rd_rowIn txL 6 (fun _=>rfl) zw (TxAt W) underlying22 cTn (by rw[show prog.bytesOf 27=88 by kernel_rfl];decide) (fun h1 h2=>rd_tx h1 h2) h hs;simp[Value.cells] at e;exact⟨l,by rw[e];exact⟨r,q⟩,z⟩
end Go.Proofs.YtpnabjopfpdkhaaGreatDoor
