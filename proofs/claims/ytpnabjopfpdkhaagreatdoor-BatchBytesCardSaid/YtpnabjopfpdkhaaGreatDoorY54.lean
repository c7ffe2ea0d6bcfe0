/- Lemmas. -/
import Derived.Test.YtpnabjopfpdkhaaGreatDoorY34
set_option linter.all false
set_option maxHeartbeats 4000000
set_option maxRecDepth 20000
namespace Go.Proofs.YtpnabjopfpdkhaaGreatDoor
open Tryz RowKit
attribute [go_sem] more_more Array.size_append
def encR (code vk vi:Int) (vs:ByteArray) (ver:Int):List UInt8:=(UInt8.ofNat code.toNat::encB vk vi vs)++putB ver.toNat
def encres_no (code vk vi:Int) (vs:ByteArray) (ver:Int) (h:resB code vk vi vs ver=false) (w:World):Calls prog 74 #[.agg #[.int .i64 code,.int .i64 vk,.int .i64 vi,.string vs,.int .i64 ver]] w fun e w'=>e=.returned (.slice none 0 0)/\Ext w w':=by
 have VM:=J (fun W=>qcL vk vi vs W);obtain⟨m,hm⟩:∃ m,mayBY vk vi vs=m:=⟨_,rfl⟩
 unfold resB at h;rw[hm] at VM h;clear hm;go_enter func74,ntmps74
 go_wp2_with ((with_reducible refine (VM.out _).mono ?_);rintro e' _ ⟨rfl,d1,os1,rfl⟩)
 all_goals first
  | (exfalso;simp_all<;>omega)
  | (go_ret;exact⟨rfl,zq⟩)
def cellsB_app (a b:List UInt8):qae (a++b)=qae a++qae b:=by unfold qae;exact List.map_append
def qgd (code vk vi:Int) (vs:ByteArray) (ver:Int) (h:resB code vk vi vs ver=true) (hv:In64I vi) (w:World):Calls prog 74 #[.agg #[.int .i64 code,.int .i64 vk,.int .i64 vi,.string vs,.int .i64 ver]] w fun e w'=>OwnB w w' e (encR code vk vi vs ver):=by
 unfold resB at h;simp only[Bool.and_eq_true,decide_eq_true_eq] at h;obtain⟨⟨⟨⟨q1,q2⟩,q3⟩,q4⟩,q5⟩:=h;have VM:=J (fun W=>qcL vk vi vs W);rw[q3] at VM;have VE:=J (fun W=>enc_any vk vi vs q3 hv.1 hv.2 W);have VP:=J (fun W=>qbF ver q4 Y W);obtain⟨i0,hi,hz0,hz1,hz2⟩:=info_parts qcC;have hl1:(encB vk vi vs).length<=1000:=by have:=encB_len vk vi vs q3 hv.1 hv.2;omega
 have hl2:(putB ver.toNat).length<=1000:=by have:=qao 9 ver.toNat Y;omega
 unfold encR;obtain⟨l1,e1⟩:∃ l,encB vk vi vs=l:=⟨_,rfl⟩
 obtain⟨l2,e2⟩:∃ l,putB ver.toNat=l:=⟨_,rfl⟩
 rw[e1] at VE hl1 ⊢;rw[e2] at VP hl2 ⊢;have L1:=J hl1;have L2:=J hl2;have hcw:IntKind.u8.wrap code=code:=by rw[show IntKind.u8.wrap code=code % 256 from rfl];omega
 have hvw:IntKind.u64.wrap ver=ver:=by rw[show IntKind.u64.wrap ver=ver % 18446744073709551616 from rfl];omega
 obtain⟨c8,hc8⟩:∃ c:UInt8,UInt8.ofNat code.toNat=c:=⟨_,rfl⟩
 have hc9:(c8.toNat:Int)=code:=by rw[<-hc8];simp;omega
 rw[hc8];clear hv q3 e1 e2 hl1 hl2 hc8;go_enter func74,ntmps74
 go_upto_region 3 with ((with_reducible refine (VM.out _).mono ?_);rintro e' _ ⟨rfl,d1,os1,rfl⟩)
 obtain⟨W1,hW⟩:∃ W1,(more (w.alloc (.cells #[.int .i64 code,.int .i64 vk,.int .i64 vi,.string vs,.int .i64 ver] 47)) d1 os1)=W1:=⟨_,rfl⟩
 show Code.wp _ _ _ _ (more (w.alloc (.cells #[.int .i64 code,.int .i64 vk,.int .i64 vi,.string vs,.int .i64 ver] 47)) d1 os1)
 rw[hW];have HX:=J (show Ext w W1 from by rw[<-hW];exact zq);have HK:=J (show KB w.heap.size #[.int .i64 code,.int .i64 vk,.int .i64 vi,.string vs,.int .i64 ver] 47 W1 from by rw[<-hW];exact(KB.new w _ _).of_ext ((Ext.refl _).more _ _));clear hW;obtain⟨b,hb⟩:∃ b,w.heap.size=b:=⟨_,rfl⟩
 have HBW:=J hb;rw[hb] at HK ⊢;have n0:=HK.out.cell 0 _ rfl;have n1:=HK.out.cell 1 _ rfl;have n2:=HK.out.cell 2 _ rfl;have n3:=HK.out.cell 3 _ rfl;have n4:=HK.out.cell 4 _ rfl;have nl:=HK.out.lt;clear hb
 go_cut [3] (fun s3 wx=>∃ g cap,s3=.slice (some ⟨g,0,none⟩) (1+l1.length) cap/\wx.ownsRow (b+1) 5 1 s3 (1+l1.length) (qae (c8::l1))/\KB b #[.int .i64 code,.int .i64 vk,.int .i64 vi,.string vs,.int .i64 ver] 47 wx/\Ext w wx)
 case first =>
  refine qaa 7 42 (List.replicate 7 false) zv zv rfl ?_;refine zh ?_
  iterate 3 (refine Lex.step rfl ?_;intro K hK;unfold StepG;go_simp;refine hK _ ?_;clear hK K)
  refine Lex.sliceLit 31 (.cells #[.int .u8 code] 5) 1 1 rfl rfl (fun d os=>?_) ?_
  . unfold StepG;go_simp;exact⟨(Ext.refl _).alloc _,NewSl.of_alloc _ _ _ _ _ _ _ jf⟩
  iterate 2 (refine Lex.step rfl ?_;intro K hK;unfold StepG;go_simp;refine hK _ ?_;clear hK K)
  refine Lex.gap 34 (fun v W'=>∃ g cap,v=.slice (some ⟨g,0,none⟩) l1.length cap/\W'.ownsRow (b+1) 5 1 v l1.length (qae l1)) rfl (fun v W W' hx ⟨g,cap,h1,h2⟩=>⟨g,cap,h1,own_ext h2 hx⟩) rfl (fun d os=>?_) ?_
  . unfold StepG;go_simp;exact(VE.out _).mono fun e w' ⟨g,cap,he,ho,hx⟩=>⟨_,he,hx,⟨g,cap,rfl⟩,ho.mono (by rw[more_size];have:=HK.out.lt;omega)⟩
  refine Lex.nil fun WW hE=>?_
  intro u hu v hv;obtain⟨g,cap,rfl,ho⟩:=hu;obtain⟨g2,rfl,hg2,hh2⟩:=hv;have HV:=J (show WW.ownsRow (b+1) 5 1 (.slice (some ⟨g2,0,none⟩) 1 1) 1 [.int .u8 code] from⟨rfl,.inr ⟨g2,1,_,rfl,Y,hh2,Nat.le_refl _,zw,rfl,rfl⟩⟩);have HO:=J ho;have HE:=J hE;have HG2:=J hg2;have HBS:=J (show b+1<=WW.heap.size from by have:=hE.size;omega);clear ho hh2 hE hg2;unfold FillH;go_simp
  go_wp2_with (at_builtin;refine qag _ rfl _ _ 53 53 rfl (b+1) 5 i0 (.int .u8 0) 1 1 underlying53 hi hz0 hz1 hz2 rfl zw (.slice (some ⟨g2,0,none⟩) 1 1) 1 [.int .u8 code] rfl HV.out (.slice (some ⟨g,0,none⟩) l1.length cap) l1.length (qae l1) rfl (qgB underlying53 HO.out (qcQ l1)) (by have:=L1.out;have:=L2.out;unfold maxLen;omega) (by have:=L1.out;have:=L2.out;omega) HBS.out ?_)
  intro v' w2 hown' hgrow _;obtain⟨g3,cap3,rfl,_,_⟩:=hown'.form Y
  go_wp2_with fail;rw[ends_normal];go_wp2_with fail
  go_meet
  have hne:b≠g2:=by have:=HG2.out;have:=HK.out.lt;omega
  refine ⟨g3,cap3,rfl,?_,(hgrow.block b (by have:=HBS.out;omega) (by simp[Value.ownBlock];omega)).trans (HK.out.of_ext HE.out),(HX.out.trans HE.out).grown hgrow (by intro k hk;simp[Value.ownBlock] at hk;subst hk;have:=HG2.out;have:=HX.out.size;omega)⟩;rw[show qae (c8::l1)=[.int .u8 code]++qae l1 from by rw[<-hc9];rfl];exact hown'
 case rest =>
  obtain⟨g2,cap2,rfl,ho2,hk2,hx2⟩:=hcut;clear n0 n1 n2 n3 n4 nl;have n0:=hk2.cell 0 _ rfl;have n4:=hk2.cell 4 _ rfl;have nl:=hk2.lt;have H2:=J ho2;have X2:=J hx2;have hb2:=(ho2.lt g2 rfl).2;have G2:=J (ho2.lt g2 rfl);clear ho2 hx2 hk2
  go_wp2_with (first
   | ((with_reducible refine (VP.out _).mono ?_);rintro e' _ ⟨g,cap,rfl,ho,d3,os3,rfl⟩;have HO:=J ho;clear ho)
   | (at_builtin;refine qag _ rfl _ _ 53 53 rfl (b+1) 5 i0 (.int .u8 0) 1 1 underlying53 hi hz0 hz1 hz2 rfl zw (.slice (some ⟨g2,0,none⟩) (1+l1.length) cap2) (1+l1.length) (qae (c8::l1)) rfl (own_more H2.out _ _) (.slice (some ⟨g,0,none⟩) l2.length cap) l2.length (qae l2) rfl (qgB underlying53 HO.out (qcQ l2)) (by have:=L1.out;have:=L2.out;unfold maxLen;omega) (by have:=L1.out;have:=L2.out;omega) (by rw[more_size];have:=G2.out;omega) ?_))
  intro v' w2 hown' hgrow _;go_wp2_with fail;go_ret;refine OwnB.mk' zy ?_ ((X2.out.trans zq).grown hgrow (by intro k hk;simp[Value.ownBlock] at hk;subst hk;have:=G2.out;have:=HBW.out;omega));rw[HBW.out];have e:qae (c8::(l1++l2))=qae (c8::l1)++qae l2:=cellsB_app (c8::l1) l2;rw[e,show(c8::(l1++l2)).length=1+l1.length+l2.length from by simp;omega];exact hown'.mono (Nat.le_succ b)
def LaAt (w:World) (v:Value) (l:List La):Prop:=RowIn w laL 7 v l/\∀ x∈l,In64I x.vi
def LaAt.ext {w w':World} {v:Value} {l:List La} (h:LaAt w v l) (hx:Ext w w'):LaAt w' v l:=⟨h.1.ext hx,h.2⟩
def qde (c t:Int) (w:World):Calls prog 55 #[.int .i64 c,.int .i64 t] w fun e w'=>e=.returned (.bool (qdG c t))/\Ext w w':=by
 obtain⟨r,hr⟩:∃ r,qdG c t=r:=⟨_,rfl⟩
 rw[hr];unfold qdG at hr;have HR:=J hr;clear hr;go_enter func55,ntmps55;go_wp2_with fail
 all_goals
  go_ret;exact⟨ret_bool (by rw[<-HR.out];simp_all<;>omega),zq⟩
def prevL (l:List La):Nat->Option La
 | 0=>none
 | k+1=>l[k]?
def chkL_bad {l:List La} {k:Nat} {x:La} (hx:l[k]?=some x) (p:Option La) (h:laB x=false):chkL p k (l.drop k)=(1,(k:Int)):=by
 rw[List.drop_eq_getElem_cons (List.getElem?_eq_some_iff.1 hx).1,(List.getElem?_eq_some_iff.1 hx).2];cases p<;>simp[chkL,h]
def chkL_first {l:List La} {x:La} (hx:l[0]?=some x) (h:laB x=true):chkL none 0 (l.drop 0)=chkL (some x) 1 (l.drop 1):=by
 rw[List.drop_eq_getElem_cons (List.getElem?_eq_some_iff.1 hx).1,(List.getElem?_eq_some_iff.1 hx).2];simp[chkL,h]
def chkL_step {l:List La} {k:Nat} {x y:La} (hx:l[k]?=some x) (h:laB x=true):chkL (some y) k (l.drop k)=if x.c<=y.c then(3,(k:Int)) else chkL (some x) (k+1) (l.drop (k+1)):=by
 rw[List.drop_eq_getElem_cons (List.getElem?_eq_some_iff.1 hx).1,(List.getElem?_eq_some_iff.1 hx).2];simp[chkL,h]
def qfq (v:Value) (l:List La) (w:World) (h:LaAt w v l) (hl:l.length<=100000):Calls prog 53 #[v] w fun e w'=>e=.returned (.tuple #[.int .i64 (chkL none 0 l).1,.int .i64 (chkL none 0 l).2])/\Ext w w':=by
 obtain⟨⟨pp,cap,rfl,-,-,hr⟩,hv⟩:=h;obtain⟨n,hn⟩:∃ n,l.length=n:=⟨_,rfl⟩
 obtain⟨q,hq⟩:∃ q,chkL none 0 l=q:=⟨_,rfl⟩
 rw[hn] at hl ⊢;rw[hq];have HN:=J hn;have HQ:=J hq;have HC:=J hr;have HV:=J hv;have hln:(n:Int)<=100000:=Y;have CB:=J qde;have EN:=J encres_no;have EY:=J qgd;clear hr hn hq hv;go_enter func53,ntmps53;go_wp2_with fail;go_loopw [8] (fun i wr=>∃ k:Nat,i=.int .i64 (k:Int)/\k<=n/\chkL (prevL l k) k (l.drop k)=q/\Ext w wr) (fun i _=>n-(intOf i).toNat)
 case atStart=>exact⟨0,rfl,Nat.zero_le _,HQ.out,Ext.refl _⟩
 case round =>
  obtain⟨k,rfl,hk,hch,d,os,rfl⟩:=hrel;by_cases hlt:k<n
  case neg =>
   have hkn:k=n:=Y;subst hkn;have hq2:q=(0,0):=by rw[<-hch,List.drop_eq_nil_of_le jj];cases prevL l k<;>rfl
   subst hq2;clear hch hk hlt;go_wp2_with fail;go_ret2;exact⟨rfl,zq⟩
  have hltz:(k:Int)<(n:Int):=Y;obtain⟨x,hx⟩:∃ x,l[k]?=some x:=⟨_,List.getElem?_eq_getElem jj⟩
  obtain⟨b,off,rfl,hc⟩:=HC.out k x hx;have hvi:=HV.out x (List.mem_of_getElem? hx);have c0:=hc 0 _ rfl;have c1:=hc 1 _ rfl;have c2:=hc 2 _ rfl;have c3:=hc 3 _ rfl;have c4:=hc 4 _ rfl;have c5:=hc 5 _ rfl;have c6:=hc 6 _ rfl;have hbl:=World.block_lt_of_cell? _ _ c0;simp only[Nat.add_zero] at c0 hbl;have HX:=J hx;have HLT:=J hlt;have HCH:=J hch
  have HP:k=0\/∃ y k',k=k'+1/\l[k']?=some y:=by
   rcases k with _ | k'
   . exact .inl rfl
   . exact .inr ⟨_,k',rfl,List.getElem?_eq_getElem jj⟩
  clear hc hx hlt hch;obtain⟨xc,xt,xe,xk,xi,xs,xv⟩:=x;dsimp only at c0 c1 c2 c3 c4 c5 c6 hvi;have HB:laB ⟨xc,xt,xe,xk,xi,xs,xv⟩=(qdG xc xt&&resB xe xk xi xs xv):=rfl;have HBB:=J HB;clear HB;cases hcb:qdG xc xt
  . have hq2:q=(1,(k:Int)):=(by rw[<-HCH.out];exact chkL_bad HX.out _ (by rw[HBB.out,hcb];rfl))
    subst hq2;have CX:=J (fun W=>qde xc xt W);rw[hcb] at CX;clear hcb
    go_wp2_with ((with_reducible refine (CX.out _).mono ?_);rintro e' _ ⟨rfl,d1,os1,rfl⟩)
    go_ret2;exact⟨rfl,zq⟩
  have CX:=J (fun W=>qde xc xt W);rw[hcb] at CX;cases hrb:resB xe xk xi xs xv
  . have hq2:q=(1,(k:Int)):=(by rw[<-HCH.out];exact chkL_bad HX.out _ (by rw[HBB.out,hcb,hrb];rfl))
    subst hq2;have EX:=J (fun W=>encres_no xe xk xi xs xv hrb W);clear hcb hrb
    go_wp2_with (first
     | ((with_reducible refine (CX.out _).mono ?_);rintro e' _ ⟨rfl,d1,os1,rfl⟩)
     | ((with_reducible refine (EX.out _).mono ?_);rintro e' _ ⟨rfl,d2,os2,rfl⟩))
    go_ret2;exact⟨rfl,zq⟩
  have HOK:laB ⟨xc,xt,xe,xk,xi,xs,xv⟩=true:=by rw[HBB.out,hcb,hrb];rfl
  have EX:=J (fun W=>qgd xe xk xi xs xv hrb hvi W);obtain⟨rl,hrl⟩:∃ rl,encR xe xk xi xs xv=rl:=⟨_,rfl⟩
  have hpos:0<rl.length:=by rw[<-hrl];simp[encR]
  rw[hrl] at EX;have hp0:((rl.length:Int)==0)=false:=by simp only[beq_eq_false_iff_ne,ne_eq];omega
  clear hcb hrb hrl hpos;rcases HP with rfl | ⟨y,k',rfl,hy⟩
  . have HC2:=J (show chkL (some ⟨xc,xt,xe,xk,xi,xs,xv⟩) 1 (l.drop 1)=q from by rw[<-chkL_first HX.out HOK];exact HCH.out);clear HOK;simp only[Nat.zero_mul,Nat.add_zero] at c0 c1 c2 c3 c4 c5 c6
    go_wp2_with (first
     | ((with_reducible refine (CX.out _).mono ?_);rintro e' _ ⟨rfl,d1,os1,rfl⟩)
     | ((with_reducible refine (EX.out _).mono ?_);rintro e' _ ⟨g2,cap2,rfl,-,d2,os2,rfl⟩))
    refine qaa 12 44 (List.replicate 12 false) zv zv rfl ?_;refine zh ?_
    repeat(refine Lex.step rfl ?_;intro K hK;unfold StepG;go_simp;refine hK _ ?_;clear hK K)
    refine zd ?_;intro dd oo;go_wp2_with fail;rw[ends_normal];go_wp2_with fail;go_roundw
    case rel=>exact⟨1,by go_num,by have:=HLT.out;omega,by rw[show prevL l 1=_ from HX.out];exact HC2.out,zq⟩
    case measure=>simp[intOf];have:=HLT.out;omega
  . obtain⟨b',off',he,hc'⟩:=HC.out k' y hy;simp only[Option.some.injEq,Addr.mk.injEq] at he;obtain⟨rfl,rfl,-⟩:=he;have cy:=hc' 0 _ rfl;simp only[Nat.add_zero] at cy;have HST:=J (show(if xc<=y.c then(3,((k'+1:Nat):Int)) else chkL (some ⟨xc,xt,xe,xk,xi,xs,xv⟩) (k'+1+1) (l.drop (k'+1+1)))=q from by rw[<-chkL_step (y:=y) HX.out HOK];have:=HCH.out;rw[show prevL l (k'+1)=some y from hy] at this;exact this);obtain⟨yc,hyc⟩:∃ yc,y.c=yc:=⟨_,rfl⟩
    rw[hyc] at HST;have cy2:(more w d os).cell? ⟨b,off+k'*7,none⟩=some (.int .i64 yc):=(by rw[<-hyc];exact(qcw _ _ _ _ _ hbl).trans cy)
    have cy3:w.cell? ⟨b,off+k'*7,none⟩=some (.int .i64 yc):=(by rw[<-hyc];exact cy)
    clear hc' hy HOK cy hyc cy2;have kk0:(0:Int)<(k':Int)+1:=Y;have kk1:(0:Int)<=(k':Int):=Y;have kk3:(0:Int)<=(k':Int)+1:=Y;have kk4:(k':Int)+1<(n:Int):=Y;have kw3:((k':Int)+1).toNat=k'+1:=Y;have kk2:(k':Int)<(n:Int):=Y;have kw1:IntKind.i64.wrap (k':Int)=(k':Int):=IntWalk.i64_in _ Y;clear hltz;by_cases hle:xc<=yc
    . have hq2:q=(3,((k'+1:Nat):Int)):=(by rw[<-HST.out,if_pos hle])
      subst hq2
      go_wp2_with (first
       | ((with_reducible refine (CX.out _).mono ?_);rintro e' _ ⟨rfl,d1,os1,rfl⟩)
       | ((with_reducible refine (EX.out _).mono ?_);rintro e' _ ⟨g2,cap2,rfl,-,d2,os2,rfl⟩))
      refine qaa 12 44 (List.replicate 12 false) zv zv rfl ?_;refine zh ?_
      repeat(refine Lex.step rfl ?_;intro K hK;unfold StepG;go_simp;refine hK _ ?_;clear hK K)
      refine zd ?_;intro dd oo;go_wp2_with fail;rw[ends_normal];go_wp2_with fail;go_ret2;exact⟨rfl,zq⟩
    . have HC2:=J (show chkL (some ⟨xc,xt,xe,xk,xi,xs,xv⟩) (k'+1+1) (l.drop (k'+1+1))=q from by rw[<-HST.out,if_neg hle])
      go_wp2_with (first
       | ((with_reducible refine (CX.out _).mono ?_);rintro e' _ ⟨rfl,d1,os1,rfl⟩)
       | ((with_reducible refine (EX.out _).mono ?_);rintro e' _ ⟨g2,cap2,rfl,-,d2,os2,rfl⟩))
      refine qaa 12 44 (List.replicate 12 false) zv zv rfl ?_;refine zh ?_
      repeat(refine Lex.step rfl ?_;intro K hK;unfold StepG;go_simp;refine hK _ ?_;clear hK K)
      refine zd ?_;intro dd oo;go_wp2_with fail;rw[ends_normal];go_wp2_with fail;go_roundw
      case rel=>exact⟨k'+2,by go_num,by have:=HLT.out;omega,by rw[show prevL l (k'+2)=_ from HX.out];exact HC2.out,zq⟩
      case measure=>simp[intOf];have:=HLT.out;omega
def ris_any (v:Value) (l:List La) (w:World) (h:LaAt w v l) (hl:l.length<=100000):Calls prog 54 #[v] w fun e w'=>e=.returned (.bool (isL l))/\Ext w w':=by
 have CH:=J (fun W (hx:Ext w W)=>qfq v l W (h.ext hx) hl);unfold isL;obtain⟨c,hc⟩:∃ c,(chkL none 0 l).1=c:=⟨_,rfl⟩
 rw[hc] at CH ⊢;clear h hl hc;go_enter func54,ntmps54
 go_wp2_with ((with_reducible refine (CH.out _ zq).mono ?_);rintro e' _ ⟨rfl,d1,os1,rfl⟩)
 go_ret;exact⟨rfl,zq⟩
def qfU (v:Value) (l:List La) (w:World) (h:LaAt w v l) (hl:l.length<=100000):Calls prog 29 #[v] w fun e w'=>e=.returned (.bool (isL l))/\Ext w w':=by
 have CH:=J (fun W (hx:Ext w W)=>qfq v l W (h.ext hx) hl);unfold isL;obtain⟨c,hc⟩:∃ c,(chkL none 0 l).1=c:=⟨_,rfl⟩
 rw[hc] at CH ⊢;clear h hl hc;go_enter func29,ntmps29
 go_wp2_with ((with_reducible refine (CH.out _ zq).mono ?_);rintro e' _ ⟨rfl,d1,os1,rfl⟩)
 go_ret;exact⟨rfl,zq⟩
def search_any (gn:Nat) (cb:Array Value) (eg:∀ args w,(callFunc gn args).run prog w=.ok (.enter gn args) w) (n:Nat) (p:Nat->Bool) (w:World) (hn:n<=100000) (hm:∀ a b,a<=b->b<n->p a=true->p b=true)
  (hp:∀ i,i<n->∀ W,Ext w W->Calls prog gn (#[.int .i64 (i:Int)]++cb) W fun e w'=>e=.returned (.bool (p i))/\Ext W w') :
  Calls prog 75 #[.int .i64 (n:Int),.func (.func gn) #[] cb] w fun e w'=>∃ m:Nat,e=.returned (.int .i64 (m:Int))/\m<=n/\(∀ k,k<m->p k=false)/\(∀ k,m<=k->k<n->p k=true)/\Ext w w':=by
 have HP:=J hp;have HM:=J hm;clear hp hm;go_enter func75,ntmps75;go_wp2_with fail
 go_loopg [5,6,7] n (fun g s5 s6 _ wr=>∃ i j:Nat,s5=.int .i64 i/\s6=.int .i64 j/\i<=j/\j<=n/\j-i<=g/\Ext w wr/\Hid (∀ k,k<i->p k=false)/\Hid (∀ k,j<=k->k<n->p k=true))
 case atStart=>exact⟨0,n,rfl,rfl,Nat.zero_le _,Nat.le_refl _,Y,Ext.refl _,J fun k hk=>absurd hk (Nat.not_lt_zero _),J fun k h1 h2=>by omega⟩
 case round =>
  obtain⟨i,j,rfl,rfl,hij,hj,hg,⟨d,os,rfl⟩,A,B⟩:=hrel;by_cases hlt:i<j
  . have hltz:(i:Int)<(j:Int):=Y;obtain⟨h,hh⟩:∃ h:Nat,(i+j) / 2=h:=⟨_,rfl⟩
    have h1:i<=h:=Y;have h2:h<j:=Y;have PX:=J (HP.out h Y);have w1:IntKind.i64.wrap ((i:Int)+(j:Int))=(i:Int)+(j:Int):=IntWalk.i64_in _ Y;have w2:IntKind.u64.wrap ((i:Int)+(j:Int))=(i:Int)+(j:Int):=(by rw[show IntKind.u64.wrap ((i:Int)+(j:Int))=((i:Int)+(j:Int)) % 18446744073709551616 from rfl];omega)
    have w3:((i:Int)+(j:Int)) / 2=(h:Int):=Y;have w4:IntKind.i64.wrap (h:Int)=(h:Int):=IntWalk.i64_in _ Y;obtain⟨q,hq⟩:∃ q,p h=q:=⟨_,rfl⟩
    rw[hq] at PX;have HQ:=J hq;have HH:=J (show i<=h/\h<j/\j-i<=gk/\j<=n from⟨h1,h2,hg,hj⟩);clear hq hh h1 h2 hg hij;cases q
    . go_wp2_with ((with_reducible refine (PX.out _ zq).mono ?_);rintro e' _ ⟨rfl,d1,os1,rfl⟩)
      go_roundg (gk-1)
      case measure=>have:=HH.out;omega
      case rel=>exact⟨h+1,j,by go_num,rfl,by have:=HH.out;omega,by have:=HH.out;omega,by have:=HH.out;omega,zq,J fun k hk=>by
        by_cases e:p k=true
        . have:=HM.out k h Y (by have:=HH.out;omega) e;rw[HQ.out] at this;cases this
        . simpa using e,B⟩
    . go_wp2_with ((with_reducible refine (PX.out _ zq).mono ?_);rintro e' _ ⟨rfl,d1,os1,rfl⟩)
      go_roundg (gk-1)
      case measure=>have:=HH.out;omega
      case rel=>exact⟨i,h,rfl,by go_num,by have:=HH.out;omega,by have:=HH.out;omega,by have:=HH.out;omega,zq,A,J fun k h1 h2=>HM.out h k h1 h2 HQ.out⟩
  . have:i=j:=by omega
    subst this;have HJ:=J hj;clear hlt hg hij hj;go_wp2_with fail;go_ret;exact⟨i,rfl,HJ.out,A.out,B.out,zq⟩
def geP (l:List La) (c:Int) (i:Nat):Bool:=match l[i]? with
 | some x=>decide (c<=x.c)
 | none=>false
def find1_any (v:Value) (l:List La) (c:Int) (i b1 b2:Nat) (w:World) (h:LaAt w v l) (hi:i<l.length) (hl:l.length<=100000) (h1:w.cell? ⟨b1,0,none⟩=some v) (h2:w.cell? ⟨b2,0,none⟩=some (.int .i64 c)) :
  Calls prog 76 (#[.int .i64 (i:Int)]++#[.pointer (some ⟨b1,0,none⟩),.pointer (some ⟨b2,0,none⟩)]) w fun e w'=>e=.returned (.bool (geP l c i))/\Ext w w':=by
 obtain⟨⟨pp,cap,rfl,-,-,hr⟩,hv⟩:=h;obtain⟨x,hx⟩:∃ x,l[i]?=some x:=⟨_,List.getElem?_eq_getElem hi⟩
 obtain⟨b,off,rfl,hc⟩:=hr i x hx;have c0:=hc 0 _ rfl;simp only[Nat.add_zero] at c0;have hb:=World.block_lt_of_cell? _ _ c0;have hb1:=World.block_lt_of_cell? _ _ h1;have hb2:=World.block_lt_of_cell? _ _ h2;obtain⟨n,hn⟩:∃ n,l.length=n:=⟨_,rfl⟩
 rw[hn] at hi hl h1;obtain⟨y,hy⟩:∃ y,x.c=y:=⟨_,rfl⟩
 rw[hy] at c0;rw[show geP l c i=decide (c<=y) from by unfold geP;rw[hx];dsimp only;rw[hy]];have hi0:(0:Int)<=(i:Int):=Y;have hi1:(i:Int)<(n:Int):=Y;clear hr hv hx hc hn hy hi hl;show Calls prog 76 #[.int .i64 (i:Int),.pointer (some ⟨b1,0,none⟩),.pointer (some ⟨b2,0,none⟩)] w fun e w'=>e=.returned (.bool (decide (c<=y)))/\Ext w w'
 go_enter func76,ntmps76;go_wp2_with fail
 go_region
 go_wp2_with fail;go_ret
 exact⟨rfl,zq⟩
def entersFi (args:Array Value) (w:World):(callFunc 76 args).run prog w=.ok (.enter 76 args) w:=by kernel_rfl
def FindAt (l:List La) (c:Int) (m:Nat):Prop:=m<=l.length/\(∀ k x,k<m->l[k]?=some x->x.c<c)/\(∀ k x,m<=k->l[k]?=some x->c<=x.c)
def isAt (l:List La) (c:Int) (m:Nat):Bool:=match l[m]? with
 | some x=>x.c==c
 | none=>false
def find_any (v:Value) (l:List La) (c:Int) (w:World) (h:LaAt w v l) (hl:l.length<=100000) (hs:l.Pairwise (fun a b=>a.c<b.c)) :
  Calls prog 56 #[v,.int .i64 c] w fun e w'=>∃ m:Nat,e=.returned (.tuple #[.int .i64 (m:Int),.bool (isAt l c m)])/\FindAt l c m/\Ext w w':=by
 have SE:=J (fun W (hx:Ext w W) b1 b2 (k1:W.cell? ⟨b1,0,none⟩=some v) (k2:W.cell? ⟨b2,0,none⟩=some (.int .i64 c))=>search_any _ #[.pointer (some ⟨b1,0,none⟩),.pointer (some ⟨b2,0,none⟩)] entersFi l.length (geP l c) W hl
  (fun a b hab hb ha=>by
   unfold geP at ha ⊢;rw[List.getElem?_eq_getElem (show a<l.length by omega)] at ha;rw[List.getElem?_eq_getElem hb];simp only[decide_eq_true_eq] at ha ⊢;rcases Nat.lt_or_eq_of_le hab with h1 | h1
   . have:=List.pairwise_iff_getElem.1 hs a b Y hb h1;omega
   . subst h1;exact ha)
  (fun i hi W' hx'=>find1_any v l c i b1 b2 W' (h.ext (hx.trans hx')) hi hl (qaf k1 hx') (qaf k2 hx')))
 have PF:=J (fun (m:Nat) (h1:m<=l.length) (h2:∀ k,k<m->geP l c k=false) (h3:∀ k,m<=k->k<l.length->geP l c k=true)=>show FindAt l c m from⟨h1,fun k x hk hx=>by
   have:=h2 k hk;unfold geP at this;rw[hx] at this
   simp at this;exact this,fun k x hk hx=>by
   have:=h3 k hk (List.getElem?_eq_some_iff.1 hx).1;unfold geP at this;rw[hx] at this
   simpa using this⟩)
 obtain⟨⟨pp,cap,rfl,-,-,hr⟩,hv⟩:=h;obtain⟨n,hn⟩:∃ n,l.length=n:=⟨_,rfl⟩
 have HN:=J hn;rw[hn] at hl SE PF ⊢;have HC:=J hr;clear hr hv hn hs;go_enter func56,ntmps56
 go_wp2_with ((with_reducible refine (SE.out _ zq w.heap.size (w.heap.size+1) zy zy).mono ?_);rintro e' _ ⟨m,rfl,hm,h2,h3,d1,os1,rfl⟩;have FM:=J (PF.out m hm h2 h3);have HM:=J hm;clear h2 h3 hm)
 by_cases hlt:m<n
 . obtain⟨x,hx⟩:∃ x,l[m]?=some x:=⟨_,List.getElem?_eq_getElem jj⟩
   obtain⟨b,off,rfl,hc⟩:=HC.out m x hx;have c0:=hc 0 _ rfl;simp only[Nat.add_zero] at c0;have hb:=World.block_lt_of_cell? _ _ c0;have hA:isAt l c m=(x.c==c):=by unfold isAt;rw[hx]
   obtain⟨y,hy⟩:∃ y,x.c=y:=⟨_,rfl⟩
   rw[hy] at c0 hA;have HA:=J hA;have hm0:(0:Int)<=(m:Int):=Y;have hm1:(m:Int)<(n:Int):=Y;clear hx hc hA hy hlt;refine qaa 15 25 (List.replicate 15 false) zv zv rfl ?_;refine zh ?_
   repeat(refine Lex.step rfl ?_;intro K hK;unfold StepG;go_simp;refine hK _ ?_;clear hK K)
   refine zd ?_;intro dd oo;go_wp2_with fail
   try rw[ends_normal]
   try go_wp2_with fail
   go_ret2;exact⟨m,by rw[HA.out];try simp_all,FM.out,zq⟩
 . have hA:isAt l c m=false:=by unfold isAt;rw[List.getElem?_eq_none jj]
   have HA:=J hA;have hm1:((m:Int)<(n:Int))=False:=zg;clear hA hlt;refine qaa 15 25 (List.replicate 15 false) zv zv rfl ?_;refine zh ?_
   repeat(refine Lex.step rfl ?_;intro K hK;unfold StepG;go_simp;refine hK _ ?_;clear hK K)
   refine zd ?_;intro dd oo;go_wp2_with fail
   try rw[ends_normal]
   try go_wp2_with fail
   go_ret2;exact⟨m,by rw[HA.out];try simp_all,FM.out,zq⟩
def la0:La:=⟨0,0,0,0,0,⟨#[]⟩,0⟩
def askR (l:List La) (c t:Int):La:=if askE l c t=0 then(l.find? (fun x=>x.c==c)).getD la0 else la0
def rsC (x:La):Array Value:=#[.int .i64 x.code,.int .i64 x.vk,.int .i64 x.vi,.string x.vs,.int .i64 x.ver]
def find_time {l:List La} {c:Int} {m:Nat} (hs:l.Pairwise (fun a b=>a.c<b.c)) (h:FindAt l c m):(isAt l c m=true/\∃ x,l[m]?=some x/\l.find? (fun x=>x.c==c)=some x)\/(isAt l c m=false/\l.find? (fun x=>x.c==c)=none):=by
 obtain⟨h1,h2,h3⟩:=h
 cases hm:l[m]? with
 | none =>
  refine .inr ⟨by unfold isAt;rw[hm],List.find?_eq_none.2 fun x hx=>?_⟩;obtain⟨j,hj⟩:=List.getElem?_of_mem hx;have hjl:=(List.getElem?_eq_some_iff.1 hj).1;have hml:=List.getElem?_eq_none_iff.1 hm;have:=h2 j x Y hj
  simp;omega
 | some x =>
  by_cases hc:x.c=c
  . refine .inl ⟨by unfold isAt;rw[hm];simp[hc],x,rfl,?_⟩;obtain⟨hml,he⟩:=List.getElem?_eq_some_iff.1 hm;rw[List.find?_eq_some_iff_getElem];refine ⟨by simp[hc],m,hml,he,fun j hj=>?_⟩;have:=h2 j _ hj (List.getElem?_eq_getElem Y);simp;omega
  . refine .inr ⟨by unfold isAt;rw[hm];simpa using hc,List.find?_eq_none.2 fun y hy=>?_⟩;obtain⟨j,hj⟩:=List.getElem?_of_mem hy;have hx:=h3 m x (Nat.le_refl _) hm;simp only[beq_iff_eq];rcases Nat.lt_trichotomy j m with q | q | q
    . have:=h2 j y q hj;omega
    . subst q;rw[hm] at hj;cases hj;exact hc
    . obtain⟨a1,a2⟩:=List.getElem?_eq_some_iff.1 hm;obtain⟨b1,b2⟩:=List.getElem?_eq_some_iff.1 hj;have:=List.pairwise_iff_getElem.1 hs m j a1 b1 q;rw[a2,b2] at this;omega
def rcell_slot {fn:Func} {p q:Tmp} {ty:TypeId} (h:fn.results=#[.cell p ty,.tmp q]) (tmps:Array Value) (w:World) (a:Addr) (r:Value)
  (hp:tmps.getD p undef=.pointer (some a)) (hl:(loadVar ty a).run prog w=.ok r w) (x:Value) (hx:tmps.getD q undef=x) :
  (results fn tmps).run prog w=.ok (.tuple #[r,x]) w:=by
 have hp':tmps[p]?.getD undef=.pointer (some a):=by simpa using hp
 have hx':tmps[q]?.getD undef=x:=by simpa using hx
 simp[results,h,hp',hx',asAddr,hl]
def qcP {w:World} {g:Nat} {cs:Array Value} (h:KB g cs 47 w) (hc:cs.size=5):(loadVar 47 ⟨g,0,none⟩).run prog w=.ok (.agg cs) w :=
 run_loadVar_row w g 47 47 cs (0,0) _ h underlying47 rfl (by rw[hc];kernel_rfl)
def ask_any (v:Value) (l:List La) (c t:Int) (w:World) (h:LaAt w v l) (hl:l.length<=100000):Calls prog 30 #[v,.int .i64 c,.int .i64 t] w fun e w'=>e=.returned (.tuple #[.agg (rsC (askR l c t)),.int .i64 (askE l c t)])/\Ext w w':=by
 have IS:=J (fun W (hx:Ext w W)=>ris_any v l W (h.ext hx) hl);have CB:=J (fun W=>qde c t W);have FI:=J (fun (hs:l.Pairwise (fun a b=>a.c<b.c)) W (hx:Ext w W)=>find_any v l c W (h.ext hx) hl hs);obtain⟨⟨pp,cap,rfl,-,-,hr⟩,hv⟩:=h;obtain⟨n,hn⟩:∃ n,l.length=n:=⟨_,rfl⟩
 have HN:=J hn;rw[hn] at hl IS FI ⊢;have HC:=J hr;clear hr hv hn
 have HEZ:askE l c t=if isL l=false\/qdG c t=false then 1 else match timeL l c with
  | none=>6
  | some u=>if u<t then 6 else if t<u then 18 else 0:=rfl
 cases his:isL l
 . have e1:askE l c t=1:=by rw[HEZ,his];simp
   have e2:askR l c t=la0:=by unfold askR;rw[e1];simp
   rw[e1,e2];rw[his] at IS;clear HEZ his e1 e2;go_enter func30,ntmps30
   go_wp2_with (first
    | ((with_reducible refine (IS.out _ zq).mono ?_);rintro e' _ ⟨rfl,d1,os1,rfl⟩)
    | ((with_reducible refine (CB.out _).mono ?_);rintro e' _ ⟨rfl,d2,os2,rfl⟩))
   try go_wp2_with fail
   exact bodyPost_ret (v:=.tuple #[.agg #[.int .i64 0,.int .i64 0,.int .i64 0,.string ⟨#[]⟩,.int .i64 0],.int .i64 1]) (rcell_slot rfl _ _ ⟨w.heap.size,0,none⟩ _ rfl (qcP (cs:=#[.int .i64 0,.int .i64 0,.int .i64 0,.string ⟨#[]⟩,.int .i64 0]) ((KB.new w _ _).of_ext zq) rfl) _ rfl) rfl ⟨rfl,zq⟩
 rw[his] at IS;have hs:=(isL_iff l).1 his |>.2;cases hcb:qdG c t
 . have e1:askE l c t=1:=by rw[HEZ,hcb];simp
   have e2:askR l c t=la0:=by unfold askR;rw[e1];simp
   rw[e1,e2];rw[hcb] at CB;clear HEZ his e1 e2 hs hcb;go_enter func30,ntmps30
   go_wp2_with (first
    | ((with_reducible refine (IS.out _ zq).mono ?_);rintro e' _ ⟨rfl,d1,os1,rfl⟩)
    | ((with_reducible refine (CB.out _).mono ?_);rintro e' _ ⟨rfl,d2,os2,rfl⟩))
   try go_wp2_with fail
   exact bodyPost_ret (v:=.tuple #[.agg #[.int .i64 0,.int .i64 0,.int .i64 0,.string ⟨#[]⟩,.int .i64 0],.int .i64 1]) (rcell_slot rfl _ _ ⟨w.heap.size,0,none⟩ _ rfl (qcP (cs:=#[.int .i64 0,.int .i64 0,.int .i64 0,.string ⟨#[]⟩,.int .i64 0]) ((KB.new w _ _).of_ext zq) rfl) _ rfl) rfl ⟨rfl,zq⟩
 rw[hcb] at CB;rw[his,hcb,if_neg zy] at HEZ;have FI2:=J (FI.out hs);have FT:=J (fun m (hm:FindAt l c m)=>find_time hs hm);have HE:=J HEZ;obtain⟨ae,hae⟩:∃ z,askE l c t=z:=⟨_,rfl⟩
 obtain⟨ar,har⟩:∃ z,askR l c t=z:=⟨_,rfl⟩
 unfold askR at har;rw[hae] at HE har ⊢;rw[show askR l c t=ar from by unfold askR;rw[hae];exact har];have HR:=J har;clear HEZ his hs hcb FI hae har;go_enter func30,ntmps30
 go_upto_region 4 with (first
  | ((with_reducible refine (IS.out _ zq).mono ?_);rintro e' _ ⟨rfl,d1,os1,rfl⟩)
  | ((with_reducible refine (CB.out _).mono ?_);rintro e' _ ⟨rfl,d2,os2,rfl⟩)
  | ((with_reducible refine (FI2.out _ zq).mono ?_);rintro e' _ ⟨m,rfl,hm,d3,os3,rfl⟩;have FM:=J (FT.out m hm);clear hm;obtain⟨ia,hia⟩:∃ ia,isAt l c m=ia:=⟨_,rfl⟩;rw[hia] at FM ⊢;clear hia))
 rcases FM.out with ⟨rfl,x,hx,hq⟩ | ⟨rfl,hq⟩
 rotate_left
 . have ER:ae=6:=by rw[HE.out];unfold timeL;rw[hq];rfl
   have RR:ar=la0:=by rw[<-HR.out,ER];simp
   subst ER RR;clear FM hq;go_wp2_with fail;exact bodyPost_ret (v:=.tuple #[.agg #[.int .i64 0,.int .i64 0,.int .i64 0,.string ⟨#[]⟩,.int .i64 0],.int .i64 6]) (rcell_slot rfl _ _ ⟨w.heap.size,0,none⟩ _ rfl (qcP (cs:=#[.int .i64 0,.int .i64 0,.int .i64 0,.string ⟨#[]⟩,.int .i64 0]) ((KB.new w _ _).of_ext zq) rfl) _ rfl) rfl ⟨rfl,zq⟩
 obtain⟨b,off,rfl,hc⟩:=HC.out m x hx;have hml:=(List.getElem?_eq_some_iff.1 hx).1;rw[HN.out] at hml;have hm0:(0:Int)<=(m:Int):=Y;have hm1:(m:Int)<(n:Int):=Y;have hA:ae=if x.t<t then 6 else if t<x.t then 18 else 0:=by rw[HE.out];unfold timeL;rw[hq];rfl
 have hB:ar=if ae=0 then x else la0:=by rw[<-HR.out,hq];rfl
 obtain⟨xc,xt,xe,xk,xi,xs,xv⟩:=x;have c1:=hc 1 _ rfl;have c2:=hc 2 _ rfl;have c3:=hc 3 _ rfl;have c4:=hc 4 _ rfl;have c5:=hc 5 _ rfl;have c6:=hc 6 _ rfl;have hb:=World.block_lt_of_cell? _ _ c1;dsimp only at c1 c2 c3 c4 c5 c6 hA hb;clear FM hq hx hc hml;by_cases h1:xt<t
 . rw[if_pos h1] at hA;subst hA;rw[if_neg zw] at hB;subst hB;go_wp2_with fail;exact bodyPost_ret (v:=.tuple #[.agg #[.int .i64 0,.int .i64 0,.int .i64 0,.string ⟨#[]⟩,.int .i64 0],.int .i64 6]) (rcell_slot rfl _ _ ⟨w.heap.size,0,none⟩ _ rfl (qcP (cs:=#[.int .i64 0,.int .i64 0,.int .i64 0,.string ⟨#[]⟩,.int .i64 0]) ((KB.new w _ _).of_ext zq) rfl) _ rfl) rfl ⟨rfl,zq⟩
 rw[if_neg h1] at hA;have q2:(xt<t)=False:=zg;by_cases h2:t<xt
 . rw[if_pos h2] at hA;subst hA;rw[if_neg zw] at hB;subst hB;clear h1;go_wp2_with fail;exact bodyPost_ret (v:=.tuple #[.agg #[.int .i64 0,.int .i64 0,.int .i64 0,.string ⟨#[]⟩,.int .i64 0],.int .i64 18]) (rcell_slot rfl _ _ ⟨w.heap.size,0,none⟩ _ rfl (qcP (cs:=#[.int .i64 0,.int .i64 0,.int .i64 0,.string ⟨#[]⟩,.int .i64 0]) ((KB.new w _ _).of_ext zq) rfl) _ rfl) rfl ⟨rfl,zq⟩
 rw[if_neg h2] at hA;subst hA;rw[if_pos rfl] at hB;subst hB;have q3:(t<xt)=False:=zg;clear h1 h2;go_wp2_with fail;exact bodyPost_ret (v:=.tuple #[.agg #[.int .i64 xe,.int .i64 xk,.int .i64 xi,.string xs,.int .i64 xv],.int .i64 0]) (rcell_slot rfl _ _ ⟨w.heap.size,0,none⟩ _ rfl (qcP (cs:=#[.int .i64 xe,.int .i64 xk,.int .i64 xi,.string xs,.int .i64 xv]) ((KB.new w _ _).of_ext zq) rfl) _ rfl) rfl ⟨rfl,zq⟩
end Go.Proofs.YtpnabjopfpdkhaaGreatDoor
