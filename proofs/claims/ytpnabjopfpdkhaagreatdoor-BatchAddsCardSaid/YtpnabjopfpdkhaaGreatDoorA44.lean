/- Lemmas. -/
import Derived.Test.YtpnabjopfpdkhaaGreatDoorA01
import Derived.Test.YtpnabjopfpdkhaaGreatDoorA02
import Derived.Test.YtpnabjopfpdkhaaGreatDoorA04
import Derived.Test.YtpnabjopfpdkhaaGreatDoorA29
import Derived.Deep.DeepCutAuto
import Derived.Laws.Rows
set_option linter.unusedSimpArgs false
set_option linter.unusedVariables false
set_option maxHeartbeats 4000000
set_option maxRecDepth 20000
namespace Go.Proofs.YtpnabjopfpdkhaaGreatDoor
open Go.RowKit
attribute [go_sem] more_more Array.size_append
def encR (code vk vi:Int) (vs:ByteArray) (ver:Int):List UInt8:=(UInt8.ofNat code.toNat::encB vk vi vs)++putB ver.toNat
theorem encres_no (code vk vi:Int) (vs:ByteArray) (ver:Int) (h:resB code vk vi vs ver=false) (w:World):Calls Tryz.prog 74 #[.agg #[.int .i64 code,.int .i64 vk,.int .i64 vi,.string vs,.int .i64 ver]] w fun e w'=>e=.returned (.slice none 0 0)∧Ext w w':=by
 have VM:=Lib.hid (fun W=>qcB vk vi vs W)
 obtain⟨m,hm⟩:∃ m,mayBY vk vi vs=m:=⟨_,rfl⟩
 unfold resB at h;rw[hm] at VM h;clear hm;go_enter Tryz.func74,Tryz.ntmps74
 go_wp2_with ((with_reducible refine (VM.out _).mono ?_);rintro e' _ ⟨rfl,d1,os1,rfl⟩)
 all_goals first
  | (exfalso;simp_all<;>omega)
  | (go_ret;exact⟨rfl,zaa⟩)
theorem cellsB_app (a b:List UInt8):qag (a++b)=qag a++qag b:=by unfold qag;exact List.map_append
theorem qft (code vk vi:Int) (vs:ByteArray) (ver:Int) (h:resB code vk vi vs ver=true) (hv:In64I vi) (w:World):Calls Tryz.prog 74 #[.agg #[.int .i64 code,.int .i64 vk,.int .i64 vi,.string vs,.int .i64 ver]] w fun e w'=>OwnB w w' e (encR code vk vi vs ver):=by
 unfold resB at h;simp only[Bool.and_eq_true,decide_eq_true_eq] at h
 obtain⟨⟨⟨⟨q1,q2⟩,q3⟩,q4⟩,q5⟩:=h
 have VM:=Lib.hid (fun W=>qcB vk vi vs W);rw[q3] at VM;have VE:=Lib.hid (fun W=>enc_any vk vi vs q3 hv.1 hv.2 W);have VP:=Lib.hid (fun W=>qfZ ver q4 zac W)
 obtain⟨i0,hi,hz0,hz1,hz2⟩:=info_parts qcQ
 have hl1:(encB vk vi vs).length≤1000:=by have:=encB_len vk vi vs q3 hv.1 hv.2;omega
 have hl2:(putB ver.toNat).length≤1000:=by have:=qbc 9 ver.toNat zac;omega
 unfold encR
 obtain⟨l1,e1⟩:∃ l,encB vk vi vs=l:=⟨_,rfl⟩
 obtain⟨l2,e2⟩:∃ l,putB ver.toNat=l:=⟨_,rfl⟩
 rw[e1] at VE hl1 ⊢;rw[e2] at VP hl2 ⊢;have L1:=Lib.hid hl1;have L2:=Lib.hid hl2
 have hcw:IntKind.u8.wrap code=code:=by rw[show IntKind.u8.wrap code=code % 256 from rfl];omega
 have hvw:IntKind.u64.wrap ver=ver:=by rw[show IntKind.u64.wrap ver=ver % 18446744073709551616 from rfl];omega
 obtain⟨c8,hc8⟩:∃ c:UInt8,UInt8.ofNat code.toNat=c:=⟨_,rfl⟩
 have hc9:(c8.toNat:Int)=code:=by rw[←hc8];simp;omega
 rw[hc8];clear hv q3 e1 e2 hl1 hl2 hc8;go_enter Tryz.func74,Tryz.ntmps74
 go_upto_region 3 with ((with_reducible refine (VM.out _).mono ?_);rintro e' _ ⟨rfl,d1,os1,rfl⟩)
 obtain⟨W1,hW⟩:∃ W1,(more (w.alloc (.cells #[.int .i64 code,.int .i64 vk,.int .i64 vi,.string vs,.int .i64 ver] 47)) d1 os1)=W1:=⟨_,rfl⟩
 show Code.wp _ _ _ _ (more (w.alloc (.cells #[.int .i64 code,.int .i64 vk,.int .i64 vi,.string vs,.int .i64 ver] 47)) d1 os1)
 rw[hW];have HX:=Lib.hid (show Ext w W1 from by rw[←hW];exact zaa);have HK:=Lib.hid (show KB w.heap.size #[.int .i64 code,.int .i64 vk,.int .i64 vi,.string vs,.int .i64 ver] 47 W1 from by rw[←hW];exact(KB.new w _ _).of_ext ((Ext.refl _).more _ _));clear hW
 obtain⟨b,hb⟩:∃ b,w.heap.size=b:=⟨_,rfl⟩
 have HBW:=Lib.hid hb;rw[hb] at HK ⊢;have n0:=HK.out.cell 0 _ rfl;have n1:=HK.out.cell 1 _ rfl;have n2:=HK.out.cell 2 _ rfl;have n3:=HK.out.cell 3 _ rfl;have n4:=HK.out.cell 4 _ rfl;have nl:=HK.out.lt;clear hb
 go_cut [3] (fun s3 wx=>∃ g cap,s3=.slice (some ⟨g,0,none⟩) (1+l1.length) cap∧wx.ownsRow (b+1) 5 1 s3 (1+l1.length) (qag (c8::l1))∧KB b #[.int .i64 code,.int .i64 vk,.int .i64 vi,.string vs,.int .i64 ver] 47 wx∧Ext w wx)
 case first =>
  refine qaa 7 42 (List.replicate 7 false) zaf zaf rfl ?_;refine yac ?_
  iterate 3 (refine Lex.step rfl ?_;intro K hK;unfold StepG;go_simp;refine hK _ ?_;clear hK K)
  refine Lex.sliceLit 31 (.cells #[.int .u8 code] 5) 1 1 rfl rfl (fun d os=>?_) ?_
  · unfold StepG
    go_simp
    exact⟨(Ext.refl _).alloc _,NewSl.of_alloc _ _ _ _ _ _ _ zbf⟩
  iterate 2 (refine Lex.step rfl ?_;intro K hK;unfold StepG;go_simp;refine hK _ ?_;clear hK K)
  refine Lex.gap 34 (fun v W'=>∃ g cap,v=.slice (some ⟨g,0,none⟩) l1.length cap∧W'.ownsRow (b+1) 5 1 v l1.length (qag l1)) rfl (fun v W W' hx ⟨g,cap,h1,h2⟩=>⟨g,cap,h1,own_ext h2 hx⟩) rfl (fun d os=>?_) ?_
  · unfold StepG
    go_simp
    exact(VE.out _).mono fun e w' ⟨g,cap,he,ho,hx⟩=>⟨_,he,hx,⟨g,cap,rfl⟩,ho.mono (by rw[more_size];have:=HK.out.lt;omega)⟩
  refine Lex.nil fun WW hE=>?_
  intro u hu v hv
  obtain⟨g,cap,rfl,ho⟩:=hu
  obtain⟨g2,rfl,hg2,hh2⟩:=hv
  have HV:=Lib.hid (show WW.ownsRow (b+1) 5 1 (.slice (some ⟨g2,0,none⟩) 1 1) 1 [.int .u8 code] from⟨rfl,.inr ⟨g2,1,_,rfl,by omega,hh2,Nat.le_refl _,by decide,rfl,rfl⟩⟩);have HO:=Lib.hid ho;have HE:=Lib.hid hE;have HG2:=Lib.hid hg2;have HBS:=Lib.hid (show b+1≤WW.heap.size from by have:=hE.size;omega);clear ho hh2 hE hg2;unfold FillH;go_simp
  go_wp2_with (at_builtin;refine qah _ rfl _ _ 53 53 rfl (b+1) 5 i0 (.int .u8 0) 1 1 Tryz.underlying53 hi hz0 hz1 hz2 rfl zak (.slice (some ⟨g2,0,none⟩) 1 1) 1 [.int .u8 code] rfl HV.out (.slice (some ⟨g,0,none⟩) l1.length cap) l1.length (qag l1) rfl (qga Tryz.underlying53 HO.out (qcD l1)) (by have:=L1.out;have:=L2.out;unfold maxLen;omega) (by have:=L1.out;have:=L2.out;omega) HBS.out ?_)
  intro v' w2 hown' hgrow _
  obtain⟨g3,cap3,rfl,_,_⟩:=hown'.form zac
  go_wp2_with fail;rw[ends_normal];go_wp2_with fail
  go_meet
  have hne:b≠g2:=by have:=HG2.out;have:=HK.out.lt;omega
  refine ⟨g3,cap3,rfl,?_,(hgrow.block b (by have:=HBS.out;omega) (by simp[Value.ownBlock];omega)).trans (HK.out.of_ext HE.out),(HX.out.trans HE.out).grown hgrow (by intro k hk;simp[Value.ownBlock] at hk;subst hk;have:=HG2.out;have:=HX.out.size;omega)⟩;rw[show qag (c8::l1)=[.int .u8 code]++qag l1 from by rw[←hc9];rfl];exact hown'
 case rest =>
  obtain⟨g2,cap2,rfl,ho2,hk2,hx2⟩:=hcut
  clear n0 n1 n2 n3 n4 nl;have n0:=hk2.cell 0 _ rfl;have n4:=hk2.cell 4 _ rfl;have nl:=hk2.lt;have H2:=Lib.hid ho2;have X2:=Lib.hid hx2;have hb2:=(ho2.lt g2 rfl).2;have G2:=Lib.hid (ho2.lt g2 rfl);clear ho2 hx2 hk2
  go_wp2_with (first
   | ((with_reducible refine (VP.out _).mono ?_);rintro e' _ ⟨g,cap,rfl,ho,d3,os3,rfl⟩;have HO:=Lib.hid ho;clear ho)
   | (at_builtin;refine qah _ rfl _ _ 53 53 rfl (b+1) 5 i0 (.int .u8 0) 1 1 Tryz.underlying53 hi hz0 hz1 hz2 rfl zak (.slice (some ⟨g2,0,none⟩) (1+l1.length) cap2) (1+l1.length) (qag (c8::l1)) rfl (own_more H2.out _ _) (.slice (some ⟨g,0,none⟩) l2.length cap) l2.length (qag l2) rfl (qga Tryz.underlying53 HO.out (qcD l2)) (by have:=L1.out;have:=L2.out;unfold maxLen;omega) (by have:=L1.out;have:=L2.out;omega) (by rw[more_size];have:=G2.out;omega) ?_))
  intro v' w2 hown' hgrow _;go_wp2_with fail;go_ret;refine OwnB.mk' zaj ?_ ((X2.out.trans zaa).grown hgrow (by intro k hk;simp[Value.ownBlock] at hk;subst hk;have:=G2.out;have:=HBW.out;omega));rw[HBW.out]
  have e:qag (c8::(l1++l2))=qag (c8::l1)++qag l2:=cellsB_app (c8::l1) l2
  rw[e,show(c8::(l1++l2)).length=1+l1.length+l2.length from by simp;omega];exact hown'.mono (Nat.le_succ b)
theorem laL_len (x:La):(laL x).length=7:=rfl
def LaAt (w:World) (v:Value) (l:List La):Prop:=RowIn w laL 7 v l∧∀ x∈l,In64I x.vi
theorem LaAt.ext {w w':World} {v:Value} {l:List La} (h:LaAt w v l) (hx:Ext w w'):LaAt w' v l:=⟨h.1.ext hx,h.2⟩
theorem qdb (c t:Int) (w:World):Calls Tryz.prog 55 #[.int .i64 c,.int .i64 t] w fun e w'=>e=.returned (.bool (qbD c t))∧Ext w w':=by
 obtain⟨r,hr⟩:∃ r,qbD c t=r:=⟨_,rfl⟩
 rw[hr];unfold qbD at hr;have HR:=Lib.hid hr;clear hr;go_enter Tryz.func55,Tryz.ntmps55;go_wp2_with fail
 all_goals
  go_ret
  exact⟨ret_bool (by rw[←HR.out];simp_all<;>omega),zaa⟩
def prevL (l:List La):Nat→Option La
 | 0=>none
 | k+1=>l[k]?
theorem qgh {l:List La} {k:Nat} {x:La} (hx:l[k]?=some x) (p:Option La) (h:laB x=false):chkL p k (l.drop k)=(1,(k:Int)):=by
 rw[List.drop_eq_getElem_cons (List.getElem?_eq_some_iff.1 hx).1,(List.getElem?_eq_some_iff.1 hx).2]
 cases p<;>simp[chkL,h]
theorem qfc {l:List La} {x:La} (hx:l[0]?=some x) (h:laB x=true):chkL none 0 (l.drop 0)=chkL (some x) 1 (l.drop 1):=by
 rw[List.drop_eq_getElem_cons (List.getElem?_eq_some_iff.1 hx).1,(List.getElem?_eq_some_iff.1 hx).2]
 simp[chkL,h]
theorem chkL_step {l:List La} {k:Nat} {x y:La} (hx:l[k]?=some x) (h:laB x=true):chkL (some y) k (l.drop k)=if x.c≤y.c then(3,(k:Int)) else chkL (some x) (k+1) (l.drop (k+1)):=by
 rw[List.drop_eq_getElem_cons (List.getElem?_eq_some_iff.1 hx).1,(List.getElem?_eq_some_iff.1 hx).2]
 simp[chkL,h]
theorem qeQ (v:Value) (l:List La) (w:World) (h:LaAt w v l) (hl:l.length≤100000):Calls Tryz.prog 53 #[v] w fun e w'=>e=.returned (.tuple #[.int .i64 (chkL none 0 l).1,.int .i64 (chkL none 0 l).2])∧Ext w w':=by
 obtain⟨⟨pp,cap,rfl,-,-,hr⟩,hv⟩:=h
 obtain⟨n,hn⟩:∃ n,l.length=n:=⟨_,rfl⟩
 obtain⟨q,hq⟩:∃ q,chkL none 0 l=q:=⟨_,rfl⟩
 rw[hn] at hl ⊢;rw[hq];have HN:=Lib.hid hn;have HQ:=Lib.hid hq;have HC:=Lib.hid hr;have HV:=Lib.hid hv
 have hln:(n:Int)≤100000:=by omega
 have CB:=Lib.hid qdb;have EN:=Lib.hid encres_no;have EY:=Lib.hid qft;clear hr hn hq hv;go_enter Tryz.func53,Tryz.ntmps53;go_wp2_with fail;go_loopw [8] (fun i wr=>∃ k:Nat,i=.int .i64 (k:Int)∧k≤n∧chkL (prevL l k) k (l.drop k)=q∧Ext w wr) (fun i _=>n-(intOf i).toNat)
 case atStart=>exact⟨0,rfl,Nat.zero_le _,HQ.out,Ext.refl _⟩
 case round =>
  obtain⟨k,rfl,hk,hch,d,os,rfl⟩:=hrel
  by_cases hlt:k<n
  case neg =>
   have hkn:k=n:=by omega
   subst hkn
   have hq2:q=(0,0):=by rw[←hch,List.drop_eq_nil_of_le zap];cases prevL l k<;>rfl
   subst hq2;clear hch hk hlt;go_wp2_with fail;go_ret2
   exact⟨rfl,zaa⟩
  have hltz:(k:Int)<(n:Int):=by omega
  obtain⟨x,hx⟩:∃ x,l[k]?=some x:=⟨_,List.getElem?_eq_getElem zap⟩
  obtain⟨b,off,rfl,hc⟩:=HC.out k x hx
  have hvi:=HV.out x (List.mem_of_getElem? hx);have c0:=hc 0 _ rfl;have c1:=hc 1 _ rfl;have c2:=hc 2 _ rfl;have c3:=hc 3 _ rfl;have c4:=hc 4 _ rfl;have c5:=hc 5 _ rfl;have c6:=hc 6 _ rfl;have hbl:=World.block_lt_of_cell? _ _ c0;simp only[Nat.add_zero] at c0 hbl;have HX:=Lib.hid hx;have HLT:=Lib.hid hlt;have HCH:=Lib.hid hch
  have HP:k=0∨∃ y k',k=k'+1∧l[k']?=some y:=by
   rcases k with _ | k'
   · exact .inl rfl
   · exact .inr ⟨_,k',rfl,List.getElem?_eq_getElem zap⟩
  clear hc hx hlt hch
  obtain⟨xc,xt,xe,xk,xi,xs,xv⟩:=x
  dsimp only at c0 c1 c2 c3 c4 c5 c6 hvi
  have HB:laB ⟨xc,xt,xe,xk,xi,xs,xv⟩=(qbD xc xt&&resB xe xk xi xs xv):=rfl
  have HBB:=Lib.hid HB;clear HB
  cases hcb:qbD xc xt
  · have hq2:q=(1,(k:Int)):=by rw[←HCH.out];exact qgh HX.out _ (by rw[HBB.out,hcb];rfl)
    subst hq2;have CX:=Lib.hid (fun W=>qdb xc xt W);rw[hcb] at CX;clear hcb
    go_wp2_with ((with_reducible refine (CX.out _).mono ?_);rintro e' _ ⟨rfl,d1,os1,rfl⟩)
    go_ret2
    exact⟨rfl,zaa⟩
  have CX:=Lib.hid (fun W=>qdb xc xt W);rw[hcb] at CX
  cases hrb:resB xe xk xi xs xv
  · have hq2:q=(1,(k:Int)):=by rw[←HCH.out];exact qgh HX.out _ (by rw[HBB.out,hcb,hrb];rfl)
    subst hq2;have EX:=Lib.hid (fun W=>encres_no xe xk xi xs xv hrb W);clear hcb hrb
    go_wp2_with (first
     | ((with_reducible refine (CX.out _).mono ?_);rintro e' _ ⟨rfl,d1,os1,rfl⟩)
     | ((with_reducible refine (EX.out _).mono ?_);rintro e' _ ⟨rfl,d2,os2,rfl⟩))
    go_ret2
    exact⟨rfl,zaa⟩
  have HOK:laB ⟨xc,xt,xe,xk,xi,xs,xv⟩=true:=by rw[HBB.out,hcb,hrb];rfl
  have EX:=Lib.hid (fun W=>qft xe xk xi xs xv hrb hvi W)
  obtain⟨rl,hrl⟩:∃ rl,encR xe xk xi xs xv=rl:=⟨_,rfl⟩
  have hpos:0<rl.length:=by rw[←hrl];simp[encR]
  rw[hrl] at EX
  have hp0:((rl.length:Int)==0)=false:=by simp only[beq_eq_false_iff_ne,ne_eq];omega
  clear hcb hrb hrl hpos
  rcases HP with rfl | ⟨y,k',rfl,hy⟩
  · have HC2:=Lib.hid (show chkL (some ⟨xc,xt,xe,xk,xi,xs,xv⟩) 1 (l.drop 1)=q from by rw[←qfc HX.out HOK];exact HCH.out)
    clear HOK;simp only[Nat.zero_mul,Nat.add_zero] at c0 c1 c2 c3 c4 c5 c6
    go_wp2_with (first
     | ((with_reducible refine (CX.out _).mono ?_);rintro e' _ ⟨rfl,d1,os1,rfl⟩)
     | ((with_reducible refine (EX.out _).mono ?_);rintro e' _ ⟨g2,cap2,rfl,-,d2,os2,rfl⟩))
    refine qaa 12 44 (List.replicate 12 false) zaf zaf rfl ?_;refine yac ?_
    repeat(refine Lex.step rfl ?_;intro K hK;unfold StepG;go_simp;refine hK _ ?_;clear hK K)
    refine yaa ?_;intro dd oo;go_wp2_with fail;rw[ends_normal];go_wp2_with fail;go_roundw
    case rel=>exact⟨1,by go_num,by have:=HLT.out;omega,by rw[show prevL l 1=_ from HX.out];exact HC2.out,zaa⟩
    case measure=>simp[intOf];have:=HLT.out;omega
  · obtain⟨b',off',he,hc'⟩:=HC.out k' y hy
    simp only[Option.some.injEq,Addr.mk.injEq] at he
    obtain⟨rfl,rfl,-⟩:=he
    have cy:=hc' 0 _ rfl;simp only[Nat.add_zero] at cy;have HST:=Lib.hid (show(if xc≤y.c then(3,((k'+1:Nat):Int)) else chkL (some ⟨xc,xt,xe,xk,xi,xs,xv⟩) (k'+1+1) (l.drop (k'+1+1)))=q from by rw[←chkL_step (y:=y) HX.out HOK];have:=HCH.out;rw[show prevL l (k'+1)=some y from hy] at this;exact this)
    obtain⟨yc,hyc⟩:∃ yc,y.c=yc:=⟨_,rfl⟩
    rw[hyc] at HST
    have cy2:(more w d os).cell? ⟨b,off+k'*7,none⟩=some (.int .i64 yc):=by rw[←hyc];exact(qdh _ _ _ _ _ hbl).trans cy
    have cy3:w.cell? ⟨b,off+k'*7,none⟩=some (.int .i64 yc):=by rw[←hyc];exact cy
    clear hc' hy HOK cy hyc cy2
    have kk0:(0:Int)<(k':Int)+1:=by omega
    have kk1:(0:Int)≤(k':Int):=by omega
    have kk3:(0:Int)≤(k':Int)+1:=by omega
    have kk4:(k':Int)+1<(n:Int):=by omega
    have kw3:((k':Int)+1).toNat=k'+1:=by omega
    have kk2:(k':Int)<(n:Int):=by omega
    have kw1:IntKind.i64.wrap (k':Int)=(k':Int):=IntWalk.i64_in _ zac
    clear hltz
    by_cases hle:xc≤yc
    · have hq2:q=(3,((k'+1:Nat):Int)):=by rw[←HST.out,if_pos hle]
      subst hq2
      go_wp2_with (first
       | ((with_reducible refine (CX.out _).mono ?_);rintro e' _ ⟨rfl,d1,os1,rfl⟩)
       | ((with_reducible refine (EX.out _).mono ?_);rintro e' _ ⟨g2,cap2,rfl,-,d2,os2,rfl⟩))
      refine qaa 12 44 (List.replicate 12 false) zaf zaf rfl ?_;refine yac ?_
      repeat(refine Lex.step rfl ?_;intro K hK;unfold StepG;go_simp;refine hK _ ?_;clear hK K)
      refine yaa ?_;intro dd oo;go_wp2_with fail;rw[ends_normal];go_wp2_with fail;go_ret2
      exact⟨rfl,zaa⟩
    · have HC2:=Lib.hid (show chkL (some ⟨xc,xt,xe,xk,xi,xs,xv⟩) (k'+1+1) (l.drop (k'+1+1))=q from by rw[←HST.out,if_neg hle])
      go_wp2_with (first
       | ((with_reducible refine (CX.out _).mono ?_);rintro e' _ ⟨rfl,d1,os1,rfl⟩)
       | ((with_reducible refine (EX.out _).mono ?_);rintro e' _ ⟨g2,cap2,rfl,-,d2,os2,rfl⟩))
      refine qaa 12 44 (List.replicate 12 false) zaf zaf rfl ?_;refine yac ?_
      repeat(refine Lex.step rfl ?_;intro K hK;unfold StepG;go_simp;refine hK _ ?_;clear hK K)
      refine yaa ?_;intro dd oo;go_wp2_with fail;rw[ends_normal];go_wp2_with fail;go_roundw
      case rel=>exact⟨k'+2,by go_num,by have:=HLT.out;omega,by rw[show prevL l (k'+2)=_ from HX.out];exact HC2.out,zaa⟩
      case measure=>simp[intOf];have:=HLT.out;omega
theorem ris_any (v:Value) (l:List La) (w:World) (h:LaAt w v l) (hl:l.length≤100000):Calls Tryz.prog 54 #[v] w fun e w'=>e=.returned (.bool (isL l))∧Ext w w':=by
 have CH:=Lib.hid (fun W (hx:Ext w W)=>qeQ v l W (h.ext hx) hl);unfold isL
 obtain⟨c,hc⟩:∃ c,(chkL none 0 l).1=c:=⟨_,rfl⟩
 rw[hc] at CH ⊢;clear h hl hc;go_enter Tryz.func54,Tryz.ntmps54
 go_wp2_with (go_at_call 53;(with_reducible refine (CH.out _ zaa).mono ?_);rintro e' _ ⟨rfl,d1,os1,rfl⟩)
 go_ret
 exact⟨rfl,zaa⟩
theorem qfz (v:Value) (l:List La) (w:World) (h:LaAt w v l) (hl:l.length≤100000):Calls Tryz.prog 29 #[v] w fun e w'=>e=.returned (.bool (isL l))∧Ext w w':=by
 have CH:=Lib.hid (fun W (hx:Ext w W)=>qeQ v l W (h.ext hx) hl);unfold isL
 obtain⟨c,hc⟩:∃ c,(chkL none 0 l).1=c:=⟨_,rfl⟩
 rw[hc] at CH ⊢;clear h hl hc;go_enter Tryz.func29,Tryz.ntmps29
 go_wp2_with (go_at_call 53;(with_reducible refine (CH.out _ zaa).mono ?_);rintro e' _ ⟨rfl,d1,os1,rfl⟩)
 go_ret
 exact⟨rfl,zaa⟩
theorem search_any (gn:Nat) (cb:Array Value) (eg:∀ args w,(callFunc gn args).run Tryz.prog w=.ok (.enter gn args) w) (n:Nat) (p:Nat→Bool) (w:World) (hn:n≤100000) (hm:∀ a b,a≤b→b<n→p a=true→p b=true)
  (hp:∀ i,i<n→∀ W,Ext w W→Calls Tryz.prog gn (#[.int .i64 (i:Int)]++cb) W fun e w'=>e=.returned (.bool (p i))∧Ext W w') :
  Calls Tryz.prog 75 #[.int .i64 (n:Int),.func (.func gn) #[] cb] w fun e w'=>∃ m:Nat,e=.returned (.int .i64 (m:Int))∧m≤n∧(∀ k,k<m→p k=false)∧(∀ k,m≤k→k<n→p k=true)∧Ext w w':=by
 have HP:=Lib.hid hp;have HM:=Lib.hid hm;clear hp hm;go_enter Tryz.func75,Tryz.ntmps75;go_wp2_with fail
 go_loopg [5,6,7] n (fun g s5 s6 _ wr=>∃ i j:Nat,s5=.int .i64 i∧s6=.int .i64 j∧i≤j∧j≤n∧j-i≤g∧Ext w wr∧RowKit.Hid (∀ k,k<i→p k=false)∧RowKit.Hid (∀ k,j≤k→k<n→p k=true))
 case atStart=>exact⟨0,n,rfl,rfl,Nat.zero_le _,Nat.le_refl _,by omega,Ext.refl _,Lib.hid fun k hk=>absurd hk (Nat.not_lt_zero _),Lib.hid fun k h1 h2=>by omega⟩
 case round =>
  obtain⟨i,j,rfl,rfl,hij,hj,hg,⟨d,os,rfl⟩,A,B⟩:=hrel
  by_cases hlt:i<j
  · have hltz:(i:Int)<(j:Int):=by omega
    obtain⟨h,hh⟩:∃ h:Nat,(i+j) / 2=h:=⟨_,rfl⟩
    have h1:i≤h:=by omega
    have h2:h<j:=by omega
    have PX:=Lib.hid (HP.out h zac)
    have w1:IntKind.i64.wrap ((i:Int)+(j:Int))=(i:Int)+(j:Int):=IntWalk.i64_in _ zac
    have w2:IntKind.u64.wrap ((i:Int)+(j:Int))=(i:Int)+(j:Int):=by rw[show IntKind.u64.wrap ((i:Int)+(j:Int))=((i:Int)+(j:Int)) % 18446744073709551616 from rfl];omega
    have w3:((i:Int)+(j:Int)) / 2=(h:Int):=by omega
    have w4:IntKind.i64.wrap (h:Int)=(h:Int):=IntWalk.i64_in _ zac
    obtain⟨q,hq⟩:∃ q,p h=q:=⟨_,rfl⟩
    rw[hq] at PX;have HQ:=Lib.hid hq;have HH:=Lib.hid (show i≤h∧h<j∧j-i≤gk∧j≤n from⟨h1,h2,hg,hj⟩);clear hq hh h1 h2 hg hij
    cases q
    · go_wp2_with ((with_reducible refine (PX.out _ zaa).mono ?_);rintro e' _ ⟨rfl,d1,os1,rfl⟩)
      go_roundg (gk-1)
      case measure=>have:=HH.out;omega
      case rel=>exact⟨h+1,j,by go_num,rfl,by have:=HH.out;omega,by have:=HH.out;omega,by have:=HH.out;omega,zaa,Lib.hid fun k hk=>by
        by_cases e:p k=true
        · have:=HM.out k h zac (by have:=HH.out;omega) e
          rw[HQ.out] at this;cases this
        · simpa using e,B⟩
    · go_wp2_with ((with_reducible refine (PX.out _ zaa).mono ?_);rintro e' _ ⟨rfl,d1,os1,rfl⟩)
      go_roundg (gk-1)
      case measure=>have:=HH.out;omega
      case rel=>exact⟨i,h,rfl,by go_num,by have:=HH.out;omega,by have:=HH.out;omega,by have:=HH.out;omega,zaa,A,Lib.hid fun k h1 h2=>HM.out h k h1 h2 HQ.out⟩
  · have:i=j:=by omega
    subst this;have HJ:=Lib.hid hj;clear hlt hg hij hj;go_wp2_with fail;go_ret
    exact⟨i,rfl,HJ.out,A.out,B.out,zaa⟩
def geP (l:List La) (c:Int) (i:Nat):Bool:=match l[i]? with
 | some x=>decide (c≤x.c)
 | none=>false
theorem find1_any (v:Value) (l:List La) (c:Int) (i b1 b2:Nat) (w:World) (h:LaAt w v l) (hi:i<l.length) (hl:l.length≤100000) (h1:w.cell? ⟨b1,0,none⟩=some v) (h2:w.cell? ⟨b2,0,none⟩=some (.int .i64 c)) :
  Calls Tryz.prog 76 (#[.int .i64 (i:Int)]++#[.pointer (some ⟨b1,0,none⟩),.pointer (some ⟨b2,0,none⟩)]) w fun e w'=>e=.returned (.bool (geP l c i))∧Ext w w':=by
 obtain⟨⟨pp,cap,rfl,-,-,hr⟩,hv⟩:=h
 obtain⟨x,hx⟩:∃ x,l[i]?=some x:=⟨_,List.getElem?_eq_getElem hi⟩
 obtain⟨b,off,rfl,hc⟩:=hr i x hx
 have c0:=hc 0 _ rfl;simp only[Nat.add_zero] at c0;have hb:=World.block_lt_of_cell? _ _ c0;have hb1:=World.block_lt_of_cell? _ _ h1;have hb2:=World.block_lt_of_cell? _ _ h2
 obtain⟨n,hn⟩:∃ n,l.length=n:=⟨_,rfl⟩
 rw[hn] at hi hl h1
 obtain⟨y,hy⟩:∃ y,x.c=y:=⟨_,rfl⟩
 rw[hy] at c0;rw[show geP l c i=decide (c≤y) from by unfold geP;rw[hx];dsimp only;rw[hy]]
 have hi0:(0:Int)≤(i:Int):=by omega
 have hi1:(i:Int)<(n:Int):=by omega
 clear hr hv hx hc hn hy hi hl
 show Calls Tryz.prog 76 #[.int .i64 (i:Int),.pointer (some ⟨b1,0,none⟩),.pointer (some ⟨b2,0,none⟩)] w fun e w'=>e=.returned (.bool (decide (c≤y)))∧Ext w w'
 go_enter Tryz.func76,Tryz.ntmps76;go_wp2_with fail
 go_region
 go_wp2_with fail;go_ret
 exact⟨rfl,zaa⟩
theorem entersFi (args:Array Value) (w:World):(callFunc 76 args).run Tryz.prog w=.ok (.enter 76 args) w:=by kernel_rfl
def FindAt (l:List La) (c:Int) (m:Nat):Prop:=m≤l.length∧(∀ k x,k<m→l[k]?=some x→x.c<c)∧(∀ k x,m≤k→l[k]?=some x→c≤x.c)
def isAt (l:List La) (c:Int) (m:Nat):Bool:=match l[m]? with
 | some x=>x.c==c
 | none=>false
theorem find_any (v:Value) (l:List La) (c:Int) (w:World) (h:LaAt w v l) (hl:l.length≤100000) (hs:l.Pairwise (fun a b=>a.c<b.c)) :
  Calls Tryz.prog 56 #[v,.int .i64 c] w fun e w'=>∃ m:Nat,e=.returned (.tuple #[.int .i64 (m:Int),.bool (isAt l c m)])∧FindAt l c m∧Ext w w':=by
 have SE:=Lib.hid (fun W (hx:Ext w W) b1 b2 (k1:W.cell? ⟨b1,0,none⟩=some v) (k2:W.cell? ⟨b2,0,none⟩=some (.int .i64 c))=>search_any _ #[.pointer (some ⟨b1,0,none⟩),.pointer (some ⟨b2,0,none⟩)] entersFi l.length (geP l c) W hl
  (fun a b hab hb ha=>by
   unfold geP at ha ⊢;rw[List.getElem?_eq_getElem (show a<l.length by omega)] at ha;rw[List.getElem?_eq_getElem hb];simp only[decide_eq_true_eq] at ha ⊢;rcases Nat.lt_or_eq_of_le hab with h1 | h1
   · have:=List.pairwise_iff_getElem.1 hs a b zac hb h1;omega
   · subst h1;exact ha)
  (fun i hi W' hx'=>find1_any v l c i b1 b2 W' (h.ext (hx.trans hx')) hi hl (qad k1 hx') (qad k2 hx')))
 have PF:=Lib.hid (fun (m:Nat) (h1:m≤l.length) (h2:∀ k,k<m→geP l c k=false) (h3:∀ k,m≤k→k<l.length→geP l c k=true)=>show FindAt l c m from⟨h1,fun k x hk hx=>by
   have:=h2 k hk
   unfold geP at this;rw[hx] at this
   simp at this;exact this,fun k x hk hx=>by
   have:=h3 k hk (List.getElem?_eq_some_iff.1 hx).1
   unfold geP at this;rw[hx] at this
   simpa using this⟩)
 obtain⟨⟨pp,cap,rfl,-,-,hr⟩,hv⟩:=h
 obtain⟨n,hn⟩:∃ n,l.length=n:=⟨_,rfl⟩
 have HN:=Lib.hid hn;rw[hn] at hl SE PF ⊢;have HC:=Lib.hid hr;clear hr hv hn hs;go_enter Tryz.func56,Tryz.ntmps56
 go_wp2_with (go_at_call 75;(with_reducible refine (SE.out _ zaa w.heap.size (w.heap.size+1) zaj zaj).mono ?_);rintro e' _ ⟨m,rfl,hm,h2,h3,d1,os1,rfl⟩;have FM:=Lib.hid (PF.out m hm h2 h3);have HM:=Lib.hid hm;clear h2 h3 hm)
 by_cases hlt:m<n
 · obtain⟨x,hx⟩:∃ x,l[m]?=some x:=⟨_,List.getElem?_eq_getElem zap⟩
   obtain⟨b,off,rfl,hc⟩:=HC.out m x hx
   have c0:=hc 0 _ rfl;simp only[Nat.add_zero] at c0;have hb:=World.block_lt_of_cell? _ _ c0
   have hA:isAt l c m=(x.c==c):=by unfold isAt;rw[hx]
   obtain⟨y,hy⟩:∃ y,x.c=y:=⟨_,rfl⟩
   rw[hy] at c0 hA;have HA:=Lib.hid hA
   have hm0:(0:Int)≤(m:Int):=by omega
   have hm1:(m:Int)<(n:Int):=by omega
   clear hx hc hA hy hlt;refine qaa 15 25 (List.replicate 15 false) zaf zaf rfl ?_;refine yac ?_
   repeat(refine Lex.step rfl ?_;intro K hK;unfold StepG;go_simp;refine hK _ ?_;clear hK K)
   refine yaa ?_;intro dd oo;go_wp2_with fail
   try rw[ends_normal]
   try go_wp2_with fail
   go_ret2
   exact⟨m,by rw[HA.out];try simp_all,FM.out,zaa⟩
 · have hA:isAt l c m=false:=by unfold isAt;rw[List.getElem?_eq_none zap]
   have HA:=Lib.hid hA
   have hm1:((m:Int)<(n:Int))=False:=by simp;omega
   clear hA hlt;refine qaa 15 25 (List.replicate 15 false) zaf zaf rfl ?_;refine yac ?_
   repeat(refine Lex.step rfl ?_;intro K hK;unfold StepG;go_simp;refine hK _ ?_;clear hK K)
   refine yaa ?_;intro dd oo;go_wp2_with fail
   try rw[ends_normal]
   try go_wp2_with fail
   go_ret2
   exact⟨m,by rw[HA.out];try simp_all,FM.out,zaa⟩
def la0:La:=⟨0,0,0,0,0,⟨#[]⟩,0⟩
def askR (l:List La) (c t:Int):La:=if askE l c t=0 then(l.find? (fun x=>x.c==c)).getD la0 else la0
def rsC (x:La):Array Value:=#[.int .i64 x.code,.int .i64 x.vk,.int .i64 x.vi,.string x.vs,.int .i64 x.ver]
theorem find_time {l:List La} {c:Int} {m:Nat} (hs:l.Pairwise (fun a b=>a.c<b.c)) (h:FindAt l c m):(isAt l c m=true∧∃ x,l[m]?=some x∧l.find? (fun x=>x.c==c)=some x)∨(isAt l c m=false∧l.find? (fun x=>x.c==c)=none):=by
 obtain⟨h1,h2,h3⟩:=h
 cases hm:l[m]? with
 | none =>
  refine .inr ⟨by unfold isAt;rw[hm],List.find?_eq_none.2 fun x hx=>?_⟩
  obtain⟨j,hj⟩:=List.getElem?_of_mem hx
  have hjl:=(List.getElem?_eq_some_iff.1 hj).1;have hml:=List.getElem?_eq_none_iff.1 hm
  have:=h2 j x zac hj
  simp;omega
 | some x =>
  by_cases hc:x.c=c
  · refine .inl ⟨by unfold isAt;rw[hm];simp[hc],x,rfl,?_⟩
    obtain⟨hml,he⟩:=List.getElem?_eq_some_iff.1 hm
    rw[List.find?_eq_some_iff_getElem];refine ⟨by simp[hc],m,hml,he,fun j hj=>?_⟩
    have:=h2 j _ hj (List.getElem?_eq_getElem zac)
    simp;omega
  · refine .inr ⟨by unfold isAt;rw[hm];simpa using hc,List.find?_eq_none.2 fun y hy=>?_⟩
    obtain⟨j,hj⟩:=List.getElem?_of_mem hy
    have hx:=h3 m x (Nat.le_refl _) hm;simp only[beq_iff_eq];rcases Nat.lt_trichotomy j m with q | q | q
    · have:=h2 j y q hj;omega
    · subst q;rw[hm] at hj;cases hj;exact hc
    · obtain⟨a1,a2⟩:=List.getElem?_eq_some_iff.1 hm
      obtain⟨b1,b2⟩:=List.getElem?_eq_some_iff.1 hj
      have:=List.pairwise_iff_getElem.1 hs m j a1 b1 q
      rw[a2,b2] at this
      omega
theorem rcell_slot {fn:Func} {p q:Tmp} {ty:TypeId} (h:fn.results=#[.cell p ty,.tmp q]) (tmps:Array Value) (w:World) (a:Addr) (r:Value)
  (hp:tmps.getD p undef=.pointer (some a)) (hl:(loadVar ty a).run Tryz.prog w=.ok r w) (x:Value) (hx:tmps.getD q undef=x) :
  (results fn tmps).run Tryz.prog w=.ok (.tuple #[r,x]) w:=by
 have hp':tmps[p]?.getD undef=.pointer (some a):=by simpa using hp
 have hx':tmps[q]?.getD undef=x:=by simpa using hx
 simp[results,h,hp',hx',asAddr,hl]
theorem qbd {w:World} {g:Nat} {cs:Array Value} (h:KB g cs 47 w) (hc:cs.size=5):(loadVar 47 ⟨g,0,none⟩).run Tryz.prog w=.ok (.agg cs) w :=
 run_loadVar_row w g 47 47 cs (0,0) _ h Tryz.underlying47 rfl (by rw[hc];kernel_rfl)
theorem ask_any (v:Value) (l:List La) (c t:Int) (w:World) (h:LaAt w v l) (hl:l.length≤100000):Calls Tryz.prog 30 #[v,.int .i64 c,.int .i64 t] w fun e w'=>e=.returned (.tuple #[.agg (rsC (askR l c t)),.int .i64 (askE l c t)])∧Ext w w':=by
 have IS:=Lib.hid (fun W (hx:Ext w W)=>ris_any v l W (h.ext hx) hl);have CB:=Lib.hid (fun W=>qdb c t W);have FI:=Lib.hid (fun (hs:l.Pairwise (fun a b=>a.c<b.c)) W (hx:Ext w W)=>find_any v l c W (h.ext hx) hl hs)
 obtain⟨⟨pp,cap,rfl,-,-,hr⟩,hv⟩:=h
 obtain⟨n,hn⟩:∃ n,l.length=n:=⟨_,rfl⟩
 have HN:=Lib.hid hn;rw[hn] at hl IS FI ⊢;have HC:=Lib.hid hr;clear hr hv hn
 have HEZ:askE l c t=if isL l=false∨qbD c t=false then 1 else match timeL l c with
  | none=>6
  | some u=>if u<t then 6 else if t<u then 18 else 0:=rfl
 cases his:isL l
 · have e1:askE l c t=1:=by rw[HEZ,his];simp
   have e2:askR l c t=la0:=by unfold askR;rw[e1];simp
   rw[e1,e2];rw[his] at IS;clear HEZ his e1 e2;go_enter Tryz.func30,Tryz.ntmps30
   go_wp2_with (first
    | (go_at_call 54;(with_reducible refine (IS.out _ zaa).mono ?_);rintro e' _ ⟨rfl,d1,os1,rfl⟩)
    | ((with_reducible refine (CB.out _).mono ?_);rintro e' _ ⟨rfl,d2,os2,rfl⟩))
   try go_wp2_with fail
   exact yaf
 rw[his] at IS;have hs:=(isL_iff l).1 his |>.2
 cases hcb:qbD c t
 · have e1:askE l c t=1:=by rw[HEZ,hcb];simp
   have e2:askR l c t=la0:=by unfold askR;rw[e1];simp
   rw[e1,e2];rw[hcb] at CB;clear HEZ his e1 e2 hs hcb;go_enter Tryz.func30,Tryz.ntmps30
   go_wp2_with (first
    | (go_at_call 54;(with_reducible refine (IS.out _ zaa).mono ?_);rintro e' _ ⟨rfl,d1,os1,rfl⟩)
    | ((with_reducible refine (CB.out _).mono ?_);rintro e' _ ⟨rfl,d2,os2,rfl⟩))
   try go_wp2_with fail
   exact yaf
 rw[hcb] at CB;rw[his,hcb,if_neg zaj] at HEZ;have FI2:=Lib.hid (FI.out hs);have FT:=Lib.hid (fun m (hm:FindAt l c m)=>find_time hs hm);have HE:=Lib.hid HEZ
 obtain⟨ae,hae⟩:∃ z,askE l c t=z:=⟨_,rfl⟩
 obtain⟨ar,har⟩:∃ z,askR l c t=z:=⟨_,rfl⟩
 unfold askR at har;rw[hae] at HE har ⊢;rw[show askR l c t=ar from by unfold askR;rw[hae];exact har];have HR:=Lib.hid har;clear HEZ his hs hcb FI hae har;go_enter Tryz.func30,Tryz.ntmps30
 go_upto_region 4 with (first
  | (go_at_call 54;(with_reducible refine (IS.out _ zaa).mono ?_);rintro e' _ ⟨rfl,d1,os1,rfl⟩)
  | ((with_reducible refine (CB.out _).mono ?_);rintro e' _ ⟨rfl,d2,os2,rfl⟩)
  | (go_at_call 56;(with_reducible refine (FI2.out _ zaa).mono ?_);rintro e' _ ⟨m,rfl,hm,d3,os3,rfl⟩;have FM:=Lib.hid (FT.out m hm);clear hm;obtain⟨ia,hia⟩:∃ ia,isAt l c m=ia:=⟨_,rfl⟩;rw[hia] at FM ⊢;clear hia))
 rcases FM.out with ⟨rfl,x,hx,hq⟩ | ⟨rfl,hq⟩
 rotate_left
 · have ER:ae=6:=by rw[HE.out];unfold timeL;rw[hq];rfl
   have RR:ar=la0:=by rw[←HR.out,ER];simp
   subst ER RR;clear FM hq;go_wp2_with fail;exact yai
 obtain⟨b,off,rfl,hc⟩:=HC.out m x hx
 have hml:=(List.getElem?_eq_some_iff.1 hx).1;rw[HN.out] at hml
 have hm0:(0:Int)≤(m:Int):=by omega
 have hm1:(m:Int)<(n:Int):=by omega
 have hA:ae=if x.t<t then 6 else if t<x.t then 18 else 0:=by rw[HE.out];unfold timeL;rw[hq];rfl
 have hB:ar=if ae=0 then x else la0:=by rw[←HR.out,hq];rfl
 obtain⟨xc,xt,xe,xk,xi,xs,xv⟩:=x
 have c1:=hc 1 _ rfl;have c2:=hc 2 _ rfl;have c3:=hc 3 _ rfl;have c4:=hc 4 _ rfl;have c5:=hc 5 _ rfl;have c6:=hc 6 _ rfl;have hb:=World.block_lt_of_cell? _ _ c1;dsimp only at c1 c2 c3 c4 c5 c6 hA hb;clear FM hq hx hc hml
 by_cases h1:xt<t
 · rw[if_pos h1] at hA
   subst hA;rw[if_neg zak] at hB;subst hB;go_wp2_with fail;exact yai
 rw[if_neg h1] at hA
 have q2:(xt<t)=False:=by simp;omega
 by_cases h2:t<xt
 · rw[if_pos h2] at hA
   subst hA;rw[if_neg zak] at hB;subst hB;clear h1;go_wp2_with fail;exact bodyPost_ret (v:=.tuple #[.agg #[.int .i64 0,.int .i64 0,.int .i64 0,.string ⟨#[]⟩,.int .i64 0],.int .i64 18]) (rcell_slot rfl _ _ ⟨w.heap.size,0,none⟩ _ rfl (qbd (cs:=#[.int .i64 0,.int .i64 0,.int .i64 0,.string ⟨#[]⟩,.int .i64 0]) ((KB.new w _ _).of_ext zaa) rfl) _ rfl) rfl ⟨rfl,zaa⟩
 rw[if_neg h2] at hA;subst hA;rw[if_pos rfl] at hB;subst hB
 have q3:(t<xt)=False:=by simp;omega
 clear h1 h2;go_wp2_with fail;exact bodyPost_ret (v:=.tuple #[.agg #[.int .i64 xe,.int .i64 xk,.int .i64 xi,.string xs,.int .i64 xv],.int .i64 0]) (rcell_slot rfl _ _ ⟨w.heap.size,0,none⟩ _ rfl (qbd (cs:=#[.int .i64 xe,.int .i64 xk,.int .i64 xi,.string xs,.int .i64 xv]) ((KB.new w _ _).of_ext zaa) rfl) _ rfl) rfl ⟨rfl,zaa⟩
theorem qfk (c t:Int) (w:World):Calls Tryz.prog 60 #[.int .i64 c,.int .i64 t] w fun e w'=>e=.returned (.bool (qbD c t))∧Ext w w':=by
 obtain⟨r,hr⟩:∃ r,qbD c t=r:=⟨_,rfl⟩
 rw[hr];unfold qbD at hr;have HR:=Lib.hid hr;clear hr;go_enter Tryz.func60,Tryz.ntmps60;go_wp2_with fail
 all_goals
  go_ret
  exact⟨ret_bool (by rw[←HR.out];simp_all<;>omega),zaa⟩
theorem mayres_any (code vk vi:Int) (vs:ByteArray) (ver:Int) (w:World):Calls Tryz.prog 38 #[.agg #[.int .i64 code,.int .i64 vk,.int .i64 vi,.string vs,.int .i64 ver]] w fun e w'=>e=.returned (.bool (resB code vk vi vs ver))∧Ext w w':=by
 have VM:=Lib.hid (fun W=>rmay_anyY vk vi vs W)
 obtain⟨r,hr⟩:∃ r,resB code vk vi vs ver=r:=⟨_,rfl⟩
 rw[hr]
 obtain⟨m,hm⟩:∃ m,mayBY vk vi vs=m:=⟨_,rfl⟩
 unfold resB at hr;rw[hm] at VM hr;have HR:=Lib.hid hr;clear hr hm;go_enter Tryz.func38,Tryz.ntmps38
 go_wp2_with ((with_reducible refine (VM.out _).mono ?_);rintro e' _ ⟨rfl,d1,os1,rfl⟩)
 all_goals
  go_ret
  exact⟨ret_bool (by rw[←HR.out];simp_all<;>omega),zaa⟩
theorem rchk_any (v:Value) (l:List La) (w:World) (h:LaAt w v l) (hl:l.length≤100000):Calls Tryz.prog 41 #[v] w fun e w'=>e=.returned (.tuple #[.int .i64 (chkL none 0 l).1,.int .i64 (chkL none 0 l).2])∧Ext w w':=by
 obtain⟨⟨pp,cap,rfl,-,-,hr⟩,hv⟩:=h
 obtain⟨n,hn⟩:∃ n,l.length=n:=⟨_,rfl⟩
 obtain⟨q,hq⟩:∃ q,chkL none 0 l=q:=⟨_,rfl⟩
 rw[hn] at hl ⊢;rw[hq];have HN:=Lib.hid hn;have HQ:=Lib.hid hq;have HC:=Lib.hid hr
 have hln:(n:Int)≤100000:=by omega
 clear hr hn hq hv;go_enter Tryz.func41,Tryz.ntmps41;go_wp2_with fail;go_loopw [4] (fun i wr=>∃ k:Nat,i=.int .i64 (k:Int)∧k≤n∧chkL (prevL l k) k (l.drop k)=q∧Ext w wr) (fun i _=>n-(intOf i).toNat)
 case atStart=>exact⟨0,rfl,Nat.zero_le _,HQ.out,Ext.refl _⟩
 case round =>
  obtain⟨k,rfl,hk,hch,d,os,rfl⟩:=hrel
  by_cases hlt:k<n
  case neg =>
   have hkn:k=n:=by omega
   subst hkn
   have hq2:q=(0,0):=by rw[←hch,List.drop_eq_nil_of_le zap];cases prevL l k<;>rfl
   subst hq2;clear hch hk hlt;go_wp2_with fail;go_ret2
   exact⟨rfl,zaa⟩
  have hltz:(k:Int)<(n:Int):=by omega
  have hk0:(0:Int)≤(k:Int):=by omega
  obtain⟨x,hx⟩:∃ x,l[k]?=some x:=⟨_,List.getElem?_eq_getElem zap⟩
  obtain⟨b,off,rfl,hc⟩:=HC.out k x hx
  have c0:=hc 0 _ rfl;have c1:=hc 1 _ rfl;have c2:=hc 2 _ rfl;have c3:=hc 3 _ rfl;have c4:=hc 4 _ rfl;have c5:=hc 5 _ rfl;have c6:=hc 6 _ rfl;have hbl:=World.block_lt_of_cell? _ _ c0;simp only[Nat.add_zero] at c0 hbl;have HX:=Lib.hid hx;have HLT:=Lib.hid hlt;have HCH:=Lib.hid hch
  have HP:k=0∨∃ y k',k=k'+1∧l[k']?=some y:=by
   rcases k with _ | k'
   · exact .inl rfl
   · exact .inr ⟨_,k',rfl,List.getElem?_eq_getElem zap⟩
  clear hc hx hlt hch
  obtain⟨xc,xt,xe,xk,xi,xs,xv⟩:=x
  dsimp only at c0 c1 c2 c3 c4 c5 c6;have CX:=Lib.hid (fun W=>qfk xc xt W);have MX:=Lib.hid (fun W=>mayres_any xe xk xi xs xv W)
  obtain⟨r1,h1⟩:∃ r,qbD xc xt=r:=⟨_,rfl⟩
  obtain⟨r2,h2⟩:∃ r,resB xe xk xi xs xv=r:=⟨_,rfl⟩
  have HBB:=Lib.hid (show laB ⟨xc,xt,xe,xk,xi,xs,xv⟩=(r1&&r2) from by rw[←h1,←h2];rfl);rw[h1] at CX;rw[h2] at MX;clear h1 h2
  by_cases hbad:(r1&&r2)=false
  · have hq2:q=(1,(k:Int)):=by rw[←HCH.out];exact qgh HX.out _ (by rw[HBB.out,hbad])
    subst hq2
    cases r1
    · clear hbad
      go_wp2_with fail;refine qaa 18 50 (List.replicate 18 false) zaf zaf rfl ?_;refine yac ?_
      repeat(refine Lex.step rfl ?_;intro K hK;unfold StepG;go_simp;(first | refine hK _ ?_ | (with_reducible refine ⟨_,fun d os=>(ret1 (CX.out _)),?_⟩;go_simp;refine hK _ ?_));clear hK K)
      refine yaa ?_;intro dd oo;go_wp2_with fail
      try rw[ends_normal]
      try go_wp2_with fail
      go_ret2
      exact⟨rfl,zaa⟩
    · rw[Bool.true_and] at hbad
      subst hbad;go_wp2_with fail;refine qaa 18 50 (List.replicate 18 false) zaf zaf rfl ?_;refine yac ?_
      repeat(refine Lex.step rfl ?_;intro K hK;unfold StepG;go_simp;(first | refine hK _ ?_ | (with_reducible refine ⟨_,fun d os=>(ret1 (CX.out _)),?_⟩;go_simp;refine hK _ ?_));clear hK K)
      refine yaa ?_;intro dd oo
      go_wp2_with ((with_reducible refine (MX.out _).mono ?_);rintro e' _ ⟨rfl,d2,os2,rfl⟩)
      try rw[ends_normal]
      try go_wp2_with fail
      go_ret2
      exact⟨rfl,zaa⟩
  obtain⟨rfl,rfl⟩:r1=true∧r2=true:=by simpa using hbad
  have HOK:laB ⟨xc,xt,xe,xk,xi,xs,xv⟩=true:=by rw[HBB.out];rfl
  clear hbad
  rcases HP with rfl | ⟨y,k',rfl,hy⟩
  · have HC2:=Lib.hid (show chkL (some ⟨xc,xt,xe,xk,xi,xs,xv⟩) 1 (l.drop 1)=q from by rw[←qfc HX.out HOK];exact HCH.out)
    clear HOK;simp only[Nat.zero_mul,Nat.add_zero] at c0 c1 c2 c3 c4 c5 c6;go_wp2_with fail;refine qaa 18 50 (List.replicate 18 false) zaf zaf rfl ?_;refine yac ?_
    repeat(refine Lex.step rfl ?_;intro K hK;unfold StepG;go_simp;(first | refine hK _ ?_ | (with_reducible refine ⟨_,fun d os=>(ret1 (CX.out _)),?_⟩;go_simp;refine hK _ ?_));clear hK K)
    refine yaa ?_;intro dd oo
    go_wp2_with ((with_reducible refine (MX.out _).mono ?_);rintro e' _ ⟨rfl,d2,os2,rfl⟩)
    try rw[ends_normal]
    try go_wp2_with fail
    refine qaa 14 50 (List.replicate 14 false) zaf zaf rfl ?_;refine yac ?_
    repeat(refine Lex.step rfl ?_;intro K hK;unfold StepG;go_simp;refine hK _ ?_;clear hK K)
    refine yaa ?_;intro dd oo;go_wp2_with fail
    try rw[ends_normal]
    try go_wp2_with fail
    go_roundw
    case rel=>exact⟨1,by go_num,by have:=HLT.out;omega,by rw[show prevL l 1=_ from HX.out];exact HC2.out,zaa⟩
    case measure=>simp[intOf];have:=HLT.out;omega
  · obtain⟨b',off',he,hc'⟩:=HC.out k' y hy
    simp only[Option.some.injEq,Addr.mk.injEq] at he
    obtain⟨rfl,rfl,-⟩:=he
    have cy:=hc' 0 _ rfl;simp only[Nat.add_zero] at cy;have HST:=Lib.hid (show(if xc≤y.c then(3,((k'+1:Nat):Int)) else chkL (some ⟨xc,xt,xe,xk,xi,xs,xv⟩) (k'+1+1) (l.drop (k'+1+1)))=q from by rw[←chkL_step (y:=y) HX.out HOK];have:=HCH.out;rw[show prevL l (k'+1)=some y from hy] at this;exact this)
    obtain⟨yc,hyc⟩:∃ yc,y.c=yc:=⟨_,rfl⟩
    rw[hyc] at HST
    have cy3:w.cell? ⟨b,off+k'*7,none⟩=some (.int .i64 yc):=by rw[←hyc];exact cy
    clear hc' hy HOK cy hyc
    have kk0:(0:Int)<(k':Int)+1:=by omega
    have kk1:(0:Int)≤(k':Int):=by omega
    have kk3:(0:Int)≤(k':Int)+1:=by omega
    have kk4:(k':Int)+1<(n:Int):=by omega
    have kw3:((k':Int)+1).toNat=k'+1:=by omega
    have kk2:(k':Int)<(n:Int):=by omega
    have kw1:IntKind.i64.wrap (k':Int)=(k':Int):=IntWalk.i64_in _ zac
    clear hltz hk0
    by_cases hle:xc≤yc
    · have hq2:q=(3,((k'+1:Nat):Int)):=by rw[←HST.out,if_pos hle]
      subst hq2;go_wp2_with fail;refine qaa 18 50 (List.replicate 18 false) zaf zaf rfl ?_;refine yac ?_
      repeat(refine Lex.step rfl ?_;intro K hK;unfold StepG;go_simp;(first | refine hK _ ?_ | (with_reducible refine ⟨_,fun d os=>(ret1 (CX.out _)),?_⟩;go_simp;refine hK _ ?_));clear hK K)
      refine yaa ?_;intro dd oo
      go_wp2_with ((with_reducible refine (MX.out _).mono ?_);rintro e' _ ⟨rfl,d2,os2,rfl⟩)
      try rw[ends_normal]
      try go_wp2_with fail
      refine qaa 14 50 (List.replicate 14 false) zaf zaf rfl ?_;refine yac ?_
      repeat(refine Lex.step rfl ?_;intro K hK;unfold StepG;go_simp;refine hK _ ?_;clear hK K)
      refine yaa ?_;intro dd oo;go_wp2_with fail
      try rw[ends_normal]
      try go_wp2_with fail
      go_ret2
      exact⟨rfl,zaa⟩
    · have HC2:=Lib.hid (show chkL (some ⟨xc,xt,xe,xk,xi,xs,xv⟩) (k'+1+1) (l.drop (k'+1+1))=q from by rw[←HST.out,if_neg hle])
      have hle2:yc<xc:=by omega
      go_wp2_with fail;refine qaa 18 50 (List.replicate 18 false) zaf zaf rfl ?_;refine yac ?_
      repeat(refine Lex.step rfl ?_;intro K hK;unfold StepG;go_simp;(first | refine hK _ ?_ | (with_reducible refine ⟨_,fun d os=>(ret1 (CX.out _)),?_⟩;go_simp;refine hK _ ?_));clear hK K)
      refine yaa ?_;intro dd oo
      go_wp2_with ((with_reducible refine (MX.out _).mono ?_);rintro e' _ ⟨rfl,d2,os2,rfl⟩)
      try rw[ends_normal]
      try go_wp2_with fail
      refine qaa 14 50 (List.replicate 14 false) zaf zaf rfl ?_;refine yac ?_
      repeat(refine Lex.step rfl ?_;intro K hK;unfold StepG;go_simp;refine hK _ ?_;clear hK K)
      refine yaa ?_;intro dd oo;go_wp2_with fail
      try rw[ends_normal]
      try go_wp2_with fail
      go_roundw
      case rel=>exact⟨k'+2,by go_num,by have:=HLT.out;omega,by rw[show prevL l (k'+2)=_ from HX.out];exact HC2.out,zaa⟩
      case measure=>simp[intOf];have:=HLT.out;omega
theorem ris26_any (v:Value) (l:List La) (w:World) (h:LaAt w v l) (hl:l.length≤100000):Calls Tryz.prog 20 #[v] w fun e w'=>e=.returned (.bool (isL l))∧Ext w w':=by
 have CH:=Lib.hid (fun W (hx:Ext w W)=>rchk_any v l W (h.ext hx) hl);unfold isL
 obtain⟨c,hc⟩:∃ c,(chkL none 0 l).1=c:=⟨_,rfl⟩
 rw[hc] at CH ⊢;clear h hl hc;go_enter Tryz.func20,Tryz.ntmps20
 go_wp2_with (go_at_call 41;(with_reducible refine (CH.out _ zaa).mono ?_);rintro e' _ ⟨rfl,d1,os1,rfl⟩)
 go_ret
 exact⟨rfl,zaa⟩
end Go.Proofs.YtpnabjopfpdkhaaGreatDoor
