/- Lemmas. -/
import Derived.Test.YtpnabjopfpdkhaaGreatDoorY08
import Derived.Test.YtpnabjopfpdkhaaGreatDoorY09
import Derived.Test.YtpnabjopfpdkhaaGreatDoorY10
set_option linter.all false
set_option maxHeartbeats 8000000
set_option maxRecDepth 20000
namespace Go.Proofs.YtpnabjopfpdkhaaGreatDoor
open Tryz RowKit
variable {ns:List Nd} {nv sv:Value} {base c:Nat} {fi mo:Int} {W:World} {sl:List Int}
attribute [go_sem] more_more Array.size_append
def nclone_any (w:World) (h:w.ownsRow base 166 8 nv ns.length (qac ns)) (hm:ns.length<=100000) :
  Calls prog 99 #[nv] w fun e w'=>∃ v',e=.returned v'/\w'.ownsRow w.heap.size 166 8 v' ns.length (qac ns)/\Ext w w':=by
 obtain⟨i0,hi,hz0,hz1,hz2⟩:=info_parts ndInfo;have HSRC:=J fun (W:World) (hx:Ext w W)=>qfm (P:=prog) (tx:=130) underlying130 (own_ext h hx) (ndCells_one ns)
 obtain⟨n,hn⟩:∃ n,ns.length=n:=⟨_,rfl⟩
 obtain⟨p,cap,hv⟩:=qad h
 have h0:p=none->n=0:=fun e=>by
  subst e;rcases Go.Joins.ownsRow_forms h with ⟨a,b⟩ | ⟨g1,c1,b⟩
  . omega
  . rw[hv] at b;simp at b
 subst hv;have HN:=J hn;have qe:∀ (w:World) (a:Option Addr) (n c n' c':Nat),(binOp .eql 130 (.slice a n c) (.slice none n' c')).run prog w=.ok (.bool a.isNone) w:=fun w a n c n' c'=>Lib.run_eql_slice_nil w _ _ a n c n' c' underlying130
 rw[hn] at HSRC hm ⊢;clear h hn
 cases p with
 | none =>
  obtain rfl:=h0 rfl
  have hc:qac ns=[]:=by
   have:=HN.out
   cases ns with
   | nil=>rfl
   | cons x r=>simp at this
  clear HSRC;go_enter func99,ntmps99;go_wp2_with fail;go_ret
  exact⟨_,rfl,World.ownsRow_nil _ _ _ _,Ext.refl _⟩
 | some a =>
  clear h0;go_enter func99,ntmps99
  go_wp2_with (at_builtin;refine qag _ rfl _ _ 130 130 rfl w.heap.size 166 i0 (.agg #[.int .i64 0,.int .i64 0,.int .i64 0,.int .i64 0,.int .i64 0,.int .i64 0,.string ⟨#[]⟩,.string ⟨#[]⟩]) 8 80 underlying130 hi hz0 hz1 hz2 rfl zw _ 0 _ rfl (World.ownsRow_made w #[] 0 (Nat.le_refl _) (Nat.zero_le _) rfl) _ n _ rfl (HSRC.out _ ((Ext.refl _).alloc _)) ?c3 ?c4 ?c5 ?_)
  case c3=>unfold maxLen;omega
  case c4=>omega
  case c5=>simp
  intro v1 w1 hown hgrow _;go_wp2_with fail;go_ret;refine ⟨v1,rfl,by simpa using hown,Ext.grown ((Ext.refl w).alloc _) hgrow (fun k hk=>?_)⟩;simp[Value.ownBlock] at hk;omega
def CodeAt (B c:Nat) (fi mo:Int) (ns:List Nd) (M:Mk) (w:World):Prop:=∃ nv iv vv,w.heap[c]?=some (.cells #[nv,.int .i64 fi,iv,vv,.int .i64 mo,.int .i64 M.high] 170 (0,0))/\B<=c/\w.ownsRow B 166 8 nv ns.length (qac ns)/\w.ownsRow B 203 4 iv M.ins.length (insC M.ins)/\w.ownsRow B 45 3 vv M.vals.length (valC3 M.vals)
def CodeAt.mono {B B':Nat} {M:Mk} {w:World} (h:CodeAt B c fi mo ns M w) (hb:B'<=B):CodeAt B' c fi mo ns M w:=by
 obtain⟨nv,iv,vv,h1,h0,h2,h3,h4⟩:=h;exact⟨nv,iv,vv,h1,Y,h2.mono hb,h3.mono hb,h4.mono hb⟩
def MkS.start (hr:W.ownsRow 0 166 8 nv ns.length (qac ns)) (hs:W.ownsRow 0 3 1 sv sl.length (intL sl)) :
  MkS W W.heap.size (W.heap.size+1) nv sv fi mo ns sl [] Mk.start ((W.alloc (.cells #[nv,.int .i64 fi,.slice none 0 0,.slice none 0 0,.int .i64 mo,.int .i64 0] 170 (0,0))).alloc (.cells #[.pointer (some ⟨W.heap.size,0,none⟩),sv,.int .i64 0] 172 (0,0))):=by
 have hx:Ext W ((W.alloc (.cells #[nv,.int .i64 fi,.slice none 0 0,.slice none 0 0,.int .i64 mo,.int .i64 0] 170 (0,0))).alloc (.cells #[.pointer (some ⟨W.heap.size,0,none⟩),sv,.int .i64 0] 172 (0,0))):=((Ext.refl _).alloc _).alloc _;refine ⟨.slice none 0 0,.slice none 0 0,hx,?_,?_,own_ext hr hx,own_ext hs hx,World.ownsRow_nil _ _ _ _,World.ownsRow_nil _ _ _ _,⟨Nat.le_refl _,Y,Y,fun g q=>(hr.lt g q).2,fun g q=>(hs.lt g q).2⟩,fun g=>⟨fun q=>(by cases q),fun q=>(by cases q)⟩,fun q hq=>by cases hq⟩
 . exact(((Ext.refl (W.alloc (.cells #[nv,.int .i64 fi,.slice none 0 0,.slice none 0 0,.int .i64 mo,.int .i64 0] 170 (0,0)))).alloc _).below.block _ zy).trans (heap_alloc_new _ _)
 . have:=heap_alloc_new (W.alloc (.cells #[nv,.int .i64 fi,.slice none 0 0,.slice none 0 0,.int .i64 mo,.int .i64 0] 170 (0,0))) (.cells #[.pointer (some ⟨W.heap.size,0,none⟩),sv,.int .i64 0] 172 (0,0));rw[World.size_alloc] at this;exact this
def MkS.codeAt {m:Nat} {L:List (Nat × Obj)} {M:Mk} {w:World} (h:MkS W c m nv sv fi mo ns sl L M w) {B:Nat} (hr:W.ownsRow B 166 8 nv ns.length (qac ns)) (hB:B<=W.heap.size):CodeAt B c fi mo ns M w:=by
 obtain⟨iv,vv,h⟩:=h;exact⟨nv,iv,vv,h.code,Nat.le_trans hB h.base.1,own_ext hr h.ext,h.ins.mono hB,h.vals.mono hB⟩
def MkS.outer {m:Nat} {L:List (Nat × Obj)} {M:Mk} {w:World} (h:MkS W c m nv sv fi mo ns sl L M w):Ext W w:=by
 obtain⟨iv,vv,h⟩:=h;exact h.ext
def codeF_parts {R:Mk} (h:codeF ns fi sl=some R):∃ M,blkM ns sl ns.length fi Mk.start=some M/\M.add 18 0 0 (-1) 0=some R:=qab h
def cmake_ok (fi:Int) (w:World) (hr:w.ownsRow base 166 8 nv ns.length (qac ns)) (hs:∀ z∈ns,z.s.size<=maxLen) (hm:ns.length<=100000) (l:List Int) (mo a:Int) (hf:qbi ns fi=(l,mo,0,a)) (R:Mk) (hR:codeF ns fi l=some R) :
  Calls prog 85 #[.agg #[nv,.int .i64 fi]] w fun r w'=>∃ c,r=.returned (.tuple #[.pointer (some ⟨c,0,none⟩),.int .i64 0,.int .i64 (-1)])/\CodeAt w.heap.size c fi mo ns R w'/\Ext w w':=by
 obtain⟨M,hM,hA⟩:=codeF_parts hR;obtain⟨p,cap,hv⟩:=qad hr;have SL:=J (fun W' (hx:Ext w W')=>slots_any fi W' (own_ext hr hx) rfl hs l mo 0 a hf);have CN:=J (fun W' (hx:Ext w W')=>nclone_any W' (own_ext hr hx) hm);rw[hv] at SL CN ⊢;have HM:=J hM;have HA:=J hA;clear hr hs hf hR hM hA hv hm;go_enter func85,ntmps85
 go_wp2_with ((with_reducible refine (SL.out _ zq).mono ?_);rintro e' w2 ⟨sv,rfl,hsv,hx2⟩;obtain⟨ps,ks,hvs⟩:=qad hsv;subst hvs;have HSV:=J hsv;have HX2:=J (Ext.trans ((Ext.refl w).alloc _) hx2);have hb2:=(hx2.below.block w.heap.size zy).trans (heap_alloc_new _ _);clear hsv hx2)
 have HB2:Hid (KB w.heap.size #[.slice p ns.length cap,.int .i64 fi] 132 w2):=J hb2;have z0:w2.cell? ⟨w.heap.size,0,none⟩=some (.slice p ns.length cap):=HB2.out.cell 0 _ rfl;have z1:w2.cell? ⟨w.heap.size,1,none⟩=some (.int .i64 fi):=HB2.out.cell 1 _ rfl;clear hb2;obtain⟨Bx,hBx⟩:∃ Bx,w.heap.size=Bx:=⟨_,rfl⟩
 rw[hBx] at HB2 z0 z1 ⊢;have HBX:=J hBx;clear hBx;refine wp_region_held_drew (S:=(fun w'=>w'.cell? ⟨Bx,0,none⟩=some (.slice p ns.length cap)/\w'.cell? ⟨Bx,1,none⟩=some (.int .i64 fi))) zv ⟨cell_ext z0 (by repeat(first | (with_reducible exact Ext.refl _) | (with_reducible exact Ext.refl _) | (with_reducible apply Ext.alloc) | (with_reducible apply Ext.drew))),cell_ext z1 (by repeat(first | (with_reducible exact Ext.refl _) | (with_reducible exact Ext.refl _) | (with_reducible apply Ext.alloc) | (with_reducible apply Ext.drew)))⟩ (fun hS=>?_);refine tkH 0 (.pointer (some ⟨Bx,0,none⟩)) hS ?_;refine ze ?_;refine tkH 1 (.slice p ns.length cap) hS ?_;refine ze ?_;refine tkH 3 (.pointer (some ⟨Bx,1,none⟩)) hS ?_;refine ze ?_;refine tkH 4 (.int .i64 fi) hS ?_;refine ze ?_;refine tkH 6 (.int .i64 mo) hS ?_;refine ze ?_;refine tkH 9 (.slice ps l.length ks) hS ?_;refine ze ?_;refine wpAnyH_ready (rs:=[2]) zv zy ?_;refine AllReadyH.cons (o:=_) rfl (fun K hK=>?_) AllReadyH.nil;rw[if_pos jy];go_simp;refine (CN.out _ (HX2.out.trans ((Ext.refl _).drew))).mono ?_;rintro e' w3 ⟨nv2,rfl,hn2,hx3⟩;obtain⟨pn,kn,hvn⟩:=qad hn2;subst hvn;have hxw:Ext w2 w3:=Ext.trans ((Ext.refl _).drew) hx3;have HN2:=J (hn2.mono (show w2.heap.size<=w2.drew.heap.size from Nat.le_refl _));have HS3:=J (own_ext HSV.out hxw);clear hx3 hn2;refine hK.out _ _ (⟨cell_ext z0 zaq,cell_ext z1 zaq⟩) (fun hS1=>?_);clear hK K;refine ze ?_;refine tkH 5 (.agg #[.slice pn ns.length kn,.int .i64 fi]) hS1 ?_;refine ze ?_;refine tkH 7 (.agg #[.slice pn ns.length kn,.int .i64 fi,.slice none 0 0,.slice none 0 0,.int .i64 mo,.int .i64 0]) hS1 ?_;refine ze ?_;refine wpAnyH_ready (rs:=[8]) zv zy ?_;refine AllReadyH.cons (o:=_) rfl (fun K hK=>?_) AllReadyH.nil;rw[if_pos jy];go_simp;refine hK.out _ _ (⟨cell_ext z0 zaq,cell_ext z1 zaq⟩) (fun hS2=>?_)
 clear hK K;refine ze ?_;refine tkH 10 (.agg #[.pointer (some ⟨w3.heap.size,0,none⟩),.slice ps l.length ks,.int .i64 0]) hS2 ?_;refine ze ?_;refine wpAnyH_ready (rs:=[11]) zv zy ?_;refine AllReadyH.cons (o:=_) rfl (fun K hK=>?_) AllReadyH.nil;rw[if_pos jy];go_simp;refine hK.out _ _ (⟨cell_ext z0 zaq,cell_ext z1 zaq⟩) (fun hS3=>?_);clear hK K;refine ze ?_;refine tkH 12 (.pointer (some ⟨w3.heap.size+1,0,none⟩)) hS3 ?_;refine ze ?_;refine wpAnyH_done zv ?_ _;have HX3:=J (HX2.out.trans hxw);have hxw2:=J hxw;have y1:=cell_ext z1 hxw;have hB3:Bx<w3.heap.size:=Nat.lt_of_lt_of_le HB2.out.lt hxw.size;have HR3:=J (HN2.out);have H0:=J (MkS.start (fi:=fi) (mo:=mo) (HN2.out.mono (Nat.zero_le _)) (HS3.out.mono (Nat.zero_le _)));have y2:=cell_ext y1 (show Ext w3 ((w3.alloc (.cells #[.slice pn ns.length kn,.int .i64 fi,.slice none 0 0,.slice none 0 0,.int .i64 mo,.int .i64 0] 170 (0,0))).alloc (.cells #[.pointer (some ⟨w3.heap.size,0,none⟩),.slice ps l.length ks,.int .i64 0] 172 (0,0))) from((Ext.refl _).alloc _).alloc _);have C1:=J (fun w1 hw=>(mblk_any (W:=w3) (c:=w3.heap.size) (m:=w3.heap.size+1) (nv:=(.slice pn ns.length kn)) (sv:=(.slice ps l.length ks)) (fi:=fi) (mo:=mo) (ns:=ns) (sl:=l) ns.length).out (L:=[]) HM.out w1 hw);have C2:=J (fun w1 (hw:MkS w3 w3.heap.size (w3.heap.size+1) (.slice pn ns.length kn) (.slice ps l.length ks) fi mo ns l [] M w1)=>qbP hw 18 0 0 (-1) 0 HA.out);clear z0 z1 y1 hxw
 go_wp2_with (first
  | ((with_reducible refine (C1.out _ H0.out).mono ?_);rintro e' w4 ⟨rfl,h4⟩;have H4:=J h4;clear h4)
  | ((with_reducible refine (C2.out _ H4.out).mono ?_);rintro e' w5 ⟨rfl,h5⟩;have H5:=J h5;obtain⟨p5,k5,lc5,lm5,x5,_⟩:=h5.insLen;clear h5))
 go_ret3;exact⟨w3.heap.size,rfl,(H5.out.codeAt HN2.out (Nat.le_trans hxw2.out.size (Nat.le_refl _))).mono (by have:=HX2.out.size;have:=HBX.out;omega),HX3.out.trans H5.out.outer⟩
def cmake_no (fi:Int) (w:World) (hr:w.ownsRow base 166 8 nv ns.length (qac ns)) (hs:∀ z∈ns,z.s.size<=maxLen) (l:List Int) (mo e a:Int) (hf:qbi ns fi=(l,mo,e,a)) (he:e≠0) :
  Calls prog 85 #[.agg #[nv,.int .i64 fi]] w fun r w'=>r=.returned (.tuple #[.pointer none,.int .i64 e,.int .i64 a])/\Ext w w':=by
 obtain⟨p,cap,hv⟩:=qad hr;have SL:=J (fun W' (hx:Ext w W')=>slots_any fi W' (own_ext hr hx) rfl hs l mo e a hf);rw[hv] at SL ⊢;have he2:(e !=0)=true:=by simpa using he
 clear hr hs hf hv he;go_enter func85,ntmps85
 go_wp2_with ((with_reducible refine (SL.out _ zq).mono ?_);rintro e' w2 ⟨sv,rfl,hsv,hx2⟩;have HX2:=J (Ext.trans ((Ext.refl w).alloc _) hx2);clear hsv hx2)
 go_ret3;exact⟨rfl,HX2.out⟩
end Go.Proofs.YtpnabjopfpdkhaaGreatDoor
