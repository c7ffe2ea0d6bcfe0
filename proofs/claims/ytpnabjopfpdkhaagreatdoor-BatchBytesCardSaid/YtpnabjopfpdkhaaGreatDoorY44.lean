/- Lemmas. -/
import Derived.Test.YtpnabjopfpdkhaaGreatDoorY12
import Derived.Test.YtpnabjopfpdkhaaGreatDoorY24
set_option linter.all false
set_option maxHeartbeats 2000000
set_option maxRecDepth 20000
namespace Go.Proofs.YtpnabjopfpdkhaaGreatDoor
open Tryz RowKit
variable {b cap lb lo m:Nat} {nv:Value} {L:Toks} {N:List Nd} {ee wh z:Int} {w w1:World} {ss:List ByteArray}
structure Rt (b lb lo cap:Nat) (nv:Value) (L:Toks) (m:Nat) (N:List Nd) (e wh:Int) (w:World):Prop where
 ends:Ends L
 blk:w.heap[b]?=some (.cells #[.slice (some ⟨lb,lo,none⟩) L.length cap,.int .i64 (m:Int),nv,.int .i64 e,.int .i64 wh] 210 (0,0))
 toks:ToksAt lb lo L w
 row:w.ownsRow (b+1) 166 8 nv N.length (qac N)
 low:lb<b
 pos:m<L.length
 cnt:N.length<=512
def Rt.lt (h:Rt b lb lo cap nv L m N ee wh w):b<w.heap.size :=
 (Array.getElem?_eq_some_iff.1 h.blk).1
def Rt.ext (h:Rt b lb lo cap nv L m N ee wh w) (hx:Ext w w1):Rt b lb lo cap nv L m N ee wh w1:=by
 have hb:=hx.below;refine ⟨h.ends,(hb.block b h.lt).trans h.blk,h.toks.of_block (hb.block lb (Nat.lt_trans h.low h.lt)),own_ext h.row hx,h.low,h.pos,h.cnt⟩
def Rt.alloc (h:Rt b lb lo cap nv L m N ee wh w) (o:Obj):Rt b lb lo cap nv L m N ee wh (w.alloc o):=h.ext ((Ext.refl _).alloc o)
def Rt.more (h:Rt b lb lo cap nv L m N ee wh w) (d:Nat) (os:Array Obj):Rt b lb lo cap nv L m N ee wh (more w d os):=h.ext ((Ext.refl _).more d os)
def Rt.rowNe (h:Rt b lb lo cap nv L m N ee wh w) {k:Nat} (hk:w.heap.size<=k):nv.ownBlock≠some k:=by
 intro e;have:=(h.row.lt k e).2;omega
def Rt.loc (h:Rt b lb lo cap nv L m N ee wh w) (o:Obj):Loc b nv w.heap.size o (w.alloc o) :=
 ⟨heap_alloc_new _ _,by have:=h.lt;omega,h.rowNe (Nat.le_refl _)⟩
def Rt.setAt (h:Rt b lb lo cap nv L m N ee wh w) (m':Nat) (z:Int) (hz:z=m') (hm:m'<L.length):Rt b lb lo cap nv L m' N ee wh (w.setCell ⟨b,1,none⟩ (.int .i64 z)):=by
 subst hz;refine ⟨h.ends,?_,h.toks.of_block (heap_set_other _ _ _ _ _ jh),?_,h.low,hm,h.cnt⟩
 . simp[World.setCell,Array.getElem?_modify,h.blk]
 . refine h.row.kept (row:=some b) ⟨rfl,rfl,rfl,by simp[World.setCell],fun j hj hn=>heap_set_other _ _ _ _ _ (fun e=>hn (by rw[e]))⟩ (Or.inr fun e=>?_);have:=(h.row.lt b e).1;omega
def Rt.push {v':Value} (h:Rt b lb lo cap nv L m N ee wh w) {z:Nd} (hown:w1.ownsRow (b+1) 166 8 v' (N.length+1) (qac N++ndL z)) (hg:w.grownBy w1 nv.ownBlock) (hn:N.length<512) :
  Rt b lb lo cap v' L m (N++[z]) ee wh (w1.setCell ⟨b,2,none⟩ v'):=by
 have hb:nv.ownBlock≠some b:=fun e=>by have:=(h.row.lt b e).1;omega
 have hl:nv.ownBlock≠some lb:=fun e=>by have:=(h.row.lt lb e).1;have:=h.low;omega
 have e1:w1.heap[b]?=w.heap[b]?:=ownBlock_kept hg h.lt hb;have e2:w1.heap[lb]?=w.heap[lb]?:=ownBlock_kept hg (Nat.lt_trans h.low h.lt) hl;refine ⟨h.ends,?_,(h.toks.of_block e2).of_block (heap_set_other _ _ _ _ _ jh),?_,h.low,h.pos,zg⟩
 . have:=h.blk;simp[World.setCell,Array.getElem?_modify,e1,this]
 . have hc:qac (N++[z])=qac N++ndL z:=by rw[qcS];simp[qac]
   rw[hc,List.length_append];refine hown.kept (row:=some b) ⟨rfl,rfl,rfl,by simp[World.setCell],fun j hj hn=>heap_set_other _ _ _ _ _ (fun e=>hn (by rw[e]))⟩ (Or.inr fun e=>?_);have:=(hown.lt b e).1;omega
def Rt.grownFacts (h:Rt b lb lo cap nv L m N ee wh w) (hg:w.grownBy w1 nv.ownBlock) :
  w1.cell? ⟨b,2,none⟩=some nv/\w1.frozen? ⟨b,2,none⟩=false/\b<w1.heap.size:=by
 have hb:nv.ownBlock≠some b:=fun e=>by have:=(h.row.lt b e).1;omega
 have e1:w1.heap[b]?=w.heap[b]?:=ownBlock_kept hg h.lt hb;have:=h.blk;refine ⟨?_,?_,Nat.lt_of_lt_of_le h.lt hg.size⟩<;>simp[World.cell?,World.frozen?,e1,this]
def Rt.facts (h:Rt b lb lo cap nv L m N ee wh w) :
  w.cell? ⟨b,0,none⟩=some (.slice (some ⟨lb,lo,none⟩) L.length cap)/\w.cell? ⟨b,1,none⟩=some (.int .i64 (m:Int))/\w.cell? ⟨b,2,none⟩=some nv/\w.cell? ⟨b,3,none⟩=some (.int .i64 ee)/\w.cell? ⟨b,4,none⟩=some (.int .i64 wh) /\
  w.frozen? ⟨b,1,none⟩=false/\w.frozen? ⟨b,2,none⟩=false/\w.frozen? ⟨b,3,none⟩=false/\w.frozen? ⟨b,4,none⟩=false/\b<w.heap.size:=by
 have:=h.blk;refine ⟨?_,?_,?_,?_,?_,?_,?_,?_,?_,h.lt⟩<;>simp[World.cell?,World.frozen?,this]
def Rt.tokFacts (h:Rt b lb lo cap nv L m N ee wh w) :
  w.cell? ⟨lb,lo+m*4,none⟩=some (.int .i64 (tk L m).1.k)/\w.cell? ⟨lb,lo+m*4+1,none⟩=some (.int .i64 (tk L m).2) /\
  w.cell? ⟨lb,lo+m*4+2,none⟩=some (.string (tk L m).1.s)/\w.cell? ⟨lb,lo+m*4+3,none⟩=some (.int .i64 (tk L m).1.i)/\lb<w.heap.size :=
 ⟨(h.toks m h.pos).1,(h.toks m h.pos).2.1,(h.toks m h.pos).2.2.1,(h.toks m h.pos).2.2.2,Nat.lt_trans h.low h.lt⟩
def Rt.next (h:Rt b lb lo cap nv L m N ee wh w) (hk:(tk L m).1.k≠0):m+1<L.length:=by
 have h1:=h.ends.at_ m h.pos;have h2:=h.pos;rcases Nat.lt_or_ge (m+1) L.length with h3 | h3
 . exact h3
 . exact absurd (h1.2 Y) hk
def Rt.setErr (h:Rt b lb lo cap nv L m N ee wh w) (c a:Int) (hc:c≠0) :
  Rt b lb lo cap nv L m N c a ((w.setCell ⟨b,3,none⟩ (.int .i64 c)).setCell ⟨b,4,none⟩ (.int .i64 a)):=by
 refine ⟨h.ends,?_,(h.toks.of_block (heap_set_other _ _ _ _ _ jh)).of_block (heap_set_other _ _ _ _ _ jh),?_,h.low,h.pos,h.cnt⟩
 . simp[World.setCell,Array.getElem?_modify,h.blk]
 . exact ownsRow_setCell_below (ownsRow_setCell_below h.row zy _) zy _
def Rt.cast {N':List Nd} (h:Rt b lb lo cap nv L m N ee wh w) (e:N=N'):Rt b lb lo cap nv L m N' ee wh w:=e ▸ h
def RPost {α:Type} (V:α->Value) (Q:Value->Prop) (b lb lo cap:Nat) (nv:Value) (L:Toks) (m:Nat) (N:List Nd) (w:World) (r:PR α) (e:Ending) (w':World):Prop :=
 match r with
 | .error (c,a)=>c≠0/\(∃ v,e=.returned v/\Q v)/\∃ nv' m' N',Rt b lb lo cap nv' L m' N' c a w'/\Kp b nv nv' w w'
 | .ok (v,m',ns)=>e=.returned (V v)/\∃ nv',Rt b lb lo cap nv' L m' (N++ns) 0 0 w'/\Kp b nv nv' w w'/\m<=m'
def RPost.err {α:Type} {V:α->Value} {Q:Value->Prop} {nv':Value} {m':Nat} {N':List Nd} {w':World} {c a:Int} {v:Value} (hc:c≠0) (hq:Q v) (hs:Rt b lb lo cap nv' L m' N' c a w') (hk:Kp b nv nv' w w'):RPost V Q b lb lo cap nv L m N w (.error (c,a)) (.returned v) w':=⟨hc,⟨v,rfl,hq⟩,nv',m',N',hs,hk⟩
def RPost.res {α:Type} {V:α->Value} {Q:Value->Prop} {nv':Value} {m':Nat} {ns:List Nd} {w':World} {v:α} {e:Ending} (he:e=.returned (V v)) (hs:Rt b lb lo cap nv' L m' (N++ns) 0 0 w') (hk:Kp b nv nv' w w') (hm:m<=m') :
  RPost V Q b lb lo cap nv L m N w (.ok (v,m',ns)) e w':=⟨he,nv',hs,hk,hm⟩
def isInt (v:Value):Prop:=∃ z:Int,v=.int .i64 z
def isUnit (v:Value):Prop:=v=.tuple #[]
def isTok (v:Value):Prop:=∃ (k a:Int) (s:ByteArray) (i:Int),v=.agg #[.int .i64 k,.int .i64 a,.string s,.int .i64 i]
attribute [go_sem] more_more Array.size_append
def rfail_alive (h:Rt b lb lo cap nv L m N 0 wh w) (c:Int) :
  Calls prog 119 #[.pointer (some ⟨b,0,none⟩),.int .i64 c] w fun e w'=>e=.returned (.tuple #[])/\∃ w1,Ext w w1/\w'=(w1.setCell ⟨b,3,none⟩ (.int .i64 c)).setCell ⟨b,4,none⟩ (.int .i64 (tk L m).2):=by
 obtain⟨c0,c1,c2,c3,c4,f1,f2,f3,f4,hb⟩:=h.facts;obtain⟨t0,t1,t2,t3,hlb⟩:=h.tokFacts;have hp:(m:Int)<(L.length:Int):=by have:=h.pos;omega
 have hp0:0<=(m:Int):=Y;have hmx:(m:Int)<=5000:=by have:=h.ends.few;have:=h.pos;omega
 have hne1:lb≠b:=jh;obtain⟨⟨⟨k,ts,i⟩,a⟩,htt⟩:∃ tt,tk L m=tt:=⟨_,rfl⟩
 rw[htt] at t0 t1 t2 t3 ⊢;dsimp only at t0 t1 t2 t3 ⊢;clear htt h c2 f1 f2;go_enter func119,ntmps119;go_wp2_with fail;refine qaa 14 27 (List.replicate 14 false) zv zv rfl ?_;refine zh ?_
 repeat(refine Lex.step rfl ?_;intro K hK;unfold StepG;go_simp;(first
   | refine hK _ ?_);clear hK K)
 refine zd ?_;intro dd oo;go_wp2_with fail;rw[ends_normal];go_wp2_with fail;go_end0;exact⟨rfl,more w dd oo,zf,by rw[more_setCell _ _ _ _ _ _ hb,more_setCell _ _ _ _ _ _ (by simpa using hb)]⟩
def qbn (hee:ee≠0) (h:Rt b lb lo cap nv L m N ee wh w) (c:Int) :
  Calls prog 119 #[.pointer (some ⟨b,0,none⟩),.int .i64 c] w fun e w'=>e=.returned (.tuple #[])/\Ext w w':=by
 obtain⟨c0,c1,c2,c3,c4,f1,f2,f3,f4,hb⟩:=h.facts;have q:(ee==0)=false:=by simpa using hee
 clear h c0 c1 c2 c4 f1 f2 f3 f4 hee;go_enter func119,ntmps119;go_wp2_with fail;go_end0;exact⟨rfl,zf⟩
def qdI (h:Rt b lb lo cap nv L m N 0 wh w) (s:ByteArray) (hs:(s.size:Int)<=100) :
  Calls prog 209 #[.pointer (some ⟨b,0,none⟩),.string s] w fun e w'=>e=.returned (.bool (isP L s m))/\Ext w w':=by
 obtain⟨c0,c1,c2,c3,c4,f1,f2,f3,f4,hb⟩:=h.facts;obtain⟨t0,t1,t2,t3,hlb⟩:=h.tokFacts;have hp:(m:Int)<(L.length:Int):=by have:=h.pos;omega
 have hp0:0<=(m:Int):=Y;have hmx:(m:Int)<=5000:=by have:=h.ends.few;have:=h.pos;omega
 have hne1:lb≠b:=jh;obtain⟨⟨⟨k,ts,i⟩,a⟩,htt⟩:∃ tt,tk L m=tt:=⟨_,rfl⟩
 have W:=J (rword_any s hs);cases hw:wordB s
 all_goals
  rw[hw] at W;rw[isP_eq htt s _ hw];rw[htt] at t0 t1 t2 t3;dsimp only at t0 t1 t2 t3 ⊢;clear htt hw h c2 c4 f1 f2 f3 f4 hmx
 . by_cases hk:(k==4)=true
   . rw[if_neg zy,hk];go_enter func209,ntmps209;go_wp2_with fail;refine qd ⟨?_⟩;refine zh ?_
     iterate 10 (refine Lex.step rfl ?_;intro K hK;unfold StepG;go_simp;refine hK _ ?_;clear hK K)
     refine Lex.alloc 5 (.cells #[.int .i64 0,.int .i64 0,.string ⟨#[]⟩,.int .i64 0] 186) rfl rfl (fun d os=>?_) ?_
     . unfold StepG;go_simp;exact ja
     refine Lex.nil fun WW hE=>?_
     intro u hu;obtain⟨dt1,ot1,dt2,ot2,rfl,rfl⟩:=hu.split hE;clear hu hE;go_simp;unfold FillH;go_wp2_with fail;rw[ends_normal]
     go_wp2_with (go_at_call 141;refine (W.out _).mono ?_;rintro e _ ⟨rfl,d,os,rfl⟩)
     go_ret;exact⟨ret_bool zy,zf⟩
   . have hk2:(k==4)=false:=(by simpa using hk)
     clear hk;rw[if_neg zy,hk2];go_enter func209,ntmps209;go_wp2_with fail;refine qd ⟨?_⟩;refine zh ?_
     iterate 10 (refine Lex.step rfl ?_;intro K hK;unfold StepG;go_simp;refine hK _ ?_;clear hK K)
     refine Lex.alloc 5 (.cells #[.int .i64 0,.int .i64 0,.string ⟨#[]⟩,.int .i64 0] 186) rfl rfl (fun d os=>?_) ?_
     . unfold StepG;go_simp;exact ja
     refine Lex.nil fun WW hE=>?_
     intro u hu;obtain⟨dt1,ot1,dt2,ot2,rfl,rfl⟩:=hu.split hE;clear hu hE;go_simp;unfold FillH;go_wp2_with fail;rw[ends_normal]
     go_wp2_with (go_at_call 141;refine (W.out _).mono ?_;rintro e _ ⟨rfl,d,os,rfl⟩)
     go_ret;exact⟨ret_bool zy,zf⟩
 . by_cases hk:(k==5)=true
   . rw[if_pos rfl,hk];go_enter func209,ntmps209;go_wp2_with fail;refine qd ⟨?_⟩;refine zh ?_
     iterate 10 (refine Lex.step rfl ?_;intro K hK;unfold StepG;go_simp;refine hK _ ?_;clear hK K)
     refine Lex.alloc 5 (.cells #[.int .i64 0,.int .i64 0,.string ⟨#[]⟩,.int .i64 0] 186) rfl rfl (fun d os=>?_) ?_
     . unfold StepG;go_simp;exact ja
     refine Lex.nil fun WW hE=>?_
     intro u hu;obtain⟨dt1,ot1,dt2,ot2,rfl,rfl⟩:=hu.split hE;clear hu hE;go_simp;unfold FillH;go_wp2_with fail;rw[ends_normal]
     go_wp2_with (go_at_call 141;refine (W.out _).mono ?_;rintro e _ ⟨rfl,d,os,rfl⟩)
     go_ret;exact⟨ret_bool zy,zf⟩
   . have hk2:(k==5)=false:=(by simpa using hk)
     clear hk;rw[if_pos rfl,hk2];go_enter func209,ntmps209;go_wp2_with fail;refine qd ⟨?_⟩;refine zh ?_
     iterate 10 (refine Lex.step rfl ?_;intro K hK;unfold StepG;go_simp;refine hK _ ?_;clear hK K)
     refine Lex.alloc 5 (.cells #[.int .i64 0,.int .i64 0,.string ⟨#[]⟩,.int .i64 0] 186) rfl rfl (fun d os=>?_) ?_
     . unfold StepG;go_simp;exact ja
     refine Lex.nil fun WW hE=>?_
     intro u hu;obtain⟨dt1,ot1,dt2,ot2,rfl,rfl⟩:=hu.split hE;clear hu hE;go_simp;unfold FillH;go_wp2_with fail;rw[ends_normal]
     go_wp2_with (go_at_call 141;refine (W.out _).mono ?_;rintro e _ ⟨rfl,d,os,rfl⟩)
     go_ret;exact⟨ret_bool zy,zf⟩
def sees_dead (hee:ee≠0) (h:Rt b lb lo cap nv L m N ee wh w) (s:ByteArray) (hs:(s.size:Int)<=100) :
  Calls prog 209 #[.pointer (some ⟨b,0,none⟩),.string s] w fun e w'=>e=.returned (.bool false)/\Ext w w':=by
 obtain⟨c0,c1,c2,c3,c4,f1,f2,f3,f4,hb⟩:=h.facts;obtain⟨t0,t1,t2,t3,hlb⟩:=h.tokFacts;have hp:(m:Int)<(L.length:Int):=by have:=h.pos;omega
 have hp0:0<=(m:Int):=Y;have hmx:(m:Int)<=5000:=by have:=h.ends.few;have:=h.pos;omega
 have hne1:lb≠b:=jh;obtain⟨⟨⟨k,ts,i⟩,a⟩,htt⟩:∃ tt,tk L m=tt:=⟨_,rfl⟩
 have W:=J (rword_any s hs);have q:(ee==0)=false:=by simpa using hee
 cases hw:wordB s
 all_goals
  rw[hw] at W;rw[htt] at t0 t1 t2 t3;dsimp only at t0 t1 t2 t3 ⊢;clear htt hw h c2 c4 f1 f2 f3 f4 hmx hee;go_enter func209,ntmps209;go_wp2_with fail;refine qd ⟨?_⟩;refine zh ?_
  iterate 10 (refine Lex.step rfl ?_;intro K hK;unfold StepG;go_simp;refine hK _ ?_;clear hK K)
  refine Lex.alloc 5 (.cells #[.int .i64 0,.int .i64 0,.string ⟨#[]⟩,.int .i64 0] 186) rfl rfl (fun d os=>?_) ?_
  . unfold StepG;go_simp;exact ja
  refine Lex.nil fun WW hE=>?_
  intro u hu;obtain⟨dt1,ot1,dt2,ot2,rfl,rfl⟩:=hu.split hE;clear hu hE;go_simp;unfold FillH;go_wp2_with fail;rw[ends_normal]
  go_wp2_with (go_at_call 141;refine (W.out _).mono ?_;rintro e _ ⟨rfl,d,os,rfl⟩)
  go_ret;exact⟨rfl,zf⟩
def qbI (h:Rt b lb lo cap nv L m N 0 0 w) (c:Int) (hc:c≠0) :
  Calls prog 119 #[.pointer (some ⟨b,0,none⟩),.int .i64 c] w fun e w'=>e=.returned (.tuple #[])/\Rt b lb lo cap nv L m N c (tk L m).2 w'/\Kp b nv nv w w' :=
 (rfail_alive h c).mono fun e w' ⟨he,w1,hx,hw⟩=>⟨he,hw ▸ (h.ext hx).setErr c _ hc,hw ▸ (((Kp.refl b nv w).ext hx).setB 3 _).setB 4 _⟩
def qfj (hee:ee≠0) (h:Rt b lb lo cap nv L m N ee wh w) (s:ByteArray) (hs:(s.size:Int)<=100) :
  Calls prog 185 #[.pointer (some ⟨b,0,none⟩),.string s] w fun e w'=>e=.returned (.bool false)/\Ext w w':=by
 have I:=J (sees_dead hee h s hs);clear h hee;go_enter func185,ntmps185
 go_wp2_with (((with_reducible refine I.out.mono ?_);rintro e _ ⟨rfl,d,os,rfl⟩))
 go_ret;exact⟨rfl,zf⟩
def take_no (h:Rt b lb lo cap nv L m N 0 0 w) (s:ByteArray) (hs:(s.size:Int)<=100) (hn:isP L s m=false) :
  Calls prog 185 #[.pointer (some ⟨b,0,none⟩),.string s] w fun e w'=>e=.returned (.bool false)/\Ext w w':=by
 have I:=J (qdI h s hs);rw[hn] at I;clear hn h;go_enter func185,ntmps185
 go_wp2_with (((with_reducible refine I.out.mono ?_);rintro e _ ⟨rfl,d,os,rfl⟩))
 go_ret;exact⟨rfl,zf⟩
def qgt (h:Rt b lb lo cap nv L m N 0 0 w) (s:ByteArray) (hs:(s.size:Int)<=100) (hn:isP L s m=true) :
  Calls prog 185 #[.pointer (some ⟨b,0,none⟩),.string s] w fun e w'=>e=.returned (.bool true)/\Rt b lb lo cap nv L (m+1) N 0 0 w'/\Kp b nv nv w w':=by
 have I:=J (qdI h s hs);have H:=J h;have NX:=J (h.next (qeU hn));rw[hn] at I;have hm:(m:Int)<=5000:=by have:=h.ends.few;have:=h.pos;omega
 have hm0:0<=(m:Int):=Y;obtain⟨c0,c1,c2,c3,c4,f1,f2,f3,f4,hb⟩:=h.facts;clear hn h c0 c2 c3 c4 f2 f3 f4;go_enter func185,ntmps185
 go_wp2_with (((with_reducible refine I.out.mono ?_);rintro e _ ⟨rfl,d,os,rfl⟩))
 go_ret;exact⟨rfl,by rw[<-more_setCell _ _ _ _ _ _ hb];exact(H.out.more d os).setAt (m+1) _ Y NX.out,by rw[<-more_setCell _ _ _ _ _ _ hb];exact((Kp.refl b nv w).more d os).setB 1 _⟩
def qdg (hee:ee≠0) (h:Rt b lb lo cap nv L m N ee wh w) (s:ByteArray) (hs:(s.size:Int)<=100) :
  Calls prog 181 #[.pointer (some ⟨b,0,none⟩),.string s] w fun e w'=>e=.returned (.tuple #[])/\Ext w w':=by
 have I:=J (qfj hee h s hs);refine yad ?_;intro FL;clear h hee;go_enter func181,ntmps181
 go_wp2_with (first
  | (((with_reducible refine I.out.mono ?_);rintro e _ ⟨rfl,d,os,rfl⟩))
  | (((with_reducible refine (FL.out _ _ zf).mono ?_);rintro e _ ⟨rfl,d2,os2,rfl⟩)))
 go_end0;exact⟨rfl,zf⟩
def qhb (h:Rt b lb lo cap nv L m N 0 0 w) (s:ByteArray) (hs:(s.size:Int)<=100) (r:PR Unit) (hr:must1 L s m N.length=r) :
  Calls prog 181 #[.pointer (some ⟨b,0,none⟩),.string s] w (RPost unitV isUnit b lb lo cap nv L m N w r):=by
 unfold must1 at hr;cases hn:isP L s m
 . rw[hn,if_neg zy] at hr;subst hr;have I:=J (take_no h s hs hn);have FL:Hid (∀ w1,Ext w w1->Calls prog 119 #[.pointer (some ⟨b,0,none⟩),.int .i64 3] w1 fun e w'=>e=.returned (.tuple #[])/\Rt b lb lo cap nv L m N 3 (tk L m).2 w'/\Kp b nv nv w1 w'):=J fun w1 hx=>qbI (h.ext hx) 3 zw
   clear h hn;go_enter func181,ntmps181
   go_wp2_with (first
    | (((with_reducible refine I.out.mono ?_);rintro e _ ⟨rfl,d,os,rfl⟩))
    | (((with_reducible refine (FL.out _ zf).mono ?_);rintro e w2 ⟨rfl,hs2,hk2⟩;have HS2:=J hs2;have HK2:=J hk2;clear hs2 hk2)))
   go_end0;exact RPost.err zw rfl HS2.out (((Kp.refl b nv w).more _ _).trans HK2.out)
 . rw[hn,if_pos rfl] at hr;subst hr;have I:=J (qgt h s hs hn);clear h hn;go_enter func181,ntmps181
   go_wp2_with (((with_reducible refine I.out.mono ?_);rintro e w2 ⟨rfl,hs2,hk2⟩;have HS2:=J hs2;have HK2:=J hk2;clear hs2 hk2))
   go_end0;exact RPost.res rfl (HS2.out.cast (List.append_nil N).symm) HK2.out (Nat.le_succ _)
def qcx (k a c:Int) (w:World):Calls prog 180 #[.int .i64 k,.int .i64 a,.int .i64 c] w fun e w'=>e=.returned (.agg #[.int .i64 k,.int .i64 a,.int .i64 c,.int .i64 (-1),.int .i64 (-1),.int .i64 0,.string ⟨#[]⟩,.string ⟨#[]⟩])/\Ext w w':=by
 go_enter func180,ntmps180;go_wp2_with fail;exact bodyPost_ret (v:=.agg #[.int .i64 k,.int .i64 a,.int .i64 c,.int .i64 (-1),.int .i64 (-1),.int .i64 0,.string ⟨#[]⟩,.string ⟨#[]⟩]) (by simp[results,results180,go_sem]) rfl ⟨rfl,zf⟩
def qgP (h:Rt b lb lo cap nv L m N ee wh w):∃ len c p,nv=.slice p len c/\len=N.length:=by
 rcases Go.Joins.ownsRow_forms h.row with ⟨rfl,h0⟩ | ⟨g1,c,rfl⟩
 . exact⟨_,_,_,rfl,h0.symm⟩
 . exact⟨_,_,_,rfl,rfl⟩
def Rt.setAny (h:Rt b lb lo cap nv L m N ee wh w) {k:Nat} (hb:k≠b) (hl:lb≠k) (hr:nv.ownBlock≠some k) (i:Nat) (v:Value) :
  Rt b lb lo cap nv L m N ee wh (w.setCell ⟨k,i,none⟩ v):=by
 refine ⟨h.ends,by rw[heap_set_other _ _ _ _ _ hb.symm];exact h.blk,h.toks.of_block (heap_set_other _ _ _ _ _ hl),?_,h.low,h.pos,h.cnt⟩;exact h.row.kept (row:=some k) ⟨rfl,rfl,rfl,by simp[World.setCell],fun j hj hn=>heap_set_other _ _ _ _ _ (fun e=>hn (by rw[e]))⟩ (Or.inr hr)
def Loc.four {k:Nat} {v0 v1 v2 v3:Value} {t:TypeId} (h:Loc b nv k (.cells #[v0,v1,v2,v3] t (0,0)) w):w.cell? ⟨k,0,none⟩=some v0/\w.cell? ⟨k,1,none⟩=some v1/\w.cell? ⟨k,2,none⟩=some v2/\w.cell? ⟨k,3,none⟩=some v3 /\
  w.frozen? ⟨k,0,none⟩=false/\w.frozen? ⟨k,1,none⟩=false/\w.frozen? ⟨k,2,none⟩=false/\w.frozen? ⟨k,3,none⟩=false/\k<w.heap.size:=by
 have:=h.is;refine ⟨?_,?_,?_,?_,?_,?_,?_,?_,h.lt⟩<;>simp[World.cell?,World.frozen?,this]
def qfv (hee:ee≠0) (h:Rt b lb lo cap nv L m N ee wh w) (k0:Int) :
  Calls prog 179 #[.pointer (some ⟨b,0,none⟩),.int .i64 k0] w fun e w'=>e=.returned (.agg #[.int .i64 0,.int .i64 0,.string ⟨#[]⟩,.int .i64 0])/\Ext w w':=by
 refine yad ?_;intro FL;obtain⟨c0,c1,c2,c3,c4,f1,f2,f3,f4,hb⟩:=h.facts;obtain⟨t0,t1,t2,t3,hlb⟩:=h.tokFacts;have hp:(m:Int)<(L.length:Int):=by have:=h.pos;omega
 have hp0:0<=(m:Int):=Y;have hmx:(m:Int)<=5000:=by have:=h.ends.few;have:=h.pos;omega
 have hne1:lb≠b:=jh;obtain⟨⟨⟨k,ts,i⟩,a⟩,htt⟩:∃ tt,tk L m=tt:=⟨_,rfl⟩
 rw[htt] at t0 t1 t2 t3;dsimp only at t0 t1 t2 t3;have q:(ee !=0)=true:=by simpa using hee
 clear htt h c2 c4 f1 f2 f3 f4 hmx hee;cases hk:(k !=k0)
 all_goals
  go_enter func179,ntmps179;go_wp2_with fail;refine qd ⟨?_⟩;refine zh ?_
  iterate 10 (refine Lex.step rfl ?_;intro K hK;unfold StepG;go_simp;refine hK _ ?_;clear hK K)
  refine Lex.alloc 5 (.cells #[.int .i64 0,.int .i64 0,.string ⟨#[]⟩,.int .i64 0] 186) rfl rfl (fun d os=>?_) ?_
  . unfold StepG;go_simp;exact ja
  refine Lex.nil fun WW hE=>?_
  intro u hu;obtain⟨dt1,ot1,dt2,ot2,rfl,rfl⟩:=hu.split hE;clear hu hE;go_simp;unfold FillH;go_wp2_with fail;rw[ends_normal]
  go_wp2_with (((with_reducible refine (FL.out _ _ zf).mono ?_);rintro e _ ⟨rfl,d2,os2,rfl⟩))
  exact bodyPost_ret (v:=(.agg #[.int .i64 0,.int .i64 0,.string ⟨#[]⟩,.int .i64 0])) (by simp[results,results179,go_sem]) rfl ⟨rfl,zf⟩
def qgk (h:Rt b lb lo cap nv L m N 0 0 w) (k0:Int) (h0:k0≠0) (r:PR Tok) (hr:ofP L k0 m N.length=r) :
  Calls prog 179 #[.pointer (some ⟨b,0,none⟩),.int .i64 k0] w (RPost (fun t=>tokV t (tk L m).2) isTok b lb lo cap nv L m N w r):=by
 have FL:Hid (∀ w1,Ext w w1->Calls prog 119 #[.pointer (some ⟨b,0,none⟩),.int .i64 3] w1 fun e w'=>e=.returned (.tuple #[])/\Rt b lb lo cap nv L m N 3 (tk L m).2 w'/\Kp b nv nv w1 w'):=J fun w1 hx=>qbI (h.ext hx) 3 zw
 obtain⟨c0,c1,c2,c3,c4,f1,f2,f3,f4,hb⟩:=h.facts;obtain⟨t0,t1,t2,t3,hlb⟩:=h.tokFacts;have hp:(m:Int)<(L.length:Int):=by have:=h.pos;omega
 have hp0:0<=(m:Int):=Y;have hmx:(m:Int)<=5000:=by have:=h.ends.few;have:=h.pos;omega
 have hne1:lb≠b:=jh;have hnx:(tk L m).1.k=k0->m+1<L.length:=fun e=>h.next (by rw[e];exact h0)
 have H:=J h;have LZ:=J (h.loc (.cells #[.int .i64 0,.int .i64 0,.string ⟨#[]⟩,.int .i64 0] 186 (0,0)));obtain⟨⟨⟨k,ts,i⟩,a⟩,htt⟩:∃ tt,tk L m=tt:=⟨_,rfl⟩
 unfold ofP at hr;rw[htt] at t0 t1 t2 t3 hr hnx FL ⊢;unfold tokV;dsimp only at t0 t1 t2 t3 hr hnx FL ⊢;clear htt h c2 c4 f2 f3 f4;by_cases hk:k=k0
 . rw[if_pos hk] at hr;have NX:=J (hnx hk);subst hk;subst hr;clear hnx;have hkk:(k !=k)=false:=zy;go_enter func179,ntmps179;go_wp2_with fail;refine qd ⟨?_⟩;refine zh ?_
   iterate 10 (refine Lex.step rfl ?_;intro K hK;unfold StepG;go_simp;refine hK _ ?_;clear hK K)
   refine Lex.alloc 5 (.cells #[.int .i64 0,.int .i64 0,.string ⟨#[]⟩,.int .i64 0] 186) rfl rfl (fun d os=>?_) ?_
   . unfold StepG;go_simp;exact ja
   refine Lex.nil fun WW hE=>?_
   intro u hu;obtain⟨dt1,ot1,dt2,ot2,rfl,rfl⟩:=hu.split hE;clear hu hE;go_simp;unfold FillH;go_wp2_with fail;rw[ends_normal];go_wp2_with fail;refine bodyPost_ret (v:=.agg #[.int .i64 k,.int .i64 a,.string ts,.int .i64 i]) (by simp[results,results179,go_sem]) rfl ?_;refine RPost.res (nv':=nv) rfl (Rt.cast (N:=N) ?_ (List.append_nil N).symm) ?_ (Nat.le_succ _)
   . have HS:=J (H.out.setAt (m+1) ((m:Int)+1) Y NX.out)
     repeat(first | (with_reducible exact HS.out) | (with_reducible apply Rt.alloc) | (with_reducible apply Rt.more))
   . have HK:=J ((Kp.refl b nv w).setB 1 (.int .i64 ((m:Int)+1)))
     repeat(first | (with_reducible exact HK.out) | (with_reducible apply Kp.alloc) | (with_reducible apply Kp.more))
 . rw[if_neg hk] at hr;subst hr;have hkk:(k !=k0)=true:=by simpa using hk
   clear hnx hk;go_enter func179,ntmps179;go_wp2_with fail;refine qd ⟨?_⟩;refine zh ?_
   iterate 10 (refine Lex.step rfl ?_;intro K hK;unfold StepG;go_simp;refine hK _ ?_;clear hK K)
   refine Lex.alloc 5 (.cells #[.int .i64 0,.int .i64 0,.string ⟨#[]⟩,.int .i64 0] 186) rfl rfl (fun d os=>?_) ?_
   . unfold StepG;go_simp;exact ja
   refine Lex.nil fun WW hE=>?_
   intro u hu;obtain⟨dt1,ot1,dt2,ot2,rfl,rfl⟩:=hu.split hE;clear hu hE;go_simp;unfold FillH;go_wp2_with fail;rw[ends_normal]
   go_wp2_with ((go_at_call 119;refine (FL.out _ zf).mono ?_;rintro e w2 ⟨rfl,hs2,hk2⟩;have HS2:=J hs2;have HK2:=J hk2;have L2:=Loc.kp (show Loc b nv w.heap.size (.cells #[.int .i64 0,.int .i64 0,.string ⟨#[]⟩,.int .i64 0] 186 (0,0)) _ from by repeat(first | (with_reducible exact LZ.out) | (with_reducible apply Loc.alloc) | (with_reducible apply Loc.more))) hk2;clear hs2 hk2;obtain⟨u0,u1,u2,u3,u4,y0,y1,y2,y3,hbb⟩:=HS2.out.facts;obtain⟨x0,x1,x2,x3,g0,g1,g2,g3,hx⟩:=L2.four;have L2:=J L2;clear u0 u1 u2 u4))
   have HKW:=J (((Kp.refl b nv w).ext zf).trans HK2.out);exact bodyPost_ret (v:=(.agg #[.int .i64 0,.int .i64 0,.string ⟨#[]⟩,.int .i64 0])) (by simp[results,results179,go_sem,x0,x1,x2,x3,hx]) rfl (RPost.err zw ⟨_,_,_,_,rfl⟩ (nv':=nv) (m':=m) (N':=N) (by repeat(first | (with_reducible exact HS2.out) | (refine Rt.setAny ?_ L2.out.ne (by have:=HS2.out.low;have:=H.out.lt;have:=H.out.low;omega) L2.out.nr _ _))) (by repeat(first | (with_reducible exact HKW.out) | (refine Kp.setNew ?_ (Nat.le_refl _) _ _))))
def qeY (hee:ee≠0) (h:Rt b lb lo cap nv L m N ee wh w) (zk za zb zc zx zi:Int) (zs zt:ByteArray) :
  Calls prog 183 #[.pointer (some ⟨b,0,none⟩),.agg #[.int .i64 zk,.int .i64 za,.int .i64 zb,.int .i64 zc,.int .i64 zx,.int .i64 zi,.string zs,.string zt]] w fun e w'=>e=.returned (.int .i64 (-1))/\Ext w w':=by
 refine yad ?_;intro FL;obtain⟨len,c,p,rfl,hlen⟩:=qgP h;have hcnt:=h.cnt;subst hlen;have hcnt2:(N.length:Int)<=512:=Y;obtain⟨c0,c1,c2,c3,c4,f1,f2,f3,f4,hb⟩:=h.facts;have q:(ee !=0)=true:=by simpa using hee
 clear h c0 c1 c4 f1 f2 f3 f4 hee hcnt;by_cases h5:512<=(N.length:Int)
 . have h6:((512:Int)<=(N.length:Int))=True:=eq_true h5;clear h5 hcnt2;go_enter func183,ntmps183
   go_wp2_with (((with_reducible refine (FL.out _ _ zf).mono ?_);rintro e _ ⟨rfl,d2,os2,rfl⟩))
   go_ret;exact⟨rfl,zf⟩
 . have h6:((512:Int)<=(N.length:Int))=False:=eq_false h5;clear h5 hcnt2;go_enter func183,ntmps183
   go_wp2_with (((with_reducible refine (FL.out _ _ zf).mono ?_);rintro e _ ⟨rfl,d2,os2,rfl⟩))
   go_ret;exact⟨rfl,zf⟩
def qgr (h:Rt b lb lo cap nv L m N 0 0 w) (zk za zb zc zx zi:Int) (zs zt:ByteArray) (r:PR Int) (hr:layP L ⟨zk,za,zb,zc,zx,zi,zs,zt⟩ m N.length=r) :
  Calls prog 183 #[.pointer (some ⟨b,0,none⟩),.agg #[.int .i64 zk,.int .i64 za,.int .i64 zb,.int .i64 zc,.int .i64 zx,.int .i64 zi,.string zs,.string zt]] w (RPost intV isInt b lb lo cap nv L m N w r):=by
 have FL:Hid (∀ w1,Ext w w1->Calls prog 119 #[.pointer (some ⟨b,0,none⟩),.int .i64 5] w1 fun e w'=>e=.returned (.tuple #[])/\Rt b lb lo cap nv L m N 5 (tk L m).2 w'/\Kp b nv nv w1 w'):=J fun w1 hx=>qbI (h.ext hx) 5 zw
 obtain⟨len,c,p,rfl,hlen⟩:=qgP h;have hcnt:=h.cnt;subst hlen;have H:=J h;obtain⟨c0,c1,c2,c3,c4,f1,f2,f3,f4,hb⟩:=h.facts;unfold layP at hr;by_cases h5:N.length=512
 . rw[if_pos h5] at hr;subst hr;have q5:((512:Int)<=(N.length:Int))=True:=eq_true Y;clear h h5 c0 c1 c3 c4 f1 f3 f4 hcnt;go_enter func183,ntmps183
   go_wp2_with ((go_at_call 119;refine (FL.out _ zf).mono ?_;rintro e w2 ⟨rfl,hs2,hk2⟩;have HS2:=J hs2;have HK2:=J hk2;clear hs2 hk2;obtain⟨u0,u1,u2,u3,u4,y0,y1,y2,y3,hbb⟩:=HS2.out.facts;clear u0 u1 u2 u4))
   go_ret;exact RPost.err zw ⟨_,rfl⟩ HS2.out (((Kp.refl b _ w).ext zf).trans HK2.out)
 . rw[if_neg h5] at hr;subst hr;have q5:((512:Int)<=(N.length:Int))=False:=eq_false Y;have h512:N.length<512:=Y;have H5:=J h512;have hmx:(N.length:Int)<=511:=Y;obtain⟨i0,hi,hz0,hz1,hz2⟩:=info_parts ndInfo;clear h h5 c0 c1 c4 f1 f3 f4 h512 hcnt FL;go_enter func183,ntmps183;go_wp2_with fail;refine qaa 7 34 [true,false,false,false,false,false,false] zv zv rfl ?_;refine zh ?_;refine Lex.stepP rfl rfl ?_;intro K hK;go_simp;refine hK _ ?_;clear hK K
   iterate 5 (refine Lex.step rfl ?_;intro K hK;unfold StepG;go_simp;refine hK _ ?_;clear hK K)
   refine Lex.sliceLit 24 (.cells #[.int .i64 zk,.int .i64 za,.int .i64 zb,.int .i64 zc,.int .i64 zx,.int .i64 zi,.string zs,.string zt] 166) 1 1 rfl rfl (fun d os=>?_) ?_
   . unfold StepG;go_simp;exact⟨(Ext.refl _).alloc _,NewSl.of_alloc _ _ _ _ _ _ _ jf⟩
   refine Lex.nil fun WW hE=>?_
   intro u hu;obtain⟨d1,os1,d2,os2,rfl,rfl⟩:=hu.split hE;clear hu hE;go_simp;unfold FillH
   go_wp2_with (at_builtin;refine wpList_append_own_at _ rfl _ _ 130 rfl (b+1) 166 i0 (.agg #[.int .i64 0,.int .i64 0,.int .i64 0,.int .i64 0,.int .i64 0,.int .i64 0,.string ⟨#[]⟩,.string ⟨#[]⟩]) 8 80 underlying130 hi hz0 hz1 hz2 rfl zw (.slice p N.length c) N.length (qac N) rfl ?c0 ⟨_,0,none⟩ 1 1 [.int .i64 zk,.int .i64 za,.int .i64 zb,.int .i64 zc,.int .i64 zx,.int .i64 zi,.string zs,.string zt] rfl rfl ?c1 ?c2 ?c3 ?c4 ?c5 ?_)
   case c0=>repeat(first | (with_reducible exact H.out.row) | (with_reducible apply own_more) | (with_reducible refine World.ownsRow.alloc ?_ _))
   case c1=>exact qeD jf
   case c2=>intro u hu;simp at hu;rcases hu with rfl | rfl | rfl | rfl | rfl | rfl | rfl | rfl<;>rfl
   case c3=>unfold maxLen;omega
   case c4=>omega
   case c5=>simp[more_size];omega
   intro v' w1 hown' hgrow _ hblk;have HS:Hid (Rt b lb lo cap v' L m (N++[⟨zk,za,zb,zc,zx,zi,zs,zt⟩]) 0 0 (w1.setCell ⟨b,2,none⟩ v')):=J (Rt.push (by repeat(first | (with_reducible exact H.out) | (with_reducible apply Rt.alloc) | (with_reducible apply Rt.more))) hown' hgrow H5.out);have HK:Hid (Kp b (.slice p N.length c) v' w (w1.setCell ⟨b,2,none⟩ v')):=J (Kp.push (by repeat(first | (with_reducible exact Kp.refl _ _ _) | (with_reducible apply Kp.alloc) | (with_reducible apply Kp.more))) hgrow (by simp only[more_size,World.size_alloc];exact hblk));obtain⟨hc2,hb1,hb2⟩:=Rt.grownFacts (show Rt b lb lo cap (.slice p N.length c) L m N 0 0 _ from by repeat(first | (with_reducible exact H.out) | (with_reducible apply Rt.alloc) | (with_reducible apply Rt.more))) hgrow;have hb3:∃ g cap1,v'=.slice (some ⟨g,0,none⟩) (N.length+1) cap1:=by obtain⟨g1,cap1,rfl,_,_⟩:=hown'.form Y;exact⟨_,_,rfl⟩
   obtain⟨g1,cap1,rfl⟩:=hb3;clear hown' hgrow hblk;go_wp2_with fail
   first | rw[ends_normal] | skip
   go_wp2_with fail;go_ret;exact RPost.res (by first | rfl | (show Ending.returned (.int .i64 _)=_;exact ret_int Y)) HS.out HK.out (Nat.le_refl _)
def rturns_dead (hee:ee≠0) (h:Rt b lb lo cap nv L m N ee wh w) :
  Calls prog 186 #[.pointer (some ⟨b,0,none⟩)] w fun e w'=>e=.returned (.int .i64 0)/\Ext w w':=by
 refine yad ?_;intro FL;have KD:Hid (∀ (c:Int) w1,Ext w w1->Calls prog 179 #[.pointer (some ⟨b,0,none⟩),.int .i64 c] w1 fun e w'=>e=.returned (.agg #[.int .i64 0,.int .i64 0,.string ⟨#[]⟩,.int .i64 0])/\Ext w1 w'):=J fun c w1 hx=>qfv hee (h.ext hx) c
 obtain⟨c0,c1,c2,c3,c4,f1,f2,f3,f4,hb⟩:=h.facts;obtain⟨t0,t1,t2,t3,hlb⟩:=h.tokFacts;have hp:(m:Int)<(L.length:Int):=by have:=h.pos;omega
 have hp0:0<=(m:Int):=Y;have hne1:lb≠b:=jh;obtain⟨⟨⟨k,ts,i⟩,a⟩,htt⟩:∃ tt,tk L m=tt:=⟨_,rfl⟩
 rw[htt] at t0 t1 t2 t3;dsimp only at t0 t1 t2 t3;clear htt h c2 c4 f1 f2 f3 f4 hee;cases hk:(k==2)
 ·
   go_enter func186,ntmps186;go_wp2_with fail;refine yaz ⟨?_⟩;refine zh ?_
   iterate 10 (refine Lex.step rfl ?_;intro K hK;unfold StepG;go_simp;refine hK _ ?_;clear hK K)
   refine Lex.alloc 3 (.cells #[.int .i64 0,.int .i64 0,.string ⟨#[]⟩,.int .i64 0] 186) rfl rfl (fun d os=>?_) ?_
   . unfold StepG;go_simp;exact ja
   refine Lex.nil fun WW hE=>?_
   intro u hu;obtain⟨dt1,ot1,dt2,ot2,rfl,rfl⟩:=hu.split hE;clear hu hE;go_simp;unfold FillH;go_wp2_with fail;rw[ends_normal]
   go_wp2_with (first | (((with_reducible refine (FL.out _ _ zf).mono ?_);rintro e _ ⟨rfl,d2,os2,rfl⟩)) | (((with_reducible refine (KD.out _ _ zf).mono ?_);rintro e _ ⟨rfl,d3,os3,rfl⟩)))
   go_ret;exact⟨rfl,zf⟩
 . by_cases hi:64<i
   ·
     go_enter func186,ntmps186;go_wp2_with fail;refine yaz ⟨?_⟩;refine zh ?_
     iterate 10 (refine Lex.step rfl ?_;intro K hK;unfold StepG;go_simp;refine hK _ ?_;clear hK K)
     refine Lex.alloc 3 (.cells #[.int .i64 0,.int .i64 0,.string ⟨#[]⟩,.int .i64 0] 186) rfl rfl (fun d os=>?_) ?_
     . unfold StepG;go_simp;exact ja
     refine Lex.nil fun WW hE=>?_
     intro u hu;obtain⟨dt1,ot1,dt2,ot2,rfl,rfl⟩:=hu.split hE;clear hu hE;go_simp;unfold FillH;go_wp2_with fail;rw[ends_normal]
     go_wp2_with (first | (((with_reducible refine (FL.out _ _ zf).mono ?_);rintro e _ ⟨rfl,d2,os2,rfl⟩)) | (((with_reducible refine (KD.out _ _ zf).mono ?_);rintro e _ ⟨rfl,d3,os3,rfl⟩)))
     go_ret;exact⟨rfl,zf⟩
   . have hi2:i<=64:=Y;clear hi;go_enter func186,ntmps186;go_wp2_with fail;refine yaz ⟨?_⟩;refine zh ?_
     iterate 10 (refine Lex.step rfl ?_;intro K hK;unfold StepG;go_simp;refine hK _ ?_;clear hK K)
     refine Lex.alloc 3 (.cells #[.int .i64 0,.int .i64 0,.string ⟨#[]⟩,.int .i64 0] 186) rfl rfl (fun d os=>?_) ?_
     . unfold StepG;go_simp;exact ja
     refine Lex.nil fun WW hE=>?_
     intro u hu;obtain⟨dt1,ot1,dt2,ot2,rfl,rfl⟩:=hu.split hE;clear hu hE;go_simp;unfold FillH;go_wp2_with fail;rw[ends_normal]
     go_wp2_with (first | (((with_reducible refine (FL.out _ _ zf).mono ?_);rintro e _ ⟨rfl,d2,os2,rfl⟩)) | (((with_reducible refine (KD.out _ _ zf).mono ?_);rintro e _ ⟨rfl,d3,os3,rfl⟩)))
     go_ret;exact⟨rfl,zf⟩
def rturns_any (h:Rt b lb lo cap nv L m N 0 0 w) (r:PR Int) (hr:qbo L m N.length=r) :
  Calls prog 186 #[.pointer (some ⟨b,0,none⟩)] w (RPost intV isInt b lb lo cap nv L m N w r):=by
 have FL:Hid (∀ w1,Ext w w1->Calls prog 119 #[.pointer (some ⟨b,0,none⟩),.int .i64 8] w1 fun e w'=>e=.returned (.tuple #[])/\Rt b lb lo cap nv L m N 8 (tk L m).2 w'/\Kp b nv nv w1 w'):=J fun w1 hx=>qbI (h.ext hx) 8 zw
 obtain⟨c0,c1,c2,c3,c4,f1,f2,f3,f4,hb⟩:=h.facts;obtain⟨t0,t1,t2,t3,hlb⟩:=h.tokFacts;have hp:(m:Int)<(L.length:Int):=by have:=h.pos;omega
 have hp0:0<=(m:Int):=Y;have hne1:lb≠b:=jh;have KA:Hid (∀ w1,Ext w w1->Calls prog 179 #[.pointer (some ⟨b,0,none⟩),.int .i64 2] w1 (RPost (fun t=>tokV t (tk L m).2) isTok b lb lo cap nv L m N w1 (ofP L 2 m N.length))):=J fun w1 hx=>qgk (h.ext hx) 2 zw _ rfl
 have H:=J h;obtain⟨⟨⟨k,ts,i⟩,a⟩,htt⟩:∃ tt,tk L m=tt:=⟨_,rfl⟩
 unfold qbo pbind at hr;unfold ofP at KA hr;rw[htt] at t0 t1 t2 t3 FL KA hr;unfold tokV at KA;dsimp only at t0 t1 t2 t3 FL hr KA;clear htt h c2 c4 f1 f2 f3 f4;by_cases hk:k=2
 . subst hk;by_cases hi:64<i
   . rw[if_pos ⟨rfl,hi⟩] at hr;subst hr;go_enter func186,ntmps186;go_wp2_with fail;refine yaz ⟨?_⟩;refine zh ?_
     iterate 10 (refine Lex.step rfl ?_;intro K hK;unfold StepG;go_simp;refine hK _ ?_;clear hK K)
     refine Lex.alloc 3 (.cells #[.int .i64 0,.int .i64 0,.string ⟨#[]⟩,.int .i64 0] 186) rfl rfl (fun d os=>?_) ?_
     . unfold StepG;go_simp;exact ja
     refine Lex.nil fun WW hE=>?_
     intro u hu;obtain⟨dt1,ot1,dt2,ot2,rfl,rfl⟩:=hu.split hE;clear hu hE;go_simp;unfold FillH;go_wp2_with fail;rw[ends_normal]
     go_wp2_with (((with_reducible refine (FL.out _ zf).mono ?_);rintro e w2 ⟨rfl,hs2,hk2⟩;have HS2:=J hs2;have HK2:=J (((Kp.refl b nv w).ext zf).trans hk2);clear hs2 hk2))
     go_at_call 179
     refine (qfv zw HS2.out 2).mono ?_;rintro e _ ⟨rfl,d5,os5,rfl⟩;go_wp2_with fail;go_ret;exact RPost.err zw ⟨_,rfl⟩ (HS2.out.more _ _) (HK2.out.more _ _)
   . rw[if_neg Y,if_pos rfl] at hr;rw[if_pos rfl] at KA;subst hr;have hi2:i<=64:=Y;clear hi;go_enter func186,ntmps186;go_wp2_with fail;refine yaz ⟨?_⟩;refine zh ?_
     iterate 10 (refine Lex.step rfl ?_;intro K hK;unfold StepG;go_simp;refine hK _ ?_;clear hK K)
     refine Lex.alloc 3 (.cells #[.int .i64 0,.int .i64 0,.string ⟨#[]⟩,.int .i64 0] 186) rfl rfl (fun d os=>?_) ?_
     . unfold StepG;go_simp;exact ja
     refine Lex.nil fun WW hE=>?_
     intro u hu;obtain⟨dt1,ot1,dt2,ot2,rfl,rfl⟩:=hu.split hE;clear hu hE;go_simp;unfold FillH;go_wp2_with fail;rw[ends_normal]
     go_wp2_with ((go_at_call 179;refine (KA.out _ zf).mono ?_;rintro e w1 ⟨rfl,nv1,hs1,hk1,_⟩;have HS1:=J hs1;have HK1:=J (((Kp.refl b nv w).ext zf).trans hk1);clear hs1 hk1))
     go_ret;exact RPost.res rfl HS1.out HK1.out (Nat.le_succ _)
 . rw[if_neg Y,if_neg hk] at hr;rw[if_neg hk] at KA;subst hr;have hk2:(k==2)=false:=by simpa using hk
   clear hk;go_enter func186,ntmps186;go_wp2_with fail;refine yaz ⟨?_⟩;refine zh ?_
   iterate 10 (refine Lex.step rfl ?_;intro K hK;unfold StepG;go_simp;refine hK _ ?_;clear hK K)
   refine Lex.alloc 3 (.cells #[.int .i64 0,.int .i64 0,.string ⟨#[]⟩,.int .i64 0] 186) rfl rfl (fun d os=>?_) ?_
   . unfold StepG;go_simp;exact ja
   refine Lex.nil fun WW hE=>?_
   intro u hu;obtain⟨dt1,ot1,dt2,ot2,rfl,rfl⟩:=hu.split hE;clear hu hE;go_simp;unfold FillH;go_wp2_with fail;rw[ends_normal]
   go_wp2_with ((go_at_call 179;refine (KA.out _ zf).mono ?_;rintro e w1 ⟨hc,⟨v,rfl,kq,aq,sq,iq,rfl⟩,nv1,m1,N1,hs1,hk1⟩;have HC:=J hc;have HS1:=J hs1;have HK1:=J (((Kp.refl b nv w).ext zf).trans hk1);clear hs1 hk1 hc))
   go_ret;exact RPost.err HC.out ⟨_,rfl⟩ HS1.out HK1.out
def SignZ (z:Int) (ss:List ByteArray):Prop:=(z=0/\ss=ssOr)\/(z=1/\ss=ssAnd)\/(z=2/\ss=ssIs)\/(z=3/\ss=qdZ)\/(z=4/\ss=ssSum)\/(z=5/\ss=qcA)
def qgo {s:ByteArray} (h:SignZ z ss) (hs:s∈ss):(s.size:Int)<=100/\s.toList.isEmpty=false:=by
 rcases h with ⟨_,rfl⟩ | ⟨_,rfl⟩ | ⟨_,rfl⟩ | ⟨_,rfl⟩ | ⟨_,rfl⟩ | ⟨_,rfl⟩
 . simp only[ssOr,List.mem_cons,List.not_mem_nil,or_false] at hs;subst hs;exact⟨zw,zv⟩
 . simp only[ssAnd,List.mem_cons,List.not_mem_nil,or_false] at hs;subst hs;exact⟨zw,zv⟩
 . simp only[ssIs,List.mem_cons,List.not_mem_nil,or_false] at hs;rcases hs with rfl | rfl | rfl | rfl | rfl | rfl<;>exact⟨zw,zv⟩
 . simp only[qdZ,List.mem_cons,List.not_mem_nil,or_false] at hs;subst hs;exact⟨zw,zv⟩
 . simp only[ssSum,List.mem_cons,List.not_mem_nil,or_false] at hs;rcases hs with rfl | rfl<;>exact⟨zw,zv⟩
 . simp only[qcA,List.mem_cons,List.not_mem_nil,or_false] at hs;rcases hs with rfl | rfl | rfl<;>exact⟨zw,zv⟩
def sign_len (h:SignZ z ss):ss.length<=6:=by
 rcases h with ⟨_,rfl⟩ | ⟨_,rfl⟩ | ⟨_,rfl⟩ | ⟨_,rfl⟩ | ⟨_,rfl⟩ | ⟨_,rfl⟩<;>decide
def sign_get (h:SignZ z ss) (j:Nat):((ss.getD j ⟨#[]⟩).size:Int)<=100:=by
 by_cases hj:j<ss.length
 . refine (qgo h ?_).1;simp[List.getD,List.getElem?_eq_getElem hj]
 . have:ss.getD j ⟨#[]⟩=⟨#[]⟩:=by simp[List.getD,List.getElem?_eq_none (Nat.le_of_not_lt hj)]
   rw[this];decide
def signs_any (z:Int) (ss:List ByteArray) (hz:SignZ z ss) (w:World) :
  Calls prog 232 #[.int .i64 z] w fun e w'=>e=.returned (.slice (some ⟨w.heap.size,0,none⟩) ss.length ss.length)/\w'=w.alloc (strs ss):=by
 rcases hz with ⟨rfl,rfl⟩ | ⟨rfl,rfl⟩ | ⟨rfl,rfl⟩ | ⟨rfl,rfl⟩ | ⟨rfl,rfl⟩ | ⟨rfl,rfl⟩
 all_goals
  go_enter func232,ntmps232;go_wp2_with fail;go_ret;exact⟨rfl,rfl⟩
def optS:Option ByteArray->Value
 | none=>.string ⟨#[]⟩
 | some s=>.string s
def isStr (v:Value):Prop:=∃ s,v=.string s
def qdW (hee:ee≠0) (h:Rt b lb lo cap nv L m N ee wh w) (z:Int) (ss:List ByteArray) (hz:SignZ z ss) :
  Calls prog 226 #[.pointer (some ⟨b,0,none⟩),.int .i64 z] w fun e w'=>e=.returned (.string ⟨#[]⟩)/\Ext w w':=by
 have SG:=J (signs_any z ss hz);have hsm:=sign_get hz;have hss:=sign_len hz;have H:=J h;have G:=J (h.loc (strs ss));have HE:=J hee;have SM:=J hsm;have hsz:(ss.length:Int)<=6:=Y;clear h hee hz hsm;go_enter func226,ntmps226
 go_wp2_with (((with_reducible refine (SG.out _).mono ?_);rintro e _ ⟨rfl,rfl⟩))
 go_loopw [6] (fun i wr=>∃ j:Nat,i=.int .i64 (j:Int)/\j<=ss.length/\Ext (w.alloc (strs ss)) wr) (fun i _=>ss.length-(intOf i).toNat)
 case atStart=>exact⟨0,rfl,Nat.zero_le _,Ext.refl _⟩
 case round =>
  obtain⟨j,rfl,hj,hx⟩:=hrel;have HX:=J hx;by_cases hlt:j<ss.length
  . have hlt2:(j:Int)<(ss.length:Int):=Y;have hj0:0<=(j:Int):=Y;have hcell:=((G.out.ext hx).str j hlt)
    have hsj:=SM.out j;obtain⟨s,hs⟩:∃ s,ss.getD j ⟨#[]⟩=s:=⟨_,rfl⟩
    rw[hs] at hcell hsj;have T:=J (qfj HE.out ((H.out.alloc _).ext hx) s hsj);clear hlt hs hx hsj
    go_wp2_with (((with_reducible refine T.out.mono ?_);rintro e _ ⟨rfl,d,os,rfl⟩))
    go_roundw
    case rel=>exact⟨j+1,by go_num,Y,HX.out.more _ _⟩
    case measure=>simp[intOf];omega
  . have hge:(ss.length:Int)<=(j:Int):=Y;clear hx hlt;go_wp2_with fail;go_ret;exact⟨rfl,((Ext.refl _).alloc _).trans HX.out⟩
def qdD (h:Rt b lb lo cap nv L m N 0 0 w) (z:Int) (ss:List ByteArray) (hz:SignZ z ss) (r:PR (Option ByteArray)) (hr:qaP L ss m N.length=r) :
  Calls prog 226 #[.pointer (some ⟨b,0,none⟩),.int .i64 z] w (RPost optS isStr b lb lo cap nv L m N w r):=by
 have SG:=J (signs_any z ss hz);have hsm:=sign_get hz;have hss:=sign_len hz;have H:=J h;have G:=J (h.loc (strs ss));have SM:=J hsm;have hr2:findP L m ss=r:=hr;have R:=J hr2;have hsz:(ss.length:Int)<=6:=Y;clear h hz hsm hr hr2;go_enter func226,ntmps226
 go_wp2_with (((with_reducible refine (SG.out _).mono ?_);rintro e _ ⟨rfl,rfl⟩))
 go_loopw [6] (fun i wr=>∃ j:Nat,i=.int .i64 (j:Int)/\j<=ss.length/\Ext (w.alloc (strs ss)) wr/\findP L m (ss.drop j)=r) (fun i _=>ss.length-(intOf i).toNat)
 case atStart=>exact⟨0,rfl,Nat.zero_le _,Ext.refl _,R.out⟩
 case round =>
  obtain⟨j,rfl,hj,hx,hr⟩:=hrel;have HX:=J hx;by_cases hlt:j<ss.length
  . have hlt2:(j:Int)<(ss.length:Int):=Y;have hj0:0<=(j:Int):=Y;have hcell:=((G.out.ext hx).str j hlt)
    have hsj:=SM.out j;rw[qfk ss j ⟨#[]⟩ hlt] at hr;obtain⟨s,hs⟩:∃ s,ss.getD j ⟨#[]⟩=s:=⟨_,rfl⟩
    rw[hs] at hcell hsj hr;cases hp:isP L s m
    . rw[findP_no hp] at hr;have R2:=J hr;have T:=J (take_no ((H.out.alloc (strs ss)).ext hx) s hsj hp);clear hlt hs hp R hr hx hsj
      go_wp2_with (((with_reducible refine T.out.mono ?_);rintro e _ ⟨rfl,d,os,rfl⟩))
      go_roundw
      case rel=>exact⟨j+1,by go_num,Y,HX.out.more _ _,R2.out⟩
      case measure=>simp[intOf];omega
    . rw[findP_yes hp] at hr;have R2:=J hr;have T:=J (qgt ((H.out.alloc (strs ss)).ext hx) s hsj hp);have G2:=J (G.out.ext hx);have JL:=J hlt;have HSJ:=J hs;clear hlt hs hp hr R hx hsj
      go_wp2_with (((with_reducible refine T.out.mono ?_);rintro e w2 ⟨rfl,hs2,hk2⟩;have hcell2:=((G2.out.kp hk2).str j JL.out);rw[HSJ.out] at hcell2;have HS2:=J hs2;have HK2:=J ((((Kp.refl b nv w).alloc _).ext HX.out).trans hk2);clear hs2 hk2))
      go_ret;have:=R2.out;subst this;exact RPost.res rfl (HS2.out.cast (List.append_nil N).symm) HK2.out (Nat.le_succ _)
  . have hge:(ss.length:Int)<=(j:Int):=Y;have e:ss.drop j=[]:=List.drop_eq_nil_of_le Y;rw[e] at hr;have R2:=J hr;clear hr e hx hlt;go_wp2_with fail;go_ret;have:=R2.out;subst this;exact RPost.res rfl (((H.out.alloc _).ext HX.out).cast (List.append_nil N).symm) (((Kp.refl b nv w).alloc _).ext HX.out) (Nat.le_refl _)
end Go.Proofs.YtpnabjopfpdkhaaGreatDoor
