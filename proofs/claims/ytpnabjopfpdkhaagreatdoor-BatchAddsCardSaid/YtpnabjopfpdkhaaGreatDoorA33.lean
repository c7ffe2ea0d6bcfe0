/- Lemmas. -/
import Derived.Test.YtpnabjopfpdkhaaGreatDoorA07
import Derived.Test.YtpnabjopfpdkhaaGreatDoorA23
set_option linter.unusedSimpArgs false
set_option linter.unusedVariables false
namespace Go.Proofs.YtpnabjopfpdkhaaGreatDoor
open Go.RowKit
structure Rt (b lb lo cap:Nat) (nv:Value) (L:Toks) (m:Nat) (N:List Nd) (e wh:Int) (w:World):Prop where
 ends:Ends L
 blk:w.heap[b]?=some (.cells #[.slice (some ⟨lb,lo,none⟩) L.length cap,.int .i64 (m:Int),nv,.int .i64 e,.int .i64 wh] 210 (0,0))
 toks:ToksAt lb lo L w
 row:w.ownsRow (b+1) 166 8 nv N.length (qac N)
 low:lb<b
 pos:m<L.length
 cnt:N.length≤512
theorem Rt.lt {b lb lo cap:Nat} {nv:Value} {L:Toks} {m:Nat} {N:List Nd} {ee wh:Int} {w:World} (h:Rt b lb lo cap nv L m N ee wh w):b<w.heap.size :=
 (Array.getElem?_eq_some_iff.1 h.blk).1
theorem Rt.ext {b lb lo cap:Nat} {nv:Value} {L:Toks} {m:Nat} {N:List Nd} {ee wh:Int} {w w1:World} (h:Rt b lb lo cap nv L m N ee wh w) (hx:Ext w w1):Rt b lb lo cap nv L m N ee wh w1:=by
 have hb:=hx.below;refine ⟨h.ends,(hb.block b h.lt).trans h.blk,h.toks.of_block (hb.block lb (Nat.lt_trans h.low h.lt)),own_ext h.row hx,h.low,h.pos,h.cnt⟩
theorem Rt.alloc {b lb lo cap:Nat} {nv:Value} {L:Toks} {m:Nat} {N:List Nd} {ee wh:Int} {w:World} (h:Rt b lb lo cap nv L m N ee wh w) (o:Obj):Rt b lb lo cap nv L m N ee wh (w.alloc o):=h.ext ((Ext.refl _).alloc o)
theorem Rt.more {b lb lo cap:Nat} {nv:Value} {L:Toks} {m:Nat} {N:List Nd} {ee wh:Int} {w:World} (h:Rt b lb lo cap nv L m N ee wh w) (d:Nat) (os:Array Obj):Rt b lb lo cap nv L m N ee wh (more w d os):=h.ext ((Ext.refl _).more d os)
theorem Rt.rowNe {b lb lo cap:Nat} {nv:Value} {L:Toks} {m:Nat} {N:List Nd} {ee wh:Int} {w:World} (h:Rt b lb lo cap nv L m N ee wh w) {k:Nat} (hk:w.heap.size≤k):nv.ownBlock≠some k:=by
 intro e;have:=(h.row.lt k e).2;omega
theorem Rt.loc {b lb lo cap:Nat} {nv:Value} {L:Toks} {m:Nat} {N:List Nd} {ee wh:Int} {w:World} (h:Rt b lb lo cap nv L m N ee wh w) (o:Obj):Loc b nv w.heap.size o (w.alloc o) :=
 ⟨heap_alloc_new _ _,by have:=h.lt;omega,h.rowNe (Nat.le_refl _)⟩
theorem Rt.setAt {b lb lo cap:Nat} {nv:Value} {L:Toks} {m:Nat} {N:List Nd} {ee wh:Int} {w:World} (h:Rt b lb lo cap nv L m N ee wh w) (m':Nat) (z:Int) (hz:z=m') (hm:m'<L.length):Rt b lb lo cap nv L m' N ee wh (w.setCell ⟨b,1,none⟩ (.int .i64 z)):=by
 subst hz;refine ⟨h.ends,?_,h.toks.of_block (heap_set_other _ _ _ _ _ (by have:=h.low;omega)),?_,h.low,hm,h.cnt⟩
 · simp[World.setCell,Array.getElem?_modify,h.blk]
 · refine h.row.kept (row:=some b) ⟨rfl,rfl,rfl,by simp[World.setCell],fun j hj hn=>heap_set_other _ _ _ _ _ (fun e=>hn (by rw[e]))⟩ (Or.inr fun e=>?_)
   have:=(h.row.lt b e).1;omega
theorem Rt.push {b lb lo cap:Nat} {nv v':Value} {L:Toks} {m:Nat} {N:List Nd} {ee wh:Int} {w w1:World} (h:Rt b lb lo cap nv L m N ee wh w) {z:Nd} (hown:w1.ownsRow (b+1) 166 8 v' (N.length+1) (qac N++ndL z)) (hg:w.grownBy w1 nv.ownBlock) (hn:N.length<512) :
  Rt b lb lo cap v' L m (N++[z]) ee wh (w1.setCell ⟨b,2,none⟩ v'):=by
 have hb:nv.ownBlock≠some b:=fun e=>by have:=(h.row.lt b e).1;omega
 have hl:nv.ownBlock≠some lb:=fun e=>by have:=(h.row.lt lb e).1;have:=h.low;omega
 have e1:w1.heap[b]?=w.heap[b]?:=ownBlock_kept hg h.lt hb
 have e2:w1.heap[lb]?=w.heap[lb]?:=ownBlock_kept hg (Nat.lt_trans h.low h.lt) hl
 refine ⟨h.ends,?_,(h.toks.of_block e2).of_block (heap_set_other _ _ _ _ _ (by have:=h.low;omega)),?_,h.low,h.pos,by simp;omega⟩
 · have:=h.blk
   simp[World.setCell,Array.getElem?_modify,e1,this]
 · have hc:qac (N++[z])=qac N++ndL z:=by rw[qcG];simp[qac]
   rw[hc,List.length_append];refine hown.kept (row:=some b) ⟨rfl,rfl,rfl,by simp[World.setCell],fun j hj hn=>heap_set_other _ _ _ _ _ (fun e=>hn (by rw[e]))⟩ (Or.inr fun e=>?_)
   have:=(hown.lt b e).1;omega
theorem Rt.grownFacts {b lb lo cap:Nat} {nv:Value} {L:Toks} {m:Nat} {N:List Nd} {ee wh:Int} {w w1:World} (h:Rt b lb lo cap nv L m N ee wh w) (hg:w.grownBy w1 nv.ownBlock) :
  w1.cell? ⟨b,2,none⟩=some nv∧w1.frozen? ⟨b,2,none⟩=false∧b<w1.heap.size:=by
 have hb:nv.ownBlock≠some b:=fun e=>by have:=(h.row.lt b e).1;omega
 have e1:w1.heap[b]?=w.heap[b]?:=ownBlock_kept hg h.lt hb
 have:=h.blk
 refine ⟨?_,?_,Nat.lt_of_lt_of_le h.lt hg.size⟩<;>simp[World.cell?,World.frozen?,e1,this]
theorem Rt.facts {b lb lo cap:Nat} {nv:Value} {L:Toks} {m:Nat} {N:List Nd} {ee wh:Int} {w:World} (h:Rt b lb lo cap nv L m N ee wh w) :
  w.cell? ⟨b,0,none⟩=some (.slice (some ⟨lb,lo,none⟩) L.length cap)∧w.cell? ⟨b,1,none⟩=some (.int .i64 (m:Int))∧w.cell? ⟨b,2,none⟩=some nv∧w.cell? ⟨b,3,none⟩=some (.int .i64 ee)∧w.cell? ⟨b,4,none⟩=some (.int .i64 wh) ∧
  w.frozen? ⟨b,1,none⟩=false∧w.frozen? ⟨b,2,none⟩=false∧w.frozen? ⟨b,3,none⟩=false∧w.frozen? ⟨b,4,none⟩=false∧b<w.heap.size:=by
 have:=h.blk
 refine ⟨?_,?_,?_,?_,?_,?_,?_,?_,?_,h.lt⟩<;>simp[World.cell?,World.frozen?,this]
theorem Rt.tokFacts {b lb lo cap:Nat} {nv:Value} {L:Toks} {m:Nat} {N:List Nd} {ee wh:Int} {w:World} (h:Rt b lb lo cap nv L m N ee wh w) :
  w.cell? ⟨lb,lo+m*4,none⟩=some (.int .i64 (tk L m).1.k)∧w.cell? ⟨lb,lo+m*4+1,none⟩=some (.int .i64 (tk L m).2) ∧
  w.cell? ⟨lb,lo+m*4+2,none⟩=some (.string (tk L m).1.s)∧w.cell? ⟨lb,lo+m*4+3,none⟩=some (.int .i64 (tk L m).1.i)∧lb<w.heap.size :=
 ⟨(h.toks m h.pos).1,(h.toks m h.pos).2.1,(h.toks m h.pos).2.2.1,(h.toks m h.pos).2.2.2,Nat.lt_trans h.low h.lt⟩
theorem Rt.next {b lb lo cap:Nat} {nv:Value} {L:Toks} {m:Nat} {N:List Nd} {ee wh:Int} {w:World} (h:Rt b lb lo cap nv L m N ee wh w) (hk:(tk L m).1.k≠0):m+1<L.length:=by
 have h1:=h.ends.at_ m h.pos;have h2:=h.pos;rcases Nat.lt_or_ge (m+1) L.length with h3 | h3
 · exact h3
 · exact absurd (h1.2 zac) hk
theorem Rt.setErr {b lb lo cap:Nat} {nv:Value} {L:Toks} {m:Nat} {N:List Nd} {ee wh:Int} {w:World} (h:Rt b lb lo cap nv L m N ee wh w) (c a:Int) (hc:c≠0) :
  Rt b lb lo cap nv L m N c a ((w.setCell ⟨b,3,none⟩ (.int .i64 c)).setCell ⟨b,4,none⟩ (.int .i64 a)):=by
 refine ⟨h.ends,?_,(h.toks.of_block (heap_set_other _ _ _ _ _ (by have:=h.low;omega))).of_block (heap_set_other _ _ _ _ _ (by have:=h.low;omega)),?_,h.low,h.pos,h.cnt⟩
 · simp[World.setCell,Array.getElem?_modify,h.blk]
 · exact ownsRow_setCell_below (ownsRow_setCell_below h.row zaj _) zaj _
theorem Rt.cast {b lb lo cap:Nat} {nv:Value} {L:Toks} {m:Nat} {N N':List Nd} {ee wh:Int} {w:World} (h:Rt b lb lo cap nv L m N ee wh w) (e:N=N'):Rt b lb lo cap nv L m N' ee wh w:=e ▸ h
def RPost {α:Type} (V:α→Value) (Q:Value→Prop) (b lb lo cap:Nat) (nv:Value) (L:Toks) (m:Nat) (N:List Nd) (w:World) (r:PR α) (e:Ending) (w':World):Prop :=
 match r with
 | .error (c,a)=>c≠0∧(∃ v,e=.returned v∧Q v)∧∃ nv' m' N',Rt b lb lo cap nv' L m' N' c a w'∧Kp b nv nv' w w'
 | .ok (v,m',ns)=>e=.returned (V v)∧∃ nv',Rt b lb lo cap nv' L m' (N++ns) 0 0 w'∧Kp b nv nv' w w'∧m≤m'
theorem RPost.err {α:Type} {V:α→Value} {Q:Value→Prop} {b lb lo cap:Nat} {nv nv':Value} {L:Toks} {m m':Nat} {N N':List Nd} {w w':World} {c a:Int} {v:Value} (hc:c≠0) (hq:Q v) (hs:Rt b lb lo cap nv' L m' N' c a w') (hk:Kp b nv nv' w w'):RPost V Q b lb lo cap nv L m N w (.error (c,a)) (.returned v) w':=⟨hc,⟨v,rfl,hq⟩,nv',m',N',hs,hk⟩
theorem RPost.res {α:Type} {V:α→Value} {Q:Value→Prop} {b lb lo cap:Nat} {nv nv':Value} {L:Toks} {m m':Nat} {N ns:List Nd} {w w':World} {v:α} {e:Ending} (he:e=.returned (V v)) (hs:Rt b lb lo cap nv' L m' (N++ns) 0 0 w') (hk:Kp b nv nv' w w') (hm:m≤m') :
  RPost V Q b lb lo cap nv L m N w (.ok (v,m',ns)) e w':=⟨he,nv',hs,hk,hm⟩
def isInt (v:Value):Prop:=∃ z:Int,v=.int .i64 z
def isUnit (v:Value):Prop:=v=.tuple #[]
def isTok (v:Value):Prop:=∃ (k a:Int) (s:ByteArray) (i:Int),v=.agg #[.int .i64 k,.int .i64 a,.string s,.int .i64 i]
theorem mustP_one (L:Toks) (s:ByteArray) (m n:Nat):mustP L [s] m n=must1 L s m n:=by
 cases h:isP L s m
 · rw[qdr h];unfold must1;rw[h];rfl
 · rw[qbp h];unfold must1;rw[h];rfl
section
variable (L:Toks)
def sOpen:ByteArray:=⟨#[40]⟩
def sShut:ByteArray:=⟨#[41]⟩
def sMinus:ByteArray:=⟨#[45]⟩
def sNot:ByteArray:=⟨#[110,111,116]⟩
def sNil:ByteArray:=⟨#[110,105,108]⟩
def sTrue:ByteArray:=⟨#[116,114,117,101]⟩
def sFalse:ByteArray:=⟨#[102,97,108,115,101]⟩
def sGet:ByteArray:=⟨#[103,101,116]⟩
def sHas:ByteArray:=⟨#[104,97,115]⟩
def sLen:ByteArray:=⟨#[108,101,110]⟩
def sShow:ByteArray:=⟨#[115,104,111,119]⟩
def callP (k:Int) (e1:PM Int):PM Int:=pbind skipP fun _=>pbind (must1 L sOpen) fun _=>pbind e1 fun a=>pbind (must1 L sShut) fun _=>layP L { nd k with a:=a }
def parenP (e1:PM Int):PM Int:=pbind skipP fun _=>pbind e1 fun a=>pbind (must1 L sShut) fun _=>pok a
def wiP (k:Int) (d:Nat) (o1:PM Int):PM Int:=pbind skipP fun _=>qaV L k d o1
def moreP (d:Nat) (e1 o1:PM Int):PM Int:=fun m n =>
 if isP L sOpen m=true then parenP L e1 m n
 else if isP L sNot m=true then wiP L 9 d o1 m n
 else if isP L sMinus m=true then wiP L 10 d o1 m n
 else if isP L sGet m=true then callP L 5 e1 m n
 else if isP L sHas m=true then callP L 6 e1 m n
 else if isP L sLen m=true then callP L 7 e1 m n
 else if isP L sShow m=true then callP L 8 e1 m n
 else pno L 3 m n
def puP (z:Nd):PM Int:=pbind skipP fun _=>layP L z
variable {L}
theorem isP_w {s:ByteArray} (hw:wordB s=true) (m:Nat):isP L s m=((tk L m).1.k==5&&(tk L m).1.s.toList==s.toList):=by unfold isP;rw[hw];rfl
theorem isP_s {s:ByteArray} (hw:wordB s=false) (m:Nat):isP L s m=((tk L m).1.k==4&&(tk L m).1.s.toList==s.toList):=by unfold isP;rw[hw];rfl
theorem qeg (s:ByteArray):mustP L [s]=must1 L s:=by funext m n;exact mustP_one L s m n
theorem one_eq (d:Nat) (e1 o1:PM Int) (m n:Nat) (h2:(tk L m).1.k≠2) (h3:(tk L m).1.k≠3) (h1:(tk L m).1.k≠1) :
  oneP L d e1 o1 m n=if isP L sNil m=true then puP L (nd 0) m n else if isP L sTrue m=true then puP L { nd 1 with i:=1 } m n else if isP L sFalse m=true then puP L (nd 1) m n else moreP L d e1 o1 m n:=by
 have w1:wordB sNil=true:=by kernel_rfl
 have w2:wordB sTrue=true:=by kernel_rfl
 have w3:wordB sFalse=true:=by kernel_rfl
 have w4:wordB sOpen=false:=by kernel_rfl
 have w5:wordB sNot=true:=by kernel_rfl
 have w6:wordB sMinus=false:=by kernel_rfl
 have w7:wordB sGet=true:=by kernel_rfl
 have w8:wordB sHas=true:=by kernel_rfl
 have w9:wordB sLen=true:=by kernel_rfl
 have w10:wordB sShow=true:=by kernel_rfl
 have l1:sNil.toList=[110,105,108]:=by kernel_rfl
 have l2:sTrue.toList=[116,114,117,101]:=by kernel_rfl
 have l3:sFalse.toList=[102,97,108,115,101]:=by kernel_rfl
 have l4:sOpen.toList=[40]:=by kernel_rfl
 have l5:sNot.toList=[110,111,116]:=by kernel_rfl
 have l6:sMinus.toList=[45]:=by kernel_rfl
 have l7:sGet.toList=[103,101,116]:=by kernel_rfl
 have l8:sHas.toList=[104,97,115]:=by kernel_rfl
 have l9:sLen.toList=[108,101,110]:=by kernel_rfl
 have l10:sShow.toList=[115,104,111,119]:=by kernel_rfl
 unfold oneP;rw[if_neg h2,if_neg h3,if_neg h1];unfold moreP;rw[isP_w w1,isP_w w2,isP_w w3,isP_s w4,isP_w w5,isP_s w6,isP_w w7,isP_w w8,isP_w w9,isP_w w10,l1,l2,l3,l4,l5,l6,l7,l8,l9,l10]
 have s1:(⟨#[110,111,116]⟩:ByteArray)=sNot:=rfl
 have s2:(⟨#[110,105,108]⟩:ByteArray)=sNil:=rfl
 have s3:(⟨#[45]⟩:ByteArray)=sMinus:=rfl
 have s4:(⟨#[40]⟩:ByteArray)=sOpen:=rfl
 have s5:(⟨#[41]⟩:ByteArray)=sShut:=rfl
 by_cases h4:(tk L m).1.k=4
 · have e4:((tk L m).1.k==4)=true:=by simpa using h4
   have e5:((tk L m).1.k==5)=false:=by rw[h4];rfl
   rw[if_pos h4,e4,e5];simp only[Bool.false_and,Bool.true_and,Bool.false_eq_true,if_false];unfold qbm;rw[s3,s4,s5,isP_s w6,isP_s w4,l6,l4,e4];simp only[Bool.true_and,qeg]
   by_cases hm:((tk L m).1.s.toList==[45])=true
   · have:(tk L m).1.s.toList=[45]:=by simpa using hm
     rw[this];rfl
   · rw[if_neg hm,if_neg hm]
     rfl
 · rw[if_neg h4]
   have e4:((tk L m).1.k==4)=false:=by simpa using h4
   rw[e4];simp only[Bool.false_and,Bool.false_eq_true,if_false]
   by_cases h5:(tk L m).1.k=5
   · have e5:((tk L m).1.k==5)=true:=by simpa using h5
     rw[if_pos h5,e5];simp only[Bool.true_and];unfold qbl callF sIs;rw[s1,s2,s4,s5,isP_w w5,isP_w w1,l5,l1,e5];simp only[Bool.true_and,qeg]
     obtain⟨l,hl⟩:∃ l,(tk L m).1.s.toList=l:=⟨_,rfl⟩
     rw[hl]
     by_cases q1:l=[110,105,108]
     · subst q1;rfl
     by_cases q2:l=[116,114,117,101]
     · subst q2;rfl
     by_cases q3:l=[102,97,108,115,101]
     · subst q3;rfl
     by_cases q4:l=[110,111,116]
     · subst q4;rfl
     by_cases q5:l=[103,101,116]
     · subst q5;rfl
     by_cases q6:l=[104,97,115]
     · subst q6;rfl
     by_cases q7:l=[108,101,110]
     · subst q7;rfl
     by_cases q8:l=[115,104,111,119]
     · subst q8;rfl
     have b:∀ x:List UInt8,l≠x→(l==x)=false:=fun x hx=>by simpa using hx
     rw[b _ q1,b _ q2,b _ q3,b _ q4,b _ q5,b _ q6,b _ q7,b _ q8]
     rfl
   · rw[if_neg h5]
     have e5:((tk L m).1.k==5)=false:=by simpa using h5
     rw[e5];simp only[Bool.false_and,Bool.false_eq_true,if_false]
end
end Go.Proofs.YtpnabjopfpdkhaaGreatDoor
