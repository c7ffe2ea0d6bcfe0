/- Lemmas. -/
import Derived.Test.YtpnabjopfpdkhaaGreatDoorT02
import Derived.Deep.OwnRows
set_option linter.unusedSimpArgs false
set_option linter.unusedVariables false
set_option maxHeartbeats 4000000
set_option maxRecDepth 20000
namespace Go.Proofs.YtpnabjopfpdkhaaGreatDoor
open Go.RowKit
variable {W w w':World} {H c k n:Nat} {nv:Value} {ns:List Nd} {fi:Int} {g:Nat→Nat}
attribute [go_sem] more_more Array.size_append
structure CkSt (W:World) (c H:Nat) (nv:Value) (ns:List Nd) (fi:Int) (n:Nat) (g:Nat→Nat) (w:World):Prop where
 ext:Ext W w
 cell:w.heap[c]?=some (.cells #[nv,.int .i64 fi,.slice (some ⟨H,0,none⟩) n n] 248 (0,0))
 had:w.rowIs H 3 n (fun j=>.int .i64 (g j:Int))
 row:w.ownsRow 0 166 8 nv n (qac ns)
 base:W.heap.size≤H∧H≠c∧nv.ownBlock≠some H∧ns.length=n
theorem CkSt.of_ext (h:CkSt W c H nv ns fi n g w) (hx:Ext w w'):CkSt W c H nv ns fi n g w' :=
 ⟨h.ext.trans hx,(hx.below.block _ (Array.getElem?_eq_some_iff.1 h.cell).1).trans h.cell,h.had.of_block (hx.below.block _ h.had.lt),own_ext h.row hx,h.base⟩
theorem CkSt.alloc (h:CkSt W c H nv ns fi n g w) (b:Obj):CkSt W c H nv ns fi n g (w.alloc b):=h.of_ext ((Ext.refl w).alloc b)
theorem CkSt.more (h:CkSt W c H nv ns fi n g w) (d:Nat) (os:Array Obj):CkSt W c H nv ns fi n g (more w d os):=h.of_ext ((Ext.refl w).more d os)
theorem CkSt.facts (h:CkSt W c H nv ns fi n g w) :
  w.cell? ⟨c,0,none⟩=some nv∧w.cell? ⟨c,1,none⟩=some (.int .i64 fi)∧w.cell? ⟨c,2,none⟩=some (.slice (some ⟨H,0,none⟩) n n)∧c<w.heap.size∧H<w.heap.size:=by
 have h1:=h.cell;refine ⟨?_,?_,?_,(Array.getElem?_eq_some_iff.1 h1).1,h.had.lt⟩<;>simp[World.cell?,h1]
theorem CkSt.set (h:CkSt W c H nv ns fi n g w) (k:Nat) (v:Int) (g':Nat→Nat) (hg:∀ j,(g' j:Int)=if j=k then v else(g j:Int)) :
  CkSt W c H nv ns fi n g' (w.setCell ⟨H,k,none⟩ (.int .i64 v)):=by
 obtain⟨b1,b2,b4,b5⟩:=h.base
 refine ⟨h.ext.setCell b1 _,by rw[heap_set_other _ _ _ _ _ (Ne.symm b2)];exact h.cell,(h.had.set k _).congr fun j _=>?_,?_,h.base⟩
 · rw[hg j];split<;>rfl
 · exact qae h.row fun j hj _=>heap_set_other _ _ _ _ _ (fun e=>b4 (by rw[←e];exact hj))
theorem CkSt.congr {g':Nat→Nat} (h:CkSt W c H nv ns fi n g w) (e:∀ j,j<n→g j=g' j):CkSt W c H nv ns fi n g' w :=
 ⟨h.ext,h.cell,h.had.congr fun j hj=>by rw[e j hj],h.row,h.base⟩
def Fr (H:Nat) (w w':World):Prop:=∀ q,q<w.heap.size→q≠H→w'.heap[q]?=w.heap[q]?
theorem Fr.refl (H:Nat) (w:World):Fr H w w:=fun _ _ _=>rfl
def KB (k:Nat) (cs:Array Value) (T:TypeId) (w:World):Prop:=w.heap[k]?=some (.cells cs T (0,0))
theorem KB.lt {cs:Array Value} {T:TypeId} (h:KB k cs T w):k<w.heap.size:=(Array.getElem?_eq_some_iff.1 h).1
theorem KB.kept {cs:Array Value} {T:TypeId} (h:KB k cs T w) (hf:Fr H w w') (hn:k≠H):KB k cs T w':=(hf k h.lt hn).trans h
theorem KB.of_ext {cs:Array Value} {T:TypeId} (h:KB k cs T w) (hx:Ext w w'):KB k cs T w':=(hx.below.block _ h.lt).trans h
theorem KB.new (w:World) (cs:Array Value) (T:TypeId):KB w.heap.size cs T (w.alloc (.cells cs T (0,0))):=heap_alloc_new _ _
theorem KB.cell {cs:Array Value} {T:TypeId} (h:KB k cs T w) (j:Nat) (v:Value) (hj:cs[j]?=some v):w.cell? ⟨k,j,none⟩=some v:=by
 unfold KB at h
 simp[World.cell?,h,hj]
def qcj (ns:List Nd) (k:Int):Int:=match ns[k.toNat]? with | some z=>z.k | none=>0
def qal (ns:List Nd) (k f t:Int) (st:Bool):Bool:=decide (f≤k)&&decide (k<t)&&(st==decide (20≤qcj ns k))
def blkB (ns:List Nd) (k i:Int):Bool:=k==-1||qal ns k 0 i true
def pone (a k:Int):Nat:=if a=k then 1 else 0
def addB (A:Bool) (k:Int) (g:Nat→Nat):Nat→Nat:=fun j=>g j+if A=true then pone k j else 0
theorem qgf (A:Bool) (k:Int) (g:Nat→Nat) (j m:Nat) (h:g j≤m):addB A k g j≤m+1:=by
 unfold addB pone;split<;>(try split)<;>omega
theorem qcC (h:CkSt W c H nv ns fi n g w) (k f t:Int) (st:Bool) (h0:0≤f) (ht:t≤(n:Int)) (hb:∀ j,j<n→g j≤9000) :
  Calls Tryz.prog 200 #[.pointer (some ⟨c,0,none⟩),.int .i64 k,.int .i64 f,.int .i64 t,.bool st] w fun e w'=>e=.returned (.bool (qal ns k f t st))∧CkSt W c H nv ns fi n (addB (qal ns k f t st) k g) w'∧Fr H w w':=by
 have HS:=Lib.hid h;have HC0:=Lib.hid (h.congr (g':=addB false k g) fun j _=>by simp[addB])
 obtain⟨c0,c1,c2,lc,lH⟩:=h.facts
 by_cases hf:f≤k
 rotate_left
 · have hr:qal ns k f t st=false:=by unfold qal;rw[decide_eq_false hf];rfl
   rw[hr]
   have q1:k<f:=by omega
   clear h hb c0 c1 c2 hf hr h0 ht;go_enter Tryz.func200,Tryz.ntmps200;go_wp2_with fail;go_ret
   exact⟨rfl,HC0.out,Fr.refl _ _⟩
 by_cases hk:k<t
 rotate_left
 · have hr:qal ns k f t st=false:=by unfold qal;rw[decide_eq_false hk];simp
   rw[hr]
   have q1:f≤k:=hf
   have q2:t≤k:=by omega
   clear h hb c0 c1 c2 hf hr h0 ht hk;go_enter Tryz.func200,Tryz.ntmps200;go_wp2_with fail;go_ret
   exact⟨rfl,HC0.out,Fr.refl _ _⟩
 obtain⟨j,rfl⟩:∃ j:Nat,k=(j:Int):=⟨k.toNat,by omega⟩
 have hj:j<n:=by omega
 obtain⟨z,hz⟩:∃ z,ns[j]?=some z:=⟨_,List.getElem?_eq_getElem (by rw[h.base.2.2.2];exact hj)⟩
 have hp:∃ G cap,nv=.slice (some ⟨G,0,none⟩) n cap:=by
  rcases Go.Joins.ownsRow_forms h.row with ⟨_,h0⟩ | ⟨g1,c1,h0⟩
  · omega
  · exact⟨g1,c1,h0⟩
 obtain⟨G,cap,rfl⟩:=hp
 have a0:=(nd_at h.row hz).1;have hG:=(h.row.lt G rfl).2
 have hkd:qcj ns (j:Int)=z.k:=by unfold qcj;rw[show((j:Int)).toNat=j from rfl,hz]
 obtain⟨zk,hzk⟩:∃ zk,z.k=zk:=⟨_,rfl⟩
 rw[hzk] at a0 hkd
 have hr:qal ns (j:Int) f t st=(st==decide (20≤zk)):=by unfold qal;rw[decide_eq_true hf,decide_eq_true hk,hkd];simp
 rw[hr];have hc:=h.had.cell hj;have hfz:=h.had.frozen j
 have hgj:(g j:Int)≤9000:=by have:=hb j hj;omega
 have hgj0:0≤(g j:Int):=by omega
 obtain⟨q,hq⟩:∃ q:Nat,g j=q:=⟨_,rfl⟩
 have HQ:=Lib.hid hq;simp only[hq] at hc hgj hgj0
 have hj0:0≤(j:Int):=by omega
 have hjn:(j:Int)<(n:Int):=by omega
 clear h hb hq hj hz hzk hkd hr c1 ht h0
 cases st<;>by_cases hz20:20≤zk
 · rw[decide_eq_true hz20,show((false:Bool)==true)=false from rfl]
   go_enter Tryz.func200,Tryz.ntmps200;go_wp2_with fail;go_ret
   exact⟨rfl,HC0.out,Fr.refl _ _⟩
 · rw[decide_eq_false hz20,show((false:Bool)==false)=true from rfl]
   have hz2:zk<20:=by omega
   clear hz20;go_enter Tryz.func200,Tryz.ntmps200;go_wp2_with fail;go_ret;refine ⟨rfl,HS.out.set j _ _ fun i=>?_,fun q _ hq=>heap_set_other _ _ _ _ _ hq⟩;unfold addB pone;rw[if_pos rfl]
   by_cases e:i=j
   · subst e;rw[if_pos rfl,if_pos rfl,HQ.out];omega
   · rw[if_neg e,if_neg zac];rfl
 · rw[decide_eq_true hz20,show((true:Bool)==true)=true from rfl]
   go_enter Tryz.func200,Tryz.ntmps200;go_wp2_with fail;go_ret;refine ⟨rfl,HS.out.set j _ _ fun i=>?_,fun q _ hq=>heap_set_other _ _ _ _ _ hq⟩;unfold addB pone;rw[if_pos rfl]
   by_cases e:i=j
   · subst e;rw[if_pos rfl,if_pos rfl,HQ.out];omega
   · rw[if_neg e,if_neg zac];rfl
 · rw[decide_eq_false hz20,show((true:Bool)==false)=false from rfl]
   have hzd:decide (20≤zk)=false:=decide_eq_false hz20
   have hz2:zk<20:=by omega
   clear hz20;go_enter Tryz.func200,Tryz.ntmps200;go_wp2_with fail;go_ret
   exact⟨rfl,HC0.out,Fr.refl _ _⟩
theorem qdE (h:CkSt W c H nv ns fi n g w) (k i:Int) (ht:i≤(n:Int)) (hb:∀ j,j<n→g j≤9000) :
  Calls Tryz.prog 170 #[.pointer (some ⟨c,0,none⟩),.int .i64 k,.int .i64 i] w fun e w'=>e=.returned (.bool (blkB ns k i))∧CkSt W c H nv ns fi n (addB (blkB ns k i) k g) w'∧Fr H w w':=by
 by_cases hk:k=-1
 · subst hk
   have HC0:=Lib.hid (h.congr (g':=addB true (-1) g) fun j _=>by unfold addB pone;rw[if_pos rfl,if_neg zac];rfl);rw[show blkB ns (-1) i=true from rfl];clear h hb ht;go_enter Tryz.func170,Tryz.ntmps170;go_wp2_with fail;go_ret
   exact⟨rfl,HC0.out,Fr.refl _ _⟩
 · have T:=Lib.hid (qcC h k 0 i true zac ht hb)
   rw[show blkB ns k i=qal ns k 0 i true from by unfold blkB;rw[show(k==-1)=false from by simpa using hk];rfl]
   obtain⟨A,hA⟩:∃ A,qal ns k 0 i true=A:=⟨_,rfl⟩
   rw[hA] at T ⊢
   have q:(k==-1)=false:=by simpa using hk
   clear h hb ht hA hk;go_enter Tryz.func170,Tryz.ntmps170
   go_wp2_with (((with_reducible refine T.out.mono ?_);rintro e' w1 ⟨rfl,h1,h2⟩;have H1:=Lib.hid h1;have H2:=Lib.hid h2;clear h1 h2))
   go_ret
   exact⟨rfl,H1.out,H2.out⟩
end Go.Proofs.YtpnabjopfpdkhaaGreatDoor
