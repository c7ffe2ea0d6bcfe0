/- Lemmas. -/
import Derived.Test.YtpnabjopfpdkhaaGreatDoorT05
import Derived.Test.YtpnabjopfpdkhaaGreatDoorT06
import Derived.OpenShut
import Derived.Deep.Slices
import Derived.Deep.Fields
import Derived.Test.YtpnabjopfpdkhaaGreatDoorShelf
import Derived.RegionTactic
import Derived.Deep.DeepCutAuto
import Derived.Deep.CutBlock
set_option linter.unusedSimpArgs false
set_option linter.unusedVariables false
set_option maxHeartbeats 8000000
set_option maxRecDepth 20000
namespace Go.Proofs.YtpnabjopfpdkhaaGreatDoor
open Go.RowKit
variable {W w:World} {H b base c k n:Nat} {nv:Value} {ns:List Nd} {fi:Int} {g:Nat→Nat}
attribute [go_sem] more_more Array.size_append
theorem addB_id (A:Bool) (a:Int) (g:Nat→Nat) (h:A=true→a=-1) (j:Nat):g j=addB A a g j:=by
 unfold addB pone
 cases A
 · simp
 · rw[h rfl,if_pos rfl,if_neg zac];rfl
theorem CkSt.idB (h:CkSt W c H nv ns fi n g w) (A:Bool) (a:Int) (e:A=true→a=-1):CkSt W c H nv ns fi n (addB A a g) w:=h.congr fun j _=>addB_id A a g e j
theorem KB.alloc {cs:Array Value} {T:TypeId} (h:KB k cs T w) (b:Obj):KB k cs T (w.alloc b):=h.of_ext ((Ext.refl w).alloc b)
theorem KB.more {cs:Array Value} {T:TypeId} (h:KB k cs T w) (d:Nat) (os:Array Obj):KB k cs T (more w d os):=h.of_ext ((Ext.refl w).more d os)
theorem KB.newAt (w:World) (cs:Array Value) (T:TypeId) (h:k=w.heap.size):KB k cs T (w.alloc (.cells cs T (0,0))):=by subst h;exact KB.new w cs T
def qdO (z:Nd):Bool:=qcg z.k&&numOk z.k z.c z.i&&(txt1 z.t (shT z.k)&&txt2 z.k z.s (shS z.k))
def aB (ns:List Nd) (i:Nat) (z:Nd):Bool:=if shA z.k=true then qal ns z.a 0 i false else z.a==-1
def bB (ns:List Nd) (i:Nat) (z:Nd):Bool:=if shB z.k=true then qal ns z.b 0 i false else if shBB z.k=true then blkB ns z.b i else z.b==-1
def cB (ns:List Nd) (i:Nat) (z:Nd):Bool:=z.c==-1||(shBC z.k&&blkB ns z.c i)
def xB (ns:List Nd) (i:Nat) (z:Nd):Bool:=z.x==-1||(decide (20≤z.k)&&qal ns z.x ((i:Int)+1) ns.length true)
def nodeB (ns:List Nd) (i:Nat) (z:Nd):Bool:=qdO z&&(aB ns i z&&bB ns i z&&cB ns i z&&xB ns i z)
theorem KB.setAt {cs:Array Value} {T:TypeId} (h:KB k cs T w) (i:Nat) (v:Value) (hi:i<cs.size):KB k (cs.set i v) T (w.setCell ⟨k,i,none⟩ v):=by
 unfold KB at h ⊢
 simp[World.setCell,Array.getElem?_modify,h,hi,Array.setIfInBounds]
theorem KB.setOther {k':Nat} {cs:Array Value} {T:TypeId} (h:KB k cs T w) (i:Nat) (v:Value) (hk:k≠k'):KB k cs T (w.setCell ⟨k',i,none⟩ v) :=
 (heap_set_other _ _ _ _ _ hk).trans h
theorem KB.frozen {cs:Array Value} {T:TypeId} (h:KB k cs T w) (j:Nat):w.frozen? ⟨k,j,none⟩=false:=by
 unfold KB at h
 simp[World.frozen?,h]
structure Sc where
 seen:List ByteArray
 most:Int
 slots:List Int
 made:List ByteArray
 free:List ByteArray
 e:Int
 a:Int
def Sc.wrong (S:Sc) (e a:Int):Sc:=if S.e=0 then { S with e:=e,a:=a } else S
def strV (l:List ByteArray):List Value:=l.map Value.string
def intL (l:List Int):List Value:=l.map fun x=>.int .i64 x
structure WkV (W:World) (b:Nat) (nv:Value) (fi:Int) (ns:List Nd) (L:List (Nat × Obj)) (S:Sc) (sv tv mv fv:Value) (w:World):Prop where
 ext:Ext W w
 cell:w.heap[b]?=some (.cells #[nv,.int .i64 fi,sv,.int .i64 S.most,tv,mv,fv,.int .i64 S.e,.int .i64 S.a] 200 (0,0))
 row:w.ownsRow 0 166 8 nv ns.length (qac ns)
 seen:w.ownsRow W.heap.size 9 1 sv S.seen.length (strV S.seen)
 slots:w.ownsRow W.heap.size 3 1 tv S.slots.length (intL S.slots)
 made:w.ownsRow W.heap.size 9 1 mv S.made.length (strV S.made)
 free:w.ownsRow W.heap.size 9 1 fv S.free.length (strV S.free)
 base:W.heap.size≤b∧(∀ g,nv.ownBlock=some g→g<W.heap.size)
 apart:∀ g,(sv.ownBlock=some g→g≠b∧tv.ownBlock≠some g∧mv.ownBlock≠some g∧fv.ownBlock≠some g) ∧
  (tv.ownBlock=some g→g≠b∧mv.ownBlock≠some g∧fv.ownBlock≠some g)∧(mv.ownBlock=some g→g≠b∧fv.ownBlock≠some g)∧(fv.ownBlock=some g→g≠b)
 loc:∀ q,q∈L→w.heap[q.1]?=some q.2∧q.1≠b∧sv.ownBlock≠some q.1∧tv.ownBlock≠some q.1∧mv.ownBlock≠some q.1∧fv.ownBlock≠some q.1
def Wk (W:World) (b:Nat) (nv:Value) (fi:Int) (ns:List Nd) (L:List (Nat × Obj)) (S:Sc) (w:World):Prop:=∃ sv tv mv fv,WkV W b nv fi ns L S sv tv mv fv w
theorem WkV.of_ext {L:List (Nat × Obj)} {S:Sc} {w:World} {sv tv mv fv:Value} {w':World} (h:WkV W b nv fi ns L S sv tv mv fv w) (hx:Ext w w'):WkV W b nv fi ns L S sv tv mv fv w' :=
 ⟨h.ext.trans hx,(hx.below.block _ (Array.getElem?_eq_some_iff.1 h.cell).1).trans h.cell,own_ext h.row hx,own_ext h.seen hx,own_ext h.slots hx,own_ext h.made hx,own_ext h.free hx,h.base,h.apart,fun q hq=>⟨(hx.below.block _ (Array.getElem?_eq_some_iff.1 (h.loc q hq).1).1).trans (h.loc q hq).1,(h.loc q hq).2⟩⟩
theorem Wk.of_ext {L:List (Nat × Obj)} {S:Sc} {w:World} {w':World} (h:Wk W b nv fi ns L S w) (hx:Ext w w'):Wk W b nv fi ns L S w':=by
 obtain⟨sv,tv,mv,fv,h⟩:=h
 exact⟨sv,tv,mv,fv,h.of_ext hx⟩
theorem WkV.setB {L:List (Nat × Obj)} {S:Sc} {w:World} {sv tv mv fv:Value} (h:WkV W b nv fi ns L S sv tv mv fv w) (i:Nat) (v:Value) (S':Sc) (hi:i<9)
  (hc:#[nv,.int .i64 fi,sv,.int .i64 S.most,tv,mv,fv,.int .i64 S.e,.int .i64 S.a].set i v hi=#[nv,.int .i64 fi,sv,.int .i64 S'.most,tv,mv,fv,.int .i64 S'.e,.int .i64 S'.a])
  (e1:S'.seen=S.seen) (e2:S'.slots=S.slots) (e3:S'.made=S.made) (e4:S'.free=S.free) :
  WkV W b nv fi ns L S' sv tv mv fv (w.setCell ⟨b,i,none⟩ v):=by
 have hk:∀ (x:Value) (k:Nat),(∀ g,x.ownBlock=some g→g≠b)→x.ownBlock=some k→(w.setCell ⟨b,i,none⟩ v).heap[k]?=w.heap[k]?:=fun x k hx hk=>heap_set_other _ _ _ _ _ (hx k hk)
 have hA:=h.apart;refine ⟨h.ext.setCell h.base.1 _,?_,qae h.row fun k q _=>hk nv k (fun g q=>by have:=h.base.2 g q;have:=h.base.1;omega) q,?_,?_,?_,?_,h.base,h.apart,fun q hq=>⟨(heap_set_other _ _ _ _ _ (h.loc q hq).2.1).trans (h.loc q hq).1,(h.loc q hq).2⟩⟩
 · rw[←hc]
   exact KB.setAt (show KB b _ _ w from h.cell) i v hi
 · rw[e1];exact qae h.seen fun k q _=>hk sv k (fun g q=>((hA g).1 q).1) q
 · rw[e2];exact qae h.slots fun k q _=>hk tv k (fun g q=>((hA g).2.1 q).1) q
 · rw[e3];exact qae h.made fun k q _=>hk mv k (fun g q=>((hA g).2.2.1 q).1) q
 · rw[e4];exact qae h.free fun k q _=>hk fv k (fun g q=>(hA g).2.2.2 q) q
theorem WkV.push_seen {L:List (Nat × Obj)} {S:Sc} {w:World} {sv tv mv fv v':Value} {w1:World} {s:ByteArray} (h:WkV W b nv fi ns L S sv tv mv fv w) (hr:w1.ownsRow W.heap.size 9 1 v' (S.seen.length+1) (strV S.seen++[.string s])) (hg:w.grownBy w1 sv.ownBlock) (hv:v'.ownBlock=sv.ownBlock∨v'.ownBlock=some w.heap.size) :
  WkV W b nv fi ns L { S with seen:=S.seen++[s] } v' tv mv fv (w1.setCell ⟨b,2,none⟩ v'):=by
 have hA:=h.apart;have lb:=(Array.getElem?_eq_some_iff.1 h.cell).1
 have hold:∀ k,k<w.heap.size→sv.ownBlock≠some k→w1.heap[k]?=w.heap[k]?:=fun k hk hn=>hg.block k hk (Ne.symm hn)
 have L1:=fun g q=>(h.seen.lt g q).2
 have L2:=fun g q=>(h.slots.lt g q).2
 have L3:=fun g q=>(h.made.lt g q).2
 have L4:=fun g q=>(h.free.lt g q).2
 have hvn:∀ g,v'.ownBlock=some g→sv.ownBlock=some g∨g=w.heap.size:=fun g q=>by
  rcases hv with e | e
  · exact Or.inl (e ▸ q)
  · rw[e] at q;exact Or.inr (Option.some.inj q).symm
 have hx1:Ext W w1:=h.ext.grown hg fun k hk=>(h.seen.lt k hk).1
 have hnb:sv.ownBlock≠some b:=fun q=>by have:=hA b;simp_all
 have kb:KB b _ _ w1:=(hold b lb hnb).trans h.cell
 have keep:∀ (x:Value) (n:Nat) (xs:List Value) (e:TypeId) (sz bs:Nat),w.ownsRow bs e sz x n xs→(∀ g,x.ownBlock=some g→g≠b)→(∀ g,x.ownBlock=some g→sv.ownBlock≠some g)→(w1.setCell ⟨b,2,none⟩ v').ownsRow bs e sz x n xs:=fun x n xs e sz bs hx h1 h2 =>
  qae hx fun k q hk=>(heap_set_other _ _ _ _ _ (h1 k q)).trans (hold k hk (h2 k q))
 refine ⟨hx1.setCell h.base.1 _,KB.setAt kb 2 v' zaj,keep _ _ _ _ _ _ h.row (fun g q=>by have:=h.base.2 g q;have:=h.base.1;omega) (fun g q e=>by have:=h.base.2 g q;have:=(h.seen.lt g e).1;omega),?_,?_,?_,?_,h.base,?_,?_⟩
 · dsimp only;rw[List.length_append];unfold strV;rw[List.map_append];exact qae hr fun k q _=>heap_set_other _ _ _ _ _ (fun e=>by rcases hvn k q with e1 | e1;exact hnb (e ▸ e1);omega)
 · exact keep _ _ _ _ _ _ h.slots (fun g q=>by have:=hA g;simp_all) (fun g q e=>by have:=hA g;simp_all)
 · exact keep _ _ _ _ _ _ h.made (fun g q=>by have:=hA g;simp_all) (fun g q e=>by have:=hA g;simp_all)
 · exact keep _ _ _ _ _ _ h.free (fun g q=>by have:=hA g;simp_all) (fun g q e=>by have:=hA g;simp_all)
 · intro g
   have a:=hA g;have b1:=hA w.heap.size
   have n1:sv.ownBlock≠some w.heap.size:=fun q=>absurd (L1 _ q) (Nat.lt_irrefl _)
   have n2:tv.ownBlock≠some w.heap.size:=fun q=>absurd (L2 _ q) (Nat.lt_irrefl _)
   have n3:mv.ownBlock≠some w.heap.size:=fun q=>absurd (L3 _ q) (Nat.lt_irrefl _)
   have n4:fv.ownBlock≠some w.heap.size:=fun q=>absurd (L4 _ q) (Nat.lt_irrefl _)
   have nb:w.heap.size≠b:=by omega
   rcases hv with e | e
   · rw[e];exact a
   · by_cases hgs:g=w.heap.size
     · subst hgs
       simp_all
     · have q:v'.ownBlock≠some g:=by rw[e];intro e2;exact hgs (Option.some.inj e2).symm
       simp_all
 · intro q hq
   have hl:=h.loc q hq;have hlt:=(Array.getElem?_eq_some_iff.1 hl.1).1
   have e1:(w1.setCell ⟨b,2,none⟩ v').heap[q.1]?=some q.2:=(heap_set_other _ _ _ _ _ hl.2.1).trans ((hold q.1 hlt (by have:=hl.2;simp_all)).trans hl.1)
   have e2:v'.ownBlock≠some q.1:=by
    intro e;rcases hvn q.1 e with e3 | e3
    · have:=hl.2;simp_all
    · omega
   have:=hl.2
   refine ⟨e1,this.1,?_⟩
   simp_all
theorem WkV.push_made {L:List (Nat × Obj)} {S:Sc} {w:World} {sv tv mv fv v':Value} {w1:World} {s:ByteArray} (h:WkV W b nv fi ns L S sv tv mv fv w) (hr:w1.ownsRow W.heap.size 9 1 v' (S.made.length+1) (strV S.made++[.string s])) (hg:w.grownBy w1 mv.ownBlock) (hv:v'.ownBlock=mv.ownBlock∨v'.ownBlock=some w.heap.size) :
  WkV W b nv fi ns L { S with made:=S.made++[s] } sv tv v' fv (w1.setCell ⟨b,5,none⟩ v'):=by
 have hA:=h.apart;have lb:=(Array.getElem?_eq_some_iff.1 h.cell).1
 have hold:∀ k,k<w.heap.size→mv.ownBlock≠some k→w1.heap[k]?=w.heap[k]?:=fun k hk hn=>hg.block k hk (Ne.symm hn)
 have L1:=fun g q=>(h.seen.lt g q).2
 have L2:=fun g q=>(h.slots.lt g q).2
 have L3:=fun g q=>(h.made.lt g q).2
 have L4:=fun g q=>(h.free.lt g q).2
 have hvn:∀ g,v'.ownBlock=some g→mv.ownBlock=some g∨g=w.heap.size:=fun g q=>by
  rcases hv with e | e
  · exact Or.inl (e ▸ q)
  · rw[e] at q;exact Or.inr (Option.some.inj q).symm
 have hx1:Ext W w1:=h.ext.grown hg fun k hk=>(h.made.lt k hk).1
 have hnb:mv.ownBlock≠some b:=fun q=>by have:=hA b;simp_all
 have kb:KB b _ _ w1:=(hold b lb hnb).trans h.cell
 have keep:∀ (x:Value) (n:Nat) (xs:List Value) (e:TypeId) (sz bs:Nat),w.ownsRow bs e sz x n xs→(∀ g,x.ownBlock=some g→g≠b)→(∀ g,x.ownBlock=some g→mv.ownBlock≠some g)→(w1.setCell ⟨b,5,none⟩ v').ownsRow bs e sz x n xs:=fun x n xs e sz bs hx h1 h2 =>
  qae hx fun k q hk=>(heap_set_other _ _ _ _ _ (h1 k q)).trans (hold k hk (h2 k q))
 refine ⟨hx1.setCell h.base.1 _,KB.setAt kb 5 v' zaj,keep _ _ _ _ _ _ h.row (fun g q=>by have:=h.base.2 g q;have:=h.base.1;omega) (fun g q e=>by have:=h.base.2 g q;have:=(h.made.lt g e).1;omega),?_,?_,?_,?_,h.base,?_,?_⟩
 · exact keep _ _ _ _ _ _ h.seen (fun g q=>by have:=hA g;simp_all) (fun g q e=>by have:=hA g;simp_all)
 · exact keep _ _ _ _ _ _ h.slots (fun g q=>by have:=hA g;simp_all) (fun g q e=>by have:=hA g;simp_all)
 · dsimp only;rw[List.length_append];unfold strV;rw[List.map_append];exact qae hr fun k q _=>heap_set_other _ _ _ _ _ (fun e=>by rcases hvn k q with e1 | e1;exact hnb (e ▸ e1);omega)
 · exact keep _ _ _ _ _ _ h.free (fun g q=>by have:=hA g;simp_all) (fun g q e=>by have:=hA g;simp_all)
 · intro g
   have a:=hA g;have b1:=hA w.heap.size
   have n1:sv.ownBlock≠some w.heap.size:=fun q=>absurd (L1 _ q) (Nat.lt_irrefl _)
   have n2:tv.ownBlock≠some w.heap.size:=fun q=>absurd (L2 _ q) (Nat.lt_irrefl _)
   have n3:mv.ownBlock≠some w.heap.size:=fun q=>absurd (L3 _ q) (Nat.lt_irrefl _)
   have n4:fv.ownBlock≠some w.heap.size:=fun q=>absurd (L4 _ q) (Nat.lt_irrefl _)
   have nb:w.heap.size≠b:=by omega
   rcases hv with e | e
   · rw[e];exact a
   · by_cases hgs:g=w.heap.size
     · subst hgs
       simp_all
     · have q:v'.ownBlock≠some g:=by rw[e];intro e2;exact hgs (Option.some.inj e2).symm
       simp_all
 · intro q hq
   have hl:=h.loc q hq;have hlt:=(Array.getElem?_eq_some_iff.1 hl.1).1
   have e1:(w1.setCell ⟨b,5,none⟩ v').heap[q.1]?=some q.2:=(heap_set_other _ _ _ _ _ hl.2.1).trans ((hold q.1 hlt (by have:=hl.2;simp_all)).trans hl.1)
   have e2:v'.ownBlock≠some q.1:=by
    intro e;rcases hvn q.1 e with e3 | e3
    · have:=hl.2;simp_all
    · omega
   have:=hl.2
   refine ⟨e1,this.1,?_⟩
   simp_all
theorem WkV.push_free {L:List (Nat × Obj)} {S:Sc} {w:World} {sv tv mv fv v':Value} {w1:World} {s:ByteArray} (h:WkV W b nv fi ns L S sv tv mv fv w) (hr:w1.ownsRow W.heap.size 9 1 v' (S.free.length+1) (strV S.free++[.string s])) (hg:w.grownBy w1 fv.ownBlock) (hv:v'.ownBlock=fv.ownBlock∨v'.ownBlock=some w.heap.size) :
  WkV W b nv fi ns L { S with free:=S.free++[s] } sv tv mv v' (w1.setCell ⟨b,6,none⟩ v'):=by
 have hA:=h.apart;have lb:=(Array.getElem?_eq_some_iff.1 h.cell).1
 have hold:∀ k,k<w.heap.size→fv.ownBlock≠some k→w1.heap[k]?=w.heap[k]?:=fun k hk hn=>hg.block k hk (Ne.symm hn)
 have L1:=fun g q=>(h.seen.lt g q).2
 have L2:=fun g q=>(h.slots.lt g q).2
 have L3:=fun g q=>(h.made.lt g q).2
 have L4:=fun g q=>(h.free.lt g q).2
 have hvn:∀ g,v'.ownBlock=some g→fv.ownBlock=some g∨g=w.heap.size:=fun g q=>by
  rcases hv with e | e
  · exact Or.inl (e ▸ q)
  · rw[e] at q;exact Or.inr (Option.some.inj q).symm
 have hx1:Ext W w1:=h.ext.grown hg fun k hk=>(h.free.lt k hk).1
 have hnb:fv.ownBlock≠some b:=fun q=>by have:=hA b;simp_all
 have kb:KB b _ _ w1:=(hold b lb hnb).trans h.cell
 have keep:∀ (x:Value) (n:Nat) (xs:List Value) (e:TypeId) (sz bs:Nat),w.ownsRow bs e sz x n xs→(∀ g,x.ownBlock=some g→g≠b)→(∀ g,x.ownBlock=some g→fv.ownBlock≠some g)→(w1.setCell ⟨b,6,none⟩ v').ownsRow bs e sz x n xs:=fun x n xs e sz bs hx h1 h2 =>
  qae hx fun k q hk=>(heap_set_other _ _ _ _ _ (h1 k q)).trans (hold k hk (h2 k q))
 refine ⟨hx1.setCell h.base.1 _,KB.setAt kb 6 v' zaj,keep _ _ _ _ _ _ h.row (fun g q=>by have:=h.base.2 g q;have:=h.base.1;omega) (fun g q e=>by have:=h.base.2 g q;have:=(h.free.lt g e).1;omega),?_,?_,?_,?_,h.base,?_,?_⟩
 · exact keep _ _ _ _ _ _ h.seen (fun g q=>by have:=hA g;simp_all) (fun g q e=>by have:=hA g;simp_all)
 · exact keep _ _ _ _ _ _ h.slots (fun g q=>by have:=hA g;simp_all) (fun g q e=>by have:=hA g;simp_all)
 · exact keep _ _ _ _ _ _ h.made (fun g q=>by have:=hA g;simp_all) (fun g q e=>by have:=hA g;simp_all)
 · dsimp only;rw[List.length_append];unfold strV;rw[List.map_append];exact qae hr fun k q _=>heap_set_other _ _ _ _ _ (fun e=>by rcases hvn k q with e1 | e1;exact hnb (e ▸ e1);omega)
 · intro g
   have a:=hA g;have b1:=hA w.heap.size
   have n1:sv.ownBlock≠some w.heap.size:=fun q=>absurd (L1 _ q) (Nat.lt_irrefl _)
   have n2:tv.ownBlock≠some w.heap.size:=fun q=>absurd (L2 _ q) (Nat.lt_irrefl _)
   have n3:mv.ownBlock≠some w.heap.size:=fun q=>absurd (L3 _ q) (Nat.lt_irrefl _)
   have n4:fv.ownBlock≠some w.heap.size:=fun q=>absurd (L4 _ q) (Nat.lt_irrefl _)
   have nb:w.heap.size≠b:=by omega
   rcases hv with e | e
   · rw[e];exact a
   · by_cases hgs:g=w.heap.size
     · subst hgs
       simp_all
     · have q:v'.ownBlock≠some g:=by rw[e];intro e2;exact hgs (Option.some.inj e2).symm
       simp_all
 · intro q hq
   have hl:=h.loc q hq;have hlt:=(Array.getElem?_eq_some_iff.1 hl.1).1
   have e1:(w1.setCell ⟨b,6,none⟩ v').heap[q.1]?=some q.2:=(heap_set_other _ _ _ _ _ hl.2.1).trans ((hold q.1 hlt (by have:=hl.2;simp_all)).trans hl.1)
   have e2:v'.ownBlock≠some q.1:=by
    intro e;rcases hvn q.1 e with e3 | e3
    · have:=hl.2;simp_all
    · omega
   have:=hl.2
   refine ⟨e1,this.1,?_⟩
   simp_all
theorem qet {L:List (Nat × Obj)} {S:Sc} {w:World} {sv tv mv fv:Value} (h:WkV W b nv fi ns L S sv tv mv fv w) (e a:Int) :
  Calls Tryz.prog 203 #[.pointer (some ⟨b,0,none⟩),.int .i64 e,.int .i64 a] w fun r w'=>r=.returned (.tuple #[])∧WkV W b nv fi ns L (S.wrong e a) sv tv mv fv w':=by
 have H:=Lib.hid h;have KX:=Lib.hid (show KB b _ _ w from h.cell);have x7:=KX.out.cell 7 _ rfl;have x8:=KX.out.cell 8 _ rfl;have f7:=KX.out.frozen 7;have f8:=KX.out.frozen 8;have lb:=KX.out.lt;dsimp only[List.getElem_toArray,List.getElem_cons_zero,List.getElem_cons_succ] at x7 x8
 obtain⟨seen,most,slots,made,free,se,sa⟩:=S
 dsimp only at x7 x8 H;unfold Sc.wrong;dsimp only;clear h
 by_cases h0:se=0
 · subst h0
   rw[if_pos rfl];go_enter Tryz.func203,Tryz.ntmps203;go_wp2_with fail;go_end0
   exact⟨rfl,(H.out.setB 7 (.int .i64 e) ⟨seen,most,slots,made,free,e,sa⟩ zac rfl rfl rfl rfl rfl).setB 8 (.int .i64 a) ⟨seen,most,slots,made,free,e,a⟩ zac rfl rfl rfl rfl rfl⟩
 · rw[if_neg h0]
   have q:(se==0)=false:=by simpa using h0
   clear h0;go_enter Tryz.func203,Tryz.ntmps203;go_wp2_with fail;go_end0
   exact⟨rfl,H.out⟩
theorem qfM (l:List ByteArray) (j:Nat) (h:j<l.length):(strV l)[j]?=some (.string (l.getD j ByteArray.empty)):=by
 unfold strV;rw[List.getElem?_map,List.getElem?_eq_getElem h,List.getD_eq_getElem?_getD,List.getElem?_eq_getElem h];rfl
theorem qcn {v:Value} {l:List ByteArray} (h:w.ownsRow base 9 1 v l.length (strV l)) (s:ByteArray) (hl:l.length≤100000) :
  Calls Tryz.prog 202 #[v,.string s] w fun e w'=>e=.returned (.bool (Lib.containsS l s))∧w'=w:=by
 rcases Go.Joins.ownsRow_forms h with ⟨rfl,h0⟩ | ⟨g,c,rfl⟩
 · have hl0:l=[]:=List.length_eq_zero_iff.1 h0
   subst hl0;refine (Tryz.slices_Contains_string_empty none 0 s w).mono ?_;rintro e w' ⟨rfl,rfl⟩
   exact⟨rfl,rfl⟩
 · refine (Tryz.slices_Contains_string g 0 l.length c l s w (Nat.le_refl _) zac (fun j hj=>by have:=h.cells (g:=g) rfl j _ (qfM l j hj);rwa [Addr.add_lit] at this)).mono ?_
   rintro e w' ⟨rfl,rfl⟩
   exact⟨by rw[List.take_length],rfl⟩
def qaw (s:ByteArray) (l:List ByteArray):Nat→Int
 | 0=>-1
 | j+1=>if ((l.getD j ByteArray.empty).toList==s.toList)=true then(j:Int) else qaw s l j
def Sc.use (S:Sc) (s:ByteArray) (i:Nat):Sc :=
 let k:=qaw s S.seen S.seen.length
 if k<0 then
  let T:=S.wrong 15 i
  if Lib.containsS T.free s=true then { T with slots:=T.slots.set i k } else { T with free:=T.free++[s],slots:=T.slots.set i k }
 else { S with slots:=S.slots.set i k }
theorem qbm {e:TypeId} {size:Nat} {g cap:Nat} {xs:List Value} (h:w.ownsRow base e size (.slice (some ⟨g,0,none⟩) n cap) n xs) {i:Nat} (hi:i<n*size) (u:Value) :
  (w.setCell ⟨g,i,none⟩ u).ownsRow base e size (.slice (some ⟨g,0,none⟩) n cap) n (xs.set i u):=by
 obtain⟨h1,h2⟩:=h
 refine ⟨by simpa using h1,?_⟩
 rcases h2 with ⟨h2,_⟩ | ⟨g',cap',cur,h2,hb,hg,hn,hm,hc,ht⟩
 · simp at h2
 · simp only[Value.slice.injEq,Option.some.injEq,Addr.mk.injEq,true_and,and_true] at h2
   obtain⟨rfl,rfl⟩:=h2
   refine Or.inr ⟨g,cap,cur.setIfInBounds i u,rfl,hb,?_,hn,hm,by simpa using hc,?_⟩
   · simp[World.setCell,Array.getElem?_modify,hg]
   · rw[Array.toList_setIfInBounds,List.take_set,ht]
theorem WkV.setSlot {L:List (Nat × Obj)} {S:Sc} {w:World} {sv mv fv:Value} {g c n2:Nat} (h:WkV W b nv fi ns L S sv (.slice (some ⟨g,0,none⟩) n2 c) mv fv w) (i:Nat) (k:Int) (hi:i<S.slots.length) (hn:S.slots.length=n2) :
  WkV W b nv fi ns L { S with slots:=S.slots.set i k } sv (.slice (some ⟨g,0,none⟩) n2 c) mv fv (w.setCell ⟨g,i,none⟩ (.int .i64 k)):=by
 subst hn;have hA:=h.apart
 have hgb:g≠b:=((hA g).2.1 rfl).1
 have hg0:=(h.slots.lt g rfl).1
 have hk:∀ (x:Value) (q:Nat),x.ownBlock≠some g→x.ownBlock=some q→(w.setCell ⟨g,i,none⟩ (.int .i64 k)).heap[q]?=w.heap[q]?:=fun x q hx hq=>heap_set_other _ _ _ _ _ (fun e=>hx (by rw[←e];exact hq))
 refine ⟨h.ext.setCell hg0 _,by rw[heap_set_other _ _ _ _ _ (Ne.symm hgb)];exact h.cell,qae h.row fun q hq _=>hk nv q (fun e=>by have:=h.base.2 g e;omega) hq,qae h.seen fun q hq _=>hk sv q (fun e=>((hA g).1 e).2.1 rfl) hq,?_,qae h.made fun q hq _=>hk mv q (fun e=>((hA g).2.1 rfl).2.1 e) hq,qae h.free fun q hq _=>hk fv q (fun e=>((hA g).2.1 rfl).2.2 e) hq,h.base,h.apart,fun q hq=>⟨(heap_set_other _ _ _ _ _ (fun e=>(h.loc q hq).2.2.2.1 (by rw[e];rfl))).trans (h.loc q hq).1,(h.loc q hq).2⟩⟩
 have e1:intL (S.slots.set i k)=(intL S.slots).set i (.int .i64 k):=by unfold intL;rw[List.map_set]
 dsimp only;rw[List.length_set,e1];exact qbm h.slots (by rw[Nat.mul_one];exact hi) _
theorem qdX (l:List Int) (j:Nat) (h:j<l.length):(intL l)[j]?=some (.int .i64 (l.getD j 0)):=by
 unfold intL;rw[List.getElem?_map,List.getElem?_eq_getElem h,List.getD_eq_getElem?_getD,List.getElem?_eq_getElem h];rfl
theorem qfd {m g:Nat} {e:TypeId} {size:Nat} {xs:List Value} (h:w.ownsRow base e size (.slice (some ⟨g,0,none⟩) m c) n xs) (j:Nat):w.frozen? ⟨g,j,none⟩=false:=by
 rcases h.2 with ⟨h1,_⟩ | ⟨g',cap,cur,hv,_,hg,_⟩
 · cases h1
 · simp only[Value.slice.injEq,Option.some.injEq,Addr.mk.injEq,and_true,true_and] at hv
   rw[←hv.1] at hg
   simp[World.frozen?,hg]
theorem strInfo:(Tryz.prog.info? 9).map (fun i=>(i.zero,i.size,i.bytes))=some (some (.string ⟨#[]⟩),1,16):=by kernel_rfl
theorem use_any {L:List (Nat × Obj)} {S:Sc} {w:World} {sv tv mv fv:Value} (h:WkV W b nv fi ns L S sv tv mv fv w) (s:ByteArray) (i:Nat) (hi:i<S.slots.length) (hs:S.seen.length≤2000) (hf:S.free.length≤2000) :
  Calls Tryz.prog 205 #[.pointer (some ⟨b,0,none⟩),.string s,.int .i64 (i:Int)] w fun r w'=>r=.returned (.tuple #[])∧Wk W b nv fi ns L (S.use s i) w':=by
 have H:=Lib.hid h;have KX:=Lib.hid (show KB b _ _ w from h.cell);have x2:=KX.out.cell 2 _ rfl;have lb:=KX.out.lt;dsimp only[List.getElem_toArray,List.getElem_cons_zero,List.getElem_cons_succ] at x2
 obtain⟨n,hn⟩:∃ n,S.seen.length=n:=⟨_,rfl⟩
 have HN:=Lib.hid hn
 obtain⟨p,c,hv⟩:=qad h.seen
 rw[hn] at hv hs;subst hv
 have hni:(n:Int)≤2000:=by omega
 have HI:=Lib.hid hi;have HFR:=Lib.hid hf
 obtain⟨n2,hn2⟩:∃ n2,S.slots.length=n2:=⟨_,rfl⟩
 obtain⟨g2,c2,_,htv⟩:∃ g2 c2,(g2<w.heap.size)∧tv=.slice (some ⟨g2,0,none⟩) n2 c2:=by
  obtain⟨g1,cap1,e1,_,e3⟩:=h.slots.form zac
  exact⟨g1,cap1,e3,by rw[e1,hn2]⟩
 subst htv;have HN2:=Lib.hid hn2
 have hi2:(i:Int)<(n2:Int):=by omega
 have hi0:0≤(i:Int):=by omega
 clear h hn hi hf hn2;go_enter Tryz.func205,Tryz.ntmps205;go_wp2_with fail;go_loopw [6,14] (fun y6 y14 wr=>∃ k:Nat,y14=.int .i64 (k:Int)∧k≤n∧y6=.int .i64 (qaw s S.seen k)∧wr=w) (fun _ y14 _=>n-(intOf y14).toNat)
 case atStart=>exact⟨0,rfl,Nat.zero_le _,rfl,rfl⟩
 case round =>
  obtain⟨k,rfl,hk,rfl,rfl⟩:=hrel
  have hk0:0≤(k:Int):=by omega
  by_cases hlt:k<n
  · have hp:∃ g,p=some ⟨g,0,none⟩:=by
      rcases Go.Joins.ownsRow_forms H.out.seen with ⟨_,h0⟩ | ⟨g1,c1,h0⟩
      · have:=HN.out;omega
      · simp at h0;exact⟨g1,h0.1⟩
    obtain⟨g,rfl⟩:=hp
    have hki:(k:Int)<(n:Int):=by omega
    have hc:=H.out.seen.cells (g:=g) rfl k _ (qfM S.seen k (by rw[HN.out];exact hlt));rw[Addr.add_lit,Nat.zero_add] at hc
    obtain⟨t,ht⟩:∃ t,S.seen.getD k ByteArray.empty=t:=⟨_,rfl⟩
    rw[ht] at hc;have HT:=Lib.hid (show qaw s S.seen (k+1)=if (t.toList==s.toList)=true then(k:Int) else qaw s S.seen k from by rw[qaw,ht]);have HLT:=Lib.hid hlt;have hg:=(H.out.seen.lt g rfl).2;clear ht hlt
    obtain⟨q,hq⟩:∃ q,qaw s S.seen k=q:=⟨_,rfl⟩
    rw[hq] at HT ⊢;clear hq
    cases hb:(t.toList==s.toList)
    · have HT2:=Lib.hid (HT.out.trans (if_neg zbq))
      clear HT;go_wp2_with fail;go_roundw
      case rel=>exact⟨k+1,by go_num,by have:=HLT.out;omega,by rw[HT2.out],by first | rfl | trivial⟩
      case measure=>have:=HLT.out;simp[intOf];omega
    · have HT2:=Lib.hid (HT.out.trans (if_pos hb))
      clear HT;go_wp2_with fail;go_roundw
      case rel=>exact⟨k+1,by go_num,by have:=HLT.out;omega,by rw[HT2.out],by first | rfl | trivial⟩
      case measure=>have:=HLT.out;simp[intOf];omega
  · have hke:k=n:=by omega
    subst hke
    have hl:S.use s i=(if qaw s S.seen k<0 then(if Lib.containsS (S.wrong 15 i).free s=true then { S.wrong 15 i with slots:=(S.wrong 15 i).slots.set i (qaw s S.seen k) } else { S.wrong 15 i with free:=(S.wrong 15 i).free++[s],slots:=(S.wrong 15 i).slots.set i (qaw s S.seen k) }) else { S with slots:=S.slots.set i (qaw s S.seen k) }):=by unfold Sc.use;rw[HN.out]
    have HU:=Lib.hid hl;clear hl hlt
    obtain⟨q,hq⟩:∃ q,qaw s S.seen k=q:=⟨_,rfl⟩
    rw[hq] at HU ⊢;clear hq
    obtain⟨i0,hi,hz0,hz1,hz2⟩:=info_parts strInfo
    by_cases hq0:q<0
    · have HU2:=Lib.hid (HU.out.trans (if_pos hq0))
      have hT1:(S.wrong 15 i).free=S.free:=by unfold Sc.wrong;split<;>rfl
      have hT2:(S.wrong 15 i).slots=S.slots:=by unfold Sc.wrong;split<;>rfl
      have WR:=Lib.hid (qet H.out 15 i)
      obtain⟨T,hT⟩:∃ T,S.wrong 15 i=T:=⟨_,rfl⟩
      rw[hT] at HU2 WR hT1 hT2
      have hTf:T.free.length≤2000:=by rw[hT1];exact HFR.out
      have hTs:i<T.slots.length:=by rw[hT2];exact HI.out
      have HTF:=Lib.hid hTf;have HTS:=Lib.hid hTs;have HTN:=Lib.hid (show T.slots.length=n2 from by rw[hT2];exact HN2.out);clear hT hT1 hT2 HU hTf hTs
      cases hQ:Lib.containsS T.free s
      · have HU3:=Lib.hid (HU2.out.trans (if_neg (by rw[hQ];simp)))
        have HQ:=Lib.hid hQ;clear HU2 hQ
        go_wp2_with (first
         | ((with_reducible refine WR.out.mono ?_);rintro e' w2 ⟨rfl,h2⟩;have H2:=Lib.hid h2;clear h2;have KX2:=Lib.hid (show KB b _ _ w2 from H2.out.cell);have x6:=KX2.out.cell 6 fv rfl;have x4:=KX2.out.cell 4 (.slice (some ⟨g2,0,none⟩) n2 c2) rfl;have lb2:=KX2.out.lt;have lg2:=(H2.out.slots.lt g2 rfl).2;have hfb:fv.ownBlock≠some b:=fun q=>((H2.out.apart b).2.2.2 q) rfl;have CF:=Lib.hid (qcn H2.out.free s (Nat.le_trans HTF.out zac)))
         | ((with_reducible refine CF.out.mono ?_);rintro e' _ ⟨rfl,rfl⟩;rw[HQ.out])
         | (at_builtin;refine wpList_append_own_at _ rfl _ _ 23 rfl W.heap.size 9 i0 (.string ⟨#[]⟩) 1 16 Tryz.underlying23 hi hz0 hz1 hz2 rfl zal fv T.free.length (strV T.free) rfl (H2.out.free.alloc _) ⟨_,0,none⟩ 1 1 [.string s] rfl rfl (qaq zaj) zbh (by unfold maxLen;have:=HTF.out;omega) (by have:=HTF.out;omega) (by simp;have:=H2.out.ext.size;omega) ?_))
        intro v' w1 hown' hgrow _ hblk
        obtain⟨g3,cap3,rfl,_,_⟩:=hown'.form zac
        have HP:=Lib.hid (WkV.push_free (s:=s) (H2.out.of_ext ((Ext.refl _).alloc _)) hown' hgrow (by rw[World.size_alloc];exact hblk));have KX3:=Lib.hid (show KB b _ _ w1 from(hgrow.block b (by rw[World.size_alloc];omega) (Ne.symm hfb)).trans (KX2.out.alloc _));have z6:=KX3.out.cell 6 fv rfl;have z6f:=KX3.out.frozen 6;have lb3:=KX3.out.lt;have KX4:=Lib.hid (show KB b _ _ (w1.setCell ⟨b,6,none⟩ _) from HP.out.cell);have z4:=KX4.out.cell 4 (.slice (some ⟨g2,0,none⟩) n2 c2) rfl;clear hown' hgrow hblk;have y0:=HP.out.slots.cells (g:=g2) rfl i _ (qdX T.slots i HTS.out);rw[Addr.add_lit,Nat.zero_add] at y0
        have y1:=qfd HP.out.slots i;have y2:=(HP.out.slots.lt g2 rfl).2;go_wp2_with fail;go_end0
        exact⟨rfl,_,_,_,_,by rw[HU3.out];exact HP.out.setSlot i q HTS.out HTN.out⟩
      · have HU3:=Lib.hid (HU2.out.trans (if_pos hQ))
        have HQ:=Lib.hid hQ;clear HU2 hQ
        go_wp2_with (first
         | ((with_reducible refine WR.out.mono ?_);rintro e' w2 ⟨rfl,h2⟩;have H2:=Lib.hid h2;clear h2;have KX2:=Lib.hid (show KB b _ _ w2 from H2.out.cell);have x6:=KX2.out.cell 6 fv rfl;have x4:=KX2.out.cell 4 (.slice (some ⟨g2,0,none⟩) n2 c2) rfl;have lb2:=KX2.out.lt;have lg2:=(H2.out.slots.lt g2 rfl).2;have hfb:fv.ownBlock≠some b:=fun q=>((H2.out.apart b).2.2.2 q) rfl;have CF:=Lib.hid (qcn H2.out.free s (Nat.le_trans HTF.out zac));have y0:=H2.out.slots.cells (g:=g2) rfl i _ (qdX T.slots i HTS.out);rw[Addr.add_lit,Nat.zero_add] at y0;have y1:=qfd H2.out.slots i;have y2:=(H2.out.slots.lt g2 rfl).2)
         | ((with_reducible refine CF.out.mono ?_);rintro e' _ ⟨rfl,rfl⟩;rw[HQ.out]))
        go_end0
        exact⟨rfl,_,_,_,_,by rw[HU3.out];exact H2.out.setSlot i q HTS.out HTN.out⟩
    · have HU2:=Lib.hid (HU.out.trans (if_neg hq0))
      have hq1:0≤q:=by omega
      have KX2:=Lib.hid (show KB b _ _ wr from H.out.cell);have x4:=KX2.out.cell 4 (.slice (some ⟨g2,0,none⟩) n2 c2) rfl;have y0:=H.out.slots.cells (g:=g2) rfl i _ (qdX S.slots i HI.out);rw[Addr.add_lit,Nat.zero_add] at y0;have y1:=qfd H.out.slots i;have y2:=(H.out.slots.lt g2 rfl).2;clear hq0;go_wp2_with fail;go_end0
      exact⟨rfl,_,_,_,_,by rw[HU2.out];exact H.out.setSlot i q HI.out HN2.out⟩
def Sc.wrongSee (S:Sc) (s:ByteArray) (i:Int):Sc:=if Lib.containsS S.seen s=true then S.wrong 16 i else if 32≤S.seen.length then S.wrong 5 i else S
def Sc.see (S:Sc) (s:ByteArray) (i:Int):Sc :=
 let T:=S.wrongSee s i
 { T with made:=T.made++[s],seen:=T.seen++[s],most:=max T.most ((T.seen.length:Int)+1) }
theorem see_any {L:List (Nat × Obj)} {S:Sc} {w:World} {sv tv mv fv:Value} (h:WkV W b nv fi ns L S sv tv mv fv w) (s:ByteArray) (i:Int) (hs:S.seen.length≤2000) (hf:S.made.length≤2000) :
  Calls Tryz.prog 174 #[.pointer (some ⟨b,0,none⟩),.string s,.int .i64 i] w fun r w'=>r=.returned (.tuple #[])∧Wk W b nv fi ns L (S.see s i) w':=by
 have H:=Lib.hid h;have KX:=Lib.hid (show KB b _ _ w from h.cell);have x2:=KX.out.cell 2 sv rfl;have lb:=KX.out.lt
 obtain⟨i0,hi,hz0,hz1,hz2⟩:=info_parts strInfo
 have CF:=Lib.hid (qcn h.seen s zac)
 obtain⟨sl,hsl⟩:∃ sl,S.seen.length=sl:=⟨_,rfl⟩
 obtain⟨p,c,hv⟩:=qad h.seen
 rw[hsl] at hv;subst hv
 cases hQ:Lib.containsS S.seen s
 · by_cases h32:32≤S.seen.length
   · have hW:S.wrongSee s i=S.wrong 5 i:=by unfold Sc.wrongSee;rw[if_neg (by rw[hQ];simp),if_pos h32]
     have WR:=Lib.hid (qet h 5 i)
     have hT1:(S.wrong 5 i).seen=S.seen:=by unfold Sc.wrong;split<;>rfl
     have hT2:(S.wrong 5 i).made=S.made:=by unfold Sc.wrong;split<;>rfl
     have HU:RowKit.Hid (S.see s i=_):=Lib.hid (by unfold Sc.see;rw[hW])
     obtain⟨T,hT⟩:∃ T,S.wrong 5 i=T:=⟨_,rfl⟩
     rw[hT] at WR hT1 hT2 HU;have HTL:=Lib.hid (show T.seen.length≤2000∧T.made.length≤2000 from⟨by rw[hT1];exact hs,by rw[hT2];exact hf⟩);have HQ:=Lib.hid hQ
     have h3i:(32:Int)≤(sl:Int):=by omega
     clear hW hT hT1 hT2 hQ h hs hf hsl h32;go_enter Tryz.func174,Tryz.ntmps174
     go_wp2_with (first
      | ((with_reducible refine CF.out.mono ?_);rintro e' _ ⟨rfl,rfl⟩;rw[HQ.out])
      | ((with_reducible refine WR.out.mono ?_);rintro e' w2 ⟨rfl,h2⟩;have H2:=Lib.hid h2;clear h2;have KX2:=Lib.hid (show KB b _ _ w2 from H2.out.cell);have y5:=KX2.out.cell 5 mv rfl;have lb2:=KX2.out.lt)
      | (at_builtin;refine wpList_append_own_at _ rfl _ _ 23 rfl W.heap.size 9 i0 (.string ⟨#[]⟩) 1 16 Tryz.underlying23 hi hz0 hz1 hz2 rfl zal mv T.made.length (strV T.made) rfl (H2.out.made.alloc _) ⟨_,0,none⟩ 1 1 [.string s] rfl rfl (qaq zaj) zbh (by unfold maxLen;have:=HTL.out;omega) (by have:=HTL.out;omega) (by simp;have:=H2.out.ext.size;omega) ?_))
     intro v1 w3 hown' hgrow _ hblk
     obtain⟨g3,cap3,rfl,_,_⟩:=hown'.form zac
     have HP:=Lib.hid (WkV.push_made (s:=s) (H2.out.of_ext ((Ext.refl _).alloc _)) hown' hgrow (by rw[World.size_alloc];exact hblk))
     have hmb:mv.ownBlock≠some b:=fun q=>((H2.out.apart b).2.2.1 q).1 rfl
     have KX3:=Lib.hid (show KB b _ _ w3 from(hgrow.block b (by rw[World.size_alloc];have:=(show KB b _ _ _ from H2.out.cell).lt;omega) (Ne.symm hmb)).trans ((show KB b _ _ _ from H2.out.cell).alloc _));have z5:=KX3.out.cell 5 mv rfl;have z5f:=KX3.out.frozen 5;have lb3:=KX3.out.lt;have KX4:=Lib.hid (show KB b _ _ (w3.setCell ⟨b,5,none⟩ _) from HP.out.cell);have z2:=KX4.out.cell 2 (.slice p sl c) rfl;clear hown' hgrow hblk
     go_wp2_with (at_builtin;refine wpList_append_own_at _ rfl _ _ 23 rfl W.heap.size 9 i0 (.string ⟨#[]⟩) 1 16 Tryz.underlying23 hi hz0 hz1 hz2 rfl zal (.slice p sl c) T.seen.length (strV T.seen) rfl (HP.out.seen.alloc _) ⟨_,0,none⟩ 1 1 [.string s] rfl rfl (qaq zaj) zbh (by unfold maxLen;have:=HTL.out;omega) (by have:=HTL.out;omega) (by simp;have:=HP.out.ext.size;omega) ?_)
     intro v2 w4 hown' hgrow _ hblk
     obtain⟨g4,cap4,rfl,_,_⟩:=hown'.form zac
     have HP2:=Lib.hid (WkV.push_seen (s:=s) (HP.out.of_ext ((Ext.refl _).alloc _)) hown' hgrow (by simpa using hblk))
     have hsb:(Value.slice p sl c).ownBlock≠some b:=fun q=>((HP.out.apart b).1 q).1 rfl
     have KX5:=Lib.hid (show KB b _ _ w4 from(hgrow.block b (by rw[World.size_alloc];have:=KX4.out.lt;omega) (Ne.symm hsb)).trans (KX4.out.alloc _));have t2:=KX5.out.cell 2 (.slice p sl c) rfl;have t2f:=KX5.out.frozen 2;have lb4:=KX5.out.lt;have KX6:=Lib.hid (show KB b _ _ (w4.setCell ⟨b,2,none⟩ _) from HP2.out.cell);have t22:=KX6.out.cell 2 (.slice (some ⟨g4,0,none⟩) (T.seen.length+1) cap4) rfl;have t23:=KX6.out.cell 3 (.int .i64 T.most) rfl;have t23f:=KX6.out.frozen 3;have lb6:=KX6.out.lt;clear hown' hgrow hblk;go_wp2_with fail
     go_region
     go_wp2_with fail;go_end0
     exact⟨rfl,_,_,_,_,by rw[HU.out];exact(HP2.out.setB 3 (.int .i64 (max T.most ((T.seen.length:Int)+1))) { T with made:=T.made++[s],seen:=T.seen++[s],most:=max T.most ((T.seen.length:Int)+1) } zac rfl rfl rfl rfl rfl).of_ext ((Ext.refl _).drew)⟩
   · have hW:S.wrongSee s i=S:=by unfold Sc.wrongSee;rw[if_neg (by rw[hQ];simp),if_neg h32]
     have HU:RowKit.Hid (S.see s i=_):=Lib.hid (by unfold Sc.see;rw[hW])
     have HTL:=Lib.hid (show S.seen.length≤2000∧S.made.length≤2000 from⟨by exact hs,by exact hf⟩);have HQ:=Lib.hid hQ
     have h3i:(sl:Int)<32:=by omega
     have y5:=KX.out.cell 5 mv rfl;clear hW hQ h hs hf hsl h32;go_enter Tryz.func174,Tryz.ntmps174
     go_wp2_with (first
      | ((with_reducible refine CF.out.mono ?_);rintro e' _ ⟨rfl,rfl⟩;rw[HQ.out])
      | (at_builtin;refine wpList_append_own_at _ rfl _ _ 23 rfl W.heap.size 9 i0 (.string ⟨#[]⟩) 1 16 Tryz.underlying23 hi hz0 hz1 hz2 rfl zal mv S.made.length (strV S.made) rfl (H.out.made.alloc _) ⟨_,0,none⟩ 1 1 [.string s] rfl rfl (qaq zaj) zbh (by unfold maxLen;have:=HTL.out;omega) (by have:=HTL.out;omega) (by simp;have:=H.out.ext.size;omega) ?_))
     intro v1 w3 hown' hgrow _ hblk
     obtain⟨g3,cap3,rfl,_,_⟩:=hown'.form zac
     have HP:=Lib.hid (WkV.push_made (s:=s) (H.out.of_ext ((Ext.refl _).alloc _)) hown' hgrow (by rw[World.size_alloc];exact hblk))
     have hmb:mv.ownBlock≠some b:=fun q=>((H.out.apart b).2.2.1 q).1 rfl
     have KX3:=Lib.hid (show KB b _ _ w3 from(hgrow.block b (by rw[World.size_alloc];have:=(show KB b _ _ _ from H.out.cell).lt;omega) (Ne.symm hmb)).trans ((show KB b _ _ _ from H.out.cell).alloc _));have z5:=KX3.out.cell 5 mv rfl;have z5f:=KX3.out.frozen 5;have lb3:=KX3.out.lt;have KX4:=Lib.hid (show KB b _ _ (w3.setCell ⟨b,5,none⟩ _) from HP.out.cell);have z2:=KX4.out.cell 2 (.slice p sl c) rfl;clear hown' hgrow hblk
     go_wp2_with (at_builtin;refine wpList_append_own_at _ rfl _ _ 23 rfl W.heap.size 9 i0 (.string ⟨#[]⟩) 1 16 Tryz.underlying23 hi hz0 hz1 hz2 rfl zal (.slice p sl c) S.seen.length (strV S.seen) rfl (HP.out.seen.alloc _) ⟨_,0,none⟩ 1 1 [.string s] rfl rfl (qaq zaj) zbh (by unfold maxLen;have:=HTL.out;omega) (by have:=HTL.out;omega) (by simp;have:=HP.out.ext.size;omega) ?_)
     intro v2 w4 hown' hgrow _ hblk
     obtain⟨g4,cap4,rfl,_,_⟩:=hown'.form zac
     have HP2:=Lib.hid (WkV.push_seen (s:=s) (HP.out.of_ext ((Ext.refl _).alloc _)) hown' hgrow (by simpa using hblk))
     have hsb:(Value.slice p sl c).ownBlock≠some b:=fun q=>((HP.out.apart b).1 q).1 rfl
     have KX5:=Lib.hid (show KB b _ _ w4 from(hgrow.block b (by rw[World.size_alloc];have:=KX4.out.lt;omega) (Ne.symm hsb)).trans (KX4.out.alloc _));have t2:=KX5.out.cell 2 (.slice p sl c) rfl;have t2f:=KX5.out.frozen 2;have lb4:=KX5.out.lt;have KX6:=Lib.hid (show KB b _ _ (w4.setCell ⟨b,2,none⟩ _) from HP2.out.cell);have t22:=KX6.out.cell 2 (.slice (some ⟨g4,0,none⟩) (S.seen.length+1) cap4) rfl;have t23:=KX6.out.cell 3 (.int .i64 S.most) rfl;have t23f:=KX6.out.frozen 3;have lb6:=KX6.out.lt;clear hown' hgrow hblk;go_wp2_with fail
     go_region
     go_wp2_with fail;go_end0
     exact⟨rfl,_,_,_,_,by rw[HU.out];exact(HP2.out.setB 3 (.int .i64 (max S.most ((S.seen.length:Int)+1))) { S with made:=S.made++[s],seen:=S.seen++[s],most:=max S.most ((S.seen.length:Int)+1) } zac rfl rfl rfl rfl rfl).of_ext ((Ext.refl _).drew)⟩
 · have hW:S.wrongSee s i=S.wrong 16 i:=by unfold Sc.wrongSee;rw[if_pos hQ]
   have WR:=Lib.hid (qet h 16 i)
   have hT1:(S.wrong 16 i).seen=S.seen:=by unfold Sc.wrong;split<;>rfl
   have hT2:(S.wrong 16 i).made=S.made:=by unfold Sc.wrong;split<;>rfl
   have HU:RowKit.Hid (S.see s i=_):=Lib.hid (by unfold Sc.see;rw[hW])
   obtain⟨T,hT⟩:∃ T,S.wrong 16 i=T:=⟨_,rfl⟩
   rw[hT] at WR hT1 hT2 HU;have HTL:=Lib.hid (show T.seen.length≤2000∧T.made.length≤2000 from⟨by rw[hT1];exact hs,by rw[hT2];exact hf⟩);have HQ:=Lib.hid hQ;clear hW hT hT1 hT2 hQ h hs hf hsl;go_enter Tryz.func174,Tryz.ntmps174
   go_wp2_with (first
    | ((with_reducible refine CF.out.mono ?_);rintro e' _ ⟨rfl,rfl⟩;rw[HQ.out])
    | ((with_reducible refine WR.out.mono ?_);rintro e' w2 ⟨rfl,h2⟩;have H2:=Lib.hid h2;clear h2;have KX2:=Lib.hid (show KB b _ _ w2 from H2.out.cell);have y5:=KX2.out.cell 5 mv rfl;have lb2:=KX2.out.lt)
    | (at_builtin;refine wpList_append_own_at _ rfl _ _ 23 rfl W.heap.size 9 i0 (.string ⟨#[]⟩) 1 16 Tryz.underlying23 hi hz0 hz1 hz2 rfl zal mv T.made.length (strV T.made) rfl (H2.out.made.alloc _) ⟨_,0,none⟩ 1 1 [.string s] rfl rfl (qaq zaj) zbh (by unfold maxLen;have:=HTL.out;omega) (by have:=HTL.out;omega) (by simp;have:=H2.out.ext.size;omega) ?_))
   intro v1 w3 hown' hgrow _ hblk
   obtain⟨g3,cap3,rfl,_,_⟩:=hown'.form zac
   have HP:=Lib.hid (WkV.push_made (s:=s) (H2.out.of_ext ((Ext.refl _).alloc _)) hown' hgrow (by rw[World.size_alloc];exact hblk))
   have hmb:mv.ownBlock≠some b:=fun q=>((H2.out.apart b).2.2.1 q).1 rfl
   have KX3:=Lib.hid (show KB b _ _ w3 from(hgrow.block b (by rw[World.size_alloc];have:=(show KB b _ _ _ from H2.out.cell).lt;omega) (Ne.symm hmb)).trans ((show KB b _ _ _ from H2.out.cell).alloc _));have z5:=KX3.out.cell 5 mv rfl;have z5f:=KX3.out.frozen 5;have lb3:=KX3.out.lt;have KX4:=Lib.hid (show KB b _ _ (w3.setCell ⟨b,5,none⟩ _) from HP.out.cell);have z2:=KX4.out.cell 2 (.slice p sl c) rfl;clear hown' hgrow hblk
   go_wp2_with (at_builtin;refine wpList_append_own_at _ rfl _ _ 23 rfl W.heap.size 9 i0 (.string ⟨#[]⟩) 1 16 Tryz.underlying23 hi hz0 hz1 hz2 rfl zal (.slice p sl c) T.seen.length (strV T.seen) rfl (HP.out.seen.alloc _) ⟨_,0,none⟩ 1 1 [.string s] rfl rfl (qaq zaj) zbh (by unfold maxLen;have:=HTL.out;omega) (by have:=HTL.out;omega) (by simp;have:=HP.out.ext.size;omega) ?_)
   intro v2 w4 hown' hgrow _ hblk
   obtain⟨g4,cap4,rfl,_,_⟩:=hown'.form zac
   have HP2:=Lib.hid (WkV.push_seen (s:=s) (HP.out.of_ext ((Ext.refl _).alloc _)) hown' hgrow (by simpa using hblk))
   have hsb:(Value.slice p sl c).ownBlock≠some b:=fun q=>((HP.out.apart b).1 q).1 rfl
   have KX5:=Lib.hid (show KB b _ _ w4 from(hgrow.block b (by rw[World.size_alloc];have:=KX4.out.lt;omega) (Ne.symm hsb)).trans (KX4.out.alloc _));have t2:=KX5.out.cell 2 (.slice p sl c) rfl;have t2f:=KX5.out.frozen 2;have lb4:=KX5.out.lt;have KX6:=Lib.hid (show KB b _ _ (w4.setCell ⟨b,2,none⟩ _) from HP2.out.cell);have t22:=KX6.out.cell 2 (.slice (some ⟨g4,0,none⟩) (T.seen.length+1) cap4) rfl;have t23:=KX6.out.cell 3 (.int .i64 T.most) rfl;have t23f:=KX6.out.frozen 3;have lb6:=KX6.out.lt;clear hown' hgrow hblk;go_wp2_with fail
   go_region
   go_wp2_with fail;go_end0
   exact⟨rfl,_,_,_,_,by rw[HU.out];exact(HP2.out.setB 3 (.int .i64 (max T.most ((T.seen.length:Int)+1))) { T with made:=T.made++[s],seen:=T.seen++[s],most:=max T.most ((T.seen.length:Int)+1) } zac rfl rfl rfl rfl rfl).of_ext ((Ext.refl _).drew)⟩
theorem WkV.locNew {L:List (Nat × Obj)} {S:Sc} {w:World} {sv tv mv fv:Value} (h:WkV W b nv fi ns L S sv tv mv fv w) (o:Obj):WkV W b nv fi ns ((w.heap.size,o)::L) S sv tv mv fv (w.alloc o):=by
 have h':=h.of_ext ((Ext.refl w).alloc o);refine ⟨h'.ext,h'.cell,h'.row,h'.seen,h'.slots,h'.made,h'.free,h'.base,h'.apart,fun q hq=>?_⟩;rcases List.mem_cons.1 hq with e | hq
 · subst e
   refine ⟨heap_alloc_new _ _,?_,fun e=>?_,fun e=>?_,fun e=>?_,fun e=>?_⟩
   · have:=(Array.getElem?_eq_some_iff.1 h.cell).1
     dsimp only;omega
   · exact absurd (h.seen.lt _ e).2 (Nat.lt_irrefl _)
   · exact absurd (h.slots.lt _ e).2 (Nat.lt_irrefl _)
   · exact absurd (h.made.lt _ e).2 (Nat.lt_irrefl _)
   · exact absurd (h.free.lt _ e).2 (Nat.lt_irrefl _)
 · exact h'.loc q hq
theorem WkV.locOut {L:List (Nat × Obj)} {S:Sc} {w:World} {sv tv mv fv:Value} {q:Nat × Obj} (h:WkV W b nv fi ns (q::L) S sv tv mv fv w):WkV W b nv fi ns L S sv tv mv fv w :=
 ⟨h.ext,h.cell,h.row,h.seen,h.slots,h.made,h.free,h.base,h.apart,fun p hp=>h.loc p (List.mem_cons_of_mem _ hp)⟩
theorem Wk.locNew {L:List (Nat × Obj)} {S:Sc} {w:World} (h:Wk W b nv fi ns L S w) (o:Obj):Wk W b nv fi ns ((w.heap.size,o)::L) S (w.alloc o):=by
 obtain⟨sv,tv,mv,fv,h⟩:=h
 exact⟨sv,tv,mv,fv,h.locNew o⟩
theorem Wk.locOut {L:List (Nat × Obj)} {S:Sc} {w:World} {q:Nat × Obj} (h:Wk W b nv fi ns (q::L) S w):Wk W b nv fi ns L S w:=by
 obtain⟨sv,tv,mv,fv,h⟩:=h
 exact⟨sv,tv,mv,fv,h.locOut⟩
theorem Wk.locAt {L:List (Nat × Obj)} {S:Sc} {w:World} {k:Nat} {cs:Array Value} {T:TypeId} (h:Wk W b nv fi ns L S w) (hq:(k,Obj.cells cs T (0,0))∈L):KB k cs T w:=by
 obtain⟨sv,tv,mv,fv,h⟩:=h
 exact(h.loc _ hq).1
def Sc.useO (S:Sc) (s:ByteArray) (i:Nat):Option Sc:=if i<S.slots.length∧S.seen.length≤2000∧S.free.length≤2000 then some (S.use s i) else none
def Sc.seeO (S:Sc) (s:ByteArray) (i:Int):Option Sc:=if S.seen.length≤2000∧S.made.length≤2000 then some (S.see s i) else none
def seesO (i:Int):List ByteArray→Sc→Option Sc
 | [],S=>some S
 | s::l,S=>(S.seeO s i).bind (seesO i l)
def exprS (ns:List Nd):Nat→Int→Sc→Option Sc
 | 0,i,S=>if i<0 then some S else none
 | f+1,i,S=>if i<0 then some S else
  match ns[i.toNat]? with
  | none=>none
  | some z=>(exprS ns f z.a S).bind fun S1=>(exprS ns f z.b S1).bind fun S2=>if z.k=4 then S2.useO z.s i.toNat else some S2
def qbg (B:Int→Sc→Option Sc) (first i:Int) (names:List ByteArray) (S:Sc):Option Sc :=
 (seesO i names S).bind fun S1=>(B first S1).bind fun S2=>if S.seen.length≤S2.seen.length then some { S2 with seen:=S2.seen.take S.seen.length } else none
def Sc.slot (S:Sc) (i:Nat):Option Sc:=if i<S.slots.length then some { S with slots:=S.slots.set i S.seen.length } else none
def stmS (E B:Int→Sc→Option Sc) (i:Nat) (z:Nd) (S:Sc):Option Sc:=(E z.a S).bind fun S1 =>
 if z.k=22 then E z.b S1
 else if z.k=20 then(S1.slot i).bind fun S2=>S2.seeO z.s i
 else if z.k=21 then S1.useO z.s i
 else if z.k=24 then(qbg B z.b i [] S1).bind (qbg B z.c i [])
 else if z.k=25 then(S1.slot i).bind (qbg B z.b i [z.s,z.t])
 else if z.k=26 then qbg B z.b i [] S1
 else some S1
def blkS (ns:List Nd):Nat→Int→Sc→Option Sc
 | 0,i,S=>if i<0 then some S else none
 | f+1,i,S=>if i<0 then some S else
  match ns[i.toNat]? with
  | none=>none
  | some z=>(stmS (exprS ns f) (blkS ns f) i.toNat z S).bind (blkS ns f z.x)
theorem qab {α β:Type} {x:Option α} {g:α→Option β} {r:β} (h:x.bind g=some r):∃ a,x=some a∧g a=some r:=Option.bind_eq_some_iff.1 h
theorem exprS_neg (ns:List Nd) (f:Nat) (i:Int) (S:Sc) (h:i<0):exprS ns f i S=some S:=by
 cases f<;>(unfold exprS;rw[if_pos h])
theorem qbO {f:Nat} {i:Int} {S R:Sc} (h:0≤i) (hR:exprS ns f i S=some R):∃ g j z S1 S2,f=g+1∧i=((j:Nat):Int)∧ns[j]?=some z∧exprS ns g z.a S=some S1∧exprS ns g z.b S1=some S2∧(if z.k=4 then S2.useO z.s j else some S2)=some R:=by
 cases f with
 | zero=>unfold exprS at hR;rw[if_neg zac] at hR;cases hR
 | succ g =>
  unfold exprS at hR;rw[if_neg zac] at hR
  obtain⟨j,rfl⟩:∃ j:Nat,i=(j:Int):=⟨i.toNat,by omega⟩
  rw[Int.toNat_natCast] at hR
  split at hR
  · cases hR
  · rename_i z hz
    obtain⟨S1,h1,hR⟩:=qab hR
    obtain⟨S2,h2,hR⟩:=qab hR
    exact⟨g,j,z,S1,S2,rfl,rfl,hz,h1,h2,hR⟩
theorem qeG {S R:Sc} {s:ByteArray} {i:Nat} (h:S.useO s i=some R):i<S.slots.length∧S.seen.length≤2000∧S.free.length≤2000∧R=S.use s i:=by
 unfold Sc.useO at h
 split at h
 · rename_i q;exact⟨q.1,q.2.1,q.2.2,(Option.some.inj h).symm⟩
 · cases h
theorem qbP {S R:Sc} {s:ByteArray} {i:Int} (h:S.seeO s i=some R):S.seen.length≤2000∧S.made.length≤2000∧R=S.see s i:=by
 unfold Sc.seeO at h
 split at h
 · rename_i q;exact⟨q.1,q.2,(Option.some.inj h).symm⟩
 · cases h
theorem qck {S R:Sc} {i:Nat} (h:S.slot i=some R):i<S.slots.length∧R={ S with slots:=S.slots.set i S.seen.length }:=by
 unfold Sc.slot at h
 split at h
 · rename_i q;exact⟨q,(Option.some.inj h).symm⟩
 · cases h
theorem useO_any {L:List (Nat × Obj)} {S R:Sc} {w:World} (h:Wk W b nv fi ns L S w) (s:ByteArray) (i:Nat) (hR:S.useO s i=some R) :
  Calls Tryz.prog 205 #[.pointer (some ⟨b,0,none⟩),.string s,.int .i64 (i:Int)] w fun r w'=>r=.returned (.tuple #[])∧Wk W b nv fi ns L R w':=by
 obtain⟨sv,tv,mv,fv,h⟩:=h
 obtain⟨a1,a2,a3,rfl⟩:=qeG hR
 exact use_any h s i a1 a2 a3
theorem seeO_any {L:List (Nat × Obj)} {S R:Sc} {w:World} (h:Wk W b nv fi ns L S w) (s:ByteArray) (i:Int) (hR:S.seeO s i=some R) :
  Calls Tryz.prog 174 #[.pointer (some ⟨b,0,none⟩),.string s,.int .i64 i] w fun r w'=>r=.returned (.tuple #[])∧Wk W b nv fi ns L R w':=by
 obtain⟨sv,tv,mv,fv,h⟩:=h
 obtain⟨a1,a2,rfl⟩:=qbP hR
 exact see_any h s i a1 a2
theorem Wk.node {L:List (Nat × Obj)} {S:Sc} {w:World} (h:Wk W b nv fi ns L S w) {j:Nat} {z:Nd} (hz:ns[j]?=some z) :
  ∃ G n cap,nv=.slice (some ⟨G,0,none⟩) n cap∧G<w.heap.size∧j<n∧b<w.heap.size∧w.cell? ⟨b,0,none⟩=some (.slice (some ⟨G,0,none⟩) n cap) ∧
  w.cell? ⟨G,j*8,none⟩=some (.int .i64 z.k)∧w.cell? ⟨G,j*8+1,none⟩=some (.int .i64 z.a)∧w.cell? ⟨G,j*8+2,none⟩=some (.int .i64 z.b)∧w.cell? ⟨G,j*8+3,none⟩=some (.int .i64 z.c)∧w.cell? ⟨G,j*8+4,none⟩=some (.int .i64 z.x)∧w.cell? ⟨G,j*8+5,none⟩=some (.int .i64 z.i)∧w.cell? ⟨G,j*8+6,none⟩=some (.string z.s)∧w.cell? ⟨G,j*8+7,none⟩=some (.string z.t):=by
 obtain⟨sv,tv,mv,fv,h⟩:=h
 have hj:=(List.getElem?_eq_some_iff.1 hz).1
 rcases Go.Joins.ownsRow_forms h.row with ⟨_,h0⟩ | ⟨g1,c1,h0⟩
 · omega
 · have hr:=h.row
   subst h0
   have kb:KB b _ _ w:=h.cell
   exact⟨g1,ns.length,c1,rfl,(hr.lt g1 rfl).2,hj,kb.lt,kb.cell 0 _ rfl,nd_at hr hz⟩
theorem sexpr_neg {L:List (Nat × Obj)} {S:Sc} {w:World} (i:Int) (hi:i<0) (h:Wk W b nv fi ns L S w) :
  Calls Tryz.prog 204 #[.pointer (some ⟨b,0,none⟩),.int .i64 i] w fun r w'=>r=.returned (.tuple #[])∧Wk W b nv fi ns L S w':=by
 have H:=Lib.hid h;clear h;go_enter Tryz.func204,Tryz.ntmps204;go_wp2_with fail;refine yae ?_
 exact⟨rfl,H.out⟩
theorem sexpr_any:∀ (f:Nat) (L:List (Nat × Obj)) (S R:Sc) (w:World) (i:Int),exprS ns f i S=some R→Wk W b nv fi ns L S w →
  Calls Tryz.prog 204 #[.pointer (some ⟨b,0,none⟩),.int .i64 i] w fun r w'=>r=.returned (.tuple #[])∧Wk W b nv fi ns L R w':=by
 intro f
 induction f with
 | zero =>
  intro L S R w i hR h
  by_cases hi:i<0
  · rw[exprS_neg ns 0 i S hi] at hR
    cases hR
    exact sexpr_neg i hi h
  · obtain⟨g,_,_,_,_,e,_⟩:=qbO zac hR
    cases e
 | succ f ih =>
  intro L S R w i hR h
  by_cases hi:i<0
  · rw[exprS_neg ns _ i S hi] at hR
    cases hR
    exact sexpr_neg i hi h
  obtain⟨g,j,⟨zk,za,zb,zc,zx,zi,zs,zt⟩,S1,S2,e,rfl,hz,h1,h2,h3⟩:=qbO zac hR
  obtain rfl:f=g:=by omega
  dsimp only at h1 h2 h3
  obtain⟨G,n,cap,rfl,hG,hj,lb,c0,a0,a1,a2,a3,a4,a5,a6,a7⟩:=h.node hz
  dsimp only at a0 a1 a2 a3 a4 a5 a6 a7;have C1:=Lib.hid (fun w1 (hw:Wk W b (.slice (some ⟨G,0,none⟩) n cap) fi ns ((w.heap.size,.cells #[.int .i64 zk,.int .i64 za,.int .i64 zb,.int .i64 zc,.int .i64 zx,.int .i64 zi,.string zs,.string zt] 166 (0,0))::L) S w1)=>ih _ S S1 w1 za h1 hw);have C2:=Lib.hid (fun w1 (hw:Wk W b (.slice (some ⟨G,0,none⟩) n cap) fi ns ((w.heap.size,.cells #[.int .i64 zk,.int .i64 za,.int .i64 zb,.int .i64 zc,.int .i64 zx,.int .i64 zi,.string zs,.string zt] 166 (0,0))::L) S1 w1)=>ih _ S1 S2 w1 zb h2 hw);refine yal ?_;intro H0
  have hj0:0≤(j:Int):=by omega
  have hjn:(j:Int)<(n:Int):=by omega
  by_cases hk:zk=4
  · rw[if_pos hk] at h3
    have C3:=Lib.hid (fun w1 (hw:Wk W b (.slice (some ⟨G,0,none⟩) n cap) fi ns ((w.heap.size,.cells #[.int .i64 zk,.int .i64 za,.int .i64 zb,.int .i64 zc,.int .i64 zx,.int .i64 zi,.string zs,.string zt] 166 (0,0))::L) S2 w1)=>useO_any hw zs j h3);subst hk;clear ih hR h hz h1 h2 h3 hi hj e;go_enter Tryz.func204,Tryz.ntmps204
    go_wp2_with (first
     | ((with_reducible refine (C1.out _ H0.out).mono ?_);rintro e' w2 ⟨rfl,h2⟩;have H2:=Lib.hid h2;clear h2;have KX:=Lib.hid (H2.out.locAt List.mem_cons_self);have x2:=KX.out.cell 2 _ rfl;have lx:=KX.out.lt)
     | ((with_reducible refine (C2.out _ H2.out).mono ?_);rintro e' w3 ⟨rfl,h3⟩;have H3:=Lib.hid h3;clear h3;have KX3:=Lib.hid (H3.out.locAt List.mem_cons_self);have x30:=KX3.out.cell 0 _ rfl;have x36:=KX3.out.cell 6 _ rfl;have lx3:=KX3.out.lt)
     | ((with_reducible refine (C3.out _ H3.out).mono ?_);rintro e' w4 ⟨rfl,h4⟩;have H4:=Lib.hid h4;clear h4))
    refine yae ?_
    exact⟨rfl,H4.out.locOut⟩
  · rw[if_neg hk] at h3
    cases h3
    have hk2:(zk==4)=false:=by simpa using hk
    clear ih hR h hz h1 h2 hi hj e hk;go_enter Tryz.func204,Tryz.ntmps204
    go_wp2_with (first
     | ((with_reducible refine (C1.out _ H0.out).mono ?_);rintro e' w2 ⟨rfl,h2⟩;have H2:=Lib.hid h2;clear h2;have KX:=Lib.hid (H2.out.locAt List.mem_cons_self);have x2:=KX.out.cell 2 _ rfl;have lx:=KX.out.lt)
     | ((with_reducible refine (C2.out _ H2.out).mono ?_);rintro e' w3 ⟨rfl,h3⟩;have H3:=Lib.hid h3;clear h3;have KX3:=Lib.hid (H3.out.locAt List.mem_cons_self);have x30:=KX3.out.cell 0 _ rfl;have lx3:=KX3.out.lt))
    refine yae ?_
    exact⟨rfl,H3.out.locOut⟩
theorem node_u (h:CkSt W c H nv ns fi n g w) (j:Nat) (zk za zb zc zx zi:Int) (zs zt:ByteArray) (hz:ns[j]?=some ⟨zk,za,zb,zc,zx,zi,zs,zt⟩) (hs:zs.size≤maxLen) (hb:∀ j,j<n→g j≤8000) (hn:n≤512)
  (k1:qcg zk=true) (k2:numOk zk zc zi=true) (k3:(txt1 zt (shT zk)&&txt2 zk zs (shS zk))=true) :
  Calls Tryz.prog 169 #[.pointer (some ⟨c,0,none⟩),.int .i64 (j:Int)] w fun e w'=>e=.returned (.bool (aB ns j ⟨zk,za,zb,zc,zx,zi,zs,zt⟩&&bB ns j ⟨zk,za,zb,zc,zx,zi,zs,zt⟩&&cB ns j ⟨zk,za,zb,zc,zx,zi,zs,zt⟩&&xB ns j ⟨zk,za,zb,zc,zx,zi,zs,zt⟩)) ∧
   CkSt W c H nv ns fi n (addB (xB ns j ⟨zk,za,zb,zc,zx,zi,zs,zt⟩) zx (addB (cB ns j ⟨zk,za,zb,zc,zx,zi,zs,zt⟩) zc (addB (bB ns j ⟨zk,za,zb,zc,zx,zi,zs,zt⟩) zb (addB (aB ns j ⟨zk,za,zb,zc,zx,zi,zs,zt⟩) za g)))) w':=by
 have hj:j<n:=by have:=(List.getElem?_eq_some_iff.1 hz).1;have:=h.base.2.2.2;omega
 have hp:∃ G cap,nv=.slice (some ⟨G,0,none⟩) n cap:=by
  rcases Go.Joins.ownsRow_forms h.row with ⟨_,h0⟩ | ⟨g1,c1,h0⟩
  · omega
  · exact⟨g1,c1,h0⟩
 obtain⟨G,cap,rfl⟩:=hp
 obtain⟨a0,a1,a2,a3,a4,a5,a6,a7⟩:=nd_at h.row hz
 dsimp only at a0 a1 a2 a3 a4 a5 a6 a7;have hG:=(h.row.lt G rfl).2
 obtain⟨c0,c1,c2,lc,lH⟩:=h.facts
 have HS0:=Lib.hid h;have HB0:=Lib.hid hb;have SH:=Lib.hid (fun w1=>shape_any zk w1);rw[k1] at SH;have NM:=Lib.hid (fun w1=>num_any zk za zb zc zx zi zs zt w1);rw[k2] at NM;have TX:=Lib.hid (fun w1=>texts_x zk za zb zc zx zi zs zt hs (shA zk) (shB zk) (shBB zk) (shBC zk) (shS zk) (shT zk) w1);rw[k3] at TX
 obtain⟨zz,hzz⟩:∃ zz:Nd,zz=⟨zk,za,zb,zc,zx,zi,zs,zt⟩:=⟨_,rfl⟩
 rw[←hzz];have EA:=Lib.hid (show aB ns j zz=if shA zk=true then qal ns za 0 (j:Int) false else za==-1 from by rw[hzz];rfl);have EB:=Lib.hid (show bB ns j zz=if shB zk=true then qal ns zb 0 (j:Int) false else if shBB zk=true then blkB ns zb (j:Int) else zb==-1 from by rw[hzz];rfl);have EC:=Lib.hid (show cB ns j zz=(zc==-1||(shBC zk&&blkB ns zc (j:Int))) from by rw[hzz];rfl);have EX:=Lib.hid (show xB ns j zz=(zx==-1||(decide (20≤zk)&&qal ns zx ((j:Int)+1) n true)) from by rw[hzz,←h.base.2.2.2];rfl)
 obtain⟨sA,hA⟩:∃ b,shA zk=b:=⟨_,rfl⟩
 obtain⟨sB,hB⟩:∃ b,shB zk=b:=⟨_,rfl⟩
 obtain⟨sBB,hBB⟩:∃ b,shBB zk=b:=⟨_,rfl⟩
 obtain⟨sBC,hBC⟩:∃ b,shBC zk=b:=⟨_,rfl⟩
 obtain⟨bS,hS⟩:∃ bS,shS zk=bS:=⟨_,rfl⟩
 obtain⟨bT,hT⟩:∃ bT,shT zk=bT:=⟨_,rfl⟩
 obtain⟨A,hAq⟩:∃ b,aB ns j zz=b:=⟨_,rfl⟩
 obtain⟨B,hBq⟩:∃ b,bB ns j zz=b:=⟨_,rfl⟩
 obtain⟨C,hCq⟩:∃ b,cB ns j zz=b:=⟨_,rfl⟩
 obtain⟨X,hXq⟩:∃ b,xB ns j zz=b:=⟨_,rfl⟩
 rw[hA,hB,hBB,hBC,hS,hT] at SH TX;rw[hAq,hA] at EA;rw[hBq,hB,hBB] at EB;rw[hCq,hBC] at EC;rw[hXq] at EX;rw[hAq,hBq,hCq,hXq]
 have hj0:0≤(j:Int):=by omega
 have hjn:(j:Int)<(n:Int):=by omega
 have hn0:(n:Int)≤512:=by omega
 clear h hb hz hs k1 k2 k3 hA hB hBB hBC hS hT hj c1 c2 hzz hAq hBq hCq hXq;have HNE:=Lib.hid (show w.heap.size≠H from by omega);have HLH:=Lib.hid lH;go_enter Tryz.func169,Tryz.ntmps169
 go_upto_if 43 with (first
   | (((with_reducible refine (SH.out _).mono ?_);rintro e' _ ⟨rfl,d1,os1,rfl⟩))
   | (((with_reducible refine (NM.out _).mono ?_);rintro e' _ ⟨rfl,d2,os2,rfl⟩))
   | (((with_reducible refine (TX.out _).mono ?_);rintro e' _ ⟨rfl,d3,os3,rfl⟩)))
 obtain⟨W1,hW⟩:∃ W1,more ((more (w.alloc (.cells #[.int .i64 zk,.int .i64 za,.int .i64 zb,.int .i64 zc,.int .i64 zx,.int .i64 zi,.string zs,.string zt] 166)) d1 os1).alloc (.cells #[.bool sA,.bool sB,.bool sBB,.bool sBC,.bool bS,.bool bT] 261)) d3 (os2++os3)=W1:=⟨_,rfl⟩
 show Code.wp _ _ _ _ (more ((more (w.alloc (.cells #[.int .i64 zk,.int .i64 za,.int .i64 zb,.int .i64 zc,.int .i64 zx,.int .i64 zi,.string zs,.string zt] 166)) d1 os1).alloc (.cells #[.bool sA,.bool sB,.bool sBB,.bool sBC,.bool bS,.bool bT] 261)) d3 (os2++os3))
 rw[hW]
 have Q1:=Lib.hid (show CkSt W c H (.slice (some ⟨G,0,none⟩) n cap) ns fi n g W1∧KB w.heap.size #[.int .i64 zk,.int .i64 za,.int .i64 zb,.int .i64 zc,.int .i64 zx,.int .i64 zi,.string zs,.string zt] 166 W1∧KB (w.heap.size+1+os1.size) #[.bool sA,.bool sB,.bool sBB,.bool sBC,.bool bS,.bool bT] 261 W1 from by
  rw[←hW]
  exact⟨((HS0.out.alloc _).more _ _ |>.alloc _).more _ _,(((KB.new _ _ _).more _ _).alloc _).more _ _,(KB.newAt (k:=w.heap.size+1+os1.size) _ _ _ (by first | simp[more_size] | (rw[more_size];rfl))).more _ _⟩)
 clear hW a0 a1 a2 a3 a4 a5 a6 a7 c0 hG lc lH
 obtain⟨b5,hb5⟩:∃ b5,w.heap.size=b5:=⟨_,rfl⟩
 obtain⟨b6,hb6⟩:∃ b6,b5+1+os1.size=b6:=⟨_,rfl⟩
 have N5:=Lib.hid (show b5≠H from by rw[←hb5];exact HNE.out);have N6:=Lib.hid (show b6≠H from by have:=HLH.out;omega);rw[hb5,hb6] at Q1;rw[hb5,hb6];clear hb5 hb6 HNE HLH HS0
 obtain⟨c0,c1,c2,lc,lH⟩:=Q1.out.1.facts
 have n0:=Q1.out.2.1.cell 0 _ rfl;have n1:=Q1.out.2.1.cell 1 _ rfl;have n2:=Q1.out.2.1.cell 2 _ rfl;have n3:=Q1.out.2.1.cell 3 _ rfl;have n4:=Q1.out.2.1.cell 4 _ rfl;have l5:=Q1.out.2.1.lt;have s0:=Q1.out.2.2.cell 0 _ rfl;have s1:=Q1.out.2.2.cell 1 _ rfl;have s2:=Q1.out.2.2.cell 2 _ rfl;have s3:=Q1.out.2.2.cell 3 _ rfl;have l6:=Q1.out.2.2.lt
 go_cut [8] (fun s8 wx=>s8=.bool A∧CkSt W c H (.slice (some ⟨G,0,none⟩) n cap) ns fi n (addB A za g) wx∧KB b5 #[.int .i64 zk,.int .i64 za,.int .i64 zb,.int .i64 zc,.int .i64 zx,.int .i64 zi,.string zs,.string zt] 166 wx∧KB b6 #[.bool sA,.bool sB,.bool sBB,.bool sBC,.bool bS,.bool bT] 261 wx)
 case first =>
  have TA:=Lib.hid (qcC Q1.out.1 za 0 (j:Int) false zac zac (fun q hq=>by have:=HB0.out q hq;omega))
  cases sA
  · have HQ:=Lib.hid (show CkSt W c H (.slice (some ⟨G,0,none⟩) n cap) ns fi n (addB A za g) W1 from Q1.out.1.idB A za (fun e=>by have:=EA.out;rw[e] at this;simpa using this.symm))
    have hv:=EA.out;rw[if_neg zaj] at hv;subst hv;go_wp2_with fail
    go_meet
    exact⟨rfl,HQ.out,Q1.out.2⟩
  · have hv:=EA.out
    rw[if_pos rfl] at hv;rw[←hv] at TA;clear hv
    go_wp2_with ((with_reducible refine TA.out.mono ?_);rintro e' w1 ⟨rfl,h1,h2⟩;have H1:=Lib.hid (show _∧_∧_ from⟨h1,Q1.out.2.1.kept h2 N5.out,Q1.out.2.2.kept h2 N6.out⟩);clear h1 h2)
    go_meet
    exact⟨rfl,H1.out⟩
 case rest =>
  clear c0 c1 c2 lc lH n0 n1 n2 n3 n4 l5 s0 s1 s2 s3 l6
  obtain⟨rfl,hq⟩:=hcut
  rename World=>W2
  have Q2:=Lib.hid hq;clear hq
  obtain⟨c0,c1,c2,lc,lH⟩:=Q2.out.1.facts
  have n0:=Q2.out.2.1.cell 0 _ rfl;have n1:=Q2.out.2.1.cell 1 _ rfl;have n2:=Q2.out.2.1.cell 2 _ rfl;have n3:=Q2.out.2.1.cell 3 _ rfl;have n4:=Q2.out.2.1.cell 4 _ rfl;have l5:=Q2.out.2.1.lt;have s0:=Q2.out.2.2.cell 0 _ rfl;have s1:=Q2.out.2.2.cell 1 _ rfl;have s2:=Q2.out.2.2.cell 2 _ rfl;have s3:=Q2.out.2.2.cell 3 _ rfl;have l6:=Q2.out.2.2.lt;have HB1:=Lib.hid (fun q hq=>qgf A za g q 8000 (HB0.out q hq))
  go_upto_block 0 with fail
  go_cut [9] (fun s9 wx=>s9=.bool B∧CkSt W c H (.slice (some ⟨G,0,none⟩) n cap) ns fi n (addB B zb (addB A za g)) wx∧KB b5 #[.int .i64 zk,.int .i64 za,.int .i64 zb,.int .i64 zc,.int .i64 zx,.int .i64 zi,.string zs,.string zt] 166 wx∧KB b6 #[.bool sA,.bool sB,.bool sBB,.bool sBC,.bool bS,.bool bT] 261 wx)
  case first =>
   have TA:=Lib.hid (qcC Q2.out.1 zb 0 (j:Int) false zac zac (fun q hq=>by have:=HB1.out q hq;omega));have TB:=Lib.hid (qdE Q2.out.1 zb (j:Int) zac (fun q hq=>by have:=HB1.out q hq;omega));have hv:=EB.out
   cases sB
   · rw[if_neg zaj] at hv
     cases sBB
     · rw[if_neg zaj] at hv
       subst hv;have HQ:=Lib.hid (show CkSt W c H (.slice (some ⟨G,0,none⟩) n cap) ns fi n (addB (zb==-1) zb (addB A za g)) W2 from Q2.out.1.idB (zb==-1) zb (fun e=>by simpa using e));go_wp2_with fail
       go_meet
       exact⟨rfl,HQ.out,Q2.out.2⟩
     · rw[if_pos rfl] at hv
       rw[←hv] at TB;clear hv
       go_wp2_with ((with_reducible refine TB.out.mono ?_);rintro e' w1 ⟨rfl,h1,h2⟩;have H1:=Lib.hid (show _∧_∧_ from⟨h1,Q2.out.2.1.kept h2 N5.out,Q2.out.2.2.kept h2 N6.out⟩);clear h1 h2)
       go_meet
       exact⟨rfl,H1.out⟩
   · rw[if_pos rfl] at hv
     rw[←hv] at TA;clear hv
     go_wp2_with ((with_reducible refine TA.out.mono ?_);rintro e' w1 ⟨rfl,h1,h2⟩;have H1:=Lib.hid (show _∧_∧_ from⟨h1,Q2.out.2.1.kept h2 N5.out,Q2.out.2.2.kept h2 N6.out⟩);clear h1 h2)
     go_meet
     exact⟨rfl,H1.out⟩
  case rest =>
   clear c0 c1 c2 lc lH n0 n1 n2 n3 n4 l5 s0 s1 s2 s3 l6
   obtain⟨rfl,hq⟩:=hcut
   rename World=>W3
   have Q3:=Lib.hid hq;clear hq
   obtain⟨c0,c1,c2,lc,lH⟩:=Q3.out.1.facts
   have n0:=Q3.out.2.1.cell 0 _ rfl;have n1:=Q3.out.2.1.cell 1 _ rfl;have n2:=Q3.out.2.1.cell 2 _ rfl;have n3:=Q3.out.2.1.cell 3 _ rfl;have n4:=Q3.out.2.1.cell 4 _ rfl;have l5:=Q3.out.2.1.lt;have s0:=Q3.out.2.2.cell 0 _ rfl;have s1:=Q3.out.2.2.cell 1 _ rfl;have s2:=Q3.out.2.2.cell 2 _ rfl;have s3:=Q3.out.2.2.cell 3 _ rfl;have l6:=Q3.out.2.2.lt;have HB2:=Lib.hid (fun q hq=>qgf B zb _ q 8001 (HB1.out q hq))
   go_upto_region 13 with fail
   go_cut [10] (fun s10 wx=>s10=.bool C∧CkSt W c H (.slice (some ⟨G,0,none⟩) n cap) ns fi n (addB C zc (addB B zb (addB A za g))) wx∧KB b5 #[.int .i64 zk,.int .i64 za,.int .i64 zb,.int .i64 zc,.int .i64 zx,.int .i64 zi,.string zs,.string zt] 166 wx∧KB b6 #[.bool sA,.bool sB,.bool sBB,.bool sBC,.bool bS,.bool bT] 261 wx)
   case first =>
    have TA:=Lib.hid (qdE Q3.out.1 zc (j:Int) zac (fun q hq=>by have:=HB2.out q hq;omega));have hv:=EC.out
    cases qc:(zc==-1)
    · rw[qc,Bool.false_or] at hv
      cases sBC
      · rw[Bool.false_and] at hv
        subst hv;have HQ:=Lib.hid (show CkSt W c H (.slice (some ⟨G,0,none⟩) n cap) ns fi n (addB false zc (addB B zb (addB A za g))) W3 from Q3.out.1.idB false zc (fun e=>absurd e zaj));go_wp2_with fail
        go_meet
        exact⟨rfl,HQ.out,Q3.out.2⟩
      · rw[Bool.true_and] at hv
        rw[←hv] at TA;clear hv
        go_wp2_with ((with_reducible refine TA.out.mono ?_);rintro e' w1 ⟨rfl,h1,h2⟩;have H1:=Lib.hid (show _∧_∧_ from⟨h1,Q3.out.2.1.kept h2 N5.out,Q3.out.2.2.kept h2 N6.out⟩);clear h1 h2)
        go_meet
        exact⟨rfl,H1.out⟩
    · rw[qc,Bool.true_or] at hv
      subst hv;have HQ:=Lib.hid (show CkSt W c H (.slice (some ⟨G,0,none⟩) n cap) ns fi n (addB true zc (addB B zb (addB A za g))) W3 from Q3.out.1.idB true zc (fun e=>by simpa using qc));go_wp2_with fail
      go_meet
      exact⟨rfl,HQ.out,Q3.out.2⟩
   case rest =>
    clear c0 c1 c2 lc lH n0 n1 n2 n3 n4 l5 s0 s1 s2 s3 l6
    obtain⟨rfl,hq⟩:=hcut
    rename World=>W4
    have Q4:=Lib.hid hq;clear hq
    obtain⟨c0,c1,c2,lc,lH⟩:=Q4.out.1.facts
    have n0:=Q4.out.2.1.cell 0 _ rfl;have n1:=Q4.out.2.1.cell 1 _ rfl;have n2:=Q4.out.2.1.cell 2 _ rfl;have n3:=Q4.out.2.1.cell 3 _ rfl;have n4:=Q4.out.2.1.cell 4 _ rfl;have l5:=Q4.out.2.1.lt;have s0:=Q4.out.2.2.cell 0 _ rfl;have s1:=Q4.out.2.2.cell 1 _ rfl;have s2:=Q4.out.2.2.cell 2 _ rfl;have s3:=Q4.out.2.2.cell 3 _ rfl;have l6:=Q4.out.2.2.lt;have HB3:=Lib.hid (fun q hq=>qgf C zc _ q 8002 (HB2.out q hq));have TA:=Lib.hid (fun dd oo=>qcC (Q4.out.1.more dd oo) zx ((j:Int)+1) n true zac zac (fun q hq=>by have:=HB3.out q hq;omega));have hv:=EX.out
    go_upto_region 14 with fail
    cases qx:(zx==-1)
    rotate_left
    · rw[qx,Bool.true_or] at hv
      subst hv;have HQ:=Lib.hid (Q4.out.1.idB true zx (fun _=>by simpa using qx));refine qaa 19 114 (List.replicate 19 false) zaf zaf rfl ?_;refine yac ?_
      repeat(refine Lex.step rfl ?_;intro K hK;unfold StepG;go_simp;refine hK _ ?_;clear hK K)
      refine yaa ?_;intro dd oo;go_wp2_with fail
      try rw[ends_normal]
      try go_wp2_with fail
      all_goals
       go_ret
       exact⟨ret_bool (by cases A<;>cases B<;>cases C<;>first | rfl | contradiction | simp_all),HQ.out.more _ _⟩
    rw[qx,Bool.false_or] at hv
    by_cases hz20:20≤zk
    rotate_left
    · have hzd:decide (20≤zk)=false:=decide_eq_false hz20
      rw[hzd,Bool.false_and] at hv;subst hv;have HQ:=Lib.hid (Q4.out.1.idB false zx (fun e=>absurd e zaj));refine qaa 19 114 (List.replicate 19 false) zaf zaf rfl ?_;refine yac ?_
      repeat(refine Lex.step rfl ?_;intro K hK;unfold StepG;go_simp;refine hK _ ?_;clear hK K)
      refine yaa ?_;intro dd oo;go_wp2_with fail
      try rw[ends_normal]
      try go_wp2_with fail
      all_goals
       go_ret
       exact⟨ret_bool (by cases A<;>cases B<;>cases C<;>first | rfl | contradiction | simp_all),HQ.out.more _ _⟩
    have hzd:decide (20≤zk)=true:=decide_eq_true hz20
    rw[hzd,Bool.true_and] at hv;rw[←hv] at TA;clear hv hz20;refine qaa 19 114 (List.replicate 19 false) zaf zaf rfl ?_;refine yac ?_
    repeat(refine Lex.step rfl ?_;intro K hK;unfold StepG;go_simp;refine hK _ ?_;clear hK K)
    refine yaa ?_;intro dd oo
    go_wp2_with ((with_reducible refine (TA.out _ _).mono ?_);rintro e' w1 ⟨rfl,h1,h2⟩;have HQ:=Lib.hid h1;clear h1 h2)
    try rw[ends_normal]
    try go_wp2_with fail
    all_goals
     go_ret
     exact⟨ret_bool (by cases A<;>cases B<;>cases C<;>first | rfl | contradiction | simp_all),HQ.out⟩
def prefs (z:Nd) (k:Int):Nat:=pone z.a k+pone z.b k+pone z.c k+pone z.x k
def pcnt (ns:List Nd) (k:Int):Nat:=(ns.map fun z=>prefs z k).sum
theorem node_h (h:CkSt W c H nv ns fi n g w) (j:Nat) (zk za zb zc zx zi:Int) (zs zt:ByteArray) (hz:ns[j]?=some ⟨zk,za,zb,zc,zx,zi,zs,zt⟩) (hs:zs.size≤maxLen) (k0:qdO ⟨zk,za,zb,zc,zx,zi,zs,zt⟩=false) :
  Calls Tryz.prog 169 #[.pointer (some ⟨c,0,none⟩),.int .i64 (j:Int)] w fun e w'=>e=.returned (.bool false)∧CkSt W c H nv ns fi n g w':=by
 have hj:j<n:=by have:=(List.getElem?_eq_some_iff.1 hz).1;have:=h.base.2.2.2;omega
 have hp:∃ G cap,nv=.slice (some ⟨G,0,none⟩) n cap:=by
  rcases Go.Joins.ownsRow_forms h.row with ⟨_,h0⟩ | ⟨g1,c1,h0⟩
  · omega
  · exact⟨g1,c1,h0⟩
 obtain⟨G,cap,rfl⟩:=hp
 obtain⟨a0,a1,a2,a3,a4,a5,a6,a7⟩:=nd_at h.row hz
 dsimp only at a0 a1 a2 a3 a4 a5 a6 a7;have hG:=(h.row.lt G rfl).2
 obtain⟨c0,c1,c2,lc,lH⟩:=h.facts
 have HS0:=Lib.hid h;have SH:=Lib.hid (fun w1=>shape_any zk w1);have NM:=Lib.hid (fun w1=>num_any zk za zb zc zx zi zs zt w1);have TX:=Lib.hid (fun w1=>texts_x zk za zb zc zx zi zs zt hs (shA zk) (shB zk) (shBB zk) (shBC zk) (shS zk) (shT zk) w1);unfold qdO at k0;dsimp only at k0
 obtain⟨T,hT⟩:∃ T,(txt1 zt (shT zk)&&txt2 zk zs (shS zk))=T:=⟨_,rfl⟩
 obtain⟨I,hI⟩:∃ I,qcg zk=I:=⟨_,rfl⟩
 obtain⟨M,hM⟩:∃ M,numOk zk zc zi=M:=⟨_,rfl⟩
 rw[hT] at TX k0;rw[hI] at SH k0;rw[hM] at NM k0
 obtain⟨sA,h1⟩:∃ x,shA zk=x:=⟨_,rfl⟩
 obtain⟨sB,h2⟩:∃ x,shB zk=x:=⟨_,rfl⟩
 obtain⟨sC,h3⟩:∃ x,shBB zk=x:=⟨_,rfl⟩
 obtain⟨sD,h4⟩:∃ x,shBC zk=x:=⟨_,rfl⟩
 obtain⟨sE,h5⟩:∃ x,shS zk=x:=⟨_,rfl⟩
 obtain⟨sF,h6⟩:∃ x,shT zk=x:=⟨_,rfl⟩
 rw[h1,h2,h3,h4,h5,h6] at SH TX
 have hj0:0≤(j:Int):=by omega
 have hjn:(j:Int)<(n:Int):=by omega
 clear h hz hs hj c1 c2 hT hI hM h1 h2 h3 h4 h5 h6
 cases I
 rotate_left
 · cases M
   rotate_left
   · cases T
     rotate_left
     · cases k0
     clear k0;go_enter Tryz.func169,Tryz.ntmps169
     go_wp2_with (first
      | (((with_reducible refine (SH.out _).mono ?_);rintro e' _ ⟨rfl,d1,os1,rfl⟩))
      | (((with_reducible refine (NM.out _).mono ?_);rintro e' _ ⟨rfl,d2,os2,rfl⟩))
      | (((with_reducible refine (TX.out _).mono ?_);rintro e' _ ⟨rfl,d3,os3,rfl⟩)))
     go_ret;exact yan
   clear k0;go_enter Tryz.func169,Tryz.ntmps169
   go_wp2_with (first
    | (((with_reducible refine (SH.out _).mono ?_);rintro e' _ ⟨rfl,d1,os1,rfl⟩))
    | (((with_reducible refine (NM.out _).mono ?_);rintro e' _ ⟨rfl,d2,os2,rfl⟩)))
   go_ret;exact yan
 clear k0;go_enter Tryz.func169,Tryz.ntmps169
 go_wp2_with (((with_reducible refine (SH.out _).mono ?_);rintro e' _ ⟨rfl,d1,os1,rfl⟩))
 go_ret;exact yan
theorem pnode_any (h:CkSt W c H nv ns fi n g w) (j:Nat) (z:Nd) (hz:ns[j]?=some z) (hs:z.s.size≤maxLen) (hb:∀ j,j<n→g j≤8000) (hn:n≤512) :
  Calls Tryz.prog 169 #[.pointer (some ⟨c,0,none⟩),.int .i64 (j:Int)] w fun e w'=>e=.returned (.bool (nodeB ns j z))∧∃ g',CkSt W c H nv ns fi n g' w'∧(nodeB ns j z=true→∀ k,g' k=g k+prefs z k):=by
 obtain⟨zk,za,zb,zc,zx,zi,zs,zt⟩:=z
 dsimp only at hs;have hL:=h.base.2.2.2
 cases hh:qdO ⟨zk,za,zb,zc,zx,zi,zs,zt⟩
 · refine (node_h h j zk za zb zc zx zi zs zt hz hs hh).mono ?_
   rintro e w' ⟨rfl,h1⟩
   have q:nodeB ns j ⟨zk,za,zb,zc,zx,zi,zs,zt⟩=false:=by unfold nodeB;rw[hh,Bool.false_and]
   rw[q]
   exact⟨rfl,g,h1,fun e=>absurd e zaj⟩
 have hh2:=hh;unfold qdO at hh2;dsimp only at hh2;simp only[Bool.and_eq_true] at hh2
 obtain⟨⟨k1,k2⟩,k3a,k3b⟩:=hh2
 have k3:(txt1 zt (shT zk)&&txt2 zk zs (shS zk))=true:=by rw[k3a,k3b];rfl
 have fin:∀ (A B C X:Bool) (w':World),nodeB ns j ⟨zk,za,zb,zc,zx,zi,zs,zt⟩=(A&&B&&C&&X)→CkSt W c H nv ns fi n (addB X zx (addB C zc (addB B zb (addB A za g)))) w' →
   (Ending.returned (.bool (A&&B&&C&&X)):Ending)=.returned (.bool (nodeB ns j ⟨zk,za,zb,zc,zx,zi,zs,zt⟩))∧∃ g',CkSt W c H nv ns fi n g' w'∧(nodeB ns j ⟨zk,za,zb,zc,zx,zi,zs,zt⟩=true→∀ k,g' k=g k+prefs ⟨zk,za,zb,zc,zx,zi,zs,zt⟩ k):=by
  intro A B C X w' e h1;rw[e];refine ⟨rfl,_,h1,fun q k=>?_⟩;simp only[Bool.and_eq_true] at q
  obtain⟨⟨⟨rfl,rfl⟩,rfl⟩,rfl⟩:=q
  unfold addB prefs;simp only[if_true]
  omega
 refine (node_u h j zk za zb zc zx zi zs zt hz hs hb hn k1 k2 k3).mono ?_;rintro e w' ⟨rfl,h1⟩;exact fin _ _ _ _ w' (by unfold nodeB;rw[hh,Bool.true_and]) h1
def allB (g:Nat→Nat) (n:Nat):Bool:=(List.range n).all fun j=>g j==1
theorem allB_no {j:Nat} (hj:j<n) (h:g j≠1):allB g n=false:=by
 unfold allB;rw[Bool.eq_false_iff];intro q
 have:=List.all_eq_true.1 q j (List.mem_range.2 hj)
 exact h (by simpa using this)
theorem allB_yes (h:∀ j,j<n→g j=1):allB g n=true:=by
 unfold allB
 exact List.all_eq_true.2 fun j hj=>by simpa using h j (List.mem_range.1 hj)
theorem pone_any (k:Int) (w:World):Calls Tryz.prog 172 #[.int .i64 k] w fun e w'=>e=.returned (.bool (k !=1))∧w'=w:=by
 go_enter Tryz.func172,Tryz.ntmps172;go_wp2_with fail;go_ret
 exact⟨ret_bool (by first | rfl | simp),rfl⟩
theorem pindex_any (h:w.rowIs H 3 n (fun j=>.int .i64 (g j:Int))) (hn:n≤512) (hb:∀ j,j<n→g j≤9000) :
  Calls Tryz.prog 201 #[.slice (some ⟨H,0,none⟩) n n,.func (.func 172) #[] #[]] w fun e w'=>(∃ r:Int,e=.returned (.int .i64 r)∧decide (0≤r)=!allB g n)∧w'=w:=by
 have HS:=Lib.hid h;have HBB:=Lib.hid hb
 have hni:(n:Int)≤512:=by omega
 have lH:=h.lt;clear h hb;go_enter Tryz.func201,Tryz.ntmps201;go_wp2_with fail
 go_loopg [5,8] n (fun gg _ s8 wr=>∃ kk:Nat,kk≤n∧n-kk≤gg∧s8=.int .i64 kk∧wr=w∧RowKit.Hid (∀ j,j<kk→g j=1))
 case atStart=>exact⟨0,Nat.zero_le _,by omega,rfl,rfl,Lib.hid fun j hj=>absurd hj (Nat.not_lt_zero _)⟩
 case round =>
  obtain⟨kk,hkk,hg,rfl,rfl,A⟩:=hrel
  by_cases hlt:kk<n
  · have hltz:(kk:Int)<(n:Int):=by omega
    have hk0:0≤(kk:Int):=by omega
    have hc:=HS.out.cell hlt
    by_cases h1:g kk=1
    · have hc1:wr.cell? ⟨H,kk,none⟩=some (.int .i64 1):=by rw[hc,h1];rfl
      have HP:=Lib.hid (pone_any 1 wr);clear hc
      go_wp2_with (go_at_call 172;refine HP.out.mono ?_;rintro e w' ⟨rfl,rfl⟩)
      go_roundg (n-(kk+1))
      case measure=>omega
      case rel =>
       refine ⟨kk+1,by omega,by omega,by go_num,rfl,Lib.hid fun j hj=>?_⟩
       by_cases e:j=kk
       · subst e;exact h1
       · exact A.out j zac
    · obtain⟨q,hq⟩:∃ q:Int,(g kk:Int)=q:=⟨_,rfl⟩
      have hc1:wr.cell? ⟨H,kk,none⟩=some (.int .i64 q):=by rw[hc,hq]
      have hq1:(q !=1)=true:=by simp;omega
      have HP:=Lib.hid (pone_any q wr);have HF:=Lib.hid (allB_no hlt h1);rw[hq1] at HP;clear hc h1 hq hq1
      go_wp2_with (go_at_call 172;refine HP.out.mono ?_;rintro e w' ⟨rfl,rfl⟩)
      go_ret
      exact⟨⟨_,rfl,by rw[HF.out];simp⟩,rfl⟩
  · have:kk=n:=by omega
    subst this;have HF:=Lib.hid (allB_yes A.out);go_wp2_with fail;go_ret
    exact⟨⟨_,rfl,by rw[HF.out];simp⟩,rfl⟩
theorem qgd (h:w.rowIs H 3 n (fun j=>.int .i64 (g j:Int))) (hn:n≤512) (hb:∀ j,j<n→g j≤9000) :
  Calls Tryz.prog 171 #[.slice (some ⟨H,0,none⟩) n n,.func (.func 172) #[] #[]] w fun e w'=>e=.returned (.bool (!allB g n))∧w'=w:=by
 have HI:=Lib.hid (pindex_any h hn hb);clear h hb;go_enter Tryz.func171,Tryz.ntmps171
 go_wp2_with (((with_reducible refine HI.out.mono ?_);rintro e' _ ⟨⟨r,rfl,hr⟩,rfl⟩))
 go_ret
 exact⟨by rw[←hr];rfl,rfl⟩
def qdb (ns:List Nd):Bool:=(List.range ns.length).all fun j=>match ns[j]? with | some z=>nodeB ns j z | none=>true
def onceB (ns:List Nd) (fi:Int):Bool:=allB (fun k=>pone fi k+pcnt ns k) ns.length
def mayB (ns:List Nd) (fi:Int):Bool:=decide (ns.length≤512)&&qdb ns&&blkB ns fi ns.length&&onceB ns fi
theorem nodesB_no {j:Nat} {z:Nd} (hz:ns[j]?=some z) (h:nodeB ns j z=false):qdb ns=false:=by
 unfold qdb;rw[Bool.eq_false_iff];intro q
 have:=List.all_eq_true.1 q j (List.mem_range.2 (List.getElem?_eq_some_iff.1 hz).1)
 rw[hz] at this;dsimp only at this;rw[h] at this
 cases this
theorem qeY (h:∀ j z,ns[j]?=some z→nodeB ns j z=true):qdb ns=true:=by
 unfold qdb
 refine List.all_eq_true.2 fun j hj=>?_
 cases hz:ns[j]? with
 | none=>rfl
 | some z=>exact h j z hz
theorem allB_congr {g':Nat→Nat} (h:∀ j,j<n→g j=g' j):allB g n=allB g' n:=by
 unfold allB;rw[Bool.eq_iff_iff];simp only[List.all_eq_true,List.mem_range]
 exact⟨fun q j hj=>by rw[←h j hj];exact q j hj,fun q j hj=>by rw[h j hj];exact q j hj⟩
theorem pcnt_take (ns:List Nd) (j:Nat) (z:Nd) (hz:ns[j]?=some z) (k:Int):pcnt (ns.take (j+1)) k=pcnt (ns.take j) k+prefs z k:=by
 rw[List.take_add_one,hz]
 simp[pcnt]
theorem pcnt_le (ns:List Nd) (k:Int):pcnt ns k≤4*ns.length:=by
 induction ns with
 | nil=>simp[pcnt]
 | cons z l ih =>
  have e2:pcnt (z::l) k=prefs z k+pcnt l k:=by simp[pcnt]
  have h1:∀ a,pone a k≤1:=fun a=>by unfold pone;split<;>omega
  have:=h1 z.a;have:=h1 z.b;have:=h1 z.c;have:=h1 z.x
  rw[e2];unfold prefs;simp only[List.length_cons];omega
theorem may_long (fi:Int) (w:World) (hr:w.ownsRow base 166 8 nv n (qac ns)) (hl:ns.length=n) (hn:512<n) :
  Calls Tryz.prog 134 #[.agg #[nv,.int .i64 fi]] w fun e w'=>e=.returned (.bool (mayB ns fi))∧Ext w w':=by
 have hq:mayB ns fi=false:=by unfold mayB;rw[decide_eq_false zac];rfl
 rw[hq]
 obtain⟨p1,c1,rfl⟩:=qad hr
 have hni:(512:Int)<(n:Int):=by omega
 clear hr hl hn hq;go_enter Tryz.func134,Tryz.ntmps134;go_wp2_with fail;go_ret
 exact⟨rfl,zab⟩
theorem may_short (fi:Int) (w:World) (hr:w.ownsRow base 166 8 nv n (qac ns)) (hl:ns.length=n) (hn:n≤512) (hs:∀ z∈ns,z.s.size≤maxLen) :
  Calls Tryz.prog 134 #[.agg #[nv,.int .i64 fi]] w fun e w'=>e=.returned (.bool (mayB ns fi))∧Ext w w':=by
 obtain⟨p1,c1,rfl⟩:=qad hr
 have HR:=Lib.hid (hr.mono (Nat.zero_le _));have HN:=Lib.hid hl;have HSZ:=Lib.hid hs
 have hni:(n:Int)≤512:=by omega
 have hm:mayB ns fi=(qdb ns&&blkB ns fi n&&allB (fun k=>pone fi k+pcnt ns k) n):=by unfold mayB onceB;rw[hl,decide_eq_true hn,Bool.true_and]
 rw[hm]
 have mk:=fun W=>run_make_row' (P:=Tryz.prog) 160 3 (.int .i64 0) 8 Tryz.underlying160 intInfo rfl .i64 .i64 n zac zac W
 clear hr hl hs hm;go_enter Tryz.func134,Tryz.ntmps134;go_wp2_with fail
 go_region
 go_wp2_with fail
 have OS0:=Lib.hid (show CkSt (w.alloc (.cells #[.slice p1 n c1,.int .i64 fi] 132 (0,0))) (w.heap.size+1+1) (w.heap.size+1) (.slice p1 n c1) ns fi n (fun _=>0) _ from
  ⟨(((Ext.refl (w.alloc (.cells #[.slice p1 n c1,.int .i64 fi] 132 (0,0)))).alloc (.cells (madeCells #[.int .i64 0] n) 3 (0,0))).alloc (.cells #[.slice p1 n c1,.int .i64 fi,.slice (some ⟨w.heap.size+1,0,none⟩) n n] 248 (0,0))).drew,
   by have:=heap_alloc_new ((w.alloc (.cells #[.slice p1 n c1,.int .i64 fi] 132 (0,0))).alloc (.cells (madeCells #[.int .i64 0] n) 3 (0,0))) (.cells #[.slice p1 n c1,.int .i64 fi,.slice (some ⟨w.heap.size+1,0,none⟩) n n] 248 (0,0));rw[World.size_alloc,World.size_alloc] at this;exact this,
   ((World.rowIs_made (w.alloc (.cells #[.slice p1 n c1,.int .i64 fi] 132 (0,0))) (.int .i64 0) n 3).alloc _ |> fun h=>by rw[World.size_alloc] at h;exact h.congr fun j _=>rfl),
   (((HR.out).alloc _).alloc _).alloc _,
   ⟨by rw[World.size_alloc];exact Nat.le_refl _,by omega,fun e=>by have:=(HR.out.lt _ e).2;omega,HN.out⟩⟩)
 have HBX:=Lib.hid (fun wr (hx:Ext (w.alloc (.cells #[.slice p1 n c1,.int .i64 fi] 132 (0,0))) wr)=>(KB.new w #[.slice p1 n c1,.int .i64 fi] 132).of_ext hx);have HEX:=Lib.hid ((Ext.refl w).alloc (.cells #[.slice p1 n c1,.int .i64 fi] 132 (0,0)))
 obtain⟨c,hc⟩:∃ c,w.heap.size+1+1=c:=⟨_,rfl⟩
 rw[hc] at OS0 ⊢
 obtain⟨H,hH⟩:∃ H,w.heap.size+1=H:=⟨_,rfl⟩
 rw[hH] at OS0 ⊢
 obtain⟨k1,hk1⟩:∃ k1,w.heap.size=k1:=⟨_,rfl⟩
 rw[hk1] at HBX ⊢
 obtain⟨W0,hW0⟩:∃ W0,w.alloc (.cells #[.slice p1 n c1,.int .i64 fi] 132 (0,0))=W0:=⟨_,rfl⟩
 rw[hW0] at OS0 HBX HEX ⊢;clear hc hH hk1 hW0 HR mk;go_loopw [19] (fun y wr=>∃ j:Nat,y=.int .i64 (j:Int)∧j≤n∧CkSt W0 c H (.slice p1 n c1) ns fi n (fun k=>pcnt (ns.take j) k) wr∧RowKit.Hid (∀ i z,i<j→ns[i]?=some z→nodeB ns i z=true)) (fun y _=>n-(intOf y).toNat)
 case atStart=>exact⟨0,rfl,Nat.zero_le _,OS0.out.congr fun j _=>by simp[pcnt],Lib.hid fun i z h=>absurd h (Nat.not_lt_zero _)⟩
 case round =>
  obtain⟨j,rfl,hj,hos,HA⟩:=hrel
  have OS:=Lib.hid hos;clear hos
  have hj0:0≤(j:Int):=by omega
  have hbd:RowKit.Hid (∀ m q,pcnt (ns.take m) q≤8000):=Lib.hid fun m q=>by have:=pcnt_le (ns.take m) q;rw[List.length_take] at this;have:=HN.out;omega
  by_cases hlt:j<n
  · obtain⟨z,hz⟩:∃ z,ns[j]?=some z:=⟨_,List.getElem?_eq_getElem (by rw[HN.out];exact hlt)⟩
    have HZ:=Lib.hid hz;have HLT:=Lib.hid hlt
    have hji:(j:Int)<(n:Int):=by omega
    have ND:=Lib.hid (pnode_any OS.out j z hz (HSZ.out z (List.mem_of_getElem? hz)) (fun q _=>hbd.out j q) hn);clear hz hlt
    cases q:nodeB ns j z
    · rw[q] at ND
      have HF:=Lib.hid (nodesB_no HZ.out q);clear q
      go_wp2_with (((with_reducible refine ND.out.mono ?_);rintro e' w2 ⟨rfl,g2,h2,_⟩;have OS2:=Lib.hid h2;clear h2))
      go_ret
      exact⟨ret_bool (by rw[HF.out];rfl),HEX.out.trans OS2.out.ext⟩
    · rw[q] at ND
      have HT:=Lib.hid q;clear q
      go_wp2_with (((with_reducible refine ND.out.mono ?_);rintro e' w2 ⟨rfl,g2,h2,h3⟩;have OS2:=Lib.hid h2;have H3:=Lib.hid (h3 rfl);clear h2 h3))
      go_roundw
      case rel =>
       refine ⟨j+1,by go_num,by have:=HLT.out;omega,OS2.out.congr fun q _=>?_,Lib.hid fun i y hi hy=>?_⟩
       · rw[H3.out q,pcnt_take ns j z HZ.out q]
       · by_cases e:i=j
         · subst e
           have e2:=hy.symm.trans HZ.out;simp only[Option.some.injEq] at e2;subst e2;exact HT.out
         · exact HA.out i y zac hy
      case measure=>have:=HLT.out;simp[intOf];omega
  · have hje:j=n:=by omega
    subst hje
    have hall:ns.take j=ns:=List.take_of_length_le (by rw[HN.out];omega)
    have hbd2:=hbd.out j;rw[hall] at OS hbd2;have HB2:=Lib.hid hbd2;have HY:=Lib.hid (qeY (ns:=ns) fun i z hz=>HA.out i z (by have:=(List.getElem?_eq_some_iff.1 hz).1;have:=HN.out;omega) hz);have KX:=Lib.hid (HBX.out wr OS.out.ext);have x0:=KX.out.cell 0 _ rfl;have x1:=KX.out.cell 1 _ rfl;have lx:=KX.out.lt;have BK:=Lib.hid (qdE OS.out fi (j:Int) zac (fun q _=>Nat.le_trans (HB2.out q) zac));clear hlt hall hbd hbd2
    cases q:blkB ns fi j
    · rw[q] at BK
      have HF:=Lib.hid q;clear q
      go_wp2_with (((with_reducible refine BK.out.mono ?_);rintro e' w2 ⟨rfl,h2,_⟩;have OS2:=Lib.hid h2;clear h2))
      go_ret
      exact⟨ret_bool (by rw[HF.out,Bool.and_false,Bool.false_and]),HEX.out.trans OS2.out.ext⟩
    · rw[q] at BK
      have HF:=Lib.hid q;clear q
      go_wp2_with (first | ((with_reducible refine BK.out.mono ?_);rintro e' w2 ⟨rfl,h2,_⟩;have OS2:=Lib.hid h2;clear h2;obtain⟨c0,c1',c2,lc,lH⟩:=OS2.out.facts;clear c0 c1';have CF:=Lib.hid (qgd OS2.out.had hn (fun q _=>Nat.le_trans (qgf true fi _ q 8000 (HB2.out q)) zac))) | ((with_reducible refine CF.out.mono ?_);rintro e' _ ⟨rfl,rfl⟩))
      go_ret
      exact⟨ret_bool (by rw[HY.out,HF.out];simp only[Bool.true_and,Bool.not_not];exact allB_congr fun q _=>by unfold addB;rw[if_pos rfl];exact Nat.add_comm _ _),HEX.out.trans OS2.out.ext⟩
theorem may_any (fi:Int) (w:World) (hr:w.ownsRow base 166 8 nv n (qac ns)) (hl:ns.length=n) (hs:∀ z∈ns,z.s.size≤maxLen) :
  Calls Tryz.prog 134 #[.agg #[nv,.int .i64 fi]] w fun e w'=>e=.returned (.bool (mayB ns fi))∧Ext w w':=by
 by_cases hn:n≤512
 · exact may_short fi w hr hl hn hs
 · exact may_long fi w hr hl zac
end Go.Proofs.YtpnabjopfpdkhaaGreatDoor
