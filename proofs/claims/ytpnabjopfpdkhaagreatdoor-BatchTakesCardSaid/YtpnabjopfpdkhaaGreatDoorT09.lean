/- Lemmas. -/
import Derived.Test.YtpnabjopfpdkhaaGreatDoorT08
import Derived.Deep.RegionHeldLaw
import Derived.Deep.AppendLies
import Derived.Outline
import Derived.StillTailTactics
set_option linter.unusedSimpArgs false
set_option linter.unusedVariables false
set_option maxHeartbeats 8000000
set_option maxRecDepth 20000
namespace Go.Proofs.YtpnabjopfpdkhaaGreatDoor
open Go.RowKit
variable {W:World} {c m:Nat} {nv sv:Value} {fi mo:Int} {ns:List Nd} {sl:List Int}
attribute [go_sem] more_more Array.size_append
theorem cell_ext {w w':World} {a:Addr} {v:Value} (h:w.cell? a=some v) (hx:Ext w w'):w'.cell? a=some v:=(World.cell?_of_block (hx.below.block a.block (World.block_lt_of_cell? _ _ h))).trans h
def insC (l:List Cin):List Value:=l.flatMap fun x=>[.int .i64 x.op,.int .i64 x.a,.int .i64 x.b,.int .i64 x.nd]
def valC3 (l:List (Int × Int × ByteArray)):List Value:=l.flatMap fun v=>[.int .i64 v.1,.int .i64 v.2.1,.string v.2.2]
theorem insC_app (l m:List Cin):insC (l++m)=insC l++insC m:=by unfold insC;rw[List.flatMap_append]
theorem valC3_app (l m:List (Int × Int × ByteArray)):valC3 (l++m)=valC3 l++valC3 m:=by unfold valC3;rw[List.flatMap_append]
theorem insC_get:∀ (l:List Cin) (j:Nat) (x:Cin),l[j]?=some x→(insC l)[j*4]?=some (.int .i64 x.op)∧(insC l)[j*4+1]?=some (.int .i64 x.a)∧(insC l)[j*4+2]?=some (.int .i64 x.b)∧(insC l)[j*4+3]?=some (.int .i64 x.nd)
 | [],_,_,h=>by simp at h
 | y::l,0,x,h=>by simp at h;subst h;exact⟨rfl,rfl,rfl,rfl⟩
 | y::l,j+1,x,h=>by
  have:=insC_get l j x zbn
  rw[show(j+1)*4=j*4+4 from by omega];exact this
theorem valC3_get:∀ (l:List (Int × Int × ByteArray)) (j:Nat) (x:Int × Int × ByteArray),l[j]?=some x→(valC3 l)[j*3]?=some (.int .i64 x.1)∧(valC3 l)[j*3+1]?=some (.int .i64 x.2.1)∧(valC3 l)[j*3+2]?=some (.string x.2.2)
 | [],_,_,h=>by simp at h
 | y::l,0,x,h=>by simp at h;subst h;exact⟨rfl,rfl,rfl⟩
 | y::l,j+1,x,h=>by
  have:=valC3_get l j x zbn
  rw[show(j+1)*3=j*3+3 from by omega];exact this
theorem insC_setA:∀ (l:List Cin) (j:Nat) (x:Cin) (v:Int),l[j]?=some x→insC (l.set j { x with a:=v })=(insC l).set (j*4+1) (.int .i64 v)
 | [],_,_,_,h=>by simp at h
 | y::l,0,x,v,h=>by simp at h;subst h;rfl
 | y::l,j+1,x,v,h=>by
  have:=insC_setA l j x v zbn
  rw[show(j+1)*4+1=(j*4+1)+4 from by omega];simp only[insC,List.set_cons_succ,List.flatMap_cons] at this ⊢;rw[this];rfl
theorem insC_setB:∀ (l:List Cin) (j:Nat) (x:Cin) (v:Int),l[j]?=some x→insC (l.set j { x with b:=v })=(insC l).set (j*4+2) (.int .i64 v)
 | [],_,_,_,h=>by simp at h
 | y::l,0,x,v,h=>by simp at h;subst h;rfl
 | y::l,j+1,x,v,h=>by
  have:=insC_setB l j x v zbn
  rw[show(j+1)*4+2=(j*4+2)+4 from by omega];simp only[insC,List.set_cons_succ,List.flatMap_cons] at this ⊢;rw[this];rfl
structure MkV (W:World) (c m:Nat) (nv sv:Value) (fi mo:Int) (ns:List Nd) (sl:List Int) (L:List (Nat × Obj)) (M:Mk) (iv vv:Value) (w:World):Prop where
 ext:Ext W w
 code:w.heap[c]?=some (.cells #[nv,.int .i64 fi,iv,vv,.int .i64 mo,.int .i64 M.high] 170 (0,0))
 mkr:w.heap[m]?=some (.cells #[.pointer (some ⟨c,0,none⟩),sv,.int .i64 M.now] 172 (0,0))
 row:w.ownsRow 0 166 8 nv ns.length (qac ns)
 slt:w.ownsRow 0 3 1 sv sl.length (intL sl)
 ins:w.ownsRow W.heap.size 203 4 iv M.ins.length (insC M.ins)
 vals:w.ownsRow W.heap.size 45 3 vv M.vals.length (valC3 M.vals)
 base:W.heap.size≤c∧W.heap.size≤m∧c≠m∧(∀ g,nv.ownBlock=some g→g<W.heap.size)∧(∀ g,sv.ownBlock=some g→g<W.heap.size)
 apart:∀ g,(iv.ownBlock=some g→g≠c∧g≠m∧vv.ownBlock≠some g)∧(vv.ownBlock=some g→g≠c∧g≠m)
 loc:∀ q,q∈L→w.heap[q.1]?=some q.2∧q.1≠c∧q.1≠m∧iv.ownBlock≠some q.1∧vv.ownBlock≠some q.1
def MkS (W:World) (c m:Nat) (nv sv:Value) (fi mo:Int) (ns:List Nd) (sl:List Int) (L:List (Nat × Obj)) (M:Mk) (w:World):Prop:=∃ iv vv,MkV W c m nv sv fi mo ns sl L M iv vv w
theorem MkV.of_ext {L:List (Nat × Obj)} {M:Mk} {w:World} {iv vv:Value} {w':World} (h:MkV W c m nv sv fi mo ns sl L M iv vv w) (hx:Ext w w'):MkV W c m nv sv fi mo ns sl L M iv vv w' :=
 ⟨h.ext.trans hx,(hx.below.block _ (Array.getElem?_eq_some_iff.1 h.code).1).trans h.code,(hx.below.block _ (Array.getElem?_eq_some_iff.1 h.mkr).1).trans h.mkr,own_ext h.row hx,own_ext h.slt hx,own_ext h.ins hx,own_ext h.vals hx,h.base,h.apart,fun q hq=>⟨(hx.below.block _ (Array.getElem?_eq_some_iff.1 (h.loc q hq).1).1).trans (h.loc q hq).1,(h.loc q hq).2⟩⟩
theorem MkS.of_ext {L:List (Nat × Obj)} {M:Mk} {w:World} {w':World} (h:MkS W c m nv sv fi mo ns sl L M w) (hx:Ext w w'):MkS W c m nv sv fi mo ns sl L M w':=by
 obtain⟨iv,vv,h⟩:=h
 exact⟨iv,vv,h.of_ext hx⟩
theorem MkV.locNew {L:List (Nat × Obj)} {M:Mk} {w:World} {iv vv:Value} (h:MkV W c m nv sv fi mo ns sl L M iv vv w) (o:Obj):MkV W c m nv sv fi mo ns sl ((w.heap.size,o)::L) M iv vv (w.alloc o):=by
 have h':=h.of_ext ((Ext.refl w).alloc o);refine ⟨h'.ext,h'.code,h'.mkr,h'.row,h'.slt,h'.ins,h'.vals,h'.base,h'.apart,fun q hq=>?_⟩;rcases List.mem_cons.1 hq with e | hq
 · subst e
   refine ⟨heap_alloc_new _ _,?_,?_,fun e=>?_,fun e=>?_⟩
   · have:=(Array.getElem?_eq_some_iff.1 h.code).1
     dsimp only;omega
   · have:=(Array.getElem?_eq_some_iff.1 h.mkr).1
     dsimp only;omega
   · exact absurd (h.ins.lt _ e).2 (Nat.lt_irrefl _)
   · exact absurd (h.vals.lt _ e).2 (Nat.lt_irrefl _)
 · exact h'.loc q hq
theorem MkS.locNew {L:List (Nat × Obj)} {M:Mk} {w:World} (h:MkS W c m nv sv fi mo ns sl L M w) (o:Obj):MkS W c m nv sv fi mo ns sl ((w.heap.size,o)::L) M (w.alloc o):=by
 obtain⟨iv,vv,h⟩:=h
 exact⟨iv,vv,h.locNew o⟩
theorem MkS.sub {L:List (Nat × Obj)} {M:Mk} {w:World} {L':List (Nat × Obj)} (h:MkS W c m nv sv fi mo ns sl L M w) (hs:∀ q,q∈L'→q∈L):MkS W c m nv sv fi mo ns sl L' M w:=by
 obtain⟨iv,vv,h⟩:=h
 exact⟨iv,vv,h.ext,h.code,h.mkr,h.row,h.slt,h.ins,h.vals,h.base,h.apart,fun p hp=>h.loc p (hs p hp)⟩
theorem MkS.locAt {L:List (Nat × Obj)} {M:Mk} {w:World} {k:Nat} {cs:Array Value} {T:TypeId} (h:MkS W c m nv sv fi mo ns sl L M w) (hq:(k,Obj.cells cs T (0,0))∈L):KB k cs T w:=by
 obtain⟨iv,vv,h⟩:=h
 exact(h.loc _ hq).1
theorem MkV.setNow {L:List (Nat × Obj)} {M:Mk} {w:World} {iv vv:Value} (h:MkV W c m nv sv fi mo ns sl L M iv vv w) (v:Int):MkV W c m nv sv fi mo ns sl L { M with now:=v } iv vv (w.setCell ⟨m,2,none⟩ (.int .i64 v)):=by
 have hA:=h.apart
 obtain⟨b1,b2,b3,b4,b5⟩:=h.base
 have hk:∀ (x:Value) (k:Nat),(∀ g,x.ownBlock=some g→g≠m)→x.ownBlock=some k→(w.setCell ⟨m,2,none⟩ (.int .i64 v)).heap[k]?=w.heap[k]?:=fun x k hx hk=>heap_set_other _ _ _ _ _ (hx k hk)
 refine ⟨h.ext.setCell b2 _,(heap_set_other _ _ _ _ _ b3).trans h.code,KB.setAt (show KB m _ _ w from h.mkr) 2 _ zaj,qae h.row fun k q _=>hk nv k (fun g q=>by have:=b4 g q;omega) q,qae h.slt fun k q _=>hk sv k (fun g q=>by have:=b5 g q;omega) q,
  qae h.ins fun k q _=>hk iv k (fun g q=>((hA g).1 q).2.1) q,qae h.vals fun k q _=>hk vv k (fun g q=>((hA g).2 q).2) q,h.base,h.apart,fun q hq=>⟨(heap_set_other _ _ _ _ _ (h.loc q hq).2.2.1).trans (h.loc q hq).1,(h.loc q hq).2⟩⟩
theorem MkV.setHigh {L:List (Nat × Obj)} {M:Mk} {w:World} {iv vv:Value} (h:MkV W c m nv sv fi mo ns sl L M iv vv w) (v:Int):MkV W c m nv sv fi mo ns sl L { M with high:=v } iv vv (w.setCell ⟨c,5,none⟩ (.int .i64 v)):=by
 have hA:=h.apart
 obtain⟨b1,b2,b3,b4,b5⟩:=h.base
 have hk:∀ (x:Value) (k:Nat),(∀ g,x.ownBlock=some g→g≠c)→x.ownBlock=some k→(w.setCell ⟨c,5,none⟩ (.int .i64 v)).heap[k]?=w.heap[k]?:=fun x k hx hk=>heap_set_other _ _ _ _ _ (hx k hk)
 refine ⟨h.ext.setCell b1 _,KB.setAt (show KB c _ _ w from h.code) 5 _ zaj,(heap_set_other _ _ _ _ _ (Ne.symm b3)).trans h.mkr,qae h.row fun k q _=>hk nv k (fun g q=>by have:=b4 g q;omega) q,qae h.slt fun k q _=>hk sv k (fun g q=>by have:=b5 g q;omega) q,
  qae h.ins fun k q _=>hk iv k (fun g q=>((hA g).1 q).1) q,qae h.vals fun k q _=>hk vv k (fun g q=>((hA g).2 q).1) q,h.base,h.apart,fun q hq=>⟨(heap_set_other _ _ _ _ _ (h.loc q hq).2.1).trans (h.loc q hq).1,(h.loc q hq).2⟩⟩
theorem MkV.setIns {L:List (Nat × Obj)} {M:Mk} {w:World} {vv:Value} {g k n:Nat} (h:MkV W c m nv sv fi mo ns sl L M (.slice (some ⟨g,0,none⟩) n k) vv w) (i:Nat) (v:Value) (l:List Cin) (hi:i<M.ins.length*4) (hn:M.ins.length=n) (hl:insC l=(insC M.ins).set i v) (hL:l.length=M.ins.length) :
  MkV W c m nv sv fi mo ns sl L { M with ins:=l } (.slice (some ⟨g,0,none⟩) n k) vv (w.setCell ⟨g,i,none⟩ v):=by
 subst hn;have hA:=h.apart
 obtain⟨b1,b2,b3,b4,b5⟩:=h.base
 obtain⟨a1,a2,a3⟩:=(hA g).1 rfl
 have hg0:=(h.ins.lt g rfl).1
 have hk:∀ (x:Value) (q:Nat),x.ownBlock≠some g→x.ownBlock=some q→(w.setCell ⟨g,i,none⟩ v).heap[q]?=w.heap[q]?:=fun x q hx hq=>heap_set_other _ _ _ _ _ (fun e=>hx (by rw[←e];exact hq))
 refine ⟨h.ext.setCell hg0 _,(heap_set_other _ _ _ _ _ (Ne.symm a1)).trans h.code,(heap_set_other _ _ _ _ _ (Ne.symm a2)).trans h.mkr,qae h.row fun q hq _=>hk nv q (fun e=>by have:=b4 g e;omega) hq,qae h.slt fun q hq _=>hk sv q (fun e=>by have:=b5 g e;omega) hq,?_,qae h.vals fun q hq _=>hk vv q a3 hq,h.base,h.apart,fun q hq=>⟨(heap_set_other _ _ _ _ _ (fun e=>(h.loc q hq).2.2.2.1 (by rw[e];rfl))).trans (h.loc q hq).1,(h.loc q hq).2⟩⟩;dsimp only;rw[hL,hl];exact qbm h.ins hi _
theorem MkV.push_ins {L:List (Nat × Obj)} {M:Mk} {w:World} {iv vv:Value} {v':Value} {w1:World} {x:Cin} (h:MkV W c m nv sv fi mo ns sl L M iv vv w) (hr:w1.ownsRow W.heap.size 203 4 v' (M.ins.length+1) (insC M.ins++insC [x])) (hg:w.grownBy w1 iv.ownBlock) (hv:v'.ownBlock=iv.ownBlock∨v'.ownBlock=some w.heap.size) :
  MkV W c m nv sv fi mo ns sl L { M with ins:=M.ins++[x] } v' vv (w1.setCell ⟨c,2,none⟩ v'):=by
 have hA:=h.apart
 obtain⟨b1,b2,b3,b4,b5⟩:=h.base
 have lc:=(Array.getElem?_eq_some_iff.1 h.code).1;have lm:=(Array.getElem?_eq_some_iff.1 h.mkr).1
 have hold:∀ k,k<w.heap.size→iv.ownBlock≠some k→w1.heap[k]?=w.heap[k]?:=fun k hk hn=>hg.block k hk (Ne.symm hn)
 have hvn:∀ g,v'.ownBlock=some g→iv.ownBlock=some g∨g=w.heap.size:=fun g q=>by
  rcases hv with e | e
  · exact Or.inl (e ▸ q)
  · rw[e] at q;exact Or.inr (Option.some.inj q).symm
 have hx1:Ext W w1:=h.ext.grown hg fun k hk=>(h.ins.lt k hk).1
 have hnc:iv.ownBlock≠some c:=fun q=>((hA c).1 q).1 rfl
 have hnm:iv.ownBlock≠some m:=fun q=>((hA m).1 q).2.1 rfl
 have kc:KB c _ _ w1:=(hold c lc hnc).trans h.code
 have km:KB m _ _ w1:=(hold m lm hnm).trans h.mkr
 have keep:∀ (x:Value) (n:Nat) (xs:List Value) (e:TypeId) (sz bs:Nat),w.ownsRow bs e sz x n xs→(∀ g,x.ownBlock=some g→g≠c)→(∀ g,x.ownBlock=some g→iv.ownBlock≠some g)→(w1.setCell ⟨c,2,none⟩ v').ownsRow bs e sz x n xs:=fun x n xs e sz bs hx h1 h2 =>
  qae hx fun k q hk=>(heap_set_other _ _ _ _ _ (h1 k q)).trans (hold k hk (h2 k q))
 refine ⟨hx1.setCell b1 _,KB.setAt kc 2 v' zaj,(heap_set_other _ _ _ _ _ (Ne.symm b3)).trans km,keep _ _ _ _ _ _ h.row (fun g q=>by have:=b4 g q;omega) (fun g q e=>by have:=b4 g q;have:=(h.ins.lt g e).1;omega),keep _ _ _ _ _ _ h.slt (fun g q=>by have:=b5 g q;omega) (fun g q e=>by have:=b5 g q;have:=(h.ins.lt g e).1;omega),?_,?_,h.base,?_,?_⟩
 · dsimp only;rw[List.length_append,insC_app];exact qae hr fun k q _=>heap_set_other _ _ _ _ _ (fun e=>by rcases hvn k q with e1 | e1;exact hnc (e ▸ e1);omega)
 · exact keep _ _ _ _ _ _ h.vals (fun g q=>((hA g).2 q).1) (fun g q e=>((hA g).1 e).2.2 q)
 · intro g
   have a:=hA g
   have n1:iv.ownBlock≠some w.heap.size:=fun q=>absurd (h.ins.lt _ q).2 (Nat.lt_irrefl _)
   have n2:vv.ownBlock≠some w.heap.size:=fun q=>absurd (h.vals.lt _ q).2 (Nat.lt_irrefl _)
   rcases hv with e | e
   · rw[e];exact a
   · by_cases hgs:g=w.heap.size
     · subst hgs
       exact⟨fun _=>⟨by omega,by omega,n2⟩,a.2⟩
     · have q:v'.ownBlock≠some g:=by rw[e];intro e2;exact hgs (Option.some.inj e2).symm
       exact⟨fun r=>absurd r q,a.2⟩
 · intro q hq
   have hl:=h.loc q hq;have hlt:=(Array.getElem?_eq_some_iff.1 hl.1).1
   have e1:(w1.setCell ⟨c,2,none⟩ v').heap[q.1]?=some q.2:=(heap_set_other _ _ _ _ _ hl.2.1).trans ((hold q.1 hlt hl.2.2.2.1).trans hl.1)
   have e2:v'.ownBlock≠some q.1:=by
    intro e;rcases hvn q.1 e with e3 | e3
    · exact hl.2.2.2.1 e3
    · omega
   exact⟨e1,hl.2.1,hl.2.2.1,e2,hl.2.2.2.2⟩
theorem MkV.push_val {L:List (Nat × Obj)} {M:Mk} {w:World} {iv vv:Value} {v':Value} {w1:World} {x:Int × Int × ByteArray} (h:MkV W c m nv sv fi mo ns sl L M iv vv w) (hr:w1.ownsRow W.heap.size 45 3 v' (M.vals.length+1) (valC3 M.vals++valC3 [x])) (hg:w.grownBy w1 vv.ownBlock) (hv:v'.ownBlock=vv.ownBlock∨v'.ownBlock=some w.heap.size) :
  MkV W c m nv sv fi mo ns sl L { M with vals:=M.vals++[x] } iv v' (w1.setCell ⟨c,3,none⟩ v'):=by
 have hA:=h.apart
 obtain⟨b1,b2,b3,b4,b5⟩:=h.base
 have lc:=(Array.getElem?_eq_some_iff.1 h.code).1;have lm:=(Array.getElem?_eq_some_iff.1 h.mkr).1
 have hold:∀ k,k<w.heap.size→vv.ownBlock≠some k→w1.heap[k]?=w.heap[k]?:=fun k hk hn=>hg.block k hk (Ne.symm hn)
 have hvn:∀ g,v'.ownBlock=some g→vv.ownBlock=some g∨g=w.heap.size:=fun g q=>by
  rcases hv with e | e
  · exact Or.inl (e ▸ q)
  · rw[e] at q;exact Or.inr (Option.some.inj q).symm
 have hx1:Ext W w1:=h.ext.grown hg fun k hk=>(h.vals.lt k hk).1
 have hnc:vv.ownBlock≠some c:=fun q=>((hA c).2 q).1 rfl
 have hnm:vv.ownBlock≠some m:=fun q=>((hA m).2 q).2 rfl
 have kc:KB c _ _ w1:=(hold c lc hnc).trans h.code
 have km:KB m _ _ w1:=(hold m lm hnm).trans h.mkr
 have keep:∀ (x:Value) (n:Nat) (xs:List Value) (e:TypeId) (sz bs:Nat),w.ownsRow bs e sz x n xs→(∀ g,x.ownBlock=some g→g≠c)→(∀ g,x.ownBlock=some g→vv.ownBlock≠some g)→(w1.setCell ⟨c,3,none⟩ v').ownsRow bs e sz x n xs:=fun x n xs e sz bs hx h1 h2 =>
  qae hx fun k q hk=>(heap_set_other _ _ _ _ _ (h1 k q)).trans (hold k hk (h2 k q))
 refine ⟨hx1.setCell b1 _,KB.setAt kc 3 v' zaj,(heap_set_other _ _ _ _ _ (Ne.symm b3)).trans km,keep _ _ _ _ _ _ h.row (fun g q=>by have:=b4 g q;omega) (fun g q e=>by have:=b4 g q;have:=(h.vals.lt g e).1;omega),keep _ _ _ _ _ _ h.slt (fun g q=>by have:=b5 g q;omega) (fun g q e=>by have:=b5 g q;have:=(h.vals.lt g e).1;omega),?_,?_,h.base,?_,?_⟩
 · exact keep _ _ _ _ _ _ h.ins (fun g q=>((hA g).1 q).1) (fun g q e=>((hA g).1 q).2.2 e)
 · dsimp only;rw[List.length_append,valC3_app];exact qae hr fun k q _=>heap_set_other _ _ _ _ _ (fun e=>by rcases hvn k q with e1 | e1;exact hnc (e ▸ e1);omega)
 · intro g
   have a:=hA g
   have n1:iv.ownBlock≠some w.heap.size:=fun q=>absurd (h.ins.lt _ q).2 (Nat.lt_irrefl _)
   have n2:vv.ownBlock≠some w.heap.size:=fun q=>absurd (h.vals.lt _ q).2 (Nat.lt_irrefl _)
   rcases hv with e | e
   · rw[e];exact a
   · by_cases hgs:g=w.heap.size
     · subst hgs
       exact⟨fun r=>absurd r n1,fun _=>⟨by omega,by omega⟩⟩
     · have q:v'.ownBlock≠some g:=by rw[e];intro e2;exact hgs (Option.some.inj e2).symm
       exact⟨fun r=>⟨(a.1 r).1,(a.1 r).2.1,q⟩,fun r=>absurd r q⟩
 · intro q hq
   have hl:=h.loc q hq;have hlt:=(Array.getElem?_eq_some_iff.1 hl.1).1
   have e1:(w1.setCell ⟨c,3,none⟩ v').heap[q.1]?=some q.2:=(heap_set_other _ _ _ _ _ hl.2.1).trans ((hold q.1 hlt hl.2.2.2.2).trans hl.1)
   have e2:v'.ownBlock≠some q.1:=by
    intro e;rcases hvn q.1 e with e3 | e3
    · exact hl.2.2.2.2 e3
    · omega
   exact⟨e1,hl.2.1,hl.2.2.1,hl.2.2.2.1,e2⟩
theorem MkS.node {L:List (Nat × Obj)} {M:Mk} {w:World} (h:MkS W c m nv sv fi mo ns sl L M w) {j:Nat} {z:Nd} (hz:ns[j]?=some z) :
  ∃ G n cap iv vv,nv=.slice (some ⟨G,0,none⟩) n cap∧G<w.heap.size∧j<n∧c<w.heap.size∧m<w.heap.size∧w.cell? ⟨m,0,none⟩=some (.pointer (some ⟨c,0,none⟩))∧w.cell? ⟨c,0,none⟩=some (.slice (some ⟨G,0,none⟩) n cap)∧w.cell? ⟨m,1,none⟩=some sv∧w.cell? ⟨c,2,none⟩=some iv∧w.cell? ⟨c,3,none⟩=some vv∧(∃ p k,iv=.slice p M.ins.length k) ∧
  w.cell? ⟨G,j*8,none⟩=some (.int .i64 z.k)∧w.cell? ⟨G,j*8+1,none⟩=some (.int .i64 z.a)∧w.cell? ⟨G,j*8+2,none⟩=some (.int .i64 z.b)∧w.cell? ⟨G,j*8+3,none⟩=some (.int .i64 z.c)∧w.cell? ⟨G,j*8+4,none⟩=some (.int .i64 z.x)∧w.cell? ⟨G,j*8+5,none⟩=some (.int .i64 z.i)∧w.cell? ⟨G,j*8+6,none⟩=some (.string z.s)∧w.cell? ⟨G,j*8+7,none⟩=some (.string z.t):=by
 obtain⟨iv,vv,h⟩:=h
 have hj:=(List.getElem?_eq_some_iff.1 hz).1
 rcases Go.Joins.ownsRow_forms h.row with ⟨_,h0⟩ | ⟨g1,c1,h0⟩
 · omega
 · have hr:=h.row
   subst h0
   have kb:KB c _ _ w:=h.code
   have km:KB m _ _ w:=h.mkr
   obtain⟨p,k,hv⟩:=qad h.ins
   exact⟨g1,ns.length,c1,iv,vv,rfl,(hr.lt g1 rfl).2,hj,kb.lt,km.lt,km.cell 0 _ rfl,kb.cell 0 _ rfl,km.cell 1 _ rfl,kb.cell 2 _ rfl,kb.cell 3 _ rfl,⟨p,k,hv⟩,nd_at hr hz⟩
theorem MkS.slot {L:List (Nat × Obj)} {M:Mk} {w:World} (h:MkS W c m nv sv fi mo ns sl L M w) {j:Nat} {v:Int} (hv:sl[j]?=some v):∃ g n k,sv=.slice (some ⟨g,0,none⟩) n k∧n≤maxLen∧j<n∧g<w.heap.size∧w.cell? ⟨g,j,none⟩=some (.int .i64 v):=by
 obtain⟨iv,vv,h⟩:=h
 have hj:=(List.getElem?_eq_some_iff.1 hv).1
 obtain⟨g2,c2,htv,_,hg2⟩:=h.slt.form zac
 have hn2:sl.length≤maxLen:=by
  rcases h.slt.2 with ⟨e,e0⟩ | ⟨g,cap,cur,e,_,_,e1,e2,_⟩<;>omega
 have y0:=h.slt.cells (g:=g2) (by rw[htv];rfl) j (.int .i64 v) (by unfold intL;rw[List.getElem?_map,hv];rfl);rw[Addr.add_lit,Nat.zero_add] at y0
 exact⟨g2,sl.length,c2,htv,hn2,hj,hg2,y0⟩
theorem tkH {P:Program} {ops:Array Oper} {Q:Exit→Act→World→Prop} {md:Region.Mode} {S:World→Prop} (i:Nat) (v:Value) {oi:Oper} {fuel:Nat} {listed:Array Bool} {a:Act} {w:World} (hS:S w)
  (h:wpAnyH P md ops Q S fuel (listed.setIfInBounds i true) (a.put oi.dst v) w) (hi:ops[i]?=some oi:=by rfl) (hs:Region.noSelect ops=true:=by kernel_rfl) (hf:Region.free md ops listed i=true:=by kernel_rfl) (hr:(Region.ready md ops listed).contains i=true:=by kernel_rfl)
  (hQ:∀ c a w,Q (.panic c) (a.put oi.dst v) w→Q (.panic c) a w:=by exact fun _ _ _ h=>h)
  (hy:YieldsIf P ops S oi v a:=by first | exact Or.inl ⟨by rfl,fun W hW=>by go_simp⟩ | exact Or.inr ⟨by rfl,rfl⟩ | exact Or.inl ⟨by rfl,fun W hW=>by first | (dsimp only at hW;go_simp) | (obtain⟨hW1,hW2⟩:=hW;go_simp) | (obtain⟨hW1,hW2,hW3,hW4⟩:=hW;go_simp) | (obtain⟨hW1,hW2,hW3,hW4,hW5⟩:=hW;go_simp)⟩):wpAnyH P md ops Q S (fuel+1) listed a w :=
 wpAnyH_take hi hs hf hr hQ hy hS h
theorem insInfo:(Tryz.prog.info? 203).map (fun i=>(i.zero,i.size,i.bytes))=some (some (.agg #[.int .i64 0,.int .i64 0,.int .i64 0,.int .i64 0]),4,32):=by kernel_rfl
theorem qbI {L:List (Nat × Obj)} {M R:Mk} {w:World} (h:MkS W c m nv sv fi mo ns sl L M w) (op a b nd hg:Int) (hR:M.add op a b nd hg=some R) :
  Calls Tryz.prog 101 #[.pointer (some ⟨m,0,none⟩),.int .i64 op,.int .i64 a,.int .i64 b,.int .i64 nd,.int .i64 hg] w fun r w'=>r=.returned (.int .i64 (M.ins.length:Int))∧MkS W c m nv sv fi mo ns sl L R w':=by
 obtain⟨iv,vv,h⟩:=h
 unfold Mk.add at hR
 split at hR
 rotate_left
 · cases hR
 rename_i hq
 obtain⟨q1,q2,q3,q4,q5⟩:=hq
 have e:=Option.some.inj hR;subst e;clear hR
 obtain⟨n,hn⟩:∃ n,M.ins.length=n:=⟨_,rfl⟩
 obtain⟨p,k,hv⟩:=qad h.ins
 rw[hn] at hv q1;subst hv;have HI:=Lib.hid h;have HN:=Lib.hid hn
 have kc:KB c _ _ w:=h.code
 have km:KB m _ _ w:=h.mkr
 have HB:=Lib.hid h.base;have HKC:=Lib.hid kc;have HKM:=Lib.hid km
 have x0:w.cell? ⟨m,0,none⟩=some (.pointer (some ⟨c,0,none⟩)):=km.cell 0 _ rfl
 have y2:w.cell? ⟨c,2,none⟩=some (.slice p n k):=kc.cell 2 _ rfl
 have f2:=kc.frozen 2;have lc:=kc.lt;have lm:=km.lt
 have hoc:(Value.slice p n k).ownBlock≠some c:=fun e=>((h.apart c).1 e).1 rfl
 have hom:(Value.slice p n k).ownBlock≠some m:=fun e=>((h.apart m).1 e).2.1 rfl
 have HCM:=Lib.hid (Ne.symm h.base.2.2.1);have HOC:=Lib.hid hoc;have HOM:=Lib.hid hom
 obtain⟨i0,hi,hz0,hz1,hz2⟩:=info_parts insInfo
 have HQ:=Lib.hid (show(n:Int)≤100000∧n≤100000 from⟨by omega,q1⟩)
 obtain⟨nw,hnw⟩:∃ x,M.now=x:=⟨_,rfl⟩
 obtain⟨hh,hhh⟩:∃ x,M.high=x:=⟨_,rfl⟩
 rw[hnw] at q2 q3;clear h hn kc km hoc hom q1;go_enter Tryz.func101,Tryz.ntmps101;go_wp2_with fail;refine wp_region_held_drew (S:=(fun w'=>w'.cell? ⟨m,0,none⟩=some (.pointer (some ⟨c,0,none⟩)))) zaf (cell_ext x0 zad) (fun hS=>?_);refine tkH 0 (.pointer (some ⟨m,0,none⟩)) hS ?_;refine yab ?_;refine tkH 1 (.pointer (some ⟨m,0,none⟩)) hS ?_;refine yab ?_;refine tkH 2 (.pointer (some ⟨m,0,none⟩)) hS ?_;refine yab ?_;refine tkH 3 (.pointer (some ⟨c,0,none⟩)) hS ?_;refine yab ?_;refine tkH 4 (.pointer (some ⟨m,0,none⟩)) hS ?_;refine yab ?_;refine tkH 5 (.pointer (some ⟨m,0,none⟩)) hS ?_
 refine yab ?_;refine tkH 6 (.pointer (some ⟨m,0,none⟩)) hS ?_;refine yab ?_;refine tkH 7 (.pointer (some ⟨c,0,none⟩)) hS ?_;refine yab ?_;refine tkH 8 (.pointer (some ⟨c,0,none⟩)) hS ?_;refine yab ?_;refine tkH 9 (.pointer (some ⟨c,2,none⟩)) hS ?_;refine yab ?_;refine tkH 11 (.int .i64 op) hS ?_;refine yab ?_;refine tkH 12 (.int .i64 a) hS ?_;refine yab ?_;refine tkH 13 (.int .i64 b) hS ?_;refine yab ?_;refine tkH 14 (.int .i64 nd) hS ?_;refine yab ?_;refine tkH 15 (.agg #[.int .i64 op,.int .i64 a,.int .i64 b,.int .i64 nd]) hS ?_;refine yab ?_;refine wpAnyH_ready (rs:=[10,16]) zaf zaj ?_;refine AllReadyH.cons (o:=_) rfl (fun K hK=>?_) (AllReadyH.cons (o:=_) rfl (fun K hK=>?_) AllReadyH.nil)
 · rw[if_pos (by rfl)]
   have y2d:w.drew.cell? ⟨c,2,none⟩=some (.slice p n k):=cell_ext y2 zad
   go_simp;refine hK.out _ _ ((cell_ext x0 zad)) (fun hS1=>?_);clear hK K;refine yab ?_;refine wpAnyH_ready (rs:=[16]) zaf zaj ?_;refine AllReadyH.cons (o:=_) rfl (fun K hK=>?_) AllReadyH.nil;rw[if_pos (by rfl)];go_simp;refine hK.out _ _ ((cell_ext x0 zad)) (fun hS2=>?_);clear hK K;refine yab ?_;refine wpAnyH_ready (rs:=[17]) zaf zaj ?_;refine AllReadyH.cons (o:=_) rfl (fun K hK=>?_) AllReadyH.nil;refine step_append_lies _ rfl (.tmp 23) (.tmp 29) 167 rfl W.heap.size 203 i0 (.agg #[.int .i64 0,.int .i64 0,.int .i64 0,.int .i64 0]) 4 32 Tryz.underlying167 hi hz0 hz1 hz2 rfl zal (.slice p n k) n (insC M.ins) rfl (own_ext (by have:=HI.out.ins;rw[HN.out] at this;exact this) zad) ⟨w.heap.size,0,none⟩ 1 1 [.int .i64 op,.int .i64 a,.int .i64 b,.int .i64 nd] rfl rfl (World.news_of_block (heap_alloc_new _ _)) (by intro u hu;simp at hu;rcases hu with rfl | rfl | rfl | rfl<;>rfl) zal (by have:=HQ.out.2;unfold maxLen;omega) (by have:=HQ.out.2;omega) (by have:=HI.out.ext.size;simp;omega) _ rfl ?_
   intro g1 cap1 w4 hown4 hgrow4 hat4 hlt4
   have kb4:KB c _ _ w4:=(hgrow4.block c zam (Ne.symm HOC.out)).trans (HKC.out.of_ext zad)
   have km4:KB m _ _ w4:=(hgrow4.block m zam (Ne.symm HOM.out)).trans (HKM.out.of_ext zad)
   have m0:w4.cell? ⟨m,0,none⟩=some (.pointer (some ⟨c,0,none⟩)):=km4.cell 0 _ rfl
   have m2:w4.cell? ⟨c,2,none⟩=some (.slice p n k):=kb4.cell 2 _ rfl
   have m3:=kb4.frozen 2;have m4:=kb4.lt;have KM4:=Lib.hid km4;clear kb4 km4;refine hK.out _ _ (m0) (fun hS3=>?_);clear hK K;refine yab ?_;refine tkH 18 (.pointer (some ⟨c,0,none⟩)) hS3 ?_;refine yab ?_;refine tkH 19 (.pointer (some ⟨c,2,none⟩)) hS3 ?_;refine yab ?_;refine wpAnyH_ready (rs:=[20]) zaf zaj ?_;refine AllReadyH.cons (o:=_) rfl (fun K hK=>?_) AllReadyH.nil;rw[if_pos (by rfl)];go_simp;refine hK.out _ _ ((KM4.out.setOther 2 _ HCM.out).cell 0 (.pointer (some ⟨c,0,none⟩)) rfl) (fun hS4=>?_);clear hK K;refine yab ?_;refine wpAnyH_done zaf ?_ _
   have hv4:(Value.slice (some ⟨g1,0,none⟩) (n+1) cap1).ownBlock=(Value.slice p n k).ownBlock∨(Value.slice (some ⟨g1,0,none⟩) (n+1) cap1).ownBlock=some ((w.alloc (.cells #[.int .i64 op,.int .i64 a,.int .i64 b,.int .i64 nd] 203)).drew).heap.size:=by
    rcases hat4 with e | e
    · exact Or.inl e.symm
    · exact Or.inr (by rw[←e];rfl)
   have HP:=Lib.hid (MkV.push_ins (x:=⟨op,a,b,nd⟩) (HI.out.of_ext (w':=(w.alloc (.cells #[.int .i64 op,.int .i64 a,.int .i64 b,.int .i64 nd] 203)).drew) zad) (by rw[HN.out];exact hown4) hgrow4 hv4);clear hv4 hat4 hlt4 hgrow4 hown4 m0 m2 m3 m4 KM4 HKC HKM HI x0 y2 f2 lc lm;generalize w4.setCell ⟨c,2,none⟩ (Value.slice (some ⟨g1,0,none⟩) (n+1) cap1)=W1 at *
   have kc:KB c _ _ W1:=HP.out.code
   have km:KB m _ _ W1:=HP.out.mkr
   have x0:W1.cell? ⟨m,0,none⟩=some (.pointer (some ⟨c,0,none⟩)):=km.cell 0 _ rfl
   have x2:W1.cell? ⟨m,2,none⟩=some (.int .i64 M.now):=km.cell 2 _ rfl
   have g2:=km.frozen 2;have lm:=km.lt;clear kc km;rw[hnw] at x2;go_wp2_with fail;have HS:=Lib.hid (HP.out.setNow (nw+hg));clear HP x0 x2 g2 lm hS3 hS4;generalize W1.setCell ⟨m,2,none⟩ (Value.int IntKind.i64 (nw+hg))=W2 at *
   have kc:KB c _ _ W2:=HS.out.code
   have km:KB m _ _ W2:=HS.out.mkr
   have x0:W2.cell? ⟨m,0,none⟩=some (.pointer (some ⟨c,0,none⟩)):=km.cell 0 _ rfl
   have x2:W2.cell? ⟨m,2,none⟩=some (.int .i64 (nw+hg)):=km.cell 2 _ rfl
   have x5:W2.cell? ⟨c,5,none⟩=some (.int .i64 M.high):=kc.cell 5 _ rfl
   have y2:W2.cell? ⟨c,2,none⟩=some (.slice (some ⟨g1,0,none⟩) (n+1) cap1):=kc.cell 2 _ rfl
   have g5:=kc.frozen 5;have lc:=kc.lt;clear kc km;rw[hhh] at x5;have hcm2:=HCM.out;have hnI:=HQ.out.1
   go_region
   have HT:=Lib.hid ((HS.out.setHigh (max hh (nw+hg))).of_ext ((Ext.refl _).drew));clear HS x0 x2 x5 y2 g5 lc;generalize (W2.setCell ⟨c,5,none⟩ (Value.int IntKind.i64 (max hh (nw+hg)))).drew=W3 at *
   have kc:KB c _ _ W3:=HT.out.code
   have km:KB m _ _ W3:=HT.out.mkr
   have x0:W3.cell? ⟨m,0,none⟩=some (.pointer (some ⟨c,0,none⟩)):=km.cell 0 _ rfl
   have y2:W3.cell? ⟨c,2,none⟩=some (.slice (some ⟨g1,0,none⟩) (n+1) cap1):=kc.cell 2 _ rfl
   have lc:=kc.lt;clear kc km;go_wp2_with fail;go_ret;refine ⟨by(rw[HN.out];rfl),.slice (some ⟨g1,0,none⟩) (n+1) cap1,vv,?_⟩
   have:=HT.out
   first | exact this | (rw[hhh,hnw];exact this)
 · rw[if_pos (by rfl)]
   go_simp;refine hK.out _ _ ((cell_ext x0 zad)) (fun hS1=>?_);clear hK K;refine yab ?_
   have y2a:((w.alloc (.cells #[.int .i64 op,.int .i64 a,.int .i64 b,.int .i64 nd] 203)).drew).cell? ⟨c,2,none⟩=some (.slice p n k):=cell_ext y2 zad
   refine wpAnyH_ready (rs:=[10]) zaf zaj ?_;refine AllReadyH.cons (o:=_) rfl (fun K hK=>?_) AllReadyH.nil;rw[if_pos (by rfl)];go_simp;refine hK.out _ _ ((cell_ext x0 zad)) (fun hS2=>?_);clear hK K;refine yab ?_;refine wpAnyH_ready (rs:=[17]) zaf zaj ?_;refine AllReadyH.cons (o:=_) rfl (fun K hK=>?_) AllReadyH.nil;refine step_append_lies _ rfl (.tmp 23) (.tmp 29) 167 rfl W.heap.size 203 i0 (.agg #[.int .i64 0,.int .i64 0,.int .i64 0,.int .i64 0]) 4 32 Tryz.underlying167 hi hz0 hz1 hz2 rfl zal (.slice p n k) n (insC M.ins) rfl (own_ext (by have:=HI.out.ins;rw[HN.out] at this;exact this) zad) ⟨w.heap.size,0,none⟩ 1 1 [.int .i64 op,.int .i64 a,.int .i64 b,.int .i64 nd] rfl rfl (World.news_of_block (heap_alloc_new _ _)) (by intro u hu;simp at hu;rcases hu with rfl | rfl | rfl | rfl<;>rfl) zal (by have:=HQ.out.2;unfold maxLen;omega) (by have:=HQ.out.2;omega) (by have:=HI.out.ext.size;simp;omega) _ rfl ?_
   intro g1 cap1 w4 hown4 hgrow4 hat4 hlt4
   have kb4:KB c _ _ w4:=(hgrow4.block c zam (Ne.symm HOC.out)).trans (HKC.out.of_ext zad)
   have km4:KB m _ _ w4:=(hgrow4.block m zam (Ne.symm HOM.out)).trans (HKM.out.of_ext zad)
   have m0:w4.cell? ⟨m,0,none⟩=some (.pointer (some ⟨c,0,none⟩)):=km4.cell 0 _ rfl
   have m2:w4.cell? ⟨c,2,none⟩=some (.slice p n k):=kb4.cell 2 _ rfl
   have m3:=kb4.frozen 2;have m4:=kb4.lt;have KM4:=Lib.hid km4;clear kb4 km4;refine hK.out _ _ (m0) (fun hS3=>?_);clear hK K;refine yab ?_;refine tkH 18 (.pointer (some ⟨c,0,none⟩)) hS3 ?_;refine yab ?_;refine tkH 19 (.pointer (some ⟨c,2,none⟩)) hS3 ?_;refine yab ?_;refine wpAnyH_ready (rs:=[20]) zaf zaj ?_;refine AllReadyH.cons (o:=_) rfl (fun K hK=>?_) AllReadyH.nil;rw[if_pos (by rfl)];go_simp;refine hK.out _ _ ((KM4.out.setOther 2 _ HCM.out).cell 0 (.pointer (some ⟨c,0,none⟩)) rfl) (fun hS4=>?_);clear hK K;refine yab ?_;refine wpAnyH_done zaf ?_ _
   have hv4:(Value.slice (some ⟨g1,0,none⟩) (n+1) cap1).ownBlock=(Value.slice p n k).ownBlock∨(Value.slice (some ⟨g1,0,none⟩) (n+1) cap1).ownBlock=some ((w.alloc (.cells #[.int .i64 op,.int .i64 a,.int .i64 b,.int .i64 nd] 203)).drew).heap.size:=by
    rcases hat4 with e | e
    · exact Or.inl e.symm
    · exact Or.inr (by rw[←e];rfl)
   have HP:=Lib.hid (MkV.push_ins (x:=⟨op,a,b,nd⟩) (HI.out.of_ext (w':=(w.alloc (.cells #[.int .i64 op,.int .i64 a,.int .i64 b,.int .i64 nd] 203)).drew) zad) (by rw[HN.out];exact hown4) hgrow4 hv4);clear hv4 hat4 hlt4 hgrow4 hown4 m0 m2 m3 m4 KM4 HKC HKM HI x0 y2 f2 lc lm;generalize w4.setCell ⟨c,2,none⟩ (Value.slice (some ⟨g1,0,none⟩) (n+1) cap1)=W1 at *
   have kc:KB c _ _ W1:=HP.out.code
   have km:KB m _ _ W1:=HP.out.mkr
   have x0:W1.cell? ⟨m,0,none⟩=some (.pointer (some ⟨c,0,none⟩)):=km.cell 0 _ rfl
   have x2:W1.cell? ⟨m,2,none⟩=some (.int .i64 M.now):=km.cell 2 _ rfl
   have g2:=km.frozen 2;have lm:=km.lt;clear kc km;rw[hnw] at x2;go_wp2_with fail;have HS:=Lib.hid (HP.out.setNow (nw+hg));clear HP x0 x2 g2 lm hS3 hS4;generalize W1.setCell ⟨m,2,none⟩ (Value.int IntKind.i64 (nw+hg))=W2 at *
   have kc:KB c _ _ W2:=HS.out.code
   have km:KB m _ _ W2:=HS.out.mkr
   have x0:W2.cell? ⟨m,0,none⟩=some (.pointer (some ⟨c,0,none⟩)):=km.cell 0 _ rfl
   have x2:W2.cell? ⟨m,2,none⟩=some (.int .i64 (nw+hg)):=km.cell 2 _ rfl
   have x5:W2.cell? ⟨c,5,none⟩=some (.int .i64 M.high):=kc.cell 5 _ rfl
   have y2:W2.cell? ⟨c,2,none⟩=some (.slice (some ⟨g1,0,none⟩) (n+1) cap1):=kc.cell 2 _ rfl
   have g5:=kc.frozen 5;have lc:=kc.lt;clear kc km;rw[hhh] at x5;have hcm2:=HCM.out;have hnI:=HQ.out.1
   go_region
   have HT:=Lib.hid ((HS.out.setHigh (max hh (nw+hg))).of_ext ((Ext.refl _).drew));clear HS x0 x2 x5 y2 g5 lc;generalize (W2.setCell ⟨c,5,none⟩ (Value.int IntKind.i64 (max hh (nw+hg)))).drew=W3 at *
   have kc:KB c _ _ W3:=HT.out.code
   have km:KB m _ _ W3:=HT.out.mkr
   have x0:W3.cell? ⟨m,0,none⟩=some (.pointer (some ⟨c,0,none⟩)):=km.cell 0 _ rfl
   have y2:W3.cell? ⟨c,2,none⟩=some (.slice (some ⟨g1,0,none⟩) (n+1) cap1):=kc.cell 2 _ rfl
   have lc:=kc.lt;clear kc km;go_wp2_with fail;go_ret;refine ⟨by(rw[HN.out];rfl),.slice (some ⟨g1,0,none⟩) (n+1) cap1,vv,?_⟩
   have:=HT.out
   first | exact this | (rw[hhh,hnw];exact this)
theorem qdh {L:List (Nat × Obj)} {M R:Mk} {w:World} (h:MkS W c m nv sv fi mo ns sl L M w) (op a b nd hg:Int) (hR:M.add op a b nd hg=some R) :
  Calls Tryz.prog 137 #[.pointer (some ⟨m,0,none⟩),.int .i64 op,.int .i64 a,.int .i64 b,.int .i64 nd,.int .i64 hg] w fun r w'=>∃ km ko ki,r=.returned (.func (.func 178) #[] #[.pointer (some ⟨ko,0,none⟩),.pointer (some ⟨km,0,none⟩),.pointer (some ⟨ki,0,none⟩)])∧MkS W c m nv sv fi mo ns sl ((ki,.cells #[.int .i64 (M.ins.length:Int)] 3 (0,0))::(ko,.cells #[.int .i64 op] 3 (0,0))::(km,.cells #[.pointer (some ⟨m,0,none⟩)] 163 (0,0))::L) R w':=by
 have hmf:∀ (fn:Fn) (first cap:Array Value) (w:World),(Instr.makeFunc fn first cap).run Tryz.prog w=.ok (.func fn first cap) w:=fun _ _ _ _=>rfl
 have H0:=Lib.hid ((h.locNew (.cells #[.pointer (some ⟨m,0,none⟩)] 163 (0,0))).locNew (.cells #[.int .i64 op] 3 (0,0)));rw[World.size_alloc] at H0;have AD:=Lib.hid (qbI H0.out op a b nd hg hR);clear h hR;go_enter Tryz.func137,Tryz.ntmps137
 go_wp2_with ((with_reducible refine AD.out.mono ?_);rintro e' w2 ⟨rfl,h2⟩;have H2:=Lib.hid h2;clear h2)
 go_ret
 exact⟨w.heap.size,w.heap.size+1,w2.heap.size,rfl,H2.out.locNew _⟩
theorem qdV {L:List (Nat × Obj)} {M R:Mk} {w:World} (h:MkS W c m nv sv fi mo ns sl L M w) {km ko ki j:Nat} {op:Int} (b1:(ki,Obj.cells #[.int .i64 (j:Int)] 3 (0,0))∈L) (b2:(ko,Obj.cells #[.int .i64 op] 3 (0,0))∈L) (b3:(km,Obj.cells #[.pointer (some ⟨m,0,none⟩)] 163 (0,0))∈L) (hR:(if op=13∨op=15 then M.setB j else M.setA j)=some R) :
  Calls Tryz.prog 178 #[.pointer (some ⟨ko,0,none⟩),.pointer (some ⟨km,0,none⟩),.pointer (some ⟨ki,0,none⟩)] w fun r w'=>r=.returned (.tuple #[])∧MkS W c m nv sv fi mo ns sl L R w':=by
 have K1:=h.locAt b1;have K2:=h.locAt b2;have K3:=h.locAt b3;have u1:=K1.cell 0 _ rfl;have u2:=K2.cell 0 _ rfl;have u3:=K3.cell 0 _ rfl;have v1:=K1.lt;have v2:=K2.lt;have v3:=K3.lt
 obtain⟨iv,vv,h⟩:=h
 have hx:∃ x,M.ins[j]?=some x∧M.ins.length≤100000:=by
  split at hR
  · unfold Mk.setB at hR
    split at hR
    · cases hR
    · rename_i x hx;split at hR
      · rename_i q;exact⟨x,hx,q⟩
      · cases hR
  · unfold Mk.setA at hR
    split at hR
    · cases hR
    · rename_i x hx;split at hR
      · rename_i q;exact⟨x,hx,q⟩
      · cases hR
 obtain⟨x,hx,hl⟩:=hx
 have hj:=(List.getElem?_eq_some_iff.1 hx).1
 obtain⟨n,hn⟩:∃ n,M.ins.length=n:=⟨_,rfl⟩
 obtain⟨g,k,hv,_,hg⟩:=h.ins.form zac
 rw[hn] at hv hl hj;subst hv
 have kc:KB c _ _ w:=h.code
 have km':KB m _ _ w:=h.mkr
 have x0:=km'.cell 0 _ rfl;have y2:=kc.cell 2 _ rfl;have lc:=kc.lt;have lm:=km'.lt;have hc:=h.ins.cells (g:=g) rfl
 obtain⟨_,ia,ib,_⟩:=insC_get M.ins j x hx
 have z1:=hc _ _ ia;have z2:=hc _ _ ib;rw[Addr.add_lit,Nat.zero_add] at z1 z2
 have fz:=fun i=>qfd h.ins i
 have z3:=fz (j*4+1);have z4:=fz (j*4+2)
 have hjI:(j:Int)<(n:Int):=by omega
 have hj0:(0:Int)≤(j:Int):=by omega
 have hnI:(n:Int)≤100000:=by omega
 have HI:=Lib.hid h;have HN:=Lib.hid hn;have HX:=Lib.hid hx;have HJ:=Lib.hid hj;have HL:=Lib.hid hl
 by_cases ho:op=13∨op=15
 · rw[if_pos ho] at hR
   have o1:((op==13)=true)∨(op==13)=false∧(op==15)=true:=by rcases ho with h | h<;>subst h<;>simp
   clear ho;unfold Mk.setB at hR;rw[hx] at hR;dsimp only at hR;rw[if_pos zac] at hR;have e:=Option.some.inj hR;subst e
   have fin:MkS W c m nv sv fi mo ns sl L { M with ins:=M.ins.set j { x with b:=(M.ins.length:Int) } } (w.setCell ⟨g,j*4+2,none⟩ (.int .i64 (n:Int))).drew:=MkS.of_ext ⟨_,_,HI.out.setIns (j*4+2) (.int .i64 (n:Int)) _ (by have:=HJ.out;have:=HN.out;omega) HN.out (by rw[←HN.out];exact insC_setB _ _ _ _ HX.out) zaj⟩ ((Ext.refl _).drew)
   have FIN:=Lib.hid fin;clear fin;clear h K1 K2 K3 hx hn hl hR fz hc hj
   rcases o1 with o1 | ⟨o1,o2⟩
   · go_enter Tryz.func178,Tryz.ntmps178
     go_wp2_with fail
     go_region
     all_goals
      go_end0
      exact⟨rfl,FIN.out⟩
   · go_enter Tryz.func178,Tryz.ntmps178
     go_wp2_with fail
     go_region
     all_goals
      go_end0
      exact⟨rfl,FIN.out⟩
 · rw[if_neg ho] at hR
   have o1:(op==13)=false:=by have:op≠13:=fun e=>ho (Or.inl e);simpa using this
   have o2:(op==15)=false:=by have:op≠15:=fun e=>ho (Or.inr e);simpa using this
   clear ho;unfold Mk.setA at hR;rw[hx] at hR;dsimp only at hR;rw[if_pos zac] at hR;have e:=Option.some.inj hR;subst e
   have fin:MkS W c m nv sv fi mo ns sl L { M with ins:=M.ins.set j { x with a:=(M.ins.length:Int) } } (w.setCell ⟨g,j*4+1,none⟩ (.int .i64 (n:Int))).drew:=MkS.of_ext ⟨_,_,HI.out.setIns (j*4+1) (.int .i64 (n:Int)) _ (by have:=HJ.out;have:=HN.out;omega) HN.out (by rw[←HN.out];exact insC_setA _ _ _ _ HX.out) zaj⟩ ((Ext.refl _).drew)
   have FIN:=Lib.hid fin;clear fin;clear h K1 K2 K3 hx hn hl hR fz hc hj;go_enter Tryz.func178,Tryz.ntmps178;go_wp2_with fail
   go_region
   all_goals
    go_end0
    exact⟨rfl,FIN.out⟩
theorem vindex_any {w:World} {base:Nat} {v:Value} {l:List (Int × Int × ByteArray)} (h:w.ownsRow base 45 3 v l.length (valC3 l)) (hl:l.length≤100000) (k0 i0:Int) (s0:ByteArray) :
  Calls Tryz.prog 206 #[v,.agg #[.int .i64 k0,.int .i64 i0,.string s0]] w fun r w'=>r=.returned (.int .i64 (vidx (k0,i0,s0) l 0))∧Ext w w':=by
 obtain⟨n,hn⟩:∃ n,l.length=n:=⟨_,rfl⟩
 obtain⟨p,c,hv⟩:=qad h
 rw[hn] at hv hl;subst hv;have H:=Lib.hid h;have HN:=Lib.hid hn
 have hni:(n:Int)≤100000:=by omega
 clear h hn hl;go_enter Tryz.func206,Tryz.ntmps206;go_wp2_with fail;go_loopw [8] (fun y8 wr=>∃ k:Nat,y8=.int .i64 (k:Int)∧k≤n∧vidx (k0,i0,s0) (l.drop k) (k:Int)=vidx (k0,i0,s0) l 0∧∃ d os,wr=more (w.alloc (.cells #[.int .i64 k0,.int .i64 i0,.string s0] 45)) d os) (fun y8 _=>n-(intOf y8).toNat)
 case atStart=>exact⟨0,rfl,Nat.zero_le _,rfl,by first | exact⟨_,_,rfl⟩ | exact⟨w.drawn,#[],by simp[more];rfl⟩⟩
 case round =>
  obtain⟨k,rfl,hk,hq,d,os,rfl⟩:=hrel
  have hk0:0≤(k:Int):=by omega
  have HQ:=Lib.hid hq;clear hq
  by_cases hlt:k<n
  · have hki:(k:Int)<(n:Int):=by omega
    have hp:∃ g,p=some ⟨g,0,none⟩:=by
     rcases Go.Joins.ownsRow_forms H.out with ⟨_,h0⟩ | ⟨g1,c1,h0⟩
     · have:=HN.out;omega
     · simp at h0;exact⟨g1,h0.1⟩
    obtain⟨g,rfl⟩:=hp
    obtain⟨⟨xk,xi,xs⟩,hx⟩:∃ x,l[k]?=some x:=⟨_,List.getElem?_eq_getElem (by rw[HN.out];exact hlt)⟩
    obtain⟨a0,a1,a2⟩:=valC3_get l k _ hx
    have hc:=H.out.cells (g:=g) rfl;have d0:=hc _ _ a0;have d1:=hc _ _ a1;have d2:=hc _ _ a2;rw[Addr.add_lit,Nat.zero_add] at d0 d1 d2;dsimp only at d0 d1 d2;have hg:=(H.out.lt g rfl).2
    have hdr:l.drop k=(xk,xi,xs)::l.drop (k+1):=by
     have hlt2:k<l.length:=by rw[HN.out];exact hlt
     rw[List.drop_eq_getElem_cons hlt2];rw[List.getElem?_eq_getElem hlt2] at hx;rw[Option.some.inj hx]
    have HV:=Lib.hid (show(if veq (xk,xi,xs) (k0,i0,s0)=true then(k:Int) else vidx (k0,i0,s0) (l.drop (k+1)) ((k:Int)+1))=vidx (k0,i0,s0) l 0 from by have:=HQ.out;rw[hdr] at this;simp only[vidx] at this;exact this);have HLT:=Lib.hid hlt;clear a0 a1 a2 hc hx hdr hlt HQ
    by_cases e1:k0=xk
    · subst e1
      by_cases e2:i0=xi
      · subst e2
        by_cases e3:s0.toList=xs.toList
        · have hb:veq (k0,i0,xs) (k0,i0,s0)=true:=by simp[veq,e3]
          have HV2:=Lib.hid (HV.out.symm.trans (if_pos hb));clear HV hb;go_wp2_with fail
          go_region
          go_wp2_with fail;go_ret
          exact⟨by rw[HV2.out];rfl,zaa⟩
        · have hb:veq (k0,i0,xs) (k0,i0,s0)=false:=by(simp[veq];exact fun e=>e3 e.symm)
          have HV2:=Lib.hid (HV.out.symm.trans (if_neg zbq));clear HV hb;go_wp2_with fail
          go_region
          go_wp2_with fail;go_roundw
          case rel=>exact⟨k+1,by go_num,by have:=HLT.out;omega,by have:=HV2.out;push_cast;exact this.symm,_,_,rfl⟩
          case measure=>have:=HLT.out;simp[intOf];omega
      · have hb:veq (k0,xi,xs) (k0,i0,s0)=false:=by simp[veq,Ne.symm e2]
        have HV2:=Lib.hid (HV.out.symm.trans (if_neg zbq));clear HV hb;go_wp2_with fail
        go_region
        go_wp2_with fail;go_roundw
        case rel=>exact⟨k+1,by go_num,by have:=HLT.out;omega,by have:=HV2.out;push_cast;exact this.symm,_,_,rfl⟩
        case measure=>have:=HLT.out;simp[intOf];omega
    · have hb:veq (xk,xi,xs) (k0,i0,s0)=false:=by simp[veq,Ne.symm e1]
      have HV2:=Lib.hid (HV.out.symm.trans (if_neg zbq));clear HV hb;go_wp2_with fail
      go_region
      go_wp2_with fail;go_roundw
      case rel=>exact⟨k+1,by go_num,by have:=HLT.out;omega,by have:=HV2.out;push_cast;exact this.symm,_,_,rfl⟩
      case measure=>have:=HLT.out;simp[intOf];omega
  · have hke:k=n:=by omega
    subst hke
    have e0:vidx (k0,i0,s0) l 0=-1:=by
     have:=HQ.out
     rw[List.drop_eq_nil_of_le zap] at this;exact this.symm
    have E0:=Lib.hid e0;clear hlt e0;go_wp2_with fail;go_ret
    exact⟨by(rw[E0.out];rfl),zaa⟩
theorem results_cell {fn:Func} {p:Tmp} {ty:TypeId} (h:fn.results=#[.cell p ty]) (tmps:Array Value) (w:World) (a:Addr) (r:Value)
  (hp:tmps.getD p undef=.pointer (some a)) (hl:(loadVar ty a).run Tryz.prog w=.ok r w) :
  (results fn tmps).run Tryz.prog w=.ok r w:=by
 have hp':tmps[p]?.getD undef=.pointer (some a):=by simpa using hp
 simp[results,h,hp',asAddr,hl]
theorem csigns_any (w:World):Calls Tryz.prog 224 #[] w fun r w'=>r=.returned (.agg #[.string ⟨#[61,61]⟩,.string ⟨#[33,61]⟩,.string ⟨#[60]⟩,.string ⟨#[60,61]⟩,.string ⟨#[62]⟩,.string ⟨#[62,61]⟩,.string ⟨#[43]⟩,.string ⟨#[45]⟩,.string ⟨#[42]⟩,.string ⟨#[47]⟩,.string ⟨#[37]⟩,.string ⟨#[46,46]⟩])∧Ext w w':=by
 go_enter Tryz.func224,Tryz.ntmps224;go_wp2_with fail;exact bodyPost_ret (results_cell (p:=0) (ty:=278) rfl _ _ ⟨w.heap.size,0,none⟩ _ rfl (run_loadVar_row _ w.heap.size 278 278 #[.string ⟨#[61,61]⟩,.string ⟨#[33,61]⟩,.string ⟨#[60]⟩,.string ⟨#[60,61]⟩,.string ⟨#[62]⟩,.string ⟨#[62,61]⟩,.string ⟨#[43]⟩,.string ⟨#[45]⟩,.string ⟨#[42]⟩,.string ⟨#[47]⟩,.string ⟨#[37]⟩,.string ⟨#[46,46]⟩] (0,0) _ (heap_alloc_new _ _) Tryz.underlying278 rfl zaf)) rfl ⟨rfl,(Ext.refl w).alloc _⟩
theorem csign_gen (s x0 x1 x2 x3 x4 x5 x6 x7 x8 x9 x10 x11:ByteArray) (w:World) (hsg:∀ W,Calls Tryz.prog 224 #[] W fun r w'=>r=.returned (.agg #[.string x0,.string x1,.string x2,.string x3,.string x4,.string x5,.string x6,.string x7,.string x8,.string x9,.string x10,.string x11])∧Ext W w'):Calls Tryz.prog 207 #[.string s] w fun r w'=>r=.returned (.int .i64 (sidx s [x0,x1,x2,x3,x4,x5,x6,x7,x8,x9,x10,x11] 0))∧Ext w w':=by
 have SG:=Lib.hid hsg;clear hsg
 obtain⟨r,hr⟩:∃ r,sidx s [x0,x1,x2,x3,x4,x5,x6,x7,x8,x9,x10,x11] 0=r:=⟨_,rfl⟩
 rw[hr]
 have I0:∀ W:World,(Instr.index 278 (.agg #[.string x0,.string x1,.string x2,.string x3,.string x4,.string x5,.string x6,.string x7,.string x8,.string x9,.string x10,.string x11]) (.int .i64 0)).run Tryz.prog W=.ok (.string x0) W:=fun W=>by kernel_rfl
 have I1:∀ W:World,(Instr.index 278 (.agg #[.string x0,.string x1,.string x2,.string x3,.string x4,.string x5,.string x6,.string x7,.string x8,.string x9,.string x10,.string x11]) (.int .i64 1)).run Tryz.prog W=.ok (.string x1) W:=fun W=>by kernel_rfl
 have I2:∀ W:World,(Instr.index 278 (.agg #[.string x0,.string x1,.string x2,.string x3,.string x4,.string x5,.string x6,.string x7,.string x8,.string x9,.string x10,.string x11]) (.int .i64 2)).run Tryz.prog W=.ok (.string x2) W:=fun W=>by kernel_rfl
 have I3:∀ W:World,(Instr.index 278 (.agg #[.string x0,.string x1,.string x2,.string x3,.string x4,.string x5,.string x6,.string x7,.string x8,.string x9,.string x10,.string x11]) (.int .i64 3)).run Tryz.prog W=.ok (.string x3) W:=fun W=>by kernel_rfl
 have I4:∀ W:World,(Instr.index 278 (.agg #[.string x0,.string x1,.string x2,.string x3,.string x4,.string x5,.string x6,.string x7,.string x8,.string x9,.string x10,.string x11]) (.int .i64 4)).run Tryz.prog W=.ok (.string x4) W:=fun W=>by kernel_rfl
 have I5:∀ W:World,(Instr.index 278 (.agg #[.string x0,.string x1,.string x2,.string x3,.string x4,.string x5,.string x6,.string x7,.string x8,.string x9,.string x10,.string x11]) (.int .i64 5)).run Tryz.prog W=.ok (.string x5) W:=fun W=>by kernel_rfl
 have I6:∀ W:World,(Instr.index 278 (.agg #[.string x0,.string x1,.string x2,.string x3,.string x4,.string x5,.string x6,.string x7,.string x8,.string x9,.string x10,.string x11]) (.int .i64 6)).run Tryz.prog W=.ok (.string x6) W:=fun W=>by kernel_rfl
 have I7:∀ W:World,(Instr.index 278 (.agg #[.string x0,.string x1,.string x2,.string x3,.string x4,.string x5,.string x6,.string x7,.string x8,.string x9,.string x10,.string x11]) (.int .i64 7)).run Tryz.prog W=.ok (.string x7) W:=fun W=>by kernel_rfl
 have I8:∀ W:World,(Instr.index 278 (.agg #[.string x0,.string x1,.string x2,.string x3,.string x4,.string x5,.string x6,.string x7,.string x8,.string x9,.string x10,.string x11]) (.int .i64 8)).run Tryz.prog W=.ok (.string x8) W:=fun W=>by kernel_rfl
 have I9:∀ W:World,(Instr.index 278 (.agg #[.string x0,.string x1,.string x2,.string x3,.string x4,.string x5,.string x6,.string x7,.string x8,.string x9,.string x10,.string x11]) (.int .i64 9)).run Tryz.prog W=.ok (.string x9) W:=fun W=>by kernel_rfl
 have I10:∀ W:World,(Instr.index 278 (.agg #[.string x0,.string x1,.string x2,.string x3,.string x4,.string x5,.string x6,.string x7,.string x8,.string x9,.string x10,.string x11]) (.int .i64 10)).run Tryz.prog W=.ok (.string x10) W:=fun W=>by kernel_rfl
 have I11:∀ W:World,(Instr.index 278 (.agg #[.string x0,.string x1,.string x2,.string x3,.string x4,.string x5,.string x6,.string x7,.string x8,.string x9,.string x10,.string x11]) (.int .i64 11)).run Tryz.prog W=.ok (.string x11) W:=fun W=>by kernel_rfl
 have HR:=Lib.hid hr;clear hr;go_enter Tryz.func207,Tryz.ntmps207
 go_wp2_with ((with_reducible refine (SG.out _).mono ?_);rintro e' w1 ⟨rfl,hx⟩;have HX:=Lib.hid hx;clear hx)
 go_loopw [6] (fun y6 wr=>∃ k:Nat,y6=.int .i64 (k:Int)∧k≤12∧sidx s ([x0,x1,x2,x3,x4,x5,x6,x7,x8,x9,x10,x11].drop k) (k:Int)=r∧wr=w1) (fun y6 _=>12-(intOf y6).toNat)
 case atStart=>exact⟨0,rfl,Nat.zero_le _,HR.out,rfl⟩
 case round =>
  obtain⟨k,rfl,hk,hq,rfl⟩:=hrel
  have hc:k=0∨k=1∨k=2∨k=3∨k=4∨k=5∨k=6∨k=7∨k=8∨k=9∨k=10∨k=11∨k=12:=by omega
  rcases hc with rfl | rfl | rfl | rfl | rfl | rfl | rfl | rfl | rfl | rfl | rfl | rfl | rfl
  · simp only[List.drop_succ_cons,List.drop_zero,sidx] at hq
    cases hb:(x0.toList==s.toList)
    · have HQ:=Lib.hid (hq.symm.trans (if_neg zbq))
      clear hq;go_wp2_with fail;go_roundw
      case rel=>exact⟨1,by go_num,by omega,by have:=HQ.out;simp only[List.drop_succ_cons,List.drop_zero];exact this.symm,by first | rfl | trivial⟩
      case measure=>simp[intOf]
    · have HQ:=Lib.hid (hq.symm.trans (if_pos hb))
      clear hq;go_wp2_with fail;go_ret;exact yaz
  · simp only[List.drop_succ_cons,List.drop_zero,sidx] at hq
    cases hb:(x1.toList==s.toList)
    · have HQ:=Lib.hid (hq.symm.trans (if_neg zbq))
      clear hq;go_wp2_with fail;go_roundw
      case rel=>exact⟨2,by go_num,by omega,by have:=HQ.out;simp only[List.drop_succ_cons,List.drop_zero];exact this.symm,by first | rfl | trivial⟩
      case measure=>simp[intOf]
    · have HQ:=Lib.hid (hq.symm.trans (if_pos hb))
      clear hq;go_wp2_with fail;go_ret;exact yaz
  · simp only[List.drop_succ_cons,List.drop_zero,sidx] at hq
    cases hb:(x2.toList==s.toList)
    · have HQ:=Lib.hid (hq.symm.trans (if_neg zbq))
      clear hq;go_wp2_with fail;go_roundw
      case rel=>exact⟨3,by go_num,by omega,by have:=HQ.out;simp only[List.drop_succ_cons,List.drop_zero];exact this.symm,by first | rfl | trivial⟩
      case measure=>simp[intOf]
    · have HQ:=Lib.hid (hq.symm.trans (if_pos hb))
      clear hq;go_wp2_with fail;go_ret;exact yaz
  · simp only[List.drop_succ_cons,List.drop_zero,sidx] at hq
    cases hb:(x3.toList==s.toList)
    · have HQ:=Lib.hid (hq.symm.trans (if_neg zbq))
      clear hq;go_wp2_with fail;go_roundw
      case rel=>exact⟨4,by go_num,by omega,by have:=HQ.out;simp only[List.drop_succ_cons,List.drop_zero];exact this.symm,by first | rfl | trivial⟩
      case measure=>simp[intOf]
    · have HQ:=Lib.hid (hq.symm.trans (if_pos hb))
      clear hq;go_wp2_with fail;go_ret;exact yaz
  · simp only[List.drop_succ_cons,List.drop_zero,sidx] at hq
    cases hb:(x4.toList==s.toList)
    · have HQ:=Lib.hid (hq.symm.trans (if_neg zbq))
      clear hq;go_wp2_with fail;go_roundw
      case rel=>exact⟨5,by go_num,by omega,by have:=HQ.out;simp only[List.drop_succ_cons,List.drop_zero];exact this.symm,by first | rfl | trivial⟩
      case measure=>simp[intOf]
    · have HQ:=Lib.hid (hq.symm.trans (if_pos hb))
      clear hq;go_wp2_with fail;go_ret;exact yaz
  · simp only[List.drop_succ_cons,List.drop_zero,sidx] at hq
    cases hb:(x5.toList==s.toList)
    · have HQ:=Lib.hid (hq.symm.trans (if_neg zbq))
      clear hq;go_wp2_with fail;go_roundw
      case rel=>exact⟨6,by go_num,by omega,by have:=HQ.out;simp only[List.drop_succ_cons,List.drop_zero];exact this.symm,by first | rfl | trivial⟩
      case measure=>simp[intOf]
    · have HQ:=Lib.hid (hq.symm.trans (if_pos hb))
      clear hq;go_wp2_with fail;go_ret;exact yaz
  · simp only[List.drop_succ_cons,List.drop_zero,sidx] at hq
    cases hb:(x6.toList==s.toList)
    · have HQ:=Lib.hid (hq.symm.trans (if_neg zbq))
      clear hq;go_wp2_with fail;go_roundw
      case rel=>exact⟨7,by go_num,by omega,by have:=HQ.out;simp only[List.drop_succ_cons,List.drop_zero];exact this.symm,by first | rfl | trivial⟩
      case measure=>simp[intOf]
    · have HQ:=Lib.hid (hq.symm.trans (if_pos hb))
      clear hq;go_wp2_with fail;go_ret;exact yaz
  · simp only[List.drop_succ_cons,List.drop_zero,sidx] at hq
    cases hb:(x7.toList==s.toList)
    · have HQ:=Lib.hid (hq.symm.trans (if_neg zbq))
      clear hq;go_wp2_with fail;go_roundw
      case rel=>exact⟨8,by go_num,by omega,by have:=HQ.out;simp only[List.drop_succ_cons,List.drop_zero];exact this.symm,by first | rfl | trivial⟩
      case measure=>simp[intOf]
    · have HQ:=Lib.hid (hq.symm.trans (if_pos hb))
      clear hq;go_wp2_with fail;go_ret;exact yaz
  · simp only[List.drop_succ_cons,List.drop_zero,sidx] at hq
    cases hb:(x8.toList==s.toList)
    · have HQ:=Lib.hid (hq.symm.trans (if_neg zbq))
      clear hq;go_wp2_with fail;go_roundw
      case rel=>exact⟨9,by go_num,by omega,by have:=HQ.out;simp only[List.drop_succ_cons,List.drop_zero];exact this.symm,by first | rfl | trivial⟩
      case measure=>simp[intOf]
    · have HQ:=Lib.hid (hq.symm.trans (if_pos hb))
      clear hq;go_wp2_with fail;go_ret;exact yaz
  · simp only[List.drop_succ_cons,List.drop_zero,sidx] at hq
    cases hb:(x9.toList==s.toList)
    · have HQ:=Lib.hid (hq.symm.trans (if_neg zbq))
      clear hq;go_wp2_with fail;go_roundw
      case rel=>exact⟨10,by go_num,by omega,by have:=HQ.out;simp only[List.drop_succ_cons,List.drop_zero];exact this.symm,by first | rfl | trivial⟩
      case measure=>simp[intOf]
    · have HQ:=Lib.hid (hq.symm.trans (if_pos hb))
      clear hq;go_wp2_with fail;go_ret;exact yaz
  · simp only[List.drop_succ_cons,List.drop_zero,sidx] at hq
    cases hb:(x10.toList==s.toList)
    · have HQ:=Lib.hid (hq.symm.trans (if_neg zbq))
      clear hq;go_wp2_with fail;go_roundw
      case rel=>exact⟨11,by go_num,by omega,by have:=HQ.out;simp only[List.drop_succ_cons,List.drop_zero];exact this.symm,by first | rfl | trivial⟩
      case measure=>simp[intOf]
    · have HQ:=Lib.hid (hq.symm.trans (if_pos hb))
      clear hq;go_wp2_with fail;go_ret;exact yaz
  · simp only[List.drop_succ_cons,List.drop_zero,sidx] at hq
    cases hb:(x11.toList==s.toList)
    · have HQ:=Lib.hid (hq.symm.trans (if_neg zbq))
      clear hq;go_wp2_with fail;go_roundw
      case rel=>exact⟨12,by go_num,by omega,by have:=HQ.out;simp only[List.drop_succ_cons,List.drop_zero];exact this.symm,by first | rfl | trivial⟩
      case measure=>simp[intOf]
    · have HQ:=Lib.hid (hq.symm.trans (if_pos hb))
      clear hq;go_wp2_with fail;go_ret;exact yaz
  · simp only[List.drop_succ_cons,List.drop_zero,List.drop_nil,sidx] at hq
    have HQ:=Lib.hid hq;clear hq;go_wp2_with fail;go_ret
    exact⟨by(rw[←HQ.out];rfl),HX.out⟩
theorem csign_any (s:ByteArray) (w:World):Calls Tryz.prog 207 #[.string s] w fun r w'=>r=.returned (.int .i64 (csgF s))∧Ext w w':=csign_gen s _ _ _ _ _ _ _ _ _ _ _ _ w csigns_any
theorem valInfo:(Tryz.prog.info? 45).map (fun i=>(i.zero,i.size,i.bytes))=some (some (.agg #[.int .i64 0,.int .i64 0,.string ⟨#[]⟩]),3,32):=by kernel_rfl
theorem value_any {L:List (Nat × Obj)} {M R:Mk} {w:World} (h:MkS W c m nv sv fi mo ns sl L M w) (k0 i0:Int) (s0:ByteArray) (j:Int) (hR:M.value (k0,i0,s0)=some (R,j)) :
  Calls Tryz.prog 176 #[.pointer (some ⟨m,0,none⟩),.agg #[.int .i64 k0,.int .i64 i0,.string s0]] w fun r w'=>r=.returned (.int .i64 j)∧MkS W c m nv sv fi mo ns sl L R w':=by
 unfold Mk.value at hR
 split at hR
 rotate_left
 · cases hR
 rename_i hl
 obtain⟨iv,vv,h⟩:=h
 obtain⟨n,hn⟩:∃ n,M.vals.length=n:=⟨_,rfl⟩
 obtain⟨p,k,hv⟩:=qad h.vals
 rw[hn] at hv;subst hv;have HN:=Lib.hid hn;have HQ:=Lib.hid (show(n:Int)≤100000∧n≤100000 from⟨by omega,by omega⟩);have H1:=Lib.hid (h.locNew (.cells #[.int .i64 k0,.int .i64 i0,.string s0] 45 (0,0)));have VI:=Lib.hid (fun (w':World) (hx:Ext (w.alloc (.cells #[.int .i64 k0,.int .i64 i0,.string s0] 45 (0,0))) w')=>vindex_any (own_ext H1.out.vals hx) hl k0 i0 s0)
 obtain⟨x,hx⟩:∃ x,vidx (k0,i0,s0) M.vals 0=x:=⟨_,rfl⟩
 rw[hx] at VI hR;clear h hn hl hx
 by_cases hx0:0≤x
 · rw[if_pos hx0] at hR
   simp only[Option.some.injEq,Prod.mk.injEq] at hR
   obtain⟨e1,e2⟩:=hR
   subst e1 e2;go_enter Tryz.func176,Tryz.ntmps176;go_wp2_with fail
   obtain⟨Bx,hBx⟩:∃ Bx,w.heap.size=Bx:=⟨_,rfl⟩
   obtain⟨w1,hw1⟩:∃ w1,w.alloc (.cells #[.int .i64 k0,.int .i64 i0,.string s0] 45 (0,0))=w1:=⟨_,rfl⟩
   rw[hBx] at H1 ⊢;rw[hw1] at H1 VI ⊢;clear hBx hw1
   have kc1:KB c _ _ w1:=H1.out.code
   have km1:KB m _ _ w1:=H1.out.mkr
   have kb1:KB Bx #[.int .i64 k0,.int .i64 i0,.string s0] 45 w1:=(H1.out.loc _ List.mem_cons_self).1
   have x0:w1.cell? ⟨m,0,none⟩=some (.pointer (some ⟨c,0,none⟩)):=km1.cell 0 _ rfl
   have y3:w1.cell? ⟨c,3,none⟩=some (.slice p n k):=kc1.cell 3 _ rfl
   have b0:w1.cell? ⟨Bx,0,none⟩=some (.int .i64 k0):=kb1.cell 0 _ rfl
   have b1:w1.cell? ⟨Bx,1,none⟩=some (.int .i64 i0):=kb1.cell 1 _ rfl
   have b2:w1.cell? ⟨Bx,2,none⟩=some (.string s0):=kb1.cell 2 _ rfl
   clear kc1 km1 kb1
   go_still_tail 8,zaf
   have H1d:=Lib.hid (H1.out.of_ext ((Ext.refl _).drew));have VId:=Lib.hid (VI.out w1.drew ((Ext.refl _).drew))
   change wpList _ _ _ _ _ w1.drew
   generalize w1.drew=w1d at *
   go_wp2_with (((with_reducible refine VId.out.mono ?_);rintro e' w2 ⟨rfl,hx2⟩;have H2:=Lib.hid (H1d.out.of_ext hx2);clear hx2))
   clear x0 y3 b0 b1 b2 H1 VI H1d VId;go_ret
   exact⟨rfl,MkS.sub ⟨_,_,H2.out⟩ (fun q hq=>List.mem_cons_of_mem _ hq)⟩
 · rw[if_neg hx0] at hR
   simp only[Option.some.injEq,Prod.mk.injEq] at hR
   obtain⟨e1,e2⟩:=hR
   subst e1 e2
   have hxn:x<0:=by omega
   clear hx0;go_enter Tryz.func176,Tryz.ntmps176;go_wp2_with fail
   obtain⟨Bx,hBx⟩:∃ Bx,w.heap.size=Bx:=⟨_,rfl⟩
   obtain⟨w1,hw1⟩:∃ w1,w.alloc (.cells #[.int .i64 k0,.int .i64 i0,.string s0] 45 (0,0))=w1:=⟨_,rfl⟩
   rw[hBx] at H1 ⊢;rw[hw1] at H1 VI ⊢;clear hBx hw1
   have kc1:KB c _ _ w1:=H1.out.code
   have km1:KB m _ _ w1:=H1.out.mkr
   have kb1:KB Bx #[.int .i64 k0,.int .i64 i0,.string s0] 45 w1:=(H1.out.loc _ List.mem_cons_self).1
   have x0:w1.cell? ⟨m,0,none⟩=some (.pointer (some ⟨c,0,none⟩)):=km1.cell 0 _ rfl
   have y3:w1.cell? ⟨c,3,none⟩=some (.slice p n k):=kc1.cell 3 _ rfl
   have b0:w1.cell? ⟨Bx,0,none⟩=some (.int .i64 k0):=kb1.cell 0 _ rfl
   have b1:w1.cell? ⟨Bx,1,none⟩=some (.int .i64 i0):=kb1.cell 1 _ rfl
   have b2:w1.cell? ⟨Bx,2,none⟩=some (.string s0):=kb1.cell 2 _ rfl
   clear kc1 km1 kb1
   go_still_tail 8,zaf
   have H1d:=Lib.hid (H1.out.of_ext ((Ext.refl _).drew));have VId:=Lib.hid (VI.out w1.drew ((Ext.refl _).drew))
   change wpList _ _ _ _ _ w1.drew
   generalize w1.drew=w1d at *
   go_wp2_with (((with_reducible refine VId.out.mono ?_);rintro e' w2 ⟨rfl,hx2⟩;have H2:=Lib.hid (H1d.out.of_ext hx2);clear hx2))
   clear x0 y3 b0 b1 b2 H1 VI H1d VId;have HOM:=Lib.hid (show(Value.slice p n k).ownBlock≠some m from fun e=>((H2.out.apart m).2 e).2 rfl);have HOC:=Lib.hid (show(Value.slice p n k).ownBlock≠some c from fun e=>((H2.out.apart c).2 e).1 rfl);have HLC:=Lib.hid (H2.out.loc _ List.mem_cons_self);have HCM:=Lib.hid (Ne.symm H2.out.base.2.2.1);have HKC:=Lib.hid (show KB c _ _ w2 from H2.out.code);have HKM:=Lib.hid (show KB m _ _ w2 from H2.out.mkr);have HKB:=Lib.hid (show KB Bx #[.int .i64 k0,.int .i64 i0,.string s0] 45 w2 from HLC.out.1)
   have x0:w2.cell? ⟨m,0,none⟩=some (.pointer (some ⟨c,0,none⟩)):=HKM.out.cell 0 _ rfl
   have y2:w2.cell? ⟨c,3,none⟩=some (.slice p n k):=HKC.out.cell 3 _ rfl
   have b0:w2.cell? ⟨Bx,0,none⟩=some (.int .i64 k0):=HKB.out.cell 0 _ rfl
   have b1:w2.cell? ⟨Bx,1,none⟩=some (.int .i64 i0):=HKB.out.cell 1 _ rfl
   have b2:w2.cell? ⟨Bx,2,none⟩=some (.string s0):=HKB.out.cell 2 _ rfl
   have lc:=HKC.out.lt;have lm:=HKM.out.lt;have lb:=HKB.out.lt;have HOB:=Lib.hid (show(Value.slice p n k).ownBlock≠some Bx from HLC.out.2.2.2.2);have HCB:=Lib.hid (show Bx≠c from HLC.out.2.1)
   obtain⟨v0,hi,hz0,hz1,hz2⟩:=info_parts valInfo
   refine wp_region_held_drew (S:=(fun w'=>w'.cell? ⟨m,0,none⟩=some (.pointer (some ⟨c,0,none⟩))∧w'.cell? ⟨Bx,0,none⟩=some (.int .i64 k0)∧w'.cell? ⟨Bx,1,none⟩=some (.int .i64 i0)∧w'.cell? ⟨Bx,2,none⟩=some (.string s0))) zaf ⟨cell_ext x0 zad,cell_ext b0 zad,cell_ext b1 zad,cell_ext b2 zad⟩ (fun hS=>?_);refine tkH 0 (.pointer (some ⟨m,0,none⟩)) hS ?_;refine yab ?_;refine tkH 1 (.pointer (some ⟨m,0,none⟩)) hS ?_;refine yab ?_;refine tkH 2 (.pointer (some ⟨m,0,none⟩)) hS ?_;refine yab ?_;refine tkH 3 (.pointer (some ⟨c,0,none⟩)) hS ?_;refine yab ?_;refine tkH 4 (.pointer (some ⟨m,0,none⟩)) hS ?_;refine yab ?_
   refine tkH 5 (.pointer (some ⟨m,0,none⟩)) hS ?_;refine yab ?_;refine tkH 6 (.pointer (some ⟨m,0,none⟩)) hS ?_;refine yab ?_;refine tkH 7 (.pointer (some ⟨c,0,none⟩)) hS ?_;refine yab ?_;refine tkH 8 (.pointer (some ⟨c,0,none⟩)) hS ?_;refine yab ?_;refine tkH 9 (.pointer (some ⟨c,3,none⟩)) hS ?_;refine yab ?_;refine tkH 11 (.agg #[.int .i64 k0,.int .i64 i0,.string s0]) hS ?_;refine yab ?_;refine wpAnyH_ready (rs:=[10,12]) zaf zaj ?_;refine AllReadyH.cons (o:=_) rfl (fun K hK=>?_) (AllReadyH.cons (o:=_) rfl (fun K hK=>?_) AllReadyH.nil)
   · rw[if_pos (by rfl)]
     have y2d:w2.drew.cell? ⟨c,3,none⟩=some (.slice p n k):=cell_ext y2 zad
     go_simp;refine hK.out _ _ (⟨cell_ext x0 zad,cell_ext b0 zad,cell_ext b1 zad,cell_ext b2 zad⟩) (fun hS1=>?_);clear hK K;refine yab ?_;refine wpAnyH_ready (rs:=[12]) zaf zaj ?_;refine AllReadyH.cons (o:=_) rfl (fun K hK=>?_) AllReadyH.nil;rw[if_pos (by rfl)];go_simp;refine hK.out _ _ (⟨cell_ext x0 zad,cell_ext b0 zad,cell_ext b1 zad,cell_ext b2 zad⟩) (fun hS2=>?_);clear hK K;refine yab ?_;refine wpAnyH_ready (rs:=[13]) zaf zaj ?_;refine AllReadyH.cons (o:=_) rfl (fun K hK=>?_) AllReadyH.nil;refine step_append_lies _ rfl (.tmp 28) (.tmp 30) 168 rfl W.heap.size 45 v0 (.agg #[.int .i64 0,.int .i64 0,.string ⟨#[]⟩]) 3 32 Tryz.underlying168 hi hz0 hz1 hz2 rfl zal (.slice p n k) n (valC3 M.vals) rfl (own_ext (by have:=H2.out.vals;rw[HN.out] at this;exact this) zad) ⟨w2.heap.size,0,none⟩ 1 1 [.int .i64 k0,.int .i64 i0,.string s0] rfl rfl (World.news_of_block (heap_alloc_new _ _)) (by intro u hu;simp at hu;rcases hu with rfl | rfl | rfl<;>rfl) zal (by have:=HQ.out.2;unfold maxLen;omega) (by have:=HQ.out.2;omega) (by have:=H2.out.ext.size;simp;omega) _ rfl ?_
     intro g1 cap1 w4 hown4 hgrow4 hat4 hlt4
     have kb4:KB c _ _ w4:=(hgrow4.block c zam (Ne.symm HOC.out)).trans (HKC.out.of_ext zad)
     have km4:KB m _ _ w4:=(hgrow4.block m zam (Ne.symm HOM.out)).trans (HKM.out.of_ext zad)
     have kx4:KB Bx #[.int .i64 k0,.int .i64 i0,.string s0] 45 w4:=(hgrow4.block Bx zam (Ne.symm HOB.out)).trans (HKB.out.of_ext zad)
     have m0:w4.cell? ⟨m,0,none⟩=some (.pointer (some ⟨c,0,none⟩)):=km4.cell 0 _ rfl
     have m2:w4.cell? ⟨c,3,none⟩=some (.slice p n k):=kb4.cell 3 _ rfl
     have m3:=kb4.frozen 3;have m4:=kb4.lt
     have d0:w4.cell? ⟨Bx,0,none⟩=some (.int .i64 k0):=kx4.cell 0 _ rfl
     have d1:w4.cell? ⟨Bx,1,none⟩=some (.int .i64 i0):=kx4.cell 1 _ rfl
     have d2:w4.cell? ⟨Bx,2,none⟩=some (.string s0):=kx4.cell 2 _ rfl
     have KM4:=Lib.hid km4;have KX4:=Lib.hid kx4;clear kb4 km4 kx4;refine hK.out _ _ (⟨m0,d0,d1,d2⟩) (fun hS3=>?_);clear hK K;refine yab ?_;refine tkH 14 (.pointer (some ⟨c,0,none⟩)) hS3 ?_;refine yab ?_;refine tkH 15 (.pointer (some ⟨c,3,none⟩)) hS3 ?_;refine yab ?_;refine wpAnyH_ready (rs:=[16]) zaf zaj ?_;refine AllReadyH.cons (o:=_) rfl (fun K hK=>?_) AllReadyH.nil;rw[if_pos (by rfl)];go_simp;refine hK.out _ _ (⟨(KM4.out.setOther 3 _ HCM.out).cell 0 (.pointer (some ⟨c,0,none⟩)) rfl,(KX4.out.setOther 3 _ HCB.out).cell 0 (.int .i64 k0) rfl,(KX4.out.setOther 3 _ HCB.out).cell 1 (.int .i64 i0) rfl,(KX4.out.setOther 3 _ HCB.out).cell 2 (.string s0) rfl⟩) (fun hS4=>?_)
     clear hK K;refine yab ?_;refine wpAnyH_done zaf ?_ _
     have hv4:(Value.slice (some ⟨g1,0,none⟩) (n+1) cap1).ownBlock=(Value.slice p n k).ownBlock∨(Value.slice (some ⟨g1,0,none⟩) (n+1) cap1).ownBlock=some (((w2.alloc (.cells #[.int .i64 k0,.int .i64 i0,.string s0] 45)).drew)).heap.size:=by
      rcases hat4 with e | e
      · exact Or.inl e.symm
      · exact Or.inr (by rw[←e];rfl)
     have HP:=Lib.hid (MkV.push_val (x:=(k0,i0,s0)) (H2.out.of_ext (w':=((w2.alloc (.cells #[.int .i64 k0,.int .i64 i0,.string s0] 45)).drew)) zad) (by rw[HN.out];exact hown4) hgrow4 hv4);clear hv4 hat4 hlt4 hgrow4 hown4 m0 m2 m3 m4 KM4 HKC HKM H2 x0 y2 lc lm d0 d1 d2 KX4 HKB b0 b1 b2 lb;generalize w4.setCell ⟨c,3,none⟩ (Value.slice (some ⟨g1,0,none⟩) (n+1) cap1)=W1 at *
     have kc:KB c _ _ W1:=HP.out.code
     have km:KB m _ _ W1:=HP.out.mkr
     have x0:W1.cell? ⟨m,0,none⟩=some (.pointer (some ⟨c,0,none⟩)):=km.cell 0 _ rfl
     have x3:W1.cell? ⟨c,3,none⟩=some (.slice (some ⟨g1,0,none⟩) (n+1) cap1):=kc.cell 3 _ rfl
     have lm:=km.lt;have lc:=kc.lt;have hnI:=HQ.out.1;clear kc km;go_wp2_with fail;go_ret
     exact⟨by(rw[HN.out];rfl),MkS.sub ⟨_,_,HP.out⟩ (fun q hq=>List.mem_cons_of_mem _ hq)⟩
   · rw[if_pos (by rfl)]
     go_simp;refine hK.out _ _ (⟨cell_ext x0 zad,cell_ext b0 zad,cell_ext b1 zad,cell_ext b2 zad⟩) (fun hS1=>?_);clear hK K;refine yab ?_
     have y2a:((w2.alloc (.cells #[.int .i64 k0,.int .i64 i0,.string s0] 45)).drew).cell? ⟨c,3,none⟩=some (.slice p n k):=cell_ext y2 zad
     refine wpAnyH_ready (rs:=[10]) zaf zaj ?_;refine AllReadyH.cons (o:=_) rfl (fun K hK=>?_) AllReadyH.nil;rw[if_pos (by rfl)];go_simp;refine hK.out _ _ (⟨cell_ext x0 zad,cell_ext b0 zad,cell_ext b1 zad,cell_ext b2 zad⟩) (fun hS2=>?_);clear hK K;refine yab ?_;refine wpAnyH_ready (rs:=[13]) zaf zaj ?_;refine AllReadyH.cons (o:=_) rfl (fun K hK=>?_) AllReadyH.nil;refine step_append_lies _ rfl (.tmp 28) (.tmp 30) 168 rfl W.heap.size 45 v0 (.agg #[.int .i64 0,.int .i64 0,.string ⟨#[]⟩]) 3 32 Tryz.underlying168 hi hz0 hz1 hz2 rfl zal (.slice p n k) n (valC3 M.vals) rfl (own_ext (by have:=H2.out.vals;rw[HN.out] at this;exact this) zad) ⟨w2.heap.size,0,none⟩ 1 1 [.int .i64 k0,.int .i64 i0,.string s0] rfl rfl (World.news_of_block (heap_alloc_new _ _)) (by intro u hu;simp at hu;rcases hu with rfl | rfl | rfl<;>rfl) zal (by have:=HQ.out.2;unfold maxLen;omega) (by have:=HQ.out.2;omega) (by have:=H2.out.ext.size;simp;omega) _ rfl ?_
     intro g1 cap1 w4 hown4 hgrow4 hat4 hlt4
     have kb4:KB c _ _ w4:=(hgrow4.block c zam (Ne.symm HOC.out)).trans (HKC.out.of_ext zad)
     have km4:KB m _ _ w4:=(hgrow4.block m zam (Ne.symm HOM.out)).trans (HKM.out.of_ext zad)
     have kx4:KB Bx #[.int .i64 k0,.int .i64 i0,.string s0] 45 w4:=(hgrow4.block Bx zam (Ne.symm HOB.out)).trans (HKB.out.of_ext zad)
     have m0:w4.cell? ⟨m,0,none⟩=some (.pointer (some ⟨c,0,none⟩)):=km4.cell 0 _ rfl
     have m2:w4.cell? ⟨c,3,none⟩=some (.slice p n k):=kb4.cell 3 _ rfl
     have m3:=kb4.frozen 3;have m4:=kb4.lt
     have d0:w4.cell? ⟨Bx,0,none⟩=some (.int .i64 k0):=kx4.cell 0 _ rfl
     have d1:w4.cell? ⟨Bx,1,none⟩=some (.int .i64 i0):=kx4.cell 1 _ rfl
     have d2:w4.cell? ⟨Bx,2,none⟩=some (.string s0):=kx4.cell 2 _ rfl
     have KM4:=Lib.hid km4;have KX4:=Lib.hid kx4;clear kb4 km4 kx4;refine hK.out _ _ (⟨m0,d0,d1,d2⟩) (fun hS3=>?_);clear hK K;refine yab ?_;refine tkH 14 (.pointer (some ⟨c,0,none⟩)) hS3 ?_;refine yab ?_;refine tkH 15 (.pointer (some ⟨c,3,none⟩)) hS3 ?_;refine yab ?_;refine wpAnyH_ready (rs:=[16]) zaf zaj ?_;refine AllReadyH.cons (o:=_) rfl (fun K hK=>?_) AllReadyH.nil;rw[if_pos (by rfl)];go_simp;refine hK.out _ _ (⟨(KM4.out.setOther 3 _ HCM.out).cell 0 (.pointer (some ⟨c,0,none⟩)) rfl,(KX4.out.setOther 3 _ HCB.out).cell 0 (.int .i64 k0) rfl,(KX4.out.setOther 3 _ HCB.out).cell 1 (.int .i64 i0) rfl,(KX4.out.setOther 3 _ HCB.out).cell 2 (.string s0) rfl⟩) (fun hS4=>?_)
     clear hK K;refine yab ?_;refine wpAnyH_done zaf ?_ _
     have hv4:(Value.slice (some ⟨g1,0,none⟩) (n+1) cap1).ownBlock=(Value.slice p n k).ownBlock∨(Value.slice (some ⟨g1,0,none⟩) (n+1) cap1).ownBlock=some (((w2.alloc (.cells #[.int .i64 k0,.int .i64 i0,.string s0] 45)).drew)).heap.size:=by
      rcases hat4 with e | e
      · exact Or.inl e.symm
      · exact Or.inr (by rw[←e];rfl)
     have HP:=Lib.hid (MkV.push_val (x:=(k0,i0,s0)) (H2.out.of_ext (w':=((w2.alloc (.cells #[.int .i64 k0,.int .i64 i0,.string s0] 45)).drew)) zad) (by rw[HN.out];exact hown4) hgrow4 hv4);clear hv4 hat4 hlt4 hgrow4 hown4 m0 m2 m3 m4 KM4 HKC HKM H2 x0 y2 lc lm d0 d1 d2 KX4 HKB b0 b1 b2 lb;generalize w4.setCell ⟨c,3,none⟩ (Value.slice (some ⟨g1,0,none⟩) (n+1) cap1)=W1 at *
     have kc:KB c _ _ W1:=HP.out.code
     have km:KB m _ _ W1:=HP.out.mkr
     have x0:W1.cell? ⟨m,0,none⟩=some (.pointer (some ⟨c,0,none⟩)):=km.cell 0 _ rfl
     have x3:W1.cell? ⟨c,3,none⟩=some (.slice (some ⟨g1,0,none⟩) (n+1) cap1):=kc.cell 3 _ rfl
     have lm:=km.lt;have lc:=kc.lt;have hnI:=HQ.out.1;clear kc km;go_wp2_with fail;go_ret
     exact⟨by(rw[HN.out];rfl),MkS.sub ⟨_,_,HP.out⟩ (fun q hq=>List.mem_cons_of_mem _ hq)⟩
end Go.Proofs.YtpnabjopfpdkhaaGreatDoor
