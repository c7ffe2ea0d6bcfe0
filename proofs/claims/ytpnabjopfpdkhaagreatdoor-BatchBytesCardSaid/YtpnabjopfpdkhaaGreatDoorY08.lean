/- Lemmas. -/
import Derived.Test.YtpnabjopfpdkhaaGreatDoorY07
import Derived.Deep.RegionHeldLaw
import Derived.StillTailTactics
set_option linter.all false
set_option maxHeartbeats 8000000
set_option maxRecDepth 20000
namespace Go.Proofs.YtpnabjopfpdkhaaGreatDoor
open Tryz RowKit
attribute [go_sem] more_more Array.size_append
def cell_ext {w w':World} {a:Addr} {v:Value} (h:w.cell? a=some v) (hx:Ext w w'):w'.cell? a=some v:=(World.cell?_of_block (hx.below.block a.block (World.block_lt_of_cell? _ _ h))).trans h
def insC (l:List Cin):List Value:=l.flatMap fun x=>[.int .i64 x.op,.int .i64 x.a,.int .i64 x.b,.int .i64 x.nd]
def valC3 (l:List (Int × Int × ByteArray)):List Value:=l.flatMap fun v=>[.int .i64 v.1,.int .i64 v.2.1,.string v.2.2]
def insC_app (l m:List Cin):insC (l++m)=insC l++insC m:=by unfold insC;rw[List.flatMap_append]
def valC3_app (l m:List (Int × Int × ByteArray)):valC3 (l++m)=valC3 l++valC3 m:=by unfold valC3;rw[List.flatMap_append]
def insC_get:∀ (l:List Cin) (j:Nat) (x:Cin),l[j]?=some x->(insC l)[j*4]?=some (.int .i64 x.op)/\(insC l)[j*4+1]?=some (.int .i64 x.a)/\(insC l)[j*4+2]?=some (.int .i64 x.b)/\(insC l)[j*4+3]?=some (.int .i64 x.nd)
 | [],_,_,h=>by simp at h
 | y::l,0,x,h=>by simp at h;subst h;exact⟨rfl,rfl,rfl,rfl⟩
 | y::l,j+1,x,h=>by
  have:=insC_get l j x jx;rw[show(j+1)*4=j*4+4 from by omega];exact this
def valC3_get:∀ (l:List (Int × Int × ByteArray)) (j:Nat) (x:Int × Int × ByteArray),l[j]?=some x->(valC3 l)[j*3]?=some (.int .i64 x.1)/\(valC3 l)[j*3+1]?=some (.int .i64 x.2.1)/\(valC3 l)[j*3+2]?=some (.string x.2.2)
 | [],_,_,h=>by simp at h
 | y::l,0,x,h=>by simp at h;subst h;exact⟨rfl,rfl,rfl⟩
 | y::l,j+1,x,h=>by
  have:=valC3_get l j x jx;rw[show(j+1)*3=j*3+3 from by omega];exact this
def insC_setA:∀ (l:List Cin) (j:Nat) (x:Cin) (v:Int),l[j]?=some x->insC (l.set j { x with a:=v })=(insC l).set (j*4+1) (.int .i64 v)
 | [],_,_,_,h=>by simp at h
 | y::l,0,x,v,h=>by simp at h;subst h;rfl
 | y::l,j+1,x,v,h=>by
  have:=insC_setA l j x v jx;rw[show(j+1)*4+1=(j*4+1)+4 from by omega];simp only[insC,List.set_cons_succ,List.flatMap_cons] at this ⊢;rw[this];rfl
def insC_setB:∀ (l:List Cin) (j:Nat) (x:Cin) (v:Int),l[j]?=some x->insC (l.set j { x with b:=v })=(insC l).set (j*4+2) (.int .i64 v)
 | [],_,_,_,h=>by simp at h
 | y::l,0,x,v,h=>by simp at h;subst h;rfl
 | y::l,j+1,x,v,h=>by
  have:=insC_setB l j x v jx;rw[show(j+1)*4+2=(j*4+2)+4 from by omega];simp only[insC,List.set_cons_succ,List.flatMap_cons] at this ⊢;rw[this];rfl
structure MkV (W:World) (c m:Nat) (nv sv:Value) (fi mo:Int) (ns:List Nd) (sl:List Int) (L:List (Nat × Obj)) (M:Mk) (iv vv:Value) (w:World):Prop where
 ext:Ext W w
 code:w.heap[c]?=some (.cells #[nv,.int .i64 fi,iv,vv,.int .i64 mo,.int .i64 M.high] 170 (0,0))
 mkr:w.heap[m]?=some (.cells #[.pointer (some ⟨c,0,none⟩),sv,.int .i64 M.now] 172 (0,0))
 row:w.ownsRow 0 166 8 nv ns.length (qac ns)
 slt:w.ownsRow 0 3 1 sv sl.length (intL sl)
 ins:w.ownsRow W.heap.size 203 4 iv M.ins.length (insC M.ins)
 vals:w.ownsRow W.heap.size 45 3 vv M.vals.length (valC3 M.vals)
 base:W.heap.size<=c/\W.heap.size<=m/\c≠m/\(∀ g,nv.ownBlock=some g->g<W.heap.size)/\(∀ g,sv.ownBlock=some g->g<W.heap.size)
 apart:∀ g,(iv.ownBlock=some g->g≠c/\g≠m/\vv.ownBlock≠some g)/\(vv.ownBlock=some g->g≠c/\g≠m)
 loc:∀ q,q∈L->w.heap[q.1]?=some q.2/\q.1≠c/\q.1≠m/\iv.ownBlock≠some q.1/\vv.ownBlock≠some q.1
def MkS (W:World) (c m:Nat) (nv sv:Value) (fi mo:Int) (ns:List Nd) (sl:List Int) (L:List (Nat × Obj)) (M:Mk) (w:World):Prop:=∃ iv vv,MkV W c m nv sv fi mo ns sl L M iv vv w
def MkV.of_ext {W:World} {c m:Nat} {nv sv:Value} {fi mo:Int} {ns:List Nd} {sl:List Int} {L:List (Nat × Obj)} {M:Mk} {w:World} {iv vv:Value} {w':World} (h:MkV W c m nv sv fi mo ns sl L M iv vv w) (hx:Ext w w'):MkV W c m nv sv fi mo ns sl L M iv vv w' :=
 ⟨h.ext.trans hx,(hx.below.block _ (Array.getElem?_eq_some_iff.1 h.code).1).trans h.code,(hx.below.block _ (Array.getElem?_eq_some_iff.1 h.mkr).1).trans h.mkr,own_ext h.row hx,own_ext h.slt hx,own_ext h.ins hx,own_ext h.vals hx,h.base,h.apart,fun q hq=>⟨(hx.below.block _ (Array.getElem?_eq_some_iff.1 (h.loc q hq).1).1).trans (h.loc q hq).1,(h.loc q hq).2⟩⟩
def MkS.of_ext {W:World} {c m:Nat} {nv sv:Value} {fi mo:Int} {ns:List Nd} {sl:List Int} {L:List (Nat × Obj)} {M:Mk} {w:World} {w':World} (h:MkS W c m nv sv fi mo ns sl L M w) (hx:Ext w w'):MkS W c m nv sv fi mo ns sl L M w':=by
 obtain⟨iv,vv,h⟩:=h;exact⟨iv,vv,h.of_ext hx⟩
def MkV.locNew {W:World} {c m:Nat} {nv sv:Value} {fi mo:Int} {ns:List Nd} {sl:List Int} {L:List (Nat × Obj)} {M:Mk} {w:World} {iv vv:Value} (h:MkV W c m nv sv fi mo ns sl L M iv vv w) (o:Obj):MkV W c m nv sv fi mo ns sl ((w.heap.size,o)::L) M iv vv (w.alloc o):=by
 have h':=h.of_ext ((Ext.refl w).alloc o);refine ⟨h'.ext,h'.code,h'.mkr,h'.row,h'.slt,h'.ins,h'.vals,h'.base,h'.apart,fun q hq=>?_⟩;rcases List.mem_cons.1 hq with e | hq
 . subst e;refine ⟨heap_alloc_new _ _,?_,?_,fun e=>?_,fun e=>?_⟩
   . have:=(Array.getElem?_eq_some_iff.1 h.code).1;dsimp only;omega
   . have:=(Array.getElem?_eq_some_iff.1 h.mkr).1;dsimp only;omega
   . exact absurd (h.ins.lt _ e).2 (Nat.lt_irrefl _)
   . exact absurd (h.vals.lt _ e).2 (Nat.lt_irrefl _)
 . exact h'.loc q hq
def MkS.locNew {W:World} {c m:Nat} {nv sv:Value} {fi mo:Int} {ns:List Nd} {sl:List Int} {L:List (Nat × Obj)} {M:Mk} {w:World} (h:MkS W c m nv sv fi mo ns sl L M w) (o:Obj):MkS W c m nv sv fi mo ns sl ((w.heap.size,o)::L) M (w.alloc o):=by
 obtain⟨iv,vv,h⟩:=h;exact⟨iv,vv,h.locNew o⟩
def MkS.sub {W:World} {c m:Nat} {nv sv:Value} {fi mo:Int} {ns:List Nd} {sl:List Int} {L:List (Nat × Obj)} {M:Mk} {w:World} {L':List (Nat × Obj)} (h:MkS W c m nv sv fi mo ns sl L M w) (hs:∀ q,q∈L'->q∈L):MkS W c m nv sv fi mo ns sl L' M w:=by
 obtain⟨iv,vv,h⟩:=h;exact⟨iv,vv,h.ext,h.code,h.mkr,h.row,h.slt,h.ins,h.vals,h.base,h.apart,fun p hp=>h.loc p (hs p hp)⟩
def MkS.locAt {W:World} {c m:Nat} {nv sv:Value} {fi mo:Int} {ns:List Nd} {sl:List Int} {L:List (Nat × Obj)} {M:Mk} {w:World} {k:Nat} {cs:Array Value} {T:TypeId} (h:MkS W c m nv sv fi mo ns sl L M w) (hq:(k,Obj.cells cs T (0,0))∈L):KB k cs T w:=by
 obtain⟨iv,vv,h⟩:=h;exact(h.loc _ hq).1
def MkV.setNow {W:World} {c m:Nat} {nv sv:Value} {fi mo:Int} {ns:List Nd} {sl:List Int} {L:List (Nat × Obj)} {M:Mk} {w:World} {iv vv:Value} (h:MkV W c m nv sv fi mo ns sl L M iv vv w) (v:Int):MkV W c m nv sv fi mo ns sl L { M with now:=v } iv vv (w.setCell ⟨m,2,none⟩ (.int .i64 v)):=by
 have hA:=h.apart;obtain⟨b1,b2,b3,b4,b5⟩:=h.base;have hk:∀ (x:Value) (k:Nat),(∀ g,x.ownBlock=some g->g≠m)->x.ownBlock=some k->(w.setCell ⟨m,2,none⟩ (.int .i64 v)).heap[k]?=w.heap[k]?:=fun x k hx hk=>heap_set_other _ _ _ _ _ (hx k hk)
 refine ⟨h.ext.setCell b2 _,(heap_set_other _ _ _ _ _ b3).trans h.code,KB.setAt (show KB m _ _ w from h.mkr) 2 _ zy,own_block h.row fun k q _=>hk nv k (fun g q=>by have:=b4 g q;omega) q,own_block h.slt fun k q _=>hk sv k (fun g q=>by have:=b5 g q;omega) q,
  own_block h.ins fun k q _=>hk iv k (fun g q=>((hA g).1 q).2.1) q,own_block h.vals fun k q _=>hk vv k (fun g q=>((hA g).2 q).2) q,h.base,h.apart,fun q hq=>⟨(heap_set_other _ _ _ _ _ (h.loc q hq).2.2.1).trans (h.loc q hq).1,(h.loc q hq).2⟩⟩
def MkV.setHigh {W:World} {c m:Nat} {nv sv:Value} {fi mo:Int} {ns:List Nd} {sl:List Int} {L:List (Nat × Obj)} {M:Mk} {w:World} {iv vv:Value} (h:MkV W c m nv sv fi mo ns sl L M iv vv w) (v:Int):MkV W c m nv sv fi mo ns sl L { M with high:=v } iv vv (w.setCell ⟨c,5,none⟩ (.int .i64 v)):=by
 have hA:=h.apart;obtain⟨b1,b2,b3,b4,b5⟩:=h.base;have hk:∀ (x:Value) (k:Nat),(∀ g,x.ownBlock=some g->g≠c)->x.ownBlock=some k->(w.setCell ⟨c,5,none⟩ (.int .i64 v)).heap[k]?=w.heap[k]?:=fun x k hx hk=>heap_set_other _ _ _ _ _ (hx k hk)
 refine ⟨h.ext.setCell b1 _,KB.setAt (show KB c _ _ w from h.code) 5 _ zy,(heap_set_other _ _ _ _ _ (Ne.symm b3)).trans h.mkr,own_block h.row fun k q _=>hk nv k (fun g q=>by have:=b4 g q;omega) q,own_block h.slt fun k q _=>hk sv k (fun g q=>by have:=b5 g q;omega) q,
  own_block h.ins fun k q _=>hk iv k (fun g q=>((hA g).1 q).1) q,own_block h.vals fun k q _=>hk vv k (fun g q=>((hA g).2 q).1) q,h.base,h.apart,fun q hq=>⟨(heap_set_other _ _ _ _ _ (h.loc q hq).2.1).trans (h.loc q hq).1,(h.loc q hq).2⟩⟩
def MkV.setIns {W:World} {c m:Nat} {nv sv:Value} {fi mo:Int} {ns:List Nd} {sl:List Int} {L:List (Nat × Obj)} {M:Mk} {w:World} {vv:Value} {g k n:Nat} (h:MkV W c m nv sv fi mo ns sl L M (.slice (some ⟨g,0,none⟩) n k) vv w) (i:Nat) (v:Value) (l:List Cin) (hi:i<M.ins.length*4) (hn:M.ins.length=n) (hl:insC l=(insC M.ins).set i v) (hL:l.length=M.ins.length) :
  MkV W c m nv sv fi mo ns sl L { M with ins:=l } (.slice (some ⟨g,0,none⟩) n k) vv (w.setCell ⟨g,i,none⟩ v):=by
 subst hn;have hA:=h.apart;obtain⟨b1,b2,b3,b4,b5⟩:=h.base;obtain⟨a1,a2,a3⟩:=(hA g).1 rfl;have hg0:=(h.ins.lt g rfl).1;have hk:∀ (x:Value) (q:Nat),x.ownBlock≠some g->x.ownBlock=some q->(w.setCell ⟨g,i,none⟩ v).heap[q]?=w.heap[q]?:=fun x q hx hq=>heap_set_other _ _ _ _ _ (fun e=>hx (by rw[<-e];exact hq))
 refine ⟨h.ext.setCell hg0 _,(heap_set_other _ _ _ _ _ (Ne.symm a1)).trans h.code,(heap_set_other _ _ _ _ _ (Ne.symm a2)).trans h.mkr,own_block h.row fun q hq _=>hk nv q (fun e=>by have:=b4 g e;omega) hq,own_block h.slt fun q hq _=>hk sv q (fun e=>by have:=b5 g e;omega) hq,?_,own_block h.vals fun q hq _=>hk vv q a3 hq,h.base,h.apart,fun q hq=>⟨(heap_set_other _ _ _ _ _ (fun e=>(h.loc q hq).2.2.2.1 (by rw[e];rfl))).trans (h.loc q hq).1,(h.loc q hq).2⟩⟩;dsimp only;rw[hL,hl];exact qbq h.ins hi _
def MkV.push_ins {W:World} {c m:Nat} {nv sv:Value} {fi mo:Int} {ns:List Nd} {sl:List Int} {L:List (Nat × Obj)} {M:Mk} {w:World} {iv vv:Value} {v':Value} {w1:World} {x:Cin} (h:MkV W c m nv sv fi mo ns sl L M iv vv w) (hr:w1.ownsRow W.heap.size 203 4 v' (M.ins.length+1) (insC M.ins++insC [x])) (hg:w.grownBy w1 iv.ownBlock) (hv:v'.ownBlock=iv.ownBlock\/v'.ownBlock=some w.heap.size) :
  MkV W c m nv sv fi mo ns sl L { M with ins:=M.ins++[x] } v' vv (w1.setCell ⟨c,2,none⟩ v'):=by
 have hA:=h.apart;obtain⟨b1,b2,b3,b4,b5⟩:=h.base;have lc:=(Array.getElem?_eq_some_iff.1 h.code).1;have lm:=(Array.getElem?_eq_some_iff.1 h.mkr).1;have hold:∀ k,k<w.heap.size->iv.ownBlock≠some k->w1.heap[k]?=w.heap[k]?:=fun k hk hn=>hg.block k hk (Ne.symm hn)
 have hvn:∀ g,v'.ownBlock=some g->iv.ownBlock=some g\/g=w.heap.size:=fun g q=>by
  rcases hv with e | e
  . exact Or.inl (e ▸ q)
  . rw[e] at q;exact Or.inr (Option.some.inj q).symm
 have hx1:Ext W w1:=h.ext.grown hg fun k hk=>(h.ins.lt k hk).1
 have hnc:iv.ownBlock≠some c:=fun q=>((hA c).1 q).1 rfl
 have hnm:iv.ownBlock≠some m:=fun q=>((hA m).1 q).2.1 rfl
 have kc:KB c _ _ w1:=(hold c lc hnc).trans h.code;have km:KB m _ _ w1:=(hold m lm hnm).trans h.mkr
 have keep:∀ (x:Value) (n:Nat) (xs:List Value) (e:TypeId) (sz bs:Nat),w.ownsRow bs e sz x n xs->(∀ g,x.ownBlock=some g->g≠c)->(∀ g,x.ownBlock=some g->iv.ownBlock≠some g)->(w1.setCell ⟨c,2,none⟩ v').ownsRow bs e sz x n xs:=fun x n xs e sz bs hx h1 h2 =>
  own_block hx fun k q hk=>(heap_set_other _ _ _ _ _ (h1 k q)).trans (hold k hk (h2 k q))
 refine ⟨hx1.setCell b1 _,KB.setAt kc 2 v' zy,(heap_set_other _ _ _ _ _ (Ne.symm b3)).trans km,keep _ _ _ _ _ _ h.row (fun g q=>by have:=b4 g q;omega) (fun g q e=>by have:=b4 g q;have:=(h.ins.lt g e).1;omega),keep _ _ _ _ _ _ h.slt (fun g q=>by have:=b5 g q;omega) (fun g q e=>by have:=b5 g q;have:=(h.ins.lt g e).1;omega),?_,?_,h.base,?_,?_⟩
 . dsimp only;rw[List.length_append,insC_app];exact own_block hr fun k q _=>heap_set_other _ _ _ _ _ (fun e=>by rcases hvn k q with e1 | e1;exact hnc (e ▸ e1);omega)
 . exact keep _ _ _ _ _ _ h.vals (fun g q=>((hA g).2 q).1) (fun g q e=>((hA g).1 e).2.2 q)
 . intro g;have a:=hA g;have n1:iv.ownBlock≠some w.heap.size:=fun q=>absurd (h.ins.lt _ q).2 (Nat.lt_irrefl _)
   have n2:vv.ownBlock≠some w.heap.size:=fun q=>absurd (h.vals.lt _ q).2 (Nat.lt_irrefl _)
   rcases hv with e | e
   . rw[e];exact a
   . by_cases hgs:g=w.heap.size
     . subst hgs;exact⟨fun _=>⟨Y,Y,n2⟩,a.2⟩
     . have q:v'.ownBlock≠some g:=(by rw[e];intro e2;exact hgs (Option.some.inj e2).symm)
       exact⟨fun r=>absurd r q,a.2⟩
 . intro q hq;have hl:=h.loc q hq;have hlt:=(Array.getElem?_eq_some_iff.1 hl.1).1;have e1:(w1.setCell ⟨c,2,none⟩ v').heap[q.1]?=some q.2:=(heap_set_other _ _ _ _ _ hl.2.1).trans ((hold q.1 hlt hl.2.2.2.1).trans hl.1)
   have e2:v'.ownBlock≠some q.1:=by
    intro e;rcases hvn q.1 e with e3 | e3
    . exact hl.2.2.2.1 e3
    . omega
   exact⟨e1,hl.2.1,hl.2.2.1,e2,hl.2.2.2.2⟩
def MkV.push_val {W:World} {c m:Nat} {nv sv:Value} {fi mo:Int} {ns:List Nd} {sl:List Int} {L:List (Nat × Obj)} {M:Mk} {w:World} {iv vv:Value} {v':Value} {w1:World} {x:Int × Int × ByteArray} (h:MkV W c m nv sv fi mo ns sl L M iv vv w) (hr:w1.ownsRow W.heap.size 45 3 v' (M.vals.length+1) (valC3 M.vals++valC3 [x])) (hg:w.grownBy w1 vv.ownBlock) (hv:v'.ownBlock=vv.ownBlock\/v'.ownBlock=some w.heap.size) :
  MkV W c m nv sv fi mo ns sl L { M with vals:=M.vals++[x] } iv v' (w1.setCell ⟨c,3,none⟩ v'):=by
 have hA:=h.apart;obtain⟨b1,b2,b3,b4,b5⟩:=h.base;have lc:=(Array.getElem?_eq_some_iff.1 h.code).1;have lm:=(Array.getElem?_eq_some_iff.1 h.mkr).1;have hold:∀ k,k<w.heap.size->vv.ownBlock≠some k->w1.heap[k]?=w.heap[k]?:=fun k hk hn=>hg.block k hk (Ne.symm hn)
 have hvn:∀ g,v'.ownBlock=some g->vv.ownBlock=some g\/g=w.heap.size:=fun g q=>by
  rcases hv with e | e
  . exact Or.inl (e ▸ q)
  . rw[e] at q;exact Or.inr (Option.some.inj q).symm
 have hx1:Ext W w1:=h.ext.grown hg fun k hk=>(h.vals.lt k hk).1
 have hnc:vv.ownBlock≠some c:=fun q=>((hA c).2 q).1 rfl
 have hnm:vv.ownBlock≠some m:=fun q=>((hA m).2 q).2 rfl
 have kc:KB c _ _ w1:=(hold c lc hnc).trans h.code;have km:KB m _ _ w1:=(hold m lm hnm).trans h.mkr
 have keep:∀ (x:Value) (n:Nat) (xs:List Value) (e:TypeId) (sz bs:Nat),w.ownsRow bs e sz x n xs->(∀ g,x.ownBlock=some g->g≠c)->(∀ g,x.ownBlock=some g->vv.ownBlock≠some g)->(w1.setCell ⟨c,3,none⟩ v').ownsRow bs e sz x n xs:=fun x n xs e sz bs hx h1 h2 =>
  own_block hx fun k q hk=>(heap_set_other _ _ _ _ _ (h1 k q)).trans (hold k hk (h2 k q))
 refine ⟨hx1.setCell b1 _,KB.setAt kc 3 v' zy,(heap_set_other _ _ _ _ _ (Ne.symm b3)).trans km,keep _ _ _ _ _ _ h.row (fun g q=>by have:=b4 g q;omega) (fun g q e=>by have:=b4 g q;have:=(h.vals.lt g e).1;omega),keep _ _ _ _ _ _ h.slt (fun g q=>by have:=b5 g q;omega) (fun g q e=>by have:=b5 g q;have:=(h.vals.lt g e).1;omega),?_,?_,h.base,?_,?_⟩
 . exact keep _ _ _ _ _ _ h.ins (fun g q=>((hA g).1 q).1) (fun g q e=>((hA g).1 q).2.2 e)
 . dsimp only;rw[List.length_append,valC3_app];exact own_block hr fun k q _=>heap_set_other _ _ _ _ _ (fun e=>by rcases hvn k q with e1 | e1;exact hnc (e ▸ e1);omega)
 . intro g;have a:=hA g;have n1:iv.ownBlock≠some w.heap.size:=fun q=>absurd (h.ins.lt _ q).2 (Nat.lt_irrefl _)
   have n2:vv.ownBlock≠some w.heap.size:=fun q=>absurd (h.vals.lt _ q).2 (Nat.lt_irrefl _)
   rcases hv with e | e
   . rw[e];exact a
   . by_cases hgs:g=w.heap.size
     . subst hgs;exact⟨fun r=>absurd r n1,fun _=>⟨Y,Y⟩⟩
     . have q:v'.ownBlock≠some g:=(by rw[e];intro e2;exact hgs (Option.some.inj e2).symm)
       exact⟨fun r=>⟨(a.1 r).1,(a.1 r).2.1,q⟩,fun r=>absurd r q⟩
 . intro q hq;have hl:=h.loc q hq;have hlt:=(Array.getElem?_eq_some_iff.1 hl.1).1;have e1:(w1.setCell ⟨c,3,none⟩ v').heap[q.1]?=some q.2:=(heap_set_other _ _ _ _ _ hl.2.1).trans ((hold q.1 hlt hl.2.2.2.2).trans hl.1)
   have e2:v'.ownBlock≠some q.1:=by
    intro e;rcases hvn q.1 e with e3 | e3
    . exact hl.2.2.2.2 e3
    . omega
   exact⟨e1,hl.2.1,hl.2.2.1,hl.2.2.2.1,e2⟩
def MkS.node {W:World} {c m:Nat} {nv sv:Value} {fi mo:Int} {ns:List Nd} {sl:List Int} {L:List (Nat × Obj)} {M:Mk} {w:World} (h:MkS W c m nv sv fi mo ns sl L M w) {j:Nat} {z:Nd} (hz:ns[j]?=some z) :
  ∃ G n cap iv vv,nv=.slice (some ⟨G,0,none⟩) n cap/\G<w.heap.size/\j<n/\c<w.heap.size/\m<w.heap.size/\w.cell? ⟨m,0,none⟩=some (.pointer (some ⟨c,0,none⟩))/\w.cell? ⟨c,0,none⟩=some (.slice (some ⟨G,0,none⟩) n cap)/\w.cell? ⟨m,1,none⟩=some sv/\w.cell? ⟨c,2,none⟩=some iv/\w.cell? ⟨c,3,none⟩=some vv/\(∃ p k,iv=.slice p M.ins.length k) /\
  w.cell? ⟨G,j*8,none⟩=some (.int .i64 z.k)/\w.cell? ⟨G,j*8+1,none⟩=some (.int .i64 z.a)/\w.cell? ⟨G,j*8+2,none⟩=some (.int .i64 z.b)/\w.cell? ⟨G,j*8+3,none⟩=some (.int .i64 z.c)/\w.cell? ⟨G,j*8+4,none⟩=some (.int .i64 z.x)/\w.cell? ⟨G,j*8+5,none⟩=some (.int .i64 z.i)/\w.cell? ⟨G,j*8+6,none⟩=some (.string z.s)/\w.cell? ⟨G,j*8+7,none⟩=some (.string z.t):=by
 obtain⟨iv,vv,h⟩:=h;have hj:=(List.getElem?_eq_some_iff.1 hz).1;rcases Go.Joins.ownsRow_forms h.row with ⟨_,h0⟩ | ⟨g1,c1,h0⟩
 . omega
 . have hr:=h.row;subst h0;have kb:KB c _ _ w:=h.code;have km:KB m _ _ w:=h.mkr;obtain⟨p,k,hv⟩:=qad h.ins;exact⟨g1,ns.length,c1,iv,vv,rfl,(hr.lt g1 rfl).2,hj,kb.lt,km.lt,km.cell 0 _ rfl,kb.cell 0 _ rfl,km.cell 1 _ rfl,kb.cell 2 _ rfl,kb.cell 3 _ rfl,⟨p,k,hv⟩,nd_at hr hz⟩
def MkS.slot {W:World} {c m:Nat} {nv sv:Value} {fi mo:Int} {ns:List Nd} {sl:List Int} {L:List (Nat × Obj)} {M:Mk} {w:World} (h:MkS W c m nv sv fi mo ns sl L M w) {j:Nat} {v:Int} (hv:sl[j]?=some v):∃ g n k,sv=.slice (some ⟨g,0,none⟩) n k/\n<=maxLen/\j<n/\g<w.heap.size/\w.cell? ⟨g,j,none⟩=some (.int .i64 v):=by
 obtain⟨iv,vv,h⟩:=h;have hj:=(List.getElem?_eq_some_iff.1 hv).1;obtain⟨g2,c2,htv,_,hg2⟩:=h.slt.form Y
 have hn2:sl.length<=maxLen:=by
  rcases h.slt.2 with ⟨e,e0⟩ | ⟨g,cap,cur,e,_,_,e1,e2,_⟩<;>omega
 have y0:=h.slt.cells (g:=g2) (by rw[htv];rfl) j (.int .i64 v) (by unfold intL;rw[List.getElem?_map,hv];rfl);rw[Addr.add_lit,Nat.zero_add] at y0;exact⟨g2,sl.length,c2,htv,hn2,hj,hg2,y0⟩
def tkH {P:Program} {ops:Array Oper} {Q:Exit->Act->World->Prop} {md:Region.Mode} {S:World->Prop} (i:Nat) (v:Value) {oi:Oper} {fuel:Nat} {listed:Array Bool} {a:Act} {w:World} (hS:S w)
  (h:wpAnyH P md ops Q S fuel (listed.setIfInBounds i true) (a.put oi.dst v) w) (hi:ops[i]?=some oi:=by rfl) (hs:Region.noSelect ops=true:=by kernel_rfl) (hf:Region.free md ops listed i=true:=by kernel_rfl) (hr:(Region.ready md ops listed).contains i=true:=by kernel_rfl)
  (hQ:∀ c a w,Q (.panic c) (a.put oi.dst v) w->Q (.panic c) a w:=by exact fun _ _ _ h=>h)
  (hy:YieldsIf P ops S oi v a:=by first | exact Or.inl ⟨jy,fun W hW=>by go_simp⟩ | exact Or.inr ⟨jy,rfl⟩ | exact Or.inl ⟨jy,fun W hW=>by first | (dsimp only at hW;go_simp) | (obtain⟨hW1,hW2⟩:=hW;go_simp) | (obtain⟨hW1,hW2,hW3,hW4⟩:=hW;go_simp) | (obtain⟨hW1,hW2,hW3,hW4,hW5⟩:=hW;go_simp)⟩):wpAnyH P md ops Q S (fuel+1) listed a w :=
 wpAnyH_take hi hs hf hr hQ hy hS h
def insInfo:(prog.info? 203).map (fun i=>(i.zero,i.size,i.bytes))=some (some (.agg #[.int .i64 0,.int .i64 0,.int .i64 0,.int .i64 0]),4,32):=by kernel_rfl
def qbP {W:World} {c m:Nat} {nv sv:Value} {fi mo:Int} {ns:List Nd} {sl:List Int} {L:List (Nat × Obj)} {M R:Mk} {w:World} (h:MkS W c m nv sv fi mo ns sl L M w) (op a b nd hg:Int) (hR:M.add op a b nd hg=some R) :
  Calls prog 101 #[.pointer (some ⟨m,0,none⟩),.int .i64 op,.int .i64 a,.int .i64 b,.int .i64 nd,.int .i64 hg] w fun r w'=>r=.returned (.int .i64 (M.ins.length:Int))/\MkS W c m nv sv fi mo ns sl L R w':=by
 obtain⟨iv,vv,h⟩:=h;unfold Mk.add at hR
 split at hR
 rotate_left
 . cases hR
 rename_i hq;obtain⟨q1,q2,q3,q4,q5⟩:=hq;have e:=Option.some.inj hR;subst e;clear hR;obtain⟨n,hn⟩:∃ n,M.ins.length=n:=⟨_,rfl⟩
 obtain⟨p,k,hv⟩:=qad h.ins;rw[hn] at hv q1;subst hv;have HI:=J h;have HN:=J hn;have kc:KB c _ _ w:=h.code;have km:KB m _ _ w:=h.mkr;have HB:=J h.base;have HKC:=J kc;have HKM:=J km;have x0:w.cell? ⟨m,0,none⟩=some (.pointer (some ⟨c,0,none⟩)):=km.cell 0 _ rfl;have y2:w.cell? ⟨c,2,none⟩=some (.slice p n k):=kc.cell 2 _ rfl;have f2:=kc.frozen 2;have lc:=kc.lt;have lm:=km.lt;have hoc:(Value.slice p n k).ownBlock≠some c:=fun e=>((h.apart c).1 e).1 rfl
 have hom:(Value.slice p n k).ownBlock≠some m:=fun e=>((h.apart m).1 e).2.1 rfl
 have HCM:=J (Ne.symm h.base.2.2.1);have HOC:=J hoc;have HOM:=J hom;obtain⟨i0,hi,hz0,hz1,hz2⟩:=info_parts insInfo;have HQ:=J (show(n:Int)<=100000/\n<=100000 from⟨Y,q1⟩);obtain⟨nw,hnw⟩:∃ x,M.now=x:=⟨_,rfl⟩
 obtain⟨hh,hhh⟩:∃ x,M.high=x:=⟨_,rfl⟩
 rw[hnw] at q2 q3;clear h hn kc km hoc hom q1;go_enter func101,ntmps101;go_wp2_with fail;refine wp_region_held_drew (S:=(fun w'=>w'.cell? ⟨m,0,none⟩=some (.pointer (some ⟨c,0,none⟩)))) zv (cell_ext x0 zu) (fun hS=>?_);refine tkH 0 (.pointer (some ⟨m,0,none⟩)) hS ?_;refine ze ?_;refine tkH 1 (.pointer (some ⟨m,0,none⟩)) hS ?_;refine ze ?_;refine tkH 2 (.pointer (some ⟨m,0,none⟩)) hS ?_;refine ze ?_;refine tkH 3 (.pointer (some ⟨c,0,none⟩)) hS ?_;refine ze ?_;refine tkH 4 (.pointer (some ⟨m,0,none⟩)) hS ?_;refine ze ?_;refine tkH 5 (.pointer (some ⟨m,0,none⟩)) hS ?_;refine ze ?_;refine tkH 6 (.pointer (some ⟨m,0,none⟩)) hS ?_;refine ze ?_;refine tkH 7 (.pointer (some ⟨c,0,none⟩)) hS ?_;refine ze ?_;refine tkH 8 (.pointer (some ⟨c,0,none⟩)) hS ?_;refine ze ?_;refine tkH 9 (.pointer (some ⟨c,2,none⟩)) hS ?_;refine ze ?_;refine tkH 11 (.int .i64 op) hS ?_;refine ze ?_;refine tkH 12 (.int .i64 a) hS ?_;refine ze ?_;refine tkH 13 (.int .i64 b) hS ?_;refine ze ?_;refine tkH 14 (.int .i64 nd) hS ?_;refine ze ?_;refine tkH 15 (.agg #[.int .i64 op,.int .i64 a,.int .i64 b,.int .i64 nd]) hS ?_;refine ze ?_;refine wpAnyH_ready (rs:=[10,16]) zv zy ?_;refine AllReadyH.cons (o:=_) rfl (fun K hK=>?_) (AllReadyH.cons (o:=_) rfl (fun K hK=>?_) AllReadyH.nil)
 . rw[if_pos jy];have y2d:w.drew.cell? ⟨c,2,none⟩=some (.slice p n k):=cell_ext y2 zu;go_simp;refine hK.out _ _ ((cell_ext x0 zu)) (fun hS1=>?_);clear hK K;refine ze ?_;refine wpAnyH_ready (rs:=[16]) zv zy ?_;refine AllReadyH.cons (o:=_) rfl (fun K hK=>?_) AllReadyH.nil;rw[if_pos jy];go_simp;refine hK.out _ _ ((cell_ext x0 zu)) (fun hS2=>?_);clear hK K;refine ze ?_;refine wpAnyH_ready (rs:=[17]) zv zy ?_;refine AllReadyH.cons (o:=_) rfl (fun K hK=>?_) AllReadyH.nil;refine step_append_lies _ rfl (.tmp 23) (.tmp 29) 167 rfl W.heap.size 203 i0 (.agg #[.int .i64 0,.int .i64 0,.int .i64 0,.int .i64 0]) 4 32 underlying167 hi hz0 hz1 hz2 rfl zw (.slice p n k) n (insC M.ins) rfl (own_ext (by have:=HI.out.ins;rw[HN.out] at this;exact this) zu) ⟨w.heap.size,0,none⟩ 1 1 [.int .i64 op,.int .i64 a,.int .i64 b,.int .i64 nd] rfl rfl (World.news_of_block (heap_alloc_new _ _)) zcf zw zcr (by have:=HQ.out.2;omega) (by have:=HI.out.ext.size;simp;omega) _ rfl ?_;intro g1 cap1 w4 hown4 hgrow4 hat4 hlt4;have kb4:KB c _ _ w4:=(hgrow4.block c zg (Ne.symm HOC.out)).trans (HKC.out.of_ext zu);have km4:KB m _ _ w4:=(hgrow4.block m zg (Ne.symm HOM.out)).trans (HKM.out.of_ext zu);have m0:w4.cell? ⟨m,0,none⟩=some (.pointer (some ⟨c,0,none⟩)):=km4.cell 0 _ rfl;have m2:w4.cell? ⟨c,2,none⟩=some (.slice p n k):=kb4.cell 2 _ rfl;have m3:=kb4.frozen 2;have m4:=kb4.lt;have KM4:=J km4;clear kb4 km4;refine hK.out _ _ (m0) (fun hS3=>?_);clear hK K;refine ze ?_;refine tkH 18 (.pointer (some ⟨c,0,none⟩)) hS3 ?_;refine ze ?_;refine tkH 19 (.pointer (some ⟨c,2,none⟩)) hS3 ?_;refine ze ?_;refine wpAnyH_ready (rs:=[20]) zv zy ?_;refine AllReadyH.cons (o:=_) rfl (fun K hK=>?_) AllReadyH.nil;rw[if_pos jy];go_simp;refine hK.out _ _ ((KM4.out.setOther 2 _ HCM.out).cell 0 (.pointer (some ⟨c,0,none⟩)) rfl) (fun hS4=>?_);clear hK K;refine ze ?_;refine wpAnyH_done zv ?_ _
   have hv4:(Value.slice (some ⟨g1,0,none⟩) (n+1) cap1).ownBlock=(Value.slice p n k).ownBlock\/(Value.slice (some ⟨g1,0,none⟩) (n+1) cap1).ownBlock=some ((w.alloc (.cells #[.int .i64 op,.int .i64 a,.int .i64 b,.int .i64 nd] 203)).drew).heap.size:=by
    rcases hat4 with e | e
    . exact Or.inl e.symm
    . exact Or.inr (by rw[<-e];rfl)
   have HP:=J (MkV.push_ins (x:=⟨op,a,b,nd⟩) (HI.out.of_ext (w':=(w.alloc (.cells #[.int .i64 op,.int .i64 a,.int .i64 b,.int .i64 nd] 203)).drew) zu) (by rw[HN.out];exact hown4) hgrow4 hv4);clear hv4 hat4 hlt4 hgrow4 hown4 m0 m2 m3 m4 KM4 HKC HKM HI x0 y2 f2 lc lm;generalize w4.setCell ⟨c,2,none⟩ (Value.slice (some ⟨g1,0,none⟩) (n+1) cap1)=W1 at *;have kc:KB c _ _ W1:=HP.out.code;have km:KB m _ _ W1:=HP.out.mkr;have x0:W1.cell? ⟨m,0,none⟩=some (.pointer (some ⟨c,0,none⟩)):=km.cell 0 _ rfl;have x2:W1.cell? ⟨m,2,none⟩=some (.int .i64 M.now):=km.cell 2 _ rfl;have g2:=km.frozen 2;have lm:=km.lt;clear kc km;rw[hnw] at x2;go_wp2_with fail;have HS:=J (HP.out.setNow (nw+hg));clear HP x0 x2 g2 lm hS3 hS4;generalize W1.setCell ⟨m,2,none⟩ (Value.int IntKind.i64 (nw+hg))=W2 at *;have kc:KB c _ _ W2:=HS.out.code;have km:KB m _ _ W2:=HS.out.mkr;have x0:W2.cell? ⟨m,0,none⟩=some (.pointer (some ⟨c,0,none⟩)):=km.cell 0 _ rfl;have x2:W2.cell? ⟨m,2,none⟩=some (.int .i64 (nw+hg)):=km.cell 2 _ rfl;have x5:W2.cell? ⟨c,5,none⟩=some (.int .i64 M.high):=kc.cell 5 _ rfl;have y2:W2.cell? ⟨c,2,none⟩=some (.slice (some ⟨g1,0,none⟩) (n+1) cap1):=kc.cell 2 _ rfl;have g5:=kc.frozen 5;have lc:=kc.lt;clear kc km;rw[hhh] at x5;have hcm2:=HCM.out;have hnI:=HQ.out.1
   go_region
   have HT:=J ((HS.out.setHigh (max hh (nw+hg))).of_ext ((Ext.refl _).drew));clear HS x0 x2 x5 y2 g5 lc;generalize (W2.setCell ⟨c,5,none⟩ (Value.int IntKind.i64 (max hh (nw+hg)))).drew=W3 at *;have kc:KB c _ _ W3:=HT.out.code;have km:KB m _ _ W3:=HT.out.mkr;have x0:W3.cell? ⟨m,0,none⟩=some (.pointer (some ⟨c,0,none⟩)):=km.cell 0 _ rfl;have y2:W3.cell? ⟨c,2,none⟩=some (.slice (some ⟨g1,0,none⟩) (n+1) cap1):=kc.cell 2 _ rfl;have lc:=kc.lt;clear kc km;go_wp2_with fail;go_ret;refine ⟨by(rw[HN.out];rfl),.slice (some ⟨g1,0,none⟩) (n+1) cap1,vv,?_⟩;have:=HT.out
   first | exact this | (rw[hhh,hnw];exact this)
 . rw[if_pos jy];go_simp;refine hK.out _ _ ((cell_ext x0 zu)) (fun hS1=>?_);clear hK K;refine ze ?_;have y2a:((w.alloc (.cells #[.int .i64 op,.int .i64 a,.int .i64 b,.int .i64 nd] 203)).drew).cell? ⟨c,2,none⟩=some (.slice p n k):=cell_ext y2 zu;refine wpAnyH_ready (rs:=[10]) zv zy ?_;refine AllReadyH.cons (o:=_) rfl (fun K hK=>?_) AllReadyH.nil;rw[if_pos jy];go_simp;refine hK.out _ _ ((cell_ext x0 zu)) (fun hS2=>?_);clear hK K;refine ze ?_;refine wpAnyH_ready (rs:=[17]) zv zy ?_;refine AllReadyH.cons (o:=_) rfl (fun K hK=>?_) AllReadyH.nil;refine step_append_lies _ rfl (.tmp 23) (.tmp 29) 167 rfl W.heap.size 203 i0 (.agg #[.int .i64 0,.int .i64 0,.int .i64 0,.int .i64 0]) 4 32 underlying167 hi hz0 hz1 hz2 rfl zw (.slice p n k) n (insC M.ins) rfl (own_ext (by have:=HI.out.ins;rw[HN.out] at this;exact this) zu) ⟨w.heap.size,0,none⟩ 1 1 [.int .i64 op,.int .i64 a,.int .i64 b,.int .i64 nd] rfl rfl (World.news_of_block (heap_alloc_new _ _)) zcf zw zcr (by have:=HQ.out.2;omega) (by have:=HI.out.ext.size;simp;omega) _ rfl ?_;intro g1 cap1 w4 hown4 hgrow4 hat4 hlt4;have kb4:KB c _ _ w4:=(hgrow4.block c zg (Ne.symm HOC.out)).trans (HKC.out.of_ext zu);have km4:KB m _ _ w4:=(hgrow4.block m zg (Ne.symm HOM.out)).trans (HKM.out.of_ext zu);have m0:w4.cell? ⟨m,0,none⟩=some (.pointer (some ⟨c,0,none⟩)):=km4.cell 0 _ rfl;have m2:w4.cell? ⟨c,2,none⟩=some (.slice p n k):=kb4.cell 2 _ rfl;have m3:=kb4.frozen 2;have m4:=kb4.lt;have KM4:=J km4;clear kb4 km4;refine hK.out _ _ (m0) (fun hS3=>?_);clear hK K;refine ze ?_;refine tkH 18 (.pointer (some ⟨c,0,none⟩)) hS3 ?_;refine ze ?_;refine tkH 19 (.pointer (some ⟨c,2,none⟩)) hS3 ?_;refine ze ?_;refine wpAnyH_ready (rs:=[20]) zv zy ?_;refine AllReadyH.cons (o:=_) rfl (fun K hK=>?_) AllReadyH.nil;rw[if_pos jy];go_simp;refine hK.out _ _ ((KM4.out.setOther 2 _ HCM.out).cell 0 (.pointer (some ⟨c,0,none⟩)) rfl) (fun hS4=>?_);clear hK K;refine ze ?_;refine wpAnyH_done zv ?_ _
   have hv4:(Value.slice (some ⟨g1,0,none⟩) (n+1) cap1).ownBlock=(Value.slice p n k).ownBlock\/(Value.slice (some ⟨g1,0,none⟩) (n+1) cap1).ownBlock=some ((w.alloc (.cells #[.int .i64 op,.int .i64 a,.int .i64 b,.int .i64 nd] 203)).drew).heap.size:=by
    rcases hat4 with e | e
    . exact Or.inl e.symm
    . exact Or.inr (by rw[<-e];rfl)
   have HP:=J (MkV.push_ins (x:=⟨op,a,b,nd⟩) (HI.out.of_ext (w':=(w.alloc (.cells #[.int .i64 op,.int .i64 a,.int .i64 b,.int .i64 nd] 203)).drew) zu) (by rw[HN.out];exact hown4) hgrow4 hv4);clear hv4 hat4 hlt4 hgrow4 hown4 m0 m2 m3 m4 KM4 HKC HKM HI x0 y2 f2 lc lm;generalize w4.setCell ⟨c,2,none⟩ (Value.slice (some ⟨g1,0,none⟩) (n+1) cap1)=W1 at *;have kc:KB c _ _ W1:=HP.out.code;have km:KB m _ _ W1:=HP.out.mkr;have x0:W1.cell? ⟨m,0,none⟩=some (.pointer (some ⟨c,0,none⟩)):=km.cell 0 _ rfl;have x2:W1.cell? ⟨m,2,none⟩=some (.int .i64 M.now):=km.cell 2 _ rfl;have g2:=km.frozen 2;have lm:=km.lt;clear kc km;rw[hnw] at x2;go_wp2_with fail;have HS:=J (HP.out.setNow (nw+hg));clear HP x0 x2 g2 lm hS3 hS4;generalize W1.setCell ⟨m,2,none⟩ (Value.int IntKind.i64 (nw+hg))=W2 at *;have kc:KB c _ _ W2:=HS.out.code;have km:KB m _ _ W2:=HS.out.mkr;have x0:W2.cell? ⟨m,0,none⟩=some (.pointer (some ⟨c,0,none⟩)):=km.cell 0 _ rfl;have x2:W2.cell? ⟨m,2,none⟩=some (.int .i64 (nw+hg)):=km.cell 2 _ rfl;have x5:W2.cell? ⟨c,5,none⟩=some (.int .i64 M.high):=kc.cell 5 _ rfl;have y2:W2.cell? ⟨c,2,none⟩=some (.slice (some ⟨g1,0,none⟩) (n+1) cap1):=kc.cell 2 _ rfl;have g5:=kc.frozen 5;have lc:=kc.lt;clear kc km;rw[hhh] at x5;have hcm2:=HCM.out;have hnI:=HQ.out.1
   go_region
   have HT:=J ((HS.out.setHigh (max hh (nw+hg))).of_ext ((Ext.refl _).drew));clear HS x0 x2 x5 y2 g5 lc;generalize (W2.setCell ⟨c,5,none⟩ (Value.int IntKind.i64 (max hh (nw+hg)))).drew=W3 at *;have kc:KB c _ _ W3:=HT.out.code;have km:KB m _ _ W3:=HT.out.mkr;have x0:W3.cell? ⟨m,0,none⟩=some (.pointer (some ⟨c,0,none⟩)):=km.cell 0 _ rfl;have y2:W3.cell? ⟨c,2,none⟩=some (.slice (some ⟨g1,0,none⟩) (n+1) cap1):=kc.cell 2 _ rfl;have lc:=kc.lt;clear kc km;go_wp2_with fail;go_ret;refine ⟨by(rw[HN.out];rfl),.slice (some ⟨g1,0,none⟩) (n+1) cap1,vv,?_⟩;have:=HT.out
   first | exact this | (rw[hhh,hnw];exact this)
def qdF {W:World} {c m:Nat} {nv sv:Value} {fi mo:Int} {ns:List Nd} {sl:List Int} {L:List (Nat × Obj)} {M R:Mk} {w:World} (h:MkS W c m nv sv fi mo ns sl L M w) (op a b nd hg:Int) (hR:M.add op a b nd hg=some R) :
  Calls prog 137 #[.pointer (some ⟨m,0,none⟩),.int .i64 op,.int .i64 a,.int .i64 b,.int .i64 nd,.int .i64 hg] w fun r w'=>∃ km ko ki,r=.returned (.func (.func 178) #[] #[.pointer (some ⟨ko,0,none⟩),.pointer (some ⟨km,0,none⟩),.pointer (some ⟨ki,0,none⟩)])/\MkS W c m nv sv fi mo ns sl ((ki,.cells #[.int .i64 (M.ins.length:Int)] 3 (0,0))::(ko,.cells #[.int .i64 op] 3 (0,0))::(km,.cells #[.pointer (some ⟨m,0,none⟩)] 163 (0,0))::L) R w':=by
 have hmf:∀ (fn:Fn) (first cap:Array Value) (w:World),(Instr.makeFunc fn first cap).run prog w=.ok (.func fn first cap) w:=fun _ _ _ _=>rfl
 have H0:=J ((h.locNew (.cells #[.pointer (some ⟨m,0,none⟩)] 163 (0,0))).locNew (.cells #[.int .i64 op] 3 (0,0)));rw[World.size_alloc] at H0;have AD:=J (qbP H0.out op a b nd hg hR);clear h hR;go_enter func137,ntmps137
 go_wp2_with ((with_reducible refine AD.out.mono ?_);rintro e' w2 ⟨rfl,h2⟩;have H2:=J h2;clear h2)
 go_ret;exact⟨w.heap.size,w.heap.size+1,w2.heap.size,rfl,H2.out.locNew _⟩
def qem {W:World} {c m:Nat} {nv sv:Value} {fi mo:Int} {ns:List Nd} {sl:List Int} {L:List (Nat × Obj)} {M R:Mk} {w:World} (h:MkS W c m nv sv fi mo ns sl L M w) {km ko ki j:Nat} {op:Int} (b1:(ki,Obj.cells #[.int .i64 (j:Int)] 3 (0,0))∈L) (b2:(ko,Obj.cells #[.int .i64 op] 3 (0,0))∈L) (b3:(km,Obj.cells #[.pointer (some ⟨m,0,none⟩)] 163 (0,0))∈L) (hR:(if op=13\/op=15 then M.setB j else M.setA j)=some R) :
  Calls prog 178 #[.pointer (some ⟨ko,0,none⟩),.pointer (some ⟨km,0,none⟩),.pointer (some ⟨ki,0,none⟩)] w fun r w'=>r=.returned (.tuple #[])/\MkS W c m nv sv fi mo ns sl L R w':=by
 have K1:=h.locAt b1;have K2:=h.locAt b2;have K3:=h.locAt b3;have u1:=K1.cell 0 _ rfl;have u2:=K2.cell 0 _ rfl;have u3:=K3.cell 0 _ rfl;have v1:=K1.lt;have v2:=K2.lt;have v3:=K3.lt;obtain⟨iv,vv,h⟩:=h
 have hx:∃ x,M.ins[j]?=some x/\M.ins.length<=100000:=by
  split at hR
  . unfold Mk.setB at hR
    split at hR
    . cases hR
    . rename_i x hx;split at hR
      . rename_i q;exact⟨x,hx,q⟩
      . cases hR
  . unfold Mk.setA at hR
    split at hR
    . cases hR
    . rename_i x hx;split at hR
      . rename_i q;exact⟨x,hx,q⟩
      . cases hR
 obtain⟨x,hx,hl⟩:=hx;have hj:=(List.getElem?_eq_some_iff.1 hx).1;obtain⟨n,hn⟩:∃ n,M.ins.length=n:=⟨_,rfl⟩
 obtain⟨g,k,hv,_,hg⟩:=h.ins.form Y;rw[hn] at hv hl hj;subst hv;have kc:KB c _ _ w:=h.code;have km':KB m _ _ w:=h.mkr;have x0:=km'.cell 0 _ rfl;have y2:=kc.cell 2 _ rfl;have lc:=kc.lt;have lm:=km'.lt;have hc:=h.ins.cells (g:=g) rfl;obtain⟨_,ia,ib,_⟩:=insC_get M.ins j x hx;have z1:=hc _ _ ia;have z2:=hc _ _ ib;rw[Addr.add_lit,Nat.zero_add] at z1 z2;have fz:=fun i=>qfZ h.ins i
 have z3:=fz (j*4+1);have z4:=fz (j*4+2);have hjI:(j:Int)<(n:Int):=Y;have hj0:(0:Int)<=(j:Int):=Y;have hnI:(n:Int)<=100000:=Y;have HI:=J h;have HN:=J hn;have HX:=J hx;have HJ:=J hj;have HL:=J hl;by_cases ho:op=13\/op=15
 . rw[if_pos ho] at hR;have o1:((op==13)=true)\/(op==13)=false/\(op==15)=true:=by rcases ho with h | h<;>subst h<;>simp
   clear ho;unfold Mk.setB at hR;rw[hx] at hR;dsimp only at hR;rw[if_pos Y] at hR;have e:=Option.some.inj hR;subst e;have fin:MkS W c m nv sv fi mo ns sl L { M with ins:=M.ins.set j { x with b:=(M.ins.length:Int) } } (w.setCell ⟨g,j*4+2,none⟩ (.int .i64 (n:Int))).drew:=MkS.of_ext ⟨_,_,HI.out.setIns (j*4+2) (.int .i64 (n:Int)) _ (by have:=HJ.out;have:=HN.out;omega) HN.out (by rw[<-HN.out];exact insC_setB _ _ _ _ HX.out) zy⟩ ((Ext.refl _).drew);have FIN:=J fin;clear fin;clear h K1 K2 K3 hx hn hl hR fz hc hj;rcases o1 with o1 | ⟨o1,o2⟩
   . go_enter func178,ntmps178;go_wp2_with fail
     go_region
     all_goals
      go_end0;exact⟨rfl,FIN.out⟩
   . go_enter func178,ntmps178;go_wp2_with fail
     go_region
     all_goals
      go_end0;exact⟨rfl,FIN.out⟩
 . rw[if_neg ho] at hR;have o1:(op==13)=false:=by have:op≠13:=fun e=>ho (Or.inl e);simpa using this
   have o2:(op==15)=false:=by have:op≠15:=fun e=>ho (Or.inr e);simpa using this
   clear ho;unfold Mk.setA at hR;rw[hx] at hR;dsimp only at hR;rw[if_pos Y] at hR;have e:=Option.some.inj hR;subst e;have fin:MkS W c m nv sv fi mo ns sl L { M with ins:=M.ins.set j { x with a:=(M.ins.length:Int) } } (w.setCell ⟨g,j*4+1,none⟩ (.int .i64 (n:Int))).drew:=MkS.of_ext ⟨_,_,HI.out.setIns (j*4+1) (.int .i64 (n:Int)) _ (by have:=HJ.out;have:=HN.out;omega) HN.out (by rw[<-HN.out];exact insC_setA _ _ _ _ HX.out) zy⟩ ((Ext.refl _).drew);have FIN:=J fin;clear fin;clear h K1 K2 K3 hx hn hl hR fz hc hj;go_enter func178,ntmps178;go_wp2_with fail
   go_region
   all_goals
    go_end0;exact⟨rfl,FIN.out⟩
def vindex_any {w:World} {base:Nat} {v:Value} {l:List (Int × Int × ByteArray)} (h:w.ownsRow base 45 3 v l.length (valC3 l)) (hl:l.length<=100000) (k0 i0:Int) (s0:ByteArray) :
  Calls prog 206 #[v,.agg #[.int .i64 k0,.int .i64 i0,.string s0]] w fun r w'=>r=.returned (.int .i64 (vidx (k0,i0,s0) l 0))/\Ext w w':=by
 obtain⟨n,hn⟩:∃ n,l.length=n:=⟨_,rfl⟩
 obtain⟨p,c,hv⟩:=qad h;rw[hn] at hv hl;subst hv;have H:=J h;have HN:=J hn;have hni:(n:Int)<=100000:=Y;clear h hn hl;go_enter func206,ntmps206;go_wp2_with fail;go_loopw [8] (fun y8 wr=>∃ k:Nat,y8=.int .i64 (k:Int)/\k<=n/\vidx (k0,i0,s0) (l.drop k) (k:Int)=vidx (k0,i0,s0) l 0/\∃ d os,wr=more (w.alloc (.cells #[.int .i64 k0,.int .i64 i0,.string s0] 45)) d os) (fun y8 _=>n-(intOf y8).toNat)
 case atStart=>exact⟨0,rfl,Nat.zero_le _,rfl,by first | exact⟨_,_,rfl⟩ | exact⟨w.drawn,#[],by simp[more];rfl⟩⟩
 case round =>
  obtain⟨k,rfl,hk,hq,d,os,rfl⟩:=hrel;have hk0:0<=(k:Int):=Y;have HQ:=J hq;clear hq;by_cases hlt:k<n
  . have hki:(k:Int)<(n:Int):=Y
    have hp:∃ g,p=some ⟨g,0,none⟩:=by
     rcases Go.Joins.ownsRow_forms H.out with ⟨_,h0⟩ | ⟨g1,c1,h0⟩
     . have:=HN.out;omega
     . simp at h0;exact⟨g1,h0.1⟩
    obtain⟨g,rfl⟩:=hp;obtain⟨⟨xk,xi,xs⟩,hx⟩:∃ x,l[k]?=some x:=⟨_,List.getElem?_eq_getElem (by rw[HN.out];exact hlt)⟩
    obtain⟨a0,a1,a2⟩:=valC3_get l k _ hx;have hc:=H.out.cells (g:=g) rfl;have d0:=hc _ _ a0;have d1:=hc _ _ a1;have d2:=hc _ _ a2;rw[Addr.add_lit,Nat.zero_add] at d0 d1 d2;dsimp only at d0 d1 d2;have hg:=(H.out.lt g rfl).2
    have hdr:l.drop k=(xk,xi,xs)::l.drop (k+1):=by
     have hlt2:k<l.length:=(by rw[HN.out];exact hlt)
     rw[List.drop_eq_getElem_cons hlt2];rw[List.getElem?_eq_getElem hlt2] at hx;rw[Option.some.inj hx]
    have HV:=J (show(if veq (xk,xi,xs) (k0,i0,s0)=true then(k:Int) else vidx (k0,i0,s0) (l.drop (k+1)) ((k:Int)+1))=vidx (k0,i0,s0) l 0 from by have:=HQ.out;rw[hdr] at this;simp only[vidx] at this;exact this);have HLT:=J hlt;clear a0 a1 a2 hc hx hdr hlt HQ;by_cases e1:k0=xk
    . subst e1;by_cases e2:i0=xi
      . subst e2;by_cases e3:s0.toList=xs.toList
        . have hb:veq (k0,i0,xs) (k0,i0,s0)=true:=(by simp[veq,e3])
          have HV2:=J (HV.out.symm.trans (if_pos hb));clear HV hb;go_wp2_with fail
          go_region
          go_wp2_with fail;go_ret
          exact⟨by rw[HV2.out];rfl,zq⟩
        . have hb:veq (k0,i0,xs) (k0,i0,s0)=false:=by(simp[veq];exact fun e=>e3 e.symm)
          have HV2:=J (HV.out.symm.trans (if_neg jd));clear HV hb;go_wp2_with fail
          go_region
          go_wp2_with fail;go_roundw
          case rel=>exact⟨k+1,by go_num,by have:=HLT.out;omega,by have:=HV2.out;push_cast;exact this.symm,_,_,rfl⟩
          case measure=>have:=HLT.out;simp[intOf];omega
      . have hb:veq (k0,xi,xs) (k0,i0,s0)=false:=(by simp[veq,Ne.symm e2])
        have HV2:=J (HV.out.symm.trans (if_neg jd));clear HV hb;go_wp2_with fail
        go_region
        go_wp2_with fail;go_roundw
        case rel=>exact⟨k+1,by go_num,by have:=HLT.out;omega,by have:=HV2.out;push_cast;exact this.symm,_,_,rfl⟩
        case measure=>have:=HLT.out;simp[intOf];omega
    . have hb:veq (xk,xi,xs) (k0,i0,s0)=false:=(by simp[veq,Ne.symm e1])
      have HV2:=J (HV.out.symm.trans (if_neg jd));clear HV hb;go_wp2_with fail
      go_region
      go_wp2_with fail;go_roundw
      case rel=>exact⟨k+1,by go_num,by have:=HLT.out;omega,by have:=HV2.out;push_cast;exact this.symm,_,_,rfl⟩
      case measure=>have:=HLT.out;simp[intOf];omega
  . have hke:k=n:=Y;subst hke
    have e0:vidx (k0,i0,s0) l 0=-1:=by
     have:=HQ.out;rw[List.drop_eq_nil_of_le jj] at this;exact this.symm
    have E0:=J e0;clear hlt e0;go_wp2_with fail;go_ret;exact⟨by(rw[E0.out];rfl),zq⟩
def results_cell {fn:Func} {p:Tmp} {ty:TypeId} (h:fn.results=#[.cell p ty]) (tmps:Array Value) (w:World) (a:Addr) (r:Value)
  (hp:tmps.getD p undef=.pointer (some a)) (hl:(loadVar ty a).run prog w=.ok r w) :
  (results fn tmps).run prog w=.ok r w:=by
 have hp':tmps[p]?.getD undef=.pointer (some a):=by simpa using hp
 simp[results,h,hp',asAddr,hl]
def csigns_any (w:World):Calls prog 224 #[] w fun r w'=>r=.returned (.agg #[.string ⟨#[61,61]⟩,.string ⟨#[33,61]⟩,.string ⟨#[60]⟩,.string ⟨#[60,61]⟩,.string ⟨#[62]⟩,.string ⟨#[62,61]⟩,.string ⟨#[43]⟩,.string ⟨#[45]⟩,.string ⟨#[42]⟩,.string ⟨#[47]⟩,.string ⟨#[37]⟩,.string ⟨#[46,46]⟩])/\Ext w w':=by
 go_enter func224,ntmps224;go_wp2_with fail;exact bodyPost_ret (results_cell (p:=0) (ty:=278) rfl _ _ ⟨w.heap.size,0,none⟩ _ rfl (run_loadVar_row _ w.heap.size 278 278 #[.string ⟨#[61,61]⟩,.string ⟨#[33,61]⟩,.string ⟨#[60]⟩,.string ⟨#[60,61]⟩,.string ⟨#[62]⟩,.string ⟨#[62,61]⟩,.string ⟨#[43]⟩,.string ⟨#[45]⟩,.string ⟨#[42]⟩,.string ⟨#[47]⟩,.string ⟨#[37]⟩,.string ⟨#[46,46]⟩] (0,0) _ (heap_alloc_new _ _) underlying278 rfl zv)) rfl ⟨rfl,(Ext.refl w).alloc _⟩
def csign_gen (s x0 x1 x2 x3 x4 x5 x6 x7 x8 x9 x10 x11:ByteArray) (w:World) (hsg:∀ W,Calls prog 224 #[] W fun r w'=>r=.returned (.agg #[.string x0,.string x1,.string x2,.string x3,.string x4,.string x5,.string x6,.string x7,.string x8,.string x9,.string x10,.string x11])/\Ext W w'):Calls prog 207 #[.string s] w fun r w'=>r=.returned (.int .i64 (sidx s [x0,x1,x2,x3,x4,x5,x6,x7,x8,x9,x10,x11] 0))/\Ext w w':=by
 have SG:=J hsg;clear hsg;obtain⟨r,hr⟩:∃ r,sidx s [x0,x1,x2,x3,x4,x5,x6,x7,x8,x9,x10,x11] 0=r:=⟨_,rfl⟩
 rw[hr];have I0:∀ W:World,(Instr.index 278 (.agg #[.string x0,.string x1,.string x2,.string x3,.string x4,.string x5,.string x6,.string x7,.string x8,.string x9,.string x10,.string x11]) (.int .i64 0)).run prog W=.ok (.string x0) W:=fun W=>by kernel_rfl
 have I1:∀ W:World,(Instr.index 278 (.agg #[.string x0,.string x1,.string x2,.string x3,.string x4,.string x5,.string x6,.string x7,.string x8,.string x9,.string x10,.string x11]) (.int .i64 1)).run prog W=.ok (.string x1) W:=fun W=>by kernel_rfl
 have I2:∀ W:World,(Instr.index 278 (.agg #[.string x0,.string x1,.string x2,.string x3,.string x4,.string x5,.string x6,.string x7,.string x8,.string x9,.string x10,.string x11]) (.int .i64 2)).run prog W=.ok (.string x2) W:=fun W=>by kernel_rfl
 have I3:∀ W:World,(Instr.index 278 (.agg #[.string x0,.string x1,.string x2,.string x3,.string x4,.string x5,.string x6,.string x7,.string x8,.string x9,.string x10,.string x11]) (.int .i64 3)).run prog W=.ok (.string x3) W:=fun W=>by kernel_rfl
 have I4:∀ W:World,(Instr.index 278 (.agg #[.string x0,.string x1,.string x2,.string x3,.string x4,.string x5,.string x6,.string x7,.string x8,.string x9,.string x10,.string x11]) (.int .i64 4)).run prog W=.ok (.string x4) W:=fun W=>by kernel_rfl
 have I5:∀ W:World,(Instr.index 278 (.agg #[.string x0,.string x1,.string x2,.string x3,.string x4,.string x5,.string x6,.string x7,.string x8,.string x9,.string x10,.string x11]) (.int .i64 5)).run prog W=.ok (.string x5) W:=fun W=>by kernel_rfl
 have I6:∀ W:World,(Instr.index 278 (.agg #[.string x0,.string x1,.string x2,.string x3,.string x4,.string x5,.string x6,.string x7,.string x8,.string x9,.string x10,.string x11]) (.int .i64 6)).run prog W=.ok (.string x6) W:=fun W=>by kernel_rfl
 have I7:∀ W:World,(Instr.index 278 (.agg #[.string x0,.string x1,.string x2,.string x3,.string x4,.string x5,.string x6,.string x7,.string x8,.string x9,.string x10,.string x11]) (.int .i64 7)).run prog W=.ok (.string x7) W:=fun W=>by kernel_rfl
 have I8:∀ W:World,(Instr.index 278 (.agg #[.string x0,.string x1,.string x2,.string x3,.string x4,.string x5,.string x6,.string x7,.string x8,.string x9,.string x10,.string x11]) (.int .i64 8)).run prog W=.ok (.string x8) W:=fun W=>by kernel_rfl
 have I9:∀ W:World,(Instr.index 278 (.agg #[.string x0,.string x1,.string x2,.string x3,.string x4,.string x5,.string x6,.string x7,.string x8,.string x9,.string x10,.string x11]) (.int .i64 9)).run prog W=.ok (.string x9) W:=fun W=>by kernel_rfl
 have I10:∀ W:World,(Instr.index 278 (.agg #[.string x0,.string x1,.string x2,.string x3,.string x4,.string x5,.string x6,.string x7,.string x8,.string x9,.string x10,.string x11]) (.int .i64 10)).run prog W=.ok (.string x10) W:=fun W=>by kernel_rfl
 have I11:∀ W:World,(Instr.index 278 (.agg #[.string x0,.string x1,.string x2,.string x3,.string x4,.string x5,.string x6,.string x7,.string x8,.string x9,.string x10,.string x11]) (.int .i64 11)).run prog W=.ok (.string x11) W:=fun W=>by kernel_rfl
 have HR:=J hr;clear hr;go_enter func207,ntmps207
 go_wp2_with ((with_reducible refine (SG.out _).mono ?_);rintro e' w1 ⟨rfl,hx⟩;have HX:=J hx;clear hx)
 go_loopw [6] (fun y6 wr=>∃ k:Nat,y6=.int .i64 (k:Int)/\k<=12/\sidx s ([x0,x1,x2,x3,x4,x5,x6,x7,x8,x9,x10,x11].drop k) (k:Int)=r/\wr=w1) (fun y6 _=>12-(intOf y6).toNat)
 case atStart=>exact⟨0,rfl,Nat.zero_le _,HR.out,rfl⟩
 case round =>
  obtain⟨k,rfl,hk,hq,rfl⟩:=hrel;have hc:k=0\/k=1\/k=2\/k=3\/k=4\/k=5\/k=6\/k=7\/k=8\/k=9\/k=10\/k=11\/k=12:=Y;rcases hc with rfl | rfl | rfl | rfl | rfl | rfl | rfl | rfl | rfl | rfl | rfl | rfl | rfl
  . simp only[List.drop_succ_cons,List.drop_zero,sidx] at hq;cases hb:(x0.toList==s.toList)
    . have HQ:=J (hq.symm.trans (if_neg jd));clear hq;go_wp2_with fail;go_roundw
      case rel=>exact⟨1,by go_num,Y,by have:=HQ.out;simp only[List.drop_succ_cons,List.drop_zero];exact this.symm,by first | rfl | trivial⟩
      case measure=>simp[intOf]
    . have HQ:=J (hq.symm.trans (if_pos hb));clear hq;go_wp2_with fail;go_ret;exact qj
  . simp only[List.drop_succ_cons,List.drop_zero,sidx] at hq;cases hb:(x1.toList==s.toList)
    . have HQ:=J (hq.symm.trans (if_neg jd));clear hq;go_wp2_with fail;go_roundw
      case rel=>exact⟨2,by go_num,Y,by have:=HQ.out;simp only[List.drop_succ_cons,List.drop_zero];exact this.symm,by first | rfl | trivial⟩
      case measure=>simp[intOf]
    . have HQ:=J (hq.symm.trans (if_pos hb));clear hq;go_wp2_with fail;go_ret;exact qj
  . simp only[List.drop_succ_cons,List.drop_zero,sidx] at hq;cases hb:(x2.toList==s.toList)
    . have HQ:=J (hq.symm.trans (if_neg jd));clear hq;go_wp2_with fail;go_roundw
      case rel=>exact⟨3,by go_num,Y,by have:=HQ.out;simp only[List.drop_succ_cons,List.drop_zero];exact this.symm,by first | rfl | trivial⟩
      case measure=>simp[intOf]
    . have HQ:=J (hq.symm.trans (if_pos hb));clear hq;go_wp2_with fail;go_ret;exact qj
  . simp only[List.drop_succ_cons,List.drop_zero,sidx] at hq;cases hb:(x3.toList==s.toList)
    . have HQ:=J (hq.symm.trans (if_neg jd));clear hq;go_wp2_with fail;go_roundw
      case rel=>exact⟨4,by go_num,Y,by have:=HQ.out;simp only[List.drop_succ_cons,List.drop_zero];exact this.symm,by first | rfl | trivial⟩
      case measure=>simp[intOf]
    . have HQ:=J (hq.symm.trans (if_pos hb));clear hq;go_wp2_with fail;go_ret;exact qj
  . simp only[List.drop_succ_cons,List.drop_zero,sidx] at hq;cases hb:(x4.toList==s.toList)
    . have HQ:=J (hq.symm.trans (if_neg jd));clear hq;go_wp2_with fail;go_roundw
      case rel=>exact⟨5,by go_num,Y,by have:=HQ.out;simp only[List.drop_succ_cons,List.drop_zero];exact this.symm,by first | rfl | trivial⟩
      case measure=>simp[intOf]
    . have HQ:=J (hq.symm.trans (if_pos hb));clear hq;go_wp2_with fail;go_ret;exact qj
  . simp only[List.drop_succ_cons,List.drop_zero,sidx] at hq;cases hb:(x5.toList==s.toList)
    . have HQ:=J (hq.symm.trans (if_neg jd));clear hq;go_wp2_with fail;go_roundw
      case rel=>exact⟨6,by go_num,Y,by have:=HQ.out;simp only[List.drop_succ_cons,List.drop_zero];exact this.symm,by first | rfl | trivial⟩
      case measure=>simp[intOf]
    . have HQ:=J (hq.symm.trans (if_pos hb));clear hq;go_wp2_with fail;go_ret;exact qj
  . simp only[List.drop_succ_cons,List.drop_zero,sidx] at hq;cases hb:(x6.toList==s.toList)
    . have HQ:=J (hq.symm.trans (if_neg jd));clear hq;go_wp2_with fail;go_roundw
      case rel=>exact⟨7,by go_num,Y,by have:=HQ.out;simp only[List.drop_succ_cons,List.drop_zero];exact this.symm,by first | rfl | trivial⟩
      case measure=>simp[intOf]
    . have HQ:=J (hq.symm.trans (if_pos hb));clear hq;go_wp2_with fail;go_ret;exact qj
  . simp only[List.drop_succ_cons,List.drop_zero,sidx] at hq;cases hb:(x7.toList==s.toList)
    . have HQ:=J (hq.symm.trans (if_neg jd));clear hq;go_wp2_with fail;go_roundw
      case rel=>exact⟨8,by go_num,Y,by have:=HQ.out;simp only[List.drop_succ_cons,List.drop_zero];exact this.symm,by first | rfl | trivial⟩
      case measure=>simp[intOf]
    . have HQ:=J (hq.symm.trans (if_pos hb));clear hq;go_wp2_with fail;go_ret;exact qj
  . simp only[List.drop_succ_cons,List.drop_zero,sidx] at hq;cases hb:(x8.toList==s.toList)
    . have HQ:=J (hq.symm.trans (if_neg jd));clear hq;go_wp2_with fail;go_roundw
      case rel=>exact⟨9,by go_num,Y,by have:=HQ.out;simp only[List.drop_succ_cons,List.drop_zero];exact this.symm,by first | rfl | trivial⟩
      case measure=>simp[intOf]
    . have HQ:=J (hq.symm.trans (if_pos hb));clear hq;go_wp2_with fail;go_ret;exact qj
  . simp only[List.drop_succ_cons,List.drop_zero,sidx] at hq;cases hb:(x9.toList==s.toList)
    . have HQ:=J (hq.symm.trans (if_neg jd));clear hq;go_wp2_with fail;go_roundw
      case rel=>exact⟨10,by go_num,Y,by have:=HQ.out;simp only[List.drop_succ_cons,List.drop_zero];exact this.symm,by first | rfl | trivial⟩
      case measure=>simp[intOf]
    . have HQ:=J (hq.symm.trans (if_pos hb));clear hq;go_wp2_with fail;go_ret;exact qj
  . simp only[List.drop_succ_cons,List.drop_zero,sidx] at hq;cases hb:(x10.toList==s.toList)
    . have HQ:=J (hq.symm.trans (if_neg jd));clear hq;go_wp2_with fail;go_roundw
      case rel=>exact⟨11,by go_num,Y,by have:=HQ.out;simp only[List.drop_succ_cons,List.drop_zero];exact this.symm,by first | rfl | trivial⟩
      case measure=>simp[intOf]
    . have HQ:=J (hq.symm.trans (if_pos hb));clear hq;go_wp2_with fail;go_ret;exact qj
  . simp only[List.drop_succ_cons,List.drop_zero,sidx] at hq;cases hb:(x11.toList==s.toList)
    . have HQ:=J (hq.symm.trans (if_neg jd));clear hq;go_wp2_with fail;go_roundw
      case rel=>exact⟨12,by go_num,Y,by have:=HQ.out;simp only[List.drop_succ_cons,List.drop_zero];exact this.symm,by first | rfl | trivial⟩
      case measure=>simp[intOf]
    . have HQ:=J (hq.symm.trans (if_pos hb));clear hq;go_wp2_with fail;go_ret;exact qj
  . simp only[List.drop_succ_cons,List.drop_zero,List.drop_nil,sidx] at hq;have HQ:=J hq;clear hq;go_wp2_with fail;go_ret;exact⟨by(rw[<-HQ.out];rfl),HX.out⟩
def csign_any (s:ByteArray) (w:World):Calls prog 207 #[.string s] w fun r w'=>r=.returned (.int .i64 (csgF s))/\Ext w w':=csign_gen s _ _ _ _ _ _ _ _ _ _ _ _ w csigns_any
def valInfo:(prog.info? 45).map (fun i=>(i.zero,i.size,i.bytes))=some (some (.agg #[.int .i64 0,.int .i64 0,.string ⟨#[]⟩]),3,32):=by kernel_rfl
def value_any {W:World} {c m:Nat} {nv sv:Value} {fi mo:Int} {ns:List Nd} {sl:List Int} {L:List (Nat × Obj)} {M R:Mk} {w:World} (h:MkS W c m nv sv fi mo ns sl L M w) (k0 i0:Int) (s0:ByteArray) (j:Int) (hR:M.value (k0,i0,s0)=some (R,j)) :
  Calls prog 176 #[.pointer (some ⟨m,0,none⟩),.agg #[.int .i64 k0,.int .i64 i0,.string s0]] w fun r w'=>r=.returned (.int .i64 j)/\MkS W c m nv sv fi mo ns sl L R w':=by
 unfold Mk.value at hR
 split at hR
 rotate_left
 . cases hR
 rename_i hl;obtain⟨iv,vv,h⟩:=h;obtain⟨n,hn⟩:∃ n,M.vals.length=n:=⟨_,rfl⟩
 obtain⟨p,k,hv⟩:=qad h.vals;rw[hn] at hv;subst hv;have HN:=J hn;have HQ:=J (show(n:Int)<=100000/\n<=100000 from⟨Y,Y⟩);have H1:=J (h.locNew (.cells #[.int .i64 k0,.int .i64 i0,.string s0] 45 (0,0)));have VI:=J (fun (w':World) (hx:Ext (w.alloc (.cells #[.int .i64 k0,.int .i64 i0,.string s0] 45 (0,0))) w')=>vindex_any (own_ext H1.out.vals hx) hl k0 i0 s0);obtain⟨x,hx⟩:∃ x,vidx (k0,i0,s0) M.vals 0=x:=⟨_,rfl⟩
 rw[hx] at VI hR;clear h hn hl hx;by_cases hx0:0<=x
 . rw[if_pos hx0] at hR;simp only[Option.some.injEq,Prod.mk.injEq] at hR;obtain⟨e1,e2⟩:=hR;subst e1 e2;go_enter func176,ntmps176;go_wp2_with fail;obtain⟨Bx,hBx⟩:∃ Bx,w.heap.size=Bx:=⟨_,rfl⟩
   obtain⟨w1,hw1⟩:∃ w1,w.alloc (.cells #[.int .i64 k0,.int .i64 i0,.string s0] 45 (0,0))=w1:=⟨_,rfl⟩
   rw[hBx] at H1 ⊢;rw[hw1] at H1 VI ⊢;clear hBx hw1;have kc1:KB c _ _ w1:=H1.out.code;have km1:KB m _ _ w1:=H1.out.mkr;have kb1:KB Bx #[.int .i64 k0,.int .i64 i0,.string s0] 45 w1:=(H1.out.loc _ List.mem_cons_self).1;have x0:w1.cell? ⟨m,0,none⟩=some (.pointer (some ⟨c,0,none⟩)):=km1.cell 0 _ rfl;have y3:w1.cell? ⟨c,3,none⟩=some (.slice p n k):=kc1.cell 3 _ rfl;have b0:w1.cell? ⟨Bx,0,none⟩=some (.int .i64 k0):=kb1.cell 0 _ rfl;have b1:w1.cell? ⟨Bx,1,none⟩=some (.int .i64 i0):=kb1.cell 1 _ rfl;have b2:w1.cell? ⟨Bx,2,none⟩=some (.string s0):=kb1.cell 2 _ rfl;clear kc1 km1 kb1
   go_still_tail 8,zv
   have H1d:=J (H1.out.of_ext ((Ext.refl _).drew));have VId:=J (VI.out w1.drew ((Ext.refl _).drew));change wpList _ _ _ _ _ w1.drew;generalize w1.drew=w1d at *
   go_wp2_with (((with_reducible refine VId.out.mono ?_);rintro e' w2 ⟨rfl,hx2⟩;have H2:=J (H1d.out.of_ext hx2);clear hx2))
   clear x0 y3 b0 b1 b2 H1 VI H1d VId;go_ret;exact⟨rfl,MkS.sub ⟨_,_,H2.out⟩ (fun q hq=>List.mem_cons_of_mem _ hq)⟩
 . rw[if_neg hx0] at hR;simp only[Option.some.injEq,Prod.mk.injEq] at hR;obtain⟨e1,e2⟩:=hR;subst e1 e2;have hxn:x<0:=Y;clear hx0;go_enter func176,ntmps176;go_wp2_with fail;obtain⟨Bx,hBx⟩:∃ Bx,w.heap.size=Bx:=⟨_,rfl⟩
   obtain⟨w1,hw1⟩:∃ w1,w.alloc (.cells #[.int .i64 k0,.int .i64 i0,.string s0] 45 (0,0))=w1:=⟨_,rfl⟩
   rw[hBx] at H1 ⊢;rw[hw1] at H1 VI ⊢;clear hBx hw1;have kc1:KB c _ _ w1:=H1.out.code;have km1:KB m _ _ w1:=H1.out.mkr;have kb1:KB Bx #[.int .i64 k0,.int .i64 i0,.string s0] 45 w1:=(H1.out.loc _ List.mem_cons_self).1;have x0:w1.cell? ⟨m,0,none⟩=some (.pointer (some ⟨c,0,none⟩)):=km1.cell 0 _ rfl;have y3:w1.cell? ⟨c,3,none⟩=some (.slice p n k):=kc1.cell 3 _ rfl;have b0:w1.cell? ⟨Bx,0,none⟩=some (.int .i64 k0):=kb1.cell 0 _ rfl;have b1:w1.cell? ⟨Bx,1,none⟩=some (.int .i64 i0):=kb1.cell 1 _ rfl;have b2:w1.cell? ⟨Bx,2,none⟩=some (.string s0):=kb1.cell 2 _ rfl;clear kc1 km1 kb1
   go_still_tail 8,zv
   have H1d:=J (H1.out.of_ext ((Ext.refl _).drew));have VId:=J (VI.out w1.drew ((Ext.refl _).drew));change wpList _ _ _ _ _ w1.drew;generalize w1.drew=w1d at *
   go_wp2_with (((with_reducible refine VId.out.mono ?_);rintro e' w2 ⟨rfl,hx2⟩;have H2:=J (H1d.out.of_ext hx2);clear hx2))
   clear x0 y3 b0 b1 b2 H1 VI H1d VId;have HOM:=J (show(Value.slice p n k).ownBlock≠some m from fun e=>((H2.out.apart m).2 e).2 rfl);have HOC:=J (show(Value.slice p n k).ownBlock≠some c from fun e=>((H2.out.apart c).2 e).1 rfl);have HLC:=J (H2.out.loc _ List.mem_cons_self);have HCM:=J (Ne.symm H2.out.base.2.2.1);have HKC:=J (show KB c _ _ w2 from H2.out.code);have HKM:=J (show KB m _ _ w2 from H2.out.mkr);have HKB:=J (show KB Bx #[.int .i64 k0,.int .i64 i0,.string s0] 45 w2 from HLC.out.1);have x0:w2.cell? ⟨m,0,none⟩=some (.pointer (some ⟨c,0,none⟩)):=HKM.out.cell 0 _ rfl;have y2:w2.cell? ⟨c,3,none⟩=some (.slice p n k):=HKC.out.cell 3 _ rfl;have b0:w2.cell? ⟨Bx,0,none⟩=some (.int .i64 k0):=HKB.out.cell 0 _ rfl;have b1:w2.cell? ⟨Bx,1,none⟩=some (.int .i64 i0):=HKB.out.cell 1 _ rfl;have b2:w2.cell? ⟨Bx,2,none⟩=some (.string s0):=HKB.out.cell 2 _ rfl;have lc:=HKC.out.lt;have lm:=HKM.out.lt;have lb:=HKB.out.lt;have HOB:=J (show(Value.slice p n k).ownBlock≠some Bx from HLC.out.2.2.2.2);have HCB:=J (show Bx≠c from HLC.out.2.1);obtain⟨v0,hi,hz0,hz1,hz2⟩:=info_parts valInfo;refine wp_region_held_drew (S:=(fun w'=>w'.cell? ⟨m,0,none⟩=some (.pointer (some ⟨c,0,none⟩))/\w'.cell? ⟨Bx,0,none⟩=some (.int .i64 k0)/\w'.cell? ⟨Bx,1,none⟩=some (.int .i64 i0)/\w'.cell? ⟨Bx,2,none⟩=some (.string s0))) zv ⟨cell_ext x0 zu,cell_ext b0 zu,cell_ext b1 zu,cell_ext b2 zu⟩ (fun hS=>?_);refine tkH 0 (.pointer (some ⟨m,0,none⟩)) hS ?_;refine ze ?_;refine tkH 1 (.pointer (some ⟨m,0,none⟩)) hS ?_;refine ze ?_;refine tkH 2 (.pointer (some ⟨m,0,none⟩)) hS ?_;refine ze ?_;refine tkH 3 (.pointer (some ⟨c,0,none⟩)) hS ?_;refine ze ?_;refine tkH 4 (.pointer (some ⟨m,0,none⟩)) hS ?_;refine ze ?_
   refine tkH 5 (.pointer (some ⟨m,0,none⟩)) hS ?_;refine ze ?_;refine tkH 6 (.pointer (some ⟨m,0,none⟩)) hS ?_;refine ze ?_;refine tkH 7 (.pointer (some ⟨c,0,none⟩)) hS ?_;refine ze ?_;refine tkH 8 (.pointer (some ⟨c,0,none⟩)) hS ?_;refine ze ?_;refine tkH 9 (.pointer (some ⟨c,3,none⟩)) hS ?_;refine ze ?_;refine tkH 11 (.agg #[.int .i64 k0,.int .i64 i0,.string s0]) hS ?_;refine ze ?_;refine wpAnyH_ready (rs:=[10,12]) zv zy ?_;refine AllReadyH.cons (o:=_) rfl (fun K hK=>?_) (AllReadyH.cons (o:=_) rfl (fun K hK=>?_) AllReadyH.nil)
   . rw[if_pos jy];have y2d:w2.drew.cell? ⟨c,3,none⟩=some (.slice p n k):=cell_ext y2 zu;go_simp;refine hK.out _ _ (⟨cell_ext x0 zu,cell_ext b0 zu,cell_ext b1 zu,cell_ext b2 zu⟩) (fun hS1=>?_);clear hK K;refine ze ?_;refine wpAnyH_ready (rs:=[12]) zv zy ?_;refine AllReadyH.cons (o:=_) rfl (fun K hK=>?_) AllReadyH.nil;rw[if_pos jy];go_simp;refine hK.out _ _ (⟨cell_ext x0 zu,cell_ext b0 zu,cell_ext b1 zu,cell_ext b2 zu⟩) (fun hS2=>?_);clear hK K;refine ze ?_;refine wpAnyH_ready (rs:=[13]) zv zy ?_;refine AllReadyH.cons (o:=_) rfl (fun K hK=>?_) AllReadyH.nil;refine step_append_lies _ rfl (.tmp 28) (.tmp 30) 168 rfl W.heap.size 45 v0 (.agg #[.int .i64 0,.int .i64 0,.string ⟨#[]⟩]) 3 32 underlying168 hi hz0 hz1 hz2 rfl zw (.slice p n k) n (valC3 M.vals) rfl (own_ext (by have:=H2.out.vals;rw[HN.out] at this;exact this) zu) ⟨w2.heap.size,0,none⟩ 1 1 [.int .i64 k0,.int .i64 i0,.string s0] rfl rfl (World.news_of_block (heap_alloc_new _ _)) (by intro u hu;simp at hu;rcases hu with rfl | rfl | rfl<;>rfl) zw zcr (by have:=HQ.out.2;omega) (by have:=H2.out.ext.size;simp;omega) _ rfl ?_;intro g1 cap1 w4 hown4 hgrow4 hat4 hlt4;have kb4:KB c _ _ w4:=(hgrow4.block c zg (Ne.symm HOC.out)).trans (HKC.out.of_ext zu);have km4:KB m _ _ w4:=(hgrow4.block m zg (Ne.symm HOM.out)).trans (HKM.out.of_ext zu);have kx4:KB Bx #[.int .i64 k0,.int .i64 i0,.string s0] 45 w4:=(hgrow4.block Bx zg (Ne.symm HOB.out)).trans (HKB.out.of_ext zu)
     have m0:w4.cell? ⟨m,0,none⟩=some (.pointer (some ⟨c,0,none⟩)):=km4.cell 0 _ rfl;have m2:w4.cell? ⟨c,3,none⟩=some (.slice p n k):=kb4.cell 3 _ rfl;have m3:=kb4.frozen 3;have m4:=kb4.lt;have d0:w4.cell? ⟨Bx,0,none⟩=some (.int .i64 k0):=kx4.cell 0 _ rfl;have d1:w4.cell? ⟨Bx,1,none⟩=some (.int .i64 i0):=kx4.cell 1 _ rfl;have d2:w4.cell? ⟨Bx,2,none⟩=some (.string s0):=kx4.cell 2 _ rfl;have KM4:=J km4;have KX4:=J kx4;clear kb4 km4 kx4;refine hK.out _ _ (⟨m0,d0,d1,d2⟩) (fun hS3=>?_);clear hK K;refine ze ?_;refine tkH 14 (.pointer (some ⟨c,0,none⟩)) hS3 ?_;refine ze ?_;refine tkH 15 (.pointer (some ⟨c,3,none⟩)) hS3 ?_;refine ze ?_;refine wpAnyH_ready (rs:=[16]) zv zy ?_;refine AllReadyH.cons (o:=_) rfl (fun K hK=>?_) AllReadyH.nil;rw[if_pos jy];go_simp;refine hK.out _ _ (⟨(KM4.out.setOther 3 _ HCM.out).cell 0 (.pointer (some ⟨c,0,none⟩)) rfl,(KX4.out.setOther 3 _ HCB.out).cell 0 (.int .i64 k0) rfl,(KX4.out.setOther 3 _ HCB.out).cell 1 (.int .i64 i0) rfl,(KX4.out.setOther 3 _ HCB.out).cell 2 (.string s0) rfl⟩) (fun hS4=>?_);clear hK K;refine ze ?_;refine wpAnyH_done zv ?_ _
     have hv4:(Value.slice (some ⟨g1,0,none⟩) (n+1) cap1).ownBlock=(Value.slice p n k).ownBlock\/(Value.slice (some ⟨g1,0,none⟩) (n+1) cap1).ownBlock=some (((w2.alloc (.cells #[.int .i64 k0,.int .i64 i0,.string s0] 45)).drew)).heap.size:=by
      rcases hat4 with e | e
      . exact Or.inl e.symm
      . exact Or.inr (by rw[<-e];rfl)
     have HP:=J (MkV.push_val (x:=(k0,i0,s0)) (H2.out.of_ext (w':=((w2.alloc (.cells #[.int .i64 k0,.int .i64 i0,.string s0] 45)).drew)) zu) (by rw[HN.out];exact hown4) hgrow4 hv4);clear hv4 hat4 hlt4 hgrow4 hown4 m0 m2 m3 m4 KM4 HKC HKM H2 x0 y2 lc lm d0 d1 d2 KX4 HKB b0 b1 b2 lb;generalize w4.setCell ⟨c,3,none⟩ (Value.slice (some ⟨g1,0,none⟩) (n+1) cap1)=W1 at *;have kc:KB c _ _ W1:=HP.out.code;have km:KB m _ _ W1:=HP.out.mkr;have x0:W1.cell? ⟨m,0,none⟩=some (.pointer (some ⟨c,0,none⟩)):=km.cell 0 _ rfl;have x3:W1.cell? ⟨c,3,none⟩=some (.slice (some ⟨g1,0,none⟩) (n+1) cap1):=kc.cell 3 _ rfl;have lm:=km.lt;have lc:=kc.lt;have hnI:=HQ.out.1;clear kc km;go_wp2_with fail;go_ret;exact⟨by(rw[HN.out];rfl),MkS.sub ⟨_,_,HP.out⟩ (fun q hq=>List.mem_cons_of_mem _ hq)⟩
   . rw[if_pos jy];go_simp;refine hK.out _ _ (⟨cell_ext x0 zu,cell_ext b0 zu,cell_ext b1 zu,cell_ext b2 zu⟩) (fun hS1=>?_);clear hK K;refine ze ?_;have y2a:((w2.alloc (.cells #[.int .i64 k0,.int .i64 i0,.string s0] 45)).drew).cell? ⟨c,3,none⟩=some (.slice p n k):=cell_ext y2 zu;refine wpAnyH_ready (rs:=[10]) zv zy ?_;refine AllReadyH.cons (o:=_) rfl (fun K hK=>?_) AllReadyH.nil;rw[if_pos jy];go_simp;refine hK.out _ _ (⟨cell_ext x0 zu,cell_ext b0 zu,cell_ext b1 zu,cell_ext b2 zu⟩) (fun hS2=>?_);clear hK K;refine ze ?_;refine wpAnyH_ready (rs:=[13]) zv zy ?_;refine AllReadyH.cons (o:=_) rfl (fun K hK=>?_) AllReadyH.nil;refine step_append_lies _ rfl (.tmp 28) (.tmp 30) 168 rfl W.heap.size 45 v0 (.agg #[.int .i64 0,.int .i64 0,.string ⟨#[]⟩]) 3 32 underlying168 hi hz0 hz1 hz2 rfl zw (.slice p n k) n (valC3 M.vals) rfl (own_ext (by have:=H2.out.vals;rw[HN.out] at this;exact this) zu) ⟨w2.heap.size,0,none⟩ 1 1 [.int .i64 k0,.int .i64 i0,.string s0] rfl rfl (World.news_of_block (heap_alloc_new _ _)) (by intro u hu;simp at hu;rcases hu with rfl | rfl | rfl<;>rfl) zw zcr (by have:=HQ.out.2;omega) (by have:=H2.out.ext.size;simp;omega) _ rfl ?_;intro g1 cap1 w4 hown4 hgrow4 hat4 hlt4;have kb4:KB c _ _ w4:=(hgrow4.block c zg (Ne.symm HOC.out)).trans (HKC.out.of_ext zu);have km4:KB m _ _ w4:=(hgrow4.block m zg (Ne.symm HOM.out)).trans (HKM.out.of_ext zu);have kx4:KB Bx #[.int .i64 k0,.int .i64 i0,.string s0] 45 w4:=(hgrow4.block Bx zg (Ne.symm HOB.out)).trans (HKB.out.of_ext zu)
     have m0:w4.cell? ⟨m,0,none⟩=some (.pointer (some ⟨c,0,none⟩)):=km4.cell 0 _ rfl;have m2:w4.cell? ⟨c,3,none⟩=some (.slice p n k):=kb4.cell 3 _ rfl;have m3:=kb4.frozen 3;have m4:=kb4.lt;have d0:w4.cell? ⟨Bx,0,none⟩=some (.int .i64 k0):=kx4.cell 0 _ rfl;have d1:w4.cell? ⟨Bx,1,none⟩=some (.int .i64 i0):=kx4.cell 1 _ rfl;have d2:w4.cell? ⟨Bx,2,none⟩=some (.string s0):=kx4.cell 2 _ rfl;have KM4:=J km4;have KX4:=J kx4;clear kb4 km4 kx4;refine hK.out _ _ (⟨m0,d0,d1,d2⟩) (fun hS3=>?_);clear hK K;refine ze ?_;refine tkH 14 (.pointer (some ⟨c,0,none⟩)) hS3 ?_;refine ze ?_;refine tkH 15 (.pointer (some ⟨c,3,none⟩)) hS3 ?_;refine ze ?_;refine wpAnyH_ready (rs:=[16]) zv zy ?_;refine AllReadyH.cons (o:=_) rfl (fun K hK=>?_) AllReadyH.nil;rw[if_pos jy];go_simp;refine hK.out _ _ (⟨(KM4.out.setOther 3 _ HCM.out).cell 0 (.pointer (some ⟨c,0,none⟩)) rfl,(KX4.out.setOther 3 _ HCB.out).cell 0 (.int .i64 k0) rfl,(KX4.out.setOther 3 _ HCB.out).cell 1 (.int .i64 i0) rfl,(KX4.out.setOther 3 _ HCB.out).cell 2 (.string s0) rfl⟩) (fun hS4=>?_);clear hK K;refine ze ?_;refine wpAnyH_done zv ?_ _
     have hv4:(Value.slice (some ⟨g1,0,none⟩) (n+1) cap1).ownBlock=(Value.slice p n k).ownBlock\/(Value.slice (some ⟨g1,0,none⟩) (n+1) cap1).ownBlock=some (((w2.alloc (.cells #[.int .i64 k0,.int .i64 i0,.string s0] 45)).drew)).heap.size:=by
      rcases hat4 with e | e
      . exact Or.inl e.symm
      . exact Or.inr (by rw[<-e];rfl)
     have HP:=J (MkV.push_val (x:=(k0,i0,s0)) (H2.out.of_ext (w':=((w2.alloc (.cells #[.int .i64 k0,.int .i64 i0,.string s0] 45)).drew)) zu) (by rw[HN.out];exact hown4) hgrow4 hv4);clear hv4 hat4 hlt4 hgrow4 hown4 m0 m2 m3 m4 KM4 HKC HKM H2 x0 y2 lc lm d0 d1 d2 KX4 HKB b0 b1 b2 lb;generalize w4.setCell ⟨c,3,none⟩ (Value.slice (some ⟨g1,0,none⟩) (n+1) cap1)=W1 at *;have kc:KB c _ _ W1:=HP.out.code;have km:KB m _ _ W1:=HP.out.mkr;have x0:W1.cell? ⟨m,0,none⟩=some (.pointer (some ⟨c,0,none⟩)):=km.cell 0 _ rfl;have x3:W1.cell? ⟨c,3,none⟩=some (.slice (some ⟨g1,0,none⟩) (n+1) cap1):=kc.cell 3 _ rfl;have lm:=km.lt;have lc:=kc.lt;have hnI:=HQ.out.1;clear kc km;go_wp2_with fail;go_ret;exact⟨by(rw[HN.out];rfl),MkS.sub ⟨_,_,HP.out⟩ (fun q hq=>List.mem_cons_of_mem _ hq)⟩
def MExprC (W:World) (c m:Nat) (nv sv:Value) (fi mo:Int) (ns:List Nd) (sl:List Int) (f:Nat):Prop:=∀ (L:List (Nat × Obj)) (M R:Mk) (w:World) (i:Int),exprM ns sl f i M=some R->MkS W c m nv sv fi mo ns sl L M w ->
  Calls prog 136 #[.pointer (some ⟨m,0,none⟩),.int .i64 i] w fun r w'=>r=.returned (.tuple #[])/\MkS W c m nv sv fi mo ns sl L R w'
def MExprC.out {W:World} {c m:Nat} {nv sv:Value} {fi mo:Int} {ns:List Nd} {sl:List Int} {f:Nat} (h:MExprC W c m nv sv fi mo ns sl f) {L:List (Nat × Obj)} {M R:Mk} {i:Int} (hR:exprM ns sl f i M=some R) (w:World) (hm:MkS W c m nv sv fi mo ns sl L M w) :
  Calls prog 136 #[.pointer (some ⟨m,0,none⟩),.int .i64 i] w fun r w'=>r=.returned (.tuple #[])/\MkS W c m nv sv fi mo ns sl L R w':=h L M R w i hR hm
def andS_iff (s:ByteArray):s=andS↔(s.toList==[97,110,100])=true:=by
 have e:andS.toList=[97,110,100]:=zv;rw[<-e];exact(Lib.bytes_beq_iff s andS).symm
def orS_iff (s:ByteArray):s=orS↔(s.toList==[111,114])=true:=by
 have e:orS.toList=[111,114]:=zv;rw[<-e];exact(Lib.bytes_beq_iff s orS).symm
def mtwo_of {W:World} {c m:Nat} {nv sv:Value} {fi mo:Int} {ns:List Nd} {sl:List Int} {f:Nat} (hE:MExprC W c m nv sv fi mo ns sl f) {L:List (Nat × Obj)} {M R:Mk} (w:World) (j:Nat) (z:Nd) (hR:twoM (exprM ns sl f) j z M=some R) (h:MkS W c m nv sv fi mo ns sl L M w) :
  Calls prog 177 #[.pointer (some ⟨m,0,none⟩),.int .i64 (j:Int),.agg #[.int .i64 z.k,.int .i64 z.a,.int .i64 z.b,.int .i64 z.c,.int .i64 z.x,.int .i64 z.i,.string z.s,.string z.t]] w fun r w'=>r=.returned (.tuple #[])/\MkS W c m nv sv fi mo ns sl L R w':=by
 obtain⟨zk,za,zb,zc,zx,zi,zs,zt⟩:=z;unfold twoM at hR;dsimp only at hR ⊢;obtain⟨M0,h0,hR⟩:=qab hR;refine yal ?_;intro H0;have C0:=J (fun w1 hw=>hE.out (L:=((w.heap.size,.cells #[.int .i64 zk,.int .i64 za,.int .i64 zb,.int .i64 zc,.int .i64 zx,.int .i64 zi,.string zs,.string zt] 166 (0,0))::L)) h0 w1 hw);by_cases ha:zs=andS\/zs=orS
 . rw[if_pos ha] at hR;obtain⟨M1,h1,hR⟩:=qab hR;obtain⟨M2,h2,hR⟩:=qab hR;obtain⟨M3,h3,hR⟩:=qab hR;have hR5:(if (5:Int)=13\/(5:Int)=15 then M3.setB M0.ins.length else M3.setA M0.ins.length)=some R:=hR;have C2:=J (fun LL w1 hw=>hE.out (L:=LL) h2 w1 hw);have C3:=J (fun LL w1 (hw:MkS W c m nv sv fi mo ns sl LL M2 w1)=>qbP hw 6 0 0 (j:Int) 0 h3);by_cases ho:zs=orS
   . rw[if_pos ho] at h1;have b2:=(orS_iff zs).1 ho;have b1:(zs.toList==[97,110,100])=false:=(by rw[ho];kernel_rfl)
     have b3:zs.toList=[111,114]:=(by simpa using b2)
     have C1:=J (fun LL w1 (hw:MkS W c m nv sv fi mo ns sl LL M0 w1)=>qdF hw 5 0 1 (j:Int) (-1) h1);clear hE hR h h0 h1 h2 h3 ha ho;have HR5:=J hR5;clear hR5 b3;go_enter func177,ntmps177
     go_wp2_with (first
      | ((with_reducible refine (C0.out _ H0.out).mono ?_);rintro e' w2 ⟨rfl,h2⟩;have H2:=J h2;clear h2;have KX2:Hid (KB w.heap.size #[.int .i64 zk,.int .i64 za,.int .i64 zb,.int .i64 zc,.int .i64 zx,.int .i64 zi,.string zs,.string zt] 166 w2):=J (H2.out.locAt List.mem_cons_self);have x26:=KX2.out.cell 6 _ rfl;have lx2:=KX2.out.lt)
      | ((with_reducible refine (C1.out _ _ H2.out).mono ?_);rintro e' w3 ⟨km,ko,ki,rfl,h3⟩;have H3:=J h3;clear h3;have KX3:Hid (KB w.heap.size #[.int .i64 zk,.int .i64 za,.int .i64 zb,.int .i64 zc,.int .i64 zx,.int .i64 zi,.string zs,.string zt] 166 w3):=J (H3.out.locAt (List.mem_cons_of_mem _ (List.mem_cons_of_mem _ (List.mem_cons_of_mem _ List.mem_cons_self))));have x32:=KX3.out.cell 2 _ rfl;have lx3:=KX3.out.lt)
      | ((with_reducible refine (C2.out _ _ H3.out).mono ?_);rintro e' w4 ⟨rfl,h4⟩;have H4:=J h4;clear h4)
      | ((with_reducible refine (C3.out _ _ H4.out).mono ?_);rintro e' w5 ⟨rfl,h5⟩;have H5:=J h5;clear h5)
      | ((with_reducible refine (qem H5.out (op:=5) List.mem_cons_self (List.mem_cons_of_mem _ List.mem_cons_self) (List.mem_cons_of_mem _ (List.mem_cons_of_mem _ List.mem_cons_self)) HR5.out).mono ?_);rintro e' w6 ⟨rfl,h6⟩;have H6:=J h6;clear h6))
     refine jg ?_;exact⟨rfl,H6.out.sub fun q hq=>List.mem_cons_of_mem _ (List.mem_cons_of_mem _ (List.mem_cons_of_mem _ (List.mem_cons_of_mem _ hq)))⟩
   . rw[if_neg ho] at h1;have ha2:zs=andS:=ha.resolve_right ho;have b1:=(andS_iff zs).1 ha2;have b2:(zs.toList==[111,114])=false:=(by rw[ha2];kernel_rfl)
     have C1:=J (fun LL w1 (hw:MkS W c m nv sv fi mo ns sl LL M0 w1)=>qdF hw 5 0 0 (j:Int) (-1) h1);clear hE hR h h0 h1 h2 h3 ha ho ha2;have HR5:=J hR5;clear hR5;go_enter func177,ntmps177
     go_wp2_with (first
      | ((with_reducible refine (C0.out _ H0.out).mono ?_);rintro e' w2 ⟨rfl,h2⟩;have H2:=J h2;clear h2;have KX2:Hid (KB w.heap.size #[.int .i64 zk,.int .i64 za,.int .i64 zb,.int .i64 zc,.int .i64 zx,.int .i64 zi,.string zs,.string zt] 166 w2):=J (H2.out.locAt List.mem_cons_self);have x26:=KX2.out.cell 6 _ rfl;have lx2:=KX2.out.lt)
      | ((with_reducible refine (C1.out _ _ H2.out).mono ?_);rintro e' w3 ⟨km,ko,ki,rfl,h3⟩;have H3:=J h3;clear h3;have KX3:Hid (KB w.heap.size #[.int .i64 zk,.int .i64 za,.int .i64 zb,.int .i64 zc,.int .i64 zx,.int .i64 zi,.string zs,.string zt] 166 w3):=J (H3.out.locAt (List.mem_cons_of_mem _ (List.mem_cons_of_mem _ (List.mem_cons_of_mem _ List.mem_cons_self))));have x32:=KX3.out.cell 2 _ rfl;have lx3:=KX3.out.lt)
      | ((with_reducible refine (C2.out _ _ H3.out).mono ?_);rintro e' w4 ⟨rfl,h4⟩;have H4:=J h4;clear h4)
      | ((with_reducible refine (C3.out _ _ H4.out).mono ?_);rintro e' w5 ⟨rfl,h5⟩;have H5:=J h5;clear h5)
      | ((with_reducible refine (qem H5.out (op:=5) List.mem_cons_self (List.mem_cons_of_mem _ List.mem_cons_self) (List.mem_cons_of_mem _ (List.mem_cons_of_mem _ List.mem_cons_self)) HR5.out).mono ?_);rintro e' w6 ⟨rfl,h6⟩;have H6:=J h6;clear h6))
     refine jg ?_;exact⟨rfl,H6.out.sub fun q hq=>List.mem_cons_of_mem _ (List.mem_cons_of_mem _ (List.mem_cons_of_mem _ (List.mem_cons_of_mem _ hq)))⟩
 . rw[if_neg ha] at hR;obtain⟨M1,h1,hR⟩:=qab hR
   have b1:(zs.toList==[97,110,100])=false:=by cases hb:(zs.toList==[97,110,100]) with
    | false=>rfl
    | true=>exact absurd (Or.inl ((andS_iff zs).2 hb)) ha
   have b2:(zs.toList==[111,114])=false:=by cases hb:(zs.toList==[111,114]) with
    | false=>rfl
    | true=>exact absurd (Or.inr ((orS_iff zs).2 hb)) ha
   have C1:=J (fun LL w1 hw=>hE.out (L:=LL) h1 w1 hw);have C3:=J (fun LL w1 (hw:MkS W c m nv sv fi mo ns sl LL M1 w1)=>qbP hw 4 (csgF zs) 0 (j:Int) (-1) hR);clear hE hR h h0 h1 ha;go_enter func177,ntmps177
   go_wp2_with (first
    | ((with_reducible refine (C0.out _ H0.out).mono ?_);rintro e' w2 ⟨rfl,h2⟩;have H2:=J h2;clear h2;have KX2:Hid (KB w.heap.size #[.int .i64 zk,.int .i64 za,.int .i64 zb,.int .i64 zc,.int .i64 zx,.int .i64 zi,.string zs,.string zt] 166 w2):=J (H2.out.locAt List.mem_cons_self);have x22:=KX2.out.cell 2 _ rfl;have x26:=KX2.out.cell 6 _ rfl;have lx2:=KX2.out.lt)
    | ((with_reducible refine (C1.out _ _ H2.out).mono ?_);rintro e' w3 ⟨rfl,h3⟩;have H3:=J h3;clear h3;have KX3:Hid (KB w.heap.size #[.int .i64 zk,.int .i64 za,.int .i64 zb,.int .i64 zc,.int .i64 zx,.int .i64 zi,.string zs,.string zt] 166 w3):=J (H3.out.locAt List.mem_cons_self);have x36:=KX3.out.cell 6 _ rfl;have lx3:=KX3.out.lt)
    | ((with_reducible refine (csign_any _ _).mono ?_);rintro e' w4 ⟨rfl,hx4⟩;have H4:=J (H3.out.of_ext hx4);clear hx4)
    | ((with_reducible refine (C3.out _ _ H4.out).mono ?_);rintro e' w5 ⟨rfl,h5⟩;have H5:=J h5;clear h5))
   refine jg ?_;exact⟨rfl,H5.out.sub fun q hq=>List.mem_cons_of_mem _ hq⟩
def mexpr_any {W:World} {c m:Nat} {nv sv:Value} {fi mo:Int} {ns:List Nd} {sl:List Int}:∀ f,MExprC W c m nv sv fi mo ns sl f:=by
 intro f
 induction f with
 | zero=>intro L M R w i hR h;cases hR
 | succ f ih =>
  intro L M R w i hR h;unfold exprM at hR
  split at hR
  . cases hR
  rename_i hi;obtain⟨j,rfl⟩:∃ j:Nat,i=(j:Int):=⟨i.toNat,Y⟩
  rw[Int.toNat_natCast] at hR
  split at hR
  . cases hR
  rename_i z hz;obtain⟨zk,za,zb,zc,zx,zi,zs,zt⟩:=z;dsimp only at hR;obtain⟨G,n,cap,iv,vv,rfl,hG,hj,lc,lm,x0,y0,x1,y2,y3,hiv,a0,a1,a2,a3,a4,a5,a6,a7⟩:=h.node hz;dsimp only at a0 a1 a2 a3 a4 a5 a6 a7;refine yal ?_;intro H0;have hj0:0<=(j:Int):=Y;have hjn:(j:Int)<(n:Int):=Y;clear hiv;by_cases hA:zk=0\/zk=1\/zk=2\/zk=3
  . rw[if_pos hA] at hR;obtain⟨⟨M1,q⟩,h1,hR⟩:=qab hR;have C1:=J (fun w1 (hw:MkS W c m (.slice (some ⟨G,0,none⟩) n cap) sv fi mo ns sl ((w.heap.size,.cells #[.int .i64 zk,.int .i64 za,.int .i64 zb,.int .i64 zc,.int .i64 zx,.int .i64 zi,.string zs,.string zt] 166 (0,0))::L) M w1)=>value_any hw zk zi zs q h1);have C2:=J (fun w1 (hw:MkS W c m (.slice (some ⟨G,0,none⟩) n cap) sv fi mo ns sl ((w.heap.size,.cells #[.int .i64 zk,.int .i64 za,.int .i64 zb,.int .i64 zc,.int .i64 zx,.int .i64 zi,.string zs,.string zt] 166 (0,0))::L) M1 w1)=>qbP hw 0 q 0 (j:Int) 1 hR);clear ih hR h hz h1 hi;rcases hA with hA | hA | hA | hA
    all_goals
     subst hA;go_enter func136,ntmps136
     go_wp2_with (first
      | ((with_reducible refine (C1.out _ H0.out).mono ?_);rintro e' w2 ⟨rfl,h2⟩;have H2:=J h2;clear h2)
      | ((with_reducible refine (C2.out _ H2.out).mono ?_);rintro e' w3 ⟨rfl,h3⟩;have H3:=J h3;clear h3))
     refine jg ?_;exact⟨rfl,H3.out.sub fun q hq=>List.mem_cons_of_mem _ hq⟩
  rw[if_neg hA] at hR;have b0:(zk==0)=false:=by simpa using fun e=>hA (Or.inl e)
  have b1:(zk==1)=false:=by simpa using fun e=>hA (Or.inr (Or.inl e))
  have b2:(zk==2)=false:=by simpa using fun e=>hA (Or.inr (Or.inr (Or.inl e)))
  have b3:(zk==3)=false:=by simpa using fun e=>hA (Or.inr (Or.inr (Or.inr e)))
  by_cases h4:zk=4
  . rw[if_pos h4] at hR;obtain⟨q,hq,hR⟩:=qab hR;obtain⟨g,n2,k2,rfl,hn2,hj2,hg2,s0⟩:=h.slot hq;have C2:=J (fun w1 (hw:MkS W c m (.slice (some ⟨G,0,none⟩) n cap) (.slice (some ⟨g,0,none⟩) n2 k2) fi mo ns sl ((w.heap.size,.cells #[.int .i64 zk,.int .i64 za,.int .i64 zb,.int .i64 zc,.int .i64 zx,.int .i64 zi,.string zs,.string zt] 166 (0,0))::L) M w1)=>qbP hw 1 q 0 (j:Int) 1 hR);have hjn2:(j:Int)<(n2:Int):=Y;subst h4;clear ih hR h hz hi hA hq b0 b1 b2 b3 hn2;go_enter func136,ntmps136
    go_wp2_with (first
     | ((with_reducible refine (C2.out _ H0.out).mono ?_);rintro e' w2 ⟨rfl,h2⟩;have H2:=J h2;clear h2))
    refine jg ?_;exact⟨rfl,H2.out.sub fun q hq=>List.mem_cons_of_mem _ hq⟩
  rw[if_neg h4] at hR;have b4:(zk==4)=false:=by simpa using h4
  by_cases h11:zk=11
  . rw[if_pos h11] at hR;have C1:=J (fun w1 hw=>mtwo_of ih (L:=((w.heap.size,.cells #[.int .i64 zk,.int .i64 za,.int .i64 zb,.int .i64 zc,.int .i64 zx,.int .i64 zi,.string zs,.string zt] 166 (0,0))::L)) w1 j _ hR hw);dsimp only at C1;subst h11;clear ih hR h hz hi hA h4 b0 b1 b2 b3 b4;go_enter func136,ntmps136
    go_wp2_with (first
     | ((with_reducible refine (C1.out _ H0.out).mono ?_);rintro e' w2 ⟨rfl,h2⟩;have H2:=J h2;clear h2))
    refine jg ?_;exact⟨rfl,H2.out.sub fun q hq=>List.mem_cons_of_mem _ hq⟩
  rw[if_neg h11] at hR;have b5:(zk==11)=false:=by simpa using h11
  obtain⟨M1,h1,hR⟩:=qab hR;have C1:=J (fun w1 hw=>ih.out (L:=((w.heap.size,.cells #[.int .i64 zk,.int .i64 za,.int .i64 zb,.int .i64 zc,.int .i64 zx,.int .i64 zi,.string zs,.string zt] 166 (0,0))::L)) h1 w1 hw);have C2:=J (fun w1 (hw:MkS W c m (.slice (some ⟨G,0,none⟩) n cap) sv fi mo ns sl ((w.heap.size,.cells #[.int .i64 zk,.int .i64 za,.int .i64 zb,.int .i64 zc,.int .i64 zx,.int .i64 zi,.string zs,.string zt] 166 (0,0))::L) M1 w1)=>qbP hw 3 zk 0 (j:Int) 0 hR);clear ih hR h hz hi hA h4 h11 h1;go_enter func136,ntmps136
  go_wp2_with (first
   | ((with_reducible refine (C1.out _ H0.out).mono ?_);rintro e' w2 ⟨rfl,h2⟩;have H2:=J h2;clear h2;have KX2:Hid (KB w.heap.size #[.int .i64 zk,.int .i64 za,.int .i64 zb,.int .i64 zc,.int .i64 zx,.int .i64 zi,.string zs,.string zt] 166 w2):=J (H2.out.locAt List.mem_cons_self);have x20:=KX2.out.cell 0 _ rfl;have lx2:=KX2.out.lt)
   | ((with_reducible refine (C2.out _ H2.out).mono ?_);rintro e' w3 ⟨rfl,h3⟩;have H3:=J h3;clear h3))
  refine jg ?_;exact⟨rfl,H3.out.sub fun q hq=>List.mem_cons_of_mem _ hq⟩
def MBlkC (W:World) (c m:Nat) (nv sv:Value) (fi mo:Int) (ns:List Nd) (sl:List Int) (f:Nat):Prop:=∀ (L:List (Nat × Obj)) (M R:Mk) (w:World) (i:Int),blkM ns sl f i M=some R->MkS W c m nv sv fi mo ns sl L M w ->
  Calls prog 100 #[.pointer (some ⟨m,0,none⟩),.int .i64 i] w fun r w'=>r=.returned (.tuple #[])/\MkS W c m nv sv fi mo ns sl L R w'
def MBlkC.out {W:World} {c m:Nat} {nv sv:Value} {fi mo:Int} {ns:List Nd} {sl:List Int} {f:Nat} (h:MBlkC W c m nv sv fi mo ns sl f) {L:List (Nat × Obj)} {M R:Mk} {i:Int} (hR:blkM ns sl f i M=some R) (w:World) (hm:MkS W c m nv sv fi mo ns sl L M w) :
  Calls prog 100 #[.pointer (some ⟨m,0,none⟩),.int .i64 i] w fun r w'=>r=.returned (.tuple #[])/\MkS W c m nv sv fi mo ns sl L R w':=h L M R w i hR hm
def MStmC (W:World) (c m:Nat) (nv sv:Value) (fi mo:Int) (ns:List Nd) (sl:List Int) (f:Nat):Prop:=∀ (L:List (Nat × Obj)) (M R:Mk) (w:World) (j:Nat) (z:Nd),ns[j]?=some z->stmM (exprM ns sl f) (blkM ns sl f) sl j z M=some R->MkS W c m nv sv fi mo ns sl L M w ->
  Calls prog 114 #[.pointer (some ⟨m,0,none⟩),.int .i64 (j:Int),.agg #[.int .i64 z.k,.int .i64 z.a,.int .i64 z.b,.int .i64 z.c,.int .i64 z.x,.int .i64 z.i,.string z.s,.string z.t]] w fun r w'=>r=.returned (.tuple #[])/\MkS W c m nv sv fi mo ns sl L R w'
def MStmC.out {W:World} {c m:Nat} {nv sv:Value} {fi mo:Int} {ns:List Nd} {sl:List Int} {f:Nat} (h:MStmC W c m nv sv fi mo ns sl f) {L:List (Nat × Obj)} {M R:Mk} {j:Nat} {z:Nd} (hz:ns[j]?=some z) (hR:stmM (exprM ns sl f) (blkM ns sl f) sl j z M=some R) (w:World) (hm:MkS W c m nv sv fi mo ns sl L M w) :
  Calls prog 114 #[.pointer (some ⟨m,0,none⟩),.int .i64 (j:Int),.agg #[.int .i64 z.k,.int .i64 z.a,.int .i64 z.b,.int .i64 z.c,.int .i64 z.x,.int .i64 z.i,.string z.s,.string z.t]] w fun r w'=>r=.returned (.tuple #[])/\MkS W c m nv sv fi mo ns sl L R w':=h L M R w j z hz hR hm
def MkS.nodeG {W:World} {c m:Nat} {G n cap:Nat} {sv:Value} {fi mo:Int} {ns:List Nd} {sl:List Int} {L:List (Nat × Obj)} {M:Mk} {w:World} (h:MkS W c m (.slice (some ⟨G,0,none⟩) n cap) sv fi mo ns sl L M w) {j:Nat} {z:Nd} (hz:ns[j]?=some z) :
  G<w.heap.size/\j<n/\c<w.heap.size/\m<w.heap.size/\w.cell? ⟨m,0,none⟩=some (.pointer (some ⟨c,0,none⟩))/\w.cell? ⟨c,0,none⟩=some (.slice (some ⟨G,0,none⟩) n cap)/\w.cell? ⟨m,1,none⟩=some sv /\
  w.cell? ⟨G,j*8,none⟩=some (.int .i64 z.k)/\w.cell? ⟨G,j*8+1,none⟩=some (.int .i64 z.a)/\w.cell? ⟨G,j*8+2,none⟩=some (.int .i64 z.b)/\w.cell? ⟨G,j*8+3,none⟩=some (.int .i64 z.c)/\w.cell? ⟨G,j*8+4,none⟩=some (.int .i64 z.x)/\w.cell? ⟨G,j*8+5,none⟩=some (.int .i64 z.i)/\w.cell? ⟨G,j*8+6,none⟩=some (.string z.s)/\w.cell? ⟨G,j*8+7,none⟩=some (.string z.t):=by
 obtain⟨G',n',cap',iv,vv,e,hG,hj,lc,lm,x0,y0,x1,y2,y3,hiv,a⟩:=h.node hz;simp only[Value.slice.injEq,Option.some.injEq,Addr.mk.injEq] at e;obtain⟨⟨rfl,_,_⟩,rfl,rfl⟩:=e;exact⟨hG,hj,lc,lm,x0,y0,x1,a⟩
def MkS.insLen {W:World} {c m:Nat} {nv sv:Value} {fi mo:Int} {ns:List Nd} {sl:List Int} {L:List (Nat × Obj)} {M:Mk} {w:World} (h:MkS W c m nv sv fi mo ns sl L M w):∃ p k,c<w.heap.size/\m<w.heap.size/\w.cell? ⟨m,0,none⟩=some (.pointer (some ⟨c,0,none⟩))/\w.cell? ⟨c,2,none⟩=some (.slice p M.ins.length k):=by
 obtain⟨iv,vv,h⟩:=h;have kb:KB c _ _ w:=h.code;have km:KB m _ _ w:=h.mkr;obtain⟨p,k,hv⟩:=qad h.ins;exact⟨p,k,kb.lt,km.lt,km.cell 0 _ rfl,by have:=kb.cell 2 _ rfl;rw[hv] at this;exact this⟩
def mblk_neg (ns:List Nd) (sl:List Int) (f:Nat) (i:Int) (M:Mk) (h:i<0):blkM ns sl f i M=some M:=by
 cases f<;>(unfold blkM;rw[if_pos h])
def mblk_pos {ns:List Nd} {sl:List Int} {f:Nat} {i:Int} {M R:Mk} (h:0<=i) (hR:blkM ns sl f i M=some R):∃ g j z M1 M2,f=g+1/\i=((j:Nat):Int)/\ns[j]?=some z/\M.add 7 0 0 (j:Int) 0=some M1/\stmM (exprM ns sl g) (blkM ns sl g) sl j z M1=some M2/\blkM ns sl g z.x M2=some R:=by
 cases f with
 | zero=>unfold blkM at hR;rw[if_neg Y] at hR;cases hR
 | succ g =>
  unfold blkM at hR;rw[if_neg Y] at hR;obtain⟨j,rfl⟩:∃ j:Nat,i=(j:Int):=⟨i.toNat,Y⟩
  rw[Int.toNat_natCast] at hR
  split at hR
  . cases hR
  . rename_i z hz;obtain⟨M1,h1,hR⟩:=qab hR;obtain⟨M2,h2,hR⟩:=qab hR;exact⟨g,j,z,M1,M2,rfl,rfl,hz,h1,h2,hR⟩
def mblk_of {W:World} {c m:Nat} {nv sv:Value} {fi mo:Int} {ns:List Nd} {sl:List Int} (f:Nat) (hS:∀ g,g<f->MStmC W c m nv sv fi mo ns sl g):MBlkC W c m nv sv fi mo ns sl f:=by
 intro L M R w i hR h;have HSS:=J hS;have HR:=J hR;have H0:=J h;clear hS hR h;go_enter func100,ntmps100;go_wp2_with fail
 go_loopg [1] f (fun g x wr=>∃ (i':Int) (M':Mk),x=.int .i64 i'/\g<=f/\blkM ns sl g i' M'=some R/\MkS W c m nv sv fi mo ns sl L M' wr)
 case atStart=>exact⟨i,M,rfl,Nat.le_refl _,HR.out,H0.out⟩
 case round =>
  obtain⟨i',M',rfl,hg,hb,hwk⟩:=hrel;have HG:=J hg;clear hg;by_cases hi:i'<0
  . rw[mblk_neg _ _ _ _ _ hi] at hb;have e2:=Option.some.inj hb;subst e2;have HK2:=J hwk;clear hb hwk;go_wp2_with fail;refine jg ?_;exact⟨rfl,HK2.out⟩
  . obtain⟨g1,j,⟨zk,za,zb,zc,zx,zi,zs,zt⟩,M1,M2,e,rfl,hz,h1,h2,h3⟩:=mblk_pos Y hb;have HE:=J e;obtain⟨G,n,cap,iv,vv,rfl,hG,hj,lc,lm,x0,y0,x1,y2,y3,hiv,a0,a1,a2,a3,a4,a5,a6,a7⟩:=hwk.node hz;have HZ:=J hz;have C1:=J (fun w1 (hw:MkS W c m (.slice (some ⟨G,0,none⟩) n cap) sv fi mo ns sl L M' w1)=>qbP hw 7 0 0 (j:Int) 0 h1);have C2:=J (fun w1 hw=>(HSS.out g1 (by have:=HG.out;omega)).out (L:=L) hz h2 w1 hw);have H3x:=J h3;have HK:=J hwk;dsimp only at C2 H3x;have hj0:0<=(j:Int):=Y;have hjn:(j:Int)<(n:Int):=Y;clear hb hwk hi e hz h1 h2 h3 hiv a0 a1 a2 a3 a4 a5 a6 a7 x0 y0 x1 y2 y3 lc lm hG
    go_wp2_with (first
     | ((with_reducible refine (C1.out _ HK.out).mono ?_);rintro e' w2 ⟨rfl,h2⟩;have H2:=J h2;have hnd:=h2.nodeG HZ.out;dsimp only at hnd;obtain⟨hG,hj,lc,lm,x0,y0,x1,a0,a1,a2,a3,a4,a5,a6,a7⟩:=hnd;clear h2)
     | ((with_reducible refine (C2.out _ H2.out).mono ?_);rintro e' w3 ⟨rfl,h3⟩;have H3:=J h3;have hnd:=h3.nodeG HZ.out;dsimp only at hnd;obtain⟨hG',hj',lc',lm',x0',y0',x1',a0',a1',a2',a3',a4',a5',a6',a7'⟩:=hnd;clear h3))
    clear hG lc lm x0 y0 x1 a0 a1 a2 a3 a4 a5 a6 a7 hG' lc' lm' x0' y0' x1' a0' a1' a2' a3' a4' a5' a6' a7'
    go_roundg g1
    case rel=>exact⟨zx,M2,rfl,by have:=HG.out;have:=HE.out;omega,H3x.out,H3.out⟩
    case measure=>have:=HE.out;omega
def mloop_of {W:World} {c m:Nat} {nv sv:Value} {fi mo:Int} {ns:List Nd} {sl:List Int} {f:Nat} (hB:MBlkC W c m nv sv fi mo ns sl f) {L:List (Nat × Obj)} {M R:Mk} (w:World) (op a bl:Int) (j:Nat) (hop:op=13\/op=15) (hR:loopM (blkM ns sl f) op a j bl M=some R) (h:MkS W c m nv sv fi mo ns sl L M w) :
  Calls prog 138 #[.pointer (some ⟨m,0,none⟩),.int .i64 op,.int .i64 a,.int .i64 (j:Int),.int .i64 bl] w fun r w'=>r=.returned (.tuple #[])/\MkS W c m nv sv fi mo ns sl L R w':=by
 unfold loopM at hR;obtain⟨M1,h1,hR⟩:=qab hR;obtain⟨M2,h2,hR⟩:=qab hR;obtain⟨M3,h3,hR⟩:=qab hR;obtain⟨N,hN⟩:∃ N,M.ins.length=N:=⟨_,rfl⟩
 obtain⟨p,k,lc,lm,x0,y2⟩:=h.insLen;rw[hN] at y2 h3 hR;have hR5:(if op=13\/op=15 then M3.setB N else M3.setA N)=some R:=by rw[if_pos hop];exact hR
 have C1:=J (fun w1 (hw:MkS W c m nv sv fi mo ns sl L M w1)=>qdF hw op a 0 (j:Int) 0 h1);have C2:=J (fun LL w1 hw=>hB.out (L:=LL) h2 w1 hw);have C3:=J (fun LL w1 (hw:MkS W c m nv sv fi mo ns sl LL M2 w1)=>qbP hw 9 (N:Int) 0 (j:Int) 0 h3);rw[hN] at C1;have HR5:=J hR5;have H0:=J h;clear hB hR h h1 h2 h3 hop hN hR5;go_enter func138,ntmps138
 go_wp2_with (first
  | ((with_reducible refine (C1.out _ H0.out).mono ?_);rintro e' w2 ⟨km,ko,ki,rfl,h2⟩;have H2:=J h2;clear h2)
  | ((with_reducible refine (C2.out _ _ H2.out).mono ?_);rintro e' w3 ⟨rfl,h3⟩;have H3:=J h3;clear h3)
  | ((with_reducible refine (C3.out _ _ H3.out).mono ?_);rintro e' w4 ⟨rfl,h4⟩;have H4:=J h4;clear h4)
  | ((with_reducible refine (qem H4.out (op:=op) List.mem_cons_self (List.mem_cons_of_mem _ List.mem_cons_self) (List.mem_cons_of_mem _ (List.mem_cons_of_mem _ List.mem_cons_self)) HR5.out).mono ?_);rintro e' w5 ⟨rfl,h5⟩;have H5:=J h5;clear h5))
 refine jg ?_;exact⟨rfl,H5.out.sub fun q hq=>List.mem_cons_of_mem _ (List.mem_cons_of_mem _ (List.mem_cons_of_mem _ hq))⟩
section
variable {W:World} {c m:Nat} {nv sv:Value} {fi mo:Int} {ns:List Nd} {sl:List Int} {f:Nat} {L:List (Nat × Obj)} {M R:Mk} {w:World} {Q:Ending->World->Prop}
def gm_expr {i:Int} (H:Hid (MkS W c m nv sv fi mo ns sl L M w)) (h:Hid (exprM ns sl f i M=some R)) (k:∀ w',Hid (MkS W c m nv sv fi mo ns sl L R w')->Q (.returned (.tuple #[])) w') :
  Calls prog 136 #[.pointer (some ⟨m,0,none⟩),.int .i64 i] w Q :=
 (mexpr_any f L M R w i h.out H.out).mono fun e w' ⟨he,h⟩=>by subst he;exact k w' (J h)
def gm_block {i:Int} (hB:Hid (MBlkC W c m nv sv fi mo ns sl f)) (H:Hid (MkS W c m nv sv fi mo ns sl L M w)) (h:Hid (blkM ns sl f i M=some R)) (k:∀ w',Hid (MkS W c m nv sv fi mo ns sl L R w')->Q (.returned (.tuple #[])) w') :
  Calls prog 100 #[.pointer (some ⟨m,0,none⟩),.int .i64 i] w Q :=
 (hB.out.out h.out w H.out).mono fun e w' ⟨he,h⟩=>by subst he;exact k w' (J h)
def gm_add {op a b nd hg:Int} (H:Hid (MkS W c m nv sv fi mo ns sl L M w)) (h:Hid (M.add op a b nd hg=some R)) (k:∀ w',Hid (MkS W c m nv sv fi mo ns sl L R w')->Q (.returned (.int .i64 (M.ins.length:Int))) w') :
  Calls prog 101 #[.pointer (some ⟨m,0,none⟩),.int .i64 op,.int .i64 a,.int .i64 b,.int .i64 nd,.int .i64 hg] w Q :=
 (qbP H.out op a b nd hg h.out).mono fun e w' ⟨he,h⟩=>by subst he;exact k w' (J h)
def gm_later {op a b nd hg:Int} (H:Hid (MkS W c m nv sv fi mo ns sl L M w)) (h:Hid (M.add op a b nd hg=some R)) (k:∀ km ko ki w',Hid (MkS W c m nv sv fi mo ns sl ((ki,.cells #[.int .i64 (M.ins.length:Int)] 3 (0,0))::(ko,.cells #[.int .i64 op] 3 (0,0))::(km,.cells #[.pointer (some ⟨m,0,none⟩)] 163 (0,0))::L) R w')->Q (.returned (.func (.func 178) #[] #[.pointer (some ⟨ko,0,none⟩),.pointer (some ⟨km,0,none⟩),.pointer (some ⟨ki,0,none⟩)])) w') :
  Calls prog 137 #[.pointer (some ⟨m,0,none⟩),.int .i64 op,.int .i64 a,.int .i64 b,.int .i64 nd,.int .i64 hg] w Q :=
 (qdF H.out op a b nd hg h.out).mono fun e w' ⟨km,ko,ki,he,h⟩=>by subst he;exact k km ko ki w' (J h)
def gm_done {km ko ki j:Nat} {op:Int} (H:Hid (MkS W c m nv sv fi mo ns sl L M w)) (b1:(ki,Obj.cells #[.int .i64 (j:Int)] 3 (0,0))∈L) (b2:(ko,Obj.cells #[.int .i64 op] 3 (0,0))∈L) (b3:(km,Obj.cells #[.pointer (some ⟨m,0,none⟩)] 163 (0,0))∈L) (h:Hid (M.setA j=some R)) (ho:¬(op=13\/op=15)) (k:∀ w',Hid (MkS W c m nv sv fi mo ns sl L R w')->Q (.returned (.tuple #[])) w') :
  Calls prog 178 #[.pointer (some ⟨ko,0,none⟩),.pointer (some ⟨km,0,none⟩),.pointer (some ⟨ki,0,none⟩)] w Q :=
 (qem (R:=R) H.out b1 b2 b3 (by rw[if_neg ho];exact h.out)).mono fun e w' ⟨he,h⟩=>by subst he;exact k w' (J h)
def gm_loop {op a bl:Int} {j:Nat} (hB:Hid (MBlkC W c m nv sv fi mo ns sl f)) (H:Hid (MkS W c m nv sv fi mo ns sl L M w)) (h:Hid (loopM (blkM ns sl f) op a j bl M=some R)) (ho:op=13\/op=15) (k:∀ w',Hid (MkS W c m nv sv fi mo ns sl L R w')->Q (.returned (.tuple #[])) w') :
  Calls prog 138 #[.pointer (some ⟨m,0,none⟩),.int .i64 op,.int .i64 a,.int .i64 (j:Int),.int .i64 bl] w Q :=
 (mloop_of hB.out w op a bl j ho h.out H.out).mono fun e w' h=>by obtain⟨he,h⟩:=h;subst he;exact k w' (J h)
def MkS.look {N:List (Nat × Obj)} {k:Nat} {a0 a1 a2 a3 a4 a5 a6 a7:Value} {T:TypeId} (H:Hid (MkS W c m nv sv fi mo ns sl L M w)) (hs:∀ q,q∈N->q∈L) (hq:Hid ((k,Obj.cells #[a0,a1,a2,a3,a4,a5,a6,a7] T (0,0))∈N)) :
  m<w.heap.size/\w.cell? ⟨m,1,none⟩=some sv/\k<w.heap.size/\w.cell? ⟨k,0,none⟩=some a0/\w.cell? ⟨k,2,none⟩=some a2/\w.cell? ⟨k,3,none⟩=some a3/\w.cell? ⟨k,5,none⟩=some a5:=by
 have h:=H.out.locAt (hs _ hq.out);obtain⟨iv,vv,hm⟩:=H.out;have km:KB m _ _ w:=hm.mkr;exact⟨km.lt,km.cell 1 _ rfl,h.lt,h.cell 0 _ rfl,h.cell 2 _ rfl,h.cell 3 _ rfl,h.cell 5 _ rfl⟩
def MkS.slotG {g n k j:Nat} {q:Int} (H:Hid (MkS W c m nv (.slice (some ⟨g,0,none⟩) n k) fi mo ns sl L M w)) (hq:Hid (sl[j]?=some q)):g<w.heap.size/\w.cell? ⟨g,j,none⟩=some (.int .i64 q):=by
 obtain⟨g',n',k',e,_,_,h1,h2⟩:=H.out.slot hq.out;simp only[Value.slice.injEq,Option.some.injEq,Addr.mk.injEq] at e;obtain⟨⟨rfl,_,_⟩,rfl,rfl⟩:=e;exact⟨h1,h2⟩
def stm_cases {E B:Int->Mk->Option Mk} {j:Nat} {zk za zb zc zx zi:Int} {zs zt:ByteArray} (hR:stmM E B sl j ⟨zk,za,zb,zc,zx,zi,zs,zt⟩ M=some R) :
  (∃ M0 q,(zk=20\/zk=21)/\Hid (E za M=some M0)/\Hid (sl[j]?=some q)/\Hid (M0.add 2 q 0 j (-1)=some R)) \/
  (∃ M0 M1,zk=22/\Hid (E za M=some M0)/\Hid (E zb M0=some M1)/\Hid (M1.add 10 0 0 j (-2)=some R)) \/
  (∃ M0 op,(zk=23/\op=11\/zk=27/\op=16\/zk=28/\op=17)/\Hid (E za M=some M0)/\Hid (M0.add op 0 0 j (-1)=some R)) \/
  (∃ M0 M1 M2,zk=24/\Hid (E za M=some M0)/\Hid (M0.add 8 0 0 j (-1)=some M1)/\Hid (B zb M1=some M2) /\
   (zc<0/\Hid (M2.setA M0.ins.length=some R)\/0<=zc/\∃ M3 M4 M5,Hid (M2.add 9 0 0 j 0=some M3)/\Hid (M3.setA M0.ins.length=some M4)/\Hid (B zc M4=some M5)/\Hid (M5.setA M2.ins.length=some R))) \/
  (∃ M0 M1 q,zk=25/\Hid (E za M=some M0)/\Hid (M0.add 12 0 zi j (-1)=some M1)/\Hid (sl[j]?=some q)/\Hid (loopM B 13 q j zb M1=some R)) \/
  (∃ M1,zk=26/\Hid (M.add 14 zi 0 j 0=some M1)/\Hid (loopM B 15 0 j zb M1=some R)) \/
  (((zk !=26)=true/\(zk==26)=false/\(zk==20)=false/\(zk==21)=false/\(zk==22)=false/\(zk==23)=false/\(zk==24)=false/\(zk==25)=false/\(zk==27)=false/\(zk==28)=false)/\Hid (E za M=some R)):=by
 unfold stmM stmKM at hR;dsimp only at hR;by_cases h26:zk=26
 . subst h26;obtain⟨M0,h0,hR⟩:=qab hR;cases h0;simp only[Int.reduceEq,or_self,if_false,if_true] at hR;obtain⟨M1,h1,hR⟩:=qab hR;exact Or.inr (Or.inr (Or.inr (Or.inr (Or.inr (Or.inl ⟨M1,rfl,J h1,J hR⟩)))))
 rw[if_neg h26] at hR;obtain⟨M0,h0,hR⟩:=qab hR;have h0:=J h0
 repeat' split at hR
 . obtain⟨q,hq,hR⟩:=qab hR;exact Or.inl ⟨M0,q,zo,h0,J hq,J hR⟩
 . obtain⟨M1,h1,hR⟩:=qab hR;exact Or.inr (Or.inl ⟨M0,M1,zo,h0,J h1,J hR⟩)
 iterate 3 exact Or.inr (Or.inr (Or.inl ⟨M0,_,Y,h0,J hR⟩))
 . unfold ifM at hR;obtain⟨M1,h1,hR⟩:=qab hR;obtain⟨M2,h2,hR⟩:=qab hR;refine Or.inr (Or.inr (Or.inr (Or.inl ⟨M0,M1,M2,zo,h0,J h1,J h2,?_⟩)));dsimp only at hR
   split at hR
   . exact Or.inl ⟨zo,J hR⟩
   . obtain⟨M3,h3,hR⟩:=qab hR;obtain⟨M4,h4,hR⟩:=qab hR;obtain⟨M5,h5,hR⟩:=qab hR;exact Or.inr ⟨Y,M3,M4,M5,J h3,J h4,J h5,J hR⟩
 . obtain⟨M1,h1,hR⟩:=qab hR;obtain⟨q,hq,hR⟩:=qab hR;exact Or.inr (Or.inr (Or.inr (Or.inr (Or.inl ⟨M0,M1,q,zo,h0,J h1,J hq,J hR⟩))))
 . cases hR;exact Or.inr (Or.inr (Or.inr (Or.inr (Or.inr (Or.inr ⟨zg,h0⟩)))))
def mstm_all (hB:MBlkC W c m nv sv fi mo ns sl f):MStmC W c m nv sv fi mo ns sl f:=by
 intro L M R w j ⟨zk,za,zb,zc,zx,zi,zs,zt⟩ hz hR h;dsimp only;have HB:=J hB;obtain⟨N,hN⟩:∃ N,((w.heap.size,.cells #[.int .i64 zk,.int .i64 za,.int .i64 zb,.int .i64 zc,.int .i64 zx,.int .i64 zi,.string zs,.string zt] 166 (0,0))::L)=N:=⟨_,rfl⟩
 have HNM:=J (show(w.heap.size,Obj.cells #[.int .i64 zk,.int .i64 za,.int .i64 zb,.int .i64 zc,.int .i64 zx,.int .i64 zi,.string zs,.string zt] 166 (0,0))∈N by rw[<-hN];exact List.mem_cons_self);have H:=J (show MkS W c m nv sv fi mo ns sl N M (w.alloc (.cells #[.int .i64 zk,.int .i64 za,.int .i64 zb,.int .i64 zc,.int .i64 zx,.int .i64 zi,.string zs,.string zt] 166 (0,0))) from by rw[<-hN];exact h.locNew (.cells #[.int .i64 zk,.int .i64 za,.int .i64 zb,.int .i64 zc,.int .i64 zx,.int .i64 zi,.string zs,.string zt] 166 (0,0)));have HNO:=J (show ∀ q,q∈L->q∈N from fun q hq=>by rw[<-hN];exact List.mem_cons_of_mem _ hq);have HS:=J h;clear hN hB h;rcases stm_cases hR with ⟨M0,q,(rfl | rfl),h0,HQ,h1⟩ | ⟨M0,M1,rfl,h0,h1,h2⟩ | ⟨M0,op,(⟨rfl,rfl⟩ | ⟨rfl,rfl⟩ | ⟨rfl,rfl⟩),h0,h1⟩ | ⟨M0,M1,M2,rfl,h0,h1,h2,(⟨hc,h3⟩ | ⟨hc,M3,M4,M5,h3,h4,h5,h6⟩)⟩ | ⟨M0,M1,q,rfl,h0,h1,HQ,h2⟩ | ⟨M1,rfl,h1,h2⟩ | ⟨⟨c0,c1,c2,c3,c4,c5,c6,c7,c8,c9⟩,h0⟩
 all_goals
  clear hR hz
  try(have hq:=HS.out.slot HQ.out;obtain⟨g,n2,k2,rfl,_,hj2,hg,s0⟩:=hq;have hjn2:(j:Int)<(n2:Int):=Int.ofNat_lt.2 hj2;clear hj2)
  have hj0:0<=(j:Int):=Y;clear HS;go_enter func114,ntmps114
  go_wp2_with (first
   | ((with_reducible refine gm_expr H zo ?_);intro w H;obtain⟨lm,xm,lx,x0,x2,x3,x5⟩:=MkS.look H jo HNM;try(obtain⟨hg,s0⟩:=MkS.slotG H HQ))
   | ((with_reducible refine gm_add H zo ?_);intro w H;obtain⟨lm,xm,lx,x0,x2,x3,x5⟩:=MkS.look H jo HNM;try(obtain⟨hg,s0⟩:=MkS.slotG H HQ))
   | ((with_reducible refine gm_block HB H zo ?_);intro w H;obtain⟨lm,xm,lx,x0,x2,x3,x5⟩:=MkS.look H jo HNM;try(obtain⟨hg,s0⟩:=MkS.slotG H HQ))
   | ((with_reducible refine gm_later H zo ?_);intro km ko ki w H;obtain⟨lm,xm,lx,x0,x2,x3,x5⟩:=MkS.look H jo HNM;try(obtain⟨hg,s0⟩:=MkS.slotG H HQ))
   | ((with_reducible refine gm_done H zbj zbj zbj zo zw ?_);intro w H;obtain⟨lm,xm,lx,x0,x2,x3,x5⟩:=MkS.look H jo HNM;try(obtain⟨hg,s0⟩:=MkS.slotG H HQ))
   | ((with_reducible refine gm_loop HB H zo zw ?_);intro w H;obtain⟨lm,xm,lx,x0,x2,x3,x5⟩:=MkS.look H jo HNM;try(obtain⟨hg,s0⟩:=MkS.slotG H HQ)))
  try(go_still_tail 11,zv;have H:=J (H.out.of_ext ((Ext.refl _).drew));change wpList _ _ _ _ _ (World.drew _);generalize World.drew _=wd at *;go_wp2_with (first
   | ((with_reducible refine gm_expr H zo ?_);intro w H;obtain⟨lm,xm,lx,x0,x2,x3,x5⟩:=MkS.look H jo HNM;try(obtain⟨hg,s0⟩:=MkS.slotG H HQ))
   | ((with_reducible refine gm_add H zo ?_);intro w H;obtain⟨lm,xm,lx,x0,x2,x3,x5⟩:=MkS.look H jo HNM;try(obtain⟨hg,s0⟩:=MkS.slotG H HQ))
   | ((with_reducible refine gm_block HB H zo ?_);intro w H;obtain⟨lm,xm,lx,x0,x2,x3,x5⟩:=MkS.look H jo HNM;try(obtain⟨hg,s0⟩:=MkS.slotG H HQ))
   | ((with_reducible refine gm_later H zo ?_);intro km ko ki w H;obtain⟨lm,xm,lx,x0,x2,x3,x5⟩:=MkS.look H jo HNM;try(obtain⟨hg,s0⟩:=MkS.slotG H HQ))
   | ((with_reducible refine gm_done H zbj zbj zbj zo zw ?_);intro w H;obtain⟨lm,xm,lx,x0,x2,x3,x5⟩:=MkS.look H jo HNM;try(obtain⟨hg,s0⟩:=MkS.slotG H HQ))
   | ((with_reducible refine gm_loop HB H zo zw ?_);intro w H;obtain⟨lm,xm,lx,x0,x2,x3,x5⟩:=MkS.look H jo HNM;try(obtain⟨hg,s0⟩:=MkS.slotG H HQ))))
  refine jg ?_;exact⟨rfl,H.out.sub fun q hq=>by replace hq:=HNO.out q hq;repeat(first | exact hq | apply List.mem_cons_of_mem)⟩
end
def mblk_any {W:World} {c m:Nat} {nv sv:Value} {fi mo:Int} {ns:List Nd} {sl:List Int}:∀ f,MBlkC W c m nv sv fi mo ns sl f:=by
 intro f
 induction f using Nat.strongRecOn with
 | _ f ih=>exact mblk_of f fun g hg=>mstm_all (ih g hg)
end Go.Proofs.YtpnabjopfpdkhaaGreatDoor
