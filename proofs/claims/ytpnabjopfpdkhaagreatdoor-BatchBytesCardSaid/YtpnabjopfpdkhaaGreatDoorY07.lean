/- Lemmas. -/
import Derived.Test.YtpnabjopfpdkhaaGreatDoorY05
import Derived.Deep.Slices
import Derived.Deep.Fields
import Derived.Defers
set_option linter.all false
set_option maxHeartbeats 8000000
set_option maxRecDepth 20000
namespace Go.Proofs.YtpnabjopfpdkhaaGreatDoor
open Tryz RowKit
variable {N b base c k m n size:Nat} {W w:World} {xs:List Value} {nv:Value} {fi i t:Int} {ns:List Nd} {s:ByteArray}
attribute [go_sem] more_more Array.size_append
def KB.setAt {cs:Array Value} {T:TypeId} (h:KB k cs T w) (i:Nat) (v:Value) (hi:i<cs.size):KB k (cs.set i v) T (w.setCell ⟨k,i,none⟩ v):=by
 unfold KB at h ⊢;simp[World.setCell,Array.getElem?_modify,h,hi,Array.setIfInBounds]
def KB.setOther {k':Nat} {cs:Array Value} {T:TypeId} (h:KB k cs T w) (i:Nat) (v:Value) (hk:k≠k'):KB k cs T (w.setCell ⟨k',i,none⟩ v) :=
 (heap_set_other _ _ _ _ _ hk).trans h
def KB.frozen {cs:Array Value} {T:TypeId} (h:KB k cs T w) (j:Nat):w.frozen? ⟨k,j,none⟩=false:=by
 unfold KB at h;simp[World.frozen?,h]
def row_cap {e:TypeId} {p:Option Addr} (h:w.ownsRow base e size (.slice p n c) n xs):n<=c:=by
 rcases h.2 with ⟨h1,h2⟩ | ⟨g,cap,cur,hv,_,_,hc,_⟩
 . omega
 . simp only[Value.slice.injEq] at hv;rw[hv.2.2];exact hc
structure Sc where
 seen:List ByteArray
 most:Int
 slots:List Int
 made:List ByteArray
 free:List ByteArray
 e:Int
 a:Int
def Sc.wrong (S:Sc) (e a:Int):Sc:=if S.e=0 then { S with e:=e,a:=a } else S
def strV (l:List ByteArray):List Value:=l.map Value.string
def intL (l:List Int):List Value:=l.map fun x=>.int .i64 x
structure WkV (W:World) (b:Nat) (nv:Value) (fi:Int) (ns:List Nd) (L:List (Nat × Obj)) (S:Sc) (sv tv mv fv:Value) (w:World):Prop where
 ext:Ext W w
 cell:w.heap[b]?=some (.cells #[nv,.int .i64 fi,sv,.int .i64 S.most,tv,mv,fv,.int .i64 S.e,.int .i64 S.a] 200 (0,0))
 row:w.ownsRow 0 166 8 nv ns.length (qac ns)
 seen:w.ownsRow W.heap.size 9 1 sv S.seen.length (strV S.seen)
 slots:w.ownsRow W.heap.size 3 1 tv S.slots.length (intL S.slots)
 made:w.ownsRow W.heap.size 9 1 mv S.made.length (strV S.made)
 free:w.ownsRow W.heap.size 9 1 fv S.free.length (strV S.free)
 base:W.heap.size<=b/\(∀ g,nv.ownBlock=some g->g<W.heap.size)
 apart:∀ g,(sv.ownBlock=some g->g≠b/\tv.ownBlock≠some g/\mv.ownBlock≠some g/\fv.ownBlock≠some g) /\
  (tv.ownBlock=some g->g≠b/\mv.ownBlock≠some g/\fv.ownBlock≠some g)/\(mv.ownBlock=some g->g≠b/\fv.ownBlock≠some g)/\(fv.ownBlock=some g->g≠b)
 loc:∀ q,q∈L->w.heap[q.1]?=some q.2/\q.1≠b/\sv.ownBlock≠some q.1/\tv.ownBlock≠some q.1/\mv.ownBlock≠some q.1/\fv.ownBlock≠some q.1
def Wk (W:World) (b:Nat) (nv:Value) (fi:Int) (ns:List Nd) (L:List (Nat × Obj)) (S:Sc) (w:World):Prop:=∃ sv tv mv fv,WkV W b nv fi ns L S sv tv mv fv w
def WkV.of_ext {L:List (Nat × Obj)} {S:Sc} {w:World} {sv tv mv fv:Value} {w':World} (h:WkV W b nv fi ns L S sv tv mv fv w) (hx:Ext w w'):WkV W b nv fi ns L S sv tv mv fv w' :=
 ⟨h.ext.trans hx,(hx.below.block _ (Array.getElem?_eq_some_iff.1 h.cell).1).trans h.cell,own_ext h.row hx,own_ext h.seen hx,own_ext h.slots hx,own_ext h.made hx,own_ext h.free hx,h.base,h.apart,fun q hq=>⟨(hx.below.block _ (Array.getElem?_eq_some_iff.1 (h.loc q hq).1).1).trans (h.loc q hq).1,(h.loc q hq).2⟩⟩
def Wk.of_ext {L:List (Nat × Obj)} {S:Sc} {w:World} {w':World} (h:Wk W b nv fi ns L S w) (hx:Ext w w'):Wk W b nv fi ns L S w':=by
 obtain⟨sv,tv,mv,fv,h⟩:=h;exact⟨sv,tv,mv,fv,h.of_ext hx⟩
def WkV.setB {L:List (Nat × Obj)} {S:Sc} {w:World} {sv tv mv fv:Value} (h:WkV W b nv fi ns L S sv tv mv fv w) (i:Nat) (v:Value) (S':Sc) (hi:i<9)
  (hc:#[nv,.int .i64 fi,sv,.int .i64 S.most,tv,mv,fv,.int .i64 S.e,.int .i64 S.a].set i v hi=#[nv,.int .i64 fi,sv,.int .i64 S'.most,tv,mv,fv,.int .i64 S'.e,.int .i64 S'.a])
  (e1:S'.seen=S.seen) (e2:S'.slots=S.slots) (e3:S'.made=S.made) (e4:S'.free=S.free) :
  WkV W b nv fi ns L S' sv tv mv fv (w.setCell ⟨b,i,none⟩ v):=by
 have hk:∀ (x:Value) (k:Nat),(∀ g,x.ownBlock=some g->g≠b)->x.ownBlock=some k->(w.setCell ⟨b,i,none⟩ v).heap[k]?=w.heap[k]?:=fun x k hx hk=>heap_set_other _ _ _ _ _ (hx k hk)
 have hA:=h.apart;refine ⟨h.ext.setCell h.base.1 _,?_,own_block h.row fun k q _=>hk nv k (fun g q=>by have:=h.base.2 g q;have:=h.base.1;omega) q,?_,?_,?_,?_,h.base,h.apart,fun q hq=>⟨(heap_set_other _ _ _ _ _ (h.loc q hq).2.1).trans (h.loc q hq).1,(h.loc q hq).2⟩⟩
 . rw[<-hc];exact KB.setAt (show KB b _ _ w from h.cell) i v hi
 . rw[e1];exact own_block h.seen fun k q _=>hk sv k (fun g q=>((hA g).1 q).1) q
 . rw[e2];exact own_block h.slots fun k q _=>hk tv k (fun g q=>((hA g).2.1 q).1) q
 . rw[e3];exact own_block h.made fun k q _=>hk mv k (fun g q=>((hA g).2.2.1 q).1) q
 . rw[e4];exact own_block h.free fun k q _=>hk fv k (fun g q=>(hA g).2.2.2 q) q
def WkV.push_seen {L:List (Nat × Obj)} {S:Sc} {w:World} {sv tv mv fv v':Value} {w1:World} {s:ByteArray} (h:WkV W b nv fi ns L S sv tv mv fv w) (hr:w1.ownsRow W.heap.size 9 1 v' (S.seen.length+1) (strV S.seen++[.string s])) (hg:w.grownBy w1 sv.ownBlock) (hv:v'.ownBlock=sv.ownBlock\/v'.ownBlock=some w.heap.size) :
  WkV W b nv fi ns L { S with seen:=S.seen++[s] } v' tv mv fv (w1.setCell ⟨b,2,none⟩ v'):=by
 have hA:=h.apart;have lb:=(Array.getElem?_eq_some_iff.1 h.cell).1;have hold:∀ k,k<w.heap.size->sv.ownBlock≠some k->w1.heap[k]?=w.heap[k]?:=fun k hk hn=>hg.block k hk (Ne.symm hn)
 have L1:=fun g q=>(h.seen.lt g q).2
 have L2:=fun g q=>(h.slots.lt g q).2
 have L3:=fun g q=>(h.made.lt g q).2
 have L4:=fun g q=>(h.free.lt g q).2
 have hvn:∀ g,v'.ownBlock=some g->sv.ownBlock=some g\/g=w.heap.size:=fun g q=>by
  rcases hv with e | e
  . exact Or.inl (e ▸ q)
  . rw[e] at q;exact Or.inr (Option.some.inj q).symm
 have hx1:Ext W w1:=h.ext.grown hg fun k hk=>(h.seen.lt k hk).1
 have hnb:sv.ownBlock≠some b:=fun q=>by have:=hA b;simp_all
 have kb:KB b _ _ w1:=(hold b lb hnb).trans h.cell
 have keep:∀ (x:Value) (n:Nat) (xs:List Value) (e:TypeId) (sz bs:Nat),w.ownsRow bs e sz x n xs->(∀ g,x.ownBlock=some g->g≠b)->(∀ g,x.ownBlock=some g->sv.ownBlock≠some g)->(w1.setCell ⟨b,2,none⟩ v').ownsRow bs e sz x n xs:=fun x n xs e sz bs hx h1 h2 =>
  own_block hx fun k q hk=>(heap_set_other _ _ _ _ _ (h1 k q)).trans (hold k hk (h2 k q))
 refine ⟨hx1.setCell h.base.1 _,KB.setAt kb 2 v' zy,keep _ _ _ _ _ _ h.row (fun g q=>by have:=h.base.2 g q;have:=h.base.1;omega) (fun g q e=>by have:=h.base.2 g q;have:=(h.seen.lt g e).1;omega),?_,?_,?_,?_,h.base,?_,?_⟩
 . dsimp only;rw[List.length_append];unfold strV;rw[List.map_append];exact own_block hr fun k q _=>heap_set_other _ _ _ _ _ (fun e=>by rcases hvn k q with e1 | e1;exact hnb (e ▸ e1);omega)
 . exact keep _ _ _ _ _ _ h.slots (fun g q=>by have:=hA g;simp_all) (fun g q e=>by have:=hA g;simp_all)
 . exact keep _ _ _ _ _ _ h.made (fun g q=>by have:=hA g;simp_all) (fun g q e=>by have:=hA g;simp_all)
 . exact keep _ _ _ _ _ _ h.free (fun g q=>by have:=hA g;simp_all) (fun g q e=>by have:=hA g;simp_all)
 . intro g;have a:=hA g;have b1:=hA w.heap.size;have n1:sv.ownBlock≠some w.heap.size:=fun q=>absurd (L1 _ q) (Nat.lt_irrefl _)
   have n2:tv.ownBlock≠some w.heap.size:=fun q=>absurd (L2 _ q) (Nat.lt_irrefl _)
   have n3:mv.ownBlock≠some w.heap.size:=fun q=>absurd (L3 _ q) (Nat.lt_irrefl _)
   have n4:fv.ownBlock≠some w.heap.size:=fun q=>absurd (L4 _ q) (Nat.lt_irrefl _)
   have nb:w.heap.size≠b:=Y;rcases hv with e | e
   . rw[e];exact a
   . by_cases hgs:g=w.heap.size
     . subst hgs;simp_all
     . have q:v'.ownBlock≠some g:=(by rw[e];intro e2;exact hgs (Option.some.inj e2).symm)
       simp_all
 . intro q hq;have hl:=h.loc q hq;have hlt:=(Array.getElem?_eq_some_iff.1 hl.1).1;have e1:(w1.setCell ⟨b,2,none⟩ v').heap[q.1]?=some q.2:=(heap_set_other _ _ _ _ _ hl.2.1).trans ((hold q.1 hlt (by have:=hl.2;simp_all)).trans hl.1)
   have e2:v'.ownBlock≠some q.1:=by
    intro e;rcases hvn q.1 e with e3 | e3
    . have:=hl.2;simp_all
    . omega
   have:=hl.2;refine ⟨e1,this.1,?_⟩;simp_all
def WkV.push_made {L:List (Nat × Obj)} {S:Sc} {w:World} {sv tv mv fv v':Value} {w1:World} {s:ByteArray} (h:WkV W b nv fi ns L S sv tv mv fv w) (hr:w1.ownsRow W.heap.size 9 1 v' (S.made.length+1) (strV S.made++[.string s])) (hg:w.grownBy w1 mv.ownBlock) (hv:v'.ownBlock=mv.ownBlock\/v'.ownBlock=some w.heap.size) :
  WkV W b nv fi ns L { S with made:=S.made++[s] } sv tv v' fv (w1.setCell ⟨b,5,none⟩ v'):=by
 have hA:=h.apart;have lb:=(Array.getElem?_eq_some_iff.1 h.cell).1;have hold:∀ k,k<w.heap.size->mv.ownBlock≠some k->w1.heap[k]?=w.heap[k]?:=fun k hk hn=>hg.block k hk (Ne.symm hn)
 have L1:=fun g q=>(h.seen.lt g q).2
 have L2:=fun g q=>(h.slots.lt g q).2
 have L3:=fun g q=>(h.made.lt g q).2
 have L4:=fun g q=>(h.free.lt g q).2
 have hvn:∀ g,v'.ownBlock=some g->mv.ownBlock=some g\/g=w.heap.size:=fun g q=>by
  rcases hv with e | e
  . exact Or.inl (e ▸ q)
  . rw[e] at q;exact Or.inr (Option.some.inj q).symm
 have hx1:Ext W w1:=h.ext.grown hg fun k hk=>(h.made.lt k hk).1
 have hnb:mv.ownBlock≠some b:=fun q=>by have:=hA b;simp_all
 have kb:KB b _ _ w1:=(hold b lb hnb).trans h.cell
 have keep:∀ (x:Value) (n:Nat) (xs:List Value) (e:TypeId) (sz bs:Nat),w.ownsRow bs e sz x n xs->(∀ g,x.ownBlock=some g->g≠b)->(∀ g,x.ownBlock=some g->mv.ownBlock≠some g)->(w1.setCell ⟨b,5,none⟩ v').ownsRow bs e sz x n xs:=fun x n xs e sz bs hx h1 h2 =>
  own_block hx fun k q hk=>(heap_set_other _ _ _ _ _ (h1 k q)).trans (hold k hk (h2 k q))
 refine ⟨hx1.setCell h.base.1 _,KB.setAt kb 5 v' zy,keep _ _ _ _ _ _ h.row (fun g q=>by have:=h.base.2 g q;have:=h.base.1;omega) (fun g q e=>by have:=h.base.2 g q;have:=(h.made.lt g e).1;omega),?_,?_,?_,?_,h.base,?_,?_⟩
 . exact keep _ _ _ _ _ _ h.seen (fun g q=>by have:=hA g;simp_all) (fun g q e=>by have:=hA g;simp_all)
 . exact keep _ _ _ _ _ _ h.slots (fun g q=>by have:=hA g;simp_all) (fun g q e=>by have:=hA g;simp_all)
 . dsimp only;rw[List.length_append];unfold strV;rw[List.map_append];exact own_block hr fun k q _=>heap_set_other _ _ _ _ _ (fun e=>by rcases hvn k q with e1 | e1;exact hnb (e ▸ e1);omega)
 . exact keep _ _ _ _ _ _ h.free (fun g q=>by have:=hA g;simp_all) (fun g q e=>by have:=hA g;simp_all)
 . intro g;have a:=hA g;have b1:=hA w.heap.size;have n1:sv.ownBlock≠some w.heap.size:=fun q=>absurd (L1 _ q) (Nat.lt_irrefl _)
   have n2:tv.ownBlock≠some w.heap.size:=fun q=>absurd (L2 _ q) (Nat.lt_irrefl _)
   have n3:mv.ownBlock≠some w.heap.size:=fun q=>absurd (L3 _ q) (Nat.lt_irrefl _)
   have n4:fv.ownBlock≠some w.heap.size:=fun q=>absurd (L4 _ q) (Nat.lt_irrefl _)
   have nb:w.heap.size≠b:=Y;rcases hv with e | e
   . rw[e];exact a
   . by_cases hgs:g=w.heap.size
     . subst hgs;simp_all
     . have q:v'.ownBlock≠some g:=(by rw[e];intro e2;exact hgs (Option.some.inj e2).symm)
       simp_all
 . intro q hq;have hl:=h.loc q hq;have hlt:=(Array.getElem?_eq_some_iff.1 hl.1).1;have e1:(w1.setCell ⟨b,5,none⟩ v').heap[q.1]?=some q.2:=(heap_set_other _ _ _ _ _ hl.2.1).trans ((hold q.1 hlt (by have:=hl.2;simp_all)).trans hl.1)
   have e2:v'.ownBlock≠some q.1:=by
    intro e;rcases hvn q.1 e with e3 | e3
    . have:=hl.2;simp_all
    . omega
   have:=hl.2;refine ⟨e1,this.1,?_⟩;simp_all
def WkV.push_free {L:List (Nat × Obj)} {S:Sc} {w:World} {sv tv mv fv v':Value} {w1:World} {s:ByteArray} (h:WkV W b nv fi ns L S sv tv mv fv w) (hr:w1.ownsRow W.heap.size 9 1 v' (S.free.length+1) (strV S.free++[.string s])) (hg:w.grownBy w1 fv.ownBlock) (hv:v'.ownBlock=fv.ownBlock\/v'.ownBlock=some w.heap.size) :
  WkV W b nv fi ns L { S with free:=S.free++[s] } sv tv mv v' (w1.setCell ⟨b,6,none⟩ v'):=by
 have hA:=h.apart;have lb:=(Array.getElem?_eq_some_iff.1 h.cell).1;have hold:∀ k,k<w.heap.size->fv.ownBlock≠some k->w1.heap[k]?=w.heap[k]?:=fun k hk hn=>hg.block k hk (Ne.symm hn)
 have L1:=fun g q=>(h.seen.lt g q).2
 have L2:=fun g q=>(h.slots.lt g q).2
 have L3:=fun g q=>(h.made.lt g q).2
 have L4:=fun g q=>(h.free.lt g q).2
 have hvn:∀ g,v'.ownBlock=some g->fv.ownBlock=some g\/g=w.heap.size:=fun g q=>by
  rcases hv with e | e
  . exact Or.inl (e ▸ q)
  . rw[e] at q;exact Or.inr (Option.some.inj q).symm
 have hx1:Ext W w1:=h.ext.grown hg fun k hk=>(h.free.lt k hk).1
 have hnb:fv.ownBlock≠some b:=fun q=>by have:=hA b;simp_all
 have kb:KB b _ _ w1:=(hold b lb hnb).trans h.cell
 have keep:∀ (x:Value) (n:Nat) (xs:List Value) (e:TypeId) (sz bs:Nat),w.ownsRow bs e sz x n xs->(∀ g,x.ownBlock=some g->g≠b)->(∀ g,x.ownBlock=some g->fv.ownBlock≠some g)->(w1.setCell ⟨b,6,none⟩ v').ownsRow bs e sz x n xs:=fun x n xs e sz bs hx h1 h2 =>
  own_block hx fun k q hk=>(heap_set_other _ _ _ _ _ (h1 k q)).trans (hold k hk (h2 k q))
 refine ⟨hx1.setCell h.base.1 _,KB.setAt kb 6 v' zy,keep _ _ _ _ _ _ h.row (fun g q=>by have:=h.base.2 g q;have:=h.base.1;omega) (fun g q e=>by have:=h.base.2 g q;have:=(h.free.lt g e).1;omega),?_,?_,?_,?_,h.base,?_,?_⟩
 . exact keep _ _ _ _ _ _ h.seen (fun g q=>by have:=hA g;simp_all) (fun g q e=>by have:=hA g;simp_all)
 . exact keep _ _ _ _ _ _ h.slots (fun g q=>by have:=hA g;simp_all) (fun g q e=>by have:=hA g;simp_all)
 . exact keep _ _ _ _ _ _ h.made (fun g q=>by have:=hA g;simp_all) (fun g q e=>by have:=hA g;simp_all)
 . dsimp only;rw[List.length_append];unfold strV;rw[List.map_append];exact own_block hr fun k q _=>heap_set_other _ _ _ _ _ (fun e=>by rcases hvn k q with e1 | e1;exact hnb (e ▸ e1);omega)
 . intro g;have a:=hA g;have b1:=hA w.heap.size;have n1:sv.ownBlock≠some w.heap.size:=fun q=>absurd (L1 _ q) (Nat.lt_irrefl _)
   have n2:tv.ownBlock≠some w.heap.size:=fun q=>absurd (L2 _ q) (Nat.lt_irrefl _)
   have n3:mv.ownBlock≠some w.heap.size:=fun q=>absurd (L3 _ q) (Nat.lt_irrefl _)
   have n4:fv.ownBlock≠some w.heap.size:=fun q=>absurd (L4 _ q) (Nat.lt_irrefl _)
   have nb:w.heap.size≠b:=Y;rcases hv with e | e
   . rw[e];exact a
   . by_cases hgs:g=w.heap.size
     . subst hgs;simp_all
     . have q:v'.ownBlock≠some g:=(by rw[e];intro e2;exact hgs (Option.some.inj e2).symm)
       simp_all
 . intro q hq;have hl:=h.loc q hq;have hlt:=(Array.getElem?_eq_some_iff.1 hl.1).1;have e1:(w1.setCell ⟨b,6,none⟩ v').heap[q.1]?=some q.2:=(heap_set_other _ _ _ _ _ hl.2.1).trans ((hold q.1 hlt (by have:=hl.2;simp_all)).trans hl.1)
   have e2:v'.ownBlock≠some q.1:=by
    intro e;rcases hvn q.1 e with e3 | e3
    . have:=hl.2;simp_all
    . omega
   have:=hl.2;refine ⟨e1,this.1,?_⟩;simp_all
def qeW {L:List (Nat × Obj)} {S:Sc} {w:World} {sv tv mv fv:Value} (h:WkV W b nv fi ns L S sv tv mv fv w) (e a:Int) :
  Calls prog 203 #[.pointer (some ⟨b,0,none⟩),.int .i64 e,.int .i64 a] w fun r w'=>r=.returned (.tuple #[])/\WkV W b nv fi ns L (S.wrong e a) sv tv mv fv w':=by
 have H:=J h;have KX:=J (show KB b _ _ w from h.cell);have x7:=KX.out.cell 7 _ rfl;have x8:=KX.out.cell 8 _ rfl;have f7:=KX.out.frozen 7;have f8:=KX.out.frozen 8;have lb:=KX.out.lt;dsimp only[List.getElem_toArray,List.getElem_cons_zero,List.getElem_cons_succ] at x7 x8;obtain⟨seen,most,slots,made,free,se,sa⟩:=S;dsimp only at x7 x8 H;unfold Sc.wrong;dsimp only;clear h;by_cases h0:se=0
 . subst h0;rw[if_pos rfl];go_enter func203,ntmps203;go_wp2_with fail;go_end0;exact⟨rfl,(H.out.setB 7 (.int .i64 e) ⟨seen,most,slots,made,free,e,sa⟩ Y rfl rfl rfl rfl rfl).setB 8 (.int .i64 a) ⟨seen,most,slots,made,free,e,a⟩ Y rfl rfl rfl rfl rfl⟩
 . rw[if_neg h0];have q:(se==0)=false:=by simpa using h0
   clear h0;go_enter func203,ntmps203;go_wp2_with fail;go_end0;exact⟨rfl,H.out⟩
def qhc (l:List ByteArray) (j:Nat) (h:j<l.length):(strV l)[j]?=some (.string (l.getD j ByteArray.empty)):=by
 unfold strV;rw[List.getElem?_map,List.getElem?_eq_getElem h,List.getD_eq_getElem?_getD,List.getElem?_eq_getElem h];rfl
def qcy {v:Value} {l:List ByteArray} (h:w.ownsRow base 9 1 v l.length (strV l)) (s:ByteArray) (hl:l.length<=100000) :
  Calls prog 202 #[v,.string s] w fun e w'=>e=.returned (.bool (Lib.containsS l s))/\w'=w:=by
 rcases Go.Joins.ownsRow_forms h with ⟨rfl,h0⟩ | ⟨g,c,rfl⟩
 . have hl0:l=[]:=List.length_eq_zero_iff.1 h0;subst hl0;refine (Tryz.slices_Contains_string_empty none 0 s w).mono ?_;rintro e w' ⟨rfl,rfl⟩;exact⟨rfl,rfl⟩
 . refine (Tryz.slices_Contains_string g 0 l.length c l s w (Nat.le_refl _) Y (fun j hj=>by have:=h.cells (g:=g) rfl j _ (qhc l j hj);rwa [Addr.add_lit] at this)).mono ?_;rintro e w' ⟨rfl,rfl⟩;exact⟨by rw[List.take_length],rfl⟩
def qaz (s:ByteArray) (l:List ByteArray):Nat->Int
 | 0=>-1
 | j+1=>if ((l.getD j ByteArray.empty).toList==s.toList)=true then(j:Int) else qaz s l j
def Sc.use (S:Sc) (s:ByteArray) (i:Nat):Sc :=
 let k:=qaz s S.seen S.seen.length
 if k<0 then
  let T:=S.wrong 15 i
  if Lib.containsS T.free s=true then { T with slots:=T.slots.set i k } else { T with free:=T.free++[s],slots:=T.slots.set i k }
 else { S with slots:=S.slots.set i k }
def qbq {e:TypeId} {g cap:Nat} (h:w.ownsRow base e size (.slice (some ⟨g,0,none⟩) n cap) n xs) {i:Nat} (hi:i<n*size) (u:Value) :
  (w.setCell ⟨g,i,none⟩ u).ownsRow base e size (.slice (some ⟨g,0,none⟩) n cap) n (xs.set i u):=by
 obtain⟨h1,h2⟩:=h;refine ⟨by simpa using h1,?_⟩;rcases h2 with ⟨h2,_⟩ | ⟨g',cap',cur,h2,hb,hg,hn,hm,hc,ht⟩
 . simp at h2
 . simp only[Value.slice.injEq,Option.some.injEq,Addr.mk.injEq,true_and,and_true] at h2;obtain⟨rfl,rfl⟩:=h2;refine Or.inr ⟨g,cap,cur.setIfInBounds i u,rfl,hb,?_,hn,hm,by simpa using hc,?_⟩
   . simp[World.setCell,Array.getElem?_modify,hg]
   . rw[Array.toList_setIfInBounds,List.take_set,ht]
def WkV.setSlot {L:List (Nat × Obj)} {S:Sc} {w:World} {sv mv fv:Value} {g c n2:Nat} (h:WkV W b nv fi ns L S sv (.slice (some ⟨g,0,none⟩) n2 c) mv fv w) (i:Nat) (k:Int) (hi:i<S.slots.length) (hn:S.slots.length=n2) :
  WkV W b nv fi ns L { S with slots:=S.slots.set i k } sv (.slice (some ⟨g,0,none⟩) n2 c) mv fv (w.setCell ⟨g,i,none⟩ (.int .i64 k)):=by
 subst hn;have hA:=h.apart;have hgb:g≠b:=((hA g).2.1 rfl).1;have hg0:=(h.slots.lt g rfl).1;have hk:∀ (x:Value) (q:Nat),x.ownBlock≠some g->x.ownBlock=some q->(w.setCell ⟨g,i,none⟩ (.int .i64 k)).heap[q]?=w.heap[q]?:=fun x q hx hq=>heap_set_other _ _ _ _ _ (fun e=>hx (by rw[<-e];exact hq))
 refine ⟨h.ext.setCell hg0 _,by rw[heap_set_other _ _ _ _ _ (Ne.symm hgb)];exact h.cell,own_block h.row fun q hq _=>hk nv q (fun e=>by have:=h.base.2 g e;omega) hq,own_block h.seen fun q hq _=>hk sv q (fun e=>((hA g).1 e).2.1 rfl) hq,?_,own_block h.made fun q hq _=>hk mv q (fun e=>((hA g).2.1 rfl).2.1 e) hq,own_block h.free fun q hq _=>hk fv q (fun e=>((hA g).2.1 rfl).2.2 e) hq,h.base,h.apart,fun q hq=>⟨(heap_set_other _ _ _ _ _ (fun e=>(h.loc q hq).2.2.2.1 (by rw[e];rfl))).trans (h.loc q hq).1,(h.loc q hq).2⟩⟩;have e1:intL (S.slots.set i k)=(intL S.slots).set i (.int .i64 k):=by unfold intL;rw[List.map_set]
 dsimp only;rw[List.length_set,e1];exact qbq h.slots (by rw[Nat.mul_one];exact hi) _
def qen (l:List Int) (j:Nat) (h:j<l.length):(intL l)[j]?=some (.int .i64 (l.getD j 0)):=by
 unfold intL;rw[List.getElem?_map,List.getElem?_eq_getElem h,List.getD_eq_getElem?_getD,List.getElem?_eq_getElem h];rfl
def qfZ {g:Nat} {e:TypeId} (h:w.ownsRow base e size (.slice (some ⟨g,0,none⟩) m c) n xs) (j:Nat):w.frozen? ⟨g,j,none⟩=false:=by
 rcases h.2 with ⟨h1,_⟩ | ⟨g',cap,cur,hv,_,hg,_⟩
 . cases h1
 . simp only[Value.slice.injEq,Option.some.injEq,Addr.mk.injEq,and_true,true_and] at hv;rw[<-hv.1] at hg;simp[World.frozen?,hg]
def qeO:(prog.info? 9).map (fun i=>(i.zero,i.size,i.bytes))=some (some (.string ⟨#[]⟩),1,16):=by kernel_rfl
def use_any {L:List (Nat × Obj)} {S:Sc} {w:World} {sv tv mv fv:Value} (h:WkV W b nv fi ns L S sv tv mv fv w) (s:ByteArray) (i:Nat) (hi:i<S.slots.length) (hs:S.seen.length<=2000) (hf:S.free.length<=2000) :
  Calls prog 205 #[.pointer (some ⟨b,0,none⟩),.string s,.int .i64 (i:Int)] w fun r w'=>r=.returned (.tuple #[])/\Wk W b nv fi ns L (S.use s i) w':=by
 have H:=J h;have KX:=J (show KB b _ _ w from h.cell);have x2:=KX.out.cell 2 _ rfl;have lb:=KX.out.lt;dsimp only[List.getElem_toArray,List.getElem_cons_zero,List.getElem_cons_succ] at x2;obtain⟨n,hn⟩:∃ n,S.seen.length=n:=⟨_,rfl⟩
 have HN:=J hn;obtain⟨p,c,hv⟩:=qad h.seen;rw[hn] at hv hs;subst hv;have hni:(n:Int)<=2000:=Y;have HI:=J hi;have HFR:=J hf;obtain⟨n2,hn2⟩:∃ n2,S.slots.length=n2:=⟨_,rfl⟩
 obtain⟨g2,c2,_,htv⟩:∃ g2 c2,(g2<w.heap.size)/\tv=.slice (some ⟨g2,0,none⟩) n2 c2:=by
  obtain⟨g1,cap1,e1,_,e3⟩:=h.slots.form Y;exact⟨g1,cap1,e3,by rw[e1,hn2]⟩
 subst htv;have HN2:=J hn2;have hi2:(i:Int)<(n2:Int):=Y;have hi0:0<=(i:Int):=Y;clear h hn hi hf hn2;go_enter func205,ntmps205;go_wp2_with fail;go_loopw [6,14] (fun y6 y14 wr=>∃ k:Nat,y14=.int .i64 (k:Int)/\k<=n/\y6=.int .i64 (qaz s S.seen k)/\wr=w) (fun _ y14 _=>n-(intOf y14).toNat)
 case atStart=>exact⟨0,rfl,Nat.zero_le _,rfl,rfl⟩
 case round =>
  obtain⟨k,rfl,hk,rfl,rfl⟩:=hrel;have hk0:0<=(k:Int):=Y;by_cases hlt:k<n
  . have hp:∃ g,p=some ⟨g,0,none⟩:=by
      rcases Go.Joins.ownsRow_forms H.out.seen with ⟨_,h0⟩ | ⟨g1,c1,h0⟩
      . have:=HN.out;omega
      . simp at h0;exact⟨g1,h0.1⟩
    obtain⟨g,rfl⟩:=hp;have hki:(k:Int)<(n:Int):=Y;have hc:=H.out.seen.cells (g:=g) rfl k _ (qhc S.seen k (by rw[HN.out];exact hlt));rw[Addr.add_lit,Nat.zero_add] at hc;obtain⟨t,ht⟩:∃ t,S.seen.getD k ByteArray.empty=t:=⟨_,rfl⟩
    rw[ht] at hc;have HT:=J (show qaz s S.seen (k+1)=if (t.toList==s.toList)=true then(k:Int) else qaz s S.seen k from by rw[qaz,ht]);have HLT:=J hlt;have hg:=(H.out.seen.lt g rfl).2;clear ht hlt;obtain⟨q,hq⟩:∃ q,qaz s S.seen k=q:=⟨_,rfl⟩
    rw[hq] at HT ⊢;clear hq;cases hb:(t.toList==s.toList)
    . have HT2:=J (HT.out.trans (if_neg jd));clear HT;go_wp2_with fail;go_roundw
      case rel=>exact⟨k+1,by go_num,by have:=HLT.out;omega,by rw[HT2.out],by first | rfl | trivial⟩
      case measure=>have:=HLT.out;simp[intOf];omega
    . have HT2:=J (HT.out.trans (if_pos hb));clear HT;go_wp2_with fail;go_roundw
      case rel=>exact⟨k+1,by go_num,by have:=HLT.out;omega,by rw[HT2.out],by first | rfl | trivial⟩
      case measure=>have:=HLT.out;simp[intOf];omega
  . have hke:k=n:=Y;subst hke;have hl:S.use s i=(if qaz s S.seen k<0 then(if Lib.containsS (S.wrong 15 i).free s=true then { S.wrong 15 i with slots:=(S.wrong 15 i).slots.set i (qaz s S.seen k) } else { S.wrong 15 i with free:=(S.wrong 15 i).free++[s],slots:=(S.wrong 15 i).slots.set i (qaz s S.seen k) }) else { S with slots:=S.slots.set i (qaz s S.seen k) }):=(by unfold Sc.use;rw[HN.out])
    have HU:=J hl;clear hl hlt;obtain⟨q,hq⟩:∃ q,qaz s S.seen k=q:=⟨_,rfl⟩
    rw[hq] at HU ⊢;clear hq;obtain⟨i0,hi,hz0,hz1,hz2⟩:=info_parts qeO;by_cases hq0:q<0
    . have HU2:=J (HU.out.trans (if_pos hq0));have hT1:(S.wrong 15 i).free=S.free:=(by unfold Sc.wrong;split<;>rfl)
      have hT2:(S.wrong 15 i).slots=S.slots:=(by unfold Sc.wrong;split<;>rfl)
      have WR:=J (qeW H.out 15 i);obtain⟨T,hT⟩:∃ T,S.wrong 15 i=T:=⟨_,rfl⟩
      rw[hT] at HU2 WR hT1 hT2;have hTf:T.free.length<=2000:=(by rw[hT1];exact HFR.out)
      have hTs:i<T.slots.length:=(by rw[hT2];exact HI.out)
      have HTF:=J hTf;have HTS:=J hTs;have HTN:=J (show T.slots.length=n2 from by rw[hT2];exact HN2.out);clear hT hT1 hT2 HU hTf hTs;cases hQ:Lib.containsS T.free s
      . have HU3:=J (HU2.out.trans (if_neg (by rw[hQ];simp)));have HQ:=J hQ;clear HU2 hQ
        go_wp2_with (first
         | ((with_reducible refine WR.out.mono ?_);rintro e' w2 ⟨rfl,h2⟩;have H2:=J h2;clear h2;have KX2:=J (show KB b _ _ w2 from H2.out.cell);have x6:=KX2.out.cell 6 fv rfl;have x4:=KX2.out.cell 4 (.slice (some ⟨g2,0,none⟩) n2 c2) rfl;have lb2:=KX2.out.lt;have lg2:=(H2.out.slots.lt g2 rfl).2;have hfb:fv.ownBlock≠some b:=fun q=>((H2.out.apart b).2.2.2 q) rfl;have CF:=J (qcy H2.out.free s (Nat.le_trans HTF.out Y)))
         | ((with_reducible refine CF.out.mono ?_);rintro e' _ ⟨rfl,rfl⟩;rw[HQ.out])
         | (at_builtin;refine wpList_append_own_at _ rfl _ _ 23 rfl W.heap.size 9 i0 (.string ⟨#[]⟩) 1 16 underlying23 hi hz0 hz1 hz2 rfl zw fv T.free.length (strV T.free) rfl (H2.out.free.alloc _) ⟨_,0,none⟩ 1 1 [.string s] rfl rfl (qaq zy) ji (by unfold maxLen;have:=HTF.out;omega) (by have:=HTF.out;omega) (by simp;have:=H2.out.ext.size;omega) ?_))
        intro v' w1 hown' hgrow _ hblk;obtain⟨g3,cap3,rfl,_,_⟩:=hown'.form Y;have HP:=J (WkV.push_free (s:=s) (H2.out.of_ext ((Ext.refl _).alloc _)) hown' hgrow zco);have KX3:=J (show KB b _ _ w1 from(hgrow.block b (by rw[World.size_alloc];omega) (Ne.symm hfb)).trans (KX2.out.alloc _));have z6:=KX3.out.cell 6 fv rfl;have z6f:=KX3.out.frozen 6;have lb3:=KX3.out.lt;have KX4:=J (show KB b _ _ (w1.setCell ⟨b,6,none⟩ _) from HP.out.cell);have z4:=KX4.out.cell 4 (.slice (some ⟨g2,0,none⟩) n2 c2) rfl;clear hown' hgrow hblk;have y0:=HP.out.slots.cells (g:=g2) rfl i _ (qen T.slots i HTS.out);rw[Addr.add_lit,Nat.zero_add] at y0;have y1:=qfZ HP.out.slots i;have y2:=(HP.out.slots.lt g2 rfl).2;go_wp2_with fail;go_end0;exact⟨rfl,_,_,_,_,by rw[HU3.out];exact HP.out.setSlot i q HTS.out HTN.out⟩
      . have HU3:=J (HU2.out.trans (if_pos hQ));have HQ:=J hQ;clear HU2 hQ
        go_wp2_with (first
         | ((with_reducible refine WR.out.mono ?_);rintro e' w2 ⟨rfl,h2⟩;have H2:=J h2;clear h2;have KX2:=J (show KB b _ _ w2 from H2.out.cell);have x6:=KX2.out.cell 6 fv rfl;have x4:=KX2.out.cell 4 (.slice (some ⟨g2,0,none⟩) n2 c2) rfl;have lb2:=KX2.out.lt;have lg2:=(H2.out.slots.lt g2 rfl).2;have hfb:fv.ownBlock≠some b:=fun q=>((H2.out.apart b).2.2.2 q) rfl;have CF:=J (qcy H2.out.free s (Nat.le_trans HTF.out Y));have y0:=H2.out.slots.cells (g:=g2) rfl i _ (qen T.slots i HTS.out);rw[Addr.add_lit,Nat.zero_add] at y0;have y1:=qfZ H2.out.slots i;have y2:=(H2.out.slots.lt g2 rfl).2)
         | ((with_reducible refine CF.out.mono ?_);rintro e' _ ⟨rfl,rfl⟩;rw[HQ.out]))
        go_end0;exact⟨rfl,_,_,_,_,by rw[HU3.out];exact H2.out.setSlot i q HTS.out HTN.out⟩
    . have HU2:=J (HU.out.trans (if_neg hq0));have hq1:0<=q:=Y;have KX2:=J (show KB b _ _ wr from H.out.cell);have x4:=KX2.out.cell 4 (.slice (some ⟨g2,0,none⟩) n2 c2) rfl;have y0:=H.out.slots.cells (g:=g2) rfl i _ (qen S.slots i HI.out);rw[Addr.add_lit,Nat.zero_add] at y0;have y1:=qfZ H.out.slots i;have y2:=(H.out.slots.lt g2 rfl).2;clear hq0;go_wp2_with fail;go_end0;exact⟨rfl,_,_,_,_,by rw[HU2.out];exact H.out.setSlot i q HI.out HN2.out⟩
def Sc.wrongSee (S:Sc) (s:ByteArray) (i:Int):Sc:=if Lib.containsS S.seen s=true then S.wrong 16 i else if 32<=S.seen.length then S.wrong 5 i else S
def Sc.see (S:Sc) (s:ByteArray) (i:Int):Sc :=
 let T:=S.wrongSee s i
 { T with made:=T.made++[s],seen:=T.seen++[s],most:=max T.most ((T.seen.length:Int)+1) }
def see_any {L:List (Nat × Obj)} {S:Sc} {w:World} {sv tv mv fv:Value} (h:WkV W b nv fi ns L S sv tv mv fv w) (s:ByteArray) (i:Int) (hs:S.seen.length<=2000) (hf:S.made.length<=2000) :
  Calls prog 174 #[.pointer (some ⟨b,0,none⟩),.string s,.int .i64 i] w fun r w'=>r=.returned (.tuple #[])/\Wk W b nv fi ns L (S.see s i) w':=by
 have H:=J h;have KX:=J (show KB b _ _ w from h.cell);have x2:=KX.out.cell 2 sv rfl;have lb:=KX.out.lt;obtain⟨i0,hi,hz0,hz1,hz2⟩:=info_parts qeO;have CF:=J (qcy h.seen s Y);obtain⟨sl,hsl⟩:∃ sl,S.seen.length=sl:=⟨_,rfl⟩
 obtain⟨p,c,hv⟩:=qad h.seen;rw[hsl] at hv;subst hv;cases hQ:Lib.containsS S.seen s
 . by_cases h32:32<=S.seen.length
   . have hW:S.wrongSee s i=S.wrong 5 i:=(by unfold Sc.wrongSee;rw[if_neg (by rw[hQ];simp),if_pos h32])
     have WR:=J (qeW h 5 i);have hT1:(S.wrong 5 i).seen=S.seen:=(by unfold Sc.wrong;split<;>rfl)
     have hT2:(S.wrong 5 i).made=S.made:=(by unfold Sc.wrong;split<;>rfl)
     have HU:Hid (S.see s i=_):=J (by unfold Sc.see;rw[hW]);obtain⟨T,hT⟩:∃ T,S.wrong 5 i=T:=⟨_,rfl⟩
     rw[hT] at WR hT1 hT2 HU;have HTL:=J (show T.seen.length<=2000/\T.made.length<=2000 from⟨by rw[hT1];exact hs,by rw[hT2];exact hf⟩);have HQ:=J hQ;have h3i:(32:Int)<=(sl:Int):=Y;clear hW hT hT1 hT2 hQ h hs hf hsl h32;go_enter func174,ntmps174
     go_wp2_with (first
      | ((with_reducible refine CF.out.mono ?_);rintro e' _ ⟨rfl,rfl⟩;rw[HQ.out])
      | ((with_reducible refine WR.out.mono ?_);rintro e' w2 ⟨rfl,h2⟩;have H2:=J h2;clear h2;have KX2:=J (show KB b _ _ w2 from H2.out.cell);have y5:=KX2.out.cell 5 mv rfl;have lb2:=KX2.out.lt)
      | (at_builtin;refine wpList_append_own_at _ rfl _ _ 23 rfl W.heap.size 9 i0 (.string ⟨#[]⟩) 1 16 underlying23 hi hz0 hz1 hz2 rfl zw mv T.made.length (strV T.made) rfl (H2.out.made.alloc _) ⟨_,0,none⟩ 1 1 [.string s] rfl rfl (qaq zy) ji zcb zct (by simp;have:=H2.out.ext.size;omega) ?_))
     intro v1 w3 hown' hgrow _ hblk;obtain⟨g3,cap3,rfl,_,_⟩:=hown'.form Y;have HP:=J (WkV.push_made (s:=s) (H2.out.of_ext ((Ext.refl _).alloc _)) hown' hgrow zco);have hmb:mv.ownBlock≠some b:=fun q=>((H2.out.apart b).2.2.1 q).1 rfl
     have KX3:=J (show KB b _ _ w3 from(hgrow.block b (by rw[World.size_alloc];have:=(show KB b _ _ _ from H2.out.cell).lt;omega) (Ne.symm hmb)).trans ((show KB b _ _ _ from H2.out.cell).alloc _));have z5:=KX3.out.cell 5 mv rfl;have z5f:=KX3.out.frozen 5;have lb3:=KX3.out.lt;have KX4:=J (show KB b _ _ (w3.setCell ⟨b,5,none⟩ _) from HP.out.cell);have z2:=KX4.out.cell 2 (.slice p sl c) rfl;clear hown' hgrow hblk
     go_wp2_with (at_builtin;refine wpList_append_own_at _ rfl _ _ 23 rfl W.heap.size 9 i0 (.string ⟨#[]⟩) 1 16 underlying23 hi hz0 hz1 hz2 rfl zw (.slice p sl c) T.seen.length (strV T.seen) rfl (HP.out.seen.alloc _) ⟨_,0,none⟩ 1 1 [.string s] rfl rfl (qaq zy) ji zcb zct (by simp;have:=HP.out.ext.size;omega) ?_)
     intro v2 w4 hown' hgrow _ hblk;obtain⟨g4,cap4,rfl,_,_⟩:=hown'.form Y;have HP2:=J (WkV.push_seen (s:=s) (HP.out.of_ext ((Ext.refl _).alloc _)) hown' hgrow (by simpa using hblk));have hsb:(Value.slice p sl c).ownBlock≠some b:=fun q=>((HP.out.apart b).1 q).1 rfl
     have KX5:=J (show KB b _ _ w4 from(hgrow.block b (by rw[World.size_alloc];have:=KX4.out.lt;omega) (Ne.symm hsb)).trans (KX4.out.alloc _));have t2:=KX5.out.cell 2 (.slice p sl c) rfl;have t2f:=KX5.out.frozen 2;have lb4:=KX5.out.lt;have KX6:=J (show KB b _ _ (w4.setCell ⟨b,2,none⟩ _) from HP2.out.cell);have t22:=KX6.out.cell 2 (.slice (some ⟨g4,0,none⟩) (T.seen.length+1) cap4) rfl;have t23:=KX6.out.cell 3 (.int .i64 T.most) rfl;have t23f:=KX6.out.frozen 3;have lb6:=KX6.out.lt;clear hown' hgrow hblk;go_wp2_with fail
     go_region
     go_wp2_with fail;go_end0
     exact⟨rfl,_,_,_,_,by rw[HU.out];exact(HP2.out.setB 3 (.int .i64 (max T.most ((T.seen.length:Int)+1))) { T with made:=T.made++[s],seen:=T.seen++[s],most:=max T.most ((T.seen.length:Int)+1) } Y rfl rfl rfl rfl rfl).of_ext ((Ext.refl _).drew)⟩
   . have hW:S.wrongSee s i=S:=(by unfold Sc.wrongSee;rw[if_neg (by rw[hQ];simp),if_neg h32])
     have HU:Hid (S.see s i=_):=J (by unfold Sc.see;rw[hW]);have HTL:=J (show S.seen.length<=2000/\S.made.length<=2000 from⟨by exact hs,by exact hf⟩);have HQ:=J hQ;have h3i:(sl:Int)<32:=Y;have y5:=KX.out.cell 5 mv rfl;clear hW hQ h hs hf hsl h32;go_enter func174,ntmps174
     go_wp2_with (first
      | ((with_reducible refine CF.out.mono ?_);rintro e' _ ⟨rfl,rfl⟩;rw[HQ.out])
      | (at_builtin;refine wpList_append_own_at _ rfl _ _ 23 rfl W.heap.size 9 i0 (.string ⟨#[]⟩) 1 16 underlying23 hi hz0 hz1 hz2 rfl zw mv S.made.length (strV S.made) rfl (H.out.made.alloc _) ⟨_,0,none⟩ 1 1 [.string s] rfl rfl (qaq zy) ji zcb zct (by simp;have:=H.out.ext.size;omega) ?_))
     intro v1 w3 hown' hgrow _ hblk;obtain⟨g3,cap3,rfl,_,_⟩:=hown'.form Y;have HP:=J (WkV.push_made (s:=s) (H.out.of_ext ((Ext.refl _).alloc _)) hown' hgrow zco);have hmb:mv.ownBlock≠some b:=fun q=>((H.out.apart b).2.2.1 q).1 rfl
     have KX3:=J (show KB b _ _ w3 from(hgrow.block b (by rw[World.size_alloc];have:=(show KB b _ _ _ from H.out.cell).lt;omega) (Ne.symm hmb)).trans ((show KB b _ _ _ from H.out.cell).alloc _));have z5:=KX3.out.cell 5 mv rfl;have z5f:=KX3.out.frozen 5;have lb3:=KX3.out.lt;have KX4:=J (show KB b _ _ (w3.setCell ⟨b,5,none⟩ _) from HP.out.cell);have z2:=KX4.out.cell 2 (.slice p sl c) rfl;clear hown' hgrow hblk
     go_wp2_with (at_builtin;refine wpList_append_own_at _ rfl _ _ 23 rfl W.heap.size 9 i0 (.string ⟨#[]⟩) 1 16 underlying23 hi hz0 hz1 hz2 rfl zw (.slice p sl c) S.seen.length (strV S.seen) rfl (HP.out.seen.alloc _) ⟨_,0,none⟩ 1 1 [.string s] rfl rfl (qaq zy) ji zcb zct (by simp;have:=HP.out.ext.size;omega) ?_)
     intro v2 w4 hown' hgrow _ hblk;obtain⟨g4,cap4,rfl,_,_⟩:=hown'.form Y;have HP2:=J (WkV.push_seen (s:=s) (HP.out.of_ext ((Ext.refl _).alloc _)) hown' hgrow (by simpa using hblk));have hsb:(Value.slice p sl c).ownBlock≠some b:=fun q=>((HP.out.apart b).1 q).1 rfl
     have KX5:=J (show KB b _ _ w4 from(hgrow.block b (by rw[World.size_alloc];have:=KX4.out.lt;omega) (Ne.symm hsb)).trans (KX4.out.alloc _));have t2:=KX5.out.cell 2 (.slice p sl c) rfl;have t2f:=KX5.out.frozen 2;have lb4:=KX5.out.lt;have KX6:=J (show KB b _ _ (w4.setCell ⟨b,2,none⟩ _) from HP2.out.cell);have t22:=KX6.out.cell 2 (.slice (some ⟨g4,0,none⟩) (S.seen.length+1) cap4) rfl;have t23:=KX6.out.cell 3 (.int .i64 S.most) rfl;have t23f:=KX6.out.frozen 3;have lb6:=KX6.out.lt;clear hown' hgrow hblk;go_wp2_with fail
     go_region
     go_wp2_with fail;go_end0
     exact⟨rfl,_,_,_,_,by rw[HU.out];exact(HP2.out.setB 3 (.int .i64 (max S.most ((S.seen.length:Int)+1))) { S with made:=S.made++[s],seen:=S.seen++[s],most:=max S.most ((S.seen.length:Int)+1) } Y rfl rfl rfl rfl rfl).of_ext ((Ext.refl _).drew)⟩
 . have hW:S.wrongSee s i=S.wrong 16 i:=by unfold Sc.wrongSee;rw[if_pos hQ]
   have WR:=J (qeW h 16 i);have hT1:(S.wrong 16 i).seen=S.seen:=by unfold Sc.wrong;split<;>rfl
   have hT2:(S.wrong 16 i).made=S.made:=by unfold Sc.wrong;split<;>rfl
   have HU:Hid (S.see s i=_):=J (by unfold Sc.see;rw[hW]);obtain⟨T,hT⟩:∃ T,S.wrong 16 i=T:=⟨_,rfl⟩
   rw[hT] at WR hT1 hT2 HU;have HTL:=J (show T.seen.length<=2000/\T.made.length<=2000 from⟨by rw[hT1];exact hs,by rw[hT2];exact hf⟩);have HQ:=J hQ;clear hW hT hT1 hT2 hQ h hs hf hsl;go_enter func174,ntmps174
   go_wp2_with (first
    | ((with_reducible refine CF.out.mono ?_);rintro e' _ ⟨rfl,rfl⟩;rw[HQ.out])
    | ((with_reducible refine WR.out.mono ?_);rintro e' w2 ⟨rfl,h2⟩;have H2:=J h2;clear h2;have KX2:=J (show KB b _ _ w2 from H2.out.cell);have y5:=KX2.out.cell 5 mv rfl;have lb2:=KX2.out.lt)
    | (at_builtin;refine wpList_append_own_at _ rfl _ _ 23 rfl W.heap.size 9 i0 (.string ⟨#[]⟩) 1 16 underlying23 hi hz0 hz1 hz2 rfl zw mv T.made.length (strV T.made) rfl (H2.out.made.alloc _) ⟨_,0,none⟩ 1 1 [.string s] rfl rfl (qaq zy) ji zcb zct (by simp;have:=H2.out.ext.size;omega) ?_))
   intro v1 w3 hown' hgrow _ hblk;obtain⟨g3,cap3,rfl,_,_⟩:=hown'.form Y;have HP:=J (WkV.push_made (s:=s) (H2.out.of_ext ((Ext.refl _).alloc _)) hown' hgrow zco);have hmb:mv.ownBlock≠some b:=fun q=>((H2.out.apart b).2.2.1 q).1 rfl
   have KX3:=J (show KB b _ _ w3 from(hgrow.block b (by rw[World.size_alloc];have:=(show KB b _ _ _ from H2.out.cell).lt;omega) (Ne.symm hmb)).trans ((show KB b _ _ _ from H2.out.cell).alloc _));have z5:=KX3.out.cell 5 mv rfl;have z5f:=KX3.out.frozen 5;have lb3:=KX3.out.lt;have KX4:=J (show KB b _ _ (w3.setCell ⟨b,5,none⟩ _) from HP.out.cell);have z2:=KX4.out.cell 2 (.slice p sl c) rfl;clear hown' hgrow hblk
   go_wp2_with (at_builtin;refine wpList_append_own_at _ rfl _ _ 23 rfl W.heap.size 9 i0 (.string ⟨#[]⟩) 1 16 underlying23 hi hz0 hz1 hz2 rfl zw (.slice p sl c) T.seen.length (strV T.seen) rfl (HP.out.seen.alloc _) ⟨_,0,none⟩ 1 1 [.string s] rfl rfl (qaq zy) ji zcb zct (by simp;have:=HP.out.ext.size;omega) ?_)
   intro v2 w4 hown' hgrow _ hblk;obtain⟨g4,cap4,rfl,_,_⟩:=hown'.form Y;have HP2:=J (WkV.push_seen (s:=s) (HP.out.of_ext ((Ext.refl _).alloc _)) hown' hgrow (by simpa using hblk));have hsb:(Value.slice p sl c).ownBlock≠some b:=fun q=>((HP.out.apart b).1 q).1 rfl
   have KX5:=J (show KB b _ _ w4 from(hgrow.block b (by rw[World.size_alloc];have:=KX4.out.lt;omega) (Ne.symm hsb)).trans (KX4.out.alloc _));have t2:=KX5.out.cell 2 (.slice p sl c) rfl;have t2f:=KX5.out.frozen 2;have lb4:=KX5.out.lt;have KX6:=J (show KB b _ _ (w4.setCell ⟨b,2,none⟩ _) from HP2.out.cell);have t22:=KX6.out.cell 2 (.slice (some ⟨g4,0,none⟩) (T.seen.length+1) cap4) rfl;have t23:=KX6.out.cell 3 (.int .i64 T.most) rfl;have t23f:=KX6.out.frozen 3;have lb6:=KX6.out.lt;clear hown' hgrow hblk;go_wp2_with fail
   go_region
   go_wp2_with fail;go_end0
   exact⟨rfl,_,_,_,_,by rw[HU.out];exact(HP2.out.setB 3 (.int .i64 (max T.most ((T.seen.length:Int)+1))) { T with made:=T.made++[s],seen:=T.seen++[s],most:=max T.most ((T.seen.length:Int)+1) } Y rfl rfl rfl rfl rfl).of_ext ((Ext.refl _).drew)⟩
def WkV.locNew {L:List (Nat × Obj)} {S:Sc} {w:World} {sv tv mv fv:Value} (h:WkV W b nv fi ns L S sv tv mv fv w) (o:Obj):WkV W b nv fi ns ((w.heap.size,o)::L) S sv tv mv fv (w.alloc o):=by
 have h':=h.of_ext ((Ext.refl w).alloc o);refine ⟨h'.ext,h'.cell,h'.row,h'.seen,h'.slots,h'.made,h'.free,h'.base,h'.apart,fun q hq=>?_⟩;rcases List.mem_cons.1 hq with e | hq
 . subst e;refine ⟨heap_alloc_new _ _,?_,fun e=>?_,fun e=>?_,fun e=>?_,fun e=>?_⟩
   . have:=(Array.getElem?_eq_some_iff.1 h.cell).1;dsimp only;omega
   . exact absurd (h.seen.lt _ e).2 (Nat.lt_irrefl _)
   . exact absurd (h.slots.lt _ e).2 (Nat.lt_irrefl _)
   . exact absurd (h.made.lt _ e).2 (Nat.lt_irrefl _)
   . exact absurd (h.free.lt _ e).2 (Nat.lt_irrefl _)
 . exact h'.loc q hq
def WkV.locOut {L:List (Nat × Obj)} {S:Sc} {w:World} {sv tv mv fv:Value} {q:Nat × Obj} (h:WkV W b nv fi ns (q::L) S sv tv mv fv w):WkV W b nv fi ns L S sv tv mv fv w :=
 ⟨h.ext,h.cell,h.row,h.seen,h.slots,h.made,h.free,h.base,h.apart,fun p hp=>h.loc p (List.mem_cons_of_mem _ hp)⟩
def Wk.locNew {L:List (Nat × Obj)} {S:Sc} {w:World} (h:Wk W b nv fi ns L S w) (o:Obj):Wk W b nv fi ns ((w.heap.size,o)::L) S (w.alloc o):=by
 obtain⟨sv,tv,mv,fv,h⟩:=h;exact⟨sv,tv,mv,fv,h.locNew o⟩
def Wk.locOut {L:List (Nat × Obj)} {S:Sc} {w:World} {q:Nat × Obj} (h:Wk W b nv fi ns (q::L) S w):Wk W b nv fi ns L S w:=by
 obtain⟨sv,tv,mv,fv,h⟩:=h;exact⟨sv,tv,mv,fv,h.locOut⟩
def Wk.locAt {L:List (Nat × Obj)} {S:Sc} {w:World} {k:Nat} {cs:Array Value} {T:TypeId} (h:Wk W b nv fi ns L S w) (hq:(k,Obj.cells cs T (0,0))∈L):KB k cs T w:=by
 obtain⟨sv,tv,mv,fv,h⟩:=h;exact(h.loc _ hq).1
def Sc.useO (S:Sc) (s:ByteArray) (i:Nat):Option Sc:=if i<S.slots.length/\S.seen.length<=2000/\S.free.length<=2000 then some (S.use s i) else none
def Sc.seeO (S:Sc) (s:ByteArray) (i:Int):Option Sc:=if S.seen.length<=2000/\S.made.length<=2000 then some (S.see s i) else none
def seesO (i:Int):List ByteArray->Sc->Option Sc
 | [],S=>some S
 | s::l,S=>(S.seeO s i).bind (seesO i l)
def exprS (ns:List Nd):Nat->Int->Sc->Option Sc
 | 0,i,S=>if i<0 then some S else none
 | f+1,i,S=>if i<0 then some S else
  match ns[i.toNat]? with
  | none=>none
  | some z=>(exprS ns f z.a S).bind fun S1=>(exprS ns f z.b S1).bind fun S2=>if z.k=4 then S2.useO z.s i.toNat else some S2
def qbg (B:Int->Sc->Option Sc) (first i:Int) (names:List ByteArray) (S:Sc):Option Sc :=
 (seesO i names S).bind fun S1=>(B first S1).bind fun S2=>if S.seen.length<=S2.seen.length then some { S2 with seen:=S2.seen.take S.seen.length } else none
def Sc.slot (S:Sc) (i:Nat):Option Sc:=if i<S.slots.length then some { S with slots:=S.slots.set i S.seen.length } else none
def stmS (E B:Int->Sc->Option Sc) (i:Nat) (z:Nd) (S:Sc):Option Sc:=(E z.a S).bind fun S1 =>
 if z.k=22 then E z.b S1
 else if z.k=20 then(S1.slot i).bind fun S2=>S2.seeO z.s i
 else if z.k=21 then S1.useO z.s i
 else if z.k=24 then(qbg B z.b i [] S1).bind (qbg B z.c i [])
 else if z.k=25 then(S1.slot i).bind (qbg B z.b i [z.s,z.t])
 else if z.k=26 then qbg B z.b i [] S1
 else some S1
def blkS (ns:List Nd):Nat->Int->Sc->Option Sc
 | 0,i,S=>if i<0 then some S else none
 | f+1,i,S=>if i<0 then some S else
  match ns[i.toNat]? with
  | none=>none
  | some z=>(stmS (exprS ns f) (blkS ns f) i.toNat z S).bind (blkS ns f z.x)
def qab {α β:Type} {x:Option α} {g:α->Option β} {r:β} (h:x.bind g=some r):∃ a,x=some a/\g a=some r:=Option.bind_eq_some_iff.1 h
def exprS_neg (ns:List Nd) (f:Nat) (i:Int) (S:Sc) (h:i<0):exprS ns f i S=some S:=by
 cases f<;>(unfold exprS;rw[if_pos h])
def qbS {f:Nat} {S R:Sc} (h:0<=i) (hR:exprS ns f i S=some R):∃ g j z S1 S2,f=g+1/\i=((j:Nat):Int)/\ns[j]?=some z/\exprS ns g z.a S=some S1/\exprS ns g z.b S1=some S2/\(if z.k=4 then S2.useO z.s j else some S2)=some R:=by
 cases f with
 | zero=>unfold exprS at hR;rw[if_neg Y] at hR;cases hR
 | succ g =>
  unfold exprS at hR;rw[if_neg Y] at hR;obtain⟨j,rfl⟩:∃ j:Nat,i=(j:Int):=⟨i.toNat,Y⟩
  rw[Int.toNat_natCast] at hR
  split at hR
  . cases hR
  . rename_i z hz;obtain⟨S1,h1,hR⟩:=qab hR;obtain⟨S2,h2,hR⟩:=qab hR;exact⟨g,j,z,S1,S2,rfl,rfl,hz,h1,h2,hR⟩
def qff {S R:Sc} {i:Nat} (h:S.useO s i=some R):i<S.slots.length/\S.seen.length<=2000/\S.free.length<=2000/\R=S.use s i:=by
 unfold Sc.useO at h
 split at h
 . rename_i q;exact⟨q.1,q.2.1,q.2.2,(Option.some.inj h).symm⟩
 . cases h
def qbX {S R:Sc} (h:S.seeO s i=some R):S.seen.length<=2000/\S.made.length<=2000/\R=S.see s i:=by
 unfold Sc.seeO at h
 split at h
 . rename_i q;exact⟨q.1,q.2,(Option.some.inj h).symm⟩
 . cases h
def qcB {S R:Sc} {i:Nat} (h:S.slot i=some R):i<S.slots.length/\R={ S with slots:=S.slots.set i S.seen.length }:=by
 unfold Sc.slot at h
 split at h
 . rename_i q;exact⟨q,(Option.some.inj h).symm⟩
 . cases h
def useO_any {L:List (Nat × Obj)} {S R:Sc} {w:World} (h:Wk W b nv fi ns L S w) (s:ByteArray) (i:Nat) (hR:S.useO s i=some R) :
  Calls prog 205 #[.pointer (some ⟨b,0,none⟩),.string s,.int .i64 (i:Int)] w fun r w'=>r=.returned (.tuple #[])/\Wk W b nv fi ns L R w':=by
 obtain⟨sv,tv,mv,fv,h⟩:=h;obtain⟨a1,a2,a3,rfl⟩:=qff hR;exact use_any h s i a1 a2 a3
def seeO_any {L:List (Nat × Obj)} {S R:Sc} {w:World} (h:Wk W b nv fi ns L S w) (s:ByteArray) (i:Int) (hR:S.seeO s i=some R) :
  Calls prog 174 #[.pointer (some ⟨b,0,none⟩),.string s,.int .i64 i] w fun r w'=>r=.returned (.tuple #[])/\Wk W b nv fi ns L R w':=by
 obtain⟨sv,tv,mv,fv,h⟩:=h;obtain⟨a1,a2,rfl⟩:=qbX hR;exact see_any h s i a1 a2
def Wk.node {L:List (Nat × Obj)} {S:Sc} {w:World} (h:Wk W b nv fi ns L S w) {j:Nat} {z:Nd} (hz:ns[j]?=some z) :
  ∃ G n cap,nv=.slice (some ⟨G,0,none⟩) n cap/\G<w.heap.size/\j<n/\b<w.heap.size/\w.cell? ⟨b,0,none⟩=some (.slice (some ⟨G,0,none⟩) n cap) /\
  w.cell? ⟨G,j*8,none⟩=some (.int .i64 z.k)/\w.cell? ⟨G,j*8+1,none⟩=some (.int .i64 z.a)/\w.cell? ⟨G,j*8+2,none⟩=some (.int .i64 z.b)/\w.cell? ⟨G,j*8+3,none⟩=some (.int .i64 z.c)/\w.cell? ⟨G,j*8+4,none⟩=some (.int .i64 z.x)/\w.cell? ⟨G,j*8+5,none⟩=some (.int .i64 z.i)/\w.cell? ⟨G,j*8+6,none⟩=some (.string z.s)/\w.cell? ⟨G,j*8+7,none⟩=some (.string z.t):=by
 obtain⟨sv,tv,mv,fv,h⟩:=h;have hj:=(List.getElem?_eq_some_iff.1 hz).1;rcases Go.Joins.ownsRow_forms h.row with ⟨_,h0⟩ | ⟨g1,c1,h0⟩
 . omega
 . have hr:=h.row;subst h0;have kb:KB b _ _ w:=h.cell;exact⟨g1,ns.length,c1,rfl,(hr.lt g1 rfl).2,hj,kb.lt,kb.cell 0 _ rfl,nd_at hr hz⟩
def sexpr_neg {L:List (Nat × Obj)} {S:Sc} {w:World} (i:Int) (hi:i<0) (h:Wk W b nv fi ns L S w) :
  Calls prog 204 #[.pointer (some ⟨b,0,none⟩),.int .i64 i] w fun r w'=>r=.returned (.tuple #[])/\Wk W b nv fi ns L S w':=by
 have H:=J h;clear h;go_enter func204,ntmps204;go_wp2_with fail;refine jg ?_;exact⟨rfl,H.out⟩
def sexpr_any:∀ (f:Nat) (L:List (Nat × Obj)) (S R:Sc) (w:World) (i:Int),exprS ns f i S=some R->Wk W b nv fi ns L S w ->
  Calls prog 204 #[.pointer (some ⟨b,0,none⟩),.int .i64 i] w fun r w'=>r=.returned (.tuple #[])/\Wk W b nv fi ns L R w':=by
 intro f
 induction f with
 | zero =>
  intro L S R w i hR h;by_cases hi:i<0
  . rw[exprS_neg ns 0 i S hi] at hR;cases hR;exact sexpr_neg i hi h
  . obtain⟨g,_,_,_,_,e,_⟩:=qbS Y hR
    cases e
 | succ f ih =>
  intro L S R w i hR h;by_cases hi:i<0
  . rw[exprS_neg ns _ i S hi] at hR;cases hR;exact sexpr_neg i hi h
  obtain⟨g,j,⟨zk,za,zb,zc,zx,zi,zs,zt⟩,S1,S2,e,rfl,hz,h1,h2,h3⟩:=qbS Y hR;obtain rfl:f=g:=by omega
  dsimp only at h1 h2 h3;obtain⟨G,n,cap,rfl,hG,hj,lb,c0,a0,a1,a2,a3,a4,a5,a6,a7⟩:=h.node hz;dsimp only at a0 a1 a2 a3 a4 a5 a6 a7;have C1:=J (fun w1 (hw:Wk W b (.slice (some ⟨G,0,none⟩) n cap) fi ns ((w.heap.size,.cells #[.int .i64 zk,.int .i64 za,.int .i64 zb,.int .i64 zc,.int .i64 zx,.int .i64 zi,.string zs,.string zt] 166 (0,0))::L) S w1)=>ih _ S S1 w1 za h1 hw);have C2:=J (fun w1 (hw:Wk W b (.slice (some ⟨G,0,none⟩) n cap) fi ns ((w.heap.size,.cells #[.int .i64 zk,.int .i64 za,.int .i64 zb,.int .i64 zc,.int .i64 zx,.int .i64 zi,.string zs,.string zt] 166 (0,0))::L) S1 w1)=>ih _ S1 S2 w1 zb h2 hw);refine yal ?_;intro H0;have hj0:0<=(j:Int):=Y;have hjn:(j:Int)<(n:Int):=Y;by_cases hk:zk=4
  . rw[if_pos hk] at h3;have C3:=J (fun w1 (hw:Wk W b (.slice (some ⟨G,0,none⟩) n cap) fi ns ((w.heap.size,.cells #[.int .i64 zk,.int .i64 za,.int .i64 zb,.int .i64 zc,.int .i64 zx,.int .i64 zi,.string zs,.string zt] 166 (0,0))::L) S2 w1)=>useO_any hw zs j h3);subst hk;clear ih hR h hz h1 h2 h3 hi hj e;go_enter func204,ntmps204
    go_wp2_with (first
     | ((with_reducible refine (C1.out _ H0.out).mono ?_);rintro e' w2 ⟨rfl,h2⟩;have H2:=J h2;clear h2;have KX:=J (H2.out.locAt List.mem_cons_self);have x2:=KX.out.cell 2 _ rfl;have lx:=KX.out.lt)
     | ((with_reducible refine (C2.out _ H2.out).mono ?_);rintro e' w3 ⟨rfl,h3⟩;have H3:=J h3;clear h3;have KX3:=J (H3.out.locAt List.mem_cons_self);have x30:=KX3.out.cell 0 _ rfl;have x36:=KX3.out.cell 6 _ rfl;have lx3:=KX3.out.lt)
     | ((with_reducible refine (C3.out _ H3.out).mono ?_);rintro e' w4 ⟨rfl,h4⟩;have H4:=J h4;clear h4))
    refine jg ?_;exact⟨rfl,H4.out.locOut⟩
  . rw[if_neg hk] at h3;cases h3;have hk2:(zk==4)=false:=(by simpa using hk)
    clear ih hR h hz h1 h2 hi hj e hk;go_enter func204,ntmps204
    go_wp2_with (first
     | ((with_reducible refine (C1.out _ H0.out).mono ?_);rintro e' w2 ⟨rfl,h2⟩;have H2:=J h2;clear h2;have KX:=J (H2.out.locAt List.mem_cons_self);have x2:=KX.out.cell 2 _ rfl;have lx:=KX.out.lt)
     | ((with_reducible refine (C2.out _ H2.out).mono ?_);rintro e' w3 ⟨rfl,h3⟩;have H3:=J h3;clear h3;have KX3:=J (H3.out.locAt List.mem_cons_self);have x30:=KX3.out.cell 0 _ rfl;have lx3:=KX3.out.lt))
    refine jg ?_;exact⟨rfl,H3.out.locOut⟩
def qcJ (S:Sc) (e a:Int):(S.wrong e a).seen=S.seen/\(S.wrong e a).made=S.made/\(S.wrong e a).slots=S.slots/\(S.wrong e a).free=S.free/\(S.wrong e a).most=S.most:=by
 unfold Sc.wrong;split<;>exact⟨rfl,rfl,rfl,rfl,rfl⟩
def wrong_e {S:Sc} {e a:Int} (he:e≠0):(S.wrong e a).e≠0:=by
 unfold Sc.wrong;split
 . exact he
 . assumption
def qgK (S:Sc) (s:ByteArray) (i:Nat):(S.use s i).seen=S.seen/\(S.use s i).made=S.made/\(S.use s i).slots.length=S.slots.length/\(S.use s i).free.length<=S.free.length+1:=by
 obtain⟨a1,a2,a3,a4,a5⟩:=qcJ S 15 i;unfold Sc.use;dsimp only;split
 . split
   . exact⟨a1,a2,by rw[List.length_set,a3],by rw[a4];omega⟩
   . exact⟨a1,a2,by rw[List.length_set,a3],by rw[List.length_append,a4];simp⟩
 . exact⟨rfl,rfl,by rw[List.length_set],Nat.le_succ _⟩
def qcN (S:Sc) (s:ByteArray) (i:Int):(S.see s i).seen=S.seen++[s]/\(S.see s i).made=S.made++[s]/\(S.see s i).slots=S.slots/\(S.see s i).free=S.free:=by
 obtain⟨a1,a2,a3,a4,a5⟩:=qcJ S 16 i;obtain⟨b1,b2,b3,b4,b5⟩:=qcJ S 5 i;unfold Sc.see Sc.wrongSee;dsimp only;split
 . exact⟨by rw[a1],by rw[a2],a3,a4⟩
 . split
   . exact⟨by rw[b1],by rw[b2],b3,b4⟩
   . exact⟨rfl,rfl,rfl,rfl⟩
def Gr (S R:Sc) (n:Nat):Prop:=(∃ x:List ByteArray,R.seen=S.seen++x/\x.length<=2*n)/\R.made.length<=S.made.length+2*n/\R.slots.length=S.slots.length/\R.free.length<=S.free.length+n
def Room (N:Nat) (S:Sc) (n:Nat):Prop:=N<=S.slots.length/\S.seen.length+2*n<=2000/\S.made.length+2*n<=2000/\S.free.length+n<=2000
def Gr.refl (S:Sc) (n:Nat):Gr S S n:=⟨⟨[],zy,zy⟩,Y,rfl,Y⟩
def Gr.trans {S R T:Sc} (h:Gr S R n) (h':Gr R T m) (hk:n+m=k):Gr S T k:=by
 obtain⟨⟨x,a1,a2⟩,a3,a4,a5⟩:=h;obtain⟨⟨y,b1,b2⟩,b3,b4,b5⟩:=h';exact⟨⟨x++y,by rw[b1,a1,List.append_assoc],by rw[List.length_append];omega⟩,Y,Y,Y⟩
def Gr.mono {S R:Sc} (h:Gr S R n) (hk:n<=k):Gr S R k:=by
 obtain⟨⟨x,a1,a2⟩,a3,a4,a5⟩:=h;exact⟨⟨x,a1,Y⟩,Y,a4,Y⟩
def Room.after {S R:Sc} (h:Room N S n) (g:Gr S R m) (hk:m+k<=n):Room N R k:=by
 obtain⟨⟨x,a1,a2⟩,a3,a4,a5⟩:=g;obtain⟨b1,b2,b3,b4⟩:=h;have:R.seen.length=S.seen.length+x.length:=by rw[a1,List.length_append]
 exact⟨Y,Y,Y,Y⟩
def Room.le {S:Sc} (h:Room N S n) (hk:k<=n):Room N S k:=h.after (Gr.refl S 0) Y
def useO_room {S:Sc} {i:Nat} (h:Room N S 1) (hi:i<N):∃ R,S.useO s i=some R/\Gr S R 1/\R.seen=S.seen:=by
 obtain⟨b1,b2,b3,b4⟩:=h;obtain⟨c1,c2,c3,c4⟩:=qgK S s i;refine ⟨_,by unfold Sc.useO;rw[if_pos ⟨Y,Y,Y⟩],⟨⟨[],by rw[c1];simp,zy⟩,by rw[c2];omega,c3,c4⟩,c1⟩
def qdR (i:Int):∀ (l:List ByteArray) (S:Sc),S.seen.length+l.length<=2000->S.made.length+l.length<=2000->∃ R,seesO i l S=some R/\R.seen=S.seen++l/\R.made.length=S.made.length+l.length/\R.slots=S.slots/\R.free=S.free
 | [],S,_,_=>⟨S,rfl,zy,zy,rfl,rfl⟩
 | s::l,S,h1,h2=>by
  rw[List.length_cons] at h1 h2;obtain⟨c1,c2,c3,c4⟩:=qcN S s i;obtain⟨R,d1,d2,d3,d4,d5⟩:=qdR i l (S.see s i) (by rw[c1,List.length_append,List.length_singleton];omega) (by rw[c2,List.length_append,List.length_singleton];omega);refine ⟨R,?_,by rw[d2,c1,List.append_assoc];rfl,by rw[d3,c2,List.length_append,List.length_singleton,List.length_cons];omega,by rw[d4,c3],by rw[d5,c4]⟩;unfold seesO Sc.seeO;rw[if_pos ⟨Y,Y⟩];exact d1
def qck (t:Tr ns i n) (h:0<=i):∃ (j:Nat) (z:Nd) (na nb nc nx:Nat),i=(j:Int)/\ns[j]?=some z/\Tr ns z.a na/\Tr ns z.b nb/\Tr ns z.c nc/\Tr ns z.x nx/\n=1+(na+(nb+(nc+nx))):=by
 cases t with
 | neg h0=>omega
 | node hz ta tb tc tx=>exact⟨_,_,_,_,_,_,rfl,hz,ta,tb,tc,tx,rfl⟩
def qfW (ns:List Nd):∀ (f:Nat) (i:Int) (n:Nat) (S:Sc),Tr ns i n->n<=f->Room ns.length S n->∃ R,exprS ns f i S=some R/\Gr S R n/\R.seen=S.seen:=by
 intro f
 induction f with
 | zero =>
  intro i n S t hf hr;by_cases hi:i<0
  . exact⟨S,exprS_neg _ _ _ _ hi,Gr.refl _ _,rfl⟩
  . obtain⟨j,z,na,nb,nc,nx,rfl,hz,ta,tb,tc,tx,rfl⟩:=qck t Y
    omega
 | succ f ih =>
  intro i n S t hf hr;by_cases hi:i<0
  . exact⟨S,exprS_neg _ _ _ _ hi,Gr.refl _ _,rfl⟩
  . obtain⟨j,z,na,nb,nc,nx,rfl,hz,ta,tb,tc,tx,rfl⟩:=qck t Y;obtain⟨S1,h1,g1,e1⟩:=ih _ na S ta Y (hr.le Y);obtain⟨S2,h2,g2,e2⟩:=ih _ nb S1 tb Y (hr.after g1 Y);unfold exprS;rw[if_neg hi,Int.toNat_natCast,hz];dsimp only;rw[h1];dsimp only[Option.bind];rw[h2];dsimp only;split
    . obtain⟨R,h3,g3,e3⟩:=useO_room (s:=z.s) (hr.after (g1.trans g2 rfl) (k:=1) Y) (List.getElem?_eq_some_iff.1 hz).1;exact⟨R,h3,((g1.trans g2 rfl).trans g3 rfl).mono Y,by rw[e3,e2,e1]⟩
    . exact⟨S2,rfl,(g1.trans g2 rfl).mono Y,by rw[e2,e1]⟩
def qbG {B:Int->Sc->Option Sc} {first:Int} {names:List ByteArray} {S:Sc} (hB:∀ S,Room N S n->∃ R,B first S=some R/\Gr S R n) (hc:names.length<=2*c) (hr:Room N S (n+c)):∃ R,qbg B first i names S=some R/\Gr S R (n+c)/\R.seen=S.seen:=by
 obtain⟨b1,b2,b3,b4⟩:=hr;obtain⟨S1,d1,d2,d3,d4,d5⟩:=qdR i names S Y Y;have g1:Gr S S1 c:=⟨⟨names,d2,hc⟩,Y,by rw[d4],by rw[d5];omega⟩
 obtain⟨S2,h2,g2⟩:=hB S1 (Room.after ⟨b1,b2,b3,b4⟩ g1 Y);obtain⟨⟨x,e1,_⟩,e3,e4,e5⟩:=g1.trans g2 rfl;have hl:S.seen.length<=S2.seen.length:=by rw[e1,List.length_append];omega
 refine ⟨{ S2 with seen:=S2.seen.take S.seen.length },?_,⟨⟨[],?_,zy⟩,by show S2.made.length<=_;omega,e4,by show S2.free.length<=_;omega⟩,?_⟩
 . unfold qbg;rw[d1];dsimp only[Option.bind];rw[h2];dsimp only;rw[if_pos hl]
 . dsimp only;rw[e1,List.take_left'];simp;rfl
 . dsimp only;rw[e1,List.take_left'];rfl
def slot_room {S:Sc} {i:Nat} (h:Room N S n) (hi:i<N):∃ R,S.slot i=some R/\Gr S R 0/\R.seen=S.seen:=by
 refine ⟨{ S with slots:=S.slots.set i S.seen.length },by unfold Sc.slot;rw[if_pos (by have:=h.1;omega)],⟨⟨[],zy,zy⟩,zy,zy,zy⟩,rfl⟩
def blkS_neg (ns:List Nd) (f:Nat) (i:Int) (S:Sc) (h:i<0):blkS ns f i S=some S:=by
 cases f<;>(unfold blkS;rw[if_pos h])
def blkS_room (ns:List Nd):∀ (f:Nat) (i:Int) (n:Nat) (S:Sc),Tr ns i n->n<=f->Room ns.length S n->∃ R,blkS ns f i S=some R/\Gr S R n:=by
 intro f
 induction f with
 | zero =>
  intro i n S t hf hr;by_cases hi:i<0
  . exact⟨S,blkS_neg _ _ _ _ hi,Gr.refl _ _⟩
  . obtain⟨j,z,na,nb,nc,nx,rfl,hz,ta,tb,tc,tx,rfl⟩:=qck t Y
    omega
 | succ f ih =>
  intro i n S t hf hr;by_cases hi:i<0
  . exact⟨S,blkS_neg _ _ _ _ hi,Gr.refl _ _⟩
  . obtain⟨j,z,na,nb,nc,nx,rfl,hz,ta,tb,tc,tx,rfl⟩:=qck t Y;have hj:=(List.getElem?_eq_some_iff.1 hz).1;obtain⟨S1,h1,g1,e1⟩:=qfW ns f z.a na S ta Y (hr.le Y)
    have st:∃ R,stmS (exprS ns f) (blkS ns f) j z S=some R/\Gr S R (1+(na+(nb+nc))):=by
     unfold stmS;rw[h1];dsimp only[Option.bind];have r1:Room ns.length S1 (1+(nb+nc)):=hr.after g1 Y;split
     . obtain⟨S2,h2,g2,e2⟩:=qfW ns f z.b nb S1 tb Y (r1.le Y);exact⟨S2,h2,(g1.trans g2 rfl).mono Y⟩
     split
     . obtain⟨S2,h2,g2,e2⟩:=slot_room r1 hj;have r2:Room ns.length S2 1:=r1.after g2 Y;obtain⟨R,d1,d2,d3,d4,d5⟩:=qdR j [z.s] S2 (by have:=r2.2.1;simp;omega) (by have:=r2.2.2.1;simp;omega);refine ⟨R,?_,((g1.trans g2 rfl).trans (⟨⟨[z.s],d2,zy⟩,by rw[d3];simp,by rw[d4],by rw[d5];omega⟩:Gr S2 R 1) rfl).mono Y⟩;rw[h2];dsimp only;unfold seesO at d1;obtain⟨R',f1,f2⟩:=qab d1;have:seesO (j:Int) [] R'=some R':=rfl;rw[this] at f2;rw[f1,f2]
     split
     . obtain⟨S2,h2,g2,e2⟩:=useO_room (s:=z.s) (r1.le (k:=1) Y) hj;exact⟨S2,h2,(g1.trans g2 rfl).mono Y⟩
     split
     . obtain⟨S2,h2,g2,e2⟩:=qbG (B:=blkS ns f) (first:=z.b) (i:=(j:Int)) (names:=[]) (n:=nb) (c:=0) (fun S hS=>ih _ nb S tb Y hS) zy (r1.le Y);obtain⟨S3,h3,g3,e3⟩:=qbG (B:=blkS ns f) (first:=z.c) (i:=(j:Int)) (names:=[]) (n:=nc) (c:=0) (fun S hS=>ih _ nc S tc Y hS) zy (r1.after g2 Y);rw[h2];exact⟨S3,h3,((g1.trans g2 rfl).trans g3 rfl).mono Y⟩
     split
     . obtain⟨S2,h2,g2,e2⟩:=slot_room r1 hj;obtain⟨S3,h3,g3,e3⟩:=qbG (B:=blkS ns f) (first:=z.b) (i:=(j:Int)) (names:=[z.s,z.t]) (n:=nb) (c:=1) (fun S hS=>ih _ nb S tb Y hS) zy (r1.after g2 Y);rw[h2];exact⟨S3,h3,((g1.trans g2 rfl).trans g3 rfl).mono Y⟩
     split
     . obtain⟨S2,h2,g2,e2⟩:=qbG (B:=blkS ns f) (first:=z.b) (i:=(j:Int)) (names:=[]) (n:=nb) (c:=0) (fun S hS=>ih _ nb S tb Y hS) zy (r1.le Y);exact⟨S2,h2,(g1.trans g2 rfl).mono Y⟩
     . exact⟨S1,rfl,g1.mono Y⟩
    obtain⟨R,h2,g2⟩:=st;obtain⟨R2,h3,g3⟩:=ih _ nx R tx Y (hr.after g2 Y);refine ⟨R2,?_,(g2.trans g3 rfl).mono Y⟩;unfold blkS;rw[if_neg hi,Int.toNat_natCast,hz];dsimp only;rw[h2];exact h3
structure Stp where
 nd:Nat
 mkx:Bool
 nm:ByteArray
 sn:List ByteArray
def qay (ns:List Nd):Nat->Int->List ByteArray->List Stp
 | 0,_,_=>[]
 | f+1,i,sn=>if i<0 then [] else
  match ns[i.toNat]? with
  | none=>[]
  | some z=>(qay ns f z.a sn++qay ns f z.b sn)++(if z.k=4 then [⟨i.toNat,false,z.s,sn⟩] else [])
def qbK (E B:Int->List ByteArray->List Stp) (i:Nat) (z:Nd) (sn:List ByteArray):List Stp :=
 if z.k=20 then [⟨i,true,z.s,sn⟩]
 else if z.k=21 then [⟨i,false,z.s,sn⟩]
 else if z.k=22 then E z.b sn
 else if z.k=24 then B z.b sn++B z.c sn
 else if z.k=25 then([⟨i,true,z.s,sn⟩]++[⟨i,true,z.t,sn++[z.s]⟩])++B z.b (sn++[z.s]++[z.t])
 else if z.k=26 then B z.b sn
 else []
def qau (ns:List Nd):Nat->Int->List ByteArray->List Stp
 | 0,_,_=>[]
 | f+1,i,sn=>if i<0 then [] else
  match ns[i.toNat]? with
  | none=>[]
  | some z=>(qay ns f z.a sn++qbK (qay ns f) (qau ns f) i.toNat z sn)++qau ns f z.x (if z.k=20 then sn++[z.s] else sn)
def Gd (S:Sc) (j:Nat):Prop:=j<S.slots.length/\0<=S.slots.getD j (-1)/\S.slots.getD j (-1)<S.most
def Good (S:Sc) (x:Stp):Prop:=Gd S x.nd/\(x.sn.length:Int)<=S.most/\x.sn.Nodup
def Inv (S:Sc):Prop:=S.seen.Nodup/\(S.seen.length:Int)<=S.most/\S.most<=32
def Keep (S R:Sc):Prop:=S.most<=R.most/\R.slots.length=S.slots.length/\(∀ j,Gd S j->Gd R j)/\R.free=S.free
def Law (S R:Sc) (l:List Stp):Prop:=R.e=0->S.e=0/\(Inv S->Inv R/\Keep S R/\∀ x∈l,Good R x)
def Keep.refl (S:Sc):Keep S S:=⟨Int.le_refl _,rfl,fun _ h=>h,rfl⟩
def Keep.trans {S R T:Sc} (h:Keep S R) (h':Keep R T):Keep S T:=⟨Int.le_trans h.1 h'.1,h'.2.1.trans h.2.1,fun j hj=>h'.2.2.1 j (h.2.2.1 j hj),h'.2.2.2.trans h.2.2.2⟩
def Keep.good {S R:Sc} (h:Keep S R) {x:Stp} (g:Good S x):Good R x:=⟨h.2.2.1 _ g.1,Int.le_trans g.2.1 h.1,g.2.2⟩
def Law.refl (S:Sc):Law S S []:=fun e=>⟨e,fun i=>⟨i,Keep.refl S,fun x hx=>by cases hx⟩⟩
def Law.trans {S R T:Sc} {l m:List Stp} (h:Law S R l) (h':Law R T m):Law S T (l++m):=fun e=>by
 obtain⟨e1,k1⟩:=h' e;obtain⟨e0,k0⟩:=h e1;refine ⟨e0,fun i=>?_⟩;obtain⟨i1,q1,g1⟩:=k0 i;obtain⟨i2,q2,g2⟩:=k1 i1;refine ⟨i2,q1.trans q2,fun x hx=>?_⟩;rcases List.mem_append.1 hx with h | h
 . exact q2.good (g1 x h)
 . exact g2 x h
def lastOf_lt (s:ByteArray) (l:List ByteArray):∀ j,qaz s l j<(j:Int)
 | 0=>by simp[qaz]
 | j+1=>by
  unfold qaz;have:=lastOf_lt s l j
  split<;>omega
def qbw (l:List Int) (i j:Nat) (v:Int) (hi:i<l.length):(l.set i v).getD j (-1)=if i=j then v else l.getD j (-1):=by
 rw[List.getD_eq_getElem?_getD,List.getElem?_set,List.getD_eq_getElem?_getD];by_cases e:i=j
 . subst e;rw[if_pos rfl,if_pos rfl,if_pos hi];rfl
 . rw[if_neg e,if_neg e]
def use_law {S R:Sc} {i:Nat} (h:S.useO s i=some R):Law S R [⟨i,false,s,S.seen⟩]/\R.seen=S.seen:=by
 obtain⟨a1,a2,a3,rfl⟩:=qff h;refine ⟨fun e=>?_,(qgK S s i).1⟩;by_cases hk:qaz s S.seen S.seen.length<0
 . have:(S.use s i).e=(S.wrong 15 i).e:=by
     unfold Sc.use;dsimp only;rw[if_pos hk];split<;>rfl
   rw[this] at e;exact absurd e (wrong_e zw)
 . have hR:S.use s i={ S with slots:=S.slots.set i (qaz s S.seen S.seen.length) }:=by unfold Sc.use;dsimp only;rw[if_neg hk]
   have hlt:=lastOf_lt s S.seen S.seen.length;rw[hR] at e ⊢;refine ⟨e,fun hi=>?_⟩;obtain⟨i1,i2,i3⟩:=hi;refine ⟨⟨i1,i2,i3⟩,⟨Int.le_refl _,zy,fun j hj=>?_,rfl⟩,fun x hx=>?_⟩
   . obtain⟨g1,g2,g3⟩:=hj;refine ⟨by simpa using g1,?_,?_⟩<;>(dsimp only;rw[qbw _ _ _ _ a1];split<;>omega)
   . rcases List.mem_singleton.1 hx with rfl;refine ⟨⟨by simpa using a1,?_,?_⟩,i2,i1⟩<;>(dsimp only;rw[qbw _ _ _ _ a1,if_pos rfl];omega)
def see_law {S R:Sc} (h:S.seeO s i=some R) (he:R.e=0):S.e=0/\(Inv S->Inv R/\S.most<=R.most/\((S.seen.length:Int)+1)<=R.most)/\R.slots=S.slots/\R.free=S.free/\R.seen=S.seen++[s]:=by
  obtain⟨a1,a2,rfl⟩:=qbX h;obtain⟨c1,c2,c3,c4⟩:=qcN S s i;refine ⟨?_,?_,c3,c4,c1⟩
  all_goals
    cases hQ:Lib.containsS S.seen s
    . by_cases h32:32<=S.seen.length
      . have:(S.see s i).e=(S.wrong 5 i).e:=by unfold Sc.see Sc.wrongSee;rw[hQ,if_neg zy,if_pos h32]
        rw[this] at he;exact absurd he (wrong_e zw)
      . have hR:S.see s i={ S with made:=S.made++[s],seen:=S.seen++[s],most:=max S.most ((S.seen.length:Int)+1) }:=(by unfold Sc.see Sc.wrongSee;rw[hQ,if_neg zy,if_neg h32])
        rw[hR] at he
        first
          | exact he
          | (intro hi
             obtain⟨i1,i2,i3⟩:=hi;rw[hR];have hm:s∉S.seen:=fun hm=>by have:=(Lib.containsS_iff S.seen s).2 hm;rw[hQ] at this;cases this
             refine ⟨⟨List.nodup_append.2 ⟨i1,zy,fun a ha b hb=>by simp at hb;subst hb;intro e;subst e;exact hm ha⟩,?_,?_⟩,?_,?_⟩
             . dsimp only;rw[List.length_append,List.length_singleton];omega
             . dsimp only;omega
             . dsimp only;omega
             . dsimp only;omega)
    . have:(S.see s i).e=(S.wrong 16 i).e:=by unfold Sc.see Sc.wrongSee;rw[hQ,if_pos rfl]
      rw[this] at he;exact absurd he (wrong_e zw)
def exprS_law (ns:List Nd):∀ (f:Nat) (i:Int) (S R:Sc),exprS ns f i S=some R->Law S R (qay ns f i S.seen)/\R.seen=S.seen:=by
 intro f
 induction f with
 | zero =>
  intro i S R h;by_cases hi:i<0
  . rw[exprS_neg _ _ _ _ hi] at h;cases h;exact⟨Law.refl S,rfl⟩
  . obtain⟨g,_,_,_,_,e,_⟩:=qbS Y h
    cases e
 | succ f ih =>
  intro i S R h;by_cases hi:i<0
  . rw[exprS_neg _ _ _ _ hi] at h;cases h;unfold qay;rw[if_pos hi];exact⟨Law.refl S,rfl⟩
  . obtain⟨g,j,z,S1,S2,e,rfl,hz,h1,h2,h3⟩:=qbS Y h;obtain rfl:f=g:=by omega
    obtain⟨l1,e1⟩:=ih _ _ _ h1;obtain⟨l2,e2⟩:=ih _ _ _ h2;unfold qay;rw[if_neg hi,Int.toNat_natCast,hz];dsimp only;rw[e1] at l2
    split at h3
    . rename_i hk;obtain⟨l3,e3⟩:=use_law h3;rw[if_pos hk];rw[e2,e1] at l3;exact⟨(l1.trans l2).trans l3,by rw[e3,e2,e1]⟩
    . rename_i hk;cases h3;rw[if_neg hk,List.append_nil];exact⟨l1.trans l2,by rw[e2,e1]⟩
def take_law {S S2:Sc} {x:List ByteArray} {l:List Stp} (h:Law S S2 l) (hx:S2.seen=S.seen++x) (hl:S.seen.length<=S2.seen.length):Law S { S2 with seen:=S2.seen.take S.seen.length } l:=fun e=>by
 obtain⟨e0,k⟩:=h e;refine ⟨e0,fun i=>?_⟩;obtain⟨i1,q1,g1⟩:=k i;have et:S2.seen.take S.seen.length=S.seen:=by rw[hx,List.take_left'];rfl
 rw[et];exact⟨⟨i.1,by have:=i.2.1;have:=q1.1;dsimp only;omega,i1.2.2⟩,q1,g1⟩
def qbZ {B:Int->Sc->Option Sc} {SB:Int->List ByteArray->List Stp} (hB:∀ i S R,B i S=some R->Law S R (SB i S.seen)/\∃ x,R.seen=S.seen++x) {first i:Int} {S R:Sc} (h:qbg B first i [] S=some R):Law S R (SB first S.seen)/\R.seen=S.seen:=by
 unfold qbg at h;obtain⟨S1,h1,h⟩:=qab h;cases h1;obtain⟨S2,h2,h⟩:=qab h;obtain⟨l2,x,hx⟩:=hB _ _ _ h2
 split at h
 . rename_i hl;cases h;exact⟨take_law l2 hx hl,by dsimp only;rw[hx,List.take_left'];rfl⟩
 . cases h
def stmS_law {E B:Int->Sc->Option Sc} {SE SB:Int->List ByteArray->List Stp} (hE:∀ i S R,E i S=some R->Law S R (SE i S.seen)/\R.seen=S.seen) (hB:∀ i S R,B i S=some R->Law S R (SB i S.seen)/\∃ x,R.seen=S.seen++x)
  {i:Nat} {z:Nd} {S R:Sc} (h:stmS E B i z S=some R):Law S R (SE z.a S.seen++qbK SE SB i z S.seen)/\R.seen=if z.k=20 then S.seen++[z.s] else S.seen:=by
 unfold stmS at h;obtain⟨S1,h1,h⟩:=qab h;obtain⟨l1,e1⟩:=hE _ _ _ h1
 suffices q:Law S1 R (qbK SE SB i z S1.seen)/\R.seen=if z.k=20 then S1.seen++[z.s] else S1.seen by
  rw[e1] at q;exact⟨l1.trans q.1,q.2⟩
 clear h1 l1 e1;unfold qbK
 split at h
 . rename_i hk;rw[if_neg Y,if_neg Y,if_pos hk,if_neg Y];exact hE _ _ _ h
 split at h
 . rename_i hk;rw[if_pos hk,if_pos hk];obtain⟨S2,h2,h⟩:=qab h;obtain⟨b1,rfl⟩:=qcB h2;obtain⟨_,_,hq⟩:=qbX h;have hs:=(qcN { S1 with slots:=S1.slots.set i S1.seen.length } z.s i).1;refine ⟨fun e=>?_,by rw[hq];exact hs⟩;obtain⟨c1,c2,c3,c4,c5⟩:=see_law h e;refine ⟨c1,fun hi=>?_⟩;obtain⟨d1,d2,d3⟩:=c2 hi;dsimp only at d2 d3 c3 c4;refine ⟨d1,⟨d2,by rw[c3];simp,fun j hj=>?_,c4⟩,fun x hx=>?_⟩
   . obtain⟨g1,g2,g3⟩:=hj;refine ⟨by rw[c3];simpa using g1,?_,?_⟩<;>(rw[c3,qbw _ _ _ _ b1];split<;>omega)
   . rcases List.mem_singleton.1 hx with rfl;refine ⟨⟨by rw[c3];simpa using b1,?_,?_⟩,by have:=hi.2.1;dsimp only at this ⊢;omega,hi.1⟩<;>(rw[c3,qbw _ _ _ _ b1,if_pos rfl];omega)
 split at h
 . rename_i hk0 hk;rw[if_neg hk0,if_pos hk,if_neg hk0];exact use_law h
 split at h
 . rename_i hk0 hk1 hk;rw[if_neg Y,if_neg Y,if_neg Y,if_pos hk,if_neg Y];obtain⟨S2,h2,h⟩:=qab h;obtain⟨l2,e2⟩:=qbZ hB h2;obtain⟨l3,e3⟩:=qbZ hB h;rw[e2] at l3;exact⟨l2.trans l3,by rw[e3,e2]⟩
 split at h
 . rename_i hk0 hk1 hk2 hk;rw[if_neg Y,if_neg Y,if_neg Y,if_neg Y,if_pos hk,if_neg Y];obtain⟨S2,h2,h⟩:=qab h;obtain⟨b1,rfl⟩:=qcB h2;unfold qbg at h;obtain⟨S3,h3,h⟩:=qab h;obtain⟨S4,h4,hfin⟩:=qab h;obtain⟨l4,x,hx⟩:=hB _ _ _ h4;unfold seesO at h3;obtain⟨S5,h5,h3⟩:=qab h3;unfold seesO at h3;obtain⟨S6,h6,h3⟩:=qab h3;have e63:S6=S3:=Option.some.inj h3;subst e63;obtain⟨_,_,hq5⟩:=qbX h5;obtain⟨_,_,hq6⟩:=qbX h6;have s5:S5.seen=S1.seen++[z.s]:=by rw[hq5];exact(qcN _ z.s i).1
   have s6:S6.seen=S1.seen++[z.s]++[z.t]:=by rw[hq6,(qcN S5 z.t i).1,s5]
   have l6:Law S1 S6 ([⟨i,true,z.s,S1.seen⟩]++[⟨i,true,z.t,S1.seen++[z.s]⟩]):=fun e=>by
    obtain⟨c1,c2,c3,c4,c5⟩:=see_law h6 e;obtain⟨d1,d2,d3,d4,d5⟩:=see_law h5 c1;refine ⟨d1,fun hi=>?_⟩;obtain⟨p1,p2,p3⟩:=d2 hi;obtain⟨q1,q2,q3⟩:=c2 p1;rw[d3] at c3;rw[d4] at c4;rw[s5,List.length_append,List.length_singleton] at q3;dsimp only at p2 p3 c3 c4 q2;refine ⟨q1,⟨Y,by rw[c3];simp,fun j hj=>?_,c4⟩,fun x hx=>?_⟩
    . obtain⟨g1,g2,g3⟩:=hj;refine ⟨by rw[c3];simpa using g1,?_,?_⟩<;>(rw[c3,qbw _ _ _ _ b1];split<;>omega)
    . have gi:Gd S6 i:=(by refine ⟨by rw[c3];simpa using b1,?_,?_⟩<;>(rw[c3,qbw _ _ _ _ b1,if_pos rfl];omega))
      simp only[List.cons_append,List.nil_append,List.mem_cons,List.not_mem_nil,or_false] at hx;rcases hx with rfl | rfl
      . exact⟨gi,je,hi.1⟩
      . refine ⟨gi,by dsimp only;rw[List.length_append,List.length_singleton];omega,?_⟩;have:=p1.1;rw[s5] at this;exact this
   split at hfin
   . rename_i hl;cases hfin
     have lt:Law S1 S4 (([⟨i,true,z.s,S1.seen⟩]++[⟨i,true,z.t,S1.seen++[z.s]⟩])++SB z.b (S1.seen++[z.s]++[z.t])):=by
      rw[s6] at l4;exact l6.trans l4
     have hx2:S4.seen=S1.seen++([z.s]++[z.t]++x):=(by rw[hx,s6];simp)
     exact⟨take_law lt hx2 hl,by dsimp only;rw[hx2,List.take_left'];rfl⟩
   . cases hfin
 split at h
 . rename_i hk0 hk1 hk2 hk3 hk;rw[if_neg Y,if_neg Y,if_neg Y,if_neg Y,if_neg Y,if_pos hk,if_neg Y];exact qbZ hB h
 . rename_i hk0 hk1 hk2 hk3 hk4 hk5;cases h;rw[if_neg Y,if_neg Y,if_neg Y,if_neg Y,if_neg Y,if_neg Y,if_neg Y];exact⟨Law.refl _,rfl⟩
def blkS_law (ns:List Nd):∀ (f:Nat) (i:Int) (S R:Sc),blkS ns f i S=some R->Law S R (qau ns f i S.seen)/\∃ x,R.seen=S.seen++x:=by
 intro f
 induction f with
 | zero =>
  intro i S R h;unfold blkS at h
  split at h
  . cases h;exact⟨Law.refl S,[],zy⟩
  . cases h
 | succ f ih =>
  intro i S R h;by_cases hi:i<0
  . rw[blkS_neg _ _ _ _ hi] at h;cases h;unfold qau;rw[if_pos hi];exact⟨Law.refl S,[],zy⟩
  . unfold blkS at h;rw[if_neg hi] at h;unfold qau;rw[if_neg hi]
    split at h
    . cases h
    . rename_i z hz;(try rw[hz]);(try dsimp only);obtain⟨S1,h1,h⟩:=qab h;obtain⟨l1,e1⟩:=stmS_law (fun i S R h=>exprS_law ns f i S R h) (fun i S R h=>ih i S R h) h1;obtain⟨l2,x,e2⟩:=ih _ _ _ h;rw[e1] at l2;refine ⟨l1.trans l2,?_⟩;rw[e2,e1];split
      . exact⟨[z.s]++x,zy⟩
      . exact⟨x,rfl⟩
def Sc.start (n:Nat):Sc:=⟨[],0,List.replicate n (-1),[],[],0,0⟩
def qgn (h:mayB ns fi=true):∃ R,qbg (blkS ns ns.length) fi (-1) [] (Sc.start ns.length)=some R/\R.slots.length=ns.length/\R.slots.length<=512 /\
  (R.e=0->R.free=[]/\0<=R.most/\R.most<=32/\∀ x∈qau ns ns.length fi [],Good R x):=by
 obtain⟨n,hn,t⟩:=qgJ h;have h5:=(qbC h).1
 have hr:Room ns.length (Sc.start ns.length) (n+0):=by
  refine ⟨by simp[Sc.start],by simp[Sc.start];omega,by simp[Sc.start];omega,by simp[Sc.start];omega⟩
 obtain⟨R,h1,h2,h3⟩:=qbG (B:=blkS ns ns.length) (first:=fi) (i:=-1) (names:=[]) (n:=n) (c:=0) (fun S hS=>blkS_room ns ns.length fi n S t hn hS) zy hr;have hs:R.slots.length=ns.length:=by rw[h2.2.2.1];simp[Sc.start]
 refine ⟨R,h1,hs,Y,fun e=>?_⟩;obtain⟨l,_⟩:=qbZ (fun i S R h=>blkS_law ns ns.length i S R h) h1;obtain⟨_,k⟩:=l e;obtain⟨i1,q1,g1⟩:=k ⟨by simp[Sc.start],by simp[Sc.start],by simp[Sc.start]⟩;exact⟨q1.2.2.2,by have:=i1.2.1;omega,i1.2.2,g1⟩
structure Cin where
 op:Int
 a:Int
 b:Int
 nd:Int
structure Mk where
 ins:List Cin
 vals:List (Int × Int × ByteArray)
 now:Int
 high:Int
def Mk.add (M:Mk) (op a b nd h:Int):Option Mk :=
 if M.ins.length<=100000/\-100000<=M.now/\M.now<=100000/\-10<=h/\h<=10 then some { M with ins:=M.ins++[⟨op,a,b,nd⟩],now:=M.now+h,high:=max M.high (M.now+h) } else none
def Mk.setA (M:Mk) (j:Nat):Option Mk :=
 match M.ins[j]? with
 | none=>none
 | some x=>if M.ins.length<=100000 then some { M with ins:=M.ins.set j { x with a:=(M.ins.length:Int) } } else none
def Mk.setB (M:Mk) (j:Nat):Option Mk :=
 match M.ins[j]? with
 | none=>none
 | some x=>if M.ins.length<=100000 then some { M with ins:=M.ins.set j { x with b:=(M.ins.length:Int) } } else none
def veq (v u:Int × Int × ByteArray):Bool:=v.1==u.1&&(v.2.1==u.2.1&&(v.2.2.toList==u.2.2.toList))
def vidx (v:Int × Int × ByteArray):List (Int × Int × ByteArray)->Int->Int
 | [],_=>-1
 | u::l,j=>if veq u v=true then j else vidx v l (j+1)
def Mk.value (M:Mk) (v:Int × Int × ByteArray):Option (Mk × Int) :=
 if M.vals.length<=100000 then
  if 0<=vidx v M.vals 0 then some (M,vidx v M.vals 0) else some ({ M with vals:=M.vals++[v] },(M.vals.length:Int))
 else none
def andS:ByteArray:=⟨#[97,110,100]⟩
def orS:ByteArray:=⟨#[111,114]⟩
def signsL:List ByteArray:=[⟨#[61,61]⟩,⟨#[33,61]⟩,⟨#[60]⟩,⟨#[60,61]⟩,⟨#[62]⟩,⟨#[62,61]⟩,⟨#[43]⟩,⟨#[45]⟩,⟨#[42]⟩,⟨#[47]⟩,⟨#[37]⟩,⟨#[46,46]⟩]
def sidx (s:ByteArray):List ByteArray->Int->Int
 | [],_=>-1
 | u::l,j=>if (u.toList==s.toList)=true then j else sidx s l (j+1)
def csgF (s:ByteArray):Int:=sidx s signsL 0
def twoM (E:Int->Mk->Option Mk) (i:Nat) (z:Nd) (M:Mk):Option Mk :=
 (E z.a M).bind fun M0 =>
 if z.s=andS\/z.s=orS then
  (M0.add 5 0 (if z.s=orS then 1 else 0) i (-1)).bind fun M1=>(E z.b M1).bind fun M2=>(M2.add 6 0 0 i 0).bind fun M3=>M3.setA M0.ins.length
 else(E z.b M0).bind fun M1=>M1.add 4 (csgF z.s) 0 i (-1)
def exprM (ns:List Nd) (sl:List Int):Nat->Int->Mk->Option Mk
 | 0,_,_=>none
 | f+1,i,M =>
  if i<0 then none else
  match ns[i.toNat]? with
  | none=>none
  | some z =>
   if z.k=0\/z.k=1\/z.k=2\/z.k=3 then(M.value (z.k,z.i,z.s)).bind fun q=>q.1.add 0 q.2 0 (i.toNat:Nat) 1
   else if z.k=4 then(sl[i.toNat]?).bind fun j=>M.add 1 j 0 (i.toNat:Nat) 1
   else if z.k=11 then twoM (exprM ns sl f) i.toNat z M
   else(exprM ns sl f z.a M).bind fun M1=>M1.add 3 z.k 0 (i.toNat:Nat) 0
def loopM (B:Int->Mk->Option Mk) (op a:Int) (i:Nat) (bl:Int) (M:Mk):Option Mk :=
 (M.add op a 0 i 0).bind fun M1=>(B bl M1).bind fun M2=>(M2.add 9 M.ins.length 0 i 0).bind fun M3=>M3.setB M.ins.length
def ifM (B:Int->Mk->Option Mk) (i:Nat) (z:Nd) (M:Mk):Option Mk :=
 (M.add 8 0 0 i (-1)).bind fun M1=>(B z.b M1).bind fun M2 =>
  if z.c<0 then M2.setA M.ins.length
  else(M2.add 9 0 0 i 0).bind fun M3=>(M3.setA M.ins.length).bind fun M4=>(B z.c M4).bind fun M5=>M5.setA M2.ins.length
def stmKM (E B:Int->Mk->Option Mk) (sl:List Int) (i:Nat) (z:Nd) (M:Mk):Option Mk :=
 if z.k=20\/z.k=21 then(sl[i]?).bind fun j=>M.add 2 j 0 i (-1)
 else if z.k=22 then(E z.b M).bind fun M1=>M1.add 10 0 0 i (-2)
 else if z.k=23 then M.add 11 0 0 i (-1)
 else if z.k=27 then M.add 16 0 0 i (-1)
 else if z.k=28 then M.add 17 0 0 i (-1)
 else if z.k=24 then ifM B i z M
 else if z.k=25 then(M.add 12 0 z.i i (-1)).bind fun M1=>(sl[i]?).bind fun j=>loopM B 13 j i z.b M1
 else if z.k=26 then(M.add 14 z.i 0 i 0).bind fun M1=>loopM B 15 0 i z.b M1
 else some M
def stmM (E B:Int->Mk->Option Mk) (sl:List Int) (i:Nat) (z:Nd) (M:Mk):Option Mk :=
 (if z.k=26 then some M else E z.a M).bind fun M1=>stmKM E B sl i z M1
def blkM (ns:List Nd) (sl:List Int):Nat->Int->Mk->Option Mk
 | 0,i,M=>if i<0 then some M else none
 | f+1,i,M=>if i<0 then some M else
  match ns[i.toNat]? with
  | none=>none
  | some z=>(M.add 7 0 0 (i.toNat:Nat) 0).bind fun M1=>(stmM (exprM ns sl f) (blkM ns sl f) sl i.toNat z M1).bind fun M2=>blkM ns sl f z.x M2
def Mk.start:Mk:=⟨[],[],0,0⟩
def codeF (ns:List Nd) (fi:Int) (sl:List Int):Option Mk:=(blkM ns sl ns.length fi Mk.start).bind fun M=>M.add 18 0 0 (-1) 0
def VOk (v:Int × Int × ByteArray):Prop:=(v.1=0/\v.2.1=0/\v.2.2.size=0)\/(v.1=1/\(v.2.1=0\/v.2.1=1)/\v.2.2.size=0)\/(v.1=2/\v.2.2.size=0)\/(v.1=3/\v.2.1=0/\v.2.2.size<=64)
def EK (ns:List Nd) (i:Int):Prop:=∃ (j:Nat) (z:Nd),i=(j:Int)/\ns[j]?=some z/\z.k<20
def SK (ns:List Nd) (i:Int):Prop:=i<0\/∃ (j:Nat) (z:Nd),i=(j:Int)/\ns[j]?=some z/\20<=z.k
structure NK (ns:List Nd) (z:Nd):Prop where
 kd:qcm z.k=true
 ea:shA z.k=true->EK ns z.a
 eb:shB z.k=true->EK ns z.b
 sb:shBB z.k=true->SK ns z.b
 sc:SK ns z.c
 sx:SK ns z.x
 vv:z.k=0\/z.k=1\/z.k=2\/z.k=3->VOk (z.k,z.i,z.s)
def Fine (N:Nat) (M:Mk):Prop:=(∀ x∈M.ins,-1<=x.nd/\x.nd<(N:Int))/\(∀ v∈M.vals,VOk v)
structure MG (N:Nat) (M R:Mk) (n:Nat) (h:Int):Prop where
 l1:M.ins.length<=R.ins.length
 l2:R.ins.length<=M.ins.length+4*n
 v2:R.vals.length<=M.vals.length+n
 nw:R.now=M.now+h
 h1:M.high<=R.high
 h2:R.high<=max M.high (M.now+n)
 fn:Fine N M->Fine N R
structure MR (M:Mk) (n:Nat):Prop where
 l:M.ins.length+4*n<=90000
 v:M.vals.length+n<=90000
 n0:0<=M.now
 n1:M.now+n<=90000
def MG.refl (N:Nat) (M:Mk) (n:Nat):MG N M M n 0:=⟨Nat.le_refl _,Y,Y,Y,Int.le_refl _,Y,id⟩
def qaD {M:Mk} (op a b nd h:Int) (hl:M.ins.length<=100000) (h0:-100000<=M.now) (h1:M.now<=100000) (h2:-10<=h) (h3:h<=10) (hn:-1<=nd/\nd<(N:Int)) :
  ∃ R,M.add op a b nd h=some R/\R.ins.length=M.ins.length+1/\R.vals=M.vals/\R.now=M.now+h/\R.high=max M.high (M.now+h)/\(Fine N M->Fine N R):=by
 refine ⟨{ M with ins:=M.ins++[⟨op,a,b,nd⟩],now:=M.now+h,high:=max M.high (M.now+h) },by unfold Mk.add;rw[if_pos ⟨hl,h0,h1,h2,h3⟩],zy,rfl,rfl,rfl,fun hf=>⟨fun x hx=>?_,hf.2⟩⟩;rcases List.mem_append.1 hx with h | h
 . exact hf.1 x h
 . obtain rfl:=List.mem_singleton.1 h;exact hn
def qdu {M:Mk} (j:Nat) (hj:j<M.ins.length) (hl:M.ins.length<=100000):∃ R,M.setA j=some R/\R.ins.length=M.ins.length/\R.vals=M.vals/\R.now=M.now/\R.high=M.high/\(Fine N M->Fine N R):=by
 have hx:=List.getElem?_eq_getElem hj;refine ⟨{ M with ins:=M.ins.set j { M.ins[j] with a:=(M.ins.length:Int) } },by unfold Mk.setA;rw[hx];dsimp only;rw[if_pos hl],zy,rfl,rfl,rfl,fun hf=>⟨fun x hm=>?_,hf.2⟩⟩;dsimp only at hm;rcases List.mem_or_eq_of_mem_set hm with h | h
 . exact hf.1 x h
 . subst h;exact hf.1 M.ins[j] (List.mem_of_getElem? hx)
def setB_room {M:Mk} (j:Nat) (hj:j<M.ins.length) (hl:M.ins.length<=100000):∃ R,M.setB j=some R/\R.ins.length=M.ins.length/\R.vals=M.vals/\R.now=M.now/\R.high=M.high/\(Fine N M->Fine N R):=by
 have hx:=List.getElem?_eq_getElem hj;refine ⟨{ M with ins:=M.ins.set j { M.ins[j] with b:=(M.ins.length:Int) } },by unfold Mk.setB;rw[hx];dsimp only;rw[if_pos hl],zy,rfl,rfl,rfl,fun hf=>⟨fun x hm=>?_,hf.2⟩⟩;dsimp only at hm;rcases List.mem_or_eq_of_mem_set hm with h | h
 . exact hf.1 x h
 . subst h;exact hf.1 M.ins[j] (List.mem_of_getElem? hx)
def value_room {M:Mk} {v:Int × Int × ByteArray} (hl:M.vals.length<=100000) (hv:VOk v):∃ R j,M.value v=some (R,j)/\R.ins=M.ins/\R.vals.length<=M.vals.length+1/\R.now=M.now/\R.high=M.high/\(Fine N M->Fine N R):=by
 unfold Mk.value;rw[if_pos hl];by_cases h:0<=vidx v M.vals 0
 . exact⟨M,vidx v M.vals 0,by rw[if_pos h],rfl,Y,rfl,rfl,id⟩
 . refine ⟨{ M with vals:=M.vals++[v] },(M.vals.length:Int),by rw[if_neg h],rfl,zy,rfl,rfl,fun hf=>⟨hf.1,fun u hu=>?_⟩⟩;rcases List.mem_append.1 hu with h | h
   . exact hf.2 u h
   . obtain rfl:=List.mem_singleton.1 h;exact hv
def ek_tr (h:EK ns i) (t:Tr ns i n):1<=n:=by
 obtain⟨j,z,rfl,_,_⟩:=h
 cases t with
 | neg h=>omega
 | node=>omega
def qfT (ns:List Nd) (sl:List Int) (hs:ns.length<=sl.length) (hk:∀ (j:Nat) (z:Nd),ns[j]?=some z->NK ns z):∀ (f:Nat) (i:Int) (n:Nat) (M:Mk),EK ns i->Tr ns i n->n<=f->MR M n->∃ R,exprM ns sl f i M=some R/\MG ns.length M R n 1:=by
 intro f
 induction f with
 | zero =>
  intro i n M e t hf hr;have:=ek_tr e t
  omega
 | succ f ih =>
  intro i n M e t hf hr;obtain⟨j,z,rfl,hz,h20⟩:=e;have hj:=(List.getElem?_eq_some_iff.1 hz).1;obtain⟨_,z',na,nb,nc,nx,e',hz',ta,tb,tc,tx,rfl⟩:=qck t Y;cases e';obtain rfl:z=z':=Option.some.inj (hz.symm.trans hz');have K:=hk j z hz;obtain⟨r1,r2,r3,r4⟩:=hr;have hnd:(-1:Int)<=(j:Int)/\(j:Int)<(ns.length:Int):=Y;unfold exprM;rw[if_neg Y,Int.toNat_natCast,hz];dsimp only;split
  . rename_i hc;obtain⟨R1,q,e1,d1,d2,d3,d4,d5⟩:=value_room (N:=ns.length) (M:=M) Y (K.vv hc);rw[e1];dsimp only[Option.bind];obtain⟨R,e2,c1,c2,c3,c4,c5⟩:=qaD (N:=ns.length) (M:=R1) 0 q 0 j 1 (by rw[d1];omega) Y Y Y Y hnd;refine ⟨R,e2,by rw[c1,d1];omega,by rw[c1,d1];omega,by rw[c2];omega,by rw[c3,d3],by rw[c4,d4];omega,by rw[c4,d3,d4];omega,fun hf=>c5 (d5 hf)⟩
  split
  . obtain⟨q,hq⟩:∃ q,sl[j]?=some q:=⟨_,List.getElem?_eq_getElem Y⟩
    rw[hq];dsimp only[Option.bind];obtain⟨R,e2,c1,c2,c3,c4,c5⟩:=qaD (N:=ns.length) (M:=M) 1 q 0 j 1 Y Y Y Y Y hnd;exact⟨R,e2,Y,Y,by rw[c2];omega,c3,Y,Y,c5⟩
  rename_i hn hn4;have hkd:=K.kd;unfold qcm at hkd;simp only[List.contains_iff_mem,List.mem_cons,List.not_mem_nil,or_false] at hkd;split
  . rename_i h11;have E1:=K.ea (by rw[h11];decide);have E2:=K.eb (by rw[h11];decide);have p1:=ek_tr E1 ta;have p2:=ek_tr E2 tb;unfold twoM;obtain⟨M0,e0,g0⟩:=ih _ na M E1 ta Y ⟨Y,Y,r3,Y⟩;obtain⟨a1,a2,a3,a4,a5,a6,a7⟩:=g0;rw[e0];dsimp only[Option.bind];split
    . obtain⟨M1,e1,c1,c2,c3,c4,c5⟩:=qaD (N:=ns.length) (M:=M0) 5 0 (if z.s=orS then 1 else 0) j (-1) Y Y Y Y Y hnd;rw[e1];dsimp only;obtain⟨M2,e2,g2⟩:=ih _ nb M1 E2 tb Y ⟨Y,by rw[c2];omega,Y,Y⟩;obtain⟨b1,b2,b3,b4,b5,b6,b7⟩:=g2;rw[e2];dsimp only;obtain⟨M3,e3,x1,x2,x3,x4,x5⟩:=qaD (N:=ns.length) (M:=M2) 6 0 0 j 0 Y Y Y Y Y hnd;rw[e3];dsimp only;obtain⟨R,e4,y1,y2,y3,y4,y5⟩:=qdu (N:=ns.length) (M:=M3) M0.ins.length Y Y;refine ⟨R,e4,Y,Y,by rw[y2,x2];rw[c2] at b3;omega,Y,Y,Y,fun hf=>y5 (x5 (b7 (c5 (a7 hf))))⟩
    . obtain⟨M1,e1,g1⟩:=ih _ nb M0 E2 tb Y ⟨Y,Y,Y,Y⟩;obtain⟨b1,b2,b3,b4,b5,b6,b7⟩:=g1;rw[e1];dsimp only;obtain⟨R,e2,c1,c2,c3,c4,c5⟩:=qaD (N:=ns.length) (M:=M1) 4 (csgF z.s) 0 j (-1) Y Y Y Y Y hnd;refine ⟨R,e2,Y,Y,by rw[c2];omega,Y,Y,Y,fun hf=>c5 (b7 (a7 hf))⟩
  . rename_i h11
    have hA:shA z.k=true:=by
     have:z.k=5\/z.k=6\/z.k=7\/z.k=8\/z.k=9\/z.k=10:=by omega
     rcases this with h | h | h | h | h | h<;>rw[h]<;>decide
    have E1:=K.ea hA;have p1:=ek_tr E1 ta;obtain⟨M0,e0,g0⟩:=ih _ na M E1 ta Y ⟨Y,Y,r3,Y⟩;obtain⟨a1,a2,a3,a4,a5,a6,a7⟩:=g0;rw[e0];dsimp only[Option.bind];obtain⟨R,e2,c1,c2,c3,c4,c5⟩:=qaD (N:=ns.length) (M:=M0) 3 z.k 0 j 0 Y Y Y Y Y hnd;exact⟨R,e2,Y,Y,by rw[c2];omega,Y,Y,Y,fun hf=>c5 (a7 hf)⟩
def BR (ns:List Nd) (B:Int->Mk->Option Mk) (i:Int) (n:Nat):Prop:=∀ M,MR M n->∃ R,B i M=some R/\MG ns.length M R n 0
def qfL {B:Int->Mk->Option Mk} {bl:Int} (hB:BR ns B bl n) (op a:Int) (j:Nat) (hj:j<ns.length) (M:Mk) (hl:M.ins.length+2+4*n<=90000) (hv:M.vals.length+n<=90000) (n0:0<=M.now) (n1:M.now+n<=90000) :
  ∃ R,loopM B op a j bl M=some R/\M.ins.length<=R.ins.length/\R.ins.length<=M.ins.length+2+4*n/\R.vals.length<=M.vals.length+n/\R.now=M.now/\M.high<=R.high/\R.high<=max M.high (M.now+n)/\(Fine ns.length M->Fine ns.length R):=by
 have hnd:(-1:Int)<=(j:Int)/\(j:Int)<(ns.length:Int):=Y;unfold loopM;obtain⟨M1,e1,c1,c2,c3,c4,c5⟩:=qaD (N:=ns.length) (M:=M) op a 0 j 0 Y Y Y Y Y hnd;rw[e1];dsimp only[Option.bind];obtain⟨M2,e2,b1,b2,b3,b4,b5,b6,b7⟩:=hB M1 ⟨Y,by rw[c2];omega,Y,Y⟩;rw[e2];dsimp only;obtain⟨M3,e3,x1,x2,x3,x4,x5⟩:=qaD (N:=ns.length) (M:=M2) 9 M.ins.length 0 j 0 Y Y Y Y Y hnd;rw[e3];dsimp only;obtain⟨R,e4,y1,y2,y3,y4,y5⟩:=setB_room (N:=ns.length) (M:=M3) M.ins.length Y Y;rw[c2] at b3;exact⟨R,e4,Y,Y,by rw[y2,x2];omega,Y,Y,Y,fun hf=>y5 (x5 (b7 (c5 hf)))⟩
def stmM_room {sl:List Int} (hs:ns.length<=sl.length) {E B:Int->Mk->Option Mk} {j:Nat} {z:Nd} (hj:j<ns.length) (K:NK ns z) (h20:20<=z.k) {na nb nc:Nat}
  (hE:∀ M,shA z.k=true->MR M na->∃ R,E z.a M=some R/\MG ns.length M R na 1) (pa:shA z.k=true->1<=na) (hE2:∀ M,shB z.k=true->MR M nb->∃ R,E z.b M=some R/\MG ns.length M R nb 1) (pb:shB z.k=true->1<=nb) (hB:shBB z.k=true->BR ns B z.b nb) (hC:BR ns B z.c nc)
  (M:Mk) (hl:M.ins.length+3+4*(na+nb+nc)<=90000) (hv:M.vals.length+(na+nb+nc)<=90000) (n0:0<=M.now) (n1:M.now+(na+nb+nc:Nat)<=90000) :
  ∃ R,stmM E B sl j z M=some R/\M.ins.length<=R.ins.length/\R.ins.length<=M.ins.length+3+4*(na+nb+nc)/\R.vals.length<=M.vals.length+(na+nb+nc)/\R.now=M.now/\M.high<=R.high/\R.high<=max M.high (M.now+(na+nb+nc:Nat))/\(Fine ns.length M->Fine ns.length R):=by
 have hnd:(-1:Int)<=(j:Int)/\(j:Int)<(ns.length:Int):=Y;have hkd:=K.kd;unfold qcm at hkd;simp only[List.contains_iff_mem,List.mem_cons,List.not_mem_nil,or_false] at hkd;obtain⟨q,hq⟩:∃ q,sl[j]?=some q:=⟨_,List.getElem?_eq_getElem Y⟩
 unfold stmM stmKM;by_cases h26:z.k=26
 . rw[if_pos h26];dsimp only[Option.bind];rw[if_neg Y,if_neg Y,if_neg Y,if_neg Y,if_neg Y,if_neg Y,if_neg Y,if_pos h26];obtain⟨M1,e1,c1,c2,c3,c4,c5⟩:=qaD (N:=ns.length) (M:=M) 14 z.i 0 j 0 Y Y Y Y Y hnd;rw[e1];dsimp only;obtain⟨R,e2,b1,b2,b3,b4,b5,b6,b7⟩:=qfL (hB (by rw[h26];decide)) 15 0 j hj M1 Y (by rw[c2];omega) Y Y;rw[c2] at b3;exact⟨R,e2,Y,Y,Y,Y,Y,Y,fun hf=>b7 (c5 hf)⟩
 rw[if_neg h26]
 have hA:shA z.k=true:=by
  have:z.k=20\/z.k=21\/z.k=22\/z.k=23\/z.k=24\/z.k=25\/z.k=27\/z.k=28:=by omega
  rcases this with h | h | h | h | h | h | h | h<;>rw[h]<;>decide
 have p1:=pa hA;obtain⟨M0,e0,a1,a2,a3,a4,a5,a6,a7⟩:=hE M hA ⟨Y,Y,n0,Y⟩;rw[e0];dsimp only[Option.bind];by_cases h:z.k=20\/z.k=21
 . rw[if_pos h,hq];dsimp only;obtain⟨R,e2,c1,c2,c3,c4,c5⟩:=qaD (N:=ns.length) (M:=M0) 2 q 0 j (-1) Y Y Y Y Y hnd;exact⟨R,e2,Y,Y,by rw[c2];omega,Y,Y,Y,fun hf=>c5 (a7 hf)⟩
 rw[if_neg h];have q1:=h;clear h;by_cases h:z.k=22
 . rw[if_pos h];have hB2:shB z.k=true:=by rw[h];decide
   have p2:=pb hB2;obtain⟨M1,e1,b1,b2,b3,b4,b5,b6,b7⟩:=hE2 M0 hB2 ⟨Y,Y,Y,Y⟩;rw[e1];dsimp only;obtain⟨R,e2,c1,c2,c3,c4,c5⟩:=qaD (N:=ns.length) (M:=M1) 10 0 0 j (-2) Y Y Y Y Y hnd;exact⟨R,e2,Y,Y,by rw[c2];omega,Y,Y,Y,fun hf=>c5 (b7 (a7 hf))⟩
 rw[if_neg h];have q2:=h;clear h
 have one:∀ op,∃ R,M0.add op 0 0 j (-1)=some R/\M.ins.length<=R.ins.length/\R.ins.length<=M.ins.length+3+4*(na+nb+nc)/\R.vals.length<=M.vals.length+(na+nb+nc)/\R.now=M.now/\M.high<=R.high/\R.high<=max M.high (M.now+(na+nb+nc:Nat))/\(Fine ns.length M->Fine ns.length R):=fun op=>by
  obtain⟨R,e2,c1,c2,c3,c4,c5⟩:=qaD (N:=ns.length) (M:=M0) op 0 0 j (-1) Y Y Y Y Y hnd;exact⟨R,e2,Y,Y,by rw[c2];omega,Y,Y,Y,fun hf=>c5 (a7 hf)⟩
 by_cases h:z.k=23
 . rw[if_pos h];exact one 11
 rw[if_neg h];have q3:=h;clear h;by_cases h:z.k=27
 . rw[if_pos h];exact one 16
 rw[if_neg h];have q4:=h;clear h;by_cases h:z.k=28
 . rw[if_pos h];exact one 17
 rw[if_neg h];have q5:=h;clear h one;by_cases h:z.k=24
 . rw[if_pos h];have HB:=hB (by rw[h];decide);unfold ifM;obtain⟨M1,e1,c1,c2,c3,c4,c5⟩:=qaD (N:=ns.length) (M:=M0) 8 0 0 j (-1) Y Y Y Y Y hnd;rw[e1];dsimp only[Option.bind];obtain⟨M2,e2,b1,b2,b3,b4,b5,b6,b7⟩:=HB M1 ⟨Y,by rw[c2];omega,Y,Y⟩;rw[c2] at b3;rw[e2];dsimp only;split
   . obtain⟨R,e4,y1,y2,y3,y4,y5⟩:=qdu (N:=ns.length) (M:=M2) M0.ins.length Y Y;exact⟨R,e4,Y,Y,by rw[y2];omega,Y,Y,Y,fun hf=>y5 (b7 (c5 (a7 hf)))⟩
   . obtain⟨M3,e3,x1,x2,x3,x4,x5⟩:=qaD (N:=ns.length) (M:=M2) 9 0 0 j 0 Y Y Y Y Y hnd;rw[e3];dsimp only;obtain⟨M4,e4,y1,y2,y3,y4,y5⟩:=qdu (N:=ns.length) (M:=M3) M0.ins.length Y Y;rw[e4];dsimp only;obtain⟨M5,e5,u1,u2,u3,u4,u5,u6,u7⟩:=hC M4 ⟨Y,by rw[y2,x2];omega,Y,Y⟩;rw[e5];dsimp only;obtain⟨R,e6,t1,t2,t3,t4,t5⟩:=qdu (N:=ns.length) (M:=M5) M2.ins.length Y Y;rw[y2,x2] at u3;exact⟨R,e6,Y,Y,by rw[t2];omega,Y,Y,Y,fun hf=>t5 (u7 (y5 (x5 (b7 (c5 (a7 hf))))))⟩
 rw[if_neg h];have h25:z.k=25:=Y;rw[if_pos h25];obtain⟨M1,e1,c1,c2,c3,c4,c5⟩:=qaD (N:=ns.length) (M:=M0) 12 0 z.i j (-1) Y Y Y Y Y hnd;rw[e1];dsimp only;rw[hq];dsimp only;obtain⟨R,e2,b1,b2,b3,b4,b5,b6,b7⟩:=qfL (hB (by rw[h25];decide)) 13 q j hj M1 Y (by rw[c2];omega) Y Y;rw[c2] at b3;exact⟨R,e2,Y,Y,Y,Y,Y,Y,fun hf=>b7 (c5 (a7 hf))⟩
def blkM_neg (ns:List Nd) (sl:List Int) (f:Nat) (i:Int) (M:Mk) (h:i<0):blkM ns sl f i M=some M:=by
 cases f<;>(unfold blkM;rw[if_pos h])
def blkM_room (ns:List Nd) (sl:List Int) (hs:ns.length<=sl.length) (hk:∀ (j:Nat) (z:Nd),ns[j]?=some z->NK ns z):∀ (f:Nat) (i:Int) (n:Nat),SK ns i->Tr ns i n->n<=f->BR ns (blkM ns sl f) i n:=by
 intro f
 induction f with
 | zero =>
  intro i n e t hf M hr;rcases e with e | ⟨j,z,rfl,hz,h20⟩
  . exact⟨M,blkM_neg _ _ _ _ _ e,MG.refl _ _ _⟩
  . obtain⟨_,z',na,nb,nc,nx,e',hz',ta,tb,tc,tx,rfl⟩:=qck t Y
    omega
 | succ f ih =>
  intro i n e t hf M hr;rcases e with e | ⟨j,z,rfl,hz,h20⟩
  . exact⟨M,blkM_neg _ _ _ _ _ e,MG.refl _ _ _⟩
  have hj:=(List.getElem?_eq_some_iff.1 hz).1;obtain⟨_,z',na,nb,nc,nx,e',hz',ta,tb,tc,tx,rfl⟩:=qck t Y;cases e';obtain rfl:z=z':=Option.some.inj (hz.symm.trans hz');have K:=hk j z hz;obtain⟨r1,r2,r3,r4⟩:=hr;unfold blkM;rw[if_neg Y,Int.toNat_natCast,hz];dsimp only;obtain⟨M1,e1,c1,c2,c3,c4,c5⟩:=qaD (N:=ns.length) (M:=M) 7 0 0 j 0 Y Y Y Y Y ⟨Y,Y⟩;rw[e1];dsimp only[Option.bind];obtain⟨M2,e2,b1,b2,b3,b4,b5,b6,b7⟩:=stmM_room hs (E:=exprM ns sl f) (B:=blkM ns sl f) hj K h20 (na:=na) (nb:=nb) (nc:=nc) (fun M ha hm=>qfT ns sl hs hk f _ _ M (K.ea ha) ta Y hm) (fun ha=>ek_tr (K.ea ha) ta) (fun M ha hm=>qfT ns sl hs hk f _ _ M (K.eb ha) tb Y hm) (fun ha=>ek_tr (K.eb ha) tb) (fun ha=>ih _ _ (K.sb ha) tb Y) (ih _ _ K.sc tc Y) M1 Y (by rw[c2];omega) Y Y;rw[e2];dsimp only;rw[c2] at b3;obtain⟨R,e3,x1,x2,x3,x4,x5,x6,x7⟩:=ih _ _ K.sx tx Y M2 ⟨Y,Y,Y,Y⟩;exact⟨R,e3,Y,Y,Y,Y,Y,Y,fun hf=>x7 (b7 (c5 hf))⟩
def codeF_law {sl:List Int} (hs:ns.length<=sl.length) (hk:∀ (j:Nat) (z:Nd),ns[j]?=some z->NK ns z) (hf:SK ns fi) {n:Nat} (t:Tr ns fi n) (hn:n<=ns.length) (h512:ns.length<=512) :
  ∃ M,codeF ns fi sl=some M/\1<=M.ins.length/\M.ins.length<=4*ns.length+1/\0<=M.high/\M.high<=(ns.length:Int)+1/\Fine ns.length M/\M.vals.length<=ns.length:=by
 obtain⟨M,e,b1,b2,b3,b4,b5,b6,b7⟩:=blkM_room ns sl hs hk ns.length fi n hf t hn Mk.start ⟨by simp[Mk.start];omega,by simp[Mk.start];omega,Int.le_refl _,by simp[Mk.start];omega⟩;simp only[Mk.start,List.length_nil] at b1 b2 b3 b4 b5 b6;obtain⟨R,e2,c1,c2,c3,c4,c5⟩:=qaD (N:=ns.length) (M:=M) 18 0 0 (-1) 0 Y Y Y Y Y ⟨Y,Y⟩;refine ⟨R,by unfold codeF;rw[e];exact e2,Y,Y,Y,Y,c5 (b7 ⟨fun x hx=>(by cases hx),fun x hx=>(by cases hx)⟩),by rw[c2];omega⟩
def takes_ek {k:Int} (h:qam ns k 0 t false=true) (ht:t<=(ns.length:Int)):EK ns k:=by
 have hl:=qbU h;unfold qam qcD at h;simp only[Bool.and_eq_true] at h;obtain⟨j,rfl⟩:∃ j:Nat,k=(j:Int):=⟨k.toNat,Y⟩
 have hj:j<ns.length:=Y;have hz:=List.getElem?_eq_getElem hj;refine ⟨j,ns[j],rfl,hz,?_⟩;have h2:=h.2;rw[Int.toNat_natCast,hz] at h2;dsimp only at h2;have h3:=beq_iff_eq.1 h2;have:=decide_eq_false_iff_not.1 h3.symm;omega
def takes_sk {k f:Int} (h:qam ns k f t true=true) (hf:0<=f) (ht:t<=(ns.length:Int)):SK ns k:=by
 have hl:=qbU h;unfold qam qcD at h;simp only[Bool.and_eq_true] at h;obtain⟨j,rfl⟩:∃ j:Nat,k=(j:Int):=⟨k.toNat,Y⟩
 have hj:j<ns.length:=Y;have hz:=List.getElem?_eq_getElem hj;refine Or.inr ⟨j,ns[j],rfl,hz,?_⟩;have h2:=h.2;rw[Int.toNat_natCast,hz] at h2;dsimp only at h2;have h3:=beq_iff_eq.1 h2;exact of_decide_eq_true h3.symm
def blk_sk {k:Int} (h:blkB ns k t=true) (ht:t<=(ns.length:Int)):SK ns k:=by
 unfold blkB at h;simp only[Bool.or_eq_true,beq_iff_eq] at h;rcases h with h | h
 . exact Or.inl Y
 . exact takes_sk h (Int.le_refl _) ht
def quot_len (h:qbh s=true):s.size<=64:=by
 unfold qbh qbW at h
 split at h
 . simp at h
 . rename_i q;have:s.size=s.data.toList.length:=by rw[<-ByteArray.size_data,<-Array.length_toList]
   omega
def qgy (h:s.toList.isEmpty=true):s.size=0:=by
 have h1:=List.isEmpty_iff.1 h;have h3:(⟨#[]⟩:ByteArray).toList=[]:=by first | kernel_rfl | (unfold ByteArray.toList;unfold ByteArray.toList.loop;rfl)
 have h2:(s.toList==(⟨#[]⟩:ByteArray).toList)=true:=by rw[h1,h3];rfl
 rw[(Lib.bytes_beq_iff _ _).1 h2];rfl
def node_nk {j:Nat} {z:Nd} (hz:ns[j]?=some z) (h:nodeB ns j z=true):NK ns z:=by
 have hj:=(List.getElem?_eq_some_iff.1 hz).1;unfold nodeB at h;simp only[Bool.and_eq_true] at h;obtain⟨hh,⟨⟨ha,hb⟩,hc⟩,hx⟩:=h;unfold qdY at hh;simp only[Bool.and_eq_true] at hh;obtain⟨⟨hk,hn⟩,ht1,ht2⟩:=hh;refine ⟨hk,fun q=>?_,fun q=>?_,fun q=>?_,?_,?_,fun q=>?_⟩
 . unfold aB at ha;rw[if_pos q] at ha;exact takes_ek ha Y
 . unfold bB at hb;rw[if_pos q] at hb;exact takes_ek hb Y
 . unfold bB at hb
   have q2:¬ shB z.k=true:=by
    unfold shBB at q;unfold shB;simp only[List.contains_iff_mem,List.mem_cons,List.not_mem_nil,or_false] at q ⊢;omega
   rw[if_neg q2,if_pos q] at hb;exact blk_sk hb Y
 . unfold cB at hc;simp only[Bool.or_eq_true,Bool.and_eq_true,beq_iff_eq] at hc;rcases hc with h | ⟨_,h⟩
   . exact Or.inl Y
   . exact blk_sk h Y
 . unfold xB at hx;simp only[Bool.or_eq_true,Bool.and_eq_true,beq_iff_eq] at hx;rcases hx with h | ⟨_,h⟩
   . exact Or.inl Y
   . exact takes_sk h Y Y
 . unfold VOk;dsimp only;unfold numOk at hn;unfold txt2 at ht2;rcases q with h | h | h | h
   . rw[h] at hn ht2;exact Or.inl ⟨h,by simpa using hn,qgy (by simpa [shS] using ht2)⟩
   . rw[h] at hn ht2;exact Or.inr (Or.inl ⟨h,by simpa using hn,qgy (by simpa [shS] using ht2)⟩)
   . rw[h] at hn ht2;exact Or.inr (Or.inr (Or.inl ⟨h,qgy (by simpa [shS] using ht2)⟩))
   . rw[h] at hn ht2;exact Or.inr (Or.inr (Or.inr ⟨h,by simpa using hn,quot_len (by simpa using ht2)⟩))
def own_take {e:TypeId} {p:Option Addr} (h:w.ownsRow base e size (.slice p n c) n xs) {m:Nat} (hm:m<=n):w.ownsRow base e size (.slice p m c) m (xs.take (m*size)):=by
 obtain⟨h1,h2⟩:=h;have hle:m*size<=n*size:=Nat.mul_le_mul_right _ hm;refine ⟨by rw[List.length_take,h1];omega,?_⟩;rcases h2 with ⟨h2,h3⟩ | ⟨g,cap,cur,h2,hb,hg,hn,hx,hc,ht⟩
 . simp only[Value.slice.injEq] at h2;obtain⟨rfl,_,rfl⟩:=h2;obtain rfl:m=0:=by omega
   exact Or.inl ⟨rfl,rfl⟩
 . simp only[Value.slice.injEq] at h2;obtain⟨rfl,_,rfl⟩:=h2;exact Or.inr ⟨g,c,cur,rfl,hb,hg,Y,hx,hc,by rw[<-ht,List.take_take,Nat.min_eq_left hle]⟩
def WkV.cutSeen {L:List (Nat × Obj)} {S:Sc} {w:World} {tv mv fv:Value} {p:Option Addr} {n c:Nat} (h:WkV W b nv fi ns L S (.slice p n c) tv mv fv w) (hn:S.seen.length=n) (m:Nat) (hm:m<=n) :
  WkV W b nv fi ns L { S with seen:=S.seen.take m } (.slice p m c) tv mv fv (w.setCell ⟨b,2,none⟩ (.slice p m c)):=by
 have hA:=h.apart;have ho:(Value.slice p m c).ownBlock=(Value.slice p n c).ownBlock:=by cases p<;>rfl
 have hk:∀ (x:Value) (k:Nat),(∀ g,x.ownBlock=some g->g≠b)->x.ownBlock=some k->(w.setCell ⟨b,2,none⟩ (.slice p m c)).heap[k]?=w.heap[k]?:=fun x k hx hk=>heap_set_other _ _ _ _ _ (hx k hk)
 have hs:=h.seen;rw[hn] at hs;have hs2:=own_take hs hm;rw[Nat.mul_one] at hs2;have et:(strV S.seen).take m=strV (S.seen.take m):=by unfold strV;rw[List.map_take]
 have el:(S.seen.take m).length=m:=by rw[List.length_take];omega
 rw[et] at hs2;refine ⟨h.ext.setCell h.base.1 _,KB.setAt (show KB b _ _ w from h.cell) 2 (.slice p m c) zy,own_block h.row fun k q _=>hk nv k (fun g q=>by have:=h.base.2 g q;have:=h.base.1;omega) q,?_,?_,?_,?_,h.base,fun g=>by rw[ho];exact hA g,fun q hq=>⟨(heap_set_other _ _ _ _ _ (h.loc q hq).2.1).trans (h.loc q hq).1,by rw[ho];exact(h.loc q hq).2⟩⟩
 . dsimp only;rw[el];exact own_block hs2 fun k q _=>hk _ k (fun g q=>by rw[ho] at q;exact((hA g).1 q).1) q
 . exact own_block h.slots fun k q _=>hk tv k (fun g q=>((hA g).2.1 q).1) q
 . exact own_block h.made fun k q _=>hk mv k (fun g q=>((hA g).2.2.1 q).1) q
 . exact own_block h.free fun k q _=>hk fv k (fun g q=>(hA g).2.2.2 q) q
def cut_d {L:List (Nat × Obj)} {S:Sc} {w:World} (h:Wk W b nv fi ns L S w) {k1 k2 m:Nat} {T1 T2:TypeId} (h1:KB k1 #[.pointer (some ⟨b,0,none⟩)] T1 w) (h2:KB k2 #[.int .i64 (m:Int)] T2 w) (hm:m<=S.seen.length) (u:FrameMode) :
  CallsD prog 173 #[.pointer (some ⟨k1,0,none⟩),.pointer (some ⟨k2,0,none⟩)] u w fun e u' w'=>u'=u/\(e=.returned (.tuple #[])/\Wk W b nv fi ns L { S with seen:=S.seen.take m } w'):=by
 obtain⟨sv,tv,mv,fv,h⟩:=h;obtain⟨n,hn⟩:∃ n,S.seen.length=n:=⟨_,rfl⟩
 obtain⟨p,c,hv⟩:=qad h.seen;rw[hn] at hv hm;subst hv
 have hnc:n<=c:=by
  have hs:=h.seen;rw[hn] at hs;rcases hs.2 with ⟨e,e0⟩ | ⟨g,cap,cur,e,_,_,e1,_⟩
  . omega
  . simp only[Value.slice.injEq] at e;omega
 have H:=J h;have HN:=J hn;have HM:=J hm;have kb:KB b _ _ w:=h.cell;have x2:=kb.cell 2 _ rfl;have f2:=kb.frozen 2;have lb:=kb.lt;have c1:=h1.cell 0 _ rfl;have c2:=h2.cell 0 _ rfl;have hm0:0<=(m:Int):=Y;have hmc:(m:Int)<=(c:Int):=Y;have hmn:m<=c:=Y;clear kb h h1 h2 hn hm hnc;go_enter_d func173,ntmps173
 go_region
 all_goals
  go_end0;exact⟨rfl,_,_,_,_,(H.out.cutSeen HN.out m HM.out).of_ext ((Ext.refl _).drew)⟩
def NamesAt (L:List (Nat × Obj)) (v:Value) (l:List ByteArray):Prop:=(l=[]/\v=.slice none 0 0)\/∃ g,l.length<=2000/\v=.slice (some ⟨g,0,none⟩) l.length l.length/\(g,Obj.cells (strV l).toArray 9 (0,0))∈L
def BlockC (W:World) (b:Nat) (nv:Value) (fi:Int) (ns:List Nd) (f:Nat):Prop:=∀ (L:List (Nat × Obj)) (S R:Sc) (w:World) (first i:Int) (names:List ByteArray) (v:Value),NamesAt L v names->qbg (blkS ns f) first i names S=some R->Wk W b nv fi ns L S w ->
  Calls prog 135 #[.pointer (some ⟨b,0,none⟩),.int .i64 first,.int .i64 i,v] w fun r w'=>r=.returned (.tuple #[])/\Wk W b nv fi ns L R w'
def StmC (W:World) (b:Nat) (nv:Value) (fi:Int) (ns:List Nd) (f:Nat):Prop:=∀ (L:List (Nat × Obj)) (S R:Sc) (w:World) (j:Nat) (z:Nd),ns[j]?=some z->stmS (exprS ns f) (blkS ns f) j z S=some R->Wk W b nv fi ns L S w ->
  Calls prog 175 #[.pointer (some ⟨b,0,none⟩),.int .i64 (j:Int)] w fun r w'=>r=.returned (.tuple #[])/\Wk W b nv fi ns L R w'
def seesO_cons {l:List ByteArray} {S R:Sc} (h:seesO i (s::l) S=some R):∃ S1,S.seeO s i=some S1/\seesO i l S1=some R:=qab h
def Wk.seen_le {L:List (Nat × Obj)} {S:Sc} {w:World} (h:Wk W b nv fi ns L S w):∃ p n c,S.seen.length=n/\n<=maxLen/\w.cell? ⟨b,2,none⟩=some (.slice p n c)/\b<w.heap.size:=by
 obtain⟨sv,tv,mv,fv,h⟩:=h;obtain⟨p,c,hv⟩:=qad h.seen;have kb:KB b _ _ w:=h.cell;refine ⟨p,S.seen.length,c,rfl,?_,by have:=kb.cell 2 _ rfl;rw[hv] at this;exact this,kb.lt⟩;rcases h.seen.2 with ⟨e,e0⟩ | ⟨g,cap,cur,e,_,_,e1,e2,_⟩
 . omega
 . omega
def blkS_pos {f:Nat} {S R:Sc} (h:0<=i) (hR:blkS ns f i S=some R):∃ g j z S1,f=g+1/\i=((j:Nat):Int)/\ns[j]?=some z/\stmS (exprS ns g) (blkS ns g) j z S=some S1/\blkS ns g z.x S1=some R:=by
 cases f with
 | zero=>unfold blkS at hR;rw[if_neg Y] at hR;cases hR
 | succ g =>
  unfold blkS at hR;rw[if_neg Y] at hR;obtain⟨j,rfl⟩:∃ j:Nat,i=(j:Int):=⟨i.toNat,Y⟩
  rw[Int.toNat_natCast] at hR
  split at hR
  . cases hR
  . rename_i z hz;obtain⟨S1,h1,hR⟩:=qab hR;exact⟨g,j,z,S1,rfl,rfl,hz,h1,hR⟩
def block_of (f:Nat) (hS:∀ g,g<f->StmC W b nv fi ns g):BlockC W b nv fi ns f:=by
 intro L S R w first i names v hv hR h
 unfold qbg at hR;obtain⟨S1,hR1,hR⟩:=qab hR;obtain⟨S2,hR2,hR⟩:=qab hR
 split at hR
 rotate_left
 . cases hR
 rename_i hle;have hRR:=Option.some.inj hR;obtain⟨p,n,c,hn,hnm,x2,lb⟩:=h.seen_le;have hn0:(n:Int)<=9223372036854775807:=by unfold maxLen at hnm;omega
 have HN:=J hn;have HLE:=J hle;have HRR:=J hRR;have HR1:=J hR1;have HR2:=J hR2;have HSS:=J hS;have H0:=J ((h.locNew (.cells #[.pointer (some ⟨b,0,none⟩)] 196 (0,0))).locNew (.cells #[.int .i64 (n:Int)] 3 (0,0)));rw[World.size_alloc] at H0;have HV:=J hv
 obtain⟨vp,vn,vc,hvf,hvn,hv2⟩:∃ vp vn vc,v=.slice vp vn vc/\names.length=vn/\(vn:Int)<=2000:=by
  rcases hv with ⟨rfl,rfl⟩ | ⟨g,_,rfl,_⟩
  . exact⟨_,_,_,rfl,rfl,zy⟩
  . exact⟨_,_,_,rfl,rfl,Y⟩
 subst hvf;have HVN:=J hvn;have hmf:∀ (fn:Fn) (first cap:Array Value) (w:World),(Instr.makeFunc fn first cap).run prog w=.ok (.func fn first cap) w:=fun _ _ _ _=>rfl
 clear hS hR hle hRR hR1 hR2 h hn hnm hv hvn;go_enter_defers func135,ntmps135;go_wp2_with fail;obtain⟨LL,hLL⟩:∃ LL,(w.heap.size+1,Obj.cells #[.int .i64 (n:Int)] 3 (0,0))::(w.heap.size,Obj.cells #[.pointer (some ⟨b,0,none⟩)] 196 (0,0))::L=LL:=⟨_,rfl⟩
 rw[hLL] at H0;have M1:(w.heap.size,Obj.cells #[.pointer (some ⟨b,0,none⟩)] 196 (0,0))∈LL:=by rw[<-hLL];simp
 have M2:(w.heap.size+1,Obj.cells #[.int .i64 (n:Int)] 3 (0,0))∈LL:=by rw[<-hLL];simp
 have M3:=J (fun q (hq:q∈L)=>show q∈LL from by rw[<-hLL];simp[hq]);have HOUT:=J (fun S w (h:Wk W b nv fi ns LL S w)=>show Wk W b nv fi ns L S w from by rw[<-hLL] at h;exact h.locOut.locOut);have HM1:=J M1;have HM2:=J M2;clear hLL M1 M2;generalize hk1:w.heap.size=k1 at *;generalize hW0:(w.alloc (.cells #[.pointer (some ⟨b,0,none⟩)] 196 (0,0))).alloc (.cells #[.int .i64 (n:Int)] 3 (0,0))=W0 at *;clear hk1 hW0 x2;go_loopw [20] (fun y wr=>∃ k:Nat,y=.int .i64 (k:Int)/\k<=vn/\∃ Sk,seesO i (names.drop k) Sk=some S1/\Wk W b nv fi ns LL Sk wr) (fun y _=>vn-(intOf y).toNat)
 case atStart=>exact⟨0,rfl,Nat.zero_le _,S,HR1.out,H0.out⟩
 case round =>
  obtain⟨k,rfl,hk,Sk,hsk,hwk⟩:=hrel;have HK:=J hwk;have HSK:=J hsk;have KP:=J (hwk.locAt HM1.out);have kc:=KP.out.cell 0 _ rfl;have kl:=KP.out.lt;have hk0:0<=(k:Int):=Y;clear hwk hsk;by_cases hlt:k<vn
  . have hkn:(k:Int)<(vn:Int):=Y
    have hv2:∃ g,vp=some ⟨g,0,none⟩/\(g,Obj.cells (strV names).toArray 9 (0,0))∈L:=by
     rcases HV.out with ⟨e,_⟩ | ⟨g,_,e,hm⟩
     . have:=HVN.out;rw[e] at this;simp at this;omega
     . simp only[Value.slice.injEq] at e;exact⟨g,e.1,hm⟩
    obtain⟨g,rfl,hgm⟩:=hv2;have KN:=J (HK.out.locAt (M3.out _ hgm));have hnk:k<names.length:=(by have:=HVN.out;omega)
    obtain⟨s,hs⟩:∃ s,names.getD k ByteArray.empty=s:=⟨_,rfl⟩
    have nc:=KN.out.cell k (.string s) (by rw[<-hs,List.getElem?_toArray];exact qhc names k hnk);have nl:=KN.out.lt;have hdr:names.drop k=s::names.drop (k+1):=(by rw[List.drop_eq_getElem_cons hnk,<-hs,List.getD_eq_getElem?_getD,List.getElem?_eq_getElem hnk];rfl)
    obtain⟨S3,h3,h4⟩:=seesO_cons (by have:=HSK.out;rw[hdr] at this;exact this);have SE:=J (seeO_any HK.out s i h3);have H4:=J h4;have HLT:=J hlt;clear hs hdr h3 h4 hlt hgm hnk
    go_wp2_with ((with_reducible refine SE.out.mono ?_);rintro e' w2 ⟨rfl,h2⟩;have H2:=J h2;clear h2)
    go_roundw
    case rel=>exact⟨k+1,by go_num,by have:=HLT.out;omega,S3,H4.out,H2.out⟩
    case measure=>have:=HLT.out;simp[intOf];omega
  . have hke:k=vn:=Y;subst hke
    have e0:Sk=S1:=by
     have:=HSK.out;rw[List.drop_eq_nil_of_le (by have:=HVN.out;omega)] at this;exact Option.some.inj this
    subst e0;clear hlt hk;go_wp2_with fail;clear kc kl
    go_loopg [11] f (fun g x wr=>∃ (i':Int) (S':Sc),x=.int .i64 i'/\g<=f/\blkS ns g i' S'=some S2/\Wk W b nv fi ns LL S' wr)
    case atStart=>exact⟨first,Sk,rfl,Nat.le_refl _,HR2.out,HK.out⟩
    case round =>
     obtain⟨i',S',rfl,hg,hb,hwk⟩:=hrel;have HG:=J hg;have KP2:=J (hwk.locAt HM1.out);have kc:=KP2.out.cell 0 _ rfl;have kl:=KP2.out.lt;by_cases hi:i'<0
     . rw[blkS_neg _ _ _ _ hi] at hb;have e2:=Option.some.inj hb;subst e2;have HK2:=J hwk;clear hb hwk hg;go_wp2_with fail;have HLN:n<=S'.seen.length:=(by have:=HLE.out;have:=HN.out;omega)
       have HCUT:=J (cut_d HK2.out KP2.out (HK2.out.locAt HM2.out) HLN .returning);clear HLN;refine leaves_cons (f:=173) (args:=#[.pointer (some ⟨k1,0,none⟩),.pointer (some ⟨k1+1,0,none⟩)]) zy (by simp[go_sem]) ?_;refine HCUT.out.mono ?_;rintro e u' w2 ⟨rfl,rfl,h3⟩;exact⟨_,results_none rfl _ _ _,rfl,HOUT.out _ _ (by rw[<-HRR.out,HN.out];exact h3)⟩
     . obtain⟨g0,j,z,S3,rfl,rfl,hz,h1,h2⟩:=blkS_pos Y hb;have ST:=J (HSS.out g0 Y LL S' S3 _ j z hz h1 hwk);have HZ:=J hz;have HB:=J h2;have hj0:0<=(j:Int):=Y;clear hb hwk hg h1 h2 hz hi
       go_wp2_with ((with_reducible refine ST.out.mono ?_);rintro e' w2 ⟨rfl,h2⟩;have H2:=J h2;clear h2;obtain⟨G2,n2,cap2,rfl,hG2,hj2,lb2,c02,_,_,_,_,a42,_,_,_⟩:=H2.out.node HZ.out;have hj3:(j:Int)<(n2:Int):=Y;have KP3:=J (H2.out.locAt HM1.out);have kc3:=KP3.out.cell 0 _ rfl;have kl3:=KP3.out.lt)
       go_roundg g0
       case measure=>omega
       case rel=>exact⟨z.x,S3,rfl,by have:=HG.out;omega,HB.out,H2.out⟩
def WkV.slotRow {L:List (Nat × Obj)} {S R:Sc} {w:World} (h:Wk W b nv fi ns L S w) {i:Nat} (hR:S.slot i=some R):∃ g n2 c2 p n c,i<n2/\n2<=maxLen/\n<=maxLen/\w.cell? ⟨b,4,none⟩=some (.slice (some ⟨g,0,none⟩) n2 c2)/\w.cell? ⟨b,2,none⟩=some (.slice p n c)/\(∃ v,w.cell? ⟨g,i,none⟩=some v)/\w.frozen? ⟨g,i,none⟩=false/\g<w.heap.size/\b<w.heap.size/\Wk W b nv fi ns L R (w.setCell ⟨g,i,none⟩ (.int .i64 (n:Int))):=by
 obtain⟨sv,tv,mv,fv,h⟩:=h;obtain⟨hi,rfl⟩:=qcB hR;obtain⟨p,c,hv⟩:=qad h.seen
 have hnc:S.seen.length<=maxLen:=by
  rcases h.seen.2 with ⟨e,e0⟩ | ⟨g,cap,cur,e,_,_,e1,e2,_⟩<;>omega
 obtain⟨g2,c2,htv,_,hg2⟩:=h.slots.form Y
 have hn2:S.slots.length<=maxLen:=by
  rcases h.slots.2 with ⟨e,e0⟩ | ⟨g,cap,cur,e,_,_,e1,e2,_⟩<;>omega
 subst htv;have kb:KB b _ _ w:=h.cell;have y0:=h.slots.cells (g:=g2) rfl i _ (qen S.slots i hi);rw[Addr.add_lit,Nat.zero_add] at y0;refine ⟨g2,S.slots.length,c2,p,S.seen.length,c,hi,hn2,hnc,kb.cell 4 _ rfl,by have:=kb.cell 2 _ rfl;rw[hv] at this;exact this,⟨_,y0⟩,qfZ h.slots i,hg2,kb.lt,_,_,_,_,h.setSlot i _ hi rfl⟩
def stm_of (f:Nat) (hB:BlockC W b nv fi ns f):StmC W b nv fi ns f:=by
 intro L S R w j z hz hR h;obtain⟨zk,za,zb,zc,zx,zi,zs,zt⟩:=z;obtain⟨G,n,cap,rfl,hG,hj,lb,c0,a0,a1,a2,a3,a4,a5,a6,a7⟩:=h.node hz;dsimp only at a0 a1 a2 a3 a4 a5 a6 a7;unfold stmS at hR;obtain⟨S1,h1,hR⟩:=qab hR;dsimp only at h1 hR;obtain⟨LL,hLL⟩:∃ LL,(w.heap.size,.cells #[.int .i64 zk,.int .i64 za,.int .i64 zb,.int .i64 zc,.int .i64 zx,.int .i64 zi,.string zs,.string zt] 166 (0,0))::L=LL:=⟨_,rfl⟩
 refine yal ?_;intro H0;rw[hLL] at H0;have HM:=J (show(w.heap.size,.cells #[.int .i64 zk,.int .i64 za,.int .i64 zb,.int .i64 zc,.int .i64 zx,.int .i64 zi,.string zs,.string zt] 166 (0,0))∈LL from by rw[<-hLL];simp);have HOUT:=J (fun S w (h:Wk W b (.slice (some ⟨G,0,none⟩) n cap) fi ns LL S w)=>show Wk W b (.slice (some ⟨G,0,none⟩) n cap) fi ns L S w from by rw[<-hLL] at h;exact h.locOut);have C1:=J (fun w1 (hw:Wk W b (.slice (some ⟨G,0,none⟩) n cap) fi ns LL S w1)=>sexpr_any f _ S S1 w1 za h1 hw);have HB:=J hB;have hj0:0<=(j:Int):=Y;have hjn:(j:Int)<(n:Int):=Y;clear hB h hz h1 hj hLL;by_cases k22:zk=22
 . subst k22;rw[if_pos rfl] at hR;have C2:=J (fun w1 (hw:Wk W b (.slice (some ⟨G,0,none⟩) n cap) fi ns LL S1 w1)=>sexpr_any f _ S1 R w1 zb hR hw);clear hR HB;go_enter func175,ntmps175
   go_wp2_with (first
    | ((with_reducible refine (C1.out _ H0.out).mono ?_);rintro e' w1 ⟨rfl,h1⟩;have H1:=J h1;clear h1;have KX:=J (H1.out.locAt HM.out);have x0:=KX.out.cell 0 _ rfl;have lx:=KX.out.lt;have x2:=KX.out.cell 2 _ rfl)
    | ((with_reducible refine (C2.out _ H1.out).mono ?_);rintro e' w2 ⟨rfl,h2⟩;have H2:=J h2;clear h2))
   refine jg ?_;exact⟨rfl,HOUT.out _ _ H2.out⟩
 by_cases k20:zk=20
 . subst k20;rw[if_neg Y,if_pos rfl] at hR;obtain⟨S2,h2,hR⟩:=qab hR;have HSL:=J h2;have C3:=J (fun w1 (hw:Wk W b (.slice (some ⟨G,0,none⟩) n cap) fi ns LL S2 w1)=>seeO_any hw zs (j:Int) hR);clear hR HB h2;go_enter func175,ntmps175
   go_wp2_with (first
    | ((with_reducible refine (C1.out _ H0.out).mono ?_);rintro e' w1 ⟨rfl,h1⟩;have H1:=J h1;clear h1;have KX:=J (H1.out.locAt HM.out);have x0:=KX.out.cell 0 _ rfl;have lx:=KX.out.lt;have x6:=KX.out.cell 6 _ rfl))
   obtain⟨g2,n2,c2,p2,n1,c1,q1,q2,q3,q4,q5,⟨q6v,q6⟩,q7,q8,q9,q10⟩:=WkV.slotRow H1.out HSL.out;have HQ:=J (q10.of_ext ((Ext.refl _).drew));have q11:(j:Int)<(n2:Int):=Y;have q12:(n1:Int)<=9223372036854775807:=by unfold maxLen at q3;omega
   have HX6:=J (HQ.out.locAt HM.out);have q13:=HX6.out.cell 6 _ rfl;clear q1 q2 q3 q10
   go_region
   go_wp2_with ((with_reducible refine (C3.out _ HQ.out).mono ?_);rintro e' w2 ⟨rfl,h2⟩;have H2:=J h2;clear h2)
   refine jg ?_;exact⟨rfl,HOUT.out _ _ H2.out⟩
 by_cases k21:zk=21
 . subst k21;rw[if_neg Y,if_neg Y,if_pos rfl] at hR;have C3:=J (fun w1 (hw:Wk W b (.slice (some ⟨G,0,none⟩) n cap) fi ns LL S1 w1)=>useO_any hw zs j hR);clear hR HB;go_enter func175,ntmps175
   go_wp2_with (first
    | ((with_reducible refine (C1.out _ H0.out).mono ?_);rintro e' w1 ⟨rfl,h1⟩;have H1:=J h1;clear h1;have KX:=J (H1.out.locAt HM.out);have x0:=KX.out.cell 0 _ rfl;have lx:=KX.out.lt;have x6:=KX.out.cell 6 _ rfl)
    | ((with_reducible refine (C3.out _ H1.out).mono ?_);rintro e' w2 ⟨rfl,h2⟩;have H2:=J h2;clear h2))
   refine jg ?_;exact⟨rfl,HOUT.out _ _ H2.out⟩
 by_cases k24:zk=24
 . subst k24;rw[if_neg Y,if_neg Y,if_neg Y,if_pos rfl] at hR;obtain⟨S2,h2,h3⟩:=qab hR;have C2:=J (fun w1 (hw:Wk W b (.slice (some ⟨G,0,none⟩) n cap) fi ns LL S1 w1)=>HB.out LL S1 S2 w1 zb (j:Int) [] (.slice none 0 0) (Or.inl ⟨rfl,rfl⟩) h2 hw);have C3:=J (fun w1 (hw:Wk W b (.slice (some ⟨G,0,none⟩) n cap) fi ns LL S2 w1)=>HB.out LL S2 R w1 zc (j:Int) [] (.slice none 0 0) (Or.inl ⟨rfl,rfl⟩) h3 hw);clear hR HB h2 h3;go_enter func175,ntmps175
   go_wp2_with (first
    | ((with_reducible refine (C1.out _ H0.out).mono ?_);rintro e' w1 ⟨rfl,h1⟩;have H1:=J h1;clear h1;have KX:=J (H1.out.locAt HM.out);have x0:=KX.out.cell 0 _ rfl;have lx:=KX.out.lt;have x2:=KX.out.cell 2 _ rfl)
    | ((with_reducible refine (C2.out _ H1.out).mono ?_);rintro e' w2 ⟨rfl,h2⟩;have H2:=J h2;clear h2;have KX2:=J (H2.out.locAt HM.out);have x3:=KX2.out.cell 3 _ rfl;have lx2:=KX2.out.lt)
    | ((with_reducible refine (C3.out _ H2.out).mono ?_);rintro e' w3 ⟨rfl,h3⟩;have H3:=J h3;clear h3))
   refine jg ?_;exact⟨rfl,HOUT.out _ _ H3.out⟩
 by_cases k25:zk=25
 . subst k25;rw[if_neg Y,if_neg Y,if_neg Y,if_neg Y,if_pos rfl] at hR;obtain⟨S2,h2,h3⟩:=qab hR;have HSL:=J h2;have HR3:=J h3;clear hR h2 h3;go_enter func175,ntmps175
   go_wp2_with (first
    | ((with_reducible refine (C1.out _ H0.out).mono ?_);rintro e' w1 ⟨rfl,h1⟩;have H1:=J h1;clear h1;have KX:=J (H1.out.locAt HM.out);have x0:=KX.out.cell 0 _ rfl;have lx:=KX.out.lt;have x6:=KX.out.cell 6 _ rfl))
   obtain⟨g2,n2,c2,p2,n1,c1,q1,q2,q3,q4,q5,⟨q6v,q6⟩,q7,q8,q9,q10⟩:=WkV.slotRow H1.out HSL.out;have q20:=(q10.locNew (.cells #[.string zs,.string zt] 9 (0,0))).of_ext ((Ext.refl _).drew);rw[World.size_setCell] at q20;have HQ:=J q20;clear q20;have HNM:=J (fun (kk:Nat) w1 (hw:Wk W b (.slice (some ⟨G,0,none⟩) n cap) fi ns ((kk,Obj.cells #[.string zs,.string zt] 9 (0,0))::LL) S2 w1)=>HB.out _ S2 R w1 zb (j:Int) [zs,zt] (.slice (some ⟨kk,0,none⟩) 2 2) (Or.inr ⟨kk,zy,rfl,List.mem_cons_self⟩) HR3.out hw);have q11:(j:Int)<(n2:Int):=Y;have q12:(n1:Int)<=9223372036854775807:=by unfold maxLen at q3;omega
   have HX6:=J ((q10.of_ext ((Ext.refl _).drew)).locAt HM.out);have q13:=HX6.out.cell 6 _ rfl;have q14:=HX6.out.cell 7 _ rfl;have q15:=HX6.out.cell 2 _ rfl;clear q1 q2 q3 q10
   go_region
   go_wp2_with ((with_reducible refine (HNM.out _ _ HQ.out).mono ?_);rintro e' w2 ⟨rfl,h2⟩;have H2:=J h2.locOut;clear h2)
   refine jg ?_;exact⟨rfl,HOUT.out _ _ H2.out⟩
 by_cases k26:zk=26
 . subst k26;rw[if_neg Y,if_neg Y,if_neg Y,if_neg Y,if_neg Y,if_pos rfl] at hR;have C2:=J (fun w1 (hw:Wk W b (.slice (some ⟨G,0,none⟩) n cap) fi ns LL S1 w1)=>HB.out LL S1 R w1 zb (j:Int) [] (.slice none 0 0) (Or.inl ⟨rfl,rfl⟩) hR hw);clear hR HB;go_enter func175,ntmps175
   go_wp2_with (first
    | ((with_reducible refine (C1.out _ H0.out).mono ?_);rintro e' w1 ⟨rfl,h1⟩;have H1:=J h1;clear h1;have KX:=J (H1.out.locAt HM.out);have x0:=KX.out.cell 0 _ rfl;have lx:=KX.out.lt;have x2:=KX.out.cell 2 _ rfl)
    | ((with_reducible refine (C2.out _ H1.out).mono ?_);rintro e' w2 ⟨rfl,h2⟩;have H2:=J h2;clear h2))
   refine jg ?_;exact⟨rfl,HOUT.out _ _ H2.out⟩
 . rw[if_neg k22,if_neg k20,if_neg k21,if_neg k24,if_neg k25,if_neg k26] at hR;have e1:=Option.some.inj hR;subst e1;have p22:(zk==22)=false:=by simpa using k22
   have p20:(zk==20)=false:=by simpa using k20
   have p21:(zk==21)=false:=by simpa using k21
   have p24:(zk==24)=false:=by simpa using k24
   have p25:(zk==25)=false:=by simpa using k25
   have p26:(zk==26)=false:=by simpa using k26
   clear hR HB k22 k20 k21 k24 k25 k26;go_enter func175,ntmps175
   go_wp2_with (first
    | ((with_reducible refine (C1.out _ H0.out).mono ?_);rintro e' w1 ⟨rfl,h1⟩;have H1:=J h1;clear h1;have KX:=J (H1.out.locAt HM.out);have x0:=KX.out.cell 0 _ rfl;have lx:=KX.out.lt;skip))
   refine jg ?_;exact⟨rfl,HOUT.out _ _ H1.out⟩
end Go.Proofs.YtpnabjopfpdkhaaGreatDoor
