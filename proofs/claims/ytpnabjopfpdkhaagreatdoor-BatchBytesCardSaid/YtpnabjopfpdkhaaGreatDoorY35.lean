/- Lemmas. -/
import Derived.Test.YtpnabjopfpdkhaaGreatDoorY34
import Derived.BigRegion
import Derived.Deep.RegionWith
set_option linter.all false
set_option maxRecDepth 20000
namespace Go.Proofs.YtpnabjopfpdkhaaGreatDoor
open Tryz RowKit
def rcell_lt {w:World} {a:Addr} {v:Value} (h:w.cell? a=some v):a.block<w.heap.size:=by
 rcases Nat.lt_or_ge a.block w.heap.size with h' | h'
 . exact h'
 . simp[World.cell?,Array.getElem?_eq_none h'] at h
end Go.Proofs.YtpnabjopfpdkhaaGreatDoor
namespace Go.Proofs.YtpnabjopfpdkhaaGreatDoor
open Tryz RowKit
attribute [go_sem] more_more Array.size_append
def own_type {w:World} {base n size:Nat} {v:Value} {e:TypeId} {xs:List Value} (h:w.ownsRow base e size v n xs) {k:Nat} (hk:v.ownBlock=some k):∃ cur,w.heap[k]?=some (.cells cur e (0,0)):=by
 rcases h.2 with ⟨rfl,_⟩ | ⟨g,cap,cur,rfl,_,hh,_⟩
 . simp[Value.ownBlock] at hk
 . simp only[Value.ownBlock,Option.some.injEq] at hk;subst hk;exact⟨cur,hh⟩
def qei {P:Program} {ops:Array Oper} {rest:List Oper} {o:Oper} {a:Act} {w:World} {Q:Exit->Act->World->Prop} (hgd:o.guard=none) (ty:TypeId) (x:Operand) (ho:o.op=.load ty x)
  (g off:Nat) (hx:a.eval x=.pointer (some ⟨g,off,none⟩)) (t:TypeId) (cs:Array Value) (l:List Value) (fr:Nat × Nat) (d:TypeDesc) (hg:w.heap[g]?=some (.cells cs t fr))
  (hu:P.underlying ty=some d) (hd:(match d with | .struct _ | .array _ _=>true | _=>false)=true) (hi:(P.info? ty).map (·.size)=some l.length) (hl:∀ j v,l[j]?=some v->cs[off+j]?=some v)
  (h:wpList P ops Q rest (a.put o.dst (.agg l.toArray)) w):wpList P ops Q (o::rest) a w:=by
 have hlc:(loadCells ⟨g,off,none⟩ l.length).run P w=.ok l.toArray w :=
  run_loadCells_list (P:=P) w ⟨g,off,none⟩ l (fun j v hv=>by
   rw[Addr.add_lit,cell_of_row w g (off+j) cs t fr hg]
   exact hl j v hv)
 have hr:(loadVar ty ⟨g,off,none⟩).run P w=.ok (.agg l.toArray) w:=by
  cases hq:P.info? ty with
  | none=>simp[hq] at hi
  | some i =>
   have hs:i.size=l.length:=by simpa [hq] using hi
   have hagg:(isAgg ty).run P w=.ok true w:=by
    unfold isAgg;rw[Sem.run_bind,run_underlying hu w];cases d<;>simp_all
   simp[loadVar,Sem.run_bind,hagg,sizeOf,typeInfo,hq,hs,hlc]
 refine wpList_plain hgd fun K hK=>?_
 unfold Oper.wp execOp;simp only[ho,hx,Instr.loadAt,Instr.sureAddr,Sem.run_bind,Sem.run_pure,Result.andThen_ok,hr];exact hK _ _ h
def LvTy (w:World) (bs:Nat->Nat) (T:Nat->List It):Prop:=∀ k,k<16->0<(T k).length->∃ cur fz,w.heap[bs k]?=some (.cells cur 154 fz)
end Go.Proofs.YtpnabjopfpdkhaaGreatDoor
