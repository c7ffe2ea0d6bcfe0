/- Lemmas. -/
import Derived.Test.YtpnabjopfpdkhaaGreatDoorA46
import Derived.Test.YtpnabjopfpdkhaaGreatDoorA47
import Derived.Deep.DeepCutAuto
set_option linter.unusedSimpArgs false
set_option linter.unusedVariables false
set_option maxHeartbeats 4000000
set_option maxRecDepth 20000
namespace Go.Proofs.YtpnabjopfpdkhaaGreatDoor
open Go.RowKit
variable {B:Nat} {v:Value} {W W':World}
attribute [go_sem] more_more Array.size_append
theorem own_move {n m:Nat} {T:TypeId} {cs:List Value} (h:W.ownsRow B T n v m cs) (hW:∀ k,B≤k→W'.heap[k]?=W.heap[k]?):W'.ownsRow B T n v m cs:=by
 refine ⟨h.1,?_⟩
 rcases h.2 with h | ⟨g,cap,cur,e,hb,hg,r⟩
 · exact .inl h
 · exact .inr ⟨g,cap,cur,e,hb,(hW g hb).trans hg,r⟩
def PQ (B:Nat):Fact:=fun v W=>∃ p l' cap,v=.slice p l'.length cap∧l'.length≤66∧TxFw B W l'∧W.ownsRow B 27 6 v l'.length (txC l')
def PT (B:Nat) (x:Tx):Fact:=fun v W=>∃ a b,v=txV (fewT x a b)∧RowF B (fewW x.rd) a W∧RowF B (fewW x.wr) b W∧In64I x.c∧In64I x.t∧In64I x.gas
def PD (B:Nat):Fact:=fun v W=>∃ p d' cap,v=.slice p d'.length cap∧d'.length≤260∧(∀ x∈d',In64I x.vi)∧W.ownsRow B 70 7 v d'.length (laC d')
theorem PQ.upc (B:Nat):Upc (PQ B):=fun v W W' hx ⟨p,l,c,h1,h2,h3,h4⟩=>⟨p,l,c,h1,h2,h3.ext hx,own_ext h4 hx⟩
theorem PT.upc (B:Nat) (x:Tx):Upc (PT B x):=fun v W W' hx ⟨a,b,h1,h2,h3,h4⟩=>⟨a,b,h1,RowF.upc _ _ _ _ _ hx h2,RowF.upc _ _ _ _ _ hx h3,h4⟩
theorem PD.upc (B:Nat):Upc (PD B):=fun v W W' hx ⟨p,l,c,h1,h2,h3,h4⟩=>⟨p,l,c,h1,h2,h3,own_ext h4 hx⟩
theorem TxFw.move {l:List Tx} (h:TxFw B W l) (hW:∀ k,B≤k→W'.heap[k]?=W.heap[k]?):TxFw B W' l:=fun x hm=>by
 obtain⟨⟨y,a,b,rfl⟩,h2,h3,h4⟩:=h x hm
 have g2:=h2.move (Nat.le_refl _) hW;have g3:=h3.move (Nat.le_refl _) hW
 exact⟨⟨y,a,b,rfl⟩,g2,g3,g2.pats,g3.pats,h4.2.2⟩
theorem PQ.move (h:PQ B v W) (hW:∀ k,B≤k→W'.heap[k]?=W.heap[k]?):PQ B v W':=by
 obtain⟨p,l,c,h1,h2,h3,h4⟩:=h
 exact⟨p,l,c,h1,h2,h3.move hW,own_move h4 hW⟩
theorem PT.move {x:Tx} (h:PT B x v W) (hW:∀ k,B≤k→W'.heap[k]?=W.heap[k]?):PT B x v W':=by
 obtain⟨a,b,h1,h2,h3,h4⟩:=h
 exact⟨a,b,h1,h2.move (Nat.le_refl _) hW,h3.move (Nat.le_refl _) hW,h4⟩
theorem PD.move (h:PD B v W) (hW:∀ k,B≤k→W'.heap[k]?=W.heap[k]?):PD B v W':=by
 obtain⟨p,l,c,h1,h2,h3,h4⟩:=h
 exact⟨p,l,c,h1,h2,h3,own_move h4 hW⟩
theorem TxFw.low {C:Nat} {l:List Tx} (h:TxFw C W l) (hc:B≤C):TxFw B W l:=fun x hm=>by
 obtain⟨h1,h2,h3,h4⟩:=h x hm
 exact⟨h1,h2.move hc (fun _ _=>rfl),h3.move hc (fun _ _=>rfl),h4⟩
theorem pq_any (v:Value) (l:List Tx) (B:Nat) (W:World) (h:TxIn W v l) (hl:l.length≤140737488351232) (hB:B≤W.heap.size):Calls Tryz.prog 7 #[v] W fun e w'=>∃ v',e=.returned v'∧Ext W w'∧PQ B v' w' :=
 (few25_any v l W h hl).mono fun e w' ⟨v',l',h1,h2,h3,h4,h5⟩=>by
  obtain⟨p,c,h6⟩:=qae h4
  exact⟨v',h1,h5,p,l',c,h6,h2,h3.low hB,h4.mono (base':=B) hB⟩
theorem pt_any (x:Tx) (B:Nat) (W:World) (h:TxAt W x) (hB:B≤W.heap.size):Calls Tryz.prog 8 #[txV x] W fun e w'=>∃ v',e=.returned v'∧Ext W w'∧PT B x v' w' :=
 (fewtx_any x W h).mono fun e w' ⟨a,b,h1,h2,h3,_,h5⟩=>⟨_,h1,h5,a,b,rfl,h2.move hB (fun _ _=>rfl),h3.move hB (fun _ _=>rfl),h.2.2.2⟩
theorem pd_any (v:Value) (l:List La) (B:Nat) (W:World) (h:LaAt W v l) (hl:l.length≤140737488351232) (hs:∀ x∈l,x.vs.size≤140737488351232) (hB:B≤W.heap.size):Calls Tryz.prog 9 #[v] W fun e w'=>∃ v',e=.returned v'∧Ext W w'∧PD B v' w' :=
 (few26_any v l W h hl hs).mono fun e w' ⟨v',h1,h2,h3⟩=>by
  have hlen:((l.take 260).map fewLa).length=min l.length 260:=by rw[List.length_map,List.length_take];omega
  rw[←hlen] at h2
  obtain⟨p,c,h6⟩:=qae h2
  refine ⟨v',h1,h3,p,_,c,h6,by omega,fun x hx=>?_,h2.mono (base':=B) hB⟩
  obtain⟨y,hy,rfl⟩:=List.mem_map.1 hx
  exact h.2 y (List.mem_of_mem_take hy)
theorem PQ.inn (h:PQ B v W):∃ l p c,v=.slice p l.length c∧TxIn W v l∧l.length≤66∧∀ x∈l,TxSm x:=by
 obtain⟨p,l,c,h1,h2,h3,h4⟩:=h
 refine ⟨l,p,c,h1,⟨fun x hm=>(h3 x hm).2.2.2,RowIn.own qbU h4⟩,h2,fun x hm=>?_⟩
 obtain⟨⟨y,a,b,rfl⟩,_⟩:=h3 x hm
 exact fewT_sm _ _ _
theorem PD.inn (h:PD B v W):∃ l p c,v=.slice p l.length c∧LaAt W v l∧l.length≤260:=by
 obtain⟨p,l,c,h1,h2,h3,h4⟩:=h
 exact⟨l,p,c,h1,⟨RowIn.own laL_len h4,h3⟩,h2⟩
theorem tx_cells (t:Tx) {w:World} (h:TxAt w t):∃ c u p1 m1 k1 p2 m2 k2 s g,t.c=c∧t.t=u∧txV t=.agg (txA c u (.slice p1 m1 k1) (.slice p2 m2 k2) s g):=by
 obtain⟨p1,m1,k1,p2,m2,k2,e1,e2⟩:=qbK h
 exact⟨_,_,p1,m1,k1,p2,m2,k2,_,_,rfl,rfl,by unfold txV txA;rw[e1,e2]⟩
theorem PT.inn {x:Tx} (h:PT B x v W):∃ t',v=txV t'∧TxAt W t'∧TxSm t':=by
 obtain⟨a,b,h1,h2,h3,h4⟩:=h
 exact⟨_,h1,⟨h2.pats,h3.pats,Nat.le_trans (qeM _ _) zak,h4⟩,fewT_sm _ _ _⟩
theorem PT.form {x:Tx} (h:PT B x v W):∃ c u p1 m1 k1 p2 m2 k2 s g,v=.agg (txA c u (.slice p1 m1 k1) (.slice p2 m2 k2) s g):=by
 obtain⟨t',rfl,h2,_⟩:=h.inn
 obtain⟨c,u,p1,m1,k1,p2,m2,k2,s,g,_,_,e⟩:=tx_cells t' h2
 exact⟨c,u,p1,m1,k1,p2,m2,k2,s,g,e⟩
theorem TB.kb {w:World} {N:Nat} {C:Array Value} (h:KB N C 27 w):TB w N C:=h
end Go.Proofs.YtpnabjopfpdkhaaGreatDoor
