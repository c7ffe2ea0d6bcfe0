/- Lemmas. -/
import Derived.Test.YtpnabjopfpdkhaaGreatDoorA01
import Derived.Test.YtpnabjopfpdkhaaGreatDoorA32
import Derived.Test.YtpnabjopfpdkhaaGreatDoorRows
import Derived.Deep.Strs
import Derived.Stop.LaidErr
import Derived.Stop.Joined
import Derived.LaidMore
import Derived.Lib.LaidTab
import Derived.LaidLaws
import Derived.ChangeSame
import Derived.ChangeVars
import Derived.JoinedOf
import Derived.RowKitTokens
import Derived.OpenShut
import Derived.Deep.Slices
import Derived.Deep.Fields
set_option linter.unusedSimpArgs false
set_option linter.unusedVariables false
set_option maxRecDepth 100000
namespace Go.Proofs.YtpnabjopfpdkhaaGreatDoor
open Go.RowKit
open Go.ChangeShapes Go.WideShapes Go.ChangeAt Go.Joins
theorem qcF {H:Type} {P:Program} {e:TypeId} {d:DataW H} {n:Nat} (hn:n∈d.weights P e):∀ (ds:List (DataW H)),d∈ds→n∈DataW.weightsAll P e ds
 | [],h=>by simp at h
 | x::ds,h=>by
  simp only[DataW.weightsAll,List.mem_append];rcases List.mem_cons.1 h with rfl | h
  · exact Or.inl hn
  · exact Or.inr (qcF hn ds h)
theorem signs_of {r:List (String × DataW Unit)} {W:World} (h:laidMet Tryz.prog (("plenum/key.signs",Rows.laid_plenum_key_signs)::r) W):SignsAt W.heap.size W:=by
 have hg:Tryz.prog.globalNamed "plenum/key.signs"=some 0:=by kernel_rfl
 have hgt:(Tryz.prog.globals[0]?).map (·.type)=some 217:=by kernel_rfl
 have t:=Lib.tabIs_of_head (k:=.u64) (zs:=[288195191779622912,576460745860972544]) hg hgt Tryz.underlying217 Tryz.underlying85 zaf zaf h;have c0:=t.cell hg 0 zak;have c1:=t.cell hg 1 zak
 exact⟨World.block_lt_of_cell? _ _ c0,c0,c1⟩
theorem list_of {α:Type} (len:Nat) (P:Nat→α→Prop) (h:∀ i,i<len→∃ a,P i a):∃ l:List α,l.length=len∧∀ j a,l[j]?=some a→P j a:=by
 induction len with
 | zero=>exact⟨[],rfl,fun j a hj=>by simp at hj⟩
 | succ n ih =>
  obtain⟨l,hl,hp⟩:=ih (fun i hi=>h i zac)
  obtain⟨a,ha⟩:=h n zac
  refine ⟨l++[a],by simp[hl],fun j b hj=>?_⟩;rcases Nat.lt_or_ge j l.length with hlt | hge
  · rw[List.getElem?_append_left hlt] at hj
    exact hp j b hj
  · rw[List.getElem?_append_right hge] at hj
    have hz:j-l.length=0:=by
     rcases Nat.eq_zero_or_pos (j-l.length) with hz | hz
     · exact hz
     · rw[List.getElem?_eq_none zam] at hj;cases hj
    rw[hz] at hj
    simp at hj
    subst hj
    have:j=n:=by omega
    subst this;exact ha
def Sm {H:Type} (t:TypeId) (d:DataW H):Prop:=∀ n∈d.weights Tryz.prog t,n≤140737488351232
theorem sm_of {H:Type} {ts:List TypeId} {ds:List (DataW H)} {j:Nat} {t:TypeId} {d:DataW H} (hs:(DataW.weightsEach Tryz.prog ts ds).all (·≤reachBytes)=true) (ht:ts[j]?=some t) (hd:ds[j]?=some d):Sm t d:=fun n hn=>by
 have:=List.all_eq_true.1 hs _ (DataW.weights_mem_each ht hd n hn)
 have e:reachBytes=140737488351232:=by decide
 rw[e] at this
 simpa using this
theorem qbT {H:Type} {t:TypeId} {fs:Array Field} {parts:List (DataW H)} (ht:Tryz.prog.underlying t=some (.struct fs)) (h:Sm t (.agg parts)) {i:Nat} {f:Field} {d:DataW H} (hf:fs[i]?=some f) (hd:parts[i]?=some d):Sm f.type d:=fun n hn=>h n (by
 simp only[DataW.weights,ht]
 exact DataW.weights_mem_each (ts:=fs.toList.map (·.type)) (j:=i) (by simp[hf]) hd n hn)
theorem sm_slice {H:Type} {t e:TypeId} {els sp:List (DataW H)} (ht:Tryz.prog.underlying t=some (.slice e)) (h:Sm t (.slice els sp)):(els.length+sp.length)*Tryz.prog.bytesOf e≤140737488351232∧∀ d∈els,Sm e d :=
 ⟨h _ (by simp only[DataW.weights,ht];exact List.mem_cons_self ..),fun d hd n hn=>h n (by
  simp only[DataW.weights,ht,List.mem_cons,List.mem_append]
  exact Or.inr (Or.inl (qcF hn els hd)))⟩
section
variable {H:Type} {enc:TypeId × Value→H} {W:World}
theorem qeP {fuel:Nat} {t:TypeId} {cs:List Value} {x:DataW H × List MemPlace} (ht:Tryz.prog.underlying t=some .string) (h:DataW.trod enc Tryz.prog W 0 (fun _=>true) true fuel t cs=some x) (hs:Sm t x.1):∃ s:ByteArray,cs=[.string s]∧s.size≤140737488351232:=by
 obtain⟨s,rfl,rfl,_⟩:=DataW.trod_string ht h
 refine ⟨s,rfl,?_⟩
 have:=hs s.data.toList.length (by simp[DataW.weights])
 rw[qbP] at this;exact this
theorem qdi {fuel:Nat} {t:TypeId} {cs:List Value} {x:DataW H × List MemPlace} (ht:Tryz.prog.underlying t=some (.int .i64)) (h:DataW.trod enc Tryz.prog W 0 (fun _=>true) true fuel t cs=some x):∃ z:Int,cs=[.int .i64 z]∧In64I z:=by
 obtain⟨z,rfl,_,w⟩:=DataW.trod_int ht h
 refine ⟨z,rfl,?_⟩;simp only[Lit.wf,Bool.and_eq_true,decide_eq_true_eq] at w
 have w':-9223372036854775808≤z∧z≤9223372036854775807:=by simpa [IntKind.min,IntKind.max,IntKind.bits,IntKind.signed] using w
 exact w'
theorem valFields:∃ f0 f1 f2:Field,Tryz.prog.underlying 45=some (.struct #[f0,f1,f2])∧(f0.type=3∧f0.offset=0)∧(f1.type=2∧f1.offset=1)∧(f2.type=9∧f2.offset=2):=⟨_,_,_,Tryz.underlying45,⟨rfl,rfl⟩,⟨rfl,rfl⟩,⟨rfl,rfl⟩⟩
theorem cS:Tryz.prog.cellsOf 9=1:=by kernel_rfl
theorem cI:Tryz.prog.cellsOf 3=1:=by kernel_rfl
theorem cL:Tryz.prog.cellsOf 2=1:=by kernel_rfl
theorem cV:Tryz.prog.cellsOf 45=3:=by kernel_rfl
theorem cTx:Tryz.prog.cellsOf 23=1:=by kernel_rfl
theorem rd_val {fuel:Nat} {cs:List Value} {x:DataW H × List MemPlace} (h:DataW.trod enc Tryz.prog W 0 (fun _=>true) true fuel 45 cs=some x) (hs:Sm 45 x.1) :
  ∃ (k i:Int) (s:ByteArray),cs=[.int .i64 k,.int .i64 i,.string s]∧In64I k∧In64I i∧s.size≤140737488351232:=by
 obtain⟨f0,f1,f2,hst,⟨t0,o0⟩,⟨t1,o1⟩,⟨t2,o2⟩⟩:=valFields
 obtain⟨ys,n',_,rfl,hlen,hyl,hf⟩:=DataW.trod_struct hst h
 rw[cV] at hlen
 match cs,hlen with
 | [x0,x1,x2],_ =>
  match ys,hyl with
  | [y0,y1,y2],_ =>
   have g0:=hf 0 f0 rfl;have g1:=hf 1 f1 rfl;have g2:=hf 2 f2 rfl;have s2:=qbT (i:=2) (f:=f2) (d:=y2.1) hst hs rfl rfl;rw[t0,o0,cI] at g0;rw[t1,o1,cL] at g1;rw[t2,o2,cS] at g2;rw[t2] at s2
   obtain⟨z0,e0,w0⟩:=qdi Tryz.underlying3 g0
   obtain⟨z1,e1,w1⟩:=qdi Tryz.underlying2 g1
   obtain⟨z2,e2,w2⟩:=qeP Tryz.underlying9 g2 s2
   simp at e0 e1 e2
   subst e0 e1 e2
   exact⟨z0,z1,z2,rfl,w0,w1,w2⟩
theorem rd_strs {fuel:Nat} {cs:List Value} {x:DataW H × List MemPlace} (h:DataW.trod enc Tryz.prog W 0 (fun _=>true) true fuel 23 cs=some x) (hs:Sm 23 x.1):∃ v l,cs=[v]∧StrsAt W v l∧(∀ s∈l,s.size≤140737488351232)∧l.length≤140737488351232:=by
 rcases Deep.open_slice Tryz.underlying23 h with ⟨rfl,rfl⟩ | ⟨a,len,cap,m,n,D,Pl,rfl,hb,hl,hm,hmm,rfl,hi⟩
 · exact⟨_,[],rfl,Or.inl ⟨none,0,rfl,rfl⟩,by simp,by simp⟩
 · simp only[if_true] at hmm
   subst hmm
   obtain⟨hb1,hb2⟩:=sm_slice Tryz.underlying23 hs
   have key:∀ i,i<len→∃ s:ByteArray,s.size≤140737488351232∧W.cell? (a.add i)=some (.string s):=by
    intro i hil
    obtain⟨cs',hc,ht'⟩:=hi i zac
    rw[cS] at hc
    obtain⟨s,rfl,hin⟩:=qeP Tryz.underlying9 ht' (hb2 _ (List.mem_map.2 ⟨i,List.mem_range.2 hil,rfl⟩))
    obtain⟨_,_,hat⟩:=World.cells?_some hc
    have:=hat 0 zac
    rw[Deep.add_add,Nat.mul_one,Nat.add_zero] at this
    exact⟨s,hin,this⟩
   rcases Nat.eq_zero_or_pos len with h0 | h0
   · subst h0
     exact⟨_,[],rfl,Or.inl ⟨some a,m,rfl,rfl⟩,by simp,by simp⟩
   obtain⟨ab,ao,spot⟩:=a
   have hspot:spot=none:=by
    obtain⟨s,_,hx0⟩:=key 0 zac
    simpa [Addr.add] using World.cell?_spot hx0
   subst hspot
   obtain⟨l,hll,hp⟩:=list_of len (fun j (s:ByteArray)=>s.size≤140737488351232∧W.cell? ⟨ab,ao+j,none⟩=some (.string s)) (fun i hi2=>by
    obtain⟨s,h1,h2⟩:=key i hi2
    rw[Addr.add_lit] at h2
    exact⟨s,h1,h2⟩)
   refine ⟨_,l,rfl,Or.inr ⟨ab,ao,m,by rw[hll],by omega,fun j u hj=>(hp j u hj).2⟩,fun s hs2=>?_,by
    have hby:1≤Tryz.prog.bytesOf 9:=by rw[show Tryz.prog.bytesOf 9=16 by kernel_rfl];decide
    have:=Nat.le_trans (Nat.le_mul_of_pos_right _ hby) hb1
    simp at this
    omega⟩
   obtain⟨j,hj⟩:=List.getElem?_of_mem hs2
   exact(hp j s hj).1
end
end Go.Proofs.YtpnabjopfpdkhaaGreatDoor
set_option maxRecDepth 20000
namespace Go.Proofs.YtpnabjopfpdkhaaGreatDoor
open Go.RowKit Go.ChangeShapes Go.WideShapes Go.ChangeAt Go.Joins
variable {H:Type} {enc:TypeId × Value→H} {W:World}
theorem rd_rowIn {α:Type} (en:α→List Value) (n:Nat) (hn:∀ a,(en a).length=n) (h1:1≤n) (Q:α→Prop) {S E:TypeId} (hS:Tryz.prog.underlying S=some (.slice E)) (hc:Tryz.prog.cellsOf E=n) (hby:1≤Tryz.prog.bytesOf E)
  (rd:∀ {fuel:Nat} {cs:List Value} {x:DataW H × List MemPlace},DataW.trod enc Tryz.prog W 0 (fun _=>true) true fuel E cs=some x→Sm E x.1→∃ a,cs=en a∧Q a)
  {fuel:Nat} {cs:List Value} {x:DataW H × List MemPlace} (h:DataW.trod enc Tryz.prog W 0 (fun _=>true) true fuel S cs=some x) (hs:Sm S x.1):∃ v l,cs=[v]∧RowIn W en n v l∧(∀ a∈l,Q a)∧l.length≤140737488351232:=by
 rcases Deep.open_slice hS h with ⟨rfl,rfl⟩ | ⟨a,len,cap,m,k,D,Pl,rfl,hb,hl,hm,hmm,rfl,hi⟩
 · exact⟨_,[],rfl,⟨none,0,rfl,Nat.le_refl _,by decide,by simp⟩,by simp,by simp⟩
 · simp only[if_true] at hmm
   subst hmm
   obtain⟨hb1,hb2⟩:=sm_slice hS hs
   have hcap:m≤140737488351232:=by
    have e:((List.range len).map D).length+(((List.range m).drop len).map D).length=m:=by simp;omega
    first | (rw[e] at hb1;exact Nat.le_trans (Nat.le_mul_of_pos_right _ hby) hb1) | (refine Nat.le_trans (Nat.le_trans ?_ (Nat.le_mul_of_pos_right _ hby)) hb1;simp;omega)
   have key:∀ i,i<len→∃ p:α,Q p∧∀ j u,(en p)[j]?=some u→W.cell? (a.add (i*n+j))=some u:=by
    intro i hil
    obtain⟨cs',hc',ht'⟩:=hi i zac
    rw[hc] at hc'
    obtain⟨p,rfl,hin⟩:=rd ht' (hb2 _ (List.mem_map.2 ⟨i,List.mem_range.2 hil,rfl⟩))
    obtain⟨_,_,hat⟩:=World.cells?_some hc'
    refine ⟨p,hin,fun j u hj=>?_⟩
    have:=hat j (by have:=(List.getElem?_eq_some_iff.1 hj).1;rw[hn] at this;exact this)
    rw[Deep.add_add] at this;rw[this];exact hj
   rcases Nat.eq_zero_or_pos len with h0 | h0
   · subst h0
     exact⟨_,[],rfl,⟨some a,m,rfl,Nat.zero_le _,by unfold maxLen;omega,by simp⟩,by simp,by simp⟩
   obtain⟨ab,ao,spot⟩:=a
   have hspot:spot=none:=by
    obtain⟨p,_,hx0⟩:=key 0 zac
    have:=hx0 0 _ (List.getElem?_eq_getElem (by rw[hn];omega))
    simpa [Addr.add] using World.cell?_spot this
   subst hspot
   obtain⟨l,hll,hp⟩:=list_of len (fun j (p:α)=>Q p∧∀ i u,(en p)[i]?=some u→W.cell? ⟨ab,ao+j*n+i,none⟩=some u) (fun i hi2=>by
    obtain⟨p,h1,h2⟩:=key i hi2
    refine ⟨p,h1,fun j u hj=>?_⟩
    have:=h2 j u hj
    rw[Addr.add_lit] at this
    rw[Nat.add_assoc];exact this)
   refine ⟨_,l,rfl,⟨some ⟨ab,ao,none⟩,m,by rw[hll],by omega,by unfold maxLen;omega,fun j p hj=>⟨ab,ao,rfl,(hp j p hj).2⟩⟩,fun p hm=>?_,by omega⟩
   obtain⟨j,hj⟩:=List.getElem?_of_mem hm
   exact(hp j p hj).1
theorem wantFields:∃ f0 f1:Field,Tryz.prog.underlying 25=some (.struct #[f0,f1])∧(f0.type=23∧f0.offset=0)∧(f1.type=23∧f1.offset=1):=⟨_,_,Tryz.underlying25,⟨rfl,rfl⟩,⟨rfl,rfl⟩⟩
theorem txnFields:∃ f0 f1 f2 f3 f4:Field,Tryz.prog.underlying 27=some (.struct #[f0,f1,f2,f3,f4])∧(f0.type=3∧f0.offset=0)∧(f1.type=3∧f1.offset=1)∧(f2.type=25∧f2.offset=2)∧(f3.type=9∧f3.offset=4)∧(f4.type=3∧f4.offset=5):=⟨_,_,_,_,_,Tryz.underlying27,⟨rfl,rfl⟩,⟨rfl,rfl⟩,⟨rfl,rfl⟩,⟨rfl,rfl⟩,⟨rfl,rfl⟩⟩
theorem resFields:∃ f0 f1 f2:Field,Tryz.prog.underlying 47=some (.struct #[f0,f1,f2])∧(f0.type=32∧f0.offset=0)∧(f1.type=45∧f1.offset=1)∧(f2.type=3∧f2.offset=4):=⟨_,_,_,Tryz.underlying47,⟨rfl,rfl⟩,⟨rfl,rfl⟩,⟨rfl,rfl⟩⟩
theorem lastFields:∃ f0 f1 f2:Field,Tryz.prog.underlying 70=some (.struct #[f0,f1,f2])∧(f0.type=3∧f0.offset=0)∧(f1.type=3∧f1.offset=1)∧(f2.type=47∧f2.offset=2):=⟨_,_,_,Tryz.underlying70,⟨rfl,rfl⟩,⟨rfl,rfl⟩,⟨rfl,rfl⟩⟩
theorem cWt:Tryz.prog.cellsOf 25=2:=by kernel_rfl
theorem cTn:Tryz.prog.cellsOf 27=6:=by kernel_rfl
theorem cRs:Tryz.prog.cellsOf 47=5:=by kernel_rfl
theorem cLa:Tryz.prog.cellsOf 70=7:=by kernel_rfl
theorem cEr:Tryz.prog.cellsOf 32=1:=by kernel_rfl
theorem rd_want {fuel:Nat} {cs:List Value} {x:DataW H × List MemPlace} (h:DataW.trod enc Tryz.prog W 0 (fun _=>true) true fuel 25 cs=some x) (hs:Sm 25 x.1):∃ v1 l1 v2 l2,cs=[v1,v2]∧PatS W v1 l1∧PatS W v2 l2:=by
 obtain⟨f0,f1,hst,⟨t0,o0⟩,⟨t1,o1⟩⟩:=wantFields
 obtain⟨ys,n',_,rfl,hlen,hyl,hf⟩:=DataW.trod_struct hst h
 rw[cWt] at hlen
 match cs,hlen with
 | [x0,x1],_ =>
  match ys,hyl with
  | [y0,y1],_ =>
   have g0:=hf 0 f0 rfl;have g1:=hf 1 f1 rfl;have s0:=qbT (i:=0) (f:=f0) (d:=y0.1) hst hs rfl rfl;have s1:=qbT (i:=1) (f:=f1) (d:=y1.1) hst hs rfl rfl;rw[t0,o0,cTx] at g0;rw[t1,o1,cTx] at g1;rw[t0] at s0;rw[t1] at s1
   obtain⟨z0,l0,e0,w0⟩:=rd_strs g0 s0
   obtain⟨z1,l1,e1,w1⟩:=rd_strs g1 s1
   simp at e0 e1
   subst e0 e1
   exact⟨_,l0,_,l1,rfl,w0,w1⟩
theorem rd_tx {fuel:Nat} {cs:List Value} {x:DataW H × List MemPlace} (h:DataW.trod enc Tryz.prog W 0 (fun _=>true) true fuel 27 cs=some x) (hs:Sm 27 x.1):∃ p:Tx,cs=txL p∧TxAt W p:=by
 obtain⟨f0,f1,f2,f3,f4,hst,⟨t0,o0⟩,⟨t1,o1⟩,⟨t2,o2⟩,⟨t3,o3⟩,⟨t4,o4⟩⟩:=txnFields
 obtain⟨ys,n',_,rfl,hlen,hyl,hf⟩:=DataW.trod_struct hst h
 rw[cTn] at hlen
 match cs,hlen with
 | [x0,x1,x2,x3,x4,x5],_ =>
  match ys,hyl with
  | [y0,y1,y2,y3,y4],_ =>
   have g0:=hf 0 f0 rfl;have g1:=hf 1 f1 rfl;have g2:=hf 2 f2 rfl;have g3:=hf 3 f3 rfl;have g4:=hf 4 f4 rfl;have s2:=qbT (i:=2) (f:=f2) (d:=y2.1) hst hs rfl rfl;have s3:=qbT (i:=3) (f:=f3) (d:=y3.1) hst hs rfl rfl;rw[t0,o0,cI] at g0;rw[t1,o1,cI] at g1;rw[t2,o2,cWt] at g2;rw[t3,o3,cS] at g3;rw[t4,o4,cI] at g4;rw[t2] at s2;rw[t3] at s3
   obtain⟨z0,e0,w0⟩:=qdi Tryz.underlying3 g0
   obtain⟨z1,e1,w1⟩:=qdi Tryz.underlying3 g1
   obtain⟨u1,l1,u2,l2,e2,w2,w3⟩:=rd_want g2 s2
   obtain⟨z3,e3,w4⟩:=qeP Tryz.underlying9 g3 s3
   obtain⟨z4,e4,w5⟩:=qdi Tryz.underlying3 g4
   simp at e0 e1 e2 e3 e4
   obtain⟨rfl,rfl⟩:=e2
   subst e0 e1 e3 e4
   exact⟨⟨z0,z1,x2,x3,z3,z4,l1,l2⟩,rfl,w2,w3,w4,w0,w1,w5⟩
def LaIn (x:La):Prop:=In64I x.c∧In64I x.t∧In64I x.code∧In64I x.vk∧In64I x.vi∧x.vs.size≤140737488351232∧In64I x.ver
theorem rd_la {fuel:Nat} {cs:List Value} {x:DataW H × List MemPlace} (h:DataW.trod enc Tryz.prog W 0 (fun _=>true) true fuel 70 cs=some x) (hs:Sm 70 x.1):∃ p:La,cs=laL p∧LaIn p:=by
 obtain⟨f0,f1,f2,hst,⟨t0,o0⟩,⟨t1,o1⟩,⟨t2,o2⟩⟩:=lastFields
 obtain⟨ys,n',_,rfl,hlen,hyl,hf⟩:=DataW.trod_struct hst h
 rw[cLa] at hlen
 match cs,hlen with
 | [x0,x1,x2,x3,x4,x5,x6],_ =>
  match ys,hyl with
  | [y0,y1,y2],_ =>
   have g0:=hf 0 f0 rfl;have g1:=hf 1 f1 rfl;have g2:=hf 2 f2 rfl;have s2:=qbT (i:=2) (f:=f2) (d:=y2.1) hst hs rfl rfl;rw[t0,o0,cI] at g0;rw[t1,o1,cI] at g1;rw[t2,o2,cRs] at g2;rw[t2] at s2
   obtain⟨z0,e0,w0⟩:=qdi Tryz.underlying3 g0
   obtain⟨z1,e1,w1⟩:=qdi Tryz.underlying3 g1
   obtain⟨k0,k1,k2,hst',⟨u0,p0⟩,⟨u1,p1⟩,⟨u2,p2⟩⟩:=resFields
   obtain⟨ys',n'',_,hq,hlen',hyl',hf'⟩:=DataW.trod_struct hst' g2
   rw[hq] at s2
   match ys',hyl' with
   | [b0,b1,b2],_ =>
    have h0:=hf' 0 k0 rfl;have h1:=hf' 1 k1 rfl;have h2:=hf' 2 k2 rfl;have r1:=qbT (i:=1) (f:=k1) (d:=b1.1) hst' s2 rfl rfl;rw[u0,p0,cEr] at h0;rw[u1,p1,cV] at h1;rw[u2,p2,cI] at h2;rw[u1] at r1
    obtain⟨q0,a0,v0⟩:=qdi Tryz.underlying32 h0
    obtain⟨q1,q2,q3,a1,v1⟩:=rd_val h1 r1
    obtain⟨q4,a2,v2⟩:=qdi Tryz.underlying3 h2
    simp at e0 e1 a0 a1 a2
    obtain⟨rfl,rfl,rfl⟩:=a1
    subst e0 e1 a0 a2
    exact⟨⟨z0,z1,q0,q1,q2,q3,q4⟩,rfl,w0,w1,v0,v1.1,v1.2.1,v1.2.2,v2⟩
theorem open_txs {v:Value} {d:DataW H} {p:List MemPlace} {base:Nat} (hval:Value.okWide Tryz.prog W .any base 22 v) (hd:DataW.Trod enc Tryz.prog W 0 (fun _=>true) true 22 v d p) (hs:Sm 22 d):∃ l,TxIn W v l∧l.length≤140737488351232:=by
 obtain⟨a1,len,cap,rfl⟩:=okWide_slice Tryz.underlying22 hval
 obtain⟨fuel,h⟩:=hd
 obtain⟨v',l,e,q,r,z⟩:=rd_rowIn txL 6 (fun _=>rfl) zak (TxAt W) Tryz.underlying22 cTn (by rw[show Tryz.prog.bytesOf 27=88 by kernel_rfl];decide) (fun h1 h2=>rd_tx h1 h2) h hs
 simp[Value.cells] at e
 exact⟨l,by rw[e];exact⟨r,q⟩,z⟩
theorem open_las {v:Value} {d:DataW H} {p:List MemPlace} {base:Nat} (hval:Value.okWide Tryz.prog W .any base 28 v) (hd:DataW.Trod enc Tryz.prog W 0 (fun _=>true) true 28 v d p) (hs:Sm 28 d):∃ l,RowIn W laL 7 v l∧(∀ x∈l,LaIn x)∧l.length≤140737488351232:=by
 obtain⟨a1,len,cap,rfl⟩:=okWide_slice Tryz.underlying28 hval
 obtain⟨fuel,h⟩:=hd
 obtain⟨v',l,e,q,r,z⟩:=rd_rowIn laL 7 (fun _=>rfl) zak LaIn Tryz.underlying28 cLa (by rw[show Tryz.prog.bytesOf 70=64 by kernel_rfl];decide) (fun h1 h2=>rd_la h1 h2) h hs
 simp[Value.cells] at e
 exact⟨l,by rw[e];exact q,r,z⟩
theorem open_tx {v:Value} {d:DataW H} {p:List MemPlace} (hd:DataW.Trod enc Tryz.prog W 0 (fun _=>true) true 27 v d p) (hs:Sm 27 d):∃ x,v=txV x∧TxAt W x:=by
 obtain⟨fuel,h⟩:=hd
 have hlen:v.cells.toList.length=6:=by
  obtain⟨f0,f1,f2,f3,f4,hst,_⟩:=txnFields
  obtain⟨_,_,_,_,hlen,_⟩:=DataW.trod_struct hst h
  rw[cTn] at hlen;exact hlen
 obtain⟨cs,rfl⟩:∃ cs,v=.agg cs:=by cases v<;>first | exact⟨_,rfl⟩ | (simp[Value.cells] at hlen)
 obtain⟨x,e,q⟩:=rd_tx h hs
 refine ⟨x,?_,q⟩;unfold txV
 congr 1
 exact Array.toList_inj.1 e
end Go.Proofs.YtpnabjopfpdkhaaGreatDoor
