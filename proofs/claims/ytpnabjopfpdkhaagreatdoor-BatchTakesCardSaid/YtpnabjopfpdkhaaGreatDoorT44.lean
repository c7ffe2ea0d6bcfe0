/- Lemmas. -/
import Derived.Test.YtpnabjopfpdkhaaGreatDoorT30
set_option linter.unusedSimpArgs false
set_option linter.unusedVariables false
set_option maxRecDepth 20000
namespace Go.Proofs.YtpnabjopfpdkhaaGreatDoor
open Go.RowKit Go.ChangeShapes Go.WideShapes Go.ChangeAt Go.Joins
variable {H:Type} {enc:TypeId × Value→H} {W:World}
theorem rd_rowIn {α:Type} (en:α→List Value) (n:Nat) (hn:∀ a,(en a).length=n) (h1:1≤n) (Q:α→Prop) {S E:TypeId} (hS:Tryz.prog.underlying S=some (.slice E)) (hc:Tryz.prog.cellsOf E=n) (hby:1≤Tryz.prog.bytesOf E)
  (rd:∀ {fuel:Nat} {cs:List Value} {x:DataW H × List MemPlace},DataW.trod enc Tryz.prog W 0 (fun _=>true) true fuel E cs=some x→Sm E x.1→∃ a,cs=en a∧Q a)
  {fuel:Nat} {cs:List Value} {x:DataW H × List MemPlace} (h:DataW.trod enc Tryz.prog W 0 (fun _=>true) true fuel S cs=some x) (hs:Sm S x.1):∃ v l,cs=[v]∧RowIn W en n v l∧(∀ a∈l,Q a)∧l.length≤140737488351232:=by
 rcases Deep.open_slice hS h with ⟨rfl,rfl⟩ | ⟨a,len,cap,m,k,D,Pl,rfl,hb,hl,hm,hmm,rfl,hi⟩
 · exact⟨_,[],rfl,⟨none,0,rfl,Nat.le_refl _,by decide,by simp⟩,by simp,by simp⟩
 · simp only[if_true] at hmm
   subst hmm
   obtain⟨hb1,hb2⟩:=sm_slice hS hs
   have hcap:m≤140737488351232:=by
    have e:((List.range len).map D).length+(((List.range m).drop len).map D).length=m:=by simp;omega
    first | (rw[e] at hb1;exact Nat.le_trans (Nat.le_mul_of_pos_right _ hby) hb1) | (refine Nat.le_trans (Nat.le_trans ?_ (Nat.le_mul_of_pos_right _ hby)) hb1;simp;omega)
   have key:∀ i,i<len→∃ p:α,Q p∧∀ j u,(en p)[j]?=some u→W.cell? (a.add (i*n+j))=some u:=by
    intro i hil
    obtain⟨cs',hc',ht'⟩:=hi i zac
    rw[hc] at hc'
    obtain⟨p,rfl,hin⟩:=rd ht' (hb2 _ (List.mem_map.2 ⟨i,List.mem_range.2 hil,rfl⟩))
    obtain⟨_,_,hat⟩:=World.cells?_some hc'
    refine ⟨p,hin,fun j u hj=>?_⟩
    have:=hat j (by have:=(List.getElem?_eq_some_iff.1 hj).1;rw[hn] at this;exact this)
    rw[Deep.add_add] at this;rw[this];exact hj
   rcases Nat.eq_zero_or_pos len with h0 | h0
   · subst h0
     exact⟨_,[],rfl,⟨some a,m,rfl,Nat.zero_le _,by unfold maxLen;omega,by simp⟩,by simp,by simp⟩
   obtain⟨ab,ao,spot⟩:=a
   have hspot:spot=none:=by
    obtain⟨p,_,hx0⟩:=key 0 zac
    have:=hx0 0 _ (List.getElem?_eq_getElem (by rw[hn];omega))
    simpa [Addr.add] using World.cell?_spot this
   subst hspot
   obtain⟨l,hll,hp⟩:=list_of len (fun j (p:α)=>Q p∧∀ i u,(en p)[i]?=some u→W.cell? ⟨ab,ao+j*n+i,none⟩=some u) (fun i hi2=>by
    obtain⟨p,h1,h2⟩:=key i hi2
    refine ⟨p,h1,fun j u hj=>?_⟩
    have:=h2 j u hj
    rw[Addr.add_lit] at this
    rw[Nat.add_assoc];exact this)
   refine ⟨_,l,rfl,⟨some ⟨ab,ao,none⟩,m,by rw[hll],by omega,by unfold maxLen;omega,fun j p hj=>⟨ab,ao,rfl,(hp j p hj).2⟩⟩,fun p hm=>?_,by omega⟩
   obtain⟨j,hj⟩:=List.getElem?_of_mem hm
   exact(hp j p hj).1
theorem wantFields:∃ f0 f1:Field,Tryz.prog.underlying 25=some (.struct #[f0,f1])∧(f0.type=23∧f0.offset=0)∧(f1.type=23∧f1.offset=1):=⟨_,_,Tryz.underlying25,⟨rfl,rfl⟩,⟨rfl,rfl⟩⟩
theorem txnFields:∃ f0 f1 f2 f3 f4:Field,Tryz.prog.underlying 27=some (.struct #[f0,f1,f2,f3,f4])∧(f0.type=3∧f0.offset=0)∧(f1.type=3∧f1.offset=1)∧(f2.type=25∧f2.offset=2)∧(f3.type=9∧f3.offset=4)∧(f4.type=3∧f4.offset=5):=⟨_,_,_,_,_,Tryz.underlying27,⟨rfl,rfl⟩,⟨rfl,rfl⟩,⟨rfl,rfl⟩,⟨rfl,rfl⟩,⟨rfl,rfl⟩⟩
theorem resFields:∃ f0 f1 f2:Field,Tryz.prog.underlying 47=some (.struct #[f0,f1,f2])∧(f0.type=32∧f0.offset=0)∧(f1.type=45∧f1.offset=1)∧(f2.type=3∧f2.offset=4):=⟨_,_,_,Tryz.underlying47,⟨rfl,rfl⟩,⟨rfl,rfl⟩,⟨rfl,rfl⟩⟩
theorem lastFields:∃ f0 f1 f2:Field,Tryz.prog.underlying 70=some (.struct #[f0,f1,f2])∧(f0.type=3∧f0.offset=0)∧(f1.type=3∧f1.offset=1)∧(f2.type=47∧f2.offset=2):=⟨_,_,_,Tryz.underlying70,⟨rfl,rfl⟩,⟨rfl,rfl⟩,⟨rfl,rfl⟩⟩
theorem cWt:Tryz.prog.cellsOf 25=2:=by kernel_rfl
theorem cTn:Tryz.prog.cellsOf 27=6:=by kernel_rfl
theorem cRs:Tryz.prog.cellsOf 47=5:=by kernel_rfl
theorem cLa:Tryz.prog.cellsOf 70=7:=by kernel_rfl
theorem cEr:Tryz.prog.cellsOf 32=1:=by kernel_rfl
theorem rd_want {fuel:Nat} {cs:List Value} {x:DataW H × List MemPlace} (h:DataW.trod enc Tryz.prog W 0 (fun _=>true) true fuel 25 cs=some x) (hs:Sm 25 x.1):∃ v1 l1 v2 l2,cs=[v1,v2]∧PatS W v1 l1∧PatS W v2 l2:=by
 obtain⟨f0,f1,hst,⟨t0,o0⟩,⟨t1,o1⟩⟩:=wantFields
 obtain⟨ys,n',_,rfl,hlen,hyl,hf⟩:=DataW.trod_struct hst h
 rw[cWt] at hlen
 match cs,hlen with
 | [x0,x1],_ =>
  match ys,hyl with
  | [y0,y1],_ =>
   have g0:=hf 0 f0 rfl;have g1:=hf 1 f1 rfl;have s0:=qbQ (i:=0) (f:=f0) (d:=y0.1) hst hs rfl rfl;have s1:=qbQ (i:=1) (f:=f1) (d:=y1.1) hst hs rfl rfl;rw[t0,o0,cTx] at g0;rw[t1,o1,cTx] at g1;rw[t0] at s0;rw[t1] at s1
   obtain⟨z0,l0,e0,w0⟩:=rd_strs g0 s0
   obtain⟨z1,l1,e1,w1⟩:=rd_strs g1 s1
   simp at e0 e1
   subst e0 e1
   exact⟨_,l0,_,l1,rfl,w0,w1⟩
theorem rd_tx {fuel:Nat} {cs:List Value} {x:DataW H × List MemPlace} (h:DataW.trod enc Tryz.prog W 0 (fun _=>true) true fuel 27 cs=some x) (hs:Sm 27 x.1):∃ p:Tx,cs=txL p∧TxAt W p:=by
 obtain⟨f0,f1,f2,f3,f4,hst,⟨t0,o0⟩,⟨t1,o1⟩,⟨t2,o2⟩,⟨t3,o3⟩,⟨t4,o4⟩⟩:=txnFields
 obtain⟨ys,n',_,rfl,hlen,hyl,hf⟩:=DataW.trod_struct hst h
 rw[cTn] at hlen
 match cs,hlen with
 | [x0,x1,x2,x3,x4,x5],_ =>
  match ys,hyl with
  | [y0,y1,y2,y3,y4],_ =>
   have g0:=hf 0 f0 rfl;have g1:=hf 1 f1 rfl;have g2:=hf 2 f2 rfl;have g3:=hf 3 f3 rfl;have g4:=hf 4 f4 rfl;have s2:=qbQ (i:=2) (f:=f2) (d:=y2.1) hst hs rfl rfl;have s3:=qbQ (i:=3) (f:=f3) (d:=y3.1) hst hs rfl rfl;rw[t0,o0,cI] at g0;rw[t1,o1,cI] at g1;rw[t2,o2,cWt] at g2;rw[t3,o3,cS] at g3;rw[t4,o4,cI] at g4;rw[t2] at s2;rw[t3] at s3
   obtain⟨z0,e0,w0⟩:=qdg Tryz.underlying3 g0
   obtain⟨z1,e1,w1⟩:=qdg Tryz.underlying3 g1
   obtain⟨u1,l1,u2,l2,e2,w2,w3⟩:=rd_want g2 s2
   obtain⟨z3,e3,w4⟩:=qen Tryz.underlying9 g3 s3
   obtain⟨z4,e4,w5⟩:=qdg Tryz.underlying3 g4
   simp at e0 e1 e2 e3 e4
   obtain⟨rfl,rfl⟩:=e2
   subst e0 e1 e3 e4
   exact⟨⟨z0,z1,x2,x3,z3,z4,l1,l2⟩,rfl,w2,w3,w4,w0,w1,w5⟩
def LaIn (x:La):Prop:=In64I x.c∧In64I x.t∧In64I x.code∧In64I x.vk∧In64I x.vi∧x.vs.size≤140737488351232∧In64I x.ver
theorem rd_la {fuel:Nat} {cs:List Value} {x:DataW H × List MemPlace} (h:DataW.trod enc Tryz.prog W 0 (fun _=>true) true fuel 70 cs=some x) (hs:Sm 70 x.1):∃ p:La,cs=laL p∧LaIn p:=by
 obtain⟨f0,f1,f2,hst,⟨t0,o0⟩,⟨t1,o1⟩,⟨t2,o2⟩⟩:=lastFields
 obtain⟨ys,n',_,rfl,hlen,hyl,hf⟩:=DataW.trod_struct hst h
 rw[cLa] at hlen
 match cs,hlen with
 | [x0,x1,x2,x3,x4,x5,x6],_ =>
  match ys,hyl with
  | [y0,y1,y2],_ =>
   have g0:=hf 0 f0 rfl;have g1:=hf 1 f1 rfl;have g2:=hf 2 f2 rfl;have s2:=qbQ (i:=2) (f:=f2) (d:=y2.1) hst hs rfl rfl;rw[t0,o0,cI] at g0;rw[t1,o1,cI] at g1;rw[t2,o2,cRs] at g2;rw[t2] at s2
   obtain⟨z0,e0,w0⟩:=qdg Tryz.underlying3 g0
   obtain⟨z1,e1,w1⟩:=qdg Tryz.underlying3 g1
   obtain⟨k0,k1,k2,hst',⟨u0,p0⟩,⟨u1,p1⟩,⟨u2,p2⟩⟩:=resFields
   obtain⟨ys',n'',_,hq,hlen',hyl',hf'⟩:=DataW.trod_struct hst' g2
   rw[hq] at s2
   match ys',hyl' with
   | [b0,b1,b2],_ =>
    have h0:=hf' 0 k0 rfl;have h1:=hf' 1 k1 rfl;have h2:=hf' 2 k2 rfl;have r1:=qbQ (i:=1) (f:=k1) (d:=b1.1) hst' s2 rfl rfl;rw[u0,p0,cEr] at h0;rw[u1,p1,cV] at h1;rw[u2,p2,cI] at h2;rw[u1] at r1
    obtain⟨q0,a0,v0⟩:=qdg Tryz.underlying32 h0
    obtain⟨q1,q2,q3,a1,v1⟩:=rd_val h1 r1
    obtain⟨q4,a2,v2⟩:=qdg Tryz.underlying3 h2
    simp at e0 e1 a0 a1 a2
    obtain⟨rfl,rfl,rfl⟩:=a1
    subst e0 e1 a0 a2
    exact⟨⟨z0,z1,q0,q1,q2,q3,q4⟩,rfl,w0,w1,v0,v1.1,v1.2.1,v1.2.2,v2⟩
theorem open_txs {v:Value} {d:DataW H} {p:List MemPlace} {base:Nat} (hval:Value.okWide Tryz.prog W .any base 22 v) (hd:DataW.Trod enc Tryz.prog W 0 (fun _=>true) true 22 v d p) (hs:Sm 22 d):∃ l,TxIn W v l∧l.length≤140737488351232:=by
 obtain⟨a1,len,cap,rfl⟩:=okWide_slice Tryz.underlying22 hval
 obtain⟨fuel,h⟩:=hd
 obtain⟨v',l,e,q,r,z⟩:=rd_rowIn txL 6 (fun _=>rfl) zal (TxAt W) Tryz.underlying22 cTn (by rw[show Tryz.prog.bytesOf 27=88 by kernel_rfl];decide) (fun h1 h2=>rd_tx h1 h2) h hs
 simp[Value.cells] at e
 exact⟨l,by rw[e];exact⟨r,q⟩,z⟩
theorem open_las {v:Value} {d:DataW H} {p:List MemPlace} {base:Nat} (hval:Value.okWide Tryz.prog W .any base 28 v) (hd:DataW.Trod enc Tryz.prog W 0 (fun _=>true) true 28 v d p) (hs:Sm 28 d):∃ l,RowIn W laL 7 v l∧(∀ x∈l,LaIn x)∧l.length≤140737488351232:=by
 obtain⟨a1,len,cap,rfl⟩:=okWide_slice Tryz.underlying28 hval
 obtain⟨fuel,h⟩:=hd
 obtain⟨v',l,e,q,r,z⟩:=rd_rowIn laL 7 (fun _=>rfl) zal LaIn Tryz.underlying28 cLa (by rw[show Tryz.prog.bytesOf 70=64 by kernel_rfl];decide) (fun h1 h2=>rd_la h1 h2) h hs
 simp[Value.cells] at e
 exact⟨l,by rw[e];exact q,r,z⟩
end Go.Proofs.YtpnabjopfpdkhaaGreatDoor
