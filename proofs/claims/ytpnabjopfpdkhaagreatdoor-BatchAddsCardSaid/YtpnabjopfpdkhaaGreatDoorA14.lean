/- Lemmas. -/
import Derived.Test.YtpnabjopfpdkhaaGreatDoorA13
import Derived.StillTailTactics
set_option linter.unusedSimpArgs false
set_option linter.unusedVariables false
set_option maxHeartbeats 8000000
set_option maxRecDepth 20000
namespace Go.Proofs.YtpnabjopfpdkhaaGreatDoor
open Go.RowKit
attribute [go_sem] more_more Array.size_append
def MBlkC (W:World) (c m:Nat) (nv sv:Value) (fi mo:Int) (ns:List Nd) (sl:List Int) (f:Nat):Prop:=∀ (L:List (Nat × Obj)) (M R:Mk) (w:World) (i:Int),blkM ns sl f i M=some R→MkS W c m nv sv fi mo ns sl L M w →
  Calls Tryz.prog 100 #[.pointer (some ⟨m,0,none⟩),.int .i64 i] w fun r w'=>r=.returned (.tuple #[])∧MkS W c m nv sv fi mo ns sl L R w'
theorem MBlkC.out {W:World} {c m:Nat} {nv sv:Value} {fi mo:Int} {ns:List Nd} {sl:List Int} {f:Nat} (h:MBlkC W c m nv sv fi mo ns sl f) {L:List (Nat × Obj)} {M R:Mk} {i:Int} (hR:blkM ns sl f i M=some R) (w:World) (hm:MkS W c m nv sv fi mo ns sl L M w) :
  Calls Tryz.prog 100 #[.pointer (some ⟨m,0,none⟩),.int .i64 i] w fun r w'=>r=.returned (.tuple #[])∧MkS W c m nv sv fi mo ns sl L R w':=h L M R w i hR hm
def MStmC (W:World) (c m:Nat) (nv sv:Value) (fi mo:Int) (ns:List Nd) (sl:List Int) (f:Nat):Prop:=∀ (L:List (Nat × Obj)) (M R:Mk) (w:World) (j:Nat) (z:Nd),ns[j]?=some z→stmM (exprM ns sl f) (blkM ns sl f) sl j z M=some R→MkS W c m nv sv fi mo ns sl L M w →
  Calls Tryz.prog 114 #[.pointer (some ⟨m,0,none⟩),.int .i64 (j:Int),.agg #[.int .i64 z.k,.int .i64 z.a,.int .i64 z.b,.int .i64 z.c,.int .i64 z.x,.int .i64 z.i,.string z.s,.string z.t]] w fun r w'=>r=.returned (.tuple #[])∧MkS W c m nv sv fi mo ns sl L R w'
theorem MStmC.out {W:World} {c m:Nat} {nv sv:Value} {fi mo:Int} {ns:List Nd} {sl:List Int} {f:Nat} (h:MStmC W c m nv sv fi mo ns sl f) {L:List (Nat × Obj)} {M R:Mk} {j:Nat} {z:Nd} (hz:ns[j]?=some z) (hR:stmM (exprM ns sl f) (blkM ns sl f) sl j z M=some R) (w:World) (hm:MkS W c m nv sv fi mo ns sl L M w) :
  Calls Tryz.prog 114 #[.pointer (some ⟨m,0,none⟩),.int .i64 (j:Int),.agg #[.int .i64 z.k,.int .i64 z.a,.int .i64 z.b,.int .i64 z.c,.int .i64 z.x,.int .i64 z.i,.string z.s,.string z.t]] w fun r w'=>r=.returned (.tuple #[])∧MkS W c m nv sv fi mo ns sl L R w':=h L M R w j z hz hR hm
theorem MkS.nodeG {W:World} {c m:Nat} {G n cap:Nat} {sv:Value} {fi mo:Int} {ns:List Nd} {sl:List Int} {L:List (Nat × Obj)} {M:Mk} {w:World} (h:MkS W c m (.slice (some ⟨G,0,none⟩) n cap) sv fi mo ns sl L M w) {j:Nat} {z:Nd} (hz:ns[j]?=some z) :
  G<w.heap.size∧j<n∧c<w.heap.size∧m<w.heap.size∧w.cell? ⟨m,0,none⟩=some (.pointer (some ⟨c,0,none⟩))∧w.cell? ⟨c,0,none⟩=some (.slice (some ⟨G,0,none⟩) n cap)∧w.cell? ⟨m,1,none⟩=some sv ∧
  w.cell? ⟨G,j*8,none⟩=some (.int .i64 z.k)∧w.cell? ⟨G,j*8+1,none⟩=some (.int .i64 z.a)∧w.cell? ⟨G,j*8+2,none⟩=some (.int .i64 z.b)∧w.cell? ⟨G,j*8+3,none⟩=some (.int .i64 z.c)∧w.cell? ⟨G,j*8+4,none⟩=some (.int .i64 z.x)∧w.cell? ⟨G,j*8+5,none⟩=some (.int .i64 z.i)∧w.cell? ⟨G,j*8+6,none⟩=some (.string z.s)∧w.cell? ⟨G,j*8+7,none⟩=some (.string z.t):=by
 obtain⟨G',n',cap',iv,vv,e,hG,hj,lc,lm,x0,y0,x1,y2,y3,hiv,a⟩:=h.node hz
 simp only[Value.slice.injEq,Option.some.injEq,Addr.mk.injEq] at e
 obtain⟨⟨rfl,_,_⟩,rfl,rfl⟩:=e
 exact⟨hG,hj,lc,lm,x0,y0,x1,a⟩
theorem MkS.insLen {W:World} {c m:Nat} {nv sv:Value} {fi mo:Int} {ns:List Nd} {sl:List Int} {L:List (Nat × Obj)} {M:Mk} {w:World} (h:MkS W c m nv sv fi mo ns sl L M w):∃ p k,c<w.heap.size∧m<w.heap.size∧w.cell? ⟨m,0,none⟩=some (.pointer (some ⟨c,0,none⟩))∧w.cell? ⟨c,2,none⟩=some (.slice p M.ins.length k):=by
 obtain⟨iv,vv,h⟩:=h
 have kb:KB c _ _ w:=h.code
 have km:KB m _ _ w:=h.mkr
 obtain⟨p,k,hv⟩:=qae h.ins
 exact⟨p,k,kb.lt,km.lt,km.cell 0 _ rfl,by have:=kb.cell 2 _ rfl;rw[hv] at this;exact this⟩
theorem mblk_neg (ns:List Nd) (sl:List Int) (f:Nat) (i:Int) (M:Mk) (h:i<0):blkM ns sl f i M=some M:=by
 cases f<;>(unfold blkM;rw[if_pos h])
theorem mblk_pos {ns:List Nd} {sl:List Int} {f:Nat} {i:Int} {M R:Mk} (h:0≤i) (hR:blkM ns sl f i M=some R):∃ g j z M1 M2,f=g+1∧i=((j:Nat):Int)∧ns[j]?=some z∧M.add 7 0 0 (j:Int) 0=some M1∧stmM (exprM ns sl g) (blkM ns sl g) sl j z M1=some M2∧blkM ns sl g z.x M2=some R:=by
 cases f with
 | zero=>unfold blkM at hR;rw[if_neg zac] at hR;cases hR
 | succ g =>
  unfold blkM at hR;rw[if_neg zac] at hR
  obtain⟨j,rfl⟩:∃ j:Nat,i=(j:Int):=⟨i.toNat,by omega⟩
  rw[Int.toNat_natCast] at hR
  split at hR
  · cases hR
  · rename_i z hz
    obtain⟨M1,h1,hR⟩:=qab hR
    obtain⟨M2,h2,hR⟩:=qab hR
    exact⟨g,j,z,M1,M2,rfl,rfl,hz,h1,h2,hR⟩
theorem mblk_of {W:World} {c m:Nat} {nv sv:Value} {fi mo:Int} {ns:List Nd} {sl:List Int} (f:Nat) (hS:∀ g,g<f→MStmC W c m nv sv fi mo ns sl g):MBlkC W c m nv sv fi mo ns sl f:=by
 intro L M R w i hR h;have HSS:=Lib.hid hS;have HR:=Lib.hid hR;have H0:=Lib.hid h;clear hS hR h;go_enter Tryz.func100,Tryz.ntmps100;go_wp2_with fail
 go_loopg [1] f (fun g x wr=>∃ (i':Int) (M':Mk),x=.int .i64 i'∧g≤f∧blkM ns sl g i' M'=some R∧MkS W c m nv sv fi mo ns sl L M' wr)
 case atStart=>exact⟨i,M,rfl,Nat.le_refl _,HR.out,H0.out⟩
 case round =>
  obtain⟨i',M',rfl,hg,hb,hwk⟩:=hrel
  have HG:=Lib.hid hg;clear hg
  by_cases hi:i'<0
  · rw[mblk_neg _ _ _ _ _ hi] at hb
    have e2:=Option.some.inj hb;subst e2;have HK2:=Lib.hid hwk;clear hb hwk;go_wp2_with fail;refine yae ?_
    exact⟨rfl,HK2.out⟩
  · obtain⟨g1,j,⟨zk,za,zb,zc,zx,zi,zs,zt⟩,M1,M2,e,rfl,hz,h1,h2,h3⟩:=mblk_pos zac hb
    have HE:=Lib.hid e
    obtain⟨G,n,cap,iv,vv,rfl,hG,hj,lc,lm,x0,y0,x1,y2,y3,hiv,a0,a1,a2,a3,a4,a5,a6,a7⟩:=hwk.node hz
    have HZ:=Lib.hid hz;have C1:=Lib.hid (fun w1 (hw:MkS W c m (.slice (some ⟨G,0,none⟩) n cap) sv fi mo ns sl L M' w1)=>qbJ hw 7 0 0 (j:Int) 0 h1);have C2:=Lib.hid (fun w1 hw=>(HSS.out g1 (by have:=HG.out;omega)).out (L:=L) hz h2 w1 hw);have H3x:=Lib.hid h3;have HK:=Lib.hid hwk;dsimp only at C2 H3x
    have hj0:0≤(j:Int):=by omega
    have hjn:(j:Int)<(n:Int):=by omega
    clear hb hwk hi e hz h1 h2 h3 hiv a0 a1 a2 a3 a4 a5 a6 a7 x0 y0 x1 y2 y3 lc lm hG
    go_wp2_with (first
     | ((with_reducible refine (C1.out _ HK.out).mono ?_);rintro e' w2 ⟨rfl,h2⟩;have H2:=Lib.hid h2;have hnd:=h2.nodeG HZ.out;dsimp only at hnd;obtain⟨hG,hj,lc,lm,x0,y0,x1,a0,a1,a2,a3,a4,a5,a6,a7⟩:=hnd;clear h2)
     | ((with_reducible refine (C2.out _ H2.out).mono ?_);rintro e' w3 ⟨rfl,h3⟩;have H3:=Lib.hid h3;have hnd:=h3.nodeG HZ.out;dsimp only at hnd;obtain⟨hG',hj',lc',lm',x0',y0',x1',a0',a1',a2',a3',a4',a5',a6',a7'⟩:=hnd;clear h3))
    clear hG lc lm x0 y0 x1 a0 a1 a2 a3 a4 a5 a6 a7 hG' lc' lm' x0' y0' x1' a0' a1' a2' a3' a4' a5' a6' a7'
    go_roundg g1
    case rel=>exact⟨zx,M2,rfl,by have:=HG.out;have:=HE.out;omega,H3x.out,H3.out⟩
    case measure=>have:=HE.out;omega
theorem mloop_of {W:World} {c m:Nat} {nv sv:Value} {fi mo:Int} {ns:List Nd} {sl:List Int} {f:Nat} (hB:MBlkC W c m nv sv fi mo ns sl f) {L:List (Nat × Obj)} {M R:Mk} (w:World) (op a bl:Int) (j:Nat) (hop:op=13∨op=15) (hR:loopM (blkM ns sl f) op a j bl M=some R) (h:MkS W c m nv sv fi mo ns sl L M w) :
  Calls Tryz.prog 138 #[.pointer (some ⟨m,0,none⟩),.int .i64 op,.int .i64 a,.int .i64 (j:Int),.int .i64 bl] w fun r w'=>r=.returned (.tuple #[])∧MkS W c m nv sv fi mo ns sl L R w':=by
 unfold loopM at hR
 obtain⟨M1,h1,hR⟩:=qab hR
 obtain⟨M2,h2,hR⟩:=qab hR
 obtain⟨M3,h3,hR⟩:=qab hR
 obtain⟨N,hN⟩:∃ N,M.ins.length=N:=⟨_,rfl⟩
 obtain⟨p,k,lc,lm,x0,y2⟩:=h.insLen
 rw[hN] at y2 h3 hR
 have hR5:(if op=13∨op=15 then M3.setB N else M3.setA N)=some R:=by rw[if_pos hop];exact hR
 have C1:=Lib.hid (fun w1 (hw:MkS W c m nv sv fi mo ns sl L M w1)=>qdl hw op a 0 (j:Int) 0 h1);have C2:=Lib.hid (fun LL w1 hw=>hB.out (L:=LL) h2 w1 hw);have C3:=Lib.hid (fun LL w1 (hw:MkS W c m nv sv fi mo ns sl LL M2 w1)=>qbJ hw 9 (N:Int) 0 (j:Int) 0 h3);rw[hN] at C1;have HR5:=Lib.hid hR5;have H0:=Lib.hid h;clear hB hR h h1 h2 h3 hop hN hR5;go_enter Tryz.func138,Tryz.ntmps138
 go_wp2_with (first
  | ((with_reducible refine (C1.out _ H0.out).mono ?_);rintro e' w2 ⟨km,ko,ki,rfl,h2⟩;have H2:=Lib.hid h2;clear h2)
  | ((with_reducible refine (C2.out _ _ H2.out).mono ?_);rintro e' w3 ⟨rfl,h3⟩;have H3:=Lib.hid h3;clear h3)
  | ((with_reducible refine (C3.out _ _ H3.out).mono ?_);rintro e' w4 ⟨rfl,h4⟩;have H4:=Lib.hid h4;clear h4)
  | ((with_reducible refine (qdU H4.out (op:=op) List.mem_cons_self (List.mem_cons_of_mem _ List.mem_cons_self) (List.mem_cons_of_mem _ (List.mem_cons_of_mem _ List.mem_cons_self)) HR5.out).mono ?_);rintro e' w5 ⟨rfl,h5⟩;have H5:=Lib.hid h5;clear h5))
 refine yae ?_
 exact⟨rfl,H5.out.sub fun q hq=>List.mem_cons_of_mem _ (List.mem_cons_of_mem _ (List.mem_cons_of_mem _ hq))⟩
section
variable {W:World} {c m:Nat} {nv sv:Value} {fi mo:Int} {ns:List Nd} {sl:List Int} {f:Nat} {L:List (Nat × Obj)} {M R:Mk} {w:World} {Q:Ending→World→Prop}
theorem gm_expr {i:Int} (H:Hid (MkS W c m nv sv fi mo ns sl L M w)) (h:Hid (exprM ns sl f i M=some R)) (k:∀ w',Hid (MkS W c m nv sv fi mo ns sl L R w')→Q (.returned (.tuple #[])) w') :
  Calls Tryz.prog 136 #[.pointer (some ⟨m,0,none⟩),.int .i64 i] w Q :=
 (mexpr_any f L M R w i h.out H.out).mono fun e w' ⟨he,h⟩=>by subst he;exact k w' (Lib.hid h)
theorem gm_block {i:Int} (hB:Hid (MBlkC W c m nv sv fi mo ns sl f)) (H:Hid (MkS W c m nv sv fi mo ns sl L M w)) (h:Hid (blkM ns sl f i M=some R)) (k:∀ w',Hid (MkS W c m nv sv fi mo ns sl L R w')→Q (.returned (.tuple #[])) w') :
  Calls Tryz.prog 100 #[.pointer (some ⟨m,0,none⟩),.int .i64 i] w Q :=
 (hB.out.out h.out w H.out).mono fun e w' ⟨he,h⟩=>by subst he;exact k w' (Lib.hid h)
theorem gm_add {op a b nd hg:Int} (H:Hid (MkS W c m nv sv fi mo ns sl L M w)) (h:Hid (M.add op a b nd hg=some R)) (k:∀ w',Hid (MkS W c m nv sv fi mo ns sl L R w')→Q (.returned (.int .i64 (M.ins.length:Int))) w') :
  Calls Tryz.prog 101 #[.pointer (some ⟨m,0,none⟩),.int .i64 op,.int .i64 a,.int .i64 b,.int .i64 nd,.int .i64 hg] w Q :=
 (qbJ H.out op a b nd hg h.out).mono fun e w' ⟨he,h⟩=>by subst he;exact k w' (Lib.hid h)
theorem gm_later {op a b nd hg:Int} (H:Hid (MkS W c m nv sv fi mo ns sl L M w)) (h:Hid (M.add op a b nd hg=some R)) (k:∀ km ko ki w',Hid (MkS W c m nv sv fi mo ns sl ((ki,.cells #[.int .i64 (M.ins.length:Int)] 3 (0,0))::(ko,.cells #[.int .i64 op] 3 (0,0))::(km,.cells #[.pointer (some ⟨m,0,none⟩)] 163 (0,0))::L) R w')→Q (.returned (.func (.func 178) #[] #[.pointer (some ⟨ko,0,none⟩),.pointer (some ⟨km,0,none⟩),.pointer (some ⟨ki,0,none⟩)])) w') :
  Calls Tryz.prog 137 #[.pointer (some ⟨m,0,none⟩),.int .i64 op,.int .i64 a,.int .i64 b,.int .i64 nd,.int .i64 hg] w Q :=
 (qdl H.out op a b nd hg h.out).mono fun e w' ⟨km,ko,ki,he,h⟩=>by subst he;exact k km ko ki w' (Lib.hid h)
theorem gm_done {km ko ki j:Nat} {op:Int} (H:Hid (MkS W c m nv sv fi mo ns sl L M w)) (b1:(ki,Obj.cells #[.int .i64 (j:Int)] 3 (0,0))∈L) (b2:(ko,Obj.cells #[.int .i64 op] 3 (0,0))∈L) (b3:(km,Obj.cells #[.pointer (some ⟨m,0,none⟩)] 163 (0,0))∈L) (h:Hid (M.setA j=some R)) (ho:¬(op=13∨op=15)) (k:∀ w',Hid (MkS W c m nv sv fi mo ns sl L R w')→Q (.returned (.tuple #[])) w') :
  Calls Tryz.prog 178 #[.pointer (some ⟨ko,0,none⟩),.pointer (some ⟨km,0,none⟩),.pointer (some ⟨ki,0,none⟩)] w Q :=
 (qdU (R:=R) H.out b1 b2 b3 (by rw[if_neg ho];exact h.out)).mono fun e w' ⟨he,h⟩=>by subst he;exact k w' (Lib.hid h)
theorem gm_loop {op a bl:Int} {j:Nat} (hB:Hid (MBlkC W c m nv sv fi mo ns sl f)) (H:Hid (MkS W c m nv sv fi mo ns sl L M w)) (h:Hid (loopM (blkM ns sl f) op a j bl M=some R)) (ho:op=13∨op=15) (k:∀ w',Hid (MkS W c m nv sv fi mo ns sl L R w')→Q (.returned (.tuple #[])) w') :
  Calls Tryz.prog 138 #[.pointer (some ⟨m,0,none⟩),.int .i64 op,.int .i64 a,.int .i64 (j:Int),.int .i64 bl] w Q :=
 (mloop_of hB.out w op a bl j ho h.out H.out).mono fun e w' h=>by obtain⟨he,h⟩:=h;subst he;exact k w' (Lib.hid h)
theorem MkS.look {N:List (Nat × Obj)} {k:Nat} {a0 a1 a2 a3 a4 a5 a6 a7:Value} {T:TypeId} (H:Hid (MkS W c m nv sv fi mo ns sl L M w)) (hs:∀ q,q∈N→q∈L) (hq:Hid ((k,Obj.cells #[a0,a1,a2,a3,a4,a5,a6,a7] T (0,0))∈N)) :
  m<w.heap.size∧w.cell? ⟨m,1,none⟩=some sv∧k<w.heap.size∧w.cell? ⟨k,0,none⟩=some a0∧w.cell? ⟨k,2,none⟩=some a2∧w.cell? ⟨k,3,none⟩=some a3∧w.cell? ⟨k,5,none⟩=some a5:=by
 have h:=H.out.locAt (hs _ hq.out)
 obtain⟨iv,vv,hm⟩:=H.out
 have km:KB m _ _ w:=hm.mkr
 exact⟨km.lt,km.cell 1 _ rfl,h.lt,h.cell 0 _ rfl,h.cell 2 _ rfl,h.cell 3 _ rfl,h.cell 5 _ rfl⟩
theorem MkS.slotG {g n k j:Nat} {q:Int} (H:Hid (MkS W c m nv (.slice (some ⟨g,0,none⟩) n k) fi mo ns sl L M w)) (hq:Hid (sl[j]?=some q)):g<w.heap.size∧w.cell? ⟨g,j,none⟩=some (.int .i64 q):=by
 obtain⟨g',n',k',e,_,_,h1,h2⟩:=H.out.slot hq.out
 simp only[Value.slice.injEq,Option.some.injEq,Addr.mk.injEq] at e
 obtain⟨⟨rfl,_,_⟩,rfl,rfl⟩:=e
 exact⟨h1,h2⟩
theorem stm_cases {E B:Int→Mk→Option Mk} {j:Nat} {zk za zb zc zx zi:Int} {zs zt:ByteArray} (hR:stmM E B sl j ⟨zk,za,zb,zc,zx,zi,zs,zt⟩ M=some R) :
  (∃ M0 q,(zk=20∨zk=21)∧Hid (E za M=some M0)∧Hid (sl[j]?=some q)∧Hid (M0.add 2 q 0 j (-1)=some R)) ∨
  (∃ M0 M1,zk=22∧Hid (E za M=some M0)∧Hid (E zb M0=some M1)∧Hid (M1.add 10 0 0 j (-2)=some R)) ∨
  (∃ M0 op,(zk=23∧op=11∨zk=27∧op=16∨zk=28∧op=17)∧Hid (E za M=some M0)∧Hid (M0.add op 0 0 j (-1)=some R)) ∨
  (∃ M0 M1 M2,zk=24∧Hid (E za M=some M0)∧Hid (M0.add 8 0 0 j (-1)=some M1)∧Hid (B zb M1=some M2) ∧
   (zc<0∧Hid (M2.setA M0.ins.length=some R)∨0≤zc∧∃ M3 M4 M5,Hid (M2.add 9 0 0 j 0=some M3)∧Hid (M3.setA M0.ins.length=some M4)∧Hid (B zc M4=some M5)∧Hid (M5.setA M2.ins.length=some R))) ∨
  (∃ M0 M1 q,zk=25∧Hid (E za M=some M0)∧Hid (M0.add 12 0 zi j (-1)=some M1)∧Hid (sl[j]?=some q)∧Hid (loopM B 13 q j zb M1=some R)) ∨
  (∃ M1,zk=26∧Hid (M.add 14 zi 0 j 0=some M1)∧Hid (loopM B 15 0 j zb M1=some R)) ∨
  (((zk !=26)=true∧(zk==26)=false∧(zk==20)=false∧(zk==21)=false∧(zk==22)=false∧(zk==23)=false∧(zk==24)=false∧(zk==25)=false∧(zk==27)=false∧(zk==28)=false)∧Hid (E za M=some R)):=by
 unfold stmM stmKM at hR;dsimp only at hR
 by_cases h26:zk=26
 · subst h26
   obtain⟨M0,h0,hR⟩:=qab hR
   cases h0
   simp only[Int.reduceEq,or_self,if_false,if_true] at hR
   obtain⟨M1,h1,hR⟩:=qab hR
   exact Or.inr (Or.inr (Or.inr (Or.inr (Or.inr (Or.inl ⟨M1,rfl,Lib.hid h1,Lib.hid hR⟩)))))
 rw[if_neg h26] at hR
 obtain⟨M0,h0,hR⟩:=qab hR
 have h0:=Lib.hid h0
 repeat' split at hR
 · obtain⟨q,hq,hR⟩:=qab hR
   exact Or.inl ⟨M0,q,by assumption,h0,Lib.hid hq,Lib.hid hR⟩
 · obtain⟨M1,h1,hR⟩:=qab hR
   exact Or.inr (Or.inl ⟨M0,M1,by assumption,h0,Lib.hid h1,Lib.hid hR⟩)
 iterate 3 exact Or.inr (Or.inr (Or.inl ⟨M0,_,by omega,h0,Lib.hid hR⟩))
 · unfold ifM at hR
   obtain⟨M1,h1,hR⟩:=qab hR
   obtain⟨M2,h2,hR⟩:=qab hR
   refine Or.inr (Or.inr (Or.inr (Or.inl ⟨M0,M1,M2,by assumption,h0,Lib.hid h1,Lib.hid h2,?_⟩)));dsimp only at hR
   split at hR
   · exact Or.inl ⟨by assumption,Lib.hid hR⟩
   · obtain⟨M3,h3,hR⟩:=qab hR
     obtain⟨M4,h4,hR⟩:=qab hR
     obtain⟨M5,h5,hR⟩:=qab hR
     exact Or.inr ⟨by omega,M3,M4,M5,Lib.hid h3,Lib.hid h4,Lib.hid h5,Lib.hid hR⟩
 · obtain⟨M1,h1,hR⟩:=qab hR
   obtain⟨q,hq,hR⟩:=qab hR
   exact Or.inr (Or.inr (Or.inr (Or.inr (Or.inl ⟨M0,M1,q,by assumption,h0,Lib.hid h1,Lib.hid hq,Lib.hid hR⟩))))
 · cases hR
   exact Or.inr (Or.inr (Or.inr (Or.inr (Or.inr (Or.inr ⟨by simp;omega,h0⟩)))))
theorem mstm_all (hB:MBlkC W c m nv sv fi mo ns sl f):MStmC W c m nv sv fi mo ns sl f:=by
 intro L M R w j ⟨zk,za,zb,zc,zx,zi,zs,zt⟩ hz hR h;dsimp only;have HB:=Lib.hid hB
 obtain⟨N,hN⟩:∃ N,((w.heap.size,.cells #[.int .i64 zk,.int .i64 za,.int .i64 zb,.int .i64 zc,.int .i64 zx,.int .i64 zi,.string zs,.string zt] 166 (0,0))::L)=N:=⟨_,rfl⟩
 have HNM:=Lib.hid (show(w.heap.size,Obj.cells #[.int .i64 zk,.int .i64 za,.int .i64 zb,.int .i64 zc,.int .i64 zx,.int .i64 zi,.string zs,.string zt] 166 (0,0))∈N by rw[←hN];exact List.mem_cons_self);have H:=Lib.hid (show MkS W c m nv sv fi mo ns sl N M (w.alloc (.cells #[.int .i64 zk,.int .i64 za,.int .i64 zb,.int .i64 zc,.int .i64 zx,.int .i64 zi,.string zs,.string zt] 166 (0,0))) from by rw[←hN];exact h.locNew (.cells #[.int .i64 zk,.int .i64 za,.int .i64 zb,.int .i64 zc,.int .i64 zx,.int .i64 zi,.string zs,.string zt] 166 (0,0)));have HNO:=Lib.hid (show ∀ q,q∈L→q∈N from fun q hq=>by rw[←hN];exact List.mem_cons_of_mem _ hq)
 have HS:=Lib.hid h;clear hN hB h
 rcases stm_cases hR with ⟨M0,q,(rfl | rfl),h0,HQ,h1⟩ | ⟨M0,M1,rfl,h0,h1,h2⟩ | ⟨M0,op,(⟨rfl,rfl⟩ | ⟨rfl,rfl⟩ | ⟨rfl,rfl⟩),h0,h1⟩ | ⟨M0,M1,M2,rfl,h0,h1,h2,(⟨hc,h3⟩ | ⟨hc,M3,M4,M5,h3,h4,h5,h6⟩)⟩ | ⟨M0,M1,q,rfl,h0,h1,HQ,h2⟩ | ⟨M1,rfl,h1,h2⟩ | ⟨⟨c0,c1,c2,c3,c4,c5,c6,c7,c8,c9⟩,h0⟩
 all_goals
  clear hR hz
  try(have hq:=HS.out.slot HQ.out;obtain⟨g,n2,k2,rfl,_,hj2,hg,s0⟩:=hq;have hjn2:(j:Int)<(n2:Int):=Int.ofNat_lt.2 hj2;clear hj2)
  have hj0:0≤(j:Int):=by omega
  clear HS;go_enter Tryz.func114,Tryz.ntmps114
  go_wp2_with (first
   | ((with_reducible refine gm_expr H zbj ?_);intro w H;obtain⟨lm,xm,lx,x0,x2,x3,x5⟩:=MkS.look H zat HNM;try(obtain⟨hg,s0⟩:=MkS.slotG H HQ))
   | ((with_reducible refine gm_add H zbj ?_);intro w H;obtain⟨lm,xm,lx,x0,x2,x3,x5⟩:=MkS.look H zat HNM;try(obtain⟨hg,s0⟩:=MkS.slotG H HQ))
   | ((with_reducible refine gm_block HB H zbj ?_);intro w H;obtain⟨lm,xm,lx,x0,x2,x3,x5⟩:=MkS.look H zat HNM;try(obtain⟨hg,s0⟩:=MkS.slotG H HQ))
   | ((with_reducible refine gm_later H zbj ?_);intro km ko ki w H;obtain⟨lm,xm,lx,x0,x2,x3,x5⟩:=MkS.look H zat HNM;try(obtain⟨hg,s0⟩:=MkS.slotG H HQ))
   | ((with_reducible refine gm_done H zbi zbi zbi zbj zak ?_);intro w H;obtain⟨lm,xm,lx,x0,x2,x3,x5⟩:=MkS.look H zat HNM;try(obtain⟨hg,s0⟩:=MkS.slotG H HQ))
   | ((with_reducible refine gm_loop HB H zbj zak ?_);intro w H;obtain⟨lm,xm,lx,x0,x2,x3,x5⟩:=MkS.look H zat HNM;try(obtain⟨hg,s0⟩:=MkS.slotG H HQ)))
  try(go_still_tail 11,zaf;have H:=Lib.hid (H.out.of_ext ((Ext.refl _).drew));change wpList _ _ _ _ _ (World.drew _);generalize World.drew _=wd at *;go_wp2_with (first
   | ((with_reducible refine gm_expr H zbj ?_);intro w H;obtain⟨lm,xm,lx,x0,x2,x3,x5⟩:=MkS.look H zat HNM;try(obtain⟨hg,s0⟩:=MkS.slotG H HQ))
   | ((with_reducible refine gm_add H zbj ?_);intro w H;obtain⟨lm,xm,lx,x0,x2,x3,x5⟩:=MkS.look H zat HNM;try(obtain⟨hg,s0⟩:=MkS.slotG H HQ))
   | ((with_reducible refine gm_block HB H zbj ?_);intro w H;obtain⟨lm,xm,lx,x0,x2,x3,x5⟩:=MkS.look H zat HNM;try(obtain⟨hg,s0⟩:=MkS.slotG H HQ))
   | ((with_reducible refine gm_later H zbj ?_);intro km ko ki w H;obtain⟨lm,xm,lx,x0,x2,x3,x5⟩:=MkS.look H zat HNM;try(obtain⟨hg,s0⟩:=MkS.slotG H HQ))
   | ((with_reducible refine gm_done H zbi zbi zbi zbj zak ?_);intro w H;obtain⟨lm,xm,lx,x0,x2,x3,x5⟩:=MkS.look H zat HNM;try(obtain⟨hg,s0⟩:=MkS.slotG H HQ))
   | ((with_reducible refine gm_loop HB H zbj zak ?_);intro w H;obtain⟨lm,xm,lx,x0,x2,x3,x5⟩:=MkS.look H zat HNM;try(obtain⟨hg,s0⟩:=MkS.slotG H HQ))))
  refine yae ?_
  exact⟨rfl,H.out.sub fun q hq=>by replace hq:=HNO.out q hq;repeat(first | exact hq | apply List.mem_cons_of_mem)⟩
end
theorem mblk_any {W:World} {c m:Nat} {nv sv:Value} {fi mo:Int} {ns:List Nd} {sl:List Int}:∀ f,MBlkC W c m nv sv fi mo ns sl f:=by
 intro f
 induction f using Nat.strongRecOn with
 | _ f ih=>exact mblk_of f fun g hg=>mstm_all (ih g hg)
end Go.Proofs.YtpnabjopfpdkhaaGreatDoor
