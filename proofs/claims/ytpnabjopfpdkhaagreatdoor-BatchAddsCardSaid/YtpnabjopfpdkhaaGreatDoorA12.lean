/- Lemmas. -/
import Derived.Test.YtpnabjopfpdkhaaGreatDoorA11
import Derived.Defers
import Derived.RegionTactic
import Derived.Deep.RegionHeldLaw
import Derived.Deep.AppendLies
import Derived.Outline
set_option linter.unusedSimpArgs false
set_option linter.unusedVariables false
set_option maxHeartbeats 8000000
set_option maxRecDepth 20000
namespace Go.Proofs.YtpnabjopfpdkhaaGreatDoor
open Go.RowKit
variable {b c m:Nat} {W:World} {nv sv:Value} {fi mo:Int} {ns:List Nd} {sl:List Int}
attribute [go_sem] more_more Array.size_append
theorem own_take {w:World} {base:Nat} {e:TypeId} {size:Nat} {p:Option Addr} {n:Nat} {xs:List Value} (h:w.ownsRow base e size (.slice p n c) n xs) {m:Nat} (hm:m≤n):w.ownsRow base e size (.slice p m c) m (xs.take (m*size)):=by
 obtain⟨h1,h2⟩:=h
 have hle:m*size≤n*size:=Nat.mul_le_mul_right _ hm
 refine ⟨by rw[List.length_take,h1];omega,?_⟩
 rcases h2 with ⟨h2,h3⟩ | ⟨g,cap,cur,h2,hb,hg,hn,hx,hc,ht⟩
 · simp only[Value.slice.injEq] at h2
   obtain⟨rfl,_,rfl⟩:=h2
   obtain rfl:m=0:=by omega
   exact Or.inl ⟨rfl,rfl⟩
 · simp only[Value.slice.injEq] at h2
   obtain⟨rfl,_,rfl⟩:=h2
   exact Or.inr ⟨g,c,cur,rfl,hb,hg,by omega,hx,hc,by rw[←ht,List.take_take,Nat.min_eq_left hle]⟩
theorem WkV.cutSeen {L:List (Nat × Obj)} {S:Sc} {w:World} {tv mv fv:Value} {p:Option Addr} {n c:Nat} (h:WkV W b nv fi ns L S (.slice p n c) tv mv fv w) (hn:S.seen.length=n) (m:Nat) (hm:m≤n) :
  WkV W b nv fi ns L { S with seen:=S.seen.take m } (.slice p m c) tv mv fv (w.setCell ⟨b,2,none⟩ (.slice p m c)):=by
 have hA:=h.apart
 have ho:(Value.slice p m c).ownBlock=(Value.slice p n c).ownBlock:=by cases p<;>rfl
 have hk:∀ (x:Value) (k:Nat),(∀ g,x.ownBlock=some g→g≠b)→x.ownBlock=some k→(w.setCell ⟨b,2,none⟩ (.slice p m c)).heap[k]?=w.heap[k]?:=fun x k hx hk=>heap_set_other _ _ _ _ _ (hx k hk)
 have hs:=h.seen;rw[hn] at hs;have hs2:=own_take hs hm;rw[Nat.mul_one] at hs2
 have et:(strV S.seen).take m=strV (S.seen.take m):=by unfold strV;rw[List.map_take]
 have el:(S.seen.take m).length=m:=by rw[List.length_take];omega
 rw[et] at hs2;refine ⟨h.ext.setCell h.base.1 _,KB.setAt (show KB b _ _ w from h.cell) 2 (.slice p m c) zaj,qaf h.row fun k q _=>hk nv k (fun g q=>by have:=h.base.2 g q;have:=h.base.1;omega) q,?_,?_,?_,?_,h.base,fun g=>by rw[ho];exact hA g,fun q hq=>⟨(heap_set_other _ _ _ _ _ (h.loc q hq).2.1).trans (h.loc q hq).1,by rw[ho];exact(h.loc q hq).2⟩⟩
 · dsimp only;rw[el];exact qaf hs2 fun k q _=>hk _ k (fun g q=>by rw[ho] at q;exact((hA g).1 q).1) q
 · exact qaf h.slots fun k q _=>hk tv k (fun g q=>((hA g).2.1 q).1) q
 · exact qaf h.made fun k q _=>hk mv k (fun g q=>((hA g).2.2.1 q).1) q
 · exact qaf h.free fun k q _=>hk fv k (fun g q=>(hA g).2.2.2 q) q
theorem cut_d {L:List (Nat × Obj)} {S:Sc} {w:World} (h:Wk W b nv fi ns L S w) {k1 k2 m:Nat} {T1 T2:TypeId} (h1:KB k1 #[.pointer (some ⟨b,0,none⟩)] T1 w) (h2:KB k2 #[.int .i64 (m:Int)] T2 w) (hm:m≤S.seen.length) (u:FrameMode) :
  CallsD Tryz.prog 173 #[.pointer (some ⟨k1,0,none⟩),.pointer (some ⟨k2,0,none⟩)] u w fun e u' w'=>u'=u∧(e=.returned (.tuple #[])∧Wk W b nv fi ns L { S with seen:=S.seen.take m } w'):=by
 obtain⟨sv,tv,mv,fv,h⟩:=h
 obtain⟨n,hn⟩:∃ n,S.seen.length=n:=⟨_,rfl⟩
 obtain⟨p,c,hv⟩:=qae h.seen
 rw[hn] at hv hm;subst hv
 have hnc:n≤c:=by
  have hs:=h.seen;rw[hn] at hs
  rcases hs.2 with ⟨e,e0⟩ | ⟨g,cap,cur,e,_,_,e1,_⟩
  · omega
  · simp only[Value.slice.injEq] at e;omega
 have H:=Lib.hid h;have HN:=Lib.hid hn;have HM:=Lib.hid hm
 have kb:KB b _ _ w:=h.cell
 have x2:=kb.cell 2 _ rfl;have f2:=kb.frozen 2;have lb:=kb.lt;have c1:=h1.cell 0 _ rfl;have c2:=h2.cell 0 _ rfl
 have hm0:0≤(m:Int):=by omega
 have hmc:(m:Int)≤(c:Int):=by omega
 have hmn:m≤c:=by omega
 clear kb h h1 h2 hn hm hnc;go_enter_d Tryz.func173,Tryz.ntmps173
 go_region
 all_goals
  go_end0
  exact⟨rfl,_,_,_,_,(H.out.cutSeen HN.out m HM.out).of_ext ((Ext.refl _).drew)⟩
def NamesAt (L:List (Nat × Obj)) (v:Value) (l:List ByteArray):Prop:=(l=[]∧v=.slice none 0 0)∨∃ g,l.length≤2000∧v=.slice (some ⟨g,0,none⟩) l.length l.length∧(g,Obj.cells (strV l).toArray 9 (0,0))∈L
def BlockC (W:World) (b:Nat) (nv:Value) (fi:Int) (ns:List Nd) (f:Nat):Prop:=∀ (L:List (Nat × Obj)) (S R:Sc) (w:World) (first i:Int) (names:List ByteArray) (v:Value),NamesAt L v names→qbf (blkS ns f) first i names S=some R→Wk W b nv fi ns L S w →
  Calls Tryz.prog 135 #[.pointer (some ⟨b,0,none⟩),.int .i64 first,.int .i64 i,v] w fun r w'=>r=.returned (.tuple #[])∧Wk W b nv fi ns L R w'
def StmC (W:World) (b:Nat) (nv:Value) (fi:Int) (ns:List Nd) (f:Nat):Prop:=∀ (L:List (Nat × Obj)) (S R:Sc) (w:World) (j:Nat) (z:Nd),ns[j]?=some z→stmS (exprS ns f) (blkS ns f) j z S=some R→Wk W b nv fi ns L S w →
  Calls Tryz.prog 175 #[.pointer (some ⟨b,0,none⟩),.int .i64 (j:Int)] w fun r w'=>r=.returned (.tuple #[])∧Wk W b nv fi ns L R w'
theorem seesO_cons {i:Int} {s:ByteArray} {l:List ByteArray} {S R:Sc} (h:seesO i (s::l) S=some R):∃ S1,S.seeO s i=some S1∧seesO i l S1=some R:=qab h
theorem Wk.seen_le {L:List (Nat × Obj)} {S:Sc} {w:World} (h:Wk W b nv fi ns L S w):∃ p n c,S.seen.length=n∧n≤maxLen∧w.cell? ⟨b,2,none⟩=some (.slice p n c)∧b<w.heap.size:=by
 obtain⟨sv,tv,mv,fv,h⟩:=h
 obtain⟨p,c,hv⟩:=qae h.seen
 have kb:KB b _ _ w:=h.cell
 refine ⟨p,S.seen.length,c,rfl,?_,by have:=kb.cell 2 _ rfl;rw[hv] at this;exact this,kb.lt⟩
 rcases h.seen.2 with ⟨e,e0⟩ | ⟨g,cap,cur,e,_,_,e1,e2,_⟩
 · omega
 · omega
theorem blkS_pos {f:Nat} {i:Int} {S R:Sc} (h:0≤i) (hR:blkS ns f i S=some R):∃ g j z S1,f=g+1∧i=((j:Nat):Int)∧ns[j]?=some z∧stmS (exprS ns g) (blkS ns g) j z S=some S1∧blkS ns g z.x S1=some R:=by
 cases f with
 | zero=>unfold blkS at hR;rw[if_neg zac] at hR;cases hR
 | succ g =>
  unfold blkS at hR;rw[if_neg zac] at hR
  obtain⟨j,rfl⟩:∃ j:Nat,i=(j:Int):=⟨i.toNat,by omega⟩
  rw[Int.toNat_natCast] at hR
  split at hR
  · cases hR
  · rename_i z hz
    obtain⟨S1,h1,hR⟩:=qab hR
    exact⟨g,j,z,S1,rfl,rfl,hz,h1,hR⟩
theorem block_of (f:Nat) (hS:∀ g,g<f→StmC W b nv fi ns g):BlockC W b nv fi ns f:=by
 intro L S R w first i names v hv hR h
 unfold qbf at hR
 obtain⟨S1,hR1,hR⟩:=qab hR
 obtain⟨S2,hR2,hR⟩:=qab hR
 split at hR
 rotate_left
 · cases hR
 rename_i hle;have hRR:=Option.some.inj hR
 obtain⟨p,n,c,hn,hnm,x2,lb⟩:=h.seen_le
 have hn0:(n:Int)≤9223372036854775807:=by unfold maxLen at hnm;omega
 have HN:=Lib.hid hn;have HLE:=Lib.hid hle;have HRR:=Lib.hid hRR;have HR1:=Lib.hid hR1;have HR2:=Lib.hid hR2;have HSS:=Lib.hid hS;have H0:=Lib.hid ((h.locNew (.cells #[.pointer (some ⟨b,0,none⟩)] 196 (0,0))).locNew (.cells #[.int .i64 (n:Int)] 3 (0,0)));rw[World.size_alloc] at H0;have HV:=Lib.hid hv
 obtain⟨vp,vn,vc,hvf,hvn,hv2⟩:∃ vp vn vc,v=.slice vp vn vc∧names.length=vn∧(vn:Int)≤2000:=by
  rcases hv with ⟨rfl,rfl⟩ | ⟨g,_,rfl,_⟩
  · exact⟨_,_,_,rfl,rfl,by simp⟩
  · exact⟨_,_,_,rfl,rfl,by omega⟩
 subst hvf;have HVN:=Lib.hid hvn
 have hmf:∀ (fn:Fn) (first cap:Array Value) (w:World),(Instr.makeFunc fn first cap).run Tryz.prog w=.ok (.func fn first cap) w:=fun _ _ _ _=>rfl
 clear hS hR hle hRR hR1 hR2 h hn hnm hv hvn;go_enter_defers Tryz.func135,Tryz.ntmps135;go_wp2_with fail
 obtain⟨LL,hLL⟩:∃ LL,(w.heap.size+1,Obj.cells #[.int .i64 (n:Int)] 3 (0,0))::(w.heap.size,Obj.cells #[.pointer (some ⟨b,0,none⟩)] 196 (0,0))::L=LL:=⟨_,rfl⟩
 rw[hLL] at H0
 have M1:(w.heap.size,Obj.cells #[.pointer (some ⟨b,0,none⟩)] 196 (0,0))∈LL:=by rw[←hLL];simp
 have M2:(w.heap.size+1,Obj.cells #[.int .i64 (n:Int)] 3 (0,0))∈LL:=by rw[←hLL];simp
 have M3:=Lib.hid (fun q (hq:q∈L)=>show q∈LL from by rw[←hLL];simp[hq]);have HOUT:=Lib.hid (fun S w (h:Wk W b nv fi ns LL S w)=>show Wk W b nv fi ns L S w from by rw[←hLL] at h;exact h.locOut.locOut);have HM1:=Lib.hid M1;have HM2:=Lib.hid M2;clear hLL M1 M2;generalize hk1:w.heap.size=k1 at *;generalize hW0:(w.alloc (.cells #[.pointer (some ⟨b,0,none⟩)] 196 (0,0))).alloc (.cells #[.int .i64 (n:Int)] 3 (0,0))=W0 at *;clear hk1 hW0 x2;go_loopw [20] (fun y wr=>∃ k:Nat,y=.int .i64 (k:Int)∧k≤vn∧∃ Sk,seesO i (names.drop k) Sk=some S1∧Wk W b nv fi ns LL Sk wr) (fun y _=>vn-(intOf y).toNat)
 case atStart=>exact⟨0,rfl,Nat.zero_le _,S,HR1.out,H0.out⟩
 case round =>
  obtain⟨k,rfl,hk,Sk,hsk,hwk⟩:=hrel
  have HK:=Lib.hid hwk;have HSK:=Lib.hid hsk;have KP:=Lib.hid (hwk.locAt HM1.out);have kc:=KP.out.cell 0 _ rfl;have kl:=KP.out.lt
  have hk0:0≤(k:Int):=by omega
  clear hwk hsk
  by_cases hlt:k<vn
  · have hkn:(k:Int)<(vn:Int):=by omega
    have hv2:∃ g,vp=some ⟨g,0,none⟩∧(g,Obj.cells (strV names).toArray 9 (0,0))∈L:=by
     rcases HV.out with ⟨e,_⟩ | ⟨g,_,e,hm⟩
     · have:=HVN.out;rw[e] at this;simp at this;omega
     · simp only[Value.slice.injEq] at e;exact⟨g,e.1,hm⟩
    obtain⟨g,rfl,hgm⟩:=hv2
    have KN:=Lib.hid (HK.out.locAt (M3.out _ hgm))
    have hnk:k<names.length:=by have:=HVN.out;omega
    obtain⟨s,hs⟩:∃ s,names.getD k ByteArray.empty=s:=⟨_,rfl⟩
    have nc:=KN.out.cell k (.string s) (by rw[←hs,List.getElem?_toArray];exact qfK names k hnk);have nl:=KN.out.lt
    have hdr:names.drop k=s::names.drop (k+1):=by rw[List.drop_eq_getElem_cons hnk,←hs,List.getD_eq_getElem?_getD,List.getElem?_eq_getElem hnk];rfl
    obtain⟨S3,h3,h4⟩:=seesO_cons (by have:=HSK.out;rw[hdr] at this;exact this)
    have SE:=Lib.hid (seeO_any HK.out s i h3);have H4:=Lib.hid h4;have HLT:=Lib.hid hlt;clear hs hdr h3 h4 hlt hgm hnk
    go_wp2_with ((with_reducible refine SE.out.mono ?_);rintro e' w2 ⟨rfl,h2⟩;have H2:=Lib.hid h2;clear h2)
    go_roundw
    case rel=>exact⟨k+1,by go_num,by have:=HLT.out;omega,S3,H4.out,H2.out⟩
    case measure=>have:=HLT.out;simp[intOf];omega
  · have hke:k=vn:=by omega
    subst hke
    have e0:Sk=S1:=by
     have:=HSK.out
     rw[List.drop_eq_nil_of_le (by have:=HVN.out;omega)] at this;exact Option.some.inj this
    subst e0;clear hlt hk;go_wp2_with fail;clear kc kl
    go_loopg [11] f (fun g x wr=>∃ (i':Int) (S':Sc),x=.int .i64 i'∧g≤f∧blkS ns g i' S'=some S2∧Wk W b nv fi ns LL S' wr)
    case atStart=>exact⟨first,Sk,rfl,Nat.le_refl _,HR2.out,HK.out⟩
    case round =>
     obtain⟨i',S',rfl,hg,hb,hwk⟩:=hrel
     have HG:=Lib.hid hg;have KP2:=Lib.hid (hwk.locAt HM1.out);have kc:=KP2.out.cell 0 _ rfl;have kl:=KP2.out.lt
     by_cases hi:i'<0
     · rw[blkS_neg _ _ _ _ hi] at hb
       have e2:=Option.some.inj hb;subst e2;have HK2:=Lib.hid hwk;clear hb hwk hg;go_wp2_with fail
       have HLN:n≤S'.seen.length:=by have:=HLE.out;have:=HN.out;omega
       have HCUT:=Lib.hid (cut_d HK2.out KP2.out (HK2.out.locAt HM2.out) HLN .returning);clear HLN;refine leaves_cons (f:=173) (args:=#[.pointer (some ⟨k1,0,none⟩),.pointer (some ⟨k1+1,0,none⟩)]) zaj (by simp[go_sem]) ?_;refine HCUT.out.mono ?_;rintro e u' w2 ⟨rfl,rfl,h3⟩
       exact⟨_,results_none rfl _ _ _,rfl,HOUT.out _ _ (by rw[←HRR.out,HN.out];exact h3)⟩
     · obtain⟨g0,j,z,S3,rfl,rfl,hz,h1,h2⟩:=blkS_pos zac hb
       have ST:=Lib.hid (HSS.out g0 zac LL S' S3 _ j z hz h1 hwk);have HZ:=Lib.hid hz;have HB:=Lib.hid h2
       have hj0:0≤(j:Int):=by omega
       clear hb hwk hg h1 h2 hz hi
       go_wp2_with ((with_reducible refine ST.out.mono ?_);rintro e' w2 ⟨rfl,h2⟩;have H2:=Lib.hid h2;clear h2;obtain⟨G2,n2,cap2,rfl,hG2,hj2,lb2,c02,_,_,_,_,a42,_,_,_⟩:=H2.out.node HZ.out;have hj3:(j:Int)<(n2:Int):=zac;have KP3:=Lib.hid (H2.out.locAt HM1.out);have kc3:=KP3.out.cell 0 _ rfl;have kl3:=KP3.out.lt)
       go_roundg g0
       case measure=>omega
       case rel=>exact⟨z.x,S3,rfl,by have:=HG.out;omega,HB.out,H2.out⟩
theorem WkV.slotRow {L:List (Nat × Obj)} {S R:Sc} {w:World} (h:Wk W b nv fi ns L S w) {i:Nat} (hR:S.slot i=some R):∃ g n2 c2 p n c,i<n2∧n2≤maxLen∧n≤maxLen∧w.cell? ⟨b,4,none⟩=some (.slice (some ⟨g,0,none⟩) n2 c2)∧w.cell? ⟨b,2,none⟩=some (.slice p n c)∧(∃ v,w.cell? ⟨g,i,none⟩=some v)∧w.frozen? ⟨g,i,none⟩=false∧g<w.heap.size∧b<w.heap.size∧Wk W b nv fi ns L R (w.setCell ⟨g,i,none⟩ (.int .i64 (n:Int))):=by
 obtain⟨sv,tv,mv,fv,h⟩:=h
 obtain⟨hi,rfl⟩:=qco hR
 obtain⟨p,c,hv⟩:=qae h.seen
 have hnc:S.seen.length≤maxLen:=by
  rcases h.seen.2 with ⟨e,e0⟩ | ⟨g,cap,cur,e,_,_,e1,e2,_⟩<;>omega
 obtain⟨g2,c2,htv,_,hg2⟩:=h.slots.form zac
 have hn2:S.slots.length≤maxLen:=by
  rcases h.slots.2 with ⟨e,e0⟩ | ⟨g,cap,cur,e,_,_,e1,e2,_⟩<;>omega
 subst htv
 have kb:KB b _ _ w:=h.cell
 have y0:=h.slots.cells (g:=g2) rfl i _ (qdV S.slots i hi);rw[Addr.add_lit,Nat.zero_add] at y0;refine ⟨g2,S.slots.length,c2,p,S.seen.length,c,hi,hn2,hnc,kb.cell 4 _ rfl,by have:=kb.cell 2 _ rfl;rw[hv] at this;exact this,⟨_,y0⟩,qfC h.slots i,hg2,kb.lt,_,_,_,_,h.setSlot i _ hi rfl⟩
theorem stm_of (f:Nat) (hB:BlockC W b nv fi ns f):StmC W b nv fi ns f:=by
 intro L S R w j z hz hR h
 obtain⟨zk,za,zb,zc,zx,zi,zs,zt⟩:=z
 obtain⟨G,n,cap,rfl,hG,hj,lb,c0,a0,a1,a2,a3,a4,a5,a6,a7⟩:=h.node hz
 dsimp only at a0 a1 a2 a3 a4 a5 a6 a7;unfold stmS at hR
 obtain⟨S1,h1,hR⟩:=qab hR
 dsimp only at h1 hR
 obtain⟨LL,hLL⟩:∃ LL,(w.heap.size,.cells #[.int .i64 zk,.int .i64 za,.int .i64 zb,.int .i64 zc,.int .i64 zx,.int .i64 zi,.string zs,.string zt] 166 (0,0))::L=LL:=⟨_,rfl⟩
 refine yal ?_;intro H0;rw[hLL] at H0;have HM:=Lib.hid (show(w.heap.size,.cells #[.int .i64 zk,.int .i64 za,.int .i64 zb,.int .i64 zc,.int .i64 zx,.int .i64 zi,.string zs,.string zt] 166 (0,0))∈LL from by rw[←hLL];simp);have HOUT:=Lib.hid (fun S w (h:Wk W b (.slice (some ⟨G,0,none⟩) n cap) fi ns LL S w)=>show Wk W b (.slice (some ⟨G,0,none⟩) n cap) fi ns L S w from by rw[←hLL] at h;exact h.locOut);have C1:=Lib.hid (fun w1 (hw:Wk W b (.slice (some ⟨G,0,none⟩) n cap) fi ns LL S w1)=>sexpr_any f _ S S1 w1 za h1 hw);have HB:=Lib.hid hB
 have hj0:0≤(j:Int):=by omega
 have hjn:(j:Int)<(n:Int):=by omega
 clear hB h hz h1 hj hLL
 by_cases k22:zk=22
 · subst k22
   rw[if_pos rfl] at hR;have C2:=Lib.hid (fun w1 (hw:Wk W b (.slice (some ⟨G,0,none⟩) n cap) fi ns LL S1 w1)=>sexpr_any f _ S1 R w1 zb hR hw);clear hR HB;go_enter Tryz.func175,Tryz.ntmps175
   go_wp2_with (first
    | ((with_reducible refine (C1.out _ H0.out).mono ?_);rintro e' w1 ⟨rfl,h1⟩;have H1:=Lib.hid h1;clear h1;have KX:=Lib.hid (H1.out.locAt HM.out);have x0:=KX.out.cell 0 _ rfl;have lx:=KX.out.lt;have x2:=KX.out.cell 2 _ rfl)
    | ((with_reducible refine (C2.out _ H1.out).mono ?_);rintro e' w2 ⟨rfl,h2⟩;have H2:=Lib.hid h2;clear h2))
   refine yae ?_
   exact⟨rfl,HOUT.out _ _ H2.out⟩
 by_cases k20:zk=20
 · subst k20
   rw[if_neg zac,if_pos rfl] at hR
   obtain⟨S2,h2,hR⟩:=qab hR
   have HSL:=Lib.hid h2;have C3:=Lib.hid (fun w1 (hw:Wk W b (.slice (some ⟨G,0,none⟩) n cap) fi ns LL S2 w1)=>seeO_any hw zs (j:Int) hR);clear hR HB h2;go_enter Tryz.func175,Tryz.ntmps175
   go_wp2_with (first
    | ((with_reducible refine (C1.out _ H0.out).mono ?_);rintro e' w1 ⟨rfl,h1⟩;have H1:=Lib.hid h1;clear h1;have KX:=Lib.hid (H1.out.locAt HM.out);have x0:=KX.out.cell 0 _ rfl;have lx:=KX.out.lt;have x6:=KX.out.cell 6 _ rfl))
   obtain⟨g2,n2,c2,p2,n1,c1,q1,q2,q3,q4,q5,⟨q6v,q6⟩,q7,q8,q9,q10⟩:=WkV.slotRow H1.out HSL.out
   have HQ:=Lib.hid (q10.of_ext ((Ext.refl _).drew))
   have q11:(j:Int)<(n2:Int):=by omega
   have q12:(n1:Int)≤9223372036854775807:=by unfold maxLen at q3;omega
   have HX6:=Lib.hid (HQ.out.locAt HM.out);have q13:=HX6.out.cell 6 _ rfl;clear q1 q2 q3 q10
   go_region
   go_wp2_with ((with_reducible refine (C3.out _ HQ.out).mono ?_);rintro e' w2 ⟨rfl,h2⟩;have H2:=Lib.hid h2;clear h2)
   refine yae ?_
   exact⟨rfl,HOUT.out _ _ H2.out⟩
 by_cases k21:zk=21
 · subst k21
   rw[if_neg zac,if_neg zac,if_pos rfl] at hR;have C3:=Lib.hid (fun w1 (hw:Wk W b (.slice (some ⟨G,0,none⟩) n cap) fi ns LL S1 w1)=>useO_any hw zs j hR);clear hR HB;go_enter Tryz.func175,Tryz.ntmps175
   go_wp2_with (first
    | ((with_reducible refine (C1.out _ H0.out).mono ?_);rintro e' w1 ⟨rfl,h1⟩;have H1:=Lib.hid h1;clear h1;have KX:=Lib.hid (H1.out.locAt HM.out);have x0:=KX.out.cell 0 _ rfl;have lx:=KX.out.lt;have x6:=KX.out.cell 6 _ rfl)
    | ((with_reducible refine (C3.out _ H1.out).mono ?_);rintro e' w2 ⟨rfl,h2⟩;have H2:=Lib.hid h2;clear h2))
   refine yae ?_
   exact⟨rfl,HOUT.out _ _ H2.out⟩
 by_cases k24:zk=24
 · subst k24
   rw[if_neg zac,if_neg zac,if_neg zac,if_pos rfl] at hR
   obtain⟨S2,h2,h3⟩:=qab hR
   have C2:=Lib.hid (fun w1 (hw:Wk W b (.slice (some ⟨G,0,none⟩) n cap) fi ns LL S1 w1)=>HB.out LL S1 S2 w1 zb (j:Int) [] (.slice none 0 0) (Or.inl ⟨rfl,rfl⟩) h2 hw);have C3:=Lib.hid (fun w1 (hw:Wk W b (.slice (some ⟨G,0,none⟩) n cap) fi ns LL S2 w1)=>HB.out LL S2 R w1 zc (j:Int) [] (.slice none 0 0) (Or.inl ⟨rfl,rfl⟩) h3 hw);clear hR HB h2 h3;go_enter Tryz.func175,Tryz.ntmps175
   go_wp2_with (first
    | ((with_reducible refine (C1.out _ H0.out).mono ?_);rintro e' w1 ⟨rfl,h1⟩;have H1:=Lib.hid h1;clear h1;have KX:=Lib.hid (H1.out.locAt HM.out);have x0:=KX.out.cell 0 _ rfl;have lx:=KX.out.lt;have x2:=KX.out.cell 2 _ rfl)
    | ((with_reducible refine (C2.out _ H1.out).mono ?_);rintro e' w2 ⟨rfl,h2⟩;have H2:=Lib.hid h2;clear h2;have KX2:=Lib.hid (H2.out.locAt HM.out);have x3:=KX2.out.cell 3 _ rfl;have lx2:=KX2.out.lt)
    | ((with_reducible refine (C3.out _ H2.out).mono ?_);rintro e' w3 ⟨rfl,h3⟩;have H3:=Lib.hid h3;clear h3))
   refine yae ?_
   exact⟨rfl,HOUT.out _ _ H3.out⟩
 by_cases k25:zk=25
 · subst k25
   rw[if_neg zac,if_neg zac,if_neg zac,if_neg zac,if_pos rfl] at hR
   obtain⟨S2,h2,h3⟩:=qab hR
   have HSL:=Lib.hid h2;have HR3:=Lib.hid h3;clear hR h2 h3;go_enter Tryz.func175,Tryz.ntmps175
   go_wp2_with (first
    | ((with_reducible refine (C1.out _ H0.out).mono ?_);rintro e' w1 ⟨rfl,h1⟩;have H1:=Lib.hid h1;clear h1;have KX:=Lib.hid (H1.out.locAt HM.out);have x0:=KX.out.cell 0 _ rfl;have lx:=KX.out.lt;have x6:=KX.out.cell 6 _ rfl))
   obtain⟨g2,n2,c2,p2,n1,c1,q1,q2,q3,q4,q5,⟨q6v,q6⟩,q7,q8,q9,q10⟩:=WkV.slotRow H1.out HSL.out
   have q20:=(q10.locNew (.cells #[.string zs,.string zt] 9 (0,0))).of_ext ((Ext.refl _).drew);rw[World.size_setCell] at q20;have HQ:=Lib.hid q20;clear q20;have HNM:=Lib.hid (fun (kk:Nat) w1 (hw:Wk W b (.slice (some ⟨G,0,none⟩) n cap) fi ns ((kk,Obj.cells #[.string zs,.string zt] 9 (0,0))::LL) S2 w1)=>HB.out _ S2 R w1 zb (j:Int) [zs,zt] (.slice (some ⟨kk,0,none⟩) 2 2) (Or.inr ⟨kk,by simp,rfl,List.mem_cons_self⟩) HR3.out hw)
   have q11:(j:Int)<(n2:Int):=by omega
   have q12:(n1:Int)≤9223372036854775807:=by unfold maxLen at q3;omega
   have HX6:=Lib.hid ((q10.of_ext ((Ext.refl _).drew)).locAt HM.out);have q13:=HX6.out.cell 6 _ rfl;have q14:=HX6.out.cell 7 _ rfl;have q15:=HX6.out.cell 2 _ rfl;clear q1 q2 q3 q10
   go_region
   go_wp2_with ((with_reducible refine (HNM.out _ _ HQ.out).mono ?_);rintro e' w2 ⟨rfl,h2⟩;have H2:=Lib.hid h2.locOut;clear h2)
   refine yae ?_
   exact⟨rfl,HOUT.out _ _ H2.out⟩
 by_cases k26:zk=26
 · subst k26
   rw[if_neg zac,if_neg zac,if_neg zac,if_neg zac,if_neg zac,if_pos rfl] at hR;have C2:=Lib.hid (fun w1 (hw:Wk W b (.slice (some ⟨G,0,none⟩) n cap) fi ns LL S1 w1)=>HB.out LL S1 R w1 zb (j:Int) [] (.slice none 0 0) (Or.inl ⟨rfl,rfl⟩) hR hw);clear hR HB;go_enter Tryz.func175,Tryz.ntmps175
   go_wp2_with (first
    | ((with_reducible refine (C1.out _ H0.out).mono ?_);rintro e' w1 ⟨rfl,h1⟩;have H1:=Lib.hid h1;clear h1;have KX:=Lib.hid (H1.out.locAt HM.out);have x0:=KX.out.cell 0 _ rfl;have lx:=KX.out.lt;have x2:=KX.out.cell 2 _ rfl)
    | ((with_reducible refine (C2.out _ H1.out).mono ?_);rintro e' w2 ⟨rfl,h2⟩;have H2:=Lib.hid h2;clear h2))
   refine yae ?_
   exact⟨rfl,HOUT.out _ _ H2.out⟩
 · rw[if_neg k22,if_neg k20,if_neg k21,if_neg k24,if_neg k25,if_neg k26] at hR
   have e1:=Option.some.inj hR;subst e1
   have p22:(zk==22)=false:=by simpa using k22
   have p20:(zk==20)=false:=by simpa using k20
   have p21:(zk==21)=false:=by simpa using k21
   have p24:(zk==24)=false:=by simpa using k24
   have p25:(zk==25)=false:=by simpa using k25
   have p26:(zk==26)=false:=by simpa using k26
   clear hR HB k22 k20 k21 k24 k25 k26;go_enter Tryz.func175,Tryz.ntmps175
   go_wp2_with (first
    | ((with_reducible refine (C1.out _ H0.out).mono ?_);rintro e' w1 ⟨rfl,h1⟩;have H1:=Lib.hid h1;clear h1;have KX:=Lib.hid (H1.out.locAt HM.out);have x0:=KX.out.cell 0 _ rfl;have lx:=KX.out.lt;skip))
   refine yae ?_
   exact⟨rfl,HOUT.out _ _ H1.out⟩
theorem cell_ext {w w':World} {a:Addr} {v:Value} (h:w.cell? a=some v) (hx:Ext w w'):w'.cell? a=some v:=(World.cell?_of_block (hx.below.block a.block (World.block_lt_of_cell? _ _ h))).trans h
def insC (l:List Cin):List Value:=l.flatMap fun x=>[.int .i64 x.op,.int .i64 x.a,.int .i64 x.b,.int .i64 x.nd]
def valC3 (l:List (Int × Int × ByteArray)):List Value:=l.flatMap fun v=>[.int .i64 v.1,.int .i64 v.2.1,.string v.2.2]
theorem insC_app (l m:List Cin):insC (l++m)=insC l++insC m:=by unfold insC;rw[List.flatMap_append]
theorem valC3_app (l m:List (Int × Int × ByteArray)):valC3 (l++m)=valC3 l++valC3 m:=by unfold valC3;rw[List.flatMap_append]
theorem insC_get:∀ (l:List Cin) (j:Nat) (x:Cin),l[j]?=some x→(insC l)[j*4]?=some (.int .i64 x.op)∧(insC l)[j*4+1]?=some (.int .i64 x.a)∧(insC l)[j*4+2]?=some (.int .i64 x.b)∧(insC l)[j*4+3]?=some (.int .i64 x.nd)
 | [],_,_,h=>by simp at h
 | y::l,0,x,h=>by simp at h;subst h;exact⟨rfl,rfl,rfl,rfl⟩
 | y::l,j+1,x,h=>by
  have:=insC_get l j x zbn
  rw[show(j+1)*4=j*4+4 from by omega];exact this
theorem valC3_get:∀ (l:List (Int × Int × ByteArray)) (j:Nat) (x:Int × Int × ByteArray),l[j]?=some x→(valC3 l)[j*3]?=some (.int .i64 x.1)∧(valC3 l)[j*3+1]?=some (.int .i64 x.2.1)∧(valC3 l)[j*3+2]?=some (.string x.2.2)
 | [],_,_,h=>by simp at h
 | y::l,0,x,h=>by simp at h;subst h;exact⟨rfl,rfl,rfl⟩
 | y::l,j+1,x,h=>by
  have:=valC3_get l j x zbn
  rw[show(j+1)*3=j*3+3 from by omega];exact this
theorem insC_setA:∀ (l:List Cin) (j:Nat) (x:Cin) (v:Int),l[j]?=some x→insC (l.set j { x with a:=v })=(insC l).set (j*4+1) (.int .i64 v)
 | [],_,_,_,h=>by simp at h
 | y::l,0,x,v,h=>by simp at h;subst h;rfl
 | y::l,j+1,x,v,h=>by
  have:=insC_setA l j x v zbn
  rw[show(j+1)*4+1=(j*4+1)+4 from by omega];simp only[insC,List.set_cons_succ,List.flatMap_cons] at this ⊢;rw[this];rfl
theorem insC_setB:∀ (l:List Cin) (j:Nat) (x:Cin) (v:Int),l[j]?=some x→insC (l.set j { x with b:=v })=(insC l).set (j*4+2) (.int .i64 v)
 | [],_,_,_,h=>by simp at h
 | y::l,0,x,v,h=>by simp at h;subst h;rfl
 | y::l,j+1,x,v,h=>by
  have:=insC_setB l j x v zbn
  rw[show(j+1)*4+2=(j*4+2)+4 from by omega];simp only[insC,List.set_cons_succ,List.flatMap_cons] at this ⊢;rw[this];rfl
structure MkV (W:World) (c m:Nat) (nv sv:Value) (fi mo:Int) (ns:List Nd) (sl:List Int) (L:List (Nat × Obj)) (M:Mk) (iv vv:Value) (w:World):Prop where
 ext:Ext W w
 code:w.heap[c]?=some (.cells #[nv,.int .i64 fi,iv,vv,.int .i64 mo,.int .i64 M.high] 170 (0,0))
 mkr:w.heap[m]?=some (.cells #[.pointer (some ⟨c,0,none⟩),sv,.int .i64 M.now] 172 (0,0))
 row:w.ownsRow 0 166 8 nv ns.length (qac ns)
 slt:w.ownsRow 0 3 1 sv sl.length (intL sl)
 ins:w.ownsRow W.heap.size 203 4 iv M.ins.length (insC M.ins)
 vals:w.ownsRow W.heap.size 45 3 vv M.vals.length (valC3 M.vals)
 base:W.heap.size≤c∧W.heap.size≤m∧c≠m∧(∀ g,nv.ownBlock=some g→g<W.heap.size)∧(∀ g,sv.ownBlock=some g→g<W.heap.size)
 apart:∀ g,(iv.ownBlock=some g→g≠c∧g≠m∧vv.ownBlock≠some g)∧(vv.ownBlock=some g→g≠c∧g≠m)
 loc:∀ q,q∈L→w.heap[q.1]?=some q.2∧q.1≠c∧q.1≠m∧iv.ownBlock≠some q.1∧vv.ownBlock≠some q.1
def MkS (W:World) (c m:Nat) (nv sv:Value) (fi mo:Int) (ns:List Nd) (sl:List Int) (L:List (Nat × Obj)) (M:Mk) (w:World):Prop:=∃ iv vv,MkV W c m nv sv fi mo ns sl L M iv vv w
theorem MkV.of_ext {L:List (Nat × Obj)} {M:Mk} {w:World} {iv vv:Value} {w':World} (h:MkV W c m nv sv fi mo ns sl L M iv vv w) (hx:Ext w w'):MkV W c m nv sv fi mo ns sl L M iv vv w' :=
 ⟨h.ext.trans hx,(hx.below.block _ (Array.getElem?_eq_some_iff.1 h.code).1).trans h.code,(hx.below.block _ (Array.getElem?_eq_some_iff.1 h.mkr).1).trans h.mkr,own_ext h.row hx,own_ext h.slt hx,own_ext h.ins hx,own_ext h.vals hx,h.base,h.apart,fun q hq=>⟨(hx.below.block _ (Array.getElem?_eq_some_iff.1 (h.loc q hq).1).1).trans (h.loc q hq).1,(h.loc q hq).2⟩⟩
theorem MkS.of_ext {L:List (Nat × Obj)} {M:Mk} {w:World} {w':World} (h:MkS W c m nv sv fi mo ns sl L M w) (hx:Ext w w'):MkS W c m nv sv fi mo ns sl L M w':=by
 obtain⟨iv,vv,h⟩:=h
 exact⟨iv,vv,h.of_ext hx⟩
theorem MkV.locNew {L:List (Nat × Obj)} {M:Mk} {w:World} {iv vv:Value} (h:MkV W c m nv sv fi mo ns sl L M iv vv w) (o:Obj):MkV W c m nv sv fi mo ns sl ((w.heap.size,o)::L) M iv vv (w.alloc o):=by
 have h':=h.of_ext ((Ext.refl w).alloc o);refine ⟨h'.ext,h'.code,h'.mkr,h'.row,h'.slt,h'.ins,h'.vals,h'.base,h'.apart,fun q hq=>?_⟩;rcases List.mem_cons.1 hq with e | hq
 · subst e
   refine ⟨heap_alloc_new _ _,?_,?_,fun e=>?_,fun e=>?_⟩
   · have:=(Array.getElem?_eq_some_iff.1 h.code).1
     dsimp only;omega
   · have:=(Array.getElem?_eq_some_iff.1 h.mkr).1
     dsimp only;omega
   · exact absurd (h.ins.lt _ e).2 (Nat.lt_irrefl _)
   · exact absurd (h.vals.lt _ e).2 (Nat.lt_irrefl _)
 · exact h'.loc q hq
theorem MkS.locNew {L:List (Nat × Obj)} {M:Mk} {w:World} (h:MkS W c m nv sv fi mo ns sl L M w) (o:Obj):MkS W c m nv sv fi mo ns sl ((w.heap.size,o)::L) M (w.alloc o):=by
 obtain⟨iv,vv,h⟩:=h
 exact⟨iv,vv,h.locNew o⟩
theorem MkS.sub {L:List (Nat × Obj)} {M:Mk} {w:World} {L':List (Nat × Obj)} (h:MkS W c m nv sv fi mo ns sl L M w) (hs:∀ q,q∈L'→q∈L):MkS W c m nv sv fi mo ns sl L' M w:=by
 obtain⟨iv,vv,h⟩:=h
 exact⟨iv,vv,h.ext,h.code,h.mkr,h.row,h.slt,h.ins,h.vals,h.base,h.apart,fun p hp=>h.loc p (hs p hp)⟩
theorem MkS.locAt {L:List (Nat × Obj)} {M:Mk} {w:World} {k:Nat} {cs:Array Value} {T:TypeId} (h:MkS W c m nv sv fi mo ns sl L M w) (hq:(k,Obj.cells cs T (0,0))∈L):KB k cs T w:=by
 obtain⟨iv,vv,h⟩:=h
 exact(h.loc _ hq).1
theorem MkV.setNow {L:List (Nat × Obj)} {M:Mk} {w:World} {iv vv:Value} (h:MkV W c m nv sv fi mo ns sl L M iv vv w) (v:Int):MkV W c m nv sv fi mo ns sl L { M with now:=v } iv vv (w.setCell ⟨m,2,none⟩ (.int .i64 v)):=by
 have hA:=h.apart
 obtain⟨b1,b2,b3,b4,b5⟩:=h.base
 have hk:∀ (x:Value) (k:Nat),(∀ g,x.ownBlock=some g→g≠m)→x.ownBlock=some k→(w.setCell ⟨m,2,none⟩ (.int .i64 v)).heap[k]?=w.heap[k]?:=fun x k hx hk=>heap_set_other _ _ _ _ _ (hx k hk)
 refine ⟨h.ext.setCell b2 _,(heap_set_other _ _ _ _ _ b3).trans h.code,KB.setAt (show KB m _ _ w from h.mkr) 2 _ zaj,qaf h.row fun k q _=>hk nv k (fun g q=>by have:=b4 g q;omega) q,qaf h.slt fun k q _=>hk sv k (fun g q=>by have:=b5 g q;omega) q,
  qaf h.ins fun k q _=>hk iv k (fun g q=>((hA g).1 q).2.1) q,qaf h.vals fun k q _=>hk vv k (fun g q=>((hA g).2 q).2) q,h.base,h.apart,fun q hq=>⟨(heap_set_other _ _ _ _ _ (h.loc q hq).2.2.1).trans (h.loc q hq).1,(h.loc q hq).2⟩⟩
theorem MkV.setHigh {L:List (Nat × Obj)} {M:Mk} {w:World} {iv vv:Value} (h:MkV W c m nv sv fi mo ns sl L M iv vv w) (v:Int):MkV W c m nv sv fi mo ns sl L { M with high:=v } iv vv (w.setCell ⟨c,5,none⟩ (.int .i64 v)):=by
 have hA:=h.apart
 obtain⟨b1,b2,b3,b4,b5⟩:=h.base
 have hk:∀ (x:Value) (k:Nat),(∀ g,x.ownBlock=some g→g≠c)→x.ownBlock=some k→(w.setCell ⟨c,5,none⟩ (.int .i64 v)).heap[k]?=w.heap[k]?:=fun x k hx hk=>heap_set_other _ _ _ _ _ (hx k hk)
 refine ⟨h.ext.setCell b1 _,KB.setAt (show KB c _ _ w from h.code) 5 _ zaj,(heap_set_other _ _ _ _ _ (Ne.symm b3)).trans h.mkr,qaf h.row fun k q _=>hk nv k (fun g q=>by have:=b4 g q;omega) q,qaf h.slt fun k q _=>hk sv k (fun g q=>by have:=b5 g q;omega) q,
  qaf h.ins fun k q _=>hk iv k (fun g q=>((hA g).1 q).1) q,qaf h.vals fun k q _=>hk vv k (fun g q=>((hA g).2 q).1) q,h.base,h.apart,fun q hq=>⟨(heap_set_other _ _ _ _ _ (h.loc q hq).2.1).trans (h.loc q hq).1,(h.loc q hq).2⟩⟩
theorem MkV.setIns {L:List (Nat × Obj)} {M:Mk} {w:World} {vv:Value} {g k n:Nat} (h:MkV W c m nv sv fi mo ns sl L M (.slice (some ⟨g,0,none⟩) n k) vv w) (i:Nat) (v:Value) (l:List Cin) (hi:i<M.ins.length*4) (hn:M.ins.length=n) (hl:insC l=(insC M.ins).set i v) (hL:l.length=M.ins.length) :
  MkV W c m nv sv fi mo ns sl L { M with ins:=l } (.slice (some ⟨g,0,none⟩) n k) vv (w.setCell ⟨g,i,none⟩ v):=by
 subst hn;have hA:=h.apart
 obtain⟨b1,b2,b3,b4,b5⟩:=h.base
 obtain⟨a1,a2,a3⟩:=(hA g).1 rfl
 have hg0:=(h.ins.lt g rfl).1
 have hk:∀ (x:Value) (q:Nat),x.ownBlock≠some g→x.ownBlock=some q→(w.setCell ⟨g,i,none⟩ v).heap[q]?=w.heap[q]?:=fun x q hx hq=>heap_set_other _ _ _ _ _ (fun e=>hx (by rw[←e];exact hq))
 refine ⟨h.ext.setCell hg0 _,(heap_set_other _ _ _ _ _ (Ne.symm a1)).trans h.code,(heap_set_other _ _ _ _ _ (Ne.symm a2)).trans h.mkr,qaf h.row fun q hq _=>hk nv q (fun e=>by have:=b4 g e;omega) hq,qaf h.slt fun q hq _=>hk sv q (fun e=>by have:=b5 g e;omega) hq,?_,qaf h.vals fun q hq _=>hk vv q a3 hq,h.base,h.apart,fun q hq=>⟨(heap_set_other _ _ _ _ _ (fun e=>(h.loc q hq).2.2.2.1 (by rw[e];rfl))).trans (h.loc q hq).1,(h.loc q hq).2⟩⟩;dsimp only;rw[hL,hl];exact qbo h.ins hi _
theorem MkV.push_ins {L:List (Nat × Obj)} {M:Mk} {w:World} {iv vv:Value} {v':Value} {w1:World} {x:Cin} (h:MkV W c m nv sv fi mo ns sl L M iv vv w) (hr:w1.ownsRow W.heap.size 203 4 v' (M.ins.length+1) (insC M.ins++insC [x])) (hg:w.grownBy w1 iv.ownBlock) (hv:v'.ownBlock=iv.ownBlock∨v'.ownBlock=some w.heap.size) :
  MkV W c m nv sv fi mo ns sl L { M with ins:=M.ins++[x] } v' vv (w1.setCell ⟨c,2,none⟩ v'):=by
 have hA:=h.apart
 obtain⟨b1,b2,b3,b4,b5⟩:=h.base
 have lc:=(Array.getElem?_eq_some_iff.1 h.code).1;have lm:=(Array.getElem?_eq_some_iff.1 h.mkr).1
 have hold:∀ k,k<w.heap.size→iv.ownBlock≠some k→w1.heap[k]?=w.heap[k]?:=fun k hk hn=>hg.block k hk (Ne.symm hn)
 have hvn:∀ g,v'.ownBlock=some g→iv.ownBlock=some g∨g=w.heap.size:=fun g q=>by
  rcases hv with e | e
  · exact Or.inl (e ▸ q)
  · rw[e] at q;exact Or.inr (Option.some.inj q).symm
 have hx1:Ext W w1:=h.ext.grown hg fun k hk=>(h.ins.lt k hk).1
 have hnc:iv.ownBlock≠some c:=fun q=>((hA c).1 q).1 rfl
 have hnm:iv.ownBlock≠some m:=fun q=>((hA m).1 q).2.1 rfl
 have kc:KB c _ _ w1:=(hold c lc hnc).trans h.code
 have km:KB m _ _ w1:=(hold m lm hnm).trans h.mkr
 have keep:∀ (x:Value) (n:Nat) (xs:List Value) (e:TypeId) (sz bs:Nat),w.ownsRow bs e sz x n xs→(∀ g,x.ownBlock=some g→g≠c)→(∀ g,x.ownBlock=some g→iv.ownBlock≠some g)→(w1.setCell ⟨c,2,none⟩ v').ownsRow bs e sz x n xs:=fun x n xs e sz bs hx h1 h2 =>
  qaf hx fun k q hk=>(heap_set_other _ _ _ _ _ (h1 k q)).trans (hold k hk (h2 k q))
 refine ⟨hx1.setCell b1 _,KB.setAt kc 2 v' zaj,(heap_set_other _ _ _ _ _ (Ne.symm b3)).trans km,keep _ _ _ _ _ _ h.row (fun g q=>by have:=b4 g q;omega) (fun g q e=>by have:=b4 g q;have:=(h.ins.lt g e).1;omega),keep _ _ _ _ _ _ h.slt (fun g q=>by have:=b5 g q;omega) (fun g q e=>by have:=b5 g q;have:=(h.ins.lt g e).1;omega),?_,?_,h.base,?_,?_⟩
 · dsimp only;rw[List.length_append,insC_app];exact qaf hr fun k q _=>heap_set_other _ _ _ _ _ (fun e=>by rcases hvn k q with e1 | e1;exact hnc (e ▸ e1);omega)
 · exact keep _ _ _ _ _ _ h.vals (fun g q=>((hA g).2 q).1) (fun g q e=>((hA g).1 e).2.2 q)
 · intro g
   have a:=hA g
   have n1:iv.ownBlock≠some w.heap.size:=fun q=>absurd (h.ins.lt _ q).2 (Nat.lt_irrefl _)
   have n2:vv.ownBlock≠some w.heap.size:=fun q=>absurd (h.vals.lt _ q).2 (Nat.lt_irrefl _)
   rcases hv with e | e
   · rw[e];exact a
   · by_cases hgs:g=w.heap.size
     · subst hgs
       exact⟨fun _=>⟨by omega,by omega,n2⟩,a.2⟩
     · have q:v'.ownBlock≠some g:=by rw[e];intro e2;exact hgs (Option.some.inj e2).symm
       exact⟨fun r=>absurd r q,a.2⟩
 · intro q hq
   have hl:=h.loc q hq;have hlt:=(Array.getElem?_eq_some_iff.1 hl.1).1
   have e1:(w1.setCell ⟨c,2,none⟩ v').heap[q.1]?=some q.2:=(heap_set_other _ _ _ _ _ hl.2.1).trans ((hold q.1 hlt hl.2.2.2.1).trans hl.1)
   have e2:v'.ownBlock≠some q.1:=by
    intro e;rcases hvn q.1 e with e3 | e3
    · exact hl.2.2.2.1 e3
    · omega
   exact⟨e1,hl.2.1,hl.2.2.1,e2,hl.2.2.2.2⟩
theorem MkV.push_val {L:List (Nat × Obj)} {M:Mk} {w:World} {iv vv:Value} {v':Value} {w1:World} {x:Int × Int × ByteArray} (h:MkV W c m nv sv fi mo ns sl L M iv vv w) (hr:w1.ownsRow W.heap.size 45 3 v' (M.vals.length+1) (valC3 M.vals++valC3 [x])) (hg:w.grownBy w1 vv.ownBlock) (hv:v'.ownBlock=vv.ownBlock∨v'.ownBlock=some w.heap.size) :
  MkV W c m nv sv fi mo ns sl L { M with vals:=M.vals++[x] } iv v' (w1.setCell ⟨c,3,none⟩ v'):=by
 have hA:=h.apart
 obtain⟨b1,b2,b3,b4,b5⟩:=h.base
 have lc:=(Array.getElem?_eq_some_iff.1 h.code).1;have lm:=(Array.getElem?_eq_some_iff.1 h.mkr).1
 have hold:∀ k,k<w.heap.size→vv.ownBlock≠some k→w1.heap[k]?=w.heap[k]?:=fun k hk hn=>hg.block k hk (Ne.symm hn)
 have hvn:∀ g,v'.ownBlock=some g→vv.ownBlock=some g∨g=w.heap.size:=fun g q=>by
  rcases hv with e | e
  · exact Or.inl (e ▸ q)
  · rw[e] at q;exact Or.inr (Option.some.inj q).symm
 have hx1:Ext W w1:=h.ext.grown hg fun k hk=>(h.vals.lt k hk).1
 have hnc:vv.ownBlock≠some c:=fun q=>((hA c).2 q).1 rfl
 have hnm:vv.ownBlock≠some m:=fun q=>((hA m).2 q).2 rfl
 have kc:KB c _ _ w1:=(hold c lc hnc).trans h.code
 have km:KB m _ _ w1:=(hold m lm hnm).trans h.mkr
 have keep:∀ (x:Value) (n:Nat) (xs:List Value) (e:TypeId) (sz bs:Nat),w.ownsRow bs e sz x n xs→(∀ g,x.ownBlock=some g→g≠c)→(∀ g,x.ownBlock=some g→vv.ownBlock≠some g)→(w1.setCell ⟨c,3,none⟩ v').ownsRow bs e sz x n xs:=fun x n xs e sz bs hx h1 h2 =>
  qaf hx fun k q hk=>(heap_set_other _ _ _ _ _ (h1 k q)).trans (hold k hk (h2 k q))
 refine ⟨hx1.setCell b1 _,KB.setAt kc 3 v' zaj,(heap_set_other _ _ _ _ _ (Ne.symm b3)).trans km,keep _ _ _ _ _ _ h.row (fun g q=>by have:=b4 g q;omega) (fun g q e=>by have:=b4 g q;have:=(h.vals.lt g e).1;omega),keep _ _ _ _ _ _ h.slt (fun g q=>by have:=b5 g q;omega) (fun g q e=>by have:=b5 g q;have:=(h.vals.lt g e).1;omega),?_,?_,h.base,?_,?_⟩
 · exact keep _ _ _ _ _ _ h.ins (fun g q=>((hA g).1 q).1) (fun g q e=>((hA g).1 q).2.2 e)
 · dsimp only;rw[List.length_append,valC3_app];exact qaf hr fun k q _=>heap_set_other _ _ _ _ _ (fun e=>by rcases hvn k q with e1 | e1;exact hnc (e ▸ e1);omega)
 · intro g
   have a:=hA g
   have n1:iv.ownBlock≠some w.heap.size:=fun q=>absurd (h.ins.lt _ q).2 (Nat.lt_irrefl _)
   have n2:vv.ownBlock≠some w.heap.size:=fun q=>absurd (h.vals.lt _ q).2 (Nat.lt_irrefl _)
   rcases hv with e | e
   · rw[e];exact a
   · by_cases hgs:g=w.heap.size
     · subst hgs
       exact⟨fun r=>absurd r n1,fun _=>⟨by omega,by omega⟩⟩
     · have q:v'.ownBlock≠some g:=by rw[e];intro e2;exact hgs (Option.some.inj e2).symm
       exact⟨fun r=>⟨(a.1 r).1,(a.1 r).2.1,q⟩,fun r=>absurd r q⟩
 · intro q hq
   have hl:=h.loc q hq;have hlt:=(Array.getElem?_eq_some_iff.1 hl.1).1
   have e1:(w1.setCell ⟨c,3,none⟩ v').heap[q.1]?=some q.2:=(heap_set_other _ _ _ _ _ hl.2.1).trans ((hold q.1 hlt hl.2.2.2.2).trans hl.1)
   have e2:v'.ownBlock≠some q.1:=by
    intro e;rcases hvn q.1 e with e3 | e3
    · exact hl.2.2.2.2 e3
    · omega
   exact⟨e1,hl.2.1,hl.2.2.1,hl.2.2.2.1,e2⟩
theorem MkS.node {L:List (Nat × Obj)} {M:Mk} {w:World} (h:MkS W c m nv sv fi mo ns sl L M w) {j:Nat} {z:Nd} (hz:ns[j]?=some z) :
  ∃ G n cap iv vv,nv=.slice (some ⟨G,0,none⟩) n cap∧G<w.heap.size∧j<n∧c<w.heap.size∧m<w.heap.size∧w.cell? ⟨m,0,none⟩=some (.pointer (some ⟨c,0,none⟩))∧w.cell? ⟨c,0,none⟩=some (.slice (some ⟨G,0,none⟩) n cap)∧w.cell? ⟨m,1,none⟩=some sv∧w.cell? ⟨c,2,none⟩=some iv∧w.cell? ⟨c,3,none⟩=some vv∧(∃ p k,iv=.slice p M.ins.length k) ∧
  w.cell? ⟨G,j*8,none⟩=some (.int .i64 z.k)∧w.cell? ⟨G,j*8+1,none⟩=some (.int .i64 z.a)∧w.cell? ⟨G,j*8+2,none⟩=some (.int .i64 z.b)∧w.cell? ⟨G,j*8+3,none⟩=some (.int .i64 z.c)∧w.cell? ⟨G,j*8+4,none⟩=some (.int .i64 z.x)∧w.cell? ⟨G,j*8+5,none⟩=some (.int .i64 z.i)∧w.cell? ⟨G,j*8+6,none⟩=some (.string z.s)∧w.cell? ⟨G,j*8+7,none⟩=some (.string z.t):=by
 obtain⟨iv,vv,h⟩:=h
 have hj:=(List.getElem?_eq_some_iff.1 hz).1
 rcases Go.Joins.ownsRow_forms h.row with ⟨_,h0⟩ | ⟨g1,c1,h0⟩
 · omega
 · have hr:=h.row
   subst h0
   have kb:KB c _ _ w:=h.code
   have km:KB m _ _ w:=h.mkr
   obtain⟨p,k,hv⟩:=qae h.ins
   exact⟨g1,ns.length,c1,iv,vv,rfl,(hr.lt g1 rfl).2,hj,kb.lt,km.lt,km.cell 0 _ rfl,kb.cell 0 _ rfl,km.cell 1 _ rfl,kb.cell 2 _ rfl,kb.cell 3 _ rfl,⟨p,k,hv⟩,nd_at hr hz⟩
theorem MkS.slot {L:List (Nat × Obj)} {M:Mk} {w:World} (h:MkS W c m nv sv fi mo ns sl L M w) {j:Nat} {v:Int} (hv:sl[j]?=some v):∃ g n k,sv=.slice (some ⟨g,0,none⟩) n k∧n≤maxLen∧j<n∧g<w.heap.size∧w.cell? ⟨g,j,none⟩=some (.int .i64 v):=by
 obtain⟨iv,vv,h⟩:=h
 have hj:=(List.getElem?_eq_some_iff.1 hv).1
 obtain⟨g2,c2,htv,_,hg2⟩:=h.slt.form zac
 have hn2:sl.length≤maxLen:=by
  rcases h.slt.2 with ⟨e,e0⟩ | ⟨g,cap,cur,e,_,_,e1,e2,_⟩<;>omega
 have y0:=h.slt.cells (g:=g2) (by rw[htv];rfl) j (.int .i64 v) (by unfold intL;rw[List.getElem?_map,hv];rfl);rw[Addr.add_lit,Nat.zero_add] at y0
 exact⟨g2,sl.length,c2,htv,hn2,hj,hg2,y0⟩
theorem tkH {P:Program} {ops:Array Oper} {Q:Exit→Act→World→Prop} {md:Region.Mode} {S:World→Prop} (i:Nat) (v:Value) {oi:Oper} {fuel:Nat} {listed:Array Bool} {a:Act} {w:World} (hS:S w)
  (h:wpAnyH P md ops Q S fuel (listed.setIfInBounds i true) (a.put oi.dst v) w) (hi:ops[i]?=some oi:=by rfl) (hs:Region.noSelect ops=true:=by kernel_rfl) (hf:Region.free md ops listed i=true:=by kernel_rfl) (hr:(Region.ready md ops listed).contains i=true:=by kernel_rfl)
  (hQ:∀ c a w,Q (.panic c) (a.put oi.dst v) w→Q (.panic c) a w:=by exact fun _ _ _ h=>h)
  (hy:YieldsIf P ops S oi v a:=by first | exact Or.inl ⟨by rfl,fun W hW=>by go_simp⟩ | exact Or.inr ⟨by rfl,rfl⟩ | exact Or.inl ⟨by rfl,fun W hW=>by first | (dsimp only at hW;go_simp) | (obtain⟨hW1,hW2⟩:=hW;go_simp) | (obtain⟨hW1,hW2,hW3,hW4⟩:=hW;go_simp) | (obtain⟨hW1,hW2,hW3,hW4,hW5⟩:=hW;go_simp)⟩):wpAnyH P md ops Q S (fuel+1) listed a w :=
 wpAnyH_take hi hs hf hr hQ hy hS h
theorem insInfo:(Tryz.prog.info? 203).map (fun i=>(i.zero,i.size,i.bytes))=some (some (.agg #[.int .i64 0,.int .i64 0,.int .i64 0,.int .i64 0]),4,32):=by kernel_rfl
theorem qbJ {L:List (Nat × Obj)} {M R:Mk} {w:World} (h:MkS W c m nv sv fi mo ns sl L M w) (op a b nd hg:Int) (hR:M.add op a b nd hg=some R) :
  Calls Tryz.prog 101 #[.pointer (some ⟨m,0,none⟩),.int .i64 op,.int .i64 a,.int .i64 b,.int .i64 nd,.int .i64 hg] w fun r w'=>r=.returned (.int .i64 (M.ins.length:Int))∧MkS W c m nv sv fi mo ns sl L R w':=by
 obtain⟨iv,vv,h⟩:=h
 unfold Mk.add at hR
 split at hR
 rotate_left
 · cases hR
 rename_i hq
 obtain⟨q1,q2,q3,q4,q5⟩:=hq
 have e:=Option.some.inj hR;subst e;clear hR
 obtain⟨n,hn⟩:∃ n,M.ins.length=n:=⟨_,rfl⟩
 obtain⟨p,k,hv⟩:=qae h.ins
 rw[hn] at hv q1;subst hv;have HI:=Lib.hid h;have HN:=Lib.hid hn
 have kc:KB c _ _ w:=h.code
 have km:KB m _ _ w:=h.mkr
 have HB:=Lib.hid h.base;have HKC:=Lib.hid kc;have HKM:=Lib.hid km
 have x0:w.cell? ⟨m,0,none⟩=some (.pointer (some ⟨c,0,none⟩)):=km.cell 0 _ rfl
 have y2:w.cell? ⟨c,2,none⟩=some (.slice p n k):=kc.cell 2 _ rfl
 have f2:=kc.frozen 2;have lc:=kc.lt;have lm:=km.lt
 have hoc:(Value.slice p n k).ownBlock≠some c:=fun e=>((h.apart c).1 e).1 rfl
 have hom:(Value.slice p n k).ownBlock≠some m:=fun e=>((h.apart m).1 e).2.1 rfl
 have HCM:=Lib.hid (Ne.symm h.base.2.2.1);have HOC:=Lib.hid hoc;have HOM:=Lib.hid hom
 obtain⟨i0,hi,hz0,hz1,hz2⟩:=info_parts insInfo
 have HQ:=Lib.hid (show(n:Int)≤100000∧n≤100000 from⟨by omega,q1⟩)
 obtain⟨nw,hnw⟩:∃ x,M.now=x:=⟨_,rfl⟩
 obtain⟨hh,hhh⟩:∃ x,M.high=x:=⟨_,rfl⟩
 rw[hnw] at q2 q3;clear h hn kc km hoc hom q1;go_enter Tryz.func101,Tryz.ntmps101;go_wp2_with fail;refine wp_region_held_drew (S:=(fun w'=>w'.cell? ⟨m,0,none⟩=some (.pointer (some ⟨c,0,none⟩)))) zaf (cell_ext x0 zad) (fun hS=>?_);refine tkH 0 (.pointer (some ⟨m,0,none⟩)) hS ?_;refine yab ?_;refine tkH 1 (.pointer (some ⟨m,0,none⟩)) hS ?_;refine yab ?_;refine tkH 2 (.pointer (some ⟨m,0,none⟩)) hS ?_;refine yab ?_;refine tkH 3 (.pointer (some ⟨c,0,none⟩)) hS ?_;refine yab ?_;refine tkH 4 (.pointer (some ⟨m,0,none⟩)) hS ?_;refine yab ?_;refine tkH 5 (.pointer (some ⟨m,0,none⟩)) hS ?_
 refine yab ?_;refine tkH 6 (.pointer (some ⟨m,0,none⟩)) hS ?_;refine yab ?_;refine tkH 7 (.pointer (some ⟨c,0,none⟩)) hS ?_;refine yab ?_;refine tkH 8 (.pointer (some ⟨c,0,none⟩)) hS ?_;refine yab ?_;refine tkH 9 (.pointer (some ⟨c,2,none⟩)) hS ?_;refine yab ?_;refine tkH 11 (.int .i64 op) hS ?_;refine yab ?_;refine tkH 12 (.int .i64 a) hS ?_;refine yab ?_;refine tkH 13 (.int .i64 b) hS ?_;refine yab ?_;refine tkH 14 (.int .i64 nd) hS ?_;refine yab ?_;refine tkH 15 (.agg #[.int .i64 op,.int .i64 a,.int .i64 b,.int .i64 nd]) hS ?_;refine yab ?_;refine wpAnyH_ready (rs:=[10,16]) zaf zaj ?_;refine AllReadyH.cons (o:=_) rfl (fun K hK=>?_) (AllReadyH.cons (o:=_) rfl (fun K hK=>?_) AllReadyH.nil)
 · rw[if_pos (by rfl)]
   have y2d:w.drew.cell? ⟨c,2,none⟩=some (.slice p n k):=cell_ext y2 zad
   go_simp;refine hK.out _ _ ((cell_ext x0 zad)) (fun hS1=>?_);clear hK K;refine yab ?_;refine wpAnyH_ready (rs:=[16]) zaf zaj ?_;refine AllReadyH.cons (o:=_) rfl (fun K hK=>?_) AllReadyH.nil;rw[if_pos (by rfl)];go_simp;refine hK.out _ _ ((cell_ext x0 zad)) (fun hS2=>?_);clear hK K;refine yab ?_;refine wpAnyH_ready (rs:=[17]) zaf zaj ?_;refine AllReadyH.cons (o:=_) rfl (fun K hK=>?_) AllReadyH.nil;refine step_append_lies _ rfl (.tmp 23) (.tmp 29) 167 rfl W.heap.size 203 i0 (.agg #[.int .i64 0,.int .i64 0,.int .i64 0,.int .i64 0]) 4 32 Tryz.underlying167 hi hz0 hz1 hz2 rfl zak (.slice p n k) n (insC M.ins) rfl (own_ext (by have:=HI.out.ins;rw[HN.out] at this;exact this) zad) ⟨w.heap.size,0,none⟩ 1 1 [.int .i64 op,.int .i64 a,.int .i64 b,.int .i64 nd] rfl rfl (World.news_of_block (heap_alloc_new _ _)) (by intro u hu;simp at hu;rcases hu with rfl | rfl | rfl | rfl<;>rfl) zak (by have:=HQ.out.2;unfold maxLen;omega) (by have:=HQ.out.2;omega) (by have:=HI.out.ext.size;simp;omega) _ rfl ?_
   intro g1 cap1 w4 hown4 hgrow4 hat4 hlt4
   have kb4:KB c _ _ w4:=(hgrow4.block c zam (Ne.symm HOC.out)).trans (HKC.out.of_ext zad)
   have km4:KB m _ _ w4:=(hgrow4.block m zam (Ne.symm HOM.out)).trans (HKM.out.of_ext zad)
   have m0:w4.cell? ⟨m,0,none⟩=some (.pointer (some ⟨c,0,none⟩)):=km4.cell 0 _ rfl
   have m2:w4.cell? ⟨c,2,none⟩=some (.slice p n k):=kb4.cell 2 _ rfl
   have m3:=kb4.frozen 2;have m4:=kb4.lt;have KM4:=Lib.hid km4;clear kb4 km4;refine hK.out _ _ (m0) (fun hS3=>?_);clear hK K;refine yab ?_;refine tkH 18 (.pointer (some ⟨c,0,none⟩)) hS3 ?_;refine yab ?_;refine tkH 19 (.pointer (some ⟨c,2,none⟩)) hS3 ?_;refine yab ?_;refine wpAnyH_ready (rs:=[20]) zaf zaj ?_;refine AllReadyH.cons (o:=_) rfl (fun K hK=>?_) AllReadyH.nil;rw[if_pos (by rfl)];go_simp;refine hK.out _ _ ((KM4.out.setOther 2 _ HCM.out).cell 0 (.pointer (some ⟨c,0,none⟩)) rfl) (fun hS4=>?_);clear hK K;refine yab ?_;refine wpAnyH_done zaf ?_ _
   have hv4:(Value.slice (some ⟨g1,0,none⟩) (n+1) cap1).ownBlock=(Value.slice p n k).ownBlock∨(Value.slice (some ⟨g1,0,none⟩) (n+1) cap1).ownBlock=some ((w.alloc (.cells #[.int .i64 op,.int .i64 a,.int .i64 b,.int .i64 nd] 203)).drew).heap.size:=by
    rcases hat4 with e | e
    · exact Or.inl e.symm
    · exact Or.inr (by rw[←e];rfl)
   have HP:=Lib.hid (MkV.push_ins (x:=⟨op,a,b,nd⟩) (HI.out.of_ext (w':=(w.alloc (.cells #[.int .i64 op,.int .i64 a,.int .i64 b,.int .i64 nd] 203)).drew) zad) (by rw[HN.out];exact hown4) hgrow4 hv4);clear hv4 hat4 hlt4 hgrow4 hown4 m0 m2 m3 m4 KM4 HKC HKM HI x0 y2 f2 lc lm;generalize w4.setCell ⟨c,2,none⟩ (Value.slice (some ⟨g1,0,none⟩) (n+1) cap1)=W1 at *
   have kc:KB c _ _ W1:=HP.out.code
   have km:KB m _ _ W1:=HP.out.mkr
   have x0:W1.cell? ⟨m,0,none⟩=some (.pointer (some ⟨c,0,none⟩)):=km.cell 0 _ rfl
   have x2:W1.cell? ⟨m,2,none⟩=some (.int .i64 M.now):=km.cell 2 _ rfl
   have g2:=km.frozen 2;have lm:=km.lt;clear kc km;rw[hnw] at x2;go_wp2_with fail;have HS:=Lib.hid (HP.out.setNow (nw+hg));clear HP x0 x2 g2 lm hS3 hS4;generalize W1.setCell ⟨m,2,none⟩ (Value.int IntKind.i64 (nw+hg))=W2 at *
   have kc:KB c _ _ W2:=HS.out.code
   have km:KB m _ _ W2:=HS.out.mkr
   have x0:W2.cell? ⟨m,0,none⟩=some (.pointer (some ⟨c,0,none⟩)):=km.cell 0 _ rfl
   have x2:W2.cell? ⟨m,2,none⟩=some (.int .i64 (nw+hg)):=km.cell 2 _ rfl
   have x5:W2.cell? ⟨c,5,none⟩=some (.int .i64 M.high):=kc.cell 5 _ rfl
   have y2:W2.cell? ⟨c,2,none⟩=some (.slice (some ⟨g1,0,none⟩) (n+1) cap1):=kc.cell 2 _ rfl
   have g5:=kc.frozen 5;have lc:=kc.lt;clear kc km;rw[hhh] at x5;have hcm2:=HCM.out;have hnI:=HQ.out.1
   go_region
   have HT:=Lib.hid ((HS.out.setHigh (max hh (nw+hg))).of_ext ((Ext.refl _).drew));clear HS x0 x2 x5 y2 g5 lc;generalize (W2.setCell ⟨c,5,none⟩ (Value.int IntKind.i64 (max hh (nw+hg)))).drew=W3 at *
   have kc:KB c _ _ W3:=HT.out.code
   have km:KB m _ _ W3:=HT.out.mkr
   have x0:W3.cell? ⟨m,0,none⟩=some (.pointer (some ⟨c,0,none⟩)):=km.cell 0 _ rfl
   have y2:W3.cell? ⟨c,2,none⟩=some (.slice (some ⟨g1,0,none⟩) (n+1) cap1):=kc.cell 2 _ rfl
   have lc:=kc.lt;clear kc km;go_wp2_with fail;go_ret;refine ⟨by(rw[HN.out];rfl),.slice (some ⟨g1,0,none⟩) (n+1) cap1,vv,?_⟩
   have:=HT.out
   first | exact this | (rw[hhh,hnw];exact this)
 · rw[if_pos (by rfl)]
   go_simp;refine hK.out _ _ ((cell_ext x0 zad)) (fun hS1=>?_);clear hK K;refine yab ?_
   have y2a:((w.alloc (.cells #[.int .i64 op,.int .i64 a,.int .i64 b,.int .i64 nd] 203)).drew).cell? ⟨c,2,none⟩=some (.slice p n k):=cell_ext y2 zad
   refine wpAnyH_ready (rs:=[10]) zaf zaj ?_;refine AllReadyH.cons (o:=_) rfl (fun K hK=>?_) AllReadyH.nil;rw[if_pos (by rfl)];go_simp;refine hK.out _ _ ((cell_ext x0 zad)) (fun hS2=>?_);clear hK K;refine yab ?_;refine wpAnyH_ready (rs:=[17]) zaf zaj ?_;refine AllReadyH.cons (o:=_) rfl (fun K hK=>?_) AllReadyH.nil;refine step_append_lies _ rfl (.tmp 23) (.tmp 29) 167 rfl W.heap.size 203 i0 (.agg #[.int .i64 0,.int .i64 0,.int .i64 0,.int .i64 0]) 4 32 Tryz.underlying167 hi hz0 hz1 hz2 rfl zak (.slice p n k) n (insC M.ins) rfl (own_ext (by have:=HI.out.ins;rw[HN.out] at this;exact this) zad) ⟨w.heap.size,0,none⟩ 1 1 [.int .i64 op,.int .i64 a,.int .i64 b,.int .i64 nd] rfl rfl (World.news_of_block (heap_alloc_new _ _)) (by intro u hu;simp at hu;rcases hu with rfl | rfl | rfl | rfl<;>rfl) zak (by have:=HQ.out.2;unfold maxLen;omega) (by have:=HQ.out.2;omega) (by have:=HI.out.ext.size;simp;omega) _ rfl ?_
   intro g1 cap1 w4 hown4 hgrow4 hat4 hlt4
   have kb4:KB c _ _ w4:=(hgrow4.block c zam (Ne.symm HOC.out)).trans (HKC.out.of_ext zad)
   have km4:KB m _ _ w4:=(hgrow4.block m zam (Ne.symm HOM.out)).trans (HKM.out.of_ext zad)
   have m0:w4.cell? ⟨m,0,none⟩=some (.pointer (some ⟨c,0,none⟩)):=km4.cell 0 _ rfl
   have m2:w4.cell? ⟨c,2,none⟩=some (.slice p n k):=kb4.cell 2 _ rfl
   have m3:=kb4.frozen 2;have m4:=kb4.lt;have KM4:=Lib.hid km4;clear kb4 km4;refine hK.out _ _ (m0) (fun hS3=>?_);clear hK K;refine yab ?_;refine tkH 18 (.pointer (some ⟨c,0,none⟩)) hS3 ?_;refine yab ?_;refine tkH 19 (.pointer (some ⟨c,2,none⟩)) hS3 ?_;refine yab ?_;refine wpAnyH_ready (rs:=[20]) zaf zaj ?_;refine AllReadyH.cons (o:=_) rfl (fun K hK=>?_) AllReadyH.nil;rw[if_pos (by rfl)];go_simp;refine hK.out _ _ ((KM4.out.setOther 2 _ HCM.out).cell 0 (.pointer (some ⟨c,0,none⟩)) rfl) (fun hS4=>?_);clear hK K;refine yab ?_;refine wpAnyH_done zaf ?_ _
   have hv4:(Value.slice (some ⟨g1,0,none⟩) (n+1) cap1).ownBlock=(Value.slice p n k).ownBlock∨(Value.slice (some ⟨g1,0,none⟩) (n+1) cap1).ownBlock=some ((w.alloc (.cells #[.int .i64 op,.int .i64 a,.int .i64 b,.int .i64 nd] 203)).drew).heap.size:=by
    rcases hat4 with e | e
    · exact Or.inl e.symm
    · exact Or.inr (by rw[←e];rfl)
   have HP:=Lib.hid (MkV.push_ins (x:=⟨op,a,b,nd⟩) (HI.out.of_ext (w':=(w.alloc (.cells #[.int .i64 op,.int .i64 a,.int .i64 b,.int .i64 nd] 203)).drew) zad) (by rw[HN.out];exact hown4) hgrow4 hv4);clear hv4 hat4 hlt4 hgrow4 hown4 m0 m2 m3 m4 KM4 HKC HKM HI x0 y2 f2 lc lm;generalize w4.setCell ⟨c,2,none⟩ (Value.slice (some ⟨g1,0,none⟩) (n+1) cap1)=W1 at *
   have kc:KB c _ _ W1:=HP.out.code
   have km:KB m _ _ W1:=HP.out.mkr
   have x0:W1.cell? ⟨m,0,none⟩=some (.pointer (some ⟨c,0,none⟩)):=km.cell 0 _ rfl
   have x2:W1.cell? ⟨m,2,none⟩=some (.int .i64 M.now):=km.cell 2 _ rfl
   have g2:=km.frozen 2;have lm:=km.lt;clear kc km;rw[hnw] at x2;go_wp2_with fail;have HS:=Lib.hid (HP.out.setNow (nw+hg));clear HP x0 x2 g2 lm hS3 hS4;generalize W1.setCell ⟨m,2,none⟩ (Value.int IntKind.i64 (nw+hg))=W2 at *
   have kc:KB c _ _ W2:=HS.out.code
   have km:KB m _ _ W2:=HS.out.mkr
   have x0:W2.cell? ⟨m,0,none⟩=some (.pointer (some ⟨c,0,none⟩)):=km.cell 0 _ rfl
   have x2:W2.cell? ⟨m,2,none⟩=some (.int .i64 (nw+hg)):=km.cell 2 _ rfl
   have x5:W2.cell? ⟨c,5,none⟩=some (.int .i64 M.high):=kc.cell 5 _ rfl
   have y2:W2.cell? ⟨c,2,none⟩=some (.slice (some ⟨g1,0,none⟩) (n+1) cap1):=kc.cell 2 _ rfl
   have g5:=kc.frozen 5;have lc:=kc.lt;clear kc km;rw[hhh] at x5;have hcm2:=HCM.out;have hnI:=HQ.out.1
   go_region
   have HT:=Lib.hid ((HS.out.setHigh (max hh (nw+hg))).of_ext ((Ext.refl _).drew));clear HS x0 x2 x5 y2 g5 lc;generalize (W2.setCell ⟨c,5,none⟩ (Value.int IntKind.i64 (max hh (nw+hg)))).drew=W3 at *
   have kc:KB c _ _ W3:=HT.out.code
   have km:KB m _ _ W3:=HT.out.mkr
   have x0:W3.cell? ⟨m,0,none⟩=some (.pointer (some ⟨c,0,none⟩)):=km.cell 0 _ rfl
   have y2:W3.cell? ⟨c,2,none⟩=some (.slice (some ⟨g1,0,none⟩) (n+1) cap1):=kc.cell 2 _ rfl
   have lc:=kc.lt;clear kc km;go_wp2_with fail;go_ret;refine ⟨by(rw[HN.out];rfl),.slice (some ⟨g1,0,none⟩) (n+1) cap1,vv,?_⟩
   have:=HT.out
   first | exact this | (rw[hhh,hnw];exact this)
end Go.Proofs.YtpnabjopfpdkhaaGreatDoor
