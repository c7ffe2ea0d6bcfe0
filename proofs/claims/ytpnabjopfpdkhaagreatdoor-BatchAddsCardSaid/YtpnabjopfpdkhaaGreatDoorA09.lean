/- Lemmas. -/
import Derived.Test.YtpnabjopfpdkhaaGreatDoorA08
import Derived.Test.YtpnabjopfpdkhaaGreatDoorShelf
import Derived.RegionTactic
set_option linter.unusedSimpArgs false
set_option linter.unusedVariables false
set_option maxHeartbeats 8000000
set_option maxRecDepth 20000
namespace Go.Proofs.YtpnabjopfpdkhaaGreatDoor
open Go.RowKit
variable {W w:World} {b base:Nat} {nv:Value} {fi:Int} {ns:List Nd}
attribute [go_sem] more_more Array.size_append
theorem qfK (l:List ByteArray) (j:Nat) (h:j<l.length):(strV l)[j]?=some (.string (l.getD j ByteArray.empty)):=by
 unfold strV;rw[List.getElem?_map,List.getElem?_eq_getElem h,List.getD_eq_getElem?_getD,List.getElem?_eq_getElem h];rfl
theorem qcq {v:Value} {l:List ByteArray} (h:w.ownsRow base 9 1 v l.length (strV l)) (s:ByteArray) (hl:l.length≤100000) :
  Calls Tryz.prog 202 #[v,.string s] w fun e w'=>e=.returned (.bool (Lib.containsS l s))∧w'=w:=by
 rcases Go.Joins.ownsRow_forms h with ⟨rfl,h0⟩ | ⟨g,c,rfl⟩
 · have hl0:l=[]:=List.length_eq_zero_iff.1 h0
   subst hl0;refine (Tryz.slices_Contains_string_empty none 0 s w).mono ?_;rintro e w' ⟨rfl,rfl⟩
   exact⟨rfl,rfl⟩
 · refine (Tryz.slices_Contains_string g 0 l.length c l s w (Nat.le_refl _) zac (fun j hj=>by have:=h.cells (g:=g) rfl j _ (qfK l j hj);rwa [Addr.add_lit] at this)).mono ?_
   rintro e w' ⟨rfl,rfl⟩
   exact⟨by rw[List.take_length],rfl⟩
def qav (s:ByteArray) (l:List ByteArray):Nat→Int
 | 0=>-1
 | j+1=>if ((l.getD j ByteArray.empty).toList==s.toList)=true then(j:Int) else qav s l j
def Sc.use (S:Sc) (s:ByteArray) (i:Nat):Sc :=
 let k:=qav s S.seen S.seen.length
 if k<0 then
  let T:=S.wrong 15 i
  if Lib.containsS T.free s=true then { T with slots:=T.slots.set i k } else { T with free:=T.free++[s],slots:=T.slots.set i k }
 else { S with slots:=S.slots.set i k }
theorem qbo {e:TypeId} {size:Nat} {n g cap:Nat} {xs:List Value} (h:w.ownsRow base e size (.slice (some ⟨g,0,none⟩) n cap) n xs) {i:Nat} (hi:i<n*size) (u:Value) :
  (w.setCell ⟨g,i,none⟩ u).ownsRow base e size (.slice (some ⟨g,0,none⟩) n cap) n (xs.set i u):=by
 obtain⟨h1,h2⟩:=h
 refine ⟨by simpa using h1,?_⟩
 rcases h2 with ⟨h2,_⟩ | ⟨g',cap',cur,h2,hb,hg,hn,hm,hc,ht⟩
 · simp at h2
 · simp only[Value.slice.injEq,Option.some.injEq,Addr.mk.injEq,true_and,and_true] at h2
   obtain⟨rfl,rfl⟩:=h2
   refine Or.inr ⟨g,cap,cur.setIfInBounds i u,rfl,hb,?_,hn,hm,by simpa using hc,?_⟩
   · simp[World.setCell,Array.getElem?_modify,hg]
   · rw[Array.toList_setIfInBounds,List.take_set,ht]
theorem WkV.setSlot {L:List (Nat × Obj)} {S:Sc} {w:World} {sv mv fv:Value} {g c n2:Nat} (h:WkV W b nv fi ns L S sv (.slice (some ⟨g,0,none⟩) n2 c) mv fv w) (i:Nat) (k:Int) (hi:i<S.slots.length) (hn:S.slots.length=n2) :
  WkV W b nv fi ns L { S with slots:=S.slots.set i k } sv (.slice (some ⟨g,0,none⟩) n2 c) mv fv (w.setCell ⟨g,i,none⟩ (.int .i64 k)):=by
 subst hn;have hA:=h.apart
 have hgb:g≠b:=((hA g).2.1 rfl).1
 have hg0:=(h.slots.lt g rfl).1
 have hk:∀ (x:Value) (q:Nat),x.ownBlock≠some g→x.ownBlock=some q→(w.setCell ⟨g,i,none⟩ (.int .i64 k)).heap[q]?=w.heap[q]?:=fun x q hx hq=>heap_set_other _ _ _ _ _ (fun e=>hx (by rw[←e];exact hq))
 refine ⟨h.ext.setCell hg0 _,by rw[heap_set_other _ _ _ _ _ (Ne.symm hgb)];exact h.cell,qaf h.row fun q hq _=>hk nv q (fun e=>by have:=h.base.2 g e;omega) hq,qaf h.seen fun q hq _=>hk sv q (fun e=>((hA g).1 e).2.1 rfl) hq,?_,qaf h.made fun q hq _=>hk mv q (fun e=>((hA g).2.1 rfl).2.1 e) hq,qaf h.free fun q hq _=>hk fv q (fun e=>((hA g).2.1 rfl).2.2 e) hq,h.base,h.apart,fun q hq=>⟨(heap_set_other _ _ _ _ _ (fun e=>(h.loc q hq).2.2.2.1 (by rw[e];rfl))).trans (h.loc q hq).1,(h.loc q hq).2⟩⟩
 have e1:intL (S.slots.set i k)=(intL S.slots).set i (.int .i64 k):=by unfold intL;rw[List.map_set]
 dsimp only;rw[List.length_set,e1];exact qbo h.slots (by rw[Nat.mul_one];exact hi) _
theorem qdV (l:List Int) (j:Nat) (h:j<l.length):(intL l)[j]?=some (.int .i64 (l.getD j 0)):=by
 unfold intL;rw[List.getElem?_map,List.getElem?_eq_getElem h,List.getD_eq_getElem?_getD,List.getElem?_eq_getElem h];rfl
theorem qfC {n m g c:Nat} {e:TypeId} {size:Nat} {xs:List Value} (h:w.ownsRow base e size (.slice (some ⟨g,0,none⟩) m c) n xs) (j:Nat):w.frozen? ⟨g,j,none⟩=false:=by
 rcases h.2 with ⟨h1,_⟩ | ⟨g',cap,cur,hv,_,hg,_⟩
 · cases h1
 · simp only[Value.slice.injEq,Option.some.injEq,Addr.mk.injEq,and_true,true_and] at hv
   rw[←hv.1] at hg
   simp[World.frozen?,hg]
theorem strInfo:(Tryz.prog.info? 9).map (fun i=>(i.zero,i.size,i.bytes))=some (some (.string ⟨#[]⟩),1,16):=by kernel_rfl
theorem use_any {L:List (Nat × Obj)} {S:Sc} {w:World} {sv tv mv fv:Value} (h:WkV W b nv fi ns L S sv tv mv fv w) (s:ByteArray) (i:Nat) (hi:i<S.slots.length) (hs:S.seen.length≤2000) (hf:S.free.length≤2000) :
  Calls Tryz.prog 205 #[.pointer (some ⟨b,0,none⟩),.string s,.int .i64 (i:Int)] w fun r w'=>r=.returned (.tuple #[])∧Wk W b nv fi ns L (S.use s i) w':=by
 have H:=Lib.hid h;have KX:=Lib.hid (show KB b _ _ w from h.cell);have x2:=KX.out.cell 2 _ rfl;have lb:=KX.out.lt;dsimp only[List.getElem_toArray,List.getElem_cons_zero,List.getElem_cons_succ] at x2
 obtain⟨n,hn⟩:∃ n,S.seen.length=n:=⟨_,rfl⟩
 have HN:=Lib.hid hn
 obtain⟨p,c,hv⟩:=qae h.seen
 rw[hn] at hv hs;subst hv
 have hni:(n:Int)≤2000:=by omega
 have HI:=Lib.hid hi;have HFR:=Lib.hid hf
 obtain⟨n2,hn2⟩:∃ n2,S.slots.length=n2:=⟨_,rfl⟩
 obtain⟨g2,c2,_,htv⟩:∃ g2 c2,(g2<w.heap.size)∧tv=.slice (some ⟨g2,0,none⟩) n2 c2:=by
  obtain⟨g1,cap1,e1,_,e3⟩:=h.slots.form zac
  exact⟨g1,cap1,e3,by rw[e1,hn2]⟩
 subst htv;have HN2:=Lib.hid hn2
 have hi2:(i:Int)<(n2:Int):=by omega
 have hi0:0≤(i:Int):=by omega
 clear h hn hi hf hn2;go_enter Tryz.func205,Tryz.ntmps205;go_wp2_with fail;go_loopw [6,14] (fun y6 y14 wr=>∃ k:Nat,y14=.int .i64 (k:Int)∧k≤n∧y6=.int .i64 (qav s S.seen k)∧wr=w) (fun _ y14 _=>n-(intOf y14).toNat)
 case atStart=>exact⟨0,rfl,Nat.zero_le _,rfl,rfl⟩
 case round =>
  obtain⟨k,rfl,hk,rfl,rfl⟩:=hrel
  have hk0:0≤(k:Int):=by omega
  by_cases hlt:k<n
  · have hp:∃ g,p=some ⟨g,0,none⟩:=by
      rcases Go.Joins.ownsRow_forms H.out.seen with ⟨_,h0⟩ | ⟨g1,c1,h0⟩
      · have:=HN.out;omega
      · simp at h0;exact⟨g1,h0.1⟩
    obtain⟨g,rfl⟩:=hp
    have hki:(k:Int)<(n:Int):=by omega
    have hc:=H.out.seen.cells (g:=g) rfl k _ (qfK S.seen k (by rw[HN.out];exact hlt));rw[Addr.add_lit,Nat.zero_add] at hc
    obtain⟨t,ht⟩:∃ t,S.seen.getD k ByteArray.empty=t:=⟨_,rfl⟩
    rw[ht] at hc;have HT:=Lib.hid (show qav s S.seen (k+1)=if (t.toList==s.toList)=true then(k:Int) else qav s S.seen k from by rw[qav,ht]);have HLT:=Lib.hid hlt;have hg:=(H.out.seen.lt g rfl).2;clear ht hlt
    obtain⟨q,hq⟩:∃ q,qav s S.seen k=q:=⟨_,rfl⟩
    rw[hq] at HT ⊢;clear hq
    cases hb:(t.toList==s.toList)
    · have HT2:=Lib.hid (HT.out.trans (if_neg zbq))
      clear HT;go_wp2_with fail;go_roundw
      case rel=>exact⟨k+1,by go_num,by have:=HLT.out;omega,by rw[HT2.out],by first | rfl | trivial⟩
      case measure=>have:=HLT.out;simp[intOf];omega
    · have HT2:=Lib.hid (HT.out.trans (if_pos hb))
      clear HT;go_wp2_with fail;go_roundw
      case rel=>exact⟨k+1,by go_num,by have:=HLT.out;omega,by rw[HT2.out],by first | rfl | trivial⟩
      case measure=>have:=HLT.out;simp[intOf];omega
  · have hke:k=n:=by omega
    subst hke
    have hl:S.use s i=(if qav s S.seen k<0 then(if Lib.containsS (S.wrong 15 i).free s=true then { S.wrong 15 i with slots:=(S.wrong 15 i).slots.set i (qav s S.seen k) } else { S.wrong 15 i with free:=(S.wrong 15 i).free++[s],slots:=(S.wrong 15 i).slots.set i (qav s S.seen k) }) else { S with slots:=S.slots.set i (qav s S.seen k) }):=by unfold Sc.use;rw[HN.out]
    have HU:=Lib.hid hl;clear hl hlt
    obtain⟨q,hq⟩:∃ q,qav s S.seen k=q:=⟨_,rfl⟩
    rw[hq] at HU ⊢;clear hq
    obtain⟨i0,hi,hz0,hz1,hz2⟩:=info_parts strInfo
    by_cases hq0:q<0
    · have HU2:=Lib.hid (HU.out.trans (if_pos hq0))
      have hT1:(S.wrong 15 i).free=S.free:=by unfold Sc.wrong;split<;>rfl
      have hT2:(S.wrong 15 i).slots=S.slots:=by unfold Sc.wrong;split<;>rfl
      have WR:=Lib.hid (qeU H.out 15 i)
      obtain⟨T,hT⟩:∃ T,S.wrong 15 i=T:=⟨_,rfl⟩
      rw[hT] at HU2 WR hT1 hT2
      have hTf:T.free.length≤2000:=by rw[hT1];exact HFR.out
      have hTs:i<T.slots.length:=by rw[hT2];exact HI.out
      have HTF:=Lib.hid hTf;have HTS:=Lib.hid hTs;have HTN:=Lib.hid (show T.slots.length=n2 from by rw[hT2];exact HN2.out);clear hT hT1 hT2 HU hTf hTs
      cases hQ:Lib.containsS T.free s
      · have HU3:=Lib.hid (HU2.out.trans (if_neg (by rw[hQ];simp)))
        have HQ:=Lib.hid hQ;clear HU2 hQ
        go_wp2_with (first
         | ((with_reducible refine WR.out.mono ?_);rintro e' w2 ⟨rfl,h2⟩;have H2:=Lib.hid h2;clear h2;have KX2:=Lib.hid (show KB b _ _ w2 from H2.out.cell);have x6:=KX2.out.cell 6 fv rfl;have x4:=KX2.out.cell 4 (.slice (some ⟨g2,0,none⟩) n2 c2) rfl;have lb2:=KX2.out.lt;have lg2:=(H2.out.slots.lt g2 rfl).2;have hfb:fv.ownBlock≠some b:=fun q=>((H2.out.apart b).2.2.2 q) rfl;have CF:=Lib.hid (qcq H2.out.free s (Nat.le_trans HTF.out zac)))
         | ((with_reducible refine CF.out.mono ?_);rintro e' _ ⟨rfl,rfl⟩;rw[HQ.out])
         | (at_builtin;refine wpList_append_own_at _ rfl _ _ 23 rfl W.heap.size 9 i0 (.string ⟨#[]⟩) 1 16 Tryz.underlying23 hi hz0 hz1 hz2 rfl zak fv T.free.length (strV T.free) rfl (H2.out.free.alloc _) ⟨_,0,none⟩ 1 1 [.string s] rfl rfl (qaq zaj) zbh (by unfold maxLen;have:=HTF.out;omega) (by have:=HTF.out;omega) (by simp;have:=H2.out.ext.size;omega) ?_))
        intro v' w1 hown' hgrow _ hblk
        obtain⟨g3,cap3,rfl,_,_⟩:=hown'.form zac
        have HP:=Lib.hid (WkV.push_free (s:=s) (H2.out.of_ext ((Ext.refl _).alloc _)) hown' hgrow (by rw[World.size_alloc];exact hblk));have KX3:=Lib.hid (show KB b _ _ w1 from(hgrow.block b (by rw[World.size_alloc];omega) (Ne.symm hfb)).trans (KX2.out.alloc _));have z6:=KX3.out.cell 6 fv rfl;have z6f:=KX3.out.frozen 6;have lb3:=KX3.out.lt;have KX4:=Lib.hid (show KB b _ _ (w1.setCell ⟨b,6,none⟩ _) from HP.out.cell);have z4:=KX4.out.cell 4 (.slice (some ⟨g2,0,none⟩) n2 c2) rfl;clear hown' hgrow hblk;have y0:=HP.out.slots.cells (g:=g2) rfl i _ (qdV T.slots i HTS.out);rw[Addr.add_lit,Nat.zero_add] at y0
        have y1:=qfC HP.out.slots i;have y2:=(HP.out.slots.lt g2 rfl).2;go_wp2_with fail;go_end0
        exact⟨rfl,_,_,_,_,by rw[HU3.out];exact HP.out.setSlot i q HTS.out HTN.out⟩
      · have HU3:=Lib.hid (HU2.out.trans (if_pos hQ))
        have HQ:=Lib.hid hQ;clear HU2 hQ
        go_wp2_with (first
         | ((with_reducible refine WR.out.mono ?_);rintro e' w2 ⟨rfl,h2⟩;have H2:=Lib.hid h2;clear h2;have KX2:=Lib.hid (show KB b _ _ w2 from H2.out.cell);have x6:=KX2.out.cell 6 fv rfl;have x4:=KX2.out.cell 4 (.slice (some ⟨g2,0,none⟩) n2 c2) rfl;have lb2:=KX2.out.lt;have lg2:=(H2.out.slots.lt g2 rfl).2;have hfb:fv.ownBlock≠some b:=fun q=>((H2.out.apart b).2.2.2 q) rfl;have CF:=Lib.hid (qcq H2.out.free s (Nat.le_trans HTF.out zac));have y0:=H2.out.slots.cells (g:=g2) rfl i _ (qdV T.slots i HTS.out);rw[Addr.add_lit,Nat.zero_add] at y0;have y1:=qfC H2.out.slots i;have y2:=(H2.out.slots.lt g2 rfl).2)
         | ((with_reducible refine CF.out.mono ?_);rintro e' _ ⟨rfl,rfl⟩;rw[HQ.out]))
        go_end0
        exact⟨rfl,_,_,_,_,by rw[HU3.out];exact H2.out.setSlot i q HTS.out HTN.out⟩
    · have HU2:=Lib.hid (HU.out.trans (if_neg hq0))
      have hq1:0≤q:=by omega
      have KX2:=Lib.hid (show KB b _ _ wr from H.out.cell);have x4:=KX2.out.cell 4 (.slice (some ⟨g2,0,none⟩) n2 c2) rfl;have y0:=H.out.slots.cells (g:=g2) rfl i _ (qdV S.slots i HI.out);rw[Addr.add_lit,Nat.zero_add] at y0;have y1:=qfC H.out.slots i;have y2:=(H.out.slots.lt g2 rfl).2;clear hq0;go_wp2_with fail;go_end0
      exact⟨rfl,_,_,_,_,by rw[HU2.out];exact H.out.setSlot i q HI.out HN2.out⟩
def Sc.wrongSee (S:Sc) (s:ByteArray) (i:Int):Sc:=if Lib.containsS S.seen s=true then S.wrong 16 i else if 32≤S.seen.length then S.wrong 5 i else S
def Sc.see (S:Sc) (s:ByteArray) (i:Int):Sc :=
 let T:=S.wrongSee s i
 { T with made:=T.made++[s],seen:=T.seen++[s],most:=max T.most ((T.seen.length:Int)+1) }
theorem see_any {L:List (Nat × Obj)} {S:Sc} {w:World} {sv tv mv fv:Value} (h:WkV W b nv fi ns L S sv tv mv fv w) (s:ByteArray) (i:Int) (hs:S.seen.length≤2000) (hf:S.made.length≤2000) :
  Calls Tryz.prog 174 #[.pointer (some ⟨b,0,none⟩),.string s,.int .i64 i] w fun r w'=>r=.returned (.tuple #[])∧Wk W b nv fi ns L (S.see s i) w':=by
 have H:=Lib.hid h;have KX:=Lib.hid (show KB b _ _ w from h.cell);have x2:=KX.out.cell 2 sv rfl;have lb:=KX.out.lt
 obtain⟨i0,hi,hz0,hz1,hz2⟩:=info_parts strInfo
 have CF:=Lib.hid (qcq h.seen s zac)
 obtain⟨sl,hsl⟩:∃ sl,S.seen.length=sl:=⟨_,rfl⟩
 obtain⟨p,c,hv⟩:=qae h.seen
 rw[hsl] at hv;subst hv
 cases hQ:Lib.containsS S.seen s
 · by_cases h32:32≤S.seen.length
   · have hW:S.wrongSee s i=S.wrong 5 i:=by unfold Sc.wrongSee;rw[if_neg (by rw[hQ];simp),if_pos h32]
     have WR:=Lib.hid (qeU h 5 i)
     have hT1:(S.wrong 5 i).seen=S.seen:=by unfold Sc.wrong;split<;>rfl
     have hT2:(S.wrong 5 i).made=S.made:=by unfold Sc.wrong;split<;>rfl
     have HU:RowKit.Hid (S.see s i=_):=Lib.hid (by unfold Sc.see;rw[hW])
     obtain⟨T,hT⟩:∃ T,S.wrong 5 i=T:=⟨_,rfl⟩
     rw[hT] at WR hT1 hT2 HU;have HTL:=Lib.hid (show T.seen.length≤2000∧T.made.length≤2000 from⟨by rw[hT1];exact hs,by rw[hT2];exact hf⟩);have HQ:=Lib.hid hQ
     have h3i:(32:Int)≤(sl:Int):=by omega
     clear hW hT hT1 hT2 hQ h hs hf hsl h32;go_enter Tryz.func174,Tryz.ntmps174
     go_wp2_with (first
      | ((with_reducible refine CF.out.mono ?_);rintro e' _ ⟨rfl,rfl⟩;rw[HQ.out])
      | ((with_reducible refine WR.out.mono ?_);rintro e' w2 ⟨rfl,h2⟩;have H2:=Lib.hid h2;clear h2;have KX2:=Lib.hid (show KB b _ _ w2 from H2.out.cell);have y5:=KX2.out.cell 5 mv rfl;have lb2:=KX2.out.lt)
      | (at_builtin;refine wpList_append_own_at _ rfl _ _ 23 rfl W.heap.size 9 i0 (.string ⟨#[]⟩) 1 16 Tryz.underlying23 hi hz0 hz1 hz2 rfl zak mv T.made.length (strV T.made) rfl (H2.out.made.alloc _) ⟨_,0,none⟩ 1 1 [.string s] rfl rfl (qaq zaj) zbh (by unfold maxLen;have:=HTL.out;omega) (by have:=HTL.out;omega) (by simp;have:=H2.out.ext.size;omega) ?_))
     intro v1 w3 hown' hgrow _ hblk
     obtain⟨g3,cap3,rfl,_,_⟩:=hown'.form zac
     have HP:=Lib.hid (WkV.push_made (s:=s) (H2.out.of_ext ((Ext.refl _).alloc _)) hown' hgrow (by rw[World.size_alloc];exact hblk))
     have hmb:mv.ownBlock≠some b:=fun q=>((H2.out.apart b).2.2.1 q).1 rfl
     have KX3:=Lib.hid (show KB b _ _ w3 from(hgrow.block b (by rw[World.size_alloc];have:=(show KB b _ _ _ from H2.out.cell).lt;omega) (Ne.symm hmb)).trans ((show KB b _ _ _ from H2.out.cell).alloc _));have z5:=KX3.out.cell 5 mv rfl;have z5f:=KX3.out.frozen 5;have lb3:=KX3.out.lt;have KX4:=Lib.hid (show KB b _ _ (w3.setCell ⟨b,5,none⟩ _) from HP.out.cell);have z2:=KX4.out.cell 2 (.slice p sl c) rfl;clear hown' hgrow hblk
     go_wp2_with (at_builtin;refine wpList_append_own_at _ rfl _ _ 23 rfl W.heap.size 9 i0 (.string ⟨#[]⟩) 1 16 Tryz.underlying23 hi hz0 hz1 hz2 rfl zak (.slice p sl c) T.seen.length (strV T.seen) rfl (HP.out.seen.alloc _) ⟨_,0,none⟩ 1 1 [.string s] rfl rfl (qaq zaj) zbh (by unfold maxLen;have:=HTL.out;omega) (by have:=HTL.out;omega) (by simp;have:=HP.out.ext.size;omega) ?_)
     intro v2 w4 hown' hgrow _ hblk
     obtain⟨g4,cap4,rfl,_,_⟩:=hown'.form zac
     have HP2:=Lib.hid (WkV.push_seen (s:=s) (HP.out.of_ext ((Ext.refl _).alloc _)) hown' hgrow (by simpa using hblk))
     have hsb:(Value.slice p sl c).ownBlock≠some b:=fun q=>((HP.out.apart b).1 q).1 rfl
     have KX5:=Lib.hid (show KB b _ _ w4 from(hgrow.block b (by rw[World.size_alloc];have:=KX4.out.lt;omega) (Ne.symm hsb)).trans (KX4.out.alloc _));have t2:=KX5.out.cell 2 (.slice p sl c) rfl;have t2f:=KX5.out.frozen 2;have lb4:=KX5.out.lt;have KX6:=Lib.hid (show KB b _ _ (w4.setCell ⟨b,2,none⟩ _) from HP2.out.cell);have t22:=KX6.out.cell 2 (.slice (some ⟨g4,0,none⟩) (T.seen.length+1) cap4) rfl;have t23:=KX6.out.cell 3 (.int .i64 T.most) rfl;have t23f:=KX6.out.frozen 3;have lb6:=KX6.out.lt;clear hown' hgrow hblk;go_wp2_with fail
     go_region
     go_wp2_with fail;go_end0
     exact⟨rfl,_,_,_,_,by rw[HU.out];exact(HP2.out.setB 3 (.int .i64 (max T.most ((T.seen.length:Int)+1))) { T with made:=T.made++[s],seen:=T.seen++[s],most:=max T.most ((T.seen.length:Int)+1) } zac rfl rfl rfl rfl rfl).of_ext ((Ext.refl _).drew)⟩
   · have hW:S.wrongSee s i=S:=by unfold Sc.wrongSee;rw[if_neg (by rw[hQ];simp),if_neg h32]
     have HU:RowKit.Hid (S.see s i=_):=Lib.hid (by unfold Sc.see;rw[hW])
     have HTL:=Lib.hid (show S.seen.length≤2000∧S.made.length≤2000 from⟨by exact hs,by exact hf⟩);have HQ:=Lib.hid hQ
     have h3i:(sl:Int)<32:=by omega
     have y5:=KX.out.cell 5 mv rfl;clear hW hQ h hs hf hsl h32;go_enter Tryz.func174,Tryz.ntmps174
     go_wp2_with (first
      | ((with_reducible refine CF.out.mono ?_);rintro e' _ ⟨rfl,rfl⟩;rw[HQ.out])
      | (at_builtin;refine wpList_append_own_at _ rfl _ _ 23 rfl W.heap.size 9 i0 (.string ⟨#[]⟩) 1 16 Tryz.underlying23 hi hz0 hz1 hz2 rfl zak mv S.made.length (strV S.made) rfl (H.out.made.alloc _) ⟨_,0,none⟩ 1 1 [.string s] rfl rfl (qaq zaj) zbh (by unfold maxLen;have:=HTL.out;omega) (by have:=HTL.out;omega) (by simp;have:=H.out.ext.size;omega) ?_))
     intro v1 w3 hown' hgrow _ hblk
     obtain⟨g3,cap3,rfl,_,_⟩:=hown'.form zac
     have HP:=Lib.hid (WkV.push_made (s:=s) (H.out.of_ext ((Ext.refl _).alloc _)) hown' hgrow (by rw[World.size_alloc];exact hblk))
     have hmb:mv.ownBlock≠some b:=fun q=>((H.out.apart b).2.2.1 q).1 rfl
     have KX3:=Lib.hid (show KB b _ _ w3 from(hgrow.block b (by rw[World.size_alloc];have:=(show KB b _ _ _ from H.out.cell).lt;omega) (Ne.symm hmb)).trans ((show KB b _ _ _ from H.out.cell).alloc _));have z5:=KX3.out.cell 5 mv rfl;have z5f:=KX3.out.frozen 5;have lb3:=KX3.out.lt;have KX4:=Lib.hid (show KB b _ _ (w3.setCell ⟨b,5,none⟩ _) from HP.out.cell);have z2:=KX4.out.cell 2 (.slice p sl c) rfl;clear hown' hgrow hblk
     go_wp2_with (at_builtin;refine wpList_append_own_at _ rfl _ _ 23 rfl W.heap.size 9 i0 (.string ⟨#[]⟩) 1 16 Tryz.underlying23 hi hz0 hz1 hz2 rfl zak (.slice p sl c) S.seen.length (strV S.seen) rfl (HP.out.seen.alloc _) ⟨_,0,none⟩ 1 1 [.string s] rfl rfl (qaq zaj) zbh (by unfold maxLen;have:=HTL.out;omega) (by have:=HTL.out;omega) (by simp;have:=HP.out.ext.size;omega) ?_)
     intro v2 w4 hown' hgrow _ hblk
     obtain⟨g4,cap4,rfl,_,_⟩:=hown'.form zac
     have HP2:=Lib.hid (WkV.push_seen (s:=s) (HP.out.of_ext ((Ext.refl _).alloc _)) hown' hgrow (by simpa using hblk))
     have hsb:(Value.slice p sl c).ownBlock≠some b:=fun q=>((HP.out.apart b).1 q).1 rfl
     have KX5:=Lib.hid (show KB b _ _ w4 from(hgrow.block b (by rw[World.size_alloc];have:=KX4.out.lt;omega) (Ne.symm hsb)).trans (KX4.out.alloc _));have t2:=KX5.out.cell 2 (.slice p sl c) rfl;have t2f:=KX5.out.frozen 2;have lb4:=KX5.out.lt;have KX6:=Lib.hid (show KB b _ _ (w4.setCell ⟨b,2,none⟩ _) from HP2.out.cell);have t22:=KX6.out.cell 2 (.slice (some ⟨g4,0,none⟩) (S.seen.length+1) cap4) rfl;have t23:=KX6.out.cell 3 (.int .i64 S.most) rfl;have t23f:=KX6.out.frozen 3;have lb6:=KX6.out.lt;clear hown' hgrow hblk;go_wp2_with fail
     go_region
     go_wp2_with fail;go_end0
     exact⟨rfl,_,_,_,_,by rw[HU.out];exact(HP2.out.setB 3 (.int .i64 (max S.most ((S.seen.length:Int)+1))) { S with made:=S.made++[s],seen:=S.seen++[s],most:=max S.most ((S.seen.length:Int)+1) } zac rfl rfl rfl rfl rfl).of_ext ((Ext.refl _).drew)⟩
 · have hW:S.wrongSee s i=S.wrong 16 i:=by unfold Sc.wrongSee;rw[if_pos hQ]
   have WR:=Lib.hid (qeU h 16 i)
   have hT1:(S.wrong 16 i).seen=S.seen:=by unfold Sc.wrong;split<;>rfl
   have hT2:(S.wrong 16 i).made=S.made:=by unfold Sc.wrong;split<;>rfl
   have HU:RowKit.Hid (S.see s i=_):=Lib.hid (by unfold Sc.see;rw[hW])
   obtain⟨T,hT⟩:∃ T,S.wrong 16 i=T:=⟨_,rfl⟩
   rw[hT] at WR hT1 hT2 HU;have HTL:=Lib.hid (show T.seen.length≤2000∧T.made.length≤2000 from⟨by rw[hT1];exact hs,by rw[hT2];exact hf⟩);have HQ:=Lib.hid hQ;clear hW hT hT1 hT2 hQ h hs hf hsl;go_enter Tryz.func174,Tryz.ntmps174
   go_wp2_with (first
    | ((with_reducible refine CF.out.mono ?_);rintro e' _ ⟨rfl,rfl⟩;rw[HQ.out])
    | ((with_reducible refine WR.out.mono ?_);rintro e' w2 ⟨rfl,h2⟩;have H2:=Lib.hid h2;clear h2;have KX2:=Lib.hid (show KB b _ _ w2 from H2.out.cell);have y5:=KX2.out.cell 5 mv rfl;have lb2:=KX2.out.lt)
    | (at_builtin;refine wpList_append_own_at _ rfl _ _ 23 rfl W.heap.size 9 i0 (.string ⟨#[]⟩) 1 16 Tryz.underlying23 hi hz0 hz1 hz2 rfl zak mv T.made.length (strV T.made) rfl (H2.out.made.alloc _) ⟨_,0,none⟩ 1 1 [.string s] rfl rfl (qaq zaj) zbh (by unfold maxLen;have:=HTL.out;omega) (by have:=HTL.out;omega) (by simp;have:=H2.out.ext.size;omega) ?_))
   intro v1 w3 hown' hgrow _ hblk
   obtain⟨g3,cap3,rfl,_,_⟩:=hown'.form zac
   have HP:=Lib.hid (WkV.push_made (s:=s) (H2.out.of_ext ((Ext.refl _).alloc _)) hown' hgrow (by rw[World.size_alloc];exact hblk))
   have hmb:mv.ownBlock≠some b:=fun q=>((H2.out.apart b).2.2.1 q).1 rfl
   have KX3:=Lib.hid (show KB b _ _ w3 from(hgrow.block b (by rw[World.size_alloc];have:=(show KB b _ _ _ from H2.out.cell).lt;omega) (Ne.symm hmb)).trans ((show KB b _ _ _ from H2.out.cell).alloc _));have z5:=KX3.out.cell 5 mv rfl;have z5f:=KX3.out.frozen 5;have lb3:=KX3.out.lt;have KX4:=Lib.hid (show KB b _ _ (w3.setCell ⟨b,5,none⟩ _) from HP.out.cell);have z2:=KX4.out.cell 2 (.slice p sl c) rfl;clear hown' hgrow hblk
   go_wp2_with (at_builtin;refine wpList_append_own_at _ rfl _ _ 23 rfl W.heap.size 9 i0 (.string ⟨#[]⟩) 1 16 Tryz.underlying23 hi hz0 hz1 hz2 rfl zak (.slice p sl c) T.seen.length (strV T.seen) rfl (HP.out.seen.alloc _) ⟨_,0,none⟩ 1 1 [.string s] rfl rfl (qaq zaj) zbh (by unfold maxLen;have:=HTL.out;omega) (by have:=HTL.out;omega) (by simp;have:=HP.out.ext.size;omega) ?_)
   intro v2 w4 hown' hgrow _ hblk
   obtain⟨g4,cap4,rfl,_,_⟩:=hown'.form zac
   have HP2:=Lib.hid (WkV.push_seen (s:=s) (HP.out.of_ext ((Ext.refl _).alloc _)) hown' hgrow (by simpa using hblk))
   have hsb:(Value.slice p sl c).ownBlock≠some b:=fun q=>((HP.out.apart b).1 q).1 rfl
   have KX5:=Lib.hid (show KB b _ _ w4 from(hgrow.block b (by rw[World.size_alloc];have:=KX4.out.lt;omega) (Ne.symm hsb)).trans (KX4.out.alloc _));have t2:=KX5.out.cell 2 (.slice p sl c) rfl;have t2f:=KX5.out.frozen 2;have lb4:=KX5.out.lt;have KX6:=Lib.hid (show KB b _ _ (w4.setCell ⟨b,2,none⟩ _) from HP2.out.cell);have t22:=KX6.out.cell 2 (.slice (some ⟨g4,0,none⟩) (T.seen.length+1) cap4) rfl;have t23:=KX6.out.cell 3 (.int .i64 T.most) rfl;have t23f:=KX6.out.frozen 3;have lb6:=KX6.out.lt;clear hown' hgrow hblk;go_wp2_with fail
   go_region
   go_wp2_with fail;go_end0
   exact⟨rfl,_,_,_,_,by rw[HU.out];exact(HP2.out.setB 3 (.int .i64 (max T.most ((T.seen.length:Int)+1))) { T with made:=T.made++[s],seen:=T.seen++[s],most:=max T.most ((T.seen.length:Int)+1) } zac rfl rfl rfl rfl rfl).of_ext ((Ext.refl _).drew)⟩
theorem WkV.locNew {L:List (Nat × Obj)} {S:Sc} {w:World} {sv tv mv fv:Value} (h:WkV W b nv fi ns L S sv tv mv fv w) (o:Obj):WkV W b nv fi ns ((w.heap.size,o)::L) S sv tv mv fv (w.alloc o):=by
 have h':=h.of_ext ((Ext.refl w).alloc o);refine ⟨h'.ext,h'.cell,h'.row,h'.seen,h'.slots,h'.made,h'.free,h'.base,h'.apart,fun q hq=>?_⟩;rcases List.mem_cons.1 hq with e | hq
 · subst e
   refine ⟨heap_alloc_new _ _,?_,fun e=>?_,fun e=>?_,fun e=>?_,fun e=>?_⟩
   · have:=(Array.getElem?_eq_some_iff.1 h.cell).1
     dsimp only;omega
   · exact absurd (h.seen.lt _ e).2 (Nat.lt_irrefl _)
   · exact absurd (h.slots.lt _ e).2 (Nat.lt_irrefl _)
   · exact absurd (h.made.lt _ e).2 (Nat.lt_irrefl _)
   · exact absurd (h.free.lt _ e).2 (Nat.lt_irrefl _)
 · exact h'.loc q hq
theorem WkV.locOut {L:List (Nat × Obj)} {S:Sc} {w:World} {sv tv mv fv:Value} {q:Nat × Obj} (h:WkV W b nv fi ns (q::L) S sv tv mv fv w):WkV W b nv fi ns L S sv tv mv fv w :=
 ⟨h.ext,h.cell,h.row,h.seen,h.slots,h.made,h.free,h.base,h.apart,fun p hp=>h.loc p (List.mem_cons_of_mem _ hp)⟩
theorem Wk.locNew {L:List (Nat × Obj)} {S:Sc} {w:World} (h:Wk W b nv fi ns L S w) (o:Obj):Wk W b nv fi ns ((w.heap.size,o)::L) S (w.alloc o):=by
 obtain⟨sv,tv,mv,fv,h⟩:=h
 exact⟨sv,tv,mv,fv,h.locNew o⟩
theorem Wk.locOut {L:List (Nat × Obj)} {S:Sc} {w:World} {q:Nat × Obj} (h:Wk W b nv fi ns (q::L) S w):Wk W b nv fi ns L S w:=by
 obtain⟨sv,tv,mv,fv,h⟩:=h
 exact⟨sv,tv,mv,fv,h.locOut⟩
theorem Wk.locAt {L:List (Nat × Obj)} {S:Sc} {w:World} {k:Nat} {cs:Array Value} {T:TypeId} (h:Wk W b nv fi ns L S w) (hq:(k,Obj.cells cs T (0,0))∈L):KB k cs T w:=by
 obtain⟨sv,tv,mv,fv,h⟩:=h
 exact(h.loc _ hq).1
def Sc.useO (S:Sc) (s:ByteArray) (i:Nat):Option Sc:=if i<S.slots.length∧S.seen.length≤2000∧S.free.length≤2000 then some (S.use s i) else none
def Sc.seeO (S:Sc) (s:ByteArray) (i:Int):Option Sc:=if S.seen.length≤2000∧S.made.length≤2000 then some (S.see s i) else none
def seesO (i:Int):List ByteArray→Sc→Option Sc
 | [],S=>some S
 | s::l,S=>(S.seeO s i).bind (seesO i l)
def exprS (ns:List Nd):Nat→Int→Sc→Option Sc
 | 0,i,S=>if i<0 then some S else none
 | f+1,i,S=>if i<0 then some S else
  match ns[i.toNat]? with
  | none=>none
  | some z=>(exprS ns f z.a S).bind fun S1=>(exprS ns f z.b S1).bind fun S2=>if z.k=4 then S2.useO z.s i.toNat else some S2
def qbf (B:Int→Sc→Option Sc) (first i:Int) (names:List ByteArray) (S:Sc):Option Sc :=
 (seesO i names S).bind fun S1=>(B first S1).bind fun S2=>if S.seen.length≤S2.seen.length then some { S2 with seen:=S2.seen.take S.seen.length } else none
def Sc.slot (S:Sc) (i:Nat):Option Sc:=if i<S.slots.length then some { S with slots:=S.slots.set i S.seen.length } else none
def stmS (E B:Int→Sc→Option Sc) (i:Nat) (z:Nd) (S:Sc):Option Sc:=(E z.a S).bind fun S1 =>
 if z.k=22 then E z.b S1
 else if z.k=20 then(S1.slot i).bind fun S2=>S2.seeO z.s i
 else if z.k=21 then S1.useO z.s i
 else if z.k=24 then(qbf B z.b i [] S1).bind (qbf B z.c i [])
 else if z.k=25 then(S1.slot i).bind (qbf B z.b i [z.s,z.t])
 else if z.k=26 then qbf B z.b i [] S1
 else some S1
def blkS (ns:List Nd):Nat→Int→Sc→Option Sc
 | 0,i,S=>if i<0 then some S else none
 | f+1,i,S=>if i<0 then some S else
  match ns[i.toNat]? with
  | none=>none
  | some z=>(stmS (exprS ns f) (blkS ns f) i.toNat z S).bind (blkS ns f z.x)
theorem qab {α β:Type} {x:Option α} {g:α→Option β} {r:β} (h:x.bind g=some r):∃ a,x=some a∧g a=some r:=Option.bind_eq_some_iff.1 h
theorem exprS_neg (ns:List Nd) (f:Nat) (i:Int) (S:Sc) (h:i<0):exprS ns f i S=some S:=by
 cases f<;>(unfold exprS;rw[if_pos h])
theorem qbL {f:Nat} {i:Int} {S R:Sc} (h:0≤i) (hR:exprS ns f i S=some R):∃ g j z S1 S2,f=g+1∧i=((j:Nat):Int)∧ns[j]?=some z∧exprS ns g z.a S=some S1∧exprS ns g z.b S1=some S2∧(if z.k=4 then S2.useO z.s j else some S2)=some R:=by
 cases f with
 | zero=>unfold exprS at hR;rw[if_neg zac] at hR;cases hR
 | succ g =>
  unfold exprS at hR;rw[if_neg zac] at hR
  obtain⟨j,rfl⟩:∃ j:Nat,i=(j:Int):=⟨i.toNat,by omega⟩
  rw[Int.toNat_natCast] at hR
  split at hR
  · cases hR
  · rename_i z hz
    obtain⟨S1,h1,hR⟩:=qab hR
    obtain⟨S2,h2,hR⟩:=qab hR
    exact⟨g,j,z,S1,S2,rfl,rfl,hz,h1,h2,hR⟩
theorem qeH {S R:Sc} {s:ByteArray} {i:Nat} (h:S.useO s i=some R):i<S.slots.length∧S.seen.length≤2000∧S.free.length≤2000∧R=S.use s i:=by
 unfold Sc.useO at h
 split at h
 · rename_i q;exact⟨q.1,q.2.1,q.2.2,(Option.some.inj h).symm⟩
 · cases h
theorem qbQ {S R:Sc} {s:ByteArray} {i:Int} (h:S.seeO s i=some R):S.seen.length≤2000∧S.made.length≤2000∧R=S.see s i:=by
 unfold Sc.seeO at h
 split at h
 · rename_i q;exact⟨q.1,q.2,(Option.some.inj h).symm⟩
 · cases h
theorem qco {S R:Sc} {i:Nat} (h:S.slot i=some R):i<S.slots.length∧R={ S with slots:=S.slots.set i S.seen.length }:=by
 unfold Sc.slot at h
 split at h
 · rename_i q;exact⟨q,(Option.some.inj h).symm⟩
 · cases h
theorem useO_any {L:List (Nat × Obj)} {S R:Sc} {w:World} (h:Wk W b nv fi ns L S w) (s:ByteArray) (i:Nat) (hR:S.useO s i=some R) :
  Calls Tryz.prog 205 #[.pointer (some ⟨b,0,none⟩),.string s,.int .i64 (i:Int)] w fun r w'=>r=.returned (.tuple #[])∧Wk W b nv fi ns L R w':=by
 obtain⟨sv,tv,mv,fv,h⟩:=h
 obtain⟨a1,a2,a3,rfl⟩:=qeH hR
 exact use_any h s i a1 a2 a3
theorem seeO_any {L:List (Nat × Obj)} {S R:Sc} {w:World} (h:Wk W b nv fi ns L S w) (s:ByteArray) (i:Int) (hR:S.seeO s i=some R) :
  Calls Tryz.prog 174 #[.pointer (some ⟨b,0,none⟩),.string s,.int .i64 i] w fun r w'=>r=.returned (.tuple #[])∧Wk W b nv fi ns L R w':=by
 obtain⟨sv,tv,mv,fv,h⟩:=h
 obtain⟨a1,a2,rfl⟩:=qbQ hR
 exact see_any h s i a1 a2
theorem Wk.node {L:List (Nat × Obj)} {S:Sc} {w:World} (h:Wk W b nv fi ns L S w) {j:Nat} {z:Nd} (hz:ns[j]?=some z) :
  ∃ G n cap,nv=.slice (some ⟨G,0,none⟩) n cap∧G<w.heap.size∧j<n∧b<w.heap.size∧w.cell? ⟨b,0,none⟩=some (.slice (some ⟨G,0,none⟩) n cap) ∧
  w.cell? ⟨G,j*8,none⟩=some (.int .i64 z.k)∧w.cell? ⟨G,j*8+1,none⟩=some (.int .i64 z.a)∧w.cell? ⟨G,j*8+2,none⟩=some (.int .i64 z.b)∧w.cell? ⟨G,j*8+3,none⟩=some (.int .i64 z.c)∧w.cell? ⟨G,j*8+4,none⟩=some (.int .i64 z.x)∧w.cell? ⟨G,j*8+5,none⟩=some (.int .i64 z.i)∧w.cell? ⟨G,j*8+6,none⟩=some (.string z.s)∧w.cell? ⟨G,j*8+7,none⟩=some (.string z.t):=by
 obtain⟨sv,tv,mv,fv,h⟩:=h
 have hj:=(List.getElem?_eq_some_iff.1 hz).1
 rcases Go.Joins.ownsRow_forms h.row with ⟨_,h0⟩ | ⟨g1,c1,h0⟩
 · omega
 · have hr:=h.row
   subst h0
   have kb:KB b _ _ w:=h.cell
   exact⟨g1,ns.length,c1,rfl,(hr.lt g1 rfl).2,hj,kb.lt,kb.cell 0 _ rfl,nd_at hr hz⟩
theorem sexpr_neg {L:List (Nat × Obj)} {S:Sc} {w:World} (i:Int) (hi:i<0) (h:Wk W b nv fi ns L S w) :
  Calls Tryz.prog 204 #[.pointer (some ⟨b,0,none⟩),.int .i64 i] w fun r w'=>r=.returned (.tuple #[])∧Wk W b nv fi ns L S w':=by
 have H:=Lib.hid h;clear h;go_enter Tryz.func204,Tryz.ntmps204;go_wp2_with fail;refine yae ?_
 exact⟨rfl,H.out⟩
theorem sexpr_any:∀ (f:Nat) (L:List (Nat × Obj)) (S R:Sc) (w:World) (i:Int),exprS ns f i S=some R→Wk W b nv fi ns L S w →
  Calls Tryz.prog 204 #[.pointer (some ⟨b,0,none⟩),.int .i64 i] w fun r w'=>r=.returned (.tuple #[])∧Wk W b nv fi ns L R w':=by
 intro f
 induction f with
 | zero =>
  intro L S R w i hR h
  by_cases hi:i<0
  · rw[exprS_neg ns 0 i S hi] at hR
    cases hR
    exact sexpr_neg i hi h
  · obtain⟨g,_,_,_,_,e,_⟩:=qbL zac hR
    cases e
 | succ f ih =>
  intro L S R w i hR h
  by_cases hi:i<0
  · rw[exprS_neg ns _ i S hi] at hR
    cases hR
    exact sexpr_neg i hi h
  obtain⟨g,j,⟨zk,za,zb,zc,zx,zi,zs,zt⟩,S1,S2,e,rfl,hz,h1,h2,h3⟩:=qbL zac hR
  obtain rfl:f=g:=by omega
  dsimp only at h1 h2 h3
  obtain⟨G,n,cap,rfl,hG,hj,lb,c0,a0,a1,a2,a3,a4,a5,a6,a7⟩:=h.node hz
  dsimp only at a0 a1 a2 a3 a4 a5 a6 a7;have C1:=Lib.hid (fun w1 (hw:Wk W b (.slice (some ⟨G,0,none⟩) n cap) fi ns ((w.heap.size,.cells #[.int .i64 zk,.int .i64 za,.int .i64 zb,.int .i64 zc,.int .i64 zx,.int .i64 zi,.string zs,.string zt] 166 (0,0))::L) S w1)=>ih _ S S1 w1 za h1 hw);have C2:=Lib.hid (fun w1 (hw:Wk W b (.slice (some ⟨G,0,none⟩) n cap) fi ns ((w.heap.size,.cells #[.int .i64 zk,.int .i64 za,.int .i64 zb,.int .i64 zc,.int .i64 zx,.int .i64 zi,.string zs,.string zt] 166 (0,0))::L) S1 w1)=>ih _ S1 S2 w1 zb h2 hw);refine yal ?_;intro H0
  have hj0:0≤(j:Int):=by omega
  have hjn:(j:Int)<(n:Int):=by omega
  by_cases hk:zk=4
  · rw[if_pos hk] at h3
    have C3:=Lib.hid (fun w1 (hw:Wk W b (.slice (some ⟨G,0,none⟩) n cap) fi ns ((w.heap.size,.cells #[.int .i64 zk,.int .i64 za,.int .i64 zb,.int .i64 zc,.int .i64 zx,.int .i64 zi,.string zs,.string zt] 166 (0,0))::L) S2 w1)=>useO_any hw zs j h3);subst hk;clear ih hR h hz h1 h2 h3 hi hj e;go_enter Tryz.func204,Tryz.ntmps204
    go_wp2_with (first
     | ((with_reducible refine (C1.out _ H0.out).mono ?_);rintro e' w2 ⟨rfl,h2⟩;have H2:=Lib.hid h2;clear h2;have KX:=Lib.hid (H2.out.locAt List.mem_cons_self);have x2:=KX.out.cell 2 _ rfl;have lx:=KX.out.lt)
     | ((with_reducible refine (C2.out _ H2.out).mono ?_);rintro e' w3 ⟨rfl,h3⟩;have H3:=Lib.hid h3;clear h3;have KX3:=Lib.hid (H3.out.locAt List.mem_cons_self);have x30:=KX3.out.cell 0 _ rfl;have x36:=KX3.out.cell 6 _ rfl;have lx3:=KX3.out.lt)
     | ((with_reducible refine (C3.out _ H3.out).mono ?_);rintro e' w4 ⟨rfl,h4⟩;have H4:=Lib.hid h4;clear h4))
    refine yae ?_
    exact⟨rfl,H4.out.locOut⟩
  · rw[if_neg hk] at h3
    cases h3
    have hk2:(zk==4)=false:=by simpa using hk
    clear ih hR h hz h1 h2 hi hj e hk;go_enter Tryz.func204,Tryz.ntmps204
    go_wp2_with (first
     | ((with_reducible refine (C1.out _ H0.out).mono ?_);rintro e' w2 ⟨rfl,h2⟩;have H2:=Lib.hid h2;clear h2;have KX:=Lib.hid (H2.out.locAt List.mem_cons_self);have x2:=KX.out.cell 2 _ rfl;have lx:=KX.out.lt)
     | ((with_reducible refine (C2.out _ H2.out).mono ?_);rintro e' w3 ⟨rfl,h3⟩;have H3:=Lib.hid h3;clear h3;have KX3:=Lib.hid (H3.out.locAt List.mem_cons_self);have x30:=KX3.out.cell 0 _ rfl;have lx3:=KX3.out.lt))
    refine yae ?_
    exact⟨rfl,H3.out.locOut⟩
end Go.Proofs.YtpnabjopfpdkhaaGreatDoor
