/- Lemmas. -/
import Derived.Test.YtpnabjopfpdkhaaGreatDoorA32
import Derived.Deep.DeepCutAuto
set_option linter.unusedSimpArgs false
set_option linter.unusedVariables false
set_option maxHeartbeats 4000000
set_option maxRecDepth 20000
namespace Go.Proofs.YtpnabjopfpdkhaaGreatDoor
open Go.RowKit
variable {W w:World} {B N:Nat} {l:List ByteArray} {v:Value}
attribute [go_sem] more_more Array.size_append
def jobC (s:ByteArray) (v:Nat→Value) (a b:Value):Array Value:=#[.string s,v 0,v 1,v 2,v 3,v 4,v 5,v 6,v 7,v 8,v 9,v 10,v 11,v 12,v 13,v 14,v 15,.int .i64 0,.int .i64 0,.int .i64 0,.int .i64 0,.int .i64 0,.int .i64 0,.int .i64 0,.int .i64 0,.int .i64 0,.int .i64 0,.int .i64 0,.int .i64 0,.int .i64 0,.int .i64 0,.int .i64 0,.int .i64 0,.int .i64 0,.int .i64 0,.int .i64 0,a,b,.int .i64 0]
theorem jobC_ext (s:ByteArray) (v:Nat→Value) (a b:Value):jobC s v a b=(#[.string s]++stC v (fun _=>0) 0 0 0)++#[a,b,.int .i64 0]:=by kernel_rfl
def JB (w:World) (N:Nat) (C:Array Value):Prop:=w.heap[N]?=some (.cells C 67 (0,0))
theorem JB.ext {w':World} {C:Array Value} (h:JB w N C) (hx:Ext w w'):JB w' N C:=by
 unfold JB at h ⊢;rw[hx.below.block N (qaY h)];exact h
theorem JB.set {C D:Array Value} (h:JB w N C):JB (w.setRow N D) N D:=by
 unfold JB at h ⊢;exact setRow_heap w N _ _ _ _ h
theorem JB.other {M:Nat} {C D:Array Value} (h:JB w N C) (hne:N≠M):JB (w.setRow M D) N C:=by
 unfold JB at h ⊢;rw[setRow_other _ _ _ _ hne];exact h
theorem job_size (s:ByteArray) (v:Nat→Value) (a b:Value):(jobC s v a b).size=39:=rfl
theorem job_st (s:ByteArray) (v:Nat→Value) (a b:Value):∀ j u,(stC v (fun _=>0) 0 0 0).toList[j]?=some u→(jobC s v a b)[1+j]?=some u:=by
 intro j u h;have hj:=(List.getElem?_eq_some_iff.1 h).1
 have h35:(stC v (fun _=>0) 0 0 0).size=35:=rfl
 rw[jobC_ext,Array.getElem?_append_left (by rw[Array.size_append,h35];simp at hj ⊢;omega),Array.getElem?_append_right zaj];rw[show 1+j-(#[Value.string s]:Array Value).size=j from by simp,←Array.getElem?_toList];exact h
theorem job_want (s:ByteArray) (v:Nat→Value) (a b:Value):∀ j u,(#[a,b]:Array Value).toList[j]?=some u→(jobC s v a b)[36+j]?=some u:=by
 intro j u h
 match j,h with
 | 0,h=>simp at h;subst h;rfl
 | 1,h=>simp at h;subst h;rfl
theorem job_put (s:ByteArray) (v v':Nat→Value) (a b:Value):putC (jobC s v a b) 1 (stC v' (fun _=>0) 0 0 0).toList=jobC s v' a b:=by kernel_rfl
theorem job_putW (s:ByteArray) (v:Nat→Value) (a b a' b':Value):putC (jobC s v a b) 36 (#[a',b']:Array Value).toList=jobC s v a' b':=by kernel_rfl
theorem JB.cell {C:Array Value} (h:JB w N C) (j:Nat):w.cell? ⟨N,j,none⟩=C[j]?:=by
 unfold JB at h
 simp[World.cell?,h]
theorem JB.there {C:Array Value} (h:JB w N C) (o n:Nat) (hn:o+n≤C.size):w.there N o n:=by
 intro j hj;refine ⟨?_,?_⟩
 · rw[h.cell,Array.getElem?_eq_getElem zac];rfl
 · unfold JB at h;simp[World.frozen?,h]
theorem job_one (s:ByteArray) (v:Nat→Value) (a b:Value) (h:∀ k,k<16→(v k).oneCell'=true) (ha:a.oneCell'=true) (hb:b.oneCell'=true):(jobC s v a b).all (·.oneCell')=true:=by
 have hi:(Value.int .i64 0).oneCell'=true:=rfl
 have hst:(Value.string s).oneCell'=true:=rfl
 rw[jobC_ext,Array.all_append,Array.all_append,stC_one v _ 0 0 0 h]
 simp[ha,hb,hi,hst]
theorem job_load {s:ByteArray} {v:Nat→Value} {a b:Value} (h:JB w N (jobC s v a b)):(loadVar 67 ⟨N,0,none⟩).run Tryz.prog w=.ok (.agg (jobC s v a b)) w :=
 run_loadVar_row (P:=Tryz.prog) w N 67 _ _ _ _ h Tryz.underlying67 rfl zaf
theorem RowF.one (h:RowF B l v W):v.oneCell'=true:=by
 obtain⟨p,c,rfl,-⟩:=h
 rfl
theorem JB.new {A:Obj} {C:Array Value}:JB ((w.alloc A).alloc (.cells C 67)) (w.heap.size+1) C:=by
 have:=heap_alloc_new (w.alloc A) (.cells C 67)
 rw[World.size_alloc] at this;exact this
def v00:Nat→Value:=fun _=>.slice none 0 0
theorem few21_any (s:ByteArray) (hs:s.size≤140737488351232) (a b:Value) (la lb:List ByteArray) (w:World) (ha:PatS w a la) (hb:PatS w b lb):Calls Tryz.prog 27 #[.agg (jobC s v00 a b)] w fun e w'=>∃ v a' b',e=.returned (.agg (jobC (cutS 1200 s) v a' b'))∧RowF w.heap.size (fewW la) a' w'∧RowF w.heap.size (fewW lb) b' w'∧Ext w w'∧∀ k,k<16→(v k).oneCell'=true:=by
 have FS:=Lib.hid (fun W=>few13_any (fun _=>0) v00 (fun _=>[]) (fun _=>0) 0 0 0 W (fun k hk=>⟨fun x hx=>by simp at hx,by simp,none,0,rfl,Nat.le_refl _,fun h=>by simp at h⟩));have WA:=Lib.hid (fun W (hx:Ext w W)=>wants_any a b la lb W (ha.ext hx) (hb.ext hx));clear ha hb
 have hsi:(s.size:Int)≤140737488351232:=by omega
 obtain⟨t,ht⟩:∃ t,cutS 1200 s=t:=⟨_,rfl⟩
 rw[ht];go_enter Tryz.func27,Tryz.ntmps27
 go_upto_region 1 with fail
 generalize hW0:World.alloc _ _=W0
 have J0:JB W0 w.heap.size (jobC s v00 a b):=by rw[←hW0];exact(heap_alloc_old _ _ zaj).trans (heap_alloc_new w _)
 obtain⟨C0,J1,hC0⟩:∃ C,JB W0 (w.heap.size+1) C∧C.size=39:=by
  rw[←hW0]
  exact⟨_,JB.new,rfl⟩
 have HX0:Ext w W0:=by rw[←hW0];exact((Ext.refl _).alloc _).alloc _
 have hs0:W0.heap.size=w.heap.size+2:=by rw[←hW0];simp
 clear hW0
 have c0:W0.cell? ⟨w.heap.size,0,none⟩=some (.string s):=J0.cell 0
 have f0:W0.frozen? ⟨w.heap.size,0,none⟩=false:=by unfold JB at J0;simp[World.frozen?,J0]
 have hlt0:w.heap.size<W0.heap.size:=by omega
 have HJ0:=Lib.hid J0;have HJ1:=Lib.hid J1;have HHX:=Lib.hid HX0;have HHS:=Lib.hid hs0;clear J0 J1 HX0 hs0
 go_upto_if 6 with fail
 go_cut [7] (fun s7 wx=>JB wx w.heap.size (jobC t v00 a b)∧∃ C,JB wx (w.heap.size+1) C∧C.size=39∧Ext w wx∧wx.heap.size=w.heap.size+2)
 case first =>
  by_cases hbig:(1200:Int)<s.size
  · have hI2:(1200:Int)≤s.size:=by omega
    have hcut:cutS 1200 s=s.extract 0 1200:=by unfold cutS;rw[if_pos zac]
    go_wp2_with fail
    go_meet
    rw[setCell_eq_setRow W0 w.heap.size 0 _ _ _ _ HJ0.out];rw[←ht,hcut]
    exact⟨HJ0.out.set,C0,HJ1.out.other (Nat.succ_ne_self _),hC0,HHX.out.setRow (Nat.le_refl _) _,by rw[size_setRow];exact HHS.out⟩
  · have hcut:cutS 1200 s=s:=by unfold cutS;rw[if_neg zac]
    go_wp2_with fail
    go_meet
    rw[←ht,hcut]
    exact⟨HJ0.out,C0,HJ1.out,hC0,HHX.out,HHS.out⟩
 case rest =>
  obtain⟨h0,C1,h1,hC1,hx,hs⟩:=hcut
  rename World=>W1
  have H0:=Lib.hid h0;have H1:=Lib.hid h1;have HX:=Lib.hid hx;have HS:=Lib.hid hs;clear h0 h1 hx hs HJ0 HJ1 HHX HHS c0 f0 hlt0
  go_wp2_with (first
   | (refine qaO rfl 65 _ rfl w.heap.size 1 rfl 67 (jobC t v00 a b) (stC v00 (fun _=>0) 0 0 0) (0,0) _ H0.out Tryz.underlying65 rfl zaf (job_st t v00 a b) ?_)
   | (go_at_call 50;refine (FS.out _).mono ?_;rintro e w2 ⟨bs2,v2,rfl,hl,hy,hx2⟩;have HL:=Lib.hid hl;have HX2:=Lib.hid (show Ext w w2∧w.heap.size+2≤w2.heap.size from⟨HX.out.trans hx2,by have:=hx2.size;have:=HS.out;omega⟩);have H2:=Lib.hid (H0.out.ext hx2);have H3:=Lib.hid (H1.out.ext hx2);clear hl hy hx2)
   | (refine qaQ rfl 65 _ _ rfl w.heap.size 1 (stC v2 (fun _=>0) 0 0 0) _ (jobC t v2 a b) _ _ rfl rfl H2.out (H2.out.there 1 35 (by rw[job_size];decide)) zaf (stC_one v2 _ 0 0 0 HL.out.one) (job_put t v00 v2 a b) ?_)
   | (refine qaO rfl 25 _ rfl w.heap.size 36 rfl 67 (jobC t v2 a b) #[a,b] (0,0) _ H2.out.set Tryz.underlying25 rfl zaf (job_want t v2 a b) ?_)
   | (go_at_call 51;refine (WA.out _ (HX2.out.1.setRow (Nat.le_refl _) _)).mono ?_;rintro e w3 ⟨a',b',rfl,ra,rb,hx3⟩;rw[size_setRow] at ra rb;have R:=Lib.hid (And.intro ra rb);have O:=Lib.hid (And.intro ra.one rb.one);have HX3:=Lib.hid ((HX2.out.1.setRow (Nat.le_refl _) _).trans hx3);have H4:=Lib.hid (JB.ext (JB.set (D:=jobC t v2 a b) H2.out) hx3);have H5:=Lib.hid (JB.ext (JB.other (D:=jobC t v2 a b) H3.out (Nat.succ_ne_self _)) hx3);clear ra rb hx3)
   | (refine qaQ rfl 25 _ _ rfl w.heap.size 36 #[a',b'] _ (jobC t v2 a' b') _ _ rfl rfl H4.out (H4.out.there 36 2 (by rw[job_size];decide)) zaf (by have:=O.out;simp[this.1,this.2]) (job_putW t v2 a b a' b') ?_)
   | (refine wpList_load_row rfl 67 _ rfl w.heap.size rfl 67 (jobC t v2 a' b') (0,0) _ H4.out.set Tryz.underlying67 rfl zaf ?_)
   | (refine wpList_store_rowTo rfl 67 _ _ rfl rfl (w.heap.size+1) (jobC t v2 a' b') rfl rfl 67 C1 (H5.out.other (Nat.succ_ne_self _)) zaf hC1 (job_one t v2 a' b' HL.out.one O.out.1 O.out.2) ?_))
  have hld:=job_load (JB.set (D:=jobC t v2 a' b') (JB.other (D:=jobC t v2 a' b') H5.out (Nat.succ_ne_self _)))
  have hmv:∀ k,w2.heap.size≤k→((w3.setRow w.heap.size (jobC t v2 a' b')).setRow (w.heap.size+1) (jobC t v2 a' b')).heap[k]?=w3.heap[k]?:=fun k hk=>by
   have:=HX2.out.2
   rw[setRow_other _ _ _ _ zac,setRow_other _ _ _ _ zac]
  exact bodyPost_ret (v:=.agg (jobC t v2 a' b')) (results_cellY (p:=2) (ty:=67) rfl _ _ ⟨w.heap.size+1,0,none⟩ _ rfl hld) rfl ⟨v2,a',b',rfl,R.out.1.move HX2.out.1.size hmv,R.out.2.move HX2.out.1.size hmv,(HX3.out.setRow (Nat.le_refl _) _).setRow (Nat.le_succ _) _,HL.out.one⟩
def TB (w:World) (N:Nat) (C:Array Value):Prop:=w.heap[N]?=some (.cells C 27 (0,0))
theorem TB.ext {w':World} {C:Array Value} (h:TB w N C) (hx:Ext w w'):TB w' N C:=by
 unfold TB at h ⊢;rw[hx.below.block N (qaY h)];exact h
theorem TB.set {C D:Array Value} (h:TB w N C):TB (w.setRow N D) N D:=by
 unfold TB at h ⊢;exact setRow_heap w N _ _ _ _ h
theorem TB.other {M:Nat} {C D:Array Value} (h:TB w N C) (hne:N≠M):TB (w.setRow M D) N C:=by
 unfold TB at h ⊢;rw[setRow_other _ _ _ _ hne];exact h
theorem TB.cell {C:Array Value} (h:TB w N C) (j:Nat):w.cell? ⟨N,j,none⟩=C[j]?:=by
 unfold TB at h
 simp[World.cell?,h]
theorem TB.there {C:Array Value} (h:TB w N C) (o n:Nat) (hn:o+n≤C.size):w.there N o n:=by
 intro j hj;refine ⟨?_,?_⟩
 · rw[h.cell,Array.getElem?_eq_getElem zac];rfl
 · unfold TB at h;simp[World.frozen?,h]
theorem TB.new {A:Obj} {C:Array Value}:TB ((w.alloc A).alloc (.cells C 27)) (w.heap.size+1) C:=by
 have:=heap_alloc_new (w.alloc A) (.cells C 27)
 rw[World.size_alloc] at this;exact this
theorem txn_load {C:Array Value} (h:TB w N C) (hC:C.size=6):(loadVar 27 ⟨N,0,none⟩).run Tryz.prog w=.ok (.agg C) w :=
 run_loadVar_row (P:=Tryz.prog) w N 27 _ _ _ _ h Tryz.underlying27 rfl (by rw[hC];kernel_rfl)
def txA (c t:Int) (a b:Value) (s:ByteArray) (g:Int):Array Value:=#[.int .i64 c,.int .i64 t,a,b,.string s,.int .i64 g]
theorem txA_want (c t:Int) (a b:Value) (s:ByteArray) (g:Int):∀ j u,(#[a,b]:Array Value).toList[j]?=some u→(txA c t a b s g)[2+j]?=some u:=by
 intro j u h
 match j,h with
 | 0,h=>simp at h;subst h;rfl
 | 1,h=>simp at h;subst h;rfl
theorem txA_put (c t:Int) (a b a' b':Value) (s:ByteArray) (g:Int):putC (txA c t a b s g) 2 (#[a',b']:Array Value).toList=txA c t a' b' s g:=by kernel_rfl
theorem txA_one (c t:Int) (a b:Value) (s:ByteArray) (g:Int) (ha:a.oneCell'=true) (hb:b.oneCell'=true):(txA c t a b s g).all (·.oneCell')=true:=by
 have hi:∀ x,(Value.int .i64 x).oneCell'=true:=fun _=>rfl
 have hst:(Value.string s).oneCell'=true:=rfl
 simp[txA,ha,hb,hi,hst]
theorem few22_any (c t g:Int) (s:ByteArray) (hs:s.size≤140737488351232) (a b:Value) (la lb:List ByteArray) (w:World) (ha:PatS w a la) (hb:PatS w b lb):Calls Tryz.prog 8 #[.agg (txA c t a b s g)] w fun e w'=>∃ a' b',e=.returned (.agg (txA c t a' b' (cutS 1200 s) g))∧RowF w.heap.size (fewW la) a' w'∧RowF w.heap.size (fewW lb) b' w'∧Ext w w':=by
 have oa:a.oneCell'=true:=by obtain⟨p,c,rfl,-⟩:=qaE ha.1;rfl
 have ob:b.oneCell'=true:=by obtain⟨p,c,rfl,-⟩:=qaE hb.1;rfl
 have FJ:=Lib.hid (fun W (hx:Ext w W)=>few21_any s hs a b la lb W (ha.ext hx) (hb.ext hx));have OA:=Lib.hid (And.intro oa ob);clear ha hb oa ob
 obtain⟨z,hz⟩:∃ z,cutS 1200 s=z:=⟨_,rfl⟩
 rw[hz] at FJ ⊢;clear hz;go_enter Tryz.func8,Tryz.ntmps8
 go_upto_region 1 with fail
 generalize hW0:World.alloc _ _=W0
 have J0:TB W0 w.heap.size (txA c t a b s g):=by rw[←hW0];exact(heap_alloc_old _ _ zaj).trans (heap_alloc_new w _)
 obtain⟨C0,J1,hC0⟩:∃ C,TB W0 (w.heap.size+1) C∧C.size=6:=by
  rw[←hW0]
  exact⟨_,TB.new,rfl⟩
 have HX0:Ext w W0:=by rw[←hW0];exact((Ext.refl _).alloc _).alloc _
 have hs0:W0.heap.size=w.heap.size+2:=by rw[←hW0];simp
 clear hW0
 have c4:W0.cell? ⟨w.heap.size,4,none⟩=some (.string s):=J0.cell 4
 have hlt0:w.heap.size<W0.heap.size:=by omega
 have HJ0:=Lib.hid J0;have HJ1:=Lib.hid J1;have HHX:=Lib.hid HX0;have HHS:=Lib.hid hs0;clear J0 J1 HX0 hs0
 go_upto_region 2 with (first
  | (refine qaO rfl 25 _ rfl w.heap.size 2 rfl 27 (txA c t a b s g) #[a,b] (0,0) _ HJ0.out Tryz.underlying25 rfl zaf (txA_want c t a b s g) ?_)
  | (refine wpList_buildTo rfl 67 _ rfl _ rfl (jobC s v00 a b) zaf ?_)
  | (go_at_call 27;refine (FJ.out _ HHX.out).mono ?_;rintro e w3 ⟨v3,a',b',rfl,ra,rb,hx3,hv3⟩;have V3:=Lib.hid hv3;have O:=Lib.hid (And.intro ra.one rb.one);have R:=Lib.hid (And.intro ra rb);have H2:=Lib.hid (HJ0.out.ext hx3);have H3:=Lib.hid (HJ1.out.ext hx3);have HX3:=Lib.hid (And.intro hx3 (HHX.out.trans hx3));clear ra rb hx3 hv3)
  | (refine wpList_store_rowTo rfl 67 _ _ rfl rfl w3.heap.size (jobC z v3 a' b') rfl rfl 67 _ (heap_alloc_new w3 _) zaf rfl (job_one z v3 a' b' V3.out O.out.1 O.out.2) ?_))
 generalize hW4:World.setRow _ _ _=W4
 have hsz:w.heap.size+2≤w3.heap.size:=by have:=HX3.out.1.size;have:=HHS.out;omega
 have J4:JB W4 w3.heap.size (jobC z v3 a' b'):=by rw[←hW4];exact JB.set (heap_alloc_new w3 _)
 have H4:TB W4 w.heap.size (txA c t a b s g):=by rw[←hW4];exact(H2.out.ext ((Ext.refl w3).alloc _)).other zac
 have G4:TB W4 (w.heap.size+1) C0:=by rw[←hW4];exact(H3.out.ext ((Ext.refl w3).alloc _)).other zac
 have X4:Ext w3 W4:=by rw[←hW4];exact((Ext.refl w3).alloc _).setRow (Nat.le_refl _) _
 clear hW4 c4 hlt0
 have d0:W4.cell? ⟨w3.heap.size,0,none⟩=some (.string z):=J4.cell 0
 have d4:W4.cell? ⟨w.heap.size,4,none⟩=some (.string s):=H4.cell 4
 have f4:W4.frozen? ⟨w.heap.size,4,none⟩=false:=by unfold TB at H4;simp[World.frozen?,H4]
 have l4:w.heap.size<W4.heap.size:=by have:=X4.size;omega
 have l5:w3.heap.size<W4.heap.size:=World.block_lt_of_cell? _ _ d0
 have K4:=Lib.hid (And.intro J4 (And.intro H4 (And.intro G4 X4)));have HSZ:=Lib.hid hsz;clear J4 H4 G4 X4 hsz
 go_upto_region 3 with fail
 rw[setCell_eq_setRow W4 w.heap.size 4 _ _ _ _ K4.out.2.1];generalize hW5:World.setRow _ _ _=W5
 have J5:JB W5 w3.heap.size (jobC z v3 a' b'):=by rw[←hW5];exact JB.other K4.out.1 (by have:=HSZ.out;omega)
 have H5:TB W5 w.heap.size (txA c t a b z g):=by rw[←hW5];exact TB.set K4.out.2.1
 have G5:TB W5 (w.heap.size+1) C0:=by rw[←hW5];exact TB.other K4.out.2.2.1 zac
 have X5:Ext w W5:=by rw[←hW5];exact(HX3.out.2.trans K4.out.2.2.2).setRow (Nat.le_refl _) _
 have R5:RowF (w.heap.size+2) (fewW la) a' W5∧RowF (w.heap.size+2) (fewW lb) b' W5:=by
  have h1:=RowF.upc _ _ _ _ _ K4.out.2.2.2 R.out.1;have h2:=RowF.upc _ _ _ _ _ K4.out.2.2.2 R.out.2;rw[HHS.out] at h1 h2;rw[←hW5]
  exact⟨h1.move (Nat.le_refl _) (fun k hk=>setRow_other _ _ _ _ zac),h2.move (Nat.le_refl _) (fun k hk=>setRow_other _ _ _ _ zac)⟩
 clear hW5 d0 d4 f4 l4 l5;have K5:=Lib.hid (And.intro J5 (And.intro H5 (And.intro G5 (And.intro X5 R5))));clear J5 H5 G5 X5 R5
 go_wp2_with (first
  | (refine qaO rfl 25 _ rfl w3.heap.size 36 rfl 67 (jobC z v3 a' b') #[a',b'] (0,0) _ K5.out.1 Tryz.underlying25 rfl zaf (job_want z v3 a' b') ?_)
  | (refine qaQ rfl 25 _ _ rfl w.heap.size 2 #[a',b'] _ (txA c t a' b' z g) _ _ rfl rfl K5.out.2.1 (K5.out.2.1.there 2 2 (by simp[txA])) zaf (by have:=O.out;simp[this.1,this.2]) (txA_put c t a b a' b' z g) ?_)
  | (refine wpList_load_row rfl 27 _ rfl w.heap.size rfl 27 (txA c t a' b' z g) (0,0) _ K5.out.2.1.set Tryz.underlying27 rfl zaf ?_)
  | (refine wpList_store_rowTo rfl 27 _ _ rfl rfl (w.heap.size+1) (txA c t a' b' z g) rfl rfl 27 C0 (K5.out.2.2.1.other (Nat.succ_ne_self _)) zaf hC0 (txA_one c t a' b' z g O.out.1 O.out.2) ?_))
 have hld:=txn_load (TB.set (D:=txA c t a' b' z g) (TB.other (D:=txA c t a' b' z g) K5.out.2.2.1 (Nat.succ_ne_self _))) rfl
 have hmv:∀ k,w.heap.size+2≤k→((W5.setRow w.heap.size (txA c t a' b' z g)).setRow (w.heap.size+1) (txA c t a' b' z g)).heap[k]?=W5.heap[k]?:=fun k hk=>by
  rw[setRow_other _ _ _ _ zac,setRow_other _ _ _ _ zac]
 exact bodyPost_ret (v:=.agg (txA c t a' b' z g)) (results_cellY (p:=2) (ty:=27) rfl _ _ ⟨w.heap.size+1,0,none⟩ _ rfl hld) rfl ⟨a',b',rfl,K5.out.2.2.2.2.1.move zac hmv,K5.out.2.2.2.2.2.move zac hmv,(K5.out.2.2.2.1.setRow (Nat.le_refl _) _).setRow (Nat.le_succ _) _⟩
def fewT (x:Tx) (a b:Value):Tx:={ x with rv:=a,wv:=b,src:=cutS 1200 x.src,rd:=fewW x.rd,wr:=fewW x.wr }
theorem fewT_sm (x:Tx) (a b:Value):TxSm (fewT x a b) :=
 ⟨fun s hs=>Nat.le_trans (fewW_sz _ s hs) zak,Nat.le_trans (qgu _) zak,fun s hs=>Nat.le_trans (fewW_sz _ s hs) zak,Nat.le_trans (qgu _) zak⟩
theorem RowF.strs (h:RowF B l v W):StrsAt W v l:=by
 obtain⟨p,c,rfl,h⟩:=h
 rcases h.2 with ⟨h1,h0⟩ | ⟨g,cap,cur,h1,hb,hg,h2,h3,h4,h5⟩
 · exact .inl ⟨none,0,by rw[h1],List.length_eq_zero_iff.1 h0⟩
 · refine .inr ⟨g,0,cap,by rw[h1],h2,fun j u hj=>?_⟩
   have hf:(l.map Value.string)[j]?=some (.string u):=by rw[List.getElem?_map,hj];rfl
   rw[←h5,List.getElem?_take] at hf
   split at hf
   · simpa [World.cell?,hg] using hf
   · cases hf
theorem RowF.pats (h:RowF B (fewW l) v W):PatS W v (fewW l) :=
 ⟨h.strs,fun s hs=>Nat.le_trans (fewW_sz _ s hs) zak,Nat.le_trans (qgu _) zak⟩
theorem fewtx_any (x:Tx) (w:World) (h:TxAt w x):Calls Tryz.prog 8 #[txV x] w fun e w'=>∃ a b,e=.returned (txV (fewT x a b))∧RowF w.heap.size (fewW x.rd) a w'∧RowF w.heap.size (fewW x.wr) b w'∧TxAt w' (fewT x a b)∧Ext w w' :=
 (few22_any x.c x.t x.gas x.src h.2.2.1 x.rv x.wv x.rd x.wr w h.1 h.2.1).mono fun e w' ⟨a,b,h1,h2,h3,h4⟩ =>
  ⟨a,b,h1,h2,h3,⟨h2.pats,h3.pats,Nat.le_trans (qeM _ _) zak,h.2.2.2⟩,h4⟩
theorem of27_any (t:Int) (w:World):Calls Tryz.prog 36 #[.int .i64 t] w fun e w'=>e=.returned (txV ⟨3,t,.slice none 0 0,.slice none 0 0,⟨#[]⟩,0,[],[]⟩)∧Ext w w':=by
 unfold txV;dsimp only;go_enter Tryz.func36,Tryz.ntmps36;go_wp2_with fail;exact bodyPost_ret (v:=.agg (txA 3 t (.slice none 0 0) (.slice none 0 0) ⟨#[]⟩ 0)) (results_cellY (p:=2) (ty:=27) rfl _ _ ⟨w.heap.size,0,none⟩ _ rfl (txn_load (heap_alloc_new w _) rfl)) rfl ⟨rfl,zaa⟩
end Go.Proofs.YtpnabjopfpdkhaaGreatDoor
