/- Lemmas. -/
import Derived.Test.YtpnabjopfpdkhaaGreatDoorA43
import Derived.Test.YtpnabjopfpdkhaaGreatDoorA44
import Derived.Deep.DeepCutAuto
set_option linter.unusedSimpArgs false
set_option linter.unusedVariables false
set_option maxHeartbeats 4000000
set_option maxRecDepth 20000
namespace Go.Proofs.YtpnabjopfpdkhaaGreatDoor
open Go.RowKit
attribute [go_sem] more_more Array.size_append
theorem qcR {k:Nat} {cs:Array Value} {T:TypeId} {w:World} (h:KB k cs T w):∀ j u,cs.toList[j]?=some u→w.cell? ((⟨k,0,none⟩:Addr).add j)=some u:=fun j u hu=>by
 rw[Addr.add_lit,Nat.zero_add];exact h.cell j u (by simpa using hu)
def AddPost (B:Nat) (w:World) (r:Except Int (List Tx)) (e:Ending) (w':World):Prop:=match r with
 | .error c=>e=.returned (.tuple #[.slice none 0 0,.int .i64 c])∧Ext w w'
 | .ok x=>∃ v',e=.returned (.tuple #[v',.int .i64 0])∧TxRow B w' v' x∧Ext w w'
theorem qee (v:Value) (q:List Tx) (t:Tx) (dv:Value) (d:List La) (B:Nat) (w:World) (hS:SignsAt B w) (hB:B≤w.heap.size) (h:TxIn w v q) (hl:q.length≤100000) (ht:TxAt w t) (hd:LaAt w dv d) (hdl:d.length≤100000) :
  Calls Tryz.prog 10 #[v,txV t,dv] w (AddPost w.heap.size w (addQ q t d)):=by
 have CK:=Lib.hid (fun W (hx:Ext w W)=>qdu v q B W (hS.ext hx hB) (Nat.le_trans hB hx.size) (h.ext hx) hl);have WR:=Lib.hid (fun W (hx:Ext w W)=>qfl t B W (hS.ext hx hB) (Nat.le_trans hB hx.size) (ht.ext hx));have TB:=Lib.hid (fun W (hx:Ext w W)=>qfz dv d W (hd.ext hx) hdl);have AK:=Lib.hid (fun W (hx:Ext w W)=>ask_any dv d t.c t.t W (hd.ext hx) hdl);have CL:=Lib.hid (fun W (hx:Ext w W)=>qfo v q W (h.ext hx) hl);have OF:=Lib.hid (fun W (hx:Ext w W)=>bof_any v q t.c W (h.ext hx) hl);have HTT:=Lib.hid (fun (W:World) (hW:∀ k,k<w.heap.size→W.heap[k]?=w.heap[k]?)=>ht.blocks hW);have HIN:=Lib.hid h
 obtain⟨p1,m1,k1,p2,m2,k2,e1,e2⟩:=qbK ht
 obtain⟨vp,vc,hv⟩:∃ p c,v=.slice p q.length c:=⟨_,_,h.2.choose_spec.choose_spec.1⟩
 obtain⟨dp,dc,hdv⟩:∃ p c,dv=.slice p d.length c:=⟨_,_,hd.1.choose_spec.choose_spec.1⟩
 have HA:addQ q t d=if qaT q=false∨okT t=false∨isL d=false then .error 1
  else if askE d t.c t.t≠6 then .error 18
  else match ofQ q t.c with
   | none=>if q.length=64 then .error 5 else .ok (q++[t])
   | some i=>match q[i]? with
    | none=>.error 1
    | some x=>if x.t=t.t then .error 16 else if t.t<x.t then .error 18 else .ok (q.set i t):=rfl
 clear h ht hd hS hB;have TL:=Lib.hid (show ∀ l':List Tx,txC (l'++[t])=txC l'++txL t from fun l'=>by rw[qfH];simp[txC])
 obtain⟨tc,htc⟩:∃ x,t.c=x:=⟨_,rfl⟩
 obtain⟨tt,htt⟩:∃ x,t.t=x:=⟨_,rfl⟩
 obtain⟨ts,hts⟩:∃ x,t.src=x:=⟨_,rfl⟩
 obtain⟨tg,htg⟩:∃ x,t.gas=x:=⟨_,rfl⟩
 have hV:txV t=.agg #[.int .i64 tc,.int .i64 tt,.slice p1 m1 k1,.slice p2 m2 k2,.string ts,.int .i64 tg]:=by unfold txV;rw[htc,htt,hts,htg,e1,e2]
 have hVL:txL t=[.int .i64 tc,.int .i64 tt,.slice p1 m1 k1,.slice p2 m2 k2,.string ts,.int .i64 tg]:=by unfold txL;rw[htc,htt,hts,htg,e1,e2]
 rw[hV] at WR ⊢;rw[htc,htt] at AK HA;rw[htc] at OF;have HVL:=Lib.hid hVL;have HTC:=Lib.hid (show t.c=tc∧t.t=tt from⟨htc,htt⟩);clear hV hVL htc htt hts htg e1 e2
 cases hq:qaT q
 · rw[HA,hq,if_pos (Or.inl rfl)]
   rw[hq] at CK;clear HA hq HTT HIN;subst hv hdv;go_enter Tryz.func10,Tryz.ntmps10
   go_wp2_with (first
   | (go_at_call 12;(with_reducible refine (CK.out _ zaa).mono ?_);rintro e' _ ⟨rfl,d1,os1,rfl⟩)
   | (go_at_call 28;(with_reducible refine (WR.out _ zaa).mono ?_);rintro e' _ ⟨rfl,d2,os2,rfl⟩)
   | (go_at_call 29;(with_reducible refine (TB.out _ zaa).mono ?_);rintro e' _ ⟨rfl,d3,os3,rfl⟩)
   | (go_at_call 30;(with_reducible refine (AK.out _ zaa).mono ?_);rintro e' _ ⟨rfl,d4,os4,rfl⟩))
   go_ret2
   exact⟨rfl,zaa⟩
 rw[hq] at CK
 cases ho:okT t
 · rw[HA,ho,if_pos (Or.inr (Or.inl rfl))]
   rw[ho] at WR;clear HA hq HTT HIN ho;subst hv hdv;go_enter Tryz.func10,Tryz.ntmps10
   go_wp2_with (first
   | (go_at_call 12;(with_reducible refine (CK.out _ zaa).mono ?_);rintro e' _ ⟨rfl,d1,os1,rfl⟩)
   | (go_at_call 28;(with_reducible refine (WR.out _ zaa).mono ?_);rintro e' _ ⟨rfl,d2,os2,rfl⟩)
   | (go_at_call 29;(with_reducible refine (TB.out _ zaa).mono ?_);rintro e' _ ⟨rfl,d3,os3,rfl⟩)
   | (go_at_call 30;(with_reducible refine (AK.out _ zaa).mono ?_);rintro e' _ ⟨rfl,d4,os4,rfl⟩))
   go_ret2
   exact⟨rfl,zaa⟩
 rw[ho] at WR
 cases hi:isL d
 · rw[HA,hi,if_pos (Or.inr (Or.inr rfl))]
   rw[hi] at TB;clear HA hq HTT HIN ho hi;subst hv hdv;go_enter Tryz.func10,Tryz.ntmps10
   go_wp2_with (first
   | (go_at_call 12;(with_reducible refine (CK.out _ zaa).mono ?_);rintro e' _ ⟨rfl,d1,os1,rfl⟩)
   | (go_at_call 28;(with_reducible refine (WR.out _ zaa).mono ?_);rintro e' _ ⟨rfl,d2,os2,rfl⟩)
   | (go_at_call 29;(with_reducible refine (TB.out _ zaa).mono ?_);rintro e' _ ⟨rfl,d3,os3,rfl⟩)
   | (go_at_call 30;(with_reducible refine (AK.out _ zaa).mono ?_);rintro e' _ ⟨rfl,d4,os4,rfl⟩))
   go_ret2
   exact⟨rfl,zaa⟩
 rw[hi] at TB;rw[hq,ho,hi,if_neg zaj] at HA;clear hq ho hi
 obtain⟨ra,hra⟩:∃ r,askR d tc tt=r:=⟨_,rfl⟩
 obtain⟨ae,hae⟩:∃ r,askE d tc tt=r:=⟨_,rfl⟩
 rw[hra,hae] at AK;rw[hae] at HA
 obtain⟨xc,xt,xe,xk,xi,xs,xv⟩:=ra
 by_cases h6:ae=6
 rotate_left
 · rw[HA,if_pos h6]
   have h6b:(ae !=6)=true:=by simpa using h6
   clear HA HTT HIN h6 hae hra;subst hv hdv;unfold rsC at AK;go_enter Tryz.func10,Tryz.ntmps10
   go_wp2_with (first
   | (go_at_call 12;(with_reducible refine (CK.out _ zaa).mono ?_);rintro e' _ ⟨rfl,d1,os1,rfl⟩)
   | (go_at_call 28;(with_reducible refine (WR.out _ zaa).mono ?_);rintro e' _ ⟨rfl,d2,os2,rfl⟩)
   | (go_at_call 29;(with_reducible refine (TB.out _ zaa).mono ?_);rintro e' _ ⟨rfl,d3,os3,rfl⟩)
   | (go_at_call 30;(with_reducible refine (AK.out _ zaa).mono ?_);rintro e' _ ⟨rfl,d4,os4,rfl⟩))
   go_ret2
   exact⟨rfl,zaa⟩
 subst h6;rw[if_neg zaj] at HA;rw[HA];clear HA hae hra;unfold rsC at AK;have HST:=Lib.hid (fun x (hm:x∈q) (W:World) (hW:∀ k,k<w.heap.size→W.heap[k]?=w.heap[k]?)=>(HIN.out.1 x hm).blocks hW)
 obtain⟨i0,hi,hz0,hz1,hz2⟩:=info_parts txInfo
 obtain⟨n,hn⟩:∃ n,q.length=n:=⟨_,rfl⟩
 have HN:=Lib.hid hn
 have hln:(n:Int)≤100000:=by omega
 rw[hn] at hv;subst hv hdv
 cases ho:ofQ q tc with
 | none =>
  dsimp only
  have e1:idxI (fun x=>x.c==tc) q=-1:=by unfold idxI;unfold ofQ at ho;rw[ho]
  rw[e1] at OF;clear ho e1
  by_cases h64:n=64
  · rw[if_pos zac]
    subst h64;clear hn hl;go_enter Tryz.func10,Tryz.ntmps10
    go_wp2_with (first
     | (go_at_call 12;(with_reducible refine (CK.out _ zaa).mono ?_);rintro e' _ ⟨rfl,d1,os1,rfl⟩)
     | (go_at_call 28;(with_reducible refine (WR.out _ zaa).mono ?_);rintro e' _ ⟨rfl,d2,os2,rfl⟩)
     | (go_at_call 29;(with_reducible refine (TB.out _ zaa).mono ?_);rintro e' _ ⟨rfl,d3,os3,rfl⟩)
     | (go_at_call 30;(with_reducible refine (AK.out _ zaa).mono ?_);rintro e' _ ⟨rfl,d4,os4,rfl⟩)
     | (go_at_call 31;(with_reducible refine (CL.out _ zaa).mono ?_);rintro e' _ ⟨cv,rfl,hcr,d5,os5,rfl⟩;have HCR:=Lib.hid (hcr.2.2.mono (base':=w.heap.size) (Ext.size zaa));clear hcr;obtain⟨cp,cc,hcv⟩:=qae HCR.out;subst hcv)
     | (go_at_call 32;(with_reducible refine (OF.out _ zaa).mono ?_);rintro e' w6 ⟨rfl,hx6⟩;have H6:=Lib.hid (show Ext w w6∧KB w.heap.size #[.int .i64 tc,.int .i64 tt,.slice p1 m1 k1,.slice p2 m2 k2,.string ts,.int .i64 tg] 27 w6∧w6.ownsRow w.heap.size 27 6 (.slice cp q.length cc) q.length (txC q) from⟨Ext.trans zaa hx6,((KB.new w _ _).of_ext zaa).of_ext hx6,own_ext (own_ext HCR.out zaa) hx6⟩);clear hx6))
    go_ret2
    exact⟨rfl,H6.out.1⟩
  · rw[if_neg zac]
    have h64b:((n:Int)==64)=false:=by simp;omega
    clear hn hl h64;go_enter Tryz.func10,Tryz.ntmps10
    go_upto_region 11 with (first
     | (go_at_call 12;(with_reducible refine (CK.out _ zaa).mono ?_);rintro e' _ ⟨rfl,d1,os1,rfl⟩)
     | (go_at_call 28;(with_reducible refine (WR.out _ zaa).mono ?_);rintro e' _ ⟨rfl,d2,os2,rfl⟩)
     | (go_at_call 29;(with_reducible refine (TB.out _ zaa).mono ?_);rintro e' _ ⟨rfl,d3,os3,rfl⟩)
     | (go_at_call 30;(with_reducible refine (AK.out _ zaa).mono ?_);rintro e' _ ⟨rfl,d4,os4,rfl⟩)
     | (go_at_call 31;(with_reducible refine (CL.out _ zaa).mono ?_);rintro e' _ ⟨cv,rfl,hcr,d5,os5,rfl⟩;have HCR:=Lib.hid (hcr.2.2.mono (base':=w.heap.size) (Ext.size zaa));clear hcr;obtain⟨cp,cc,hcv⟩:=qae HCR.out;subst hcv)
     | (go_at_call 32;(with_reducible refine (OF.out _ zaa).mono ?_);rintro e' w6 ⟨rfl,hx6⟩;have H6:=Lib.hid (show Ext w w6∧KB w.heap.size #[.int .i64 tc,.int .i64 tt,.slice p1 m1 k1,.slice p2 m2 k2,.string ts,.int .i64 tg] 27 w6∧w6.ownsRow w.heap.size 27 6 (.slice cp q.length cc) q.length (txC q) from⟨Ext.trans zaa hx6,((KB.new w _ _).of_ext zaa).of_ext hx6,own_ext (own_ext HCR.out zaa) hx6⟩);clear hx6))
    have n0:=H6.out.2.1.cell 0 _ rfl;have n1:=H6.out.2.1.cell 1 _ rfl;have n2:=H6.out.2.1.cell 2 _ rfl;have n3:=H6.out.2.1.cell 3 _ rfl;have n4:=H6.out.2.1.cell 4 _ rfl;have n5:=H6.out.2.1.cell 5 _ rfl;have nl:=H6.out.2.1.lt;rw[HN.out] at H6 ⊢
    go_wp2_with (at_builtin;refine wpList_append_own_at _ rfl _ _ 22 rfl w.heap.size 27 i0 (.agg #[.int .i64 0,.int .i64 0,.slice none 0 0,.slice none 0 0,.string ⟨#[]⟩,.int .i64 0]) 6 88 Tryz.underlying22 hi hz0 hz1 hz2 rfl zak (.slice cp n cc) n (txC q) rfl ?c0 ⟨_,0,none⟩ 1 1 [.int .i64 tc,.int .i64 tt,.slice p1 m1 k1,.slice p2 m2 k2,.string ts,.int .i64 tg] rfl rfl ?c1 ?c2 ?c3 ?c4 ?c5 ?_)
    case c0=>exact own_ext H6.out.2.2 zaa
    case c1=>exact qcR (KB.new w6 _ _)
    case c2=>intro u hu;simp at hu;rcases hu with rfl | rfl | rfl | rfl | rfl | rfl<;>rfl
    case c3=>unfold maxLen;omega
    case c4=>omega
    case c5=>simp;have:=H6.out.1.size;omega
    intro v' w7 hown hgrow _ _;go_wp2_with fail;go_ret2
    have HX7:Ext w w7:=Ext.grown (Ext.trans H6.out.1 zaa) hgrow (fun k hk=>by have:=H6.out.2.2.lt k (by rw[←hk]);omega)
    refine ⟨v',rfl,⟨fun x hm W hW=>?_,HX7.size,?_⟩,HX7⟩
    · rcases List.mem_append.1 hm with hm | hm
      · exact HST.out x hm W (fun k hk=>(hW k hk).trans (HX7.below.block k hk))
      · simp at hm;subst hm;exact HTT.out W (fun k hk=>(hW k hk).trans (HX7.below.block k hk))
    · rw[TL.out,HVL.out,List.length_append,HN.out]
      exact hown
 | some i =>
  obtain⟨x,hx,hxc,-⟩:=qfS ho
  have e1:idxI (fun x=>x.c==tc) q=(i:Int):=by unfold idxI;unfold ofQ at ho;rw[ho]
  rw[e1] at OF;dsimp only;rw[hx];dsimp only;have hil:=(List.getElem?_eq_some_iff.1 hx).1;rw[hn] at hil
  have hi0:(0:Int)≤(i:Int):=by omega
  have hin:(i:Int)<(n:Int):=by omega
  obtain⟨vp2,vc2,hv2,-,-,hr⟩:=HIN.out.2
  simp only[Value.slice.injEq] at hv2
  obtain⟨rfl,-,rfl⟩:=hv2
  obtain⟨b,off,rfl,hc⟩:=hr i x hx
  have c1w:=hc 1 _ rfl
  obtain⟨xt2,hxt⟩:∃ z,x.t=z:=⟨_,rfl⟩
  rw[hxt] at c1w ⊢;have HX:=Lib.hid hx;have C1W:=Lib.hid c1w
  have hcm:(-1:Int)<(i:Int):=by omega
  clear hr hc hx hxc ho e1 hxt c1w hn hl;go_enter Tryz.func10,Tryz.ntmps10
  go_upto_region 12 with (first
   | (go_at_call 12;(with_reducible refine (CK.out _ zaa).mono ?_);rintro e' _ ⟨rfl,d1,os1,rfl⟩)
   | (go_at_call 28;(with_reducible refine (WR.out _ zaa).mono ?_);rintro e' _ ⟨rfl,d2,os2,rfl⟩)
   | (go_at_call 29;(with_reducible refine (TB.out _ zaa).mono ?_);rintro e' _ ⟨rfl,d3,os3,rfl⟩)
   | (go_at_call 30;(with_reducible refine (AK.out _ zaa).mono ?_);rintro e' _ ⟨rfl,d4,os4,rfl⟩)
   | (go_at_call 31;(with_reducible refine (CL.out _ zaa).mono ?_);rintro e' _ ⟨cv,rfl,hcr,d5,os5,rfl⟩;have HCR:=Lib.hid (hcr.2.2.mono (base':=w.heap.size) (Ext.size zaa));clear hcr;obtain⟨cp,cc,hcv⟩:=qae HCR.out;subst hcv)
   | (go_at_call 32;(with_reducible refine (OF.out _ zaa).mono ?_);rintro e' w6 ⟨rfl,hx6⟩;have H6:=Lib.hid (show Ext w w6∧KB w.heap.size #[.int .i64 tc,.int .i64 tt,.slice p1 m1 k1,.slice p2 m2 k2,.string ts,.int .i64 tg] 27 w6∧w6.ownsRow w.heap.size 27 6 (.slice cp q.length cc) q.length (txC q) from⟨Ext.trans zaa hx6,((KB.new w _ _).of_ext zaa).of_ext hx6,own_ext (own_ext HCR.out zaa) hx6⟩);clear hx6))
  have n0:=H6.out.2.1.cell 0 _ rfl;have n1:=H6.out.2.1.cell 1 _ rfl;have n2:=H6.out.2.1.cell 2 _ rfl;have n3:=H6.out.2.1.cell 3 _ rfl;have n4:=H6.out.2.1.cell 4 _ rfl;have n5:=H6.out.2.1.cell 5 _ rfl;have nl:=H6.out.2.1.lt;have c1:=qad C1W.out H6.out.1;have hb:=World.block_lt_of_cell? _ _ c1;rw[HN.out] at H6 ⊢
  by_cases h1:xt2=tt
  · rw[if_pos h1]
    subst h1;refine qaa 7 79 (List.replicate 7 false) zaf zaf rfl ?_;refine yac ?_
    repeat(refine Lex.step rfl ?_;intro K hK;unfold StepG;go_simp;refine hK _ ?_;clear hK K)
    refine yaa ?_;intro dd oo;go_wp2_with fail
    try rw[ends_normal]
    try go_wp2_with fail
    go_ret2
    exact⟨rfl,Ext.trans H6.out.1 zaa⟩
  rw[if_neg h1]
  by_cases h2:tt<xt2
  · rw[if_pos h2]
    refine qaa 7 79 (List.replicate 7 false) zaf zaf rfl ?_;refine yac ?_
    repeat(refine Lex.step rfl ?_;intro K hK;unfold StepG;go_simp;refine hK _ ?_;clear hK K)
    refine yaa ?_;intro dd oo;go_wp2_with fail
    try rw[ends_normal]
    try go_wp2_with fail
    all_goals try(exfalso;omega)
    refine qaa 7 79 (List.replicate 7 false) zaf zaf rfl ?_;refine yac ?_
    repeat(refine Lex.step rfl ?_;intro K hK;unfold StepG;go_simp;refine hK _ ?_;clear hK K)
    refine yaa ?_;intro dd oo;go_wp2_with fail
    try rw[ends_normal]
    try go_wp2_with fail
    all_goals try(exfalso;omega)
    go_ret2
    exact⟨rfl,Ext.trans H6.out.1 zaa⟩
  rw[if_neg h2]
  obtain⟨cg,rfl⟩:∃ cg,cp=some ⟨cg,0,none⟩:=by
   rcases Go.Joins.ownsRow_forms H6.out.2.2 with ⟨_,h0⟩ | ⟨g1,c1,h0⟩
   · omega
   · simp only[Value.slice.injEq] at h0;exact⟨g1,h0.1⟩
  have how:=H6.out.2.2
  have cm:∀ k,k<6→∃ u,w6.cell? ⟨cg,i*6+k,none⟩=some u:=fun k hk=>by
   refine ⟨_,(how.cellAt _ zac).trans (List.getElem?_eq_getElem ?_)⟩;rw[txC_len,HN.out];omega
  obtain⟨y0,mm0⟩:=cm 0 zac
  obtain⟨y1,mm1⟩:=cm 1 zac
  obtain⟨y2,mm2⟩:=cm 2 zac
  obtain⟨y3,mm3⟩:=cm 3 zac
  obtain⟨y4,mm4⟩:=cm 4 zac
  obtain⟨y5,mm5⟩:=cm 5 zac
  have f0:=how.frozenAt (i*6);have f1:=how.frozenAt (i*6+1);have f2:=how.frozenAt (i*6+2);have f3:=how.frozenAt (i*6+3);have f4:=how.frozenAt (i*6+4);have f5:=how.frozenAt (i*6+5);simp only[Nat.add_zero] at mm0;have hcl:=(how.lt cg rfl).2;have HIL:=Lib.hid hil;clear how cm hil;refine qaa 7 79 (List.replicate 7 false) zaf zaf rfl ?_;refine yac ?_
  repeat(refine Lex.step rfl ?_;intro K hK;unfold StepG;go_simp;refine hK _ ?_;clear hK K)
  refine yaa ?_;intro dd oo;go_wp2_with fail
  try rw[ends_normal]
  try go_wp2_with fail
  all_goals try(exfalso;omega)
  refine qaa 7 79 (List.replicate 7 false) zaf zaf rfl ?_;refine yac ?_
  repeat(refine Lex.step rfl ?_;intro K hK;unfold StepG;go_simp;refine hK _ ?_;clear hK K)
  refine yaa ?_;intro dd oo;go_wp2_with fail
  try rw[ends_normal]
  try go_wp2_with fail
  all_goals try(exfalso;omega)
  have hf:=HVL.out;unfold txL at hf;simp only[List.cons.injEq,and_true] at hf
  obtain⟨g0,g1,g2,g3,g4,g5⟩:=hf
  have O1:=H6.out.2.2.stored (i*6) (.int .i64 tc);have O2:=O1.1.stored (i*6+1) (.int .i64 tt);have O3:=O2.1.stored (i*6+2) (.slice p1 m1 k1);have O4:=O3.1.stored (i*6+3) (.slice p2 m2 k2);have O5:=O4.1.stored (i*6+4) (.string ts);have O6:=O5.1.stored (i*6+5) (.int .i64 tg);have OG:=qak (qak (qak (qak (qak O1.2 O2.2) O3.2) O4.2) O5.2) O6.2;have TS:=txC_set q i t (by rw[HN.out];exact HIL.out);rw[g0,g1,g2,g3,g4,g5] at TS;have OW:=O6.1;rw[TS] at OW
  obtain⟨W6,hW6⟩:∃ W6,((((((w6.setCell ⟨cg,i*6,none⟩ (.int .i64 tc)).setCell ⟨cg,i*6+1,none⟩ (.int .i64 tt)).setCell ⟨cg,i*6+2,none⟩ (.slice p1 m1 k1)).setCell ⟨cg,i*6+3,none⟩ (.slice p2 m2 k2)).setCell ⟨cg,i*6+4,none⟩ (.string ts)).setCell ⟨cg,i*6+5,none⟩ (.int .i64 tg))=W6:=⟨_,rfl⟩
  rw[hW6] at OW OG ⊢;clear O1 O2 O3 O4 O5 O6 TS;go_ret2;have HXW:=Ext.grown H6.out.1 OG (fun k hk=>by have:=H6.out.2.2.lt k (by rw[←hk];rfl);omega);refine ⟨_,rfl,⟨fun y hm W hW=>?_,(Ext.more HXW _ _).size,?_⟩,Ext.more HXW _ _⟩
  · rcases List.mem_or_eq_of_mem_set hm with hm | rfl
    · exact HST.out y hm W (fun k hk=>(hW k hk).trans ((Ext.more HXW _ _).below.block k hk))
    · exact HTT.out W (fun k hk=>(hW k hk).trans ((Ext.more HXW _ _).below.block k hk))
  · rw[List.length_set,HN.out]
    exact own_ext OW zaa
theorem LaAt.blocks {w W:World} {v:Value} {l:List La} (h:LaAt w v l) (hW:∀ k,k<w.heap.size→W.heap[k]?=w.heap[k]?):LaAt W v l:=by
 refine ⟨?_,h.2⟩
 obtain⟨p,cap,h2,h3,h4,h5⟩:=h.1
 refine ⟨p,cap,h2,h3,h4,fun j x hj=>?_⟩
 obtain⟨b,off,e,hc⟩:=h5 j x hj
 exact⟨b,off,e,fun i u hi=>(World.cell?_of_block (hW b (World.block_lt_of_cell? _ _ (hc i u hi)))).trans (hc i u hi)⟩
theorem TxRow.low {w W:World} {v v':Value} {q r:List Tx} {B:Nat} (h:TxIn w v q) (hr:TxRow B W v' r) (hs:∀ x∈r,x∈q) (hx:Ext w W) (hb:w.heap.size≤B):TxRow w.heap.size W v' r :=
 ⟨fun x hm W' hW=>(h.1 x (hs x hm)).blocks (fun k hk=>(hW k hk).trans (hx.below.block k hk)),hx.size,hr.2.2.mono (base':=w.heap.size) hb⟩
theorem entersDr (args:Array Value) (w:World):(callFunc 40 args).run Tryz.prog w=.ok (.enter 40 args) w:=by kernel_rfl
theorem drop1_any (x:Tx) (dp:Option Addr) (dc:Nat) (d:List La) (b:Nat) (w:World) (hd:LaAt w (.slice dp d.length dc) d) (hdl:d.length≤100000) (hc:w.cell? ⟨b,0,none⟩=some (.slice dp d.length dc)):Calls Tryz.prog 40 (#[txV x]++#[.pointer (some ⟨b,0,none⟩)]) w fun e w'=>e=.returned (.bool (askE d x.c x.t !=6))∧Ext w w':=by
 obtain⟨xc,xt,xrv,xwv,xs,xg,xrd,xwr⟩:=x
 have hb:=World.block_lt_of_cell? _ _ hc;have AK:=Lib.hid (fun W (hx:Ext w W)=>ask_any _ d xc xt W (hd.ext hx) hdl)
 obtain⟨ra,hra⟩:∃ r,askR d xc xt=r:=⟨_,rfl⟩
 obtain⟨ae,hae⟩:∃ r,askE d xc xt=r:=⟨_,rfl⟩
 obtain⟨n,hn⟩:∃ n,d.length=n:=⟨_,rfl⟩
 rw[hra,hae,hn] at AK;rw[hn] at hc
 show Calls Tryz.prog 40 #[.agg #[.int .i64 xc,.int .i64 xt,xrv,xwv,.string xs,.int .i64 xg],.pointer (some ⟨b,0,none⟩)] w fun e w'=>e=.returned (.bool (askE d xc xt !=6))∧Ext w w'
 rw[hae]
 obtain⟨yc,yt,ye,yk,yi,ys,yv⟩:=ra
 unfold rsC at AK;clear hra hae hn hd hdl;go_enter Tryz.func40,Tryz.ntmps40
 go_wp2_with ((go_at_call 30;(with_reducible refine (AK.out _ zaa).mono ?_);rintro e' _ ⟨rfl,d4,os4,rfl⟩))
 go_ret
 exact⟨rfl,zaa⟩
theorem bdrop_any (v:Value) (q:List Tx) (dv:Value) (d:List La) (B:Nat) (w:World) (hS:SignsAt B w) (hB:B≤w.heap.size) (h:TxIn w v q) (hl:q.length≤100000) (hd:LaAt w dv d) (hdl:d.length≤100000) :
  Calls Tryz.prog 18 #[v,dv] w (AddPost w.heap.size w (dropQ q d)):=by
 have CK:=Lib.hid (fun W (hx:Ext w W)=>qdu v q B W (hS.ext hx hB) (Nat.le_trans hB hx.size) (h.ext hx) hl);have TB:=Lib.hid (fun W (hx:Ext w W)=>qfz dv d W (hd.ext hx) hdl);have CL:=Lib.hid (fun W (hx:Ext w W)=>qfo v q W (h.ext hx) hl)
 obtain⟨vp,vc,hv⟩:∃ p c,v=.slice p q.length c:=⟨_,_,h.2.choose_spec.choose_spec.1⟩
 obtain⟨dp,dc,hdv⟩:∃ p c,dv=.slice p d.length c:=⟨_,_,hd.1.choose_spec.choose_spec.1⟩
 subst hv hdv;have HIN:=Lib.hid h;have XB:=Ext.alloc (Ext.refl w) (.cells #[.slice dp d.length dc] 28);have KB1:=KB.new w #[.slice dp d.length dc] 28;have HI1:=Lib.hid (h.ext XB);have HD1:=hd.ext XB
 have hbx:w.heap.size<(w.alloc (.cells #[.slice dp d.length dc] 28)).heap.size:=by simp
 have DL:=Lib.hid (fun W cv (hx:Ext (w.alloc (.cells #[.slice dp d.length dc] 28)) W) (hr:TxRow (w.alloc (.cells #[.slice dp d.length dc] 28)).heap.size W cv q) =>
  del_any _ #[.pointer (some ⟨w.heap.size,0,none⟩)] entersDr (fun x=>askE d x.c x.t !=6) _ cv q W hr hl (fun x hm W' hg=>by
   have hk:∀ k,k<(w.alloc (.cells #[.slice dp d.length dc] 28)).heap.size→W'.heap[k]?=(w.alloc (.cells #[.slice dp d.length dc] 28)).heap[k]?:=fun k hk =>
    (hg.block k (Nat.lt_of_lt_of_le hk hx.size) (fun e=>by have:=hr.2.2.lt k e.symm;omega)).trans (hx.below.block k hk)
   exact drop1_any x dp dc d w.heap.size W' (HD1.blocks hk) hdl ((World.cell?_of_block (hk _ hbx)).trans (KB1.cell 0 _ rfl))))
 have HDQ:dropQ q d=if qaT q=false∨isL d=false then .error 1 else .ok (q.filter fun y=>askE d y.c y.t==6):=rfl
 clear h hd hS hB HD1 KB1 XB hbx
 obtain⟨m,hm⟩:∃ m,d.length=m:=⟨_,rfl⟩
 rw[hm] at TB DL HI1 hdl ⊢
 obtain⟨n,hn⟩:∃ n,q.length=n:=⟨_,rfl⟩
 have HN:=Lib.hid hn;rw[hn] at CK CL HI1 HIN hl ⊢;clear hm hn
 cases hq:qaT q
 · rw[HDQ,hq,if_pos (Or.inl rfl)]
   rw[hq] at CK;clear HDQ hq HIN DL HI1;go_enter Tryz.func18,Tryz.ntmps18
   go_wp2_with (first
   | (go_at_call 12;(with_reducible refine (CK.out _ zaa).mono ?_);rintro e' _ ⟨rfl,d1,os1,rfl⟩)
   | (go_at_call 29;(with_reducible refine (TB.out _ zaa).mono ?_);rintro e' _ ⟨rfl,d3,os3,rfl⟩))
   go_ret2
   exact⟨rfl,zaa⟩
 rw[hq] at CK
 cases hi:isL d
 · rw[HDQ,hi,if_pos (Or.inr rfl)]
   rw[hi] at TB;clear HDQ hq HIN DL HI1 hi;go_enter Tryz.func18,Tryz.ntmps18
   go_wp2_with (first
   | (go_at_call 12;(with_reducible refine (CK.out _ zaa).mono ?_);rintro e' _ ⟨rfl,d1,os1,rfl⟩)
   | (go_at_call 29;(with_reducible refine (TB.out _ zaa).mono ?_);rintro e' _ ⟨rfl,d3,os3,rfl⟩))
   go_ret2
   exact⟨rfl,zaa⟩
 rw[hi] at TB;rw[HDQ,hq,hi,if_neg zaj];clear HDQ hq hi;go_enter Tryz.func18,Tryz.ntmps18
 go_wp2_with (first
  | (go_at_call 12;(with_reducible refine (CK.out _ zaa).mono ?_);rintro e' _ ⟨rfl,d1,os1,rfl⟩)
  | (go_at_call 29;(with_reducible refine (TB.out _ zaa).mono ?_);rintro e' _ ⟨rfl,d3,os3,rfl⟩)
  | (go_at_call 31;(with_reducible refine (CL.out _ zaa).mono ?_);rintro e' w5 ⟨cv,rfl,hcr,hx5⟩;have H5:=Lib.hid (show Ext (w.alloc (.cells #[.slice dp m dc] 28)) w5∧Ext w w5∧TxRow (w.alloc (.cells #[.slice dp m dc] 28)).heap.size w5 cv q from⟨Ext.trans zaa hx5,Ext.trans zaa hx5,TxRow.low HI1.out hcr (fun _ h=>h) (Ext.trans zaa hx5) (Ext.size zaa)⟩);clear hcr hx5;obtain⟨cp,cc,hcv⟩:=qae H5.out.2.2.2.2;rw[HN.out] at hcv;subst hcv)
  | ((with_reducible refine (DL.out _ _ H5.out.1 H5.out.2.2).mono ?_);rintro e' w7 ⟨rv,rfl,hr7,hg7⟩;have H7:=Lib.hid (And.intro hr7 hg7);clear hr7 hg7))
 go_ret2
 have HX7:Ext w w7:=Ext.grown H5.out.2.1 H7.out.2 (fun k hk=>by have:=H5.out.2.2.2.2.lt k hk;simp at this;omega)
 refine ⟨rv,rfl,?_,HX7⟩
 have hf:(q.filter fun x=>!(askE d x.c x.t !=6))=q.filter fun y=>askE d y.c y.t==6:=by
  congr 1;funext x;simp[bne]
 rw[←hf];exact TxRow.low HIN.out H7.out.1 (fun x hm=>(List.mem_filter.1 hm).1) HX7 zaj
end Go.Proofs.YtpnabjopfpdkhaaGreatDoor
