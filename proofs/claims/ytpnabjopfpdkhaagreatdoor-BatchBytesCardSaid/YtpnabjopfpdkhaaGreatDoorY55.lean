/- Lemmas. -/
import Derived.Test.YtpnabjopfpdkhaaGreatDoorY42
import Derived.Test.YtpnabjopfpdkhaaGreatDoorY54
set_option linter.all false
set_option maxHeartbeats 4000000
set_option maxRecDepth 20000
namespace Go.Proofs.YtpnabjopfpdkhaaGreatDoor
open Go.Proofs.Tryz RowKit
variable {W w:World} {B:Nat} {v:Value}
attribute [go_sem] more_more Array.size_append
def news_kb {k:Nat} {cs:Array Value} {T:TypeId} (h:KB k cs T w):∀ j u,cs.toList[j]?=some u->w.cell? ((⟨k,0,none⟩:Addr).add j)=some u:=fun j u hu=>by
 rw[Addr.add_lit,Nat.zero_add];exact h.cell j u (by simpa using hu)
def AddPost (B:Nat) (w:World) (r:Except Int (List Tx)) (e:Ending) (w':World):Prop:=match r with
 | .error c=>e=.returned (.tuple #[.slice none 0 0,.int .i64 c])/\Ext w w'
 | .ok x=>∃ v',e=.returned (.tuple #[v',.int .i64 0])/\TxRow B w' v' x/\Ext w w'
def qgp (v:Value) (q:List Tx) (t:Tx) (dv:Value) (d:List La) (B:Nat) (w:World) (hS:SignsAt B w) (hB:B<=w.heap.size) (h:TxIn w v q) (hl:q.length<=100000) (ht:TxAt w t) (hd:LaAt w dv d) (hdl:d.length<=100000) :
  Calls prog 10 #[v,txV t,dv] w (AddPost w.heap.size w (addQ q t d)):=by
 have CK:=J (fun W (hx:Ext w W)=>qfM v q B W (hS.ext hx hB) (Nat.le_trans hB hx.size) (h.ext hx) hl);have WR:=J (fun W (hx:Ext w W)=>qcO t B W (hS.ext hx hB) (Nat.le_trans hB hx.size) (ht.ext hx));have TB:=J (fun W (hx:Ext w W)=>qfU dv d W (hd.ext hx) hdl);have AK:=J (fun W (hx:Ext w W)=>ask_any dv d t.c t.t W (hd.ext hx) hdl);have CL:=J (fun W (hx:Ext w W)=>qfH v q W (h.ext hx) hl);have OF:=J (fun W (hx:Ext w W)=>bof_any v q t.c W (h.ext hx) hl);have HTT:=J (fun (W:World) (hW:∀ k,k<w.heap.size->W.heap[k]?=w.heap[k]?)=>ht.blocks hW);have HIN:=J h;obtain⟨p1,m1,k1,p2,m2,k2,e1,e2⟩:=qbO ht;obtain⟨vp,vc,hv⟩:∃ p c,v=.slice p q.length c:=⟨_,_,h.2.choose_spec.choose_spec.1⟩
 obtain⟨dp,dc,hdv⟩:∃ p c,dv=.slice p d.length c:=⟨_,_,hd.1.choose_spec.choose_spec.1⟩
 have HA:addQ q t d=if qdy q=false\/okT t=false\/isL d=false then .error 1
  else if askE d t.c t.t≠6 then .error 18
  else match ofQ q t.c with
   | none=>if q.length=64 then .error 5 else .ok (q++[t])
   | some i=>match q[i]? with
    | none=>.error 1
    | some x=>if x.t=t.t then .error 16 else if t.t<x.t then .error 18 else .ok (q.set i t):=rfl
 clear h ht hd hS hB;have TL:=J (show ∀ l':List Tx,txC (l'++[t])=txC l'++txL t from fun l'=>by rw[qfl];simp[txC]);obtain⟨tc,htc⟩:∃ x,t.c=x:=⟨_,rfl⟩
 obtain⟨tt,htt⟩:∃ x,t.t=x:=⟨_,rfl⟩
 obtain⟨ts,hts⟩:∃ x,t.src=x:=⟨_,rfl⟩
 obtain⟨tg,htg⟩:∃ x,t.gas=x:=⟨_,rfl⟩
 have hV:txV t=.agg #[.int .i64 tc,.int .i64 tt,.slice p1 m1 k1,.slice p2 m2 k2,.string ts,.int .i64 tg]:=by unfold txV;rw[htc,htt,hts,htg,e1,e2]
 have hVL:txL t=[.int .i64 tc,.int .i64 tt,.slice p1 m1 k1,.slice p2 m2 k2,.string ts,.int .i64 tg]:=by unfold txL;rw[htc,htt,hts,htg,e1,e2]
 rw[hV] at WR ⊢;rw[htc,htt] at AK HA;rw[htc] at OF;have HVL:=J hVL;have HTC:=J (show t.c=tc/\t.t=tt from⟨htc,htt⟩);clear hV hVL htc htt hts htg e1 e2;cases hq:qdy q
 . rw[HA,hq,if_pos (Or.inl rfl)];rw[hq] at CK;clear HA hq HTT HIN;subst hv hdv;go_enter func10,ntmps10
   go_wp2_with (first
   | ((with_reducible refine (CK.out _ zq).mono ?_);rintro e' _ ⟨rfl,d1,os1,rfl⟩)
   | ((with_reducible refine (WR.out _ zq).mono ?_);rintro e' _ ⟨rfl,d2,os2,rfl⟩)
   | ((with_reducible refine (TB.out _ zq).mono ?_);rintro e' _ ⟨rfl,d3,os3,rfl⟩)
   | ((with_reducible refine (AK.out _ zq).mono ?_);rintro e' _ ⟨rfl,d4,os4,rfl⟩))
   go_ret2;exact⟨rfl,zq⟩
 rw[hq] at CK;cases ho:okT t
 . rw[HA,ho,if_pos (Or.inr (Or.inl rfl))];rw[ho] at WR;clear HA hq HTT HIN ho;subst hv hdv;go_enter func10,ntmps10
   go_wp2_with (first
   | ((with_reducible refine (CK.out _ zq).mono ?_);rintro e' _ ⟨rfl,d1,os1,rfl⟩)
   | ((with_reducible refine (WR.out _ zq).mono ?_);rintro e' _ ⟨rfl,d2,os2,rfl⟩)
   | ((with_reducible refine (TB.out _ zq).mono ?_);rintro e' _ ⟨rfl,d3,os3,rfl⟩)
   | ((with_reducible refine (AK.out _ zq).mono ?_);rintro e' _ ⟨rfl,d4,os4,rfl⟩))
   go_ret2;exact⟨rfl,zq⟩
 rw[ho] at WR;cases hi:isL d
 . rw[HA,hi,if_pos (Or.inr (Or.inr rfl))];rw[hi] at TB;clear HA hq HTT HIN ho hi;subst hv hdv;go_enter func10,ntmps10
   go_wp2_with (first
   | ((with_reducible refine (CK.out _ zq).mono ?_);rintro e' _ ⟨rfl,d1,os1,rfl⟩)
   | ((with_reducible refine (WR.out _ zq).mono ?_);rintro e' _ ⟨rfl,d2,os2,rfl⟩)
   | ((with_reducible refine (TB.out _ zq).mono ?_);rintro e' _ ⟨rfl,d3,os3,rfl⟩)
   | ((with_reducible refine (AK.out _ zq).mono ?_);rintro e' _ ⟨rfl,d4,os4,rfl⟩))
   go_ret2;exact⟨rfl,zq⟩
 rw[hi] at TB;rw[hq,ho,hi,if_neg zy] at HA;clear hq ho hi;obtain⟨ra,hra⟩:∃ r,askR d tc tt=r:=⟨_,rfl⟩
 obtain⟨ae,hae⟩:∃ r,askE d tc tt=r:=⟨_,rfl⟩
 rw[hra,hae] at AK;rw[hae] at HA;obtain⟨xc,xt,xe,xk,xi,xs,xv⟩:=ra;by_cases h6:ae=6;rotate_left
 . rw[HA,if_pos h6];have h6b:(ae !=6)=true:=by simpa using h6
   clear HA HTT HIN h6 hae hra;subst hv hdv;unfold rsC at AK;go_enter func10,ntmps10
   go_wp2_with (first
   | ((with_reducible refine (CK.out _ zq).mono ?_);rintro e' _ ⟨rfl,d1,os1,rfl⟩)
   | ((with_reducible refine (WR.out _ zq).mono ?_);rintro e' _ ⟨rfl,d2,os2,rfl⟩)
   | ((with_reducible refine (TB.out _ zq).mono ?_);rintro e' _ ⟨rfl,d3,os3,rfl⟩)
   | ((with_reducible refine (AK.out _ zq).mono ?_);rintro e' _ ⟨rfl,d4,os4,rfl⟩))
   go_ret2;exact⟨rfl,zq⟩
 subst h6;rw[if_neg zy] at HA;rw[HA];clear HA hae hra;unfold rsC at AK;have HST:=J (fun x (hm:x∈q) (W:World) (hW:∀ k,k<w.heap.size->W.heap[k]?=w.heap[k]?)=>(HIN.out.1 x hm).blocks hW);obtain⟨i0,hi,hz0,hz1,hz2⟩:=info_parts txInfo;obtain⟨n,hn⟩:∃ n,q.length=n:=⟨_,rfl⟩
 have HN:=J hn;have hln:(n:Int)<=100000:=Y;rw[hn] at hv;subst hv hdv
 cases ho:ofQ q tc with
 | none =>
  dsimp only;have e1:idxI (fun x=>x.c==tc) q=-1:=by unfold idxI;unfold ofQ at ho;rw[ho]
  rw[e1] at OF;clear ho e1;by_cases h64:n=64
  . rw[if_pos Y];subst h64;clear hn hl;go_enter func10,ntmps10
    go_wp2_with (first
     | ((with_reducible refine (CK.out _ zq).mono ?_);rintro e' _ ⟨rfl,d1,os1,rfl⟩)
     | ((with_reducible refine (WR.out _ zq).mono ?_);rintro e' _ ⟨rfl,d2,os2,rfl⟩)
     | ((with_reducible refine (TB.out _ zq).mono ?_);rintro e' _ ⟨rfl,d3,os3,rfl⟩)
     | ((with_reducible refine (AK.out _ zq).mono ?_);rintro e' _ ⟨rfl,d4,os4,rfl⟩)
     | ((with_reducible refine (CL.out _ zq).mono ?_);rintro e' _ ⟨cv,rfl,hcr,d5,os5,rfl⟩;have HCR:=J (hcr.2.2.mono (base':=w.heap.size) (Ext.size zq));clear hcr;obtain⟨cp,cc,hcv⟩:=qad HCR.out;subst hcv)
     | ((with_reducible refine (OF.out _ zq).mono ?_);rintro e' w6 ⟨rfl,hx6⟩;have H6:=J (show Ext w w6/\KB w.heap.size #[.int .i64 tc,.int .i64 tt,.slice p1 m1 k1,.slice p2 m2 k2,.string ts,.int .i64 tg] 27 w6/\w6.ownsRow w.heap.size 27 6 (.slice cp q.length cc) q.length (txC q) from⟨Ext.trans zq hx6,((KB.new w _ _).of_ext zq).of_ext hx6,own_ext (own_ext HCR.out zq) hx6⟩);clear hx6))
    go_ret2;exact⟨rfl,H6.out.1⟩
  . rw[if_neg Y];have h64b:((n:Int)==64)=false:=zg;clear hn hl h64;go_enter func10,ntmps10
    go_upto_region 11 with (first
     | ((with_reducible refine (CK.out _ zq).mono ?_);rintro e' _ ⟨rfl,d1,os1,rfl⟩)
     | ((with_reducible refine (WR.out _ zq).mono ?_);rintro e' _ ⟨rfl,d2,os2,rfl⟩)
     | ((with_reducible refine (TB.out _ zq).mono ?_);rintro e' _ ⟨rfl,d3,os3,rfl⟩)
     | ((with_reducible refine (AK.out _ zq).mono ?_);rintro e' _ ⟨rfl,d4,os4,rfl⟩)
     | ((with_reducible refine (CL.out _ zq).mono ?_);rintro e' _ ⟨cv,rfl,hcr,d5,os5,rfl⟩;have HCR:=J (hcr.2.2.mono (base':=w.heap.size) (Ext.size zq));clear hcr;obtain⟨cp,cc,hcv⟩:=qad HCR.out;subst hcv)
     | ((with_reducible refine (OF.out _ zq).mono ?_);rintro e' w6 ⟨rfl,hx6⟩;have H6:=J (show Ext w w6/\KB w.heap.size #[.int .i64 tc,.int .i64 tt,.slice p1 m1 k1,.slice p2 m2 k2,.string ts,.int .i64 tg] 27 w6/\w6.ownsRow w.heap.size 27 6 (.slice cp q.length cc) q.length (txC q) from⟨Ext.trans zq hx6,((KB.new w _ _).of_ext zq).of_ext hx6,own_ext (own_ext HCR.out zq) hx6⟩);clear hx6))
    have n0:=H6.out.2.1.cell 0 _ rfl;have n1:=H6.out.2.1.cell 1 _ rfl;have n2:=H6.out.2.1.cell 2 _ rfl;have n3:=H6.out.2.1.cell 3 _ rfl;have n4:=H6.out.2.1.cell 4 _ rfl;have n5:=H6.out.2.1.cell 5 _ rfl;have nl:=H6.out.2.1.lt;rw[HN.out] at H6 ⊢
    go_wp2_with (at_builtin;refine wpList_append_own_at _ rfl _ _ 22 rfl w.heap.size 27 i0 (.agg #[.int .i64 0,.int .i64 0,.slice none 0 0,.slice none 0 0,.string ⟨#[]⟩,.int .i64 0]) 6 88 underlying22 hi hz0 hz1 hz2 rfl zw (.slice cp n cc) n (txC q) rfl ?c0 ⟨_,0,none⟩ 1 1 [.int .i64 tc,.int .i64 tt,.slice p1 m1 k1,.slice p2 m2 k2,.string ts,.int .i64 tg] rfl rfl ?c1 ?c2 ?c3 ?c4 ?c5 ?_)
    case c0=>exact own_ext H6.out.2.2 zq
    case c1=>exact news_kb (KB.new w6 _ _)
    case c2=>intro u hu;simp at hu;rcases hu with rfl | rfl | rfl | rfl | rfl | rfl<;>rfl
    case c3=>unfold maxLen;omega
    case c4=>omega
    case c5=>simp;have:=H6.out.1.size;omega
    intro v' w7 hown hgrow _ _;go_wp2_with fail;go_ret2;have HX7:Ext w w7:=Ext.grown (Ext.trans H6.out.1 zq) hgrow (fun k hk=>by have:=H6.out.2.2.lt k (by rw[<-hk]);omega);refine ⟨v',rfl,⟨fun x hm W hW=>?_,HX7.size,?_⟩,HX7⟩
    . rcases List.mem_append.1 hm with hm | hm
      . exact HST.out x hm W (fun k hk=>(hW k hk).trans (HX7.below.block k hk))
      . simp at hm;subst hm;exact HTT.out W (fun k hk=>(hW k hk).trans (HX7.below.block k hk))
    . rw[TL.out,HVL.out,List.length_append,HN.out]
      exact hown
 | some i =>
  obtain⟨x,hx,hxc,-⟩:=ofQ_some ho;have e1:idxI (fun x=>x.c==tc) q=(i:Int):=by unfold idxI;unfold ofQ at ho;rw[ho]
  rw[e1] at OF;dsimp only;rw[hx];dsimp only;have hil:=(List.getElem?_eq_some_iff.1 hx).1;rw[hn] at hil;have hi0:(0:Int)<=(i:Int):=Y;have hin:(i:Int)<(n:Int):=Y;obtain⟨vp2,vc2,hv2,-,-,hr⟩:=HIN.out.2;simp only[Value.slice.injEq] at hv2;obtain⟨rfl,-,rfl⟩:=hv2;obtain⟨b,off,rfl,hc⟩:=hr i x hx;have c1w:=hc 1 _ rfl;obtain⟨xt2,hxt⟩:∃ z,x.t=z:=⟨_,rfl⟩
  rw[hxt] at c1w ⊢;have HX:=J hx;have C1W:=J c1w;have hcm:(-1:Int)<(i:Int):=Y;clear hr hc hx hxc ho e1 hxt c1w hn hl;go_enter func10,ntmps10
  go_upto_region 12 with (first
   | ((with_reducible refine (CK.out _ zq).mono ?_);rintro e' _ ⟨rfl,d1,os1,rfl⟩)
   | ((with_reducible refine (WR.out _ zq).mono ?_);rintro e' _ ⟨rfl,d2,os2,rfl⟩)
   | ((with_reducible refine (TB.out _ zq).mono ?_);rintro e' _ ⟨rfl,d3,os3,rfl⟩)
   | ((with_reducible refine (AK.out _ zq).mono ?_);rintro e' _ ⟨rfl,d4,os4,rfl⟩)
   | ((with_reducible refine (CL.out _ zq).mono ?_);rintro e' _ ⟨cv,rfl,hcr,d5,os5,rfl⟩;have HCR:=J (hcr.2.2.mono (base':=w.heap.size) (Ext.size zq));clear hcr;obtain⟨cp,cc,hcv⟩:=qad HCR.out;subst hcv)
   | ((with_reducible refine (OF.out _ zq).mono ?_);rintro e' w6 ⟨rfl,hx6⟩;have H6:=J (show Ext w w6/\KB w.heap.size #[.int .i64 tc,.int .i64 tt,.slice p1 m1 k1,.slice p2 m2 k2,.string ts,.int .i64 tg] 27 w6/\w6.ownsRow w.heap.size 27 6 (.slice cp q.length cc) q.length (txC q) from⟨Ext.trans zq hx6,((KB.new w _ _).of_ext zq).of_ext hx6,own_ext (own_ext HCR.out zq) hx6⟩);clear hx6))
  have n0:=H6.out.2.1.cell 0 _ rfl;have n1:=H6.out.2.1.cell 1 _ rfl;have n2:=H6.out.2.1.cell 2 _ rfl;have n3:=H6.out.2.1.cell 3 _ rfl;have n4:=H6.out.2.1.cell 4 _ rfl;have n5:=H6.out.2.1.cell 5 _ rfl;have nl:=H6.out.2.1.lt;have c1:=qaf C1W.out H6.out.1;have hb:=World.block_lt_of_cell? _ _ c1;rw[HN.out] at H6 ⊢;by_cases h1:xt2=tt
  . rw[if_pos h1];subst h1;refine qaa 7 79 (List.replicate 7 false) zv zv rfl ?_;refine zh ?_
    repeat(refine Lex.step rfl ?_;intro K hK;unfold StepG;go_simp;refine hK _ ?_;clear hK K)
    refine zd ?_;intro dd oo;go_wp2_with fail
    try rw[ends_normal]
    try go_wp2_with fail
    go_ret2;exact⟨rfl,Ext.trans H6.out.1 zq⟩
  rw[if_neg h1];by_cases h2:tt<xt2
  . rw[if_pos h2];refine qaa 7 79 (List.replicate 7 false) zv zv rfl ?_;refine zh ?_
    repeat(refine Lex.step rfl ?_;intro K hK;unfold StepG;go_simp;refine hK _ ?_;clear hK K)
    refine zd ?_;intro dd oo;go_wp2_with fail
    try rw[ends_normal]
    try go_wp2_with fail
    all_goals try(exfalso;omega)
    refine qaa 7 79 (List.replicate 7 false) zv zv rfl ?_;refine zh ?_
    repeat(refine Lex.step rfl ?_;intro K hK;unfold StepG;go_simp;refine hK _ ?_;clear hK K)
    refine zd ?_;intro dd oo;go_wp2_with fail
    try rw[ends_normal]
    try go_wp2_with fail
    all_goals try(exfalso;omega)
    go_ret2;exact⟨rfl,Ext.trans H6.out.1 zq⟩
  rw[if_neg h2]
  obtain⟨cg,rfl⟩:∃ cg,cp=some ⟨cg,0,none⟩:=by
   rcases Go.Joins.ownsRow_forms H6.out.2.2 with ⟨_,h0⟩ | ⟨g1,c1,h0⟩
   . omega
   . simp only[Value.slice.injEq] at h0;exact⟨g1,h0.1⟩
  have how:=H6.out.2.2
  have cm:∀ k,k<6->∃ u,w6.cell? ⟨cg,i*6+k,none⟩=some u:=fun k hk=>by
   refine ⟨_,(how.cellAt _ Y).trans (List.getElem?_eq_getElem ?_)⟩;rw[txC_len,HN.out];omega
  obtain⟨y0,mm0⟩:=cm 0 Y;obtain⟨y1,mm1⟩:=cm 1 Y;obtain⟨y2,mm2⟩:=cm 2 Y;obtain⟨y3,mm3⟩:=cm 3 Y;obtain⟨y4,mm4⟩:=cm 4 Y;obtain⟨y5,mm5⟩:=cm 5 Y;have f0:=how.frozenAt (i*6);have f1:=how.frozenAt (i*6+1);have f2:=how.frozenAt (i*6+2);have f3:=how.frozenAt (i*6+3);have f4:=how.frozenAt (i*6+4);have f5:=how.frozenAt (i*6+5);simp only[Nat.add_zero] at mm0;have hcl:=(how.lt cg rfl).2;have HIL:=J hil;clear how cm hil;refine qaa 7 79 (List.replicate 7 false) zv zv rfl ?_;refine zh ?_
  repeat(refine Lex.step rfl ?_;intro K hK;unfold StepG;go_simp;refine hK _ ?_;clear hK K)
  refine zd ?_;intro dd oo;go_wp2_with fail
  try rw[ends_normal]
  try go_wp2_with fail
  all_goals try(exfalso;omega)
  refine qaa 7 79 (List.replicate 7 false) zv zv rfl ?_;refine zh ?_
  repeat(refine Lex.step rfl ?_;intro K hK;unfold StepG;go_simp;refine hK _ ?_;clear hK K)
  refine zd ?_;intro dd oo;go_wp2_with fail
  try rw[ends_normal]
  try go_wp2_with fail
  all_goals try(exfalso;omega)
  have hf:=HVL.out;unfold txL at hf;simp only[List.cons.injEq,and_true] at hf;obtain⟨g0,g1,g2,g3,g4,g5⟩:=hf;have O1:=H6.out.2.2.stored (i*6) (.int .i64 tc);have O2:=O1.1.stored (i*6+1) (.int .i64 tt);have O3:=O2.1.stored (i*6+2) (.slice p1 m1 k1);have O4:=O3.1.stored (i*6+3) (.slice p2 m2 k2);have O5:=O4.1.stored (i*6+4) (.string ts);have O6:=O5.1.stored (i*6+5) (.int .i64 tg);have OG:=qaj (qaj (qaj (qaj (qaj O1.2 O2.2) O3.2) O4.2) O5.2) O6.2;have TS:=txC_set q i t (by rw[HN.out];exact HIL.out);rw[g0,g1,g2,g3,g4,g5] at TS;have OW:=O6.1;rw[TS] at OW;obtain⟨W6,hW6⟩:∃ W6,((((((w6.setCell ⟨cg,i*6,none⟩ (.int .i64 tc)).setCell ⟨cg,i*6+1,none⟩ (.int .i64 tt)).setCell ⟨cg,i*6+2,none⟩ (.slice p1 m1 k1)).setCell ⟨cg,i*6+3,none⟩ (.slice p2 m2 k2)).setCell ⟨cg,i*6+4,none⟩ (.string ts)).setCell ⟨cg,i*6+5,none⟩ (.int .i64 tg))=W6:=⟨_,rfl⟩
  rw[hW6] at OW OG ⊢;clear O1 O2 O3 O4 O5 O6 TS;go_ret2;have HXW:=Ext.grown H6.out.1 OG (fun k hk=>by have:=H6.out.2.2.lt k (by rw[<-hk];rfl);omega);refine ⟨_,rfl,⟨fun y hm W hW=>?_,(Ext.more HXW _ _).size,?_⟩,Ext.more HXW _ _⟩
  . rcases List.mem_or_eq_of_mem_set hm with hm | rfl
    . exact HST.out y hm W (fun k hk=>(hW k hk).trans ((Ext.more HXW _ _).below.block k hk))
    . exact HTT.out W (fun k hk=>(hW k hk).trans ((Ext.more HXW _ _).below.block k hk))
  . rw[List.length_set,HN.out];exact own_ext OW zq
def RowF.grown {l:List ByteArray} {W':World} {row:Option Nat} (h:RowF B l v W) (hg:W.grownBy W' row) (hr:∀ g,row=some g->∃ cs fr,W.heap[g]?=some (.cells cs 27 fr)):RowF B l v W':=by
 obtain⟨p,c,hv,h1,h2⟩:=h;refine ⟨p,c,hv,h1,?_⟩;rcases h2 with h | ⟨g,cap,cur,e,hb,hg2,r⟩
 . exact .inl h
 . refine .inr ⟨g,cap,cur,e,hb,(hg.block g (qbc hg2) (fun e=>?_)).trans hg2,r⟩;obtain⟨cs,fr,h3⟩:=hr g e.symm;rw[hg2] at h3;simp at h3
def TxFw (B:Nat) (w:World) (l:List Tx):Prop:=∀ x∈l,(∃ y a b,x=fewT y a b)/\RowF B x.rd x.rv w/\RowF B x.wr x.wv w/\TxAt w x
def TxFw.ext {w':World} {l:List Tx} (h:TxFw B w l) (hx:Ext w w'):TxFw B w' l:=fun x hm=>by
 obtain⟨h1,h2,h3,h4⟩:=h x hm;exact⟨h1,RowF.upc _ _ _ _ _ hx h2,RowF.upc _ _ _ _ _ hx h3,h4.ext hx⟩
def TxFw.grown {w':World} {l:List Tx} {row:Option Nat} (h:TxFw B w l) (hg:w.grownBy w' row) (hr:∀ g,row=some g->∃ cs fr,w.heap[g]?=some (.cells cs 27 fr)):TxFw B w' l:=fun x hm=>by
 obtain⟨⟨y,a,b,rfl⟩,h2,h3,h4⟩:=h x hm;have g2:=RowF.grown h2 hg hr;have g3:=RowF.grown h3 hg hr;exact⟨⟨y,a,b,rfl⟩,g2,g3,g2.pats,g3.pats,h4.2.2⟩
def few25_any (v:Value) (l:List Tx) (w:World) (h:TxIn w v l) (hl:l.length<=140737488351232) :
  Calls prog 7 #[v] w fun e w'=>∃ v' l',e=.returned v'/\l'.length<=66/\TxFw w.heap.size w' l'/\w'.ownsRow w.heap.size 27 6 v' l'.length (txC l')/\Ext w w':=by
 obtain⟨i0,hi,hz0,hz1,hz2⟩:=info_parts txInfo;obtain⟨ht,pp,cap,rfl,hcap,hmx,hr⟩:=h;obtain⟨n,hn⟩:∃ n,l.length=n:=⟨_,rfl⟩
 rw[hn] at hcap hl ⊢;have HN:=J hn;have HT:=J ht;have HR:=J hr;obtain⟨m,hm⟩:∃ m,m=min n 66:=⟨_,rfl⟩
 have HM:=J hm;have hm66:m<=66:=Y;have hmn:m<=n:=Y;have hmi:(m:Int)<=66:=Y;have hln:(n:Int)<=140737488351232:=Y;clear ht hr hn hm;go_enter func7,ntmps7
 go_upto_if 7 with fail
 go_cut [0] (fun s0 wx=>s0=.slice pp m cap/\w=wx)
 case first =>
  by_cases hbig:(66:Int)<n
  . have hmm:m=66:=(by have:=HM.out;omega)
    subst hmm;have h20:(66:Int)<=cap:=Y;go_wp2_with fail
    go_meet
    exact⟨rfl,rfl⟩
  . have hmm:m=n:=(by have:=HM.out;omega)
    subst hmm;go_wp2_with fail
    go_meet
    exact⟨rfl,rfl⟩
 case rest =>
  obtain⟨rfl,rfl⟩:=hcut
  go_wp2_with fail;go_loopw [3,4] (fun lv ii wr=>∃ (k:Nat),ii=.int .i64 (k:Int)/\k<=m/\Hid (∃ l':List Tx,l'.length=k/\TxFw w.heap.size wr l'/\wr.ownsRow w.heap.size 27 6 lv k (txC l')/\Ext w wr)) (fun _ ii _=>m-(intOf ii).toNat)
  case atStart=>exact⟨0,rfl,Nat.zero_le _,J ⟨[],rfl,fun x hx=>by simp at hx,World.ownsRow_nil _ _ _ _,Ext.refl _⟩⟩
  case round =>
   obtain⟨k,rfl,hkm,hH⟩:=hrel;obtain⟨lv,hlv⟩:∃ x,x=u3:=⟨_,rfl⟩
   subst hlv;obtain⟨l',hlk,hfw,hown,hxx⟩:=hH.out;by_cases hlt:k<m
   case neg =>
    have hk:k=m:=Y;subst hk;subst hlk;clear hlt;go_wp2_with fail;go_ret;exact⟨_,l',rfl,hm66,hfw,hown,hxx⟩
   obtain⟨x,hsx⟩:∃ x,l[k]?=some x:=⟨_,List.getElem?_eq_getElem jj⟩
   obtain⟨b,off,rfl,hc⟩:=HR.out k x hsx;have c0:=qaf (hc 0 _ rfl) hxx;have c1:=qaf (hc 1 _ rfl) hxx;have c2:=qaf (hc 2 _ rfl) hxx;have c3:=qaf (hc 3 _ rfl) hxx;have c4:=qaf (hc 4 _ rfl) hxx;have c5:=qaf (hc 5 _ rfl) hxx;simp only[Nat.add_zero] at c0;have hb1:=World.block_lt_of_cell? _ _ c0;have FT:=J (fun W (hx:Ext wr W)=>fewtx_any x W ((HT.out x (List.mem_of_getElem? hsx)).ext (hxx.trans hx)));have HH:=J (And.intro hlk (And.intro hfw (And.intro hown hxx)));have HLT:=J hlt;obtain⟨p1,q1,k1,p2,q2,k2,e1,e2⟩:=qbO (HT.out x (List.mem_of_getElem? hsx));clear hsx hc hlk hfw hown hxx hH;obtain⟨xc,xt,xrv,xwv,xs,xg,xrd,xwr⟩:=x;dsimp only at c0 c1 c2 c3 c4 c5 e1 e2;subst e1 e2;unfold txV at FT;dsimp only[fewT] at FT
   go_wp2_with (first
    | ((with_reducible refine (FT.out _ zq).mono ?_);rintro e' w3 ⟨a,b2,rfl,ra,rb,rt,hx3⟩;have R:=J (And.intro ra (And.intro rb (And.intro rt hx3)));clear ra rb rt hx3;obtain⟨pa,ca,hva,-⟩:=R.out.1;obtain⟨pb,cb,hvb,-⟩:=R.out.2.1;subst hva hvb)
    | (at_builtin;refine wpList_append_own_at _ rfl _ _ 22 rfl w.heap.size 27 i0 (.agg #[.int .i64 0,.int .i64 0,.slice none 0 0,.slice none 0 0,.string ⟨#[]⟩,.int .i64 0]) 6 88 underlying22 hi hz0 hz1 hz2 rfl zw lv k (txC l') rfl ?c0 ⟨_,0,none⟩ 1 1 [.int .i64 xc,.int .i64 xt,.slice pa (fewW xrd).length ca,.slice pb (fewW xwr).length cb,.string (cutS 1200 xs),.int .i64 xg] rfl rfl ?c1 ?c2 ?c3 ?c4 ?c5 ?_))
   case c0=>exact own_ext HH.out.2.2.1 (Ext.trans (by exact R.out.2.2.2) zq)
   try case c1=>exact news_kb (KB.new _ _ _)
   case c2=>intro u hu;simp at hu;rcases hu with rfl | rfl | rfl | rfl | rfl | rfl<;>rfl
   case c3=>unfold maxLen;omega
   case c4=>omega
   case c5=>have h1:=HH.out.2.2.2.size;have h2:=R.out.2.2.2.size;simp;omega
   intro v' w7 hown hgrow _ _;have XW:=R.out.2.2.2.alloc (.cells #[.int .i64 xc,.int .i64 xt,.slice pa (fewW xrd).length ca,.slice pb (fewW xwr).length cb,.string (cutS 1200 xs),.int .i64 xg] 27);have own':=own_ext HH.out.2.2.1 XW
   have hty:∀ g,lv.ownBlock=some g->∃ cs fr,(w3.alloc (.cells #[.int .i64 xc,.int .i64 xt,.slice pa (fewW xrd).length ca,.slice pb (fewW xwr).length cb,.string (cutS 1200 xs),.int .i64 xg] 27)).heap[g]?=some (.cells cs 27 fr):=fun g hg=>by
    obtain⟨cur,h⟩:=own_type own' hg;exact⟨_,_,h⟩
   have HX7:Ext w w7:=Ext.grown (HH.out.2.2.2.trans XW) hgrow (fun k hk=>by have:=own'.lt k (by rw[<-hk]);omega)
   have T3:TxFw w.heap.size w3 [(fewT ⟨xc,xt,.slice p1 q1 k1,.slice p2 q2 k2,xs,xg,xrd,xwr⟩ (.slice pa (fewW xrd).length ca) (.slice pb (fewW xwr).length cb))]:=fun y hy=>by
    obtain rfl:=List.mem_singleton.1 hy;exact⟨⟨_,_,_,rfl⟩,R.out.1.move HH.out.2.2.2.size (fun _ _=>rfl),R.out.2.1.move HH.out.2.2.2.size (fun _ _=>rfl),R.out.2.2.1⟩
   have T7:=(T3.ext ((Ext.refl w3).alloc (.cells #[.int .i64 xc,.int .i64 xt,.slice pa (fewW xrd).length ca,.slice pb (fewW xwr).length cb,.string (cutS 1200 xs),.int .i64 xg] 27))).grown hgrow hty;have F7:=(HH.out.2.1.ext XW).grown hgrow hty;have HC:txC (l'++[(fewT ⟨xc,xt,.slice p1 q1 k1,.slice p2 q2 k2,xs,xg,xrd,xwr⟩ (.slice pa (fewW xrd).length ca) (.slice pb (fewW xwr).length cb))])=txC l'++[.int .i64 xc,.int .i64 xt,.slice pa (fewW xrd).length ca,.slice pb (fewW xwr).length cb,.string (cutS 1200 xs),.int .i64 xg]:=by rw[qfl];simp[txC,txL,fewT]
   have H7:=J (show ∃ l2:List Tx,l2.length=k+1/\TxFw w.heap.size w7 l2/\w7.ownsRow w.heap.size 27 6 v' (k+1) (txC l2)/\Ext w w7 from⟨_,by rw[List.length_append,HH.out.1];rfl,fun y hy=>(List.mem_append.1 hy).elim (F7 y) (T7 y),by rw[HC];exact hown,HX7⟩);clear hown hgrow XW own' hty HX7 T3 T7 F7 HC;go_wp2_with fail;go_roundw
   case measure=>have:=HLT.out;simp[intOf];omega
   case rel=>exact⟨k+1,by go_num,by have:=HLT.out;omega,H7⟩
def txin_nil (w:World):TxIn w (.slice none 0 0) []:=⟨fun x hx=>by simp at hx,none,0,rfl,Nat.le_refl _,zw,fun j x hj=>by simp at hj⟩
def enc0_any (w:World):Calls prog 25 #[.slice none 0 0] w fun e w'=>OwnB w w' e [0]:=by
 have CT:=J (fun W=>qbM _ #[] entersWr (fun x=>!okT x) (.slice none 0 0) [] W (txin_nil W) zw (fun x hm=>by simp at hm));have VP:=J (fun W=>qbF 0 zw zw W);rw[show putB (0:Int).toNat=[0] from by simp[putB]] at VP;go_enter func25,ntmps25
 go_wp2_with (first
  | ((with_reducible refine (CT.out _).mono ?_);rintro e' _ ⟨rfl,d1,os1,rfl⟩)
  | ((with_reducible refine (VP.out _).mono ?_);rintro e' w3 ⟨g,cap,rfl,ho,hx⟩;have HO:=J (ho.mono (base':=w.heap.size) (Ext.size zq));have HX:=J (show Ext w w3 from Ext.trans zq hx);clear ho hx))
 go_loopw [3,20] (fun s3 i wr=>s3=.slice (some ⟨g,0,none⟩) 1 cap/\i=.int .i64 0/\w3=wr) (fun _ _ _=>0)
 case atStart=>exact⟨rfl,rfl,rfl⟩
 case round =>
  obtain⟨rfl,rfl,rfl⟩:=hrel
  go_wp2_with fail;go_ret
  exact⟨g,cap,rfl,HO.out,HX.out⟩
def LaAt.blocks {l:List La} (h:LaAt w v l) (hW:∀ k,k<w.heap.size->W.heap[k]?=w.heap[k]?):LaAt W v l:=by
 refine ⟨?_,h.2⟩;obtain⟨p,cap,h2,h3,h4,h5⟩:=h.1;refine ⟨p,cap,h2,h3,h4,fun j x hj=>?_⟩;obtain⟨b,off,e,hc⟩:=h5 j x hj;exact⟨b,off,e,fun i u hi=>(World.cell?_of_block (hW b (World.block_lt_of_cell? _ _ (hc i u hi)))).trans (hc i u hi)⟩
def TxRow.low {v':Value} {q r:List Tx} (h:TxIn w v q) (hr:TxRow B W v' r) (hs:∀ x∈r,x∈q) (hx:Ext w W) (hb:w.heap.size<=B):TxRow w.heap.size W v' r :=
 ⟨fun x hm W' hW=>(h.1 x (hs x hm)).blocks (fun k hk=>(hW k hk).trans (hx.below.block k hk)),hx.size,hr.2.2.mono (base':=w.heap.size) hb⟩
def entersDr (args:Array Value) (w:World):(callFunc 40 args).run prog w=.ok (.enter 40 args) w:=by kernel_rfl
def drop1_any (x:Tx) (dp:Option Addr) (dc:Nat) (d:List La) (b:Nat) (w:World) (hd:LaAt w (.slice dp d.length dc) d) (hdl:d.length<=100000) (hc:w.cell? ⟨b,0,none⟩=some (.slice dp d.length dc)):Calls prog 40 (#[txV x]++#[.pointer (some ⟨b,0,none⟩)]) w fun e w'=>e=.returned (.bool (askE d x.c x.t !=6))/\Ext w w':=by
 obtain⟨xc,xt,xrv,xwv,xs,xg,xrd,xwr⟩:=x;have hb:=World.block_lt_of_cell? _ _ hc;have AK:=J (fun W (hx:Ext w W)=>ask_any _ d xc xt W (hd.ext hx) hdl);obtain⟨ra,hra⟩:∃ r,askR d xc xt=r:=⟨_,rfl⟩
 obtain⟨ae,hae⟩:∃ r,askE d xc xt=r:=⟨_,rfl⟩
 obtain⟨n,hn⟩:∃ n,d.length=n:=⟨_,rfl⟩
 rw[hra,hae,hn] at AK;rw[hn] at hc;show Calls prog 40 #[.agg #[.int .i64 xc,.int .i64 xt,xrv,xwv,.string xs,.int .i64 xg],.pointer (some ⟨b,0,none⟩)] w fun e w'=>e=.returned (.bool (askE d xc xt !=6))/\Ext w w'
 rw[hae];obtain⟨yc,yt,ye,yk,yi,ys,yv⟩:=ra;unfold rsC at AK;clear hra hae hn hd hdl;go_enter func40,ntmps40
 go_wp2_with (((with_reducible refine (AK.out _ zq).mono ?_);rintro e' _ ⟨rfl,d4,os4,rfl⟩))
 go_ret;exact⟨rfl,zq⟩
def bdrop_any (v:Value) (q:List Tx) (dv:Value) (d:List La) (B:Nat) (w:World) (hS:SignsAt B w) (hB:B<=w.heap.size) (h:TxIn w v q) (hl:q.length<=100000) (hd:LaAt w dv d) (hdl:d.length<=100000) :
  Calls prog 18 #[v,dv] w (AddPost w.heap.size w (dropQ q d)):=by
 have CK:=J (fun W (hx:Ext w W)=>qfM v q B W (hS.ext hx hB) (Nat.le_trans hB hx.size) (h.ext hx) hl);have TB:=J (fun W (hx:Ext w W)=>qfU dv d W (hd.ext hx) hdl);have CL:=J (fun W (hx:Ext w W)=>qfH v q W (h.ext hx) hl);obtain⟨vp,vc,hv⟩:∃ p c,v=.slice p q.length c:=⟨_,_,h.2.choose_spec.choose_spec.1⟩
 obtain⟨dp,dc,hdv⟩:∃ p c,dv=.slice p d.length c:=⟨_,_,hd.1.choose_spec.choose_spec.1⟩
 subst hv hdv;have HIN:=J h;have XB:=Ext.alloc (Ext.refl w) (.cells #[.slice dp d.length dc] 28);have KB1:=KB.new w #[.slice dp d.length dc] 28;have HI1:=J (h.ext XB);have HD1:=hd.ext XB;have hbx:w.heap.size<(w.alloc (.cells #[.slice dp d.length dc] 28)).heap.size:=zy
 have DL:=J (fun W cv (hx:Ext (w.alloc (.cells #[.slice dp d.length dc] 28)) W) (hr:TxRow (w.alloc (.cells #[.slice dp d.length dc] 28)).heap.size W cv q) =>
  del_any _ #[.pointer (some ⟨w.heap.size,0,none⟩)] entersDr (fun x=>askE d x.c x.t !=6) _ cv q W hr hl (fun x hm W' hg=>by
   have hk:∀ k,k<(w.alloc (.cells #[.slice dp d.length dc] 28)).heap.size->W'.heap[k]?=(w.alloc (.cells #[.slice dp d.length dc] 28)).heap[k]?:=fun k hk =>
    (hg.block k (Nat.lt_of_lt_of_le hk hx.size) (fun e=>by have:=hr.2.2.lt k e.symm;omega)).trans (hx.below.block k hk)
   exact drop1_any x dp dc d w.heap.size W' (HD1.blocks hk) hdl ((World.cell?_of_block (hk _ hbx)).trans (KB1.cell 0 _ rfl))))
 have HDQ:dropQ q d=if qdy q=false\/isL d=false then .error 1 else .ok (q.filter fun y=>askE d y.c y.t==6):=rfl;clear h hd hS hB HD1 KB1 XB hbx;obtain⟨m,hm⟩:∃ m,d.length=m:=⟨_,rfl⟩
 rw[hm] at TB DL HI1 hdl ⊢;obtain⟨n,hn⟩:∃ n,q.length=n:=⟨_,rfl⟩
 have HN:=J hn;rw[hn] at CK CL HI1 HIN hl ⊢;clear hm hn;cases hq:qdy q
 . rw[HDQ,hq,if_pos (Or.inl rfl)];rw[hq] at CK;clear HDQ hq HIN DL HI1;go_enter func18,ntmps18
   go_wp2_with (first
   | ((with_reducible refine (CK.out _ zq).mono ?_);rintro e' _ ⟨rfl,d1,os1,rfl⟩)
   | ((with_reducible refine (TB.out _ zq).mono ?_);rintro e' _ ⟨rfl,d3,os3,rfl⟩))
   go_ret2;exact⟨rfl,zq⟩
 rw[hq] at CK;cases hi:isL d
 . rw[HDQ,hi,if_pos (Or.inr rfl)];rw[hi] at TB;clear HDQ hq HIN DL HI1 hi;go_enter func18,ntmps18
   go_wp2_with (first
   | ((with_reducible refine (CK.out _ zq).mono ?_);rintro e' _ ⟨rfl,d1,os1,rfl⟩)
   | ((with_reducible refine (TB.out _ zq).mono ?_);rintro e' _ ⟨rfl,d3,os3,rfl⟩))
   go_ret2;exact⟨rfl,zq⟩
 rw[hi] at TB;rw[HDQ,hq,hi,if_neg zy];clear HDQ hq hi;go_enter func18,ntmps18
 go_wp2_with (first
  | ((with_reducible refine (CK.out _ zq).mono ?_);rintro e' _ ⟨rfl,d1,os1,rfl⟩)
  | ((with_reducible refine (TB.out _ zq).mono ?_);rintro e' _ ⟨rfl,d3,os3,rfl⟩)
  | ((with_reducible refine (CL.out _ zq).mono ?_);rintro e' w5 ⟨cv,rfl,hcr,hx5⟩;have H5:=J (show Ext (w.alloc (.cells #[.slice dp m dc] 28)) w5/\Ext w w5/\TxRow (w.alloc (.cells #[.slice dp m dc] 28)).heap.size w5 cv q from⟨Ext.trans zq hx5,Ext.trans zq hx5,TxRow.low HI1.out hcr (fun _ h=>h) (Ext.trans zq hx5) (Ext.size zq)⟩);clear hcr hx5;obtain⟨cp,cc,hcv⟩:=qad H5.out.2.2.2.2;rw[HN.out] at hcv;subst hcv)
  | ((with_reducible refine (DL.out _ _ H5.out.1 H5.out.2.2).mono ?_);rintro e' w7 ⟨rv,rfl,hr7,hg7⟩;have H7:=J (And.intro hr7 hg7);clear hr7 hg7))
 go_ret2;have HX7:Ext w w7:=Ext.grown H5.out.2.1 H7.out.2 (fun k hk=>by have:=H5.out.2.2.2.2.lt k hk;simp at this;omega);refine ⟨rv,rfl,?_,HX7⟩
 have hf:(q.filter fun x=>!(askE d x.c x.t !=6))=q.filter fun y=>askE d y.c y.t==6:=by
  congr 1;funext x;simp[bne]
 rw[<-hf];exact TxRow.low HIN.out H7.out.1 (fun x hm=>(List.mem_filter.1 hm).1) HX7 zy
def tx3 (t:Int):Tx:=⟨3,t,.slice none 0 0,.slice none 0 0,⟨#[]⟩,0,[],[]⟩
def awk1:addQ [] (tx3 5) []=.ok [tx3 5]:=by kernel_rfl
def awk2:addQ [tx3 5] (tx3 5) []=.error 16:=by kernel_rfl
def awk3:addQ [tx3 5] (tx3 6) []=.ok [tx3 6]:=by kernel_rfl
def awk4:dropQ [tx3 6] [⟨3,6,0,0,0,⟨#[]⟩,0⟩]=.ok []:=by kernel_rfl
def of27_b (t:Int) (w:World):Calls prog 36 #[.int .i64 t] w fun e w'=>e=.returned (txV (tx3 t))/\Ext w w':=of27_any t w
def strs_nil (w:World):StrsAt w (.slice none 0 0) []:=.inl ⟨none,0,rfl,rfl⟩
def tx3_at (t:Int) (h:In64I t) (w:World):TxAt w (tx3 t):=⟨⟨strs_nil w,by simp[tx3],by simp[tx3]⟩,⟨strs_nil w,by simp[tx3],by simp[tx3]⟩,(Nat.zero_le _:(0:Nat)<=_),(by unfold In64I;omega:In64I 3),h,(by unfold In64I;omega:In64I 0)⟩
def la_nil (w:World):LaAt w (.slice none 0 0) []:=⟨⟨none,0,rfl,Nat.le_refl _,zw,fun j x hj=>by simp at hj⟩,fun x hx=>by simp at hx⟩
def la_one {g:Nat} (h:KB g #[.int .i64 3,.int .i64 6,.int .i64 0,.int .i64 0,.int .i64 0,.string ⟨#[]⟩,.int .i64 0] 70 w):LaAt w (.slice (some ⟨g,0,none⟩) 1 1) [⟨3,6,0,0,0,⟨#[]⟩,0⟩]:=by
 refine ⟨⟨some ⟨g,0,none⟩,1,rfl,Nat.le_refl _,zw,fun j x hj=>⟨g,0,rfl,fun i u hi=>?_⟩⟩,fun x hx=>by simp at hx;subst hx;exact(by unfold In64I;omega:In64I 0)⟩
 match j,hj with
 | 0,hj =>
  simp at hj;subst hj;rw[Nat.zero_mul,Nat.zero_add];exact h.cell _ _ (by rw[<-hi];simp[laL])
def awake27_any (B:Nat) (w:World) (hS:SignsAt B w) (hB:B<=w.heap.size):Calls prog 15 #[] w fun e w'=>e=.returned (.bool true)/\Ext w w':=by
 have OF:=J of27_b;have ST:=J (fun W (hx:Ext w W)=>(⟨hS.ext hx hB,Nat.le_trans hB hx.size⟩:SignsAt B W/\B<=W.heap.size));have A1:=J (fun W (hx:Ext w W)=>qgp (.slice none 0 0) [] (tx3 5) (.slice none 0 0) [] B W (ST.out W hx).1 (ST.out W hx).2 (txin_nil W) zw (tx3_at 5 (by unfold In64I;omega) W) (la_nil W) zw);have A2:=J (fun W v (hx:Ext w W) (h:TxIn W v [tx3 5])=>qgp v [tx3 5] (tx3 5) (.slice none 0 0) [] B W (ST.out W hx).1 (ST.out W hx).2 h zy (tx3_at 5 (by unfold In64I;omega) W) (la_nil W) zw);have A3:=J (fun W v (hx:Ext w W) (h:TxIn W v [tx3 5])=>qgp v [tx3 5] (tx3 6) (.slice none 0 0) [] B W (ST.out W hx).1 (ST.out W hx).2 h zy (tx3_at 6 (by unfold In64I;omega) W) (la_nil W) zw);have D1:=J (fun W v dv (hx:Ext w W) (h:TxIn W v [tx3 6]) (hd:LaAt W dv [⟨3,6,0,0,0,⟨#[]⟩,0⟩])=>bdrop_any v [tx3 6] dv _ B W (ST.out W hx).1 (ST.out W hx).2 h zy hd zy);have EN:=J enc0_any;rw[awk1] at A1;rw[awk2] at A2;rw[awk3] at A3;rw[awk4] at D1;go_enter func15,ntmps15
 go_wp2_with (first
  | ((with_reducible refine (OF.out _ _).mono ?_);rintro e' _ ⟨rfl,d1,os1,rfl⟩)
  | ((with_reducible refine (A1.out _ zq).mono ?_);rintro e' w1 ⟨v1,rfl,r1,x1⟩;have X1:Hid (Ext w w1):=J (Ext.trans zq x1);have R1:=J r1.inn;obtain⟨p1,c1,hv1,-,-,-⟩:=r1.inn.2;simp only[List.length_singleton] at hv1;subst hv1;clear r1 x1)
  | ((with_reducible refine (A2.out _ _ (X1.out.trans zq) (R1.out.ext zq)).mono ?_);rintro e' _ ⟨rfl,d2,os2,rfl⟩)
  | ((with_reducible refine (A3.out _ _ (X1.out.trans zq) (R1.out.ext zq)).mono ?_);rintro e' w3 ⟨v3,rfl,r3,x3⟩;have X3:Hid (Ext w w3):=J (X1.out.trans (Ext.trans zq x3));have R3:=J r3.inn;obtain⟨p3,c3,hv3,-,-,hr3⟩:=r3.inn.2;obtain⟨b3,o3,rfl,hc3⟩:=hr3 0 _ rfl;have z3:w3.cell? ⟨b3,o3+1,none⟩=some (.int .i64 6):=(by have:=hc3 1 (.int .i64 6) rfl;rwa [Nat.zero_mul,Nat.add_zero] at this);simp only[List.length_singleton] at hv3;subst hv3;have hb3:=World.block_lt_of_cell? _ _ z3;clear r3 x3 hr3 hc3)
  | ((with_reducible refine (D1.out _ _ _ (X3.out.trans zq) (R3.out.ext zq) (la_one (KB.new _ _ _))).mono ?_);rintro e' w4 ⟨v4,rfl,r4,x4⟩;have X4:Hid (Ext w w4):=J (X3.out.trans (Ext.trans zq x4));obtain⟨p4,c4,hv4,-,-,-⟩:=r4.inn.2;simp only[List.length_nil] at hv4;subst hv4;have z4:=qaf z3 (Ext.trans zq x4);have hb4:=World.block_lt_of_cell? _ _ z4;clear r4 x4 z3 hb3)
  | ((with_reducible refine (EN.out _).mono ?_);rintro e' w5 ⟨g5,c5,rfl,ho5,hx5⟩;have X5:Hid (Ext w w5):=J (X4.out.trans (Ext.trans zq hx5));simp only[List.length_singleton] at ho5;have hcv:=qgD (P:=prog) (src:=53) (dst:=9) underlying53 underlying5 underlying9 ho5;clear ho5 hx5))
 go_ret;exact⟨rfl,X5.out.trans zq⟩
def PQ (B:Nat):Fact:=fun v W=>∃ p l' cap,v=.slice p l'.length cap/\l'.length<=66/\TxFw B W l'/\W.ownsRow B 27 6 v l'.length (txC l')
def TxFw.low {C:Nat} {l:List Tx} (h:TxFw C W l) (hc:B<=C):TxFw B W l:=fun x hm=>by
 obtain⟨h1,h2,h3,h4⟩:=h x hm;exact⟨h1,h2.move hc (fun _ _=>rfl),h3.move hc (fun _ _=>rfl),h4⟩
def pq_any (v:Value) (l:List Tx) (B:Nat) (W:World) (h:TxIn W v l) (hl:l.length<=140737488351232) (hB:B<=W.heap.size):Calls prog 7 #[v] W fun e w'=>∃ v',e=.returned v'/\Ext W w'/\PQ B v' w' :=
 (few25_any v l W h hl).mono fun e w' ⟨v',l',h1,h2,h3,h4,h5⟩=>by
  obtain⟨p,c,h6⟩:=qad h4;exact⟨v',h1,h5,p,l',c,h6,h2,h3.low hB,h4.mono (base':=B) hB⟩
end Go.Proofs.YtpnabjopfpdkhaaGreatDoor
