/- Lemmas. -/
import Derived.Test.YtpnabjopfpdkhaaGreatDoorY07
set_option linter.all false
set_option maxHeartbeats 16000000
set_option maxRecDepth 20000
namespace Go.Proofs.YtpnabjopfpdkhaaGreatDoor
open Tryz RowKit
variable {W W0 w w':World} {B kn n size:Nat} {nv sv v:Value} {xs:List Value} {acc l:List Stp} {ns:List Nd} {sn:List ByteArray} {t:ByteArray}
attribute [go_sem] more_more Array.size_append
def qfm {P:Program} {base:Nat} {tx e:TypeId} (hk:P.underlying tx=some (.slice e)) (h:w.ownsRow base e size v n xs) (h1:∀ u∈xs,u.oneCell'=true):Src P size tx v n xs w:=by
 rcases Go.Joins.ownsRow_forms h with ⟨rfl,rfl⟩ | ⟨g,c,rfl⟩
 . have:xs=[]:=List.length_eq_zero_iff.1 (by have:=h.1;omega);subst this;exact Src.ofNil w hk 0
 . exact Src.ofSlice w hk ⟨g,0,none⟩ n c xs h.1 (h.cells (g:=g) rfl) h1
def qdr {b1 b2:Nat} {e1 e2:TypeId} {s1 s2 n1 n2:Nat} {v1 v2:Value} {x1 x2:List Value} (h1:w.ownsRow b1 e1 s1 v1 n1 x1) (h2:w.ownsRow b2 e2 s2 v2 n2 x2) (hne:e1≠e2) (g:Nat) (hg:v1.ownBlock=some g):v2.ownBlock≠some g:=by
 rcases h1.2 with ⟨rfl,_⟩ | ⟨g1,c1,u1,rfl,_,k1,_⟩
 . cases hg
 . rcases h2.2 with ⟨rfl,_⟩ | ⟨g2,c2,u2,rfl,_,k2,_⟩
   . intro h;cases h
   . intro h;simp only[Value.ownBlock,Option.some.injEq] at hg h;subst hg h;rw[k1] at k2;simp only[Option.some.injEq,Obj.cells.injEq] at k2;exact hne k2.2.1
def stL (x:Stp) (v:Value):List Value:=[.int .i64 (x.nd:Int),.bool x.mkx,.string x.nm,v]
def qaB (l:List (Stp × Value)):List Value:=l.flatMap fun q=>stL q.1 q.2
def stCells_append (l m:List (Stp × Value)):qaB (l++m)=qaB l++qaB m:=by simp[qaB]
def stCells_one {l:List (Stp × Value)} (h:∀ q∈l,q.2.oneCell'=true):∀ u∈qaB l,u.oneCell'=true:=by
 intro u hu;obtain⟨q,hq,hu⟩:=List.mem_flatMap.1 hu;unfold stL at hu;simp only[List.mem_cons,List.not_mem_nil,or_false] at hu;rcases hu with rfl | rfl | rfl | rfl
 . rfl
 . rfl
 . rfl
 . exact h q hq
def own_one {base:Nat} {e:TypeId} (h:w.ownsRow base e size v n xs):v.oneCell'=true:=by
 rcases Go.Joins.ownsRow_forms h with ⟨rfl,_⟩ | ⟨g,c,rfl⟩<;>rfl
def StepsAt (B:Nat) (v:Value) (l:List Stp) (w:World):Prop:=∃ vs:List (Stp × Value),vs.map Prod.fst=l/\w.ownsRow B 215 4 v l.length (qaB vs)/\∀ q∈vs,w.ownsRow 0 9 1 q.2 q.1.sn.length (strV q.1.sn)
def StepsAt.ext (h:StepsAt B v l w) (hx:Ext w w'):StepsAt B v l w':=by
 obtain⟨vs,h1,h2,h3⟩:=h;exact⟨vs,h1,own_ext h2 hx,fun q hq=>own_ext (h3 q hq) hx⟩
def StepsAt.mono {B':Nat} (h:StepsAt B v l w) (hb:B'<=B):StepsAt B' v l w:=by
 obtain⟨vs,h1,h2,h3⟩:=h;exact⟨vs,h1,h2.mono hb,h3⟩
def StepsAt.nil (B:Nat) (w:World):StepsAt B (.slice none 0 0) [] w:=⟨[],rfl,World.ownsRow_nil _ _ _ _,fun q h=>by cases h⟩
def qdU {v':Value} {vs ms:List (Stp × Value)} {l k:List Stp} {w w1:World} (hl:vs.map Prod.fst=l) (hk:ms.map Prod.fst=k) (h2:w.ownsRow B 215 4 v l.length (qaB vs)) (h3:∀ q∈vs,w.ownsRow 0 9 1 q.2 q.1.sn.length (strV q.1.sn)) (hm:∀ q∈ms,w.ownsRow 0 9 1 q.2 q.1.sn.length (strV q.1.sn))
  (hr:w1.ownsRow B 215 4 v' (l.length+k.length) (qaB vs++qaB ms)) (hg:w.grownBy w1 v.ownBlock):StepsAt B v' (l++k) w1:=by
 have keep:∀ q:Stp × Value,w.ownsRow 0 9 1 q.2 q.1.sn.length (strV q.1.sn)->w1.ownsRow 0 9 1 q.2 q.1.sn.length (strV q.1.sn):=fun q hq=>own_block hq fun k hk hlt=>hg.block k hlt fun e=>qdr h2 hq zw k e.symm hk
 refine ⟨vs++ms,by rw[List.map_append,hl,hk],by rw[stCells_append,List.length_append];exact hr,fun q hq=>?_⟩;rcases List.mem_append.1 hq with h | h
 . exact keep q (h3 q h)
 . exact keep q (hm q h)
def st_one {l:List (Stp × Value)} {w:World} (h:∀ q∈l,w.ownsRow B 9 1 q.2 q.1.sn.length (strV q.1.sn)):∀ u∈qaB l,u.oneCell'=true:=stCells_one fun q hq=>own_one (h q hq)
def stInfo:(prog.info? 215).map (fun i=>(i.zero,i.size,i.bytes))=some (some (.agg #[.int .i64 0,.bool false,.string ⟨#[]⟩,.slice none 0 0]),4,56):=by kernel_rfl
def stepsE_len (ns:List Nd):∀ (f:Nat) (i:Int) (n:Nat) (sn:List ByteArray),Tr ns i n->(qay ns f i sn).length<=n
 | 0,_,_,_,_=>by simp[qay]
 | f+1,i,n,sn,t=>by
  by_cases hi:i<0
  . unfold qay;rw[if_pos hi];simp
  . obtain⟨j,z,na,nb,nc,nx,rfl,hz,ta,tb,tc,tx,rfl⟩:=qck t Y;have h1:=stepsE_len ns f _ _ sn ta;have h2:=stepsE_len ns f _ _ sn tb;unfold qay;rw[if_neg hi,Int.toNat_natCast,hz];dsimp only;rw[List.length_append,List.length_append]
    split<;>simp<;>omega
def stepsB_len (ns:List Nd):∀ (f:Nat) (i:Int) (n:Nat) (sn:List ByteArray),Tr ns i n->(qau ns f i sn).length<=2*n
 | 0,_,_,_,_=>by simp[qau]
 | f+1,i,n,sn,t=>by
  by_cases hi:i<0
  . unfold qau;rw[if_pos hi];simp
  . obtain⟨j,z,na,nb,nc,nx,rfl,hz,ta,tb,tc,tx,rfl⟩:=qck t Y;have h1:=stepsE_len ns f _ _ sn ta;have h2:=fun s=>stepsE_len ns f _ _ s tb
    have h3:=fun s=>stepsB_len ns f _ _ s tb
    have h4:=fun s=>stepsB_len ns f _ _ s tc
    have h5:=fun s=>stepsB_len ns f _ _ s tx
    unfold qau;rw[if_neg hi,Int.toNat_natCast,hz];dsimp only;rw[List.length_append,List.length_append]
    have h6:(qbK (qay ns f) (qau ns f) j z sn).length<=2+2*nb+2*nc:=by
     unfold qbK;split
     . simp;omega
     split
     . simp;omega
     split
     . have:=h2 sn;omega
     split
     . have:=h3 sn;have:=h4 sn;rw[List.length_append];omega
     split
     . have:=h3 (sn++[z.s]++[z.t]);simp at this ⊢;omega
     split
     . have:=h3 sn;omega
     . simp
    have:=h5 (if z.k=20 then sn++[z.s] else sn);omega
def strV_one (l:List ByteArray):∀ u∈strV l,u.oneCell'=true:=by
 intro u hu;obtain⟨s,_,rfl⟩:=List.mem_map.1 hu;rfl
def own_empty (w:World) (B:Nat) (hB:B<=w.heap.size) (e:TypeId) (size:Nat):(w.alloc (.cells #[] e (0,0))).ownsRow B e size (.slice (some ⟨w.heap.size,0,none⟩) 0 0) 0 [] :=
 ⟨zy,Or.inr ⟨w.heap.size,0,#[],rfl,hB,heap_alloc_new _ _,Nat.le_refl _,jq,zy,zy⟩⟩
def qbR {e:TypeId} (h:Ext W w) (ho:w.ownsRow W.heap.size e size v n xs) (hg:w.grownBy w' v.ownBlock):Ext W w':=h.grown hg fun k hk=>(ho.lt k hk).1
def Lex.gap1 {P:Program} {ops:Array Oper} {w0:World} {fin:Act->List (Tmp × Fact)->Prop} {o:Oper} {fl:List Bool} {rest:List Oper} {a:Act} {H:List (Tmp × Fact)} (t:Tmp) (Ψ:Fact) (t':Tmp) (Ψ':Fact) (ht:o.dst=some t) (hu:Upc Ψ) (hl:looks ops o H=[(t',Ψ')])
  (h:∀ u d os,Ψ' u (more w0 d os)->StepG P ops o (a.put (some t') u) (more w0 d os) Ψ) (k:Lex P ops w0 fin fl rest a ((t,Ψ)::H)):Lex P ops w0 fin (false::fl) (o::rest) a H :=
 Lex.hole t Ψ ht hu (fun W hE=>by rw[hl];obtain⟨d,os,rfl⟩:=hE;exact fun u hu=>h u d os hu) k
def qdz {l:List ByteArray} (h:w.ownsRow 0 9 1 sv l.length (strV l)) (hl:l.length<=4000) (s:ByteArray) :
  Calls prog 151 #[sv,.string s] w fun e w'=>∃ v,e=.returned v/\w'.ownsRow w.heap.size 9 1 v (l++[s]).length (strV (l++[s]))/\Ext w w':=by
 obtain⟨i0,hi,hz0,hz1,hz2⟩:=info_parts qeO;have H:=J h;have HL:=J hl;obtain⟨p,c,hv⟩:=qad h;obtain⟨n,hn⟩:∃ n,l.length=n:=⟨_,rfl⟩
 rw[hn] at hv;have HN:=J hn;have HV:=J hv;clear h hl hn hv;go_enter func151,ntmps151
 go_wp2_with (at_builtin;refine qag _ rfl _ _ 23 23 rfl w.heap.size 9 i0 (.string ⟨#[]⟩) 1 16 underlying23 hi hz0 hz1 hz2 rfl zw (.slice (some ⟨w.heap.size,0,none⟩) 0 0) 0 [] rfl (own_empty w w.heap.size (Nat.le_refl _) 9 1) sv l.length (strV l) rfl (qfm underlying23 (H.out.alloc _) (strV_one l)) (by unfold maxLen;have:=HL.out;omega) (by have:=HL.out;omega) zy ?_)
 intro v1 w1 hown hgrow hblk;have X1:=J (qbR ((Ext.refl w).alloc _) (own_empty w w.heap.size (Nat.le_refl _) 9 1) hgrow);have H1:=J hown;clear hown hgrow hblk
 go_wp2_with (at_builtin;refine wpList_append_own_at _ rfl _ _ 23 rfl w.heap.size 9 i0 (.string ⟨#[]⟩) 1 16 underlying23 hi hz0 hz1 hz2 rfl zw v1 l.length (strV l) rfl (H1.out.alloc _) ⟨_,0,none⟩ 1 1 [.string s] rfl rfl (qaq zy) ji (by unfold maxLen;have:=HL.out;omega) (by have:=HL.out;omega) (by simp;have:=X1.out.size;omega) ?_)
 intro v2 w2 hown hgrow _ hblk;have X2:=J (qbR (X1.out.alloc _) (H1.out.alloc _) hgrow);have H2:=J hown;clear hown hgrow hblk;go_wp2_with fail;go_ret;refine ⟨_,rfl,?_,X2.out⟩;have:=H2.out;unfold strV at this ⊢;rw[List.length_append,List.map_append];exact this
def qfS (fi:Int):∀ (f:Nat) (i:Int) (n:Nat) (sn:List ByteArray) (sv:Value) (w:World),Tr ns i n->n<=f->n<=600->w.ownsRow 0 166 8 nv ns.length (qac ns)->w.ownsRow 0 9 1 sv sn.length (strV sn) ->
  Calls prog 150 #[.agg #[nv,.int .i64 fi],.int .i64 i,sv] w fun e w'=>∃ v,e=.returned v/\StepsAt w.heap.size v (qay ns f i sn) w'/\Ext w w':=by
 intro f
 induction f with
 | zero =>
  intro i n sn sv w t hf hn hp hs
  have hi:i<0:=by
   by_cases hi:i<0
   . exact hi
   . obtain⟨j,z,na,nb,nc,nx,rfl,hz,ta,tb,tc,tx,rfl⟩:=qck t Y;omega
  obtain⟨pn,cn,hpv⟩:=qad hp;clear hp hs t;go_enter func150,ntmps150;go_wp2_with fail;go_ret
  exact⟨_,rfl,StepsAt.nil _ _,zq⟩
 | succ f ih =>
  intro i n sn sv w t hf hn hp hs;by_cases hi:i<0
  . have HE:qay ns (f+1) i sn=[]:=(by unfold qay;rw[if_pos hi])
    rw[HE];clear hp hs t ih HE;go_enter func150,ntmps150;go_wp2_with fail;go_ret;exact⟨_,rfl,StepsAt.nil _ _,zq⟩
  . obtain⟨j,⟨zk,za,zb,zc,zx,zi,zs,zt⟩,na,nb,nc,nx,rfl,hz,ta,tb,tc,tx,rfl⟩:=qck t Y;dsimp only at ta tb;have hj:=(List.getElem?_eq_some_iff.1 hz).1
    obtain⟨G,cap,rfl⟩:∃ G cap,nv=.slice (some ⟨G,0,none⟩) ns.length cap:=by
     rcases Go.Joins.ownsRow_forms hp with ⟨_,h0⟩ | ⟨g1,c1,h0⟩
     . omega
     . exact⟨g1,c1,h0⟩
    obtain⟨a0,a1,a2,a3,a4,a5,a6,a7⟩:=nd_at hp hz;dsimp only at a0 a1 a2 a3 a4 a5 a6 a7;have hG:=(hp.lt G rfl).2;have C1:=J (fun W' (hx:Ext w W')=>ih za na sn sv W' ta Y Y (own_ext hp hx) (own_ext hs hx));have C2:=J (fun W' (hx:Ext w W')=>ih zb nb sn sv W' tb Y Y (own_ext hp hx) (own_ext hs hx));have HST:Hid (qay ns (f+1) (j:Int) sn=(qay ns f za sn++qay ns f zb sn)++(if zk=4 then [⟨j,false,zs,sn⟩] else [])):=J (by rw[qay,if_neg hi,Int.toNat_natCast,hz]);have la:=stepsE_len ns f za na sn ta;have lb:=stepsE_len ns f zb nb sn tb;obtain⟨EA,hEA⟩:∃ x,qay ns f za sn=x:=⟨_,rfl⟩
    obtain⟨EB,hEB⟩:∃ x,qay ns f zb sn=x:=⟨_,rfl⟩
    rw[hEA] at C1 la;rw[hEB] at C2 lb;rw[hEA,hEB] at HST;have HLN:=J (show EA.length+EB.length<=600 from by omega);obtain⟨sp,sc,hsv⟩:=qad hs;obtain⟨sl,hsl⟩:∃ sl,sn.length=sl:=⟨_,rfl⟩
    rw[hsl] at hsv;subst hsv;have HP:=J hp;have HS:=J hs;obtain⟨n1,hn1⟩:∃ n1,ns.length=n1:=⟨_,rfl⟩
    have HN1:=J hn1;rw[hn1] at C1 C2 ⊢;have hj0:0<=(j:Int):=Y;have hjn:(j:Int)<(n1:Int):=Y;obtain⟨j0,hj,hy0,hy1,hy2⟩:=info_parts stInfo;clear hsl ih hp hs t ta tb tc tx hz hf hn hi hEA hEB la lb hn1;go_enter func150,ntmps150;go_wp2_with fail;refine qaa 9 39 (List.replicate 9 false) zv zv rfl ?_;refine zh ?_
    iterate 4 (refine Lex.step rfl ?_;intro K hK;unfold StepG;go_simp;refine hK _ ?_;clear hK K)
    refine Lex.gap 20 (fun v W'=>StepsAt (w.heap.size+1+1) v EA W') rfl (fun v W W' hx h=>h.ext hx) rfl (fun d os=>?_) ?_
    . unfold StepG;go_simp;exact(C1.out _ zq).mono fun e w' ⟨v,he,h,hx⟩=>⟨v,he,hx,h.mono (by first | (simp[more_size];done) | (simp[more_size];omega))⟩
    iterate 4 (refine Lex.step rfl ?_;intro K hK;unfold StepG;go_simp;refine hK _ ?_;clear hK K)
    refine Lex.nil fun WW hE=>?_
    obtain⟨dd,oo,rfl⟩:=hE;intro u1 hu1;have U1:=J hu1;clear hu1;unfold FillH;go_simp
    go_wp2_with (first
     | ((with_reducible refine (C2.out _ zq).mono ?_);rintro e' w2 ⟨u2,rfl,hu2,hx2⟩;obtain⟨vs1,hv1,ho1,hs1⟩:=U1.out.ext hx2;obtain⟨vs2,hv2,ho2,hs2⟩:=hu2;have O1:=J ho1;have S1:=J hs1;have V1:=J hv1;have O2:=J ho2;have S2:=J hs2;have V2:=J hv2;have X2:=J (show Ext ((w.alloc (.cells #[.slice (some ⟨G,0,none⟩) n1 cap,.int .i64 fi] 132 (0,0))).alloc (.cells #[.int .i64 zk,.int .i64 za,.int .i64 zb,.int .i64 zc,.int .i64 zx,.int .i64 zi,.string zs,.string zt] 166 (0,0))) w2 from Ext.trans zq hx2);have O2:=J (O2.out.mono (show w.heap.size+1+1<=_ from by first | (simp[more_size];done) | (simp[more_size];omega)));clear hx2 ho1 hs1 hv1 ho2 hs2 hv2)
     | (at_builtin;refine qag _ rfl _ _ 212 212 rfl (w.heap.size+1+1) 215 j0 (.agg #[.int .i64 0,.bool false,.string ⟨#[]⟩,.slice none 0 0]) 4 56 underlying212 hj hy0 hy1 hy2 rfl zw u1 EA.length (qaB vs1) rfl O1.out u2 EB.length (qaB vs2) rfl (qfm underlying212 O2.out (st_one S2.out)) (by unfold maxLen;have:=HLN.out;omega) (by have:=HLN.out;omega) (by have:=X2.out.size;simpa using this) ?_))
    intro v3 w3 hown hgrow _;have ST3:=J (qdU V1.out V2.out O1.out S1.out S2.out hown hgrow);obtain⟨vs3,hv3,ho3,hs3⟩:=ST3.out;have O3:=J ho3;have S3:=J hs3;have V3:=J hv3;clear ho3 hs3 hv3;have X3:=J (X2.out.grown hgrow fun k hk=>by have:=(O1.out.lt k hk).1;simpa using this);clear hown hgrow;have K0:=J ((KB.newAt (k:=w.heap.size+1) (w.alloc (.cells #[.slice (some ⟨G,0,none⟩) n1 cap,.int .i64 fi] 132 (0,0))) #[.int .i64 zk,.int .i64 za,.int .i64 zb,.int .i64 zc,.int .i64 zx,.int .i64 zi,.string zs,.string zt] 166 zy).of_ext X3.out);have XW:=J (show Ext w ((w.alloc (.cells #[.slice (some ⟨G,0,none⟩) n1 cap,.int .i64 fi] 132 (0,0))).alloc (.cells #[.int .i64 zk,.int .i64 za,.int .i64 zb,.int .i64 zc,.int .i64 zx,.int .i64 zi,.string zs,.string zt] 166 (0,0))) from zq);have hl3:=K0.out.lt;have y0:=K0.out.cell 0 _ rfl;have y6:=K0.out.cell 6 _ rfl;go_wp2_with fail;rw[ends_normal];by_cases hk:zk=4
    . have HST2:=J (HST.out.trans (by rw[if_pos hk]));subst hk;clear HST C1 C2
      go_wp2_with (at_builtin;refine wpList_append_own_at _ rfl _ _ 212 rfl (w.heap.size+1+1) 215 j0 (.agg #[.int .i64 0,.bool false,.string ⟨#[]⟩,.slice none 0 0]) 4 56 underlying212 hj hy0 hy1 hy2 rfl zw v3 (EA++EB).length (qaB vs3) rfl (O3.out.alloc _) ⟨_,0,none⟩ 1 1 [.int .i64 (j:Int),.bool false,.string zs,.slice sp sl sc] rfl rfl (qaq (by first | (simp;done) | simp[more_size])) zcf (by have:=HLN.out;rw[List.length_append];unfold maxLen;omega) (by have:=HLN.out;rw[List.length_append];omega) (by have:=X3.out.size;simp at this ⊢;omega) ?_)
      intro v4 w4 hown hgrow _ _;have ST4:=J (qdU (ms:=[(⟨j,false,zs,sn⟩,.slice sp sl sc)]) (k:=[⟨j,false,zs,sn⟩]) V3.out rfl (O3.out.alloc _) (fun q hq=>own_ext (S3.out q hq) zq) (fun q hq=>by rcases List.mem_singleton.1 hq with rfl;exact own_ext HS.out (XW.out.trans (X3.out.trans zq))) (by rw[List.length_append];exact hown) hgrow);have X4:=J ((X3.out.trans (show Ext w3 (w3.alloc _) from zq)).grown hgrow fun k hk=>by have:=(O3.out.lt k hk).1;simpa using this);clear hown hgrow;go_wp2_with fail;go_ret;exact⟨_,rfl,by rw[HST2.out];exact ST4.out.mono Y,XW.out.trans X4.out⟩
    . have HST2:=J (HST.out.trans (by rw[if_neg hk,List.append_nil]));have hk2:(zk==4)=false:=(by simpa using hk)
      clear HST C1 C2 hk;go_wp2_with fail;go_ret;exact⟨_,rfl,by rw[HST2.out];exact ST3.out.mono Y,XW.out.trans X3.out⟩
def own_kb_apart {b1:Nat} {e1:TypeId} {s1 n1:Nat} {v1:Value} {x1:List Value} {k:Nat} {cs:Array Value} {T:TypeId} (h1:w.ownsRow b1 e1 s1 v1 n1 x1) (h2:KB k cs T w) (hne:e1≠T):v1.ownBlock≠some k:=by
 rcases h1.2 with ⟨rfl,_⟩ | ⟨g1,c1,u1,rfl,_,k1,_⟩
 . intro h;cases h
 . intro h;simp only[Value.ownBlock,Option.some.injEq] at h;subst h;unfold KB at h2;rw[h2] at k1;simp only[Option.some.injEq,Obj.cells.injEq] at k1;exact hne k1.2.1.symm
structure RS (W0:World) (B kn:Nat) (cs:Array Value) (v:Value) (acc:List Stp) (sv:Value) (sn:List ByteArray) (w:World):Prop where
 steps:StepsAt B v acc w
 node:KB kn cs 166 w
 seen:w.ownsRow 0 9 1 sv sn.length (strV sn)
 ext:Ext W0 w
def RS.of_ext {cs:Array Value} (h:RS W0 B kn cs v acc sv sn w) (hx:Ext w w'):RS W0 B kn cs v acc sv sn w' :=
 ⟨h.steps.ext hx,h.node.of_ext hx,own_ext h.seen hx,h.ext.trans hx⟩
def RS.app {cs:Array Value} {v':Value} {k:List Stp} {vs ms:List (Stp × Value)} {sv:Value} {sn:List ByteArray} {w w1:World} (h:RS W0 B kn cs v l sv sn w) (hB:W0.heap.size<=B) (hl:vs.map Prod.fst=l) (hk:ms.map Prod.fst=k)
  (h2:w.ownsRow B 215 4 v l.length (qaB vs)) (h3:∀ q∈vs,w.ownsRow 0 9 1 q.2 q.1.sn.length (strV q.1.sn)) (hm:∀ q∈ms,w.ownsRow 0 9 1 q.2 q.1.sn.length (strV q.1.sn))
  (hr:w1.ownsRow B 215 4 v' (l.length+k.length) (qaB vs++qaB ms)) (hg:w.grownBy w1 v.ownBlock):RS W0 B kn cs v' (l++k) sv sn w1 :=
 ⟨qdU hl hk h2 h3 hm hr hg,(hg.block kn h.node.lt (Ne.symm (own_kb_apart h2 h.node zw))).trans h.node,
  own_block h.seen fun k hk hlt=>hg.block k hlt fun e=>qdr h2 h.seen zw k e.symm hk,h.ext.grown hg fun k hk=>Nat.le_trans hB (h2.lt k hk).1⟩
def RS.srcK {ops:Array Oper} {rest:List Oper} {o:Oper} {a:Act} {Q:Exit->Act->World->Prop} (hgd:o.guard=none) (s x:Operand)
  (ho:o.op=.call { callee:=.builtin .append,args:=#[s,x],argTypes:=#[212,212] })
  {W0:World} {B kn:Nat} {cs:Array Value} {v u:Value} {l k:List Stp} {sv:Value} {sn:List ByteArray} {w:World} (h:RS W0 B kn cs v l sv sn w) (hB:W0.heap.size=B) (hs:a.eval s=v) (hu:StepsAt 0 u k w) (hx:a.eval x=u) (hl:l.length+k.length<=1300)
  (H:∀ v' w',RS W0 B kn cs v' (l++k) sv sn w'->wpList prog ops Q rest (a.put o.dst v') w'):wpList prog ops Q (o::rest) a w:=by
 obtain⟨j0,hj,hy0,hy1,hy2⟩:=info_parts stInfo;obtain⟨vs,v1,v2,v3⟩:=h.steps;obtain⟨us,u1,u2,u3⟩:=hu
 exact qag w hgd s x 212 212 ho B 215 j0 (.agg #[.int .i64 0,.bool false,.string ⟨#[]⟩,.slice none 0 0]) 4 56 underlying212 hj hy0 hy1 hy2 rfl zw v l.length (qaB vs) hs v2 u k.length (qaB us) hx (qfm underlying212 u2 (st_one u3)) jq Y (hB ▸ h.ext.size)
  fun v' w' hown hgrow _=>H v' w' (h.app (Nat.le_of_eq hB) v1 u1 v2 v3 u3 hown hgrow)
def RS.re {cs:Array Value} {sv':Value} {sn':List ByteArray} (h:RS W0 B kn cs v acc sv sn w) (hx:Ext w w') (hs:w'.ownsRow 0 9 1 sv' sn'.length (strV sn')):RS W0 B kn cs v acc sv' sn' w' :=
 ⟨h.steps.ext hx,h.node.of_ext hx,hs,h.ext.trans hx⟩
def StepsAt.one {g j:Nat} {b:Bool} {u:Value} (h:KB g #[.int .i64 (j:Int),.bool b,.string t,u] 215 W) (hu:W.ownsRow 0 9 1 u sn.length (strV sn)):StepsAt 0 (.slice (some ⟨g,0,none⟩) 1 1) [⟨j,b,t,sn⟩] W :=
 ⟨[(⟨j,b,t,sn⟩,u)],rfl,⟨rfl,Or.inr ⟨g,1,_,rfl,Nat.zero_le _,h,Nat.le_refl _,jq,rfl,rfl⟩⟩,fun q hq=>by rcases List.mem_singleton.1 hq with rfl;exact hu⟩
def RS.look {k1:Nat} {cs ps:Array Value} (h:RS W0 B kn cs v acc sv sn w) (hp:∀ W,Ext W0 W->KB k1 ps 132 W) :
  (kn<w.heap.size/\∀ i v,cs[i]?=some v->w.cell? ⟨kn,i,none⟩=some v)/\k1<w.heap.size/\∀ i v,ps[i]?=some v->w.cell? ⟨k1,i,none⟩=some v :=
 ⟨⟨h.node.lt,fun i v hv=>h.node.cell i v hv⟩,(hp w h.ext).lt,fun i v hv=>(hp w h.ext).cell i v hv⟩
def StAgg (j:Int) (t:ByteArray) (sn:List ByteArray) (m:Nat) (v:Value) (W:World):Prop:=∃ u,v=.agg #[.int .i64 j,.bool true,.string t,u]/\W.ownsRow 0 9 1 u m (strV sn)
def StAgg.ext {j:Int} {m:Nat} {W':World} (h:StAgg j t sn m v W) (hx:Ext W W'):StAgg j t sn m v W':=by
 obtain⟨u,h1,h2⟩:=h;exact⟨u,h1,own_ext h2 hx⟩
def StNew (j:Int) (t:ByteArray) (sn:List ByteArray) (m:Nat) (v:Value) (W:World):Prop:=∃ u g,v=.slice (some ⟨g,0,none⟩) 1 1/\KB g #[.int .i64 j,.bool true,.string t,u] 215 W/\W.ownsRow 0 9 1 u m (strV sn)
def StNew.ext {j:Int} {m:Nat} {W':World} (h:StNew j t sn m v W) (hx:Ext W W'):StNew j t sn m v W':=by
 obtain⟨u,g,h1,h2,h3⟩:=h;exact⟨u,g,h1,h2.of_ext hx,own_ext h3 hx⟩
def RB (nv:Value) (fi:Int) (ns:List Nd) (f:Nat):Prop:=∀ (i:Int) (n:Nat) (sn:List ByteArray) (sv:Value) (w:World),Tr ns i n->n<=f->n<=600->sn.length+2*n<=2000->w.ownsRow 0 166 8 nv ns.length (qac ns)->w.ownsRow 0 9 1 sv sn.length (strV sn) ->
  Calls prog 121 #[.agg #[nv,.int .i64 fi],.int .i64 i,sv] w fun e w'=>∃ v,e=.returned v/\StepsAt w.heap.size v (qau ns f i sn) w'/\Ext w w'
def srblock_of (fi:Int) (f:Nat) (ih:∀ g,g<f->RB nv fi ns g):RB nv fi ns f:=by
  intro i n sn sv w t hf hn hsn hp hs;obtain⟨j0,hj,hy0,hy1,hy2⟩:=info_parts stInfo;obtain⟨pn,cn,hnv⟩:=qad hp;subst hnv;obtain⟨nl,hnl⟩:∃ nl,ns.length=nl:=⟨_,rfl⟩
  have HNL:=J hnl;rw[hnl] at ih ⊢;have IH:=J ih;have HP:=J (fun W' (hx:Ext w W')=>(own_ext hp hx));have HS:=J hs;have HT:=J t;have HLB:=J (stepsB_len ns f i n sn t);obtain⟨TOT,hTOT⟩:∃ TOT,qau ns f i sn=TOT:=⟨_,rfl⟩
  rw[hTOT] at HLB ⊢;have HTOT:=J hTOT;have HFN:=J (show n<=f/\n<=600/\sn.length+2*n<=2000 from⟨hf,hn,hsn⟩);clear ih hp hs t hTOT hf hn hsn hnl;go_enter func121,ntmps121;go_wp2_with fail;have XW0:=J (show Ext w (w.alloc (.cells #[.slice pn nl cn,.int .i64 fi] 132 (0,0))) from zq);have KPX:=J (show ∀ wr,Ext (w.alloc (.cells #[.slice pn nl cn,.int .i64 fi] 132 (0,0))) wr->KB w.heap.size #[.slice pn nl cn,.int .i64 fi] 132 wr from fun wr hx=>(KB.new w _ _).of_ext hx);have hszB:(w.alloc (.cells #[.slice pn nl cn,.int .i64 fi] 132 (0,0))).heap.size=w.heap.size+1:=zy;have HBW:=J (Nat.le_succ w.heap.size);generalize hBQ:w.heap.size+1=BQ at *;generalize hW0:w.alloc (.cells #[.slice pn nl cn,.int .i64 fi] 132 (0,0))=W0 at *;have HBQ:=J (Nat.le_of_eq hszB);have HBQ2:=J hszB;generalize hk1:w.heap.size=k1 at *;have HK1:=J hk1;have HKB:=J (show k1<=BQ from by omega);clear hBQ hW0 hk1 hszB
  go_loopg [1,2,7] f (fun g yi ys yl wr=>∃ (i':Int) (sn':List ByteArray) (acc:List Stp) (n':Nat),yi=.int .i64 i'/\Tr ns i' n'/\n'<=g/\g<=f/\n'<=600/\acc++qau ns g i' sn'=TOT/\StepsAt BQ yl acc wr/\wr.ownsRow 0 9 1 ys sn'.length (strV sn')/\Ext W0 wr/\acc.length+2*n'<=1300/\sn'.length+2*n'<=2000)
  case atStart=>exact⟨i,sn,[],n,rfl,HT.out,HFN.out.1,Nat.le_refl _,HFN.out.2.1,HTOT.out,StepsAt.nil _ _,own_ext HS.out XW0.out,Ext.refl _,by have:=HFN.out;simp;omega,HFN.out.2.2⟩
  case round =>
    obtain⟨i',sn',acc,n',rfl,t,hg1,hg2,hn6,htot,hst,hse,hx,hbd,hsl⟩:=hrel;have KP:=J (KPX.out _ hx);have xp:=KP.out.cell 0 _ rfl;have xq:=KP.out.cell 1 _ rfl;have pl:=KP.out.lt;by_cases hi:i'<0
    . have HR:=J (show acc=TOT from by rw[<-htot];cases gk<;>(unfold qau;try rw[if_pos hi])<;>simp);have HST:=J hst;have HX:=J hx;clear t hg1 hg2 hn6 htot hst hse hx hbd hsl;go_wp2_with fail;go_ret;exact⟨_,rfl,by rw[<-HR.out];exact HST.out.mono (by rw[HK1.out];exact HKB.out),XW0.out.trans HX.out⟩
    obtain⟨j,⟨zk,za,zb,zc,zx,zi,zs,zt⟩,na,nb,nc,nx,rfl,hz,ta,tb,tc,tx,rfl⟩:=qck t Y;obtain⟨g0,rfl⟩:∃ g0,gk=g0+1:=⟨gk-1,Y⟩
    dsimp only at ta tb tc tx;have hjl:=(List.getElem?_eq_some_iff.1 hz).1;have hpr:=HP.out wr (XW0.out.trans hx)
    obtain⟨G,rfl⟩:∃ G,pn=some ⟨G,0,none⟩:=by
      rcases Go.Joins.ownsRow_forms hpr with ⟨_,h0⟩ | ⟨g1,c1,h0⟩
      . omega
      . simp only[Value.slice.injEq] at h0;exact⟨g1,h0.1⟩
    have hpr2:=hpr;rw[HNL.out] at hpr2;obtain⟨a0,a1,a2,a3,a4,a5,a6,a7⟩:=nd_at hpr2 hz;dsimp only at a0 a1 a2 a3 a4 a5 a6 a7;have hG:=(hpr2.lt G rfl).2;have hj0:0<=(j:Int):=Y;have hjn:(j:Int)<(nl:Int):=(by have:=HNL.out;omega)
    have HTOT2:=J htot;rw[show qau ns (g0+1) (j:Int) sn'=(qay ns g0 za sn'++qbK (qay ns g0) (qau ns g0) j ⟨zk,za,zb,zc,zx,zi,zs,zt⟩ sn')++qau ns g0 zx (if zk=20 then sn'++[zs] else sn') from by rw[qau,if_neg hi,Int.toNat_natCast,hz]] at HTOT2;have PR:=J (fun W' (hw:Ext W0 W')=>HP.out W' (XW0.out.trans hw));have CA:=J (fun W' (hw:Ext W0 W') sv' (hs:W'.ownsRow 0 9 1 sv' sn'.length (strV sn'))=>qfS fi g0 za na sn' sv' W' ta Y Y (PR.out W' hw) hs);obtain⟨sp,sc,hsv⟩:=qad hse;have PN:=J (fun W' (hw:Ext W0 W')=>show W'.ownsRow 0 166 8 (.slice (some ⟨G,0,none⟩) nl cn) ns.length (qac ns) from by have:=PR.out W' hw;rw[HNL.out] at this ⊢;exact this);have CX:=J (fun W' (hw:Ext W0 W') sv' (hs:W'.ownsRow 0 9 1 sv' sn'.length (strV sn'))=>qfS fi g0 zb nb sn' sv' W' tb Y Y (PR.out W' hw) hs);rw[HNL.out] at CA CX;have CB:=J (fun s1 (h1:s1.length<=sn'.length+2) W' (hw:Ext W0 W') sv' (hs:W'.ownsRow 0 9 1 sv' s1.length (strV s1))=>IH.out g0 Y zb nb s1 sv' W' tb Y Y Y (PN.out W' hw) hs);have CC:=J (fun W' (hw:Ext W0 W') sv' (hs:W'.ownsRow 0 9 1 sv' sn'.length (strV sn'))=>IH.out g0 Y zc nc sn' sv' W' tc Y Y Y (PN.out W' hw) hs);have HBD:=J (show acc.length+2*(1+(na+(nb+(nc+nx))))<=1300/\(qay ns g0 za sn').length<=na/\(qay ns g0 zb sn').length<=nb/\(qau ns g0 zb sn').length<=2*nb/\(qau ns g0 zc sn').length<=2*nc/\(qau ns g0 zb (sn'++[zs,zt])).length<=2*nb from⟨hbd,stepsE_len ns g0 za na sn' ta,stepsE_len ns g0 zb nb sn' tb,stepsB_len ns g0 zb nb sn' tb,stepsB_len ns g0 zc nc sn' tc,stepsB_len ns g0 zb nb _ tb⟩)
    obtain⟨sl,hsl2⟩:∃ sl,sn'.length=sl:=⟨_,rfl⟩
    rw[hsl2] at hsv;subst hsv;have HG2:=J (show 1+(na+(nb+(nc+nx)))<=g0+1/\g0+1<=f/\1+(na+(nb+(nc+nx)))<=600/\sn'.length+2*(1+(na+(nb+(nc+nx))))<=2000 from⟨hg1,hg2,hn6,hsl⟩);have TX:=J tx;have R:=J (show RS W0 BQ wr.heap.size #[.int .i64 zk,.int .i64 za,.int .i64 zb,.int .i64 zc,.int .i64 zx,.int .i64 zi,.string zs,.string zt] u7 acc (.slice sp sl sc) sn' (wr.alloc (.cells #[.int .i64 zk,.int .i64 za,.int .i64 zb,.int .i64 zc,.int .i64 zx,.int .i64 zi,.string zs,.string zt] 166 (0,0))) from⟨hst.ext ((Ext.refl _).alloc _),KB.new _ _ _,hse.alloc _,hx.alloc _⟩);have hj0:0<=(j:Int):=Y;generalize hkn:wr.heap.size=kn at *;clear t ta tb tc tx hz hg1 hg2 hn6 htot hst hse hx hbd hsl hsl2 hpr hpr2 hi hjl
    go_wp2_with (first
      | ((with_reducible refine (CA.out _ R.out.ext _ R.out.seen).mono ?_);rintro e' w ⟨u,rfl,hu,hx⟩;have R:=J (R.out.of_ext hx);have U:=J (hu.mono (Nat.zero_le _));clear hu hx)
      | ((with_reducible refine (CX.out _ R.out.ext _ R.out.seen).mono ?_);rintro e' w ⟨u,rfl,hu,hx⟩;have R:=J (R.out.of_ext hx);have U:=J (hu.mono (Nat.zero_le _));clear hu hx)
      | ((with_reducible refine (CB.out _ Y _ R.out.ext _ R.out.seen).mono ?_);rintro e' w ⟨u,rfl,hu,hx⟩;have R:=J (R.out.of_ext hx);have U:=J (hu.mono (Nat.zero_le _));clear hu hx)
      | ((with_reducible refine (CC.out _ R.out.ext _ R.out.seen).mono ?_);rintro e' w ⟨u,rfl,hu,hx⟩;have R:=J (R.out.of_ext hx);have U:=J (hu.mono (Nat.zero_le _));clear hu hx)
      | ((with_reducible refine (qdz R.out.seen (by have:=HG2.out;omega) zs).mono ?_);rintro e' w ⟨v,rfl,hv,hx⟩;have R:=J (R.out.re hx (hv.mono (Nat.zero_le _)));clear hv hx;obtain⟨⟨xl,KN⟩,pl,KP⟩:=R.out.look KPX.out;have xk:=KN 0 _ rfl;have xb:=KN 2 _ rfl;have xc:=KN 3 _ rfl;have xx:=KN 4 _ rfl;have xs:=KN 6 _ rfl;have xt:=KN 7 _ rfl;have xp:=KP 0 _ rfl;have xq:=KP 1 _ rfl;clear KN KP)
      | (at_builtin;refine RS.srcK rfl _ _ rfl R.out HBQ2.out rfl U.out rfl zau ?_;intro v w h;have R:=J h;clear h;obtain⟨⟨xl,KN⟩,pl,KP⟩:=R.out.look KPX.out;have xk:=KN 0 _ rfl;have xb:=KN 2 _ rfl;have xc:=KN 3 _ rfl;have xx:=KN 4 _ rfl;have xs:=KN 6 _ rfl;have xt:=KN 7 _ rfl;have xp:=KP 0 _ rfl;have xq:=KP 1 _ rfl;clear KN KP)
      | (at_builtin;refine RS.srcK rfl _ _ rfl (R.out.of_ext ((Ext.refl _).alloc _)) HBQ2.out rfl (StepsAt.one (KB.new _ _ _) (R.out.seen.alloc _)) rfl zau ?_;intro v w h;have R:=J h;clear h;obtain⟨⟨xl,KN⟩,pl,KP⟩:=R.out.look KPX.out;have xk:=KN 0 _ rfl;have xb:=KN 2 _ rfl;have xc:=KN 3 _ rfl;have xx:=KN 4 _ rfl;have xs:=KN 6 _ rfl;have xt:=KN 7 _ rfl;have xp:=KP 0 _ rfl;have xq:=KP 1 _ rfl;clear KN KP))
    all_goals first
      | (go_roundg g0
         case measure=>omega
         case rel=>exact⟨zx,_,_,nx,rfl,TX.out,by have:=HG2.out;omega,by have:=HG2.out;omega,by have:=HG2.out;omega,(by rw[<-HTOT2.out];unfold qbK;simp_all[List.append_assoc]),R.out.steps,R.out.seen,R.out.ext,zau,by have:=HG2.out;(try simp only[List.length_append,List.length_cons,List.length_nil] at this ⊢);omega⟩)
      | skip
    refine qaa 10 120 (List.replicate 10 false) zv zv rfl ?_;refine zh ?_
    iterate 7 (refine Lex.step rfl ?_;intro K hK;unfold StepG;go_simp;refine hK _ ?_;clear hK K)
    refine Lex.gap 91 (fun v W'=>W'.ownsRow 0 9 1 v (sn'.length+1) (strV (sn'++[zs]))) rfl (fun v W W' hx h=>own_ext h hx) rfl (fun d os=>?_) ?_
    . unfold StepG;go_simp;exact(qdz (own_ext R.out.seen ((Ext.refl _).more d os)) (by have:=HG2.out;omega) zs).mono fun e w' ⟨v,he,h,hx⟩=>⟨v,he,hx,by have h':=h.mono (Nat.zero_le _);rw[List.length_append] at h';exact h'⟩
    refine Lex.gap1 92 (StAgg (j:Int) zt (sn'++[zs]) (sn'.length+1)) 91 (fun v W'=>W'.ownsRow 0 9 1 v (sn'.length+1) (strV (sn'++[zs]))) rfl (fun v W W' hx h=>h.ext hx) rfl (fun u d os hu=>?_) ?_
    . have HU:=J hu;obtain⟨up,uc,huv⟩:=qad hu;subst huv;clear hu;unfold StepG;go_simp;exact⟨_,rfl,HU.out⟩
    refine Lex.gap1 93 (StNew (j:Int) zt (sn'++[zs]) (sn'.length+1)) 92 (StAgg (j:Int) zt (sn'++[zs]) (sn'.length+1)) rfl (fun v W W' hx h=>h.ext hx) rfl (fun u d os hu=>?_) ?_
    . obtain⟨u2,rfl,hu⟩:=hu;have HU:=J hu;obtain⟨up,uc,huv⟩:=qad hu;subst huv;clear hu;unfold StepG;go_simp;exact⟨(Ext.refl _).alloc _,_,_,rfl,(by have:=heap_alloc_new (more w d os) (.cells #[.int .i64 (j:Int),.bool true,.string zt,.slice up (sn'.length+1) uc] 215 (0,0));simp only[more_size] at this;exact this),HU.out.alloc _⟩
    refine Lex.nil fun WW hE=>?_
    obtain⟨dd,oo,rfl⟩:=hE;intro u93 hu93 u92 _ u91 _;obtain⟨u,g93,rfl,hg93,hu⟩:=hu93;have U:=J (StepsAt.one (sn:=sn'++[zs]) hg93 (by rw[List.length_append];exact hu));clear hu hg93;have R:=J (R.out.of_ext ((Ext.refl _).more dd oo));unfold FillH;go_simp
    go_wp2_with (at_builtin;refine RS.srcK rfl _ _ rfl R.out HBQ2.out rfl U.out rfl zau ?_;intro v w h;have R:=J h;clear h;obtain⟨⟨xl,KN⟩,pl,KP⟩:=R.out.look KPX.out;have xk:=KN 0 _ rfl;have xb:=KN 2 _ rfl;have xc:=KN 3 _ rfl;have xx:=KN 4 _ rfl;have xs:=KN 6 _ rfl;have xt:=KN 7 _ rfl;have xp:=KP 0 _ rfl;have xq:=KP 1 _ rfl;clear KN KP)
    rw[ends_normal];go_wp2_with fail;refine qaa 11 120 [true,false,false,false,false,false,false,false,false,false,false] zv zv rfl ?_;refine zh ?_
    (refine Lex.stepP rfl rfl ?_;intro K hK;go_simp;refine hK _ ?_;clear hK K)
    iterate 6 (refine Lex.step rfl ?_;intro K hK;unfold StepG;go_simp;refine hK _ ?_;clear hK K)
    refine Lex.gap 102 (fun v W'=>W'.ownsRow 0 9 1 v (sn'.length+1) (strV (sn'++[zs]))) rfl (fun v W W' hx h=>own_ext h hx) rfl (fun d os=>?_) ?_
    . unfold StepG;go_simp;exact(qdz (own_ext R.out.seen ((Ext.refl _).more d os)) (by have:=HG2.out;omega) zs).mono fun e w' ⟨v,he,h,hx⟩=>⟨v,he,hx,by have h':=h.mono (Nat.zero_le _);rw[List.length_append] at h';exact h'⟩
    iterate 2 (refine Lex.step rfl ?_;intro K hK;unfold StepG;go_simp;refine hK _ ?_;clear hK K)
    refine Lex.gap1 105 (fun v W'=>W'.ownsRow 0 9 1 v (sn'.length+1+1) (strV (sn'++[zs,zt]))) 102 (fun v W'=>W'.ownsRow 0 9 1 v (sn'.length+1) (strV (sn'++[zs]))) rfl (fun v W W' hx h=>own_ext h hx) rfl (fun u d os hu=>?_) ?_
    . have HU:=J hu;clear hu;unfold StepG;go_simp;exact(qdz (l:=sn'++[zs]) (by rw[List.length_append];exact HU.out) (by have:=HG2.out;rw[List.length_append];simp;omega) zt).mono fun e w' ⟨v,he,h,hx⟩=>⟨v,he,hx,by have h':=h.mono (Nat.zero_le _);rw[List.append_assoc,List.length_append] at h';exact h'⟩
    refine Lex.nil fun WW hE=>?_
    obtain⟨dd2,oo2,rfl⟩:=hE;intro u105 hu105 u102 hu102;have U105:=J (show(more w dd2 oo2).ownsRow 0 9 1 u105 (sn'++[zs,zt]).length (strV (sn'++[zs,zt])) from by rw[List.length_append];exact hu105);clear hu105 hu102;unfold FillH;go_simp;have R:=J (R.out.of_ext ((Ext.refl _).more dd2 oo2))
    go_wp2_with (first
      | ((with_reducible refine (CB.out _ zy _ R.out.ext u105 U105.out).mono ?_);rintro e' w ⟨u,rfl,hu,hx⟩;have R:=J (R.out.of_ext hx);have U:=J (hu.mono (Nat.zero_le _));clear hu hx)
      | (at_builtin;refine RS.srcK rfl _ _ rfl R.out HBQ2.out rfl U.out rfl zau ?_;intro v w h;have R:=J h;clear h;obtain⟨⟨xl,KN⟩,pl,KP⟩:=R.out.look KPX.out;have xk:=KN 0 _ rfl;have xb:=KN 2 _ rfl;have xc:=KN 3 _ rfl;have xx:=KN 4 _ rfl;have xs:=KN 6 _ rfl;have xt:=KN 7 _ rfl;have xp:=KP 0 _ rfl;have xq:=KP 1 _ rfl;clear KN KP))
    rw[ends_normal];go_wp2_with fail
    go_roundg g0
    case measure=>omega
    case rel=>exact⟨zx,_,_,nx,rfl,TX.out,by have:=HG2.out;omega,by have:=HG2.out;omega,by have:=HG2.out;omega,(by rw[<-HTOT2.out];unfold qbK;simp_all[List.append_assoc]),R.out.steps,R.out.seen,R.out.ext,zau,by have:=HG2.out;(try simp only[List.length_append,List.length_cons,List.length_nil] at this ⊢);omega⟩
def srblock_all (fi:Int):∀ f,RB nv fi ns f:=by
 intro f
 induction f using Nat.strongRecOn with
 | _ f ih=>exact srblock_of fi f ih
end Go.Proofs.YtpnabjopfpdkhaaGreatDoor
