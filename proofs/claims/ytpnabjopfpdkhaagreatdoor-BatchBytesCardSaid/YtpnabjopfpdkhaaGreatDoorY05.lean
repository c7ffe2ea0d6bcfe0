/- Lemmas. -/
import Derived.Test.YtpnabjopfpdkhaaGreatDoorY03
import Derived.Deep.DeepCutAuto
import Derived.Deep.CutBlock
import Derived.RegionTactic
import Derived.Carry
import Derived.SizedLaws
import Derived.ChangeSlices
set_option linter.all false
set_option maxHeartbeats 8000000
set_option maxRecDepth 20000
namespace Go.Proofs.YtpnabjopfpdkhaaGreatDoor
open Tryz RowKit
variable {W w:World} {H base c k n:Nat} {nv:Value} {ns:List Nd} {fi:Int} {g:Nat->Nat}
attribute [go_sem] more_more Array.size_append
def addB_id (A:Bool) (a:Int) (g:Nat->Nat) (h:A=true->a=-1) (j:Nat):g j=addB A a g j:=by
 unfold addB pone;cases A
 . simp
 . rw[h rfl,if_pos rfl,if_neg Y];rfl
def CkSt.idB (h:CkSt W c H nv ns fi n g w) (A:Bool) (a:Int) (e:A=true->a=-1):CkSt W c H nv ns fi n (addB A a g) w:=h.congr fun j _=>addB_id A a g e j
def KB.alloc {cs:Array Value} {T:TypeId} (h:KB k cs T w) (b:Obj):KB k cs T (w.alloc b):=h.of_ext ((Ext.refl w).alloc b)
def KB.more {cs:Array Value} {T:TypeId} (h:KB k cs T w) (d:Nat) (os:Array Obj):KB k cs T (more w d os):=h.of_ext ((Ext.refl w).more d os)
def KB.newAt (w:World) (cs:Array Value) (T:TypeId) (h:k=w.heap.size):KB k cs T (w.alloc (.cells cs T (0,0))):=by subst h;exact KB.new w cs T
def qdY (z:Nd):Bool:=qcm z.k&&numOk z.k z.c z.i&&(txt1 z.t (shT z.k)&&txt2 z.k z.s (shS z.k))
def aB (ns:List Nd) (i:Nat) (z:Nd):Bool:=if shA z.k=true then qam ns z.a 0 i false else z.a==-1
def bB (ns:List Nd) (i:Nat) (z:Nd):Bool:=if shB z.k=true then qam ns z.b 0 i false else if shBB z.k=true then blkB ns z.b i else z.b==-1
def cB (ns:List Nd) (i:Nat) (z:Nd):Bool:=z.c==-1||(shBC z.k&&blkB ns z.c i)
def xB (ns:List Nd) (i:Nat) (z:Nd):Bool:=z.x==-1||(decide (20<=z.k)&&qam ns z.x ((i:Int)+1) ns.length true)
def nodeB (ns:List Nd) (i:Nat) (z:Nd):Bool:=qdY z&&(aB ns i z&&bB ns i z&&cB ns i z&&xB ns i z)
def node_u (h:CkSt W c H nv ns fi n g w) (j:Nat) (zk za zb zc zx zi:Int) (zs zt:ByteArray) (hz:ns[j]?=some ⟨zk,za,zb,zc,zx,zi,zs,zt⟩) (hs:zs.size<=maxLen) (hb:∀ j,j<n->g j<=8000) (hn:n<=512)
  (k1:qcm zk=true) (k2:numOk zk zc zi=true) (k3:(txt1 zt (shT zk)&&txt2 zk zs (shS zk))=true) :
  Calls prog 169 #[.pointer (some ⟨c,0,none⟩),.int .i64 (j:Int)] w fun e w'=>e=.returned (.bool (aB ns j ⟨zk,za,zb,zc,zx,zi,zs,zt⟩&&bB ns j ⟨zk,za,zb,zc,zx,zi,zs,zt⟩&&cB ns j ⟨zk,za,zb,zc,zx,zi,zs,zt⟩&&xB ns j ⟨zk,za,zb,zc,zx,zi,zs,zt⟩)) /\
   CkSt W c H nv ns fi n (addB (xB ns j ⟨zk,za,zb,zc,zx,zi,zs,zt⟩) zx (addB (cB ns j ⟨zk,za,zb,zc,zx,zi,zs,zt⟩) zc (addB (bB ns j ⟨zk,za,zb,zc,zx,zi,zs,zt⟩) zb (addB (aB ns j ⟨zk,za,zb,zc,zx,zi,zs,zt⟩) za g)))) w':=by
 have hj:j<n:=by have:=(List.getElem?_eq_some_iff.1 hz).1;have:=h.base.2.2.2;omega
 have hp:∃ G cap,nv=.slice (some ⟨G,0,none⟩) n cap:=by
  rcases Go.Joins.ownsRow_forms h.row with ⟨_,h0⟩ | ⟨g1,c1,h0⟩
  . omega
  . exact⟨g1,c1,h0⟩
 obtain⟨G,cap,rfl⟩:=hp;obtain⟨a0,a1,a2,a3,a4,a5,a6,a7⟩:=nd_at h.row hz;dsimp only at a0 a1 a2 a3 a4 a5 a6 a7;have hG:=(h.row.lt G rfl).2;obtain⟨c0,c1,c2,lc,lH⟩:=h.facts;have HS0:=J h;have HB0:=J hb;have SH:=J (fun w1=>shape_any zk w1);rw[k1] at SH;have NM:=J (fun w1=>num_any zk za zb zc zx zi zs zt w1);rw[k2] at NM;have TX:=J (fun w1=>texts_x zk za zb zc zx zi zs zt hs (shA zk) (shB zk) (shBB zk) (shBC zk) (shS zk) (shT zk) w1);rw[k3] at TX;obtain⟨zz,hzz⟩:∃ zz:Nd,zz=⟨zk,za,zb,zc,zx,zi,zs,zt⟩:=⟨_,rfl⟩
 rw[<-hzz];have EA:=J (show aB ns j zz=if shA zk=true then qam ns za 0 (j:Int) false else za==-1 from by rw[hzz];rfl);have EB:=J (show bB ns j zz=if shB zk=true then qam ns zb 0 (j:Int) false else if shBB zk=true then blkB ns zb (j:Int) else zb==-1 from by rw[hzz];rfl);have EC:=J (show cB ns j zz=(zc==-1||(shBC zk&&blkB ns zc (j:Int))) from by rw[hzz];rfl);have EX:=J (show xB ns j zz=(zx==-1||(decide (20<=zk)&&qam ns zx ((j:Int)+1) n true)) from by rw[hzz,<-h.base.2.2.2];rfl);obtain⟨sA,hA⟩:∃ b,shA zk=b:=⟨_,rfl⟩
 obtain⟨sB,hB⟩:∃ b,shB zk=b:=⟨_,rfl⟩
 obtain⟨sBB,hBB⟩:∃ b,shBB zk=b:=⟨_,rfl⟩
 obtain⟨sBC,hBC⟩:∃ b,shBC zk=b:=⟨_,rfl⟩
 obtain⟨bS,hS⟩:∃ bS,shS zk=bS:=⟨_,rfl⟩
 obtain⟨bT,hT⟩:∃ bT,shT zk=bT:=⟨_,rfl⟩
 obtain⟨A,hAq⟩:∃ b,aB ns j zz=b:=⟨_,rfl⟩
 obtain⟨B,hBq⟩:∃ b,bB ns j zz=b:=⟨_,rfl⟩
 obtain⟨C,hCq⟩:∃ b,cB ns j zz=b:=⟨_,rfl⟩
 obtain⟨X,hXq⟩:∃ b,xB ns j zz=b:=⟨_,rfl⟩
 rw[hA,hB,hBB,hBC,hS,hT] at SH TX;rw[hAq,hA] at EA;rw[hBq,hB,hBB] at EB;rw[hCq,hBC] at EC;rw[hXq] at EX;rw[hAq,hBq,hCq,hXq];have hj0:0<=(j:Int):=Y;have hjn:(j:Int)<(n:Int):=Y;have hn0:(n:Int)<=512:=Y;clear h hb hz hs k1 k2 k3 hA hB hBB hBC hS hT hj c1 c2 hzz hAq hBq hCq hXq;have HNE:=J (show w.heap.size≠H from by omega);have HLH:=J lH;go_enter func169,ntmps169
 go_upto_if 43 with (first
   | (((with_reducible refine (SH.out _).mono ?_);rintro e' _ ⟨rfl,d1,os1,rfl⟩))
   | (((with_reducible refine (NM.out _).mono ?_);rintro e' _ ⟨rfl,d2,os2,rfl⟩))
   | (((with_reducible refine (TX.out _).mono ?_);rintro e' _ ⟨rfl,d3,os3,rfl⟩)))
 obtain⟨W1,hW⟩:∃ W1,more ((more (w.alloc (.cells #[.int .i64 zk,.int .i64 za,.int .i64 zb,.int .i64 zc,.int .i64 zx,.int .i64 zi,.string zs,.string zt] 166)) d1 os1).alloc (.cells #[.bool sA,.bool sB,.bool sBB,.bool sBC,.bool bS,.bool bT] 261)) d3 (os2++os3)=W1:=⟨_,rfl⟩
 show Code.wp _ _ _ _ (more ((more (w.alloc (.cells #[.int .i64 zk,.int .i64 za,.int .i64 zb,.int .i64 zc,.int .i64 zx,.int .i64 zi,.string zs,.string zt] 166)) d1 os1).alloc (.cells #[.bool sA,.bool sB,.bool sBB,.bool sBC,.bool bS,.bool bT] 261)) d3 (os2++os3))
 rw[hW]
 have Q1:=J (show CkSt W c H (.slice (some ⟨G,0,none⟩) n cap) ns fi n g W1/\KB w.heap.size #[.int .i64 zk,.int .i64 za,.int .i64 zb,.int .i64 zc,.int .i64 zx,.int .i64 zi,.string zs,.string zt] 166 W1/\KB (w.heap.size+1+os1.size) #[.bool sA,.bool sB,.bool sBB,.bool sBC,.bool bS,.bool bT] 261 W1 from by
  rw[<-hW]
  exact⟨((HS0.out.alloc _).more _ _ |>.alloc _).more _ _,(((KB.new _ _ _).more _ _).alloc _).more _ _,(KB.newAt (k:=w.heap.size+1+os1.size) _ _ _ (by first | simp[more_size] | (rw[more_size];rfl))).more _ _⟩)
 clear hW a0 a1 a2 a3 a4 a5 a6 a7 c0 hG lc lH;obtain⟨b5,hb5⟩:∃ b5,w.heap.size=b5:=⟨_,rfl⟩
 obtain⟨b6,hb6⟩:∃ b6,b5+1+os1.size=b6:=⟨_,rfl⟩
 have N5:=J (show b5≠H from by rw[<-hb5];exact HNE.out);have N6:=J (show b6≠H from by have:=HLH.out;omega);rw[hb5,hb6] at Q1;rw[hb5,hb6];clear hb5 hb6 HNE HLH HS0;obtain⟨c0,c1,c2,lc,lH⟩:=Q1.out.1.facts;have n0:=Q1.out.2.1.cell 0 _ rfl;have n1:=Q1.out.2.1.cell 1 _ rfl;have n2:=Q1.out.2.1.cell 2 _ rfl;have n3:=Q1.out.2.1.cell 3 _ rfl;have n4:=Q1.out.2.1.cell 4 _ rfl;have l5:=Q1.out.2.1.lt;have s0:=Q1.out.2.2.cell 0 _ rfl;have s1:=Q1.out.2.2.cell 1 _ rfl;have s2:=Q1.out.2.2.cell 2 _ rfl;have s3:=Q1.out.2.2.cell 3 _ rfl;have l6:=Q1.out.2.2.lt
 go_cut [8] (fun s8 wx=>s8=.bool A/\CkSt W c H (.slice (some ⟨G,0,none⟩) n cap) ns fi n (addB A za g) wx/\KB b5 #[.int .i64 zk,.int .i64 za,.int .i64 zb,.int .i64 zc,.int .i64 zx,.int .i64 zi,.string zs,.string zt] 166 wx/\KB b6 #[.bool sA,.bool sB,.bool sBB,.bool sBC,.bool bS,.bool bT] 261 wx)
 case first =>
  have TA:=J (qcK Q1.out.1 za 0 (j:Int) false Y Y (fun q hq=>by have:=HB0.out q hq;omega));cases sA
  . have HQ:=J (show CkSt W c H (.slice (some ⟨G,0,none⟩) n cap) ns fi n (addB A za g) W1 from Q1.out.1.idB A za (fun e=>by have:=EA.out;rw[e] at this;simpa using this.symm));have hv:=EA.out;rw[if_neg zy] at hv;subst hv;go_wp2_with fail
    go_meet
    exact⟨rfl,HQ.out,Q1.out.2⟩
  . have hv:=EA.out;rw[if_pos rfl] at hv;rw[<-hv] at TA;clear hv
    go_wp2_with ((with_reducible refine TA.out.mono ?_);rintro e' w1 ⟨rfl,h1,h2⟩;have H1:=J (show _/\_/\_ from⟨h1,Q1.out.2.1.kept h2 N5.out,Q1.out.2.2.kept h2 N6.out⟩);clear h1 h2)
    go_meet
    exact⟨rfl,H1.out⟩
 case rest =>
  clear c0 c1 c2 lc lH n0 n1 n2 n3 n4 l5 s0 s1 s2 s3 l6;obtain⟨rfl,hq⟩:=hcut
  rename World=>W2
  have Q2:=J hq;clear hq;obtain⟨c0,c1,c2,lc,lH⟩:=Q2.out.1.facts;have n0:=Q2.out.2.1.cell 0 _ rfl;have n1:=Q2.out.2.1.cell 1 _ rfl;have n2:=Q2.out.2.1.cell 2 _ rfl;have n3:=Q2.out.2.1.cell 3 _ rfl;have n4:=Q2.out.2.1.cell 4 _ rfl;have l5:=Q2.out.2.1.lt;have s0:=Q2.out.2.2.cell 0 _ rfl;have s1:=Q2.out.2.2.cell 1 _ rfl;have s2:=Q2.out.2.2.cell 2 _ rfl;have s3:=Q2.out.2.2.cell 3 _ rfl;have l6:=Q2.out.2.2.lt;have HB1:=J (fun q hq=>qgM A za g q 8000 (HB0.out q hq))
  go_upto_block 0 with fail
  go_cut [9] (fun s9 wx=>s9=.bool B/\CkSt W c H (.slice (some ⟨G,0,none⟩) n cap) ns fi n (addB B zb (addB A za g)) wx/\KB b5 #[.int .i64 zk,.int .i64 za,.int .i64 zb,.int .i64 zc,.int .i64 zx,.int .i64 zi,.string zs,.string zt] 166 wx/\KB b6 #[.bool sA,.bool sB,.bool sBB,.bool sBC,.bool bS,.bool bT] 261 wx)
  case first =>
   have TA:=J (qcK Q2.out.1 zb 0 (j:Int) false Y Y (fun q hq=>by have:=HB1.out q hq;omega));have TB:=J (qdL Q2.out.1 zb (j:Int) Y (fun q hq=>by have:=HB1.out q hq;omega));have hv:=EB.out;cases sB
   . rw[if_neg zy] at hv;cases sBB
     . rw[if_neg zy] at hv;subst hv;have HQ:=J (show CkSt W c H (.slice (some ⟨G,0,none⟩) n cap) ns fi n (addB (zb==-1) zb (addB A za g)) W2 from Q2.out.1.idB (zb==-1) zb (fun e=>by simpa using e));go_wp2_with fail
       go_meet
       exact⟨rfl,HQ.out,Q2.out.2⟩
     . rw[if_pos rfl] at hv;rw[<-hv] at TB;clear hv
       go_wp2_with ((with_reducible refine TB.out.mono ?_);rintro e' w1 ⟨rfl,h1,h2⟩;have H1:=J (show _/\_/\_ from⟨h1,Q2.out.2.1.kept h2 N5.out,Q2.out.2.2.kept h2 N6.out⟩);clear h1 h2)
       go_meet
       exact⟨rfl,H1.out⟩
   . rw[if_pos rfl] at hv;rw[<-hv] at TA;clear hv
     go_wp2_with ((with_reducible refine TA.out.mono ?_);rintro e' w1 ⟨rfl,h1,h2⟩;have H1:=J (show _/\_/\_ from⟨h1,Q2.out.2.1.kept h2 N5.out,Q2.out.2.2.kept h2 N6.out⟩);clear h1 h2)
     go_meet
     exact⟨rfl,H1.out⟩
  case rest =>
   clear c0 c1 c2 lc lH n0 n1 n2 n3 n4 l5 s0 s1 s2 s3 l6;obtain⟨rfl,hq⟩:=hcut
   rename World=>W3
   have Q3:=J hq;clear hq;obtain⟨c0,c1,c2,lc,lH⟩:=Q3.out.1.facts;have n0:=Q3.out.2.1.cell 0 _ rfl;have n1:=Q3.out.2.1.cell 1 _ rfl;have n2:=Q3.out.2.1.cell 2 _ rfl;have n3:=Q3.out.2.1.cell 3 _ rfl;have n4:=Q3.out.2.1.cell 4 _ rfl;have l5:=Q3.out.2.1.lt;have s0:=Q3.out.2.2.cell 0 _ rfl;have s1:=Q3.out.2.2.cell 1 _ rfl;have s2:=Q3.out.2.2.cell 2 _ rfl;have s3:=Q3.out.2.2.cell 3 _ rfl;have l6:=Q3.out.2.2.lt;have HB2:=J (fun q hq=>qgM B zb _ q 8001 (HB1.out q hq))
   go_upto_region 13 with fail
   go_cut [10] (fun s10 wx=>s10=.bool C/\CkSt W c H (.slice (some ⟨G,0,none⟩) n cap) ns fi n (addB C zc (addB B zb (addB A za g))) wx/\KB b5 #[.int .i64 zk,.int .i64 za,.int .i64 zb,.int .i64 zc,.int .i64 zx,.int .i64 zi,.string zs,.string zt] 166 wx/\KB b6 #[.bool sA,.bool sB,.bool sBB,.bool sBC,.bool bS,.bool bT] 261 wx)
   case first =>
    have TA:=J (qdL Q3.out.1 zc (j:Int) Y (fun q hq=>by have:=HB2.out q hq;omega));have hv:=EC.out;cases qc:(zc==-1)
    . rw[qc,Bool.false_or] at hv;cases sBC
      . rw[Bool.false_and] at hv;subst hv;have HQ:=J (show CkSt W c H (.slice (some ⟨G,0,none⟩) n cap) ns fi n (addB false zc (addB B zb (addB A za g))) W3 from Q3.out.1.idB false zc (fun e=>absurd e zy));go_wp2_with fail
        go_meet
        exact⟨rfl,HQ.out,Q3.out.2⟩
      . rw[Bool.true_and] at hv;rw[<-hv] at TA;clear hv
        go_wp2_with ((with_reducible refine TA.out.mono ?_);rintro e' w1 ⟨rfl,h1,h2⟩;have H1:=J (show _/\_/\_ from⟨h1,Q3.out.2.1.kept h2 N5.out,Q3.out.2.2.kept h2 N6.out⟩);clear h1 h2)
        go_meet
        exact⟨rfl,H1.out⟩
    . rw[qc,Bool.true_or] at hv;subst hv;have HQ:=J (show CkSt W c H (.slice (some ⟨G,0,none⟩) n cap) ns fi n (addB true zc (addB B zb (addB A za g))) W3 from Q3.out.1.idB true zc (fun e=>by simpa using qc));go_wp2_with fail
      go_meet
      exact⟨rfl,HQ.out,Q3.out.2⟩
   case rest =>
    clear c0 c1 c2 lc lH n0 n1 n2 n3 n4 l5 s0 s1 s2 s3 l6;obtain⟨rfl,hq⟩:=hcut
    rename World=>W4
    have Q4:=J hq;clear hq;obtain⟨c0,c1,c2,lc,lH⟩:=Q4.out.1.facts;have n0:=Q4.out.2.1.cell 0 _ rfl;have n1:=Q4.out.2.1.cell 1 _ rfl;have n2:=Q4.out.2.1.cell 2 _ rfl;have n3:=Q4.out.2.1.cell 3 _ rfl;have n4:=Q4.out.2.1.cell 4 _ rfl;have l5:=Q4.out.2.1.lt;have s0:=Q4.out.2.2.cell 0 _ rfl;have s1:=Q4.out.2.2.cell 1 _ rfl;have s2:=Q4.out.2.2.cell 2 _ rfl;have s3:=Q4.out.2.2.cell 3 _ rfl;have l6:=Q4.out.2.2.lt;have HB3:=J (fun q hq=>qgM C zc _ q 8002 (HB2.out q hq));have TA:=J (fun dd oo=>qcK (Q4.out.1.more dd oo) zx ((j:Int)+1) n true Y Y (fun q hq=>by have:=HB3.out q hq;omega));have hv:=EX.out
    go_upto_region 14 with fail
    cases qx:(zx==-1);rotate_left
    . rw[qx,Bool.true_or] at hv;subst hv;have HQ:=J (Q4.out.1.idB true zx (fun _=>by simpa using qx));refine qaa 19 114 (List.replicate 19 false) zv zv rfl ?_;refine zh ?_
      repeat(refine Lex.step rfl ?_;intro K hK;unfold StepG;go_simp;refine hK _ ?_;clear hK K)
      refine zd ?_;intro dd oo;go_wp2_with fail
      try rw[ends_normal]
      try go_wp2_with fail
      all_goals
       go_ret;exact⟨ret_bool zcc,HQ.out.more _ _⟩
    rw[qx,Bool.false_or] at hv;by_cases hz20:20<=zk;rotate_left
    . have hzd:decide (20<=zk)=false:=decide_eq_false hz20;rw[hzd,Bool.false_and] at hv;subst hv;have HQ:=J (Q4.out.1.idB false zx (fun e=>absurd e zy));refine qaa 19 114 (List.replicate 19 false) zv zv rfl ?_;refine zh ?_
      repeat(refine Lex.step rfl ?_;intro K hK;unfold StepG;go_simp;refine hK _ ?_;clear hK K)
      refine zd ?_;intro dd oo;go_wp2_with fail
      try rw[ends_normal]
      try go_wp2_with fail
      all_goals
       go_ret;exact⟨ret_bool zcc,HQ.out.more _ _⟩
    have hzd:decide (20<=zk)=true:=decide_eq_true hz20;rw[hzd,Bool.true_and] at hv;rw[<-hv] at TA;clear hv hz20;refine qaa 19 114 (List.replicate 19 false) zv zv rfl ?_;refine zh ?_
    repeat(refine Lex.step rfl ?_;intro K hK;unfold StepG;go_simp;refine hK _ ?_;clear hK K)
    refine zd ?_;intro dd oo
    go_wp2_with ((with_reducible refine (TA.out _ _).mono ?_);rintro e' w1 ⟨rfl,h1,h2⟩;have HQ:=J h1;clear h1 h2)
    try rw[ends_normal]
    try go_wp2_with fail
    all_goals
     go_ret;exact⟨ret_bool zcc,HQ.out⟩
def prefs (z:Nd) (k:Int):Nat:=pone z.a k+pone z.b k+pone z.c k+pone z.x k
def pcnt (ns:List Nd) (k:Int):Nat:=(ns.map fun z=>prefs z k).sum
def node_h (h:CkSt W c H nv ns fi n g w) (j:Nat) (zk za zb zc zx zi:Int) (zs zt:ByteArray) (hz:ns[j]?=some ⟨zk,za,zb,zc,zx,zi,zs,zt⟩) (hs:zs.size<=maxLen) (k0:qdY ⟨zk,za,zb,zc,zx,zi,zs,zt⟩=false) :
  Calls prog 169 #[.pointer (some ⟨c,0,none⟩),.int .i64 (j:Int)] w fun e w'=>e=.returned (.bool false)/\CkSt W c H nv ns fi n g w':=by
 have hj:j<n:=by have:=(List.getElem?_eq_some_iff.1 hz).1;have:=h.base.2.2.2;omega
 have hp:∃ G cap,nv=.slice (some ⟨G,0,none⟩) n cap:=by
  rcases Go.Joins.ownsRow_forms h.row with ⟨_,h0⟩ | ⟨g1,c1,h0⟩
  . omega
  . exact⟨g1,c1,h0⟩
 obtain⟨G,cap,rfl⟩:=hp;obtain⟨a0,a1,a2,a3,a4,a5,a6,a7⟩:=nd_at h.row hz;dsimp only at a0 a1 a2 a3 a4 a5 a6 a7;have hG:=(h.row.lt G rfl).2;obtain⟨c0,c1,c2,lc,lH⟩:=h.facts;have HS0:=J h;have SH:=J (fun w1=>shape_any zk w1);have NM:=J (fun w1=>num_any zk za zb zc zx zi zs zt w1);have TX:=J (fun w1=>texts_x zk za zb zc zx zi zs zt hs (shA zk) (shB zk) (shBB zk) (shBC zk) (shS zk) (shT zk) w1);unfold qdY at k0;dsimp only at k0;obtain⟨T,hT⟩:∃ T,(txt1 zt (shT zk)&&txt2 zk zs (shS zk))=T:=⟨_,rfl⟩
 obtain⟨I,hI⟩:∃ I,qcm zk=I:=⟨_,rfl⟩
 obtain⟨M,hM⟩:∃ M,numOk zk zc zi=M:=⟨_,rfl⟩
 rw[hT] at TX k0;rw[hI] at SH k0;rw[hM] at NM k0;obtain⟨sA,h1⟩:∃ x,shA zk=x:=⟨_,rfl⟩
 obtain⟨sB,h2⟩:∃ x,shB zk=x:=⟨_,rfl⟩
 obtain⟨sC,h3⟩:∃ x,shBB zk=x:=⟨_,rfl⟩
 obtain⟨sD,h4⟩:∃ x,shBC zk=x:=⟨_,rfl⟩
 obtain⟨sE,h5⟩:∃ x,shS zk=x:=⟨_,rfl⟩
 obtain⟨sF,h6⟩:∃ x,shT zk=x:=⟨_,rfl⟩
 rw[h1,h2,h3,h4,h5,h6] at SH TX;have hj0:0<=(j:Int):=Y;have hjn:(j:Int)<(n:Int):=Y;clear h hz hs hj c1 c2 hT hI hM h1 h2 h3 h4 h5 h6;cases I;rotate_left
 . cases M;rotate_left
   . cases T;rotate_left
     . cases k0
     clear k0;go_enter func169,ntmps169
     go_wp2_with (first
      | (((with_reducible refine (SH.out _).mono ?_);rintro e' _ ⟨rfl,d1,os1,rfl⟩))
      | (((with_reducible refine (NM.out _).mono ?_);rintro e' _ ⟨rfl,d2,os2,rfl⟩))
      | (((with_reducible refine (TX.out _).mono ?_);rintro e' _ ⟨rfl,d3,os3,rfl⟩)))
     go_ret;exact⟨rfl,(show CkSt W c H (.slice (some ⟨G,0,none⟩) n cap) ns fi n g _ from zbm)⟩
   clear k0;go_enter func169,ntmps169
   go_wp2_with (first
    | (((with_reducible refine (SH.out _).mono ?_);rintro e' _ ⟨rfl,d1,os1,rfl⟩))
    | (((with_reducible refine (NM.out _).mono ?_);rintro e' _ ⟨rfl,d2,os2,rfl⟩)))
   go_ret;exact⟨rfl,(show CkSt W c H (.slice (some ⟨G,0,none⟩) n cap) ns fi n g _ from zbm)⟩
 clear k0;go_enter func169,ntmps169
 go_wp2_with (((with_reducible refine (SH.out _).mono ?_);rintro e' _ ⟨rfl,d1,os1,rfl⟩))
 go_ret;exact⟨rfl,(show CkSt W c H (.slice (some ⟨G,0,none⟩) n cap) ns fi n g _ from zbm)⟩
def pnode_any (h:CkSt W c H nv ns fi n g w) (j:Nat) (z:Nd) (hz:ns[j]?=some z) (hs:z.s.size<=maxLen) (hb:∀ j,j<n->g j<=8000) (hn:n<=512) :
  Calls prog 169 #[.pointer (some ⟨c,0,none⟩),.int .i64 (j:Int)] w fun e w'=>e=.returned (.bool (nodeB ns j z))/\∃ g',CkSt W c H nv ns fi n g' w'/\(nodeB ns j z=true->∀ k,g' k=g k+prefs z k):=by
 obtain⟨zk,za,zb,zc,zx,zi,zs,zt⟩:=z;dsimp only at hs;have hL:=h.base.2.2.2;cases hh:qdY ⟨zk,za,zb,zc,zx,zi,zs,zt⟩
 . refine (node_h h j zk za zb zc zx zi zs zt hz hs hh).mono ?_;rintro e w' ⟨rfl,h1⟩;have q:nodeB ns j ⟨zk,za,zb,zc,zx,zi,zs,zt⟩=false:=by unfold nodeB;rw[hh,Bool.false_and]
   rw[q];exact⟨rfl,g,h1,fun e=>absurd e zy⟩
 have hh2:=hh;unfold qdY at hh2;dsimp only at hh2;simp only[Bool.and_eq_true] at hh2;obtain⟨⟨k1,k2⟩,k3a,k3b⟩:=hh2;have k3:(txt1 zt (shT zk)&&txt2 zk zs (shS zk))=true:=by rw[k3a,k3b];rfl
 have fin:∀ (A B C X:Bool) (w':World),nodeB ns j ⟨zk,za,zb,zc,zx,zi,zs,zt⟩=(A&&B&&C&&X)->CkSt W c H nv ns fi n (addB X zx (addB C zc (addB B zb (addB A za g)))) w' ->
   (Ending.returned (.bool (A&&B&&C&&X)):Ending)=.returned (.bool (nodeB ns j ⟨zk,za,zb,zc,zx,zi,zs,zt⟩))/\∃ g',CkSt W c H nv ns fi n g' w'/\(nodeB ns j ⟨zk,za,zb,zc,zx,zi,zs,zt⟩=true->∀ k,g' k=g k+prefs ⟨zk,za,zb,zc,zx,zi,zs,zt⟩ k):=by
  intro A B C X w' e h1;rw[e];refine ⟨rfl,_,h1,fun q k=>?_⟩;simp only[Bool.and_eq_true] at q;obtain⟨⟨⟨rfl,rfl⟩,rfl⟩,rfl⟩:=q;unfold addB prefs;simp only[if_true];omega
 refine (node_u h j zk za zb zc zx zi zs zt hz hs hb hn k1 k2 k3).mono ?_;rintro e w' ⟨rfl,h1⟩;exact fin _ _ _ _ w' (by unfold nodeB;rw[hh,Bool.true_and]) h1
def allB (g:Nat->Nat) (n:Nat):Bool:=(List.range n).all fun j=>g j==1
def allB_no {j:Nat} (hj:j<n) (h:g j≠1):allB g n=false:=by
 unfold allB;rw[Bool.eq_false_iff];intro q;have:=List.all_eq_true.1 q j (List.mem_range.2 hj);exact h (by simpa using this)
def allB_yes (h:∀ j,j<n->g j=1):allB g n=true:=by
 unfold allB;exact List.all_eq_true.2 fun j hj=>by simpa using h j (List.mem_range.1 hj)
def pone_any (k:Int) (w:World):Calls prog 172 #[.int .i64 k] w fun e w'=>e=.returned (.bool (k !=1))/\w'=w:=by
 go_enter func172,ntmps172;go_wp2_with fail;go_ret;exact⟨ret_bool (by first | rfl | simp),rfl⟩
def pindex_any (h:w.rowIs H 3 n (fun j=>.int .i64 (g j:Int))) (hn:n<=512) (hb:∀ j,j<n->g j<=9000) :
  Calls prog 201 #[.slice (some ⟨H,0,none⟩) n n,.func (.func 172) #[] #[]] w fun e w'=>(∃ r:Int,e=.returned (.int .i64 r)/\decide (0<=r)=!allB g n)/\w'=w:=by
 have HS:=J h;have HBB:=J hb;have hni:(n:Int)<=512:=Y;have lH:=h.lt;clear h hb;go_enter func201,ntmps201;go_wp2_with fail
 go_loopg [5,8] n (fun gg _ s8 wr=>∃ kk:Nat,kk<=n/\n-kk<=gg/\s8=.int .i64 kk/\wr=w/\Hid (∀ j,j<kk->g j=1))
 case atStart=>exact⟨0,Nat.zero_le _,Y,rfl,rfl,J fun j hj=>absurd hj (Nat.not_lt_zero _)⟩
 case round =>
  obtain⟨kk,hkk,hg,rfl,rfl,A⟩:=hrel;by_cases hlt:kk<n
  . have hltz:(kk:Int)<(n:Int):=Y;have hk0:0<=(kk:Int):=Y;have hc:=HS.out.cell hlt;by_cases h1:g kk=1
    . have hc1:wr.cell? ⟨H,kk,none⟩=some (.int .i64 1):=(by rw[hc,h1];rfl)
      have HP:=J (pone_any 1 wr);clear hc
      go_wp2_with (go_at_call 172;refine HP.out.mono ?_;rintro e w' ⟨rfl,rfl⟩)
      go_roundg (n-(kk+1))
      case measure=>omega
      case rel =>
       refine ⟨kk+1,Y,Y,by go_num,rfl,J fun j hj=>?_⟩;by_cases e:j=kk
       . subst e;exact h1
       . exact A.out j Y
    . obtain⟨q,hq⟩:∃ q:Int,(g kk:Int)=q:=⟨_,rfl⟩
      have hc1:wr.cell? ⟨H,kk,none⟩=some (.int .i64 q):=(by rw[hc,hq])
      have hq1:(q !=1)=true:=zg;have HP:=J (pone_any q wr);have HF:=J (allB_no hlt h1);rw[hq1] at HP;clear hc h1 hq hq1
      go_wp2_with (go_at_call 172;refine HP.out.mono ?_;rintro e w' ⟨rfl,rfl⟩)
      go_ret;exact⟨⟨_,rfl,by rw[HF.out];simp⟩,rfl⟩
  . have:kk=n:=by omega
    subst this;have HF:=J (allB_yes A.out);go_wp2_with fail;go_ret;exact⟨⟨_,rfl,by rw[HF.out];simp⟩,rfl⟩
def qgv (h:w.rowIs H 3 n (fun j=>.int .i64 (g j:Int))) (hn:n<=512) (hb:∀ j,j<n->g j<=9000) :
  Calls prog 171 #[.slice (some ⟨H,0,none⟩) n n,.func (.func 172) #[] #[]] w fun e w'=>e=.returned (.bool (!allB g n))/\w'=w:=by
 have HI:=J (pindex_any h hn hb);clear h hb;go_enter func171,ntmps171
 go_wp2_with (((with_reducible refine HI.out.mono ?_);rintro e' _ ⟨⟨r,rfl,hr⟩,rfl⟩))
 go_ret;exact⟨by rw[<-hr];rfl,rfl⟩
def qdl (ns:List Nd):Bool:=(List.range ns.length).all fun j=>match ns[j]? with | some z=>nodeB ns j z | none=>true
def onceB (ns:List Nd) (fi:Int):Bool:=allB (fun k=>pone fi k+pcnt ns k) ns.length
def mayB (ns:List Nd) (fi:Int):Bool:=decide (ns.length<=512)&&qdl ns&&blkB ns fi ns.length&&onceB ns fi
def nodesB_no {j:Nat} {z:Nd} (hz:ns[j]?=some z) (h:nodeB ns j z=false):qdl ns=false:=by
 unfold qdl;rw[Bool.eq_false_iff];intro q;have:=List.all_eq_true.1 q j (List.mem_range.2 (List.getElem?_eq_some_iff.1 hz).1);rw[hz] at this;dsimp only at this;rw[h] at this;cases this
def qga (h:∀ j z,ns[j]?=some z->nodeB ns j z=true):qdl ns=true:=by
 unfold qdl;refine List.all_eq_true.2 fun j hj=>?_
 cases hz:ns[j]? with
 | none=>rfl
 | some z=>exact h j z hz
def allB_congr {g':Nat->Nat} (h:∀ j,j<n->g j=g' j):allB g n=allB g' n:=by
 unfold allB;rw[Bool.eq_iff_iff];simp only[List.all_eq_true,List.mem_range];exact⟨fun q j hj=>by rw[<-h j hj];exact q j hj,fun q j hj=>by rw[h j hj];exact q j hj⟩
def pcnt_take (ns:List Nd) (j:Nat) (z:Nd) (hz:ns[j]?=some z) (k:Int):pcnt (ns.take (j+1)) k=pcnt (ns.take j) k+prefs z k:=by
 rw[List.take_add_one,hz];simp[pcnt]
def pcnt_le (ns:List Nd) (k:Int):pcnt ns k<=4*ns.length:=by
 induction ns with
 | nil=>simp[pcnt]
 | cons z l ih =>
  have e2:pcnt (z::l) k=prefs z k+pcnt l k:=by simp[pcnt]
  have h1:∀ a,pone a k<=1:=fun a=>by unfold pone;split<;>omega
  have:=h1 z.a;have:=h1 z.b;have:=h1 z.c;have:=h1 z.x;rw[e2];unfold prefs;simp only[List.length_cons];omega
def may_long (fi:Int) (w:World) (hr:w.ownsRow base 166 8 nv n (qac ns)) (hl:ns.length=n) (hn:512<n) :
  Calls prog 134 #[.agg #[nv,.int .i64 fi]] w fun e w'=>e=.returned (.bool (mayB ns fi))/\Ext w w':=by
 have hq:mayB ns fi=false:=by unfold mayB;rw[decide_eq_false Y];rfl
 rw[hq];obtain⟨p1,c1,rfl⟩:=qad hr;have hni:(512:Int)<(n:Int):=Y;clear hr hl hn hq;go_enter func134,ntmps134;go_wp2_with fail;go_ret;exact⟨rfl,zf⟩
def may_short (fi:Int) (w:World) (hr:w.ownsRow base 166 8 nv n (qac ns)) (hl:ns.length=n) (hn:n<=512) (hs:∀ z∈ns,z.s.size<=maxLen) :
  Calls prog 134 #[.agg #[nv,.int .i64 fi]] w fun e w'=>e=.returned (.bool (mayB ns fi))/\Ext w w':=by
 obtain⟨p1,c1,rfl⟩:=qad hr;have HR:=J (hr.mono (Nat.zero_le _));have HN:=J hl;have HSZ:=J hs;have hni:(n:Int)<=512:=Y;have hm:mayB ns fi=(qdl ns&&blkB ns fi n&&allB (fun k=>pone fi k+pcnt ns k) n):=by unfold mayB onceB;rw[hl,decide_eq_true hn,Bool.true_and]
 rw[hm];have mk:=fun W=>run_make_row' (P:=prog) 160 3 (.int .i64 0) 8 underlying160 intInfo rfl .i64 .i64 n Y Y W
 clear hr hl hs hm;go_enter func134,ntmps134;go_wp2_with fail
 go_region
 go_wp2_with fail
 have OS0:=J (show CkSt (w.alloc (.cells #[.slice p1 n c1,.int .i64 fi] 132 (0,0))) (w.heap.size+1+1) (w.heap.size+1) (.slice p1 n c1) ns fi n (fun _=>0) _ from
  ⟨(((Ext.refl (w.alloc (.cells #[.slice p1 n c1,.int .i64 fi] 132 (0,0)))).alloc (.cells (madeCells #[.int .i64 0] n) 3 (0,0))).alloc (.cells #[.slice p1 n c1,.int .i64 fi,.slice (some ⟨w.heap.size+1,0,none⟩) n n] 248 (0,0))).drew,
   by have:=heap_alloc_new ((w.alloc (.cells #[.slice p1 n c1,.int .i64 fi] 132 (0,0))).alloc (.cells (madeCells #[.int .i64 0] n) 3 (0,0))) (.cells #[.slice p1 n c1,.int .i64 fi,.slice (some ⟨w.heap.size+1,0,none⟩) n n] 248 (0,0));rw[World.size_alloc,World.size_alloc] at this;exact this,
   ((World.rowIs_made (w.alloc (.cells #[.slice p1 n c1,.int .i64 fi] 132 (0,0))) (.int .i64 0) n 3).alloc _ |> fun h=>by rw[World.size_alloc] at h;exact h.congr fun j _=>rfl),
   (((HR.out).alloc _).alloc _).alloc _,
   ⟨by rw[World.size_alloc];exact Nat.le_refl _,Y,fun e=>by have:=(HR.out.lt _ e).2;omega,HN.out⟩⟩)
 have HBX:=J (fun wr (hx:Ext (w.alloc (.cells #[.slice p1 n c1,.int .i64 fi] 132 (0,0))) wr)=>(KB.new w #[.slice p1 n c1,.int .i64 fi] 132).of_ext hx);have HEX:=J ((Ext.refl w).alloc (.cells #[.slice p1 n c1,.int .i64 fi] 132 (0,0)));obtain⟨c,hc⟩:∃ c,w.heap.size+1+1=c:=⟨_,rfl⟩
 rw[hc] at OS0 ⊢;obtain⟨H,hH⟩:∃ H,w.heap.size+1=H:=⟨_,rfl⟩
 rw[hH] at OS0 ⊢;obtain⟨k1,hk1⟩:∃ k1,w.heap.size=k1:=⟨_,rfl⟩
 rw[hk1] at HBX ⊢;obtain⟨W0,hW0⟩:∃ W0,w.alloc (.cells #[.slice p1 n c1,.int .i64 fi] 132 (0,0))=W0:=⟨_,rfl⟩
 rw[hW0] at OS0 HBX HEX ⊢;clear hc hH hk1 hW0 HR mk;go_loopw [19] (fun y wr=>∃ j:Nat,y=.int .i64 (j:Int)/\j<=n/\CkSt W0 c H (.slice p1 n c1) ns fi n (fun k=>pcnt (ns.take j) k) wr/\Hid (∀ i z,i<j->ns[i]?=some z->nodeB ns i z=true)) (fun y _=>n-(intOf y).toNat)
 case atStart=>exact⟨0,rfl,Nat.zero_le _,OS0.out.congr fun j _=>by simp[pcnt],J fun i z h=>absurd h (Nat.not_lt_zero _)⟩
 case round =>
  obtain⟨j,rfl,hj,hos,HA⟩:=hrel;have OS:=J hos;clear hos;have hj0:0<=(j:Int):=Y;have hbd:Hid (∀ m q,pcnt (ns.take m) q<=8000):=J fun m q=>by have:=pcnt_le (ns.take m) q;rw[List.length_take] at this;have:=HN.out;omega
  by_cases hlt:j<n
  . obtain⟨z,hz⟩:∃ z,ns[j]?=some z:=⟨_,List.getElem?_eq_getElem (by rw[HN.out];exact hlt)⟩
    have HZ:=J hz;have HLT:=J hlt;have hji:(j:Int)<(n:Int):=Y;have ND:=J (pnode_any OS.out j z hz (HSZ.out z (List.mem_of_getElem? hz)) (fun q _=>hbd.out j q) hn);clear hz hlt;cases q:nodeB ns j z
    . rw[q] at ND;have HF:=J (nodesB_no HZ.out q);clear q
      go_wp2_with (((with_reducible refine ND.out.mono ?_);rintro e' w2 ⟨rfl,g2,h2,_⟩;have OS2:=J h2;clear h2))
      go_ret;exact⟨ret_bool (by rw[HF.out];rfl),HEX.out.trans OS2.out.ext⟩
    . rw[q] at ND;have HT:=J q;clear q
      go_wp2_with (((with_reducible refine ND.out.mono ?_);rintro e' w2 ⟨rfl,g2,h2,h3⟩;have OS2:=J h2;have H3:=J (h3 rfl);clear h2 h3))
      go_roundw
      case rel =>
       refine ⟨j+1,by go_num,by have:=HLT.out;omega,OS2.out.congr fun q _=>?_,J fun i y hi hy=>?_⟩
       . rw[H3.out q,pcnt_take ns j z HZ.out q]
       . by_cases e:i=j
         . subst e;have e2:=hy.symm.trans HZ.out;simp only[Option.some.injEq] at e2;subst e2;exact HT.out
         . exact HA.out i y Y hy
      case measure=>have:=HLT.out;simp[intOf];omega
  . have hje:j=n:=Y;subst hje;have hall:ns.take j=ns:=List.take_of_length_le (by rw[HN.out];omega);have hbd2:=hbd.out j;rw[hall] at OS hbd2;have HB2:=J hbd2;have HY:=J (qga (ns:=ns) fun i z hz=>HA.out i z (by have:=(List.getElem?_eq_some_iff.1 hz).1;have:=HN.out;omega) hz);have KX:=J (HBX.out wr OS.out.ext);have x0:=KX.out.cell 0 _ rfl;have x1:=KX.out.cell 1 _ rfl;have lx:=KX.out.lt;have BK:=J (qdL OS.out fi (j:Int) Y (fun q _=>Nat.le_trans (HB2.out q) Y));clear hlt hall hbd hbd2;cases q:blkB ns fi j
    . rw[q] at BK;have HF:=J q;clear q
      go_wp2_with (((with_reducible refine BK.out.mono ?_);rintro e' w2 ⟨rfl,h2,_⟩;have OS2:=J h2;clear h2))
      go_ret;exact⟨ret_bool (by rw[HF.out,Bool.and_false,Bool.false_and]),HEX.out.trans OS2.out.ext⟩
    . rw[q] at BK;have HF:=J q;clear q
      go_wp2_with (first | ((with_reducible refine BK.out.mono ?_);rintro e' w2 ⟨rfl,h2,_⟩;have OS2:=J h2;clear h2;obtain⟨c0,c1',c2,lc,lH⟩:=OS2.out.facts;clear c0 c1';have CF:=J (qgv OS2.out.had hn (fun q _=>Nat.le_trans (qgM true fi _ q 8000 (HB2.out q)) Y))) | ((with_reducible refine CF.out.mono ?_);rintro e' _ ⟨rfl,rfl⟩))
      go_ret;exact⟨ret_bool (by rw[HY.out,HF.out];simp only[Bool.true_and,Bool.not_not];exact allB_congr fun q _=>by unfold addB;rw[if_pos rfl];exact Nat.add_comm _ _),HEX.out.trans OS2.out.ext⟩
def may_any (fi:Int) (w:World) (hr:w.ownsRow base 166 8 nv n (qac ns)) (hl:ns.length=n) (hs:∀ z∈ns,z.s.size<=maxLen) :
  Calls prog 134 #[.agg #[nv,.int .i64 fi]] w fun e w'=>e=.returned (.bool (mayB ns fi))/\Ext w w':=by
 by_cases hn:n<=512
 . exact may_short fi w hr hl hn hs
 . exact may_long fi w hr hl Y
end Go.Proofs.YtpnabjopfpdkhaaGreatDoor
namespace Go.Proofs.YtpnabjopfpdkhaaGreatDoor
inductive Tr (ns:List Nd):Int->Nat->Prop
 | neg {i:Int}:i<0->Tr ns i 0
 | node {i:Nat} {z:Nd} {na nb nc nx:Nat}:ns[i]?=some z->Tr ns z.a na->Tr ns z.b nb->Tr ns z.c nc->Tr ns z.x nx->Tr ns (i:Int) (1+(na+(nb+(nc+nx))))
def kid (a:Int):List Nat:=if a<0 then [] else [a.toNat]
def chN (z:Nd):List Nat:=kid z.a++(kid z.b++(kid z.c++kid z.x))
def chs (ns:List Nd) (u:Nat):List Nat:=match ns[u]? with | some z=>chN z | none=>[]
def qeE (a:Int) (k:Nat):(kid a).count k=pone a k:=by
 unfold kid pone;by_cases h:a<0
 . rw[if_pos h,if_neg Y];rfl
 . rw[if_neg h];by_cases e:a=k
   . rw[if_pos e,show a.toNat=k from by omega];simp
   . rw[if_neg e,List.count_eq_zero];simp;omega
def chN_count (z:Nd) (k:Nat):(chN z).count k=prefs z k:=by
 unfold chN prefs;simp only[List.count_append,qeE];omega
def Uq (l:List Nat):Prop:=∀ k,l.count k<=1
def perm_sum {l m:List Nat} (h:l.Perm m):l.sum=m.sum:=by
 induction h with
 | nil=>rfl
 | cons a _ ih=>simp[ih]
 | swap a b l=>simp;omega
 | trans _ _ h1 h2=>exact h1.trans h2
def qfK (f:Nat->Nat):∀ (N:Nat) (l:List Nat),Uq l->(∀ u∈l,u<N)->(l.map f).sum<=((List.range N).map f).sum
 | 0,l,_,h=>by
  cases l with
  | nil=>simp
  | cons a l=>exact absurd (h a zy) (Nat.not_lt_zero _)
 | N+1,l,hu,h=>by
  rw[List.range_succ,List.map_append,List.sum_append];by_cases hm:N∈l
  . have p:=perm_sum ((List.perm_cons_erase hm).map f);rw[p,List.map_cons,List.sum_cons]
    have h1:=qfK f N (l.erase N) (fun k=>by rw[List.count_erase];have:=hu k;omega) (fun u hu1=>by
     have h2:=h u (List.mem_of_mem_erase hu1)
     have h3:u≠N:=fun e=>by
      subst e;have h4:=List.count_pos_iff.2 hu1;rw[List.count_erase] at h4;have:=hu u;simp at h4;omega
     omega)
    simp only[List.map_cons,List.map_nil,List.sum_cons,List.sum_nil];omega
  . have h1:=qfK f N l hu (fun u hu1=>by have:=h u hu1;have h3:u≠N:=fun e=>hm (e ▸ hu1);omega);omega
def qfV (ns:List Nd) (k:Nat):pcnt ns k=((List.range ns.length).map fun u=>(chs ns u).count k).sum:=by
 unfold pcnt
 congr 1
 apply List.ext_getElem
 . simp
 . intro i h1 h2;simp only[List.length_map,List.length_range] at h1 h2;simp only[List.getElem_map,List.getElem_range,chs];rw[List.getElem?_eq_getElem h1];exact(chN_count _ _).symm
def levL (ns:List Nd):List Nat->Nat->List Nat
 | l,0=>l
 | l,d+1=>levL ns (l.flatMap (chs ns)) d
def uptoL (ns:List Nd) (l:List Nat):Nat->List Nat
 | 0=>[]
 | d+1=>uptoL ns l d++levL ns l d
def qgR (ns:List Nd):∀ d,levL ns [] d=[]
 | 0=>rfl
 | d+1=>by rw[levL];exact qgR ns d
def qaL (ns:List Nd):∀ d l m,levL ns (l++m) d=levL ns l d++levL ns m d
 | 0,_,_=>rfl
 | d+1,l,m=>by rw[levL,levL,levL,List.flatMap_append,qaL ns d]
def qeR (ns:List Nd):∀ d l,levL ns l (d+1)=(levL ns l d).flatMap (chs ns)
 | 0,_=>rfl
 | d+1,l=>by rw[levL,qeR ns d];rfl
def qbV (ns:List Nd) (l:List Nat):∀ d,uptoL ns l (d+1)=l++(uptoL ns l d).flatMap (chs ns)
 | 0=>by simp[uptoL,levL]
 | d+1=>by
  have e1:uptoL ns l (d+1)=uptoL ns l d++levL ns l d:=rfl;have e2:uptoL ns l (d+1+1)=uptoL ns l (d+1)++levL ns l (d+1):=rfl;rw[e2,qeR,qbV ns l d,List.append_assoc,<-List.flatMap_append,<-e1,qbV ns l d]
def qgZ (ns:List Nd) (l:List Nat):∀ d,levL ns l d≠[]->d+1<=(uptoL ns l (d+1)).length
 | 0,h=>by rw[uptoL,List.length_append];have:levL ns l 0≠[]:=h;have:=List.length_pos_iff.2 this;omega
 | d+1,h=>by
  have h1:levL ns l d≠[]:=fun e=>h (by rw[qeR,e];rfl)
  have h2:=qgZ ns l d h1;rw[uptoL,List.length_append];have:=List.length_pos_iff.2 h;omega
def tr_of_lev (ns:List Nd) (hb:∀ (j:Nat) (z:Nd),ns[j]?=some z->z.a<ns.length/\z.b<ns.length/\z.c<ns.length/\z.x<ns.length):∀ (d:Nat) (i:Int),i<ns.length->levL ns (kid i) d=[]->Tr ns i (uptoL ns (kid i) d).length:=by
 intro d
 induction d with
 | zero =>
  intro i hi h;have hk:kid i=[]:=h;by_cases h0:i<0
  . exact Tr.neg h0
  . unfold kid at hk;rw[if_neg h0] at hk;cases hk
 | succ d ih =>
  intro i hi h;by_cases h0:i<0
  . have hk:kid i=[]:=by unfold kid;rw[if_pos h0]
    have:uptoL ns (kid i) (d+1)=[]:=by
     rw[hk];clear h ih hk
     induction d with
     | zero=>rfl
     | succ d ih=>rw[uptoL,ih,qgR];rfl
    rw[this];exact Tr.neg h0
  . obtain⟨j,rfl⟩:∃ j:Nat,i=(j:Int):=⟨i.toNat,Y⟩
    have hj:j<ns.length:=Y;have hz:=List.getElem?_eq_getElem hj;obtain⟨z,hz⟩:∃ z,ns[j]?=some z:=⟨_,hz⟩
    have hk:kid (j:Int)=[j]:=(by unfold kid;rw[if_neg h0];simp)
    have hch:chs ns j=chN z:=(by unfold chs;rw[hz])
    have h1:∀ m,levL ns (kid (j:Int)) (m+1)=levL ns (chN z) m:=fun m=>by rw[hk,levL];simp[hch]
    rw[h1] at h;unfold chN at h;rw[qaL,qaL,qaL] at h;simp only[List.append_eq_nil_iff] at h;obtain⟨ha,hb1,hc,hx⟩:=h;obtain⟨b1,b2,b3,b4⟩:=hb j z hz;have t:=Tr.node hz (ih _ b1 ha) (ih _ b2 hb1) (ih _ b3 hc) (ih _ b4 hx)
    have e:∀ m,(uptoL ns (kid (j:Int)) (m+1)).length=1+((uptoL ns (kid z.a) m).length+((uptoL ns (kid z.b) m).length+((uptoL ns (kid z.c) m).length+(uptoL ns (kid z.x) m).length))):=by
     intro m
     induction m with
     | zero=>simp[uptoL,levL,hk]
     | succ m ihm =>
      rw[uptoL,List.length_append,ihm,h1];simp only[uptoL,List.length_append,chN,qaL];omega
    rw[e d];exact t
def tr_of_once (ns:List Nd) (fi:Int) (hf:fi<ns.length) (hb:∀ (j:Nat) (z:Nd),ns[j]?=some z->z.a<ns.length/\z.b<ns.length/\z.c<ns.length/\z.x<ns.length)
  (ho:∀ k,k<ns.length->pone fi k+pcnt ns k<=1):∃ n,n<=ns.length/\Tr ns fi n:=by
 have hkid:∀ a:Int,a<ns.length->∀ u∈kid a,u<ns.length:=by
  intro a ha u hu;unfold kid at hu
  split at hu
  . cases hu
  . simp at hu;omega
 have hchs:∀ v,∀ u∈chs ns v,u<ns.length:=by
  intro v u hu;unfold chs at hu
  split at hu
  . rename_i z hz;obtain⟨b1,b2,b3,b4⟩:=hb v z hz;unfold chN at hu;simp only[List.mem_append] at hu;rcases hu with h | h | h | h
    . exact hkid _ b1 u h
    . exact hkid _ b2 u h
    . exact hkid _ b3 u h
    . exact hkid _ b4 u h
  . cases hu
 have key:∀ d,Uq (uptoL ns (kid fi) d)/\∀ u∈uptoL ns (kid fi) d,u<ns.length:=by
  intro d
  induction d with
  | zero=>exact⟨fun k=>by simp[uptoL],fun u h=>by cases h⟩
  | succ d ih =>
   have hm:∀ u∈uptoL ns (kid fi) (d+1),u<ns.length:=by
    intro u hu;rw[qbV] at hu;simp only[List.mem_append,List.mem_flatMap] at hu;rcases hu with h | ⟨v,_,h⟩
    . exact hkid _ hf u h
    . exact hchs v u h
   refine ⟨fun k=>?_,hm⟩;by_cases hk:k<ns.length
   . rw[qbV,List.count_append,List.count_flatMap,qeE];have h1:=qfK (fun u=>(chs ns u).count k) ns.length _ ih.1 ih.2;rw[<-qfV] at h1;have h2:=ho k hk;have h3:(List.map (List.count k∘chs ns) (uptoL ns (kid fi) d)).sum=((uptoL ns (kid fi) d).map fun u=>(chs ns u).count k).sum:=rfl;omega
   . have:(uptoL ns (kid fi) (d+1)).count k=0:=List.count_eq_zero.2 fun h=>hk (hm k h)
     omega
 have hlen:∀ d,(uptoL ns (kid fi) d).length<=ns.length:=by
  intro d;have h1:=qfK (fun _=>1) ns.length _ (key d).1 (key d).2;simp only[List.map_const',List.sum_replicate_nat,List.length_range] at h1;omega
 have he:levL ns (kid fi) ns.length=[]:=by
  by_cases h:levL ns (kid fi) ns.length=[]
  . exact h
  . have h1:=qgZ ns (kid fi) ns.length h;have h2:=hlen (ns.length+1);omega
 exact⟨_,hlen _,tr_of_lev ns hb _ fi hf he⟩
def qbC {ns:List Nd} {fi:Int} (h:mayB ns fi=true):ns.length<=512/\(∀ (j:Nat) (z:Nd),ns[j]?=some z->nodeB ns j z=true)/\blkB ns fi ns.length=true/\∀ k,k<ns.length->pone fi k+pcnt ns k=1:=by
 unfold mayB at h;simp only[Bool.and_eq_true,decide_eq_true_eq] at h;obtain⟨⟨⟨h1,h2⟩,h3⟩,h4⟩:=h;refine ⟨h1,fun j z hz=>?_,h3,fun k hk=>?_⟩
 . unfold qdl at h2;have:=List.all_eq_true.1 h2 j (List.mem_range.2 (List.getElem?_eq_some_iff.1 hz).1);rw[hz] at this;exact this
 . unfold onceB allB at h4;have:=List.all_eq_true.1 h4 k (List.mem_range.2 hk)
   simpa using this
def qbU {ns:List Nd} {k f t:Int} {st:Bool} (h:qam ns k f t st=true):f<=k/\k<t:=by
 unfold qam at h;simp only[Bool.and_eq_true,decide_eq_true_eq] at h;exact h.1
def qgu {ns:List Nd} {k i:Int} (h:blkB ns k i=true) (hi:0<=i):k<i:=by
 unfold blkB at h;simp only[Bool.or_eq_true,beq_iff_eq] at h;rcases h with h | h
 . omega
 . exact(qbU h).2
def nodeB_lt {ns:List Nd} {j:Nat} {z:Nd} (hj:j<ns.length) (h:nodeB ns j z=true):z.a<ns.length/\z.b<ns.length/\z.c<ns.length/\z.x<ns.length:=by
 unfold nodeB aB bB cB xB at h;simp only[Bool.and_eq_true,Bool.or_eq_true,beq_iff_eq,decide_eq_true_eq] at h;obtain⟨_,⟨⟨ha,hb⟩,hc⟩,hx⟩:=h;refine ⟨?_,?_,?_,?_⟩
 . split at ha
   . have:=qbU ha;omega
   . have:z.a=-1:=by simpa using ha
     omega
 . split at hb
   . have:=qbU hb;omega
   . split at hb
     . have:=qgu hb Y;omega
     . have:z.b=-1:=by simpa using hb
       omega
 . rcases hc with h | ⟨_,h⟩
   . omega
   . have:=qgu h Y;omega
 . rcases hx with h | ⟨_,h⟩
   . omega
   . have:=qbU h;omega
def qgJ {ns:List Nd} {fi:Int} (h:mayB ns fi=true):∃ n,n<=ns.length/\Tr ns fi n:=by
 obtain⟨h1,h2,h3,h4⟩:=qbC h;exact tr_of_once ns fi (qgu h3 Y) (fun j z hz=>nodeB_lt (List.getElem?_eq_some_iff.1 hz).1 (h2 j z hz)) (fun k hk=>Nat.le_of_eq (h4 k hk))
end Go.Proofs.YtpnabjopfpdkhaaGreatDoor
namespace Go.Proofs.YtpnabjopfpdkhaaGreatDoor
open Go.Proofs.Tryz
open Go.RowKit Go.ChangeShapes Go.WideShapes Go.ChangeAt Go.Joins
def qdp {H:Type} {enc:TypeId × Value->H} {P:Program} (hl:laidOutB P=true) {W W':World} (hb:Below W.heap.size W W') :
  ∀ {ts:List TypeId} {vs:List Value} {ds:List (DataW H)} {ps:List MemPlace},ts.all (fun t=>P.readableRec t&&decide (t<P.types.size))=true->DataW.TrodAll enc P W 0 (fun _=>true) true ts vs ds ps->(∀ x∈ps,x.block<W.heap.size)->DataW.TrodAll enc P W' 0 (fun b=>decide (b<W.heap.size)) true ts vs ds ps
 | [],[],[],_,_,h,_=>h
 | [],_::_,_,_,_,h,_=>h.elim
 | [],[],_::_,_,_,h,_=>h.elim
 | _::_,[],_,_,_,h,_=>h.elim
 | _::_,_::_,[],_,_,h,_=>h.elim
 | t::ts,v::vs,d::ds,ps,hr,⟨p,q,h1,h2,e⟩,hlt=>by
  simp only[List.all_cons,Bool.and_eq_true,decide_eq_true_eq] at hr;exact⟨p,q,Below.trod hl hr.1.1 hr.1.2 h1 hb (fun x hx=>hlt x (by rw[e];simp[hx])),qdp hl hb hr.2 h2 (fun x hx=>hlt x (by rw[e];simp[hx])),e⟩
def BytesAt (w:World) (b off:Nat) (l:List UInt8):Prop:=∀ j u,l[j]?=some u->w.cell? ⟨b,off+j,none⟩=some (.int .u8 (u.toNat:Int))
def RowB (w:World) (v:Value) (l:List UInt8):Prop :=
 (∃ p cap,v=.slice p 0 cap/\cap<=140737488351232/\l=[])\/∃ b off cap,v=.slice (some ⟨b,off,none⟩) l.length cap/\l.length<=cap/\cap<=140737488351232/\BytesAt w b off l
def open_bytesR {H:Type} {enc:TypeId × Value->H} {P:Program} {W:World} {base:Nat} {t e:TypeId} (ht:P.underlying t=some (.slice e)) (he:P.underlying e=some (.int .u8)) (hc:P.cellsOf e=1) (hby:P.bytesOf e=1)
  {ts:List TypeId} {ds:List (DataW H)} {j:Nat} {v:Value} {d:DataW H} {p:List MemPlace} (hval:Value.okWide P W .any base t v) (hd:DataW.Trod enc P W 0 (fun _=>true) true t v d p)
  (hs:(DataW.weightsEach P ts ds).all (·<=reachBytes)=true) (htj:ts[j]?=some t) (hdj:ds[j]?=some d):∃ l,RowB W v l:=by
 obtain⟨a1,len,cap,rfl⟩:=okWide_slice ht hval;obtain⟨fuel,hf⟩:=hd;rcases open_ints ht he hc hf with ⟨hcs,hx⟩ | ⟨a,len',cap',zs,hcs,_,hl,hm,hz,hx,hcell,hwz⟩
 . simp[Value.cells] at hcs;obtain⟨rfl,rfl,rfl⟩:=hcs;exact⟨[],Or.inl ⟨none,0,rfl,Y,rfl⟩⟩
 . simp[Value.cells] at hcs;obtain⟨rfl,rfl,rfl⟩:=hcs;simp only[Prod.mk.injEq] at hx;obtain⟨rfl,rfl⟩:=hx;simp only[if_true] at hz;have hr:=sized_slice hs htj hdj ht;rw[hby] at hr
   have hr':cap<=140737488351232:=by
    have e1:(lits (H:=H) .u8 (zs.take len)).length+(lits (H:=H) .u8 (zs.drop len)).length=cap:=(by simp[lits];omega)
    rw[e1] at hr;have:reachBytes=140737488351232:=by decide
    omega
   have hlen:((zs.take len).map fun n=>UInt8.ofNat n.toNat).length=len:=zg;rcases Nat.eq_zero_or_pos len with h0 | h0
   . subst h0;exact⟨[],Or.inl ⟨some a,cap,rfl,hr',rfl⟩⟩
   . obtain⟨ab,ao,spot⟩:=a;have hspot:spot=none:=(by simpa [Addr.add] using World.cell?_spot (hcell 0 Y))
     subst hspot;refine ⟨(zs.take len).map fun n=>UInt8.ofNat n.toNat,Or.inr ⟨ab,ao,cap,by rw[hlen],Y,hr',?_⟩⟩;intro j u hj;simp only[List.getElem?_map,Option.map_eq_some_iff] at hj;obtain⟨z,hz1,rfl⟩:=hj
     have hz2:zs[j]?=some z:=by
      rw[List.getElem?_take] at hz1
      split at hz1
      . exact hz1
      . simp at hz1
     have hjl:=(List.getElem?_eq_some_iff.1 hz2).1;have hcj:=hcell j hjl;rw[Addr.add_lit] at hcj;rw[hcj];have hwf:=hwz z (List.mem_of_getElem? hz2);simp only[Lit.wf,Bool.and_eq_true,decide_eq_true_eq] at hwf;have e1:zs.getD j 0=z:=(by simp[List.getD,hz2])
     rw[e1]
     congr 2
     simp only[UInt8.toNat_ofNat']
     have h1:0<=z/\z<256:=by
      have:=hwf;simp[IntKind.min,IntKind.max,IntKind.bits,IntKind.signed] at this;omega
     omega
end Go.Proofs.YtpnabjopfpdkhaaGreatDoor
