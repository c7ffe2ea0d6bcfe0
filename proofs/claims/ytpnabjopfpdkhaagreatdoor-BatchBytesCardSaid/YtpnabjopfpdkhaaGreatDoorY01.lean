/- Lemmas. -/
import Derived.WalkKit
import Derived.ProofKit
import Derived.OpenShut
import Derived.ShutString
import Derived.ChangeOld
import Derived.Below
import Derived.WalkLawsBesides
import Derived.WalkSpells
import Derived.Lib.Hide
import Derived.Maps.AppendAt
import Derived.Deep.AppendLies
import Derived.Deep.AppendSrc
import Derived.Deep.Onto
import Derived.StillTail
import Derived.Deep.Quiet
import Derived.Test.YtpnabjopfpdkhaaGreatDoorChecked
import Derived.LoopTactic
import Derived.Deep.LoopGhost
import Derived.Outline
import Derived.Test.YtpnabjopfpdkhaaGreatDoorY00
import Derived.Lib.Builder
import Derived.Lib.AppendStr
import Derived.Deep.WholeRow
import Derived.Laws.Tables
import Derived.Laws.Rows
import Derived.Lib.Strings
set_option linter.all false
set_option maxHeartbeats 2000000
set_option maxRecDepth 100000
namespace Go.Proofs.YtpnabjopfpdkhaaGreatDoor
open Tryz RowKit
def J {p:Prop} (h:p):Hid p:=Lib.hid h
structure Bx (P:Prop):Prop where
  out:P
def zd {T P:Prop} (kK:P) (h:P->T:=by intro kK;refine Lex.nil fun WW hE=>?_;obtain⟨dd,oo,rfl⟩:=hE;unfold FillH;revert dd oo;exact kK):T:=h kK
def ze {T P:Prop} (kK:P) (h:P->T:=by intro kK;(try simp only[Act.put,List.getElem_toArray,List.getElem_cons_succ,List.getElem_cons_zero,List.setIfInBounds_toArray,List.set_cons_zero,List.set_cons_succ]);exact kK):T:=h kK
def zh {T P:Prop} (kK:P) (h:P->T:=by intro kK;simp only[List.take_succ_cons,List.take_zero,List.drop_succ_cons,List.drop_zero];exact kK):T:=h kK
def yad {T P:Prop} (kK:P) (h:P->T:=by intro kK;have FL:Hid (∀ (c:Int) w1,Ext w w1->Calls prog 119 #[.pointer (some ⟨b,0,none⟩),.int .i64 c] w1 fun e w'=>e=.returned (.tuple #[])/\Ext w1 w'):=J fun c w1 hx=>qbn hee (h.ext hx) c;revert FL;exact kK):T:=h kK
def jg {T P:Prop} (kK:P) (h:P->T:=by intro kK;(first | go_end0 | refine bodyPost_ret (results_none rfl _ _ _) rfl ?_);exact kK):T:=h kK
def yaf {T P:Prop} (kK:P) (h:P->T:=by intro kK;have FL:Hid (∀ (c:Int) w1,Ext w w1->Calls prog 133 #[.pointer (some ⟨b,0,none⟩),.int .i64 c] w1 fun e w'=>e=noV c (tk L m).2/\Ext w1 w'):=J fun c w1 hx=>qcf (h.ext hx) c;revert FL;exact kK):T:=h kK
def yag {T P:Prop} (kK:P) (h:P->T:=by intro kK;have TK:Hid (∀ w1,Ext w w1->Calls prog 132 #[.pointer (some ⟨b,0,none⟩)] w1 fun e w'=>e=.returned (tokV (tk L m).1 (tk L m).2)/\Ext w1 w'):=J fun w1 hx=>qci (h.ext hx);revert TK;exact kK):T:=h kK
def ja {T:Prop} (h:T:=by exact⟨(Ext.refl _).alloc _,NewBlk.of_alloc _ _ _ _ _ jf⟩):T:=h
def qg {T P:Prop} (kK:P) (h:P->T:=by intro kK;simp only[List.replicate,List.take_succ_cons,List.take_zero,List.drop_succ_cons,List.drop_zero];exact kK):T:=h kK
def yaj {T P:Prop} (kK:Bx P) (h:Bx P->T:=by intro kK;have TK:Hid (Calls prog 132 #[.pointer (some ⟨b,0,none⟩)] w fun e w'=>e=.returned (.agg #[.int .i64 k,.int .i64 a,.string ts,.int .i64 i])/\Ext w w'):=J zci;revert TK;exact kK.out):T:=h kK
def yak {T P:Prop} (kK:Bx P) (h:Bx P->T:=by intro kK;refine bodyPost_ret (v:=.tuple #[.agg #[.int .i64 0,.int .i64 0,.string ⟨#[]⟩,.int .i64 0],.int .i64 e]) zaz rfl ?_;exact kK.out):T:=h kK
def yal {T P:Prop} (kK:P) (h:P->T:=by intro kK;have H0:=J (h.locNew (.cells #[.int .i64 zk,.int .i64 za,.int .i64 zb,.int .i64 zc,.int .i64 zx,.int .i64 zi,.string zs,.string zt] 166 (0,0)));revert H0;exact kK):T:=h kK
def yam {T P:Prop} (kK:Bx P) (h:Bx P->T:=by intro kK;refine leaves_cons (f:=110) (args:=#[.pointer (some ⟨w.heap.size,0,none⟩),.pointer (some ⟨w.heap.size+1,0,none⟩),.pointer (some ⟨w.heap.size+1+1,0,none⟩)]) zy (by simp[go_sem]) ?_;exact kK.out):T:=h kK
def yan {T P:Prop} (kK:P) (h:P->T:=by intro kK;have EBB:=J (fun W (hx:Ext w W)=>hbb ▸ qaV fi (own_ext HR.out hx) zb j (Int.le_of_lt hj1));revert EBB;exact kK):T:=h kK
def yao {T P:Prop} (kK:P) (h:P->T:=by intro kK;have EA:=J (fun W (hx:Ext w W)=>hab ▸ qbs fi (own_ext HR.out hx) za j (Int.le_of_lt hj1));revert EA;exact kK):T:=h kK
def yap {T P:Prop} (kK:P) (h:P->T:=by intro kK;have EB:=J (fun W (hx:Ext w W)=>heb ▸ qbs fi (own_ext HR.out hx) zb j (Int.le_of_lt hj1));revert EB;exact kK):T:=h kK
def yaq {T P:Prop} (kK:P) (h:P->T:=by intro kK;have EC:=J (fun W (hx:Ext w W)=>hcb ▸ qaV fi (own_ext HR.out hx) zc j (Int.le_of_lt hj1));revert EC;exact kK):T:=h kK
def yar {T P:Prop} (kK:Bx P) (h:Bx P->T:=by intro kK;refine bodyPost_ret (v:=.tuple #[.agg #[.int .i64 r.k,.int .i64 ((k:Int)+n),.string r.s,.int .i64 r.i],.int .i64 e,.bool true]) zbo rfl ?_;exact kK.out):T:=h kK
def yas {T P:Prop} (kK:P) (h:P->T:=by intro kK;have HS:Hid (m+1<L.length->Hid (PS b lb lo cap L m N nv w [] (.ok ((),m+1,[])) (w.setCell ⟨b,1,none⟩ (.int .i64 ((m:Int)+1))))):=J fun hx=>PS.step h (Ext.refl w) hx;revert HS;exact kK):T:=h kK
def yat {T P:Prop} (kK:Bx P) (h:Bx P->T:=by intro kK;(have NN:=J (fun h=>qdJ (zt:=zt) h (show nameOk ⟨#[]⟩=false by kernel_rfl)));revert NN;exact kK.out):T:=h kK
def qw {T P:Prop} (kK:Bx P) (h:Bx P->T:=by intro kK;refine qaa 21 50 (List.replicate 21 false) zv zv rfl ?_;exact kK.out):T:=h kK
def qd {T P:Prop} (kK:Bx P) (h:Bx P->T:=by intro kK;refine qaa 11 36 (List.replicate 11 false) zv zv rfl ?_;exact kK.out):T:=h kK
def qj {T:Prop} (h:T:=by exact⟨by(rw[HQ.out];rfl),HX.out⟩):T:=h
def yax {T P:Prop} (kK:P) (h:P->T:=by intro kK;have NC:=J (fun za zb zc zx zi W=>qbB 11 za zb zc zx zi zs zt W);revert NC;exact kK):T:=h kK
def yay {T:Prop} (h:T:=by exact⟨⟨⟨#[]⟩,0,by simp[HE.out],fun h0=>by have:=HE.out;omega⟩,rfl⟩):T:=h
def yaz {T P:Prop} (kK:Bx P) (h:Bx P->T:=by intro kK;refine qaa 11 27 (List.replicate 11 false) zv zv rfl ?_;exact kK.out):T:=h kK
def yba {T:Prop} (h:T:=by exact⟨_,0,rfl,Nat.zero_le _,rfl,⟨none,0,rfl,World.ownsRow_nil _ _ _ _⟩,zq⟩):T:=h
def ybb {T P:Prop} (kK:Bx P) (h:Bx P->T:=by intro kK;refine qaa 9 50 (List.replicate 9 false) zv zv rfl ?_;exact kK.out):T:=h kK
def ybc {T:Prop} (h:T:=by exact PPost.res rfl HS1.out (((Kp.refl b nv w).alloc _).trans HK1.out) HM1.out):T:=h
def ybd {T:Prop} (h:T:=by exact⟨rfl,PPost.err rfl (((Kp.refl b nv w).alloc _).trans HK1.out)⟩):T:=h
def ybe {T:Prop} (h:T:=by exact⟨ret_int (by rw[HE.out];rfl),Ext.refl _⟩):T:=h
def zq {T:Prop} (h:T:=by repeat(first | (with_reducible exact Ext.refl _) | (with_reducible apply Ext.alloc) | (with_reducible apply Ext.more) | (with_reducible apply Ext.drew))):T:=h
def zf {T:Prop} (h:T:=by repeat(first | exact Ext.refl _ | apply Ext.alloc | apply Ext.more)):T:=h
def Y {T:Prop} (h:T:=by omega):T:=h
def zu {T:Prop} (h:T:=by repeat(first | (with_reducible exact Ext.refl _) | (with_reducible apply Ext.alloc) | (with_reducible apply Ext.drew))):T:=h
def jz {T:Prop} (h:T:=by repeat(first | exact Ext.refl _ | apply Ext.alloc | apply Ext.more | (refine Ext.setCell ?_ (by simp) _))):T:=h
def zv {T:Prop} (h:T:=by kernel_rfl):T:=h
def qz {T:Prop} (h:T:=by repeat(first | (with_reducible exact HLL.out) | (with_reducible apply LexAt.more) | (with_reducible apply LexAt.alloc) | ((with_reducible refine LexAt.other ?_ ?_ _);rotate_left;(show w.heap.size≠b;omega)) | ((with_reducible refine LexAt.set HLL.out _ _ ?_);omega))):T:=h
def ju {T:Prop} (h:T:=by repeat(first | (with_reducible exact HG.out) | (with_reducible refine qal ?_ (Ext.more (Ext.refl _) _ _)) | ((with_reducible refine grown_new ?_ ?_ _);rotate_left;exact Nat.le_refl w.heap.size) | (with_reducible refine qak ?_ _ _))):T:=h
def jk {T:Prop} (h:T:=by first | with_reducible rfl | (simp only[more_size,World.size_setCell,World.size_alloc,Array.size_append]<;>omega)):T:=h
def zy {T:Prop} (h:T:=by simp):T:=h
def zw {T:Prop} (h:T:=by decide):T:=h
def zal {T:Prop} (h:T:=by have h1:=HA.out;have h2:=HB.out;have h3:=HBB.out;have h4:=HC.out;have h6:=NN.out;have h7:=HQ.out;(try have h5:=HX.out);rw[<-HR0.out];simp_all[nodeB,qdY,aB,bB,cB,xB,qcm,numOk,txt1,txt2,shA,shB,shBB,shBC,shS,shT]<;>(intros;omega)):T:=h
def zg {T:Prop} (h:T:=by simp;omega):T:=h
def qi {T:Prop} (h:T:=by repeat(first | (with_reducible exact HB.out) | (with_reducible apply bld_more) | ((with_reducible refine bld_set ?_ ?_ _);rotate_left;omega))):T:=h
def qa {T:Prop} (h:T:=by first | exact S | exact US.s6 S | exact US.s1 S | exact US.s2 S | exact US.s3 S | exact US.s5 S | exact US.s7 S | exact US.al S | exact S.al.s5):T:=h
def jv {T:Prop} (h:T:=by first | rfl | (simp;done) | (simp;omega)):T:=h
def zaq {T:Prop} (h:T:=by repeat(first | (with_reducible exact hxw) | (with_reducible exact Ext.refl _) | (with_reducible apply Ext.alloc) | (with_reducible apply Ext.drew))):T:=h
def zar {T:Prop} (h:T:=by repeat(first | (with_reducible exact HT.out) | (with_reducible apply TokBlk.more) | ((with_reducible refine TokBlk.set ?_ ?_ _);rotate_left;(show b≠w.heap.size;omega)))):T:=h
def jo {T:Prop} (h:T:=by intro q hq;repeat(first | exact hq | apply List.mem_cons_of_mem)):T:=h
def jj {T:Prop} (h:T:=by have:=HN.out;omega):T:=h
def zau {T:Prop} (h:T:=by have:=HBD.out;have h2:=HG2.out;(try simp only[List.length_append,List.length_cons,List.length_nil] at this ⊢);omega):T:=h
def qb {T:Prop} (h:T:=by repeat(first | (with_reducible exact Ext.refl _) | (with_reducible apply Ext.alloc))):T:=h
def zaw {T:Prop} (h:T:=by repeat(first | (with_reducible exact HS4.out) | (with_reducible apply Rt.alloc) | (with_reducible apply Rt.more))):T:=h
def zax {T:Prop} (h:T:=by repeat(first | (with_reducible exact HK4.out) | (with_reducible apply Kp.alloc) | (with_reducible apply Kp.more))):T:=h
def zay {T:Prop} (h:T:=by repeat(first | (with_reducible exact HSE.out) | (with_reducible apply Rt.alloc) | (with_reducible apply Rt.more))):T:=h
def zaz {T:Prop} (h:T:=by simp[results,results129,he,t0,t1,t2,t3,tf,hne,hne2,ht,hb,go_sem]):T:=h
def qy {T:Prop} (h:T:=by simp[results,results117,go_sem]):T:=h
def zbb {T:Prop} (h:T:=by simp only[cellsB_length,List.length_append,List.length_cons,List.length_nil];have:=HAL.out;omega):T:=h
def zbc {T:Prop} (h:T:=by repeat(first | exact HL.out | apply LexAt.alloc | apply LexAt.more | (refine LexAt.set ?_ _ _ (by first | rfl | omega)))):T:=h
def zbd {T:Prop} (h:T:=by repeat(first | (with_reducible exact HXr.out) | (with_reducible apply Ext.alloc) | (with_reducible apply Ext.more) | (with_reducible apply Ext.drew))):T:=h
def zbe {T:Prop} (h:T:=by repeat(first | (with_reducible exact HL.out) | (with_reducible apply LexAt.alloc) | (with_reducible apply LexAt.more))):T:=h
def jq {T:Prop} (h:T:=by unfold maxLen;omega):T:=h
def zbg {T:Prop} (h:T:=by repeat(first | (with_reducible apply LexAt.more) | (with_reducible apply LexAt.alloc) | ((with_reducible refine LexAt.set HL.out _ _ ?_);omega))):T:=h
def jf {T:Prop} (h:T:=by simp[more_size]):T:=h
def ji {T:Prop} (h:T:=by intro u hu;simp at hu;subst hu;rfl):T:=h
def zbj {T:Prop} (h:T:=by repeat(first | exact List.mem_cons_self | apply List.mem_cons_of_mem)):T:=h
def zo {T:Prop} (h:T:=by assumption):T:=h
def zbl {T:Prop} (h:T:=by have:=QQ.out;exact⟨by dsimp only;omega,by dsimp only;omega⟩):T:=h
def zbm {T:Prop} (h:T:=by repeat(first | (with_reducible exact HS0.out) | (with_reducible apply CkSt.alloc) | (with_reducible apply CkSt.more))):T:=h
def zbn {T:Prop} (h:T:=by repeat(first | (with_reducible exact HKE.out) | (with_reducible apply Kp.alloc) | (with_reducible apply Kp.more))):T:=h
def zbo {T:Prop} (h:T:=by simp[results,results109,go_sem]):T:=h
def zbp {T:Prop} (h:T:=by simp[results,results106,go_sem]):T:=h
def jx {T:Prop} (h:T:=by simpa using h):T:=h
def zbr {T:Prop} (h:T:=by repeat(first | exact Ext.refl _ | apply Ext.more)):T:=h
def zbs {T:Prop} (h:T:=by simp[results,results49,r0,r1,r2,r3,r4,r5,rf,rl,go_sem]):T:=h
def zbt {T:Prop} (h:T:=by refine HX.out.trans ?_;repeat(first | exact Ext.refl _ | apply Ext.alloc | apply Ext.more)):T:=h
def zbu {T:Prop} (h:T:=by have:=QR.out;have:=QW.out;have:=QN.out;(try simp only[List.length_append]);omega):T:=h
def je {T:Prop} (h:T:=by dsimp only;omega):T:=h
def zbw {T:Prop} (h:T:=by simp[results,results128,go_sem]):T:=h
def zbx {T:Prop} (h:T:=by simp[results,results45,r0,r1,r2,r3,r4,r5,rf,rl,go_sem]):T:=h
def zby {T:Prop} (h:T:=by repeat(first | exact Ext.refl _ | apply Ext.alloc | apply Ext.more | apply Ext.drewN)):T:=h
def zbz {T:Prop} (h:T:=by simp[results,results105,go_sem,p0,p1,y0,y1,lp]):T:=h
def jd {T:Prop} (h:T:=by rw[hb];simp):T:=h
def zcb {T:Prop} (h:T:=by unfold maxLen;have:=HTL.out;omega):T:=h
def zcc {T:Prop} (h:T:=by cases A<;>cases B<;>cases C<;>first | rfl | contradiction | simp_all):T:=h
def jw {T:Prop} (h:T:=by simp_all):T:=h
def qh {T:Prop} (h:T:=by rw[htt];simpa using hs):T:=h
def zcf {T:Prop} (h:T:=by intro u hu;simp at hu;rcases hu with rfl | rfl | rfl | rfl<;>rfl):T:=h
def zcg {T:Prop} (h:T:=by simp[results,results90,go_sem]):T:=h
def zch {T:Prop} (h:T:=by simp[results,results126,go_sem]):T:=h
def zci {T:Prop} (h:T:=by have:=qci h;rw[htt] at this;exact this):T:=h
def jb {T:Prop} (h:T:=by simpa using hlt):T:=h
def zck {T:Prop} (h:T:=by simp only[more_size,World.size_alloc];omega):T:=h
def qk {T:Prop} (h:T:=by rw[htt];exact hk):T:=h
def jh {T:Prop} (h:T:=by have:=h.low;omega):T:=h
def zcn {T:Prop} (h:T:=by rw[<-hr4];simp[twoNd,nd,Nat.add_assoc]):T:=h
def zco {T:Prop} (h:T:=by rw[World.size_alloc];exact hblk):T:=h
def zcp {T:Prop} (h:T:=by obtain⟨p,c,e,_⟩:=hR;exact⟨p,c,e⟩):T:=h
def qf {T:Prop} (h:T:=by rw[qfO];omega):T:=h
def zcr {T:Prop} (h:T:=by have:=HQ.out.2;unfold maxLen;omega):T:=h
def zcs {T:Prop} (h:T:=by have:=HBL.out.size;omega):T:=h
def zct {T:Prop} (h:T:=by have:=HTL.out;omega):T:=h
def jy {T:Prop} (h:T:=by rfl):T:=h
def zcv {T:Prop} (h:T:=by simpa using hjs):T:=h
def more (w:World) (d:Nat) (os:Array Obj):World:={ w with drawn:=d,heap:=w.heap++os }
theorem more_size (w:World) (d:Nat) (os:Array Obj):(more w d os).heap.size=w.heap.size+os.size:=by simp[more]
def more_heap (w:World) (d:Nat) (os:Array Obj) (b:Nat) (h:b<w.heap.size):(more w d os).heap[b]?=w.heap[b]?:=by
 simp[more,Array.getElem?_append,h]
theorem qcw (w:World) (d:Nat) (os:Array Obj) (b i:Nat) (h:b<w.heap.size):(more w d os).cell? ⟨b,i,none⟩=w.cell? ⟨b,i,none⟩ :=
 World.cell?_of_block (more_heap w d os b h)
theorem more_frozen (w:World) (d:Nat) (os:Array Obj) (b i:Nat) (h:b<w.heap.size):(more w d os).frozen? ⟨b,i,none⟩=w.frozen? ⟨b,i,none⟩ :=
 World.frozen?_of_block (more_heap w d os b h)
theorem more_tape (w:World) (d:Nat) (os:Array Obj):(more w d os).tape=w.tape:=rfl
theorem more_os (w:World) (d:Nat) (os:Array Obj):(more w d os).os=w.os:=rfl
theorem more_drawn (w:World) (d:Nat) (os:Array Obj):(more w d os).drawn=d:=rfl
theorem more_drew (w:World) (d:Nat) (os:Array Obj):(more w d os).drew=more w (d+1) os:=rfl
theorem drew_more (w:World) (d:Nat) (os:Array Obj):more w.drew d os=more w d os:=rfl
theorem more_drewN (w:World) (d n:Nat) (os:Array Obj):(more w d os).drewN n=more w (d+n) os:=rfl
theorem drewN_more (w:World) (d n:Nat) (os:Array Obj):more (w.drewN n) d os=more w d os:=rfl
theorem more_shape (w:World) (d:Nat) (os:Array Obj) (b:Nat) (h:b<w.heap.size):(more w d os).shape? b=w.shape? b:=by
 simp[World.shape?,more_heap w d os b h]
theorem more_setCell (w:World) (d:Nat) (os:Array Obj) (b i:Nat) (v:Value) (h:b<w.heap.size) :
  (more w d os).setCell ⟨b,i,none⟩ v=more (w.setCell ⟨b,i,none⟩ v) d os:=by
 unfold World.setCell more
 congr 1
 apply Array.ext_getElem?;intro k;simp only[Array.getElem?_modify,Array.getElem?_append,Array.size_modify];by_cases hk:b=k
 . subst hk;simp[h]
 . simp[hk]
theorem more_more (w:World) (d d':Nat) (os os':Array Obj):more (more w d os) d' os'=more w d' (os++os'):=by simp[more,Array.append_assoc]
theorem ltF1 (a:Nat) (b0:Nat):a<a+1+b0:=by omega
theorem leF1 (a:Nat) (b0:Nat):a<=a+b0:=by omega
theorem neF1 (a:Nat) (b0:Nat):(a=a+1+b0)=False:=by simp;omega
theorem neG1 (a:Nat) (b0:Nat):(a+1+b0=a)=False:=by simp;omega
theorem ltF2 (a:Nat) (b0 b1:Nat):a<a+1+b0+b1:=by omega
theorem leF2 (a:Nat) (b0 b1:Nat):a<=a+b0+b1:=by omega
theorem neF2 (a:Nat) (b0 b1:Nat):(a=a+1+b0+b1)=False:=by simp;omega
theorem neG2 (a:Nat) (b0 b1:Nat):(a+1+b0+b1=a)=False:=by simp;omega
theorem ltF3 (a:Nat) (b0 b1 b2:Nat):a<a+1+b0+b1+b2:=by omega
theorem leF3 (a:Nat) (b0 b1 b2:Nat):a<=a+b0+b1+b2:=by omega
theorem neF3 (a:Nat) (b0 b1 b2:Nat):(a=a+1+b0+b1+b2)=False:=by simp;omega
theorem neG3 (a:Nat) (b0 b1 b2:Nat):(a+1+b0+b1+b2=a)=False:=by simp;omega
theorem ltF4 (a:Nat) (b0 b1 b2 b3:Nat):a<a+1+b0+b1+b2+b3:=by omega
theorem leF4 (a:Nat) (b0 b1 b2 b3:Nat):a<=a+b0+b1+b2+b3:=by omega
theorem neF4 (a:Nat) (b0 b1 b2 b3:Nat):(a=a+1+b0+b1+b2+b3)=False:=by simp;omega
theorem neG4 (a:Nat) (b0 b1 b2 b3:Nat):(a+1+b0+b1+b2+b3=a)=False:=by simp;omega
theorem ltF5 (a:Nat) (b0 b1 b2 b3 b4:Nat):a<a+1+b0+b1+b2+b3+b4:=by omega
theorem leF5 (a:Nat) (b0 b1 b2 b3 b4:Nat):a<=a+b0+b1+b2+b3+b4:=by omega
theorem neF5 (a:Nat) (b0 b1 b2 b3 b4:Nat):(a=a+1+b0+b1+b2+b3+b4)=False:=by simp;omega
theorem neG5 (a:Nat) (b0 b1 b2 b3 b4:Nat):(a+1+b0+b1+b2+b3+b4=a)=False:=by simp;omega
theorem ltF6 (a:Nat) (b0 b1 b2 b3 b4 b5:Nat):a<a+1+b0+b1+b2+b3+b4+b5:=by omega
theorem leF6 (a:Nat) (b0 b1 b2 b3 b4 b5:Nat):a<=a+b0+b1+b2+b3+b4+b5:=by omega
theorem neF6 (a:Nat) (b0 b1 b2 b3 b4 b5:Nat):(a=a+1+b0+b1+b2+b3+b4+b5)=False:=by simp;omega
theorem neG6 (a:Nat) (b0 b1 b2 b3 b4 b5:Nat):(a+1+b0+b1+b2+b3+b4+b5=a)=False:=by simp;omega
theorem ltF7 (a:Nat) (b0 b1 b2 b3 b4 b5 b6:Nat):a<a+1+b0+b1+b2+b3+b4+b5+b6:=by omega
theorem leF7 (a:Nat) (b0 b1 b2 b3 b4 b5 b6:Nat):a<=a+b0+b1+b2+b3+b4+b5+b6:=by omega
theorem neF7 (a:Nat) (b0 b1 b2 b3 b4 b5 b6:Nat):(a=a+1+b0+b1+b2+b3+b4+b5+b6)=False:=by simp;omega
theorem neG7 (a:Nat) (b0 b1 b2 b3 b4 b5 b6:Nat):(a+1+b0+b1+b2+b3+b4+b5+b6=a)=False:=by simp;omega
theorem ltF8 (a:Nat) (b0 b1 b2 b3 b4 b5 b6 b7:Nat):a<a+1+b0+b1+b2+b3+b4+b5+b6+b7:=by omega
theorem leF8 (a:Nat) (b0 b1 b2 b3 b4 b5 b6 b7:Nat):a<=a+b0+b1+b2+b3+b4+b5+b6+b7:=by omega
theorem neF8 (a:Nat) (b0 b1 b2 b3 b4 b5 b6 b7:Nat):(a=a+1+b0+b1+b2+b3+b4+b5+b6+b7)=False:=by simp;omega
theorem neG8 (a:Nat) (b0 b1 b2 b3 b4 b5 b6 b7:Nat):(a+1+b0+b1+b2+b3+b4+b5+b6+b7=a)=False:=by simp;omega
theorem ltF9 (a:Nat) (b0 b1 b2 b3 b4 b5 b6 b7 b8:Nat):a<a+1+b0+b1+b2+b3+b4+b5+b6+b7+b8:=by omega
theorem leF9 (a:Nat) (b0 b1 b2 b3 b4 b5 b6 b7 b8:Nat):a<=a+b0+b1+b2+b3+b4+b5+b6+b7+b8:=by omega
theorem neF9 (a:Nat) (b0 b1 b2 b3 b4 b5 b6 b7 b8:Nat):(a=a+1+b0+b1+b2+b3+b4+b5+b6+b7+b8)=False:=by simp;omega
theorem neG9 (a:Nat) (b0 b1 b2 b3 b4 b5 b6 b7 b8:Nat):(a+1+b0+b1+b2+b3+b4+b5+b6+b7+b8=a)=False:=by simp;omega
theorem ltF10 (a:Nat) (b0 b1 b2 b3 b4 b5 b6 b7 b8 b9:Nat):a<a+1+b0+b1+b2+b3+b4+b5+b6+b7+b8+b9:=by omega
theorem leF10 (a:Nat) (b0 b1 b2 b3 b4 b5 b6 b7 b8 b9:Nat):a<=a+b0+b1+b2+b3+b4+b5+b6+b7+b8+b9:=by omega
theorem neF10 (a:Nat) (b0 b1 b2 b3 b4 b5 b6 b7 b8 b9:Nat):(a=a+1+b0+b1+b2+b3+b4+b5+b6+b7+b8+b9)=False:=by simp;omega
theorem neG10 (a:Nat) (b0 b1 b2 b3 b4 b5 b6 b7 b8 b9:Nat):(a+1+b0+b1+b2+b3+b4+b5+b6+b7+b8+b9=a)=False:=by simp;omega
theorem ltF11 (a:Nat) (b0 b1 b2 b3 b4 b5 b6 b7 b8 b9 b10:Nat):a<a+1+b0+b1+b2+b3+b4+b5+b6+b7+b8+b9+b10:=by omega
theorem leF11 (a:Nat) (b0 b1 b2 b3 b4 b5 b6 b7 b8 b9 b10:Nat):a<=a+b0+b1+b2+b3+b4+b5+b6+b7+b8+b9+b10:=by omega
theorem neF11 (a:Nat) (b0 b1 b2 b3 b4 b5 b6 b7 b8 b9 b10:Nat):(a=a+1+b0+b1+b2+b3+b4+b5+b6+b7+b8+b9+b10)=False:=by simp;omega
theorem neG11 (a:Nat) (b0 b1 b2 b3 b4 b5 b6 b7 b8 b9 b10:Nat):(a+1+b0+b1+b2+b3+b4+b5+b6+b7+b8+b9+b10=a)=False:=by simp;omega
theorem ltF12 (a:Nat) (b0 b1 b2 b3 b4 b5 b6 b7 b8 b9 b10 b11:Nat):a<a+1+b0+b1+b2+b3+b4+b5+b6+b7+b8+b9+b10+b11:=by omega
theorem leF12 (a:Nat) (b0 b1 b2 b3 b4 b5 b6 b7 b8 b9 b10 b11:Nat):a<=a+b0+b1+b2+b3+b4+b5+b6+b7+b8+b9+b10+b11:=by omega
theorem neF12 (a:Nat) (b0 b1 b2 b3 b4 b5 b6 b7 b8 b9 b10 b11:Nat):(a=a+1+b0+b1+b2+b3+b4+b5+b6+b7+b8+b9+b10+b11)=False:=by simp;omega
theorem neG12 (a:Nat) (b0 b1 b2 b3 b4 b5 b6 b7 b8 b9 b10 b11:Nat):(a+1+b0+b1+b2+b3+b4+b5+b6+b7+b8+b9+b10+b11=a)=False:=by simp;omega
theorem ltF13 (a:Nat) (b0 b1 b2 b3 b4 b5 b6 b7 b8 b9 b10 b11 b12:Nat):a<a+1+b0+b1+b2+b3+b4+b5+b6+b7+b8+b9+b10+b11+b12:=by omega
theorem leF13 (a:Nat) (b0 b1 b2 b3 b4 b5 b6 b7 b8 b9 b10 b11 b12:Nat):a<=a+b0+b1+b2+b3+b4+b5+b6+b7+b8+b9+b10+b11+b12:=by omega
theorem neF13 (a:Nat) (b0 b1 b2 b3 b4 b5 b6 b7 b8 b9 b10 b11 b12:Nat):(a=a+1+b0+b1+b2+b3+b4+b5+b6+b7+b8+b9+b10+b11+b12)=False:=by simp;omega
theorem neG13 (a:Nat) (b0 b1 b2 b3 b4 b5 b6 b7 b8 b9 b10 b11 b12:Nat):(a+1+b0+b1+b2+b3+b4+b5+b6+b7+b8+b9+b10+b11+b12=a)=False:=by simp;omega
theorem ltF14 (a:Nat) (b0 b1 b2 b3 b4 b5 b6 b7 b8 b9 b10 b11 b12 b13:Nat):a<a+1+b0+b1+b2+b3+b4+b5+b6+b7+b8+b9+b10+b11+b12+b13:=by omega
theorem leF14 (a:Nat) (b0 b1 b2 b3 b4 b5 b6 b7 b8 b9 b10 b11 b12 b13:Nat):a<=a+b0+b1+b2+b3+b4+b5+b6+b7+b8+b9+b10+b11+b12+b13:=by omega
theorem neF14 (a:Nat) (b0 b1 b2 b3 b4 b5 b6 b7 b8 b9 b10 b11 b12 b13:Nat):(a=a+1+b0+b1+b2+b3+b4+b5+b6+b7+b8+b9+b10+b11+b12+b13)=False:=by simp;omega
theorem neG14 (a:Nat) (b0 b1 b2 b3 b4 b5 b6 b7 b8 b9 b10 b11 b12 b13:Nat):(a+1+b0+b1+b2+b3+b4+b5+b6+b7+b8+b9+b10+b11+b12+b13=a)=False:=by simp;omega
theorem ltF15 (a:Nat) (b0 b1 b2 b3 b4 b5 b6 b7 b8 b9 b10 b11 b12 b13 b14:Nat):a<a+1+b0+b1+b2+b3+b4+b5+b6+b7+b8+b9+b10+b11+b12+b13+b14:=by omega
theorem leF15 (a:Nat) (b0 b1 b2 b3 b4 b5 b6 b7 b8 b9 b10 b11 b12 b13 b14:Nat):a<=a+b0+b1+b2+b3+b4+b5+b6+b7+b8+b9+b10+b11+b12+b13+b14:=by omega
theorem neF15 (a:Nat) (b0 b1 b2 b3 b4 b5 b6 b7 b8 b9 b10 b11 b12 b13 b14:Nat):(a=a+1+b0+b1+b2+b3+b4+b5+b6+b7+b8+b9+b10+b11+b12+b13+b14)=False:=by simp;omega
theorem neG15 (a:Nat) (b0 b1 b2 b3 b4 b5 b6 b7 b8 b9 b10 b11 b12 b13 b14:Nat):(a+1+b0+b1+b2+b3+b4+b5+b6+b7+b8+b9+b10+b11+b12+b13+b14=a)=False:=by simp;omega
theorem ltF16 (a:Nat) (b0 b1 b2 b3 b4 b5 b6 b7 b8 b9 b10 b11 b12 b13 b14 b15:Nat):a<a+1+b0+b1+b2+b3+b4+b5+b6+b7+b8+b9+b10+b11+b12+b13+b14+b15:=by omega
theorem leF16 (a:Nat) (b0 b1 b2 b3 b4 b5 b6 b7 b8 b9 b10 b11 b12 b13 b14 b15:Nat):a<=a+b0+b1+b2+b3+b4+b5+b6+b7+b8+b9+b10+b11+b12+b13+b14+b15:=by omega
theorem neF16 (a:Nat) (b0 b1 b2 b3 b4 b5 b6 b7 b8 b9 b10 b11 b12 b13 b14 b15:Nat):(a=a+1+b0+b1+b2+b3+b4+b5+b6+b7+b8+b9+b10+b11+b12+b13+b14+b15)=False:=by simp;omega
theorem neG16 (a:Nat) (b0 b1 b2 b3 b4 b5 b6 b7 b8 b9 b10 b11 b12 b13 b14 b15:Nat):(a+1+b0+b1+b2+b3+b4+b5+b6+b7+b8+b9+b10+b11+b12+b13+b14+b15=a)=False:=by simp;omega
theorem ltF17 (a:Nat) (b0 b1 b2 b3 b4 b5 b6 b7 b8 b9 b10 b11 b12 b13 b14 b15 b16:Nat):a<a+1+b0+b1+b2+b3+b4+b5+b6+b7+b8+b9+b10+b11+b12+b13+b14+b15+b16:=by omega
theorem leF17 (a:Nat) (b0 b1 b2 b3 b4 b5 b6 b7 b8 b9 b10 b11 b12 b13 b14 b15 b16:Nat):a<=a+b0+b1+b2+b3+b4+b5+b6+b7+b8+b9+b10+b11+b12+b13+b14+b15+b16:=by omega
theorem neF17 (a:Nat) (b0 b1 b2 b3 b4 b5 b6 b7 b8 b9 b10 b11 b12 b13 b14 b15 b16:Nat):(a=a+1+b0+b1+b2+b3+b4+b5+b6+b7+b8+b9+b10+b11+b12+b13+b14+b15+b16)=False:=by simp;omega
theorem neG17 (a:Nat) (b0 b1 b2 b3 b4 b5 b6 b7 b8 b9 b10 b11 b12 b13 b14 b15 b16:Nat):(a+1+b0+b1+b2+b3+b4+b5+b6+b7+b8+b9+b10+b11+b12+b13+b14+b15+b16=a)=False:=by simp;omega
theorem ltF18 (a:Nat) (b0 b1 b2 b3 b4 b5 b6 b7 b8 b9 b10 b11 b12 b13 b14 b15 b16 b17:Nat):a<a+1+b0+b1+b2+b3+b4+b5+b6+b7+b8+b9+b10+b11+b12+b13+b14+b15+b16+b17:=by omega
theorem leF18 (a:Nat) (b0 b1 b2 b3 b4 b5 b6 b7 b8 b9 b10 b11 b12 b13 b14 b15 b16 b17:Nat):a<=a+b0+b1+b2+b3+b4+b5+b6+b7+b8+b9+b10+b11+b12+b13+b14+b15+b16+b17:=by omega
theorem neF18 (a:Nat) (b0 b1 b2 b3 b4 b5 b6 b7 b8 b9 b10 b11 b12 b13 b14 b15 b16 b17:Nat):(a=a+1+b0+b1+b2+b3+b4+b5+b6+b7+b8+b9+b10+b11+b12+b13+b14+b15+b16+b17)=False:=by simp;omega
theorem neG18 (a:Nat) (b0 b1 b2 b3 b4 b5 b6 b7 b8 b9 b10 b11 b12 b13 b14 b15 b16 b17:Nat):(a+1+b0+b1+b2+b3+b4+b5+b6+b7+b8+b9+b10+b11+b12+b13+b14+b15+b16+b17=a)=False:=by simp;omega
theorem ltF19 (a:Nat) (b0 b1 b2 b3 b4 b5 b6 b7 b8 b9 b10 b11 b12 b13 b14 b15 b16 b17 b18:Nat):a<a+1+b0+b1+b2+b3+b4+b5+b6+b7+b8+b9+b10+b11+b12+b13+b14+b15+b16+b17+b18:=by omega
theorem leF19 (a:Nat) (b0 b1 b2 b3 b4 b5 b6 b7 b8 b9 b10 b11 b12 b13 b14 b15 b16 b17 b18:Nat):a<=a+b0+b1+b2+b3+b4+b5+b6+b7+b8+b9+b10+b11+b12+b13+b14+b15+b16+b17+b18:=by omega
theorem neF19 (a:Nat) (b0 b1 b2 b3 b4 b5 b6 b7 b8 b9 b10 b11 b12 b13 b14 b15 b16 b17 b18:Nat):(a=a+1+b0+b1+b2+b3+b4+b5+b6+b7+b8+b9+b10+b11+b12+b13+b14+b15+b16+b17+b18)=False:=by simp;omega
theorem neG19 (a:Nat) (b0 b1 b2 b3 b4 b5 b6 b7 b8 b9 b10 b11 b12 b13 b14 b15 b16 b17 b18:Nat):(a+1+b0+b1+b2+b3+b4+b5+b6+b7+b8+b9+b10+b11+b12+b13+b14+b15+b16+b17+b18=a)=False:=by simp;omega
theorem ltF20 (a:Nat) (b0 b1 b2 b3 b4 b5 b6 b7 b8 b9 b10 b11 b12 b13 b14 b15 b16 b17 b18 b19:Nat):a<a+1+b0+b1+b2+b3+b4+b5+b6+b7+b8+b9+b10+b11+b12+b13+b14+b15+b16+b17+b18+b19:=by omega
theorem leF20 (a:Nat) (b0 b1 b2 b3 b4 b5 b6 b7 b8 b9 b10 b11 b12 b13 b14 b15 b16 b17 b18 b19:Nat):a<=a+b0+b1+b2+b3+b4+b5+b6+b7+b8+b9+b10+b11+b12+b13+b14+b15+b16+b17+b18+b19:=by omega
theorem neF20 (a:Nat) (b0 b1 b2 b3 b4 b5 b6 b7 b8 b9 b10 b11 b12 b13 b14 b15 b16 b17 b18 b19:Nat):(a=a+1+b0+b1+b2+b3+b4+b5+b6+b7+b8+b9+b10+b11+b12+b13+b14+b15+b16+b17+b18+b19)=False:=by simp;omega
theorem neG20 (a:Nat) (b0 b1 b2 b3 b4 b5 b6 b7 b8 b9 b10 b11 b12 b13 b14 b15 b16 b17 b18 b19:Nat):(a+1+b0+b1+b2+b3+b4+b5+b6+b7+b8+b9+b10+b11+b12+b13+b14+b15+b16+b17+b18+b19=a)=False:=by simp;omega
theorem ltF21 (a:Nat) (b0 b1 b2 b3 b4 b5 b6 b7 b8 b9 b10 b11 b12 b13 b14 b15 b16 b17 b18 b19 b20:Nat):a<a+1+b0+b1+b2+b3+b4+b5+b6+b7+b8+b9+b10+b11+b12+b13+b14+b15+b16+b17+b18+b19+b20:=by omega
theorem leF21 (a:Nat) (b0 b1 b2 b3 b4 b5 b6 b7 b8 b9 b10 b11 b12 b13 b14 b15 b16 b17 b18 b19 b20:Nat):a<=a+b0+b1+b2+b3+b4+b5+b6+b7+b8+b9+b10+b11+b12+b13+b14+b15+b16+b17+b18+b19+b20:=by omega
theorem neF21 (a:Nat) (b0 b1 b2 b3 b4 b5 b6 b7 b8 b9 b10 b11 b12 b13 b14 b15 b16 b17 b18 b19 b20:Nat):(a=a+1+b0+b1+b2+b3+b4+b5+b6+b7+b8+b9+b10+b11+b12+b13+b14+b15+b16+b17+b18+b19+b20)=False:=by simp;omega
theorem neG21 (a:Nat) (b0 b1 b2 b3 b4 b5 b6 b7 b8 b9 b10 b11 b12 b13 b14 b15 b16 b17 b18 b19 b20:Nat):(a+1+b0+b1+b2+b3+b4+b5+b6+b7+b8+b9+b10+b11+b12+b13+b14+b15+b16+b17+b18+b19+b20=a)=False:=by simp;omega
theorem ltF22 (a:Nat) (b0 b1 b2 b3 b4 b5 b6 b7 b8 b9 b10 b11 b12 b13 b14 b15 b16 b17 b18 b19 b20 b21:Nat):a<a+1+b0+b1+b2+b3+b4+b5+b6+b7+b8+b9+b10+b11+b12+b13+b14+b15+b16+b17+b18+b19+b20+b21:=by omega
theorem leF22 (a:Nat) (b0 b1 b2 b3 b4 b5 b6 b7 b8 b9 b10 b11 b12 b13 b14 b15 b16 b17 b18 b19 b20 b21:Nat):a<=a+b0+b1+b2+b3+b4+b5+b6+b7+b8+b9+b10+b11+b12+b13+b14+b15+b16+b17+b18+b19+b20+b21:=by omega
theorem neF22 (a:Nat) (b0 b1 b2 b3 b4 b5 b6 b7 b8 b9 b10 b11 b12 b13 b14 b15 b16 b17 b18 b19 b20 b21:Nat):(a=a+1+b0+b1+b2+b3+b4+b5+b6+b7+b8+b9+b10+b11+b12+b13+b14+b15+b16+b17+b18+b19+b20+b21)=False:=by simp;omega
theorem neG22 (a:Nat) (b0 b1 b2 b3 b4 b5 b6 b7 b8 b9 b10 b11 b12 b13 b14 b15 b16 b17 b18 b19 b20 b21:Nat):(a+1+b0+b1+b2+b3+b4+b5+b6+b7+b8+b9+b10+b11+b12+b13+b14+b15+b16+b17+b18+b19+b20+b21=a)=False:=by simp;omega
theorem ltF23 (a:Nat) (b0 b1 b2 b3 b4 b5 b6 b7 b8 b9 b10 b11 b12 b13 b14 b15 b16 b17 b18 b19 b20 b21 b22:Nat):a<a+1+b0+b1+b2+b3+b4+b5+b6+b7+b8+b9+b10+b11+b12+b13+b14+b15+b16+b17+b18+b19+b20+b21+b22:=by omega
theorem leF23 (a:Nat) (b0 b1 b2 b3 b4 b5 b6 b7 b8 b9 b10 b11 b12 b13 b14 b15 b16 b17 b18 b19 b20 b21 b22:Nat):a<=a+b0+b1+b2+b3+b4+b5+b6+b7+b8+b9+b10+b11+b12+b13+b14+b15+b16+b17+b18+b19+b20+b21+b22:=by omega
theorem neF23 (a:Nat) (b0 b1 b2 b3 b4 b5 b6 b7 b8 b9 b10 b11 b12 b13 b14 b15 b16 b17 b18 b19 b20 b21 b22:Nat):(a=a+1+b0+b1+b2+b3+b4+b5+b6+b7+b8+b9+b10+b11+b12+b13+b14+b15+b16+b17+b18+b19+b20+b21+b22)=False:=by simp;omega
theorem neG23 (a:Nat) (b0 b1 b2 b3 b4 b5 b6 b7 b8 b9 b10 b11 b12 b13 b14 b15 b16 b17 b18 b19 b20 b21 b22:Nat):(a+1+b0+b1+b2+b3+b4+b5+b6+b7+b8+b9+b10+b11+b12+b13+b14+b15+b16+b17+b18+b19+b20+b21+b22=a)=False:=by simp;omega
theorem ltF24 (a:Nat) (b0 b1 b2 b3 b4 b5 b6 b7 b8 b9 b10 b11 b12 b13 b14 b15 b16 b17 b18 b19 b20 b21 b22 b23:Nat):a<a+1+b0+b1+b2+b3+b4+b5+b6+b7+b8+b9+b10+b11+b12+b13+b14+b15+b16+b17+b18+b19+b20+b21+b22+b23:=by omega
theorem leF24 (a:Nat) (b0 b1 b2 b3 b4 b5 b6 b7 b8 b9 b10 b11 b12 b13 b14 b15 b16 b17 b18 b19 b20 b21 b22 b23:Nat):a<=a+b0+b1+b2+b3+b4+b5+b6+b7+b8+b9+b10+b11+b12+b13+b14+b15+b16+b17+b18+b19+b20+b21+b22+b23:=by omega
theorem neF24 (a:Nat) (b0 b1 b2 b3 b4 b5 b6 b7 b8 b9 b10 b11 b12 b13 b14 b15 b16 b17 b18 b19 b20 b21 b22 b23:Nat):(a=a+1+b0+b1+b2+b3+b4+b5+b6+b7+b8+b9+b10+b11+b12+b13+b14+b15+b16+b17+b18+b19+b20+b21+b22+b23)=False:=by simp;omega
theorem neG24 (a:Nat) (b0 b1 b2 b3 b4 b5 b6 b7 b8 b9 b10 b11 b12 b13 b14 b15 b16 b17 b18 b19 b20 b21 b22 b23:Nat):(a+1+b0+b1+b2+b3+b4+b5+b6+b7+b8+b9+b10+b11+b12+b13+b14+b15+b16+b17+b18+b19+b20+b21+b22+b23=a)=False:=by simp;omega
theorem ltF25 (a:Nat) (b0 b1 b2 b3 b4 b5 b6 b7 b8 b9 b10 b11 b12 b13 b14 b15 b16 b17 b18 b19 b20 b21 b22 b23 b24:Nat):a<a+1+b0+b1+b2+b3+b4+b5+b6+b7+b8+b9+b10+b11+b12+b13+b14+b15+b16+b17+b18+b19+b20+b21+b22+b23+b24:=by omega
theorem leF25 (a:Nat) (b0 b1 b2 b3 b4 b5 b6 b7 b8 b9 b10 b11 b12 b13 b14 b15 b16 b17 b18 b19 b20 b21 b22 b23 b24:Nat):a<=a+b0+b1+b2+b3+b4+b5+b6+b7+b8+b9+b10+b11+b12+b13+b14+b15+b16+b17+b18+b19+b20+b21+b22+b23+b24:=by omega
theorem neF25 (a:Nat) (b0 b1 b2 b3 b4 b5 b6 b7 b8 b9 b10 b11 b12 b13 b14 b15 b16 b17 b18 b19 b20 b21 b22 b23 b24:Nat):(a=a+1+b0+b1+b2+b3+b4+b5+b6+b7+b8+b9+b10+b11+b12+b13+b14+b15+b16+b17+b18+b19+b20+b21+b22+b23+b24)=False:=by simp;omega
theorem neG25 (a:Nat) (b0 b1 b2 b3 b4 b5 b6 b7 b8 b9 b10 b11 b12 b13 b14 b15 b16 b17 b18 b19 b20 b21 b22 b23 b24:Nat):(a+1+b0+b1+b2+b3+b4+b5+b6+b7+b8+b9+b10+b11+b12+b13+b14+b15+b16+b17+b18+b19+b20+b21+b22+b23+b24=a)=False:=by simp;omega
theorem ltF26 (a:Nat) (b0 b1 b2 b3 b4 b5 b6 b7 b8 b9 b10 b11 b12 b13 b14 b15 b16 b17 b18 b19 b20 b21 b22 b23 b24 b25:Nat):a<a+1+b0+b1+b2+b3+b4+b5+b6+b7+b8+b9+b10+b11+b12+b13+b14+b15+b16+b17+b18+b19+b20+b21+b22+b23+b24+b25:=by omega
theorem leF26 (a:Nat) (b0 b1 b2 b3 b4 b5 b6 b7 b8 b9 b10 b11 b12 b13 b14 b15 b16 b17 b18 b19 b20 b21 b22 b23 b24 b25:Nat):a<=a+b0+b1+b2+b3+b4+b5+b6+b7+b8+b9+b10+b11+b12+b13+b14+b15+b16+b17+b18+b19+b20+b21+b22+b23+b24+b25:=by omega
theorem neF26 (a:Nat) (b0 b1 b2 b3 b4 b5 b6 b7 b8 b9 b10 b11 b12 b13 b14 b15 b16 b17 b18 b19 b20 b21 b22 b23 b24 b25:Nat):(a=a+1+b0+b1+b2+b3+b4+b5+b6+b7+b8+b9+b10+b11+b12+b13+b14+b15+b16+b17+b18+b19+b20+b21+b22+b23+b24+b25)=False:=by simp;omega
theorem neG26 (a:Nat) (b0 b1 b2 b3 b4 b5 b6 b7 b8 b9 b10 b11 b12 b13 b14 b15 b16 b17 b18 b19 b20 b21 b22 b23 b24 b25:Nat):(a+1+b0+b1+b2+b3+b4+b5+b6+b7+b8+b9+b10+b11+b12+b13+b14+b15+b16+b17+b18+b19+b20+b21+b22+b23+b24+b25=a)=False:=by simp;omega
theorem ltF27 (a:Nat) (b0 b1 b2 b3 b4 b5 b6 b7 b8 b9 b10 b11 b12 b13 b14 b15 b16 b17 b18 b19 b20 b21 b22 b23 b24 b25 b26:Nat):a<a+1+b0+b1+b2+b3+b4+b5+b6+b7+b8+b9+b10+b11+b12+b13+b14+b15+b16+b17+b18+b19+b20+b21+b22+b23+b24+b25+b26:=by omega
theorem leF27 (a:Nat) (b0 b1 b2 b3 b4 b5 b6 b7 b8 b9 b10 b11 b12 b13 b14 b15 b16 b17 b18 b19 b20 b21 b22 b23 b24 b25 b26:Nat):a<=a+b0+b1+b2+b3+b4+b5+b6+b7+b8+b9+b10+b11+b12+b13+b14+b15+b16+b17+b18+b19+b20+b21+b22+b23+b24+b25+b26:=by omega
theorem neF27 (a:Nat) (b0 b1 b2 b3 b4 b5 b6 b7 b8 b9 b10 b11 b12 b13 b14 b15 b16 b17 b18 b19 b20 b21 b22 b23 b24 b25 b26:Nat):(a=a+1+b0+b1+b2+b3+b4+b5+b6+b7+b8+b9+b10+b11+b12+b13+b14+b15+b16+b17+b18+b19+b20+b21+b22+b23+b24+b25+b26)=False:=by simp;omega
theorem neG27 (a:Nat) (b0 b1 b2 b3 b4 b5 b6 b7 b8 b9 b10 b11 b12 b13 b14 b15 b16 b17 b18 b19 b20 b21 b22 b23 b24 b25 b26:Nat):(a+1+b0+b1+b2+b3+b4+b5+b6+b7+b8+b9+b10+b11+b12+b13+b14+b15+b16+b17+b18+b19+b20+b21+b22+b23+b24+b25+b26=a)=False:=by simp;omega
theorem ltF28 (a:Nat) (b0 b1 b2 b3 b4 b5 b6 b7 b8 b9 b10 b11 b12 b13 b14 b15 b16 b17 b18 b19 b20 b21 b22 b23 b24 b25 b26 b27:Nat):a<a+1+b0+b1+b2+b3+b4+b5+b6+b7+b8+b9+b10+b11+b12+b13+b14+b15+b16+b17+b18+b19+b20+b21+b22+b23+b24+b25+b26+b27:=by omega
theorem leF28 (a:Nat) (b0 b1 b2 b3 b4 b5 b6 b7 b8 b9 b10 b11 b12 b13 b14 b15 b16 b17 b18 b19 b20 b21 b22 b23 b24 b25 b26 b27:Nat):a<=a+b0+b1+b2+b3+b4+b5+b6+b7+b8+b9+b10+b11+b12+b13+b14+b15+b16+b17+b18+b19+b20+b21+b22+b23+b24+b25+b26+b27:=by omega
theorem neF28 (a:Nat) (b0 b1 b2 b3 b4 b5 b6 b7 b8 b9 b10 b11 b12 b13 b14 b15 b16 b17 b18 b19 b20 b21 b22 b23 b24 b25 b26 b27:Nat):(a=a+1+b0+b1+b2+b3+b4+b5+b6+b7+b8+b9+b10+b11+b12+b13+b14+b15+b16+b17+b18+b19+b20+b21+b22+b23+b24+b25+b26+b27)=False:=by simp;omega
theorem neG28 (a:Nat) (b0 b1 b2 b3 b4 b5 b6 b7 b8 b9 b10 b11 b12 b13 b14 b15 b16 b17 b18 b19 b20 b21 b22 b23 b24 b25 b26 b27:Nat):(a+1+b0+b1+b2+b3+b4+b5+b6+b7+b8+b9+b10+b11+b12+b13+b14+b15+b16+b17+b18+b19+b20+b21+b22+b23+b24+b25+b26+b27=a)=False:=by simp;omega
theorem ltF29 (a:Nat) (b0 b1 b2 b3 b4 b5 b6 b7 b8 b9 b10 b11 b12 b13 b14 b15 b16 b17 b18 b19 b20 b21 b22 b23 b24 b25 b26 b27 b28:Nat):a<a+1+b0+b1+b2+b3+b4+b5+b6+b7+b8+b9+b10+b11+b12+b13+b14+b15+b16+b17+b18+b19+b20+b21+b22+b23+b24+b25+b26+b27+b28:=by omega
theorem leF29 (a:Nat) (b0 b1 b2 b3 b4 b5 b6 b7 b8 b9 b10 b11 b12 b13 b14 b15 b16 b17 b18 b19 b20 b21 b22 b23 b24 b25 b26 b27 b28:Nat):a<=a+b0+b1+b2+b3+b4+b5+b6+b7+b8+b9+b10+b11+b12+b13+b14+b15+b16+b17+b18+b19+b20+b21+b22+b23+b24+b25+b26+b27+b28:=by omega
theorem neF29 (a:Nat) (b0 b1 b2 b3 b4 b5 b6 b7 b8 b9 b10 b11 b12 b13 b14 b15 b16 b17 b18 b19 b20 b21 b22 b23 b24 b25 b26 b27 b28:Nat):(a=a+1+b0+b1+b2+b3+b4+b5+b6+b7+b8+b9+b10+b11+b12+b13+b14+b15+b16+b17+b18+b19+b20+b21+b22+b23+b24+b25+b26+b27+b28)=False:=by simp;omega
theorem neG29 (a:Nat) (b0 b1 b2 b3 b4 b5 b6 b7 b8 b9 b10 b11 b12 b13 b14 b15 b16 b17 b18 b19 b20 b21 b22 b23 b24 b25 b26 b27 b28:Nat):(a+1+b0+b1+b2+b3+b4+b5+b6+b7+b8+b9+b10+b11+b12+b13+b14+b15+b16+b17+b18+b19+b20+b21+b22+b23+b24+b25+b26+b27+b28=a)=False:=by simp;omega
theorem ltF30 (a:Nat) (b0 b1 b2 b3 b4 b5 b6 b7 b8 b9 b10 b11 b12 b13 b14 b15 b16 b17 b18 b19 b20 b21 b22 b23 b24 b25 b26 b27 b28 b29:Nat):a<a+1+b0+b1+b2+b3+b4+b5+b6+b7+b8+b9+b10+b11+b12+b13+b14+b15+b16+b17+b18+b19+b20+b21+b22+b23+b24+b25+b26+b27+b28+b29:=by omega
theorem leF30 (a:Nat) (b0 b1 b2 b3 b4 b5 b6 b7 b8 b9 b10 b11 b12 b13 b14 b15 b16 b17 b18 b19 b20 b21 b22 b23 b24 b25 b26 b27 b28 b29:Nat):a<=a+b0+b1+b2+b3+b4+b5+b6+b7+b8+b9+b10+b11+b12+b13+b14+b15+b16+b17+b18+b19+b20+b21+b22+b23+b24+b25+b26+b27+b28+b29:=by omega
theorem neF30 (a:Nat) (b0 b1 b2 b3 b4 b5 b6 b7 b8 b9 b10 b11 b12 b13 b14 b15 b16 b17 b18 b19 b20 b21 b22 b23 b24 b25 b26 b27 b28 b29:Nat):(a=a+1+b0+b1+b2+b3+b4+b5+b6+b7+b8+b9+b10+b11+b12+b13+b14+b15+b16+b17+b18+b19+b20+b21+b22+b23+b24+b25+b26+b27+b28+b29)=False:=by simp;omega
theorem neG30 (a:Nat) (b0 b1 b2 b3 b4 b5 b6 b7 b8 b9 b10 b11 b12 b13 b14 b15 b16 b17 b18 b19 b20 b21 b22 b23 b24 b25 b26 b27 b28 b29:Nat):(a+1+b0+b1+b2+b3+b4+b5+b6+b7+b8+b9+b10+b11+b12+b13+b14+b15+b16+b17+b18+b19+b20+b21+b22+b23+b24+b25+b26+b27+b28+b29=a)=False:=by simp;omega
attribute [go_sem] more_size qcw more_frozen more_tape more_os more_drawn more_drew drew_more more_drewN drewN_more more_shape more_setCell
attribute [go_sem] ltF1 leF1 neF1 neG1 ltF2 leF2 neF2 neG2 ltF3 leF3 neF3 neG3 ltF4 leF4 neF4 neG4 ltF5 leF5 neF5 neG5 ltF6 leF6 neF6 neG6 ltF7 leF7 neF7 neG7 ltF8 leF8 neF8 neG8 ltF9 leF9 neF9 neG9 ltF10 leF10 neF10 neG10
attribute [go_sem] ltF11 leF11 neF11 neG11 ltF12 leF12 neF12 neG12 ltF13 leF13 neF13 neG13 ltF14 leF14 neF14 neG14 ltF15 leF15 neF15 neG15 ltF16 leF16 neF16 neG16 ltF17 leF17 neF17 neG17 ltF18 leF18 neF18 neG18 ltF19 leF19 neF19 neG19 ltF20 leF20 neF20 neG20
attribute [go_sem] ltF21 leF21 neF21 neG21 ltF22 leF22 neF22 neG22 ltF23 leF23 neF23 neG23 ltF24 leF24 neF24 neG24 ltF25 leF25 neF25 neG25 ltF26 leF26 neF26 neG26 ltF27 leF27 neF27 neG27 ltF28 leF28 neF28 neG28 ltF29 leF29 neF29 neG29 ltF30 leF30 neF30 neG30
def Ext (w w':World):Prop:=∃ d os,w'=more w d os
def Ext.refl (w:World):Ext w w:=⟨w.drawn,#[],by simp[more]⟩
def Ext.more {a w:World} (h:Ext a w) (d:Nat) (os:Array Obj):Ext a (more w d os):=by
 obtain⟨d',os',rfl⟩:=h;exact⟨_,_,more_more _ _ _ _ _⟩
def Ext.trans {a b c:World} (h:Ext a b) (k:Ext b c):Ext a c:=by obtain⟨d,os,rfl⟩:=k;exact h.more d os
def Ext.alloc {a w:World} (h:Ext a w) (o:Obj):Ext a (w.alloc o):=by
 have e:w.alloc o=YtpnabjopfpdkhaaGreatDoor.more w w.drawn #[o]:=by
  unfold World.alloc YtpnabjopfpdkhaaGreatDoor.more
  congr 1
 rw[e];exact h.more _ _
def Ext.drew {a w:World} (h:Ext a w):Ext a w.drew:=by
 obtain⟨d,os,rfl⟩:=h;exact⟨d+1,os,rfl⟩
def Ext.drewN {a w:World} (h:Ext a w) (n:Nat):Ext a (w.drewN n):=by
 obtain⟨d,os,rfl⟩:=h;exact⟨d+n,os,rfl⟩
def Ext.setCell {a w:World} (h:Ext a w) {p:Addr} (hp:a.heap.size<=p.block) (v:Value):Ext a (w.setCell p v):=by
 obtain⟨d,os,rfl⟩:=h
 refine ⟨d,os.modify (p.block-a.heap.size) (fun
   | .cells c elem frozen=>.cells (if p.spot.isSome then c else c.setIfInBounds p.off v) elem frozen
   | o=>o),?_⟩
 unfold World.setCell YtpnabjopfpdkhaaGreatDoor.more
 congr 1
 apply Array.ext_getElem?;intro k;simp only[Array.getElem?_modify,Array.getElem?_append];by_cases hk:p.block=k
 . subst hk;have:¬ p.block<a.heap.size:=by omega
   simp[this];rfl
 . by_cases hk2:k<a.heap.size
   . simp[hk,hk2]
   . have:¬ p.block-a.heap.size=k-a.heap.size:=by omega
     simp[hk,hk2,this]
def Ext.size {w w':World} (h:Ext w w'):w.heap.size<=w'.heap.size:=by
 obtain⟨d,os,rfl⟩:=h;simp[more_size]
def Ext.below {w w':World} (h:Ext w w'):Below w.heap.size w w':=by
 obtain⟨d,os,rfl⟩:=h;exact⟨rfl,rfl,rfl,by simp[more_size],fun k hk=>more_heap _ _ _ _ hk⟩
def Ext.of_below {w w':World} (h:Below w.heap.size w w'):Ext w w':=by
 have hh:w'.heap=w.heap++w'.heap.extract w.heap.size w'.heap.size:=by
  apply Array.ext_getElem?;intro k;have h4:=h.size;rw[Array.getElem?_append];by_cases hk:k<w.heap.size
  . rw[if_pos hk];exact h.block k hk
  . rw[if_neg hk,Array.getElem?_extract];by_cases hk2:k<w'.heap.size
    . rw[if_pos Y,Nat.add_sub_cancel' Y]
    . rw[if_neg Y,Array.getElem?_eq_none Y]
 refine ⟨w'.drawn,w'.heap.extract w.heap.size w'.heap.size,?_⟩;have h1:=h.os;have h2:=h.tape;have h3:=h.output;unfold YtpnabjopfpdkhaaGreatDoor.more;rw[<-hh,<-h1,<-h2,<-h3]
section
variable {P:Program} (w:World)
def qdc (base:Nat) (t tx ty e:TypeId) (i:TypeInfo) (z:Value) (size bytes:Nat) (ht:P.underlying t=some (.slice e)) (hi:P.info? e=some i) (hz:i.zero=some z)
  (hsize:i.size=size) (hby:i.bytes=bytes) (hzs:z.cells.size=size) (hsz:0<size)
  (v:Value) (n:Nat) (xs:List Value) (hown:w.ownsRow base e size v n xs)
  (x:Value) (m:Nat) (news:List Value) (hs:Src P size tx x m news w)
  (h63:n+m<=maxLen) (hbytes:(n+m)*bytes<=140737488355328) (hbase:base<=w.heap.size) :
  ∃ v' w',(Builtin.append_ #[t,tx] ty #[v,x]).run P w=.ok v' w'/\w'.ownsRow base e size v' (n+m) (xs++news)/\w.grownBy w' v.ownBlock /\
   (v'.ownBlock=v.ownBlock\/v'.ownBlock=some w.heap.size):=by
 subst hsize;subst hby
 have hsmall:n+m<=9223372036854775807:=by simp only[maxLen] at h63;omega
 have hl:=hs.newsLen;have hlen:(xs++news).length=(n+m)*i.size:=by rw[List.length_append,hown.1,hl,Nat.add_mul]
 have grown:∀ (old:Nat),old<n+m->∀ (row:Option Nat),
   (w.drew.alloc (.cells ((xs++news).toArray++Builtin.zeroCells z.cells (grownCap w (n+m) old e-(n+m))) e)).ownsRow base e i.size
    (.slice (some ⟨w.heap.size,0,none⟩) (n+m) (grownCap w (n+m) old e)) (n+m) (xs++news) /\
   w.grownBy (w.drew.alloc (.cells ((xs++news).toArray++Builtin.zeroCells z.cells (grownCap w (n+m) old e-(n+m))) e)) row:=by
  intro old ho row;have hge:=grownCap_ge w (n+m) old e;have hcm:grownCap w (n+m) old e<=maxLen:=grownCap_le_maxLen w (n+m) old e h63;refine ⟨⟨hlen,.inr ⟨w.heap.size,_,_,rfl,hbase,heap_alloc_new w.drew _,hge,hcm,?_,?_⟩⟩,⟨rfl,rfl,rfl,zy,fun k hk _=>(Below.heap_alloc w.drew _ k hk)⟩⟩
  . simp only[Array.size_append,List.size_toArray,size_zeroCells,hzs,hlen,<-Nat.add_mul]
    congr 1
    omega
  . simp only[Array.toList_append];rw[<-hlen];exact List.take_left
 rcases hown.2 with ⟨rfl,rfl⟩ | ⟨g,cap,cur,rfl,hbg,hg,hnc,hcm,hcs,htake⟩
 . have hx:xs=[]:=List.eq_nil_of_length_eq_zero (by simpa using hown.1);subst hx;by_cases hm:m=0
   . subst hm;have hn:news=[]:=List.eq_nil_of_length_eq_zero (by simpa using hl);subst hn;refine ⟨.slice none 0 0,w,?_,World.ownsRow_nil w base e i.size,⟨rfl,rfl,rfl,Nat.le_refl _,fun _ _ _=>rfl⟩,Or.inl rfl⟩;rcases hs.kind with ⟨e',hk⟩ | hk<;>simp[Builtin.append_,run_underlying ht,run_underlying hk,sizeOf,typeInfo,hi,hs.len,hs.cells,storeCells]
   . have hr:=run_append_grow_src (P:=P) w t tx ty e i z ht hi hz none 0 0 [] (run_firstCells_none w.drew i.size 0 0 0) x m news hs Y Y (growslice_fits Y hbytes);have hgr:=grown 0 Y (Value.ownBlock (.slice none 0 0));simp only[Nat.zero_add,List.nil_append] at hgr hr ⊢;exact⟨_,_,hr,hgr.1,hgr.2,Or.inr rfl⟩
 . by_cases hroom:n+m<=cap
   . have hfit:n*i.size+news.length<=cur.size:=(by rw[hl,hcs,<-Nat.add_mul];exact Nat.mul_le_mul_right _ hroom)
     have hst:=run_storeCells_at P g (n*i.size) e news 0 cur w hg (by simpa using hfit) hs.one;simp only[Nat.add_zero] at hst
     have hr:(Builtin.append_ #[t,tx] ty #[.slice (some ⟨g,0,none⟩) n cap,x]).run P w =
       .ok (.slice (some ⟨g,0,none⟩) (n+m) cap) (w.setRow g (cur.toList.take (n*i.size)++news++cur.toList.drop (n*i.size+news.length)).toArray):=by
      rcases hs.kind with ⟨e',hk⟩ | hk<;>simp[Builtin.append_,run_underlying ht,run_underlying hk,sizeOf,typeInfo,hi,hs.len,hroom,hs.cells,Addr.add_lit,hst]
     refine ⟨_,_,hr,⟨hlen,.inr ⟨g,cap,_,rfl,hbg,setRow_heap w g cur _ e _ hg,hroom,hcm,?_,?_⟩⟩,⟨rfl,rfl,rfl,zy,fun k _ hk=>setRow_other w g k _ (fun e=>hk (by simp[Value.ownBlock,e]))⟩,Or.inl rfl⟩
     . simp only[List.size_toArray,List.length_append,List.length_take,List.length_drop,Array.length_toList];omega
     . rw[htake,<-hlen];exact List.take_left
   . have holds:∀ j u,xs[j]?=some u->w.cell? ((⟨g,0,none⟩:Addr).add j)=some u:=hown.cells (g:=g) rfl;have hr:=run_append_grow_src (P:=P) w t tx ty e i z ht hi hz (some ⟨g,0,none⟩) n cap xs (run_firstCells_some w.drew i.size n ⟨g,0,none⟩ n cap xs hown.1 (by simpa using holds)) x m news hs Y Y (growslice_fits Y hbytes);have hgr:=grown cap Y (Value.ownBlock (.slice (some ⟨g,0,none⟩) n cap));exact⟨_,_,hr,hgr.1,hgr.2,Or.inr rfl⟩
def qag {ops:Array Oper} {rest:List Oper} {o:Oper} {a:Act} {Q:Exit->Act->World->Prop} (hgd:o.guard=none) (s x:Operand) (t tx:TypeId)
  (ho:o.op=.call { callee:=.builtin .append,args:=#[s,x],argTypes:=#[t,tx] })
  (base:Nat) (e:TypeId) (i:TypeInfo) (z:Value) (size bytes:Nat) (ht:P.underlying t=some (.slice e)) (hi:P.info? e=some i) (hz:i.zero=some z)
  (hsize:i.size=size) (hby:i.bytes=bytes) (hzs:z.cells.size=size) (hsz:0<size)
  (v:Value) (n:Nat) (xs:List Value) (hs:a.eval s=v) (hown:w.ownsRow base e size v n xs)
  (xv:Value) (m:Nat) (news:List Value) (hx:a.eval x=xv) (hsrc:Src P size tx xv m news w)
  (h63:n+m<=maxLen) (hbytes:(n+m)*bytes<=140737488355328) (hbase:base<=w.heap.size)
  (h:∀ v' w',w'.ownsRow base e size v' (n+m) (xs++news)->w.grownBy w' v.ownBlock->(v'.ownBlock=v.ownBlock\/v'.ownBlock=some w.heap.size)->wpList P ops Q rest (a.put o.dst v') w') :
  wpList P ops Q (o::rest) a w:=by
 refine wpList_plain hgd fun K hK=>?_
 obtain⟨v',w',hr,h2,h3,h4⟩:=qdc (P:=P) w base t tx o.type e i z size bytes ht hi hz hsize hby hzs hsz v n xs hown xv m news hsrc h63 hbytes hbase;unfold Oper.wp execOp;simp only[ho,resolve,invoke,builtin,Sem.run_bind,Sem.run_pure,Result.andThen_ok,List.map_toArray,List.map_cons,List.map_nil,hs,hx,hr];exact hK _ _ (h v' w' h2 h3 h4)
end
def Ext.grown {w wr w1:World} {row:Option Nat} (h:Ext w wr) (hg:wr.grownBy w1 row) (hr:∀ k,row=some k->w.heap.size<=k):Ext w w1 :=
 Ext.of_below (h.below.grown hg h.size hr)
def own_more {w:World} {base:Nat} {e:TypeId} {size:Nat} {v:Value} {n:Nat} {xs:List Value} (h:w.ownsRow base e size v n xs) (d:Nat) (os:Array Obj):(more w d os).ownsRow base e size v n xs:=by
 obtain⟨h1,h2⟩:=h;refine ⟨h1,?_⟩;rcases h2 with h2 | ⟨g,cap,cur,hv,hg,hh,r⟩
 . exact Or.inl h2
 . have hlt:g<w.heap.size:=by
     rcases Nat.lt_or_ge g w.heap.size with h' | h'
     . exact h'
     . rw[Array.getElem?_eq_none h'] at hh;cases hh
   exact Or.inr ⟨g,cap,cur,hv,hg,by rw[more_heap _ _ _ _ hlt];exact hh,r⟩
def own_ext {w w':World} {base:Nat} {e:TypeId} {size:Nat} {v:Value} {n:Nat} {xs:List Value} (h:w.ownsRow base e size v n xs) (hx:Ext w w'):w'.ownsRow base e size v n xs:=by
 obtain⟨d,os,rfl⟩:=hx;exact own_more h d os
def qae (l:List UInt8):List Value:=l.map fun b=>.int .u8 (b.toNat:Int)
def qbD (l:List UInt8) (v:Int) (h0:0<=v) (h:v<256):qae (l++[UInt8.ofNat v.toNat])=qae l++[.int .u8 v]:=by
 have:((UInt8.ofNat v.toNat).toNat:Int)=v:=by simp;omega
 unfold qae;rw[List.map_append];simp only[List.map_cons,List.map_nil,this]
def qby (l m:List UInt8):qae (l++m)=qae l++qae m:=by simp[qae]
def cellsB_length (l:List UInt8):(qae l).length=l.length:=by simp[qae]
def qcQ (l:List UInt8):∀ u∈qae l,u.oneCell'=true:=by
 intro u hu;obtain⟨_,_,rfl⟩:=List.mem_map.1 hu;rfl
def qdn (s:ByteArray):byteCells s=qae s.data.toList:=rfl
def qgD {P:Program} {w:World} {base:Nat} {src dst e:TypeId} {g cap n:Nat} {l:List UInt8} (hs:P.underlying src=some (.slice e)) (he:P.underlying e=some (.int .u8)) (hd:P.underlying dst=some .string)
  (h:w.ownsRow base e 1 (.slice (some ⟨g,0,none⟩) n cap) n (qae l)):(convert src dst (.slice (some ⟨g,0,none⟩) n cap)).run P w=.ok (.string ⟨l.toArray⟩) w:=by
 have hn:n=l.length:=by have:=h.1;rw[cellsB_length] at this;omega
 subst hn;refine run_convert_bytes_back w src dst e ⟨g,0,none⟩ cap l hs he hd fun j hj=>?_
 refine h.cells (g:=g) rfl j _ ?_;simp[qae,List.getElem?_map,List.getElem?_eq_getElem hj]
def qgB {P:Program} {w:World} {base:Nat} {tx e:TypeId} {g cap n:Nat} {xs:List Value} (hk:P.underlying tx=some (.slice e))
  (h:w.ownsRow base e 1 (.slice (some ⟨g,0,none⟩) n cap) n xs) (h1:∀ u∈xs,u.oneCell'=true):Src P 1 tx (.slice (some ⟨g,0,none⟩) n cap) n xs w :=
 Src.ofSlice w hk ⟨g,0,none⟩ n cap xs h.1 (h.cells (g:=g) rfl) h1
abbrev Fact:=Value->World->Prop
def Upc (Ψ:Fact):Prop:=∀ v W W',Ext W W'->Ψ v W->Ψ v W'
def RetG (W:World) (Ψ:Fact) (e:Ending) (W'':World):Prop:=∃ v,e=.returned v/\Ext W W''/\Ψ v W''
def qcc (P:Program) (W:World) (Ψ:Fact):Result Next->Prop
 | .ok (.value v) W'=>Ext W W'/\Ψ v W'
 | .ok .skip W'=>Ext W W'/\Ψ undef W'
 | .ok (.enter f args) W'=>Calls P f args W' (RetG W Ψ)
 | _=>False
def StepG (P:Program) (ops:Array Oper) (o:Oper) (a:Act) (W:World) (Ψ:Fact):Prop :=
 if Region.wanted o (yielded ops a.tmps) then qcc P W Ψ ((execOp a.eval o).run P W) else Ψ undef W
def PureStep (P:Program) (ops:Array Oper) (o:Oper) (a:Act) (W:World) (Ψ:Fact):Prop :=
 if Region.wanted o (yielded ops a.tmps) then ∃ v,(∀ w,(execOp a.eval o).run P w=.ok (.value v) w)/\Ψ v W else Ψ undef W
def StepK (P:Program) (ops:Array Oper) (b:Bool) (o:Oper) (a:Act) (W:World) (Ψ:Fact):Prop:=if b then PureStep P ops o a W Ψ else StepG P ops o a W Ψ
def EndsQ (Q:Exit->Act->World->Prop):Exit->Act->World->Prop
 | .normal,a,w=>Q .normal a w
 | _,_,_=>False
def dstOf (ops:Array Oper) (i:Nat):Option Tmp:=(ops[i]?).bind (·.dst)
def cur (ops:Array Oper) (n:Nat) (Ψs:Nat->Fact) (σ0:Tmp->Fact) (p:Nat->Bool) (t:Tmp):Fact :=
 match (List.range n).find? (fun i=>p i&&dstOf ops i==some t) with
 | some i=>Ψs i
 | none=>σ0 t
def headB (ops:Array Oper) (n N:Nat):Bool :=
 (List.range n).all fun j=>match ops[j]? with
  | none=>false
  | some oj=>(oj.after.all fun e=>!Region.binds .any e||decide (e.on<j)) &&
   (match oj.dst with | some d=>decide (d<N) | none=>true) &&
   (List.range j).all fun i=>match ops[i]? with
    | none=>false
    | some oi=>(oj.after.any (fun e=>Region.binds .any e&&e.on==i)||oi.apart ops oj)&&(match oi.dst with | some d=>oj.dst !=some d | none=>true)
def qdE (s n:Nat):Array Bool:=((List.range s).map fun i=>decide (i<n)).toArray
def ancL (ops:Array Oper) (n:Nat):List Nat:=(List.range n).reverse.foldl (fun M j=>if M.any (fun k=>Region.waitsFor .any ops k j) then j::M else M) [n]
def pureB (ops:Array Oper) (n:Nat) (fl:List Bool):Bool :=
 (List.range n).all fun j=>!(fl.getD j false)||match ops[j]? with
  | none=>false
  | some oj=>(List.range ops.size).all fun k=>decide (k<n)||match ops[k]? with
   | none=>false
   | some ok=>Region.waitsFor .any ops k j||oj.apart ops ok
def growB (ops:Array Oper) (n N:Nat) (fl:List Bool):Bool :=
 Region.noSelect ops&&headB ops n N&&pureB ops n fl&&Region.seqB .any ops (ops.size-n) n (qdE ops.size n) &&
  (decide (n=ops.size)||decide (n<ops.size)&&((List.range n).all fun i=>fl.getD i false||(ancL ops n).contains i)&&Region.chainB .any ops n)
section
variable {P:Program} {ops:Array Oper} {n N:Nat} {Ψs:Nat->Fact} {σ0:Tmp->Fact}
def wp_of_yields {o:Oper} {a:Act} {W:World} {Ψ:Fact} {K:Act->World->Prop} {Q:Exit->Act->World->Prop} (h:∀ v W',Ext W W'->Ψ v W'->K (a.put o.dst v) W')
  (hh:qcc P W Ψ ((execOp a.eval o).run P W)):o.wp P a W K Q:=by
 unfold Oper.wp;generalize (execOp a.eval o).run P W=r at *
 cases r with
 | ok n w' =>
  cases n<;>simp only[qcc] at hh<;>simp only[Oper.upon]
  case value u=>exact h _ _ hh.1 hh.2
  case skip=>exact h _ _ hh.1 hh.2
  case enter f args=>exact hh.mono fun e w'' ⟨v,he,hx,hv⟩=>by subst he;exact h _ _ hx hv
 | halt x w'=>simp only[qcc] at hh
def wpOp_of_step {i:Nat} {o:Oper} {a:Act} {W:World} {Ψ:Fact} {K:Act->World->Prop} {Q:Exit->Act->World->Prop} (hi:ops[i]?=some o)
  (h:∀ v W',Ext W W'->Ψ v W'->K (a.put o.dst v) W') (hs:StepG P ops o a W Ψ):wpOp P ops Q i K a W:=by
 unfold wpOp;simp only[hi];unfold StepG at hs;split
 . rename_i hw;simp only[hw,if_true] at hs;exact .inl (wp_of_yields h hs)
 . rename_i hw;simp only[hw] at hs;exact h _ _ (Ext.refl _) hs
def step_of_pure {o:Oper} {a:Act} {W:World} {Ψ:Fact} (h:PureStep P ops o a W Ψ):StepG P ops o a W Ψ:=by
 unfold PureStep at h;unfold StepG;split
 . rename_i hw;simp only[hw,if_true] at h;obtain⟨v,hr,hv⟩:=h;rw[hr W];exact⟨Ext.refl _,hv⟩
 . rename_i hw;simp only[hw] at h;exact h
def stepG_of {b:Bool} {o:Oper} {a:Act} {W:World} {Ψ:Fact} (h:StepK P ops b o a W Ψ):StepG P ops o a W Ψ:=by
 cases b
 . exact h
 . exact step_of_pure h
def wp_monoQ {o:Oper} {a:Act} {w:World} {K K':Act->World->Prop} {Q Q':Exit->Act->World->Prop} (hq:∀ e a w,Q e a w->Q' e a w) (h:∀ a w,K a w->K' a w) (hh:o.wp P a w K Q):o.wp P a w K' Q':=by
 unfold Oper.wp at *;generalize (execOp a.eval o).run P w=r at *
 cases r with
 | ok n w' =>
  cases n<;>simp only[Oper.upon] at hh ⊢
  case value u=>exact h _ _ hh
  case skip=>exact h _ _ hh
  case defer d=>exact h _ _ hh
  case enter f args =>
   refine Calls.mono hh fun e w'' he=>?_
   cases e with
   | returned u=>exact h _ _ he
   | panicked c=>exact hq _ _ _ he
   | outgrown=>obtain⟨x,y,hf⟩:=he;exact⟨x,y,hq _ _ _ hf⟩
  case row row args=>exact Rows.mono hh (fun _ _ he=>h _ _ he)
  all_goals exact hh
 | halt x w'=>cases x<;>simp only[Oper.upon] at hh ⊢<;>first | exact hq _ _ _ hh | exact hh
def wpOp_monoQ {i:Nat} {a:Act} {w:World} {K K':Act->World->Prop} {Q Q':Exit->Act->World->Prop} (hq:∀ e a w,Q e a w->Q' e a w) (h:∀ a w,K a w->K' a w) (hh:wpOp P ops Q i K a w):wpOp P ops Q' i K' a w:=by
 unfold wpOp at *;split
 . exact h _ _ (by simpa [*] using hh)
 . rename_i o ho;simp only[ho] at hh;split
   . rename_i hw;simp only[hw,if_true] at hh;rcases hh with hh | ⟨h1,x,y,h2⟩
     . exact .inl (wp_monoQ hq h hh)
     . exact .inr ⟨h1,x,y,hq _ _ _ h2⟩
   . rename_i hw;simp only[hw] at hh;exact h _ _ hh
def qfo {Q Q':Exit->Act->World->Prop} (hq:∀ e a w,Q e a w->Q' e a w):∀ (f:Nat) (listed:Array Bool) (a:Act) (w:World),wpAny P .any ops Q f listed a w->wpAny P .any ops Q' f listed a w
 | 0,_,_,_,h=>⟨h.1,hq _ _ _ h.2⟩
 | f+1,_,_,_,h=>⟨fun h0=>hq _ _ _ (h.1 h0),fun i hi=>wpOp_monoQ hq (fun a' w' h'=>qfo hq f _ a' w' h') (h.2 i hi)⟩
def ends_le {Q:Exit->Act->World->Prop}:∀ e a w,EndsQ Q e a w->Q e a w:=by
 intro e a w h;cases e<;>first | exact h | exact h.elim
@[go_sem] theorem ends_normal (Q:Exit->Act->World->Prop) (a:Act) (w:World):EndsQ Q .normal a w=Q .normal a w:=rfl
def anc_listed {n:Nat} {listed:Array Bool} (hcl:∀ j oj,ops[j]?=some oj->listed.getD j false=true->∀ e∈oj.after,Region.binds .any e=true->listed.getD e.on false=true)
  (hn:n∈Region.ready .any ops listed):∀ i∈ancL ops n,i=n\/listed.getD i false=true:=by
 have key:∀ (l M:List Nat),(∀ i∈M,i=n\/listed.getD i false=true) ->
   ∀ i∈l.foldl (fun M j=>if M.any (fun k=>Region.waitsFor .any ops k j) then j::M else M) M,i=n\/listed.getD i false=true:=by
  intro l
  induction l with
  | nil=>intro M h;exact h
  | cons j l ih =>
   intro M h;rw[List.foldl_cons];refine ih _ ?_;split
   . rename_i hany;intro i hi
     cases hi with
     | head =>
      obtain⟨k,hk,hw⟩:=List.any_eq_true.1 hany;obtain⟨ok,hok,e,he,hb,hon⟩:=Region.waitsFor_spec hw;rcases h k hk with rfl | hl
      . obtain⟨_,o',ho',hall⟩:=mem_ready.1 hn;have:o'=ok:=Option.some.inj (ho'.symm.trans hok);subst this
        right;rw[<-hon];exact hall e he hb
      . right;rw[<-hon];exact hcl k ok hok hl e he hb
     | tail _ hi=>exact h i hi
   . exact h
 exact key _ _ (fun i hi=>.inl (by simpa using hi))
structure HeadFacts (ops:Array Oper) (n N j:Nat) (oj:Oper):Prop where
 back:∀ e∈oj.after,Region.binds .any e=true->e.on<j
 rng:∀ d,oj.dst=some d->d<N
 tie:∀ i oi,i<j->ops[i]?=some oi->(∃ e∈oj.after,Region.binds .any e=true/\e.on=i)\/oi.apart ops oj=true
 unlike:∀ i oi d,i<j->ops[i]?=some oi->oi.dst=some d->oj.dst≠some d
def qaI (h:headB ops n N=true) {j:Nat} (hj:j<n):∃ oj,ops[j]?=some oj/\HeadFacts ops n N j oj:=by
 have h1:=List.all_eq_true.1 h j (List.mem_range.2 hj)
 cases ho:ops[j]? with
 | none=>simp[ho] at h1
 | some oj =>
  simp only[ho,Bool.and_eq_true,List.all_eq_true,List.mem_range] at h1;obtain⟨⟨h2,h3⟩,h4⟩:=h1;refine ⟨oj,rfl,?_,?_,?_,?_⟩
  . intro e he hb;have:=(Array.all_eq_true_iff_forall_mem.1 h2) e he
    simpa [hb] using this
  . intro d hd
    simpa [hd] using h3
  . intro i oi hi hoi;have:=h4 i hi;simp only[hoi,Bool.and_eq_true,Bool.or_eq_true] at this;rcases this.1 with h5 | h5
    . obtain⟨e,he,hb⟩:=Array.any_eq_true'.1 h5;simp only[Bool.and_eq_true,beq_iff_eq] at hb;exact .inl ⟨e,he,hb.1,hb.2⟩
    . exact .inr h5
  . intro i oi d hi hoi hd;have:=h4 i hi;simp only[hoi,Bool.and_eq_true,hd] at this
    simpa using this.2
def qcR (h:headB ops n N=true) {i j:Nat} (hi:i<n) (hj:j<n) {t:Tmp} (h1:dstOf ops i=some t) (h2:dstOf ops j=some t):i=j:=by
 obtain⟨oi,ei,fi⟩:=qaI h hi;obtain⟨oj,ej,fj⟩:=qaI h hj;have d1:oi.dst=some t:=by simpa [dstOf,ei] using h1
 have d2:oj.dst=some t:=by simpa [dstOf,ej] using h2
 rcases Nat.lt_trichotomy i j with hlt | rfl | hlt
 . exact absurd d2 (fj.unlike i oi t hlt ei d1)
 . rfl
 . exact absurd d1 (fi.unlike j oj t hlt ej d2)
def qaW (h:headB ops n N=true) {p:Nat->Bool} {i:Nat} (hi:i<n) (hp:p i=true) {t:Tmp} (hd:dstOf ops i=some t):cur ops n Ψs σ0 p t=Ψs i:=by
 unfold cur
 cases hf:(List.range n).find? (fun i=>p i&&dstOf ops i==some t) with
 | none =>
  have:=List.find?_eq_none.1 hf i (List.mem_range.2 hi)
  simp[hp,hd] at this
 | some k =>
  have h1:=List.find?_some hf;have h2:=List.mem_range.1 (List.mem_of_find?_eq_some hf);simp only[Bool.and_eq_true,beq_iff_eq] at h1;have:=qcR h hi h2 hd h1.2;subst this;rfl
def qaJ {p:Nat->Bool} {t:Tmp} (h:∀ i,i<n->p i=true->dstOf ops i≠some t):cur ops n Ψs σ0 p t=σ0 t:=by
 unfold cur
 cases hf:(List.range n).find? (fun i=>p i&&dstOf ops i==some t) with
 | none=>rfl
 | some k =>
  have h1:=List.find?_some hf;have h2:=List.mem_range.1 (List.mem_of_find?_eq_some hf);simp only[Bool.and_eq_true,beq_iff_eq] at h1;exact absurd h1.2 (h k h2 h1.1)
def qgG (a:Act) (d:Option Tmp) (v:Value) (t:Tmp) (hsz:∀ x,d=some x->x<a.tmps.size) :
  (a.put d v).tmps.getD t undef=if d=some t then v else a.tmps.getD t undef:=by
 cases d with
 | none=>simp[Act.put]
 | some x =>
  have hx:=hsz x rfl;by_cases h:x=t
  . subst h;simp[Act.put,hx]
  . simp[Act.put,h,Array.getElem?_setIfInBounds_ne h]
structure GrowInv (ops:Array Oper) (n N:Nat) (Ψs:Nat->Fact) (σ0:Tmp->Fact) (w0:World) (df:List Deferred) (listed:Array Bool) (a:Act) (W:World):Prop where
 head:HeadInv .any ops n listed
 ext:Ext w0 W
 size:a.tmps.size=N
 defers:a.defers=df
 sat:∀ t,cur ops n Ψs σ0 (fun i=>listed.getD i false) t (a.tmps.getD t undef) W
def grow_head (hB:headB ops n N=true) {w0:World} {df:List Deferred} (hup:∀ i,i<n->Upc (Ψs i)) (hup0:∀ t,Upc (σ0 t))
  {fl:Nat->Bool} (hstep:∀ j oj,j<n->ops[j]?=some oj->∀ a W,Ext w0 W->a.tmps.size=N->(∀ t∈oj.looksAt ops,cur ops n Ψs σ0 (fun i=>decide (i<j)) t (a.tmps.getD t undef) W)->StepK P ops (fl j) oj a W (Ψs j))
  {listed:Array Bool} {a:Act} {W:World} (inv:GrowInv ops n N Ψs σ0 w0 df listed a W) {i:Nat} (hi:i∈Region.ready .any ops listed) (hin:i<n) :
  ∃ oi,ops[i]?=some oi/\StepK P ops (fl i) oi a W (Ψs i)/\∀ v W',Ext W W'->Ψs i v W'->GrowInv ops n N Ψs σ0 w0 df (listed.setIfInBounds i true) (a.put oi.dst v) W':=by
 obtain⟨oi,hoi,fi⟩:=qaI hB hin;obtain⟨hun,o',ho',hall⟩:=mem_ready.1 hi;have:o'=oi:=Option.some.inj (ho'.symm.trans hoi);subst this;have hunf:=getD_both hun
 -- what i looks at is as it is in the order of the text
 have hlook:∀ t∈o'.looksAt ops,cur ops n Ψs σ0 (fun k=>decide (k<i)) t (a.tmps.getD t undef) W:=by
  intro t ht;have hs:=inv.sat t
  have key:cur ops n Ψs σ0 (fun k=>decide (k<i)) t=cur ops n Ψs σ0 (fun k=>listed.getD k false) t:=by
   by_cases hex:∃ k,k<n/\dstOf ops k=some t
   . obtain⟨k,hk,hd⟩:=hex;obtain⟨ok,hok,fk⟩:=qaI hB hk;have hdk:ok.dst=some t:=(by simpa [dstOf,hok] using hd)
     rcases Nat.lt_trichotomy k i with hlt | rfl | hlt
     . have hl:listed.getD k false=true:=by
         rcases fi.tie k ok hlt hok with ⟨e,he,hb,hon⟩ | hap
         . rw[<-hon];exact hall e he hb
         . exact absurd ht ((Oper.apart_spec hap).1 t hdk)
       rw[qaW hB hk jb hd,qaW hB hk hl hd]
     . have n1:∀ m,m<n->decide (m<k)=true->dstOf ops m≠some t:=fun m hm hp hdm=>by
         have:=qcR hB hm hk hdm hd;simp at hp;omega
       have n2:∀ m,m<n->listed.getD m false=true->dstOf ops m≠some t:=fun m hm hp hdm=>by
        have:=qcR hB hm hk hdm hd;subst this;rw[hunf] at hp;cases hp
       rw[qaJ n1,qaJ n2]
     . have n1:∀ m,m<n->decide (m<i)=true->dstOf ops m≠some t:=fun m hm hp hdm=>by
         have:=qcR hB hm hk hdm hd;simp at hp;omega
       have n2:∀ m,m<n->listed.getD m false=true->dstOf ops m≠some t:=fun m hm hp hdm=>by
        have:=qcR hB hm hk hdm hd;subst this;rcases fk.tie i o' hlt hoi with ⟨e,he,hb,hon⟩ | hap
        . have:=inv.head.closed m ok hok hp e he hb;rw[hon,hunf] at this;cases this
        . exact absurd ht ((Oper.apart_spec hap).2.2 t hdk)
       rw[qaJ n1,qaJ n2]
   . have n1:∀ (p:Nat->Bool) m,m<n->p m=true->dstOf ops m≠some t:=fun p m hm _ hdm=>hex ⟨m,hm,hdm⟩
     rw[qaJ (n1 _),qaJ (n1 _)]
  rw[key];exact hs
 refine ⟨o',hoi,hstep i o' hin hoi a W inv.ext inv.size hlook,fun v W' hx hv=>?_⟩;have hrng:∀ x,o'.dst=some x->x<a.tmps.size:=fun x hx=>by rw[inv.size];exact fi.rng x hx
 refine ⟨inv.head.set hi hin,inv.ext.trans hx,?_,?_,?_⟩
 . have h1:=inv.size;cases hd:o'.dst<;>simp[Act.put,h1]
 . have h1:=inv.defers;cases hd:o'.dst<;>simp[Act.put,h1]
 . intro t
   have hlt:i<listed.size:=by
    rcases Nat.lt_or_ge i listed.size with h | h
    . exact h
    . simp[Array.getElem?_eq_none h] at hun
   rw[qgG a o'.dst v t hrng];by_cases hd:o'.dst=some t
   . rw[if_pos hd,qaW hB hin (by simp[hlt]) (by simp[dstOf,hoi,hd])];exact hv
   . rw[if_neg hd]
     have e:cur ops n Ψs σ0 (fun k=>(listed.setIfInBounds i true).getD k false) t=cur ops n Ψs σ0 (fun k=>listed.getD k false) t:=by
      by_cases hex:∃ k,k<n/\listed.getD k false=true/\dstOf ops k=some t
      . obtain⟨k,hk,hp,hdk⟩:=hex;exact(qaW hB hk (p:=fun k=>(listed.setIfInBounds i true).getD k false) (getD_set_true hp) hdk).trans (qaW hB hk (p:=fun k=>listed.getD k false) hp hdk).symm
      . rw[qaJ (fun m hm hp hdm=>hex ⟨m,hm,hp,hdm⟩),qaJ (fun m hm hp hdm=>by
          by_cases hmi:i=m
          . subst hmi;simp[dstOf,hoi] at hdm;exact hd hdm
          . rw[getD_set_ne false hmi] at hp
            exact hex ⟨m,hm,hp,hdm⟩)]
     rw[e];have hs:=inv.sat t;by_cases hex:∃ k,k<n/\listed.getD k false=true/\dstOf ops k=some t
     . obtain⟨k,hk,hp,hdk⟩:=hex;rw[qaW hB hk hp hdk] at hs ⊢;exact hup k hk _ _ _ hx hs
     . rw[qaJ (fun m hm hp hdm=>hex ⟨m,hm,hp,hdm⟩)] at hs ⊢;exact hup0 t _ _ _ hx hs
def qcu (n:Nat) (listed:Array Bool):Nat:=((List.range n).filter fun i=>listed.getD i false==false).length
def left_set {listed:Array Bool} {i:Nat} (hin:i<n) (hl:i<listed.size) (hun:listed.getD i false=false):qcu n (listed.setIfInBounds i true)+1=qcu n listed:=by
 unfold qcu
 have key:∀ (l:List Nat),l.Nodup->i∈l->((l.filter fun k=>(listed.setIfInBounds i true).getD k false==false).length+1=(l.filter fun k=>listed.getD k false==false).length):=by
  intro l
  induction l with
  | nil=>intro _ h;cases h
  | cons x l ih =>
   intro hnd hm;obtain⟨hx,hnd'⟩:=List.nodup_cons.1 hnd;by_cases hxi:i=x
   . subst hxi
     have e:l.filter (fun k=>(listed.setIfInBounds i true).getD k false==false)=l.filter (fun k=>listed.getD k false==false):=by
      apply List.filter_congr;intro k hk;have:i≠k:=fun h=>hx (h ▸ hk)
      rw[getD_set_ne false this]
     have e1:((listed.setIfInBounds i true).getD i false==false)=false:=(by simp[hl])
     have e2:(listed.getD i false==false)=true:=(by simpa using hun)
     rw[List.filter_cons,List.filter_cons,e1,e2,e];simp
   . have hm':i∈l:=by
       cases hm with
       | head=>exact absurd rfl hxi
       | tail _ h=>exact h
     have:=ih hnd' hm';rw[List.filter_cons,List.filter_cons,getD_set_ne false hxi];split
     . simp only[List.length_cons];omega
     . exact this
 exact key _ List.nodup_range (List.mem_range.2 hin)
def left_pos {listed:Array Bool} (h:0<qcu n listed):∃ i,i<n/\listed.getD i false=false/\∀ k,k<i->listed.getD k false=true:=by
 have hex:∃ i,i<n/\listed.getD i false=false:=by
  unfold qcu at h;obtain⟨i,hi⟩:=List.exists_mem_of_length_pos h;simp only[List.mem_filter,List.mem_range,beq_iff_eq] at hi;exact⟨i,hi⟩
 obtain⟨i,hi,hf⟩:=hex
 induction i using Nat.strongRecOn with
 | _ i ih =>
  by_cases hall:∀ k,k<i->listed.getD k false=true
  . exact⟨i,hi,hf,hall⟩
  . simp only[Classical.not_forall] at hall;obtain⟨k,hk,hkf⟩:=hall;exact ih k hk Y (by simpa using hkf)
def qft {id:Nat} {Q:Exit->Act->World->Prop} {a0:Act} {w:World} {l:List Oper} (n:Nat) (fl:List Bool) (hm:P.follows .mixedOrders=true) (hB:growB l.toArray n a0.tmps.size fl=true)
  (Ψs:Nat->Fact) (hup:∀ i,i<n->Upc (Ψs i))
  (hstep:∀ j oj,j<n->l.toArray[j]?=some oj->∀ a W,Ext w W->a.tmps.size=a0.tmps.size ->
   (∀ t∈oj.looksAt l.toArray,cur l.toArray n Ψs (fun t v _=>v=a0.tmps.getD t undef) (fun i=>decide (i<j)) t (a.tmps.getD t undef) W)->StepK P l.toArray (fl.getD j false) oj a W (Ψs j))
  (htail:∀ a W,Ext w W->a.tmps.size=a0.tmps.size->a.defers=a0.defers ->
   (∀ t,cur l.toArray n Ψs (fun t v _=>v=a0.tmps.getD t undef) (fun i=>decide (i<n)) t (a.tmps.getD t undef) W)->wpList P l.toArray (EndsQ Q) (l.drop n) a W) :
  (Code.region id l.toArray true).wp P Q a0 w:=by
 simp only[growB,Bool.and_eq_true,Bool.or_eq_true,decide_eq_true_eq] at hB;obtain⟨⟨⟨⟨hsel,hh⟩,hpu⟩,hseq⟩,hend⟩:=hB;have hup0:∀ t,Upc (fun v _=>v=a0.tmps.getD t undef):=fun t v W W' _ h=>h
 have hnle:n<=l.length:=by
  rcases hend with h | h
  . simp at h;omega
  . have:=h.1.1;simp at this;omega
 have hlen:(l.drop n).length=l.toArray.size-n:=zy
 -- all of it,by how many heads are still to come
 have main:∀ (f:Nat) (listed:Array Bool) (a:Act) (W:World),qcu n listed=f->GrowInv l.toArray n a0.tmps.size Ψs (fun t v _=>v=a0.tmps.getD t undef) w a0.defers listed a W ->
   wpAny P .any l.toArray (EndsQ Q) (f+(l.drop n).length) listed a W:=by
  intro f
  induction f with
  | zero =>
   intro listed a W hf inv
   have hdone:∀ i,i<n->listed.getD i false=true:=by
    intro i hi
    cases hl:listed.getD i false with
    | true=>rfl
    | false =>
     have:0<qcu n listed:=by
      unfold qcu;exact List.length_pos_of_mem (List.mem_filter.2 ⟨List.mem_range.2 hi,by simpa using hl⟩)
     omega
   have hli:listed=qdE l.toArray.size n:=by
    apply Array.ext_getElem?;intro i;have hsz:=inv.head.size;by_cases hi:i<l.toArray.size
    . have h1:i<listed.size:=Y;have e1:listed[i]?=some (listed.getD i false):=(by simp[h1])
      have e2:(qdE l.toArray.size n)[i]?=some (decide (i<n)):=(by unfold qdE;rw[List.getElem?_toArray,List.getElem?_map,List.getElem?_range hi];rfl)
      rw[e1,e2];by_cases hin:i<n
      . rw[hdone i hin];simp[hin]
      . have:=getD_both (inv.head.tail i Y hi);rw[this];simp[hin]
    . have h1:¬ i<listed.size:=Y;rw[Array.getElem?_eq_none Y,Array.getElem?_eq_none (by simp[qdE] at hi ⊢;omega)]
   rw[Nat.zero_add];refine wpAny_of_seq (l.drop n) n listed a W (fun j=>by simp[List.getElem?_drop]) (by rw[hlen,hli];exact hseq) ?_;refine htail a W inv.ext inv.size inv.defers fun t=>?_
   have hs:=inv.sat t
   have e:cur l.toArray n Ψs (fun t v _=>v=a0.tmps.getD t undef) (fun i=>decide (i<n)) t=cur l.toArray n Ψs (fun t v _=>v=a0.tmps.getD t undef) (fun i=>listed.getD i false) t:=by
    by_cases hex:∃ k,k<n/\dstOf l.toArray k=some t
    . obtain⟨k,hk,hd⟩:=hex;rw[qaW hh hk (by simpa using hk) hd,qaW hh hk (hdone k hk) hd]
    . rw[qaJ (fun m hm _ hd=>hex ⟨m,hm,hd⟩),qaJ (fun m hm _ hd=>hex ⟨m,hm,hd⟩)]
   rw[e];exact hs
  | succ f ih =>
   intro listed a W hf inv;rw[show f+1+(l.drop n).length=(f+(l.drop n).length)+1 by omega];obtain⟨i,hi,hun,hlow⟩:=left_pos (n:=n) (listed:=listed) Y;obtain⟨oi,hoi,fi⟩:=qaI hh hi;have hsz:=inv.head.size;have hil:i<listed.size:=by rw[hsz];simp;omega
   have hri:i∈Region.ready .any l.toArray listed:=mem_ready.2 ⟨getD_in hil hun,oi,hoi,fun e he hb=>hlow _ (fi.back e he hb)⟩
   have hset:∀ j,j∈Region.ready .any l.toArray listed->j<n->qcu n (listed.setIfInBounds j true)=f:=fun j hj hjn=>by
    have hjun:=(mem_ready.1 hj).1
    have:=left_set (n:=n) hjn (by
     rcases Nat.lt_or_ge j listed.size with h' | h'
     . exact h'
     . simp[Array.getElem?_eq_none h'] at hjun) (getD_both hjun)
    omega
   by_cases hp:∃ j,j∈Region.ready .any l.toArray listed/\j<n/\fl.getD j false=true
   . -- a pure one is taken first
     obtain⟨j,hj,hjn,hjp⟩:=hp;obtain⟨oj,hoj,hst,hnext⟩:=grow_head (fl:=fun j=>fl.getD j false) hh hup hup0 hstep inv hj hjn;obtain⟨oj',hoj',fj⟩:=qaI hh hjn;have:oj'=oj:=Option.some.inj (hoj'.symm.trans hoj);subst this
     have hst':PureStep P l.toArray oj' a W (Ψs j):=by
      have h1:=hst;simp only[StepK,hjp,if_true] at h1;exact h1
     obtain⟨v,hy,hv⟩:∃ v,Yields P l.toArray oj' v a/\Ψs j v W:=by
      unfold PureStep at hst';by_cases hw:Region.wanted oj' (yielded l.toArray a.tmps)=true
      . simp only[hw,if_true] at hst';obtain⟨v,h1,h2⟩:=hst';exact⟨v,.inl ⟨hw,h1⟩,h2⟩
      . simp only[hw] at hst';exact⟨undef,.inr ⟨by simpa using hw,rfl⟩,hst'⟩
     refine wpAny_first hoj (Region.noSelect_spec hsel) (fun c a w h=>h) _ listed a W ?_ hj hy (ih _ _ _ (hset j hj hjn) (hnext v W (Ext.refl _) hv));intro k ok hok hkj hkun hkno;have hks:k<l.toArray.size:=(Array.getElem?_eq_some_iff.1 hok).1;by_cases hkn:k<n
     . obtain⟨ok',hok',fk⟩:=qaI hh hkn;have:ok'=ok:=Option.some.inj (hok'.symm.trans hok);subst this;rcases Nat.lt_or_ge k j with hlt | hge
       . rcases fj.tie k ok' hlt hok with ⟨e,he,hb,hon⟩ | hap
         . obtain⟨_,o2,ho2,hall⟩:=mem_ready.1 hj;have:o2=oj':=Option.some.inj (ho2.symm.trans hoj);subst this;have:=hall e he hb;rw[hon,getD_both hkun] at this;cases this
         . obtain⟨h1,h2,h3⟩:=Oper.apart_spec hap;unfold Oper.apart;simp only[Bool.and_eq_true];refine ⟨?_,?_⟩
           . cases hd:oj'.dst with
             | none=>rfl
             | some d =>
              have a1:=h3 d hd;have a2:ok'.dst≠some d:=fun e=>h2 d e hd
              simp[a1,a2]
           . cases hd:ok'.dst with
             | none=>rfl
             | some d =>
              have a1:=h1 d hd;simp[a1]
       . have hlt:j<k:=Y;rcases fk.tie j oj' hlt hoj with ⟨e,he,hb,hon⟩ | hap
         . exact absurd hon (hkno e he hb)
         . exact hap
     . have h1:=List.all_eq_true.1 hpu j (List.mem_range.2 hjn);simp only[hjp,Bool.not_true,Bool.false_or,hoj,List.all_eq_true,List.mem_range] at h1;have h2:=h1 k hks;simp only[hkn,decide_false,Bool.false_or,hok,Bool.or_eq_true] at h2;rcases h2 with h2 | h2
       . obtain⟨o2,ho2,e,he,hb,hon⟩:=Region.waitsFor_spec h2;have:o2=ok:=Option.some.inj (ho2.symm.trans hok);subst this;exact absurd hon (hkno e he hb)
       . exact h2
   . refine ⟨fun h0=>(by rw[h0] at hri;cases hri),fun j hj=>?_⟩
     have hjn:j<n:=by
      rcases Nat.lt_or_ge j n with h' | h'
      . exact h'
      . exfalso;obtain⟨_,oj,hoj,hall⟩:=mem_ready.1 hj;have hjs:=(Array.getElem?_eq_some_iff.1 hoj).1;rcases hend with h | ⟨⟨hns,hanc⟩,hch⟩
        . omega
        . have hj0:j=n:=by
            apply Classical.byContradiction;intro hne;have h1:=List.all_eq_true.1 hch j (List.mem_range.2 hjs);simp only[Bool.or_eq_true,decide_eq_true_eq] at h1;rcases h1 with h1 | h1
            . omega
            . obtain⟨o',ho',e,he,hb,hon⟩:=Region.waitsFor_spec h1;have:o'=oj:=Option.some.inj (ho'.symm.trans hoj);subst this;have h2:=hall e he hb;rw[hon,getD_both (inv.head.tail (j-1) Y Y)] at h2;cases h2
          subst hj0;have h1:=List.all_eq_true.1 hanc i (List.mem_range.2 hi);simp only[Bool.or_eq_true] at h1;rcases h1 with h1 | h1
          . exact hp ⟨i,hri,hi,h1⟩
          . rcases anc_listed inv.head.closed hj i (by simpa using h1) with h2 | h2
            . omega
            . rw[hun] at h2;cases h2
     obtain⟨oj,hoj,hst,hnext⟩:=grow_head (fl:=fun j=>fl.getD j false) hh hup hup0 hstep inv hj hjn;exact wpOp_of_step hoj (fun v W' hx hv=>ih _ _ _ (hset j hj hjn) (hnext v W' hx hv)) (stepG_of hst)
 refine wp_region_any hm ?_
 have inv0:GrowInv l.toArray n a0.tmps.size Ψs (fun t v _=>v=a0.tmps.getD t undef) w a0.defers (Array.replicate l.toArray.size false) a0 { w with drawn:=w.drawn+1 } :=
  ⟨⟨zy,fun j oj _ hl=>(by rw[getD_replicate_false] at hl;cases hl),fun t _ ht=>getD_in (by simpa using ht) (getD_replicate_false _ _)⟩,(Ext.refl w).drew,rfl,rfl,fun t=>by
   rw[qaJ (fun m _ hp=>by rw[getD_replicate_false] at hp;cases hp)]⟩
 have h0:qcu n (Array.replicate l.toArray.size false)=n:=by
  unfold qcu;rw[List.filter_eq_self.2 (fun k _=>by rw[getD_replicate_false];rfl)];simp
 have:=main n _ a0 _ h0 inv0;rw[hlen] at this;rw[show n+(l.toArray.size-n)=l.toArray.size by simp;omega] at this;exact qfo ends_le _ _ _ _ this
def FillH (K:Act->World->Prop):List (Tmp × Fact)->Act->World->Prop
 | [],a,W=>K a W
 | (t,Ψ)::H,a,W=>∀ u,Ψ u W->FillH K H (a.put (some t) u) W
def looks (ops:Array Oper) (o:Oper) (H:List (Tmp × Fact)):List (Tmp × Fact):=H.filter fun h=>(o.looksAt ops).contains h.1
inductive Lex (P:Program) (ops:Array Oper) (w0:World) (fin:Act->List (Tmp × Fact)->Prop):List Bool->List Oper->Act->List (Tmp × Fact)->Prop
 | nil {a H} (h:fin a H):Lex P ops w0 fin [] [] a H
 | det {b fl o rest a H} (v:Value) (h:∀ W,Ext w0 W->FillH (fun a W=>StepK P ops b o a W (fun x _=>x=v)) (looks ops o H) a W) (k:Lex P ops w0 fin fl rest (a.put o.dst v) H):Lex P ops w0 fin (b::fl) (o::rest) a H
 | hole {b fl o rest a H} (t:Tmp) (Ψ:Fact) (ht:o.dst=some t) (hu:Upc Ψ) (h:∀ W,Ext w0 W->FillH (fun a W=>StepK P ops b o a W Ψ) (looks ops o H) a W) (k:Lex P ops w0 fin fl rest a ((t,Ψ)::H)):Lex P ops w0 fin (b::fl) (o::rest) a H
structure Matches (ops:Array Oper) (n N:Nat) (Ψs:Nat->Fact) (σ0:Tmp->Fact) (k:Nat) (a:Act) (H:List (Tmp × Fact)):Prop where
 size:a.tmps.size=N
 keys:∀ h∈H,∃ i,i<k/\dstOf ops i=some h.1/\Ψs i=h.2
 nodup:(H.map (·.1)).Nodup
 rest:∀ t,(∀ h∈H,h.1≠t)->cur ops n Ψs σ0 (fun i=>decide (i<k)) t=fun v _=>v=a.tmps.getD t undef
def fill_of {K:Act->World->Prop}:∀ (H:List (Tmp × Fact)) (a:Act) (W:World) (A:Act),(∀ h∈H,h.2 (A.tmps.getD h.1 undef) W)->FillH K H a W ->
  K (H.foldl (fun b h=>b.put (some h.1) (A.tmps.getD h.1 undef)) a) W
 | [],a,W,A,_,hf=>hf
 | (t,Ψ)::H,a,W,A,hs,hf=>fill_of H _ W A (fun h hh=>hs h (List.mem_cons_of_mem _ hh)) (hf _ (hs _ (List.mem_cons_self ..)))
def fold_size (A:Act):∀ (H:List (Tmp × Fact)) (a:Act),(H.foldl (fun b h=>b.put (some h.1) (A.tmps.getD h.1 undef)) a).tmps.size=a.tmps.size
 | [],a=>rfl
 | (t,Ψ)::H,a=>by rw[List.foldl_cons,fold_size A H];simp[Act.put]
def qfz (A:Act):∀ (H:List (Tmp × Fact)) (a:Act),(H.foldl (fun b h=>b.put (some h.1) (A.tmps.getD h.1 undef)) a).defers=a.defers
 | [],a=>rfl
 | (t,Ψ)::H,a=>by rw[List.foldl_cons,qfz A H];simp[Act.put]
def qgz (A:Act) (t:Tmp):∀ (H:List (Tmp × Fact)) (a:Act),(∀ h∈H,h.1<a.tmps.size)->((∃ h∈H,h.1=t)\/a.tmps.getD t undef=A.tmps.getD t undef) ->
  (H.foldl (fun b h=>b.put (some h.1) (A.tmps.getD h.1 undef)) a).tmps.getD t undef=A.tmps.getD t undef
 | [],a,_,h=>by
  rcases h with ⟨h,hh,_⟩ | h
  . cases hh
  . exact h
 | (x,Ψ)::H,a,hsz,h=>by
  rw[List.foldl_cons];have hx:x<a.tmps.size:=hsz _ (List.mem_cons_self ..);refine qgz A t H _ (fun h' hh=>by have:=hsz h' (List.mem_cons_of_mem _ hh);simpa [Act.put] using this) ?_;rw[qgG a (some x) _ t (fun y hy=>by cases hy;exact hx)];by_cases hxt:x=t
  . subst hxt;right;simp
  . rw[if_neg (by simpa using hxt)];rcases h with ⟨h',hh,e⟩ | h
    . cases hh with
      | head=>exact absurd e hxt
      | tail _ hh=>exact .inl ⟨h',hh,e⟩
    . exact .inr h
def step_congr {o:Oper} {a b:Act} {W:World} {Ψ:Fact} (hsel:∀ cs c,o.op≠.select cs c) (c:Bool) (h:∀ t∈o.looksAt ops,a.tmps.getD t undef=b.tmps.getD t undef) (hs:StepK P ops c o a W Ψ):StepK P ops c o b W Ψ:=by
 have he:execOp a.eval o=execOp b.eval o:=execOp_congr o hsel fun x hx=>by
  cases x with
  | tmp t=>exact h t (List.mem_append_left _ (List.mem_filterMap.2 ⟨.tmp t,by simpa using hx,rfl⟩))
  | _=>rfl
 have hw:Region.wanted o (yielded ops a.tmps)=Region.wanted o (yielded ops b.tmps):=by
  unfold Region.wanted
  cases hg:o.guard with
  | none=>rfl
  | some gw =>
   obtain⟨g,want⟩:=gw
   have hy:yielded ops a.tmps g=yielded ops b.tmps g:=by
    unfold yielded
    cases ht:(ops[g]?).bind (·.dst) with
    | none=>rfl
    | some t =>
     have h1:=h t (by simp[Oper.looksAt,hg,ht])
     have key:∀ x y:Option Value,x.getD undef=y.getD undef->(match x with | some (.bool b)=>some b | _=>Option.none)=(match y with | some (.bool b)=>some b | _=>Option.none):=by
      intro x y hxy;cases x<;>cases y<;>simp at hxy<;>subst_vars<;>rfl
     exact key _ _ (by simpa using h1)
   simp only[hy]
 unfold StepK StepG PureStep at *;rw[<-he,<-hw];exact hs
def cur_succ (hB:headB ops n N=true) {k:Nat} (hk:k<n) (t:Tmp) :
  cur ops n Ψs σ0 (fun i=>decide (i<k+1)) t=if dstOf ops k=some t then Ψs k else cur ops n Ψs σ0 (fun i=>decide (i<k)) t:=by
 by_cases hd:dstOf ops k=some t
 . rw[if_pos hd,qaW hB hk zy hd]
 . rw[if_neg hd];by_cases hex:∃ i,i<n/\i<k/\dstOf ops i=some t
   . obtain⟨i,hi,hik,hdi⟩:=hex;rw[qaW hB hi zg hdi,qaW hB hi (by simpa using hik) hdi]
   . rw[qaJ (p:=fun i=>decide (i<k+1)) (fun m hm hp hdm=>by
       simp at hp;by_cases hmk:m=k
       . subst hmk;exact hd hdm
       . exact hex ⟨m,hm,Y,hdm⟩),qaJ (p:=fun i=>decide (i<k)) (fun m hm hp hdm=>hex ⟨m,hm,by simpa using hp,hdm⟩)]
def qgF {Ψs':Nat->Fact} {k:Nat} (h:∀ i,i<k->Ψs i=Ψs' i) (t:Tmp):cur ops n Ψs σ0 (fun i=>decide (i<k)) t=cur ops n Ψs' σ0 (fun i=>decide (i<k)) t:=by
 unfold cur
 cases hf:(List.range n).find? (fun i=>decide (i<k)&&dstOf ops i==some t) with
 | none=>rfl
 | some i =>
  have h1:=List.find?_some hf;simp only[Bool.and_eq_true,decide_eq_true_eq] at h1;exact h i h1.1
def lex_facts (hB:headB ops n N=true) (hsel:Region.noSelect ops=true) {w0:World} {fin:Act->List (Tmp × Fact)->Prop} {fl:List Bool} {l:List Oper} {a:Act} {H:List (Tmp × Fact)} (hx:Lex P ops w0 fin fl l a H) :
  ∀ (k:Nat) (Ψ0:Nat->Fact),(∀ j,j<l.length->l[j]?=ops[k+j]?)->k+l.length=n->Matches ops n N Ψ0 σ0 k a H ->
  ∃ (Ψs:Nat->Fact),(∀ i,i<k->Ψs i=Ψ0 i)/\(∀ j,k<=j->j<n->Upc (Ψs j)) /\
   (∀ j oj,k<=j->j<n->ops[j]?=some oj->∀ A W,Ext w0 W->A.tmps.size=N->(∀ t∈oj.looksAt ops,cur ops n Ψs σ0 (fun i=>decide (i<j)) t (A.tmps.getD t undef) W)->StepK P ops (fl.getD (j-k) false) oj A W (Ψs j)) /\
   ∃ a' H',a'.defers=a.defers/\Matches ops n N Ψs σ0 n a' H'/\fin a' H':=by
 -- what one operation,proved at the act and the holes,says of whatever act
 have one:∀ (b:Bool) {o:Oper} {a:Act} {H:List (Tmp × Fact)} {Ψ:Fact} {k:Nat} {Ψs:Nat->Fact},ops[k]?=some o->k<n->Matches ops n N Ψs σ0 k a H->(∀ W,Ext w0 W->FillH (fun a W=>StepK P ops b o a W Ψ) (looks ops o H) a W) ->
   ∀ A W,Ext w0 W->A.tmps.size=N->(∀ t∈o.looksAt ops,cur ops n Ψs σ0 (fun i=>decide (i<k)) t (A.tmps.getD t undef) W)->StepK P ops b o A W Ψ:=by
  intro b o a H Ψ k Ψs ho hk hm h A W hE hsz hs
  have hkey:∀ h∈H,h.1∈o.looksAt ops->h.2 (A.tmps.getD h.1 undef) W:=fun h hh hl=>by
   obtain⟨i,hi,hd,e⟩:=hm.keys h hh;have:=hs h.1 hl;rw[qaW hB (i:=i) Y (by simpa using hi) hd,e] at this;exact this
  have h1:=fill_of (looks ops o H) a W A (fun h hh=>by
   simp only[looks,List.mem_filter,List.contains_iff_mem] at hh
   exact hkey h hh.1 (by simpa using hh.2)) (h W hE)
  refine step_congr (fun cs c=>Region.noSelect_spec hsel k o cs c ho) b (fun t ht=>?_) h1;refine qgz A t _ a (fun h hh=>?_) ?_
  . simp only[looks,List.mem_filter] at hh;obtain⟨i,hi,hd,_⟩:=hm.keys h hh.1;obtain⟨oi,hoi,fi⟩:=qaI hB (j:=i) Y;rw[hm.size];exact fi.rng h.1 (by simpa [dstOf,hoi] using hd)
  . by_cases hex:∃ h∈H,h.1=t
    . obtain⟨h,hh,e⟩:=hex
      left
      refine ⟨h,?_,e⟩;simp only[looks,List.mem_filter];exact⟨hh,by subst e;simpa using ht⟩
    . right
      have:=hs t ht;rw[hm.rest t (fun h hh e=>hex ⟨h,hh,e⟩)] at this;exact this.symm
 induction hx with
 | nil h =>
  intro k Ψ0 hl hk hm;have:k=n:=by simpa using hk
  subst this
  exact⟨Ψ0,fun _ _=>rfl,fun j h1 h2=>by omega,fun j _ h1 h2=>by omega,_,_,rfl,hm,h⟩
 | det v h hlex ih =>
  rename_i b fl o rest a H;intro k Ψ0 hl hk hm;simp only[List.length_cons] at hk;have hkn:k<n:=Y;have h0:ops[k]?=some o:=by simpa using (hl 0 zy).symm
  obtain⟨ok,hok,fk⟩:=qaI hB hkn;have:ok=o:=Option.some.inj (hok.symm.trans h0);subst this;have hdk:dstOf ops k=ok.dst:=by simp[dstOf,h0]
  let Ψ1:Nat->Fact:=fun i=>if i=k then(fun x _=>x=v) else Ψ0 i
  have e1:∀ i,i<k->Ψ1 i=Ψ0 i:=fun i hi=>if_neg Y
  have e2:Ψ1 k=fun x _=>x=v:=if_pos rfl
  have hm1:Matches ops n N Ψ1 σ0 k a H:=⟨hm.size,fun h hh=>by
   obtain⟨i,hi,hd,e⟩:=hm.keys h hh
   exact⟨i,hi,hd,(e1 i hi).trans e⟩,hm.nodup,fun t ht=>by rw[qgF e1];exact hm.rest t ht⟩
  have hm2:Matches ops n N Ψ1 σ0 (k+1) (a.put ok.dst v) H:=by
   refine ⟨?_,fun h hh=>?_,hm.nodup,fun t ht=>?_⟩
   . have:=hm.size;cases hd:ok.dst<;>simp[Act.put,this]
   . obtain⟨i,hi,hd,e⟩:=hm1.keys h hh;exact⟨i,Y,hd,e⟩
   . rw[cur_succ hB hkn,hdk]
     funext x W
     rw[qgG a ok.dst v t (fun y hy=>by rw[hm.size];exact fk.rng y hy)];by_cases hd:ok.dst=some t
     . rw[if_pos hd,if_pos hd,e2]
     . rw[if_neg hd,if_neg hd,hm1.rest t ht]
  obtain⟨Ψs,f1,f2,f3,a',H',hdf,f4,f5⟩:=ih (k+1) Ψ1 (fun j hj=>by have:=hl (j+1) zg;simpa [Nat.add_assoc,Nat.add_comm 1 j] using this) Y hm2;have g1:∀ i,i<k->Ψs i=Ψ0 i:=fun i hi=>(f1 i Y).trans (e1 i hi)
  have gk:Ψs k=fun x _=>x=v:=(f1 k Y).trans e2
  have hms:Matches ops n N Ψs σ0 k a H:=⟨hm.size,fun h hh=>by
   obtain⟨i,hi,hd,e⟩:=hm.keys h hh
   exact⟨i,hi,hd,(g1 i hi).trans e⟩,hm.nodup,fun t ht=>by rw[qgF g1];exact hm.rest t ht⟩
  refine ⟨Ψs,g1,fun j h1 h2=>?_,fun j oj h1 h2 hoj=>?_,a',H',hdf.trans (by cases hd:ok.dst<;>simp[Act.put]),f4,f5⟩
  . by_cases hjk:j=k
    . subst hjk;rw[gk];exact fun _ _ _ _ hx=>hx
    . exact f2 j Y h2
  . by_cases hjk:j=k
    . subst hjk;have:oj=ok:=Option.some.inj (hoj.symm.trans h0);subst this;rw[gk,Nat.sub_self];exact one _ h0 hkn hms h
    . have e3:j-k=(j-(k+1))+1:=Y
      rw[e3];exact f3 j oj Y h2 hoj
 | hole t Ψ ht hu h hlex ih =>
  rename_i b fl o rest a H;intro k Ψ0 hl hk hm;simp only[List.length_cons] at hk;have hkn:k<n:=Y;have h0:ops[k]?=some o:=by simpa using (hl 0 zy).symm
  obtain⟨ok,hok,fk⟩:=qaI hB hkn;have:ok=o:=Option.some.inj (hok.symm.trans h0);subst this;have hdk:dstOf ops k=some t:=by simp[dstOf,h0,ht]
  let Ψ1:Nat->Fact:=fun i=>if i=k then Ψ else Ψ0 i
  have e1:∀ i,i<k->Ψ1 i=Ψ0 i:=fun i hi=>if_neg Y
  have e2:Ψ1 k=Ψ:=if_pos rfl
  have hm1:Matches ops n N Ψ1 σ0 k a H:=⟨hm.size,fun h hh=>by
   obtain⟨i,hi,hd,e⟩:=hm.keys h hh
   exact⟨i,hi,hd,(e1 i hi).trans e⟩,hm.nodup,fun t ht=>by rw[qgF e1];exact hm.rest t ht⟩
  have hm2:Matches ops n N Ψ1 σ0 (k+1) a ((t,Ψ)::H):=by
   refine ⟨hm.size,fun h hh=>?_,?_,fun x hx=>?_⟩
   . cases hh with
     | head=>exact⟨k,Y,hdk,e2⟩
     | tail _ hh =>
      obtain⟨i,hi,hd,e⟩:=hm1.keys h hh;exact⟨i,Y,hd,e⟩
   . rw[List.map_cons,List.nodup_cons];refine ⟨fun hmem=>?_,hm.nodup⟩;obtain⟨h,hh,e⟩:=List.mem_map.1 hmem;obtain⟨i,hi,hd,_⟩:=hm.keys h hh;rw[e] at hd;have:=qcR hB Y hkn hd hdk;omega
   . have hne:t≠x:=hx _ (List.mem_cons_self ..);rw[cur_succ hB hkn,hdk,if_neg (by simpa using hne),hm1.rest x (fun h hh=>hx h (List.mem_cons_of_mem _ hh))]
  obtain⟨Ψs,f1,f2,f3,a',H',hdf,f4,f5⟩:=ih (k+1) Ψ1 (fun j hj=>by have:=hl (j+1) zg;simpa [Nat.add_assoc,Nat.add_comm 1 j] using this) Y hm2;have g1:∀ i,i<k->Ψs i=Ψ0 i:=fun i hi=>(f1 i Y).trans (e1 i hi)
  have gk:Ψs k=Ψ:=(f1 k Y).trans e2
  have hms:Matches ops n N Ψs σ0 k a H:=⟨hm.size,fun h hh=>by
   obtain⟨i,hi,hd,e⟩:=hm.keys h hh
   exact⟨i,hi,hd,(g1 i hi).trans e⟩,hm.nodup,fun t ht=>by rw[qgF g1];exact hm.rest t ht⟩
  refine ⟨Ψs,g1,fun j h1 h2=>?_,fun j oj h1 h2 hoj=>?_,a',H',hdf,f4,f5⟩
  . by_cases hjk:j=k
    . subst hjk;rw[gk];exact hu
    . exact f2 j Y h2
  . by_cases hjk:j=k
    . subst hjk;have:oj=ok:=Option.some.inj (hoj.symm.trans h0);subst this;rw[gk,Nat.sub_self];exact one _ h0 hkn hms h
    . have e3:j-k=(j-(k+1))+1:=Y;rw[e3];exact f3 j oj Y h2 hoj
def qaa {id:Nat} {Q:Exit->Act->World->Prop} {a0:Act} {w:World} {l:List Oper} (n N:Nat) (fl:List Bool) (hm:P.follows .mixedOrders=true) (hB:growB l.toArray n N fl=true) (hN:a0.tmps.size=N)
  (h:Lex P l.toArray w (fun a H=>∀ W,Ext w W->FillH (fun a W=>wpList P l.toArray (EndsQ Q) (l.drop n) a W) H a W) fl (l.take n) a0 []):(Code.region id l.toArray true).wp P Q a0 w:=by
 subst hN;have hB0:=hB;simp only[growB,Bool.and_eq_true,Bool.or_eq_true,decide_eq_true_eq] at hB;obtain⟨⟨⟨⟨hsel,hh⟩,hpu⟩,hseq⟩,hend⟩:=hB
 have hnle:n<=l.length:=by
  rcases hend with h | h
  . simp at h;omega
  . have:=h.1.1;simp at this;omega
 have htl:(l.take n).length=n:=zg
 obtain⟨Ψs,_,f2,f3,a',H',hdf,f4,f5⟩:=lex_facts (σ0:=fun t v _=>v=a0.tmps.getD t undef) hh hsel h 0 (fun _=>fun _ _=>True) (fun j hj=>by
  have hj':j<n:=by rw[htl] at hj;exact hj
  simp[hj']) Y ⟨rfl,fun h hh=>(by cases hh),zy,fun t _=>by rw[qaJ (fun m _ hp=>by simp at hp)]⟩
 refine qft n fl hm hB0 Ψs (fun i hi=>f2 i (Nat.zero_le _) hi) (fun j oj hj hoj A W hE hsz hs=>f3 j oj (Nat.zero_le _) hj hoj A W hE hsz hs) fun A W hE hsz hdf2 hs=>?_
 have h1:=fill_of H' a' W A (fun h hmem=>by
  obtain⟨i,hi,hd,e⟩:=f4.keys h hmem;have:=hs h.1;rw[qaW hh (i:=i) hi (by simpa using hi) hd,e] at this
  exact this) (f5 W hE)
 have hget:∀ t,(H'.foldl (fun b h=>b.put (some h.1) (A.tmps.getD h.1 undef)) a').tmps.getD t undef=A.tmps.getD t undef:=fun t =>
  qgz A t H' a' (fun h hmem=>by
   obtain⟨i,hi,hd,_⟩:=f4.keys h hmem;obtain⟨oi,hoi,fi⟩:=qaI hh (j:=i) hi;rw[f4.size]
   exact fi.rng h.1 (by simpa [dstOf,hoi] using hd)) (by
   by_cases hex:∃ h∈H',h.1=t
   . exact .inl hex
   . right
     have:=hs t;rw[f4.rest t (fun h hmem e=>hex ⟨h,hmem,e⟩)] at this
     exact this.symm)
 have hs1:(H'.foldl (fun b h=>b.put (some h.1) (A.tmps.getD h.1 undef)) a').tmps.size=A.tmps.size:=by rw[fold_size,f4.size,hsz]
 have hs2:(H'.foldl (fun b h=>b.put (some h.1) (A.tmps.getD h.1 undef)) a').defers=A.defers:=by rw[qfz,hdf,hdf2]
 generalize H'.foldl (fun b h=>b.put (some h.1) (A.tmps.getD h.1 undef)) a'=B at *
 have hs3:B.tmps=A.tmps:=by
  apply Array.ext hs1;intro t h1 h2;have:=hget t
  simpa [h1,h2] using this
 cases B;cases A;simp only at hs2 hs3;subst hs2 hs3;exact h1
@[go_sem] theorem yields_value (W W':World) (Ψ:Fact) (v:Value):qcc P W Ψ (.ok (.value v) W')=(Ext W W'/\Ψ v W'):=rfl
@[go_sem] theorem yields_skip (W W':World) (Ψ:Fact):qcc P W Ψ (.ok .skip W')=(Ext W W'/\Ψ undef W'):=rfl
@[go_sem] theorem yields_enter (W W':World) (Ψ:Fact) (f:FuncId) (args:Array Value) :
  qcc P W Ψ (.ok (.enter f args) W')=Calls P f args W' (RetG W Ψ):=rfl
def Lex.go {w0:World} {fin:Act->List (Tmp × Fact)->Prop} {o:Oper} {fl:List Bool} {rest:List Oper} {a:Act} {H:List (Tmp × Fact)} (v:Value) (hl:looks ops o H=[])
  (h:∀ d os,StepG P ops o a (more w0 d os) (fun x _=>x=v)) (k:Lex P ops w0 fin fl rest (a.put o.dst v) H):Lex P ops w0 fin (false::fl) (o::rest) a H :=
 Lex.det v (fun W hE=>by rw[hl];obtain⟨d,os,rfl⟩:=hE;exact h d os) k
def Lex.goP {w0:World} {fin:Act->List (Tmp × Fact)->Prop} {o:Oper} {fl:List Bool} {rest:List Oper} {a:Act} {H:List (Tmp × Fact)} (v:Value) (hl:looks ops o H=[]) (hg:o.guard=none)
  (h:∀ w,(execOp a.eval o).run P w=.ok (.value v) w) (k:Lex P ops w0 fin fl rest (a.put o.dst v) H):Lex P ops w0 fin (true::fl) (o::rest) a H :=
 Lex.det v (fun W hE=>by rw[hl];exact(by unfold StepK PureStep;simp only[Region.wanted,hg,if_true];exact⟨v,h,rfl⟩:StepK P ops true o a W (fun x _=>x=v))) k
def Lex.go1 {w0:World} {fin:Act->List (Tmp × Fact)->Prop} {o:Oper} {fl:List Bool} {rest:List Oper} {a:Act} {H:List (Tmp × Fact)} (v:Value) (t:Tmp) (Ψ:Fact) (hl:looks ops o H=[(t,Ψ)])
  (h:∀ u d os,Ψ u (more w0 d os)->StepG P ops o (a.put (some t) u) (more w0 d os) (fun x _=>x=v)) (k:Lex P ops w0 fin fl rest (a.put o.dst v) H):Lex P ops w0 fin (false::fl) (o::rest) a H :=
 Lex.det v (fun W hE=>by rw[hl];obtain⟨d,os,rfl⟩:=hE;exact fun u hu=>h u d os hu) k
def Lex.gap {w0:World} {fin:Act->List (Tmp × Fact)->Prop} {o:Oper} {fl:List Bool} {rest:List Oper} {a:Act} {H:List (Tmp × Fact)} (t:Tmp) (Ψ:Fact) (ht:o.dst=some t) (hu:Upc Ψ) (hl:looks ops o H=[])
  (h:∀ d os,StepG P ops o a (more w0 d os) Ψ) (k:Lex P ops w0 fin fl rest a ((t,Ψ)::H)):Lex P ops w0 fin (false::fl) (o::rest) a H :=
 Lex.hole t Ψ ht hu (fun W hE=>by rw[hl];obtain⟨d,os,rfl⟩:=hE;exact h d os) k
@[go_sem] theorem ext_refl (w:World):Ext w w=True:=eq_true (Ext.refl w)
def Lex.step {w0:World} {fin:Act->List (Tmp × Fact)->Prop} {o:Oper} {fl:List Bool} {rest:List Oper} {a:Act} {H:List (Tmp × Fact)} (hl:looks ops o H=[])
  (h:∀ K:Act->Prop,(∀ a,Lex P ops w0 fin fl rest a H->K a)->∃ v,(∀ d os,StepG P ops o a (more w0 d os) (fun x _=>x=v))/\K (a.put o.dst v)):Lex P ops w0 fin (false::fl) (o::rest) a H:=by
 obtain⟨v,h1,h2⟩:=h _ (fun _ h=>h);exact Lex.go v hl h1 h2
def Lex.stepP {w0:World} {fin:Act->List (Tmp × Fact)->Prop} {o:Oper} {fl:List Bool} {rest:List Oper} {a:Act} {H:List (Tmp × Fact)} (hl:looks ops o H=[]) (hg:o.guard=none)
  (h:∀ K:Act->Prop,(∀ a,Lex P ops w0 fin fl rest a H->K a)->∃ v,(∀ w,(execOp a.eval o).run P w=.ok (.value v) w)/\K (a.put o.dst v)):Lex P ops w0 fin (true::fl) (o::rest) a H:=by
 obtain⟨v,h1,h2⟩:=h _ (fun _ h=>h);exact Lex.goP v hl hg h1 h2
def NewBlk (w0:World) (o:Obj):Fact:=fun v W=>∃ g,v=.pointer (some ⟨g,0,none⟩)/\w0.heap.size<=g/\W.heap[g]?=some o
def NewBlk.upc (w0:World) (o:Obj):Upc (NewBlk w0 o):=by
 rintro v W W' ⟨d,os,rfl⟩ ⟨g,hv,hg,hh⟩
 have hlt:g<W.heap.size:=by
  rcases Nat.lt_or_ge g W.heap.size with h | h
  . exact h
  . rw[Array.getElem?_eq_none h] at hh;cases hh
 exact⟨g,hv,hg,by rw[more_heap _ _ _ _ hlt];exact hh⟩
def NewBlk.of_alloc (w0:World) (d:Nat) (os:Array Obj) (o:Obj) (n:Nat) (hn:n=(more w0 d os).heap.size):NewBlk w0 o (.pointer (some ⟨n,0,none⟩)) ((more w0 d os).alloc o):=by
 subst hn;exact⟨_,rfl,by simp[more_size],heap_alloc_new _ _⟩
def Lex.alloc {w0:World} {fin:Act->List (Tmp × Fact)->Prop} {o:Oper} {fl:List Bool} {rest:List Oper} {a:Act} {H:List (Tmp × Fact)} (t:Tmp) (ob:Obj) (ht:o.dst=some t) (hl:looks ops o H=[])
  (h:∀ d os,StepG P ops o a (more w0 d os) (NewBlk w0 ob)) (k:Lex P ops w0 fin fl rest a ((t,NewBlk w0 ob)::H)):Lex P ops w0 fin (false::fl) (o::rest) a H :=
 Lex.gap t _ ht (NewBlk.upc w0 ob) hl h k
def NewBlk.split {w0:World} {o:Obj} {v:Value} {W:World} (h:NewBlk w0 o v W) (hx:Ext w0 W) :
  ∃ d1 os1 d2 os2,W=more ((more w0 d1 os1).alloc o) d2 os2/\v=.pointer (some ⟨w0.heap.size+os1.size,0,none⟩):=by
 obtain⟨g,rfl,hg,hh⟩:=h;obtain⟨d,os,rfl⟩:=hx
 have h1:os[g-w0.heap.size]?=some o:=by
  have:(more w0 d os).heap[g]?=os[g-w0.heap.size]?:=by
   simp only[more];rw[Array.getElem?_append,if_neg Y]
  rw[<-this];exact hh
 have hlt:g-w0.heap.size<os.size:=(Array.getElem?_eq_some_iff.1 h1).1;refine ⟨d,os.extract 0 (g-w0.heap.size),d,os.extract (g-w0.heap.size+1) os.size,?_,?_⟩
 . unfold World.alloc more;simp only
   congr 1
   apply Array.ext_getElem?;intro k;simp only[Array.getElem?_append,Array.getElem?_push,Array.size_append,Array.size_push,Array.size_extract,Array.getElem?_extract];by_cases c1:k<w0.heap.size
   . have e1:k<w0.heap.size+(min (g-w0.heap.size) os.size-0)+1:=Y;have e2:¬ k=w0.heap.size+(min (g-w0.heap.size) os.size-0):=Y;simp only[if_pos c1,if_pos e1,if_neg e2]
   . simp only[if_neg c1];by_cases c2:k<g
     . have e1:k<w0.heap.size+(min (g-w0.heap.size) os.size-0)+1:=Y;have e2:¬ k=w0.heap.size+(min (g-w0.heap.size) os.size-0):=Y;have e3:k-w0.heap.size<min (g-w0.heap.size) os.size-0:=Y;simp only[if_pos e1,if_neg e2,if_pos e3,Nat.zero_add]
     . by_cases c3:k=g
       . have e1:k<w0.heap.size+(min (g-w0.heap.size) os.size-0)+1:=Y;have e2:k=w0.heap.size+(min (g-w0.heap.size) os.size-0):=Y;rw[if_pos e1,if_pos e2,c3,h1]
       . have e1:¬ k<w0.heap.size+(min (g-w0.heap.size) os.size-0)+1:=Y;rw[if_neg e1];by_cases c4:k-w0.heap.size<os.size
         . rw[if_pos Y]
           congr 1
           omega
         . rw[if_neg Y,Array.getElem?_eq_none Y]
 . congr 3
   simp;omega
end
def ret1 {P:Program} {f:FuncId} {args:Array Value} {v:Value} {W:World} (h:Calls P f args W fun e w'=>e=.returned v/\Ext W w') :
  Calls P f args W (RetG W fun x _=>x=v):=h.mono fun e w' ⟨he,hx⟩=>⟨v,he,hx,rfl⟩
attribute [go_sem] more_more Array.size_append
def ret_bool {a b:Bool} (h:a=b):Ending.returned (.bool a)=.returned (.bool b):=by rw[h]
def ret_int {k:IntKind} {a b:Int} (h:a=b):Ending.returned (.int k a)=.returned (.int k b):=by rw[h]
def qar (c:Int):Bool:=decide ((97<=c/\c<=122)\/c=95)
def qah (c:Int):Bool:=decide (48<=c/\c<=57)
def noNl (c:Int):Bool:=decide (¬ c=10)
def nameB (c:Int):Bool:=qar c||qah c
def escZ (c:Int):Int:=if c=34\/c=92 then c else if c=110 then 10 else 0
def LexAt (b:Nat) (s:ByteArray) (k:Nat) (lv:Value) (w:World):Prop:=w.heap[b]?=some (.cells #[.string s,.int .i64 (k:Int),lv] 184 (0,0))
def LexAt.lt {b:Nat} {s:ByteArray} {k:Nat} {lv:Value} {w:World} (h:LexAt b s k lv w):b<w.heap.size:=by
 rcases Nat.lt_or_ge b w.heap.size with h' | h'
 . exact h'
 . unfold LexAt at h;rw[Array.getElem?_eq_none h'] at h;cases h
def LexAt.cells {b:Nat} {s:ByteArray} {k:Nat} {lv:Value} {w:World} (h:LexAt b s k lv w) :
  w.cell? ⟨b,0,none⟩=some (.string s)/\w.cell? ⟨b,1,none⟩=some (.int .i64 (k:Int))/\w.cell? ⟨b,2,none⟩=some lv/\w.frozen? ⟨b,1,none⟩=false/\w.frozen? ⟨b,2,none⟩=false:=by
 unfold LexAt at h;simp[World.cell?,World.frozen?,h]
def LexAt.more {b:Nat} {s:ByteArray} {k:Nat} {lv:Value} {w:World} (h:LexAt b s k lv w) (d:Nat) (os:Array Obj):LexAt b s k lv (more w d os):=by
 unfold LexAt;rw[more_heap _ _ _ _ h.lt];exact h
def LexAt.set {b:Nat} {s:ByteArray} {k:Nat} {lv:Value} {w:World} (h:LexAt b s k lv w) (k':Nat) (z:Int) (hz:z=k'):LexAt b s k' lv (w.setCell ⟨b,1,none⟩ (.int .i64 z)):=by
 subst hz;unfold LexAt at h ⊢;simp[World.setCell,Array.getElem?_modify,h]
def qak {w0 w:World} {b:Nat} (h:w0.grownBy w (some b)) (i:Nat) (v:Value):w0.grownBy (w.setCell ⟨b,i,none⟩ v) (some b):=by
 obtain⟨h1,h2,h3,h4,h5⟩:=h;refine ⟨h1,h2,h3,by simpa [World.setCell] using h4,fun k hk hne=>?_⟩;rw[<-h5 k hk hne];exact Below.heap_setCell _ _ _ _ (fun e=>hne (by simp[e]))
def grown_refl (w:World) (row:Option Nat):w.grownBy w row:=⟨rfl,rfl,rfl,Nat.le_refl _,fun _ _ _=>rfl⟩
def qal {w0 w w':World} {row:Option Nat} (h:w0.grownBy w row) (hx:Ext w w'):w0.grownBy w' row:=by
 obtain⟨d,os,rfl⟩:=hx;obtain⟨h1,h2,h3,h4,h5⟩:=h;refine ⟨h1,h2,h3,by rw[more_size];omega,fun k hk hne=>?_⟩;rw[more_heap _ _ _ _ Y];exact h5 k hk hne
def grown_trans {a b c:World} {row:Option Nat} (h:a.grownBy b row) (k:b.grownBy c row):a.grownBy c row:=by
 obtain⟨h1,h2,h3,h4,h5⟩:=h;obtain⟨k1,k2,k3,k4,k5⟩:=k;refine ⟨k1.trans h1,k2.trans h2,k3.trans h3,Y,fun j hj hne=>?_⟩;rw[k5 j Y hne,h5 j hj hne]
def spanN (p:Int->Bool):List UInt8->Nat
 | []=>0
 | c::l=>if p (c.toNat:Int) then spanN p l+1 else 0
def spanN_le (p:Int->Bool):∀ l,spanN p l<=l.length
 | []=>by simp[spanN]
 | c::l=>by have:=spanN_le p l;simp only[spanN,List.length_cons];split<;>omega
def qbm (c:Int) (h0:0<=c) (h1:c<256) (w:World) :
  Calls prog 125 #[.int .u8 c] w fun e w'=>e=.returned (.bool (qar c))/\w=w':=by
 go_enter func125,ntmps125
 go_wp2
 all_goals
  go_ret;refine ⟨ret_bool (by first | (rw[Bool.eq_iff_iff];simp[qar];omega) | (simp[qar];omega)),rfl⟩
def qcG (c:Int) (h0:0<=c) (h1:c<256) (w:World) :
  Calls prog 127 #[.int .u8 c] w fun e w'=>e=.returned (.bool (qah c))/\w=w':=by
 go_enter func127,ntmps127
 go_wp2
 all_goals
  go_ret;refine ⟨ret_bool (by first | (rw[Bool.eq_iff_iff];simp[qah];omega) | (simp[qah];omega)),rfl⟩
def nonl_any (c:Int) (h0:0<=c) (h1:c<256) (w:World) :
  Calls prog 153 #[.int .u8 c] w fun e w'=>e=.returned (.bool (noNl c))/\w=w':=by
 go_enter func153,ntmps153
 go_wp2
 all_goals
  go_ret;refine ⟨ret_bool (by first | (rw[Bool.eq_iff_iff];simp[noNl];done) | (rw[Bool.eq_iff_iff];simp[noNl];omega)),rfl⟩
def esc_any (c:Int) (h0:0<=c) (h1:c<256) (w:World) :
  Calls prog 160 #[.int .u8 c] w fun e w'=>e=.returned (.int .u8 (escZ c))/\w=w':=by
 go_enter func160,ntmps160
 go_wp2
 all_goals
  go_ret;refine ⟨ret_int ?_,rfl⟩;unfold escZ;simp only[beq_iff_eq,beq_eq_false_iff_ne,ne_eq] at *
  repeat' split
  all_goals omega
def name1_any (c:Int) (h0:0<=c) (h1:c<256) (w:World) :
  Calls prog 155 #[.int .u8 c] w fun e w'=>e=.returned (.bool (nameB c))/\w=w':=by
 have C1:=J (qbm c h0 h1);have C2:=J (qcG c h0 h1);obtain⟨p,hp⟩:∃ p,qar c=p:=⟨_,rfl⟩
 obtain⟨q,hq⟩:∃ q,qah c=q:=⟨_,rfl⟩
 have hn:nameB c=(p||q):=by unfold nameB;rw[hp,hq]
 rw[hp] at C1;rw[hq] at C2;rw[hn];clear hp hq hn;cases p
 all_goals
  go_enter func155,ntmps155
  go_wp2_with (first
   | (go_at_call 125;refine (C1.out _).mono ?_;rintro e _ ⟨rfl,rfl⟩)
   | (go_at_call 127;refine (C2.out _).mono ?_;rintro e _ ⟨rfl,rfl⟩))
  go_ret;exact⟨rfl,rfl⟩
def while_digit (b:Nat) (s:ByteArray) (k n:Nat) (lv:Value) (w:World) (h:LexAt b s k lv w) (hk:k<=s.size) (hs:s.size<=maxLen) (hn:spanN qah (s.data.toList.drop k)=n) :
  Calls prog 152 #[.pointer (some ⟨b,0,none⟩),.func (.func 127) #[] #[]] w fun e w'=>e=.returned (.string (s.extract k (k+n)))/\LexAt b s (k+n) lv w'/\w.grownBy w' (some b):=by
 unfold maxLen at hs;have HN:=J hn;have HL:=J h;obtain⟨c0,c1,c2,f1,f2⟩:=h.cells;have hb:=h.lt;clear hn h;go_enter func152,ntmps152;go_wp2_with fail;clear c0 c1 c2 f1 f2 hb
 go_loopg [] n (fun g wr=>∃ m,k<=m/\m<=s.size/\m+g=k+n/\spanN qah (s.data.toList.drop m)=g/\LexAt b s m lv wr/\w.grownBy wr (some b))
 case atStart=>exact⟨k,Y,Y,Y,HN.out,HL.out,grown_refl _ _⟩
 case round =>
  obtain⟨m,hkm,hms,hj,hsp,hL,hg⟩:=hrel;have HLL:=J hL;have HG:=J hg;have HJ:=J hj;obtain⟨c0,c1,c2,f1,f2⟩:=hL.cells;have hb:=hL.lt;clear hL hg hj HN HL;by_cases hlt:m<s.size
  . have hml:m<s.data.toList.length:=jb;have hd:s.data.toList.drop m=s[m]'hlt::s.data.toList.drop (m+1):=List.drop_eq_getElem_cons hml;rw[hd] at hsp;unfold spanN at hsp;have h256:=(s[m]'hlt).toNat_lt;have CC:=J (qcG ((s[m]'hlt).toNat:Int) Y Y);by_cases hp:qah ((s[m]'hlt).toNat:Int)=true
    . rw[if_pos hp] at hsp;rw[hp] at CC;have HS:=J hsp;clear hsp hd hp h256 hml;go_wp2_with fail;refine qw ⟨?_⟩;refine zh ?_
      repeat(refine Lex.step rfl ?_;intro K hK;unfold StepG;go_simp;(first
        | refine hK _ ?_);clear hK K)
      refine zd ?_;intro dd oo
      go_wp2_with (go_at_call 127;refine (CC.out _).mono ?_;rintro e _ ⟨rfl,rfl⟩)
      rw[ends_normal];go_wp2_with fail
      go_roundg (gk-1)
      case measure=>have:=HS.out;omega
      case rel =>
       have h1:=HS.out;refine ⟨m+1,Y,Y,by have:=HJ.out;omega,Y,((HLL.out.set (m+1) _ Y).more _ _),qal (qak HG.out _ _) (Ext.more (Ext.refl _) _ _)⟩
    . have hpf:qah ((s[m]'hlt).toNat:Int)=false:=(by simpa using hp)
      rw[if_neg hp] at hsp;rw[hpf] at CC;subst hsp;have HMN:=J (show m=k+n by have:=HJ.out;omega);clear hd hp hpf h256 hml HJ;go_wp2_with fail;refine qw ⟨?_⟩;refine zh ?_
      repeat(refine Lex.step rfl ?_;intro K hK;unfold StepG;go_simp;(first
        | refine hK _ ?_);clear hK K)
      refine zd ?_;intro dd oo
      go_wp2_with (go_at_call 127;refine (CC.out _).mono ?_;rintro e _ ⟨rfl,rfl⟩)
      rw[ends_normal];go_wp2_with fail;refine ybb ⟨?_⟩;refine zh ?_
      repeat(refine Lex.step rfl ?_;intro K hK;unfold StepG;go_simp;(first
        | refine hK _ ?_);clear hK K)
      refine zd ?_;intro dd oo;go_wp2_with fail;rw[ends_normal];go_wp2_with fail;go_ret;refine ⟨?_,?_,?_⟩
      . rw[<-HMN.out];rfl
      . rw[<-HMN.out];exact HLL.out.more _ _
      . exact qal HG.out zbr
  . have hme:m=s.size:=Y;have hnil:s.data.toList.drop m=[]:=(by apply List.drop_eq_nil_of_le;simp;omega)
    rw[hnil] at hsp;simp only[spanN] at hsp;subst hsp;have HMN:=J (show s.size=k+n by have:=HJ.out;omega);clear hnil hms HJ;subst hme;go_wp2_with fail;refine qw ⟨?_⟩;refine zh ?_
    repeat(refine Lex.step rfl ?_;intro K hK;unfold StepG;go_simp;(first
      | refine hK _ ?_);clear hK K)
    refine zd ?_;intro dd oo;go_wp2_with fail;rw[ends_normal];go_wp2_with fail;refine ybb ⟨?_⟩;refine zh ?_
    repeat(refine Lex.step rfl ?_;intro K hK;unfold StepG;go_simp;(first
      | refine hK _ ?_);clear hK K)
    refine zd ?_;intro dd oo;go_wp2_with fail;rw[ends_normal];go_wp2_with fail;go_ret;refine ⟨?_,?_,?_⟩
    . rw[<-HMN.out];rfl
    . rw[<-HMN.out];exact HLL.out.more _ _
    . exact qal HG.out zbr
def while_nonl (b:Nat) (s:ByteArray) (k n:Nat) (lv:Value) (w:World) (h:LexAt b s k lv w) (hk:k<=s.size) (hs:s.size<=maxLen) (hn:spanN noNl (s.data.toList.drop k)=n) :
  Calls prog 152 #[.pointer (some ⟨b,0,none⟩),.func (.func 153) #[] #[]] w fun e w'=>e=.returned (.string (s.extract k (k+n)))/\LexAt b s (k+n) lv w'/\w.grownBy w' (some b):=by
 unfold maxLen at hs;have HN:=J hn;have HL:=J h;obtain⟨c0,c1,c2,f1,f2⟩:=h.cells;have hb:=h.lt;clear hn h;go_enter func152,ntmps152;go_wp2_with fail;clear c0 c1 c2 f1 f2 hb
 go_loopg [] n (fun g wr=>∃ m,k<=m/\m<=s.size/\m+g=k+n/\spanN noNl (s.data.toList.drop m)=g/\LexAt b s m lv wr/\w.grownBy wr (some b))
 case atStart=>exact⟨k,Y,Y,Y,HN.out,HL.out,grown_refl _ _⟩
 case round =>
  obtain⟨m,hkm,hms,hj,hsp,hL,hg⟩:=hrel;have HLL:=J hL;have HG:=J hg;have HJ:=J hj;obtain⟨c0,c1,c2,f1,f2⟩:=hL.cells;have hb:=hL.lt;clear hL hg hj HN HL;by_cases hlt:m<s.size
  . have hml:m<s.data.toList.length:=jb;have hd:s.data.toList.drop m=s[m]'hlt::s.data.toList.drop (m+1):=List.drop_eq_getElem_cons hml;rw[hd] at hsp;unfold spanN at hsp;have h256:=(s[m]'hlt).toNat_lt;have CC:=J (nonl_any ((s[m]'hlt).toNat:Int) Y Y);by_cases hp:noNl ((s[m]'hlt).toNat:Int)=true
    . rw[if_pos hp] at hsp;rw[hp] at CC;have HS:=J hsp;clear hsp hd hp h256 hml;go_wp2_with fail;refine qw ⟨?_⟩;refine zh ?_
      repeat(refine Lex.step rfl ?_;intro K hK;unfold StepG;go_simp;(first
        | refine hK _ ?_);clear hK K)
      refine zd ?_;intro dd oo
      go_wp2_with (go_at_call 153;refine (CC.out _).mono ?_;rintro e _ ⟨rfl,rfl⟩)
      rw[ends_normal];go_wp2_with fail
      go_roundg (gk-1)
      case measure=>have:=HS.out;omega
      case rel =>
       have h1:=HS.out;refine ⟨m+1,Y,Y,by have:=HJ.out;omega,Y,((HLL.out.set (m+1) _ Y).more _ _),qal (qak HG.out _ _) (Ext.more (Ext.refl _) _ _)⟩
    . have hpf:noNl ((s[m]'hlt).toNat:Int)=false:=(by simpa using hp)
      rw[if_neg hp] at hsp;rw[hpf] at CC;subst hsp;have HMN:=J (show m=k+n by have:=HJ.out;omega);clear hd hp hpf h256 hml HJ;go_wp2_with fail;refine qw ⟨?_⟩;refine zh ?_
      repeat(refine Lex.step rfl ?_;intro K hK;unfold StepG;go_simp;(first
        | refine hK _ ?_);clear hK K)
      refine zd ?_;intro dd oo
      go_wp2_with (go_at_call 153;refine (CC.out _).mono ?_;rintro e _ ⟨rfl,rfl⟩)
      rw[ends_normal];go_wp2_with fail;refine ybb ⟨?_⟩;refine zh ?_
      repeat(refine Lex.step rfl ?_;intro K hK;unfold StepG;go_simp;(first
        | refine hK _ ?_);clear hK K)
      refine zd ?_;intro dd oo;go_wp2_with fail;rw[ends_normal];go_wp2_with fail;go_ret;refine ⟨?_,?_,?_⟩
      . rw[<-HMN.out];rfl
      . rw[<-HMN.out];exact HLL.out.more _ _
      . exact qal HG.out zbr
  . have hme:m=s.size:=Y;have hnil:s.data.toList.drop m=[]:=(by apply List.drop_eq_nil_of_le;simp;omega)
    rw[hnil] at hsp;simp only[spanN] at hsp;subst hsp;have HMN:=J (show s.size=k+n by have:=HJ.out;omega);clear hnil hms HJ;subst hme;go_wp2_with fail;refine qw ⟨?_⟩;refine zh ?_
    repeat(refine Lex.step rfl ?_;intro K hK;unfold StepG;go_simp;(first
      | refine hK _ ?_);clear hK K)
    refine zd ?_;intro dd oo;go_wp2_with fail;rw[ends_normal];go_wp2_with fail;refine ybb ⟨?_⟩;refine zh ?_
    repeat(refine Lex.step rfl ?_;intro K hK;unfold StepG;go_simp;(first
      | refine hK _ ?_);clear hK K)
    refine zd ?_;intro dd oo;go_wp2_with fail;rw[ends_normal];go_wp2_with fail;go_ret;refine ⟨?_,?_,?_⟩
    . rw[<-HMN.out];rfl
    . rw[<-HMN.out];exact HLL.out.more _ _
    . exact qal HG.out zbr
def while_name (b:Nat) (s:ByteArray) (k n:Nat) (lv:Value) (w:World) (h:LexAt b s k lv w) (hk:k<=s.size) (hs:s.size<=maxLen) (hn:spanN nameB (s.data.toList.drop k)=n) :
  Calls prog 152 #[.pointer (some ⟨b,0,none⟩),.func (.func 155) #[] #[]] w fun e w'=>e=.returned (.string (s.extract k (k+n)))/\LexAt b s (k+n) lv w'/\w.grownBy w' (some b):=by
 unfold maxLen at hs;have HN:=J hn;have HL:=J h;obtain⟨c0,c1,c2,f1,f2⟩:=h.cells;have hb:=h.lt;clear hn h;go_enter func152,ntmps152;go_wp2_with fail;clear c0 c1 c2 f1 f2 hb
 go_loopg [] n (fun g wr=>∃ m,k<=m/\m<=s.size/\m+g=k+n/\spanN nameB (s.data.toList.drop m)=g/\LexAt b s m lv wr/\w.grownBy wr (some b))
 case atStart=>exact⟨k,Y,Y,Y,HN.out,HL.out,grown_refl _ _⟩
 case round =>
  obtain⟨m,hkm,hms,hj,hsp,hL,hg⟩:=hrel;have HLL:=J hL;have HG:=J hg;have HJ:=J hj;obtain⟨c0,c1,c2,f1,f2⟩:=hL.cells;have hb:=hL.lt;clear hL hg hj HN HL;by_cases hlt:m<s.size
  . have hml:m<s.data.toList.length:=jb;have hd:s.data.toList.drop m=s[m]'hlt::s.data.toList.drop (m+1):=List.drop_eq_getElem_cons hml;rw[hd] at hsp;unfold spanN at hsp;have h256:=(s[m]'hlt).toNat_lt;have CC:=J (name1_any ((s[m]'hlt).toNat:Int) Y Y);by_cases hp:nameB ((s[m]'hlt).toNat:Int)=true
    . rw[if_pos hp] at hsp;rw[hp] at CC;have HS:=J hsp;clear hsp hd hp h256 hml;go_wp2_with fail;refine qw ⟨?_⟩;refine zh ?_
      repeat(refine Lex.step rfl ?_;intro K hK;unfold StepG;go_simp;(first
        | refine hK _ ?_);clear hK K)
      refine zd ?_;intro dd oo
      go_wp2_with (go_at_call 155;refine (CC.out _).mono ?_;rintro e _ ⟨rfl,rfl⟩)
      rw[ends_normal];go_wp2_with fail
      go_roundg (gk-1)
      case measure=>have:=HS.out;omega
      case rel =>
       have h1:=HS.out;refine ⟨m+1,Y,Y,by have:=HJ.out;omega,Y,((HLL.out.set (m+1) _ Y).more _ _),qal (qak HG.out _ _) (Ext.more (Ext.refl _) _ _)⟩
    . have hpf:nameB ((s[m]'hlt).toNat:Int)=false:=(by simpa using hp)
      rw[if_neg hp] at hsp;rw[hpf] at CC;subst hsp;have HMN:=J (show m=k+n by have:=HJ.out;omega);clear hd hp hpf h256 hml HJ;go_wp2_with fail;refine qw ⟨?_⟩;refine zh ?_
      repeat(refine Lex.step rfl ?_;intro K hK;unfold StepG;go_simp;(first
        | refine hK _ ?_);clear hK K)
      refine zd ?_;intro dd oo
      go_wp2_with (go_at_call 155;refine (CC.out _).mono ?_;rintro e _ ⟨rfl,rfl⟩)
      rw[ends_normal];go_wp2_with fail;refine ybb ⟨?_⟩;refine zh ?_
      repeat(refine Lex.step rfl ?_;intro K hK;unfold StepG;go_simp;(first
        | refine hK _ ?_);clear hK K)
      refine zd ?_;intro dd oo;go_wp2_with fail;rw[ends_normal];go_wp2_with fail;go_ret;refine ⟨?_,?_,?_⟩
      . rw[<-HMN.out];rfl
      . rw[<-HMN.out];exact HLL.out.more _ _
      . exact qal HG.out zbr
  . have hme:m=s.size:=Y;have hnil:s.data.toList.drop m=[]:=(by apply List.drop_eq_nil_of_le;simp;omega)
    rw[hnil] at hsp;simp only[spanN] at hsp;subst hsp;have HMN:=J (show s.size=k+n by have:=HJ.out;omega);clear hnil hms HJ;subst hme;go_wp2_with fail;refine qw ⟨?_⟩;refine zh ?_
    repeat(refine Lex.step rfl ?_;intro K hK;unfold StepG;go_simp;(first
      | refine hK _ ?_);clear hK K)
    refine zd ?_;intro dd oo;go_wp2_with fail;rw[ends_normal];go_wp2_with fail;refine ybb ⟨?_⟩;refine zh ?_
    repeat(refine Lex.step rfl ?_;intro K hK;unfold StepG;go_simp;(first
      | refine hK _ ?_);clear hK K)
    refine zd ?_;intro dd oo;go_wp2_with fail;rw[ends_normal];go_wp2_with fail;go_ret;refine ⟨?_,?_,?_⟩
    . rw[<-HMN.out];rfl
    . rw[<-HMN.out];exact HLL.out.more _ _
    . exact qal HG.out zbr
abbrev Bld (B b:Nat) (bs:List Value) (w:World):Prop:=Lib.IsBuilder 236 5 B b bs w
abbrev BldU (B b:Nat) (bs:List Value) (w:World):Prop:=Lib.BuilderAt 236 5 B b (.pointer (some ⟨b,0,none⟩)) bs w
def bldInfo:(prog.info? 236).map (·.size)=some 2:=by kernel_rfl
def bldLies:liesAt prog prog.depth 236 (2 / prog.cellsOf 236) 0 236 1=true:=by kernel_rfl
def u8info:(prog.info? 5).map (fun i=>(i.zero,i.size,i.bytes))=some (some (.int .u8 0),1,1):=by kernel_rfl
def qgh {T e:TypeId} {B b b0:Nat} {p:Value} {bs:List Value} {w w':World} (h:Lib.BuilderAt T e B b p bs w) (hg:w.grownBy w' (some b0)) (hb:b0<B):Lib.BuilderAt T e B b p bs w':=by
 have hlt:=Lib.BuilderAt.lt h;obtain⟨hB,v,hbk,hown,hne⟩:=h;refine ⟨hB,v,?_,?_,hne⟩
 . rw[hg.block b hlt zg];exact hbk
 . refine hown.kept hg ?_
   cases hv:v.ownBlock with
   | none=>exact Or.inl rfl
   | some k =>
    refine Or.inr ?_;have:=(hown.lt k hv).1;simp;omega
def bld_kept {B b b0:Nat} {bs:List Value} {w w':World} (h:Bld B b bs w) (hg:w.grownBy w' (some b0)) (hb:b0<B):Bld B b bs w':=by
 rcases h with h | h
 . exact Or.inl (qgh h hg hb)
 . exact Or.inr (qgh h hg hb)
def bldAt_ext {T e:TypeId} {B b:Nat} {p:Value} {bs:List Value} {w w':World} (h:Lib.BuilderAt T e B b p bs w) (hx:Ext w w'):Lib.BuilderAt T e B b p bs w':=by
 have hlt:=Lib.BuilderAt.lt h;obtain⟨d,os,rfl⟩:=hx;obtain⟨hB,v,hbk,hown,hne⟩:=h;refine ⟨hB,v,?_,own_more hown d os,hne⟩;rw[more_heap _ _ _ _ hlt];exact hbk
def bld_ext {B b:Nat} {bs:List Value} {w w':World} (h:Bld B b bs w) (hx:Ext w w'):Bld B b bs w':=by
 rcases h with h | h
 . exact Or.inl (bldAt_ext h hx)
 . exact Or.inr (bldAt_ext h hx)
def qdb {w wr w':World} {row:Option Nat} (h:w.grownBy wr row) (hb:Below w.heap.size wr w'):w.grownBy w' row:=by
 obtain⟨h1,h2,h3,h4,h5⟩:=h;obtain⟨k1,k2,k3,k4,k5⟩:=hb;refine ⟨k1.trans h1,k2.trans h2,k3.trans h3,Y,fun j hj hne=>?_⟩;rw[k5 j hj,h5 j hj hne]
def LexAt.below {b:Nat} {s:ByteArray} {k B:Nat} {lv:Value} {w w':World} (h:LexAt b s k lv w) (hb:Below B w w') (hB:b<B):LexAt b s k lv w':=by
 unfold LexAt;rw[hb.block b hB];exact h
def qfD (b:Nat) (w:World) (h0:w.cell? ⟨b,0,none⟩=some (.pointer (some ⟨b,0,none⟩))) :
  Calls prog 193 #[.pointer (some ⟨b,0,none⟩)] w fun e w'=>e=.returned (.tuple #[])/\w'=w:=by
 obtain⟨j,hj,_⟩:=Option.map_eq_some_iff.1 bldInfo;go_enter func193,ntmps193
 go_wp2
 rw[Lib.run_neq_ptr_same w _ underlying234 hj]
 go_wp2
 go_end0;exact⟨rfl,rfl⟩
def qeA (b:Nat) (w:World) (h0:w.cell? ⟨b,0,none⟩=some (.pointer none)) (hsh:w.shape? b=some (236,2)) (hfz:w.frozen? ⟨b,0,none⟩=false) :
  Calls prog 193 #[.pointer (some ⟨b,0,none⟩)] w fun e w'=>e=.returned (.tuple #[])/\w'=w.setCell ⟨b,0,none⟩ (.pointer (some ⟨b,0,none⟩)):=by
 obtain⟨j,hj,hjs⟩:=Option.map_eq_some_iff.1 bldInfo;go_enter func193,ntmps193
 go_wp2
 rw[Lib.run_to_unsafe w ⟨b,0,none⟩ underlying234 underlying273 hj (by rw[hjs];decide) hsh (Nat.zero_lt_succ 1)];simp only[Result.andThen];rw[Oper.upon_value]
 go_wp2
 rw[run_callFunc_extern func210 zv zv zv (e:=Extern.AbiNoEscape.same) zv];rw[Lib.run_noEscape];simp only[Result.andThen];rw[Oper.upon_value]
 go_wp2
 rw[Lib.run_from_unsafe w ⟨b,0,none⟩ underlying273 underlying234 hj hsh bldLies];simp only[Result.andThen];rw[Oper.upon_value]
 go_wp2
 go_end0;exact⟨rfl,rfl⟩
def qdt (B b:Nat) (bs:List Value) (w:World) (h:Bld B b bs w) :
  Calls prog 193 #[.pointer (some ⟨b,0,none⟩)] w fun e w'=>e=.returned (.tuple #[])/\(BldU B b bs w'/\Below B w w'):=by
 rcases h with h | h
 . refine (qeA b w h.cell0 h.shape h.frozen0).mono ?_;rintro e w' ⟨rfl,rfl⟩;exact⟨rfl,h.used _,(Below.refl B w).setCell (p:=⟨b,0,none⟩) h.1 _⟩
 . refine (qfD b w h.cell0).mono ?_;rintro e w' ⟨rfl,rfl⟩;exact⟨rfl,h,Below.refl B _⟩
def qaw (B b:Nat) (bs:List Value) (c:Int) (w:World) (h:Bld B b bs w) (hlen:bs.length+1<=140737488355328) (hBw:B<=w.heap.size) :
  Calls prog 159 #[.pointer (some ⟨b,0,none⟩),.int .u8 c] w fun e w'=>e=.returned .nilIface/\(Bld B b (bs++[.int .u8 c]) w'/\Below B w w'):=by
 obtain⟨i0,hi,hz0,hz1,hz2⟩:=info_parts u8info;go_enter func159,ntmps159
 go_wp2_with (go_at_call 193;refine (qdt B b bs _ h).mono ?_)
 rintro e w1 ⟨rfl,h1,hb1⟩;obtain⟨hB,v,hbk,hown,hne⟩:=h1;have c0:w1.cell? ⟨b,0,none⟩=some (.pointer (some ⟨b,0,none⟩)):=by rw[Lib.cell_of_heap hbk];rfl
 have c1:w1.cell? ⟨b,1,none⟩=some v:=by rw[Lib.cell_of_heap hbk];rfl
 go_wp2_with (at_builtin;refine wpList_append_own _ rfl _ _ 53 rfl B 5 i0 (.int .u8 0) 1 1 underlying53 hi hz0 hz1 hz2 rfl zw _ _ _ rfl (hown.alloc _) ⟨w1.heap.size,0,none⟩ 1 1 [.int .u8 c] rfl rfl ?c1 ?c2 ?c3 ?c4 ?c5 ?_)
 case c1 =>
  intro j u hj
  match j,hj with
  | 0,hj=>simp at hj;subst hj;simp[Addr.add]
 case c2=>intro u hu;simp at hu;subst hu;rfl
 case c3=>unfold maxLen;omega
 case c4=>omega
 case c5=>have:=hb1.size;simp;omega
 intro v' w2 hown' hgrow _
 have hlt:b<w1.heap.size:=by
  rcases Nat.lt_or_ge b w1.heap.size with h' | h'
  . exact h'
  . simp[Array.getElem?_eq_none h'] at hbk
 have hb2:w2.heap[b]?=some (.cells #[.pointer (some ⟨b,0,none⟩),v] 236 (0,0)):=by
  rw[hgrow.block b zg (fun e=>hne e.symm),Lib.alloc_old w1 _ b hlt];exact hbk
 have d0:w2.cell? ⟨b,0,none⟩=some (.pointer (some ⟨b,0,none⟩)):=by rw[Lib.cell_of_heap hb2];rfl
 have d1:w2.cell? ⟨b,1,none⟩=some v:=by rw[Lib.cell_of_heap hb2];rfl
 have f1:w2.frozen? ⟨b,1,none⟩=false:=Lib.frozen_of_heap hb2 1
 obtain⟨g,cap,rfl⟩:∃ g cap,v'=.slice (some ⟨g,0,none⟩) (bs.length+1) cap:=by
  rcases hown'.2 with ⟨_,h0⟩ | ⟨g,cap,cur,hv,_⟩
  . omega
  . exact⟨g,cap,hv⟩
 go_wp2
 go_ret;refine ⟨rfl,Or.inr ?_,?_⟩
 . exact Lib.BuilderAt.put (T:=236) (e:=5) hB hb2 (bs':=bs++[.int .u8 c]) (by simpa using hown') zw
 . exact((hb1.alloc (by have:=hb1.size;omega) _).grown hgrow (by have:=hb1.size;simp;omega) (fun k hk=>(hown.lt k hk).1)).setCell (p:=⟨b,1,none⟩) hB _
def qfd (B b:Nat) (bs:List Value) (s:ByteArray) (w:World) (h:Bld B b bs w) (hlen:bs.length+s.size<=140737488355328) (hBw:B<=w.heap.size) :
  Calls prog 235 #[.pointer (some ⟨b,0,none⟩),.string s] w fun e w'=>e=.returned (.tuple #[.int .i64 s.size,.nilIface])/\(Bld B b (bs++Lib.strCells s) w'/\Below B w w'):=by
 obtain⟨i0,hi,hz0,hz1,hz2⟩:=info_parts u8info;go_enter func235,ntmps235
 go_wp2_with (go_at_call 193;refine (qdt B b bs _ h).mono ?_)
 rintro e w1 ⟨rfl,h1,hb1⟩;obtain⟨hB,v,hbk,hown,hne⟩:=h1;have c0:w1.cell? ⟨b,0,none⟩=some (.pointer (some ⟨b,0,none⟩)):=by rw[Lib.cell_of_heap hbk];rfl
 have c1:w1.cell? ⟨b,1,none⟩=some v:=by rw[Lib.cell_of_heap hbk];rfl
 go_wp2_with (at_builtin;refine Lib.wpList_append_own_string _ rfl _ _ 53 9 rfl B 5 i0 underlying53 underlying9 hi hz0 hz1 hz2 _ _ _ rfl hown s rfl ?c3 ?c4 ?c5 ?_)
 case c3=>unfold maxLen;omega
 case c4=>omega
 case c5=>have:=hb1.size;omega
 intro v' w2 hown' hgrow _
 have hlt:b<w1.heap.size:=by
  rcases Nat.lt_or_ge b w1.heap.size with h' | h'
  . exact h'
  . simp[Array.getElem?_eq_none h'] at hbk
 have hb2:w2.heap[b]?=some (.cells #[.pointer (some ⟨b,0,none⟩),v] 236 (0,0)):=by
  rw[hgrow.block b hlt (fun e=>hne e.symm)];exact hbk
 have d0:w2.cell? ⟨b,0,none⟩=some (.pointer (some ⟨b,0,none⟩)):=by rw[Lib.cell_of_heap hb2];rfl
 have d1:w2.cell? ⟨b,1,none⟩=some v:=by rw[Lib.cell_of_heap hb2];rfl
 have f1:w2.frozen? ⟨b,1,none⟩=false:=Lib.frozen_of_heap hb2 1
 obtain⟨ao,n',cap,rfl⟩:∃ ao n' cap,v'=.slice ao n' cap:=by
  rcases hown'.2 with ⟨hv,_⟩ | ⟨g,cap,cur,hv,_⟩
  . exact⟨_,_,_,hv⟩
  . exact⟨_,_,_,hv⟩
 go_wp2
 go_ret2;have hl:(Lib.strCells s).length=s.size:=by simp[Lib.strCells]
 refine ⟨rfl,Or.inr ?_,?_⟩
 . refine Lib.BuilderAt.put (T:=236) (e:=5) hB hb2 (bs':=bs++Lib.strCells s) ?_ zw;rw[List.length_append,hl];exact hown'
 . exact((hb1.grown hgrow (by have:=hb1.size;omega) (fun k hk=>(hown.lt k hk).1)).setCell (p:=⟨b,1,none⟩) hB _)
def wordL:List ByteArray:=[⟨#[97,98,111,114,116]⟩,⟨#[97,110,100]⟩,⟨#[100,101,108,101,116,101]⟩,⟨#[101,108,115,101]⟩,⟨#[102,97,108,115,101]⟩,⟨#[102,111,114]⟩,⟨#[103,101,116]⟩,⟨#[104,97,115]⟩,⟨#[105,102]⟩,⟨#[105,110]⟩,⟨#[108,101,110]⟩,⟨#[108,101,116]⟩,⟨#[110,105,108]⟩,⟨#[110,111,116]⟩,⟨#[111,114]⟩,⟨#[112,117,116]⟩,⟨#[114,101,112,101,97,116]⟩,⟨#[114,101,116,117,114,110]⟩,⟨#[115,99,97,110]⟩,⟨#[115,101,116]⟩,⟨#[115,104,111,119]⟩]
def wordV:Value:=.agg (wordL.map Value.string).toArray
def wordB (s:ByteArray):Bool:=wordL.any (fun x=>s.toList==x.toList)||s.toList==((⟨#[116,114,117,101]⟩:ByteArray)).toList
def Ext.setRow {a w:World} (h:Ext a w) {g:Nat} (hg:a.heap.size<=g) (cs:Array Value):Ext a (w.setRow g cs):=by
 have hb:=h.below;refine Ext.of_below ⟨hb.os,hb.tape,hb.output,?_,fun k hk=>?_⟩
 . have:=hb.size;simp;omega
 . rw[setRow_other w g k _ Y];exact hb.block k hk
def words_any (w:World):Calls prog 192 #[] w fun e w'=>e=.returned wordV/\Ext w w':=by
 go_enter func192,ntmps192
 go_wp2_with (first
  | (refine wpList_build rfl _ _ rfl zv ?_;generalize hA:(Program.built _ _ _).getD #[]=A;have hA2:A=(wordL.map Value.string).toArray:=(by rw[<-hA];kernel_rfl);clear hA;have HA:=J hA2;clear hA2)
  | (refine wpList_store_row rfl _ _ _ rfl w.heap.size _ rfl rfl 256 _ (heap_alloc_new _ _) ?h1 ?h2 ?h3 ?_))
 case h1=>rw[HA.out];kernel_rfl
 case h2=>rw[HA.out];rfl
 case h3=>rw[HA.out];simp[wordL,Value.oneCell']
 have hs:A.size=21:=by rw[HA.out];rfl
 have hld:=fun Z:Array Value=>run_loadVar_row (P:=prog) _ w.heap.size 256 256 A (0,0) _ (setRow_heap _ _ _ A _ _ (heap_alloc_new w (.cells Z 256))) underlying256 rfl (by rw[hs];kernel_rfl)
 have hV:wordV=.agg A:=by rw[HA.out];rfl
 rw[hV];refine bodyPost_ret (v:=.agg A) ?_ rfl ⟨rfl,(Ext.setRow ((Ext.refl _).alloc _) (Nat.le_refl _) _)⟩;unfold results;rw[results192];simp[asAddr,Act.put,hld]
def word_index (k:Nat) (hk:k<21) (w:World):(Instr.index 256 wordV (.int .i64 (k:Int))).run prog w=.ok (.string (wordL.getD k ⟨#[]⟩)) w:=by
 have h:k=0\/k=1\/k=2\/k=3\/k=4\/k=5\/k=6\/k=7\/k=8\/k=9\/k=10\/k=11\/k=12\/k=13\/k=14\/k=15\/k=16\/k=17\/k=18\/k=19\/k=20:=Y;rcases h with rfl | rfl | rfl | rfl | rfl | rfl | rfl | rfl | rfl | rfl | rfl | rfl | rfl | rfl | rfl | rfl | rfl | rfl | rfl | rfl | rfl
 all_goals
  clear hk;show(Instr.index _ _ _).run _ _=_
  kernel_rfl
def any_snoc (s:ByteArray) (k:Nat) (hk:k<21):(wordL.take (k+1)).any (fun x=>s.toList==x.toList)=((wordL.take k).any (fun x=>s.toList==x.toList)||s.toList==(wordL.getD k ⟨#[]⟩).toList):=by
 have hl:k<wordL.length:=hk
 have h:wordL.take (k+1)=wordL.take k++[wordL.getD k ⟨#[]⟩]:=by
  rw[List.take_succ_eq_append_getElem hl]
  congr 2
  simp[List.getD,List.getElem?_eq_getElem hl]
 rw[h,List.any_append];simp
def any_done (s:ByteArray) (k:Nat) (hk:k<21) (h:s.toList==(wordL.getD k ⟨#[]⟩).toList):wordB s=true:=by
 have hl:k<wordL.length:=hk;have:wordL.any (fun x=>s.toList==x.toList)=true:=List.any_eq_true.2 ⟨wordL.getD k ⟨#[]⟩,by simp[List.getD,List.getElem?_eq_getElem hl],h⟩;simp[wordB,this]
def any_none (s:ByteArray) (h:(wordL.take 21).any (fun x=>s.toList==x.toList)=false):wordB s=(s.toList==(⟨#[116,114,117,101]⟩:ByteArray).toList):=by
 have e:wordL.take 21=wordL:=rfl;rw[e] at h;simp only[wordB,h,Bool.false_or]
def word_any (s:ByteArray) (w:World):Calls prog 156 #[.string s] w fun e w'=>e=.returned (.bool (wordB s))/\Ext w w':=by
 obtain⟨V,hV⟩:∃ V,wordV=V:=⟨_,rfl⟩
 have HW:=J words_any;have HI:=J word_index;rw[hV] at HW HI;clear hV;go_enter func156,ntmps156
 go_wp2_with (go_at_call 192;refine (HW.out _).mono ?_;rintro e _ ⟨rfl,d,os,rfl⟩)
 go_loop [6] (fun ii=>∃ k:Nat,ii=.int .i64 k/\k<=21/\(wordL.take k).any (fun x=>s.toList==x.toList)=false) (fun ii=>21-(intOf ii).toNat)
 case atStart=>exact⟨0,rfl,Y,rfl⟩
 case round =>
  obtain⟨k,rfl,hk,hn⟩:=hrel;have HN:=J hn;clear hn;by_cases hlt:k<21
  . have hi:=HI.out k hlt;have hd:=J (any_done s k hlt);have hs:=J (any_snoc s k hlt);generalize wordL.getD k ⟨#[]⟩=x at hi hd hs;clear HI;cases hq:s.toList==x.toList
    . go_wp2
      go_round
      case rel =>
       refine ⟨k+1,by go_num,Y,?_⟩;rw[hs.out,HN.out,hq];rfl
      case measure=>simp[intOf];omega
    . have hd':=J (hd.out hq)
      go_wp2
      go_ret;exact⟨ret_bool hd'.out.symm,zf⟩
  . have hk21:k=21:=Y;subst hk21;have hd':=J (any_none s HN.out);clear HI
    go_wp2
    go_ret;exact⟨ret_bool (by rw[hd'.out];first | rfl | (simp[Lib.toList_data];done)),zf⟩
section
variable {P:Program} {ops:Array Oper}
def NewSl (w0:World) (o:Obj) (n c:Nat):Fact:=fun v W=>∃ g,v=.slice (some ⟨g,0,none⟩) n c/\w0.heap.size<=g/\W.heap[g]?=some o
def NewSl.upc (w0:World) (o:Obj) (n c:Nat):Upc (NewSl w0 o n c):=by
 rintro v W W' ⟨d,os,rfl⟩ ⟨g,hv,hg,hh⟩
 have hlt:g<W.heap.size:=by
  rcases Nat.lt_or_ge g W.heap.size with h | h
  . exact h
  . rw[Array.getElem?_eq_none h] at hh;cases hh
 exact⟨g,hv,hg,by rw[more_heap _ _ _ _ hlt];exact hh⟩
def NewSl.of_alloc (w0:World) (d:Nat) (os:Array Obj) (o:Obj) (n c m:Nat) (hm:m=(more w0 d os).heap.size):NewSl w0 o n c (.slice (some ⟨m,0,none⟩) n c) ((more w0 d os).alloc o):=by
 subst hm;exact⟨_,rfl,by simp[more_size],heap_alloc_new _ _⟩
def Lex.sliceLit {w0:World} {fin:Act->List (Tmp × Fact)->Prop} {o:Oper} {fl:List Bool} {rest:List Oper} {a:Act} {H:List (Tmp × Fact)} (t:Tmp) (ob:Obj) (n c:Nat) (ht:o.dst=some t) (hl:looks ops o H=[])
  (h:∀ d os,StepG P ops o a (more w0 d os) (NewSl w0 ob n c)) (k:Lex P ops w0 fin fl rest a ((t,NewSl w0 ob n c)::H)):Lex P ops w0 fin (false::fl) (o::rest) a H :=
 Lex.gap t _ ht (NewSl.upc w0 ob n c) hl h k
def NewSl.split {w0:World} {o:Obj} {n c:Nat} {v:Value} {W:World} (h:NewSl w0 o n c v W) (hx:Ext w0 W) :
  ∃ d1 os1 d2 os2,W=more ((more w0 d1 os1).alloc o) d2 os2/\v=.slice (some ⟨w0.heap.size+os1.size,0,none⟩) n c:=by
 obtain⟨g,rfl,hg,hh⟩:=h;obtain⟨d1,os1,d2,os2,hw,hv⟩:=NewBlk.split (w0:=w0) (o:=o) (v:=.pointer (some ⟨g,0,none⟩)) ⟨g,rfl,hg,hh⟩ hx;simp only[Value.pointer.injEq,Option.some.injEq,Addr.mk.injEq,and_true] at hv;exact⟨d1,os1,d2,os2,hw,by rw[hv]⟩
end
def ret_boolY {a b:Bool} (h:a=b):Ending.returned (.bool a)=.returned (.bool b):=by rw[h]
def ret_intY {k:IntKind} {a b:Int} (h:a=b):Ending.returned (.int k a)=.returned (.int k b):=by rw[h]
def empty_size (s:ByteArray):s.toList.isEmpty=(s.size==0):=by
 rw[Lib.toList_data,Bool.eq_iff_iff];simp[<-ByteArray.size_data,Array.size_eq_zero_iff]
def nil_size (s:ByteArray):(s.toList=[])=(s.size=0):=by
 rw[Lib.toList_data];simp[<-ByteArray.size_data,Array.size_eq_zero_iff]
def mayBY (k i:Int) (s:ByteArray):Bool :=
 (k==0&&i==0&&s.size==0)||(k==1&&(i==0||i==1)&&s.size==0)||(k==2&&s.size==0)||(k==3&&i==0&&decide (s.size<=64))
def qcL (k i:Int) (s:ByteArray) (w:World) :
  Calls prog 86 #[.agg #[.int .i64 k,.int .i64 i,.string s]] w fun e w'=>e=.returned (.bool (mayBY k i s))/\Ext w w':=by
 go_enter func86,ntmps86
 go_wp2
 all_goals
  go_ret;refine ⟨ret_boolY ?_,(Ext.refl _).alloc _⟩
  go_tidy
  simp_all[mayBY,empty_size,nil_size]
 all_goals omega
def signB (c:UInt8):Bool:=decide (97<=c.toNat/\c.toNat<=122)||decide (48<=c.toNat/\c.toNat<=57)||c==45||c==46||c==47||c==95
def patB (s:ByteArray):Bool:=decide (s.size<=24)&&s.data.toList.all signB
structure It where
 k:ByteArray
 vk:Int
 vi:Int
 vs:ByteArray
 ver:Int
def itL (x:It):List Value:=[.string x.k,.int .i64 x.vk,.int .i64 x.vi,.string x.vs,.int .i64 x.ver]
def qaE:List It->List Value
 | []=>[]
 | x::l=>itL x++qaE l
def ltB (a b:ByteArray):Bool:=Op.bytesLess a.data.toList b.data.toList
def bl_total:∀ a b:List UInt8,Op.bytesLess a b=false->Op.bytesLess b a=false->a=b
 | [],[],_,_=>rfl
 | [],_::_,h,_=>by simp[Op.bytesLess] at h
 | _::_,[],_,h=>by simp[Op.bytesLess] at h
 | x::a,y::b,h,k=>by
  unfold Op.bytesLess at h k;simp only[Bool.or_eq_false_iff,Bool.and_eq_false_iff,decide_eq_false_iff_not,UInt8.not_lt] at h k;have e:x=y:=UInt8.le_antisymm k.1 h.1;subst e;have h2:Op.bytesLess a b=false:=by rcases h.2 with q | q;simp at q;exact q
  have k2:Op.bytesLess b a=false:=by rcases k.2 with q | q;simp at q;exact q
  rw[bl_total a b h2 k2]
def bl_asym:∀ a b:List UInt8,Op.bytesLess a b=true->Op.bytesLess b a=false
 | [],[],h=>by simp[Op.bytesLess] at h
 | [],_::_,_=>by simp[Op.bytesLess]
 | _::_,[],h=>by simp[Op.bytesLess] at h
 | x::a,y::b,h=>by
  unfold Op.bytesLess at h ⊢;simp only[Bool.or_eq_true,Bool.and_eq_true,decide_eq_true_eq,beq_iff_eq] at h;rcases h with h | ⟨rfl,h⟩
  . have h1:(decide (y<x))=false:=(by simp;exact UInt8.le_of_lt h)
    have h2:(y==x)=false:=(by rw[beq_eq_false_iff_ne];intro e;subst e;exact UInt8.lt_irrefl _ h)
    simp[h1,h2]
  . have h1:(decide (x<x))=false:=(by simp[UInt8.lt_irrefl])
    simp[h1,bl_asym a b h]
def bl_le (a b:List UInt8):(Op.bytesLess a b||a==b)=!Op.bytesLess b a:=by
 cases h:Op.bytesLess a b with
 | true=>rw[bl_asym a b h];rfl
 | false =>
  cases k:Op.bytesLess b a with
  | true =>
   have e:(a==b)=false:=by rw[beq_eq_false_iff_ne];intro e;subst e;rw[h] at k;cases k
   rw[e];rfl
  | false=>rw[bl_total a b h k];simp
end Go.Proofs.YtpnabjopfpdkhaaGreatDoor
