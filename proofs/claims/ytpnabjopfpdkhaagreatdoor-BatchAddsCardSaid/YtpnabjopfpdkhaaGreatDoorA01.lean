/- Lemmas. -/
import Derived.WalkKit
import Derived.ProofKit
import Derived.OpenShut
import Derived.ShutString
import Derived.ChangeOld
import Derived.Below
import Derived.WalkLawsBesides
import Derived.WalkSpells
import Derived.Lib.Hide
import Derived.Maps.AppendAt
import Derived.Deep.AppendLies
import Derived.Deep.AppendSrc
import Derived.Deep.Onto
import Derived.Carry
import Derived.SizedLaws
import Derived.ChangeSlices
import Derived.Lib.SmallJoins
import Derived.Test.YtpnabjopfpdkhaaGreatDoorChecked
import Derived.Lib.Strings
import Derived.LoopTactic
import Derived.Laws.BitsAllLaws
set_option linter.unusedSimpArgs false
set_option linter.unusedVariables false
set_option maxHeartbeats 400000
namespace Go.Proofs.YtpnabjopfpdkhaaGreatDoor
open Go.RowKit
structure Bx (P:Prop):Prop where
  out:P
theorem yaa {T P:Prop} (kK:P) (h:P→T:=by intro kK;refine Lex.nil fun WW hE=>?_;obtain⟨dd,oo,rfl⟩:=hE;unfold FillH;revert dd oo;exact kK):T:=h kK
theorem yab {T P:Prop} (kK:P) (h:P→T:=by intro kK;(try simp only[Act.put,List.getElem_toArray,List.getElem_cons_succ,List.getElem_cons_zero,List.setIfInBounds_toArray,List.set_cons_zero,List.set_cons_succ]);exact kK):T:=h kK
theorem yac {T P:Prop} (kK:P) (h:P→T:=by intro kK;simp only[List.take_succ_cons,List.take_zero,List.drop_succ_cons,List.drop_zero];exact kK):T:=h kK
theorem yad {T P:Prop} (kK:P) (h:P→T:=by intro kK;have FL:RowKit.Hid (∀ (c:Int) w1,Ext w w1→Calls Tryz.prog 119 #[.pointer (some ⟨b,0,none⟩),.int .i64 c] w1 fun e w'=>e=.returned (.tuple #[])∧Ext w1 w'):=Lib.hid fun c w1 hx=>qbk hee (h.ext hx) c;revert FL;exact kK):T:=h kK
theorem yae {T P:Prop} (kK:P) (h:P→T:=by intro kK;(first | go_end0 | refine bodyPost_ret (results_none rfl _ _ _) rfl ?_);exact kK):T:=h kK
theorem yaf {T:Prop} (h:T:=by exact bodyPost_ret (v:=.tuple #[.agg #[.int .i64 0,.int .i64 0,.int .i64 0,.string ⟨#[]⟩,.int .i64 0],.int .i64 1]) (rcell_slot rfl _ _ ⟨w.heap.size,0,none⟩ _ rfl (qbd (cs:=#[.int .i64 0,.int .i64 0,.int .i64 0,.string ⟨#[]⟩,.int .i64 0]) ((KB.new w _ _).of_ext zaa) rfl) _ rfl) rfl ⟨rfl,zaa⟩):T:=h
theorem yag {T P:Prop} (kK:P) (h:P→T:=by intro kK;have FL:RowKit.Hid (∀ (c:Int) w1,Ext w w1→Calls Tryz.prog 133 #[.pointer (some ⟨b,0,none⟩),.int .i64 c] w1 fun e w'=>e=noV c (tk L m).2∧Ext w1 w'):=Lib.hid fun c w1 hx=>qca (h.ext hx) c;revert FL;exact kK):T:=h kK
theorem yah {T P:Prop} (kK:P) (h:P→T:=by intro kK;have TK:RowKit.Hid (∀ w1,Ext w w1→Calls Tryz.prog 132 #[.pointer (some ⟨b,0,none⟩)] w1 fun e w'=>e=.returned (tokV (tk L m).1 (tk L m).2)∧Ext w1 w'):=Lib.hid fun w1 hx=>qbs (h.ext hx);revert TK;exact kK):T:=h kK
theorem yai {T:Prop} (h:T:=by exact bodyPost_ret (v:=.tuple #[.agg #[.int .i64 0,.int .i64 0,.int .i64 0,.string ⟨#[]⟩,.int .i64 0],.int .i64 6]) (rcell_slot rfl _ _ ⟨w.heap.size,0,none⟩ _ rfl (qbd (cs:=#[.int .i64 0,.int .i64 0,.int .i64 0,.string ⟨#[]⟩,.int .i64 0]) ((KB.new w _ _).of_ext zaa) rfl) _ rfl) rfl ⟨rfl,zaa⟩):T:=h
theorem yaj {T:Prop} (h:T:=by exact⟨(Ext.refl _).alloc _,NewBlk.of_alloc _ _ _ _ _ zbf⟩):T:=h
theorem yak {T P:Prop} (kK:Bx P) (h:Bx P→T:=by intro kK;refine bodyPost_ret (v:=.tuple #[.agg #[.int .i64 0,.int .i64 0,.string ⟨#[]⟩,.int .i64 0],.int .i64 e]) zaz rfl ?_;exact kK.out):T:=h kK
theorem yal {T P:Prop} (kK:P) (h:P→T:=by intro kK;have H0:=Lib.hid (h.locNew (.cells #[.int .i64 zk,.int .i64 za,.int .i64 zb,.int .i64 zc,.int .i64 zx,.int .i64 zi,.string zs,.string zt] 166 (0,0)));revert H0;exact kK):T:=h kK
theorem yam {T P:Prop} (kK:Bx P) (h:Bx P→T:=by intro kK;refine leaves_cons (f:=110) (args:=#[.pointer (some ⟨w.heap.size,0,none⟩),.pointer (some ⟨w.heap.size+1,0,none⟩),.pointer (some ⟨w.heap.size+1+1,0,none⟩)]) zaj (by simp[go_sem]) ?_;exact kK.out):T:=h kK
theorem yan {T:Prop} (h:T:=by exact⟨rfl,(show CkSt W c H (.slice (some ⟨G,0,none⟩) n cap) ns fi n g _ from by repeat(first | (with_reducible exact HS0.out) | (with_reducible apply CkSt.alloc) | (with_reducible apply CkSt.more)))⟩):T:=h
theorem yao {T P:Prop} (kK:P) (h:P→T:=by intro kK;have EBB:=Lib.hid (fun W (hx:Ext w W)=>hbb ▸ qaS fi (own_ext HR.out hx) zb j (Int.le_of_lt hj1));revert EBB;exact kK):T:=h kK
theorem yap {T P:Prop} (kK:P) (h:P→T:=by intro kK;have EA:=Lib.hid (fun W (hx:Ext w W)=>hab ▸ qbq fi (own_ext HR.out hx) za j (Int.le_of_lt hj1));revert EA;exact kK):T:=h kK
theorem yaq {T P:Prop} (kK:P) (h:P→T:=by intro kK;have EB:=Lib.hid (fun W (hx:Ext w W)=>heb ▸ qbq fi (own_ext HR.out hx) zb j (Int.le_of_lt hj1));revert EB;exact kK):T:=h kK
theorem yar {T P:Prop} (kK:P) (h:P→T:=by intro kK;have EC:=Lib.hid (fun W (hx:Ext w W)=>hcb ▸ qaS fi (own_ext HR.out hx) zc j (Int.le_of_lt hj1));revert EC;exact kK):T:=h kK
theorem yas {T P:Prop} (kK:P) (h:P→T:=by intro kK;simp only[List.replicate,List.take_succ_cons,List.take_zero,List.drop_succ_cons,List.drop_zero];exact kK):T:=h kK
theorem yat {T P:Prop} (kK:Bx P) (h:Bx P→T:=by intro kK;refine bodyPost_ret (v:=.tuple #[.agg #[.int .i64 r.k,.int .i64 ((k:Int)+n),.string r.s,.int .i64 r.i],.int .i64 e,.bool true]) zbl rfl ?_;exact kK.out):T:=h kK
theorem yau {T P:Prop} (kK:P) (h:P→T:=by intro kK;have HS:RowKit.Hid (m+1<L.length→Hid (PS b lb lo cap L m N nv w [] (.ok ((),m+1,[])) (w.setCell ⟨b,1,none⟩ (.int .i64 ((m:Int)+1))))):=Lib.hid fun hx=>PS.step h (Ext.refl w) hx;revert HS;exact kK):T:=h kK
theorem yav {T P:Prop} (kK:Bx P) (h:Bx P→T:=by intro kK;(have NN:=Lib.hid (fun h=>qdG (zt:=zt) h (show nameOk ⟨#[]⟩=false by kernel_rfl)));revert NN;exact kK.out):T:=h kK
theorem yaw {T P:Prop} (kK:Bx P) (h:Bx P→T:=by intro kK;refine qaa 21 50 (List.replicate 21 false) zaf zaf rfl ?_;exact kK.out):T:=h kK
theorem yax {T:Prop} (h:T:=by exact RPost.err HC.out ⟨_,rfl⟩ zay (by repeat(first | (with_reducible exact HKE.out) | (with_reducible apply Kp.alloc) | (with_reducible apply Kp.more)))):T:=h
theorem yay {T P:Prop} (kK:Bx P) (h:Bx P→T:=by intro kK;refine qaa 11 36 (List.replicate 11 false) zaf zaf rfl ?_;exact kK.out):T:=h kK
theorem yaz {T:Prop} (h:T:=by exact⟨by(rw[HQ.out];rfl),HX.out⟩):T:=h
theorem yba {T P:Prop} (kK:P) (h:P→T:=by intro kK;have NC:=Lib.hid (fun za zb zc zx zi W=>qbx 11 za zb zc zx zi zs zt W);revert NC;exact kK):T:=h kK
theorem ybb {T:Prop} (h:T:=by exact⟨⟨⟨#[]⟩,0,by simp[HE.out],fun h0=>by have:=HE.out;omega⟩,rfl⟩):T:=h
theorem ybc {T P:Prop} (kK:Bx P) (h:Bx P→T:=by intro kK;refine qaa 11 27 (List.replicate 11 false) zaf zaf rfl ?_;exact kK.out):T:=h kK
theorem ybd {T P:Prop} (kK:Bx P) (h:Bx P→T:=by intro kK;refine qaa 9 50 (List.replicate 9 false) zaf zaf rfl ?_;exact kK.out):T:=h kK
theorem ybe {T:Prop} (h:T:=by exact PPost.res rfl HS1.out (((Kp.refl b nv w).alloc _).trans HK1.out) HM1.out):T:=h
theorem ybf {T:Prop} (h:T:=by exact⟨rfl,PPost.err rfl (((Kp.refl b nv w).alloc _).trans HK1.out)⟩):T:=h
theorem ybg {T:Prop} (h:T:=by exact⟨ret_int (by rw[HE.out];rfl),Ext.refl _⟩):T:=h
theorem zaa {T:Prop} (h:T:=by repeat(first | (with_reducible exact Ext.refl _) | (with_reducible apply Ext.alloc) | (with_reducible apply Ext.more) | (with_reducible apply Ext.drew))):T:=h
theorem zab {T:Prop} (h:T:=by repeat(first | exact Ext.refl _ | apply Ext.alloc | apply Ext.more)):T:=h
theorem zac {T:Prop} (h:T:=by omega):T:=h
theorem zad {T:Prop} (h:T:=by repeat(first | (with_reducible exact Ext.refl _) | (with_reducible apply Ext.alloc) | (with_reducible apply Ext.drew))):T:=h
theorem zae {T:Prop} (h:T:=by repeat(first | exact Ext.refl _ | apply Ext.alloc | apply Ext.more | (refine Ext.setCell ?_ (by simp) _))):T:=h
theorem zaf {T:Prop} (h:T:=by kernel_rfl):T:=h
theorem zag {T:Prop} (h:T:=by repeat(first | (with_reducible exact HLL.out) | (with_reducible apply LexAt.more) | (with_reducible apply LexAt.alloc) | ((with_reducible refine LexAt.other ?_ ?_ _);rotate_left;(show w.heap.size≠b;omega)) | ((with_reducible refine LexAt.set HLL.out _ _ ?_);omega))):T:=h
theorem zah {T:Prop} (h:T:=by repeat(first | (with_reducible exact HG.out) | (with_reducible refine qax ?_ (Ext.more (Ext.refl _) _ _)) | ((with_reducible refine grown_new ?_ ?_ _);rotate_left;exact Nat.le_refl w.heap.size) | (with_reducible refine qbB ?_ _ _))):T:=h
theorem zai {T:Prop} (h:T:=by first | with_reducible rfl | (simp only[more_size,World.size_setCell,World.size_alloc,Array.size_append]<;>omega)):T:=h
theorem zaj {T:Prop} (h:T:=by simp):T:=h
theorem zak {T:Prop} (h:T:=by decide):T:=h
theorem zal {T:Prop} (h:T:=by have h1:=HA.out;have h2:=HB.out;have h3:=HBB.out;have h4:=HC.out;have h6:=NN.out;have h7:=HQ.out;(try have h5:=HX.out);rw[←HR0.out];simp_all[nodeB,qdP,aB,bB,cB,xB,qch,numOk,txt1,txt2,shA,shB,shBB,shBC,shS,shT]<;>(intros;omega)):T:=h
theorem zam {T:Prop} (h:T:=by simp;omega):T:=h
theorem zan {T:Prop} (h:T:=by repeat(first | (with_reducible exact HB.out) | (with_reducible apply bld_more) | ((with_reducible refine bld_set ?_ ?_ _);rotate_left;omega))):T:=h
theorem zao {T:Prop} (h:T:=by first | exact S | exact US.s6 S | exact US.s1 S | exact US.s2 S | exact US.s3 S | exact US.s5 S | exact US.s7 S | exact US.al S | exact S.al.s5):T:=h
theorem zap {T:Prop} (h:T:=by have:=HN.out;omega):T:=h
theorem zaq {T:Prop} (h:T:=by first | rfl | (simp;done) | (simp;omega)):T:=h
theorem zar {T:Prop} (h:T:=by repeat(first | (with_reducible exact hxw) | (with_reducible exact Ext.refl _) | (with_reducible apply Ext.alloc) | (with_reducible apply Ext.drew))):T:=h
theorem zas {T:Prop} (h:T:=by repeat(first | (with_reducible exact HT.out) | (with_reducible apply TokBlk.more) | ((with_reducible refine TokBlk.set ?_ ?_ _);rotate_left;(show b≠w.heap.size;omega)))):T:=h
theorem zat {T:Prop} (h:T:=by intro q hq;repeat(first | exact hq | apply List.mem_cons_of_mem)):T:=h
theorem zau {T:Prop} (h:T:=by have:=HBD.out;have h2:=HG2.out;(try simp only[List.length_append,List.length_cons,List.length_nil] at this ⊢);omega):T:=h
theorem zav {T:Prop} (h:T:=by repeat(first | (with_reducible exact Ext.refl _) | (with_reducible apply Ext.alloc))):T:=h
theorem zaw {T:Prop} (h:T:=by repeat(first | (with_reducible exact HS4.out) | (with_reducible apply Rt.alloc) | (with_reducible apply Rt.more))):T:=h
theorem zax {T:Prop} (h:T:=by repeat(first | (with_reducible exact HK4.out) | (with_reducible apply Kp.alloc) | (with_reducible apply Kp.more))):T:=h
theorem zay {T:Prop} (h:T:=by repeat(first | (with_reducible exact HSE.out) | (with_reducible apply Rt.alloc) | (with_reducible apply Rt.more))):T:=h
theorem zaz {T:Prop} (h:T:=by simp[results,Tryz.results129,he,t0,t1,t2,t3,tf,hne,hne2,ht,hb,go_sem]):T:=h
theorem zba {T:Prop} (h:T:=by simp[results,Tryz.results117,go_sem]):T:=h
theorem zbb {T:Prop} (h:T:=by simp only[cellsB_length,List.length_append,List.length_cons,List.length_nil];have:=HAL.out;omega):T:=h
theorem zbc {T:Prop} (h:T:=by repeat(first | exact HL.out | apply LexAt.alloc | apply LexAt.more | (refine LexAt.set ?_ _ _ (by first | rfl | omega)))):T:=h
theorem zbd {T:Prop} (h:T:=by repeat(first | (with_reducible exact HXr.out) | (with_reducible apply Ext.alloc) | (with_reducible apply Ext.more) | (with_reducible apply Ext.drew))):T:=h
theorem zbe {T:Prop} (h:T:=by repeat(first | (with_reducible exact HL.out) | (with_reducible apply LexAt.alloc) | (with_reducible apply LexAt.more))):T:=h
theorem zbf {T:Prop} (h:T:=by simp[more_size]):T:=h
theorem zbg {T:Prop} (h:T:=by repeat(first | (with_reducible apply LexAt.more) | (with_reducible apply LexAt.alloc) | ((with_reducible refine LexAt.set HL.out _ _ ?_);omega))):T:=h
theorem zbh {T:Prop} (h:T:=by intro u hu;simp at hu;subst hu;rfl):T:=h
theorem zbi {T:Prop} (h:T:=by repeat(first | exact List.mem_cons_self | apply List.mem_cons_of_mem)):T:=h
theorem zbj {T:Prop} (h:T:=by assumption):T:=h
theorem zbk {T:Prop} (h:T:=by unfold maxLen;omega):T:=h
theorem zbl {T:Prop} (h:T:=by simp[results,Tryz.results109,go_sem]):T:=h
theorem zbm {T:Prop} (h:T:=by simp[results,Tryz.results106,go_sem]):T:=h
theorem zbn {T:Prop} (h:T:=by simpa using h):T:=h
theorem zbo {T:Prop} (h:T:=by repeat(first | exact Ext.refl _ | apply Ext.more)):T:=h
theorem zbp {T:Prop} (h:T:=by dsimp only;omega):T:=h
theorem zbq {T:Prop} (h:T:=by rw[hb];simp):T:=h
def more (w:World) (d:Nat) (os:Array Obj):World:={ w with drawn:=d,heap:=w.heap++os }
theorem more_size (w:World) (d:Nat) (os:Array Obj):(more w d os).heap.size=w.heap.size+os.size:=by simp[more]
theorem more_heap (w:World) (d:Nat) (os:Array Obj) (b:Nat) (h:b<w.heap.size):(more w d os).heap[b]?=w.heap[b]?:=by
 simp[more,Array.getElem?_append,h]
theorem qdh (w:World) (d:Nat) (os:Array Obj) (b i:Nat) (h:b<w.heap.size):(more w d os).cell? ⟨b,i,none⟩=w.cell? ⟨b,i,none⟩ :=
 World.cell?_of_block (more_heap w d os b h)
theorem more_frozen (w:World) (d:Nat) (os:Array Obj) (b i:Nat) (h:b<w.heap.size):(more w d os).frozen? ⟨b,i,none⟩=w.frozen? ⟨b,i,none⟩ :=
 World.frozen?_of_block (more_heap w d os b h)
theorem more_tape (w:World) (d:Nat) (os:Array Obj):(more w d os).tape=w.tape:=rfl
theorem more_os (w:World) (d:Nat) (os:Array Obj):(more w d os).os=w.os:=rfl
theorem more_drawn (w:World) (d:Nat) (os:Array Obj):(more w d os).drawn=d:=rfl
theorem more_drew (w:World) (d:Nat) (os:Array Obj):(more w d os).drew=more w (d+1) os:=rfl
theorem drew_more (w:World) (d:Nat) (os:Array Obj):more w.drew d os=more w d os:=rfl
theorem more_drewN (w:World) (d n:Nat) (os:Array Obj):(more w d os).drewN n=more w (d+n) os:=rfl
theorem drewN_more (w:World) (d n:Nat) (os:Array Obj):more (w.drewN n) d os=more w d os:=rfl
theorem more_shape (w:World) (d:Nat) (os:Array Obj) (b:Nat) (h:b<w.heap.size):(more w d os).shape? b=w.shape? b:=by
 simp[World.shape?,more_heap w d os b h]
theorem more_setCell (w:World) (d:Nat) (os:Array Obj) (b i:Nat) (v:Value) (h:b<w.heap.size) :
  (more w d os).setCell ⟨b,i,none⟩ v=more (w.setCell ⟨b,i,none⟩ v) d os:=by
 unfold World.setCell more
 congr 1
 apply Array.ext_getElem?
 intro k;simp only[Array.getElem?_modify,Array.getElem?_append,Array.size_modify]
 by_cases hk:b=k
 · subst hk;simp[h]
 · simp[hk]
theorem more_more (w:World) (d d':Nat) (os os':Array Obj):more (more w d os) d' os'=more w d' (os++os'):=by simp[more,Array.append_assoc]
theorem ltF1 (a:Nat) (b0:Nat):a<a+1+b0:=by omega
theorem leF1 (a:Nat) (b0:Nat):a≤a+b0:=by omega
theorem neF1 (a:Nat) (b0:Nat):(a=a+1+b0)=False:=by simp;omega
theorem neG1 (a:Nat) (b0:Nat):(a+1+b0=a)=False:=by simp;omega
theorem ltF2 (a:Nat) (b0 b1:Nat):a<a+1+b0+b1:=by omega
theorem leF2 (a:Nat) (b0 b1:Nat):a≤a+b0+b1:=by omega
theorem neF2 (a:Nat) (b0 b1:Nat):(a=a+1+b0+b1)=False:=by simp;omega
theorem neG2 (a:Nat) (b0 b1:Nat):(a+1+b0+b1=a)=False:=by simp;omega
theorem ltF3 (a:Nat) (b0 b1 b2:Nat):a<a+1+b0+b1+b2:=by omega
theorem leF3 (a:Nat) (b0 b1 b2:Nat):a≤a+b0+b1+b2:=by omega
theorem neF3 (a:Nat) (b0 b1 b2:Nat):(a=a+1+b0+b1+b2)=False:=by simp;omega
theorem neG3 (a:Nat) (b0 b1 b2:Nat):(a+1+b0+b1+b2=a)=False:=by simp;omega
theorem ltF4 (a:Nat) (b0 b1 b2 b3:Nat):a<a+1+b0+b1+b2+b3:=by omega
theorem leF4 (a:Nat) (b0 b1 b2 b3:Nat):a≤a+b0+b1+b2+b3:=by omega
theorem neF4 (a:Nat) (b0 b1 b2 b3:Nat):(a=a+1+b0+b1+b2+b3)=False:=by simp;omega
theorem neG4 (a:Nat) (b0 b1 b2 b3:Nat):(a+1+b0+b1+b2+b3=a)=False:=by simp;omega
theorem ltF5 (a:Nat) (b0 b1 b2 b3 b4:Nat):a<a+1+b0+b1+b2+b3+b4:=by omega
theorem leF5 (a:Nat) (b0 b1 b2 b3 b4:Nat):a≤a+b0+b1+b2+b3+b4:=by omega
theorem neF5 (a:Nat) (b0 b1 b2 b3 b4:Nat):(a=a+1+b0+b1+b2+b3+b4)=False:=by simp;omega
theorem neG5 (a:Nat) (b0 b1 b2 b3 b4:Nat):(a+1+b0+b1+b2+b3+b4=a)=False:=by simp;omega
theorem ltF6 (a:Nat) (b0 b1 b2 b3 b4 b5:Nat):a<a+1+b0+b1+b2+b3+b4+b5:=by omega
theorem leF6 (a:Nat) (b0 b1 b2 b3 b4 b5:Nat):a≤a+b0+b1+b2+b3+b4+b5:=by omega
theorem neF6 (a:Nat) (b0 b1 b2 b3 b4 b5:Nat):(a=a+1+b0+b1+b2+b3+b4+b5)=False:=by simp;omega
theorem neG6 (a:Nat) (b0 b1 b2 b3 b4 b5:Nat):(a+1+b0+b1+b2+b3+b4+b5=a)=False:=by simp;omega
theorem ltF7 (a:Nat) (b0 b1 b2 b3 b4 b5 b6:Nat):a<a+1+b0+b1+b2+b3+b4+b5+b6:=by omega
theorem leF7 (a:Nat) (b0 b1 b2 b3 b4 b5 b6:Nat):a≤a+b0+b1+b2+b3+b4+b5+b6:=by omega
theorem neF7 (a:Nat) (b0 b1 b2 b3 b4 b5 b6:Nat):(a=a+1+b0+b1+b2+b3+b4+b5+b6)=False:=by simp;omega
theorem neG7 (a:Nat) (b0 b1 b2 b3 b4 b5 b6:Nat):(a+1+b0+b1+b2+b3+b4+b5+b6=a)=False:=by simp;omega
theorem ltF8 (a:Nat) (b0 b1 b2 b3 b4 b5 b6 b7:Nat):a<a+1+b0+b1+b2+b3+b4+b5+b6+b7:=by omega
theorem leF8 (a:Nat) (b0 b1 b2 b3 b4 b5 b6 b7:Nat):a≤a+b0+b1+b2+b3+b4+b5+b6+b7:=by omega
theorem neF8 (a:Nat) (b0 b1 b2 b3 b4 b5 b6 b7:Nat):(a=a+1+b0+b1+b2+b3+b4+b5+b6+b7)=False:=by simp;omega
theorem neG8 (a:Nat) (b0 b1 b2 b3 b4 b5 b6 b7:Nat):(a+1+b0+b1+b2+b3+b4+b5+b6+b7=a)=False:=by simp;omega
theorem ltF9 (a:Nat) (b0 b1 b2 b3 b4 b5 b6 b7 b8:Nat):a<a+1+b0+b1+b2+b3+b4+b5+b6+b7+b8:=by omega
theorem leF9 (a:Nat) (b0 b1 b2 b3 b4 b5 b6 b7 b8:Nat):a≤a+b0+b1+b2+b3+b4+b5+b6+b7+b8:=by omega
theorem neF9 (a:Nat) (b0 b1 b2 b3 b4 b5 b6 b7 b8:Nat):(a=a+1+b0+b1+b2+b3+b4+b5+b6+b7+b8)=False:=by simp;omega
theorem neG9 (a:Nat) (b0 b1 b2 b3 b4 b5 b6 b7 b8:Nat):(a+1+b0+b1+b2+b3+b4+b5+b6+b7+b8=a)=False:=by simp;omega
theorem ltF10 (a:Nat) (b0 b1 b2 b3 b4 b5 b6 b7 b8 b9:Nat):a<a+1+b0+b1+b2+b3+b4+b5+b6+b7+b8+b9:=by omega
theorem leF10 (a:Nat) (b0 b1 b2 b3 b4 b5 b6 b7 b8 b9:Nat):a≤a+b0+b1+b2+b3+b4+b5+b6+b7+b8+b9:=by omega
theorem neF10 (a:Nat) (b0 b1 b2 b3 b4 b5 b6 b7 b8 b9:Nat):(a=a+1+b0+b1+b2+b3+b4+b5+b6+b7+b8+b9)=False:=by simp;omega
theorem neG10 (a:Nat) (b0 b1 b2 b3 b4 b5 b6 b7 b8 b9:Nat):(a+1+b0+b1+b2+b3+b4+b5+b6+b7+b8+b9=a)=False:=by simp;omega
theorem ltF11 (a:Nat) (b0 b1 b2 b3 b4 b5 b6 b7 b8 b9 b10:Nat):a<a+1+b0+b1+b2+b3+b4+b5+b6+b7+b8+b9+b10:=by omega
theorem leF11 (a:Nat) (b0 b1 b2 b3 b4 b5 b6 b7 b8 b9 b10:Nat):a≤a+b0+b1+b2+b3+b4+b5+b6+b7+b8+b9+b10:=by omega
theorem neF11 (a:Nat) (b0 b1 b2 b3 b4 b5 b6 b7 b8 b9 b10:Nat):(a=a+1+b0+b1+b2+b3+b4+b5+b6+b7+b8+b9+b10)=False:=by simp;omega
theorem neG11 (a:Nat) (b0 b1 b2 b3 b4 b5 b6 b7 b8 b9 b10:Nat):(a+1+b0+b1+b2+b3+b4+b5+b6+b7+b8+b9+b10=a)=False:=by simp;omega
theorem ltF12 (a:Nat) (b0 b1 b2 b3 b4 b5 b6 b7 b8 b9 b10 b11:Nat):a<a+1+b0+b1+b2+b3+b4+b5+b6+b7+b8+b9+b10+b11:=by omega
theorem leF12 (a:Nat) (b0 b1 b2 b3 b4 b5 b6 b7 b8 b9 b10 b11:Nat):a≤a+b0+b1+b2+b3+b4+b5+b6+b7+b8+b9+b10+b11:=by omega
theorem neF12 (a:Nat) (b0 b1 b2 b3 b4 b5 b6 b7 b8 b9 b10 b11:Nat):(a=a+1+b0+b1+b2+b3+b4+b5+b6+b7+b8+b9+b10+b11)=False:=by simp;omega
theorem neG12 (a:Nat) (b0 b1 b2 b3 b4 b5 b6 b7 b8 b9 b10 b11:Nat):(a+1+b0+b1+b2+b3+b4+b5+b6+b7+b8+b9+b10+b11=a)=False:=by simp;omega
theorem ltF13 (a:Nat) (b0 b1 b2 b3 b4 b5 b6 b7 b8 b9 b10 b11 b12:Nat):a<a+1+b0+b1+b2+b3+b4+b5+b6+b7+b8+b9+b10+b11+b12:=by omega
theorem leF13 (a:Nat) (b0 b1 b2 b3 b4 b5 b6 b7 b8 b9 b10 b11 b12:Nat):a≤a+b0+b1+b2+b3+b4+b5+b6+b7+b8+b9+b10+b11+b12:=by omega
theorem neF13 (a:Nat) (b0 b1 b2 b3 b4 b5 b6 b7 b8 b9 b10 b11 b12:Nat):(a=a+1+b0+b1+b2+b3+b4+b5+b6+b7+b8+b9+b10+b11+b12)=False:=by simp;omega
theorem neG13 (a:Nat) (b0 b1 b2 b3 b4 b5 b6 b7 b8 b9 b10 b11 b12:Nat):(a+1+b0+b1+b2+b3+b4+b5+b6+b7+b8+b9+b10+b11+b12=a)=False:=by simp;omega
theorem ltF14 (a:Nat) (b0 b1 b2 b3 b4 b5 b6 b7 b8 b9 b10 b11 b12 b13:Nat):a<a+1+b0+b1+b2+b3+b4+b5+b6+b7+b8+b9+b10+b11+b12+b13:=by omega
theorem leF14 (a:Nat) (b0 b1 b2 b3 b4 b5 b6 b7 b8 b9 b10 b11 b12 b13:Nat):a≤a+b0+b1+b2+b3+b4+b5+b6+b7+b8+b9+b10+b11+b12+b13:=by omega
theorem neF14 (a:Nat) (b0 b1 b2 b3 b4 b5 b6 b7 b8 b9 b10 b11 b12 b13:Nat):(a=a+1+b0+b1+b2+b3+b4+b5+b6+b7+b8+b9+b10+b11+b12+b13)=False:=by simp;omega
theorem neG14 (a:Nat) (b0 b1 b2 b3 b4 b5 b6 b7 b8 b9 b10 b11 b12 b13:Nat):(a+1+b0+b1+b2+b3+b4+b5+b6+b7+b8+b9+b10+b11+b12+b13=a)=False:=by simp;omega
theorem ltF15 (a:Nat) (b0 b1 b2 b3 b4 b5 b6 b7 b8 b9 b10 b11 b12 b13 b14:Nat):a<a+1+b0+b1+b2+b3+b4+b5+b6+b7+b8+b9+b10+b11+b12+b13+b14:=by omega
theorem leF15 (a:Nat) (b0 b1 b2 b3 b4 b5 b6 b7 b8 b9 b10 b11 b12 b13 b14:Nat):a≤a+b0+b1+b2+b3+b4+b5+b6+b7+b8+b9+b10+b11+b12+b13+b14:=by omega
theorem neF15 (a:Nat) (b0 b1 b2 b3 b4 b5 b6 b7 b8 b9 b10 b11 b12 b13 b14:Nat):(a=a+1+b0+b1+b2+b3+b4+b5+b6+b7+b8+b9+b10+b11+b12+b13+b14)=False:=by simp;omega
theorem neG15 (a:Nat) (b0 b1 b2 b3 b4 b5 b6 b7 b8 b9 b10 b11 b12 b13 b14:Nat):(a+1+b0+b1+b2+b3+b4+b5+b6+b7+b8+b9+b10+b11+b12+b13+b14=a)=False:=by simp;omega
theorem ltF16 (a:Nat) (b0 b1 b2 b3 b4 b5 b6 b7 b8 b9 b10 b11 b12 b13 b14 b15:Nat):a<a+1+b0+b1+b2+b3+b4+b5+b6+b7+b8+b9+b10+b11+b12+b13+b14+b15:=by omega
theorem leF16 (a:Nat) (b0 b1 b2 b3 b4 b5 b6 b7 b8 b9 b10 b11 b12 b13 b14 b15:Nat):a≤a+b0+b1+b2+b3+b4+b5+b6+b7+b8+b9+b10+b11+b12+b13+b14+b15:=by omega
theorem neF16 (a:Nat) (b0 b1 b2 b3 b4 b5 b6 b7 b8 b9 b10 b11 b12 b13 b14 b15:Nat):(a=a+1+b0+b1+b2+b3+b4+b5+b6+b7+b8+b9+b10+b11+b12+b13+b14+b15)=False:=by simp;omega
theorem neG16 (a:Nat) (b0 b1 b2 b3 b4 b5 b6 b7 b8 b9 b10 b11 b12 b13 b14 b15:Nat):(a+1+b0+b1+b2+b3+b4+b5+b6+b7+b8+b9+b10+b11+b12+b13+b14+b15=a)=False:=by simp;omega
theorem ltF17 (a:Nat) (b0 b1 b2 b3 b4 b5 b6 b7 b8 b9 b10 b11 b12 b13 b14 b15 b16:Nat):a<a+1+b0+b1+b2+b3+b4+b5+b6+b7+b8+b9+b10+b11+b12+b13+b14+b15+b16:=by omega
theorem leF17 (a:Nat) (b0 b1 b2 b3 b4 b5 b6 b7 b8 b9 b10 b11 b12 b13 b14 b15 b16:Nat):a≤a+b0+b1+b2+b3+b4+b5+b6+b7+b8+b9+b10+b11+b12+b13+b14+b15+b16:=by omega
theorem neF17 (a:Nat) (b0 b1 b2 b3 b4 b5 b6 b7 b8 b9 b10 b11 b12 b13 b14 b15 b16:Nat):(a=a+1+b0+b1+b2+b3+b4+b5+b6+b7+b8+b9+b10+b11+b12+b13+b14+b15+b16)=False:=by simp;omega
theorem neG17 (a:Nat) (b0 b1 b2 b3 b4 b5 b6 b7 b8 b9 b10 b11 b12 b13 b14 b15 b16:Nat):(a+1+b0+b1+b2+b3+b4+b5+b6+b7+b8+b9+b10+b11+b12+b13+b14+b15+b16=a)=False:=by simp;omega
theorem ltF18 (a:Nat) (b0 b1 b2 b3 b4 b5 b6 b7 b8 b9 b10 b11 b12 b13 b14 b15 b16 b17:Nat):a<a+1+b0+b1+b2+b3+b4+b5+b6+b7+b8+b9+b10+b11+b12+b13+b14+b15+b16+b17:=by omega
theorem leF18 (a:Nat) (b0 b1 b2 b3 b4 b5 b6 b7 b8 b9 b10 b11 b12 b13 b14 b15 b16 b17:Nat):a≤a+b0+b1+b2+b3+b4+b5+b6+b7+b8+b9+b10+b11+b12+b13+b14+b15+b16+b17:=by omega
theorem neF18 (a:Nat) (b0 b1 b2 b3 b4 b5 b6 b7 b8 b9 b10 b11 b12 b13 b14 b15 b16 b17:Nat):(a=a+1+b0+b1+b2+b3+b4+b5+b6+b7+b8+b9+b10+b11+b12+b13+b14+b15+b16+b17)=False:=by simp;omega
theorem neG18 (a:Nat) (b0 b1 b2 b3 b4 b5 b6 b7 b8 b9 b10 b11 b12 b13 b14 b15 b16 b17:Nat):(a+1+b0+b1+b2+b3+b4+b5+b6+b7+b8+b9+b10+b11+b12+b13+b14+b15+b16+b17=a)=False:=by simp;omega
theorem ltF19 (a:Nat) (b0 b1 b2 b3 b4 b5 b6 b7 b8 b9 b10 b11 b12 b13 b14 b15 b16 b17 b18:Nat):a<a+1+b0+b1+b2+b3+b4+b5+b6+b7+b8+b9+b10+b11+b12+b13+b14+b15+b16+b17+b18:=by omega
theorem leF19 (a:Nat) (b0 b1 b2 b3 b4 b5 b6 b7 b8 b9 b10 b11 b12 b13 b14 b15 b16 b17 b18:Nat):a≤a+b0+b1+b2+b3+b4+b5+b6+b7+b8+b9+b10+b11+b12+b13+b14+b15+b16+b17+b18:=by omega
theorem neF19 (a:Nat) (b0 b1 b2 b3 b4 b5 b6 b7 b8 b9 b10 b11 b12 b13 b14 b15 b16 b17 b18:Nat):(a=a+1+b0+b1+b2+b3+b4+b5+b6+b7+b8+b9+b10+b11+b12+b13+b14+b15+b16+b17+b18)=False:=by simp;omega
theorem neG19 (a:Nat) (b0 b1 b2 b3 b4 b5 b6 b7 b8 b9 b10 b11 b12 b13 b14 b15 b16 b17 b18:Nat):(a+1+b0+b1+b2+b3+b4+b5+b6+b7+b8+b9+b10+b11+b12+b13+b14+b15+b16+b17+b18=a)=False:=by simp;omega
theorem ltF20 (a:Nat) (b0 b1 b2 b3 b4 b5 b6 b7 b8 b9 b10 b11 b12 b13 b14 b15 b16 b17 b18 b19:Nat):a<a+1+b0+b1+b2+b3+b4+b5+b6+b7+b8+b9+b10+b11+b12+b13+b14+b15+b16+b17+b18+b19:=by omega
theorem leF20 (a:Nat) (b0 b1 b2 b3 b4 b5 b6 b7 b8 b9 b10 b11 b12 b13 b14 b15 b16 b17 b18 b19:Nat):a≤a+b0+b1+b2+b3+b4+b5+b6+b7+b8+b9+b10+b11+b12+b13+b14+b15+b16+b17+b18+b19:=by omega
theorem neF20 (a:Nat) (b0 b1 b2 b3 b4 b5 b6 b7 b8 b9 b10 b11 b12 b13 b14 b15 b16 b17 b18 b19:Nat):(a=a+1+b0+b1+b2+b3+b4+b5+b6+b7+b8+b9+b10+b11+b12+b13+b14+b15+b16+b17+b18+b19)=False:=by simp;omega
theorem neG20 (a:Nat) (b0 b1 b2 b3 b4 b5 b6 b7 b8 b9 b10 b11 b12 b13 b14 b15 b16 b17 b18 b19:Nat):(a+1+b0+b1+b2+b3+b4+b5+b6+b7+b8+b9+b10+b11+b12+b13+b14+b15+b16+b17+b18+b19=a)=False:=by simp;omega
theorem ltF21 (a:Nat) (b0 b1 b2 b3 b4 b5 b6 b7 b8 b9 b10 b11 b12 b13 b14 b15 b16 b17 b18 b19 b20:Nat):a<a+1+b0+b1+b2+b3+b4+b5+b6+b7+b8+b9+b10+b11+b12+b13+b14+b15+b16+b17+b18+b19+b20:=by omega
theorem leF21 (a:Nat) (b0 b1 b2 b3 b4 b5 b6 b7 b8 b9 b10 b11 b12 b13 b14 b15 b16 b17 b18 b19 b20:Nat):a≤a+b0+b1+b2+b3+b4+b5+b6+b7+b8+b9+b10+b11+b12+b13+b14+b15+b16+b17+b18+b19+b20:=by omega
theorem neF21 (a:Nat) (b0 b1 b2 b3 b4 b5 b6 b7 b8 b9 b10 b11 b12 b13 b14 b15 b16 b17 b18 b19 b20:Nat):(a=a+1+b0+b1+b2+b3+b4+b5+b6+b7+b8+b9+b10+b11+b12+b13+b14+b15+b16+b17+b18+b19+b20)=False:=by simp;omega
theorem neG21 (a:Nat) (b0 b1 b2 b3 b4 b5 b6 b7 b8 b9 b10 b11 b12 b13 b14 b15 b16 b17 b18 b19 b20:Nat):(a+1+b0+b1+b2+b3+b4+b5+b6+b7+b8+b9+b10+b11+b12+b13+b14+b15+b16+b17+b18+b19+b20=a)=False:=by simp;omega
theorem ltF22 (a:Nat) (b0 b1 b2 b3 b4 b5 b6 b7 b8 b9 b10 b11 b12 b13 b14 b15 b16 b17 b18 b19 b20 b21:Nat):a<a+1+b0+b1+b2+b3+b4+b5+b6+b7+b8+b9+b10+b11+b12+b13+b14+b15+b16+b17+b18+b19+b20+b21:=by omega
theorem leF22 (a:Nat) (b0 b1 b2 b3 b4 b5 b6 b7 b8 b9 b10 b11 b12 b13 b14 b15 b16 b17 b18 b19 b20 b21:Nat):a≤a+b0+b1+b2+b3+b4+b5+b6+b7+b8+b9+b10+b11+b12+b13+b14+b15+b16+b17+b18+b19+b20+b21:=by omega
theorem neF22 (a:Nat) (b0 b1 b2 b3 b4 b5 b6 b7 b8 b9 b10 b11 b12 b13 b14 b15 b16 b17 b18 b19 b20 b21:Nat):(a=a+1+b0+b1+b2+b3+b4+b5+b6+b7+b8+b9+b10+b11+b12+b13+b14+b15+b16+b17+b18+b19+b20+b21)=False:=by simp;omega
theorem neG22 (a:Nat) (b0 b1 b2 b3 b4 b5 b6 b7 b8 b9 b10 b11 b12 b13 b14 b15 b16 b17 b18 b19 b20 b21:Nat):(a+1+b0+b1+b2+b3+b4+b5+b6+b7+b8+b9+b10+b11+b12+b13+b14+b15+b16+b17+b18+b19+b20+b21=a)=False:=by simp;omega
theorem ltF23 (a:Nat) (b0 b1 b2 b3 b4 b5 b6 b7 b8 b9 b10 b11 b12 b13 b14 b15 b16 b17 b18 b19 b20 b21 b22:Nat):a<a+1+b0+b1+b2+b3+b4+b5+b6+b7+b8+b9+b10+b11+b12+b13+b14+b15+b16+b17+b18+b19+b20+b21+b22:=by omega
theorem leF23 (a:Nat) (b0 b1 b2 b3 b4 b5 b6 b7 b8 b9 b10 b11 b12 b13 b14 b15 b16 b17 b18 b19 b20 b21 b22:Nat):a≤a+b0+b1+b2+b3+b4+b5+b6+b7+b8+b9+b10+b11+b12+b13+b14+b15+b16+b17+b18+b19+b20+b21+b22:=by omega
theorem neF23 (a:Nat) (b0 b1 b2 b3 b4 b5 b6 b7 b8 b9 b10 b11 b12 b13 b14 b15 b16 b17 b18 b19 b20 b21 b22:Nat):(a=a+1+b0+b1+b2+b3+b4+b5+b6+b7+b8+b9+b10+b11+b12+b13+b14+b15+b16+b17+b18+b19+b20+b21+b22)=False:=by simp;omega
theorem neG23 (a:Nat) (b0 b1 b2 b3 b4 b5 b6 b7 b8 b9 b10 b11 b12 b13 b14 b15 b16 b17 b18 b19 b20 b21 b22:Nat):(a+1+b0+b1+b2+b3+b4+b5+b6+b7+b8+b9+b10+b11+b12+b13+b14+b15+b16+b17+b18+b19+b20+b21+b22=a)=False:=by simp;omega
theorem ltF24 (a:Nat) (b0 b1 b2 b3 b4 b5 b6 b7 b8 b9 b10 b11 b12 b13 b14 b15 b16 b17 b18 b19 b20 b21 b22 b23:Nat):a<a+1+b0+b1+b2+b3+b4+b5+b6+b7+b8+b9+b10+b11+b12+b13+b14+b15+b16+b17+b18+b19+b20+b21+b22+b23:=by omega
theorem leF24 (a:Nat) (b0 b1 b2 b3 b4 b5 b6 b7 b8 b9 b10 b11 b12 b13 b14 b15 b16 b17 b18 b19 b20 b21 b22 b23:Nat):a≤a+b0+b1+b2+b3+b4+b5+b6+b7+b8+b9+b10+b11+b12+b13+b14+b15+b16+b17+b18+b19+b20+b21+b22+b23:=by omega
theorem neF24 (a:Nat) (b0 b1 b2 b3 b4 b5 b6 b7 b8 b9 b10 b11 b12 b13 b14 b15 b16 b17 b18 b19 b20 b21 b22 b23:Nat):(a=a+1+b0+b1+b2+b3+b4+b5+b6+b7+b8+b9+b10+b11+b12+b13+b14+b15+b16+b17+b18+b19+b20+b21+b22+b23)=False:=by simp;omega
theorem neG24 (a:Nat) (b0 b1 b2 b3 b4 b5 b6 b7 b8 b9 b10 b11 b12 b13 b14 b15 b16 b17 b18 b19 b20 b21 b22 b23:Nat):(a+1+b0+b1+b2+b3+b4+b5+b6+b7+b8+b9+b10+b11+b12+b13+b14+b15+b16+b17+b18+b19+b20+b21+b22+b23=a)=False:=by simp;omega
theorem ltF25 (a:Nat) (b0 b1 b2 b3 b4 b5 b6 b7 b8 b9 b10 b11 b12 b13 b14 b15 b16 b17 b18 b19 b20 b21 b22 b23 b24:Nat):a<a+1+b0+b1+b2+b3+b4+b5+b6+b7+b8+b9+b10+b11+b12+b13+b14+b15+b16+b17+b18+b19+b20+b21+b22+b23+b24:=by omega
theorem leF25 (a:Nat) (b0 b1 b2 b3 b4 b5 b6 b7 b8 b9 b10 b11 b12 b13 b14 b15 b16 b17 b18 b19 b20 b21 b22 b23 b24:Nat):a≤a+b0+b1+b2+b3+b4+b5+b6+b7+b8+b9+b10+b11+b12+b13+b14+b15+b16+b17+b18+b19+b20+b21+b22+b23+b24:=by omega
theorem neF25 (a:Nat) (b0 b1 b2 b3 b4 b5 b6 b7 b8 b9 b10 b11 b12 b13 b14 b15 b16 b17 b18 b19 b20 b21 b22 b23 b24:Nat):(a=a+1+b0+b1+b2+b3+b4+b5+b6+b7+b8+b9+b10+b11+b12+b13+b14+b15+b16+b17+b18+b19+b20+b21+b22+b23+b24)=False:=by simp;omega
theorem neG25 (a:Nat) (b0 b1 b2 b3 b4 b5 b6 b7 b8 b9 b10 b11 b12 b13 b14 b15 b16 b17 b18 b19 b20 b21 b22 b23 b24:Nat):(a+1+b0+b1+b2+b3+b4+b5+b6+b7+b8+b9+b10+b11+b12+b13+b14+b15+b16+b17+b18+b19+b20+b21+b22+b23+b24=a)=False:=by simp;omega
theorem ltF26 (a:Nat) (b0 b1 b2 b3 b4 b5 b6 b7 b8 b9 b10 b11 b12 b13 b14 b15 b16 b17 b18 b19 b20 b21 b22 b23 b24 b25:Nat):a<a+1+b0+b1+b2+b3+b4+b5+b6+b7+b8+b9+b10+b11+b12+b13+b14+b15+b16+b17+b18+b19+b20+b21+b22+b23+b24+b25:=by omega
theorem leF26 (a:Nat) (b0 b1 b2 b3 b4 b5 b6 b7 b8 b9 b10 b11 b12 b13 b14 b15 b16 b17 b18 b19 b20 b21 b22 b23 b24 b25:Nat):a≤a+b0+b1+b2+b3+b4+b5+b6+b7+b8+b9+b10+b11+b12+b13+b14+b15+b16+b17+b18+b19+b20+b21+b22+b23+b24+b25:=by omega
theorem neF26 (a:Nat) (b0 b1 b2 b3 b4 b5 b6 b7 b8 b9 b10 b11 b12 b13 b14 b15 b16 b17 b18 b19 b20 b21 b22 b23 b24 b25:Nat):(a=a+1+b0+b1+b2+b3+b4+b5+b6+b7+b8+b9+b10+b11+b12+b13+b14+b15+b16+b17+b18+b19+b20+b21+b22+b23+b24+b25)=False:=by simp;omega
theorem neG26 (a:Nat) (b0 b1 b2 b3 b4 b5 b6 b7 b8 b9 b10 b11 b12 b13 b14 b15 b16 b17 b18 b19 b20 b21 b22 b23 b24 b25:Nat):(a+1+b0+b1+b2+b3+b4+b5+b6+b7+b8+b9+b10+b11+b12+b13+b14+b15+b16+b17+b18+b19+b20+b21+b22+b23+b24+b25=a)=False:=by simp;omega
theorem ltF27 (a:Nat) (b0 b1 b2 b3 b4 b5 b6 b7 b8 b9 b10 b11 b12 b13 b14 b15 b16 b17 b18 b19 b20 b21 b22 b23 b24 b25 b26:Nat):a<a+1+b0+b1+b2+b3+b4+b5+b6+b7+b8+b9+b10+b11+b12+b13+b14+b15+b16+b17+b18+b19+b20+b21+b22+b23+b24+b25+b26:=by omega
theorem leF27 (a:Nat) (b0 b1 b2 b3 b4 b5 b6 b7 b8 b9 b10 b11 b12 b13 b14 b15 b16 b17 b18 b19 b20 b21 b22 b23 b24 b25 b26:Nat):a≤a+b0+b1+b2+b3+b4+b5+b6+b7+b8+b9+b10+b11+b12+b13+b14+b15+b16+b17+b18+b19+b20+b21+b22+b23+b24+b25+b26:=by omega
theorem neF27 (a:Nat) (b0 b1 b2 b3 b4 b5 b6 b7 b8 b9 b10 b11 b12 b13 b14 b15 b16 b17 b18 b19 b20 b21 b22 b23 b24 b25 b26:Nat):(a=a+1+b0+b1+b2+b3+b4+b5+b6+b7+b8+b9+b10+b11+b12+b13+b14+b15+b16+b17+b18+b19+b20+b21+b22+b23+b24+b25+b26)=False:=by simp;omega
theorem neG27 (a:Nat) (b0 b1 b2 b3 b4 b5 b6 b7 b8 b9 b10 b11 b12 b13 b14 b15 b16 b17 b18 b19 b20 b21 b22 b23 b24 b25 b26:Nat):(a+1+b0+b1+b2+b3+b4+b5+b6+b7+b8+b9+b10+b11+b12+b13+b14+b15+b16+b17+b18+b19+b20+b21+b22+b23+b24+b25+b26=a)=False:=by simp;omega
theorem ltF28 (a:Nat) (b0 b1 b2 b3 b4 b5 b6 b7 b8 b9 b10 b11 b12 b13 b14 b15 b16 b17 b18 b19 b20 b21 b22 b23 b24 b25 b26 b27:Nat):a<a+1+b0+b1+b2+b3+b4+b5+b6+b7+b8+b9+b10+b11+b12+b13+b14+b15+b16+b17+b18+b19+b20+b21+b22+b23+b24+b25+b26+b27:=by omega
theorem leF28 (a:Nat) (b0 b1 b2 b3 b4 b5 b6 b7 b8 b9 b10 b11 b12 b13 b14 b15 b16 b17 b18 b19 b20 b21 b22 b23 b24 b25 b26 b27:Nat):a≤a+b0+b1+b2+b3+b4+b5+b6+b7+b8+b9+b10+b11+b12+b13+b14+b15+b16+b17+b18+b19+b20+b21+b22+b23+b24+b25+b26+b27:=by omega
theorem neF28 (a:Nat) (b0 b1 b2 b3 b4 b5 b6 b7 b8 b9 b10 b11 b12 b13 b14 b15 b16 b17 b18 b19 b20 b21 b22 b23 b24 b25 b26 b27:Nat):(a=a+1+b0+b1+b2+b3+b4+b5+b6+b7+b8+b9+b10+b11+b12+b13+b14+b15+b16+b17+b18+b19+b20+b21+b22+b23+b24+b25+b26+b27)=False:=by simp;omega
theorem neG28 (a:Nat) (b0 b1 b2 b3 b4 b5 b6 b7 b8 b9 b10 b11 b12 b13 b14 b15 b16 b17 b18 b19 b20 b21 b22 b23 b24 b25 b26 b27:Nat):(a+1+b0+b1+b2+b3+b4+b5+b6+b7+b8+b9+b10+b11+b12+b13+b14+b15+b16+b17+b18+b19+b20+b21+b22+b23+b24+b25+b26+b27=a)=False:=by simp;omega
theorem ltF29 (a:Nat) (b0 b1 b2 b3 b4 b5 b6 b7 b8 b9 b10 b11 b12 b13 b14 b15 b16 b17 b18 b19 b20 b21 b22 b23 b24 b25 b26 b27 b28:Nat):a<a+1+b0+b1+b2+b3+b4+b5+b6+b7+b8+b9+b10+b11+b12+b13+b14+b15+b16+b17+b18+b19+b20+b21+b22+b23+b24+b25+b26+b27+b28:=by omega
theorem leF29 (a:Nat) (b0 b1 b2 b3 b4 b5 b6 b7 b8 b9 b10 b11 b12 b13 b14 b15 b16 b17 b18 b19 b20 b21 b22 b23 b24 b25 b26 b27 b28:Nat):a≤a+b0+b1+b2+b3+b4+b5+b6+b7+b8+b9+b10+b11+b12+b13+b14+b15+b16+b17+b18+b19+b20+b21+b22+b23+b24+b25+b26+b27+b28:=by omega
theorem neF29 (a:Nat) (b0 b1 b2 b3 b4 b5 b6 b7 b8 b9 b10 b11 b12 b13 b14 b15 b16 b17 b18 b19 b20 b21 b22 b23 b24 b25 b26 b27 b28:Nat):(a=a+1+b0+b1+b2+b3+b4+b5+b6+b7+b8+b9+b10+b11+b12+b13+b14+b15+b16+b17+b18+b19+b20+b21+b22+b23+b24+b25+b26+b27+b28)=False:=by simp;omega
theorem neG29 (a:Nat) (b0 b1 b2 b3 b4 b5 b6 b7 b8 b9 b10 b11 b12 b13 b14 b15 b16 b17 b18 b19 b20 b21 b22 b23 b24 b25 b26 b27 b28:Nat):(a+1+b0+b1+b2+b3+b4+b5+b6+b7+b8+b9+b10+b11+b12+b13+b14+b15+b16+b17+b18+b19+b20+b21+b22+b23+b24+b25+b26+b27+b28=a)=False:=by simp;omega
theorem ltF30 (a:Nat) (b0 b1 b2 b3 b4 b5 b6 b7 b8 b9 b10 b11 b12 b13 b14 b15 b16 b17 b18 b19 b20 b21 b22 b23 b24 b25 b26 b27 b28 b29:Nat):a<a+1+b0+b1+b2+b3+b4+b5+b6+b7+b8+b9+b10+b11+b12+b13+b14+b15+b16+b17+b18+b19+b20+b21+b22+b23+b24+b25+b26+b27+b28+b29:=by omega
theorem leF30 (a:Nat) (b0 b1 b2 b3 b4 b5 b6 b7 b8 b9 b10 b11 b12 b13 b14 b15 b16 b17 b18 b19 b20 b21 b22 b23 b24 b25 b26 b27 b28 b29:Nat):a≤a+b0+b1+b2+b3+b4+b5+b6+b7+b8+b9+b10+b11+b12+b13+b14+b15+b16+b17+b18+b19+b20+b21+b22+b23+b24+b25+b26+b27+b28+b29:=by omega
theorem neF30 (a:Nat) (b0 b1 b2 b3 b4 b5 b6 b7 b8 b9 b10 b11 b12 b13 b14 b15 b16 b17 b18 b19 b20 b21 b22 b23 b24 b25 b26 b27 b28 b29:Nat):(a=a+1+b0+b1+b2+b3+b4+b5+b6+b7+b8+b9+b10+b11+b12+b13+b14+b15+b16+b17+b18+b19+b20+b21+b22+b23+b24+b25+b26+b27+b28+b29)=False:=by simp;omega
theorem neG30 (a:Nat) (b0 b1 b2 b3 b4 b5 b6 b7 b8 b9 b10 b11 b12 b13 b14 b15 b16 b17 b18 b19 b20 b21 b22 b23 b24 b25 b26 b27 b28 b29:Nat):(a+1+b0+b1+b2+b3+b4+b5+b6+b7+b8+b9+b10+b11+b12+b13+b14+b15+b16+b17+b18+b19+b20+b21+b22+b23+b24+b25+b26+b27+b28+b29=a)=False:=by simp;omega
attribute [go_sem] more_size qdh more_frozen more_tape more_os more_drawn more_drew drew_more more_drewN drewN_more more_shape more_setCell
attribute [go_sem] ltF1 leF1 neF1 neG1 ltF2 leF2 neF2 neG2 ltF3 leF3 neF3 neG3 ltF4 leF4 neF4 neG4 ltF5 leF5 neF5 neG5 ltF6 leF6 neF6 neG6 ltF7 leF7 neF7 neG7 ltF8 leF8 neF8 neG8 ltF9 leF9 neF9 neG9 ltF10 leF10 neF10 neG10
attribute [go_sem] ltF11 leF11 neF11 neG11 ltF12 leF12 neF12 neG12 ltF13 leF13 neF13 neG13 ltF14 leF14 neF14 neG14 ltF15 leF15 neF15 neG15 ltF16 leF16 neF16 neG16 ltF17 leF17 neF17 neG17 ltF18 leF18 neF18 neG18 ltF19 leF19 neF19 neG19 ltF20 leF20 neF20 neG20
attribute [go_sem] ltF21 leF21 neF21 neG21 ltF22 leF22 neF22 neG22 ltF23 leF23 neF23 neG23 ltF24 leF24 neF24 neG24 ltF25 leF25 neF25 neG25 ltF26 leF26 neF26 neG26 ltF27 leF27 neF27 neG27 ltF28 leF28 neF28 neG28 ltF29 leF29 neF29 neG29 ltF30 leF30 neF30 neG30
def Ext (w w':World):Prop:=∃ d os,w'=more w d os
theorem Ext.refl (w:World):Ext w w:=⟨w.drawn,#[],by simp[more]⟩
theorem Ext.more {a w:World} (h:Ext a w) (d:Nat) (os:Array Obj):Ext a (more w d os):=by
 obtain⟨d',os',rfl⟩:=h;exact⟨_,_,more_more _ _ _ _ _⟩
theorem Ext.trans {a b c:World} (h:Ext a b) (k:Ext b c):Ext a c:=by obtain⟨d,os,rfl⟩:=k;exact h.more d os
theorem Ext.alloc {a w:World} (h:Ext a w) (o:Obj):Ext a (w.alloc o):=by
 have e:w.alloc o=YtpnabjopfpdkhaaGreatDoor.more w w.drawn #[o]:=by
  unfold World.alloc YtpnabjopfpdkhaaGreatDoor.more
  congr 1
 rw[e];exact h.more _ _
theorem Ext.drew {a w:World} (h:Ext a w):Ext a w.drew:=by
 obtain⟨d,os,rfl⟩:=h;exact⟨d+1,os,rfl⟩
theorem Ext.drewN {a w:World} (h:Ext a w) (n:Nat):Ext a (w.drewN n):=by
 obtain⟨d,os,rfl⟩:=h;exact⟨d+n,os,rfl⟩
theorem Ext.setCell {a w:World} (h:Ext a w) {p:Addr} (hp:a.heap.size≤p.block) (v:Value):Ext a (w.setCell p v):=by
 obtain⟨d,os,rfl⟩:=h
 refine ⟨d,os.modify (p.block-a.heap.size) (fun
   | .cells c elem frozen=>.cells (if p.spot.isSome then c else c.setIfInBounds p.off v) elem frozen
   | o=>o),?_⟩
 unfold World.setCell YtpnabjopfpdkhaaGreatDoor.more
 congr 1
 apply Array.ext_getElem?
 intro k;simp only[Array.getElem?_modify,Array.getElem?_append]
 by_cases hk:p.block=k
 · subst hk
   have:¬ p.block<a.heap.size:=by omega
   simp[this]
   rfl
 · by_cases hk2:k<a.heap.size
   · simp[hk,hk2]
   · have:¬ p.block-a.heap.size=k-a.heap.size:=by omega
     simp[hk,hk2,this]
theorem Ext.size {w w':World} (h:Ext w w'):w.heap.size≤w'.heap.size:=by
 obtain⟨d,os,rfl⟩:=h
 simp[more_size]
theorem Ext.below {w w':World} (h:Ext w w'):Below w.heap.size w w':=by
 obtain⟨d,os,rfl⟩:=h
 exact⟨rfl,rfl,rfl,by simp[more_size],fun k hk=>more_heap _ _ _ _ hk⟩
theorem Ext.of_below {w w':World} (h:Below w.heap.size w w'):Ext w w':=by
 have hh:w'.heap=w.heap++w'.heap.extract w.heap.size w'.heap.size:=by
  apply Array.ext_getElem?
  intro k;have h4:=h.size;rw[Array.getElem?_append]
  by_cases hk:k<w.heap.size
  · rw[if_pos hk];exact h.block k hk
  · rw[if_neg hk,Array.getElem?_extract]
    by_cases hk2:k<w'.heap.size
    · rw[if_pos zac,Nat.add_sub_cancel' zac]
    · rw[if_neg zac,Array.getElem?_eq_none zac]
 refine ⟨w'.drawn,w'.heap.extract w.heap.size w'.heap.size,?_⟩;have h1:=h.os;have h2:=h.tape;have h3:=h.output;unfold YtpnabjopfpdkhaaGreatDoor.more;rw[←hh,←h1,←h2,←h3]
section
variable {P:Program} (w:World)
theorem qdn (base:Nat) (t tx ty e:TypeId) (i:TypeInfo) (z:Value) (size bytes:Nat) (ht:P.underlying t=some (.slice e)) (hi:P.info? e=some i) (hz:i.zero=some z)
  (hsize:i.size=size) (hby:i.bytes=bytes) (hzs:z.cells.size=size) (hsz:0<size)
  (v:Value) (n:Nat) (xs:List Value) (hown:w.ownsRow base e size v n xs)
  (x:Value) (m:Nat) (news:List Value) (hs:Src P size tx x m news w)
  (h63:n+m≤maxLen) (hbytes:(n+m)*bytes≤140737488355328) (hbase:base≤w.heap.size) :
  ∃ v' w',(Builtin.append_ #[t,tx] ty #[v,x]).run P w=.ok v' w'∧w'.ownsRow base e size v' (n+m) (xs++news)∧w.grownBy w' v.ownBlock ∧
   (v'.ownBlock=v.ownBlock∨v'.ownBlock=some w.heap.size):=by
 subst hsize;subst hby
 have hsmall:n+m≤9223372036854775807:=by simp only[maxLen] at h63;omega
 have hl:=hs.newsLen
 have hlen:(xs++news).length=(n+m)*i.size:=by rw[List.length_append,hown.1,hl,Nat.add_mul]
 have grown:∀ (old:Nat),old<n+m→∀ (row:Option Nat),
   (w.drew.alloc (.cells ((xs++news).toArray++Builtin.zeroCells z.cells (grownCap w (n+m) old e-(n+m))) e)).ownsRow base e i.size
    (.slice (some ⟨w.heap.size,0,none⟩) (n+m) (grownCap w (n+m) old e)) (n+m) (xs++news) ∧
   w.grownBy (w.drew.alloc (.cells ((xs++news).toArray++Builtin.zeroCells z.cells (grownCap w (n+m) old e-(n+m))) e)) row:=by
  intro old ho row;have hge:=grownCap_ge w (n+m) old e
  have hcm:grownCap w (n+m) old e≤maxLen:=grownCap_le_maxLen w (n+m) old e h63
  refine ⟨⟨hlen,.inr ⟨w.heap.size,_,_,rfl,hbase,heap_alloc_new w.drew _,hge,hcm,?_,?_⟩⟩,⟨rfl,rfl,rfl,by simp,fun k hk _=>(Below.heap_alloc w.drew _ k hk)⟩⟩
  · simp only[Array.size_append,List.size_toArray,size_zeroCells,hzs,hlen,←Nat.add_mul]
    congr 1
    omega
  · simp only[Array.toList_append]
    rw[←hlen];exact List.take_left
 rcases hown.2 with ⟨rfl,rfl⟩ | ⟨g,cap,cur,rfl,hbg,hg,hnc,hcm,hcs,htake⟩
 · have hx:xs=[]:=List.eq_nil_of_length_eq_zero (by simpa using hown.1)
   subst hx
   by_cases hm:m=0
   · subst hm
     have hn:news=[]:=List.eq_nil_of_length_eq_zero (by simpa using hl)
     subst hn;refine ⟨.slice none 0 0,w,?_,World.ownsRow_nil w base e i.size,⟨rfl,rfl,rfl,Nat.le_refl _,fun _ _ _=>rfl⟩,Or.inl rfl⟩
     rcases hs.kind with ⟨e',hk⟩ | hk<;>simp[Builtin.append_,run_underlying ht,run_underlying hk,sizeOf,typeInfo,hi,hs.len,hs.cells,storeCells]
   · have hr:=run_append_grow_src (P:=P) w t tx ty e i z ht hi hz none 0 0 [] (run_firstCells_none w.drew i.size 0 0 0) x m news hs zac zac (growslice_fits zac hbytes)
     have hgr:=grown 0 zac (Value.ownBlock (.slice none 0 0));simp only[Nat.zero_add,List.nil_append] at hgr hr ⊢
     exact⟨_,_,hr,hgr.1,hgr.2,Or.inr rfl⟩
 · by_cases hroom:n+m≤cap
   · have hfit:n*i.size+news.length≤cur.size:=by rw[hl,hcs,←Nat.add_mul];exact Nat.mul_le_mul_right _ hroom
     have hst:=run_storeCells_at P g (n*i.size) e news 0 cur w hg (by simpa using hfit) hs.one;simp only[Nat.add_zero] at hst
     have hr:(Builtin.append_ #[t,tx] ty #[.slice (some ⟨g,0,none⟩) n cap,x]).run P w =
       .ok (.slice (some ⟨g,0,none⟩) (n+m) cap) (w.setRow g (cur.toList.take (n*i.size)++news++cur.toList.drop (n*i.size+news.length)).toArray):=by
      rcases hs.kind with ⟨e',hk⟩ | hk<;>simp[Builtin.append_,run_underlying ht,run_underlying hk,sizeOf,typeInfo,hi,hs.len,hroom,hs.cells,Addr.add_lit,hst]
     refine ⟨_,_,hr,⟨hlen,.inr ⟨g,cap,_,rfl,hbg,setRow_heap w g cur _ e _ hg,hroom,hcm,?_,?_⟩⟩,⟨rfl,rfl,rfl,by simp,fun k _ hk=>setRow_other w g k _ (fun e=>hk (by simp[Value.ownBlock,e]))⟩,Or.inl rfl⟩
     · simp only[List.size_toArray,List.length_append,List.length_take,List.length_drop,Array.length_toList]
       omega
     · rw[htake,←hlen]
       exact List.take_left
   · have holds:∀ j u,xs[j]?=some u→w.cell? ((⟨g,0,none⟩:Addr).add j)=some u:=hown.cells (g:=g) rfl
     have hr:=run_append_grow_src (P:=P) w t tx ty e i z ht hi hz (some ⟨g,0,none⟩) n cap xs (run_firstCells_some w.drew i.size n ⟨g,0,none⟩ n cap xs hown.1 (by simpa using holds)) x m news hs zac zac (growslice_fits zac hbytes);have hgr:=grown cap zac (Value.ownBlock (.slice (some ⟨g,0,none⟩) n cap))
     exact⟨_,_,hr,hgr.1,hgr.2,Or.inr rfl⟩
theorem qah {ops:Array Oper} {rest:List Oper} {o:Oper} {a:Act} {Q:Exit→Act→World→Prop} (hgd:o.guard=none) (s x:Operand) (t tx:TypeId)
  (ho:o.op=.call { callee:=.builtin .append,args:=#[s,x],argTypes:=#[t,tx] })
  (base:Nat) (e:TypeId) (i:TypeInfo) (z:Value) (size bytes:Nat) (ht:P.underlying t=some (.slice e)) (hi:P.info? e=some i) (hz:i.zero=some z)
  (hsize:i.size=size) (hby:i.bytes=bytes) (hzs:z.cells.size=size) (hsz:0<size)
  (v:Value) (n:Nat) (xs:List Value) (hs:a.eval s=v) (hown:w.ownsRow base e size v n xs)
  (xv:Value) (m:Nat) (news:List Value) (hx:a.eval x=xv) (hsrc:Src P size tx xv m news w)
  (h63:n+m≤maxLen) (hbytes:(n+m)*bytes≤140737488355328) (hbase:base≤w.heap.size)
  (h:∀ v' w',w'.ownsRow base e size v' (n+m) (xs++news)→w.grownBy w' v.ownBlock→(v'.ownBlock=v.ownBlock∨v'.ownBlock=some w.heap.size)→wpList P ops Q rest (a.put o.dst v') w') :
  wpList P ops Q (o::rest) a w:=by
 refine wpList_plain hgd fun K hK=>?_
 obtain⟨v',w',hr,h2,h3,h4⟩:=qdn (P:=P) w base t tx o.type e i z size bytes ht hi hz hsize hby hzs hsz v n xs hown xv m news hsrc h63 hbytes hbase
 unfold Oper.wp execOp;simp only[ho,resolve,invoke,builtin,Sem.run_bind,Sem.run_pure,Result.andThen_ok,List.map_toArray,List.map_cons,List.map_nil,hs,hx,hr];exact hK _ _ (h v' w' h2 h3 h4)
end
theorem Ext.grown {w wr w1:World} {row:Option Nat} (h:Ext w wr) (hg:wr.grownBy w1 row) (hr:∀ k,row=some k→w.heap.size≤k):Ext w w1 :=
 Ext.of_below (h.below.grown hg h.size hr)
theorem own_more {w:World} {base:Nat} {e:TypeId} {size:Nat} {v:Value} {n:Nat} {xs:List Value} (h:w.ownsRow base e size v n xs) (d:Nat) (os:Array Obj):(more w d os).ownsRow base e size v n xs:=by
 obtain⟨h1,h2⟩:=h
 refine ⟨h1,?_⟩
 rcases h2 with h2 | ⟨g,cap,cur,hv,hg,hh,r⟩
 · exact Or.inl h2
 · have hlt:g<w.heap.size:=by
     rcases Nat.lt_or_ge g w.heap.size with h' | h'
     · exact h'
     · rw[Array.getElem?_eq_none h'] at hh;cases hh
   exact Or.inr ⟨g,cap,cur,hv,hg,by rw[more_heap _ _ _ _ hlt];exact hh,r⟩
theorem own_ext {w w':World} {base:Nat} {e:TypeId} {size:Nat} {v:Value} {n:Nat} {xs:List Value} (h:w.ownsRow base e size v n xs) (hx:Ext w w'):w'.ownsRow base e size v n xs:=by
 obtain⟨d,os,rfl⟩:=hx
 exact own_more h d os
def qag (l:List UInt8):List Value:=l.map fun b=>.int .u8 (b.toNat:Int)
theorem qbE (l:List UInt8) (v:Int) (h0:0≤v) (h:v<256):qag (l++[UInt8.ofNat v.toNat])=qag l++[.int .u8 v]:=by
 have:((UInt8.ofNat v.toNat).toNat:Int)=v:=by simp;omega
 unfold qag;rw[List.map_append];simp only[List.map_cons,List.map_nil,this]
theorem qbS (l m:List UInt8):qag (l++m)=qag l++qag m:=by simp[qag]
theorem cellsB_length (l:List UInt8):(qag l).length=l.length:=by simp[qag]
theorem qcD (l:List UInt8):∀ u∈qag l,u.oneCell'=true:=by
 intro u hu
 obtain⟨_,_,rfl⟩:=List.mem_map.1 hu
 rfl
theorem qfU (s:ByteArray):byteCells s=qag s.data.toList:=rfl
theorem conv_own {P:Program} {w:World} {base:Nat} {src dst e:TypeId} {g cap n:Nat} {l:List UInt8} (hs:P.underlying src=some (.slice e)) (he:P.underlying e=some (.int .u8)) (hd:P.underlying dst=some .string)
  (h:w.ownsRow base e 1 (.slice (some ⟨g,0,none⟩) n cap) n (qag l)):(convert src dst (.slice (some ⟨g,0,none⟩) n cap)).run P w=.ok (.string ⟨l.toArray⟩) w:=by
 have hn:n=l.length:=by have:=h.1;rw[cellsB_length] at this;omega
 subst hn
 refine run_convert_bytes_back w src dst e ⟨g,0,none⟩ cap l hs he hd fun j hj=>?_
 refine h.cells (g:=g) rfl j _ ?_
 simp[qag,List.getElem?_map,List.getElem?_eq_getElem hj]
theorem qga {P:Program} {w:World} {base:Nat} {tx e:TypeId} {g cap n:Nat} {xs:List Value} (hk:P.underlying tx=some (.slice e))
  (h:w.ownsRow base e 1 (.slice (some ⟨g,0,none⟩) n cap) n xs) (h1:∀ u∈xs,u.oneCell'=true):Src P 1 tx (.slice (some ⟨g,0,none⟩) n cap) n xs w :=
 Src.ofSlice w hk ⟨g,0,none⟩ n cap xs h.1 (h.cells (g:=g) rfl) h1
end Go.Proofs.YtpnabjopfpdkhaaGreatDoor
namespace Go.Proofs.YtpnabjopfpdkhaaGreatDoor
open Go.RowKit Go.ChangeShapes Go.WideShapes Go.ChangeAt Go.Joins
theorem qcZ {H:Type} {enc:TypeId × Value→H} {P:Program} (hl:laidOutB P=true) {W W':World} (hb:Below W.heap.size W W') :
  ∀ {ts:List TypeId} {vs:List Value} {ds:List (DataW H)} {ps:List MemPlace},ts.all (fun t=>P.readableRec t&&decide (t<P.types.size))=true→DataW.TrodAll enc P W 0 (fun _=>true) true ts vs ds ps→(∀ x∈ps,x.block<W.heap.size)→DataW.TrodAll enc P W' 0 (fun b=>decide (b<W.heap.size)) true ts vs ds ps
 | [],[],[],_,_,h,_=>h
 | [],_::_,_,_,_,h,_=>h.elim
 | [],[],_::_,_,_,h,_=>h.elim
 | _::_,[],_,_,_,h,_=>h.elim
 | _::_,_::_,[],_,_,h,_=>h.elim
 | t::ts,v::vs,d::ds,ps,hr,⟨p,q,h1,h2,e⟩,hlt=>by
  simp only[List.all_cons,Bool.and_eq_true,decide_eq_true_eq] at hr
  exact⟨p,q,Below.trod hl hr.1.1 hr.1.2 h1 hb (fun x hx=>hlt x (by rw[e];simp[hx])),qcZ hl hb hr.2 h2 (fun x hx=>hlt x (by rw[e];simp[hx])),e⟩
end Go.Proofs.YtpnabjopfpdkhaaGreatDoor
namespace Go.Proofs.YtpnabjopfpdkhaaGreatDoor
open Go.RowKit
variable {w:World}
theorem ret_boolY {a b:Bool} (h:a=b):Ending.returned (.bool a)=.returned (.bool b):=by rw[h]
theorem ret_intY {k:IntKind} {a b:Int} (h:a=b):Ending.returned (.int k a)=.returned (.int k b):=by rw[h]
theorem qff (s:ByteArray):s.toList.isEmpty=(s.size==0):=by
 rw[Lib.toList_data,Bool.eq_iff_iff]
 simp[←ByteArray.size_data,Array.size_eq_zero_iff]
theorem nil_size (s:ByteArray):(s.toList=[])=(s.size=0):=by
 rw[Lib.toList_data]
 simp[←ByteArray.size_data,Array.size_eq_zero_iff]
def mayBY (k i:Int) (s:ByteArray):Bool :=
 (k==0&&i==0&&s.size==0)||(k==1&&(i==0||i==1)&&s.size==0)||(k==2&&s.size==0)||(k==3&&i==0&&decide (s.size≤64))
theorem qcB (k i:Int) (s:ByteArray) (w:World) :
  Calls Tryz.prog 86 #[.agg #[.int .i64 k,.int .i64 i,.string s]] w fun e w'=>e=.returned (.bool (mayBY k i s))∧Ext w w':=by
 go_enter Tryz.func86,Tryz.ntmps86
 go_wp2
 all_goals
  go_ret;refine ⟨ret_boolY ?_,(Ext.refl _).alloc _⟩
  go_tidy
  simp_all[mayBY,qff,nil_size]
 all_goals omega
theorem rmay_anyY (k i:Int) (s:ByteArray) (w:World) :
  Calls Tryz.prog 62 #[.agg #[.int .i64 k,.int .i64 i,.string s]] w fun e w'=>e=.returned (.bool (mayBY k i s))∧Ext w w':=by
 go_enter Tryz.func62,Tryz.ntmps62
 go_wp2
 all_goals
  go_ret;refine ⟨ret_boolY ?_,(Ext.refl _).alloc _⟩
  go_tidy
  simp_all[mayBY,qff,nil_size]
 all_goals omega
def signB (c:UInt8):Bool:=decide (97≤c.toNat∧c.toNat≤122)||decide (48≤c.toNat∧c.toNat≤57)||c==45||c==46||c==47||c==95
def patB (s:ByteArray):Bool:=decide (s.size≤24)&&s.data.toList.all signB
structure It where
 k:ByteArray
 vk:Int
 vi:Int
 vs:ByteArray
 ver:Int
def itL (x:It):List Value:=[.string x.k,.int .i64 x.vk,.int .i64 x.vi,.string x.vs,.int .i64 x.ver]
def qaB:List It→List Value
 | []=>[]
 | x::l=>itL x++qaB l
def ltB (a b:ByteArray):Bool:=Op.bytesLess a.data.toList b.data.toList
theorem bl_total:∀ a b:List UInt8,Op.bytesLess a b=false→Op.bytesLess b a=false→a=b
 | [],[],_,_=>rfl
 | [],_::_,h,_=>by simp[Op.bytesLess] at h
 | _::_,[],_,h=>by simp[Op.bytesLess] at h
 | x::a,y::b,h,k=>by
  unfold Op.bytesLess at h k;simp only[Bool.or_eq_false_iff,Bool.and_eq_false_iff,decide_eq_false_iff_not,UInt8.not_lt] at h k
  have e:x=y:=UInt8.le_antisymm k.1 h.1
  subst e
  have h2:Op.bytesLess a b=false:=by rcases h.2 with q | q;simp at q;exact q
  have k2:Op.bytesLess b a=false:=by rcases k.2 with q | q;simp at q;exact q
  rw[bl_total a b h2 k2]
theorem bl_asym:∀ a b:List UInt8,Op.bytesLess a b=true→Op.bytesLess b a=false
 | [],[],h=>by simp[Op.bytesLess] at h
 | [],_::_,_=>by simp[Op.bytesLess]
 | _::_,[],h=>by simp[Op.bytesLess] at h
 | x::a,y::b,h=>by
  unfold Op.bytesLess at h ⊢;simp only[Bool.or_eq_true,Bool.and_eq_true,decide_eq_true_eq,beq_iff_eq] at h
  rcases h with h | ⟨rfl,h⟩
  · have h1:(decide (y<x))=false:=by simp;exact UInt8.le_of_lt h
    have h2:(y==x)=false:=by rw[beq_eq_false_iff_ne];intro e;subst e;exact UInt8.lt_irrefl _ h
    simp[h1,h2]
  · have h1:(decide (x<x))=false:=by simp[UInt8.lt_irrefl]
    simp[h1,bl_asym a b h]
theorem bl_le (a b:List UInt8):(Op.bytesLess a b||a==b)=!Op.bytesLess b a:=by
 cases h:Op.bytesLess a b with
 | true=>rw[bl_asym a b h];rfl
 | false =>
  cases k:Op.bytesLess b a with
  | true =>
   have e:(a==b)=false:=by rw[beq_eq_false_iff_ne];intro e;subst e;rw[h] at k;cases k
   rw[e];rfl
  | false=>rw[bl_total a b h k];simp
set_option maxRecDepth 20000
def putB (v:Nat):List UInt8:=if v<128 then [UInt8.ofNat v] else UInt8.ofNat (v % 128+128)::putB (v / 128)
termination_by v
decreasing_by omega
theorem qcQ:(Tryz.prog.info? 5).map (fun i=>(i.zero,i.size,i.bytes))=some (some (.int .u8 0),1,1):=by kernel_rfl
theorem or128_fin:∀ n:Fin 256,bits BinOp.or IntKind.u8 (n.val:Int) 128=(n.val:Int) % 128+128:=by decide +kernel
theorem or128 (v:Int) (h:0≤v):bits BinOp.or IntKind.u8 (v % 256) 128=v % 128+128:=by
 have h1:=or128_fin ⟨(v % 256).toNat,by omega⟩
 have e:(((v % 256).toNat:Nat):Int)=v % 256:=by omega
 simp only[e] at h1;rw[h1];omega
theorem qbc:∀ (n:Nat) (v:Nat),v<128 ^ (n+1)→(putB v).length≤n+1:=by
 intro n
 induction n with
 | zero=>intro v h;rw[putB,if_pos zac];simp
 | succ n ih =>
  intro v h;rw[putB]
  split
  · simp
  · have:=ih (v / 128) (by rw[Nat.pow_succ] at h;omega)
    simp;omega
theorem putB_pos (v:Nat):0<(putB v).length:=by rw[putB];split<;>simp
def OwnB (w w':World) (e:Ending) (l:List UInt8):Prop :=
 ∃ g cap,e=.returned (.slice (some ⟨g,0,none⟩) l.length cap)∧w'.ownsRow w.heap.size 5 1 (.slice (some ⟨g,0,none⟩) l.length cap) l.length (qag l)∧Ext w w'
theorem OwnB.mk' {w':World} {v:Value} {l:List UInt8} (hl:0<l.length) (h:w'.ownsRow w.heap.size 5 1 v l.length (qag l)) (hx:Ext w w'):OwnB w w' (.returned v) l:=by
 obtain⟨g,cap,rfl,_,_⟩:=h.form hl
 exact⟨g,cap,rfl,h,hx⟩
theorem qfY {base:Nat} {t:TypeId} (x:Value) (hb:base≤w.heap.size):(w.alloc (.cells #[x] t)).ownsRow base t 1 (.slice (some ⟨w.heap.size,0,none⟩) 1 1) 1 [x] :=
 ⟨rfl,.inr ⟨w.heap.size,1,#[x],rfl,hb,heap_alloc_new w _,Nat.le_refl _,by unfold maxLen;omega,rfl,rfl⟩⟩
theorem qfZ (v0:Int) (h0:0≤v0) (h1:v0≤18446744073709551615) (w:World) :
  Calls Tryz.prog 46 #[.int .u64 v0] w fun e w'=>OwnB w w' e (putB v0.toNat):=by
 obtain⟨i0,hi,hz0,hz1,hz2⟩:=info_parts qcQ
 go_enter Tryz.func46,Tryz.ntmps46;go_wp2_with fail;go_loopw [0,3] (fun vv out wr=>∃ (v:Int) (k:Nat) (done:List UInt8),0≤v∧v≤18446744073709551615∧vv=.int .u64 v∧k=done.length∧done++putB v.toNat=putB v0.toNat∧wr.ownsRow w.heap.size 5 1 out k (qag done)∧Ext w wr) (fun vv _ _=>(intOf vv).toNat)
 case atStart=>exact⟨v0,0,[],h0,h1,rfl,rfl,rfl,World.ownsRow_nil _ _ _ _,Ext.refl _⟩
 case round =>
  obtain⟨v,k,done,hv0,hv1,rfl,hk,hd,hown,hext⟩:=hrel
  have Hd:=Lib.hid hd;have Hk:=Lib.hid hk;clear hd hk
  have hka:k≤10:=by
   have h2:=congrArg List.length Hd.out;have h3:=qbc 9 v0.toNat zac
   have:=Hk.out
   simp at h2;omega
  have hor:=or128 v hv0
  by_cases hlt:v<128
  · go_wp2_with (at_builtin;refine wpList_append_own_at _ rfl _ _ 53 rfl w.heap.size 5 i0 (.int .u8 0) 1 1 Tryz.underlying53 hi hz0 hz1 hz2 rfl zak _ k (qag done) rfl (hown.alloc _) ⟨wr.heap.size,0,none⟩ 1 1 [.int .u8 v] rfl rfl ?c1 ?c2 ?c3 ?c4 ?c5 ?_)
    case c1=>exact cell_one_new _ _ _
    case c2=>first | rfl | (intro u hu;simp at hu;subst hu;rfl)
    case c3=>unfold maxLen;omega
    case c4=>omega
    case c5=>have:=hext.size;simp;omega
    intro v' w1 hown' hgrow _ _
    go_wp2
    go_ret;refine OwnB.mk' (putB_pos _) ?_ ?_
    · have e1:putB v.toNat=[UInt8.ofNat v.toNat]:=by rw[putB,if_pos zac]
      have h2:=Hd.out;rw[e1] at h2;rw[←h2,qbE _ _ hv0 zac]
      have:=Hk.out
      simpa [this] using hown'
    · exact(hext.alloc _).grown hgrow (fun k hk=>(hown.lt k hk).1)
  · go_wp2_with (at_builtin;refine wpList_append_own_at _ rfl _ _ 53 rfl w.heap.size 5 i0 (.int .u8 0) 1 1 Tryz.underlying53 hi hz0 hz1 hz2 rfl zak _ k (qag done) rfl (hown.alloc _) ⟨wr.heap.size,0,none⟩ 1 1 [.int .u8 (v % 128+128)] rfl rfl ?d1 ?d2 ?d3 ?d4 ?d5 ?_)
    try case d1=>exact cell_one_new _ _ _
    case d2=>first | rfl | (intro u hu;simp at hu;subst hu;rfl)
    case d3=>unfold maxLen;omega
    case d4=>omega
    case d5=>have:=hext.size;simp;omega
    intro v' w1 hown' hgrow _ _
    go_wp2
    go_roundw
    case rel =>
     refine ⟨v / 128,k+1,done++[UInt8.ofNat (v % 128+128).toNat],by omega,by omega,rfl,by have:=Hk.out;simp[this],?_,?_,?_⟩
     · rw[←Hd.out]
       have e1:putB v.toNat=UInt8.ofNat (v % 128+128).toNat::putB (v / 128).toNat:=by
        rw[putB,if_neg zac]
        have a1:v.toNat % 128+128=(v % 128+128).toNat:=by omega
        have a2:v.toNat / 128=(v / 128).toNat:=by omega
        rw[a1,a2]
       rw[e1];simp
     · rw[qbE _ _ zac zac];exact hown'
     · exact(hext.alloc _).grown hgrow (fun k hk=>(hown.lt k hk).1)
    case measure=>simp[intOf];omega
theorem nat_xor_ones (x:Nat) (h:x<18446744073709551616):x ^^^ 18446744073709551615=18446744073709551615-x:=by
 have h1:(BitVec.ofNat 64 x ^^^ BitVec.allOnes 64).toNat=(~~~ (BitVec.ofNat 64 x)).toNat:=by rw[BitVec.xor_allOnes]
 rw[BitVec.toNat_xor,BitVec.toNat_not,BitVec.toNat_allOnes,BitVec.toNat_ofNat,Nat.mod_eq_of_lt zbn] at h1
 simpa using h1
theorem xor_zero (a:Int) (h0:0≤a) (h1:a<18446744073709551616):bits BinOp.xor IntKind.u64 a 0=a:=by
 rw[u64_xor a 0 h0 h1 zac zac]
 simp;omega
theorem xor_ones (a:Int) (h0:0≤a) (h1:a<18446744073709551616):bits BinOp.xor IntKind.u64 a 18446744073709551615=18446744073709551615-a:=by
 rw[u64_xor a 18446744073709551615 h0 h1 zac zac]
 have e:(18446744073709551615:Int).toNat=18446744073709551615:=rfl
 rw[e,nat_xor_ones a.toNat zac]
 omega
def zigZ (v:Int):Int:=if 0≤v then 2*v else 2*(-(v+1))+1
theorem zigZ_bd (v:Int) (h0:-9223372036854775808≤v) (h1:v≤9223372036854775807):0≤zigZ v∧zigZ v≤18446744073709551615:=by unfold zigZ;split<;>omega
theorem zig_pos (v:Int) (h0:0≤v) (h1:v≤9223372036854775807):bits BinOp.xor IntKind.u64 (v*2) (v / 9223372036854775808)=zigZ v:=by
 have:v / 9223372036854775808=0:=by omega
 rw[this,xor_zero _ zac zac,zigZ,if_pos h0];omega
theorem zig_neg (v:Int) (h0:v<0) (h1:-9223372036854775808≤v) :
  bits BinOp.xor IntKind.u64 (IntKind.u64.wrap (IntKind.u64.wrap v*2)) (IntKind.u64.wrap (v / 9223372036854775808))=zigZ v:=by
 have e1:v / 9223372036854775808=-1:=by omega
 have w64:∀ n:Int,IntKind.u64.wrap n=n % 18446744073709551616:=fun n=>by simp[IntKind.wrap,IntKind.bits,IntKind.signed]
 rw[e1,w64,w64,w64]
 have e2:(-1:Int) % 18446744073709551616=18446744073709551615:=rfl
 rw[e2,xor_ones _ zac zac,zigZ,if_neg zac];omega
theorem zig_any (v:Int) (h0:-9223372036854775808≤v) (h1:v≤9223372036854775807) (w:World) :
  Calls Tryz.prog 115 #[.int .i64 v] w fun e w'=>e=.returned (.int .u64 (zigZ v))∧Ext w w':=by
 by_cases hv:0≤v
 · go_enter Tryz.func115,Tryz.ntmps115
   go_wp2
   go_ret
   exact⟨ret_intY (zig_pos v hv h1),Ext.refl _⟩
 · have hv':v<0:=by omega
   go_enter Tryz.func115,Tryz.ntmps115
   go_wp2
   go_ret
   exact⟨ret_intY (zig_neg v hv' h0),Ext.refl _⟩
theorem putint_any (v:Int) (h0:-9223372036854775808≤v) (h1:v≤9223372036854775807) (w:World) :
  Calls Tryz.prog 102 #[.int .i64 v] w fun e w'=>OwnB w w' e (putB (zigZ v).toNat):=by
 obtain⟨b0,b1⟩:=zigZ_bd v h0 h1
 go_enter Tryz.func102,Tryz.ntmps102
 go_wp2_with (first
  | (go_at_call 115;refine (zig_any v h0 h1 _).mono ?_;rintro e _ ⟨rfl,d,os,rfl⟩)
  | (go_at_call 46;refine (qfZ (zigZ v) b0 b1 _).mono ?_;rintro e w1 ⟨g,cap,rfl,ho,he⟩))
 go_ret
 exact⟨_,_,rfl,ho.mono zbf,((Ext.refl _).more _ _).trans he⟩
theorem puttext_any (s:ByteArray) (hs:(s.size:Int)≤255) (w:World) :
  Calls Tryz.prog 80 #[.string s] w fun e w'=>OwnB w w' e (putB s.size++s.data.toList):=by
 obtain⟨i0,hi,hz0,hz1,hz2⟩:=info_parts qcQ
 have hl:=qbc 1 s.size zac;go_enter Tryz.func80,Tryz.ntmps80
 go_wp2_with (first
  | (go_at_call 46;refine (qfZ _ zac zac _).mono ?_;rintro e w1 ⟨g,cap,rfl,ho,he⟩;simp only[Int.toNat_natCast] at ho)
  | (at_builtin;refine qah _ rfl _ _ 53 9 rfl w.heap.size 5 i0 (.int .u8 0) 1 1 Tryz.underlying53 hi hz0 hz1 hz2 rfl zak _ _ _ rfl ho _ s.size _ rfl (Src.ofString _ Tryz.underlying9 s) ?c3 ?c4 ?c5 ?_))
 case c3=>unfold maxLen;omega
 case c4=>omega
 case c5=>exact he.size
 intro v' w2 hown' hgrow _
 go_wp2
 go_ret;refine OwnB.mk' (by have:=putB_pos s.size;simp;omega) ?_ (he.grown hgrow fun k hk=>(ho.lt k hk).1);rw[qfU,←qbS] at hown'
 simpa using hown'
theorem news_one {N:Nat} {x:Value} (h:w.cell? ⟨N,0,none⟩=some x):∀ j u,[x][j]?=some u→w.cell? ((⟨N,0,none⟩:Addr).add j)=some u:=by
 intro j u hu
 match j,hu with
 | 0,hu=>simp at hu;subst hu;simpa [Addr.add] using h
 | j+1,hu=>simp at hu
def encB (k i:Int) (s:ByteArray):List UInt8 :=
 if k=1 then [1,UInt8.ofNat i.toNat] else if k=2 then 2::putB (zigZ i).toNat else if k=3 then 3::(putB s.size++s.data.toList) else [0]
theorem enc_nil (s:ByteArray) (h:mayBY 0 0 s=true) (w:World) :
  Calls Tryz.prog 87 #[.agg #[.int .i64 0,.int .i64 0,.string s]] w fun e w'=>OwnB w w' e [0]:=by
 go_enter Tryz.func87,Tryz.ntmps87
 go_wp2_with (go_at_call 86;refine (qcB _ _ _ _).mono ?_;rintro e _ ⟨rfl,d,os,rfl⟩)
 go_ret
 exact⟨_,_,rfl,by simpa [more_size,qag] using (qfY (w:=more (w.alloc (.cells #[.int .i64 0,.int .i64 0,.string s] 45)) d os) (t:=5) (.int .u8 0) (Nat.le_refl _)).mono (base':=w.heap.size) (by simp[more_size];omega),zab⟩
theorem enc_bool (i:Int) (s:ByteArray) (h0:0≤i) (h1:i≤1) (h:mayBY 1 i s=true) (w:World) :
  Calls Tryz.prog 87 #[.agg #[.int .i64 1,.int .i64 i,.string s]] w fun e w'=>OwnB w w' e [1,UInt8.ofNat i.toNat]:=by
 obtain⟨i0,hi,hz0,hz1,hz2⟩:=info_parts qcQ
 go_enter Tryz.func87,Tryz.ntmps87
 go_wp2_with (first
  | (go_at_call 86;refine (qcB _ _ _ _).mono ?_;rintro e _ ⟨rfl,d,os,rfl⟩)
  | (at_builtin;refine qah _ rfl _ _ 53 53 rfl w.heap.size 5 i0 (.int .u8 0) 1 1 Tryz.underlying53 hi hz0 hz1 hz2 rfl zak (.slice (some ⟨w.heap.size+1+os.size,0,none⟩) 1 1) 1 [.int .u8 1] rfl ?c1 _ 1 [.int .u8 i] rfl ?c2 ?c3 ?c4 ?c5 ?_))
 case c1=>simpa [more_size] using ((qfY (w:=more (w.alloc (.cells #[.int .i64 1,.int .i64 i,.string s] 45)) d os) (t:=5) (.int .u8 1) (Nat.le_refl _)).alloc _).mono (base':=w.heap.size) (by simp[more_size];omega)
 case c2=>exact Src.ofSlice _ Tryz.underlying53 _ _ _ [.int .u8 i] rfl (news_one (by simp[go_sem])) zbh
 case c3=>unfold maxLen;omega
 case c4=>omega
 case c5=>simp[more_size];omega
 intro v' w2 hown' hgrow _
 go_wp2
 go_ret;refine OwnB.mk' zaj ?_ (Ext.grown zab hgrow (by intro k hk;simp[Value.ownBlock] at hk;omega))
 have e:qag [1,UInt8.ofNat i.toNat]=[.int .u8 1]++[.int .u8 i]:=qbE [1] i h0 zac
 rw[e];simpa using hown'
theorem enc_int (i:Int) (s:ByteArray) (h0:-9223372036854775808≤i) (h1:i≤9223372036854775807) (h:mayBY 2 i s=true) (w:World) :
  Calls Tryz.prog 87 #[.agg #[.int .i64 2,.int .i64 i,.string s]] w fun e w'=>OwnB w w' e (2::putB (zigZ i).toNat):=by
 obtain⟨i0,hi,hz0,hz1,hz2⟩:=info_parts qcQ
 have hlen:(putB (zigZ i).toNat).length≤1000:=by
  have:=zigZ_bd i h0 h1;have:=qbc 9 (zigZ i).toNat zac;omega
 obtain⟨l,hl⟩:∃ l,putB (zigZ i).toNat=l:=⟨_,rfl⟩
 rw[hl] at hlen ⊢;have Hl:=Lib.hid hl;clear hl;go_enter Tryz.func87,Tryz.ntmps87
 go_wp2_with (first
  | (go_at_call 86;refine (qcB _ _ _ _).mono ?_;rintro e _ ⟨rfl,d,os,rfl⟩)
  | (go_at_call 102;refine (putint_any i h0 h1 _).mono ?_;rw[Hl.out];rintro e _ ⟨g,cap,rfl,ho,d2,os2,rfl⟩)
  | (at_builtin;refine qah _ rfl _ _ 53 53 rfl w.heap.size 5 i0 (.int .u8 0) 1 1 Tryz.underlying53 hi hz0 hz1 hz2 rfl zak (.slice (some ⟨w.heap.size+1+os.size,0,none⟩) 1 1) 1 [.int .u8 2] rfl ?c1 (.slice (some ⟨g,0,none⟩) l.length cap) l.length (qag l) rfl ?c2 ?c3 ?c4 ?c5 ?_))
 case c1=>exact own_more (by simpa [more_size] using (qfY (w:=more (w.alloc (.cells #[.int .i64 2,.int .i64 i,.string s] 45)) d os) (t:=5) (.int .u8 2) (Nat.le_refl _)).mono (base':=w.heap.size) (by simp[more_size];omega)) _ _
 case c2=>exact qga Tryz.underlying53 ho (qcD l)
 case c3=>unfold maxLen;omega
 case c4=>omega
 case c5=>simp[more_size];omega
 intro v' w2 hown' hgrow _
 go_wp2
 go_ret;refine OwnB.mk' zaj ?_ (Ext.grown zab hgrow (by intro k hk;simp[Value.ownBlock] at hk;omega))
 have e:qag (2::l)=[.int .u8 2]++qag l:=rfl
 rw[e,List.length_cons]
 have a1:l.length+1=1+l.length:=by omega
 rw[a1];exact hown'
theorem enc_text (s:ByteArray) (hs:(s.size:Int)≤64) (h:mayBY 3 0 s=true) (w:World) :
  Calls Tryz.prog 87 #[.agg #[.int .i64 3,.int .i64 0,.string s]] w fun e w'=>OwnB w w' e (3::(putB s.size++s.data.toList)):=by
 obtain⟨i0,hi,hz0,hz1,hz2⟩:=info_parts qcQ
 have hlen:((putB s.size++s.data.toList)).length≤1000:=by
  have:=qbc 1 s.size zac;have e:s.data.toList.length=s.size:=by simp
  rw[List.length_append,e];omega
 obtain⟨l,hl⟩:∃ l,(putB s.size++s.data.toList)=l:=⟨_,rfl⟩
 rw[hl] at hlen ⊢;have Hl:=Lib.hid hl;clear hl;go_enter Tryz.func87,Tryz.ntmps87
 go_wp2_with (first
  | (go_at_call 86;refine (qcB _ _ _ _).mono ?_;rintro e _ ⟨rfl,d,os,rfl⟩)
  | (go_at_call 80;refine (puttext_any s zac _).mono ?_;rw[Hl.out];rintro e _ ⟨g,cap,rfl,ho,d2,os2,rfl⟩)
  | (at_builtin;refine qah _ rfl _ _ 53 53 rfl w.heap.size 5 i0 (.int .u8 0) 1 1 Tryz.underlying53 hi hz0 hz1 hz2 rfl zak (.slice (some ⟨w.heap.size+1+os.size,0,none⟩) 1 1) 1 [.int .u8 3] rfl ?c1 (.slice (some ⟨g,0,none⟩) l.length cap) l.length (qag l) rfl ?c2 ?c3 ?c4 ?c5 ?_))
 case c1=>exact own_more (by simpa [more_size] using (qfY (w:=more (w.alloc (.cells #[.int .i64 3,.int .i64 0,.string s] 45)) d os) (t:=5) (.int .u8 3) (Nat.le_refl _)).mono (base':=w.heap.size) (by simp[more_size];omega)) _ _
 case c2=>exact qga Tryz.underlying53 ho (qcD l)
 case c3=>unfold maxLen;omega
 case c4=>omega
 case c5=>simp[more_size];omega
 intro v' w2 hown' hgrow _
 go_wp2
 go_ret;refine OwnB.mk' zaj ?_ (Ext.grown zab hgrow (by intro k hk;simp[Value.ownBlock] at hk;omega))
 have e:qag (3::l)=[.int .u8 3]++qag l:=rfl
 rw[e,List.length_cons]
 have a1:l.length+1=1+l.length:=by omega
 rw[a1];exact hown'
theorem rput_any (v0:Int) (h0:0≤v0) (h1:v0≤18446744073709551615) (w:World) :
  Calls Tryz.prog 42 #[.int .u64 v0] w fun e w'=>e=.returned (.string ⟨(putB v0.toNat).toArray⟩)∧Ext w w':=by
 obtain⟨i0,hi,hz0,hz1,hz2⟩:=info_parts qcQ
 go_enter Tryz.func42,Tryz.ntmps42;go_wp2_with fail;go_loopw [0,3] (fun vv out wr=>∃ (v:Int) (k:Nat) (done:List UInt8),0≤v∧v≤18446744073709551615∧vv=.int .u64 v∧k=done.length∧done++putB v.toNat=putB v0.toNat∧wr.ownsRow w.heap.size 5 1 out k (qag done)∧Ext w wr) (fun vv _ _=>(intOf vv).toNat)
 case atStart=>exact⟨v0,0,[],h0,h1,rfl,rfl,rfl,World.ownsRow_nil _ _ _ _,Ext.refl _⟩
 case round =>
  obtain⟨v,k,done,hv0,hv1,rfl,hk,hd,hown,hext⟩:=hrel
  have Hd:=Lib.hid hd;have Hk:=Lib.hid hk;clear hd hk
  have hka:k≤10:=by
   have h2:=congrArg List.length Hd.out;have h3:=qbc 9 v0.toNat zac
   have:=Hk.out
   simp at h2;omega
  have hor:=or128 v hv0
  by_cases hlt:v<128
  · go_wp2_with (at_builtin;refine wpList_append_own_at _ rfl _ _ 53 rfl w.heap.size 5 i0 (.int .u8 0) 1 1 Tryz.underlying53 hi hz0 hz1 hz2 rfl zak _ k (qag done) rfl (hown.alloc _) ⟨wr.heap.size,0,none⟩ 1 1 [.int .u8 v] rfl rfl ?c1 ?c2 ?c3 ?c4 ?c5 ?_)
    case c1=>exact cell_one_new _ _ _
    case c2=>first | rfl | (intro u hu;simp at hu;subst hu;rfl)
    case c3=>unfold maxLen;omega
    case c4=>omega
    case c5=>have:=hext.size;simp;omega
    intro v' w1 hown' hgrow _ _
    have e1:putB v.toNat=[UInt8.ofNat v.toNat]:=by rw[putB,if_pos zac]
    have h2:=Hd.out;rw[e1] at h2;rw[←qbE _ _ hv0 zac,h2] at hown';have hx:=(hext.alloc (.cells #[.int .u8 v] 5)).grown hgrow (fun k hk=>(hown.lt k hk).1)
    obtain⟨g,cap,hv',_,_⟩:=hown'.form zac
    rw[hv'] at hown' ⊢;have hcv:=conv_own (P:=Tryz.prog) (src:=53) (dst:=9) Tryz.underlying53 Tryz.underlying5 Tryz.underlying9 hown';clear e1 h2 hown' hgrow hv'
    go_wp2
    go_ret
    exact⟨rfl,hx⟩
  · go_wp2_with (at_builtin;refine wpList_append_own_at _ rfl _ _ 53 rfl w.heap.size 5 i0 (.int .u8 0) 1 1 Tryz.underlying53 hi hz0 hz1 hz2 rfl zak _ k (qag done) rfl (hown.alloc _) ⟨wr.heap.size,0,none⟩ 1 1 [.int .u8 (v % 128+128)] rfl rfl ?d1 ?d2 ?d3 ?d4 ?d5 ?_)
    try case d1=>exact cell_one_new _ _ _
    case d2=>first | rfl | (intro u hu;simp at hu;subst hu;rfl)
    case d3=>unfold maxLen;omega
    case d4=>omega
    case d5=>have:=hext.size;simp;omega
    intro v' w1 hown' hgrow _ _
    go_wp2
    go_roundw
    case rel =>
     refine ⟨v / 128,k+1,done++[UInt8.ofNat (v % 128+128).toNat],by omega,by omega,rfl,by have:=Hk.out;simp[this],?_,?_,?_⟩
     · rw[←Hd.out]
       have e1:putB v.toNat=UInt8.ofNat (v % 128+128).toNat::putB (v / 128).toNat:=by
        rw[putB,if_neg zac]
        have a1:v.toNat % 128+128=(v % 128+128).toNat:=by omega
        have a2:v.toNat / 128=(v / 128).toNat:=by omega
        rw[a1,a2]
       rw[e1];simp
     · rw[qbE _ _ zac zac];exact hown'
     · exact(hext.alloc _).grown hgrow (fun k hk=>(hown.lt k hk).1)
    case measure=>simp[intOf];omega
theorem rtext_any (s:ByteArray) (hs:(s.size:Int)≤9223372036854775000) (w:World) :
  Calls Tryz.prog 61 #[.string s] w fun e w'=>e=.returned (.string (⟨(putB s.size).toArray⟩++s))∧Ext w w':=by
 have hl:=qbc 9 s.size zac;go_enter Tryz.func61,Tryz.ntmps61
 go_wp2_with (go_at_call 42;refine (rput_any (s.size:Int) zac zac _).mono ?_;rw[Int.toNat_natCast];rintro e _ ⟨rfl,d,os,rfl⟩)
 go_ret
 exact⟨rfl,(Ext.refl _).more _ _⟩
theorem may_cases {k i:Int} {s:ByteArray} (h:mayBY k i s=true) :
  (k=0∧i=0∧s.size=0)∨(k=1∧0≤i∧i≤1∧s.size=0)∨(k=2∧s.size=0)∨(k=3∧i=0∧s.size≤64):=by
 unfold mayBY at h;simp only[Bool.or_eq_true,Bool.and_eq_true,beq_iff_eq,decide_eq_true_eq] at h
 omega
theorem enc_any (k i:Int) (s:ByteArray) (h:mayBY k i s=true) (h0:-9223372036854775808≤i) (h1:i≤9223372036854775807) (w:World) :
  Calls Tryz.prog 87 #[.agg #[.int .i64 k,.int .i64 i,.string s]] w fun e w'=>OwnB w w' e (encB k i s):=by
 rcases may_cases h with ⟨rfl,rfl,_⟩ | ⟨rfl,a,b,_⟩ | ⟨rfl,_⟩ | ⟨rfl,rfl,a⟩
 · exact enc_nil s h w
 · exact enc_bool i s a b h w
 · exact enc_int i s h0 h1 h w
 · exact enc_text s zac h w
theorem bl_step {x:UInt8} {a b:List UInt8}:Op.bytesLess (x::a) (x::b)=Op.bytesLess a b:=by
 have h1:(decide (x<x))=false:=by simp[UInt8.lt_irrefl]
 conv=>lhs;unfold Op.bytesLess
 simp[h1]
theorem bl_at:∀ (i:Nat) (a b:List UInt8) (ha:i<a.length) (hb:i<b.length),a.take i=b.take i→a[i]≠b[i]→Op.bytesLess a b=decide (a[i].toNat<b[i].toNat)
 | _,[],_,ha,_,_,_=>by simp at ha
 | _,_::_,[],_,hb,_,_=>by simp at hb
 | 0,x::a,y::b,ha,hb,_,hn=>by
  have h2:(x==y)=false:=by simpa using hn
  unfold Op.bytesLess;simp only[List.getElem_cons_zero,h2,Bool.false_and,Bool.or_false]
  rfl
 | i+1,x::a,y::b,ha,hb,ht,hn=>by
  simp only[List.take_succ_cons,List.cons.injEq] at ht
  obtain⟨rfl,ht⟩:=ht
  rw[bl_step]
  simpa using bl_at i a b (by simpa using ha) (by simpa using hb) ht (by simpa using hn)
theorem bl_end:∀ (m:Nat) (a b:List UInt8),a.take m=b.take m→(m=a.length∨m=b.length)→m≤a.length→m≤b.length→Op.bytesLess a b=decide (a.length<b.length)
 | 0,a,b,_,hm,_,_=>by
  rcases hm with h | h
  · cases a with
    | nil=>cases b with
     | nil=>rfl
     | cons y b=>simp[Op.bytesLess]
    | cons x a=>simp at h
  · cases b with
    | nil=>cases a with
     | nil=>rfl
     | cons y b=>simp[Op.bytesLess]
    | cons x a=>simp at h
 | m+1,a,b,ht,hm,ha,hb=>by
  cases a with
  | nil=>simp at ha
  | cons x a =>
   cases b with
   | nil=>simp at hb
   | cons y b =>
    simp only[List.take_succ_cons,List.cons.injEq] at ht
    obtain⟨rfl,ht⟩:=ht
    rw[bl_step,bl_end m a b ht (by simpa using hm) (by simpa using ha) (by simpa using hb)]
    simp
end Go.Proofs.YtpnabjopfpdkhaaGreatDoor
