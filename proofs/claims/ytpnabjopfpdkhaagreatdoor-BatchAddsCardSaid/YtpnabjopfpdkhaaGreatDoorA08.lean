/- Lemmas. -/
import Derived.Test.YtpnabjopfpdkhaaGreatDoorA02
import Derived.Test.YtpnabjopfpdkhaaGreatDoorA04
import Derived.Test.YtpnabjopfpdkhaaGreatDoorA07
import Derived.Maps.Own
import Derived.Maps.OwnSet
import Derived.Maps.Views
import Derived.StringKeys
import Derived.Deep.OwnRows
import Derived.OpenShut
import Derived.Deep.Slices
import Derived.Deep.Fields
set_option linter.unusedSimpArgs false
set_option linter.unusedVariables false
set_option maxHeartbeats 4000000
set_option maxRecDepth 20000
namespace Go.Proofs.YtpnabjopfpdkhaaGreatDoor
open Go.RowKit
variable {W w:World} {nv:Value} {ns:List Nd} {fi:Int} {b k:Nat}
attribute [go_sem] more_more Array.size_append
open Go.Maps (Keyed string_keyed IsMap)
def closeTab:List (List UInt8 × Int):=[([111,114],0),([97,110,100],1),([61,61],2),([33,61],2),([60],2),([60,61],2),([62],2),([62,61],2),([46,46],3),([43],4),([45],4),([42],5),([47],5),([37],5)]
def qce (l:List UInt8):Option Int:=(closeTab.find? fun p=>p.1==l).map fun p=>p.2
def closeD:DataW Unit:=closeTab.foldl (fun D p=>D.put (.string p.1) (.lit (.int .i64 p.2))) (.map [])
theorem lawSM:Keyed Tryz.prog 9:=string_keyed Tryz.underlying9
theorem zeroIM (w:World):(zeroValue 3).run Tryz.prog w=.ok (.int .i64 0) w:=by kernel_rfl
theorem close_mem (l:List UInt8):(l=[111,114]∨l=[97,110,100]∨l=[61,61]∨l=[33,61]∨l=[60]∨l=[60,61]∨l=[62]∨l=[62,61]∨l=[46,46]∨l=[43]∨l=[45]∨l=[42]∨l=[47]∨l=[37])∨(([111,114]==l)=false∧([97,110,100]==l)=false∧([61,61]==l)=false∧([33,61]==l)=false∧([60]==l)=false∧([60,61]==l)=false∧([62]==l)=false∧([62,61]==l)=false∧([46,46]==l)=false∧([43]==l)=false∧([45]==l)=false∧([42]==l)=false∧([47]==l)=false∧([37]==l)=false):=by
 by_cases h:l=[111,114]∨l=[97,110,100]∨l=[61,61]∨l=[33,61]∨l=[60]∨l=[60,61]∨l=[62]∨l=[62,61]∨l=[46,46]∨l=[43]∨l=[45]∨l=[42]∨l=[47]∨l=[37]
 · exact Or.inl h
 · right
   have k:∀ x:List UInt8,l≠x→(x==l)=false:=fun x hx=>by simpa using fun e=>hx e.symm
   simp only[not_or] at h
   obtain⟨a0,a1,a2,a3,a4,a5,a6,a7,a8,a9,a10,a11,a12,a13⟩:=h
   exact⟨k _ a0,k _ a1,k _ a2,k _ a3,k _ a4,k _ a5,k _ a6,k _ a7,k _ a8,k _ a9,k _ a10,k _ a11,k _ a12,k _ a13⟩
def closeKeys:Bool:=match closeD with
 | .map es=>es.all fun p=>match p.1 with
  | .string a=>closeTab.any fun q=>q.1==a
  | _=>false
 | _=>false
theorem closeKeys_ok:closeKeys=true:=by kernel_rfl
theorem close_key (l:List UInt8):Maps.has closeD (.string l)=(qce l).isSome∧closeD.atKey (.string l) (.lit (.int .i64 0))=.lit (.int .i64 ((qce l).getD 0)):=by
 rcases close_mem l with h | h
 · rcases h with rfl | rfl | rfl | rfl | rfl | rfl | rfl | rfl | rfl | rfl | rfl | rfl | rfl | rfl<;>exact⟨by kernel_rfl,by kernel_rfl⟩
 obtain⟨a0,a1,a2,a3,a4,a5,a6,a7,a8,a9,a10,a11,a12,a13⟩:=h
 have hn:qce l=none:=by
  unfold qce closeTab;simp only[List.find?_cons,List.find?_nil,a0,a1,a2,a3,a4,a5,a6,a7,a8,a9,a10,a11,a12,a13]
  rfl
 rw[hn]
 have hno:∀ a:List UInt8,(closeTab.any fun q=>q.1==a)=true→(a==l)=false:=by
  intro a ha;simp only[closeTab,List.any_cons,List.any_nil,Bool.or_false,Bool.or_eq_true,beq_iff_eq] at ha;rcases ha with rfl | rfl | rfl | rfl | rfl | rfl | rfl | rfl | rfl | rfl | rfl | rfl | rfl | rfl
  all_goals assumption
 have hk:=closeKeys_ok;unfold closeKeys at hk
 cases hD:closeD with
 | map es =>
  rw[hD] at hk
  have hf:∀ p∈es,p.1.sameKey (.string l)=false:=by
   intro p hp;have h1:=List.all_eq_true.1 hk p hp
   rcases p with ⟨k,d⟩
   cases k with
   | string a=>exact hno a h1
   | _=>cases h1
  refine ⟨?_,?_⟩
  · rw[Maps.has_eq]
    rw[List.any_eq_false.2 (fun p hp=>by rw[hf p hp];simp)];rfl
  · unfold DataW.atKey
    dsimp only;rw[List.find?_eq_none.2 (fun p hp=>by rw[hf p hp];simp)];rfl
 | _=>rw[hD] at hk;cases hk
theorem qfQ (w:World):Calls Tryz.prog 230 #[] w fun e w'=>∃ B,e=.returned (.map (some B))∧w'.ownsMap Tryz.prog 9 (plainElem Tryz.prog 3) B 14 closeD∧Ext w w':=by
 have hmm:=@run_makeMap Tryz.prog;have HO0:=World.ownsMap_made w Tryz.prog 9 (plainElem (H:=Unit) Tryz.prog 3)
 have HX0:Ext w (w.alloc (.map #[] 0)):=(Ext.refl w).alloc _
 obtain⟨w1,hr1,HO1,hg1⟩:=HO0.update lawSM Tryz.underlying283 zbk (key:=.string ⟨#[111,114]⟩) (val:=.int .i64 0) (WideMaps.keyOf_string_mk Tryz.underlying9 zak) (plainElem_int Tryz.underlying3 zak)
 have HX1:Ext w w1:=HX0.grown hg1 (fun k hk=>by simp at hk;omega)
 obtain⟨w2,hr2,HO2,hg2⟩:=HO1.update lawSM Tryz.underlying283 zbk (key:=.string ⟨#[97,110,100]⟩) (val:=.int .i64 1) (WideMaps.keyOf_string_mk Tryz.underlying9 zak) (plainElem_int Tryz.underlying3 zak)
 have HX2:Ext w w2:=HX1.grown hg2 (fun k hk=>by simp at hk;omega)
 obtain⟨w3,hr3,HO3,hg3⟩:=HO2.update lawSM Tryz.underlying283 zbk (key:=.string ⟨#[61,61]⟩) (val:=.int .i64 2) (WideMaps.keyOf_string_mk Tryz.underlying9 zak) (plainElem_int Tryz.underlying3 zak)
 have HX3:Ext w w3:=HX2.grown hg3 (fun k hk=>by simp at hk;omega)
 obtain⟨w4,hr4,HO4,hg4⟩:=HO3.update lawSM Tryz.underlying283 zbk (key:=.string ⟨#[33,61]⟩) (val:=.int .i64 2) (WideMaps.keyOf_string_mk Tryz.underlying9 zak) (plainElem_int Tryz.underlying3 zak)
 have HX4:Ext w w4:=HX3.grown hg4 (fun k hk=>by simp at hk;omega)
 obtain⟨w5,hr5,HO5,hg5⟩:=HO4.update lawSM Tryz.underlying283 zbk (key:=.string ⟨#[60]⟩) (val:=.int .i64 2) (WideMaps.keyOf_string_mk Tryz.underlying9 zak) (plainElem_int Tryz.underlying3 zak)
 have HX5:Ext w w5:=HX4.grown hg5 (fun k hk=>by simp at hk;omega)
 obtain⟨w6,hr6,HO6,hg6⟩:=HO5.update lawSM Tryz.underlying283 zbk (key:=.string ⟨#[60,61]⟩) (val:=.int .i64 2) (WideMaps.keyOf_string_mk Tryz.underlying9 zak) (plainElem_int Tryz.underlying3 zak)
 have HX6:Ext w w6:=HX5.grown hg6 (fun k hk=>by simp at hk;omega)
 obtain⟨w7,hr7,HO7,hg7⟩:=HO6.update lawSM Tryz.underlying283 zbk (key:=.string ⟨#[62]⟩) (val:=.int .i64 2) (WideMaps.keyOf_string_mk Tryz.underlying9 zak) (plainElem_int Tryz.underlying3 zak)
 have HX7:Ext w w7:=HX6.grown hg7 (fun k hk=>by simp at hk;omega)
 obtain⟨w8,hr8,HO8,hg8⟩:=HO7.update lawSM Tryz.underlying283 zbk (key:=.string ⟨#[62,61]⟩) (val:=.int .i64 2) (WideMaps.keyOf_string_mk Tryz.underlying9 zak) (plainElem_int Tryz.underlying3 zak)
 have HX8:Ext w w8:=HX7.grown hg8 (fun k hk=>by simp at hk;omega)
 obtain⟨w9,hr9,HO9,hg9⟩:=HO8.update lawSM Tryz.underlying283 zbk (key:=.string ⟨#[46,46]⟩) (val:=.int .i64 3) (WideMaps.keyOf_string_mk Tryz.underlying9 zak) (plainElem_int Tryz.underlying3 zak)
 have HX9:Ext w w9:=HX8.grown hg9 (fun k hk=>by simp at hk;omega)
 obtain⟨w10,hr10,HO10,hg10⟩:=HO9.update lawSM Tryz.underlying283 zbk (key:=.string ⟨#[43]⟩) (val:=.int .i64 4) (WideMaps.keyOf_string_mk Tryz.underlying9 zak) (plainElem_int Tryz.underlying3 zak)
 have HX10:Ext w w10:=HX9.grown hg10 (fun k hk=>by simp at hk;omega)
 obtain⟨w11,hr11,HO11,hg11⟩:=HO10.update lawSM Tryz.underlying283 zbk (key:=.string ⟨#[45]⟩) (val:=.int .i64 4) (WideMaps.keyOf_string_mk Tryz.underlying9 zak) (plainElem_int Tryz.underlying3 zak)
 have HX11:Ext w w11:=HX10.grown hg11 (fun k hk=>by simp at hk;omega)
 obtain⟨w12,hr12,HO12,hg12⟩:=HO11.update lawSM Tryz.underlying283 zbk (key:=.string ⟨#[42]⟩) (val:=.int .i64 5) (WideMaps.keyOf_string_mk Tryz.underlying9 zak) (plainElem_int Tryz.underlying3 zak)
 have HX12:Ext w w12:=HX11.grown hg12 (fun k hk=>by simp at hk;omega)
 obtain⟨w13,hr13,HO13,hg13⟩:=HO12.update lawSM Tryz.underlying283 zbk (key:=.string ⟨#[47]⟩) (val:=.int .i64 5) (WideMaps.keyOf_string_mk Tryz.underlying9 zak) (plainElem_int Tryz.underlying3 zak)
 have HX13:Ext w w13:=HX12.grown hg13 (fun k hk=>by simp at hk;omega)
 obtain⟨w14,hr14,HO14,hg14⟩:=HO13.update lawSM Tryz.underlying283 zbk (key:=.string ⟨#[37]⟩) (val:=.int .i64 5) (WideMaps.keyOf_string_mk Tryz.underlying9 zak) (plainElem_int Tryz.underlying3 zak)
 have HX14:Ext w w14:=HX13.grown hg14 (fun k hk=>by simp at hk;omega)
 clear HO0 HO1 HO2 HO3 HO4 HO5 HO6 HO7 HO8 HO9 HO10 HO11 HO12 HO13 HX0 HX1 HX2 HX3 HX4 HX5 HX6 HX7 HX8 HX9 HX10 HX11 HX12 HX13 hg1 hg2 hg3 hg4 hg5 hg6 hg7 hg8 hg9 hg10 hg11 hg12 hg13 hg14;have H1:=Lib.hid HO14;have H2:=Lib.hid HX14;clear HO14 HX14;go_enter Tryz.func230,Tryz.ntmps230;go_wp2_with fail;go_ret
 exact⟨_,rfl,H1.out,H2.out⟩
def qbh (k:Int) (s:ByteArray):Int:=if k<0∨11<k then -1 else if k<11 then 6 else(qce s.data.toList).getD (-1)
theorem look_close {B:Nat} (h:w.ownsMap Tryz.prog 9 (plainElem (H:=Unit) Tryz.prog 3) B 14 closeD) (s:ByteArray) (hs:s.size≤maxLen) :
  (Instr.lookup 283 (.map (some B)) (.string s) true).run Tryz.prog w=.ok (.tuple #[.int .i64 ((qce s.data.toList).getD 0),.bool (qce s.data.toList).isSome]) w:=by
 obtain⟨v,ps,hr,hv⟩:=h.look_ok lawSM Tryz.underlying283 (zeroIM w) (plainElem_int Tryz.underlying3 zak) (WideMaps.keyOf_string_mk Tryz.underlying9 hs)
 obtain⟨h7,h8⟩:=close_key s.data.toList
 rw[h7] at hr;rw[h8] at hv
 obtain⟨a,rfl,ha,_⟩:=plainElem_int_inv Tryz.underlying3 hv
 simp only[Prod.mk.injEq,DataW.lit.injEq,Lit.int.injEq,true_and] at ha;rw[hr,←ha.1]
def CloMap:Fact:=fun v W=>∃ B,v=.map (some B)∧W.ownsMap Tryz.prog 9 (plainElem (H:=Unit) Tryz.prog 3) B 14 closeD
theorem CloMap.upc:Upc CloMap:=by
 rintro v W W' hx ⟨B,hv,ho⟩;have hb:=hx.below
 exact⟨B,hv,ho.kept (row:=none) ⟨hb.os,hb.tape,hb.output,hb.size,fun k hk _=>hb.block k hk⟩ zaj⟩
theorem close_any (zk za zb zc zx zi:Int) (zs zt:ByteArray) (hs:zs.size≤maxLen) (w:World):Calls Tryz.prog 222 #[.agg #[.int .i64 zk,.int .i64 za,.int .i64 zb,.int .i64 zc,.int .i64 zx,.int .i64 zi,.string zs,.string zt]] w fun e w'=>e=.returned (.int .i64 (qbh zk zs))∧Ext w w':=by
 by_cases h0:zk<0
 · have hc:qbh zk zs=-1:=by unfold qbh;rw[if_pos (Or.inl h0)]
   rw[hc];go_enter Tryz.func222,Tryz.ntmps222;go_wp2_with fail;go_ret
   exact⟨rfl,zae⟩
 by_cases h1:11<zk
 · have hc:qbh zk zs=-1:=by unfold qbh;rw[if_pos (Or.inr h1)]
   rw[hc]
   have h2:0≤zk:=by omega
   clear h0;go_enter Tryz.func222,Tryz.ntmps222;go_wp2_with fail;go_ret
   exact⟨rfl,zae⟩
 by_cases h3:zk<11
 · have hc:qbh zk zs=6:=by unfold qbh;rw[if_neg zac,if_pos h3]
   rw[hc]
   have h2:0≤zk:=by omega
   have h4:zk≤11:=by omega
   clear h0 h1;go_enter Tryz.func222,Tryz.ntmps222;go_wp2_with fail;go_ret
   exact⟨rfl,zae⟩
 have h5:zk=11:=by omega
 subst h5
 have hc:qbh 11 zs=(qce zs.data.toList).getD (-1):=rfl
 rw[hc];have CL:=Lib.hid qfQ
 obtain⟨O,hO⟩:∃ O,qce zs.data.toList=O:=⟨_,rfl⟩
 have LK:=Lib.hid (fun (w:World) (B:Nat) h=>look_close (w:=w) (B:=B) h zs hs);rw[hO] at LK ⊢;clear hO h0 h1 h3 hc hs;go_enter Tryz.func222,Tryz.ntmps222;go_wp2_with fail;refine qaa 9 28 (List.replicate 9 false) zaf zaf rfl ?_;refine yac ?_;refine Lex.gap 19 CloMap rfl CloMap.upc rfl (fun d os=>?_) ?_
 · unfold StepG
   go_simp
   exact(CL.out _).mono fun e w' ⟨B,he,ho,hx⟩=>⟨_,he,hx,B,rfl,ho⟩
 iterate 2 (refine Lex.step rfl ?_;intro K hK;unfold StepG;go_simp;refine hK _ ?_;clear hK K)
 refine Lex.go1 (.tuple #[.int .i64 (O.getD 0),.bool O.isSome]) 19 CloMap rfl (fun u d os hu=>?_) ?_
 · obtain⟨B,rfl,ho⟩:=hu
   have hlk:=LK.out _ _ ho;clear ho;unfold StepG;go_simp
 go_simp
 iterate 5 (refine Lex.step rfl ?_;intro K hK;unfold StepG;go_simp;refine hK _ ?_;clear hK K)
 refine Lex.nil fun WW hE=>?_
 intro u hu
 obtain⟨dd,oo,rfl⟩:=hE
 clear hu;go_simp;unfold FillH;go_wp2_with fail
 try rw[ends_normal]
 cases O with
 | none =>
  go_wp2_with fail;go_ret
  exact⟨rfl,zae⟩
 | some v =>
  go_wp2_with fail;go_ret
  exact⟨rfl,zae⟩
def shA (k:Int):Bool:=[5,6,7,8,9,10,23,27,28,11,22,20,21,24,25].contains k
def shB (k:Int):Bool:=[11,22].contains k
def shBB (k:Int):Bool:=[24,25,26].contains k
def shBC (k:Int):Bool:=[24].contains k
def shS (k:Int):Bool:=[4,20,21,25].contains k
def shT (k:Int):Bool:=[25].contains k
def qch (k:Int):Bool:=[0,1,2,3,4,5,6,7,8,9,10,11,20,21,22,23,24,25,26,27,28].contains k
theorem kind_cases (k:Int):(k=0∨k=1∨k=2∨k=3∨k=4∨k=5∨k=6∨k=7∨k=8∨k=9∨k=10∨k=11∨k=20∨k=21∨k=22∨k=23∨k=24∨k=25∨k=26∨k=27∨k=28)∨((k==0)=false∧(k==1)=false∧(k==2)=false∧(k==3)=false∧(k==4)=false∧(k==5)=false∧(k==6)=false∧(k==7)=false∧(k==8)=false∧(k==9)=false∧(k==10)=false∧(k==11)=false∧(k==20)=false∧(k==21)=false∧(k==22)=false∧(k==23)=false∧(k==24)=false∧(k==25)=false∧(k==26)=false∧(k==27)=false∧(k==28)=false):=by
 by_cases h:k=0∨k=1∨k=2∨k=3∨k=4∨k=5∨k=6∨k=7∨k=8∨k=9∨k=10∨k=11∨k=20∨k=21∨k=22∨k=23∨k=24∨k=25∨k=26∨k=27∨k=28
 · exact Or.inl h
 · right
   simp only[not_or] at h;simp only[beq_eq_false_iff_ne,ne_eq];exact h
theorem sh_none (k:Int) (h:(k==0)=false∧(k==1)=false∧(k==2)=false∧(k==3)=false∧(k==4)=false∧(k==5)=false∧(k==6)=false∧(k==7)=false∧(k==8)=false∧(k==9)=false∧(k==10)=false∧(k==11)=false∧(k==20)=false∧(k==21)=false∧(k==22)=false∧(k==23)=false∧(k==24)=false∧(k==25)=false∧(k==26)=false∧(k==27)=false∧(k==28)=false):qch k=false∧shA k=false∧shB k=false∧shBB k=false∧shBC k=false∧shS k=false∧shT k=false:=by
 obtain⟨a0,a1,a2,a3,a4,a5,a6,a7,a8,a9,a10,a11,a20,a21,a22,a23,a24,a25,a26,a27,a28⟩:=h
 have c:∀ (x:Int) (l:List Int),(x::l).contains k=(k==x||l.contains k):=fun x l=>by rw[List.contains_cons]
 have n:([]:List Int).contains k=false:=rfl
 refine ⟨?_,?_,?_,?_,?_,?_,?_⟩
 · unfold qch;simp only[c,n,a0,a1,a2,a3,a4,a5,a6,a7,a8,a9,a10,a11,a20,a21,a22,a23,a24,a25,a26,a27,a28,Bool.or_self]
 · unfold shA;simp only[c,n,a5,a6,a7,a8,a9,a10,a23,a27,a28,a11,a22,a20,a21,a24,a25,Bool.or_self]
 · unfold shB;simp only[c,n,a11,a22,Bool.or_self]
 · unfold shBB;simp only[c,n,a24,a25,a26,Bool.or_self]
 · unfold shBC;simp only[c,n,a24,Bool.or_self]
 · unfold shS;simp only[c,n,a4,a20,a21,a25,Bool.or_self]
 · unfold shT;simp only[c,n,a25,Bool.or_self]
theorem shape_any (k:Int) (w:World):Calls Tryz.prog 197 #[.int .i64 k] w fun e w'=>e=.returned (.tuple #[.agg #[.bool (shA k),.bool (shB k),.bool (shBB k),.bool (shBC k),.bool (shS k),.bool (shT k)],.bool (qch k)])∧Ext w w':=by
 rcases kind_cases k with h | h
 · rcases h with rfl | rfl | rfl | rfl | rfl | rfl | rfl | rfl | rfl | rfl | rfl | rfl | rfl | rfl | rfl | rfl | rfl | rfl | rfl | rfl | rfl
   all_goals
    go_enter Tryz.func197,Tryz.ntmps197;go_wp2_with fail;refine bodyPost_ret (by simp[results,Tryz.results197,go_sem];rfl) rfl ⟨?_,zae⟩
    kernel_rfl
 · obtain⟨s0,s1,s2,s3,s4,s5,s6⟩:=sh_none k h
   rw[s0,s1,s2,s3,s4,s5,s6]
   obtain⟨a0,a1,a2,a3,a4,a5,a6,a7,a8,a9,a10,a11,a20,a21,a22,a23,a24,a25,a26,a27,a28⟩:=h
   go_enter Tryz.func197,Tryz.ntmps197;go_wp2_with fail;exact bodyPost_ret (v:=.tuple #[.agg #[.bool false,.bool false,.bool false,.bool false,.bool false,.bool false],.bool false]) (by simp[results,Tryz.results197,go_sem]) rfl ⟨rfl,zae⟩
def numOk (k c i:Int):Bool :=
 if k=2 then decide (0≤i) else if k=1 then(i==0||i==1) else if k=24 then(i==1||(i==0&&c==-1)) else if k=25∨k=26 then(decide (0≤i)&&decide (i≤64)) else i==0
theorem num_any (zk za zb zc zx zi:Int) (zs zt:ByteArray) (w:World):Calls Tryz.prog 198 #[.agg #[.int .i64 zk,.int .i64 za,.int .i64 zb,.int .i64 zc,.int .i64 zx,.int .i64 zi,.string zs,.string zt]] w fun e w'=>e=.returned (.bool (numOk zk zc zi))∧Ext w w':=by
 by_cases h2:zk=2
 · subst h2
   have hr:numOk 2 zc zi=decide (0≤zi):=rfl
   rw[hr]
   by_cases hi:0≤zi
   · rw[decide_eq_true hi]
     go_enter Tryz.func198,Tryz.ntmps198;go_wp2_with fail;go_ret
     exact⟨ret_bool zaq,zae⟩
   · rw[decide_eq_false hi]
     have hi2:zi<0:=by omega
     clear hi;go_enter Tryz.func198,Tryz.ntmps198;go_wp2_with fail;go_ret
     exact⟨ret_bool zaq,zae⟩
 by_cases h1:zk=1
 · subst h1
   have hr:numOk 1 zc zi=(zi==0||zi==1):=rfl
   rw[hr]
   cases q0:(zi==0)<;>cases q1:(zi==1)
   all_goals
    go_enter Tryz.func198,Tryz.ntmps198;go_wp2_with fail;go_ret
    exact⟨ret_bool zaq,zae⟩
 by_cases h24:zk=24
 · subst h24
   have hr:numOk 24 zc zi=(zi==1||(zi==0&&zc==-1)):=rfl
   rw[hr]
   cases q1:(zi==1)<;>cases q0:(zi==0)<;>cases qc:(zc==-1)
   all_goals
    go_enter Tryz.func198,Tryz.ntmps198;go_wp2_with fail;go_ret
    exact⟨ret_bool zaq,zae⟩
 have q2:(zk==2)=false:=by simpa using h2
 have q1:(zk==1)=false:=by simpa using h1
 have q24:(zk==24)=false:=by simpa using h24
 by_cases h25:zk=25∨zk=26
 · have hr:numOk zk zc zi=(decide (0≤zi)&&decide (zi≤64)):=by unfold numOk;rw[if_neg h2,if_neg h1,if_neg h24,if_pos h25]
   rw[hr];clear q2 q1 q24 h2 h1 h24 hr
   by_cases hi:0≤zi
   · rw[decide_eq_true hi]
     by_cases hj:zi≤64
     · rw[decide_eq_true hj]
       rcases h25 with rfl | rfl
       all_goals
        go_enter Tryz.func198,Tryz.ntmps198;go_wp2_with fail;go_ret
        exact⟨ret_bool zaq,zae⟩
     · rw[decide_eq_false hj]
       have hj2:64<zi:=by omega
       clear hj;rcases h25 with rfl | rfl
       all_goals
        go_enter Tryz.func198,Tryz.ntmps198;go_wp2_with fail;go_ret
        exact⟨ret_bool zaq,zae⟩
   · rw[decide_eq_false hi]
     have hi2:zi<0:=by omega
     clear hi;rcases h25 with rfl | rfl
     all_goals
      go_enter Tryz.func198,Tryz.ntmps198;go_wp2_with fail;go_ret
      exact⟨ret_bool zaq,zae⟩
 have hr:numOk zk zc zi=(zi==0):=by unfold numOk;rw[if_neg h2,if_neg h1,if_neg h24,if_neg h25]
 rw[hr]
 have q25:(zk==25)=false:=by simp;exact fun e=>h25 (Or.inl e)
 have q26:(zk==26)=false:=by simp;exact fun e=>h25 (Or.inr e)
 clear h2 h1 h24 h25 hr
 cases q0:(zi==0)
 all_goals
  go_enter Tryz.func198,Tryz.ntmps198;go_wp2_with fail;go_ret
  exact⟨ret_bool zaq,zae⟩
theorem tokcM {base g cap n:Nat} {l:List (Tok × Nat)} (h:w.ownsRow base 186 4 (.slice (some ⟨g,0,none⟩) n cap) n (qap l)) (j:Nat) (u:Value) (hj:(qap l)[j]?=some u):w.cell? ⟨g,j,none⟩=some u:=by
 have:=h.cells (g:=g) rfl j u hj
 rwa [Addr.add_lit,Nat.zero_add] at this
def nameR (r:List (Tok × Nat) × Int × Nat) (s:ByteArray):Bool:=r.2.1==0&&(match r.1 with | [t,_]=>t.1.k==1&&t.1.s.toList==s.toList | _=>false)
def nameOk (s:ByteArray):Bool:=nameR (lexF s.data.toList) s
theorem name1_ok (s:ByteArray) (w:World):Calls Tryz.prog 220 #[.string s] w fun e w'=>e=.returned (.bool (nameOk s))∧Ext w w':=by
 unfold nameOk
 obtain⟨l,e,x,hl⟩:∃ l e x,lexF s.data.toList=(l,e,x):=⟨_,_,_,rfl⟩
 have T:=Lib.hid (qfx s _ hl);rw[hl];clear hl
 by_cases he:e=0
 rotate_left
 · have q0:(e==0)=false:=by simpa using he
   have hr:nameR (l,e,x) s=false:=by
    unfold nameR;dsimp only;rw[q0,Bool.false_and]
   clear q0;rw[hr];have HE:=Lib.hid he
   have q:(e==0)=false:=by simpa using he
   clear hr he;go_enter Tryz.func220,Tryz.ntmps220
   go_wp2_with (((with_reducible refine (T.out _).mono ?_);rintro e' w1 (⟨h2,_⟩ | ⟨_,he,d1,os1,rfl⟩);exact absurd h2 HE.out;dsimp only at he;subst he))
   go_ret
   exact⟨rfl,zae⟩
 subst he
 by_cases h2:l.length=2
 rotate_left
 · have hr:nameR (l,0,x) s=false:=by
     unfold nameR
     match l,h2 with
     | [],_=>rfl
     | [_],_=>rfl
     | [_,_],h=>exact absurd rfl h
     | _::_::_::_,_=>rfl
   rw[hr]
   have q:(((l.length:Nat):Int)==2)=false:=beq_eq_false_iff_ne.2 zac
   clear hr h2;go_enter Tryz.func220,Tryz.ntmps220
   go_wp2_with (((with_reducible refine (T.out _).mono ?_);rintro e' w1 (⟨_,g,cap,he,hrow,d1,os1,rfl⟩ | ⟨h2,_⟩);rotate_left;exact absurd rfl h2;dsimp only at he;subst he;clear hrow))
   go_ret
   exact⟨rfl,zae⟩
 match l,h2 with
 | [((⟨tk,ts,ti⟩:Tok),p0),t1],_ =>
  have hr:nameR ([((⟨tk,ts,ti⟩:Tok),p0),t1],0,x) s=(tk==1&&ts.toList==s.toList):=rfl
  rw[hr]
  cases q1:(tk==1)<;>cases q2:(ts.toList==s.toList)
  all_goals
   go_enter Tryz.func220,Tryz.ntmps220
   go_wp2_with (((with_reducible refine (T.out _).mono ?_);rintro e' w1 (⟨_,g,cap,he,hrow,hx⟩ | ⟨h2,_⟩);rotate_left;exact absurd rfl h2;dsimp only[List.length_cons,List.length_nil] at he hrow;subst he;have hgs:=(hrow.lt g rfl).2;have k0:=tokcM hrow 0 _ rfl;have k2:=tokcM hrow 2 _ rfl;clear hrow;have HX:=Lib.hid hx;clear hx))
   go_ret
   exact⟨rfl,HX.out.trans zab⟩
def qbe (s:ByteArray):Bool:=(qbM s.data.toList).2==0
theorem quoted_any (s:ByteArray) (w:World):Calls Tryz.prog 221 #[.string s] w fun e w'=>e=.returned (.bool (qbe s))∧Ext w w':=by
 unfold qbe
 obtain⟨q,er,hq⟩:∃ q er,qbM s.data.toList=(q,er):=⟨_,_,rfl⟩
 have Q:=Lib.hid (quote_any s q er hq);rw[hq];dsimp only;clear hq
 cases h:(er==0)
 all_goals
  go_enter Tryz.func221,Tryz.ntmps221
  go_wp2_with (((with_reducible refine (Q.out _).mono ?_);rintro e' _ ⟨rfl,d1,os1,rfl⟩))
  go_ret
  exact⟨rfl,zae⟩
def txt2 (k:Int) (s:ByteArray) (bS:Bool):Bool:=if (k==3)=true then qbe s else if (k==11)=true then decide (0≤qbh k s) else if bS=true then nameOk s else s.toList.isEmpty
def txt1 (t:ByteArray) (bT:Bool):Bool:=if bT=true then(!t.toList.isEmpty&&nameOk t) else t.toList.isEmpty
theorem texts_x (zk za zb zc zx zi:Int) (zs zt:ByteArray) (hs:zs.size≤maxLen) (b0 b1 b2 b3 bS bT:Bool) (w:World) :
  Calls Tryz.prog 199 #[.agg #[.int .i64 zk,.int .i64 za,.int .i64 zb,.int .i64 zc,.int .i64 zx,.int .i64 zi,.string zs,.string zt],.agg #[.bool b0,.bool b1,.bool b2,.bool b3,.bool bS,.bool bT]] w fun e w'=>e=.returned (.bool (txt1 zt bT&&txt2 zk zs bS))∧Ext w w':=by
 have NMT:=Lib.hid (fun w1=>name1_ok zt w1);have NMS:=Lib.hid (fun w1=>name1_ok zs w1);have QS:=Lib.hid (fun w1=>quoted_any zs w1);have CL:=Lib.hid (fun w1=>close_any zk za zb zc zx zi zs zt hs w1)
 obtain⟨NT,hNT⟩:∃ NT,nameOk zt=NT:=⟨_,rfl⟩
 obtain⟨NS,hNS⟩:∃ NS,nameOk zs=NS:=⟨_,rfl⟩
 obtain⟨QQ,hQ⟩:∃ QQ,qbe zs=QQ:=⟨_,rfl⟩
 obtain⟨CC,hC⟩:∃ CC,qbh zk zs=CC:=⟨_,rfl⟩
 rw[hNT] at NMT;rw[hNS] at NMS;rw[hQ] at QS;rw[hC] at CL
 have ht:txt1 zt bT=(if bT=true then(!zt.toList.isEmpty&&NT) else zt.toList.isEmpty):=by unfold txt1;rw[hNT]
 rw[ht];clear ht hNT
 cases bT
 · rw[if_neg zaj]
   cases qt:zt.toList.isEmpty
   · rw[Bool.false_and]
     go_enter Tryz.func199,Tryz.ntmps199
     go_wp2_with (((with_reducible refine (NMT.out _).mono ?_);rintro e' _ ⟨rfl,d1,os1,rfl⟩))
     go_ret
     exact⟨ret_bool zaq,zae⟩
   · rw[Bool.true_and]
     cases q3:(zk==3)
     rotate_left
     · rw[show txt2 zk zs bS=QQ from by unfold txt2;rw[q3,hQ];rfl]
       go_enter Tryz.func199,Tryz.ntmps199
       go_wp2_with (first | (((with_reducible refine (NMT.out _).mono ?_);rintro e' _ ⟨rfl,d1,os1,rfl⟩)) | (((with_reducible refine (QS.out _).mono ?_);rintro e' _ ⟨rfl,d3,os3,rfl⟩)))
       go_ret
       exact⟨ret_bool zaq,zae⟩
     cases q11:(zk==11)
     rotate_left
     · rw[show txt2 zk zs bS=decide (0≤CC) from by unfold txt2;rw[q3,q11,hC];rfl]
       by_cases hc0:0≤CC
       · rw[decide_eq_true hc0]
         go_enter Tryz.func199,Tryz.ntmps199
         go_wp2_with (first | (((with_reducible refine (NMT.out _).mono ?_);rintro e' _ ⟨rfl,d1,os1,rfl⟩)) | (((with_reducible refine (CL.out _).mono ?_);rintro e' _ ⟨rfl,d4,os4,rfl⟩)))
         go_ret
         exact⟨ret_bool zaq,zae⟩
       · rw[decide_eq_false hc0]
         have hc1:CC<0:=by omega
         clear hc0;go_enter Tryz.func199,Tryz.ntmps199
         go_wp2_with (first | (((with_reducible refine (NMT.out _).mono ?_);rintro e' _ ⟨rfl,d1,os1,rfl⟩)) | (((with_reducible refine (CL.out _).mono ?_);rintro e' _ ⟨rfl,d4,os4,rfl⟩)))
         go_ret
         exact⟨ret_bool zaq,zae⟩
     cases bS
     · rw[show txt2 zk zs false=zs.toList.isEmpty from by unfold txt2;rw[q3,q11];rfl]
       cases qs:zs.toList.isEmpty
       all_goals
        go_enter Tryz.func199,Tryz.ntmps199
        go_wp2_with (((with_reducible refine (NMT.out _).mono ?_);rintro e' _ ⟨rfl,d1,os1,rfl⟩))
        go_ret
        exact⟨ret_bool zaq,zae⟩
     · rw[show txt2 zk zs true=NS from by unfold txt2;rw[q3,q11,hNS];rfl]
       go_enter Tryz.func199,Tryz.ntmps199
       go_wp2_with (first | (((with_reducible refine (NMT.out _).mono ?_);rintro e' _ ⟨rfl,d1,os1,rfl⟩)) | (((with_reducible refine (NMS.out _).mono ?_);rintro e' _ ⟨rfl,d2,os2,rfl⟩)))
       go_ret
       exact⟨ret_bool zaq,zae⟩
 · rw[if_pos rfl]
   cases qt:zt.toList.isEmpty
   · rw[Bool.not_false,Bool.true_and]
     cases NT
     · rw[Bool.false_and]
       go_enter Tryz.func199,Tryz.ntmps199
       go_wp2_with (((with_reducible refine (NMT.out _).mono ?_);rintro e' _ ⟨rfl,d1,os1,rfl⟩))
       go_ret
       exact⟨ret_bool zaq,zae⟩
     · rw[Bool.true_and]
       cases q3:(zk==3)
       rotate_left
       · rw[show txt2 zk zs bS=QQ from by unfold txt2;rw[q3,hQ];rfl]
         go_enter Tryz.func199,Tryz.ntmps199
         go_wp2_with (first | (((with_reducible refine (NMT.out _).mono ?_);rintro e' _ ⟨rfl,d1,os1,rfl⟩)) | (((with_reducible refine (QS.out _).mono ?_);rintro e' _ ⟨rfl,d3,os3,rfl⟩)))
         go_ret
         exact⟨ret_bool zaq,zae⟩
       cases q11:(zk==11)
       rotate_left
       · rw[show txt2 zk zs bS=decide (0≤CC) from by unfold txt2;rw[q3,q11,hC];rfl]
         by_cases hc0:0≤CC
         · rw[decide_eq_true hc0]
           go_enter Tryz.func199,Tryz.ntmps199
           go_wp2_with (first | (((with_reducible refine (NMT.out _).mono ?_);rintro e' _ ⟨rfl,d1,os1,rfl⟩)) | (((with_reducible refine (CL.out _).mono ?_);rintro e' _ ⟨rfl,d4,os4,rfl⟩)))
           go_ret
           exact⟨ret_bool zaq,zae⟩
         · rw[decide_eq_false hc0]
           have hc1:CC<0:=by omega
           clear hc0;go_enter Tryz.func199,Tryz.ntmps199
           go_wp2_with (first | (((with_reducible refine (NMT.out _).mono ?_);rintro e' _ ⟨rfl,d1,os1,rfl⟩)) | (((with_reducible refine (CL.out _).mono ?_);rintro e' _ ⟨rfl,d4,os4,rfl⟩)))
           go_ret
           exact⟨ret_bool zaq,zae⟩
       cases bS
       · rw[show txt2 zk zs false=zs.toList.isEmpty from by unfold txt2;rw[q3,q11];rfl]
         cases qs:zs.toList.isEmpty
         all_goals
          go_enter Tryz.func199,Tryz.ntmps199
          go_wp2_with (((with_reducible refine (NMT.out _).mono ?_);rintro e' _ ⟨rfl,d1,os1,rfl⟩))
          go_ret
          exact⟨ret_bool zaq,zae⟩
       · rw[show txt2 zk zs true=NS from by unfold txt2;rw[q3,q11,hNS];rfl]
         go_enter Tryz.func199,Tryz.ntmps199
         go_wp2_with (first | (((with_reducible refine (NMT.out _).mono ?_);rintro e' _ ⟨rfl,d1,os1,rfl⟩)) | (((with_reducible refine (NMS.out _).mono ?_);rintro e' _ ⟨rfl,d2,os2,rfl⟩)))
         go_ret
         exact⟨ret_bool zaq,zae⟩
   · rw[Bool.not_true,Bool.false_and,Bool.false_and]
     go_enter Tryz.func199,Tryz.ntmps199
     go_wp2_with (((with_reducible refine (NMT.out _).mono ?_);rintro e' _ ⟨rfl,d1,os1,rfl⟩))
     go_ret
     exact⟨ret_bool zaq,zae⟩
theorem addB_id (A:Bool) (a:Int) (g:Nat→Nat) (h:A=true→a=-1) (j:Nat):g j=addB A a g j:=by
 unfold addB pone
 cases A
 · simp
 · rw[h rfl,if_pos rfl,if_neg zac];rfl
theorem CkSt.idB {c H:Nat} {n:Nat} {g:Nat→Nat} (h:CkSt W c H nv ns fi n g w) (A:Bool) (a:Int) (e:A=true→a=-1):CkSt W c H nv ns fi n (addB A a g) w:=h.congr fun j _=>addB_id A a g e j
theorem KB.alloc {cs:Array Value} {T:TypeId} (h:KB k cs T w) (b:Obj):KB k cs T (w.alloc b):=h.of_ext ((Ext.refl w).alloc b)
theorem KB.more {cs:Array Value} {T:TypeId} (h:KB k cs T w) (d:Nat) (os:Array Obj):KB k cs T (more w d os):=h.of_ext ((Ext.refl w).more d os)
theorem KB.newAt (w:World) (cs:Array Value) (T:TypeId) (h:k=w.heap.size):KB k cs T (w.alloc (.cells cs T (0,0))):=by subst h;exact KB.new w cs T
def qdP (z:Nd):Bool:=qch z.k&&numOk z.k z.c z.i&&(txt1 z.t (shT z.k)&&txt2 z.k z.s (shS z.k))
def aB (ns:List Nd) (i:Nat) (z:Nd):Bool:=if shA z.k=true then qal ns z.a 0 i false else z.a==-1
def bB (ns:List Nd) (i:Nat) (z:Nd):Bool:=if shB z.k=true then qal ns z.b 0 i false else if shBB z.k=true then blkB ns z.b i else z.b==-1
def cB (ns:List Nd) (i:Nat) (z:Nd):Bool:=z.c==-1||(shBC z.k&&blkB ns z.c i)
def xB (ns:List Nd) (i:Nat) (z:Nd):Bool:=z.x==-1||(decide (20≤z.k)&&qal ns z.x ((i:Int)+1) ns.length true)
def nodeB (ns:List Nd) (i:Nat) (z:Nd):Bool:=qdP z&&(aB ns i z&&bB ns i z&&cB ns i z&&xB ns i z)
theorem KB.setAt {cs:Array Value} {T:TypeId} (h:KB k cs T w) (i:Nat) (v:Value) (hi:i<cs.size):KB k (cs.set i v) T (w.setCell ⟨k,i,none⟩ v):=by
 unfold KB at h ⊢
 simp[World.setCell,Array.getElem?_modify,h,hi,Array.setIfInBounds]
theorem KB.setOther {k':Nat} {cs:Array Value} {T:TypeId} (h:KB k cs T w) (i:Nat) (v:Value) (hk:k≠k'):KB k cs T (w.setCell ⟨k',i,none⟩ v) :=
 (heap_set_other _ _ _ _ _ hk).trans h
theorem KB.frozen {cs:Array Value} {T:TypeId} (h:KB k cs T w) (j:Nat):w.frozen? ⟨k,j,none⟩=false:=by
 unfold KB at h
 simp[World.frozen?,h]
structure Sc where
 seen:List ByteArray
 most:Int
 slots:List Int
 made:List ByteArray
 free:List ByteArray
 e:Int
 a:Int
def Sc.wrong (S:Sc) (e a:Int):Sc:=if S.e=0 then { S with e:=e,a:=a } else S
def strV (l:List ByteArray):List Value:=l.map Value.string
def intL (l:List Int):List Value:=l.map fun x=>.int .i64 x
structure WkV (W:World) (b:Nat) (nv:Value) (fi:Int) (ns:List Nd) (L:List (Nat × Obj)) (S:Sc) (sv tv mv fv:Value) (w:World):Prop where
 ext:Ext W w
 cell:w.heap[b]?=some (.cells #[nv,.int .i64 fi,sv,.int .i64 S.most,tv,mv,fv,.int .i64 S.e,.int .i64 S.a] 200 (0,0))
 row:w.ownsRow 0 166 8 nv ns.length (qac ns)
 seen:w.ownsRow W.heap.size 9 1 sv S.seen.length (strV S.seen)
 slots:w.ownsRow W.heap.size 3 1 tv S.slots.length (intL S.slots)
 made:w.ownsRow W.heap.size 9 1 mv S.made.length (strV S.made)
 free:w.ownsRow W.heap.size 9 1 fv S.free.length (strV S.free)
 base:W.heap.size≤b∧(∀ g,nv.ownBlock=some g→g<W.heap.size)
 apart:∀ g,(sv.ownBlock=some g→g≠b∧tv.ownBlock≠some g∧mv.ownBlock≠some g∧fv.ownBlock≠some g) ∧
  (tv.ownBlock=some g→g≠b∧mv.ownBlock≠some g∧fv.ownBlock≠some g)∧(mv.ownBlock=some g→g≠b∧fv.ownBlock≠some g)∧(fv.ownBlock=some g→g≠b)
 loc:∀ q,q∈L→w.heap[q.1]?=some q.2∧q.1≠b∧sv.ownBlock≠some q.1∧tv.ownBlock≠some q.1∧mv.ownBlock≠some q.1∧fv.ownBlock≠some q.1
def Wk (W:World) (b:Nat) (nv:Value) (fi:Int) (ns:List Nd) (L:List (Nat × Obj)) (S:Sc) (w:World):Prop:=∃ sv tv mv fv,WkV W b nv fi ns L S sv tv mv fv w
theorem WkV.of_ext {L:List (Nat × Obj)} {S:Sc} {w:World} {sv tv mv fv:Value} {w':World} (h:WkV W b nv fi ns L S sv tv mv fv w) (hx:Ext w w'):WkV W b nv fi ns L S sv tv mv fv w' :=
 ⟨h.ext.trans hx,(hx.below.block _ (Array.getElem?_eq_some_iff.1 h.cell).1).trans h.cell,own_ext h.row hx,own_ext h.seen hx,own_ext h.slots hx,own_ext h.made hx,own_ext h.free hx,h.base,h.apart,fun q hq=>⟨(hx.below.block _ (Array.getElem?_eq_some_iff.1 (h.loc q hq).1).1).trans (h.loc q hq).1,(h.loc q hq).2⟩⟩
theorem Wk.of_ext {L:List (Nat × Obj)} {S:Sc} {w:World} {w':World} (h:Wk W b nv fi ns L S w) (hx:Ext w w'):Wk W b nv fi ns L S w':=by
 obtain⟨sv,tv,mv,fv,h⟩:=h
 exact⟨sv,tv,mv,fv,h.of_ext hx⟩
theorem WkV.setB {L:List (Nat × Obj)} {S:Sc} {w:World} {sv tv mv fv:Value} (h:WkV W b nv fi ns L S sv tv mv fv w) (i:Nat) (v:Value) (S':Sc) (hi:i<9)
  (hc:#[nv,.int .i64 fi,sv,.int .i64 S.most,tv,mv,fv,.int .i64 S.e,.int .i64 S.a].set i v hi=#[nv,.int .i64 fi,sv,.int .i64 S'.most,tv,mv,fv,.int .i64 S'.e,.int .i64 S'.a])
  (e1:S'.seen=S.seen) (e2:S'.slots=S.slots) (e3:S'.made=S.made) (e4:S'.free=S.free) :
  WkV W b nv fi ns L S' sv tv mv fv (w.setCell ⟨b,i,none⟩ v):=by
 have hk:∀ (x:Value) (k:Nat),(∀ g,x.ownBlock=some g→g≠b)→x.ownBlock=some k→(w.setCell ⟨b,i,none⟩ v).heap[k]?=w.heap[k]?:=fun x k hx hk=>heap_set_other _ _ _ _ _ (hx k hk)
 have hA:=h.apart;refine ⟨h.ext.setCell h.base.1 _,?_,qaf h.row fun k q _=>hk nv k (fun g q=>by have:=h.base.2 g q;have:=h.base.1;omega) q,?_,?_,?_,?_,h.base,h.apart,fun q hq=>⟨(heap_set_other _ _ _ _ _ (h.loc q hq).2.1).trans (h.loc q hq).1,(h.loc q hq).2⟩⟩
 · rw[←hc]
   exact KB.setAt (show KB b _ _ w from h.cell) i v hi
 · rw[e1];exact qaf h.seen fun k q _=>hk sv k (fun g q=>((hA g).1 q).1) q
 · rw[e2];exact qaf h.slots fun k q _=>hk tv k (fun g q=>((hA g).2.1 q).1) q
 · rw[e3];exact qaf h.made fun k q _=>hk mv k (fun g q=>((hA g).2.2.1 q).1) q
 · rw[e4];exact qaf h.free fun k q _=>hk fv k (fun g q=>(hA g).2.2.2 q) q
theorem WkV.push_seen {L:List (Nat × Obj)} {S:Sc} {w:World} {sv tv mv fv v':Value} {w1:World} {s:ByteArray} (h:WkV W b nv fi ns L S sv tv mv fv w) (hr:w1.ownsRow W.heap.size 9 1 v' (S.seen.length+1) (strV S.seen++[.string s])) (hg:w.grownBy w1 sv.ownBlock) (hv:v'.ownBlock=sv.ownBlock∨v'.ownBlock=some w.heap.size) :
  WkV W b nv fi ns L { S with seen:=S.seen++[s] } v' tv mv fv (w1.setCell ⟨b,2,none⟩ v'):=by
 have hA:=h.apart;have lb:=(Array.getElem?_eq_some_iff.1 h.cell).1
 have hold:∀ k,k<w.heap.size→sv.ownBlock≠some k→w1.heap[k]?=w.heap[k]?:=fun k hk hn=>hg.block k hk (Ne.symm hn)
 have L1:=fun g q=>(h.seen.lt g q).2
 have L2:=fun g q=>(h.slots.lt g q).2
 have L3:=fun g q=>(h.made.lt g q).2
 have L4:=fun g q=>(h.free.lt g q).2
 have hvn:∀ g,v'.ownBlock=some g→sv.ownBlock=some g∨g=w.heap.size:=fun g q=>by
  rcases hv with e | e
  · exact Or.inl (e ▸ q)
  · rw[e] at q;exact Or.inr (Option.some.inj q).symm
 have hx1:Ext W w1:=h.ext.grown hg fun k hk=>(h.seen.lt k hk).1
 have hnb:sv.ownBlock≠some b:=fun q=>by have:=hA b;simp_all
 have kb:KB b _ _ w1:=(hold b lb hnb).trans h.cell
 have keep:∀ (x:Value) (n:Nat) (xs:List Value) (e:TypeId) (sz bs:Nat),w.ownsRow bs e sz x n xs→(∀ g,x.ownBlock=some g→g≠b)→(∀ g,x.ownBlock=some g→sv.ownBlock≠some g)→(w1.setCell ⟨b,2,none⟩ v').ownsRow bs e sz x n xs:=fun x n xs e sz bs hx h1 h2 =>
  qaf hx fun k q hk=>(heap_set_other _ _ _ _ _ (h1 k q)).trans (hold k hk (h2 k q))
 refine ⟨hx1.setCell h.base.1 _,KB.setAt kb 2 v' zaj,keep _ _ _ _ _ _ h.row (fun g q=>by have:=h.base.2 g q;have:=h.base.1;omega) (fun g q e=>by have:=h.base.2 g q;have:=(h.seen.lt g e).1;omega),?_,?_,?_,?_,h.base,?_,?_⟩
 · dsimp only;rw[List.length_append];unfold strV;rw[List.map_append];exact qaf hr fun k q _=>heap_set_other _ _ _ _ _ (fun e=>by rcases hvn k q with e1 | e1;exact hnb (e ▸ e1);omega)
 · exact keep _ _ _ _ _ _ h.slots (fun g q=>by have:=hA g;simp_all) (fun g q e=>by have:=hA g;simp_all)
 · exact keep _ _ _ _ _ _ h.made (fun g q=>by have:=hA g;simp_all) (fun g q e=>by have:=hA g;simp_all)
 · exact keep _ _ _ _ _ _ h.free (fun g q=>by have:=hA g;simp_all) (fun g q e=>by have:=hA g;simp_all)
 · intro g
   have a:=hA g;have b1:=hA w.heap.size
   have n1:sv.ownBlock≠some w.heap.size:=fun q=>absurd (L1 _ q) (Nat.lt_irrefl _)
   have n2:tv.ownBlock≠some w.heap.size:=fun q=>absurd (L2 _ q) (Nat.lt_irrefl _)
   have n3:mv.ownBlock≠some w.heap.size:=fun q=>absurd (L3 _ q) (Nat.lt_irrefl _)
   have n4:fv.ownBlock≠some w.heap.size:=fun q=>absurd (L4 _ q) (Nat.lt_irrefl _)
   have nb:w.heap.size≠b:=by omega
   rcases hv with e | e
   · rw[e];exact a
   · by_cases hgs:g=w.heap.size
     · subst hgs
       simp_all
     · have q:v'.ownBlock≠some g:=by rw[e];intro e2;exact hgs (Option.some.inj e2).symm
       simp_all
 · intro q hq
   have hl:=h.loc q hq;have hlt:=(Array.getElem?_eq_some_iff.1 hl.1).1
   have e1:(w1.setCell ⟨b,2,none⟩ v').heap[q.1]?=some q.2:=(heap_set_other _ _ _ _ _ hl.2.1).trans ((hold q.1 hlt (by have:=hl.2;simp_all)).trans hl.1)
   have e2:v'.ownBlock≠some q.1:=by
    intro e;rcases hvn q.1 e with e3 | e3
    · have:=hl.2;simp_all
    · omega
   have:=hl.2
   refine ⟨e1,this.1,?_⟩
   simp_all
theorem WkV.push_made {L:List (Nat × Obj)} {S:Sc} {w:World} {sv tv mv fv v':Value} {w1:World} {s:ByteArray} (h:WkV W b nv fi ns L S sv tv mv fv w) (hr:w1.ownsRow W.heap.size 9 1 v' (S.made.length+1) (strV S.made++[.string s])) (hg:w.grownBy w1 mv.ownBlock) (hv:v'.ownBlock=mv.ownBlock∨v'.ownBlock=some w.heap.size) :
  WkV W b nv fi ns L { S with made:=S.made++[s] } sv tv v' fv (w1.setCell ⟨b,5,none⟩ v'):=by
 have hA:=h.apart;have lb:=(Array.getElem?_eq_some_iff.1 h.cell).1
 have hold:∀ k,k<w.heap.size→mv.ownBlock≠some k→w1.heap[k]?=w.heap[k]?:=fun k hk hn=>hg.block k hk (Ne.symm hn)
 have L1:=fun g q=>(h.seen.lt g q).2
 have L2:=fun g q=>(h.slots.lt g q).2
 have L3:=fun g q=>(h.made.lt g q).2
 have L4:=fun g q=>(h.free.lt g q).2
 have hvn:∀ g,v'.ownBlock=some g→mv.ownBlock=some g∨g=w.heap.size:=fun g q=>by
  rcases hv with e | e
  · exact Or.inl (e ▸ q)
  · rw[e] at q;exact Or.inr (Option.some.inj q).symm
 have hx1:Ext W w1:=h.ext.grown hg fun k hk=>(h.made.lt k hk).1
 have hnb:mv.ownBlock≠some b:=fun q=>by have:=hA b;simp_all
 have kb:KB b _ _ w1:=(hold b lb hnb).trans h.cell
 have keep:∀ (x:Value) (n:Nat) (xs:List Value) (e:TypeId) (sz bs:Nat),w.ownsRow bs e sz x n xs→(∀ g,x.ownBlock=some g→g≠b)→(∀ g,x.ownBlock=some g→mv.ownBlock≠some g)→(w1.setCell ⟨b,5,none⟩ v').ownsRow bs e sz x n xs:=fun x n xs e sz bs hx h1 h2 =>
  qaf hx fun k q hk=>(heap_set_other _ _ _ _ _ (h1 k q)).trans (hold k hk (h2 k q))
 refine ⟨hx1.setCell h.base.1 _,KB.setAt kb 5 v' zaj,keep _ _ _ _ _ _ h.row (fun g q=>by have:=h.base.2 g q;have:=h.base.1;omega) (fun g q e=>by have:=h.base.2 g q;have:=(h.made.lt g e).1;omega),?_,?_,?_,?_,h.base,?_,?_⟩
 · exact keep _ _ _ _ _ _ h.seen (fun g q=>by have:=hA g;simp_all) (fun g q e=>by have:=hA g;simp_all)
 · exact keep _ _ _ _ _ _ h.slots (fun g q=>by have:=hA g;simp_all) (fun g q e=>by have:=hA g;simp_all)
 · dsimp only;rw[List.length_append];unfold strV;rw[List.map_append];exact qaf hr fun k q _=>heap_set_other _ _ _ _ _ (fun e=>by rcases hvn k q with e1 | e1;exact hnb (e ▸ e1);omega)
 · exact keep _ _ _ _ _ _ h.free (fun g q=>by have:=hA g;simp_all) (fun g q e=>by have:=hA g;simp_all)
 · intro g
   have a:=hA g;have b1:=hA w.heap.size
   have n1:sv.ownBlock≠some w.heap.size:=fun q=>absurd (L1 _ q) (Nat.lt_irrefl _)
   have n2:tv.ownBlock≠some w.heap.size:=fun q=>absurd (L2 _ q) (Nat.lt_irrefl _)
   have n3:mv.ownBlock≠some w.heap.size:=fun q=>absurd (L3 _ q) (Nat.lt_irrefl _)
   have n4:fv.ownBlock≠some w.heap.size:=fun q=>absurd (L4 _ q) (Nat.lt_irrefl _)
   have nb:w.heap.size≠b:=by omega
   rcases hv with e | e
   · rw[e];exact a
   · by_cases hgs:g=w.heap.size
     · subst hgs
       simp_all
     · have q:v'.ownBlock≠some g:=by rw[e];intro e2;exact hgs (Option.some.inj e2).symm
       simp_all
 · intro q hq
   have hl:=h.loc q hq;have hlt:=(Array.getElem?_eq_some_iff.1 hl.1).1
   have e1:(w1.setCell ⟨b,5,none⟩ v').heap[q.1]?=some q.2:=(heap_set_other _ _ _ _ _ hl.2.1).trans ((hold q.1 hlt (by have:=hl.2;simp_all)).trans hl.1)
   have e2:v'.ownBlock≠some q.1:=by
    intro e;rcases hvn q.1 e with e3 | e3
    · have:=hl.2;simp_all
    · omega
   have:=hl.2
   refine ⟨e1,this.1,?_⟩
   simp_all
theorem WkV.push_free {L:List (Nat × Obj)} {S:Sc} {w:World} {sv tv mv fv v':Value} {w1:World} {s:ByteArray} (h:WkV W b nv fi ns L S sv tv mv fv w) (hr:w1.ownsRow W.heap.size 9 1 v' (S.free.length+1) (strV S.free++[.string s])) (hg:w.grownBy w1 fv.ownBlock) (hv:v'.ownBlock=fv.ownBlock∨v'.ownBlock=some w.heap.size) :
  WkV W b nv fi ns L { S with free:=S.free++[s] } sv tv mv v' (w1.setCell ⟨b,6,none⟩ v'):=by
 have hA:=h.apart;have lb:=(Array.getElem?_eq_some_iff.1 h.cell).1
 have hold:∀ k,k<w.heap.size→fv.ownBlock≠some k→w1.heap[k]?=w.heap[k]?:=fun k hk hn=>hg.block k hk (Ne.symm hn)
 have L1:=fun g q=>(h.seen.lt g q).2
 have L2:=fun g q=>(h.slots.lt g q).2
 have L3:=fun g q=>(h.made.lt g q).2
 have L4:=fun g q=>(h.free.lt g q).2
 have hvn:∀ g,v'.ownBlock=some g→fv.ownBlock=some g∨g=w.heap.size:=fun g q=>by
  rcases hv with e | e
  · exact Or.inl (e ▸ q)
  · rw[e] at q;exact Or.inr (Option.some.inj q).symm
 have hx1:Ext W w1:=h.ext.grown hg fun k hk=>(h.free.lt k hk).1
 have hnb:fv.ownBlock≠some b:=fun q=>by have:=hA b;simp_all
 have kb:KB b _ _ w1:=(hold b lb hnb).trans h.cell
 have keep:∀ (x:Value) (n:Nat) (xs:List Value) (e:TypeId) (sz bs:Nat),w.ownsRow bs e sz x n xs→(∀ g,x.ownBlock=some g→g≠b)→(∀ g,x.ownBlock=some g→fv.ownBlock≠some g)→(w1.setCell ⟨b,6,none⟩ v').ownsRow bs e sz x n xs:=fun x n xs e sz bs hx h1 h2 =>
  qaf hx fun k q hk=>(heap_set_other _ _ _ _ _ (h1 k q)).trans (hold k hk (h2 k q))
 refine ⟨hx1.setCell h.base.1 _,KB.setAt kb 6 v' zaj,keep _ _ _ _ _ _ h.row (fun g q=>by have:=h.base.2 g q;have:=h.base.1;omega) (fun g q e=>by have:=h.base.2 g q;have:=(h.free.lt g e).1;omega),?_,?_,?_,?_,h.base,?_,?_⟩
 · exact keep _ _ _ _ _ _ h.seen (fun g q=>by have:=hA g;simp_all) (fun g q e=>by have:=hA g;simp_all)
 · exact keep _ _ _ _ _ _ h.slots (fun g q=>by have:=hA g;simp_all) (fun g q e=>by have:=hA g;simp_all)
 · exact keep _ _ _ _ _ _ h.made (fun g q=>by have:=hA g;simp_all) (fun g q e=>by have:=hA g;simp_all)
 · dsimp only;rw[List.length_append];unfold strV;rw[List.map_append];exact qaf hr fun k q _=>heap_set_other _ _ _ _ _ (fun e=>by rcases hvn k q with e1 | e1;exact hnb (e ▸ e1);omega)
 · intro g
   have a:=hA g;have b1:=hA w.heap.size
   have n1:sv.ownBlock≠some w.heap.size:=fun q=>absurd (L1 _ q) (Nat.lt_irrefl _)
   have n2:tv.ownBlock≠some w.heap.size:=fun q=>absurd (L2 _ q) (Nat.lt_irrefl _)
   have n3:mv.ownBlock≠some w.heap.size:=fun q=>absurd (L3 _ q) (Nat.lt_irrefl _)
   have n4:fv.ownBlock≠some w.heap.size:=fun q=>absurd (L4 _ q) (Nat.lt_irrefl _)
   have nb:w.heap.size≠b:=by omega
   rcases hv with e | e
   · rw[e];exact a
   · by_cases hgs:g=w.heap.size
     · subst hgs
       simp_all
     · have q:v'.ownBlock≠some g:=by rw[e];intro e2;exact hgs (Option.some.inj e2).symm
       simp_all
 · intro q hq
   have hl:=h.loc q hq;have hlt:=(Array.getElem?_eq_some_iff.1 hl.1).1
   have e1:(w1.setCell ⟨b,6,none⟩ v').heap[q.1]?=some q.2:=(heap_set_other _ _ _ _ _ hl.2.1).trans ((hold q.1 hlt (by have:=hl.2;simp_all)).trans hl.1)
   have e2:v'.ownBlock≠some q.1:=by
    intro e;rcases hvn q.1 e with e3 | e3
    · have:=hl.2;simp_all
    · omega
   have:=hl.2
   refine ⟨e1,this.1,?_⟩
   simp_all
theorem qeU {L:List (Nat × Obj)} {S:Sc} {w:World} {sv tv mv fv:Value} (h:WkV W b nv fi ns L S sv tv mv fv w) (e a:Int) :
  Calls Tryz.prog 203 #[.pointer (some ⟨b,0,none⟩),.int .i64 e,.int .i64 a] w fun r w'=>r=.returned (.tuple #[])∧WkV W b nv fi ns L (S.wrong e a) sv tv mv fv w':=by
 have H:=Lib.hid h;have KX:=Lib.hid (show KB b _ _ w from h.cell);have x7:=KX.out.cell 7 _ rfl;have x8:=KX.out.cell 8 _ rfl;have f7:=KX.out.frozen 7;have f8:=KX.out.frozen 8;have lb:=KX.out.lt;dsimp only[List.getElem_toArray,List.getElem_cons_zero,List.getElem_cons_succ] at x7 x8
 obtain⟨seen,most,slots,made,free,se,sa⟩:=S
 dsimp only at x7 x8 H;unfold Sc.wrong;dsimp only;clear h
 by_cases h0:se=0
 · subst h0
   rw[if_pos rfl];go_enter Tryz.func203,Tryz.ntmps203;go_wp2_with fail;go_end0
   exact⟨rfl,(H.out.setB 7 (.int .i64 e) ⟨seen,most,slots,made,free,e,sa⟩ zac rfl rfl rfl rfl rfl).setB 8 (.int .i64 a) ⟨seen,most,slots,made,free,e,a⟩ zac rfl rfl rfl rfl rfl⟩
 · rw[if_neg h0]
   have q:(se==0)=false:=by simpa using h0
   clear h0;go_enter Tryz.func203,Tryz.ntmps203;go_wp2_with fail;go_end0
   exact⟨rfl,H.out⟩
end Go.Proofs.YtpnabjopfpdkhaaGreatDoor
