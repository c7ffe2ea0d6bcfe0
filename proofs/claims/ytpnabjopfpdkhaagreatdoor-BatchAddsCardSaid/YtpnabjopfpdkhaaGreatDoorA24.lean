/- Lemmas. -/
import Derived.Test.YtpnabjopfpdkhaaGreatDoorA23
import Derived.Laws.EntriesVeiled
set_option linter.unusedSimpArgs false
set_option linter.unusedVariables false
set_option maxHeartbeats 2000000
set_option maxRecDepth 20000
namespace Go.Proofs.YtpnabjopfpdkhaaGreatDoor
open Go.RowKit
attribute [go_sem] more_more Array.size_append
theorem Loc.one {b:Nat} {nv:Value} {k:Nat} {w:World} {v:Value} {t:TypeId} (h:Loc b nv k (.cells #[v] t (0,0)) w):w.cell? ⟨k,0,none⟩=some v∧k<w.heap.size:=by
 have:=h.is
 exact⟨by simp[World.cell?,this],h.lt⟩
theorem Stays.loc (b k:Nat) (o:Obj):Stays b fun nv w=>Loc b nv k o w:=fun nv nv' w w' hk h=>h.kp hk
theorem Stays.and {b:Nat} {E F:Value→World→Prop} (h:Stays b E) (k:Stays b F):Stays b fun nv w=>E nv w∧F nv w:=fun nv nv' w w' hk ⟨h1,h2⟩=>⟨h nv nv' w w' hk h1,k nv nv' w w' hk h2⟩
theorem Stays.true (b:Nat):Stays b fun _ _=>True:=fun _ _ _ _ _ _=>trivial
theorem mk_func (fn:Fn) (first cap:Array Value) (w:World):(Instr.makeFunc fn first cap).run Tryz.prog w=.ok (.func fn first cap) w:=rfl
attribute [go_sem] mk_func
theorem entersOne (args:Array Value) (w:World):(callFunc 214 args).run Tryz.prog w=.ok (.enter 214 args) w:=by kernel_rfl
theorem enters1 (args:Array Value) (w:World):(callFunc 212 args).run Tryz.prog w=.ok (.enter 212 args) w:=by kernel_rfl
theorem enters2 (args:Array Value) (w:World):(callFunc 215 args).run Tryz.prog w=.ok (.enter 215 args) w:=by kernel_rfl
theorem enters4 (args:Array Value) (w:World):(callFunc 217 args).run Tryz.prog w=.ok (.enter 217 args) w:=by kernel_rfl
theorem enters5 (args:Array Value) (w:World):(callFunc 219 args).run Tryz.prog w=.ok (.enter 219 args) w:=by kernel_rfl
theorem times_clo {b lb lo cap:Nat} {L:Toks} (d:Nat) (o:PM Int) (k2:Nat) (Env:Value→World→Prop) (hE:Stays b Env)
  (hc:Clo b lb lo cap L 214 #[.pointer (some ⟨b,0,none⟩),.int .i64 (d:Int)] Env (o)) :
  Clo b lb lo cap L 212 #[.int .i64 (d:Int),.pointer (some ⟨k2,0,none⟩)] (fun nv w=>Env nv w∧Loc b nv k2 (.cells #[.pointer (some ⟨b,0,none⟩)] 191 (0,0)) w) (timesP L o):=by
 intro nv m N w h he;have H:=Lib.hid h;have HC:=Lib.hid hc;have HE:=Lib.hid he;have HS:=Lib.hid hE
 obtain⟨c2,l2⟩:=he.2.one
 clear h hc he hE
 obtain⟨r,hr⟩:∃ r,timesP L o m N.length=r:=⟨_,rfl⟩
 have RR:=Lib.hid hr;rw[hr];clear hr;go_enter Tryz.func212,Tryz.ntmps212;go_wp2_with fail
 go_at_call 213
 refine (qeN (H.out.alloc _) d 214 #[.pointer (some ⟨b,0,none⟩)] #[] Env HS.out _ HC.out entersOne (HS.out _ _ _ _ ((Kp.refl _ _ _).alloc _) HE.out.1) qcs _ _ (H.out.loc (strs qcs)) zak r RR.out).mono ?_
 rcases r with ⟨e1,e2⟩ | ⟨a1,m1,ns1⟩
 · rintro e w1 ⟨he,nv1,hk1⟩
   have HK1:=Lib.hid hk1;clear hk1;unfold noV at he;subst he;go_wp2_with fail;exact ybf
 · rintro e w1 ⟨he,nv1,hs1,hk1,hm1⟩
   have HK1:=Lib.hid hk1;have HS1:=Lib.hid hs1;have HM1:=Lib.hid hm1;clear hk1 hs1 hm1;unfold intV at he;subst he;go_wp2_with fail;go_ret;exact ybe
theorem sum_clo {b lb lo cap:Nat} {L:Toks} (d:Nat) (o:PM Int) (k2 k5:Nat) (Env:Value→World→Prop) (hE:Stays b (fun nv w=>Env nv w∧Loc b nv k2 (.cells #[.pointer (some ⟨b,0,none⟩)] 191 (0,0)) w))
  (hc:Clo b lb lo cap L 212 #[.int .i64 (d:Int),.pointer (some ⟨k2,0,none⟩)] (fun nv w=>Env nv w∧Loc b nv k2 (.cells #[.pointer (some ⟨b,0,none⟩)] 191 (0,0)) w) (timesP L o)) :
  Clo b lb lo cap L 215 #[.int .i64 (d:Int),.pointer (some ⟨k2,0,none⟩),.pointer (some ⟨k5,0,none⟩)] (fun nv w=>(Env nv w∧Loc b nv k2 (.cells #[.pointer (some ⟨b,0,none⟩)] 191 (0,0)) w)∧Loc b nv k5 (.cells #[(.func (.func 212) #[] #[.pointer (some ⟨k2,0,none⟩)])] 194 (0,0)) w) (sumP L o):=by
 intro nv m N w h he;have H:=Lib.hid h;have HC:=Lib.hid hc;have HE:=Lib.hid he;have HS:=Lib.hid hE
 obtain⟨c2,l2⟩:=he.1.2.one
 obtain⟨c5,l5⟩:=he.2.one
 clear h hc he hE
 obtain⟨r,hr⟩:∃ r,sumP L o m N.length=r:=⟨_,rfl⟩
 have RR:=Lib.hid hr;rw[hr];clear hr;go_enter Tryz.func215,Tryz.ntmps215;go_wp2_with fail
 go_at_call 213
 refine (qeN (H.out.alloc _) d 212 #[] #[.pointer (some ⟨k2,0,none⟩)] (fun nv w=>Env nv w∧Loc b nv k2 (.cells #[.pointer (some ⟨b,0,none⟩)] 191 (0,0)) w) HS.out _ HC.out enters1 (HS.out _ _ _ _ ((Kp.refl _ _ _).alloc _) HE.out.1) ssSum _ _ (H.out.loc (strs ssSum)) zak r RR.out).mono ?_
 rcases r with ⟨e1,e2⟩ | ⟨a1,m1,ns1⟩
 · rintro e w1 ⟨he,nv1,hk1⟩
   have HK1:=Lib.hid hk1;clear hk1;unfold noV at he;subst he;go_wp2_with fail;exact ybf
 · rintro e w1 ⟨he,nv1,hs1,hk1,hm1⟩
   have HK1:=Lib.hid hk1;have HS1:=Lib.hid hs1;have HM1:=Lib.hid hm1;clear hk1 hs1 hm1;unfold intV at he;subst he;go_wp2_with fail;go_ret;exact ybe
theorem join_clo {b lb lo cap:Nat} {L:Toks} (d:Nat) (o:PM Int) (k2 k5 k6:Nat) (Env:Value→World→Prop) (hE:Stays b (fun nv w=>(Env nv w∧Loc b nv k2 (.cells #[.pointer (some ⟨b,0,none⟩)] 191 (0,0)) w)∧Loc b nv k5 (.cells #[(.func (.func 212) #[] #[.pointer (some ⟨k2,0,none⟩)])] 194 (0,0)) w))
  (hc:Clo b lb lo cap L 215 #[.int .i64 (d:Int),.pointer (some ⟨k2,0,none⟩),.pointer (some ⟨k5,0,none⟩)] (fun nv w=>(Env nv w∧Loc b nv k2 (.cells #[.pointer (some ⟨b,0,none⟩)] 191 (0,0)) w)∧Loc b nv k5 (.cells #[(.func (.func 212) #[] #[.pointer (some ⟨k2,0,none⟩)])] 194 (0,0)) w) (sumP L o)) :
  Clo b lb lo cap L 216 #[.int .i64 (d:Int),.pointer (some ⟨k2,0,none⟩),.pointer (some ⟨k6,0,none⟩)] (fun nv w=>((Env nv w∧Loc b nv k2 (.cells #[.pointer (some ⟨b,0,none⟩)] 191 (0,0)) w)∧Loc b nv k5 (.cells #[(.func (.func 212) #[] #[.pointer (some ⟨k2,0,none⟩)])] 194 (0,0)) w)∧Loc b nv k6 (.cells #[(.func (.func 215) #[] #[.pointer (some ⟨k2,0,none⟩),.pointer (some ⟨k5,0,none⟩)])] 194 (0,0)) w) (joinP L o):=by
 intro nv m N w h he;have H:=Lib.hid h;have HC:=Lib.hid hc;have HE:=Lib.hid he;have HS:=Lib.hid hE
 obtain⟨c2,l2⟩:=he.1.1.2.one
 obtain⟨c5,l5⟩:=he.2.one
 clear h hc he hE
 obtain⟨r,hr⟩:∃ r,joinP L o m N.length=r:=⟨_,rfl⟩
 have RR:=Lib.hid hr;rw[hr];clear hr;go_enter Tryz.func216,Tryz.ntmps216;go_wp2_with fail
 go_at_call 213
 refine (qeN (H.out.alloc _) d 215 #[] #[.pointer (some ⟨k2,0,none⟩),.pointer (some ⟨k5,0,none⟩)] (fun nv w=>(Env nv w∧Loc b nv k2 (.cells #[.pointer (some ⟨b,0,none⟩)] 191 (0,0)) w)∧Loc b nv k5 (.cells #[(.func (.func 212) #[] #[.pointer (some ⟨k2,0,none⟩)])] 194 (0,0)) w) HS.out _ HC.out enters2 (HS.out _ _ _ _ ((Kp.refl _ _ _).alloc _) HE.out.1) qdL _ _ (H.out.loc (strs qdL)) zak r RR.out).mono ?_
 rcases r with ⟨e1,e2⟩ | ⟨a1,m1,ns1⟩
 · rintro e w1 ⟨he,nv1,hk1⟩
   have HK1:=Lib.hid hk1;clear hk1;unfold noV at he;subst he;go_wp2_with fail;exact ybf
 · rintro e w1 ⟨he,nv1,hs1,hk1,hm1⟩
   have HK1:=Lib.hid hk1;have HS1:=Lib.hid hs1;have HM1:=Lib.hid hm1;clear hk1 hs1 hm1;unfold intV at he;subst he;go_wp2_with fail;go_ret;exact ybe
theorem and_clo {b lb lo cap:Nat} {L:Toks} (d:Nat) (o:PM Int) (k2 k5 k6 k7 k8:Nat) (Env:Value→World→Prop) (hE:Stays b (fun nv w=>(((Env nv w∧Loc b nv k2 (.cells #[.pointer (some ⟨b,0,none⟩)] 191 (0,0)) w)∧Loc b nv k5 (.cells #[(.func (.func 212) #[] #[.pointer (some ⟨k2,0,none⟩)])] 194 (0,0)) w)∧Loc b nv k6 (.cells #[(.func (.func 215) #[] #[.pointer (some ⟨k2,0,none⟩),.pointer (some ⟨k5,0,none⟩)])] 194 (0,0)) w)∧Loc b nv k7 (.cells #[(.func (.func 216) #[] #[.pointer (some ⟨k2,0,none⟩),.pointer (some ⟨k6,0,none⟩)])] 194 (0,0)) w))
  (hc:Clo b lb lo cap L 217 #[.int .i64 (d:Int),.pointer (some ⟨k7,0,none⟩),.pointer (some ⟨k2,0,none⟩)] (fun nv w=>(((Env nv w∧Loc b nv k2 (.cells #[.pointer (some ⟨b,0,none⟩)] 191 (0,0)) w)∧Loc b nv k5 (.cells #[(.func (.func 212) #[] #[.pointer (some ⟨k2,0,none⟩)])] 194 (0,0)) w)∧Loc b nv k6 (.cells #[(.func (.func 215) #[] #[.pointer (some ⟨k2,0,none⟩),.pointer (some ⟨k5,0,none⟩)])] 194 (0,0)) w)∧Loc b nv k7 (.cells #[(.func (.func 216) #[] #[.pointer (some ⟨k2,0,none⟩),.pointer (some ⟨k6,0,none⟩)])] 194 (0,0)) w) (compP L o)) :
  Clo b lb lo cap L 219 #[.int .i64 (d:Int),.pointer (some ⟨k2,0,none⟩),.pointer (some ⟨k8,0,none⟩)] (fun nv w=>((((Env nv w∧Loc b nv k2 (.cells #[.pointer (some ⟨b,0,none⟩)] 191 (0,0)) w)∧Loc b nv k5 (.cells #[(.func (.func 212) #[] #[.pointer (some ⟨k2,0,none⟩)])] 194 (0,0)) w)∧Loc b nv k6 (.cells #[(.func (.func 215) #[] #[.pointer (some ⟨k2,0,none⟩),.pointer (some ⟨k5,0,none⟩)])] 194 (0,0)) w)∧Loc b nv k7 (.cells #[(.func (.func 216) #[] #[.pointer (some ⟨k2,0,none⟩),.pointer (some ⟨k6,0,none⟩)])] 194 (0,0)) w)∧Loc b nv k8 (.cells #[(.func (.func 217) #[] #[.pointer (some ⟨k7,0,none⟩),.pointer (some ⟨k2,0,none⟩)])] 194 (0,0)) w) (andP L o):=by
 intro nv m N w h he;have H:=Lib.hid h;have HC:=Lib.hid hc;have HE:=Lib.hid he;have HS:=Lib.hid hE
 obtain⟨c2,l2⟩:=he.1.1.1.1.2.one
 obtain⟨c5,l5⟩:=he.2.one
 clear h hc he hE
 obtain⟨r,hr⟩:∃ r,andP L o m N.length=r:=⟨_,rfl⟩
 have RR:=Lib.hid hr;rw[hr];clear hr;go_enter Tryz.func219,Tryz.ntmps219;go_wp2_with fail
 go_at_call 213
 refine (qeN (H.out.alloc _) d 217 #[] #[.pointer (some ⟨k7,0,none⟩),.pointer (some ⟨k2,0,none⟩)] (fun nv w=>(((Env nv w∧Loc b nv k2 (.cells #[.pointer (some ⟨b,0,none⟩)] 191 (0,0)) w)∧Loc b nv k5 (.cells #[(.func (.func 212) #[] #[.pointer (some ⟨k2,0,none⟩)])] 194 (0,0)) w)∧Loc b nv k6 (.cells #[(.func (.func 215) #[] #[.pointer (some ⟨k2,0,none⟩),.pointer (some ⟨k5,0,none⟩)])] 194 (0,0)) w)∧Loc b nv k7 (.cells #[(.func (.func 216) #[] #[.pointer (some ⟨k2,0,none⟩),.pointer (some ⟨k6,0,none⟩)])] 194 (0,0)) w) HS.out _ HC.out enters4 (HS.out _ _ _ _ ((Kp.refl _ _ _).alloc _) HE.out.1) ssAnd _ _ (H.out.loc (strs ssAnd)) zak r RR.out).mono ?_
 rcases r with ⟨e1,e2⟩ | ⟨a1,m1,ns1⟩
 · rintro e w1 ⟨he,nv1,hk1⟩
   have HK1:=Lib.hid hk1;clear hk1;unfold noV at he;subst he;go_wp2_with fail;exact ybf
 · rintro e w1 ⟨he,nv1,hs1,hk1,hm1⟩
   have HK1:=Lib.hid hk1;have HS1:=Lib.hid hs1;have HM1:=Lib.hid hm1;clear hk1 hs1 hm1;unfold intV at he;subst he;go_wp2_with fail;go_ret;exact ybe
theorem comp_err1 {L:Toks} {o:PM Int} {m n:Nat} {e:Int × Int} (h1:joinP L o m n=.error e):compP L o m n=.error e:=qan h1
theorem comp_none {L:Toks} {o:PM Int} {m n:Nat} {a:Int} {m1:Nat} {ns:List Nd} (h1:joinP L o m n=.ok (a,m1,ns)) (h2:qaL L ssIs m1 (n+ns.length)=.ok (none,m1,[])):compP L o m n=.ok (a,m1,ns):=by
 unfold compP;rw[qaj h1,qaj h2,qaC]
 simp[pok,prep]
theorem comp_some {L:Toks} {o:PM Int} {m n:Nat} {a:Int} {m1 m2:Nat} {ns:List Nd} {s:ByteArray} (h1:joinP L o m n=.ok (a,m1,ns)) (h2:qaL L ssIs m1 (n+ns.length)=.ok (some s,m2,[])) :
  compP L o m n=prep ns (thenR (joinP L o m2 (n+ns.length)) fun c m3 ns3=>prep ns3 (layP L (twoNd a c s) m3 (n+ns.length+ns3.length))):=by
 unfold compP;rw[qaj h1,qaj h2,qaC]
 show prep ns (pbind (joinP L o) (fun b=>layP L (twoNd a b s)) m2 (n+ns.length))=_
 cases h3:joinP L o m2 (n+ns.length) with
 | error e=>rw[qan h3];rfl
 | ok v=>obtain⟨c,m3,ns3⟩:=v;rw[qaj h3];rfl
theorem comp_clo {b lb lo cap:Nat} {L:Toks} (d:Nat) (o:PM Int) (k2 k5 k6 k7:Nat) (Env:Value→World→Prop) (hE:Stays b (fun nv w=>(((Env nv w∧Loc b nv k2 (.cells #[.pointer (some ⟨b,0,none⟩)] 191 (0,0)) w)∧Loc b nv k5 (.cells #[(.func (.func 212) #[] #[.pointer (some ⟨k2,0,none⟩)])] 194 (0,0)) w)∧Loc b nv k6 (.cells #[(.func (.func 215) #[] #[.pointer (some ⟨k2,0,none⟩),.pointer (some ⟨k5,0,none⟩)])] 194 (0,0)) w)∧Loc b nv k7 (.cells #[(.func (.func 216) #[] #[.pointer (some ⟨k2,0,none⟩),.pointer (some ⟨k6,0,none⟩)])] 194 (0,0)) w)) (hc:Clo b lb lo cap L 216 #[.int .i64 (d:Int),.pointer (some ⟨k2,0,none⟩),.pointer (some ⟨k6,0,none⟩)] (fun nv w=>((Env nv w∧Loc b nv k2 (.cells #[.pointer (some ⟨b,0,none⟩)] 191 (0,0)) w)∧Loc b nv k5 (.cells #[(.func (.func 212) #[] #[.pointer (some ⟨k2,0,none⟩)])] 194 (0,0)) w)∧Loc b nv k6 (.cells #[(.func (.func 215) #[] #[.pointer (some ⟨k2,0,none⟩),.pointer (some ⟨k5,0,none⟩)])] 194 (0,0)) w) (joinP L o)) :
  Clo b lb lo cap L 217 #[.int .i64 (d:Int),.pointer (some ⟨k7,0,none⟩),.pointer (some ⟨k2,0,none⟩)] (fun nv w=>(((Env nv w∧Loc b nv k2 (.cells #[.pointer (some ⟨b,0,none⟩)] 191 (0,0)) w)∧Loc b nv k5 (.cells #[(.func (.func 212) #[] #[.pointer (some ⟨k2,0,none⟩)])] 194 (0,0)) w)∧Loc b nv k6 (.cells #[(.func (.func 215) #[] #[.pointer (some ⟨k2,0,none⟩),.pointer (some ⟨k5,0,none⟩)])] 194 (0,0)) w)∧Loc b nv k7 (.cells #[(.func (.func 216) #[] #[.pointer (some ⟨k2,0,none⟩),.pointer (some ⟨k6,0,none⟩)])] 194 (0,0)) w) (compP L o):=by
 intro nv m N w h he;have H:=Lib.hid h;have HC:=Lib.hid hc;have HE:=Lib.hid he;have HS:=Lib.hid hE
 obtain⟨c7,l7⟩:=he.2.one
 obtain⟨c2,l2⟩:=he.1.1.1.2.one
 clear h hc he hE
 obtain⟨r,hr⟩:∃ r,compP L o m N.length=r:=⟨_,rfl⟩
 rw[hr]
 obtain⟨r1,hr1⟩:∃ r1,joinP L o m N.length=r1:=⟨_,rfl⟩
 have C1:=Lib.hid (HC.out nv m N w H.out HE.out.1);rw[hr1] at C1
 rcases r1 with ⟨e1,e2⟩ | ⟨a,m1,ns1⟩
 · rw[comp_err1 hr1] at hr
   subst hr;clear hr1;go_enter Tryz.func217,Tryz.ntmps217
   go_wp2_with (((with_reducible refine C1.out.mono ?_);rintro e w1 ⟨he,nv_w1,hk⟩;have HK_w1:=Lib.hid hk;clear hk;unfold noV at he;subst he))
   exact⟨rfl,PPost.err rfl HK_w1.out⟩
 rcases oneOf_cases L ssIs m1 (N++ns1).length with h2 | ⟨s,h2⟩
 · rw[comp_none hr1 (by rw[←List.length_append];exact h2)] at hr
   subst hr;have O:=Lib.hid h2;clear hr1 h2;go_enter Tryz.func217,Tryz.ntmps217
   go_wp2_with (((with_reducible refine C1.out.mono ?_);rintro e w1 ⟨he,nv_w1,hs,hk,hm⟩;have HS_w1:=Lib.hid hs;have HK_w1:=Lib.hid hk;have HM_w1:=Lib.hid hm;clear hs hk hm;unfold intV at he;subst he;have HE1:=Lib.hid (HS.out _ _ _ _ HK_w1.out HE.out);obtain⟨c7a,l7a⟩:=HE1.out.2.one;obtain⟨c2a,l2a⟩:=HE1.out.1.1.1.2.one))
   go_at_call 218
   refine (qdp (HS_w1.out.alloc _) ssIs _ _ (HS_w1.out.loc (strs ssIs)) zak _ O.out).mono ?_;rintro e w2 ⟨he,nv_w2,hs,hk,hm⟩;have HS_w2:=Lib.hid hs;have HK_w2:=Lib.hid hk;have HM_w2:=Lib.hid hm;clear hs hk hm;unfold optV at he;subst he;go_wp2_with fail;go_ret;exact PPost.res rfl (HS_w2.out.cast zaj) ((HK_w1.out.alloc _).trans HK_w2.out) HM_w1.out
 · rw[comp_some hr1 (by rw[←List.length_append];exact h2)] at hr
   obtain⟨r3,hr3⟩:∃ r3,joinP L o (m1+1) (N.length+ns1.length)=r3:=⟨_,rfl⟩
   rw[hr3] at hr;have O:=Lib.hid h2
   have C3:RowKit.Hid (∀ nv3 w3,St b lb lo cap nv3 L (m1+1) (N++ns1++[]) w3→(fun nv w=>((Env nv w∧Loc b nv k2 (.cells #[.pointer (some ⟨b,0,none⟩)] 191 (0,0)) w)∧Loc b nv k5 (.cells #[(.func (.func 212) #[] #[.pointer (some ⟨k2,0,none⟩)])] 194 (0,0)) w)∧Loc b nv k6 (.cells #[(.func (.func 215) #[] #[.pointer (some ⟨k2,0,none⟩),.pointer (some ⟨k5,0,none⟩)])] 194 (0,0)) w) nv3 w3→Calls Tryz.prog 216 #[.int .i64 (d:Int),.pointer (some ⟨k2,0,none⟩),.pointer (some ⟨k6,0,none⟩)] w3 (PPost intV b lb lo cap nv3 L (m1+1) (N++ns1++[]) w3 r3)) :=
    Lib.hid fun nv3 w3 hs he=>by have:=HC.out nv3 (m1+1) _ w3 hs he;rw[List.append_nil,List.length_append,hr3] at this;rw[List.append_nil];exact this
   have R:=Lib.hid hr;clear hr hr1 h2 hr3;go_enter Tryz.func217,Tryz.ntmps217
   go_wp2_with (((with_reducible refine C1.out.mono ?_);rintro e w1 ⟨he,nv_w1,hs,hk,hm⟩;have HS_w1:=Lib.hid hs;have HK_w1:=Lib.hid hk;have HM_w1:=Lib.hid hm;clear hs hk hm;unfold intV at he;subst he;have HE1:=Lib.hid (HS.out _ _ _ _ HK_w1.out HE.out);obtain⟨c7a,l7a⟩:=HE1.out.2.one;obtain⟨c2a,l2a⟩:=HE1.out.1.1.1.2.one))
   go_at_call 218
   refine (qdp (HS_w1.out.alloc _) ssIs _ _ (HS_w1.out.loc (strs ssIs)) zak _ O.out).mono ?_;rintro e w2 ⟨he,nv_w2,hs,hk,hm⟩;have HS_w2:=Lib.hid hs;have HK_w2:=Lib.hid hk;have HM_w2:=Lib.hid hm;clear hs hk hm;unfold optV at he;subst he;have HE2:=Lib.hid (HS.out _ _ _ _ (((Kp.refl _ _ _).alloc _).trans HK_w2.out) HE1.out)
   obtain⟨c7b,l7b⟩:=HE2.out.2.one
   clear c7a l7a c2a l2a;have KK:=Lib.hid ((HK_w1.out.alloc (strs ssIs)).trans HK_w2.out)
   go_wp2_with (((with_reducible refine (qaD _ _).mono ?_);rintro e _ ⟨rfl,d3,os3,rfl⟩))
   go_at_call 216
   have LC:=Lib.hid ((HS_w2.out.more d3 os3).loc (.cells #[.int .i64 11,.int .i64 a,.int .i64 (-1),.int .i64 (-1),.int .i64 (-1),.int .i64 0,.string s,.string ⟨#[]⟩] 166 (0,0)));have HE3:=Lib.hid (HS.out _ _ _ _ (((Kp.refl _ _ _).more d3 os3).alloc (.cells #[.int .i64 11,.int .i64 a,.int .i64 (-1),.int .i64 (-1),.int .i64 (-1),.int .i64 0,.string s,.string ⟨#[]⟩] 166 (0,0))) HE2.out);refine (C3.out nv_w2 _ ((HS_w2.out.more _ _).alloc _) HE3.out.1).mono ?_
   rcases r3 with ⟨e1,e2⟩ | ⟨z3,m3,ns3⟩
   · rintro e w4 ⟨he,nv_w4,hk⟩;have HK_w4:=Lib.hid hk;clear hk;unfold noV at he;subst he
     go_wp2_with fail
     have:=R.out
     subst this
     exact⟨rfl,PPost.err rfl (((KK.out.more _ _).alloc _).trans HK_w4.out)⟩
   · rintro e w4 ⟨he,nv_w4,hs,hk,hm⟩;have HS_w4:=Lib.hid hs;have HK_w4:=Lib.hid hk;have HM_w4:=Lib.hid hm;clear hs hk hm;unfold intV at he;subst he
     obtain⟨r4,hr4⟩:∃ r4,layP L (twoNd a z3 s) m3 (N.length+ns1.length+ns3.length)=r4:=⟨_,rfl⟩
     have LA:RowKit.Hid (∀ nv4 w5,St b lb lo cap nv4 L m3 (N++ns1++[]++ns3) w5→Calls Tryz.prog 168 #[.pointer (some ⟨b,0,none⟩),.agg #[.int .i64 11,.int .i64 a,.int .i64 z3,.int .i64 (-1),.int .i64 (-1),.int .i64 0,.string s,.string ⟨#[]⟩]] w5 (PPost intV b lb lo cap nv4 L m3 (N++ns1++[]++ns3) w5 r4)) :=
      Lib.hid fun nv4 w5 hs=>lay_any hs _ _ _ _ _ _ _ _ r4 (by rw[←hr4];simp[twoNd,nd,Nat.add_assoc])
     have R4:RowKit.Hid (prep ns1 (prep ns3 r4)=r):=Lib.hid (by rw[←R.out,←hr4];rfl)
     have LC4:=Lib.hid (LC.out.kp HK_w4.out);have HE4:=Lib.hid (HS.out _ _ _ _ HK_w4.out HE3.out)
     obtain⟨c2b,l2b⟩:=HE4.out.1.1.1.2.one
     clear LC hr4 R C3
     obtain⟨kn,hkn⟩:∃ kn,(more w2 d3 os3).heap.size=kn:=⟨_,rfl⟩
     rw[hkn] at LC4;rw[more_size] at hkn
     have hkw:w.heap.size≤kn:=by have:=KK.out.size;omega
     have hlk:lb≠kn:=by have:=HS_w2.out.low;have:=HS_w2.out.lt;omega
     have hk2:k2≠kn:=by have:=HE2.out.1.1.1.2.lt;omega
     rw[hkn]
     obtain⟨n0,n1,n2,n3,n4,n5,n6,n7,z0,z1,z2,z3',z5,z6,z7,hkl⟩:=LC4.out.node
     have HKW:=Lib.hid hkw;have HLK:=Lib.hid hlk;clear hkn hkw hlk;go_wp2_with fail;refine (LA.out nv_w4 _ (HS_w4.out.setLoc LC4.out HLK.out 2 _)).mono ?_
     have K4:RowKit.Hid (Kp b nv nv_w4 w (w4.setCell ⟨kn,2,none⟩ (.int .i64 z3))):=Lib.hid ((((KK.out.more _ _).alloc _).trans HK_w4.out).setNew HKW.out 2 _)
     rcases r4 with ⟨e1,e2⟩ | ⟨a4,m4,ns4⟩
     · rintro e w5 ⟨he,nv_w5,hk⟩;have HK_w5:=Lib.hid hk;clear hk;unfold noV at he;subst he
       go_wp2_with fail
       have:=R4.out
       subst this
       exact⟨rfl,PPost.err rfl (K4.out.trans HK_w5.out)⟩
     · rintro e w5 ⟨he,nv_w5,hs,hk,hm⟩;have HS_w5:=Lib.hid hs;have HK_w5:=Lib.hid hk;have HM_w5:=Lib.hid hm;clear hs hk hm;unfold intV at he;subst he
       go_wp2_with fail;go_ret
       have:=R4.out
       subst this;have q1:=HM_w5.out;have q2:=HM_w4.out;have q3:=HM_w1.out;exact PPost.res rfl (HS_w5.out.cast zaj) (K4.out.trans HK_w5.out) zac
theorem expr_any {b lb lo cap:Nat} {L:Toks} (d:Nat) (hd:d≤16) (o:PM Int) (hone:Clo b lb lo cap L 214 #[.pointer (some ⟨b,0,none⟩),.int .i64 (d:Int)] (fun _ _=>True) o) :
  Clo b lb lo cap L 196 #[.pointer (some ⟨b,0,none⟩),.int .i64 (d:Int)] (fun _ _=>True) (orP L o):=by
 intro nv m N w h he;have H:=Lib.hid h;have HC:=Lib.hid hone;clear h he hone
 obtain⟨r,hr⟩:∃ r,orP L o m N.length=r:=⟨_,rfl⟩
 have RR:=Lib.hid hr;rw[hr];clear hr
 have D:RowKit.Hid (∀ nv1 w1,St b lb lo cap nv1 L m N w1→Calls Tryz.prog 130 #[.pointer (some ⟨b,0,none⟩),.int .i64 (d:Int)] w1 (PPost unitV b lb lo cap nv1 L m N w1 (.ok ((),m,[])))) :=
  Lib.hid fun nv1 w1 h1=>qdg h1 d zac _ (by unfold deepP;rw[if_neg zac])
 go_enter Tryz.func196,Tryz.ntmps196;go_wp2_with fail
 go_at_call 130
 have L2:=Lib.hid (H.out.loc (.cells #[.pointer (some ⟨b,0,none⟩)] 191 (0,0)));refine (D.out nv _ (H.out.alloc _)).mono ?_;rintro e w1 ⟨he,nv_w1,hs,hk,hm⟩;have HS_w1:=Lib.hid hs;have HK_w1:=Lib.hid hk;have HM_w1:=Lib.hid hm;clear hs hk hm;unfold unitV at he;subst he;have L2a:=Lib.hid (L2.out.kp HK_w1.out)
 obtain⟨k2,hk2⟩:∃ k2,w.heap.size=k2:=⟨_,rfl⟩
 rw[hk2] at L2a;rw[hk2]
 obtain⟨c2,l2⟩:=L2a.out.one
 have KK:=Lib.hid (((Kp.refl b nv w).alloc (.cells #[.pointer (some ⟨b,0,none⟩)] 191 (0,0))).trans HK_w1.out);have S0:=Lib.hid (HS_w1.out.cast (List.append_nil _));clear L2 hk2;go_wp2_with fail
 go_at_call 213
 have Q5:=S0.out.loc (.cells #[.func (.func 212) #[] #[.pointer (some ⟨k2,0,none⟩)]] 194 (0,0));have Q6:=(S0.out.alloc (.cells #[.func (.func 212) #[] #[.pointer (some ⟨k2,0,none⟩)]] 194 (0,0))).loc (.cells #[.func (.func 215) #[] #[.pointer (some ⟨k2,0,none⟩),.pointer (some ⟨w1.heap.size,0,none⟩)]] 194 (0,0));have Q7:=((S0.out.alloc (.cells #[.func (.func 212) #[] #[.pointer (some ⟨k2,0,none⟩)]] 194 (0,0))).alloc (.cells #[.func (.func 215) #[] #[.pointer (some ⟨k2,0,none⟩),.pointer (some ⟨w1.heap.size,0,none⟩)]] 194 (0,0))).loc (.cells #[.func (.func 216) #[] #[.pointer (some ⟨k2,0,none⟩),.pointer (some ⟨w1.heap.size+1,0,none⟩)]] 194 (0,0))
 have S8:=Lib.hid (((S0.out.alloc (.cells #[.func (.func 212) #[] #[.pointer (some ⟨k2,0,none⟩)]] 194 (0,0))).alloc (.cells #[.func (.func 215) #[] #[.pointer (some ⟨k2,0,none⟩),.pointer (some ⟨w1.heap.size,0,none⟩)]] 194 (0,0))).alloc (.cells #[.func (.func 216) #[] #[.pointer (some ⟨k2,0,none⟩),.pointer (some ⟨w1.heap.size+1,0,none⟩)]] 194 (0,0)));have Q8:=S8.out.loc (.cells #[.func (.func 217) #[] #[.pointer (some ⟨w1.heap.size+1+1,0,none⟩),.pointer (some ⟨k2,0,none⟩)]] 194 (0,0))
 have Q9:=(S8.out.alloc (.cells #[.func (.func 217) #[] #[.pointer (some ⟨w1.heap.size+1+1,0,none⟩),.pointer (some ⟨k2,0,none⟩)]] 194 (0,0))).loc (strs ssOr);simp only[World.size_alloc] at Q6 Q7 Q8 Q9;have Y0:=Stays.true b;have Y1:=Y0.and (Stays.loc b k2 (.cells #[.pointer (some ⟨b,0,none⟩)] 191 (0,0)));have T1:=times_clo d o k2 _ Y0 HC.out;have Y2:=Y1.and (Stays.loc b w1.heap.size (.cells #[.func (.func 212) #[] #[.pointer (some ⟨k2,0,none⟩)]] 194 (0,0)));have T2:=sum_clo d o k2 w1.heap.size _ Y1 T1
 have Y3:=Y2.and (Stays.loc b (w1.heap.size+1) (.cells #[.func (.func 215) #[] #[.pointer (some ⟨k2,0,none⟩),.pointer (some ⟨w1.heap.size,0,none⟩)]] 194 (0,0)));have T3:=join_clo d o k2 w1.heap.size (w1.heap.size+1) _ Y2 T2;have Y4:=Y3.and (Stays.loc b (w1.heap.size+1+1) (.cells #[.func (.func 216) #[] #[.pointer (some ⟨k2,0,none⟩),.pointer (some ⟨w1.heap.size+1,0,none⟩)]] 194 (0,0)));have T4:=comp_clo d o k2 w1.heap.size (w1.heap.size+1) (w1.heap.size+1+1) _ Y4 T3;have Y5:=Y4.and (Stays.loc b (w1.heap.size+1+1+1) (.cells #[.func (.func 217) #[] #[.pointer (some ⟨w1.heap.size+1+1,0,none⟩),.pointer (some ⟨k2,0,none⟩)]] 194 (0,0)))
 have T5:=and_clo d o k2 w1.heap.size (w1.heap.size+1) (w1.heap.size+1+1) (w1.heap.size+1+1+1) _ Y4 T4;refine (qeN ((S8.out.alloc (.cells #[.func (.func 217) #[] #[.pointer (some ⟨w1.heap.size+1+1,0,none⟩),.pointer (some ⟨k2,0,none⟩)]] 194 (0,0))).alloc (strs ssOr)) d 219 #[] #[.pointer (some ⟨k2,0,none⟩),.pointer (some ⟨w1.heap.size+1+1+1,0,none⟩)] _ Y5 _ T5 enters5 ?EN ssOr _ _ Q9 zak r RR.out).mono ?_
 case EN=>exact⟨⟨⟨⟨⟨trivial,((((L2a.out.alloc _).alloc _).alloc _).alloc _).alloc _⟩,(((Q5.alloc _).alloc _).alloc _).alloc _⟩,((Q6.alloc _).alloc _).alloc _⟩,(Q7.alloc _).alloc _⟩,Q8.alloc _⟩
 have KZ:=Lib.hid (((((KK.out.alloc (.cells #[.func (.func 212) #[] #[.pointer (some ⟨k2,0,none⟩)]] 194 (0,0))).alloc (.cells #[.func (.func 215) #[] #[.pointer (some ⟨k2,0,none⟩),.pointer (some ⟨w1.heap.size,0,none⟩)]] 194 (0,0))).alloc (.cells #[.func (.func 216) #[] #[.pointer (some ⟨k2,0,none⟩),.pointer (some ⟨w1.heap.size+1,0,none⟩)]] 194 (0,0))).alloc (.cells #[.func (.func 217) #[] #[.pointer (some ⟨w1.heap.size+1+1,0,none⟩),.pointer (some ⟨k2,0,none⟩)]] 194 (0,0))).alloc (strs ssOr))
 clear Q5 Q6 Q7 Q8 Q9 Y0 Y1 Y2 Y3 Y4 Y5 T1 T2 T3 T4 T5
 rcases r with ⟨e1,e2⟩ | ⟨a1,m1,ns1⟩
 · rintro e w2 ⟨he,nv_w2,hk⟩;have HK_w2:=Lib.hid hk;clear hk;unfold noV at he;subst he
   go_wp2_with fail
   exact⟨rfl,PPost.err rfl (KZ.out.trans HK_w2.out)⟩
 · rintro e w2 ⟨he,nv_w2,hs,hk,hm⟩;have HS_w2:=Lib.hid hs;have HK_w2:=Lib.hid hk;have HM_w2:=Lib.hid hm;clear hs hk hm;unfold intV at he;subst he
   go_wp2_with fail;go_ret;exact PPost.res rfl HS_w2.out (KZ.out.trans HK_w2.out) HM_w2.out
theorem start_hr {α:Type} {p:PM α} {m:Nat} {N:List Nd} {r:PR α} (hr:p m N.length=r):prep [] (p m (N.length+([]:List Nd).length))=r:=by rw[qaC];exact hr
theorem qgf {α β:Type} {NS:List Nd} {p:PM α} {f:α→PM β} {m n:Nat} {r:PR β} (hr:prep NS (pbind p f m n)=r):∃ r1,p m n=r1:=⟨_,rfl⟩
theorem qgq {α β:Type} {NS:List Nd} {p:PM α} {f:α→PM β} {m n:Nat} {r:PR β} {c a:Int} (hr:prep NS (pbind p f m n)=r) (h:p m n=.error (c,a)):.error (c,a)=r:=by
 rw[qan h] at hr;exact hr
theorem step_ok {α β:Type} {N NS ns:List Nd} {p:PM α} {f:α→PM β} {m m1:Nat} {v:α} {r:PR β} (hr:prep NS (pbind p f m (N.length+NS.length))=r) (h:p m (N.length+NS.length)=.ok (v,m1,ns)) :
  prep (NS++ns) (f v m1 (N.length+(NS++ns).length))=r:=by
 rw[qaj h,qbR] at hr;rw[List.length_append,←Nat.add_assoc];exact hr
theorem deep1_any {b lb lo cap:Nat} {nv:Value} {L:Toks} {m:Nat} {N:List Nd} {w:World} (h:St b lb lo cap nv L m N w) (d:Nat) (hd:d≤17) (z:Int) (hz:z=(d:Int)) (r:PR Unit) (hr:deepP L d m N.length=r) :
  Calls Tryz.prog 130 #[.pointer (some ⟨b,0,none⟩),.int .i64 z] w (PPost unitV b lb lo cap nv L m N w r):=by subst hz;exact qdg h d hd r hr
def Dp (b lb lo cap:Nat) (L:Toks) (F:FuncId) (z:Int) (p:PM Int):Prop:=∀ nv m N w,St b lb lo cap nv L m N w→∀ r,p m N.length=r→Calls Tryz.prog F #[.pointer (some ⟨b,0,none⟩),.int .i64 z] w (PPost intV b lb lo cap nv L m N w r)
theorem must1_yes {L:Toks} {s:ByteArray} {m n:Nat} (h:isP L s m=true):mustP L [s] m n=.ok ((),m+1,[]):=by rw[qbp h];rfl
theorem qda {L:Toks} {s:ByteArray} {m:Nat} (hw:wordB s=true) (hk:(tk L m).1.k=5) (hs:(tk L m).1.s.toList=s.toList):isP L s m=true:=by
 unfold isP;rw[hw,hk,hs];simp
theorem call_any (s:ByteArray) (w:World):Calls Tryz.prog 234 #[.string s] w fun e w'=>e=.returned (.int .i64 (callF s))∧Ext w w':=by
 unfold callF sIs
 cases h1:(s.toList==[103,101,116])
 · cases h2:(s.toList==[104,97,115])
   · cases h3:(s.toList==[108,101,110])
     · cases h4:(s.toList==[115,104,111,119])
       all_goals
        go_enter Tryz.func234,Tryz.ntmps234;go_wp2_with fail;go_ret
        exact⟨rfl,zab⟩
     ·
       go_enter Tryz.func234,Tryz.ntmps234;go_wp2_with fail;go_ret
       exact⟨rfl,zab⟩
   ·
     go_enter Tryz.func234,Tryz.ntmps234;go_wp2_with fail;go_ret
     exact⟨rfl,zab⟩
 ·
   go_enter Tryz.func234,Tryz.ntmps234;go_wp2_with fail;go_ret
   exact⟨rfl,zab⟩
theorem takesP_yes {L:Toks} {s:ByteArray} {m n:Nat} (h:isP L s m=true):takesP L s m n=.ok (true,m+1,[]):=by unfold takesP;rw[if_pos h]
variable {L:Toks}
def rb {β:Type} (n0:Nat) (r:PR Unit) (K:PM β):PR β:=match r with | .error e=>.error e | .ok (_,m,ns)=>prep ns (K m (n0+ns.length))
theorem qdF {β:Type} (f:Unit→PM β) (m n:Nat):pbind skipP f m n=rb n (.ok ((),m+1,[])) (f ()):=rfl
theorem rb_begin {β:Type} {p:PM β} {m n:Nat} {r:PR β} (h:p m n=r):r=rb n (.ok ((),m,[])) p:=h.symm.trans (qaC _).symm
theorem qey {α:Type} (p:PM α):pbind p pok=p:=by
 funext m n
 unfold pbind
 cases p m n with
 | error e=>rfl
 | ok q=>obtain⟨v,m',ns⟩:=q;simp[pok,prep]
def KB' (n0:Nat) {α:Type} (r:PR Unit) (p:PM α) (r':PR Unit) (v:α):Prop:=∀ (β:Type) (K:α→PM β),rb n0 r (pbind p K)=rb n0 r' (K v)
theorem KB'.go {n0:Nat} {α β:Type} {r r':PR Unit} {p:PM α} {v:α} {K:α→PM β} {res:PR β} (h:KB' n0 r p r' v) (ht:res=rb n0 r (pbind p K)):res=rb n0 r' (K v):=ht.trans (h β K)
theorem qea (L:Toks) (z:Nd):layP L z=pbind (layP L z) pok:=(qey _).symm
theorem pno_bind {α β:Type} (c:Int) (K:α→PM β):(pno L c:PM β)=pbind (pno L c) K:=rfl
theorem deep_ok {β:Type} {d:Nat} (h:d≤16) (K:Unit→PM β):pbind (deepP L d) K=K ():=by
 funext m n
 simp only[pbind,deepP,if_neg (Nat.not_lt.2 h)]
 cases K () m n with
 | error e=>rfl
 | ok z=>obtain⟨v,m',ns⟩:=z;simp[prep]
theorem deep_no {β:Type} {d:Nat} (h:16<d) (K:Unit→PM β):pbind (deepP L d) K=pbind (pno L 14) K:=by
 funext m n
 simp only[pbind,deepP,if_pos h,pno]
theorem qeK {β:Type} {s:ByteArray} {m n:Nat} {f:Unit→PM β} {r:PR β} (hp:isP L s m=true) (h:pbind skipP f m n=r):r=rb n (.ok ((),m,[])) (pbind (mustP L [s]) f):=by
 refine rb_begin (h ▸ ?_);rw[qaj (must1_yes hp),qaj (show skipP m n=.ok ((),m+1,[]) from rfl)]
theorem qbw {β:Type} {s:ByteArray} {m n:Nat} (p q:PM β) (h:isP L s m=true):pbind (takesP L s) (fun x=>if x=true then p else q) m n=pbind skipP (fun _=>p) m n:=by simp only[pbind,takesP,h,if_pos,skipP]
theorem qbt {β:Type} {s:ByteArray} {m n:Nat} (p q:PM β) (h:isP L s m=false):pbind (takesP L s) (fun x=>if x=true then p else q) m n=q m n:=by
 simp only[pbind,takesP,h,Bool.false_eq_true,if_false]
 cases q m n with
 | error e=>rfl
 | ok z=>obtain⟨v,m',ns⟩:=z;simp[prep]
set_option maxHeartbeats 1000000
variable {b lb lo cap m0 m:Nat} {nv nv0 nv1:Value} {L:Toks} {N N0:List Nd} {w w' w0 w1:World} {F:List (Nat × Obj)} {r:PR Unit} {res:PR Int}
def PS (b lb lo cap:Nat) (L:Toks) (m0:Nat) (N0:List Nd) (nv0:Value) (w0:World) (F:List (Nat × Obj)) (r:PR Unit) (w:World):Prop :=
 match r with
 | .error _=>False
 | .ok (_,m,ns)=>m0≤m∧∃ nv,St b lb lo cap nv L m (N0++ns) w∧Kp b nv0 nv w0 w∧∀ q∈F,Loc b nv q.1 q.2 w∧lb≠q.1∧w0.heap.size≤q.1
theorem PS.ext (H:Hid (PS b lb lo cap L m0 N0 nv0 w0 F r w)) (hx:Ext w w'):Hid (PS b lb lo cap L m0 N0 nv0 w0 F r w'):=by
 have h:=H.out
 match r,h with
 | .ok (_,m,ns),⟨hm,nv,h1,h2,h3⟩=>exact Lib.hid ⟨hm,nv,h1.ext hx,h2.ext hx,fun q hq=>⟨(h3 q hq).1.ext hx,(h3 q hq).2⟩⟩
theorem PS.tail {q:Nat × Obj} (H:Hid (PS b lb lo cap L m0 N0 nv0 w0 (q::F) r w)):Hid (PS b lb lo cap L m0 N0 nv0 w0 F r w):=by
 have h:=H.out
 match r,h with
 | .ok (_,m,ns),⟨hm,nv,h1,h2,h3⟩=>exact Lib.hid ⟨hm,nv,h1,h2,fun q hq=>h3 q (List.mem_cons_of_mem _ hq)⟩
theorem PS.new (H:Hid (PS b lb lo cap L m0 N0 nv0 w0 F r w)) (o:Obj):Hid (PS b lb lo cap L m0 N0 nv0 w0 ((w.heap.size,o)::F) r (w.alloc o)):=by
 have h:=H.out
 match r,h with
 | .ok (_,m,ns),⟨hm,nv,h1,h2,h3⟩ =>
  refine Lib.hid ⟨hm,nv,h1.alloc o,h2.alloc o,fun q hq=>?_⟩;rcases List.mem_cons.1 hq with rfl | hq
  · exact⟨h1.loc o,by have:=h1.low;have:=h1.lt;dsimp only;omega,h2.size⟩
  · exact⟨(h3 q hq).1.alloc o,(h3 q hq).2⟩
theorem PS.set {k:Nat} {cs:Array Value} {t:TypeId} (H:Hid (PS b lb lo cap L m0 N0 nv0 w0 [(k,.cells cs t (0,0))] r w)) (i:Nat) (v:Value):Hid (PS b lb lo cap L m0 N0 nv0 w0 [(k,.cells (cs.setIfInBounds i v) t (0,0))] r (w.setCell ⟨k,i,none⟩ v)):=by
 have h:=H.out
 match r,h with
 | .ok (_,m,ns),⟨hm,nv,h1,h2,h3⟩ =>
  obtain⟨q1,q2,q3⟩:=h3 _ List.mem_cons_self
  refine Lib.hid ⟨hm,nv,h1.setLoc q1 q2 i v,h2.setNew q3 i v,fun q hq=>?_⟩;obtain rfl:=List.mem_singleton.1 hq
  exact⟨q1.set i v,q2,q3⟩
theorem PS.node {k:Nat} {v0 v1 v2 v3 v4 v5 v6 v7:Value} (H:Hid (PS b lb lo cap L m0 N0 nv0 w0 [(k,.cells #[v0,v1,v2,v3,v4,v5,v6,v7] 166 (0,0))] r w)):w.cell? ⟨k,0,none⟩=some v0∧w.cell? ⟨k,1,none⟩=some v1∧w.cell? ⟨k,2,none⟩=some v2∧w.cell? ⟨k,3,none⟩=some v3∧w.cell? ⟨k,4,none⟩=some v4∧w.cell? ⟨k,5,none⟩=some v5∧w.cell? ⟨k,6,none⟩=some v6∧w.cell? ⟨k,7,none⟩=some v7∧w.frozen? ⟨k,0,none⟩=false∧w.frozen? ⟨k,1,none⟩=false∧w.frozen? ⟨k,2,none⟩=false∧w.frozen? ⟨k,3,none⟩=false∧w.frozen? ⟨k,5,none⟩=false∧w.frozen? ⟨k,6,none⟩=false∧w.frozen? ⟨k,7,none⟩=false∧k<w.heap.size:=by
 have h:=H.out
 match r,h with
 | .ok (_,m,ns),⟨hm,nv,h1,h2,h3⟩=>exact(h3 _ List.mem_cons_self).1.node
theorem PS.begin (h:St b lb lo cap nv0 L m N w):Hid (PS b lb lo cap L m N nv0 w [] (.ok ((),m,[])) w) :=
 Lib.hid ⟨Nat.le_refl m,nv0,h.cast (List.append_nil N).symm,Kp.refl b nv0 w,fun q hq=>by cases hq⟩
theorem PS.fin {v:Int} (H:Hid (PS b lb lo cap L m0 N0 nv0 w0 F r w)) (T:Hid (res=rb N0.length r (pok v))):PPost intV b lb lo cap nv0 L m0 N0 w0 res (.returned (.int .i64 v)) w:=by
 have h:=H.out;have hr:=T.out;subst hr
 match r,h with
 | .ok (_,m,ns),⟨hm,nv,h1,h2,h3⟩=>exact PPost.res rfl (h1.cast (by rw[List.append_nil])) h2 hm
theorem puni {α:Type} {V:Int→α→Value} {fn:FuncId} {args:Array Value} {p:PM α} {K:α→PM Int} (pl:Nat→Int) (H:Hid (PS b lb lo cap L m0 N0 nv0 w0 F r w)) (T:Hid (res=rb N0.length r (pbind p K)))
  (live:∀ nv m N,St b lb lo cap nv L m N w→(∀ q∈F,Loc b nv q.1 q.2 w)→∀ q,p m N.length=q→Calls Tryz.prog fn args w (PPost (V (pl m)) b lb lo cap nv L m N w q)) :
  Calls Tryz.prog fn args w fun e w'=>(∃ c a,e=.panicked [{ v:=.iface 190 (.agg #[.int .i64 c,.int .i64 a]),recovered:=false }]∧Hid (PPost intV b lb lo cap nv0 L m0 N0 w0 res (noV c a) w'))∨∃ (a:Int) (v:α) (r':PR Unit),e=.returned (V a v)∧Hid (res=rb N0.length r' (K v))∧Hid (PS b lb lo cap L m0 N0 nv0 w0 F r' w'):=by
 have h:=H.out;have hr:=T.out
 match r,h with
 | .ok (_,m,ns),⟨hm,nv,h1,h2,h3⟩ =>
  refine (live nv m (N0++ns) h1 (fun q hq=>(h3 q hq).1) _ rfl).mono fun e w' hp=>?_
  have hl:(N0++ns).length=N0.length+ns.length:=List.length_append
  rw[hl] at hp
  cases hq:p m (N0.length+ns.length) with
  | error e1 =>
   obtain⟨c,a⟩:=e1
   rw[hq] at hp
   obtain⟨he,nv',hk'⟩:=hp
   refine .inl ⟨c,a,he,Lib.hid ?_⟩;rw[hr];simp only[rb,qan hq]
   exact⟨rfl,nv',h2.trans hk'⟩
  | ok q1 =>
   obtain⟨v,m',ns'⟩:=q1
   rw[hq] at hp
   obtain⟨he,nv',hR',hk',hm'⟩:=hp
   refine .inr ⟨pl m,v,.ok ((),m',ns++ns'),he,Lib.hid ?_,Lib.hid ⟨Nat.le_trans hm hm',nv',hR'.cast (List.append_assoc _ _ _),h2.trans hk',fun q hq=>⟨(h3 q hq).1.kp hk',(h3 q hq).2⟩⟩⟩;rw[hr];simp only[rb,qaj hq,qbR,List.length_append,Nat.add_assoc]
theorem pdp (H:Hid (PS b lb lo cap L m0 N0 nv0 w0 F r w)) {fn:FuncId} {d:Int} {p:PM Int} (he:Dp b lb lo cap L fn d p) {K:Int→PM Int} (T:Hid (res=rb N0.length r (pbind (p) K))):Calls Tryz.prog fn #[.pointer (some ⟨b,0,none⟩),.int .i64 d] w fun e w'=>(∃ c a,e=.panicked [{ v:=.iface 190 (.agg #[.int .i64 c,.int .i64 a]),recovered:=false }]∧Hid (PPost intV b lb lo cap nv0 L m0 N0 w0 res (noV c a) w'))∨∃ (z:Int) (r':PR Unit),e=.returned (.int .i64 z)∧Hid (res=rb N0.length r' (K z))∧Hid (PS b lb lo cap L m0 N0 nv0 w0 F r' w') :=
 (puni (V:=fun _=>intV) (fun _=>0) H T fun nv m N hs _ q hq=>he nv m N w hs q hq).mono fun e w' h=>h.imp id fun ⟨_,v,r',q⟩=>⟨v,r',q⟩
theorem pof (H:Hid (PS b lb lo cap L m0 N0 nv0 w0 F r w)) (k:Int) (h0:k≠0) {K:Tok→PM Int} (T:Hid (res=rb N0.length r (pbind (ofP L k) K))):Calls Tryz.prog 112 #[.pointer (some ⟨b,0,none⟩),.int .i64 k] w fun e w'=>(∃ c a,e=.panicked [{ v:=.iface 190 (.agg #[.int .i64 c,.int .i64 a]),recovered:=false }]∧Hid (PPost intV b lb lo cap nv0 L m0 N0 w0 res (noV c a) w'))∨∃ (a:Int) (k':Int) (s:ByteArray) (i:Int) (r':PR Unit),e=.returned (.agg #[.int .i64 k',.int .i64 a,.string s,.int .i64 i])∧Hid (res=rb N0.length r' (K ⟨k',s,i⟩))∧Hid (PS b lb lo cap L m0 N0 nv0 w0 F r' w') :=
 (puni (V:=fun a t=>tokV t a) (fun m=>(tk L m).2) H T fun nv m N hs _ q hq=>of_any hs k h0 q hq).mono fun e w' h=>h.imp id fun ⟨a,t,r',q⟩=>⟨a,t.k,t.s,t.i,r',q⟩
theorem qba (H:Hid (PS b lb lo cap L m0 N0 nv0 w0 F r w)) (s:ByteArray) (z:Nat) (hz:z=w.heap.size) {K:Unit→PM Int} (T:Hid (res=rb N0.length r (pbind (mustP L [s]) K))):Calls Tryz.prog 195 #[.pointer (some ⟨b,0,none⟩),.slice (some ⟨z,0,none⟩) 1 1] (w.alloc (.cells #[.string s] 9 (0,0))) fun e w'=>(∃ c a,e=.panicked [{ v:=.iface 190 (.agg #[.int .i64 c,.int .i64 a]),recovered:=false }]∧Hid (PPost intV b lb lo cap nv0 L m0 N0 w0 res (noV c a) w'))∨∃ (r':PR Unit),e=.returned (.tuple #[])∧Hid (res=rb N0.length r' (K ()))∧Hid (PS b lb lo cap L m0 N0 nv0 w0 F r' w') :=
 (puni (V:=fun _=>unitV) (fun _=>0) (PS.new H (strs [s])) T fun nv m N hs hl q hq=>hz ▸ must_any hs [s] w.heap.size 1 (hl _ List.mem_cons_self) zaj q hq).mono fun e w' h=>h.imp id fun ⟨_,_,r',q1,q2,q3⟩=>⟨r',q1,q2,PS.tail q3⟩
theorem pmust3 (H:Hid (PS b lb lo cap L m0 N0 nv0 w0 F r w)) (s s2 s3:ByteArray) (z:Nat) (hz:z=w.heap.size) {K:Unit→PM Int} (T:Hid (res=rb N0.length r (pbind (mustP L [s,s2,s3]) K))):Calls Tryz.prog 195 #[.pointer (some ⟨b,0,none⟩),.slice (some ⟨z,0,none⟩) 3 3] (w.alloc (.cells #[.string s,.string s2,.string s3] 9 (0,0))) fun e w'=>(∃ c a,e=.panicked [{ v:=.iface 190 (.agg #[.int .i64 c,.int .i64 a]),recovered:=false }]∧Hid (PPost intV b lb lo cap nv0 L m0 N0 w0 res (noV c a) w'))∨∃ (r':PR Unit),e=.returned (.tuple #[])∧Hid (res=rb N0.length r' (K ()))∧Hid (PS b lb lo cap L m0 N0 nv0 w0 F r' w') :=
 (puni (V:=fun _=>unitV) (fun _=>0) (PS.new H (strs [s,s2,s3])) T fun nv m N hs hl q hq=>hz ▸ must_any hs [s,s2,s3] w.heap.size 3 (hl _ List.mem_cons_self) zaj q hq).mono fun e w' h=>h.imp id fun ⟨_,_,r',q1,q2,q3⟩=>⟨r',q1,q2,PS.tail q3⟩
theorem ptakes (H:Hid (PS b lb lo cap L m0 N0 nv0 w0 F r w)) (s:ByteArray) {K:Bool→PM Int} (T:Hid (res=rb N0.length r (pbind (takesP L s) K))):Calls Tryz.prog 194 #[.pointer (some ⟨b,0,none⟩),.string s] w fun e w'=>(∃ c a,e=.panicked [{ v:=.iface 190 (.agg #[.int .i64 c,.int .i64 a]),recovered:=false }]∧Hid (PPost intV b lb lo cap nv0 L m0 N0 w0 res (noV c a) w'))∨∃ (x:Bool) (r':PR Unit),e=.returned (.bool x)∧Hid (res=rb N0.length r' (K x))∧Hid (PS b lb lo cap L m0 N0 nv0 w0 F r' w') :=
 (puni (V:=fun _ x=>.bool x) (fun _=>0) H T fun nv m N hs _ q hq=>takes_any hs s q hq).mono fun e w' h=>h.imp id fun ⟨_,v,r',q⟩=>⟨v,r',q⟩
theorem pturns (H:Hid (PS b lb lo cap L m0 N0 nv0 w0 F r w)) {K:Int→PM Int} (T:Hid (res=rb N0.length r (pbind (qbn L) K))):Calls Tryz.prog 166 #[.pointer (some ⟨b,0,none⟩)] w fun e w'=>(∃ c a,e=.panicked [{ v:=.iface 190 (.agg #[.int .i64 c,.int .i64 a]),recovered:=false }]∧Hid (PPost intV b lb lo cap nv0 L m0 N0 w0 res (noV c a) w'))∨∃ (z:Int) (r':PR Unit),e=.returned (.int .i64 z)∧Hid (res=rb N0.length r' (K z))∧Hid (PS b lb lo cap L m0 N0 nv0 w0 F r' w') :=
 (puni (V:=fun _=>intV) (fun _=>0) H T fun nv m N hs _ q hq=>turns_any hs q hq).mono fun e w' h=>h.imp id fun ⟨_,v,r',q⟩=>⟨v,r',q⟩
theorem pdeep (H:Hid (PS b lb lo cap L m0 N0 nv0 w0 F r w)) (d:Nat) (hd:d≤17) (z:Int) (hz:z=(d:Int)) {K:Unit→PM Int} (T:Hid (res=rb N0.length r (pbind (deepP L d) K))):Calls Tryz.prog 130 #[.pointer (some ⟨b,0,none⟩),.int .i64 z] w fun e w'=>(∃ c a,e=.panicked [{ v:=.iface 190 (.agg #[.int .i64 c,.int .i64 a]),recovered:=false }]∧Hid (PPost intV b lb lo cap nv0 L m0 N0 w0 res (noV c a) w'))∨(d≤16∧∃ (r':PR Unit),e=.returned (.tuple #[])∧Hid (res=rb N0.length r' (K ()))∧Hid (PS b lb lo cap L m0 N0 nv0 w0 F r' w')):=by
 by_cases h6:d≤16
 · exact(puni (V:=fun _=>unitV) (fun _=>0) H T fun nv m N hs _ q hq=>deep1_any hs d hd z hz q hq).mono fun e w' h=>h.imp id fun ⟨_,_,r',q⟩=>⟨h6,r',q⟩
 · have h:=H.out
   have hr:=T.out
   match r,h with
   | .ok (_,m,ns),⟨hm,nv,h1,h2,h3⟩ =>
    refine (deep1_any h1 d hd z hz _ (if_pos (Nat.not_le.1 h6))).mono fun e w' ⟨he,nv',hk⟩=>.inl ⟨_,_,he,Lib.hid ?_⟩
    rw[hr,deep_no (Nat.not_le.1 h6)]
    exact⟨rfl,nv',h2.trans hk⟩
theorem pend {fn:FuncId} {args:Array Value} {p:PM Int} (H:Hid (PS b lb lo cap L m0 N0 nv0 w0 F r w)) (live:∀ nv m N,St b lb lo cap nv L m N w→∀ q,p m N.length=q→Calls Tryz.prog fn args w (PPost intV b lb lo cap nv L m N w q)) (T:Hid (res=rb N0.length r p)):Calls Tryz.prog fn args w fun e w'=>(∃ c a,e=.panicked [{ v:=.iface 190 (.agg #[.int .i64 c,.int .i64 a]),recovered:=false }]∧Hid (PPost intV b lb lo cap nv0 L m0 N0 w0 res (noV c a) w'))∨∃ z:Int,e=.returned (.int .i64 z)∧Hid (PPost intV b lb lo cap nv0 L m0 N0 w0 res (.returned (.int .i64 z)) w') :=
 (puni (V:=fun _=>intV) (K:=pok) (fun _=>0) H (Lib.hid (T.out.trans (congrArg _ (qey _).symm))) fun nv m N hs _ q hq=>live nv m N hs q hq).mono fun e w' h=>h.imp id fun ⟨_,v,r',q1,q2,q3⟩=>⟨v,q1,Lib.hid (PS.fin q3 q2)⟩
theorem pend1 {fn:FuncId} {args:Array Value} {p:PM Int} (H:Hid (PS b lb lo cap L m N nv0 w0 F (.ok ((),m,[])) w)) (live:∀ nv,St b lb lo cap nv L m N w→∀ q,p m N.length=q→Calls Tryz.prog fn args w (PPost intV b lb lo cap nv L m N w q)) (T:Hid (res=rb N.length (.ok ((),m,[])) p)):Calls Tryz.prog fn args w fun e w'=>(∃ c a,e=.panicked [{ v:=.iface 190 (.agg #[.int .i64 c,.int .i64 a]),recovered:=false }]∧Hid (PPost intV b lb lo cap nv0 L m N w0 res (noV c a) w'))∨∃ z:Int,e=.returned (.int .i64 z)∧Hid (PPost intV b lb lo cap nv0 L m N w0 res (.returned (.int .i64 z)) w'):=by
 obtain⟨hm,nv,h1,h2,h3⟩:=H.out
 have e:res=p m N.length:=T.out.trans (qaC _)
 refine (live nv (h1.cast (List.append_nil N)) _ e.symm).mono fun e' w' hp=>?_
 match res,hp with
 | .error (c,a),⟨he,nv',hk⟩=>exact .inl ⟨c,a,he,Lib.hid ⟨rfl,nv',h2.trans hk⟩⟩
 | .ok (v,m',ns),⟨he,nv',hs,hk,hm'⟩=>exact .inr ⟨v,he,Lib.hid ⟨rfl,nv',hs,h2.trans hk,hm'⟩⟩
theorem play (H:Hid (PS b lb lo cap L m0 N0 nv0 w0 F r w)) (zk za zb zc zx zi:Int) (zs zt:ByteArray) (T:Hid (res=rb N0.length r (layP L ⟨zk,za,zb,zc,zx,zi,zs,zt⟩))):Calls Tryz.prog 168 #[.pointer (some ⟨b,0,none⟩),.agg #[.int .i64 zk,.int .i64 za,.int .i64 zb,.int .i64 zc,.int .i64 zx,.int .i64 zi,.string zs,.string zt]] w fun e w'=>(∃ c a,e=.panicked [{ v:=.iface 190 (.agg #[.int .i64 c,.int .i64 a]),recovered:=false }]∧Hid (PPost intV b lb lo cap nv0 L m0 N0 w0 res (noV c a) w'))∨∃ z:Int,e=.returned (.int .i64 z)∧Hid (PPost intV b lb lo cap nv0 L m0 N0 w0 res (.returned (.int .i64 z)) w') :=
 pend H (fun nv m N hs q hq=>lay_any hs zk za zb zc zx zi zs zt q hq) T
theorem pfail (H:Hid (PS b lb lo cap L m0 N0 nv0 w0 F r w)) (z:Int) (T:Hid (res=rb N0.length r (pno L z))):Calls Tryz.prog 133 #[.pointer (some ⟨b,0,none⟩),.int .i64 z] w fun e w'=>∃ c a,e=.panicked [{ v:=.iface 190 (.agg #[.int .i64 c,.int .i64 a]),recovered:=false }]∧Hid (PPost intV b lb lo cap nv0 L m0 N0 w0 res (noV c a) w'):=by
 have h:=H.out;have hr:=T.out
 match r,h with
 | .ok (_,m,ns),⟨hm,nv,h1,h2,h3⟩ =>
  refine (qca h1 z).mono fun e w' ⟨he,hx⟩=>⟨_,_,he,Lib.hid ?_⟩
  rw[hr]
  exact⟨rfl,nv,h2.ext hx⟩
end Go.Proofs.YtpnabjopfpdkhaaGreatDoor
