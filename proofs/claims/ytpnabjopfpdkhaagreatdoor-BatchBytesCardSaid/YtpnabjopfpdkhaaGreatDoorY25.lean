/- Lemmas. -/
import Derived.Test.YtpnabjopfpdkhaaGreatDoorY24
set_option linter.all false
set_option maxHeartbeats 4000000
set_option maxRecDepth 20000
namespace Go.Proofs.YtpnabjopfpdkhaaGreatDoor
open Tryz RowKit
attribute [go_sem] more_more Array.size_append
variable {b lb lo cap m:Nat} {nv:Value} {L:Toks} {N:List Nd} {w:World}
def isP_other {L:Toks} {m:Nat} {s:ByteArray} (h:(tk L m).1.s.toList≠s.toList):isP L s m=false:=by
 unfold isP;have:((tk L m).1.s.toList==s.toList)=false:=by simpa using h
 rw[this,Bool.and_false]
def wb_let:wordB ⟨#[108,101,116]⟩=true:=by kernel_rfl
def tl_let:(⟨#[108,101,116]⟩:ByteArray).toList=[108,101,116]:=by kernel_rfl
def wb_set:wordB ⟨#[115,101,116]⟩=true:=by kernel_rfl
def tl_set:(⟨#[115,101,116]⟩:ByteArray).toList=[115,101,116]:=by kernel_rfl
def wb_if:wordB ⟨#[105,102]⟩=true:=by kernel_rfl
def tl_if:(⟨#[105,102]⟩:ByteArray).toList=[105,102]:=by kernel_rfl
def wb_for:wordB ⟨#[102,111,114]⟩=true:=by kernel_rfl
def tl_for:(⟨#[102,111,114]⟩:ByteArray).toList=[102,111,114]:=by kernel_rfl
def skip_takes {s:ByteArray} {n:Nat} {f:Unit->PM Int} {r:PR Int} (hp:isP L s m=true) (h:pbind skipP f m n=r):r=rb n (.ok ((),m+1,[])) (f ()):=h.symm.trans (qdP f m n)
def qgf {F:List (Nat × Obj)} {m0:Nat} {N0:List Nd} {nv0:Value} {w0:World} (H:Hid (PS b lb lo cap L m0 N0 nv0 w0 F (.ok ((),m,[])) w)) (s:ByteArray) (hp:isP L s m=true):Calls prog 194 #[.pointer (some ⟨b,0,none⟩),.string s] w fun e w'=>e=.returned (.bool true)/\Hid (PS b lb lo cap L m0 N0 nv0 w0 F (.ok ((),m+1,[])) w'):=by
 obtain⟨hm,nv,h1,h2,h3⟩:=H.out;refine (takes_any h1 s (.ok (true,m+1,[])) (takesP_yes hp)).mono fun e w' ⟨he,nv',hs,hk,hm'⟩=>⟨he,J ⟨Nat.le_trans hm hm',nv',hs.cast (by rw[List.append_nil]),h2.trans hk,fun q hq=>⟨(h3 q hq).1.kp hk,(h3 q hq).2⟩⟩⟩
def PS.step {w':World} (h:St b lb lo cap nv L m N w) (hx:Ext w w') (hn:m+1<L.length):Hid (PS b lb lo cap L m N nv w [] (.ok ((),m+1,[])) (w'.setCell ⟨b,1,none⟩ (.int .i64 ((m:Int)+1)))) :=
 J ⟨Nat.le_succ m,nv,((h.ext hx).setAt (m+1) ((m:Int)+1) Y hn).cast (List.append_nil N).symm,((Kp.refl b nv w).ext hx).setB 1 _,fun q hq=>by cases hq⟩
def qdK (h:St b lb lo cap nv L m N w) (z:Int) (bl:PM Int) (hb:Dp b lb lo cap L 111 z bl) (r:PR Int) (hr:qaC L bl m N.length=r) :
  Calls prog 167 #[.pointer (some ⟨b,0,none⟩),.int .i64 z] w (PPost intV b lb lo cap nv L m N w r):=by
 have T0:=J (by have:=rb_begin hr;unfold qaC at this;exact this);have H0:=PS.begin h;have HB:=J hb;clear h hr hb;go_enter func167,ntmps167
 go_wp2_with (first
  | ((with_reducible refine (qbb H0 _ _ jk T0).mono ?_);rintro e w1 (⟨c9,a9,rfl,HP⟩ | ⟨r1,rfl,T1,H1⟩);rotate_left)
  | ((with_reducible refine (pdp H1 HB.out T1).mono ?_);rintro e w2 (⟨c9,a9,rfl,HP⟩ | ⟨z2,r2,rfl,T2,H2⟩);rotate_left)
  | ((with_reducible refine (qbb H2 _ _ jk T2).mono ?_);rintro e w3 (⟨c9,a9,rfl,HP⟩ | ⟨r3,rfl,T3,H3⟩);rotate_left))
 all_goals first | exact⟨rfl,HP.out⟩ | (go_ret;exact PS.fin H3 T3)
def names_let (h:St b lb lo cap nv L m N w) (hk5:(tk L m).1.k=5) (hs:(tk L m).1.s.toList=[108,101,116]) (z:Int) (ex:PM Int) (he:Dp b lb lo cap L 196 z ex) (r:PR Int) (hr:qbE L 20 ex m N.length=r) :
  Calls prog 161 #[.pointer (some ⟨b,0,none⟩),.int .i64 z] w (PPost intV b lb lo cap nv L m N w r):=by
 have T0:=J (by unfold qbE at hr;exact qeN (s:=⟨#[108,101,116]⟩) (qdo wb_let hk5 (by rw[hs,tl_let])) hr);have H0:=PS.begin h;have TN:Hid (∀ w1,Ext w w1->Calls prog 194 #[.pointer (some ⟨b,0,none⟩),.string ⟨#[115,101,116]⟩] w1 fun e w'=>e=.returned (.bool false)/\Ext w1 w'):=J fun w1 hx=>qdC (h.ext hx) _ (isP_other (by rw[hs,tl_set];decide))
 have HE:=J he;clear h hr he hk5 hs;go_enter func161,ntmps161
 go_wp2_with (first
  | ((with_reducible refine (qaG _ _).mono ?_);rintro e wn ⟨rfl,hx⟩;have HN:=PS.new (PS.ext H0 hx) (.cells #[.int .i64 20,.int .i64 (-1),.int .i64 (-1),.int .i64 (-1),.int .i64 (-1),.int .i64 0,.string ⟨#[]⟩,.string ⟨#[]⟩] 166 (0,0));have HX:=J hx;clear hx)
  | ((with_reducible refine (TN.out _ ((HX.out).alloc _)).mono ?_);rintro e wm ⟨rfl,hx⟩;have HM:=PS.ext HN hx;obtain⟨n0,n1,n2,n3,n4,n5,n6,n7,u0,u1,u2,u3,u5,u6,u7,hkl⟩:=PS.node HM;clear hx)
  | ((with_reducible refine (qbb HM _ _ jk T0).mono ?_);rintro e w1 (⟨c9,a9,rfl,HP⟩ | ⟨r1,rfl,T1,H1⟩);rotate_left;obtain⟨n0,n1,n2,n3,n4,n5,n6,n7,u0,u1,u2,u3,u5,u6,u7,hkl⟩:=PS.node H1)
  | ((with_reducible refine (pof H1 1 zw T1).mono ?_);rintro e w2 (⟨c9,a9,rfl,HP⟩ | ⟨a2,k2,s2,i2,r2,rfl,T2,H2⟩);rotate_left;obtain⟨n0,n1,n2,n3,n4,n5,n6,n7,u0,u1,u2,u3,u5,u6,u7,hkl⟩:=PS.node H2;have S2:Hid (PS b lb lo cap L m N nv w [(wn.heap.size,.cells #[.int .i64 20,.int .i64 (-1),.int .i64 (-1),.int .i64 (-1),.int .i64 (-1),.int .i64 0,.string s2,.string ⟨#[]⟩] 166 (0,0))] r2 (w2.setCell ⟨wn.heap.size,6,none⟩ (.string s2))):=PS.set H2 6 (.string s2))
  | ((with_reducible refine (qbb S2 _ _ jk T2).mono ?_);rintro e w3 (⟨c9,a9,rfl,HP⟩ | ⟨r3,rfl,T3,H3⟩);rotate_left;obtain⟨n0,n1,n2,n3,n4,n5,n6,n7,u0,u1,u2,u3,u5,u6,u7,hkl⟩:=PS.node H3)
  | ((with_reducible refine (pdp H3 HE.out T3).mono ?_);rintro e w4 (⟨c9,a9,rfl,HP⟩ | ⟨z4,r4,rfl,T4,H4⟩);rotate_left;obtain⟨n0,n1,n2,n3,n4,n5,n6,n7,u0,u1,u2,u3,u5,u6,u7,hkl⟩:=PS.node H4;have S4:Hid (PS b lb lo cap L m N nv w [(wn.heap.size,.cells #[.int .i64 20,.int .i64 z4,.int .i64 (-1),.int .i64 (-1),.int .i64 (-1),.int .i64 0,.string s2,.string ⟨#[]⟩] 166 (0,0))] r4 (w4.setCell ⟨wn.heap.size,1,none⟩ (.int .i64 z4))):=PS.set H4 1 (.int .i64 z4))
  | ((with_reducible refine (qbb S4 _ _ jk T4).mono ?_);rintro e w5 (⟨c9,a9,rfl,HP⟩ | ⟨r5,rfl,T5,H5⟩);rotate_left;obtain⟨n0,n1,n2,n3,n4,n5,n6,n7,u0,u1,u2,u3,u5,u6,u7,hkl⟩:=PS.node H5)
  | (go_at_call 168;(refine (play H5 _ _ _ _ _ _ _ _ T5).mono ?_);rintro e w6 (⟨c9,a9,rfl,HP⟩ | ⟨z6,rfl,HP⟩)))
 all_goals first | exact⟨rfl,HP.out⟩ | (go_ret;exact HP.out)
def names_set (h:St b lb lo cap nv L m N w) (hk5:(tk L m).1.k=5) (hs:(tk L m).1.s.toList=[115,101,116]) (z:Int) (ex:PM Int) (he:Dp b lb lo cap L 196 z ex) (r:PR Int) (hr:qbE L 21 ex m N.length=r) :
  Calls prog 161 #[.pointer (some ⟨b,0,none⟩),.int .i64 z] w (PPost intV b lb lo cap nv L m N w r):=by
 have T0:=J (by unfold qbE at hr;exact skip_takes (s:=⟨#[115,101,116]⟩) (qdo wb_set hk5 (by rw[hs,tl_set])) hr);have H0:=PS.begin h;have HY:Hid (isP L ⟨#[115,101,116]⟩ m=true):=J (qdo wb_set hk5 (by rw[hs,tl_set]));have HE:=J he;clear h hr he hk5 hs;go_enter func161,ntmps161
 go_wp2_with (first
  | ((with_reducible refine (qaG _ _).mono ?_);rintro e wn ⟨rfl,hx⟩;have HN:=PS.new (PS.ext H0 hx) (.cells #[.int .i64 20,.int .i64 (-1),.int .i64 (-1),.int .i64 (-1),.int .i64 (-1),.int .i64 0,.string ⟨#[]⟩,.string ⟨#[]⟩] 166 (0,0));clear hx)
  | ((with_reducible refine (qgf HN _ HY.out).mono ?_);rintro e w1 ⟨rfl,H1⟩;obtain⟨n0,n1,n2,n3,n4,n5,n6,n7,u0,u1,u2,u3,u5,u6,u7,hkl⟩:=PS.node H1;have S1:Hid (PS b lb lo cap L m N nv w [(wn.heap.size,.cells #[.int .i64 21,.int .i64 (-1),.int .i64 (-1),.int .i64 (-1),.int .i64 (-1),.int .i64 0,.string ⟨#[]⟩,.string ⟨#[]⟩] 166 (0,0))] _ (w1.setCell ⟨wn.heap.size,0,none⟩ (.int .i64 21))):=PS.set H1 0 (.int .i64 21))
  | ((with_reducible refine (pof S1 1 zw T0).mono ?_);rintro e w2 (⟨c9,a9,rfl,HP⟩ | ⟨a2,k2,s2,i2,r2,rfl,T2,H2⟩);rotate_left;obtain⟨n0,n1,n2,n3,n4,n5,n6,n7,u0,u1,u2,u3,u5,u6,u7,hkl⟩:=PS.node H2;have S2:Hid (PS b lb lo cap L m N nv w [(wn.heap.size,.cells #[.int .i64 21,.int .i64 (-1),.int .i64 (-1),.int .i64 (-1),.int .i64 (-1),.int .i64 0,.string s2,.string ⟨#[]⟩] 166 (0,0))] r2 (w2.setCell ⟨wn.heap.size,6,none⟩ (.string s2))):=PS.set H2 6 (.string s2))
  | ((with_reducible refine (qbb S2 _ _ jk T2).mono ?_);rintro e w3 (⟨c9,a9,rfl,HP⟩ | ⟨r3,rfl,T3,H3⟩);rotate_left;obtain⟨n0,n1,n2,n3,n4,n5,n6,n7,u0,u1,u2,u3,u5,u6,u7,hkl⟩:=PS.node H3)
  | ((with_reducible refine (pdp H3 HE.out T3).mono ?_);rintro e w4 (⟨c9,a9,rfl,HP⟩ | ⟨z4,r4,rfl,T4,H4⟩);rotate_left;obtain⟨n0,n1,n2,n3,n4,n5,n6,n7,u0,u1,u2,u3,u5,u6,u7,hkl⟩:=PS.node H4;have S4:Hid (PS b lb lo cap L m N nv w [(wn.heap.size,.cells #[.int .i64 21,.int .i64 z4,.int .i64 (-1),.int .i64 (-1),.int .i64 (-1),.int .i64 0,.string s2,.string ⟨#[]⟩] 166 (0,0))] r4 (w4.setCell ⟨wn.heap.size,1,none⟩ (.int .i64 z4))):=PS.set H4 1 (.int .i64 z4))
  | ((with_reducible refine (qbb S4 _ _ jk T4).mono ?_);rintro e w5 (⟨c9,a9,rfl,HP⟩ | ⟨r5,rfl,T5,H5⟩);rotate_left;obtain⟨n0,n1,n2,n3,n4,n5,n6,n7,u0,u1,u2,u3,u5,u6,u7,hkl⟩:=PS.node H5)
  | (go_at_call 168;(refine (play H5 _ _ _ _ _ _ _ _ T5).mono ?_);rintro e w6 (⟨c9,a9,rfl,HP⟩ | ⟨z6,rfl,HP⟩)))
 all_goals first | exact⟨rfl,HP.out⟩ | (go_ret;exact HP.out)
def simple_put (h:St b lb lo cap nv L m N w) (hk5:(tk L m).1.k=5) (hs:(tk L m).1.s.toList=[112,117,116]) (z:Int) (ex:PM Int) (he:Dp b lb lo cap L 196 z ex) (r:PR Int) (hr:putP L ex m N.length=r) :
  Calls prog 162 #[.pointer (some ⟨b,0,none⟩),.int .i64 z] w (PPost intV b lb lo cap nv L m N w r):=by
 have T0:=J (by unfold putP at hr;exact hr.symm.trans (qdP _ _ _));have hm:(m:Int)<=5000:=by have:=h.ends.few;have:=h.pos;omega
 have hm0:0<=(m:Int):=Y;have NX:=J (h.next (by rw[hk5];decide));have HS:=J h;have HE:=J he;obtain⟨⟨⟨k,ts,i⟩,a⟩,htt⟩:∃ tt,tk L m=tt:=⟨_,rfl⟩
 refine yaj ⟨?_⟩;intro TK;rw[htt] at hs;dsimp only at hs;have q_put:(ts.toList==[112,117,116])=true:=by rw[hs];decide
 have q_delete:(ts.toList==[100,101,108,101,116,101])=false:=by rw[hs];decide
 have q_abort:(ts.toList==[97,98,111,114,116])=false:=by rw[hs];decide
 clear h hr he hk5 hs htt;go_enter func162,ntmps162
 go_wp2_with (first
  | ((with_reducible refine (TK.out).mono ?_);rintro e wt ⟨rfl,hx⟩;have H0:=PS.step HS.out hx NX.out;obtain⟨c0,c1,c2,c3,f1,f2,f3,hbb⟩:=(HS.out.ext hx).facts;clear c0 c2 c3 f2 f3 hx)
  | ((with_reducible refine (qaG _ _).mono ?_);rintro e wn ⟨rfl,hx⟩;have HN:=PS.new (PS.ext H0 hx) (.cells #[.int .i64 22,.int .i64 (-1),.int .i64 (-1),.int .i64 (-1),.int .i64 (-1),.int .i64 0,.string ⟨#[]⟩,.string ⟨#[]⟩] 166 (0,0));clear hx)
  | ((with_reducible refine (pdp HN HE.out T0).mono ?_);rintro e w1 (⟨c9,a9,rfl,HP⟩ | ⟨z1,r1,rfl,T1,H1⟩);rotate_left;obtain⟨n0,n1,n2,n3,n4,n5,n6,n7,u0,u1,u2,u3,u5,u6,u7,hkl⟩:=PS.node H1;have S1:Hid (PS b lb lo cap L m N nv w [(wn.heap.size,.cells #[.int .i64 22,.int .i64 z1,.int .i64 (-1),.int .i64 (-1),.int .i64 (-1),.int .i64 0,.string ⟨#[]⟩,.string ⟨#[]⟩] 166 (0,0))] r1 (w1.setCell ⟨wn.heap.size,1,none⟩ (.int .i64 z1))):=PS.set H1 1 (.int .i64 z1))
  | ((with_reducible refine (qbb S1 _ _ jk T1).mono ?_);rintro e w2 (⟨c9,a9,rfl,HP⟩ | ⟨r2,rfl,T2,H2⟩);rotate_left;obtain⟨n0,n1,n2,n3,n4,n5,n6,n7,u0,u1,u2,u3,u5,u6,u7,hkl⟩:=PS.node H2)
  | ((with_reducible refine (pdp H2 HE.out T2).mono ?_);rintro e w3 (⟨c9,a9,rfl,HP⟩ | ⟨z3,r3,rfl,T3,H3⟩);rotate_left;obtain⟨n0,n1,n2,n3,n4,n5,n6,n7,u0,u1,u2,u3,u5,u6,u7,hkl⟩:=PS.node H3;have S3:Hid (PS b lb lo cap L m N nv w [(wn.heap.size,.cells #[.int .i64 22,.int .i64 z1,.int .i64 z3,.int .i64 (-1),.int .i64 (-1),.int .i64 0,.string ⟨#[]⟩,.string ⟨#[]⟩] 166 (0,0))] r3 (w3.setCell ⟨wn.heap.size,2,none⟩ (.int .i64 z3))):=PS.set H3 2 (.int .i64 z3))
  | ((with_reducible refine (qbb S3 _ _ jk T3).mono ?_);rintro e w4 (⟨c9,a9,rfl,HP⟩ | ⟨r4,rfl,T4,H4⟩);rotate_left;obtain⟨n0,n1,n2,n3,n4,n5,n6,n7,u0,u1,u2,u3,u5,u6,u7,hkl⟩:=PS.node H4)
  | (go_at_call 168;(refine (play H4 _ _ _ _ _ _ _ _ T4).mono ?_);rintro e w5 (⟨c9,a9,rfl,HP⟩ | ⟨z5,rfl,HP⟩)))
 all_goals first | exact⟨rfl,HP.out⟩ | (go_ret;exact HP.out)
def qgL (h:St b lb lo cap nv L m N w) (hk5:(tk L m).1.k=5) (hs:(tk L m).1.s.toList=[100,101,108,101,116,101]) (z:Int) (ex:PM Int) (he:Dp b lb lo cap L 196 z ex) (r:PR Int) (hr:qaH L 23 ex m N.length=r) :
  Calls prog 162 #[.pointer (some ⟨b,0,none⟩),.int .i64 z] w (PPost intV b lb lo cap nv L m N w r):=by
 have T0:=J (by unfold qaH at hr;exact hr.symm.trans (qdP _ _ _));have hm:(m:Int)<=5000:=by have:=h.ends.few;have:=h.pos;omega
 have hm0:0<=(m:Int):=Y;have NX:=J (h.next (by rw[hk5];decide));have HS:=J h;have HE:=J he;obtain⟨⟨⟨k,ts,i⟩,a⟩,htt⟩:∃ tt,tk L m=tt:=⟨_,rfl⟩
 refine yaj ⟨?_⟩;intro TK;rw[htt] at hs;dsimp only at hs;have q_put:(ts.toList==[112,117,116])=false:=by rw[hs];decide
 have q_delete:(ts.toList==[100,101,108,101,116,101])=true:=by rw[hs];decide
 have q_abort:(ts.toList==[97,98,111,114,116])=false:=by rw[hs];decide
 clear h hr he hk5 hs htt;go_enter func162,ntmps162
 go_wp2_with (first
  | ((with_reducible refine (TK.out).mono ?_);rintro e wt ⟨rfl,hx⟩;have H0:=PS.step HS.out hx NX.out;obtain⟨c0,c1,c2,c3,f1,f2,f3,hbb⟩:=(HS.out.ext hx).facts;clear c0 c2 c3 f2 f3 hx)
  | ((with_reducible refine (qaG _ _).mono ?_);rintro e wn ⟨rfl,hx⟩;have HN:=PS.new (PS.ext H0 hx) (.cells #[.int .i64 23,.int .i64 (-1),.int .i64 (-1),.int .i64 (-1),.int .i64 (-1),.int .i64 0,.string ⟨#[]⟩,.string ⟨#[]⟩] 166 (0,0));clear hx)
  | ((with_reducible refine (pdp HN HE.out T0).mono ?_);rintro e w1 (⟨c9,a9,rfl,HP⟩ | ⟨z1,r1,rfl,T1,H1⟩);rotate_left;obtain⟨n0,n1,n2,n3,n4,n5,n6,n7,u0,u1,u2,u3,u5,u6,u7,hkl⟩:=PS.node H1;have S1:Hid (PS b lb lo cap L m N nv w [(wn.heap.size,.cells #[.int .i64 23,.int .i64 z1,.int .i64 (-1),.int .i64 (-1),.int .i64 (-1),.int .i64 0,.string ⟨#[]⟩,.string ⟨#[]⟩] 166 (0,0))] r1 (w1.setCell ⟨wn.heap.size,1,none⟩ (.int .i64 z1))):=PS.set H1 1 (.int .i64 z1))
  | ((with_reducible refine (qbb S1 _ _ jk T1).mono ?_);rintro e w2 (⟨c9,a9,rfl,HP⟩ | ⟨r2,rfl,T2,H2⟩);rotate_left;obtain⟨n0,n1,n2,n3,n4,n5,n6,n7,u0,u1,u2,u3,u5,u6,u7,hkl⟩:=PS.node H2)
  | (go_at_call 168;(refine (play H2 _ _ _ _ _ _ _ _ T2).mono ?_);rintro e w3 (⟨c9,a9,rfl,HP⟩ | ⟨z3,rfl,HP⟩)))
 all_goals first | exact⟨rfl,HP.out⟩ | (go_ret;exact HP.out)
def simple_abort (h:St b lb lo cap nv L m N w) (hk5:(tk L m).1.k=5) (hs:(tk L m).1.s.toList=[97,98,111,114,116]) (z:Int) (ex:PM Int) (he:Dp b lb lo cap L 196 z ex) (r:PR Int) (hr:qaH L 27 ex m N.length=r) :
  Calls prog 162 #[.pointer (some ⟨b,0,none⟩),.int .i64 z] w (PPost intV b lb lo cap nv L m N w r):=by
 have T0:=J (by unfold qaH at hr;exact hr.symm.trans (qdP _ _ _));have hm:(m:Int)<=5000:=by have:=h.ends.few;have:=h.pos;omega
 have hm0:0<=(m:Int):=Y;have NX:=J (h.next (by rw[hk5];decide));have HS:=J h;have HE:=J he;obtain⟨⟨⟨k,ts,i⟩,a⟩,htt⟩:∃ tt,tk L m=tt:=⟨_,rfl⟩
 refine yaj ⟨?_⟩;intro TK;rw[htt] at hs;dsimp only at hs;have q_put:(ts.toList==[112,117,116])=false:=by rw[hs];decide
 have q_delete:(ts.toList==[100,101,108,101,116,101])=false:=by rw[hs];decide
 have q_abort:(ts.toList==[97,98,111,114,116])=true:=by rw[hs];decide
 clear h hr he hk5 hs htt;go_enter func162,ntmps162
 go_wp2_with (first
  | ((with_reducible refine (TK.out).mono ?_);rintro e wt ⟨rfl,hx⟩;have H0:=PS.step HS.out hx NX.out;obtain⟨c0,c1,c2,c3,f1,f2,f3,hbb⟩:=(HS.out.ext hx).facts;clear c0 c2 c3 f2 f3 hx)
  | ((with_reducible refine (qaG _ _).mono ?_);rintro e wn ⟨rfl,hx⟩;have HN:=PS.new (PS.ext H0 hx) (.cells #[.int .i64 27,.int .i64 (-1),.int .i64 (-1),.int .i64 (-1),.int .i64 (-1),.int .i64 0,.string ⟨#[]⟩,.string ⟨#[]⟩] 166 (0,0));clear hx)
  | ((with_reducible refine (pdp HN HE.out T0).mono ?_);rintro e w1 (⟨c9,a9,rfl,HP⟩ | ⟨z1,r1,rfl,T1,H1⟩);rotate_left;obtain⟨n0,n1,n2,n3,n4,n5,n6,n7,u0,u1,u2,u3,u5,u6,u7,hkl⟩:=PS.node H1;have S1:Hid (PS b lb lo cap L m N nv w [(wn.heap.size,.cells #[.int .i64 27,.int .i64 z1,.int .i64 (-1),.int .i64 (-1),.int .i64 (-1),.int .i64 0,.string ⟨#[]⟩,.string ⟨#[]⟩] 166 (0,0))] r1 (w1.setCell ⟨wn.heap.size,1,none⟩ (.int .i64 z1))):=PS.set H1 1 (.int .i64 z1))
  | ((with_reducible refine (qbb S1 _ _ jk T1).mono ?_);rintro e w2 (⟨c9,a9,rfl,HP⟩ | ⟨r2,rfl,T2,H2⟩);rotate_left;obtain⟨n0,n1,n2,n3,n4,n5,n6,n7,u0,u1,u2,u3,u5,u6,u7,hkl⟩:=PS.node H2)
  | (go_at_call 168;(refine (play H2 _ _ _ _ _ _ _ _ T2).mono ?_);rintro e w3 (⟨c9,a9,rfl,HP⟩ | ⟨z3,rfl,HP⟩)))
 all_goals first | exact⟨rfl,HP.out⟩ | (go_ret;exact HP.out)
def qgE (h:St b lb lo cap nv L m N w) (hk5:(tk L m).1.k=5) (hs:(tk L m).1.s.toList=[114,101,116,117,114,110]) (z:Int) (ex:PM Int) (he:Dp b lb lo cap L 196 z ex) (r:PR Int) (hr:qaH L 28 ex m N.length=r) :
  Calls prog 162 #[.pointer (some ⟨b,0,none⟩),.int .i64 z] w (PPost intV b lb lo cap nv L m N w r):=by
 have T0:=J (by unfold qaH at hr;exact hr.symm.trans (qdP _ _ _));have hm:(m:Int)<=5000:=by have:=h.ends.few;have:=h.pos;omega
 have hm0:0<=(m:Int):=Y;have NX:=J (h.next (by rw[hk5];decide));have HS:=J h;have HE:=J he;obtain⟨⟨⟨k,ts,i⟩,a⟩,htt⟩:∃ tt,tk L m=tt:=⟨_,rfl⟩
 refine yaj ⟨?_⟩;intro TK;rw[htt] at hs;dsimp only at hs;have q_put:(ts.toList==[112,117,116])=false:=by rw[hs];decide
 have q_delete:(ts.toList==[100,101,108,101,116,101])=false:=by rw[hs];decide
 have q_abort:(ts.toList==[97,98,111,114,116])=false:=by rw[hs];decide
 clear h hr he hk5 hs htt;go_enter func162,ntmps162
 go_wp2_with (first
  | ((with_reducible refine (TK.out).mono ?_);rintro e wt ⟨rfl,hx⟩;have H0:=PS.step HS.out hx NX.out;obtain⟨c0,c1,c2,c3,f1,f2,f3,hbb⟩:=(HS.out.ext hx).facts;clear c0 c2 c3 f2 f3 hx)
  | ((with_reducible refine (qaG _ _).mono ?_);rintro e wn ⟨rfl,hx⟩;have HN:=PS.new (PS.ext H0 hx) (.cells #[.int .i64 28,.int .i64 (-1),.int .i64 (-1),.int .i64 (-1),.int .i64 (-1),.int .i64 0,.string ⟨#[]⟩,.string ⟨#[]⟩] 166 (0,0));clear hx)
  | ((with_reducible refine (pdp HN HE.out T0).mono ?_);rintro e w1 (⟨c9,a9,rfl,HP⟩ | ⟨z1,r1,rfl,T1,H1⟩);rotate_left;obtain⟨n0,n1,n2,n3,n4,n5,n6,n7,u0,u1,u2,u3,u5,u6,u7,hkl⟩:=PS.node H1;have S1:Hid (PS b lb lo cap L m N nv w [(wn.heap.size,.cells #[.int .i64 28,.int .i64 z1,.int .i64 (-1),.int .i64 (-1),.int .i64 (-1),.int .i64 0,.string ⟨#[]⟩,.string ⟨#[]⟩] 166 (0,0))] r1 (w1.setCell ⟨wn.heap.size,1,none⟩ (.int .i64 z1))):=PS.set H1 1 (.int .i64 z1))
  | ((with_reducible refine (qbb S1 _ _ jk T1).mono ?_);rintro e w2 (⟨c9,a9,rfl,HP⟩ | ⟨r2,rfl,T2,H2⟩);rotate_left;obtain⟨n0,n1,n2,n3,n4,n5,n6,n7,u0,u1,u2,u3,u5,u6,u7,hkl⟩:=PS.node H2)
  | (go_at_call 168;(refine (play H2 _ _ _ _ _ _ _ _ T2).mono ?_);rintro e w3 (⟨c9,a9,rfl,HP⟩ | ⟨z3,rfl,HP⟩)))
 all_goals first | exact⟨rfl,HP.out⟩ | (go_ret;exact HP.out)
def when_any (h:St b lb lo cap nv L m N w) (hk5:(tk L m).1.k=5) (hs:(tk L m).1.s.toList=[105,102]) (d:Nat) (hd:d<=16) (ex bk:PM Int) (he:Dp b lb lo cap L 196 (d:Int) ex) (hb:Dp b lb lo cap L 111 ((d:Int)+1) bk) (r:PR Int) (hr:whenP L ex (qaC L bk) m N.length=r) :
  Calls prog 163 #[.pointer (some ⟨b,0,none⟩),.int .i64 (d:Int)] w (PPost intV b lb lo cap nv L m N w r):=by
 have hd0:0<=(d:Int):=Y;have hd1:(d:Int)<=16:=Y;have T0:=J (by unfold whenP at hr;exact qeN (s:=⟨#[105,102]⟩) (qdo wb_if hk5 (by rw[hs,tl_if])) hr);have H0:=PS.begin h;have HE:=J he;have HB:Hid (Dp b lb lo cap L 167 ((d:Int)+1) (qaC L bk)):=J fun nv m N w h r hr=>qdK h _ bk hb r hr
 clear h hr he hb hk5 hs hd;go_enter func163,ntmps163
 go_wp2_with (first
  | ((with_reducible refine (qbb H0 _ _ jk T0).mono ?_);rintro e w1 (⟨c9,a9,rfl,HP⟩ | ⟨r1,rfl,T1,H1⟩);rotate_left)
  | ((with_reducible refine (qaG _ _).mono ?_);rintro e wn ⟨rfl,hx⟩;have HN:=PS.new (PS.ext H1 hx) (.cells #[.int .i64 24,.int .i64 (-1),.int .i64 (-1),.int .i64 (-1),.int .i64 (-1),.int .i64 0,.string ⟨#[]⟩,.string ⟨#[]⟩] 166 (0,0));clear hx)
  | ((with_reducible refine (pdp HN HE.out T1).mono ?_);rintro e w2 (⟨c9,a9,rfl,HP⟩ | ⟨z2,r2,rfl,T2,H2⟩);rotate_left;obtain⟨n0,n1,n2,n3,n4,n5,n6,n7,u0,u1,u2,u3,u5,u6,u7,hkl⟩:=PS.node H2;have S2:Hid (PS b lb lo cap L m N nv w [(wn.heap.size,.cells #[.int .i64 24,.int .i64 z2,.int .i64 (-1),.int .i64 (-1),.int .i64 (-1),.int .i64 0,.string ⟨#[]⟩,.string ⟨#[]⟩] 166 (0,0))] r2 (w2.setCell ⟨wn.heap.size,1,none⟩ (.int .i64 z2))):=PS.set H2 1 (.int .i64 z2))
  | ((with_reducible refine (pdp S2 HB.out T2).mono ?_);rintro e w3 (⟨c9,a9,rfl,HP⟩ | ⟨z3,r3,rfl,T3,H3⟩);rotate_left;obtain⟨n0,n1,n2,n3,n4,n5,n6,n7,u0,u1,u2,u3,u5,u6,u7,hkl⟩:=PS.node H3;have S3:Hid (PS b lb lo cap L m N nv w [(wn.heap.size,.cells #[.int .i64 24,.int .i64 z2,.int .i64 z3,.int .i64 (-1),.int .i64 (-1),.int .i64 0,.string ⟨#[]⟩,.string ⟨#[]⟩] 166 (0,0))] r3 (w3.setCell ⟨wn.heap.size,2,none⟩ (.int .i64 z3))):=PS.set H3 2 (.int .i64 z3))
  | ((with_reducible refine (ptakes S3 _ T3).mono ?_);rintro e w4 (⟨c9,a9,rfl,HP⟩ | ⟨x4,r4,rfl,T4,H4⟩);rotate_left;obtain⟨n0,n1,n2,n3,n4,n5,n6,n7,u0,u1,u2,u3,u5,u6,u7,hkl⟩:=PS.node H4;have S4:Hid (PS b lb lo cap L m N nv w [(wn.heap.size,.cells #[.int .i64 24,.int .i64 z2,.int .i64 z3,.int .i64 (-1),.int .i64 (-1),.int .i64 1,.string ⟨#[]⟩,.string ⟨#[]⟩] 166 (0,0))] r4 (w4.setCell ⟨wn.heap.size,5,none⟩ (.int .i64 1))):=PS.set H4 5 (.int .i64 1);cases x4<;>simp only[Bool.false_eq_true,if_false,if_true] at T4)
  | (go_at_call 168;(refine (play H4 _ _ _ _ _ _ _ _ T4).mono ?_);rintro e w5 (⟨c9,a9,rfl,HP⟩ | ⟨z5,rfl,HP⟩))
  | ((with_reducible refine (pdp S4 HB.out T4).mono ?_);rintro e w6 (⟨c9,a9,rfl,HP⟩ | ⟨z6,r6,rfl,T6,H6⟩);rotate_left;obtain⟨n0,n1,n2,n3,n4,n5,n6,n7,u0,u1,u2,u3,u5,u6,u7,hkl⟩:=PS.node H6;have S6:Hid (PS b lb lo cap L m N nv w [(wn.heap.size,.cells #[.int .i64 24,.int .i64 z2,.int .i64 z3,.int .i64 z6,.int .i64 (-1),.int .i64 1,.string ⟨#[]⟩,.string ⟨#[]⟩] 166 (0,0))] r6 (w6.setCell ⟨wn.heap.size,3,none⟩ (.int .i64 z6))):=PS.set H6 3 (.int .i64 z6))
  | (go_at_call 168;(refine (play S6 _ _ _ _ _ _ _ _ T6).mono ?_);rintro e w7 (⟨c9,a9,rfl,HP⟩ | ⟨z7,rfl,HP⟩)))
 all_goals first | exact⟨rfl,HP.out⟩ | (go_ret;exact HP.out)
def each_any (h:St b lb lo cap nv L m N w) (hk5:(tk L m).1.k=5) (hs:(tk L m).1.s.toList=[102,111,114]) (d:Nat) (hd:d<=16) (ex bk:PM Int) (he:Dp b lb lo cap L 196 (d:Int) ex) (hb:Dp b lb lo cap L 111 ((d:Int)+1) bk) (r:PR Int) (hr:eachP L ex (qaC L bk) m N.length=r) :
  Calls prog 164 #[.pointer (some ⟨b,0,none⟩),.int .i64 (d:Int)] w (PPost intV b lb lo cap nv L m N w r):=by
 have hd0:0<=(d:Int):=Y;have hd1:(d:Int)<=16:=Y;have T0:=J (by unfold eachP at hr;exact qeN (s:=⟨#[102,111,114]⟩) (qdo wb_for hk5 (by rw[hs,tl_for])) hr);have H0:=PS.begin h;have HE:=J he;have HB:Hid (Dp b lb lo cap L 167 ((d:Int)+1) (qaC L bk)):=J fun nv m N w h r hr=>qdK h _ bk hb r hr
 clear h hr he hb hk5 hs hd;go_enter func164,ntmps164
 go_wp2_with (first
  | ((with_reducible refine (qbb H0 _ _ jk T0).mono ?_);rintro e w1 (⟨c9,a9,rfl,HP⟩ | ⟨r1,rfl,T1,H1⟩);rotate_left)
  | ((with_reducible refine (qaG _ _).mono ?_);rintro e wn ⟨rfl,hx⟩;have HN:=PS.new (PS.ext H1 hx) (.cells #[.int .i64 25,.int .i64 (-1),.int .i64 (-1),.int .i64 (-1),.int .i64 (-1),.int .i64 0,.string ⟨#[]⟩,.string ⟨#[]⟩] 166 (0,0));clear hx)
  | ((with_reducible refine (pof HN 1 zw T1).mono ?_);rintro e w2 (⟨c9,a9,rfl,HP⟩ | ⟨a2,k2,s2,i2,r2,rfl,T2,H2⟩);rotate_left;obtain⟨n0,n1,n2,n3,n4,n5,n6,n7,u0,u1,u2,u3,u5,u6,u7,hkl⟩:=PS.node H2;have S2:Hid (PS b lb lo cap L m N nv w [(wn.heap.size,.cells #[.int .i64 25,.int .i64 (-1),.int .i64 (-1),.int .i64 (-1),.int .i64 (-1),.int .i64 0,.string s2,.string ⟨#[]⟩] 166 (0,0))] r2 (w2.setCell ⟨wn.heap.size,6,none⟩ (.string s2))):=PS.set H2 6 (.string s2))
  | ((with_reducible refine (qbb S2 _ _ jk T2).mono ?_);rintro e w3 (⟨c9,a9,rfl,HP⟩ | ⟨r3,rfl,T3,H3⟩);rotate_left;obtain⟨n0,n1,n2,n3,n4,n5,n6,n7,u0,u1,u2,u3,u5,u6,u7,hkl⟩:=PS.node H3)
  | ((with_reducible refine (pof H3 1 zw T3).mono ?_);rintro e w4 (⟨c9,a9,rfl,HP⟩ | ⟨a4,k4,s4,i4,r4,rfl,T4,H4⟩);rotate_left;obtain⟨n0,n1,n2,n3,n4,n5,n6,n7,u0,u1,u2,u3,u5,u6,u7,hkl⟩:=PS.node H4;have S4:Hid (PS b lb lo cap L m N nv w [(wn.heap.size,.cells #[.int .i64 25,.int .i64 (-1),.int .i64 (-1),.int .i64 (-1),.int .i64 (-1),.int .i64 0,.string s2,.string s4] 166 (0,0))] r4 (w4.setCell ⟨wn.heap.size,7,none⟩ (.string s4))):=PS.set H4 7 (.string s4))
  | ((with_reducible refine (pmust3 S4 _ _ _ _ jk T4).mono ?_);rintro e w5 (⟨c9,a9,rfl,HP⟩ | ⟨r5,rfl,T5,H5⟩);rotate_left;obtain⟨n0,n1,n2,n3,n4,n5,n6,n7,u0,u1,u2,u3,u5,u6,u7,hkl⟩:=PS.node H5)
  | ((with_reducible refine (pdp H5 HE.out T5).mono ?_);rintro e w6 (⟨c9,a9,rfl,HP⟩ | ⟨z6,r6,rfl,T6,H6⟩);rotate_left;obtain⟨n0,n1,n2,n3,n4,n5,n6,n7,u0,u1,u2,u3,u5,u6,u7,hkl⟩:=PS.node H6;have S6:Hid (PS b lb lo cap L m N nv w [(wn.heap.size,.cells #[.int .i64 25,.int .i64 z6,.int .i64 (-1),.int .i64 (-1),.int .i64 (-1),.int .i64 0,.string s2,.string s4] 166 (0,0))] r6 (w6.setCell ⟨wn.heap.size,1,none⟩ (.int .i64 z6))):=PS.set H6 1 (.int .i64 z6))
  | ((with_reducible refine (qbb S6 _ _ jk T6).mono ?_);rintro e w7 (⟨c9,a9,rfl,HP⟩ | ⟨r7,rfl,T7,H7⟩);rotate_left;obtain⟨n0,n1,n2,n3,n4,n5,n6,n7,u0,u1,u2,u3,u5,u6,u7,hkl⟩:=PS.node H7)
  | ((with_reducible refine (pturns H7 T7).mono ?_);rintro e w8 (⟨c9,a9,rfl,HP⟩ | ⟨z8,r8,rfl,T8,H8⟩);rotate_left;obtain⟨n0,n1,n2,n3,n4,n5,n6,n7,u0,u1,u2,u3,u5,u6,u7,hkl⟩:=PS.node H8;have S8:Hid (PS b lb lo cap L m N nv w [(wn.heap.size,.cells #[.int .i64 25,.int .i64 z6,.int .i64 (-1),.int .i64 (-1),.int .i64 (-1),.int .i64 z8,.string s2,.string s4] 166 (0,0))] r8 (w8.setCell ⟨wn.heap.size,5,none⟩ (.int .i64 z8))):=PS.set H8 5 (.int .i64 z8))
  | ((with_reducible refine (qbb S8 _ _ jk T8).mono ?_);rintro e w9 (⟨c9,a9,rfl,HP⟩ | ⟨r9,rfl,T9,H9⟩);rotate_left;obtain⟨n0,n1,n2,n3,n4,n5,n6,n7,u0,u1,u2,u3,u5,u6,u7,hkl⟩:=PS.node H9)
  | ((with_reducible refine (pdp H9 HB.out T9).mono ?_);rintro e w10 (⟨c9,a9,rfl,HP⟩ | ⟨z10,r10,rfl,T10,H10⟩);rotate_left;obtain⟨n0,n1,n2,n3,n4,n5,n6,n7,u0,u1,u2,u3,u5,u6,u7,hkl⟩:=PS.node H10;have S10:Hid (PS b lb lo cap L m N nv w [(wn.heap.size,.cells #[.int .i64 25,.int .i64 z6,.int .i64 z10,.int .i64 (-1),.int .i64 (-1),.int .i64 z8,.string s2,.string s4] 166 (0,0))] r10 (w10.setCell ⟨wn.heap.size,2,none⟩ (.int .i64 z10))):=PS.set H10 2 (.int .i64 z10))
  | (go_at_call 168;(refine (play S10 _ _ _ _ _ _ _ _ T10).mono ?_);rintro e w11 (⟨c9,a9,rfl,HP⟩ | ⟨z11,rfl,HP⟩)))
 all_goals first | exact⟨rfl,HP.out⟩ | (go_ret;exact HP.out)
end Go.Proofs.YtpnabjopfpdkhaaGreatDoor
