/- Lemmas. -/
import Derived.Test.YtpnabjopfpdkhaaGreatDoorA24
set_option linter.unusedSimpArgs false
set_option linter.unusedVariables false
set_option maxHeartbeats 4000000
set_option maxRecDepth 20000
namespace Go.Proofs.YtpnabjopfpdkhaaGreatDoor
open Go.RowKit
attribute [go_sem] more_more Array.size_append
variable {b lb lo cap m:Nat} {nv:Value} {L:Toks} {N:List Nd} {w:World}
theorem isP_other {L:Toks} {m:Nat} {s:ByteArray} (h:(tk L m).1.s.toList≠s.toList):isP L s m=false:=by
 unfold isP
 have:((tk L m).1.s.toList==s.toList)=false:=by simpa using h
 rw[this,Bool.and_false]
theorem wb_let:wordB ⟨#[108,101,116]⟩=true:=by kernel_rfl
theorem tl_let:(⟨#[108,101,116]⟩:ByteArray).toList=[108,101,116]:=by kernel_rfl
theorem wb_set:wordB ⟨#[115,101,116]⟩=true:=by kernel_rfl
theorem tl_set:(⟨#[115,101,116]⟩:ByteArray).toList=[115,101,116]:=by kernel_rfl
theorem wb_if:wordB ⟨#[105,102]⟩=true:=by kernel_rfl
theorem tl_if:(⟨#[105,102]⟩:ByteArray).toList=[105,102]:=by kernel_rfl
theorem wb_for:wordB ⟨#[102,111,114]⟩=true:=by kernel_rfl
theorem tl_for:(⟨#[102,111,114]⟩:ByteArray).toList=[102,111,114]:=by kernel_rfl
theorem skip_takes {s:ByteArray} {n:Nat} {f:Unit→PM Int} {r:PR Int} (hp:isP L s m=true) (h:pbind skipP f m n=r):r=rb n (.ok ((),m+1,[])) (f ()):=h.symm.trans (qdF f m n)
theorem qfD {F:List (Nat × Obj)} {m0:Nat} {N0:List Nd} {nv0:Value} {w0:World} (H:Hid (PS b lb lo cap L m0 N0 nv0 w0 F (.ok ((),m,[])) w)) (s:ByteArray) (hp:isP L s m=true):Calls Tryz.prog 194 #[.pointer (some ⟨b,0,none⟩),.string s] w fun e w'=>e=.returned (.bool true)∧Hid (PS b lb lo cap L m0 N0 nv0 w0 F (.ok ((),m+1,[])) w'):=by
 obtain⟨hm,nv,h1,h2,h3⟩:=H.out
 refine (takes_any h1 s (.ok (true,m+1,[])) (takesP_yes hp)).mono fun e w' ⟨he,nv',hs,hk,hm'⟩=>⟨he,Lib.hid ⟨Nat.le_trans hm hm',nv',hs.cast (by rw[List.append_nil]),h2.trans hk,fun q hq=>⟨(h3 q hq).1.kp hk,(h3 q hq).2⟩⟩⟩
theorem PS.step {w':World} (h:St b lb lo cap nv L m N w) (hx:Ext w w') (hn:m+1<L.length):Hid (PS b lb lo cap L m N nv w [] (.ok ((),m+1,[])) (w'.setCell ⟨b,1,none⟩ (.int .i64 ((m:Int)+1)))) :=
 Lib.hid ⟨Nat.le_succ m,nv,((h.ext hx).setAt (m+1) ((m:Int)+1) zac hn).cast (List.append_nil N).symm,((Kp.refl b nv w).ext hx).setB 1 _,fun q hq=>by cases hq⟩
theorem qdC (h:St b lb lo cap nv L m N w) (z:Int) (bl:PM Int) (hb:Dp b lb lo cap L 111 z bl) (r:PR Int) (hr:qay L bl m N.length=r) :
  Calls Tryz.prog 167 #[.pointer (some ⟨b,0,none⟩),.int .i64 z] w (PPost intV b lb lo cap nv L m N w r):=by
 have T0:=Lib.hid (by have:=rb_begin hr;unfold qay at this;exact this);have H0:=PS.begin h;have HB:=Lib.hid hb;clear h hr hb;go_enter Tryz.func167,Tryz.ntmps167
 go_wp2_with (first
  | (go_at_call 195;(with_reducible refine (qba H0 _ _ zai T0).mono ?_);rintro e w1 (⟨c9,a9,rfl,HP⟩ | ⟨r1,rfl,T1,H1⟩);rotate_left)
  | ((with_reducible refine (pdp H1 HB.out T1).mono ?_);rintro e w2 (⟨c9,a9,rfl,HP⟩ | ⟨z2,r2,rfl,T2,H2⟩);rotate_left)
  | (go_at_call 195;(with_reducible refine (qba H2 _ _ zai T2).mono ?_);rintro e w3 (⟨c9,a9,rfl,HP⟩ | ⟨r3,rfl,T3,H3⟩);rotate_left))
 all_goals first | exact⟨rfl,HP.out⟩ | (go_ret;exact PS.fin H3 T3)
theorem names_let (h:St b lb lo cap nv L m N w) (hk5:(tk L m).1.k=5) (hs:(tk L m).1.s.toList=[108,101,116]) (z:Int) (ex:PM Int) (he:Dp b lb lo cap L 196 z ex) (r:PR Int) (hr:qbC L 20 ex m N.length=r) :
  Calls Tryz.prog 161 #[.pointer (some ⟨b,0,none⟩),.int .i64 z] w (PPost intV b lb lo cap nv L m N w r):=by
 have T0:=Lib.hid (by unfold qbC at hr;exact qeK (s:=⟨#[108,101,116]⟩) (qda wb_let hk5 (by rw[hs,tl_let])) hr);have H0:=PS.begin h
 have TN:RowKit.Hid (∀ w1,Ext w w1→Calls Tryz.prog 194 #[.pointer (some ⟨b,0,none⟩),.string ⟨#[115,101,116]⟩] w1 fun e w'=>e=.returned (.bool false)∧Ext w1 w'):=Lib.hid fun w1 hx=>qcX (h.ext hx) _ (isP_other (by rw[hs,tl_set];decide))
 have HE:=Lib.hid he;clear h hr he hk5 hs;go_enter Tryz.func161,Tryz.ntmps161
 go_wp2_with (first
  | ((with_reducible refine (qaD _ _).mono ?_);rintro e wn ⟨rfl,hx⟩;have HN:=PS.new (PS.ext H0 hx) (.cells #[.int .i64 20,.int .i64 (-1),.int .i64 (-1),.int .i64 (-1),.int .i64 (-1),.int .i64 0,.string ⟨#[]⟩,.string ⟨#[]⟩] 166 (0,0));have HX:=Lib.hid hx;clear hx)
  | ((with_reducible refine (TN.out _ ((HX.out).alloc _)).mono ?_);rintro e wm ⟨rfl,hx⟩;have HM:=PS.ext HN hx;obtain⟨n0,n1,n2,n3,n4,n5,n6,n7,u0,u1,u2,u3,u5,u6,u7,hkl⟩:=PS.node HM;clear hx)
  | (go_at_call 195;(with_reducible refine (qba HM _ _ zai T0).mono ?_);rintro e w1 (⟨c9,a9,rfl,HP⟩ | ⟨r1,rfl,T1,H1⟩);rotate_left;obtain⟨n0,n1,n2,n3,n4,n5,n6,n7,u0,u1,u2,u3,u5,u6,u7,hkl⟩:=PS.node H1)
  | (go_at_call 112;(with_reducible refine (pof H1 1 zak T1).mono ?_);rintro e w2 (⟨c9,a9,rfl,HP⟩ | ⟨a2,k2,s2,i2,r2,rfl,T2,H2⟩);rotate_left;obtain⟨n0,n1,n2,n3,n4,n5,n6,n7,u0,u1,u2,u3,u5,u6,u7,hkl⟩:=PS.node H2;have S2:Hid (PS b lb lo cap L m N nv w [(wn.heap.size,.cells #[.int .i64 20,.int .i64 (-1),.int .i64 (-1),.int .i64 (-1),.int .i64 (-1),.int .i64 0,.string s2,.string ⟨#[]⟩] 166 (0,0))] r2 (w2.setCell ⟨wn.heap.size,6,none⟩ (.string s2))):=PS.set H2 6 (.string s2))
  | (go_at_call 195;(with_reducible refine (qba S2 _ _ zai T2).mono ?_);rintro e w3 (⟨c9,a9,rfl,HP⟩ | ⟨r3,rfl,T3,H3⟩);rotate_left;obtain⟨n0,n1,n2,n3,n4,n5,n6,n7,u0,u1,u2,u3,u5,u6,u7,hkl⟩:=PS.node H3)
  | ((with_reducible refine (pdp H3 HE.out T3).mono ?_);rintro e w4 (⟨c9,a9,rfl,HP⟩ | ⟨z4,r4,rfl,T4,H4⟩);rotate_left;obtain⟨n0,n1,n2,n3,n4,n5,n6,n7,u0,u1,u2,u3,u5,u6,u7,hkl⟩:=PS.node H4;have S4:Hid (PS b lb lo cap L m N nv w [(wn.heap.size,.cells #[.int .i64 20,.int .i64 z4,.int .i64 (-1),.int .i64 (-1),.int .i64 (-1),.int .i64 0,.string s2,.string ⟨#[]⟩] 166 (0,0))] r4 (w4.setCell ⟨wn.heap.size,1,none⟩ (.int .i64 z4))):=PS.set H4 1 (.int .i64 z4))
  | (go_at_call 195;(with_reducible refine (qba S4 _ _ zai T4).mono ?_);rintro e w5 (⟨c9,a9,rfl,HP⟩ | ⟨r5,rfl,T5,H5⟩);rotate_left;obtain⟨n0,n1,n2,n3,n4,n5,n6,n7,u0,u1,u2,u3,u5,u6,u7,hkl⟩:=PS.node H5)
  | (go_at_call 168;(refine (play H5 _ _ _ _ _ _ _ _ T5).mono ?_);rintro e w6 (⟨c9,a9,rfl,HP⟩ | ⟨z6,rfl,HP⟩)))
 all_goals first | exact⟨rfl,HP.out⟩ | (go_ret;exact HP.out)
theorem names_set (h:St b lb lo cap nv L m N w) (hk5:(tk L m).1.k=5) (hs:(tk L m).1.s.toList=[115,101,116]) (z:Int) (ex:PM Int) (he:Dp b lb lo cap L 196 z ex) (r:PR Int) (hr:qbC L 21 ex m N.length=r) :
  Calls Tryz.prog 161 #[.pointer (some ⟨b,0,none⟩),.int .i64 z] w (PPost intV b lb lo cap nv L m N w r):=by
 have T0:=Lib.hid (by unfold qbC at hr;exact skip_takes (s:=⟨#[115,101,116]⟩) (qda wb_set hk5 (by rw[hs,tl_set])) hr);have H0:=PS.begin h
 have HY:RowKit.Hid (isP L ⟨#[115,101,116]⟩ m=true):=Lib.hid (qda wb_set hk5 (by rw[hs,tl_set]))
 have HE:=Lib.hid he;clear h hr he hk5 hs;go_enter Tryz.func161,Tryz.ntmps161
 go_wp2_with (first
  | ((with_reducible refine (qaD _ _).mono ?_);rintro e wn ⟨rfl,hx⟩;have HN:=PS.new (PS.ext H0 hx) (.cells #[.int .i64 20,.int .i64 (-1),.int .i64 (-1),.int .i64 (-1),.int .i64 (-1),.int .i64 0,.string ⟨#[]⟩,.string ⟨#[]⟩] 166 (0,0));clear hx)
  | ((with_reducible refine (qfD HN _ HY.out).mono ?_);rintro e w1 ⟨rfl,H1⟩;obtain⟨n0,n1,n2,n3,n4,n5,n6,n7,u0,u1,u2,u3,u5,u6,u7,hkl⟩:=PS.node H1;have S1:Hid (PS b lb lo cap L m N nv w [(wn.heap.size,.cells #[.int .i64 21,.int .i64 (-1),.int .i64 (-1),.int .i64 (-1),.int .i64 (-1),.int .i64 0,.string ⟨#[]⟩,.string ⟨#[]⟩] 166 (0,0))] _ (w1.setCell ⟨wn.heap.size,0,none⟩ (.int .i64 21))):=PS.set H1 0 (.int .i64 21))
  | (go_at_call 112;(with_reducible refine (pof S1 1 zak T0).mono ?_);rintro e w2 (⟨c9,a9,rfl,HP⟩ | ⟨a2,k2,s2,i2,r2,rfl,T2,H2⟩);rotate_left;obtain⟨n0,n1,n2,n3,n4,n5,n6,n7,u0,u1,u2,u3,u5,u6,u7,hkl⟩:=PS.node H2;have S2:Hid (PS b lb lo cap L m N nv w [(wn.heap.size,.cells #[.int .i64 21,.int .i64 (-1),.int .i64 (-1),.int .i64 (-1),.int .i64 (-1),.int .i64 0,.string s2,.string ⟨#[]⟩] 166 (0,0))] r2 (w2.setCell ⟨wn.heap.size,6,none⟩ (.string s2))):=PS.set H2 6 (.string s2))
  | (go_at_call 195;(with_reducible refine (qba S2 _ _ zai T2).mono ?_);rintro e w3 (⟨c9,a9,rfl,HP⟩ | ⟨r3,rfl,T3,H3⟩);rotate_left;obtain⟨n0,n1,n2,n3,n4,n5,n6,n7,u0,u1,u2,u3,u5,u6,u7,hkl⟩:=PS.node H3)
  | ((with_reducible refine (pdp H3 HE.out T3).mono ?_);rintro e w4 (⟨c9,a9,rfl,HP⟩ | ⟨z4,r4,rfl,T4,H4⟩);rotate_left;obtain⟨n0,n1,n2,n3,n4,n5,n6,n7,u0,u1,u2,u3,u5,u6,u7,hkl⟩:=PS.node H4;have S4:Hid (PS b lb lo cap L m N nv w [(wn.heap.size,.cells #[.int .i64 21,.int .i64 z4,.int .i64 (-1),.int .i64 (-1),.int .i64 (-1),.int .i64 0,.string s2,.string ⟨#[]⟩] 166 (0,0))] r4 (w4.setCell ⟨wn.heap.size,1,none⟩ (.int .i64 z4))):=PS.set H4 1 (.int .i64 z4))
  | (go_at_call 195;(with_reducible refine (qba S4 _ _ zai T4).mono ?_);rintro e w5 (⟨c9,a9,rfl,HP⟩ | ⟨r5,rfl,T5,H5⟩);rotate_left;obtain⟨n0,n1,n2,n3,n4,n5,n6,n7,u0,u1,u2,u3,u5,u6,u7,hkl⟩:=PS.node H5)
  | (go_at_call 168;(refine (play H5 _ _ _ _ _ _ _ _ T5).mono ?_);rintro e w6 (⟨c9,a9,rfl,HP⟩ | ⟨z6,rfl,HP⟩)))
 all_goals first | exact⟨rfl,HP.out⟩ | (go_ret;exact HP.out)
theorem simple_put (h:St b lb lo cap nv L m N w) (hk5:(tk L m).1.k=5) (hs:(tk L m).1.s.toList=[112,117,116]) (z:Int) (ex:PM Int) (he:Dp b lb lo cap L 196 z ex) (r:PR Int) (hr:putP L ex m N.length=r) :
  Calls Tryz.prog 162 #[.pointer (some ⟨b,0,none⟩),.int .i64 z] w (PPost intV b lb lo cap nv L m N w r):=by
 have T0:=Lib.hid (by unfold putP at hr;exact hr.symm.trans (qdF _ _ _))
 have hm:(m:Int)≤5000:=by have:=h.ends.few;have:=h.pos;omega
 have hm0:0≤(m:Int):=by omega
 have NX:=Lib.hid (h.next (by rw[hk5];decide));have HS:=Lib.hid h;have HE:=Lib.hid he
 obtain⟨⟨⟨k,ts,i⟩,a⟩,htt⟩:∃ tt,tk L m=tt:=⟨_,rfl⟩
 have TK:RowKit.Hid (Calls Tryz.prog 132 #[.pointer (some ⟨b,0,none⟩)] w fun e w'=>e=.returned (.agg #[.int .i64 k,.int .i64 a,.string ts,.int .i64 i])∧Ext w w'):=Lib.hid (by have:=qbs h;rw[htt] at this;exact this)
 rw[htt] at hs;dsimp only at hs
 have q_put:(ts.toList==[112,117,116])=true:=by rw[hs];decide
 have q_delete:(ts.toList==[100,101,108,101,116,101])=false:=by rw[hs];decide
 have q_abort:(ts.toList==[97,98,111,114,116])=false:=by rw[hs];decide
 clear h hr he hk5 hs htt;go_enter Tryz.func162,Tryz.ntmps162
 go_wp2_with (first
  | ((with_reducible refine (TK.out).mono ?_);rintro e wt ⟨rfl,hx⟩;have H0:=PS.step HS.out hx NX.out;obtain⟨c0,c1,c2,c3,f1,f2,f3,hbb⟩:=(HS.out.ext hx).facts;clear c0 c2 c3 f2 f3 hx)
  | ((with_reducible refine (qaD _ _).mono ?_);rintro e wn ⟨rfl,hx⟩;have HN:=PS.new (PS.ext H0 hx) (.cells #[.int .i64 22,.int .i64 (-1),.int .i64 (-1),.int .i64 (-1),.int .i64 (-1),.int .i64 0,.string ⟨#[]⟩,.string ⟨#[]⟩] 166 (0,0));clear hx)
  | ((with_reducible refine (pdp HN HE.out T0).mono ?_);rintro e w1 (⟨c9,a9,rfl,HP⟩ | ⟨z1,r1,rfl,T1,H1⟩);rotate_left;obtain⟨n0,n1,n2,n3,n4,n5,n6,n7,u0,u1,u2,u3,u5,u6,u7,hkl⟩:=PS.node H1;have S1:Hid (PS b lb lo cap L m N nv w [(wn.heap.size,.cells #[.int .i64 22,.int .i64 z1,.int .i64 (-1),.int .i64 (-1),.int .i64 (-1),.int .i64 0,.string ⟨#[]⟩,.string ⟨#[]⟩] 166 (0,0))] r1 (w1.setCell ⟨wn.heap.size,1,none⟩ (.int .i64 z1))):=PS.set H1 1 (.int .i64 z1))
  | (go_at_call 195;(with_reducible refine (qba S1 _ _ zai T1).mono ?_);rintro e w2 (⟨c9,a9,rfl,HP⟩ | ⟨r2,rfl,T2,H2⟩);rotate_left;obtain⟨n0,n1,n2,n3,n4,n5,n6,n7,u0,u1,u2,u3,u5,u6,u7,hkl⟩:=PS.node H2)
  | ((with_reducible refine (pdp H2 HE.out T2).mono ?_);rintro e w3 (⟨c9,a9,rfl,HP⟩ | ⟨z3,r3,rfl,T3,H3⟩);rotate_left;obtain⟨n0,n1,n2,n3,n4,n5,n6,n7,u0,u1,u2,u3,u5,u6,u7,hkl⟩:=PS.node H3;have S3:Hid (PS b lb lo cap L m N nv w [(wn.heap.size,.cells #[.int .i64 22,.int .i64 z1,.int .i64 z3,.int .i64 (-1),.int .i64 (-1),.int .i64 0,.string ⟨#[]⟩,.string ⟨#[]⟩] 166 (0,0))] r3 (w3.setCell ⟨wn.heap.size,2,none⟩ (.int .i64 z3))):=PS.set H3 2 (.int .i64 z3))
  | (go_at_call 195;(with_reducible refine (qba S3 _ _ zai T3).mono ?_);rintro e w4 (⟨c9,a9,rfl,HP⟩ | ⟨r4,rfl,T4,H4⟩);rotate_left;obtain⟨n0,n1,n2,n3,n4,n5,n6,n7,u0,u1,u2,u3,u5,u6,u7,hkl⟩:=PS.node H4)
  | (go_at_call 168;(refine (play H4 _ _ _ _ _ _ _ _ T4).mono ?_);rintro e w5 (⟨c9,a9,rfl,HP⟩ | ⟨z5,rfl,HP⟩)))
 all_goals first | exact⟨rfl,HP.out⟩ | (go_ret;exact HP.out)
theorem qfG (h:St b lb lo cap nv L m N w) (hk5:(tk L m).1.k=5) (hs:(tk L m).1.s.toList=[100,101,108,101,116,101]) (z:Int) (ex:PM Int) (he:Dp b lb lo cap L 196 z ex) (r:PR Int) (hr:qaG L 23 ex m N.length=r) :
  Calls Tryz.prog 162 #[.pointer (some ⟨b,0,none⟩),.int .i64 z] w (PPost intV b lb lo cap nv L m N w r):=by
 have T0:=Lib.hid (by unfold qaG at hr;exact hr.symm.trans (qdF _ _ _))
 have hm:(m:Int)≤5000:=by have:=h.ends.few;have:=h.pos;omega
 have hm0:0≤(m:Int):=by omega
 have NX:=Lib.hid (h.next (by rw[hk5];decide));have HS:=Lib.hid h;have HE:=Lib.hid he
 obtain⟨⟨⟨k,ts,i⟩,a⟩,htt⟩:∃ tt,tk L m=tt:=⟨_,rfl⟩
 have TK:RowKit.Hid (Calls Tryz.prog 132 #[.pointer (some ⟨b,0,none⟩)] w fun e w'=>e=.returned (.agg #[.int .i64 k,.int .i64 a,.string ts,.int .i64 i])∧Ext w w'):=Lib.hid (by have:=qbs h;rw[htt] at this;exact this)
 rw[htt] at hs;dsimp only at hs
 have q_put:(ts.toList==[112,117,116])=false:=by rw[hs];decide
 have q_delete:(ts.toList==[100,101,108,101,116,101])=true:=by rw[hs];decide
 have q_abort:(ts.toList==[97,98,111,114,116])=false:=by rw[hs];decide
 clear h hr he hk5 hs htt;go_enter Tryz.func162,Tryz.ntmps162
 go_wp2_with (first
  | ((with_reducible refine (TK.out).mono ?_);rintro e wt ⟨rfl,hx⟩;have H0:=PS.step HS.out hx NX.out;obtain⟨c0,c1,c2,c3,f1,f2,f3,hbb⟩:=(HS.out.ext hx).facts;clear c0 c2 c3 f2 f3 hx)
  | ((with_reducible refine (qaD _ _).mono ?_);rintro e wn ⟨rfl,hx⟩;have HN:=PS.new (PS.ext H0 hx) (.cells #[.int .i64 23,.int .i64 (-1),.int .i64 (-1),.int .i64 (-1),.int .i64 (-1),.int .i64 0,.string ⟨#[]⟩,.string ⟨#[]⟩] 166 (0,0));clear hx)
  | ((with_reducible refine (pdp HN HE.out T0).mono ?_);rintro e w1 (⟨c9,a9,rfl,HP⟩ | ⟨z1,r1,rfl,T1,H1⟩);rotate_left;obtain⟨n0,n1,n2,n3,n4,n5,n6,n7,u0,u1,u2,u3,u5,u6,u7,hkl⟩:=PS.node H1;have S1:Hid (PS b lb lo cap L m N nv w [(wn.heap.size,.cells #[.int .i64 23,.int .i64 z1,.int .i64 (-1),.int .i64 (-1),.int .i64 (-1),.int .i64 0,.string ⟨#[]⟩,.string ⟨#[]⟩] 166 (0,0))] r1 (w1.setCell ⟨wn.heap.size,1,none⟩ (.int .i64 z1))):=PS.set H1 1 (.int .i64 z1))
  | (go_at_call 195;(with_reducible refine (qba S1 _ _ zai T1).mono ?_);rintro e w2 (⟨c9,a9,rfl,HP⟩ | ⟨r2,rfl,T2,H2⟩);rotate_left;obtain⟨n0,n1,n2,n3,n4,n5,n6,n7,u0,u1,u2,u3,u5,u6,u7,hkl⟩:=PS.node H2)
  | (go_at_call 168;(refine (play H2 _ _ _ _ _ _ _ _ T2).mono ?_);rintro e w3 (⟨c9,a9,rfl,HP⟩ | ⟨z3,rfl,HP⟩)))
 all_goals first | exact⟨rfl,HP.out⟩ | (go_ret;exact HP.out)
theorem simple_abort (h:St b lb lo cap nv L m N w) (hk5:(tk L m).1.k=5) (hs:(tk L m).1.s.toList=[97,98,111,114,116]) (z:Int) (ex:PM Int) (he:Dp b lb lo cap L 196 z ex) (r:PR Int) (hr:qaG L 27 ex m N.length=r) :
  Calls Tryz.prog 162 #[.pointer (some ⟨b,0,none⟩),.int .i64 z] w (PPost intV b lb lo cap nv L m N w r):=by
 have T0:=Lib.hid (by unfold qaG at hr;exact hr.symm.trans (qdF _ _ _))
 have hm:(m:Int)≤5000:=by have:=h.ends.few;have:=h.pos;omega
 have hm0:0≤(m:Int):=by omega
 have NX:=Lib.hid (h.next (by rw[hk5];decide));have HS:=Lib.hid h;have HE:=Lib.hid he
 obtain⟨⟨⟨k,ts,i⟩,a⟩,htt⟩:∃ tt,tk L m=tt:=⟨_,rfl⟩
 have TK:RowKit.Hid (Calls Tryz.prog 132 #[.pointer (some ⟨b,0,none⟩)] w fun e w'=>e=.returned (.agg #[.int .i64 k,.int .i64 a,.string ts,.int .i64 i])∧Ext w w'):=Lib.hid (by have:=qbs h;rw[htt] at this;exact this)
 rw[htt] at hs;dsimp only at hs
 have q_put:(ts.toList==[112,117,116])=false:=by rw[hs];decide
 have q_delete:(ts.toList==[100,101,108,101,116,101])=false:=by rw[hs];decide
 have q_abort:(ts.toList==[97,98,111,114,116])=true:=by rw[hs];decide
 clear h hr he hk5 hs htt;go_enter Tryz.func162,Tryz.ntmps162
 go_wp2_with (first
  | ((with_reducible refine (TK.out).mono ?_);rintro e wt ⟨rfl,hx⟩;have H0:=PS.step HS.out hx NX.out;obtain⟨c0,c1,c2,c3,f1,f2,f3,hbb⟩:=(HS.out.ext hx).facts;clear c0 c2 c3 f2 f3 hx)
  | ((with_reducible refine (qaD _ _).mono ?_);rintro e wn ⟨rfl,hx⟩;have HN:=PS.new (PS.ext H0 hx) (.cells #[.int .i64 27,.int .i64 (-1),.int .i64 (-1),.int .i64 (-1),.int .i64 (-1),.int .i64 0,.string ⟨#[]⟩,.string ⟨#[]⟩] 166 (0,0));clear hx)
  | ((with_reducible refine (pdp HN HE.out T0).mono ?_);rintro e w1 (⟨c9,a9,rfl,HP⟩ | ⟨z1,r1,rfl,T1,H1⟩);rotate_left;obtain⟨n0,n1,n2,n3,n4,n5,n6,n7,u0,u1,u2,u3,u5,u6,u7,hkl⟩:=PS.node H1;have S1:Hid (PS b lb lo cap L m N nv w [(wn.heap.size,.cells #[.int .i64 27,.int .i64 z1,.int .i64 (-1),.int .i64 (-1),.int .i64 (-1),.int .i64 0,.string ⟨#[]⟩,.string ⟨#[]⟩] 166 (0,0))] r1 (w1.setCell ⟨wn.heap.size,1,none⟩ (.int .i64 z1))):=PS.set H1 1 (.int .i64 z1))
  | (go_at_call 195;(with_reducible refine (qba S1 _ _ zai T1).mono ?_);rintro e w2 (⟨c9,a9,rfl,HP⟩ | ⟨r2,rfl,T2,H2⟩);rotate_left;obtain⟨n0,n1,n2,n3,n4,n5,n6,n7,u0,u1,u2,u3,u5,u6,u7,hkl⟩:=PS.node H2)
  | (go_at_call 168;(refine (play H2 _ _ _ _ _ _ _ _ T2).mono ?_);rintro e w3 (⟨c9,a9,rfl,HP⟩ | ⟨z3,rfl,HP⟩)))
 all_goals first | exact⟨rfl,HP.out⟩ | (go_ret;exact HP.out)
theorem qgr (h:St b lb lo cap nv L m N w) (hk5:(tk L m).1.k=5) (hs:(tk L m).1.s.toList=[114,101,116,117,114,110]) (z:Int) (ex:PM Int) (he:Dp b lb lo cap L 196 z ex) (r:PR Int) (hr:qaG L 28 ex m N.length=r) :
  Calls Tryz.prog 162 #[.pointer (some ⟨b,0,none⟩),.int .i64 z] w (PPost intV b lb lo cap nv L m N w r):=by
 have T0:=Lib.hid (by unfold qaG at hr;exact hr.symm.trans (qdF _ _ _))
 have hm:(m:Int)≤5000:=by have:=h.ends.few;have:=h.pos;omega
 have hm0:0≤(m:Int):=by omega
 have NX:=Lib.hid (h.next (by rw[hk5];decide));have HS:=Lib.hid h;have HE:=Lib.hid he
 obtain⟨⟨⟨k,ts,i⟩,a⟩,htt⟩:∃ tt,tk L m=tt:=⟨_,rfl⟩
 have TK:RowKit.Hid (Calls Tryz.prog 132 #[.pointer (some ⟨b,0,none⟩)] w fun e w'=>e=.returned (.agg #[.int .i64 k,.int .i64 a,.string ts,.int .i64 i])∧Ext w w'):=Lib.hid (by have:=qbs h;rw[htt] at this;exact this)
 rw[htt] at hs;dsimp only at hs
 have q_put:(ts.toList==[112,117,116])=false:=by rw[hs];decide
 have q_delete:(ts.toList==[100,101,108,101,116,101])=false:=by rw[hs];decide
 have q_abort:(ts.toList==[97,98,111,114,116])=false:=by rw[hs];decide
 clear h hr he hk5 hs htt;go_enter Tryz.func162,Tryz.ntmps162
 go_wp2_with (first
  | ((with_reducible refine (TK.out).mono ?_);rintro e wt ⟨rfl,hx⟩;have H0:=PS.step HS.out hx NX.out;obtain⟨c0,c1,c2,c3,f1,f2,f3,hbb⟩:=(HS.out.ext hx).facts;clear c0 c2 c3 f2 f3 hx)
  | ((with_reducible refine (qaD _ _).mono ?_);rintro e wn ⟨rfl,hx⟩;have HN:=PS.new (PS.ext H0 hx) (.cells #[.int .i64 28,.int .i64 (-1),.int .i64 (-1),.int .i64 (-1),.int .i64 (-1),.int .i64 0,.string ⟨#[]⟩,.string ⟨#[]⟩] 166 (0,0));clear hx)
  | ((with_reducible refine (pdp HN HE.out T0).mono ?_);rintro e w1 (⟨c9,a9,rfl,HP⟩ | ⟨z1,r1,rfl,T1,H1⟩);rotate_left;obtain⟨n0,n1,n2,n3,n4,n5,n6,n7,u0,u1,u2,u3,u5,u6,u7,hkl⟩:=PS.node H1;have S1:Hid (PS b lb lo cap L m N nv w [(wn.heap.size,.cells #[.int .i64 28,.int .i64 z1,.int .i64 (-1),.int .i64 (-1),.int .i64 (-1),.int .i64 0,.string ⟨#[]⟩,.string ⟨#[]⟩] 166 (0,0))] r1 (w1.setCell ⟨wn.heap.size,1,none⟩ (.int .i64 z1))):=PS.set H1 1 (.int .i64 z1))
  | (go_at_call 195;(with_reducible refine (qba S1 _ _ zai T1).mono ?_);rintro e w2 (⟨c9,a9,rfl,HP⟩ | ⟨r2,rfl,T2,H2⟩);rotate_left;obtain⟨n0,n1,n2,n3,n4,n5,n6,n7,u0,u1,u2,u3,u5,u6,u7,hkl⟩:=PS.node H2)
  | (go_at_call 168;(refine (play H2 _ _ _ _ _ _ _ _ T2).mono ?_);rintro e w3 (⟨c9,a9,rfl,HP⟩ | ⟨z3,rfl,HP⟩)))
 all_goals first | exact⟨rfl,HP.out⟩ | (go_ret;exact HP.out)
theorem when_any (h:St b lb lo cap nv L m N w) (hk5:(tk L m).1.k=5) (hs:(tk L m).1.s.toList=[105,102]) (d:Nat) (hd:d≤16) (ex bk:PM Int) (he:Dp b lb lo cap L 196 (d:Int) ex) (hb:Dp b lb lo cap L 111 ((d:Int)+1) bk) (r:PR Int) (hr:whenP L ex (qay L bk) m N.length=r) :
  Calls Tryz.prog 163 #[.pointer (some ⟨b,0,none⟩),.int .i64 (d:Int)] w (PPost intV b lb lo cap nv L m N w r):=by
 have hd0:0≤(d:Int):=by omega
 have hd1:(d:Int)≤16:=by omega
 have T0:=Lib.hid (by unfold whenP at hr;exact qeK (s:=⟨#[105,102]⟩) (qda wb_if hk5 (by rw[hs,tl_if])) hr);have H0:=PS.begin h;have HE:=Lib.hid he
 have HB:RowKit.Hid (Dp b lb lo cap L 167 ((d:Int)+1) (qay L bk)):=Lib.hid fun nv m N w h r hr=>qdC h _ bk hb r hr
 clear h hr he hb hk5 hs hd;go_enter Tryz.func163,Tryz.ntmps163
 go_wp2_with (first
  | (go_at_call 195;(with_reducible refine (qba H0 _ _ zai T0).mono ?_);rintro e w1 (⟨c9,a9,rfl,HP⟩ | ⟨r1,rfl,T1,H1⟩);rotate_left)
  | ((with_reducible refine (qaD _ _).mono ?_);rintro e wn ⟨rfl,hx⟩;have HN:=PS.new (PS.ext H1 hx) (.cells #[.int .i64 24,.int .i64 (-1),.int .i64 (-1),.int .i64 (-1),.int .i64 (-1),.int .i64 0,.string ⟨#[]⟩,.string ⟨#[]⟩] 166 (0,0));clear hx)
  | ((with_reducible refine (pdp HN HE.out T1).mono ?_);rintro e w2 (⟨c9,a9,rfl,HP⟩ | ⟨z2,r2,rfl,T2,H2⟩);rotate_left;obtain⟨n0,n1,n2,n3,n4,n5,n6,n7,u0,u1,u2,u3,u5,u6,u7,hkl⟩:=PS.node H2;have S2:Hid (PS b lb lo cap L m N nv w [(wn.heap.size,.cells #[.int .i64 24,.int .i64 z2,.int .i64 (-1),.int .i64 (-1),.int .i64 (-1),.int .i64 0,.string ⟨#[]⟩,.string ⟨#[]⟩] 166 (0,0))] r2 (w2.setCell ⟨wn.heap.size,1,none⟩ (.int .i64 z2))):=PS.set H2 1 (.int .i64 z2))
  | ((with_reducible refine (pdp S2 HB.out T2).mono ?_);rintro e w3 (⟨c9,a9,rfl,HP⟩ | ⟨z3,r3,rfl,T3,H3⟩);rotate_left;obtain⟨n0,n1,n2,n3,n4,n5,n6,n7,u0,u1,u2,u3,u5,u6,u7,hkl⟩:=PS.node H3;have S3:Hid (PS b lb lo cap L m N nv w [(wn.heap.size,.cells #[.int .i64 24,.int .i64 z2,.int .i64 z3,.int .i64 (-1),.int .i64 (-1),.int .i64 0,.string ⟨#[]⟩,.string ⟨#[]⟩] 166 (0,0))] r3 (w3.setCell ⟨wn.heap.size,2,none⟩ (.int .i64 z3))):=PS.set H3 2 (.int .i64 z3))
  | ((with_reducible refine (ptakes S3 _ T3).mono ?_);rintro e w4 (⟨c9,a9,rfl,HP⟩ | ⟨x4,r4,rfl,T4,H4⟩);rotate_left;obtain⟨n0,n1,n2,n3,n4,n5,n6,n7,u0,u1,u2,u3,u5,u6,u7,hkl⟩:=PS.node H4;have S4:Hid (PS b lb lo cap L m N nv w [(wn.heap.size,.cells #[.int .i64 24,.int .i64 z2,.int .i64 z3,.int .i64 (-1),.int .i64 (-1),.int .i64 1,.string ⟨#[]⟩,.string ⟨#[]⟩] 166 (0,0))] r4 (w4.setCell ⟨wn.heap.size,5,none⟩ (.int .i64 1))):=PS.set H4 5 (.int .i64 1);cases x4<;>simp only[Bool.false_eq_true,if_false,if_true] at T4)
  | (go_at_call 168;(refine (play H4 _ _ _ _ _ _ _ _ T4).mono ?_);rintro e w5 (⟨c9,a9,rfl,HP⟩ | ⟨z5,rfl,HP⟩))
  | ((with_reducible refine (pdp S4 HB.out T4).mono ?_);rintro e w6 (⟨c9,a9,rfl,HP⟩ | ⟨z6,r6,rfl,T6,H6⟩);rotate_left;obtain⟨n0,n1,n2,n3,n4,n5,n6,n7,u0,u1,u2,u3,u5,u6,u7,hkl⟩:=PS.node H6;have S6:Hid (PS b lb lo cap L m N nv w [(wn.heap.size,.cells #[.int .i64 24,.int .i64 z2,.int .i64 z3,.int .i64 z6,.int .i64 (-1),.int .i64 1,.string ⟨#[]⟩,.string ⟨#[]⟩] 166 (0,0))] r6 (w6.setCell ⟨wn.heap.size,3,none⟩ (.int .i64 z6))):=PS.set H6 3 (.int .i64 z6))
  | (go_at_call 168;(refine (play S6 _ _ _ _ _ _ _ _ T6).mono ?_);rintro e w7 (⟨c9,a9,rfl,HP⟩ | ⟨z7,rfl,HP⟩)))
 all_goals first | exact⟨rfl,HP.out⟩ | (go_ret;exact HP.out)
theorem each_any (h:St b lb lo cap nv L m N w) (hk5:(tk L m).1.k=5) (hs:(tk L m).1.s.toList=[102,111,114]) (d:Nat) (hd:d≤16) (ex bk:PM Int) (he:Dp b lb lo cap L 196 (d:Int) ex) (hb:Dp b lb lo cap L 111 ((d:Int)+1) bk) (r:PR Int) (hr:eachP L ex (qay L bk) m N.length=r) :
  Calls Tryz.prog 164 #[.pointer (some ⟨b,0,none⟩),.int .i64 (d:Int)] w (PPost intV b lb lo cap nv L m N w r):=by
 have hd0:0≤(d:Int):=by omega
 have hd1:(d:Int)≤16:=by omega
 have T0:=Lib.hid (by unfold eachP at hr;exact qeK (s:=⟨#[102,111,114]⟩) (qda wb_for hk5 (by rw[hs,tl_for])) hr);have H0:=PS.begin h;have HE:=Lib.hid he
 have HB:RowKit.Hid (Dp b lb lo cap L 167 ((d:Int)+1) (qay L bk)):=Lib.hid fun nv m N w h r hr=>qdC h _ bk hb r hr
 clear h hr he hb hk5 hs hd;go_enter Tryz.func164,Tryz.ntmps164
 go_wp2_with (first
  | (go_at_call 195;(with_reducible refine (qba H0 _ _ zai T0).mono ?_);rintro e w1 (⟨c9,a9,rfl,HP⟩ | ⟨r1,rfl,T1,H1⟩);rotate_left)
  | ((with_reducible refine (qaD _ _).mono ?_);rintro e wn ⟨rfl,hx⟩;have HN:=PS.new (PS.ext H1 hx) (.cells #[.int .i64 25,.int .i64 (-1),.int .i64 (-1),.int .i64 (-1),.int .i64 (-1),.int .i64 0,.string ⟨#[]⟩,.string ⟨#[]⟩] 166 (0,0));clear hx)
  | (go_at_call 112;(with_reducible refine (pof HN 1 zak T1).mono ?_);rintro e w2 (⟨c9,a9,rfl,HP⟩ | ⟨a2,k2,s2,i2,r2,rfl,T2,H2⟩);rotate_left;obtain⟨n0,n1,n2,n3,n4,n5,n6,n7,u0,u1,u2,u3,u5,u6,u7,hkl⟩:=PS.node H2;have S2:Hid (PS b lb lo cap L m N nv w [(wn.heap.size,.cells #[.int .i64 25,.int .i64 (-1),.int .i64 (-1),.int .i64 (-1),.int .i64 (-1),.int .i64 0,.string s2,.string ⟨#[]⟩] 166 (0,0))] r2 (w2.setCell ⟨wn.heap.size,6,none⟩ (.string s2))):=PS.set H2 6 (.string s2))
  | (go_at_call 195;(with_reducible refine (qba S2 _ _ zai T2).mono ?_);rintro e w3 (⟨c9,a9,rfl,HP⟩ | ⟨r3,rfl,T3,H3⟩);rotate_left;obtain⟨n0,n1,n2,n3,n4,n5,n6,n7,u0,u1,u2,u3,u5,u6,u7,hkl⟩:=PS.node H3)
  | (go_at_call 112;(with_reducible refine (pof H3 1 zak T3).mono ?_);rintro e w4 (⟨c9,a9,rfl,HP⟩ | ⟨a4,k4,s4,i4,r4,rfl,T4,H4⟩);rotate_left;obtain⟨n0,n1,n2,n3,n4,n5,n6,n7,u0,u1,u2,u3,u5,u6,u7,hkl⟩:=PS.node H4;have S4:Hid (PS b lb lo cap L m N nv w [(wn.heap.size,.cells #[.int .i64 25,.int .i64 (-1),.int .i64 (-1),.int .i64 (-1),.int .i64 (-1),.int .i64 0,.string s2,.string s4] 166 (0,0))] r4 (w4.setCell ⟨wn.heap.size,7,none⟩ (.string s4))):=PS.set H4 7 (.string s4))
  | (go_at_call 195;(with_reducible refine (pmust3 S4 _ _ _ _ zai T4).mono ?_);rintro e w5 (⟨c9,a9,rfl,HP⟩ | ⟨r5,rfl,T5,H5⟩);rotate_left;obtain⟨n0,n1,n2,n3,n4,n5,n6,n7,u0,u1,u2,u3,u5,u6,u7,hkl⟩:=PS.node H5)
  | ((with_reducible refine (pdp H5 HE.out T5).mono ?_);rintro e w6 (⟨c9,a9,rfl,HP⟩ | ⟨z6,r6,rfl,T6,H6⟩);rotate_left;obtain⟨n0,n1,n2,n3,n4,n5,n6,n7,u0,u1,u2,u3,u5,u6,u7,hkl⟩:=PS.node H6;have S6:Hid (PS b lb lo cap L m N nv w [(wn.heap.size,.cells #[.int .i64 25,.int .i64 z6,.int .i64 (-1),.int .i64 (-1),.int .i64 (-1),.int .i64 0,.string s2,.string s4] 166 (0,0))] r6 (w6.setCell ⟨wn.heap.size,1,none⟩ (.int .i64 z6))):=PS.set H6 1 (.int .i64 z6))
  | (go_at_call 195;(with_reducible refine (qba S6 _ _ zai T6).mono ?_);rintro e w7 (⟨c9,a9,rfl,HP⟩ | ⟨r7,rfl,T7,H7⟩);rotate_left;obtain⟨n0,n1,n2,n3,n4,n5,n6,n7,u0,u1,u2,u3,u5,u6,u7,hkl⟩:=PS.node H7)
  | ((with_reducible refine (pturns H7 T7).mono ?_);rintro e w8 (⟨c9,a9,rfl,HP⟩ | ⟨z8,r8,rfl,T8,H8⟩);rotate_left;obtain⟨n0,n1,n2,n3,n4,n5,n6,n7,u0,u1,u2,u3,u5,u6,u7,hkl⟩:=PS.node H8;have S8:Hid (PS b lb lo cap L m N nv w [(wn.heap.size,.cells #[.int .i64 25,.int .i64 z6,.int .i64 (-1),.int .i64 (-1),.int .i64 (-1),.int .i64 z8,.string s2,.string s4] 166 (0,0))] r8 (w8.setCell ⟨wn.heap.size,5,none⟩ (.int .i64 z8))):=PS.set H8 5 (.int .i64 z8))
  | (go_at_call 195;(with_reducible refine (qba S8 _ _ zai T8).mono ?_);rintro e w9 (⟨c9,a9,rfl,HP⟩ | ⟨r9,rfl,T9,H9⟩);rotate_left;obtain⟨n0,n1,n2,n3,n4,n5,n6,n7,u0,u1,u2,u3,u5,u6,u7,hkl⟩:=PS.node H9)
  | ((with_reducible refine (pdp H9 HB.out T9).mono ?_);rintro e w10 (⟨c9,a9,rfl,HP⟩ | ⟨z10,r10,rfl,T10,H10⟩);rotate_left;obtain⟨n0,n1,n2,n3,n4,n5,n6,n7,u0,u1,u2,u3,u5,u6,u7,hkl⟩:=PS.node H10;have S10:Hid (PS b lb lo cap L m N nv w [(wn.heap.size,.cells #[.int .i64 25,.int .i64 z6,.int .i64 z10,.int .i64 (-1),.int .i64 (-1),.int .i64 z8,.string s2,.string s4] 166 (0,0))] r10 (w10.setCell ⟨wn.heap.size,2,none⟩ (.int .i64 z10))):=PS.set H10 2 (.int .i64 z10))
  | (go_at_call 168;(refine (play S10 _ _ _ _ _ _ _ _ T10).mono ?_);rintro e w11 (⟨c9,a9,rfl,HP⟩ | ⟨z11,rfl,HP⟩)))
 all_goals first | exact⟨rfl,HP.out⟩ | (go_ret;exact HP.out)
variable {b lb lo cap m:Nat} {nv:Value} {L:Toks} {N:List Nd} {w:World}
theorem sg_eq (d:Nat) (e1 o1:PM Int) (m n:Nat):qbm L d e1 o1 m n=pbind (takesP L ⟨#[45]⟩) (fun x=>if x=true then qaV L 10 d o1 else pbind (takesP L ⟨#[40]⟩) fun x=>if x=true then pbind e1 fun a=>pbind (mustP L [⟨#[41]⟩]) fun _=>pok a else pno L 3) m n:=by
 unfold qbm
 cases h1:isP L ⟨#[45]⟩ m
 · rw[qbt _ _ h1]
   cases h2:isP L ⟨#[40]⟩ m
   · rw[qbt _ _ h2];rfl
   · rw[qbw _ _ h2];rfl
 · rw[qbw _ _ h1];rfl
theorem qfe (h:St b lb lo cap nv L m N w) (k:Int) (d:Nat) (hd:d≤16) (o1:PM Int) (ho:d<16→Dp b lb lo cap L 214 ((d:Int)+1) o1) (r:PR Int) (hr:qaV L k d o1 m N.length=r) :
  Calls Tryz.prog 233 #[.pointer (some ⟨b,0,none⟩),.int .i64 k,.int .i64 (d:Int)] w (PPost intV b lb lo cap nv L m N w r):=by
 have H0:=PS.begin h;have T0:=Lib.hid (show _=_ from by have:=rb_begin hr;unfold qaV at this;exact this);have HO:=Lib.hid ho
 have hd0:0≤(d:Int):=by omega
 have hd1:(d:Int)≤16:=by omega
 clear h hr ho;go_enter Tryz.func233,Tryz.ntmps233
 go_wp2_with (first
  | (go_at_call 130;(with_reducible refine (pdeep H0 (d+1) zac _ zac T0).mono ?_);rintro e w1 (⟨c9,a9,rfl,HP⟩ | ⟨hd9,r1,rfl,T1,H1⟩);rotate_left)
  | ((with_reducible refine (qaD _ _).mono ?_);rintro e wn ⟨rfl,hx⟩;have HN:=PS.new (PS.ext H1 hx) (.cells #[.int .i64 k,.int .i64 (-1),.int .i64 (-1),.int .i64 (-1),.int .i64 (-1),.int .i64 0,.string ⟨#[]⟩,.string ⟨#[]⟩] 166 (0,0));clear hx)
  | (go_at_call 214;(with_reducible refine (pdp HN (HO.out zac) T1).mono ?_);rintro e w2 (⟨c9,a9,rfl,HP⟩ | ⟨z2,r2,rfl,T2,H2⟩);rotate_left;obtain⟨n0,n1,n2,n3,n4,n5,n6,n7,u0,u1,u2,u3,u5,u6,u7,hkl⟩:=PS.node H2;have S2:Hid (PS b lb lo cap L m N nv w [(wn.heap.size,.cells #[.int .i64 k,.int .i64 z2,.int .i64 (-1),.int .i64 (-1),.int .i64 (-1),.int .i64 0,.string ⟨#[]⟩,.string ⟨#[]⟩] 166 (0,0))] r2 (w2.setCell ⟨wn.heap.size,1,none⟩ (.int .i64 z2))):=PS.set H2 1 (.int .i64 z2))
  | (go_at_call 168;(refine (play S2 _ _ _ _ _ _ _ _ T2).mono ?_);rintro e w3 (⟨c9,a9,rfl,HP⟩ | ⟨z3,rfl,HP⟩)))
 all_goals first | exact⟨rfl,HP.out⟩ | (go_ret;exact HP.out)
theorem signed_any (h:St b lb lo cap nv L m N w) (d:Nat) (hd:d≤16) (e1 o1:PM Int) (ho:d<16→Dp b lb lo cap L 214 ((d:Int)+1) o1) (he:Dp b lb lo cap L 196 ((d:Int)+1) e1) (r:PR Int) (hr:qbm L d e1 o1 m N.length=r) :
  Calls Tryz.prog 227 #[.pointer (some ⟨b,0,none⟩),.int .i64 (d:Int)] w (PPost intV b lb lo cap nv L m N w r):=by
 have H0:=PS.begin h;have T0:=Lib.hid (rb_begin ((sg_eq d e1 o1 m N.length).symm.trans hr))
 have HW:RowKit.Hid (∀ nv m N w,St b lb lo cap nv L m N w→∀ r,qaV L 10 d o1 m N.length=r→Calls Tryz.prog 233 #[.pointer (some ⟨b,0,none⟩),.int .i64 10,.int .i64 (d:Int)] w (PPost intV b lb lo cap nv L m N w r)):=Lib.hid fun nv m N w h r hr=>qfe h 10 d hd o1 ho r hr
 have HE:=Lib.hid he
 have hd0:0≤(d:Int):=by omega
 have hd1:(d:Int)≤16:=by omega
 clear h hr ho he;go_enter Tryz.func227,Tryz.ntmps227
 go_wp2_with (first
  | ((with_reducible refine (ptakes H0 _ T0).mono ?_);rintro e w1 (⟨c9,a9,rfl,HP⟩ | ⟨x1,r1,rfl,T1,H1⟩);rotate_left;cases x1<;>simp only[Bool.false_eq_true,if_false,if_true] at T1)
  | ((with_reducible refine (ptakes H1 _ T1).mono ?_);rintro e w2 (⟨c9,a9,rfl,HP⟩ | ⟨x2,r2,rfl,T2,H2⟩);rotate_left;cases x2<;>simp only[Bool.false_eq_true,if_false,if_true] at T2)
  | (go_at_call 233;(refine (pend H1 (fun nv m N hs q hq=>HW.out nv m N _ hs q hq) T1).mono ?_);rintro e w9 (⟨c9,a9,rfl,HP⟩ | ⟨z9,rfl,HP⟩))
  | (go_at_call 133;(refine (pfail H2 _ T2).mono ?_);rintro e w9 ⟨c9,a9,rfl,HP⟩)
  | ((with_reducible refine (pdp H2 HE.out T2).mono ?_);rintro e w3 (⟨c9,a9,rfl,HP⟩ | ⟨z3,r3,rfl,T3,H3⟩);rotate_left)
  | (go_at_call 195;(with_reducible refine (qba H3 _ _ zai T3).mono ?_);rintro e w4 (⟨c9,a9,rfl,HP⟩ | ⟨r4,rfl,T4,H4⟩);rotate_left))
 all_goals first | exact⟨rfl,HP.out⟩ | (go_ret;first | exact HP.out | exact PS.fin H4 T4)
theorem wd_cases {d:Nat} {e1 o1:PM Int} {k i a:Int} {r:PR Int} {ts:ByteArray} {n:Nat} (ht:tk L m=(⟨k,ts,i⟩,a)) (hn:m+1<L.length) (hr:qbl L d e1 o1 m n=r) :
  ((callF ts==-1)=false∧r=rb n (.ok ((),m+1,[])) (pbind (mustP L [⟨#[40]⟩]) fun _=>pbind e1 fun a=>pbind (mustP L [⟨#[41]⟩]) fun _=>layP L { nd (callF ts) with a:=a }))∨(callF ts=-1∧((isP L ⟨#[110,111,116]⟩ m=true∧r=rb n (.ok ((),m+1,[])) (qaV L 9 d o1))∨(isP L ⟨#[110,111,116]⟩ m=false∧isP L ⟨#[110,105,108]⟩ m=true∧r=rb n (.ok ((),m+1,[])) (layP L (nd 0))) ∨
   (isP L ⟨#[110,111,116]⟩ m=false∧isP L ⟨#[110,105,108]⟩ m=false∧∃ q1 q2:Bool,(ts.toList==[116,114,117,101])=q1∧(ts.toList==[102,97,108,115,101])=q2∧((q1=true∧r=rb n (.ok ((),m+1,[])) (layP L { nd 1 with i:=1 }))∨(q1=false∧q2=true∧r=rb n (.ok ((),m+1,[])) (layP L (nd 1)))∨(q1=false∧q2=false∧r=rb n (.ok ((),m,[])) (pno L 3)))))):=by
 unfold qbl sIs at hr;rw[ht] at hr;dsimp only at hr
 by_cases hc:callF ts=-1
 · rw[if_pos hc] at hr
   refine .inr ⟨hc,?_⟩
   cases p1:isP L ⟨#[110,111,116]⟩ m
   · rw[p1,if_neg zaj] at hr
     cases p2:isP L ⟨#[110,105,108]⟩ m
     · rw[p2,if_neg zaj] at hr
       refine .inr (.inr ⟨rfl,rfl,_,_,rfl,rfl,?_⟩)
       cases q1:ts.toList==[116,114,117,101]
       · rw[q1,if_neg zaj] at hr
         cases q2:ts.toList==[102,97,108,115,101]
         · rw[q2,if_neg zaj] at hr
           exact .inr (.inr ⟨rfl,rfl,rb_begin hr⟩)
         · rw[q2,if_pos rfl] at hr
           exact .inr (.inl ⟨rfl,rfl,hr.symm⟩)
       · rw[q1,if_pos rfl] at hr
         exact .inl ⟨rfl,hr.symm⟩
     · rw[p2,if_pos rfl] at hr
       exact .inr (.inl ⟨rfl,rfl,hr.symm⟩)
   · rw[p1,if_pos rfl] at hr
     exact .inl ⟨rfl,hr.symm⟩
 · rw[if_neg hc] at hr
   exact .inl ⟨by simpa using hc,hr.symm⟩
theorem worded_any (h:St b lb lo cap nv L m N w) (hk5:(tk L m).1.k=5) (d:Nat) (hd:d≤16) (e1 o1:PM Int) (ho:d<16→Dp b lb lo cap L 214 ((d:Int)+1) o1) (he:Dp b lb lo cap L 196 ((d:Int)+1) e1) (r:PR Int) (hr:qbl L d e1 o1 m N.length=r) :
  Calls Tryz.prog 228 #[.pointer (some ⟨b,0,none⟩),.int .i64 (d:Int)] w (PPost intV b lb lo cap nv L m N w r):=by
 have H0:=PS.begin h
 have hd0:0≤(d:Int):=by omega
 have hd1:(d:Int)≤16:=by omega
 have NX:=h.next (by rw[hk5];decide)
 have HW:RowKit.Hid (∀ nv m N w,St b lb lo cap nv L m N w→∀ r,qaV L 9 d o1 m N.length=r→Calls Tryz.prog 233 #[.pointer (some ⟨b,0,none⟩),.int .i64 9,.int .i64 (d:Int)] w (PPost intV b lb lo cap nv L m N w r)):=Lib.hid fun nv m N w h r hr=>qfe h 9 d hd o1 ho r hr
 have HE:=Lib.hid he
 have hm:(m:Int)≤5000:=by have:=h.ends.few;have:=h.pos;omega
 have hm0:0≤(m:Int):=by omega
 have S:=Lib.hid h
 obtain⟨c0,c1,c2,c3,f1,f2,f3,hbb⟩:=h.facts
 clear c0 c2 c3 f2 f3;refine yau ?_;intro HS
 obtain⟨⟨⟨k,ts,i⟩,a⟩,htt⟩:∃ tt,tk L m=tt:=⟨_,rfl⟩
 have TK:RowKit.Hid (∀ w1,Ext w w1→Calls Tryz.prog 132 #[.pointer (some ⟨b,0,none⟩)] w1 fun e w'=>e=.returned (.agg #[.int .i64 k,.int .i64 a,.string ts,.int .i64 i])∧Ext w1 w'):=Lib.hid fun w1 hx=>by have:=qbs (h.ext hx);rw[htt] at this;exact this
 have CS:=wd_cases htt NX hr;have CA:=Lib.hid (call_any ts)
 have TN:RowKit.Hid (∀ s,isP L s m=false→∀ w1,Ext w w1→Calls Tryz.prog 194 #[.pointer (some ⟨b,0,none⟩),.string s] w1 fun e w'=>e=.returned (.bool false)∧Ext w1 w'):=Lib.hid fun s hp w1 hx=>qcX (h.ext hx) _ hp
 have H1:=HS.out NX;clear h hr ho he htt hk5 NX HS
 rcases CS with ⟨hc,tt⟩ | ⟨hc,⟨p1,tt⟩ | ⟨p1,p2,tt⟩ | ⟨p1,p2,q1,q2,h1,h2,⟨rfl,tt⟩ | ⟨rfl,rfl,tt⟩ | ⟨rfl,rfl,tt⟩⟩⟩
 all_goals
  have T0:=Lib.hid tt;clear tt
  try rw[hc] at CA
  go_enter Tryz.func228,Tryz.ntmps228
  go_wp2_with (first
   | (go_at_call 132;(with_reducible refine (TK.out _ zaa).mono ?_);rintro e _ ⟨rfl,d2,os2,rfl⟩)
   | ((with_reducible refine (CA.out _).mono ?_);rintro e _ ⟨rfl,d5,os5,rfl⟩)
   | (go_at_call 194;(with_reducible refine (TN.out _ zbj _ zaa).mono ?_);rintro e _ ⟨rfl,d7,os7,rfl⟩)
   | (go_at_call 194;(with_reducible refine (qfD (PS.ext H0 zaa) _ zbj).mono ?_);rintro e w1 ⟨rfl,HY⟩)
   | (go_at_call 195;(with_reducible refine (qba (PS.ext H1 zaa) _ _ zai T0).mono ?_);rintro e w2 (⟨c9,a9,rfl,HP⟩ | ⟨r2,rfl,T2,H2⟩);rotate_left)
   | ((with_reducible refine (pdp HN HE.out T2).mono ?_);rintro e w3 (⟨c9,a9,rfl,HP⟩ | ⟨z3,r3,rfl,T3,H3⟩);rotate_left;obtain⟨n0,n1,n2,n3,n4,n5,n6,n7,u0,u1,u2,u3,u5,u6,u7,hkl⟩:=PS.node H3;have S3:Hid (PS b lb lo cap L m N nv w [(wn.heap.size,.cells #[.int .i64 (callF ts),.int .i64 z3,.int .i64 (-1),.int .i64 (-1),.int .i64 (-1),.int .i64 0,.string ⟨#[]⟩,.string ⟨#[]⟩] 166 (0,0))] r3 (w3.setCell ⟨wn.heap.size,1,none⟩ (.int .i64 z3))):=PS.set H3 1 (.int .i64 z3))
   | (go_at_call 195;(with_reducible refine (qba S3 _ _ zai T3).mono ?_);rintro e w4 (⟨c9,a9,rfl,HP⟩ | ⟨r4,rfl,T4,H4⟩);rotate_left;obtain⟨n0,n1,n2,n3,n4,n5,n6,n7,u0,u1,u2,u3,u5,u6,u7,hkl⟩:=PS.node H4)
   | (go_at_call 168;(refine (play H4 _ _ _ _ _ _ _ _ T4).mono ?_);rintro e w5 (⟨c9,a9,rfl,HP⟩ | ⟨z5,rfl,HP⟩))
   | ((with_reducible refine (qaD _ _).mono ?_);rintro e wn ⟨rfl,hx⟩;have HN:=PS.new (PS.ext H2 hx) (.cells #[.int .i64 (callF ts),.int .i64 (-1),.int .i64 (-1),.int .i64 (-1),.int .i64 (-1),.int .i64 0,.string ⟨#[]⟩,.string ⟨#[]⟩] 166 (0,0));clear hx)
   | ((with_reducible refine (qaD _ _).mono ?_);rintro e _ ⟨rfl,d3,os3,rfl⟩)
   | (go_at_call 233;(refine (pend HY (fun nv m N hs q hq=>HW.out nv m N _ hs q hq) T0).mono ?_);rintro e w9 (⟨c9,a9,rfl,HP⟩ | ⟨z9,rfl,HP⟩))
   | (go_at_call 168;(refine (play (PS.ext HY zaa) _ _ _ _ _ _ _ _ T0).mono ?_);rintro e w9 (⟨c9,a9,rfl,HP⟩ | ⟨z9,rfl,HP⟩))
   | (go_at_call 168;(refine (play (PS.ext H1 zaa) _ _ _ _ _ _ _ _ T0).mono ?_);rintro e w9 (⟨c9,a9,rfl,HP⟩ | ⟨z9,rfl,HP⟩))
   | (go_at_call 133;(refine (pfail (PS.ext H0 zaa) _ T0).mono ?_);rintro e w9 ⟨c9,a9,rfl,HP⟩))
  all_goals first | exact⟨rfl,HP.out⟩ | (go_ret;exact HP.out)
theorem on_cases {d:Nat} {e1 o1:PM Int} {k i a:Int} {r:PR Int} {ts:ByteArray} {n:Nat} (ht:tk L m=(⟨k,ts,i⟩,a)) (hn:(tk L m).1.k≠0→m+1<L.length) (hr:oneP L d e1 o1 m n=r) :
  (k=2∧m+1<L.length∧r=rb n (.ok ((),m+1,[])) (layP L { nd 2 with i:=i }))∨(k=3∧m+1<L.length∧r=rb n (.ok ((),m+1,[])) (layP L { nd 3 with s:=ts }))∨(k=1∧m+1<L.length∧r=rb n (.ok ((),m+1,[])) (layP L { nd 4 with s:=ts })) ∨
  (k=4∧r=rb n (.ok ((),m,[])) (qbm L d e1 o1))∨(k=5∧r=rb n (.ok ((),m,[])) (qbl L d e1 o1))∨((k==2)=false∧(k==3)=false∧(k==1)=false∧(k==4)=false∧(k==5)=false∧r=rb n (.ok ((),m,[])) (pno L 3)):=by
 unfold oneP at hr;rw[ht] at hr hn;dsimp only at hr hn
 by_cases e2:k=2
 · rw[if_pos e2] at hr;exact .inl ⟨e2,hn zac,hr.symm⟩
 by_cases e3:k=3
 · rw[if_neg e2,if_pos e3] at hr;exact .inr (.inl ⟨e3,hn zac,hr.symm⟩)
 by_cases e1':k=1
 · rw[if_neg e2,if_neg e3,if_pos e1'] at hr;exact .inr (.inr (.inl ⟨e1',hn zac,hr.symm⟩))
 by_cases e4:k=4
 · rw[if_neg e2,if_neg e3,if_neg e1',if_pos e4] at hr;exact .inr (.inr (.inr (.inl ⟨e4,rb_begin hr⟩)))
 by_cases e5:k=5
 · rw[if_neg e2,if_neg e3,if_neg e1',if_neg e4,if_pos e5] at hr;exact .inr (.inr (.inr (.inr (.inl ⟨e5,rb_begin hr⟩))))
 rw[if_neg e2,if_neg e3,if_neg e1',if_neg e4,if_neg e5] at hr;exact .inr (.inr (.inr (.inr (.inr ⟨by simpa using e2,by simpa using e3,by simpa using e1',by simpa using e4,by simpa using e5,rb_begin hr⟩))))
theorem one_any (h:St b lb lo cap nv L m N w) (d:Nat) (hd:d≤16) (e1 o1:PM Int) (ho:d<16→Dp b lb lo cap L 214 ((d:Int)+1) o1) (he:Dp b lb lo cap L 196 ((d:Int)+1) e1) (r:PR Int) (hr:oneP L d e1 o1 m N.length=r) :
  Calls Tryz.prog 214 #[.pointer (some ⟨b,0,none⟩),.int .i64 (d:Int)] w (PPost intV b lb lo cap nv L m N w r):=by
 have H0:=PS.begin h
 have hm:(m:Int)≤5000:=by have:=h.ends.few;have:=h.pos;omega
 have hm0:0≤(m:Int):=by omega
 have S:=Lib.hid h
 obtain⟨c0,c1,c2,c3,f1,f2,f3,hbb⟩:=h.facts
 clear c0 c2 c3 f2 f3;refine yau ?_;intro HS
 obtain⟨⟨⟨k,ts,i⟩,a⟩,htt⟩:∃ tt,tk L m=tt:=⟨_,rfl⟩
 have TK:RowKit.Hid (∀ w1,Ext w w1→Calls Tryz.prog 132 #[.pointer (some ⟨b,0,none⟩)] w1 fun e w'=>e=.returned (.agg #[.int .i64 k,.int .i64 a,.string ts,.int .i64 i])∧Ext w1 w'):=Lib.hid fun w1 hx=>by have:=qbs (h.ext hx);rw[htt] at this;exact this
 have SG:RowKit.Hid (∀ nv w,St b lb lo cap nv L m N w→∀ r,qbm L d e1 o1 m N.length=r→Calls Tryz.prog 227 #[.pointer (some ⟨b,0,none⟩),.int .i64 (d:Int)] w (PPost intV b lb lo cap nv L m N w r)):=Lib.hid fun nv w h r hr=>signed_any h d hd e1 o1 ho he r hr
 have WD:RowKit.Hid (k=5→∀ nv w,St b lb lo cap nv L m N w→∀ r,qbl L d e1 o1 m N.length=r→Calls Tryz.prog 228 #[.pointer (some ⟨b,0,none⟩),.int .i64 (d:Int)] w (PPost intV b lb lo cap nv L m N w r)):=Lib.hid fun hk nv w h r hr=>worded_any h (by rw[htt];exact hk) d hd e1 o1 ho he r hr
 have CS:=on_cases htt h.next hr;clear h hr ho he htt
 rcases CS with ⟨rfl,nx,tt⟩ | ⟨rfl,nx,tt⟩ | ⟨rfl,nx,tt⟩ | ⟨rfl,tt⟩ | ⟨rfl,tt⟩ | ⟨q2,q3,q1,q4,q5,tt⟩
 all_goals
  have T0:=Lib.hid tt
  try have H1:=HS.out nx
  clear tt
  try clear nx
  go_enter Tryz.func214,Tryz.ntmps214
  go_wp2_with (first
   | (go_at_call 132;(with_reducible refine (TK.out _ zaa).mono ?_);rintro e _ ⟨rfl,d2,os2,rfl⟩)
   | ((with_reducible refine (qaD _ _).mono ?_);rintro e _ ⟨rfl,d3,os3,rfl⟩)
   | (go_at_call 168;(refine (play (PS.ext H1 zaa) _ _ _ _ _ _ _ _ T0).mono ?_);rintro e w9 (⟨c9,a9,rfl,HP⟩ | ⟨z9,rfl,HP⟩))
   | (go_at_call 227;(refine (pend1 (PS.ext H0 zaa) (fun nv hs q hq=>SG.out nv _ hs q hq) T0).mono ?_);rintro e w9 (⟨c9,a9,rfl,HP⟩ | ⟨z9,rfl,HP⟩))
   | (go_at_call 228;(refine (pend1 (PS.ext H0 zaa) (fun nv hs q hq=>WD.out zaj nv _ hs q hq) T0).mono ?_);rintro e w9 (⟨c9,a9,rfl,HP⟩ | ⟨z9,rfl,HP⟩))
   | (go_at_call 133;(refine (pfail (PS.ext H0 zaa) _ T0).mono ?_);rintro e w9 ⟨c9,a9,rfl,HP⟩))
  all_goals first | exact⟨rfl,HP.out⟩ | (go_ret;exact HP.out)
end Go.Proofs.YtpnabjopfpdkhaaGreatDoor
