/- Lemmas. -/
import Derived.Test.YtpnabjopfpdkhaaGreatDoorY25
set_option linter.all false
set_option maxHeartbeats 4000000
set_option maxRecDepth 20000
namespace Go.Proofs.YtpnabjopfpdkhaaGreatDoor
open Tryz RowKit
attribute [go_sem] more_more Array.size_append
variable {b lb lo cap m:Nat} {nv:Value} {L:Toks} {N:List Nd} {w:World}
def sg_eq (d:Nat) (e1 o1:PM Int) (m n:Nat):qbk L d e1 o1 m n=pbind (takesP L ⟨#[45]⟩) (fun x=>if x=true then qaX L 10 d o1 else pbind (takesP L ⟨#[40]⟩) fun x=>if x=true then pbind e1 fun a=>pbind (mustP L [⟨#[41]⟩]) fun _=>pok a else pno L 3) m n:=by
 unfold qbk;cases h1:isP L ⟨#[45]⟩ m
 . rw[qbu _ _ h1];cases h2:isP L ⟨#[40]⟩ m
   . rw[qbu _ _ h2];rfl
   . rw[qbx _ _ h2];rfl
 . rw[qbx _ _ h1];rfl
def qfN (h:St b lb lo cap nv L m N w) (k:Int) (d:Nat) (hd:d<=16) (o1:PM Int) (ho:d<16->Dp b lb lo cap L 214 ((d:Int)+1) o1) (r:PR Int) (hr:qaX L k d o1 m N.length=r) :
  Calls prog 233 #[.pointer (some ⟨b,0,none⟩),.int .i64 k,.int .i64 (d:Int)] w (PPost intV b lb lo cap nv L m N w r):=by
 have H0:=PS.begin h;have T0:=J (show _=_ from by have:=rb_begin hr;unfold qaX at this;exact this);have HO:=J ho;have hd0:0<=(d:Int):=Y;have hd1:(d:Int)<=16:=Y;clear h hr ho;go_enter func233,ntmps233
 go_wp2_with (first
  | ((with_reducible refine (pdeep H0 (d+1) Y _ Y T0).mono ?_);rintro e w1 (⟨c9,a9,rfl,HP⟩ | ⟨hd9,r1,rfl,T1,H1⟩);rotate_left)
  | ((with_reducible refine (qaG _ _).mono ?_);rintro e wn ⟨rfl,hx⟩;have HN:=PS.new (PS.ext H1 hx) (.cells #[.int .i64 k,.int .i64 (-1),.int .i64 (-1),.int .i64 (-1),.int .i64 (-1),.int .i64 0,.string ⟨#[]⟩,.string ⟨#[]⟩] 166 (0,0));clear hx)
  | ((with_reducible refine (pdp HN (HO.out Y) T1).mono ?_);rintro e w2 (⟨c9,a9,rfl,HP⟩ | ⟨z2,r2,rfl,T2,H2⟩);rotate_left;obtain⟨n0,n1,n2,n3,n4,n5,n6,n7,u0,u1,u2,u3,u5,u6,u7,hkl⟩:=PS.node H2;have S2:Hid (PS b lb lo cap L m N nv w [(wn.heap.size,.cells #[.int .i64 k,.int .i64 z2,.int .i64 (-1),.int .i64 (-1),.int .i64 (-1),.int .i64 0,.string ⟨#[]⟩,.string ⟨#[]⟩] 166 (0,0))] r2 (w2.setCell ⟨wn.heap.size,1,none⟩ (.int .i64 z2))):=PS.set H2 1 (.int .i64 z2))
  | (go_at_call 168;(refine (play S2 _ _ _ _ _ _ _ _ T2).mono ?_);rintro e w3 (⟨c9,a9,rfl,HP⟩ | ⟨z3,rfl,HP⟩)))
 all_goals first | exact⟨rfl,HP.out⟩ | (go_ret;exact HP.out)
def signed_any (h:St b lb lo cap nv L m N w) (d:Nat) (hd:d<=16) (e1 o1:PM Int) (ho:d<16->Dp b lb lo cap L 214 ((d:Int)+1) o1) (he:Dp b lb lo cap L 196 ((d:Int)+1) e1) (r:PR Int) (hr:qbk L d e1 o1 m N.length=r) :
  Calls prog 227 #[.pointer (some ⟨b,0,none⟩),.int .i64 (d:Int)] w (PPost intV b lb lo cap nv L m N w r):=by
 have H0:=PS.begin h;have T0:=J (rb_begin ((sg_eq d e1 o1 m N.length).symm.trans hr));have HW:Hid (∀ nv m N w,St b lb lo cap nv L m N w->∀ r,qaX L 10 d o1 m N.length=r->Calls prog 233 #[.pointer (some ⟨b,0,none⟩),.int .i64 10,.int .i64 (d:Int)] w (PPost intV b lb lo cap nv L m N w r)):=J fun nv m N w h r hr=>qfN h 10 d hd o1 ho r hr
 have HE:=J he;have hd0:0<=(d:Int):=Y;have hd1:(d:Int)<=16:=Y;clear h hr ho he;go_enter func227,ntmps227
 go_wp2_with (first
  | ((with_reducible refine (ptakes H0 _ T0).mono ?_);rintro e w1 (⟨c9,a9,rfl,HP⟩ | ⟨x1,r1,rfl,T1,H1⟩);rotate_left;cases x1<;>simp only[Bool.false_eq_true,if_false,if_true] at T1)
  | ((with_reducible refine (ptakes H1 _ T1).mono ?_);rintro e w2 (⟨c9,a9,rfl,HP⟩ | ⟨x2,r2,rfl,T2,H2⟩);rotate_left;cases x2<;>simp only[Bool.false_eq_true,if_false,if_true] at T2)
  | (go_at_call 233;(refine (pend H1 (fun nv m N hs q hq=>HW.out nv m N _ hs q hq) T1).mono ?_);rintro e w9 (⟨c9,a9,rfl,HP⟩ | ⟨z9,rfl,HP⟩))
  | (go_at_call 133;(refine (pfail H2 _ T2).mono ?_);rintro e w9 ⟨c9,a9,rfl,HP⟩)
  | ((with_reducible refine (pdp H2 HE.out T2).mono ?_);rintro e w3 (⟨c9,a9,rfl,HP⟩ | ⟨z3,r3,rfl,T3,H3⟩);rotate_left)
  | ((with_reducible refine (qbb H3 _ _ jk T3).mono ?_);rintro e w4 (⟨c9,a9,rfl,HP⟩ | ⟨r4,rfl,T4,H4⟩);rotate_left))
 all_goals first | exact⟨rfl,HP.out⟩ | (go_ret;first | exact HP.out | exact PS.fin H4 T4)
def wd_cases {d:Nat} {e1 o1:PM Int} {k i a:Int} {r:PR Int} {ts:ByteArray} {n:Nat} (ht:tk L m=(⟨k,ts,i⟩,a)) (hn:m+1<L.length) (hr:qbj L d e1 o1 m n=r) :
  ((callF ts==-1)=false/\r=rb n (.ok ((),m+1,[])) (pbind (mustP L [⟨#[40]⟩]) fun _=>pbind e1 fun a=>pbind (mustP L [⟨#[41]⟩]) fun _=>layP L { nd (callF ts) with a:=a }))\/(callF ts=-1/\((isP L ⟨#[110,111,116]⟩ m=true/\r=rb n (.ok ((),m+1,[])) (qaX L 9 d o1))\/(isP L ⟨#[110,111,116]⟩ m=false/\isP L ⟨#[110,105,108]⟩ m=true/\r=rb n (.ok ((),m+1,[])) (layP L (nd 0))) \/
   (isP L ⟨#[110,111,116]⟩ m=false/\isP L ⟨#[110,105,108]⟩ m=false/\∃ q1 q2:Bool,(ts.toList==[116,114,117,101])=q1/\(ts.toList==[102,97,108,115,101])=q2/\((q1=true/\r=rb n (.ok ((),m+1,[])) (layP L { nd 1 with i:=1 }))\/(q1=false/\q2=true/\r=rb n (.ok ((),m+1,[])) (layP L (nd 1)))\/(q1=false/\q2=false/\r=rb n (.ok ((),m,[])) (pno L 3)))))):=by
 unfold qbj sIs at hr;rw[ht] at hr;dsimp only at hr;by_cases hc:callF ts=-1
 . rw[if_pos hc] at hr;refine .inr ⟨hc,?_⟩;cases p1:isP L ⟨#[110,111,116]⟩ m
   . rw[p1,if_neg zy] at hr;cases p2:isP L ⟨#[110,105,108]⟩ m
     . rw[p2,if_neg zy] at hr;refine .inr (.inr ⟨rfl,rfl,_,_,rfl,rfl,?_⟩);cases q1:ts.toList==[116,114,117,101]
       . rw[q1,if_neg zy] at hr;cases q2:ts.toList==[102,97,108,115,101]
         . rw[q2,if_neg zy] at hr;exact .inr (.inr ⟨rfl,rfl,rb_begin hr⟩)
         . rw[q2,if_pos rfl] at hr;exact .inr (.inl ⟨rfl,rfl,hr.symm⟩)
       . rw[q1,if_pos rfl] at hr;exact .inl ⟨rfl,hr.symm⟩
     . rw[p2,if_pos rfl] at hr;exact .inr (.inl ⟨rfl,rfl,hr.symm⟩)
   . rw[p1,if_pos rfl] at hr;exact .inl ⟨rfl,hr.symm⟩
 . rw[if_neg hc] at hr;exact .inl ⟨by simpa using hc,hr.symm⟩
def worded_any (h:St b lb lo cap nv L m N w) (hk5:(tk L m).1.k=5) (d:Nat) (hd:d<=16) (e1 o1:PM Int) (ho:d<16->Dp b lb lo cap L 214 ((d:Int)+1) o1) (he:Dp b lb lo cap L 196 ((d:Int)+1) e1) (r:PR Int) (hr:qbj L d e1 o1 m N.length=r) :
  Calls prog 228 #[.pointer (some ⟨b,0,none⟩),.int .i64 (d:Int)] w (PPost intV b lb lo cap nv L m N w r):=by
 have H0:=PS.begin h;have hd0:0<=(d:Int):=Y;have hd1:(d:Int)<=16:=Y;have NX:=h.next (by rw[hk5];decide);have HW:Hid (∀ nv m N w,St b lb lo cap nv L m N w->∀ r,qaX L 9 d o1 m N.length=r->Calls prog 233 #[.pointer (some ⟨b,0,none⟩),.int .i64 9,.int .i64 (d:Int)] w (PPost intV b lb lo cap nv L m N w r)):=J fun nv m N w h r hr=>qfN h 9 d hd o1 ho r hr
 have HE:=J he;have hm:(m:Int)<=5000:=by have:=h.ends.few;have:=h.pos;omega
 have hm0:0<=(m:Int):=Y;have S:=J h;obtain⟨c0,c1,c2,c3,f1,f2,f3,hbb⟩:=h.facts;clear c0 c2 c3 f2 f3;refine yas ?_;intro HS;obtain⟨⟨⟨k,ts,i⟩,a⟩,htt⟩:∃ tt,tk L m=tt:=⟨_,rfl⟩
 have TK:Hid (∀ w1,Ext w w1->Calls prog 132 #[.pointer (some ⟨b,0,none⟩)] w1 fun e w'=>e=.returned (.agg #[.int .i64 k,.int .i64 a,.string ts,.int .i64 i])/\Ext w1 w'):=J fun w1 hx=>by have:=qci (h.ext hx);rw[htt] at this;exact this
 have CS:=wd_cases htt NX hr;have CA:=J (call_any ts);have TN:Hid (∀ s,isP L s m=false->∀ w1,Ext w w1->Calls prog 194 #[.pointer (some ⟨b,0,none⟩),.string s] w1 fun e w'=>e=.returned (.bool false)/\Ext w1 w'):=J fun s hp w1 hx=>qdC (h.ext hx) _ hp
 have H1:=HS.out NX;clear h hr ho he htt hk5 NX HS;rcases CS with ⟨hc,tt⟩ | ⟨hc,⟨p1,tt⟩ | ⟨p1,p2,tt⟩ | ⟨p1,p2,q1,q2,h1,h2,⟨rfl,tt⟩ | ⟨rfl,rfl,tt⟩ | ⟨rfl,rfl,tt⟩⟩⟩
 all_goals
  have T0:=J tt;clear tt
  try rw[hc] at CA
  go_enter func228,ntmps228
  go_wp2_with (first
   | ((with_reducible refine (TK.out _ zq).mono ?_);rintro e _ ⟨rfl,d2,os2,rfl⟩)
   | ((with_reducible refine (CA.out _).mono ?_);rintro e _ ⟨rfl,d5,os5,rfl⟩)
   | ((with_reducible refine (TN.out _ zo _ zq).mono ?_);rintro e _ ⟨rfl,d7,os7,rfl⟩)
   | ((with_reducible refine (qgf (PS.ext H0 zq) _ zo).mono ?_);rintro e w1 ⟨rfl,HY⟩)
   | ((with_reducible refine (qbb (PS.ext H1 zq) _ _ jk T0).mono ?_);rintro e w2 (⟨c9,a9,rfl,HP⟩ | ⟨r2,rfl,T2,H2⟩);rotate_left)
   | ((with_reducible refine (pdp HN HE.out T2).mono ?_);rintro e w3 (⟨c9,a9,rfl,HP⟩ | ⟨z3,r3,rfl,T3,H3⟩);rotate_left;obtain⟨n0,n1,n2,n3,n4,n5,n6,n7,u0,u1,u2,u3,u5,u6,u7,hkl⟩:=PS.node H3;have S3:Hid (PS b lb lo cap L m N nv w [(wn.heap.size,.cells #[.int .i64 (callF ts),.int .i64 z3,.int .i64 (-1),.int .i64 (-1),.int .i64 (-1),.int .i64 0,.string ⟨#[]⟩,.string ⟨#[]⟩] 166 (0,0))] r3 (w3.setCell ⟨wn.heap.size,1,none⟩ (.int .i64 z3))):=PS.set H3 1 (.int .i64 z3))
   | ((with_reducible refine (qbb S3 _ _ jk T3).mono ?_);rintro e w4 (⟨c9,a9,rfl,HP⟩ | ⟨r4,rfl,T4,H4⟩);rotate_left;obtain⟨n0,n1,n2,n3,n4,n5,n6,n7,u0,u1,u2,u3,u5,u6,u7,hkl⟩:=PS.node H4)
   | (go_at_call 168;(refine (play H4 _ _ _ _ _ _ _ _ T4).mono ?_);rintro e w5 (⟨c9,a9,rfl,HP⟩ | ⟨z5,rfl,HP⟩))
   | ((with_reducible refine (qaG _ _).mono ?_);rintro e wn ⟨rfl,hx⟩;have HN:=PS.new (PS.ext H2 hx) (.cells #[.int .i64 (callF ts),.int .i64 (-1),.int .i64 (-1),.int .i64 (-1),.int .i64 (-1),.int .i64 0,.string ⟨#[]⟩,.string ⟨#[]⟩] 166 (0,0));clear hx)
   | ((with_reducible refine (qaG _ _).mono ?_);rintro e _ ⟨rfl,d3,os3,rfl⟩)
   | (go_at_call 233;(refine (pend HY (fun nv m N hs q hq=>HW.out nv m N _ hs q hq) T0).mono ?_);rintro e w9 (⟨c9,a9,rfl,HP⟩ | ⟨z9,rfl,HP⟩))
   | (go_at_call 168;(refine (play (PS.ext HY zq) _ _ _ _ _ _ _ _ T0).mono ?_);rintro e w9 (⟨c9,a9,rfl,HP⟩ | ⟨z9,rfl,HP⟩))
   | (go_at_call 168;(refine (play (PS.ext H1 zq) _ _ _ _ _ _ _ _ T0).mono ?_);rintro e w9 (⟨c9,a9,rfl,HP⟩ | ⟨z9,rfl,HP⟩))
   | (go_at_call 133;(refine (pfail (PS.ext H0 zq) _ T0).mono ?_);rintro e w9 ⟨c9,a9,rfl,HP⟩))
  all_goals first | exact⟨rfl,HP.out⟩ | (go_ret;exact HP.out)
def on_cases {d:Nat} {e1 o1:PM Int} {k i a:Int} {r:PR Int} {ts:ByteArray} {n:Nat} (ht:tk L m=(⟨k,ts,i⟩,a)) (hn:(tk L m).1.k≠0->m+1<L.length) (hr:oneP L d e1 o1 m n=r) :
  (k=2/\m+1<L.length/\r=rb n (.ok ((),m+1,[])) (layP L { nd 2 with i:=i }))\/(k=3/\m+1<L.length/\r=rb n (.ok ((),m+1,[])) (layP L { nd 3 with s:=ts }))\/(k=1/\m+1<L.length/\r=rb n (.ok ((),m+1,[])) (layP L { nd 4 with s:=ts })) \/
  (k=4/\r=rb n (.ok ((),m,[])) (qbk L d e1 o1))\/(k=5/\r=rb n (.ok ((),m,[])) (qbj L d e1 o1))\/((k==2)=false/\(k==3)=false/\(k==1)=false/\(k==4)=false/\(k==5)=false/\r=rb n (.ok ((),m,[])) (pno L 3)):=by
 unfold oneP at hr;rw[ht] at hr hn;dsimp only at hr hn;by_cases e2:k=2
 . rw[if_pos e2] at hr;exact .inl ⟨e2,hn Y,hr.symm⟩
 by_cases e3:k=3
 . rw[if_neg e2,if_pos e3] at hr;exact .inr (.inl ⟨e3,hn Y,hr.symm⟩)
 by_cases e1':k=1
 . rw[if_neg e2,if_neg e3,if_pos e1'] at hr;exact .inr (.inr (.inl ⟨e1',hn Y,hr.symm⟩))
 by_cases e4:k=4
 . rw[if_neg e2,if_neg e3,if_neg e1',if_pos e4] at hr;exact .inr (.inr (.inr (.inl ⟨e4,rb_begin hr⟩)))
 by_cases e5:k=5
 . rw[if_neg e2,if_neg e3,if_neg e1',if_neg e4,if_pos e5] at hr;exact .inr (.inr (.inr (.inr (.inl ⟨e5,rb_begin hr⟩))))
 rw[if_neg e2,if_neg e3,if_neg e1',if_neg e4,if_neg e5] at hr;exact .inr (.inr (.inr (.inr (.inr ⟨by simpa using e2,by simpa using e3,by simpa using e1',by simpa using e4,by simpa using e5,rb_begin hr⟩))))
def one_any (h:St b lb lo cap nv L m N w) (d:Nat) (hd:d<=16) (e1 o1:PM Int) (ho:d<16->Dp b lb lo cap L 214 ((d:Int)+1) o1) (he:Dp b lb lo cap L 196 ((d:Int)+1) e1) (r:PR Int) (hr:oneP L d e1 o1 m N.length=r) :
  Calls prog 214 #[.pointer (some ⟨b,0,none⟩),.int .i64 (d:Int)] w (PPost intV b lb lo cap nv L m N w r):=by
 have H0:=PS.begin h;have hm:(m:Int)<=5000:=by have:=h.ends.few;have:=h.pos;omega
 have hm0:0<=(m:Int):=Y;have S:=J h;obtain⟨c0,c1,c2,c3,f1,f2,f3,hbb⟩:=h.facts;clear c0 c2 c3 f2 f3;refine yas ?_;intro HS;obtain⟨⟨⟨k,ts,i⟩,a⟩,htt⟩:∃ tt,tk L m=tt:=⟨_,rfl⟩
 have TK:Hid (∀ w1,Ext w w1->Calls prog 132 #[.pointer (some ⟨b,0,none⟩)] w1 fun e w'=>e=.returned (.agg #[.int .i64 k,.int .i64 a,.string ts,.int .i64 i])/\Ext w1 w'):=J fun w1 hx=>by have:=qci (h.ext hx);rw[htt] at this;exact this
 have SG:Hid (∀ nv w,St b lb lo cap nv L m N w->∀ r,qbk L d e1 o1 m N.length=r->Calls prog 227 #[.pointer (some ⟨b,0,none⟩),.int .i64 (d:Int)] w (PPost intV b lb lo cap nv L m N w r)):=J fun nv w h r hr=>signed_any h d hd e1 o1 ho he r hr
 have WD:Hid (k=5->∀ nv w,St b lb lo cap nv L m N w->∀ r,qbj L d e1 o1 m N.length=r->Calls prog 228 #[.pointer (some ⟨b,0,none⟩),.int .i64 (d:Int)] w (PPost intV b lb lo cap nv L m N w r)):=J fun hk nv w h r hr=>worded_any h qk d hd e1 o1 ho he r hr
 have CS:=on_cases htt h.next hr;clear h hr ho he htt;rcases CS with ⟨rfl,nx,tt⟩ | ⟨rfl,nx,tt⟩ | ⟨rfl,nx,tt⟩ | ⟨rfl,tt⟩ | ⟨rfl,tt⟩ | ⟨q2,q3,q1,q4,q5,tt⟩
 all_goals
  have T0:=J tt
  try have H1:=HS.out nx
  clear tt
  try clear nx
  go_enter func214,ntmps214
  go_wp2_with (first
   | ((with_reducible refine (TK.out _ zq).mono ?_);rintro e _ ⟨rfl,d2,os2,rfl⟩)
   | ((with_reducible refine (qaG _ _).mono ?_);rintro e _ ⟨rfl,d3,os3,rfl⟩)
   | (go_at_call 168;(refine (play (PS.ext H1 zq) _ _ _ _ _ _ _ _ T0).mono ?_);rintro e w9 (⟨c9,a9,rfl,HP⟩ | ⟨z9,rfl,HP⟩))
   | (go_at_call 227;(refine (pend1 (PS.ext H0 zq) (fun nv hs q hq=>SG.out nv _ hs q hq) T0).mono ?_);rintro e w9 (⟨c9,a9,rfl,HP⟩ | ⟨z9,rfl,HP⟩))
   | (go_at_call 228;(refine (pend1 (PS.ext H0 zq) (fun nv hs q hq=>WD.out zy nv _ hs q hq) T0).mono ?_);rintro e w9 (⟨c9,a9,rfl,HP⟩ | ⟨z9,rfl,HP⟩))
   | (go_at_call 133;(refine (pfail (PS.ext H0 zq) _ T0).mono ?_);rintro e w9 ⟨c9,a9,rfl,HP⟩))
  all_goals first | exact⟨rfl,HP.out⟩ | (go_ret;exact HP.out)
variable {b lb lo cap m:Nat} {nv:Value} {L:Toks} {N:List Nd} {w:World}
def st_cases {ex br:PM Int} {k i a:Int} {r:PR Int} {ts:ByteArray} {n:Nat} (ht:tk L m=(⟨k,ts,i⟩,a)) (hr:stmtP L ex br m n=r) :
  ((k==5)=false/\r=rb n (.ok ((),m,[])) (pok (-1)))\/(k=5/\∃ q1 q2 q3 q4 q5 q6 q7 q8 q9:Bool,(ts.toList==[108,101,116])=q1/\(ts.toList==[115,101,116])=q2/\(ts.toList==[112,117,116])=q3/\(ts.toList==[100,101,108,101,116,101])=q4/\(ts.toList==[97,98,111,114,116])=q5/\(ts.toList==[114,101,116,117,114,110])=q6/\(ts.toList==[105,102])=q7/\(ts.toList==[102,111,114])=q8/\(ts.toList==[114,101,112,101,97,116])=q9/\(
  (q1=true/\r=rb n (.ok ((),m,[])) (qbE L 20 ex)) \/
  (q1=false/\q2=true/\r=rb n (.ok ((),m,[])) (qbE L 21 ex)) \/
  (q1=false/\q2=false/\q3=true/\r=rb n (.ok ((),m,[])) (putP L ex)) \/
  (q1=false/\q2=false/\q3=false/\q4=true/\r=rb n (.ok ((),m,[])) (qaH L 23 ex)) \/
  (q1=false/\q2=false/\q3=false/\q4=false/\q5=true/\r=rb n (.ok ((),m,[])) (qaH L 27 ex)) \/
  (q1=false/\q2=false/\q3=false/\q4=false/\q5=false/\q6=true/\r=rb n (.ok ((),m,[])) (qaH L 28 ex)) \/
  (q1=false/\q2=false/\q3=false/\q4=false/\q5=false/\q6=false/\q7=true/\r=rb n (.ok ((),m,[])) (whenP L ex br)) \/
  (q1=false/\q2=false/\q3=false/\q4=false/\q5=false/\q6=false/\q7=false/\q8=true/\r=rb n (.ok ((),m,[])) (eachP L ex br)) \/
  (q1=false/\q2=false/\q3=false/\q4=false/\q5=false/\q6=false/\q7=false/\q8=false/\q9=true/\r=rb n (.ok ((),m+1,[])) (pbind (qbo L) fun i=>pbind br fun b=>layP L { nd 26 with i:=i,b:=b })) \/
  (q1=false/\q2=false/\q3=false/\q4=false/\q5=false/\q6=false/\q7=false/\q8=false/\q9=false/\r=rb n (.ok ((),m,[])) (pok (-1))))):=by
 unfold stmtP sIs at hr;rw[ht] at hr;dsimp only at hr;by_cases e5:k=5
 . rw[if_neg (by simp[e5])] at hr;refine .inr ⟨e5,_,_,_,_,_,_,_,_,_,rfl,rfl,rfl,rfl,rfl,rfl,rfl,rfl,rfl,?_⟩;cases q1:ts.toList==[108,101,116];rotate_left
   . rw[q1,if_pos rfl] at hr;exact .inl ⟨rfl,rb_begin hr⟩
   . rw[q1,if_neg zy] at hr;cases q2:ts.toList==[115,101,116];rotate_left
     . rw[q2,if_pos rfl] at hr;exact .inr (.inl ⟨rfl,rfl,rb_begin hr⟩)
     . rw[q2,if_neg zy] at hr;cases q3:ts.toList==[112,117,116];rotate_left
       . rw[q3,if_pos rfl] at hr;exact .inr (.inr (.inl ⟨rfl,rfl,rfl,rb_begin hr⟩))
       . rw[q3,if_neg zy] at hr;cases q4:ts.toList==[100,101,108,101,116,101];rotate_left
         . rw[q4,if_pos rfl] at hr;exact .inr (.inr (.inr (.inl ⟨rfl,rfl,rfl,rfl,rb_begin hr⟩)))
         . rw[q4,if_neg zy] at hr;cases q5:ts.toList==[97,98,111,114,116];rotate_left
           . rw[q5,if_pos rfl] at hr;exact .inr (.inr (.inr (.inr (.inl ⟨rfl,rfl,rfl,rfl,rfl,rb_begin hr⟩))))
           . rw[q5,if_neg zy] at hr;cases q6:ts.toList==[114,101,116,117,114,110];rotate_left
             . rw[q6,if_pos rfl] at hr;exact .inr (.inr (.inr (.inr (.inr (.inl ⟨rfl,rfl,rfl,rfl,rfl,rfl,rb_begin hr⟩)))))
             . rw[q6,if_neg zy] at hr;cases q7:ts.toList==[105,102];rotate_left
               . rw[q7,if_pos rfl] at hr;exact .inr (.inr (.inr (.inr (.inr (.inr (.inl ⟨rfl,rfl,rfl,rfl,rfl,rfl,rfl,rb_begin hr⟩))))))
               . rw[q7,if_neg zy] at hr;cases q8:ts.toList==[102,111,114];rotate_left
                 . rw[q8,if_pos rfl] at hr;exact .inr (.inr (.inr (.inr (.inr (.inr (.inr (.inl ⟨rfl,rfl,rfl,rfl,rfl,rfl,rfl,rfl,rb_begin hr⟩)))))))
                 . rw[q8,if_neg zy] at hr;cases q9:ts.toList==[114,101,112,101,97,116];rotate_left
                   . rw[q9,if_pos rfl] at hr;exact .inr (.inr (.inr (.inr (.inr (.inr (.inr (.inr (.inl ⟨rfl,rfl,rfl,rfl,rfl,rfl,rfl,rfl,rfl,hr.symm⟩))))))))
                   . rw[q9,if_neg zy] at hr;exact .inr (.inr (.inr (.inr (.inr (.inr (.inr (.inr (.inr (⟨rfl,rfl,rfl,rfl,rfl,rfl,rfl,rfl,rfl,rb_begin hr⟩)))))))))
 . rw[if_pos (by simpa using e5)] at hr;exact .inl ⟨by simpa using e5,rb_begin hr⟩
def stmt_any (h:St b lb lo cap nv L m N w) (d:Nat) (hd:d<=16) (ex bk:PM Int) (he:Dp b lb lo cap L 196 (d:Int) ex) (hb:Dp b lb lo cap L 111 ((d:Int)+1) bk) (r:PR Int) (hr:stmtP L ex (qaC L bk) m N.length=r) :
  Calls prog 131 #[.pointer (some ⟨b,0,none⟩),.int .i64 (d:Int)] w (PPost intV b lb lo cap nv L m N w r):=by
 have H0:=PS.begin h;have hd0:0<=(d:Int):=Y;have hd1:(d:Int)<=16:=Y;have hm:(m:Int)<=5000:=by have:=h.ends.few;have:=h.pos;omega
 have hm0:0<=(m:Int):=Y;have S:=J h;obtain⟨c0,c1,c2,c3,f1,f2,f3,hbb⟩:=h.facts;clear c0 c2 c3 f2 f3;refine yas ?_;intro HS;obtain⟨⟨⟨k,ts,i⟩,a⟩,htt⟩:∃ tt,tk L m=tt:=⟨_,rfl⟩
 have TK:Hid (∀ w1,Ext w w1->Calls prog 132 #[.pointer (some ⟨b,0,none⟩)] w1 fun e w'=>e=.returned (.agg #[.int .i64 k,.int .i64 a,.string ts,.int .i64 i])/\Ext w1 w'):=J fun w1 hx=>by have:=qci (h.ext hx);rw[htt] at this;exact this
 have C_let:Hid (k=5->(ts.toList==[108,101,116])=true->∀ nv w,St b lb lo cap nv L m N w->∀ r,(qbE L 20 ex) m N.length=r->Calls prog 161 #[.pointer (some ⟨b,0,none⟩),.int .i64 (d:Int)] w (PPost intV b lb lo cap nv L m N w r)):=J fun hk hs nv w h r hr=>names_let h qk qh _ _ he r hr
 have C_set:Hid (k=5->(ts.toList==[115,101,116])=true->∀ nv w,St b lb lo cap nv L m N w->∀ r,(qbE L 21 ex) m N.length=r->Calls prog 161 #[.pointer (some ⟨b,0,none⟩),.int .i64 (d:Int)] w (PPost intV b lb lo cap nv L m N w r)):=J fun hk hs nv w h r hr=>names_set h qk qh _ _ he r hr
 have C_put:Hid (k=5->(ts.toList==[112,117,116])=true->∀ nv w,St b lb lo cap nv L m N w->∀ r,(putP L ex) m N.length=r->Calls prog 162 #[.pointer (some ⟨b,0,none⟩),.int .i64 (d:Int)] w (PPost intV b lb lo cap nv L m N w r)):=J fun hk hs nv w h r hr=>simple_put h qk qh _ _ he r hr
 have C_delete:Hid (k=5->(ts.toList==[100,101,108,101,116,101])=true->∀ nv w,St b lb lo cap nv L m N w->∀ r,(qaH L 23 ex) m N.length=r->Calls prog 162 #[.pointer (some ⟨b,0,none⟩),.int .i64 (d:Int)] w (PPost intV b lb lo cap nv L m N w r)):=J fun hk hs nv w h r hr=>qgL h qk qh _ _ he r hr
 have C_abort:Hid (k=5->(ts.toList==[97,98,111,114,116])=true->∀ nv w,St b lb lo cap nv L m N w->∀ r,(qaH L 27 ex) m N.length=r->Calls prog 162 #[.pointer (some ⟨b,0,none⟩),.int .i64 (d:Int)] w (PPost intV b lb lo cap nv L m N w r)):=J fun hk hs nv w h r hr=>simple_abort h qk qh _ _ he r hr
 have C_return:Hid (k=5->(ts.toList==[114,101,116,117,114,110])=true->∀ nv w,St b lb lo cap nv L m N w->∀ r,(qaH L 28 ex) m N.length=r->Calls prog 162 #[.pointer (some ⟨b,0,none⟩),.int .i64 (d:Int)] w (PPost intV b lb lo cap nv L m N w r)):=J fun hk hs nv w h r hr=>qgE h qk qh _ _ he r hr
 have C_if:Hid (k=5->(ts.toList==[105,102])=true->∀ nv w,St b lb lo cap nv L m N w->∀ r,(whenP L ex (qaC L bk)) m N.length=r->Calls prog 163 #[.pointer (some ⟨b,0,none⟩),.int .i64 (d:Int)] w (PPost intV b lb lo cap nv L m N w r)):=J fun hk hs nv w h r hr=>when_any h qk qh d hd _ _ he hb r hr
 have C_for:Hid (k=5->(ts.toList==[102,111,114])=true->∀ nv w,St b lb lo cap nv L m N w->∀ r,(eachP L ex (qaC L bk)) m N.length=r->Calls prog 164 #[.pointer (some ⟨b,0,none⟩),.int .i64 (d:Int)] w (PPost intV b lb lo cap nv L m N w r)):=J fun hk hs nv w h r hr=>each_any h qk qh d hd _ _ he hb r hr
 have HB:Hid (Dp b lb lo cap L 167 ((d:Int)+1) (qaC L bk)):=J fun nv m N w h r hr=>qdK h _ bk hb r hr
 have CS:=st_cases htt hr;have NX:k=5->m+1<L.length:=fun e=>h.next (by rw[htt];dsimp only;omega)
 clear h hr he hb htt;rcases CS with ⟨q5,tt⟩ | ⟨rfl,q1,q2,q3,q4,q5,q6,q7,q8,q9,h1,h2,h3,h4,h5,h6,h7,h8,h9,⟨rfl,tt⟩ | ⟨rfl,rfl,tt⟩ | ⟨rfl,rfl,rfl,tt⟩ | ⟨rfl,rfl,rfl,rfl,tt⟩ | ⟨rfl,rfl,rfl,rfl,rfl,tt⟩ | ⟨rfl,rfl,rfl,rfl,rfl,rfl,tt⟩ | ⟨rfl,rfl,rfl,rfl,rfl,rfl,rfl,tt⟩ | ⟨rfl,rfl,rfl,rfl,rfl,rfl,rfl,rfl,tt⟩ | ⟨rfl,rfl,rfl,rfl,rfl,rfl,rfl,rfl,rfl,tt⟩ | ⟨rfl,rfl,rfl,rfl,rfl,rfl,rfl,rfl,rfl,tt⟩⟩
 all_goals
  have T0:=J tt
  try have H1:=HS.out (NX rfl)
  clear tt NX;go_enter func131,ntmps131
  go_wp2_with (first
   | ((with_reducible refine (TK.out _ zq).mono ?_);rintro e _ ⟨rfl,d2,os2,rfl⟩)
   | (go_at_call 161;(refine (pend1 (PS.ext H0 zq) (fun nv hs q hq=>C_let.out zy zo nv _ hs q hq) T0).mono ?_);rintro e w9 (⟨c9,a9,rfl,HP⟩ | ⟨z9,rfl,HP⟩))
   | (go_at_call 161;(refine (pend1 (PS.ext H0 zq) (fun nv hs q hq=>C_set.out zy zo nv _ hs q hq) T0).mono ?_);rintro e w9 (⟨c9,a9,rfl,HP⟩ | ⟨z9,rfl,HP⟩))
   | (go_at_call 162;(refine (pend1 (PS.ext H0 zq) (fun nv hs q hq=>C_put.out zy zo nv _ hs q hq) T0).mono ?_);rintro e w9 (⟨c9,a9,rfl,HP⟩ | ⟨z9,rfl,HP⟩))
   | (go_at_call 162;(refine (pend1 (PS.ext H0 zq) (fun nv hs q hq=>C_delete.out zy zo nv _ hs q hq) T0).mono ?_);rintro e w9 (⟨c9,a9,rfl,HP⟩ | ⟨z9,rfl,HP⟩))
   | (go_at_call 162;(refine (pend1 (PS.ext H0 zq) (fun nv hs q hq=>C_abort.out zy zo nv _ hs q hq) T0).mono ?_);rintro e w9 (⟨c9,a9,rfl,HP⟩ | ⟨z9,rfl,HP⟩))
   | (go_at_call 162;(refine (pend1 (PS.ext H0 zq) (fun nv hs q hq=>C_return.out zy zo nv _ hs q hq) T0).mono ?_);rintro e w9 (⟨c9,a9,rfl,HP⟩ | ⟨z9,rfl,HP⟩))
   | (go_at_call 163;(refine (pend1 (PS.ext H0 zq) (fun nv hs q hq=>C_if.out zy zo nv _ hs q hq) T0).mono ?_);rintro e w9 (⟨c9,a9,rfl,HP⟩ | ⟨z9,rfl,HP⟩))
   | (go_at_call 164;(refine (pend1 (PS.ext H0 zq) (fun nv hs q hq=>C_for.out zy zo nv _ hs q hq) T0).mono ?_);rintro e w9 (⟨c9,a9,rfl,HP⟩ | ⟨z9,rfl,HP⟩))
   | ((with_reducible refine (qaG _ _).mono ?_);rintro e wn ⟨rfl,hx⟩;have HN:=PS.new (PS.ext (PS.ext H1 zq) hx) (.cells #[.int .i64 26,.int .i64 (-1),.int .i64 (-1),.int .i64 (-1),.int .i64 (-1),.int .i64 0,.string ⟨#[]⟩,.string ⟨#[]⟩] 166 (0,0));clear hx)
   | ((with_reducible refine (pturns HN T0).mono ?_);rintro e w2 (⟨c9,a9,rfl,HP⟩ | ⟨z2,r2,rfl,T2,H2⟩);rotate_left;obtain⟨n0,n1,n2,n3,n4,n5,n6,n7,u0,u1,u2,u3,u5,u6,u7,hkl⟩:=PS.node H2;have S2:Hid (PS b lb lo cap L m N nv w [(wn.heap.size,.cells #[.int .i64 26,.int .i64 (-1),.int .i64 (-1),.int .i64 (-1),.int .i64 (-1),.int .i64 z2,.string ⟨#[]⟩,.string ⟨#[]⟩] 166 (0,0))] r2 (w2.setCell ⟨wn.heap.size,5,none⟩ (.int .i64 z2))):=PS.set H2 5 (.int .i64 z2))
   | ((with_reducible refine (pdp S2 HB.out T2).mono ?_);rintro e w3 (⟨c9,a9,rfl,HP⟩ | ⟨z3,r3,rfl,T3,H3⟩);rotate_left;obtain⟨n0,n1,n2,n3,n4,n5,n6,n7,u0,u1,u2,u3,u5,u6,u7,hkl⟩:=PS.node H3;have S3:Hid (PS b lb lo cap L m N nv w [(wn.heap.size,.cells #[.int .i64 26,.int .i64 (-1),.int .i64 z3,.int .i64 (-1),.int .i64 (-1),.int .i64 z2,.string ⟨#[]⟩,.string ⟨#[]⟩] 166 (0,0))] r3 (w3.setCell ⟨wn.heap.size,2,none⟩ (.int .i64 z3))):=PS.set H3 2 (.int .i64 z3))
   | (go_at_call 168;(refine (play S3 _ _ _ _ _ _ _ _ T3).mono ?_);rintro e w4 (⟨c9,a9,rfl,HP⟩ | ⟨z4,rfl,HP⟩)))
  all_goals first | exact⟨rfl,HP.out⟩ | (go_ret;first | exact HP.out | exact PS.fin (PS.ext H0 zq) T0)
end Go.Proofs.YtpnabjopfpdkhaaGreatDoor
