/- Lemmas. -/
import Derived.Test.YtpnabjopfpdkhaaGreatDoorY07
import Derived.Test.YtpnabjopfpdkhaaGreatDoorY45
set_option linter.all false
set_option maxHeartbeats 4000000
set_option maxRecDepth 20000
namespace Go.Proofs.YtpnabjopfpdkhaaGreatDoor
open Tryz RowKit
attribute [go_sem] more_more Array.size_append
variable {b lb lo cap m0 m:Nat} {nv nv0 nv1:Value} {L:Toks} {N N0:List Nd} {w w' w0 w1:World} {F:List (Nat × Obj)} {r:PR Unit}
def RSt (b lb lo cap:Nat) (nv:Value) (L:Toks) (m0:Nat) (N0:List Nd) (r:PR Unit) (w:World):Prop :=
 match r with
 | .error (c,a)=>c≠0/\∃ m' N',Rt b lb lo cap nv L m' N' c a w
 | .ok (_,m,ns)=>Rt b lb lo cap nv L m (N0++ns) 0 0 w/\m0<=m
def RSt.map {nv':Value} (h:RSt b lb lo cap nv L m0 N0 r w) (f:∀ m N e wh,Rt b lb lo cap nv L m N e wh w->Rt b lb lo cap nv' L m N e wh w'):RSt b lb lo cap nv' L m0 N0 r w':=by
 match r,h with
 | .error (c,a),⟨hc,m',N',h⟩=>exact⟨hc,m',N',f _ _ _ _ h⟩
 | .ok (_,m,ns),⟨h,hm⟩=>exact⟨f _ _ _ _ h,hm⟩
def RSt.rt (h:RSt b lb lo cap nv L m0 N0 r w):∃ m N e wh,Rt b lb lo cap nv L m N e wh w:=by
 match r,h with
 | .error (c,a),⟨hc,m',N',h⟩=>exact⟨_,_,_,_,h⟩
 | .ok (_,m,ns),⟨h,hm⟩=>exact⟨_,_,_,_,h⟩
def US (b lb lo cap:Nat) (L:Toks) (m0:Nat) (N0:List Nd) (nv0:Value) (w0:World) (F:List (Nat × Obj)) (r:PR Unit) (w:World):Prop :=
 ∃ nv,RSt b lb lo cap nv L m0 N0 r w/\Kp b nv0 nv w0 w/\∀ q∈F,Loc b nv q.1 q.2 w/\lb≠q.1/\w0.heap.size<=q.1
def US.ext (h:US b lb lo cap L m0 N0 nv0 w0 F r w) (hx:Ext w w'):US b lb lo cap L m0 N0 nv0 w0 F r w':=by
 obtain⟨nv,h1,h2,h3⟩:=h;exact⟨nv,h1.map fun _ _ _ _ q=>q.ext hx,h2.ext hx,fun q hq=>⟨(h3 q hq).1.ext hx,(h3 q hq).2⟩⟩
def US.new (h:US b lb lo cap L m0 N0 nv0 w0 F r w) (o:Obj):US b lb lo cap L m0 N0 nv0 w0 ((w.heap.size,o)::F) r (w.alloc o):=by
 obtain⟨nv,h1,h2,h3⟩:=h;obtain⟨m,N,e,wh,hR⟩:=h1.rt;refine ⟨nv,h1.map fun _ _ _ _ q=>q.alloc o,h2.alloc o,fun q hq=>?_⟩;rcases List.mem_cons.1 hq with rfl | hq
 . exact⟨hR.loc o,by have:=hR.low;have:=hR.lt;dsimp only;omega,h2.size⟩
 . exact⟨(h3 q hq).1.alloc o,(h3 q hq).2⟩
def US.set {k:Nat} {cs:Array Value} {t:TypeId} (h:US b lb lo cap L m0 N0 nv0 w0 [(k,.cells cs t (0,0))] r w) (i:Nat) (v:Value):US b lb lo cap L m0 N0 nv0 w0 [(k,.cells (cs.setIfInBounds i v) t (0,0))] r (w.setCell ⟨k,i,none⟩ v):=by
 obtain⟨nv,h1,h2,h3⟩:=h;obtain⟨q1,q2,q3⟩:=h3 _ List.mem_cons_self;refine ⟨nv,h1.map fun _ _ _ _ q=>q.setAny q1.ne q2 q1.nr i v,h2.setNew q3 i v,fun q hq=>?_⟩;obtain rfl:=List.mem_singleton.1 hq;exact⟨q1.set i v,q2,q3⟩
def US.kb {k:Nat} {cs:Array Value} {t:TypeId} (h:US b lb lo cap L m0 N0 nv0 w0 ((k,.cells cs t (0,0))::F) r w):KB k cs t w:=by
 obtain⟨nv,h1,h2,h3⟩:=h;exact(h3 _ List.mem_cons_self).1.is
def US.start (h:Rt b lb lo cap nv1 L (m+1) N 0 0 w) (k:Kp b nv0 nv1 w0 w):US b lb lo cap L m N nv0 w0 [] (.ok ((),m+1,[])) w :=
 ⟨nv1,⟨h.cast (List.append_nil N).symm,Nat.le_succ m⟩,k,fun q hq=>by cases hq⟩
def US.fin {res:PR Int} {v:Int} (h:US b lb lo cap L m0 N0 nv0 w0 F r w) (hr:res=rb N0.length r (pok v)):RPost intV isInt b lb lo cap nv0 L m0 N0 w0 res (.returned (.int .i64 v)) w:=by
 subst hr;obtain⟨nv,h1,h2,h3⟩:=h
 match r,h1 with
 | .error (c,a),⟨hc,m',N',h⟩=>exact RPost.err hc ⟨_,rfl⟩ h h2
 | .ok (_,m,ns),⟨h,hm⟩=>exact RPost.res rfl (h.cast (by rw[List.append_nil])) h2 hm
def UPost {α:Type} (V:Int->α->Value) (b lb lo cap:Nat) (L:Toks) (m0:Nat) (N0:List Nd) (nv0:Value) (w0:World) (F:List (Nat × Obj)) (r:PR Unit) (p:PM α) (e:Ending) (w':World):Prop :=
 ∃ (a:Int) (v:α) (r':PR Unit),e=.returned (V a v)/\(∀ (β:Type) (K:α->PM β),rb N0.length r (pbind p K)=rb N0.length r' (K v))/\US b lb lo cap L m0 N0 nv0 w0 F r' w'
def uni {α:Type} {V:Int->α->Value} {Q:Value->Prop} {fn:FuncId} {args:Array Value} {p:PM α} (pl:Nat->Int) (h:US b lb lo cap L m0 N0 nv0 w0 F r w) (hQ:∀ x,Q x->∃ a v,x=V a v)
  (live:∀ nv m N,Rt b lb lo cap nv L m N 0 0 w->∀ res,p m N.length=res->Calls prog fn args w (RPost (V (pl m)) Q b lb lo cap nv L m N w res))
  (dead:∀ nv m N ee wh,ee≠0->Rt b lb lo cap nv L m N ee wh w->r=.error (ee,wh)->Calls prog fn args w fun e w'=>(∃ a v,e=.returned (V a v))/\Ext w w') :
  Calls prog fn args w (UPost V b lb lo cap L m0 N0 nv0 w0 F r p):=by
 obtain⟨nv,h1,h2,h3⟩:=h
 match r,h1 with
 | .error (c,a),⟨hc,m',N',hR⟩ =>
  refine (dead nv m' N' c a hc hR rfl).mono fun e w' ⟨⟨a',v,he⟩,hx⟩=>⟨a',v,.error (c,a),he,fun _ _=>rfl,nv,⟨hc,m',N',hR.ext hx⟩,h2.ext hx,fun q hq=>⟨(h3 q hq).1.ext hx,(h3 q hq).2⟩⟩
 | .ok (_,m,ns),⟨hR,hm⟩ =>
  refine (live nv m (N0++ns) hR _ rfl).mono fun e w' hp=>?_
  have hl:(N0++ns).length=N0.length+ns.length:=List.length_append;rw[hl] at hp
  cases hq:p m (N0.length+ns.length) with
  | error e1 =>
   obtain⟨c,a⟩:=e1;rw[hq] at hp;obtain⟨hc,⟨x,he,hx⟩,nv',m',N',hR',hk'⟩:=hp;obtain⟨a',v,rfl⟩:=hQ x hx
   refine ⟨a',v,.error (c,a),he,fun β K=>?_,nv',⟨hc,m',N',hR'⟩,h2.trans hk',fun q hq=>⟨(h3 q hq).1.kp hk',(h3 q hq).2⟩⟩;simp only[rb,qap hq];rfl
  | ok q1 =>
   obtain⟨v,m',ns'⟩:=q1;rw[hq] at hp;obtain⟨he,nv',hR',hk',hm'⟩:=hp;refine ⟨pl m,v,.ok ((),m',ns++ns'),he,fun β K=>?_,nv',⟨hR'.cast (List.append_assoc _ _ _),Nat.le_trans hm hm'⟩,h2.trans hk',fun q hq=>⟨(h3 q hq).1.kp hk',(h3 q hq).2⟩⟩;simp only[rb,qai hq,qbT,List.length_append,Nat.add_assoc]
def uneed (h:US b lb lo cap L m0 N0 nv0 w0 F r w) (s:ByteArray) (hs:(s.size:Int)<=100):Calls prog 181 #[.pointer (some ⟨b,0,none⟩),.string s] w fun e w'=>∃ r',e=.returned (.tuple #[])/\KB' N0.length r (must1 L s) r' ()/\US b lb lo cap L m0 N0 nv0 w0 F r' w' :=
 (uni (V:=fun _=>unitV) (p:=must1 L s) (fun _=>0) h (fun x hx=>⟨0,(),hx⟩) (fun nv m N hR res hres=>qhb hR s hs res hres) (fun nv m N ee wh he hR _=>(qdg he hR s hs).mono fun e w' ⟨q,hx⟩=>⟨⟨0,(),q⟩,hx⟩)).mono fun e w' ⟨_,_,r',q1,q2,q3⟩=>⟨r',q1,q2,q3⟩
def ukind (h:US b lb lo cap L m0 N0 nv0 w0 F r w) (k:Int) (h0:k≠0):Calls prog 179 #[.pointer (some ⟨b,0,none⟩),.int .i64 k] w fun e w'=>∃ (a:Int) (k':Int) (s:ByteArray) (i:Int) (r':PR Unit),e=.returned (.agg #[.int .i64 k',.int .i64 a,.string s,.int .i64 i])/\KB' N0.length r (ofP L k) r' ⟨k',s,i⟩/\US b lb lo cap L m0 N0 nv0 w0 F r' w' :=
 (uni (V:=fun a t=>tokV t a) (p:=ofP L k) (fun m=>(tk L m).2) h (fun x ⟨k,a,s,i,hx⟩=>⟨a,⟨k,s,i⟩,hx⟩) (fun nv m N hR res hres=>qgk hR k h0 res hres) (fun nv m N ee wh he hR _=>(qfv he hR k).mono fun e w' ⟨q,hx⟩=>⟨⟨0,tok0,q⟩,hx⟩)).mono fun e w' ⟨a,t,r',q1,q2,q3⟩=>⟨a,t.k,t.s,t.i,r',q1,q2,q3⟩
def rtake_any {b lb lo cap:Nat} {nv:Value} {L:Toks} {m:Nat} {N:List Nd} {w:World} (h:Rt b lb lo cap nv L m N 0 0 w) (s:ByteArray) (hs:(s.size:Int)<=100) (r:PR Bool) (hr:takesP L s m N.length=r) :
  Calls prog 185 #[.pointer (some ⟨b,0,none⟩),.string s] w (RPost (fun x=>.bool x) (fun v=>v=.bool false) b lb lo cap nv L m N w r):=by
 unfold takesP at hr;cases hp:isP L s m
 . rw[hp,if_neg zy] at hr;subst hr;exact(take_no h s hs hp).mono fun e w' ⟨he,hx⟩=>RPost.res he ((h.ext hx).cast (List.append_nil N).symm) ((Kp.refl b nv w).ext hx) (Nat.le_refl _)
 . rw[hp,if_pos rfl] at hr;subst hr;exact(qgt h s hs hp).mono fun e w' ⟨he,hs,hk⟩=>RPost.res he (hs.cast (List.append_nil N).symm) hk (Nat.le_succ _)
def utake (h:US b lb lo cap L m0 N0 nv0 w0 F r w) (s:ByteArray) (hs:(s.size:Int)<=100):Calls prog 185 #[.pointer (some ⟨b,0,none⟩),.string s] w fun e w'=>∃ (x:Bool) (r':PR Unit),e=.returned (.bool x)/\KB' N0.length r (takesP L s) r' x/\US b lb lo cap L m0 N0 nv0 w0 F r' w' :=
 (uni (V:=fun _ x=>.bool x) (p:=takesP L s) (fun _=>0) h (fun x hx=>⟨0,false,hx⟩) (fun nv m N hR res hres=>rtake_any hR s hs res hres) (fun nv m N ee wh he hR _=>(qfj he hR s hs).mono fun e w' ⟨q,hx⟩=>⟨⟨0,false,q⟩,hx⟩)).mono fun e w' ⟨_,v,r',q1,q2,q3⟩=>⟨v,r',q1,q2,q3⟩
def uturns (h:US b lb lo cap L m0 N0 nv0 w0 F r w):Calls prog 186 #[.pointer (some ⟨b,0,none⟩)] w fun e w'=>∃ (z:Int) (r':PR Unit),e=.returned (.int .i64 z)/\KB' N0.length r (qbo L) r' z/\US b lb lo cap L m0 N0 nv0 w0 F r' w' :=
 (uni (V:=fun _=>intV) (p:=qbo L) (fun _=>0) h (fun x ⟨z,hx⟩=>⟨0,z,hx⟩) (fun nv m N hR res hres=>rturns_any hR res hres) (fun nv m N ee wh he hR _=>(rturns_dead he hR).mono fun e w' ⟨q,hx⟩=>⟨⟨0,0,q⟩,hx⟩)).mono fun e w' ⟨_,v,r',q1,q2,q3⟩=>⟨v,r',q1,q2,q3⟩
def uexpr (h:US b lb lo cap L m0 N0 nv0 w0 F r w) {d:Int} {p:PM Int} (he:RDp b lb lo cap L 182 d p):Calls prog 182 #[.pointer (some ⟨b,0,none⟩),.int .i64 d] w fun e w'=>∃ (z:Int) (r':PR Unit),e=.returned (.int .i64 z)/\KB' N0.length r p r' z/\US b lb lo cap L m0 N0 nv0 w0 F r' w' :=
 (uni (V:=fun _=>intV) (p:=p) (fun _=>0) h (fun x ⟨z,hx⟩=>⟨0,z,hx⟩) (fun nv m N hR res hres=>he nv m N w hR res hres) (fun nv m N ee wh hee hR _=>(rexpr_dead hee hR d).mono fun e w' ⟨q,hx⟩=>⟨⟨0,-1,q⟩,hx⟩)).mono fun e w' ⟨_,v,r',q1,q2,q3⟩=>⟨v,r',q1,q2,q3⟩
def ulay (h:US b lb lo cap L m0 N0 nv0 w0 F r w) (zk za zb zc zx zi:Int) (zs zt:ByteArray):Calls prog 183 #[.pointer (some ⟨b,0,none⟩),.agg #[.int .i64 zk,.int .i64 za,.int .i64 zb,.int .i64 zc,.int .i64 zx,.int .i64 zi,.string zs,.string zt]] w fun e w'=>∃ (z:Int) (r':PR Unit),e=.returned (.int .i64 z)/\KB' N0.length r (layP L ⟨zk,za,zb,zc,zx,zi,zs,zt⟩) r' z/\US b lb lo cap L m0 N0 nv0 w0 F r' w' :=
 (uni (V:=fun _=>intV) (p:=layP L ⟨zk,za,zb,zc,zx,zi,zs,zt⟩) (fun _=>0) h (fun x ⟨z,hx⟩=>⟨0,z,hx⟩) (fun nv m N hR res hres=>qgr hR zk za zb zc zx zi zs zt res hres) (fun nv m N ee wh hee hR _=>(qeY hee hR zk za zb zc zx zi zs zt).mono fun e w' ⟨q,hx⟩=>⟨⟨0,-1,q⟩,hx⟩)).mono fun e w' ⟨_,v,r',q1,q2,q3⟩=>⟨v,r',q1,q2,q3⟩
def US.begin (h:Rt b lb lo cap nv0 L m N 0 0 w):US b lb lo cap L m N nv0 w [] (.ok ((),m,[])) w :=
 ⟨nv0,⟨h.cast (List.append_nil N).symm,Nat.le_refl m⟩,Kp.refl b nv0 w,fun q hq=>by cases hq⟩
def US.e (h:US b lb lo cap L m0 N0 nv0 w0 F r w):b<w.heap.size/\∃ e:Int,w.cell? ⟨b,3,none⟩=some (.int .i64 e)/\((e=0/\∃ q,r=.ok q)\/((e==0)=false/\∃ c,r=.error c)):=by
 obtain⟨nv,h1,h2,h3⟩:=h
 match r,h1 with
 | .error (c,a),⟨hc,m',N',hR⟩=>exact⟨hR.lt,c,hR.facts.2.2.2.1,.inr ⟨by simpa using hc,_,rfl⟩⟩
 | .ok q,⟨hR,hm⟩=>exact⟨hR.lt,0,hR.facts.2.2.2.1,.inl ⟨rfl,_,rfl⟩⟩
def US.err {q:Int × Int} (h:US b lb lo cap L m0 N0 nv0 w0 F (.error q) w):b<w.heap.size/\∃ e:Int,w.cell? ⟨b,3,none⟩=some (.int .i64 e)/\(e==0)=false:=by
 obtain⟨hb,e,ce,⟨_,p,hp⟩ | ⟨he,_⟩⟩:=h.e
 . cases hp
 . exact⟨hb,e,ce,he⟩
def ufail (h:US b lb lo cap L m0 N0 nv0 w0 F r w) (c:Int) (hc:c≠0):Calls prog 119 #[.pointer (some ⟨b,0,none⟩),.int .i64 c] w fun e w'=>∃ q,e=.returned (.tuple #[])/\KB' N0.length r (pno L c) (.error q) ()/\US b lb lo cap L m0 N0 nv0 w0 F (.error q) w':=by
 obtain⟨nv,h1,h2,h3⟩:=h
 match r,h1 with
 | .error (c1,a),⟨hc1,m',N',hR⟩ =>
  exact(qbn hc1 hR c).mono fun e w' ⟨he,hx⟩=>⟨(c1,a),he,fun _ _=>rfl,nv,⟨hc1,m',N',hR.ext hx⟩,h2.ext hx,fun q hq=>⟨(h3 q hq).1.ext hx,(h3 q hq).2⟩⟩
 | .ok (_,m,ns),⟨hR,hm⟩ =>
  exact(qbI hR c hc).mono fun e w' ⟨he,hs,hk⟩=>⟨(c,(tk L m).2),he,fun _ _=>rfl,nv,⟨hc,m,_,hs⟩,h2.trans hk,fun q hq=>⟨(h3 q hq).1.kp hk,(h3 q hq).2⟩⟩
def uone {q:Unit × Nat × List Nd} (h:US b lb lo cap L m0 N0 nv0 w0 F (.ok q) w) {fn:FuncId} {d:Int} {p:PM Int} (he:RDp b lb lo cap L fn d p):Calls prog fn #[.pointer (some ⟨b,0,none⟩),.int .i64 d] w fun e w'=>∃ (z:Int) (r':PR Unit),e=.returned (.int .i64 z)/\KB' N0.length (.ok q) p r' z/\US b lb lo cap L m0 N0 nv0 w0 F r' w' :=
 (uni (V:=fun _=>intV) (p:=p) (fun _=>0) h (fun x ⟨z,hx⟩=>⟨0,z,hx⟩) (fun nv m N hR res hres=>he nv m N w hR res hres) (fun nv m N ee wh hee hR hr=>by cases hr)).mono fun e w' ⟨_,v,r',q1,q2,q3⟩=>⟨v,r',q1,q2,q3⟩
variable {b lb lo cap m:Nat} {nv:Value} {L:Toks} {N:List Nd} {w:World}
def cK (L:Toks) (e1:PM Int) (k:Int):PM Int:=pbind (must1 L sOpen) fun _=>pbind e1 fun a=>pbind (must1 L sShut) fun _=>layP L { nd k with a:=a }
def mC (L:Toks) (e1:PM Int):Nat->PM Int
 | 0=>pno L 3
 | 1=>pbind (takesP L sShow) fun x=>if x=true then cK L e1 8 else mC L e1 0
 | 2=>pbind (takesP L sLen) fun x=>if x=true then cK L e1 7 else mC L e1 1
 | 3=>pbind (takesP L sHas) fun x=>if x=true then cK L e1 6 else mC L e1 2
 | n+4=>pbind (takesP L sGet) fun x=>if x=true then cK L e1 5 else mC L e1 (n+3)
def mW (L:Toks) (d:Nat) (e1 o1:PM Int):Nat->PM Int
 | 0=>mC L e1 4
 | 1=>pbind (takesP L sMinus) fun x=>if x=true then qaX L 10 d o1 else mW L d e1 o1 0
 | n+2=>pbind (takesP L sNot) fun x=>if x=true then qaX L 9 d o1 else mW L d e1 o1 (n+1)
def moreK (L:Toks) (d:Nat) (e1 o1:PM Int):PM Int:=pbind (takesP L sOpen) fun x=>if x=true then pbind e1 fun a=>pbind (must1 L sShut) fun _=>pok a else mW L d e1 o1 2
def more_eq (d:Nat) (e1 o1:PM Int) (m n:Nat):moreP L d e1 o1 m n=moreK L d e1 o1 m n:=by
 unfold moreP moreK;cases h0:isP L sOpen m
 . rw[qbu _ _ h0];unfold mW;cases h1:isP L sNot m
   . rw[qbu _ _ h1];unfold mW;cases h2:isP L sMinus m
     . rw[qbu _ _ h2];unfold mW mC;cases g0:isP L sGet m
       . rw[qbu _ _ g0];unfold mC;cases g1:isP L sHas m
         . rw[qbu _ _ g1];unfold mC;cases g2:isP L sLen m
           . rw[qbu _ _ g2];unfold mC;cases g3:isP L sShow m
             . rw[qbu _ _ g3];rfl
             . rw[qbx _ _ g3];rfl
           . rw[qbx _ _ g2];rfl
         . rw[qbx _ _ g1];rfl
       . rw[qbx _ _ g0];rfl
     . rw[qbx _ _ h2];rfl
   . rw[qbx _ _ h1];rfl
 . rw[qbx _ _ h0];rfl
def wi_split {w':World} {k:Int} {d:Nat} {o1 Q:PM Int} {x:Bool} {q:PR Unit} {r:PR Int} (hd:d<=16) (h:US b lb lo cap L m N nv w [] q w') (t:r=rb N.length q (if x=true then qaX L k d o1 else Q)) :
  b<w'.heap.size/\∃ e:Int,w'.cell? ⟨b,3,none⟩=some (.int .i64 e)/\((x=false/\r=rb N.length q Q)\/(x=true/\d=16/\r=rb N.length q (pbind (pno L 14) fun _:Unit=>pok (-1)))\/(x=true/\(d:Int)<=15/\e=0/\∃ p,q=.ok p/\r=rb N.length (.ok p) (pbind o1 fun a=>layP L { nd k with a:=a }))\/(x=true/\(d:Int)<=15/\(e==0)=false/\r=rb N.length q (pok (-1)))):=by
 obtain⟨hb,e,ce,he⟩:=h.e;refine ⟨hb,e,ce,?_⟩;cases x
 . exact .inl ⟨rfl,t⟩
 . rw[if_pos rfl,qaX] at t;by_cases h6:d=16
   . rw[deep_no Y] at t;exact .inr (.inl ⟨rfl,h6,t.trans (by cases q<;>rfl)⟩)
   . rw[deep_ok Y] at t;rcases he with ⟨rfl,p,rfl⟩ | ⟨he,c,rfl⟩
     . exact .inr (.inr (.inl ⟨rfl,Y,rfl,p,rfl,t⟩))
     . exact .inr (.inr (.inr ⟨rfl,Y,he,t⟩))
def more_any (h:Rt b lb lo cap nv L m N 0 0 w) (d:Nat) (hd:d<=16) (e1 o1:PM Int) (he:RDp b lb lo cap L 182 ((d:Int)+1) e1) (ho:d<16->RDp b lb lo cap L 225 ((d:Int)+1) o1) (r:PR Int) (hr:moreP L d e1 o1 m N.length=r) :
  Calls prog 231 #[.pointer (some ⟨b,0,none⟩),.int .i64 (d:Int)] w (RPost intV isInt b lb lo cap nv L m N w r):=by
 have hd0:0<=(d:Int):=Y;have hd1:(d:Int)<=16:=Y;have HE:=J he;have H0:=J (US.begin h);have T0:Hid (r=rb N.length (.ok ((),m,[])) (moreK L d e1 o1)):=J (by rw[<-hr,more_eq];exact(qaF _).symm);clear h he hr;go_enter func231,ntmps231
 go_wp2_with (first
   | ((with_reducible refine (utake H0.out _ zw).mono ?_);rintro e w1 ⟨x1,r1,rfl,hK,h1⟩;have T1:=J (hK.go T0.out);have H1:=J h1;clear hK h1;cases x1<;>simp only[Bool.false_eq_true,if_false,if_true] at T1)
   | ((with_reducible refine (uexpr H1.out HE.out).mono ?_);rintro e w2 ⟨z2,r2,rfl,hK,h2⟩;have T2:=J (hK.go T1.out);have H2:=J h2;clear hK h2)
   | ((with_reducible refine (uneed H2.out _ zw).mono ?_);rintro e w3 ⟨r3,rfl,hK,h3⟩;have T3:=J (hK.go T2.out);have H3:=J h3;clear hK h3))
 . go_loopg [6] (2) (fun g x wr=>∃ (z:Int) (k:Nat) (q:PR Unit),x=.int .i64 z/\((z=2/\k=0)\/(z=0/\k=2)\/(z=1/\k=1))/\2<=z+g/\US b lb lo cap L m N nv w [] q wr/\r=rb N.length q (mW L d e1 o1 k))
   case atStart=>exact⟨0,2,_,rfl,.inr (.inl ⟨rfl,rfl⟩),Y,H1.out,T1.out⟩
   obtain⟨z,k,q,rfl,hz,hg,hq,ht⟩:=hrel;have HQ:=J hq;have TQ:=J ht;have HG:=J hg;clear hg hq ht;rcases hz with ⟨rfl,rfl⟩ | ⟨rfl,rfl⟩ | ⟨rfl,rfl⟩
   . go_wp2_with fail
     go_loopg [7] (4) (fun g x wr=>∃ (z:Int) (k:Nat) (q:PR Unit),x=.int .i64 z/\((z=4/\k=0)\/(z=0/\k=4)\/(z=1/\k=3)\/(z=2/\k=2)\/(z=3/\k=1))/\4<=z+g/\US b lb lo cap L m N nv w [] q wr/\r=rb N.length q (mC L e1 k))
     case atStart=>exact⟨0,4,_,rfl,.inr (.inl ⟨rfl,rfl⟩),Y,HQ.out,TQ.out⟩
     clear HG TQ HQ;obtain⟨z,k,q,rfl,hz,hg,hq,ht⟩:=hrel;have HQ:=J hq;have TQ:=J ht;have HG:=J hg;clear hg hq ht;rcases hz with ⟨rfl,rfl⟩ | ⟨rfl,rfl⟩ | ⟨rfl,rfl⟩ | ⟨rfl,rfl⟩ | ⟨rfl,rfl⟩
     . go_wp2_with ((with_reducible refine (ufail HQ.out 3 zw).mono ?_);rintro e w8 ⟨q8,rfl,hK,h8⟩;have T8:=J (hK.go (TQ.out.trans (congrArg _ (pno_bind 3 (fun _=>pok (-1))))));have H8:=J h8;clear hK h8)
       go_ret;exact US.fin H8.out T8.out
     all_goals
      go_wp2_with (first
     | ((with_reducible refine (utake (HQ.out.ext zq) _ zw).mono ?_);rintro e w4 ⟨x4,r4,rfl,hK,h4⟩;have T4:=J (hK.go TQ.out);have H4:=J h4;clear hK h4;cases x4<;>simp only[Bool.false_eq_true,if_false,if_true] at T4)
     | ((with_reducible refine (uneed H4.out _ zw).mono ?_);rintro e w5 ⟨r5,rfl,hK,h5⟩;have T5:=J (hK.go T4.out);have H5:=J h5;clear hK h5)
     | ((with_reducible refine (uexpr H5.out HE.out).mono ?_);rintro e w6 ⟨z6,r6,rfl,hK,h6⟩;have T6:=J (hK.go T5.out);have H6:=J h6;clear hK h6)
     | ((with_reducible refine (uneed H6.out _ zw).mono ?_);rintro e w7 ⟨r7,rfl,hK,h7⟩;have T7:=J (hK.go T6.out);have H7:=J h7;clear hK h7)
     | ((with_reducible refine (qcx _ _ _ _).mono ?_);rintro e wn ⟨rfl,hx⟩;have HN:=J (H7.out.ext hx);clear hx)
     | ((with_reducible refine (ulay HN.out _ _ _ _ _ _ _ _).mono ?_);rintro e w8 ⟨z8,r8,rfl,hK,h8⟩;have T8:=J (hK.go (T7.out.trans (congrArg _ (qel L _))));have H8:=J h8;clear hK h8))
      . obtain⟨g0,rfl⟩:∃ g0,gk=g0+1:=⟨gk-1,by have:=HG.out;omega⟩
        go_roundg g0
        case measure=>omega
        case rel=>exact⟨_,_,_,by go_num,zw,by have:=HG.out;omega,H4.out,T4.out⟩
      . go_ret;exact US.fin H8.out T8.out
   all_goals
    go_wp2_with (first
    | ((with_reducible refine (utake (HQ.out.ext zq) _ zw).mono ?_);rintro e w4 ⟨x4,r4,rfl,hK,h4⟩;have T4:=J (hK.go TQ.out);have H4:=J h4;clear hK h4;obtain⟨hbb,ee,ce,⟨rfl,t4⟩ | ⟨rfl,rfl,t4⟩ | ⟨rfl,hd9,rfl,qq,rfl,t4⟩ | ⟨rfl,hd9,hee,t4⟩⟩:=wi_split hd H4.out T4.out;all_goals (clear T4;have T4:=J t4;clear t4))
    | ((with_reducible refine (ufail H4.out 14 zw).mono ?_);rintro e w5 ⟨q5,rfl,hK,h5⟩;have T5:=J (hK.go T4.out);obtain⟨hbc,ef,cf,hef⟩:=h5.err;have H5:=J h5;clear hK h5)
    | ((with_reducible refine (uone H4.out (ho Y)).mono ?_);rintro e w6 ⟨z6,r6,rfl,hK,h6⟩;have T6:=J (hK.go T4.out);have H6:=J h6;clear hK h6)
    | ((with_reducible refine (qcx _ _ _ _).mono ?_);rintro e wn ⟨rfl,hx⟩;have HN:=J (H6.out.ext hx);clear hx)
    | ((with_reducible refine (ulay HN.out _ _ _ _ _ _ _ _).mono ?_);rintro e w7 ⟨z7,r7,rfl,hK,h7⟩;have T7:=J (hK.go (T6.out.trans (congrArg _ (qel L _))));have H7:=J h7;clear hK h7))
    . obtain⟨g0,rfl⟩:∃ g0,gk=g0+1:=⟨gk-1,by have:=HG.out;omega⟩
      go_roundg g0
      case measure=>omega
      case rel=>exact⟨_,_,_,by go_num,zw,by have:=HG.out;omega,H4.out,T4.out⟩
    . go_ret;exact US.fin H5.out T5.out
    . go_ret;exact US.fin H7.out T7.out
    . go_ret;exact US.fin H4.out T4.out
 . go_ret;exact US.fin H3.out T3.out
variable {b lb lo cap m:Nat} {nv:Value} {L:Toks} {N:List Nd} {w:World}
def wb_true:wordB sTrue=true:=by kernel_rfl
def wb_false:wordB sFalse=true:=by kernel_rfl
def tl_true:sTrue.toList=[116,114,117,101]:=by kernel_rfl
def tl_false:sFalse.toList=[102,97,108,115,101]:=by kernel_rfl
def one_cases {d:Nat} {e1 o1:PM Int} {k i a:Int} {r:PR Int} {ts:ByteArray} {n:Nat} (ht:tk L m=(⟨k,ts,i⟩,a)) (hn:(tk L m).1.k≠0->m+1<L.length) (hr:oneP L d e1 o1 m n=r) :
  (k=2/\m+1<L.length/\r=rb n (.ok ((),m+1,[])) (layP L { nd 2 with i:=i }))\/(k=3/\m+1<L.length/\r=rb n (.ok ((),m+1,[])) (layP L { nd 3 with s:=ts }))\/(k=1/\m+1<L.length/\r=rb n (.ok ((),m+1,[])) (layP L { nd 4 with s:=ts })) \/
  ((k==2)=false/\(k==3)=false/\(k==1)=false/\((isP L ⟨#[110,105,108]⟩ m=true/\m+1<L.length/\r=rb n (.ok ((),m+1,[])) (layP L (nd 0)))\/(isP L ⟨#[110,105,108]⟩ m=false/\isP L ⟨#[116,114,117,101]⟩ m=true/\(ts.toList==[116,114,117,101])=true/\m+1<L.length/\r=rb n (.ok ((),m+1,[])) (layP L { nd 1 with i:=1 })) \/
   (isP L ⟨#[110,105,108]⟩ m=false/\isP L ⟨#[116,114,117,101]⟩ m=false/\isP L ⟨#[102,97,108,115,101]⟩ m=true/\(ts.toList==[116,114,117,101])=false/\m+1<L.length/\r=rb n (.ok ((),m+1,[])) (layP L (nd 1)))\/(isP L ⟨#[110,105,108]⟩ m=false/\isP L ⟨#[116,114,117,101]⟩ m=false/\isP L ⟨#[102,97,108,115,101]⟩ m=false/\r=rb n (.ok ((),m,[])) (pbind (moreP L d e1 o1) pok)))):=by
 have hts:∀ s,wordB s=true->isP L s m=true->ts.toList=s.toList:=fun s hw hp=>by rw[isP_w hw,ht] at hp;simp only[Bool.and_eq_true,beq_iff_eq] at hp;exact hp.2
 have hk:(tk L m).1.k=k:=by rw[ht]
 by_cases e2:k=2
 . unfold oneP at hr;rw[if_pos (hk.trans e2),ht] at hr;exact .inl ⟨e2,hn Y,hr.symm⟩
 by_cases e3:k=3
 . unfold oneP at hr;rw[if_neg Y,if_pos (hk.trans e3),ht] at hr;exact .inr (.inl ⟨e3,hn Y,hr.symm⟩)
 by_cases e1':k=1
 . unfold oneP at hr;rw[if_neg Y,if_neg Y,if_pos (hk.trans e1'),ht] at hr;exact .inr (.inr (.inl ⟨e1',hn Y,hr.symm⟩))
 rw[one_eq d e1 o1 m n Y Y Y] at hr;refine .inr (.inr (.inr ⟨by simpa using e2,by simpa using e3,by simpa using e1',?_⟩));cases p1:isP L sNil m
 . rw[p1,if_neg zy] at hr;cases p2:isP L sTrue m
   . rw[p2,if_neg zy] at hr;cases p3:isP L sFalse m
     . rw[p3,if_neg zy] at hr;exact .inr (.inr (.inr ⟨p1,p2,p3,by rw[<-hr,qfC];exact(qaF _).symm⟩))
     . rw[p3,if_pos rfl] at hr;exact .inr (.inr (.inl ⟨p1,p2,p3,by rw[hts _ wb_false p3,tl_false];decide,hn (qeU p3),hr.symm⟩))
   . rw[p2,if_pos rfl] at hr;exact .inr (.inl ⟨p1,p2,by rw[hts _ wb_true p2,tl_true];decide,hn (qeU p2),hr.symm⟩)
 . rw[p1,if_pos rfl] at hr;exact .inl ⟨p1,hn (qeU p1),hr.symm⟩
def rone_any (h:Rt b lb lo cap nv L m N 0 0 w) (d:Nat) (hd:d<=16) (e1 o1:PM Int) (he:RDp b lb lo cap L 182 ((d:Int)+1) e1) (ho:d<16->RDp b lb lo cap L 225 ((d:Int)+1) o1) (r:PR Int) (hr:oneP L d e1 o1 m N.length=r) :
  Calls prog 225 #[.pointer (some ⟨b,0,none⟩),.int .i64 (d:Int)] w (RPost intV isInt b lb lo cap nv L m N w r):=by
 obtain⟨c0,c1,c2,c3,c4,f1,f2,f3,f4,hb⟩:=h.facts;obtain⟨t0,t1,t2,t3,hlb⟩:=h.tokFacts;have hp:(m:Int)<(L.length:Int):=by have:=h.pos;omega
 have hp0:0<=(m:Int):=Y;have hmx:(m:Int)<=5000:=by have:=h.ends.few;have:=h.pos;omega
 have hne1:lb≠b:=jh;have MA:Hid (RDp b lb lo cap L 231 (d:Int) (moreP L d e1 o1)):=J fun nv m N w h r hr=>more_any h d hd e1 o1 he ho r hr
 have S:Hid (∀ w1 s,(s.size:Int)<=100->Ext w w1->Calls prog 209 #[.pointer (some ⟨b,0,none⟩),.string s] w1 fun e w'=>e=.returned (.bool (isP L s m))/\Ext w1 w'):=J fun w1 s hs hx=>qdI (h.ext hx) s hs
 obtain⟨⟨⟨k,ts,i⟩,a⟩,htt⟩:∃ tt,tk L m=tt:=⟨_,rfl⟩
 have CS:=one_cases htt h.next hr;rw[htt] at t0 t1 t2 t3;dsimp only at t0 t1 t2 t3;have H0:=J (US.begin h);have HS:Hid (m+1<L.length->US b lb lo cap L m N nv w [] (.ok ((),m+1,[])) (w.setCell ⟨b,1,none⟩ (.int .i64 ((m:Int)+1)))):=J fun hx=>US.start (h.setAt (m+1) ((m:Int)+1) Y hx) ((Kp.refl b nv w).setB 1 _)
 clear c2 c3 c4 f2 f3 f4 htt h he ho hr;rcases CS with ⟨rfl,nx,tt⟩ | ⟨rfl,nx,tt⟩ | ⟨rfl,nx,tt⟩ | ⟨q2,q3,q1,⟨p1,nx,tt⟩ | ⟨p1,p2,qt,nx,tt⟩ | ⟨p1,p2,p3,qt,nx,tt⟩ | ⟨p1,p2,p3,tt⟩⟩
 all_goals
  have T0:=J tt
  try have H1:=J (HS.out nx)
  clear tt
  try clear nx
  go_enter func225,ntmps225;go_wp2_with fail;refine qaa 11 71 (List.replicate 11 false) zv zv rfl ?_;refine zh ?_
  iterate 10 (refine Lex.step rfl ?_;intro K hK;unfold StepG;go_simp;refine hK _ ?_;clear hK K)
  refine Lex.alloc 5 (.cells #[.int .i64 0,.int .i64 0,.string ⟨#[]⟩,.int .i64 0] 186) rfl rfl (fun d os=>?_) ?_
  . unfold StepG;go_simp;exact ja
  refine Lex.nil fun WW hE=>?_
  intro u hu;obtain⟨dt1,ot1,dt2,ot2,rfl,rfl⟩:=hu.split hE;clear hu hE;go_simp;unfold FillH;go_wp2_with fail;rw[ends_normal]
  go_wp2_with (first
   | ((with_reducible refine (qcx _ _ _ _).mono ?_);rintro e _ ⟨rfl,d3,os3,rfl⟩)
   | ((with_reducible refine (S.out _ _ zw zq).mono ?_);rintro e _ ⟨rfl,d9,os9,rfl⟩)
   | ((with_reducible refine (ulay (H1.out.ext zq) _ _ _ _ _ _ _ _).mono ?_);rintro e w2 ⟨z2,r2,rfl,hK,h2⟩;have T2:=J (hK.go (T0.out.trans (congrArg _ (qel L _))));have H2:=J h2;clear hK h2)
   | ((with_reducible refine (uone (H0.out.ext zq) MA.out).mono ?_);rintro e w2 ⟨z2,r2,rfl,hK,h2⟩;have T2:=J (hK.go T0.out);have H2:=J h2;clear hK h2))
  go_ret;exact US.fin H2.out T2.out
def RDp.cast {b lb lo cap:Nat} {L:Toks} {F:FuncId} {z z':Int} {p:PM Int} (h:RDp b lb lo cap L F z p) (e:z=z'):RDp b lb lo cap L F z' p:=e ▸ h
def qfX (b lb lo cap:Nat) (L:Toks):∀ D d:Nat,d+D=17->RDp b lb lo cap L 182 (d:Int) (exprD L D).1/\(d<=16->RDp b lb lo cap L 225 (d:Int) (exprD L D).2)
 | 0,d,hd=>by
  have e:d=17:=Y;subst e
  exact⟨rexpr_deep,fun h=>by omega⟩
 | D+1,d,hd=>by
  obtain⟨h1,h2⟩:=qfX b lb lo cap L D (d+1) Y;have ec:((d+1:Nat):Int)=(d:Int)+1:=Y;have ed:16-D=d:=Y
  have ho:RDp b lb lo cap L 225 (d:Int) (oneP L d (exprD L D).1 (exprD L D).2):=fun nv m N w hs r hr =>
   rone_any hs d Y _ _ (h1.cast ec) (fun h=>(h2 Y).cast ec) r hr
  have e2:exprD L (D+1)=(orP L (oneP L (16-D) (exprD L D).1 (exprD L D).2),oneP L (16-D) (exprD L D).1 (exprD L D).2):=rfl;rw[e2,ed];exact⟨rexpr_any d Y _ ho,fun _=>ho⟩
def qfx {b lb lo cap:Nat} {nv:Value} {L:Toks} {m:Nat} {N:List Nd} {w:World} {wh:Int} {ee:Int} (hee:ee≠0) (h:Rt b lb lo cap nv L m N ee wh w) (d:Int) :
  Calls prog 118 #[.pointer (some ⟨b,0,none⟩),.int .i64 d] w fun e w'=>e=.returned (.int .i64 (-1))/\Ext w w':=by
 refine yad ?_;intro FL;obtain⟨c0,c1,c2,c3,c4,f1,f2,f3,f4,hb⟩:=h.facts;have q:(ee==0)=false:=by simpa using hee
 have q2:(ee !=0)=true:=by simpa using hee
 clear h hee c0 c1 c2 c4 f1 f2 f3 f4;by_cases hd:16<d
 ·
   go_enter func118,ntmps118
   go_wp2_with (((with_reducible refine (FL.out _ _ zf).mono ?_);rintro e _ ⟨rfl,d2,os2,rfl⟩))
   go_loopg [5] (0) (fun g x wr=>x=.slice none 0 0/\Ext w wr)
   case atStart=>exact⟨rfl,zf⟩
   case round =>
    obtain⟨rfl,dw,ow,rfl⟩:=hrel
    go_wp2_with fail;go_ret
    exact⟨rfl,zf⟩
 . have hd2:d<=16:=Y;clear hd;go_enter func118,ntmps118;go_wp2_with fail
   go_loopg [5] (0) (fun g x wr=>x=.slice none 0 0/\Ext w wr)
   case atStart=>exact⟨rfl,zf⟩
   case round =>
    obtain⟨rfl,dw,ow,rfl⟩:=hrel
    go_wp2_with fail;go_ret
    exact⟨rfl,zf⟩
def braces_deadw {b lb lo cap:Nat} {nv:Value} {L:Toks} {m:Nat} {N:List Nd} {w:World} {wh:Int} {ee:Int} (hee:ee≠0) (h:Rt b lb lo cap nv L m N ee wh w) (d:Int) :
  Calls prog 184 #[.pointer (some ⟨b,0,none⟩),.int .i64 d] w fun e w'=>e=.returned (.int .i64 (-1))/\Ext w w':=by
 have ND:Hid (∀ (s:ByteArray) w1,(s.size:Int)<=100->Ext w w1->Calls prog 181 #[.pointer (some ⟨b,0,none⟩),.string s] w1 fun e w'=>e=.returned (.tuple #[])/\Ext w1 w'):=J fun s w1 hs hx=>qdg hee (h.ext hx) s hs
 have BD:Hid (∀ w1,Ext w w1->Calls prog 118 #[.pointer (some ⟨b,0,none⟩),.int .i64 d] w1 fun e w'=>e=.returned (.int .i64 (-1))/\Ext w1 w'):=J fun w1 hx=>qfx hee (h.ext hx) d
 clear h hee;go_enter func184,ntmps184
 go_wp2_with (first
  | (((with_reducible refine (ND.out _ _ zw zf).mono ?_);rintro e _ ⟨rfl,d2,os2,rfl⟩))
  | (((with_reducible refine (BD.out _ zf).mono ?_);rintro e _ ⟨rfl,d3,os3,rfl⟩)))
 go_ret;exact⟨rfl,zf⟩
def braces_any {b lb lo cap:Nat} {nv:Value} {L:Toks} {m:Nat} {N:List Nd} {w:World} (h:Rt b lb lo cap nv L m N 0 0 w) (z:Int) (bl:PM Int) (hb:RDp b lb lo cap L 118 z bl) (r:PR Int) (hr:qaC L bl m N.length=r) :
  Calls prog 184 #[.pointer (some ⟨b,0,none⟩),.int .i64 z] w (RPost intV isInt b lb lo cap nv L m N w r):=by
 have HB:=J hb;have HS0:=J (h.cast (List.append_nil N).symm);have HK0:=J (Kp.refl b nv w);have HM0:=J (Nat.le_refl m);have HR0:=J (start_hr hr);unfold qaC at HR0;rw[qfe,qfe] at HR0;clear h hb hr;go_enter func184,ntmps184;go_wp2_with fail
 go_at_call 181
 obtain⟨r1,h1⟩:=qgl HR0.out;refine (qhb (show Rt b lb lo cap nv L m (N++[]) 0 0 _ from(by repeat(first | (with_reducible exact HS0.out) | (with_reducible apply Rt.alloc) | (with_reducible apply Rt.more)))) _ zw r1 (by rw[List.length_append];exact h1)).mono ?_;have HH:=J h1;clear h1;rcases r1 with ⟨e1,e2⟩ | ⟨v1,m1,ns1⟩
 . rintro e wE ⟨hc,⟨v,rfl,rfl⟩,nvE,mE,NE,hsE,hkE⟩;have HC:=J hc;have HSE:=J hsE;have HKE:=J (Kp.trans (show Kp b nv nv w _ from(by repeat(first | (with_reducible exact HK0.out) | (with_reducible apply Kp.alloc) | (with_reducible apply Kp.more)))) hkE);clear hc hsE hkE
   go_wp2_with (first
    | (((with_reducible refine (qdg HC.out (show Rt b lb lo cap nvE L mE NE e1 e2 _ from zay) _ zw).mono ?_);rintro e _ ⟨rfl,d7,os7,rfl⟩))
    | (((with_reducible refine (qfx HC.out (show Rt b lb lo cap nvE L mE NE e1 e2 _ from zay) _).mono ?_);rintro e _ ⟨rfl,d5,os5,rfl⟩)))
   go_ret;have:=qgC HR0.out HH.out;subst this;exact RPost.err HC.out ⟨_,rfl⟩ zay zbn
 rintro e w1 ⟨he,nv1,hs,hk,hm⟩;unfold unitV at he;subst he;have HR1:=J (step_ok HR0.out HH.out);have HS1:=J (hs.cast (List.append_assoc _ _ _));have HM1:=J (Nat.le_trans HM0.out hm);have HK1:=J (Kp.trans (show Kp b nv nv w _ from(by repeat(first | (with_reducible exact HK0.out) | (with_reducible apply Kp.alloc) | (with_reducible apply Kp.more)))) hk);clear hs hk hm;go_wp2_with fail
 go_at_call 118
 obtain⟨r2,h2⟩:=qgl HR1.out;refine (HB.out _ _ _ _ (show Rt b lb lo cap nv1 L m1 (N++([]++ns1)) 0 0 _ from(by repeat(first | (with_reducible exact HS1.out) | (with_reducible apply Rt.alloc) | (with_reducible apply Rt.more)))) r2 (by rw[List.length_append];exact h2)).mono ?_;have HH:=J h2;clear h2;rcases r2 with ⟨e1,e2⟩ | ⟨v2,m2,ns2⟩
 . rintro e wE ⟨hc,⟨v,rfl,yq,rfl⟩,nvE,mE,NE,hsE,hkE⟩;have HC:=J hc;have HSE:=J hsE;have HKE:=J (Kp.trans (show Kp b nv nv1 w _ from(by repeat(first | (with_reducible exact HK1.out) | (with_reducible apply Kp.alloc) | (with_reducible apply Kp.more)))) hkE);clear hc hsE hkE
   go_wp2_with (((with_reducible refine (qdg HC.out (show Rt b lb lo cap nvE L mE NE e1 e2 _ from zay) _ zw).mono ?_);rintro e _ ⟨rfl,d7,os7,rfl⟩))
   go_ret;have:=qgC HR1.out HH.out;subst this;exact RPost.err HC.out ⟨_,rfl⟩ zay zbn
 rintro e w2 ⟨he,nv2,hs,hk,hm⟩;unfold intV at he;subst he;have HR2:=J (step_ok HR1.out HH.out);have HS2:=J (hs.cast (List.append_assoc _ _ _));have HM2:=J (Nat.le_trans HM1.out hm);have HK2:=J (Kp.trans (show Kp b nv nv1 w _ from(by repeat(first | (with_reducible exact HK1.out) | (with_reducible apply Kp.alloc) | (with_reducible apply Kp.more)))) hk);clear hs hk hm;go_wp2_with fail
 go_at_call 181
 obtain⟨r3,h3⟩:=qgl HR2.out;refine (qhb (show Rt b lb lo cap nv2 L m2 (N++(([]++ns1)++ns2)) 0 0 _ from(by repeat(first | (with_reducible exact HS2.out) | (with_reducible apply Rt.alloc) | (with_reducible apply Rt.more)))) _ zw r3 (by rw[List.length_append];exact h3)).mono ?_;have HH:=J h3;clear h3;rcases r3 with ⟨e1,e2⟩ | ⟨v3,m3,ns3⟩
 . rintro e wE ⟨hc,⟨v,rfl,rfl⟩,nvE,mE,NE,hsE,hkE⟩;have HC:=J hc;have HSE:=J hsE;have HKE:=J (Kp.trans (show Kp b nv nv2 w _ from(by repeat(first | (with_reducible exact HK2.out) | (with_reducible apply Kp.alloc) | (with_reducible apply Kp.more)))) hkE);clear hc hsE hkE;go_wp2_with fail;go_ret;have:=qgC HR2.out HH.out;subst this;exact RPost.err HC.out ⟨_,rfl⟩ zay zbn
 rintro e w3 ⟨he,nv3,hs,hk,hm⟩;unfold unitV at he;subst he;have HR3:=J (step_ok HR2.out HH.out);have HS3:=J (hs.cast (List.append_assoc _ _ _));have HM3:=J (Nat.le_trans HM2.out hm);have HK3:=J (Kp.trans (show Kp b nv nv2 w _ from(by repeat(first | (with_reducible exact HK2.out) | (with_reducible apply Kp.alloc) | (with_reducible apply Kp.more)))) hk);clear hs hk hm;go_wp2_with fail;go_ret;have:=HR3.out;subst this;exact RPost.res rfl (HS3.out.cast (by simp[pok,prep])) HK3.out HM3.out
variable {b lb lo cap m0 m:Nat} {nv nv0 nv1:Value} {L:Toks} {N N0:List Nd} {w w' w0 w1:World} {F:List (Nat × Obj)} {r:PR Unit}
def ubraces (h:US b lb lo cap L m0 N0 nv0 w0 F r w) {d:Int} {bk:PM Int} (hb:RDp b lb lo cap L 118 d bk):Calls prog 184 #[.pointer (some ⟨b,0,none⟩),.int .i64 d] w fun e w'=>∃ (z:Int) (r':PR Unit),e=.returned (.int .i64 z)/\KB' N0.length r (qaC L bk) r' z/\US b lb lo cap L m0 N0 nv0 w0 F r' w' :=
 (uni (V:=fun _=>intV) (p:=qaC L bk) (fun _=>0) h (fun x ⟨z,hx⟩=>⟨0,z,hx⟩) (fun nv m N hR res hres=>braces_any hR d bk hb res hres) (fun nv m N ee wh hee hR _=>(braces_deadw hee hR d).mono fun e w' ⟨q,hx⟩=>⟨⟨0,-1,q⟩,hx⟩)).mono fun e w' ⟨_,v,r',q1,q2,q3⟩=>⟨v,r',q1,q2,q3⟩
end Go.Proofs.YtpnabjopfpdkhaaGreatDoor
