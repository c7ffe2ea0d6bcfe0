/- Lemmas. -/
import Derived.Test.YtpnabjopfpdkhaaGreatDoorA34
set_option linter.unusedSimpArgs false
set_option linter.unusedVariables false
set_option maxHeartbeats 4000000
set_option maxRecDepth 20000
namespace Go.Proofs.YtpnabjopfpdkhaaGreatDoor
open Go.RowKit
variable {b cap lb lo:Nat} {L:Toks}
attribute [go_sem] more_more Array.size_append
theorem qeZ {nv:Value} {m:Nat} {N:List Nd} {w:World} {wh:Int} {ee:Int} (hee:ee≠0) (h:Rt b lb lo cap nv L m N ee wh w) (z d:Int) :
  Calls Tryz.prog 208 #[.pointer (some ⟨b,0,none⟩),.int .i64 z,.int .i64 d] w fun e w'=>e=.returned (.int .i64 (-1))∧Ext w w':=by
 obtain⟨c0,c1,c2,c3,c4,f1,f2,f3,f4,hb⟩:=h.facts
 have q:(ee !=0)=true:=by simpa using hee
 clear h c0 c1 c2 c4 f1 f2 f3 f4 hee;go_enter Tryz.func208,Tryz.ntmps208;go_wp2_with fail;go_ret
 exact⟨rfl,zab⟩
theorem rexpr_dead {nv:Value} {m:Nat} {N:List Nd} {w:World} {wh:Int} {ee:Int} (hee:ee≠0) (h:Rt b lb lo cap nv L m N ee wh w) (d:Int) :
  Calls Tryz.prog 182 #[.pointer (some ⟨b,0,none⟩),.int .i64 d] w fun e w'=>e=.returned (.int .i64 (-1))∧Ext w w':=by
 refine yad ?_;intro FL
 have LV:RowKit.Hid (∀ (z d:Int) w1,Ext w w1→Calls Tryz.prog 208 #[.pointer (some ⟨b,0,none⟩),.int .i64 z,.int .i64 d] w1 fun e w'=>e=.returned (.int .i64 (-1))∧Ext w1 w'):=Lib.hid fun z d w1 hx=>qeZ hee (h.ext hx) z d
 clear h hee
 by_cases hd:16<d
 ·
   go_enter Tryz.func182,Tryz.ntmps182
   go_wp2_with (first
    | ((go_at_call 119;(with_reducible refine (FL.out _ _ zab).mono ?_);rintro e _ ⟨rfl,d2,os2,rfl⟩))
    | ((go_at_call 208;(with_reducible refine (LV.out _ _ _ zab).mono ?_);rintro e _ ⟨rfl,d3,os3,rfl⟩)))
   go_ret
   exact⟨rfl,zab⟩
 · have hd2:d≤16:=by omega
   clear hd;go_enter Tryz.func182,Tryz.ntmps182
   go_wp2_with (first
    | ((go_at_call 119;(with_reducible refine (FL.out _ _ zab).mono ?_);rintro e _ ⟨rfl,d2,os2,rfl⟩))
    | ((go_at_call 208;(with_reducible refine (LV.out _ _ _ zab).mono ?_);rintro e _ ⟨rfl,d3,os3,rfl⟩)))
   go_ret
   exact⟨rfl,zab⟩
def RDp (b lb lo cap:Nat) (L:Toks) (F:FuncId) (z:Int) (p:PM Int):Prop:=∀ nv m N w,Rt b lb lo cap nv L m N 0 0 w→∀ r,p m N.length=r→Calls Tryz.prog F #[.pointer (some ⟨b,0,none⟩),.int .i64 z] w (RPost intV isInt b lb lo cap nv L m N w r)
def RLv (b lb lo cap:Nat) (L:Toks) (z d:Int) (p:PM Int):Prop:=∀ nv m N w,Rt b lb lo cap nv L m N 0 0 w→∀ r,p m N.length=r→Calls Tryz.prog 208 #[.pointer (some ⟨b,0,none⟩),.int .i64 z,.int .i64 d] w (RPost intV isInt b lb lo cap nv L m N w r)
theorem level_six (d:Int) (p:PM Int) (ho:RDp b lb lo cap L 225 d p):RLv b lb lo cap L 6 d p:=by
 intro nv m N w h r hr;have O:=Lib.hid (ho nv m N w h r hr)
 obtain⟨c0,c1,c2,c3,c4,f1,f2,f3,f4,hb⟩:=h.facts
 clear h ho hr c0 c1 c2 c4 f1 f2 f3 f4
 rcases r with ⟨e1,e2⟩ | ⟨v,m1,ns⟩
 ·
   go_enter Tryz.func208,Tryz.ntmps208
   go_wp2_with (((with_reducible refine O.out.mono ?_);rintro e w1 ⟨hc,⟨v,rfl,y,rfl⟩,hp⟩;have HC:=Lib.hid (And.intro hc hp);clear hc hp))
   go_ret
   exact⟨HC.out.1,⟨_,rfl,y,rfl⟩,HC.out.2⟩
 ·
   go_enter Tryz.func208,Tryz.ntmps208
   go_wp2_with (((with_reducible refine O.out.mono ?_);rintro e w1 ⟨he,hp⟩;have HP:=Lib.hid hp;clear hp;unfold intV at he;subst he))
   go_ret
   exact⟨rfl,HP.out⟩
theorem comp_eq (cl:PM Int) (ss:List ByteArray) (m n:Nat):(pbind cl fun a=>pbind (qaL L ss) fun o=>match o with
  | none=>pok a
  | some s=>pbind cl fun b=>layP L (twoNd a b s)) m n=thenR (cl m n) (fun a m1 ns=>prep ns (thenR (qaL L ss m1 (n+ns.length)) fun o m2 _=>match o with
  | none=>.ok (a,m2,[])
  | some s=>thenR (cl m2 (n+ns.length)) fun b m3 ns3=>prep ns3 (layP L (twoNd a b s) m3 (n+ns.length+ns3.length)))):=by
 cases h1:cl m n with
 | error e=>rw[qan h1];rfl
 | ok v =>
  obtain⟨a,m1,ns⟩:=v
  rw[qaj h1]
  show prep ns _=prep ns _
  rcases oneOf_cases L ss m1 (n+ns.length) with h2 | ⟨s,h2⟩
  · rw[qaj h2,qaC,h2];rfl
  · rw[qaj h2,qaC,h2]
    show prep ns (pbind cl (fun b=>layP L (twoNd a b s)) (m1+1) (n+ns.length))=_
    cases h3:cl (m1+1) (n+ns.length) with
    | error e=>rw[qan h3];simp only[thenR,h3]
    | ok v=>obtain⟨c,m3,ns3⟩:=v;rw[qaj h3];simp only[thenR,h3]
theorem qcj (z d:Int) (ss:List ByteArray) (hz:SignZ z ss) (hz2:z≠2) (cl:PM Int) (hcl:RLv b lb lo cap L (z+1) d cl):RLv b lb lo cap L z d (twoP L cl ss):=by
 intro nv m N w h r hr
 have hzz:0≤z∧z≤5:=by rcases hz with ⟨rfl,_⟩ | ⟨rfl,_⟩ | ⟨rfl,_⟩ | ⟨rfl,_⟩ | ⟨rfl,_⟩ | ⟨rfl,_⟩<;>omega
 have hz0:0≤z:=hzz.1
 have hz5:z≤5:=hzz.2
 have q6:(z==6)=false:=by simp;omega
 have q2:(z==2)=false:=by simpa using hz2
 have HZ:=Lib.hid hz;have HCL:=Lib.hid hcl
 have SE:RowKit.Hid (∀ s,s∈ss→s.toList.isEmpty=false):=Lib.hid fun s hs=>(qfP hz hs).2
 obtain⟨r1,hr1⟩:∃ r1,cl m N.length=r1:=⟨_,rfl⟩
 have C1:=Lib.hid (hcl nv m N w h r1 hr1)
 obtain⟨c0,c1,c2,c3,c4,f1,f2,f3,f4,hb⟩:=h.facts
 have HL:=Lib.hid h.ends.few;clear h hcl hz hzz hz2 c0 c1 c2 c4 f1 f2 f3 f4
 rcases r1 with ⟨e1,e2⟩ | ⟨a1,m1,ns1⟩
 · have R2:RowKit.Hid (.error (e1,e2)=r):=Lib.hid (by rw[←hr];unfold twoP;rw[qan hr1])
   clear hr hr1;go_enter Tryz.func208,Tryz.ntmps208
   go_wp2_with (((with_reducible refine (C1.out).mono ?_);rintro e w1 ⟨hc,⟨v,rfl,y,rfl⟩,nv1,m1,N1,hs1,hk1⟩;have HC:=Lib.hid hc;have HS:=Lib.hid hs1;have HK:=Lib.hid hk1;clear hc hs1 hk1))
   go_loopg [7] (0) (fun g x wr=>x=.int .i64 y∧wr=w1)
   case atStart=>exact⟨rfl,rfl⟩
   case round =>
    obtain⟨rfl,rfl⟩:=hrel
    go_wp2_with fail
    go_at_call 226
    refine (qdK HC.out HS.out z ss HZ.out).mono ?_;rintro e _ ⟨rfl,d5,os5,rfl⟩;go_wp2_with fail;go_ret
    have:=R2.out
    subst this;exact RPost.err HC.out ⟨_,rfl⟩ (HS.out.more _ _) (HK.out.more _ _)
 · have R2:RowKit.Hid (prep ns1 (qaw L cl ss (L.length+1) a1 m1 (N.length+ns1.length))=r):=Lib.hid (by rw[←hr];unfold twoP;rw[qaj hr1])
   clear hr hr1;go_enter Tryz.func208,Tryz.ntmps208
   go_wp2_with (((with_reducible refine (C1.out).mono ?_);rintro e w1 ⟨he,nv1,hs1,hk1,hm1⟩;unfold intV at he;subst he;have HS1:=Lib.hid hs1;have HK1:=Lib.hid hk1;have HM1:=Lib.hid hm1;clear hs1 hk1 hm1))
   go_loopg [7] (L.length+1) (fun g x wr=>(∃ (y:Int) (m2:Nat) (ns:List Nd) (nv2:Value),x=.int .i64 y∧m≤m2∧L.length+1≤m2+g∧Rt b lb lo cap nv2 L m2 (N++ns) 0 0 wr∧Kp b nv nv2 w wr∧prep ns (qaw L cl ss g y m2 (N.length+ns.length))=r) ∨
    (∃ (y c a:Int) (m2:Nat) (N2:List Nd) (nv2:Value),x=.int .i64 y∧c≠0∧Rt b lb lo cap nv2 L m2 N2 c a wr∧Kp b nv nv2 w wr∧.error (c,a)=r))
   case atStart=>exact Or.inl ⟨a1,m1,ns1,nv1,rfl,HM1.out,by omega,HS1.out,HK1.out,R2.out⟩
   case round =>
    rcases hrel with ⟨y,m2,ns,nv2,rfl,hm2,hg,hst,hkp,hres⟩ | ⟨y,c,a,m2,N2,nv2,rfl,hc,hst,hkp,hres⟩
    · obtain⟨g0,rfl⟩:∃ g0,gk=g0+1:=⟨gk-1,by have:=hst.pos;omega⟩
      have HK:=Lib.hid hkp;have HM:=Lib.hid (And.intro hm2 hg)
      rcases oneOf_cases L ss m2 (N++ns).length with h1 | ⟨s,h1⟩
      · rw[twoL_none (by rw[←List.length_append];exact h1)] at hres
        have RR:=Lib.hid hres;have O:=Lib.hid (qde hst z ss HZ.out _ h1);clear hres h1 hst hkp hm2 hg
        go_wp2_with (((with_reducible refine O.out.mono ?_);rintro e w2 ⟨he,nv3,hs3,hk3,_⟩;have HS3:=Lib.hid hs3;have HK3:=Lib.hid hk3;clear hs3 hk3;unfold optS at he;subst he))
        go_ret
        have:=RR.out
        subst this;exact RPost.res rfl (HS3.out.cast zaj) (HK.out.trans HK3.out) HM.out.1
      · have hse:s.toList.isEmpty=false:=by
          refine SE.out s ?_;unfold qaL at h1
          cases hf:ss.find? (fun s=>isP L s m2) with
          | none=>rw[hf] at h1;simp at h1
          | some s'=>rw[hf] at h1;simp at h1;rw[←h1];exact List.mem_of_find?_eq_some hf
        have O:=Lib.hid (qde hst z ss HZ.out _ h1);rw[List.length_append] at h1
        obtain⟨r3,hr3⟩:∃ r3,cl (m2+1) (N.length+ns.length)=r3:=⟨_,rfl⟩
        have C3:RowKit.Hid (∀ nv3 w3,Rt b lb lo cap nv3 L (m2+1) (N++ns++[]) 0 0 w3→Calls Tryz.prog 208 #[.pointer (some ⟨b,0,none⟩),.int .i64 (z+1),.int .i64 d] w3 (RPost intV isInt b lb lo cap nv3 L (m2+1) (N++ns++[]) w3 r3)) :=
         Lib.hid fun nv3 w3 hs=>HCL.out nv3 (m2+1) _ w3 hs r3 (by rw[List.append_nil,List.length_append];exact hr3)
        rcases r3 with ⟨e1,e2⟩ | ⟨z3,m3,ns3⟩
        · rw[twoL_err h1 hr3] at hres
          have RR:=Lib.hid hres;clear hres h1 hst hkp hm2 hg hr3
          go_wp2_with (((with_reducible refine O.out.mono ?_);rintro e w2 ⟨he,nv3,hs3,hk3,_⟩;have HS3:=Lib.hid hs3;have HK3:=Lib.hid hk3;clear hs3 hk3;unfold optS at he;subst he))
          refine (C3.out nv3 _ HS3.out).mono ?_;rintro e w4 ⟨hc,⟨v,rfl,y4,rfl⟩,nv4,m4,N4,hs4,hk4⟩;have HC:=Lib.hid hc;have HS4:=Lib.hid hs4;have HK4:=Lib.hid ((HK.out.trans HK3.out).trans hk4);clear hc hs4 hk4
          go_wp2_with (first | (((with_reducible refine (qcp _ _ _ _).mono ?_);rintro e _ ⟨rfl,d3,os3,rfl⟩)) | ((go_at_call 183;(with_reducible refine (qeE HC.out (show Rt b lb lo cap nv4 L m4 N4 e1 e2 _ from zaw) _ _ _ _ _ _ _ _).mono ?_);rintro e _ ⟨rfl,d6,os6,rfl⟩)))
          go_roundg g0
          case measure=>omega
          case rel=>exact Or.inr ⟨-1,e1,e2,m4,N4,nv4,rfl,HC.out,zaw,zax,RR.out⟩
        · obtain⟨r4,hr4⟩:∃ r4,layP L (twoNd y z3 s) m3 (N.length+ns.length+ns3.length)=r4:=⟨_,rfl⟩
          have LA:RowKit.Hid (∀ nv4 w5,Rt b lb lo cap nv4 L m3 (N++ns++[]++ns3) 0 0 w5→Calls Tryz.prog 183 #[.pointer (some ⟨b,0,none⟩),.agg #[.int .i64 11,.int .i64 y,.int .i64 z3,.int .i64 (-1),.int .i64 (-1),.int .i64 0,.string s,.string ⟨#[]⟩]] w5 (RPost intV isInt b lb lo cap nv4 L m3 (N++ns++[]++ns3) w5 r4)) :=
           Lib.hid fun nv4 w5 hs=>qfV hs _ _ _ _ _ _ _ _ r4 (by rw[←hr4];simp[twoNd,nd,Nat.add_assoc])
          have RR:RowKit.Hid (prep ns (thenR r4 fun a1 m4 ns4=>prep (ns3++ns4) (qaw L cl ss g0 a1 m4 (N.length+ns.length+(ns3++ns4).length)))=r):=Lib.hid (by
           rw[←hres]
           congr 1
           rcases r4 with ⟨e1,e2⟩ | ⟨a1,m4,ns4⟩
           · rw[twoL_lay h1 hr3 hr4];rfl
           · rw[twoL_ok h1 hr3 hr4];rfl)
          clear hres h1 hst hkp hm2 hg hr3 hr4
          go_wp2_with (((with_reducible refine O.out.mono ?_);rintro e w2 ⟨he,nv3,hs3,hk3,_⟩;have HS3:=Lib.hid hs3;have HK3:=Lib.hid hk3;clear hs3 hk3;unfold optS at he;subst he))
          refine (C3.out nv3 _ HS3.out).mono ?_;rintro e w4 ⟨he,nv4,hs4,hk4,hm4⟩;unfold intV at he;subst he;have HS4:=Lib.hid hs4;have HK4:=Lib.hid ((HK.out.trans HK3.out).trans hk4);have HM4:=Lib.hid hm4;clear hs4 hk4 hm4
          go_wp2_with (((with_reducible refine (qcp _ _ _ _).mono ?_);rintro e _ ⟨rfl,d3,os3,rfl⟩))
          refine (LA.out nv4 _ (show Rt b lb lo cap nv4 L m3 (N++ns++[]++ns3) 0 0 _ from zaw)).mono ?_
          rcases r4 with ⟨e1,e2⟩ | ⟨a4,m4,ns4⟩
          · rintro e w5 ⟨hc,⟨v,rfl,y5,rfl⟩,nv5,m5,N5,hs5,hk5⟩
            have HC:=Lib.hid hc;have HS5:=Lib.hid hs5;have HK5:=Lib.hid (Kp.trans (show Kp b nv nv4 w _ from zax) hk5);clear hc hs5 hk5;go_wp2_with fail
            go_roundg g0
            case measure=>omega
            case rel=>exact Or.inr ⟨y5,e1,e2,m5,N5,nv5,rfl,HC.out,HS5.out,HK5.out,RR.out⟩
          · rintro e w5 ⟨he,nv5,hs5,hk5,hm5⟩
            unfold intV at he;subst he;have HS5:=Lib.hid hs5;have HK5:=Lib.hid (Kp.trans (show Kp b nv nv4 w _ from zax) hk5);have HM5:=Lib.hid hm5;clear hs5 hk5 hm5;go_wp2_with fail
            go_roundg g0
            case measure=>omega
            case rel =>
             have q1:=HM5.out;have q2:=HM4.out;have q3:=HM.out;have q5:=RR.out;exact Or.inl ⟨a4,m4,ns++(ns3++ns4),nv5,rfl,by omega,by omega,HS5.out.cast zaj,HK5.out,by rw[←q5];unfold thenR;dsimp only;rw[qbR,List.length_append,Nat.add_assoc]⟩
    · have HC:=Lib.hid hc
      have HS:=Lib.hid hst;have HK:=Lib.hid hkp;have RR:=Lib.hid hres;clear hc hst hkp hres;go_wp2_with fail
      go_at_call 226
      refine (qdK HC.out HS.out z ss HZ.out).mono ?_;rintro e _ ⟨rfl,d5,os5,rfl⟩;go_wp2_with fail;go_ret
      have:=RR.out
      subst this;exact RPost.err HC.out ⟨_,rfl⟩ (HS.out.more _ _) (HK.out.more _ _)
theorem level_comp (d:Int) (o:PM Int) (hcl:RLv b lb lo cap L 3 d (joinP L o)):RLv b lb lo cap L 2 d (compP L o):=by
 intro nv m N w h r hr
 have hz:SignZ 2 ssIs:=Or.inr (Or.inr (Or.inl ⟨rfl,rfl⟩))
 have HZ:=Lib.hid hz;have HCL:=Lib.hid hcl
 have SE:RowKit.Hid (∀ s,s∈ssIs→s.toList.isEmpty=false):=Lib.hid fun s hs=>(qfP hz hs).2
 obtain⟨cl,hcl2⟩:∃ cl,joinP L o=cl:=⟨_,rfl⟩
 have hr2:thenR (cl m N.length) (fun a m1 ns=>prep ns (thenR (qaL L ssIs m1 (N.length+ns.length)) fun o m2 _=>match o with
  | none=>.ok (a,m2,[])
  | some s=>thenR (cl m2 (N.length+ns.length)) fun b m3 ns3=>prep ns3 (layP L (twoNd a b s) m3 (N.length+ns.length+ns3.length))))=r:=by
  rw[←hcl2];exact(comp_eq (joinP L o) ssIs m N.length).symm.trans hr
 rw[hcl2] at HCL
 obtain⟨r1,hr1⟩:∃ r1,cl m N.length=r1:=⟨_,rfl⟩
 have C1:=Lib.hid (HCL.out nv m N w h r1 hr1)
 obtain⟨c0,c1,c2,c3,c4,f1,f2,f3,f4,hb⟩:=h.facts
 rw[hr1] at hr2;clear h hcl hz hr hcl2 hr1 c0 c1 c2 c4 f1 f2 f3 f4
 rcases r1 with ⟨e1,e2⟩ | ⟨a1,m1,ns1⟩
 · have R2:RowKit.Hid (.error (e1,e2)=r):=Lib.hid hr2
   clear hr2;go_enter Tryz.func208,Tryz.ntmps208
   go_wp2_with (((with_reducible refine (C1.out).mono ?_);rintro e w1 ⟨hc,⟨v,rfl,y,rfl⟩,nv1,m1,N1,hs1,hk1⟩;have HC:=Lib.hid hc;have HS:=Lib.hid hs1;have HK:=Lib.hid hk1;clear hc hs1 hk1))
   go_loopg [7] (0) (fun g x wr=>x=.int .i64 y∧wr=w1)
   case atStart=>exact⟨rfl,rfl⟩
   case round =>
    obtain⟨rfl,rfl⟩:=hrel
    go_wp2_with fail
    go_at_call 226
    refine (qdK HC.out HS.out 2 ssIs HZ.out).mono ?_;rintro e _ ⟨rfl,d5,os5,rfl⟩;go_wp2_with fail;go_ret
    have:=R2.out
    subst this;exact RPost.err HC.out ⟨_,rfl⟩ (HS.out.more _ _) (HK.out.more _ _)
 · have R2:=Lib.hid hr2
   clear hr2;go_enter Tryz.func208,Tryz.ntmps208
   go_wp2_with (((with_reducible refine (C1.out).mono ?_);rintro e w1 ⟨he,nv1,hs1,hk1,hm1⟩;unfold intV at he;subst he;have HS1:=Lib.hid hs1;have HK1:=Lib.hid hk1;have HM1:=Lib.hid hm1;clear hs1 hk1 hm1))
   go_loopg [7] (0) (fun g x wr=>x=.int .i64 a1∧wr=w1)
   case atStart=>exact⟨rfl,rfl⟩
   case round =>
    obtain⟨rfl,rfl⟩:=hrel
    rcases oneOf_cases L ssIs m1 (N++ns1).length with h1 | ⟨s,h1⟩
    · have O:=Lib.hid (qde HS1.out 2 ssIs HZ.out _ h1)
      have RR:RowKit.Hid (.ok (a1,m1,ns1)=r):=Lib.hid (by rw[←R2.out];rw[List.length_append] at h1;simp only[thenR,h1,prep,List.append_nil])
      clear h1
      go_wp2_with (((with_reducible refine O.out.mono ?_);rintro e w2 ⟨he,nv3,hs3,hk3,_⟩;have HS3:=Lib.hid hs3;have HK3:=Lib.hid hk3;clear hs3 hk3;unfold optS at he;subst he))
      go_ret
      have:=RR.out
      subst this;exact RPost.res rfl (HS3.out.cast zaj) (HK1.out.trans HK3.out) HM1.out
    · have hse:s.toList.isEmpty=false:=by
        refine SE.out s ?_;unfold qaL at h1
        cases hf:ssIs.find? (fun s=>isP L s m1) with
        | none=>rw[hf] at h1;simp at h1
        | some s'=>rw[hf] at h1;simp at h1;rw[←h1];exact List.mem_of_find?_eq_some hf
      have O:=Lib.hid (qde HS1.out 2 ssIs HZ.out _ h1);rw[List.length_append] at h1
      obtain⟨r3,hr3⟩:∃ r3,cl (m1+1) (N.length+ns1.length)=r3:=⟨_,rfl⟩
      have C3:RowKit.Hid (∀ nv3 w3,Rt b lb lo cap nv3 L (m1+1) (N++ns1++[]) 0 0 w3→Calls Tryz.prog 208 #[.pointer (some ⟨b,0,none⟩),.int .i64 3,.int .i64 d] w3 (RPost intV isInt b lb lo cap nv3 L (m1+1) (N++ns1++[]) w3 r3)) :=
       Lib.hid fun nv3 w3 hs=>HCL.out nv3 (m1+1) _ w3 hs r3 (by rw[List.append_nil,List.length_append];exact hr3)
      have RR:RowKit.Hid (prep ns1 (thenR r3 fun b m3 ns3=>prep ns3 (layP L (twoNd a1 b s) m3 (N.length+ns1.length+ns3.length)))=r):=Lib.hid (by rw[←R2.out];simp only[thenR,h1];rw[hr3])
      clear h1 hr3
      rcases r3 with ⟨e1,e2⟩ | ⟨z3,m3,ns3⟩
      · go_wp2_with (((with_reducible refine O.out.mono ?_);rintro e w2 ⟨he,nv3,hs3,hk3,_⟩;have HS3:=Lib.hid hs3;have HK3:=Lib.hid hk3;clear hs3 hk3;unfold optS at he;subst he))
        refine (C3.out nv3 _ HS3.out).mono ?_;rintro e w4 ⟨hc,⟨v,rfl,y4,rfl⟩,nv4,m4,N4,hs4,hk4⟩;have HC:=Lib.hid hc;have HS4:=Lib.hid hs4;have HK4:=Lib.hid ((HK1.out.trans HK3.out).trans hk4);clear hc hs4 hk4
        go_wp2_with (first | (((with_reducible refine (qcp _ _ _ _).mono ?_);rintro e _ ⟨rfl,d3,os3,rfl⟩)) | ((go_at_call 183;(with_reducible refine (qeE HC.out (show Rt b lb lo cap nv4 L m4 N4 e1 e2 _ from zaw) _ _ _ _ _ _ _ _).mono ?_);rintro e _ ⟨rfl,d6,os6,rfl⟩)))
        go_ret
        have:=RR.out
        subst this;exact RPost.err HC.out ⟨_,rfl⟩ zaw zax
      · obtain⟨r4,hr4⟩:∃ r4,layP L (twoNd a1 z3 s) m3 (N.length+ns1.length+ns3.length)=r4:=⟨_,rfl⟩
        have LA:RowKit.Hid (∀ nv4 w5,Rt b lb lo cap nv4 L m3 (N++ns1++[]++ns3) 0 0 w5→Calls Tryz.prog 183 #[.pointer (some ⟨b,0,none⟩),.agg #[.int .i64 11,.int .i64 a1,.int .i64 z3,.int .i64 (-1),.int .i64 (-1),.int .i64 0,.string s,.string ⟨#[]⟩]] w5 (RPost intV isInt b lb lo cap nv4 L m3 (N++ns1++[]++ns3) w5 r4)) :=
         Lib.hid fun nv4 w5 hs=>qfV hs _ _ _ _ _ _ _ _ r4 (by rw[←hr4];simp[twoNd,nd,Nat.add_assoc])
        have RR4:RowKit.Hid (prep ns1 (prep ns3 r4)=r):=Lib.hid (by rw[←RR.out,←hr4];rfl)
        clear hr4
        go_wp2_with (((with_reducible refine O.out.mono ?_);rintro e w2 ⟨he,nv3,hs3,hk3,_⟩;have HS3:=Lib.hid hs3;have HK3:=Lib.hid hk3;clear hs3 hk3;unfold optS at he;subst he))
        refine (C3.out nv3 _ HS3.out).mono ?_;rintro e w4 ⟨he,nv4,hs4,hk4,hm4⟩;unfold intV at he;subst he;have HS4:=Lib.hid hs4;have HK4:=Lib.hid ((HK1.out.trans HK3.out).trans hk4);have HM4:=Lib.hid hm4;clear hs4 hk4 hm4
        go_wp2_with (((with_reducible refine (qcp _ _ _ _).mono ?_);rintro e _ ⟨rfl,d3,os3,rfl⟩))
        refine (LA.out nv4 _ (show Rt b lb lo cap nv4 L m3 (N++ns1++[]++ns3) 0 0 _ from zaw)).mono ?_
        rcases r4 with ⟨e1,e2⟩ | ⟨a4,m4,ns4⟩
        · rintro e w5 ⟨hc,⟨v,rfl,y5,rfl⟩,nv5,m5,N5,hs5,hk5⟩
          have HC:=Lib.hid hc;have HS5:=Lib.hid hs5;have HK5:=Lib.hid (Kp.trans (show Kp b nv nv4 w _ from zax) hk5);clear hc hs5 hk5;go_wp2_with fail;go_ret
          have:=RR4.out
          subst this;exact RPost.err HC.out ⟨_,rfl⟩ HS5.out HK5.out
        · rintro e w5 ⟨he,nv5,hs5,hk5,hm5⟩
          unfold intV at he;subst he;have HS5:=Lib.hid hs5;have HK5:=Lib.hid (Kp.trans (show Kp b nv nv4 w _ from zax) hk5);have HM5:=Lib.hid hm5;clear hs5 hk5 hm5;go_wp2_with fail;go_ret
          have:=RR4.out
          subst this;have q1:=HM5.out;have q2:=HM4.out;have q3:=HM1.out;exact RPost.res rfl (HS5.out.cast zaj) HK5.out zac
theorem SignZ.mk (z:Int) (ss:List ByteArray) (h:(z=0∧ss=ssOr)∨(z=1∧ss=ssAnd)∨(z=2∧ss=ssIs)∨(z=3∧ss=qdL)∨(z=4∧ss=ssSum)∨(z=5∧ss=qcs)):SignZ z ss:=h
theorem level_zero (d:Int) (o:PM Int) (ho:RDp b lb lo cap L 225 d o):RLv b lb lo cap L 0 d (orP L o):=by
 have h6:=level_six d o ho
 have h5:RLv b lb lo cap L 5 d (timesP L o):=qcj 5 d qcs (.mk _ _ zaj) zak o h6
 have h4:RLv b lb lo cap L 4 d (sumP L o):=qcj 4 d ssSum (.mk _ _ zaj) zak _ h5
 have h3:RLv b lb lo cap L 3 d (joinP L o):=qcj 3 d qdL (.mk _ _ zaj) zak _ h4
 have h2:=level_comp d o h3
 have h1:RLv b lb lo cap L 1 d (andP L o):=qcj 1 d ssAnd (.mk _ _ zaj) zak _ h2
 exact qcj 0 d ssOr (.mk _ _ zaj) zak _ h1
theorem rexpr_any (d:Nat) (hd:d≤16) (o:PM Int) (ho:RDp b lb lo cap L 225 (d:Int) o):RDp b lb lo cap L 182 (d:Int) (orP L o):=by
 intro nv m N w h r hr;have O:=Lib.hid (level_zero (d:Int) o ho nv m N w h r hr)
 have hd2:(d:Int)≤16:=by omega
 clear h ho hr
 rcases r with ⟨e1,e2⟩ | ⟨v,m1,ns⟩
 ·
   go_enter Tryz.func182,Tryz.ntmps182
   go_wp2_with (((with_reducible refine O.out.mono ?_);rintro e w1 ⟨hc,⟨v,rfl,y,rfl⟩,hp⟩;have HC:=Lib.hid (And.intro hc hp);clear hc hp))
   go_ret
   exact⟨HC.out.1,⟨_,rfl,y,rfl⟩,HC.out.2⟩
 ·
   go_enter Tryz.func182,Tryz.ntmps182
   go_wp2_with (((with_reducible refine O.out.mono ?_);rintro e w1 ⟨he,hp⟩;have HP:=Lib.hid hp;clear hp;unfold intV at he;subst he))
   go_ret
   exact⟨rfl,HP.out⟩
theorem rexpr_deep:RDp b lb lo cap L 182 (17:Int) (pno L 14):=by
 intro nv m N w h r hr;have FL:=Lib.hid (qbH h 14 zak);have R:=Lib.hid hr;clear h hr;go_enter Tryz.func182,Tryz.ntmps182
 go_wp2_with (((with_reducible refine FL.out.mono ?_);rintro e w1 ⟨rfl,hs1,hk1⟩;have HS:=Lib.hid hs1;have HK:=Lib.hid hk1;clear hs1 hk1))
 refine (qeZ zak HS.out _ _).mono ?_;rintro e _ ⟨rfl,d5,os5,rfl⟩;go_wp2_with fail;go_ret
 have:=R.out
 subst this;exact RPost.err zak ⟨_,rfl⟩ (HS.out.more _ _) (HK.out.more _ _)
end Go.Proofs.YtpnabjopfpdkhaaGreatDoor
