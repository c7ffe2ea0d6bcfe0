/- Lemmas. -/
import Derived.Test.YtpnabjopfpdkhaaGreatDoorY27
import Derived.Test.YtpnabjopfpdkhaaGreatDoorY44
set_option linter.all false
set_option maxHeartbeats 4000000
set_option maxRecDepth 20000
namespace Go.Proofs.YtpnabjopfpdkhaaGreatDoor
open Tryz RowKit
variable {b cap lb lo m:Nat} {nv:Value} {L:Toks} {N:List Nd} {w:World}
attribute [go_sem] more_more Array.size_append
def nine:List ByteArray:=[⟨#[108,101,116]⟩,⟨#[115,101,116]⟩,⟨#[112,117,116]⟩,⟨#[100,101,108,101,116,101]⟩,⟨#[97,98,111,114,116]⟩,⟨#[114,101,116,117,114,110]⟩,⟨#[105,102]⟩,⟨#[102,111,114]⟩,⟨#[114,101,112,101,97,116]⟩]
def qba (L:Toks) (m:Nat):Bool:=(tk L m).1.k==5&&nine.any fun s=>(tk L m).1.s.toList==s.toList
def nine_snoc (t:ByteArray) (j:Nat) (h:j<nine.length):(nine.take (j+1)).any (fun s=>t.toList==s.toList)=((nine.take j).any (fun s=>t.toList==s.toList)||t.toList==(nine.getD j ⟨#[]⟩).toList):=by
 have e:nine.take (j+1)=nine.take j++[nine.getD j ⟨#[]⟩]:=by
  rw[List.take_succ_eq_append_getElem h]
  congr 2
  simp[List.getD,List.getElem?_eq_getElem h]
 rw[e,List.any_append];simp
def nine_done (t:ByteArray) (j:Nat) (h:j<nine.length) (he:(t.toList==(nine.getD j ⟨#[]⟩).toList)=true):nine.any (fun s=>t.toList==s.toList)=true:=by
 rw[List.any_eq_true];refine ⟨nine.getD j ⟨#[]⟩,?_,he⟩;simp[List.getD,List.getElem?_eq_getElem h]
def begins_any (h:Rt b lb lo cap nv L m N 0 0 w) :
  Calls prog 145 #[.pointer (some ⟨b,0,none⟩)] w fun e w'=>e=.returned (.bool (qba L m))/\Ext w w':=by
 have H:=J h;have G:=J (h.loc (strs nine));have hp:(m:Int)<(L.length:Int):=by have:=h.pos;omega
 have hp0:0<=(m:Int):=Y;have hnl:nine.length=9:=rfl;obtain⟨⟨⟨k,ts,i⟩,a⟩,htt⟩:∃ tt,tk L m=tt:=⟨_,rfl⟩
 have HT:=J htt;unfold qba;rw[htt];dsimp only;clear htt h;obtain⟨B,hB⟩:∃ B,(k==5&&nine.any fun s=>ts.toList==s.toList)=B:=⟨_,rfl⟩
 rw[hB];have HB:=J hB;clear hB;go_enter func145,ntmps145;go_wp2_with fail;go_loopw [7] (fun i wr=>∃ j:Nat,i=.int .i64 (j:Int)/\j<=9/\Ext (w.alloc (strs nine)) wr/\((k==5)=true->(nine.take j).any (fun s=>ts.toList==s.toList)=false)) (fun i _=>9-(intOf i).toNat)
 case atStart=>exact⟨0,rfl,Nat.zero_le _,Ext.refl _,fun _=>rfl⟩
 case round =>
  obtain⟨j,rfl,hj,hx,hno⟩:=hrel;have HX:=J hx;have HNO:=J hno;by_cases hlt:j<9
  . have hlt2:(j:Int)<9:=Y;have hj0:0<=(j:Int):=Y;have hcell:=((G.out.ext hx).str j (by rw[hnl];exact hlt))
    have H1:=(H.out.alloc (strs nine)).ext hx;obtain⟨c0,c1,c2,c3,c4,f1,f2,f3,f4,hb⟩:=H1.facts;obtain⟨t0,t1,t2,t3,hlb⟩:=H1.tokFacts;rw[HT.out] at t0 t1 t2 t3;dsimp only at t0 t1 t2 t3;obtain⟨s,hs⟩:∃ s,nine.getD j ⟨#[]⟩=s:=⟨_,rfl⟩
    rw[hs] at hcell;have HS:=J hs;have HLT:=J hlt;clear hx hno hlt hs H1 c2 c3 c4 f1 f2 f3 f4 t1 t3;cases hk:(k==5)
    ·
      go_wp2_with fail;refine qaa 25 39 (List.replicate 25 false) zv zv rfl ?_;refine zh ?_
      repeat(refine Lex.step rfl ?_;intro K hK;unfold StepG;go_simp;(first
        | refine hK _ ?_);clear hK K)
      refine zd ?_;intro dd oo;go_wp2_with fail;rw[ends_normal];go_wp2_with fail;go_roundw
      case rel=>exact⟨j+1,by go_num,by have:=HLT.out;omega,HX.out.more _ _,fun h=>by simp at h⟩
      case measure=>have:=HLT.out;simp[intOf];omega
    . cases hq:(ts.toList==s.toList)
      ·
        go_wp2_with fail;refine qaa 25 39 (List.replicate 25 false) zv zv rfl ?_;refine zh ?_
        repeat(refine Lex.step rfl ?_;intro K hK;unfold StepG;go_simp;(first
          | refine hK _ ?_);clear hK K)
        refine zd ?_;intro dd oo;go_wp2_with fail;rw[ends_normal];go_wp2_with fail;go_roundw
        case rel=>exact⟨j+1,by go_num,by have:=HLT.out;omega,HX.out.more _ _,fun h=>by rw[nine_snoc _ _ (by rw[hnl];exact HLT.out),HS.out,HNO.out hk];simpa using hq⟩
        case measure=>have:=HLT.out;simp[intOf];omega
      . have RR:Hid (true=B):=J (by rw[<-HB.out,hk,nine_done ts j (by rw[hnl];exact HLT.out) (by rw[HS.out];exact hq)];rfl)
        go_wp2_with fail;refine qaa 25 39 (List.replicate 25 false) zv zv rfl ?_;refine zh ?_
        repeat(refine Lex.step rfl ?_;intro K hK;unfold StepG;go_simp;(first
          | refine hK _ ?_);clear hK K)
        refine zd ?_;intro dd oo;go_wp2_with fail;rw[ends_normal];go_wp2_with fail;go_ret;exact⟨ret_bool RR.out,((Ext.refl _).alloc _).trans (HX.out.more _ _)⟩
  . have hge:(9:Int)<=(j:Int):=Y
    have RR:Hid (false=B):=J (by
     rw[<-HB.out];cases hk:(k==5)
     . rfl
     . have e:nine.take j=nine:=List.take_of_length_le (by rw[hnl];omega);have:=hno hk;rw[e] at this
       rw[this];rfl)
    clear hx hno hlt;go_wp2_with fail;go_ret;exact⟨ret_bool RR.out,((Ext.refl _).alloc _).trans HX.out⟩
def qgc {wh:Int} {ee:Int} (hee:ee≠0) (h:Rt b lb lo cap nv L m N ee wh w) (z d:Int) :
  Calls prog 208 #[.pointer (some ⟨b,0,none⟩),.int .i64 z,.int .i64 d] w fun e w'=>e=.returned (.int .i64 (-1))/\Ext w w':=by
 obtain⟨c0,c1,c2,c3,c4,f1,f2,f3,f4,hb⟩:=h.facts;have q:(ee !=0)=true:=by simpa using hee
 clear h c0 c1 c2 c4 f1 f2 f3 f4 hee;go_enter func208,ntmps208;go_wp2_with fail;go_ret;exact⟨rfl,zf⟩
def rexpr_dead {wh:Int} {ee:Int} (hee:ee≠0) (h:Rt b lb lo cap nv L m N ee wh w) (d:Int) :
  Calls prog 182 #[.pointer (some ⟨b,0,none⟩),.int .i64 d] w fun e w'=>e=.returned (.int .i64 (-1))/\Ext w w':=by
 refine yad ?_;intro FL;have LV:Hid (∀ (z d:Int) w1,Ext w w1->Calls prog 208 #[.pointer (some ⟨b,0,none⟩),.int .i64 z,.int .i64 d] w1 fun e w'=>e=.returned (.int .i64 (-1))/\Ext w1 w'):=J fun z d w1 hx=>qgc hee (h.ext hx) z d
 clear h hee;by_cases hd:16<d
 ·
   go_enter func182,ntmps182
   go_wp2_with (first
    | (((with_reducible refine (FL.out _ _ zf).mono ?_);rintro e _ ⟨rfl,d2,os2,rfl⟩))
    | (((with_reducible refine (LV.out _ _ _ zf).mono ?_);rintro e _ ⟨rfl,d3,os3,rfl⟩)))
   go_ret;exact⟨rfl,zf⟩
 . have hd2:d<=16:=Y;clear hd;go_enter func182,ntmps182
   go_wp2_with (first
    | (((with_reducible refine (FL.out _ _ zf).mono ?_);rintro e _ ⟨rfl,d2,os2,rfl⟩))
    | (((with_reducible refine (LV.out _ _ _ zf).mono ?_);rintro e _ ⟨rfl,d3,os3,rfl⟩)))
   go_ret;exact⟨rfl,zf⟩
def RDp (b lb lo cap:Nat) (L:Toks) (F:FuncId) (z:Int) (p:PM Int):Prop:=∀ nv m N w,Rt b lb lo cap nv L m N 0 0 w->∀ r,p m N.length=r->Calls prog F #[.pointer (some ⟨b,0,none⟩),.int .i64 z] w (RPost intV isInt b lb lo cap nv L m N w r)
def RLv (b lb lo cap:Nat) (L:Toks) (z d:Int) (p:PM Int):Prop:=∀ nv m N w,Rt b lb lo cap nv L m N 0 0 w->∀ r,p m N.length=r->Calls prog 208 #[.pointer (some ⟨b,0,none⟩),.int .i64 z,.int .i64 d] w (RPost intV isInt b lb lo cap nv L m N w r)
def level_six (d:Int) (p:PM Int) (ho:RDp b lb lo cap L 225 d p):RLv b lb lo cap L 6 d p:=by
 intro nv m N w h r hr;have O:=J (ho nv m N w h r hr);obtain⟨c0,c1,c2,c3,c4,f1,f2,f3,f4,hb⟩:=h.facts;clear h ho hr c0 c1 c2 c4 f1 f2 f3 f4;rcases r with ⟨e1,e2⟩ | ⟨v,m1,ns⟩
 ·
   go_enter func208,ntmps208
   go_wp2_with (((with_reducible refine O.out.mono ?_);rintro e w1 ⟨hc,⟨v,rfl,y,rfl⟩,hp⟩;have HC:=J (And.intro hc hp);clear hc hp))
   go_ret;exact⟨HC.out.1,⟨_,rfl,y,rfl⟩,HC.out.2⟩
 ·
   go_enter func208,ntmps208
   go_wp2_with (((with_reducible refine O.out.mono ?_);rintro e w1 ⟨he,hp⟩;have HP:=J hp;clear hp;unfold intV at he;subst he))
   go_ret;exact⟨rfl,HP.out⟩
def comp_eq (cl:PM Int) (ss:List ByteArray) (m n:Nat):(pbind cl fun a=>pbind (qaP L ss) fun o=>match o with
  | none=>pok a
  | some s=>pbind cl fun b=>layP L (twoNd a b s)) m n=thenR (cl m n) (fun a m1 ns=>prep ns (thenR (qaP L ss m1 (n+ns.length)) fun o m2 _=>match o with
  | none=>.ok (a,m2,[])
  | some s=>thenR (cl m2 (n+ns.length)) fun b m3 ns3=>prep ns3 (layP L (twoNd a b s) m3 (n+ns.length+ns3.length)))):=by
 cases h1:cl m n with
 | error e=>rw[qap h1];rfl
 | ok v =>
  obtain⟨a,m1,ns⟩:=v;rw[qai h1];show prep ns _=prep ns _
  rcases oneOf_cases L ss m1 (n+ns.length) with h2 | ⟨s,h2⟩
  . rw[qai h2,qaF,h2];rfl
  . rw[qai h2,qaF,h2];show prep ns (pbind cl (fun b=>layP L (twoNd a b s)) (m1+1) (n+ns.length))=_
    cases h3:cl (m1+1) (n+ns.length) with
    | error e=>rw[qap h3];simp only[thenR,h3]
    | ok v=>obtain⟨c,m3,ns3⟩:=v;rw[qai h3];simp only[thenR,h3]
def qcv (z d:Int) (ss:List ByteArray) (hz:SignZ z ss) (hz2:z≠2) (cl:PM Int) (hcl:RLv b lb lo cap L (z+1) d cl):RLv b lb lo cap L z d (twoP L cl ss):=by
 intro nv m N w h r hr;have hzz:0<=z/\z<=5:=by rcases hz with ⟨rfl,_⟩ | ⟨rfl,_⟩ | ⟨rfl,_⟩ | ⟨rfl,_⟩ | ⟨rfl,_⟩ | ⟨rfl,_⟩<;>omega
 have hz0:0<=z:=hzz.1;have hz5:z<=5:=hzz.2;have q6:(z==6)=false:=zg;have q2:(z==2)=false:=by simpa using hz2
 have HZ:=J hz;have HCL:=J hcl;have SE:Hid (∀ s,s∈ss->s.toList.isEmpty=false):=J fun s hs=>(qgo hz hs).2
 obtain⟨r1,hr1⟩:∃ r1,cl m N.length=r1:=⟨_,rfl⟩
 have C1:=J (hcl nv m N w h r1 hr1);obtain⟨c0,c1,c2,c3,c4,f1,f2,f3,f4,hb⟩:=h.facts;have HL:=J h.ends.few;clear h hcl hz hzz hz2 c0 c1 c2 c4 f1 f2 f3 f4;rcases r1 with ⟨e1,e2⟩ | ⟨a1,m1,ns1⟩
 . have R2:Hid (.error (e1,e2)=r):=J (by rw[<-hr];unfold twoP;rw[qap hr1]);clear hr hr1;go_enter func208,ntmps208
   go_wp2_with (((with_reducible refine (C1.out).mono ?_);rintro e w1 ⟨hc,⟨v,rfl,y,rfl⟩,nv1,m1,N1,hs1,hk1⟩;have HC:=J hc;have HS:=J hs1;have HK:=J hk1;clear hc hs1 hk1))
   go_loopg [7] (0) (fun g x wr=>x=.int .i64 y/\wr=w1)
   case atStart=>exact⟨rfl,rfl⟩
   case round =>
    obtain⟨rfl,rfl⟩:=hrel;go_wp2_with fail
    go_at_call 226
    refine (qdW HC.out HS.out z ss HZ.out).mono ?_;rintro e _ ⟨rfl,d5,os5,rfl⟩;go_wp2_with fail;go_ret;have:=R2.out;subst this;exact RPost.err HC.out ⟨_,rfl⟩ (HS.out.more _ _) (HK.out.more _ _)
 . have R2:Hid (prep ns1 (qaA L cl ss (L.length+1) a1 m1 (N.length+ns1.length))=r):=J (by rw[<-hr];unfold twoP;rw[qai hr1]);clear hr hr1;go_enter func208,ntmps208
   go_wp2_with (((with_reducible refine (C1.out).mono ?_);rintro e w1 ⟨he,nv1,hs1,hk1,hm1⟩;unfold intV at he;subst he;have HS1:=J hs1;have HK1:=J hk1;have HM1:=J hm1;clear hs1 hk1 hm1))
   go_loopg [7] (L.length+1) (fun g x wr=>(∃ (y:Int) (m2:Nat) (ns:List Nd) (nv2:Value),x=.int .i64 y/\m<=m2/\L.length+1<=m2+g/\Rt b lb lo cap nv2 L m2 (N++ns) 0 0 wr/\Kp b nv nv2 w wr/\prep ns (qaA L cl ss g y m2 (N.length+ns.length))=r) \/
    (∃ (y c a:Int) (m2:Nat) (N2:List Nd) (nv2:Value),x=.int .i64 y/\c≠0/\Rt b lb lo cap nv2 L m2 N2 c a wr/\Kp b nv nv2 w wr/\.error (c,a)=r))
   case atStart=>exact Or.inl ⟨a1,m1,ns1,nv1,rfl,HM1.out,Y,HS1.out,HK1.out,R2.out⟩
   case round =>
    rcases hrel with ⟨y,m2,ns,nv2,rfl,hm2,hg,hst,hkp,hres⟩ | ⟨y,c,a,m2,N2,nv2,rfl,hc,hst,hkp,hres⟩
    . obtain⟨g0,rfl⟩:∃ g0,gk=g0+1:=⟨gk-1,by have:=hst.pos;omega⟩
      have HK:=J hkp;have HM:=J (And.intro hm2 hg);rcases oneOf_cases L ss m2 (N++ns).length with h1 | ⟨s,h1⟩
      . rw[twoL_none (by rw[<-List.length_append];exact h1)] at hres;have RR:=J hres;have O:=J (qdD hst z ss HZ.out _ h1);clear hres h1 hst hkp hm2 hg
        go_wp2_with (((with_reducible refine O.out.mono ?_);rintro e w2 ⟨he,nv3,hs3,hk3,_⟩;have HS3:=J hs3;have HK3:=J hk3;clear hs3 hk3;unfold optS at he;subst he))
        go_ret;have:=RR.out;subst this;exact RPost.res rfl (HS3.out.cast zy) (HK.out.trans HK3.out) HM.out.1
      . have hse:s.toList.isEmpty=false:=by
          refine SE.out s ?_;unfold qaP at h1
          cases hf:ss.find? (fun s=>isP L s m2) with
          | none=>rw[hf] at h1;simp at h1
          | some s'=>rw[hf] at h1;simp at h1;rw[<-h1];exact List.mem_of_find?_eq_some hf
        have O:=J (qdD hst z ss HZ.out _ h1);rw[List.length_append] at h1;obtain⟨r3,hr3⟩:∃ r3,cl (m2+1) (N.length+ns.length)=r3:=⟨_,rfl⟩
        have C3:Hid (∀ nv3 w3,Rt b lb lo cap nv3 L (m2+1) (N++ns++[]) 0 0 w3->Calls prog 208 #[.pointer (some ⟨b,0,none⟩),.int .i64 (z+1),.int .i64 d] w3 (RPost intV isInt b lb lo cap nv3 L (m2+1) (N++ns++[]) w3 r3)) :=
         J fun nv3 w3 hs=>HCL.out nv3 (m2+1) _ w3 hs r3 (by rw[List.append_nil,List.length_append];exact hr3)
        rcases r3 with ⟨e1,e2⟩ | ⟨z3,m3,ns3⟩
        . rw[twoL_err h1 hr3] at hres;have RR:=J hres;clear hres h1 hst hkp hm2 hg hr3
          go_wp2_with (((with_reducible refine O.out.mono ?_);rintro e w2 ⟨he,nv3,hs3,hk3,_⟩;have HS3:=J hs3;have HK3:=J hk3;clear hs3 hk3;unfold optS at he;subst he))
          refine (C3.out nv3 _ HS3.out).mono ?_;rintro e w4 ⟨hc,⟨v,rfl,y4,rfl⟩,nv4,m4,N4,hs4,hk4⟩;have HC:=J hc;have HS4:=J hs4;have HK4:=J ((HK.out.trans HK3.out).trans hk4);clear hc hs4 hk4
          go_wp2_with (first | (((with_reducible refine (qcx _ _ _ _).mono ?_);rintro e _ ⟨rfl,d3,os3,rfl⟩)) | (((with_reducible refine (qeY HC.out (show Rt b lb lo cap nv4 L m4 N4 e1 e2 _ from zaw) _ _ _ _ _ _ _ _).mono ?_);rintro e _ ⟨rfl,d6,os6,rfl⟩)))
          go_roundg g0
          case measure=>omega
          case rel=>exact Or.inr ⟨-1,e1,e2,m4,N4,nv4,rfl,HC.out,zaw,zax,RR.out⟩
        . obtain⟨r4,hr4⟩:∃ r4,layP L (twoNd y z3 s) m3 (N.length+ns.length+ns3.length)=r4:=⟨_,rfl⟩
          have LA:Hid (∀ nv4 w5,Rt b lb lo cap nv4 L m3 (N++ns++[]++ns3) 0 0 w5->Calls prog 183 #[.pointer (some ⟨b,0,none⟩),.agg #[.int .i64 11,.int .i64 y,.int .i64 z3,.int .i64 (-1),.int .i64 (-1),.int .i64 0,.string s,.string ⟨#[]⟩]] w5 (RPost intV isInt b lb lo cap nv4 L m3 (N++ns++[]++ns3) w5 r4)) :=
           J fun nv4 w5 hs=>qgr hs _ _ _ _ _ _ _ _ r4 zcn
          have RR:Hid (prep ns (thenR r4 fun a1 m4 ns4=>prep (ns3++ns4) (qaA L cl ss g0 a1 m4 (N.length+ns.length+(ns3++ns4).length)))=r):=J (by
           rw[<-hres]
           congr 1
           rcases r4 with ⟨e1,e2⟩ | ⟨a1,m4,ns4⟩
           . rw[twoL_lay h1 hr3 hr4];rfl
           . rw[twoL_ok h1 hr3 hr4];rfl)
          clear hres h1 hst hkp hm2 hg hr3 hr4
          go_wp2_with (((with_reducible refine O.out.mono ?_);rintro e w2 ⟨he,nv3,hs3,hk3,_⟩;have HS3:=J hs3;have HK3:=J hk3;clear hs3 hk3;unfold optS at he;subst he))
          refine (C3.out nv3 _ HS3.out).mono ?_;rintro e w4 ⟨he,nv4,hs4,hk4,hm4⟩;unfold intV at he;subst he;have HS4:=J hs4;have HK4:=J ((HK.out.trans HK3.out).trans hk4);have HM4:=J hm4;clear hs4 hk4 hm4
          go_wp2_with (((with_reducible refine (qcx _ _ _ _).mono ?_);rintro e _ ⟨rfl,d3,os3,rfl⟩))
          refine (LA.out nv4 _ (show Rt b lb lo cap nv4 L m3 (N++ns++[]++ns3) 0 0 _ from zaw)).mono ?_;rcases r4 with ⟨e1,e2⟩ | ⟨a4,m4,ns4⟩
          . rintro e w5 ⟨hc,⟨v,rfl,y5,rfl⟩,nv5,m5,N5,hs5,hk5⟩;have HC:=J hc;have HS5:=J hs5;have HK5:=J (Kp.trans (show Kp b nv nv4 w _ from zax) hk5);clear hc hs5 hk5;go_wp2_with fail
            go_roundg g0
            case measure=>omega
            case rel=>exact Or.inr ⟨y5,e1,e2,m5,N5,nv5,rfl,HC.out,HS5.out,HK5.out,RR.out⟩
          . rintro e w5 ⟨he,nv5,hs5,hk5,hm5⟩;unfold intV at he;subst he;have HS5:=J hs5;have HK5:=J (Kp.trans (show Kp b nv nv4 w _ from zax) hk5);have HM5:=J hm5;clear hs5 hk5 hm5;go_wp2_with fail
            go_roundg g0
            case measure=>omega
            case rel =>
             have q1:=HM5.out;have q2:=HM4.out;have q3:=HM.out;have q5:=RR.out;exact Or.inl ⟨a4,m4,ns++(ns3++ns4),nv5,rfl,Y,Y,HS5.out.cast zy,HK5.out,by rw[<-q5];unfold thenR;dsimp only;rw[qbT,List.length_append,Nat.add_assoc]⟩
    . have HC:=J hc;have HS:=J hst;have HK:=J hkp;have RR:=J hres;clear hc hst hkp hres;go_wp2_with fail
      go_at_call 226
      refine (qdW HC.out HS.out z ss HZ.out).mono ?_;rintro e _ ⟨rfl,d5,os5,rfl⟩;go_wp2_with fail;go_ret;have:=RR.out;subst this;exact RPost.err HC.out ⟨_,rfl⟩ (HS.out.more _ _) (HK.out.more _ _)
def level_comp (d:Int) (o:PM Int) (hcl:RLv b lb lo cap L 3 d (joinP L o)):RLv b lb lo cap L 2 d (compP L o):=by
 intro nv m N w h r hr;have hz:SignZ 2 ssIs:=Or.inr (Or.inr (Or.inl ⟨rfl,rfl⟩));have HZ:=J hz;have HCL:=J hcl;have SE:Hid (∀ s,s∈ssIs->s.toList.isEmpty=false):=J fun s hs=>(qgo hz hs).2
 obtain⟨cl,hcl2⟩:∃ cl,joinP L o=cl:=⟨_,rfl⟩
 have hr2:thenR (cl m N.length) (fun a m1 ns=>prep ns (thenR (qaP L ssIs m1 (N.length+ns.length)) fun o m2 _=>match o with
  | none=>.ok (a,m2,[])
  | some s=>thenR (cl m2 (N.length+ns.length)) fun b m3 ns3=>prep ns3 (layP L (twoNd a b s) m3 (N.length+ns.length+ns3.length))))=r:=by
  rw[<-hcl2];exact(comp_eq (joinP L o) ssIs m N.length).symm.trans hr
 rw[hcl2] at HCL;obtain⟨r1,hr1⟩:∃ r1,cl m N.length=r1:=⟨_,rfl⟩
 have C1:=J (HCL.out nv m N w h r1 hr1);obtain⟨c0,c1,c2,c3,c4,f1,f2,f3,f4,hb⟩:=h.facts;rw[hr1] at hr2;clear h hcl hz hr hcl2 hr1 c0 c1 c2 c4 f1 f2 f3 f4;rcases r1 with ⟨e1,e2⟩ | ⟨a1,m1,ns1⟩
 . have R2:Hid (.error (e1,e2)=r):=J hr2;clear hr2;go_enter func208,ntmps208
   go_wp2_with (((with_reducible refine (C1.out).mono ?_);rintro e w1 ⟨hc,⟨v,rfl,y,rfl⟩,nv1,m1,N1,hs1,hk1⟩;have HC:=J hc;have HS:=J hs1;have HK:=J hk1;clear hc hs1 hk1))
   go_loopg [7] (0) (fun g x wr=>x=.int .i64 y/\wr=w1)
   case atStart=>exact⟨rfl,rfl⟩
   case round =>
    obtain⟨rfl,rfl⟩:=hrel;go_wp2_with fail
    go_at_call 226
    refine (qdW HC.out HS.out 2 ssIs HZ.out).mono ?_;rintro e _ ⟨rfl,d5,os5,rfl⟩;go_wp2_with fail;go_ret;have:=R2.out;subst this;exact RPost.err HC.out ⟨_,rfl⟩ (HS.out.more _ _) (HK.out.more _ _)
 . have R2:=J hr2;clear hr2;go_enter func208,ntmps208
   go_wp2_with (((with_reducible refine (C1.out).mono ?_);rintro e w1 ⟨he,nv1,hs1,hk1,hm1⟩;unfold intV at he;subst he;have HS1:=J hs1;have HK1:=J hk1;have HM1:=J hm1;clear hs1 hk1 hm1))
   go_loopg [7] (0) (fun g x wr=>x=.int .i64 a1/\wr=w1)
   case atStart=>exact⟨rfl,rfl⟩
   case round =>
    obtain⟨rfl,rfl⟩:=hrel;rcases oneOf_cases L ssIs m1 (N++ns1).length with h1 | ⟨s,h1⟩
    . have O:=J (qdD HS1.out 2 ssIs HZ.out _ h1);have RR:Hid (.ok (a1,m1,ns1)=r):=J (by rw[<-R2.out];rw[List.length_append] at h1;simp only[thenR,h1,prep,List.append_nil]);clear h1
      go_wp2_with (((with_reducible refine O.out.mono ?_);rintro e w2 ⟨he,nv3,hs3,hk3,_⟩;have HS3:=J hs3;have HK3:=J hk3;clear hs3 hk3;unfold optS at he;subst he))
      go_ret;have:=RR.out;subst this;exact RPost.res rfl (HS3.out.cast zy) (HK1.out.trans HK3.out) HM1.out
    . have hse:s.toList.isEmpty=false:=by
        refine SE.out s ?_;unfold qaP at h1
        cases hf:ssIs.find? (fun s=>isP L s m1) with
        | none=>rw[hf] at h1;simp at h1
        | some s'=>rw[hf] at h1;simp at h1;rw[<-h1];exact List.mem_of_find?_eq_some hf
      have O:=J (qdD HS1.out 2 ssIs HZ.out _ h1);rw[List.length_append] at h1;obtain⟨r3,hr3⟩:∃ r3,cl (m1+1) (N.length+ns1.length)=r3:=⟨_,rfl⟩
      have C3:Hid (∀ nv3 w3,Rt b lb lo cap nv3 L (m1+1) (N++ns1++[]) 0 0 w3->Calls prog 208 #[.pointer (some ⟨b,0,none⟩),.int .i64 3,.int .i64 d] w3 (RPost intV isInt b lb lo cap nv3 L (m1+1) (N++ns1++[]) w3 r3)) :=
       J fun nv3 w3 hs=>HCL.out nv3 (m1+1) _ w3 hs r3 (by rw[List.append_nil,List.length_append];exact hr3)
      have RR:Hid (prep ns1 (thenR r3 fun b m3 ns3=>prep ns3 (layP L (twoNd a1 b s) m3 (N.length+ns1.length+ns3.length)))=r):=J (by rw[<-R2.out];simp only[thenR,h1];rw[hr3]);clear h1 hr3;rcases r3 with ⟨e1,e2⟩ | ⟨z3,m3,ns3⟩
      . go_wp2_with (((with_reducible refine O.out.mono ?_);rintro e w2 ⟨he,nv3,hs3,hk3,_⟩;have HS3:=J hs3;have HK3:=J hk3;clear hs3 hk3;unfold optS at he;subst he))
        refine (C3.out nv3 _ HS3.out).mono ?_;rintro e w4 ⟨hc,⟨v,rfl,y4,rfl⟩,nv4,m4,N4,hs4,hk4⟩;have HC:=J hc;have HS4:=J hs4;have HK4:=J ((HK1.out.trans HK3.out).trans hk4);clear hc hs4 hk4
        go_wp2_with (first | (((with_reducible refine (qcx _ _ _ _).mono ?_);rintro e _ ⟨rfl,d3,os3,rfl⟩)) | (((with_reducible refine (qeY HC.out (show Rt b lb lo cap nv4 L m4 N4 e1 e2 _ from zaw) _ _ _ _ _ _ _ _).mono ?_);rintro e _ ⟨rfl,d6,os6,rfl⟩)))
        go_ret;have:=RR.out;subst this;exact RPost.err HC.out ⟨_,rfl⟩ zaw zax
      . obtain⟨r4,hr4⟩:∃ r4,layP L (twoNd a1 z3 s) m3 (N.length+ns1.length+ns3.length)=r4:=⟨_,rfl⟩
        have LA:Hid (∀ nv4 w5,Rt b lb lo cap nv4 L m3 (N++ns1++[]++ns3) 0 0 w5->Calls prog 183 #[.pointer (some ⟨b,0,none⟩),.agg #[.int .i64 11,.int .i64 a1,.int .i64 z3,.int .i64 (-1),.int .i64 (-1),.int .i64 0,.string s,.string ⟨#[]⟩]] w5 (RPost intV isInt b lb lo cap nv4 L m3 (N++ns1++[]++ns3) w5 r4)) :=
         J fun nv4 w5 hs=>qgr hs _ _ _ _ _ _ _ _ r4 zcn
        have RR4:Hid (prep ns1 (prep ns3 r4)=r):=J (by rw[<-RR.out,<-hr4];rfl);clear hr4
        go_wp2_with (((with_reducible refine O.out.mono ?_);rintro e w2 ⟨he,nv3,hs3,hk3,_⟩;have HS3:=J hs3;have HK3:=J hk3;clear hs3 hk3;unfold optS at he;subst he))
        refine (C3.out nv3 _ HS3.out).mono ?_;rintro e w4 ⟨he,nv4,hs4,hk4,hm4⟩;unfold intV at he;subst he;have HS4:=J hs4;have HK4:=J ((HK1.out.trans HK3.out).trans hk4);have HM4:=J hm4;clear hs4 hk4 hm4
        go_wp2_with (((with_reducible refine (qcx _ _ _ _).mono ?_);rintro e _ ⟨rfl,d3,os3,rfl⟩))
        refine (LA.out nv4 _ (show Rt b lb lo cap nv4 L m3 (N++ns1++[]++ns3) 0 0 _ from zaw)).mono ?_;rcases r4 with ⟨e1,e2⟩ | ⟨a4,m4,ns4⟩
        . rintro e w5 ⟨hc,⟨v,rfl,y5,rfl⟩,nv5,m5,N5,hs5,hk5⟩;have HC:=J hc;have HS5:=J hs5;have HK5:=J (Kp.trans (show Kp b nv nv4 w _ from zax) hk5);clear hc hs5 hk5;go_wp2_with fail;go_ret;have:=RR4.out;subst this;exact RPost.err HC.out ⟨_,rfl⟩ HS5.out HK5.out
        . rintro e w5 ⟨he,nv5,hs5,hk5,hm5⟩;unfold intV at he;subst he;have HS5:=J hs5;have HK5:=J (Kp.trans (show Kp b nv nv4 w _ from zax) hk5);have HM5:=J hm5;clear hs5 hk5 hm5;go_wp2_with fail;go_ret;have:=RR4.out;subst this;have q1:=HM5.out;have q2:=HM4.out;have q3:=HM1.out;exact RPost.res rfl (HS5.out.cast zy) HK5.out Y
def SignZ.mk (z:Int) (ss:List ByteArray) (h:(z=0/\ss=ssOr)\/(z=1/\ss=ssAnd)\/(z=2/\ss=ssIs)\/(z=3/\ss=qdZ)\/(z=4/\ss=ssSum)\/(z=5/\ss=qcA)):SignZ z ss:=h
def level_zero (d:Int) (o:PM Int) (ho:RDp b lb lo cap L 225 d o):RLv b lb lo cap L 0 d (orP L o):=by
 have h6:=level_six d o ho;have h5:RLv b lb lo cap L 5 d (timesP L o):=qcv 5 d qcA (.mk _ _ zy) zw o h6;have h4:RLv b lb lo cap L 4 d (sumP L o):=qcv 4 d ssSum (.mk _ _ zy) zw _ h5;have h3:RLv b lb lo cap L 3 d (joinP L o):=qcv 3 d qdZ (.mk _ _ zy) zw _ h4;have h2:=level_comp d o h3;have h1:RLv b lb lo cap L 1 d (andP L o):=qcv 1 d ssAnd (.mk _ _ zy) zw _ h2;exact qcv 0 d ssOr (.mk _ _ zy) zw _ h1
def rexpr_any (d:Nat) (hd:d<=16) (o:PM Int) (ho:RDp b lb lo cap L 225 (d:Int) o):RDp b lb lo cap L 182 (d:Int) (orP L o):=by
 intro nv m N w h r hr;have O:=J (level_zero (d:Int) o ho nv m N w h r hr);have hd2:(d:Int)<=16:=Y;clear h ho hr;rcases r with ⟨e1,e2⟩ | ⟨v,m1,ns⟩
 ·
   go_enter func182,ntmps182
   go_wp2_with (((with_reducible refine O.out.mono ?_);rintro e w1 ⟨hc,⟨v,rfl,y,rfl⟩,hp⟩;have HC:=J (And.intro hc hp);clear hc hp))
   go_ret;exact⟨HC.out.1,⟨_,rfl,y,rfl⟩,HC.out.2⟩
 ·
   go_enter func182,ntmps182
   go_wp2_with (((with_reducible refine O.out.mono ?_);rintro e w1 ⟨he,hp⟩;have HP:=J hp;clear hp;unfold intV at he;subst he))
   go_ret;exact⟨rfl,HP.out⟩
def rexpr_deep:RDp b lb lo cap L 182 (17:Int) (pno L 14):=by
 intro nv m N w h r hr;have FL:=J (qbI h 14 zw);have R:=J hr;clear h hr;go_enter func182,ntmps182
 go_wp2_with (((with_reducible refine FL.out.mono ?_);rintro e w1 ⟨rfl,hs1,hk1⟩;have HS:=J hs1;have HK:=J hk1;clear hs1 hk1))
 refine (qgc zw HS.out _ _).mono ?_;rintro e _ ⟨rfl,d5,os5,rfl⟩;go_wp2_with fail;go_ret;have:=R.out;subst this;exact RPost.err zw ⟨_,rfl⟩ (HS.out.more _ _) (HK.out.more _ _)
end Go.Proofs.YtpnabjopfpdkhaaGreatDoor
namespace Go.Proofs.YtpnabjopfpdkhaaGreatDoor
open Tryz RowKit
def mustP_one (L:Toks) (s:ByteArray) (m n:Nat):mustP L [s] m n=must1 L s m n:=by
 cases h:isP L s m
 . rw[qdh h];unfold must1;rw[h];rfl
 . rw[qbp h];unfold must1;rw[h];rfl
section
variable (L:Toks)
def sOpen:ByteArray:=⟨#[40]⟩
def sShut:ByteArray:=⟨#[41]⟩
def sMinus:ByteArray:=⟨#[45]⟩
def sNot:ByteArray:=⟨#[110,111,116]⟩
def sNil:ByteArray:=⟨#[110,105,108]⟩
def sTrue:ByteArray:=⟨#[116,114,117,101]⟩
def sFalse:ByteArray:=⟨#[102,97,108,115,101]⟩
def sGet:ByteArray:=⟨#[103,101,116]⟩
def sHas:ByteArray:=⟨#[104,97,115]⟩
def sLen:ByteArray:=⟨#[108,101,110]⟩
def sShow:ByteArray:=⟨#[115,104,111,119]⟩
def callP (k:Int) (e1:PM Int):PM Int:=pbind skipP fun _=>pbind (must1 L sOpen) fun _=>pbind e1 fun a=>pbind (must1 L sShut) fun _=>layP L { nd k with a:=a }
def parenP (e1:PM Int):PM Int:=pbind skipP fun _=>pbind e1 fun a=>pbind (must1 L sShut) fun _=>pok a
def wiP (k:Int) (d:Nat) (o1:PM Int):PM Int:=pbind skipP fun _=>qaX L k d o1
def moreP (d:Nat) (e1 o1:PM Int):PM Int:=fun m n =>
 if isP L sOpen m=true then parenP L e1 m n
 else if isP L sNot m=true then wiP L 9 d o1 m n
 else if isP L sMinus m=true then wiP L 10 d o1 m n
 else if isP L sGet m=true then callP L 5 e1 m n
 else if isP L sHas m=true then callP L 6 e1 m n
 else if isP L sLen m=true then callP L 7 e1 m n
 else if isP L sShow m=true then callP L 8 e1 m n
 else pno L 3 m n
def puP (z:Nd):PM Int:=pbind skipP fun _=>layP L z
variable {L}
def isP_w {s:ByteArray} (hw:wordB s=true) (m:Nat):isP L s m=((tk L m).1.k==5&&(tk L m).1.s.toList==s.toList):=by unfold isP;rw[hw];rfl
def isP_s {s:ByteArray} (hw:wordB s=false) (m:Nat):isP L s m=((tk L m).1.k==4&&(tk L m).1.s.toList==s.toList):=by unfold isP;rw[hw];rfl
def qfe (s:ByteArray):mustP L [s]=must1 L s:=by funext m n;exact mustP_one L s m n
def one_eq (d:Nat) (e1 o1:PM Int) (m n:Nat) (h2:(tk L m).1.k≠2) (h3:(tk L m).1.k≠3) (h1:(tk L m).1.k≠1) :
  oneP L d e1 o1 m n=if isP L sNil m=true then puP L (nd 0) m n else if isP L sTrue m=true then puP L { nd 1 with i:=1 } m n else if isP L sFalse m=true then puP L (nd 1) m n else moreP L d e1 o1 m n:=by
 have w1:wordB sNil=true:=zv;have w2:wordB sTrue=true:=zv;have w3:wordB sFalse=true:=zv;have w4:wordB sOpen=false:=zv;have w5:wordB sNot=true:=zv;have w6:wordB sMinus=false:=zv;have w7:wordB sGet=true:=zv;have w8:wordB sHas=true:=zv;have w9:wordB sLen=true:=zv;have w10:wordB sShow=true:=zv;have l1:sNil.toList=[110,105,108]:=zv;have l2:sTrue.toList=[116,114,117,101]:=zv;have l3:sFalse.toList=[102,97,108,115,101]:=zv;have l4:sOpen.toList=[40]:=zv;have l5:sNot.toList=[110,111,116]:=zv;have l6:sMinus.toList=[45]:=zv;have l7:sGet.toList=[103,101,116]:=zv;have l8:sHas.toList=[104,97,115]:=zv;have l9:sLen.toList=[108,101,110]:=zv;have l10:sShow.toList=[115,104,111,119]:=zv;unfold oneP;rw[if_neg h2,if_neg h3,if_neg h1];unfold moreP;rw[isP_w w1,isP_w w2,isP_w w3,isP_s w4,isP_w w5,isP_s w6,isP_w w7,isP_w w8,isP_w w9,isP_w w10,l1,l2,l3,l4,l5,l6,l7,l8,l9,l10];have s1:(⟨#[110,111,116]⟩:ByteArray)=sNot:=rfl;have s2:(⟨#[110,105,108]⟩:ByteArray)=sNil:=rfl;have s3:(⟨#[45]⟩:ByteArray)=sMinus:=rfl;have s4:(⟨#[40]⟩:ByteArray)=sOpen:=rfl;have s5:(⟨#[41]⟩:ByteArray)=sShut:=rfl;by_cases h4:(tk L m).1.k=4
 . have e4:((tk L m).1.k==4)=true:=by simpa using h4
   have e5:((tk L m).1.k==5)=false:=by rw[h4];rfl
   rw[if_pos h4,e4,e5];simp only[Bool.false_and,Bool.true_and,Bool.false_eq_true,if_false];unfold qbk;rw[s3,s4,s5,isP_s w6,isP_s w4,l6,l4,e4];simp only[Bool.true_and,qfe];by_cases hm:((tk L m).1.s.toList==[45])=true
   . have:(tk L m).1.s.toList=[45]:=by simpa using hm
     rw[this];rfl
   . rw[if_neg hm,if_neg hm];rfl
 . rw[if_neg h4];have e4:((tk L m).1.k==4)=false:=by simpa using h4
   rw[e4];simp only[Bool.false_and,Bool.false_eq_true,if_false];by_cases h5:(tk L m).1.k=5
   . have e5:((tk L m).1.k==5)=true:=(by simpa using h5)
     rw[if_pos h5,e5];simp only[Bool.true_and];unfold qbj callF sIs;rw[s1,s2,s4,s5,isP_w w5,isP_w w1,l5,l1,e5];simp only[Bool.true_and,qfe];obtain⟨l,hl⟩:∃ l,(tk L m).1.s.toList=l:=⟨_,rfl⟩
     rw[hl];by_cases q1:l=[110,105,108]
     . subst q1;rfl
     by_cases q2:l=[116,114,117,101]
     . subst q2;rfl
     by_cases q3:l=[102,97,108,115,101]
     . subst q3;rfl
     by_cases q4:l=[110,111,116]
     . subst q4;rfl
     by_cases q5:l=[103,101,116]
     . subst q5;rfl
     by_cases q6:l=[104,97,115]
     . subst q6;rfl
     by_cases q7:l=[108,101,110]
     . subst q7;rfl
     by_cases q8:l=[115,104,111,119]
     . subst q8;rfl
     have b:∀ x:List UInt8,l≠x->(l==x)=false:=fun x hx=>by simpa using hx
     rw[b _ q1,b _ q2,b _ q3,b _ q4,b _ q5,b _ q6,b _ q7,b _ q8];rfl
   . rw[if_neg h5];have e5:((tk L m).1.k==5)=false:=(by simpa using h5)
     rw[e5];simp only[Bool.false_and,Bool.false_eq_true,if_false]
end
end Go.Proofs.YtpnabjopfpdkhaaGreatDoor
