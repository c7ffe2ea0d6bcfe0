/- Lemmas. -/
import Derived.Test.YtpnabjopfpdkhaaGreatDoorY05
import Derived.Test.YtpnabjopfpdkhaaGreatDoorY14
set_option linter.all false
set_option maxHeartbeats 4000000
set_option maxRecDepth 20000
namespace Go.Proofs.YtpnabjopfpdkhaaGreatDoor
open Tryz RowKit
variable {ns:List Nd} {nv:Value}
attribute [go_sem] more_more Array.size_append
def qbz (s:ByteArray) (q:List UInt8) (er:Int) (hr:qbW s.data.toList=(q,er)) (w:World) :
  Calls prog 189 #[.string s] w fun e w'=>e=.returned (.tuple #[.string ⟨q.toArray⟩,.int .i64 er])/\w=w':=by
 have hl:s.data.toList.length=s.size:=zy;unfold qbW at hr;by_cases h64:64<s.data.toList.length
 . rw[if_pos h64] at hr;simp only[Prod.mk.injEq] at hr;obtain⟨rfl,rfl⟩:=hr;have h64':(64:Int)<s.size:=Y;clear h64 hl;go_enter func189,ntmps189;go_wp2_with fail;go_ret2;exact⟨rfl,rfl⟩
 rw[if_neg h64] at hr;have h64':(s.size:Int)<=64:=Y;clear h64 hl;go_enter func189,ntmps189;go_wp2_with fail;go_loopw [4,5] (fun out ii wr=>∃ (k:Nat) (acc:List UInt8),ii=.int .i64 (k:Int)/\k<=s.size/\(s.data.toList.take k).all okQ=true/\acc=34::(s.data.toList.take k).flatMap quo1/\out=.string ⟨acc.toArray⟩/\w=wr) (fun _ ii _=>s.size-(intOf ii).toNat)
 case atStart=>exact⟨0,[34],rfl,Nat.zero_le _,rfl,rfl,rfl,rfl⟩
 case round =>
  obtain⟨k,acc,rfl,hk,hok,hacc,hg,rfl⟩:=hrel;subst hg;have hg:True:=trivial
  have hal:acc.length<=200:=by
   have:=quo1_len (s.data.toList.take k);rw[hacc];simp at this ⊢;omega
  have HK:=J hok;have HAC:=J hacc;have HGX:=J hg;clear hok hacc hg;by_cases hlt:k<s.size
  . have hu:s.data.toList[k]?=some (s[k]'hlt):=(by rw[List.getElem?_eq_getElem jb];rfl)
    have h256:=(s[k]'hlt).toNat_lt;have HU:=J hu;clear hu;have hex:=one_byte s k hlt;by_cases c1:(s[k]'hlt).toNat=10
    . have e1:((s[k]'hlt)==10)=true:=(by first | omega | (simp;omega) | exact u8_eq zg | exact u8_ne zg)
      have hq1:quo1 (s[k]'hlt)=[92,110]:=(by rw[quo1,if_pos c1])
      have hst:=qbJ _ k _ HU.out;rw[hq1] at hst;have HST:=J hst;have HOK:=J (by rw[ok_step _ k _ HU.out HK.out];simp[okQ];omega:(s.data.toList.take (k+1)).all okQ=true);clear hq1 hst;clear c1;go_wp2_with fail;go_roundw
      case rel =>
       refine ⟨k+1,acc++[92,110],by go_num,Y,HOK.out,?_,?_,by trivial⟩
       . rw[HST.out,HAC.out];simp
       . exact congrArg Value.string (ba_app acc [92,110])
      case measure=>simp[intOf];omega
    by_cases c2:(s[k]'hlt).toNat<32
    . have e1:((s[k]'hlt)==10)=false:=(by first | omega | (simp;omega) | exact u8_eq zg | exact u8_ne zg)
      have e2:(((s[k]'hlt).toNat:Int)<32)=True:=(by first | omega | (simp;omega) | exact u8_eq zg | exact u8_ne zg)
      have hbad:=J (ok_bad _ k _ HU.out (by simp[okQ];omega));clear c1 c2;go_wp2_with fail;go_ret2;rw[hbad.out] at hr;simp only[Bool.false_eq_true,if_false,Prod.mk.injEq] at hr;obtain⟨rfl,rfl⟩:=hr;exact⟨rfl,rfl⟩
    by_cases c3:126<(s[k]'hlt).toNat
    . have e1:((s[k]'hlt)==10)=false:=(by first | omega | (simp;omega) | exact u8_eq zg | exact u8_ne zg)
      have e2:(((s[k]'hlt).toNat:Int)<32)=False:=(by first | omega | (simp;omega) | exact u8_eq zg | exact u8_ne zg)
      have e3:(126<((s[k]'hlt).toNat:Int))=True:=(by first | omega | (simp;omega) | exact u8_eq zg | exact u8_ne zg)
      have hbad:=J (ok_bad _ k _ HU.out (by simp[okQ];omega));clear c1 c2 c3;go_wp2_with fail;go_ret2;rw[hbad.out] at hr;simp only[Bool.false_eq_true,if_false,Prod.mk.injEq] at hr;obtain⟨rfl,rfl⟩:=hr;exact⟨rfl,rfl⟩
    by_cases c4:(s[k]'hlt).toNat=34
    . have e1:((s[k]'hlt)==10)=false:=(by first | omega | (simp;omega) | exact u8_eq zg | exact u8_ne zg)
      have e2:(((s[k]'hlt).toNat:Int)<32)=False:=(by first | omega | (simp;omega) | exact u8_eq zg | exact u8_ne zg)
      have e3:(126<((s[k]'hlt).toNat:Int))=False:=(by first | omega | (simp;omega) | exact u8_eq zg | exact u8_ne zg)
      have e4:((s[k]'hlt)==34)=true:=(by first | omega | (simp;omega) | exact u8_eq zg | exact u8_ne zg)
      have hq1:quo1 (s[k]'hlt)=[92,s[k]'hlt]:=(by rw[quo1,if_neg c1,if_pos (Or.inl c4)])
      have hst:=qbJ _ k _ HU.out;rw[hq1] at hst;have HST:=J hst;have HOK:=J (by rw[ok_step _ k _ HU.out HK.out];simp[okQ];omega:(s.data.toList.take (k+1)).all okQ=true);clear hq1 hst;clear c1 c2 c3 c4;go_wp2_with fail;go_roundw
      case rel =>
       refine ⟨k+1,acc++[92,s[k]'hlt],by go_num,Y,HOK.out,?_,?_,by trivial⟩
       . rw[HST.out,HAC.out];simp
       . exact congrArg Value.string (ba_app acc [92,s[k]'hlt])
      case measure=>simp[intOf];omega
    by_cases c5:(s[k]'hlt).toNat=92
    . have e1:((s[k]'hlt)==10)=false:=(by first | omega | (simp;omega) | exact u8_eq zg | exact u8_ne zg)
      have e2:(((s[k]'hlt).toNat:Int)<32)=False:=(by first | omega | (simp;omega) | exact u8_eq zg | exact u8_ne zg)
      have e3:(126<((s[k]'hlt).toNat:Int))=False:=(by first | omega | (simp;omega) | exact u8_eq zg | exact u8_ne zg)
      have e4:((s[k]'hlt)==34)=false:=(by first | omega | (simp;omega) | exact u8_eq zg | exact u8_ne zg)
      have e5:((s[k]'hlt)==92)=true:=(by first | omega | (simp;omega) | exact u8_eq zg | exact u8_ne zg)
      have hq1:quo1 (s[k]'hlt)=[92,s[k]'hlt]:=(by rw[quo1,if_neg c1,if_pos (Or.inr c5)])
      have hst:=qbJ _ k _ HU.out;rw[hq1] at hst;have HST:=J hst;have HOK:=J (by rw[ok_step _ k _ HU.out HK.out];simp[okQ];omega:(s.data.toList.take (k+1)).all okQ=true);clear hq1 hst;clear c1 c2 c3 c4 c5;go_wp2_with fail;go_roundw
      case rel =>
       refine ⟨k+1,acc++[92,s[k]'hlt],by go_num,Y,HOK.out,?_,?_,by trivial⟩
       . rw[HST.out,HAC.out];simp
       . exact congrArg Value.string (ba_app acc [92,s[k]'hlt])
      case measure=>simp[intOf];omega
    . have e1:((s[k]'hlt)==10)=false:=(by first | omega | (simp;omega) | exact u8_eq zg | exact u8_ne zg)
      have e2:(((s[k]'hlt).toNat:Int)<32)=False:=(by first | omega | (simp;omega) | exact u8_eq zg | exact u8_ne zg)
      have e3:(126<((s[k]'hlt).toNat:Int))=False:=(by first | omega | (simp;omega) | exact u8_eq zg | exact u8_ne zg)
      have e4:((s[k]'hlt)==34)=false:=(by first | omega | (simp;omega) | exact u8_eq zg | exact u8_ne zg)
      have e5:((s[k]'hlt)==92)=false:=(by first | omega | (simp;omega) | exact u8_eq zg | exact u8_ne zg)
      have hq1:quo1 (s[k]'hlt)=[s[k]'hlt]:=(by rw[quo1,if_neg c1,if_neg Y])
      have hst:=qbJ _ k _ HU.out;rw[hq1] at hst;have HST:=J hst;have HOK:=J (by rw[ok_step _ k _ HU.out HK.out];simp[okQ];omega:(s.data.toList.take (k+1)).all okQ=true);clear hq1 hst;clear c1 c2 c3 c4 c5;go_wp2_with fail;go_roundw
      case rel =>
       refine ⟨k+1,acc++[s[k]'hlt],by go_num,Y,HOK.out,?_,?_,by trivial⟩
       . rw[HST.out,HAC.out];simp
       . exact congrArg Value.string (ba_app acc [s[k]'hlt])
      case measure=>simp[intOf];omega
  . have hks:k=s.size:=Y;have hd:=ok_done s.data.toList k zg HK.out;rw[if_pos hd] at hr;simp only[Prod.mk.injEq] at hr;obtain⟨rfl,rfl⟩:=hr;have he:acc=34::s.data.toList.flatMap quo1:=(by have:=HAC.out;rwa [List.take_of_length_le zg] at this)
    have HE:=J he;subst hks;clear hd he;go_wp2_with fail;go_ret2;refine ⟨?_,rfl⟩;have hb:=ba_app acc [34];rw[<-HE.out]
    simpa using hb
def qco (s:ByteArray) (w:World):Calls prog 188 #[.string s] w fun e w'=>e=.returned (.bool (nameOk s))/\Ext w w':=by
 unfold nameOk;obtain⟨l,e,x,hl⟩:∃ l e x,lexF s.data.toList=(l,e,x):=⟨_,_,_,rfl⟩
 have T:=J (fun w=>tok16 s _ hl w);rw[hl];clear hl;by_cases he:e=0;rotate_left
 . have q0:(e==0)=false:=by simpa using he
   have hr:nameR (l,e,x) s=false:=by
    unfold nameR;dsimp only;rw[q0,Bool.false_and]
   clear q0;rw[hr];have HE:=J he;have q:(e==0)=false:=by simpa using he
   clear hr he;go_enter func188,ntmps188
   go_wp2_with (((with_reducible refine (T.out _).mono ?_);rintro e' w1 (⟨h2,_⟩ | ⟨_,he,d1,os1,rfl⟩);exact absurd h2 HE.out;dsimp only at he;subst he))
   go_ret;exact⟨rfl,jz⟩
 subst he;by_cases h2:l.length=2;rotate_left
 . have hr:nameR (l,0,x) s=false:=by
     unfold nameR
     match l,h2 with
     | [],_=>rfl
     | [_],_=>rfl
     | [_,_],h=>exact absurd rfl h
     | _::_::_::_,_=>rfl
   rw[hr];have q:(((l.length:Nat):Int)==2)=false:=beq_eq_false_iff_ne.2 Y;clear hr h2;go_enter func188,ntmps188
   go_wp2_with (((with_reducible refine (T.out _).mono ?_);rintro e' w1 (⟨_,g,cap,he,hrow,d1,os1,rfl⟩ | ⟨h2,_⟩);rotate_left;exact absurd rfl h2;dsimp only at he;subst he;clear hrow))
   go_ret;exact⟨rfl,jz⟩
 match l,h2 with
 | [((⟨tk,ts,ti⟩:Tok),p0),t1],_ =>
  have hr:nameR ([((⟨tk,ts,ti⟩:Tok),p0),t1],0,x) s=(tk==1&&ts.toList==s.toList):=rfl;rw[hr];cases q1:(tk==1)<;>cases q2:(ts.toList==s.toList)
  all_goals
   go_enter func188,ntmps188
   go_wp2_with (((with_reducible refine (T.out _).mono ?_);rintro e' w1 (⟨_,g,cap,he,hrow,hx⟩ | ⟨h2,_⟩);rotate_left;exact absurd rfl h2;dsimp only[List.length_cons,List.length_nil] at he hrow;subst he;have hgs:=(hrow.lt g rfl).2;have k0:=tokcM hrow 0 _ rfl;have k2:=tokcM hrow 2 _ rfl;clear hrow;have HX:=J hx;clear hx))
   go_ret;exact⟨rfl,HX.out.trans zf⟩
def qbB (zk za zb zc zx zi:Int) (zs zt:ByteArray) (w:World):Calls prog 190 #[.agg #[.int .i64 zk,.int .i64 za,.int .i64 zb,.int .i64 zc,.int .i64 zx,.int .i64 zi,.string zs,.string zt]] w fun e w'=>e=.returned (.int .i64 (qbf zk zs))/\Ext w w':=by
 by_cases h0:zk<0
 . have hc:qbf zk zs=-1:=by unfold qbf;rw[if_pos (Or.inl h0)]
   rw[hc];have h1:(0<=zk)=False:=zg;have h2:(zk==11)=false:=zg;clear hc;go_enter func190,ntmps190;go_wp2_with fail;go_ret;exact⟨rfl,zq⟩
 by_cases h1:zk<=10
 . have hc:qbf zk zs=6:=by unfold qbf;rw[if_neg Y,if_pos Y]
   rw[hc];have h2:0<=zk:=Y;clear hc h0;go_enter func190,ntmps190;go_wp2_with fail;go_ret;exact⟨rfl,zq⟩
 by_cases h2:zk=11
 . subst h2;have hk:(qbf 11 zs)=(qcp zs.data.toList).getD (-1):=rfl;rw[hk];have hb:∀ l:List UInt8,(zs.toList==l)=(zs.data.toList==l):=fun l=>by rw[Lib.toList_data]
   rcases close_mem zs.data.toList with h | h
   . have hz:zs=⟨zs.data.toList.toArray⟩:=rfl;rcases h with h | h | h | h | h | h | h | h | h | h | h | h | h | h
     all_goals
      rw[h] at hz;subst hz;clear hk hb h h0 h1;go_enter func190,ntmps190;go_wp2_with fail;go_ret;exact⟨jy,zq⟩
   . obtain⟨a0,a1,a2,a3,a4,a5,a6,a7,a8,a9,a10,a11,a12,a13⟩:=h
     have hn:qcp zs.data.toList=none:=by
      unfold qcp closeTab;simp only[List.find?_cons,List.find?_nil,a0,a1,a2,a3,a4,a5,a6,a7,a8,a9,a10,a11,a12,a13];rfl
     rw[hn];have q0:(zs.toList==[111,114])=false:=(by rw[Lib.toList_data,BEq.comm];exact a0)
     have q1:(zs.toList==[97,110,100])=false:=(by rw[Lib.toList_data,BEq.comm];exact a1)
     have q2:(zs.toList==[61,61])=false:=(by rw[Lib.toList_data,BEq.comm];exact a2)
     have q3:(zs.toList==[33,61])=false:=(by rw[Lib.toList_data,BEq.comm];exact a3)
     have q4:(zs.toList==[60])=false:=(by rw[Lib.toList_data,BEq.comm];exact a4)
     have q5:(zs.toList==[60,61])=false:=(by rw[Lib.toList_data,BEq.comm];exact a5)
     have q6:(zs.toList==[62])=false:=(by rw[Lib.toList_data,BEq.comm];exact a6)
     have q7:(zs.toList==[62,61])=false:=(by rw[Lib.toList_data,BEq.comm];exact a7)
     have q8:(zs.toList==[46,46])=false:=(by rw[Lib.toList_data,BEq.comm];exact a8)
     have q9:(zs.toList==[43])=false:=(by rw[Lib.toList_data,BEq.comm];exact a9)
     have q10:(zs.toList==[45])=false:=(by rw[Lib.toList_data,BEq.comm];exact a10)
     have q11:(zs.toList==[42])=false:=(by rw[Lib.toList_data,BEq.comm];exact a11)
     have q12:(zs.toList==[47])=false:=(by rw[Lib.toList_data,BEq.comm];exact a12)
     have q13:(zs.toList==[37])=false:=(by rw[Lib.toList_data,BEq.comm];exact a13)
     clear a0 a1 a2 a3 a4 a5 a6 a7 a8 a9 a10 a11 a12 a13 hn hk hb h0 h1;go_enter func190,ntmps190;go_wp2_with fail;go_ret;exact⟨rfl,zq⟩
 . have hc:qbf zk zs=-1:=by unfold qbf;rw[if_pos Y]
   rw[hc];have h3:(zk<=10)=False:=zg;have h4:(zk==11)=false:=by simpa using h2
   clear hc;go_enter func190,ntmps190;go_wp2_with fail;go_ret;exact⟨rfl,zq⟩
def qaS {w:World} (hr:w.ownsRow 0 166 8 nv ns.length (qac ns)) {k:Nat} (hk:k<ns.length):∃ g c,nv=.slice (some ⟨g,0,none⟩) ns.length c/\g<w.heap.size/\w.cell? ⟨g,k*8,none⟩=some (.int .i64 (qcD ns (k:Int))):=by
 obtain⟨z,hz⟩:∃ z,ns[k]?=some z:=⟨ns[k]'hk,List.getElem?_eq_getElem hk⟩
 rcases Go.Joins.ownsRow_forms hr with ⟨h1,h0⟩ | ⟨g1,c1,h0⟩
 . omega
 . subst h0;refine ⟨g1,c1,rfl,(hr.lt g1 rfl).2,?_⟩;have hkz:qcD ns (k:Int)=z.k:=by unfold qcD;rw[Int.toNat_natCast,hz]
   rw[hkz];exact(nd_at hr hz).1
def qbs (fi:Int) {w:World} (hr:w.ownsRow 0 166 8 nv ns.length (qac ns)) (k i:Int) (hi:i<=(ns.length:Int)):Calls prog 187 #[.agg #[nv,.int .i64 fi],.int .i64 k,.int .i64 i] w fun e w'=>e=.returned (.bool (qam ns k 0 i false))/\Ext w w':=by
 by_cases h0:k<0
 . have hr1:qam ns k 0 i false=false:=by unfold qam;rw[show decide (0<=k)=false by simp;omega];rfl
   have q:(0<=k)=False:=zg;rw[hr1];clear hr1 h0;go_enter func187,ntmps187;go_wp2_with fail;go_ret;exact⟨rfl,zq⟩
 by_cases h2:i<=k
 . have hr1:qam ns k 0 i false=false:=by unfold qam;rw[show decide (k<i)=false by simp;omega,Bool.and_false];rfl
   have q:(k<i)=False:=zg;have q0:0<=k:=Y;rw[hr1];clear hr1 h0 h2;go_enter func187,ntmps187;go_wp2_with fail;go_ret;exact⟨rfl,zq⟩
 obtain⟨k,rfl⟩:∃ m:Nat,k=(m:Int):=⟨k.toNat,Y⟩
 have hkn:k<ns.length:=Y;obtain⟨g,c,rfl,hg,hc⟩:=qaS hr hkn;have hki:(k:Int)<i:=Y;have hkl:(k:Int)<(ns.length:Int):=Y;have hk0:0<=(k:Int):=Y;obtain⟨kk,hkk⟩:∃ kk,qcD ns (k:Int)=kk:=⟨_,rfl⟩
 have hr1:qam ns (k:Int) 0 i false=decide (kk<20):=by
  unfold qam;rw[show decide ((0:Int)<=(k:Int))=true by simp,show decide ((k:Int)<i)=true by simp;omega,hkk];by_cases e:(20:Int)<=kk
  . have e2:(kk<20)=False:=zg;simp[e,e2]
  . have e2:kk<20:=Y;simp[e,e2]
 rw[hkk] at hc;rw[hr1];clear hr1 hkk hr h0 h2 hi hkn;go_enter func187,ntmps187;go_wp2_with fail;go_ret;exact⟨rfl,zq⟩
def qaV (fi:Int) {w:World} (hr:w.ownsRow 0 166 8 nv ns.length (qac ns)) (k i:Int) (hi:i<=(ns.length:Int)):Calls prog 147 #[.agg #[nv,.int .i64 fi],.int .i64 k,.int .i64 i] w fun e w'=>e=.returned (.bool (blkB ns k i))/\Ext w w':=by
 by_cases h1:k=-1
 . subst h1;have hr1:blkB ns (-1) i=true:=rfl;rw[hr1];clear hr1;go_enter func147,ntmps147;go_wp2_with fail;go_ret;exact⟨rfl,zq⟩
 have e1:(k==-1)=false:=by simpa using h1
 have hrb:blkB ns k i=qam ns k 0 i true:=by unfold blkB;rw[e1,Bool.false_or]
 rw[hrb];clear hrb h1;by_cases h0:k<0
 . have hr1:qam ns k 0 i true=false:=by unfold qam;rw[show decide (0<=k)=false by simp;omega];rfl
   have q:(0<=k)=False:=zg;rw[hr1];clear hr1 h0;go_enter func147,ntmps147;go_wp2_with fail;go_ret;exact⟨rfl,zq⟩
 by_cases h2:i<=k
 . have hr1:qam ns k 0 i true=false:=by unfold qam;rw[show decide (k<i)=false by simp;omega,Bool.and_false];rfl
   have q:(k<i)=False:=zg;have q0:0<=k:=Y;rw[hr1];clear hr1 h0 h2;go_enter func147,ntmps147;go_wp2_with fail;go_ret;exact⟨rfl,zq⟩
 obtain⟨k,rfl⟩:∃ m:Nat,k=(m:Int):=⟨k.toNat,Y⟩
 have hkn:k<ns.length:=Y;obtain⟨g,c,rfl,hg,hc⟩:=qaS hr hkn;have hki:(k:Int)<i:=Y;have hkl:(k:Int)<(ns.length:Int):=Y;have hk0:0<=(k:Int):=Y;obtain⟨kk,hkk⟩:∃ kk,qcD ns (k:Int)=kk:=⟨_,rfl⟩
 have hr1:qam ns (k:Int) 0 i true=decide (20<=kk):=by
  unfold qam;rw[show decide ((0:Int)<=(k:Int))=true by simp,show decide ((k:Int)<i)=true by simp;omega,hkk];by_cases e:(20:Int)<=kk
  . have e2:(kk<20)=False:=zg;simp[e,e2]
  . have e2:kk<20:=Y;simp[e,e2]
 rw[hkk] at hc;rw[hr1];clear hr1 hkk hr h0 h2 hi hkn;go_enter func147,ntmps147;go_wp2_with fail;go_ret;exact⟨rfl,zq⟩
def qdJ {zt:ByteArray} (h:nameOk zt=true) (h0:nameOk ⟨#[]⟩=false):zt.toList.isEmpty=false:=by
 cases he:zt.toList.isEmpty with
 | false=>rfl
 | true =>
  rw[Lib.toList_data,List.isEmpty_iff] at he
  have h2:zt=⟨#[]⟩:=by
   cases zt with
   | mk d=>simp at he;subst he;rfl
  rw[h2,h0] at h;cases h
def qcM {w:World} {G c j:Nat} {zx:Int} (hr:w.ownsRow 0 166 8 (.slice (some ⟨G,0,none⟩) ns.length c) ns.length (qac ns)) (hj:j<ns.length) :
  zx=-1\/((zx==-1)=false/\(zx !=-1)=true/\qam ns zx ((j:Int)+1) ns.length true=false/\(zx<=(j:Int)\/((zx<=(j:Int))=False/\(ns.length:Int)<=zx))) \/
  ∃ (x:Nat) (kk:Int),zx=(x:Int)/\((x:Int)==-1)=false/\((x:Int) !=-1)=true/\((x:Int)<=(j:Int))=False/\(x<=j)=False/\((ns.length:Int)<=(x:Int))=False/\(ns.length<=x)=False/\0<=(x:Int)/\(x:Int)<(ns.length:Int)/\w.cell? ⟨G,x*8,none⟩=some (.int .i64 kk)/\qam ns (x:Int) ((j:Int)+1) ns.length true=decide (20<=kk):=by
 by_cases hx:zx=-1
 . exact .inl hx
 refine .inr ?_;have p4:(zx==-1)=false:=by simpa using hx
 have p5:(zx !=-1)=true:=by rw[bne_iff_ne];exact hx
 by_cases hx1:zx<=(j:Int)
 . exact .inl ⟨p4,p5,by unfold qam;rw[show decide ((j:Int)+1<=zx)=false by(simp;omega)];rfl,.inl hx1⟩
 by_cases hx2:(ns.length:Int)<=zx
 . exact .inl ⟨p4,p5,by unfold qam;rw[show decide (zx<(ns.length:Int))=false by(simp;omega),Bool.and_false];rfl,.inr ⟨zg,hx2⟩⟩
 obtain⟨x,rfl⟩:∃ x:Nat,zx=(x:Int):=⟨zx.toNat,Y⟩
 obtain⟨g1,c1,hv,-,hcx⟩:=qaS hr (k:=x) Y;cases hv;refine .inr ⟨x,_,rfl,p4,p5,zg,zg,zg,zg,Y,Y,hcx,?_⟩;unfold qam;rw[show decide ((j:Int)+1<=(x:Int))=true by(simp;omega),show decide ((x:Int)<(ns.length:Int))=true by(simp;omega)];by_cases hk:20<=qcD ns (x:Int)<;>simp[hk]
end Go.Proofs.YtpnabjopfpdkhaaGreatDoor
