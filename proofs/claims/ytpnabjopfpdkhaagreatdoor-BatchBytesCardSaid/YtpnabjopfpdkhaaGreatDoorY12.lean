/- Lemmas. -/
import Derived.Test.YtpnabjopfpdkhaaGreatDoorY02
set_option linter.all false
set_option maxHeartbeats 4000000
set_option maxRecDepth 20000
namespace Go.Proofs.YtpnabjopfpdkhaaGreatDoor
open Tryz RowKit
attribute [go_sem] more_more Array.size_append
def qaN (c:Int) (h0:0<=c) (h1:c<256) (w:World):Calls prog 139 #[.int .u8 c] w fun e w'=>e=.returned (.bool (qar c))/\w=w':=by
 go_enter func139,ntmps139
 go_wp2
 all_goals
  go_ret;refine ⟨ret_bool (by first | (rw[Bool.eq_iff_iff];simp[qar];omega) | (simp[qar];omega)),rfl⟩
def qbl (c:Int) (h0:0<=c) (h1:c<256) (w:World):Calls prog 140 #[.int .u8 c] w fun e w'=>e=.returned (.bool (qah c))/\w=w':=by
 go_enter func140,ntmps140
 go_wp2
 all_goals
  go_ret;refine ⟨ret_bool (by first | (rw[Bool.eq_iff_iff];simp[qah];omega) | (simp[qah];omega)),rfl⟩
def qaT (s:ByteArray) (m:Nat) (h:m<s.size):s.data.toList.drop m=s[m]'h::s.data.toList.drop (m+1):=List.drop_eq_getElem_cons jx
def qcH (s:ByteArray):s.data.toList.drop s.size=[]:=List.drop_eq_nil_of_le zy
def beqI {a b:Int} (h:(a==b)=true):a=b:=by simpa using h
def bneI {a b:Int} (h:(a==b)=false):¬ a=b:=by simpa using h
def skip16 (s:ByteArray) (hs:(s.size:Int)<=5000) (k n:Nat) (hk:k<=s.size) (hn:k+skipL false (s.data.toList.drop k)=n) (w:World) :
    Calls prog 116 #[.string s,.int .i64 (k:Int)] w fun e w'=>e=.returned (.int .i64 (n:Int))/\w=w':=by
  have HN:=J hn;clear hn;go_enter func116,ntmps116;go_wp2_with fail;go_loopw [1] (fun a wr=>∃ m:Nat,a=.int .i64 (m:Int)/\m<=s.size/\m+skipL false (s.data.toList.drop m)=n/\wr=w) (fun a _=>s.size-(intOf a).toNat)
  case atStart=>exact⟨k,rfl,hk,HN.out,rfl⟩
  case round =>
    obtain⟨m,rfl,hm,hsp,rfl⟩:=hrel;have HS:=J hsp;clear hsp;have hm5:(m:Int)<=5000:=Y;by_cases hlt:m<s.size
    . have hlt2:(m:Int)<(s.size:Int):=Y;have hd:=J (qaT s m hlt);have hu:=(s[m]'hlt).toNat_lt;have HLT:=J hlt;cases q1:(((s[m]'hlt).toNat:Int)==32)<;>cases q2:(((s[m]'hlt).toNat:Int)==9)<;>cases q3:(((s[m]'hlt).toNat:Int)==10);rotate_left
      all_goals try(exfalso;have a1:=q1;have a2:=q2;have a3:=q3;simp only[beq_iff_eq] at a1 a2 a3;omega)
      all_goals try
        (have HS2:Hid (m+1+skipL false (s.data.toList.drop (m+1))=n):=J (by
          have h:=HS.out;rw[hd.out,skipL,if_pos (by have a1:=q1;have a2:=q2;have a3:=q3;simp only[beq_iff_eq] at a1 a2 a3;omega)] at h
          omega)
         go_wp2_with fail;go_roundw
         case rel=>exact⟨m+1,by go_num,by have:=HLT.out;omega,HS2.out,by first | rfl | trivial⟩
         case measure=>have:=HLT.out;simp[intOf];omega)
      cases q4:(((s[m]'hlt).toNat:Int)==35)
      . have HE:Hid (m=n):=J (by
          have h:=HS.out;rw[hd.out,skipL,if_neg (by have a1:=bneI q1;have a2:=bneI q2;have a3:=bneI q3;omega),if_neg (by have a4:=bneI q4;omega)] at h
          omega)
        go_wp2_with fail;go_ret
        exact⟨ret_int (by have:=HE.out;omega),rfl⟩
      . have HS2:Hid (m+skipL true (s.data.toList.drop m)=n):=J (by
          have h:=HS.out;have a4:=beqI q4;rw[hd.out,skipL,if_neg Y,if_pos Y] at h;rw[hd.out,skipL,if_neg Y]
          omega)
        have Q4:=J q4;go_wp2_with fail;go_loopw [1] (fun a wr2=>∃ m2:Nat,a=.int .i64 (m2:Int)/\m<=m2/\m2<=s.size/\m2+skipL true (s.data.toList.drop m2)=n/\wr2=wr) (fun a _=>s.size-(intOf a).toNat)
        case atStart=>exact⟨m,rfl,Nat.le_refl _,hm,HS2.out,rfl⟩
        case round =>
          obtain⟨m2,rfl,hm1,hm2,hsp,rfl⟩:=hrel;have HS3:=J hsp;clear hsp q1 q2 q3 q4;by_cases hlt3:m2<s.size
          . have hlt4:(m2:Int)<(s.size:Int):=Y;have hd2:=J (qaT s m2 hlt3);have hu2:=(s[m2]'hlt3).toNat_lt;have HLT3:=J hlt3;cases q5:(((s[m2]'hlt3).toNat:Int)==10)
            . have HS4:Hid (m2+1+skipL true (s.data.toList.drop (m2+1))=n):=J (by
                have h:=HS3.out;rw[hd2.out,skipL,if_neg (by have a4:=bneI q5;omega)] at h
                omega)
              go_wp2_with fail;go_roundw
              case rel=>exact⟨m2+1,by go_num,Y,by have:=HLT3.out;omega,HS4.out,by first | rfl | trivial⟩
              case measure=>have:=HLT3.out;simp[intOf];omega
            . have HS4:Hid (m2+skipL false (s.data.toList.drop m2)=n):=J (by
                have h:=HS3.out;have a4:=beqI q5;rw[hd2.out,skipL,if_pos Y] at h;rw[hd2.out,skipL,if_pos Y]
                omega)
              have hmm:m<m2:=by
                rcases Nat.lt_or_ge m m2 with h | h
                . exact h
                . have:m=m2:=by omega
                  subst this;have a4:=beqI q5;have a5:=beqI Q4.out;omega
              go_wp2_with fail;go_roundw
              case rel=>exact⟨m2,rfl,hm2,HS4.out,by first | rfl | trivial⟩
              case measure=>have:=HLT.out;simp[intOf];omega
          . have hme:m2=s.size:=Y;subst hme
            have HS4:Hid (s.size+skipL false (s.data.toList.drop s.size)=n):=J (by
              have h:=HS3.out;rw[qcH] at h ⊢
              exact h)
            clear hlt3;go_wp2_with fail;go_roundw
            case rel=>exact⟨s.size,rfl,Nat.le_refl _,HS4.out,by first | rfl | trivial⟩
            case measure=>have:=HLT.out;simp[intOf];omega
    . have hme:m=s.size:=Y;subst hme
      have HE:Hid (s.size=n):=J (by
        have h:=HS.out;rw[qcH] at h
        simpa [skipL] using h)
      clear hlt;go_wp2_with fail;go_ret;exact⟨ret_int (by have:=HE.out;omega),rfl⟩
def numG_big:∀ (l:List UInt8) (v:Int),9223372036854775807<v->numG v l=none
 | [],v,h=>by unfold numG;rw[if_pos h]
 | c::l,v,h=>by unfold numG;rw[if_pos Y]
def numV:Option Int->Value
 | some v=>.tuple #[.int .i64 v,.bool true]
 | none=>.tuple #[.int .i64 0,.bool false]
def number16 (t:ByteArray) (hs:(t.size:Int)<=5000) (hd:∀ j (h:j<t.size),48<=((t[j]'h).toNat:Int)/\((t[j]'h).toNat:Int)<=57) (R:Option Int) (hr:numG 0 t.data.toList=R) (w:World) :
  Calls prog 142 #[.string t] w fun e w'=>e=.returned (numV R)/\w=w':=by
 have HR:=J hr;have HD:=J hd;clear hr hd;go_enter func142,ntmps142;go_wp2_with fail;go_loopw [4,5] (fun vv a wr=>∃ (m:Nat) (v:Int),a=.int .i64 (m:Int)/\vv=.int .i64 v/\m<=t.size/\0<=v/\v<=9223372036854775807/\numG v (t.data.toList.drop m)=R/\wr=w) (fun _ a _=>t.size-(intOf a).toNat)
 case atStart=>exact⟨0,0,rfl,rfl,Nat.zero_le _,zw,zw,HR.out,rfl⟩
 case round =>
  obtain⟨m,v,rfl,rfl,hm,hv0,hv1,hg,rfl⟩:=hrel;have HG:=J hg;clear hg HR;have hm5:(m:Int)<=5000:=Y;by_cases hlt:m<t.size
  . have hlt2:(m:Int)<(t.size:Int):=Y;have hdd:=J (qaT t m hlt);obtain⟨d0,d1⟩:=HD.out m hlt;have HLT:=J hlt;by_cases hb:922337203685477580<v
    . have HE:Hid (R=none):=J (by rw[<-HG.out,hdd.out];unfold numG;rw[if_pos hb]);clear hm;go_wp2_with fail;have:=HE.out;subst this;go_ret2;exact⟨rfl,rfl⟩
    . have hb2:v<=922337203685477580:=Y;by_cases hq:v=922337203685477580/\55<((t[m]'hlt).toNat:Int)
      . have HE:Hid (R=none):=J (by rw[<-HG.out,hdd.out];unfold numG;rw[if_neg Y];exact numG_big _ _ Y);obtain⟨rfl,hq2⟩:=hq;have hq3:7<((t[m]'hlt).toNat:Int)-48:=Y;clear hm hb;go_wp2_with fail;have:=HE.out;subst this;go_ret2;exact⟨rfl,rfl⟩
      . have HG2:Hid (numG (10*v+(((t[m]'hlt).toNat:Int)-48)) (t.data.toList.drop (m+1))=R):=J (by
          have h:=HG.out
          rw[hdd.out] at h;unfold numG at h;rw[if_neg Y] at h;exact h)
        have hv2:0<=10*v+(((t[m]'hlt).toNat:Int)-48):=Y;have hv3:10*v+(((t[m]'hlt).toNat:Int)-48)<=9223372036854775807:=Y;have hnb:¬ 922337203685477580<v:=Y;cases qv:(v==922337203685477580)
        . clear hq hb
          go_wp2_with fail;go_roundw
          case rel=>exact⟨m+1,_,by go_num,rfl,by have:=HLT.out;omega,hv2,hv3,HG2.out,by first | rfl | trivial⟩
          case measure=>have:=HLT.out;simp[intOf];omega
        . have hq3:((t[m]'hlt).toNat:Int)-48<=7:=(by have:=beqI qv;omega)
          clear hq hb;go_wp2_with fail;go_roundw
          case rel=>exact⟨m+1,_,by go_num,rfl,by have:=HLT.out;omega,hv2,hv3,HG2.out,by first | rfl | trivial⟩
          case measure=>have:=HLT.out;simp[intOf];omega
  . have hme:m=t.size:=Y;subst hme;have HE:Hid (R=some v):=J (by rw[<-HG.out,qcH];unfold numG;rw[if_neg Y]);clear hlt;go_wp2_with fail;have:=HE.out;subst this;go_ret2;exact⟨rfl,rfl⟩
def ext_one (s:ByteArray) (m:Nat) (h:m<s.size):s.extract m (m+1)=⟨#[s[m]'h]⟩:=by
 rw[qaQ,qaT s m h];simp
def snocA (acc:List UInt8) (u:UInt8):(⟨acc.toArray⟩:ByteArray)++⟨#[u]⟩=⟨(acc++[u]).toArray⟩:=by
 apply ByteArray.ext;simp
def TxPost (r:Tok) (n:Nat) (e:Int) (w:World) (e':Ending) (w':World):Prop :=
 (∃ (q:ByteArray) (z:Int),e'=.returned (.tuple #[.string q,.int .i64 z,.int .i64 e])/\(e=0->q=r.s/\z=n))/\w=w'
def text16 (s:ByteArray) (hs:(s.size:Int)<=5000) (k n:Nat) (hk:k<s.size) (r:Tok) (e:Int) (h1:(textG (s.data.toList.drop (k+1)) []).1=r) (h2:k+1+(textG (s.data.toList.drop (k+1)) []).2.1=n) (h3:(textG (s.data.toList.drop (k+1)) []).2.2=e) (w:World) :
  Calls prog 143 #[.string s,.int .i64 (k:Int)] w (TxPost r n e w):=by
 have HR:=J (And.intro h1 (And.intro h2 h3));have hk5:(k:Int)<=5000:=Y;clear h1 h2 h3;go_enter func143,ntmps143;go_wp2_with fail;go_loopw [7,8] (fun x y wr=>∃ (m:Nat) (acc:List UInt8),x=.string ⟨acc.toArray⟩/\y=.int .i64 (m:Int)/\m<=s.size/\acc.length<=m/\(textG (s.data.toList.drop m) acc).1=r/\m+(textG (s.data.toList.drop m) acc).2.1=n/\(textG (s.data.toList.drop m) acc).2.2=e/\wr=w) (fun _ y _=>s.size-(intOf y).toNat)
 case atStart=>exact⟨k+1,[],rfl,by go_num,Y,Nat.zero_le _,HR.out.1,HR.out.2.1,HR.out.2.2,rfl⟩
 case round =>
  obtain⟨m,acc,rfl,rfl,hm,hac,g1,g2,g3,rfl⟩:=hrel;have HG:=J (And.intro g1 (And.intro g2 g3));clear g1 g2 g3 HR;have hm5:(m:Int)<=5000:=Y;have hz:(⟨acc.toArray⟩:ByteArray).size=acc.length:=by simp[ByteArray.size]
  have ha5:(acc.length:Int)<=5000:=Y;by_cases hlt:m<s.size
  . have hlt2:(m:Int)<(s.size:Int):=Y;have hd:=J (qaT s m hlt);have hu:=(s[m]'hlt).toNat_lt;have HLT:=J hlt;have HG1:=J (textG_cons (s[m]'hlt) (s.data.toList.drop (m+1)) acc);cases q1:(((s[m]'hlt).toNat:Int)==34);rotate_left
    . by_cases h64:64<acc.length
      . have HE:Hid (e=5):=J (by
          have h:=HG.out.2.2;have a:=beqI q1
          rw[hd.out,HG1.out,if_pos Y,if_pos h64] at h;exact h.symm)
        have h642:(64:Int)<(acc.length:Int):=Y;clear h64;go_wp2_with fail;go_ret3;exact yay
      . have HE:Hid (r=⟨3,⟨acc.toArray⟩,0⟩/\n=m+1/\e=0):=J (by
          obtain⟨a1,a2,a3⟩:=HG.out;have a:=beqI q1;rw[hd.out,HG1.out,if_pos Y,if_neg h64] at a1 a2 a3
          exact⟨a1.symm,a2.symm,a3.symm⟩)
        have h642:(acc.length:Int)<=64:=Y;clear h64;go_wp2_with fail;go_ret3;obtain⟨e1,e2,e3⟩:=HE.out;exact⟨⟨⟨acc.toArray⟩,(m:Int)+1,by simp[e3],fun _=>⟨by rw[e1],by rw[e2];rfl⟩⟩,rfl⟩
    . by_cases hb:((s[m]'hlt).toNat:Int)<32\/126<((s[m]'hlt).toNat:Int)
      . have HE:Hid (e=3):=J (by
          have h:=HG.out.2.2;have a:=bneI q1
          rw[hd.out,HG1.out,if_neg Y,if_pos Y] at h;exact h.symm)
        rcases hb with hb | hb
        all_goals
         go_wp2_with fail;go_ret3;exact yay
      . have hb1:32<=((s[m]'hlt).toNat:Int):=Y;have hb2:((s[m]'hlt).toNat:Int)<=126:=Y;cases q2:(((s[m]'hlt).toNat:Int)==92)
        . have HE:Hid ((textG (s.data.toList.drop (m+1)) (acc++[s[m]'hlt])).1=r/\m+1+(textG (s.data.toList.drop (m+1)) (acc++[s[m]'hlt])).2.1=n/\(textG (s.data.toList.drop (m+1)) (acc++[s[m]'hlt])).2.2=e):=J (by
            obtain⟨a1,a2,a3⟩:=HG.out;have a:=bneI q1;have b:=bneI q2;rw[hd.out,HG1.out,if_neg Y,if_neg Y,if_pos Y] at a1 a2 a3;dsimp only at a1 a2 a3
            exact⟨a1,Y,a3⟩)
          have hx:=ext_one s m hlt;clear hb;go_wp2_with fail;go_roundw
          case rel=>exact⟨m+1,acc++[s[m]'hlt],by first | rw[snocA] | rw[hx,snocA],by go_num,by have:=HLT.out;omega,zg,HE.out.1,HE.out.2.1,HE.out.2.2,by first | rfl | trivial⟩
          case measure=>have:=HLT.out;simp[intOf];omega
        . by_cases hl1:m+1<s.size;rotate_left
          . have hl2:(m:Int)+1=(s.size:Int):=Y
            have HE:Hid (e=2):=J (by
             have h:=HG.out.2.2;have a:=bneI q1;have b:=beqI q2;have hd1:s.data.toList.drop (m+1)=[]:=List.drop_eq_nil_of_le zg
             rw[hd.out,HG1.out,if_neg Y,if_neg Y,if_neg Y,hd1] at h;exact h.symm)
            have hl3:((m:Int)+1==(s.size:Int))=true:=(by simpa using hl2)
            clear hb hl1;go_wp2_with fail;go_ret3;exact yay
          have hl3:((m:Int)+1==(s.size:Int))=false:=beq_eq_false_iff_ne.2 Y;have hl4:(m:Int)+1<(s.size:Int):=Y;have hv:=(s[m+1]'hl1).toNat_lt
          have HES:Hid (∀ z:UInt8,escZ ((s[m+1]'hl1).toNat:Int)=(z.toNat:Int)->z.toNat≠0->(textG (s.data.toList.drop (m+1+1)) (acc++[z])).1=r/\m+1+1+(textG (s.data.toList.drop (m+1+1)) (acc++[z])).2.1=n/\(textG (s.data.toList.drop (m+1+1)) (acc++[z])).2.2=e):=J (by
           intro z hz1 hz2;obtain⟨a1,a2,a3⟩:=HG.out;have a:=bneI q1;have b:=beqI q2;have hzz:UInt8.ofNat ((z.toNat:Int)).toNat=z:=zy;rw[hd.out,HG1.out,if_neg Y,if_neg Y,if_neg Y,qaT s (m+1) hl1] at a1 a2 a3;dsimp only at a1 a2 a3;rw[hz1,if_neg Y,hzz] at a1 a2 a3;dsimp only at a1 a2 a3
           exact⟨a1,Y,a3⟩)
          have HEN:Hid (escZ ((s[m+1]'hl1).toNat:Int)=0->e=3):=J (by
           intro hz1;have h:=HG.out.2.2;have a:=bneI q1;have b:=beqI q2;rw[hd.out,HG1.out,if_neg Y,if_neg Y,if_neg Y,qaT s (m+1) hl1] at h;dsimp only at h;rw[if_pos hz1] at h
           exact h.symm)
          have HL1:=J hl1;have hx:=ext_one s (m+1) hl1;clear hb;cases q3:(((s[m+1]'hl1).toNat:Int)==110)
          . cases q4:(((s[m+1]'hl1).toNat:Int)==34)<;>cases q5:(((s[m+1]'hl1).toNat:Int)==92)
            . have HE:Hid (e=3):=J (HEN.out (by unfold escZ;have a:=bneI q3;have b:=bneI q4;have c:=bneI q5;rw[if_neg Y,if_neg Y]))
              go_wp2_with fail;go_ret3;exact yay
            all_goals (try(exfalso;have a:=beqI q4;have b:=beqI q5;omega))
            all_goals
             have HE:=J (HES.out (s[m+1]'hl1) (by unfold escZ;rw[if_pos (by first | exact Or.inl (beqI q4) | exact Or.inr (beqI q5))]) (by first | (have:=beqI q4;omega) | (have:=beqI q5;omega)));go_wp2_with fail;go_roundw
             case rel=>exact⟨m+1+1,acc++[s[m+1]'hl1],by first | rw[snocA] | rw[hx,snocA],by go_num,by have:=HL1.out;omega,zg,HE.out.1,HE.out.2.1,HE.out.2.2,by first | rfl | trivial⟩
             case measure=>have:=HLT.out;simp[intOf];omega
          . have HE:=J (HES.out 10 (by unfold escZ;have a:=beqI q3;rw[if_neg Y,if_pos a];rfl) zw)
            go_wp2_with fail;go_roundw
            case rel=>exact⟨m+1+1,acc++[10],by rw[snocA],by go_num,by have:=HL1.out;omega,zg,HE.out.1,HE.out.2.1,HE.out.2.2,by first | rfl | trivial⟩
            case measure=>have:=HLT.out;simp[intOf];omega
  . have hme:m=s.size:=Y;subst hme
    have HE:Hid (e=2):=J (by
     have h:=HG.out.2.2
     rw[qcH] at h;exact h.symm)
    clear hlt;go_wp2_with fail;go_ret3;exact yay
def signN (l:List UInt8):Nat:=(signF l).2.1
def two_n (l:List UInt8) (p:ByteArray) (h:twoL.find? (fun q=>Lib.hasPrefix l q.data.toList)=some p):signN l=2/\signF l=(⟨4,p,0⟩,2,0):=by
 unfold signN signF;rw[h];exact⟨rfl,rfl⟩
def one_n (c:UInt8) (l:List UInt8) (h:twoL.find? (fun q=>Lib.hasPrefix (c::l) q.data.toList)=none):(singles.data.toList.contains c=true->signN (c::l)=1/\signF (c::l)=(⟨4,⟨#[c]⟩,0⟩,1,0))/\(singles.data.toList.contains c=false->signN (c::l)=0/\(signF (c::l)).2.2=3):=by
 unfold signN signF;rw[h];dsimp only
 constructor
 . intro h2;rw[if_pos h2];exact⟨rfl,rfl⟩
 . intro h2;rw[h2];exact⟨rfl,rfl⟩
def toL (s:ByteArray):s.toList=s.data.toList:=Lib.toList_data s
def qeP:∀ q∈twoL,∃ a b,q.data.toList=[a,b]:=by
 intro q hq;simp only[twoL,List.mem_cons,List.not_mem_nil,or_false] at hq;rcases hq with rfl | rfl | rfl | rfl | rfl<;>exact⟨_,_,rfl⟩
def qeh {α:Type} {f g:α->Bool}:∀ (l:List α),(∀ x∈l,f x=g x)->l.find? f=l.find? g
 | [],_=>rfl
 | x::l,h=>by
  rw[List.find?_cons,List.find?_cons,h x zy,qeh l (fun y hy=>h y (by simp[hy]))]
def two_find (s:ByteArray) (k:Nat) (h:k+2<=s.size):twoL.find? (fun q=>Lib.hasPrefix (s.data.toList.drop k) q.data.toList)=twoL.find? (fun q=>(s.extract k (k+2)).toList==q.toList):=by
 refine qeh _ fun q hq=>?_
 have e:(s.extract k (k+2)).toList=[s[k],s[k+1]]:=by
  rw[toL,qaQ,qaT s k Y,qaT s (k+1) Y];simp
 rw[e,toL,qaT s k Y,qaT s (k+1) Y];obtain⟨a,b,hab⟩:=qeP q hq;rw[hab,Bool.eq_iff_iff];simp[Lib.hasPrefix,List.isPrefixOf];exact⟨fun ⟨h1,h2⟩=>⟨h1.symm,h2.symm⟩,fun ⟨h1,h2⟩=>⟨h1.symm,h2.symm⟩⟩
def sign16 (s:ByteArray) (hs:(s.size:Int)<=5000) (k n:Nat) (hk:k<s.size) (hn:signN (s.data.toList.drop k)=n) (w:World) :
  Calls prog 144 #[.string s,.int .i64 (k:Int)] w fun e' w'=>e'=.returned (.int .i64 (n:Int))/\Ext w w':=by
 have HN:=J hn;have hk5:(k:Int)<=5000:=Y;have hki:(k:Int)<(s.size:Int):=Y;have hd:=qaT s k hk;obtain⟨u,hu⟩:∃ u,s[k]'hk=u:=⟨_,rfl⟩
 have HD:=J hd;rw[hu] at HD;clear hn hd;by_cases h2:k+2<=s.size
 . have HF:=J (two_find s k h2);have h2i:(k:Int)+2<=(s.size:Int):=Y;obtain⟨t2,ht2⟩:∃ t2,s.extract k (k+2)=t2:=⟨_,rfl⟩
   rw[ht2] at HF;have e0:(⟨#[61,61]⟩:ByteArray).toList=[61,61]:=zv;have e1:(⟨#[33,61]⟩:ByteArray).toList=[33,61]:=zv;have e2:(⟨#[60,61]⟩:ByteArray).toList=[60,61]:=zv;have e3:(⟨#[62,61]⟩:ByteArray).toList=[62,61]:=zv;have e4:(⟨#[46,46]⟩:ByteArray).toList=[46,46]:=zv;go_enter func144,ntmps144;cases q0:(t2.toList==[61,61]);rotate_left
   . have HE:Hid (n=2):=J (by
     rw[<-HN.out];exact(two_n _ ⟨#[61,61]⟩ (by rw[HF.out];unfold twoL;simp only[List.find?_cons,e0,e1,e2,e3,e4,q0])).1)
     clear HF HN;go_wp2_with fail;go_ret;exact ybe
   cases q1:(t2.toList==[33,61]);rotate_left
   . have HE:Hid (n=2):=J (by
     rw[<-HN.out];exact(two_n _ ⟨#[33,61]⟩ (by rw[HF.out];unfold twoL;simp only[List.find?_cons,e0,e1,e2,e3,e4,q0,q1])).1)
     clear HF HN;go_wp2_with fail;go_ret;exact ybe
   cases q2:(t2.toList==[60,61]);rotate_left
   . have HE:Hid (n=2):=J (by
     rw[<-HN.out];exact(two_n _ ⟨#[60,61]⟩ (by rw[HF.out];unfold twoL;simp only[List.find?_cons,e0,e1,e2,e3,e4,q0,q1,q2])).1)
     clear HF HN;go_wp2_with fail;go_ret;exact ybe
   cases q3:(t2.toList==[62,61]);rotate_left
   . have HE:Hid (n=2):=J (by
     rw[<-HN.out];exact(two_n _ ⟨#[62,61]⟩ (by rw[HF.out];unfold twoL;simp only[List.find?_cons,e0,e1,e2,e3,e4,q0,q1,q2,q3])).1)
     clear HF HN;go_wp2_with fail;go_ret;exact ybe
   cases q4:(t2.toList==[46,46]);rotate_left
   . have HE:Hid (n=2):=J (by
     rw[<-HN.out];exact(two_n _ ⟨#[46,46]⟩ (by rw[HF.out];unfold twoL;simp only[List.find?_cons,e0,e1,e2,e3,e4,q0,q1,q2,q3,q4])).1)
     clear HF HN;go_wp2_with fail;go_ret;exact ybe
   have HB:Hid ((singles.data.toList.contains u=true->n=1)/\(singles.data.toList.contains u=false->n=0)):=J (by
    have hf:twoL.find? (fun q=>Lib.hasPrefix (s.data.toList.drop k) q.data.toList)=none:=by
     rw[HF.out];unfold twoL;simp only[List.find?_cons,List.find?_nil,e0,e1,e2,e3,e4,q0,q1,q2,q3,q4]
    rw[HD.out] at hf;have h:=one_n u _ hf;rw[<-HN.out,HD.out]
    exact⟨fun x=>(h.1 x).1,fun x=>(h.2 x).1⟩)
   clear HF e0 e1 e2 e3 e4;go_wp2_with fail
   try(simp only[ht2])
   try clear ht2
   go_loopw [6] (fun ii wr=>∃ (j:Nat) (d:Nat) (os:Array Obj),ii=.int .i64 j/\j<=14/\(singles.data.toList.take j).contains u=false/\wr=more w d os) (fun ii _=>14-(intOf ii).toNat)
   case atStart=>exact⟨0,w.drawn,#[],rfl,Y,rfl,by simp[more]⟩
   case round =>
    obtain⟨j,d,os,rfl,hj,hf,rfl⟩:=hrel;have HFF:=J hf;clear hf;by_cases hlt:j<14
    . go_wp2_with fail;refine qaa 5 45 (List.replicate 5 false) zv zv rfl ?_;refine zh ?_
      repeat(refine Lex.step rfl ?_;intro K hK;unfold StepG;go_simp;(first
        | refine hK _ ?_);clear hK K)
      refine zd ?_;intro dd oo;go_wp2_with fail;rw[ends_normal];go_wp2_with fail
      . rename_i hqt;have hq:=qdv u j hlt (by simp only[beq_iff_eq] at hqt;exact hqt.symm);go_ret;exact⟨ret_int (by rw[HB.out.1 (qfb u j hlt hq)];rfl),(Ext.refl _).more _ _⟩
      . rename_i hqt;have hq:=qdj u j hlt (by simp only[beq_eq_false_iff_ne,ne_eq] at hqt;exact fun h=>hqt h.symm);go_roundw
        case rel=>exact⟨j+1,_,_,by go_num,Y,single_step u j hlt HFF.out hq,rfl⟩
        case measure=>simp[intOf]<;>omega
    . have hj14:j=14:=Y;subst hj14;go_wp2_with fail;go_ret;exact⟨ret_int (by rw[HB.out.2 (by rw[show singles.data.toList=singles.data.toList.take 14 from rfl,HFF.out])];rfl),(Ext.refl _).more _ _⟩
 . have h2i:(s.size:Int)<(k:Int)+2:=Y
   have HB:Hid ((singles.data.toList.contains u=true->n=1)/\(singles.data.toList.contains u=false->n=0)):=J (by
    have h0:s.data.toList.drop (k+1)=[]:=List.drop_eq_nil_of_le zg
    have hf:twoL.find? (fun q=>Lib.hasPrefix (s.data.toList.drop k) q.data.toList)=none:=by
     rw[List.find?_eq_none];intro q hq;obtain⟨a,b,hab⟩:=qeP q hq;rw[HD.out,h0,hab];simp[Lib.hasPrefix,List.isPrefixOf]
    rw[HD.out] at hf;have h:=one_n u _ hf;rw[<-HN.out,HD.out]
    exact⟨fun x=>(h.1 x).1,fun x=>(h.2 x).1⟩)
   clear h2;go_enter func144,ntmps144;go_wp2_with fail
   try(simp only[ht2])
   try clear ht2
   go_loopw [6] (fun ii wr=>∃ (j:Nat) (d:Nat) (os:Array Obj),ii=.int .i64 j/\j<=14/\(singles.data.toList.take j).contains u=false/\wr=more w d os) (fun ii _=>14-(intOf ii).toNat)
   case atStart=>exact⟨0,w.drawn,#[],rfl,Y,rfl,by simp[more]⟩
   case round =>
    obtain⟨j,d,os,rfl,hj,hf,rfl⟩:=hrel;have HFF:=J hf;clear hf;by_cases hlt:j<14
    . go_wp2_with fail;refine qaa 5 45 (List.replicate 5 false) zv zv rfl ?_;refine zh ?_
      repeat(refine Lex.step rfl ?_;intro K hK;unfold StepG;go_simp;(first
        | refine hK _ ?_);clear hK K)
      refine zd ?_;intro dd oo;go_wp2_with fail;rw[ends_normal];go_wp2_with fail
      . rename_i hqt;have hq:=qdv u j hlt (by simp only[beq_iff_eq] at hqt;exact hqt.symm);go_ret;exact⟨ret_int (by rw[HB.out.1 (qfb u j hlt hq)];rfl),(Ext.refl _).more _ _⟩
      . rename_i hqt;have hq:=qdj u j hlt (by simp only[beq_eq_false_iff_ne,ne_eq] at hqt;exact fun h=>hqt h.symm);go_roundw
        case rel=>exact⟨j+1,_,_,by go_num,Y,single_step u j hlt HFF.out hq,rfl⟩
        case measure=>simp[intOf]<;>omega
    . have hj14:j=14:=Y;subst hj14;go_wp2_with fail;go_ret;exact⟨ret_int (by rw[HB.out.2 (by rw[show singles.data.toList=singles.data.toList.take 14 from rfl,HFF.out])];rfl),(Ext.refl _).more _ _⟩
end Go.Proofs.YtpnabjopfpdkhaaGreatDoor
namespace Go.Proofs.YtpnabjopfpdkhaaGreatDoor
open Tryz RowKit
def wordsT:List UInt8:=[32,97,98,111,114,116,32,97,110,100,32,100,101,108,101,116,101,32,101,108,115,101,32,102,97,108,115,101,32,102,111,114,32,103,101,116,32,104,97,115,32,105,102,32,105,110,32,108,101,110,32,108,101,116,32,110,105,108,32,110,111,116,32,111,114,32,112,117,116,32,114,101,112,101,97,116,32,114,101,116,117,114,110,32,115,99,97,110,32,115,101,116,32,115,104,111,119,32,116,114,117,101,32]
def lowB (c:UInt8):Bool:=decide (97<=c.toNat/\c.toNat<=122)
def qdx (l:List UInt8):Bool:=wordL.any (fun x=>l==x.data.toList)||l==[116,114,117,101]
def qep (s:ByteArray):wordB s=qdx s.data.toList:=by
 unfold wordB qdx;simp only[Lib.toList_data]
def hitL (l:List UInt8) (k:Nat):Bool:=(wordsT.drop k).take (l.length+2)==32::l++[32]
def hit_eq (s:ByteArray) (k:Nat) (h:k+s.size+2<=103):((({ data:=#[32,97,98,111,114,116,32,97,110,100,32,100,101,108,101,116,101,32,101,108,115,101,32,102,97,108,115,101,32,102,111,114,32,103,101,116,32,104,97,115,32,105,102,32,105,110,32,108,101,110,32,108,101,116,32,110,105,108,32,110,111,116,32,111,114,32,112,117,116,32,114,101,112,101,97,116,32,114,101,116,117,114,110,32,115,99,97,110,32,115,101,116,32,115,104,111,119,32,116,114,117,101,32] }:ByteArray).extract k (k+s.size+2)).toList==(({ data:=#[32] }:ByteArray)++s++{ data:=#[32] }).toList)=hitL s.data.toList k:=by
 unfold hitL wordsT;simp only[Lib.toList_data]
 have e1:(({ data:=#[32,97,98,111,114,116,32,97,110,100,32,100,101,108,101,116,101,32,101,108,115,101,32,102,97,108,115,101,32,102,111,114,32,103,101,116,32,104,97,115,32,105,102,32,105,110,32,108,101,110,32,108,101,116,32,110,105,108,32,110,111,116,32,111,114,32,112,117,116,32,114,101,112,101,97,116,32,114,101,116,117,114,110,32,115,99,97,110,32,115,101,116,32,115,104,111,119,32,116,114,117,101,32] }:ByteArray).extract k (k+s.size+2)).data.toList=(wordsT.drop k).take (s.data.toList.length+2):=by
  have hl:s.data.toList.length=s.size:=zy;have e:k+s.size+2-k=s.size+2:=Y;rw[hl];simp only[ByteArray.data_extract,Array.toList_extract,List.extract_eq_take_drop,e];rfl
 rw[e1];have e2:(({ data:=#[32] }:ByteArray)++s++{ data:=#[32] }).data.toList=32::s.data.toList++[32]:=zy;rw[e2];rfl
def chk:Bool:=(List.range 103).all fun k=>(List.range 102).all fun n=>!(wordsT.getD k 0==32&&wordsT.getD (k+n+1) 0==32&&((wordsT.drop (k+1)).take n).all lowB)||(n==0||qdx ((wordsT.drop (k+1)).take n))
def chk_true:chk=true:=by kernel_rfl
def chk2:Bool:=(wordL.map (fun x:ByteArray=>x.data.toList)++[[116,114,117,101]]).all fun l:List UInt8=>l.all lowB&&!l.isEmpty&&(List.range 103).any fun k=>decide (k+l.length+2<=103)&&hitL l k
def chk2_true:chk2=true:=by kernel_rfl
def isWord_mem (l:List UInt8) (h:qdx l=true):l∈wordL.map (fun x:ByteArray=>x.data.toList)++[[116,114,117,101]]:=by
 unfold qdx at h;simp only[Bool.or_eq_true,List.any_eq_true,beq_iff_eq] at h;rcases h with ⟨x,hx,rfl⟩ | rfl
 . exact List.mem_append_left _ (List.mem_map.2 ⟨x,hx,rfl⟩)
 . exact List.mem_append_right _ zy
def qed (l:List UInt8) (h:qdx l=true):l.all lowB=true/\l≠[]/\∃ k,k+l.length+2<=103/\hitL l k=true:=by
 have:=List.all_eq_true.1 chk2_true l (isWord_mem l h);simp only[Bool.and_eq_true,List.any_eq_true,decide_eq_true_eq] at this;obtain⟨⟨h1,h2⟩,k,_,h3,h4⟩:=this;exact⟨h1,by simpa using h2,k,h3,h4⟩
def hit_word (l:List UInt8) (k:Nat) (hk:k+l.length+2<=103) (hl:l.all lowB=true) (hne:l≠[]) (h:hitL l k=true):qdx l=true:=by
 have hpos:0<l.length:=by cases l<;>simp at hne ⊢
 have h1:=List.all_eq_true.1 chk_true k (List.mem_range.2 Y);have h2:=List.all_eq_true.1 h1 l.length (List.mem_range.2 Y);have he:(wordsT.drop k).take (l.length+2)=32::l++[32]:=by simpa [hitL] using h
 have hg:∀ j,j<l.length+2->wordsT[k+j]?=(32::l++[32])[j]?:=by
  intro j hj;rw[<-he,List.getElem?_take,if_pos hj,List.getElem?_drop]
 have g0:wordsT[k]?=some 32:=by have:=hg 0 Y;simpa using this
 have g1:wordsT[k+l.length+1]?=some 32:=by
  have:=hg (l.length+1) Y;rw[Nat.add_assoc,this];simp
 have gm:(wordsT.drop (k+1)).take l.length=l:=by
  have e:wordsT.drop (k+1)=(wordsT.drop k).drop 1:=by rw[List.drop_drop]
  rw[e,List.take_drop];have e2:((wordsT.drop k).take (1+l.length))=((wordsT.drop k).take (l.length+2)).take (1+l.length):=by rw[List.take_take];congr 1;omega
  rw[e2,he];simp[List.take_append,Nat.add_comm 1]
 rw[gm,hl] at h2;simp only[List.getD,g0,g1,Option.getD_some] at h2;have hn0:(l.length==0)=false:=by simpa using hne
 simpa [hn0] using h2
def lows_bad (s:ByteArray) (k:Nat) (h:k<s.size) (hb:lowB (s[k]'h)=false):wordB s=false:=by
 rw[qep];cases hw:qdx s.data.toList
 . rfl
 . have h1:=(qed _ hw).1;have hu:s.data.toList[k]?=some (s[k]'h):=by rw[List.getElem?_eq_getElem jx];rfl
   have:=List.all_eq_true.1 h1 _ (List.mem_of_getElem? hu);rw[hb] at this;cases this
def lows_step (s:ByteArray) (k:Nat) (h:k<s.size) (ha:(s.data.toList.take k).all lowB=true) (hb:lowB (s[k]'h)=true):(s.data.toList.take (k+1)).all lowB=true:=by
 have hu:s.data.toList[k]?=some (s[k]'h):=by rw[List.getElem?_eq_getElem jx];rfl
 rw[List.take_add_one,hu,List.all_append,ha]
 simpa using hb
def word_hit (s:ByteArray) (k:Nat) (hk:k+s.size+2<=103) (hl:(s.data.toList.take s.size).all lowB=true) (hne:¬ s.toList=[]) (h:hitL s.data.toList k=true):wordB s=true:=by
 rw[qep];have e:s.data.toList.take s.size=s.data.toList:=List.take_of_length_le zy;rw[e] at hl;exact hit_word _ k (by simpa using hk) hl (by rw[Lib.toList_data] at hne;exact hne) h
def word_nohit (s:ByteArray) (h:∀ k,k+s.size+2<=103->hitL s.data.toList k=false):wordB s=false:=by
 rw[qep];cases hw:qdx s.data.toList
 . rfl
 . obtain⟨_,_,k,hk,hh⟩:=qed _ hw;rw[h k (by simpa using hk)] at hh;cases hh
def word_none (s:ByteArray) (h:s.toList=[]):wordB s=false:=by
 rw[qep];rw[Lib.toList_data] at h;rw[h];rfl
def rword_big (s:ByteArray) (hs:(s.size:Int)<=100000) (w:World):Calls prog 141 #[.string s] w fun e w'=>e=.returned (.bool (wordB s))/\Ext w w':=by
 have HB:=J (lows_bad s);have HSt:=J (lows_step s);have HH:=J (word_hit s);have HNH:=J (word_nohit s);have HE:=J (hit_eq s);have HWN:=J (word_none s);generalize wordB s=B at *;go_enter func141,ntmps141;go_wp2_with fail
 go_loop [3] (fun ii=>∃ k:Nat,ii=.int .i64 k/\k<=s.size/\(s.data.toList.take k).all lowB=true) (fun ii=>s.size-(intOf ii).toNat)
 case atStart=>exact⟨0,rfl,Y,rfl⟩
 case round =>
  obtain⟨k,rfl,hk,hn⟩:=hrel;have HN:=J hn;clear hn;by_cases hlt:k<s.size
  . cases hlow:lowB (s[k]'hlt)
    . have hf:=J (HB.out k hlt hlow);by_cases q1:(s[k]'hlt).toNat<97
      . have e1:(((s[k]'hlt).toNat:Int)<97)=True:=zg;clear q1 hlow;go_wp2_with fail;go_ret;exact⟨ret_bool hf.out.symm,Ext.refl _⟩
      . have e1:(((s[k]'hlt).toNat:Int)<97)=False:=zg;have e2:(122<((s[k]'hlt).toNat:Int))=True:=(by simp[lowB] at hlow ⊢;omega)
        clear q1 hlow;go_wp2_with fail;go_ret;exact⟨ret_bool hf.out.symm,Ext.refl _⟩
    . have HST:=J (HSt.out k hlt HN.out hlow);have e1:(((s[k]'hlt).toNat:Int)<97)=False:=(by simp[lowB] at hlow ⊢;omega)
      have e2:(122<((s[k]'hlt).toNat:Int))=False:=(by simp[lowB] at hlow ⊢;omega)
      clear hlow;go_wp2_with fail
      go_round
      case rel=>exact⟨k+1,by go_num,Y,HST.out⟩
      case measure=>simp[intOf];omega
  . have hks:k=s.size:=Y;subst hks;go_wp2_with fail
    go_loop [4] (fun ii=>∃ k:Nat,ii=.int .i64 k/\k<=103/\∀ j,j<k->j+s.size+2<=103->hitL s.data.toList j=false) (fun ii=>103-(intOf ii).toNat)
    case atStart=>exact⟨0,rfl,Y,fun j hj=>absurd hj Y⟩
    case round =>
     obtain⟨k,rfl,hk,hno⟩:=hrel;have HNO:=J hno;clear hno;by_cases hlt:k+s.size+2<=103
     . by_cases hnil:s.toList=[]
       . have hf:=J (HWN.out hnil);go_wp2_with fail
         go_round
         case rel =>
          refine ⟨k+1,by go_num,Y,fun j hj hj2=>?_⟩;rcases Nat.lt_or_ge j k with h | h
          . exact HNO.out j h hj2
          . have e:j=k:=Y;subst e;cases hh:hitL s.data.toList j
            . rfl
            . exfalso;have hl:s.data.toList=[]:=(by rw[Lib.toList_data] at hnil;exact hnil)
              rw[hl] at hh;have e2:s.size=0:=by rw[<-ByteArray.size_data,<-Array.length_toList,hl];rfl
              exact absurd hh (by
               have:∀ j,j<103->hitL [] j=false:=by decide +kernel
               simp[this j Y])
         case measure=>simp[intOf];omega
       . cases hh:hitL s.data.toList k
         . have hx:=HE.out k hlt;rw[hh] at hx;have HHH:=J hh;clear hh;go_wp2_with fail
           go_round
           case rel =>
            refine ⟨k+1,by go_num,Y,fun j hj hj2=>?_⟩;rcases Nat.lt_or_ge j k with h | h
            . exact HNO.out j h hj2
            . have e:j=k:=Y;subst e;exact HHH.out
           case measure=>simp[intOf];omega
         . have hx:=HE.out k hlt;rw[hh] at hx;have hf:=J (HH.out k hlt HN.out hnil hh);have hne:(!s.toList.isEmpty)=true:=(by simpa using hnil)
           clear hh;go_wp2_with fail;go_ret;exact⟨ret_bool hf.out.symm,Ext.refl _⟩
     . have hf:=J (HNH.out fun j hj=>HNO.out j Y hj)
       go_wp2_with fail;go_ret
       exact⟨ret_bool hf.out.symm,Ext.refl _⟩
def rword_any (s:ByteArray) (hs:(s.size:Int)<=100) (w:World):Calls prog 141 #[.string s] w fun e w'=>e=.returned (.bool (wordB s))/\Ext w w':=rword_big s Y w
end Go.Proofs.YtpnabjopfpdkhaaGreatDoor
