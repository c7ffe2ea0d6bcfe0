/- Lemmas. -/
import Derived.Test.YtpnabjopfpdkhaaGreatDoorA07
set_option linter.unusedSimpArgs false
set_option linter.unusedVariables false
set_option maxHeartbeats 4000000
set_option maxRecDepth 20000
namespace Go.Proofs.YtpnabjopfpdkhaaGreatDoor
open Go.RowKit
attribute [go_sem] more_more Array.size_append
theorem qaK (c:Int) (h0:0≤c) (h1:c<256) (w:World):Calls Tryz.prog 139 #[.int .u8 c] w fun e w'=>e=.returned (.bool (qao c))∧w=w':=by
 go_enter Tryz.func139,Tryz.ntmps139
 go_wp2
 all_goals
  go_ret;refine ⟨ret_bool (by first | (rw[Bool.eq_iff_iff];simp[qao];omega) | (simp[qao];omega)),rfl⟩
theorem qbj (c:Int) (h0:0≤c) (h1:c<256) (w:World):Calls Tryz.prog 140 #[.int .u8 c] w fun e w'=>e=.returned (.bool (qai c))∧w=w':=by
 go_enter Tryz.func140,Tryz.ntmps140
 go_wp2
 all_goals
  go_ret;refine ⟨ret_bool (by first | (rw[Bool.eq_iff_iff];simp[qai];omega) | (simp[qai];omega)),rfl⟩
theorem qaP (s:ByteArray) (m:Nat) (h:m<s.size):s.data.toList.drop m=s[m]'h::s.data.toList.drop (m+1):=List.drop_eq_getElem_cons zbn
theorem qcx (s:ByteArray):s.data.toList.drop s.size=[]:=List.drop_eq_nil_of_le zaj
theorem beqI {a b:Int} (h:(a==b)=true):a=b:=by simpa using h
theorem bneI {a b:Int} (h:(a==b)=false):¬ a=b:=by simpa using h
theorem skip16 (s:ByteArray) (hs:(s.size:Int)≤5000) (k n:Nat) (hk:k≤s.size) (hn:k+skipL false (s.data.toList.drop k)=n) (w:World) :
    Calls Tryz.prog 116 #[.string s,.int .i64 (k:Int)] w fun e w'=>e=.returned (.int .i64 (n:Int))∧w=w':=by
  have HN:=Lib.hid hn;clear hn;go_enter Tryz.func116,Tryz.ntmps116;go_wp2_with fail;go_loopw [1] (fun a wr=>∃ m:Nat,a=.int .i64 (m:Int)∧m≤s.size∧m+skipL false (s.data.toList.drop m)=n∧wr=w) (fun a _=>s.size-(intOf a).toNat)
  case atStart=>exact⟨k,rfl,hk,HN.out,rfl⟩
  case round =>
    obtain⟨m,rfl,hm,hsp,rfl⟩:=hrel
    have HS:=Lib.hid hsp;clear hsp
    have hm5:(m:Int)≤5000:=by omega
    by_cases hlt:m<s.size
    · have hlt2:(m:Int)<(s.size:Int):=by omega
      have hd:=Lib.hid (qaP s m hlt);have hu:=(s[m]'hlt).toNat_lt;have HLT:=Lib.hid hlt
      cases q1:(((s[m]'hlt).toNat:Int)==32)<;>cases q2:(((s[m]'hlt).toNat:Int)==9)<;>cases q3:(((s[m]'hlt).toNat:Int)==10)
      rotate_left
      all_goals try(exfalso;have a1:=q1;have a2:=q2;have a3:=q3;simp only[beq_iff_eq] at a1 a2 a3;omega)
      all_goals try
        (have HS2:RowKit.Hid (m+1+skipL false (s.data.toList.drop (m+1))=n):=Lib.hid (by
          have h:=HS.out;rw[hd.out,skipL,if_pos (by have a1:=q1;have a2:=q2;have a3:=q3;simp only[beq_iff_eq] at a1 a2 a3;omega)] at h
          omega)
         go_wp2_with fail;go_roundw
         case rel=>exact⟨m+1,by go_num,by have:=HLT.out;omega,HS2.out,by first | rfl | trivial⟩
         case measure=>have:=HLT.out;simp[intOf];omega)
      cases q4:(((s[m]'hlt).toNat:Int)==35)
      · have HE:RowKit.Hid (m=n):=Lib.hid (by
          have h:=HS.out;rw[hd.out,skipL,if_neg (by have a1:=bneI q1;have a2:=bneI q2;have a3:=bneI q3;omega),if_neg (by have a4:=bneI q4;omega)] at h
          omega)
        go_wp2_with fail;go_ret
        exact⟨ret_int (by have:=HE.out;omega),rfl⟩
      · have HS2:RowKit.Hid (m+skipL true (s.data.toList.drop m)=n):=Lib.hid (by
          have h:=HS.out;have a4:=beqI q4;rw[hd.out,skipL,if_neg zac,if_pos zac] at h;rw[hd.out,skipL,if_neg zac]
          omega)
        have Q4:=Lib.hid q4;go_wp2_with fail;go_loopw [1] (fun a wr2=>∃ m2:Nat,a=.int .i64 (m2:Int)∧m≤m2∧m2≤s.size∧m2+skipL true (s.data.toList.drop m2)=n∧wr2=wr) (fun a _=>s.size-(intOf a).toNat)
        case atStart=>exact⟨m,rfl,Nat.le_refl _,hm,HS2.out,rfl⟩
        case round =>
          obtain⟨m2,rfl,hm1,hm2,hsp,rfl⟩:=hrel
          have HS3:=Lib.hid hsp;clear hsp q1 q2 q3 q4
          by_cases hlt3:m2<s.size
          · have hlt4:(m2:Int)<(s.size:Int):=by omega
            have hd2:=Lib.hid (qaP s m2 hlt3);have hu2:=(s[m2]'hlt3).toNat_lt;have HLT3:=Lib.hid hlt3
            cases q5:(((s[m2]'hlt3).toNat:Int)==10)
            · have HS4:RowKit.Hid (m2+1+skipL true (s.data.toList.drop (m2+1))=n):=Lib.hid (by
                have h:=HS3.out;rw[hd2.out,skipL,if_neg (by have a4:=bneI q5;omega)] at h
                omega)
              go_wp2_with fail;go_roundw
              case rel=>exact⟨m2+1,by go_num,by omega,by have:=HLT3.out;omega,HS4.out,by first | rfl | trivial⟩
              case measure=>have:=HLT3.out;simp[intOf];omega
            · have HS4:RowKit.Hid (m2+skipL false (s.data.toList.drop m2)=n):=Lib.hid (by
                have h:=HS3.out;have a4:=beqI q5;rw[hd2.out,skipL,if_pos zac] at h;rw[hd2.out,skipL,if_pos zac]
                omega)
              have hmm:m<m2:=by
                rcases Nat.lt_or_ge m m2 with h | h
                · exact h
                · have:m=m2:=by omega
                  subst this;have a4:=beqI q5;have a5:=beqI Q4.out;omega
              go_wp2_with fail;go_roundw
              case rel=>exact⟨m2,rfl,hm2,HS4.out,by first | rfl | trivial⟩
              case measure=>have:=HLT.out;simp[intOf];omega
          · have hme:m2=s.size:=by omega
            subst hme
            have HS4:RowKit.Hid (s.size+skipL false (s.data.toList.drop s.size)=n):=Lib.hid (by
              have h:=HS3.out;rw[qcx] at h ⊢
              exact h)
            clear hlt3;go_wp2_with fail;go_roundw
            case rel=>exact⟨s.size,rfl,Nat.le_refl _,HS4.out,by first | rfl | trivial⟩
            case measure=>have:=HLT.out;simp[intOf];omega
    · have hme:m=s.size:=by omega
      subst hme
      have HE:RowKit.Hid (s.size=n):=Lib.hid (by
        have h:=HS.out;rw[qcx] at h
        simpa [skipL] using h)
      clear hlt;go_wp2_with fail;go_ret
      exact⟨ret_int (by have:=HE.out;omega),rfl⟩
theorem numG_big:∀ (l:List UInt8) (v:Int),9223372036854775807<v→numG v l=none
 | [],v,h=>by unfold numG;rw[if_pos h]
 | c::l,v,h=>by unfold numG;rw[if_pos zac]
def numV:Option Int→Value
 | some v=>.tuple #[.int .i64 v,.bool true]
 | none=>.tuple #[.int .i64 0,.bool false]
theorem number16 (t:ByteArray) (hs:(t.size:Int)≤5000) (hd:∀ j (h:j<t.size),48≤((t[j]'h).toNat:Int)∧((t[j]'h).toNat:Int)≤57) (R:Option Int) (hr:numG 0 t.data.toList=R) (w:World) :
  Calls Tryz.prog 142 #[.string t] w fun e w'=>e=.returned (numV R)∧w=w':=by
 have HR:=Lib.hid hr;have HD:=Lib.hid hd;clear hr hd;go_enter Tryz.func142,Tryz.ntmps142;go_wp2_with fail;go_loopw [4,5] (fun vv a wr=>∃ (m:Nat) (v:Int),a=.int .i64 (m:Int)∧vv=.int .i64 v∧m≤t.size∧0≤v∧v≤9223372036854775807∧numG v (t.data.toList.drop m)=R∧wr=w) (fun _ a _=>t.size-(intOf a).toNat)
 case atStart=>exact⟨0,0,rfl,rfl,Nat.zero_le _,by decide,by decide,HR.out,rfl⟩
 case round =>
  obtain⟨m,v,rfl,rfl,hm,hv0,hv1,hg,rfl⟩:=hrel
  have HG:=Lib.hid hg;clear hg HR
  have hm5:(m:Int)≤5000:=by omega
  by_cases hlt:m<t.size
  · have hlt2:(m:Int)<(t.size:Int):=by omega
    have hdd:=Lib.hid (qaP t m hlt)
    obtain⟨d0,d1⟩:=HD.out m hlt
    have HLT:=Lib.hid hlt
    by_cases hb:922337203685477580<v
    · have HE:RowKit.Hid (R=none):=Lib.hid (by rw[←HG.out,hdd.out];unfold numG;rw[if_pos hb])
      clear hm;go_wp2_with fail
      have:=HE.out
      subst this;go_ret2
      exact⟨rfl,rfl⟩
    · have hb2:v≤922337203685477580:=by omega
      by_cases hq:v=922337203685477580∧55<((t[m]'hlt).toNat:Int)
      · have HE:RowKit.Hid (R=none):=Lib.hid (by rw[←HG.out,hdd.out];unfold numG;rw[if_neg zac];exact numG_big _ _ zac)
        obtain⟨rfl,hq2⟩:=hq
        have hq3:7<((t[m]'hlt).toNat:Int)-48:=by omega
        clear hm hb;go_wp2_with fail
        have:=HE.out
        subst this;go_ret2
        exact⟨rfl,rfl⟩
      · have HG2:RowKit.Hid (numG (10*v+(((t[m]'hlt).toNat:Int)-48)) (t.data.toList.drop (m+1))=R):=Lib.hid (by
          have h:=HG.out
          rw[hdd.out] at h;unfold numG at h;rw[if_neg zac] at h;exact h)
        have hv2:0≤10*v+(((t[m]'hlt).toNat:Int)-48):=by omega
        have hv3:10*v+(((t[m]'hlt).toNat:Int)-48)≤9223372036854775807:=by omega
        have hnb:¬ 922337203685477580<v:=by omega
        cases qv:(v==922337203685477580)
        · clear hq hb
          go_wp2_with fail;go_roundw
          case rel=>exact⟨m+1,_,by go_num,rfl,by have:=HLT.out;omega,hv2,hv3,HG2.out,by first | rfl | trivial⟩
          case measure=>have:=HLT.out;simp[intOf];omega
        · have hq3:((t[m]'hlt).toNat:Int)-48≤7:=by have:=beqI qv;omega
          clear hq hb;go_wp2_with fail;go_roundw
          case rel=>exact⟨m+1,_,by go_num,rfl,by have:=HLT.out;omega,hv2,hv3,HG2.out,by first | rfl | trivial⟩
          case measure=>have:=HLT.out;simp[intOf];omega
  · have hme:m=t.size:=by omega
    subst hme
    have HE:RowKit.Hid (R=some v):=Lib.hid (by rw[←HG.out,qcx];unfold numG;rw[if_neg zac])
    clear hlt;go_wp2_with fail
    have:=HE.out
    subst this;go_ret2
    exact⟨rfl,rfl⟩
theorem ext_one (s:ByteArray) (m:Nat) (h:m<s.size):s.extract m (m+1)=⟨#[s[m]'h]⟩:=by
 rw[qaM,qaP s m h]
 simp
theorem snocA (acc:List UInt8) (u:UInt8):(⟨acc.toArray⟩:ByteArray)++⟨#[u]⟩=⟨(acc++[u]).toArray⟩:=by
 apply ByteArray.ext
 simp
def TxPost (r:Tok) (n:Nat) (e:Int) (w:World) (e':Ending) (w':World):Prop :=
 (∃ (q:ByteArray) (z:Int),e'=.returned (.tuple #[.string q,.int .i64 z,.int .i64 e])∧(e=0→q=r.s∧z=n))∧w=w'
theorem text16 (s:ByteArray) (hs:(s.size:Int)≤5000) (k n:Nat) (hk:k<s.size) (r:Tok) (e:Int) (h1:(textG (s.data.toList.drop (k+1)) []).1=r) (h2:k+1+(textG (s.data.toList.drop (k+1)) []).2.1=n) (h3:(textG (s.data.toList.drop (k+1)) []).2.2=e) (w:World) :
  Calls Tryz.prog 143 #[.string s,.int .i64 (k:Int)] w (TxPost r n e w):=by
 have HR:=Lib.hid (And.intro h1 (And.intro h2 h3))
 have hk5:(k:Int)≤5000:=by omega
 clear h1 h2 h3;go_enter Tryz.func143,Tryz.ntmps143;go_wp2_with fail;go_loopw [7,8] (fun x y wr=>∃ (m:Nat) (acc:List UInt8),x=.string ⟨acc.toArray⟩∧y=.int .i64 (m:Int)∧m≤s.size∧acc.length≤m∧(textG (s.data.toList.drop m) acc).1=r∧m+(textG (s.data.toList.drop m) acc).2.1=n∧(textG (s.data.toList.drop m) acc).2.2=e∧wr=w) (fun _ y _=>s.size-(intOf y).toNat)
 case atStart=>exact⟨k+1,[],rfl,by go_num,by omega,Nat.zero_le _,HR.out.1,HR.out.2.1,HR.out.2.2,rfl⟩
 case round =>
  obtain⟨m,acc,rfl,rfl,hm,hac,g1,g2,g3,rfl⟩:=hrel
  have HG:=Lib.hid (And.intro g1 (And.intro g2 g3));clear g1 g2 g3 HR
  have hm5:(m:Int)≤5000:=by omega
  have hz:(⟨acc.toArray⟩:ByteArray).size=acc.length:=by simp[ByteArray.size]
  have ha5:(acc.length:Int)≤5000:=by omega
  by_cases hlt:m<s.size
  · have hlt2:(m:Int)<(s.size:Int):=by omega
    have hd:=Lib.hid (qaP s m hlt);have hu:=(s[m]'hlt).toNat_lt;have HLT:=Lib.hid hlt;have HG1:=Lib.hid (textG_cons (s[m]'hlt) (s.data.toList.drop (m+1)) acc)
    cases q1:(((s[m]'hlt).toNat:Int)==34)
    rotate_left
    · by_cases h64:64<acc.length
      · have HE:RowKit.Hid (e=5):=Lib.hid (by
          have h:=HG.out.2.2;have a:=beqI q1
          rw[hd.out,HG1.out,if_pos zac,if_pos h64] at h;exact h.symm)
        have h642:(64:Int)<(acc.length:Int):=by omega
        clear h64;go_wp2_with fail;go_ret3;exact ybb
      · have HE:RowKit.Hid (r=⟨3,⟨acc.toArray⟩,0⟩∧n=m+1∧e=0):=Lib.hid (by
          obtain⟨a1,a2,a3⟩:=HG.out
          have a:=beqI q1;rw[hd.out,HG1.out,if_pos zac,if_neg h64] at a1 a2 a3
          exact⟨a1.symm,a2.symm,a3.symm⟩)
        have h642:(acc.length:Int)≤64:=by omega
        clear h64;go_wp2_with fail;go_ret3
        obtain⟨e1,e2,e3⟩:=HE.out
        exact⟨⟨⟨acc.toArray⟩,(m:Int)+1,by simp[e3],fun _=>⟨by rw[e1],by rw[e2];rfl⟩⟩,rfl⟩
    · by_cases hb:((s[m]'hlt).toNat:Int)<32∨126<((s[m]'hlt).toNat:Int)
      · have HE:RowKit.Hid (e=3):=Lib.hid (by
          have h:=HG.out.2.2;have a:=bneI q1
          rw[hd.out,HG1.out,if_neg zac,if_pos zac] at h;exact h.symm)
        rcases hb with hb | hb
        all_goals
         go_wp2_with fail;go_ret3;exact ybb
      · have hb1:32≤((s[m]'hlt).toNat:Int):=by omega
        have hb2:((s[m]'hlt).toNat:Int)≤126:=by omega
        cases q2:(((s[m]'hlt).toNat:Int)==92)
        · have HE:RowKit.Hid ((textG (s.data.toList.drop (m+1)) (acc++[s[m]'hlt])).1=r∧m+1+(textG (s.data.toList.drop (m+1)) (acc++[s[m]'hlt])).2.1=n∧(textG (s.data.toList.drop (m+1)) (acc++[s[m]'hlt])).2.2=e):=Lib.hid (by
            obtain⟨a1,a2,a3⟩:=HG.out
            have a:=bneI q1;have b:=bneI q2;rw[hd.out,HG1.out,if_neg zac,if_neg zac,if_pos zac] at a1 a2 a3;dsimp only at a1 a2 a3
            exact⟨a1,by omega,a3⟩)
          have hx:=ext_one s m hlt;clear hb;go_wp2_with fail;go_roundw
          case rel=>exact⟨m+1,acc++[s[m]'hlt],by first | rw[snocA] | rw[hx,snocA],by go_num,by have:=HLT.out;omega,by simp;omega,HE.out.1,HE.out.2.1,HE.out.2.2,by first | rfl | trivial⟩
          case measure=>have:=HLT.out;simp[intOf];omega
        · by_cases hl1:m+1<s.size
          rotate_left
          · have hl2:(m:Int)+1=(s.size:Int):=by omega
            have HE:RowKit.Hid (e=2):=Lib.hid (by
             have h:=HG.out.2.2;have a:=bneI q1;have b:=beqI q2
             have hd1:s.data.toList.drop (m+1)=[]:=List.drop_eq_nil_of_le zam
             rw[hd.out,HG1.out,if_neg zac,if_neg zac,if_neg zac,hd1] at h;exact h.symm)
            have hl3:((m:Int)+1==(s.size:Int))=true:=by simpa using hl2
            clear hb hl1;go_wp2_with fail;go_ret3;exact ybb
          have hl3:((m:Int)+1==(s.size:Int))=false:=beq_eq_false_iff_ne.2 zac
          have hl4:(m:Int)+1<(s.size:Int):=by omega
          have hv:=(s[m+1]'hl1).toNat_lt
          have HES:RowKit.Hid (∀ z:UInt8,escZ ((s[m+1]'hl1).toNat:Int)=(z.toNat:Int)→z.toNat≠0→(textG (s.data.toList.drop (m+1+1)) (acc++[z])).1=r∧m+1+1+(textG (s.data.toList.drop (m+1+1)) (acc++[z])).2.1=n∧(textG (s.data.toList.drop (m+1+1)) (acc++[z])).2.2=e):=Lib.hid (by
           intro z hz1 hz2
           obtain⟨a1,a2,a3⟩:=HG.out
           have a:=bneI q1;have b:=beqI q2
           have hzz:UInt8.ofNat ((z.toNat:Int)).toNat=z:=by simp
           rw[hd.out,HG1.out,if_neg zac,if_neg zac,if_neg zac,qaP s (m+1) hl1] at a1 a2 a3;dsimp only at a1 a2 a3;rw[hz1,if_neg zac,hzz] at a1 a2 a3;dsimp only at a1 a2 a3
           exact⟨a1,by omega,a3⟩)
          have HEN:RowKit.Hid (escZ ((s[m+1]'hl1).toNat:Int)=0→e=3):=Lib.hid (by
           intro hz1;have h:=HG.out.2.2;have a:=bneI q1;have b:=beqI q2;rw[hd.out,HG1.out,if_neg zac,if_neg zac,if_neg zac,qaP s (m+1) hl1] at h;dsimp only at h;rw[if_pos hz1] at h
           exact h.symm)
          have HL1:=Lib.hid hl1;have hx:=ext_one s (m+1) hl1;clear hb
          cases q3:(((s[m+1]'hl1).toNat:Int)==110)
          · cases q4:(((s[m+1]'hl1).toNat:Int)==34)<;>cases q5:(((s[m+1]'hl1).toNat:Int)==92)
            · have HE:RowKit.Hid (e=3):=Lib.hid (HEN.out (by unfold escZ;have a:=bneI q3;have b:=bneI q4;have c:=bneI q5;rw[if_neg zac,if_neg zac]))
              go_wp2_with fail;go_ret3;exact ybb
            all_goals (try(exfalso;have a:=beqI q4;have b:=beqI q5;omega))
            all_goals
             have HE:=Lib.hid (HES.out (s[m+1]'hl1) (by unfold escZ;rw[if_pos (by first | exact Or.inl (beqI q4) | exact Or.inr (beqI q5))]) (by first | (have:=beqI q4;omega) | (have:=beqI q5;omega)));go_wp2_with fail;go_roundw
             case rel=>exact⟨m+1+1,acc++[s[m+1]'hl1],by first | rw[snocA] | rw[hx,snocA],by go_num,by have:=HL1.out;omega,by simp;omega,HE.out.1,HE.out.2.1,HE.out.2.2,by first | rfl | trivial⟩
             case measure=>have:=HLT.out;simp[intOf];omega
          · have HE:=Lib.hid (HES.out 10 (by unfold escZ;have a:=beqI q3;rw[if_neg zac,if_pos a];rfl) zak)
            go_wp2_with fail;go_roundw
            case rel=>exact⟨m+1+1,acc++[10],by rw[snocA],by go_num,by have:=HL1.out;omega,by simp;omega,HE.out.1,HE.out.2.1,HE.out.2.2,by first | rfl | trivial⟩
            case measure=>have:=HLT.out;simp[intOf];omega
  · have hme:m=s.size:=by omega
    subst hme
    have HE:RowKit.Hid (e=2):=Lib.hid (by
     have h:=HG.out.2.2
     rw[qcx] at h;exact h.symm)
    clear hlt;go_wp2_with fail;go_ret3;exact ybb
def signN (l:List UInt8):Nat:=(signF l).2.1
theorem two_n (l:List UInt8) (p:ByteArray) (h:twoL.find? (fun q=>Lib.hasPrefix l q.data.toList)=some p):signN l=2∧signF l=(⟨4,p,0⟩,2,0):=by
 unfold signN signF;rw[h];exact⟨rfl,rfl⟩
theorem one_n (c:UInt8) (l:List UInt8) (h:twoL.find? (fun q=>Lib.hasPrefix (c::l) q.data.toList)=none):(singles.data.toList.contains c=true→signN (c::l)=1∧signF (c::l)=(⟨4,⟨#[c]⟩,0⟩,1,0))∧(singles.data.toList.contains c=false→signN (c::l)=0∧(signF (c::l)).2.2=3):=by
 unfold signN signF;rw[h];dsimp only
 constructor
 · intro h2;rw[if_pos h2];exact⟨rfl,rfl⟩
 · intro h2;rw[h2];exact⟨rfl,rfl⟩
theorem toL (s:ByteArray):s.toList=s.data.toList:=Lib.toList_data s
theorem qen:∀ q∈twoL,∃ a b,q.data.toList=[a,b]:=by
 intro q hq;simp only[twoL,List.mem_cons,List.not_mem_nil,or_false] at hq;rcases hq with rfl | rfl | rfl | rfl | rfl<;>exact⟨_,_,rfl⟩
theorem qdR {α:Type} {f g:α→Bool}:∀ (l:List α),(∀ x∈l,f x=g x)→l.find? f=l.find? g
 | [],_=>rfl
 | x::l,h=>by
  rw[List.find?_cons,List.find?_cons,h x zaj,qdR l (fun y hy=>h y (by simp[hy]))]
theorem two_find (s:ByteArray) (k:Nat) (h:k+2≤s.size):twoL.find? (fun q=>Lib.hasPrefix (s.data.toList.drop k) q.data.toList)=twoL.find? (fun q=>(s.extract k (k+2)).toList==q.toList):=by
 refine qdR _ fun q hq=>?_
 have e:(s.extract k (k+2)).toList=[s[k],s[k+1]]:=by
  rw[toL,qaM,qaP s k zac,qaP s (k+1) zac];simp
 rw[e,toL,qaP s k zac,qaP s (k+1) zac]
 obtain⟨a,b,hab⟩:=qen q hq
 rw[hab,Bool.eq_iff_iff]
 simp[Lib.hasPrefix,List.isPrefixOf]
 exact⟨fun ⟨h1,h2⟩=>⟨h1.symm,h2.symm⟩,fun ⟨h1,h2⟩=>⟨h1.symm,h2.symm⟩⟩
theorem sign16 (s:ByteArray) (hs:(s.size:Int)≤5000) (k n:Nat) (hk:k<s.size) (hn:signN (s.data.toList.drop k)=n) (w:World) :
  Calls Tryz.prog 144 #[.string s,.int .i64 (k:Int)] w fun e' w'=>e'=.returned (.int .i64 (n:Int))∧Ext w w':=by
 have HN:=Lib.hid hn
 have hk5:(k:Int)≤5000:=by omega
 have hki:(k:Int)<(s.size:Int):=by omega
 have hd:=qaP s k hk
 obtain⟨u,hu⟩:∃ u,s[k]'hk=u:=⟨_,rfl⟩
 have HD:=Lib.hid hd;rw[hu] at HD;clear hn hd
 by_cases h2:k+2≤s.size
 · have HF:=Lib.hid (two_find s k h2)
   have h2i:(k:Int)+2≤(s.size:Int):=by omega
   obtain⟨t2,ht2⟩:∃ t2,s.extract k (k+2)=t2:=⟨_,rfl⟩
   rw[ht2] at HF
   have e0:(⟨#[61,61]⟩:ByteArray).toList=[61,61]:=by kernel_rfl
   have e1:(⟨#[33,61]⟩:ByteArray).toList=[33,61]:=by kernel_rfl
   have e2:(⟨#[60,61]⟩:ByteArray).toList=[60,61]:=by kernel_rfl
   have e3:(⟨#[62,61]⟩:ByteArray).toList=[62,61]:=by kernel_rfl
   have e4:(⟨#[46,46]⟩:ByteArray).toList=[46,46]:=by kernel_rfl
   go_enter Tryz.func144,Tryz.ntmps144
   cases q0:(t2.toList==[61,61])
   rotate_left
   · have HE:RowKit.Hid (n=2):=Lib.hid (by
     rw[←HN.out];exact(two_n _ ⟨#[61,61]⟩ (by rw[HF.out];unfold twoL;simp only[List.find?_cons,e0,e1,e2,e3,e4,q0])).1)
     clear HF HN;go_wp2_with fail;go_ret;exact ybg
   cases q1:(t2.toList==[33,61])
   rotate_left
   · have HE:RowKit.Hid (n=2):=Lib.hid (by
     rw[←HN.out];exact(two_n _ ⟨#[33,61]⟩ (by rw[HF.out];unfold twoL;simp only[List.find?_cons,e0,e1,e2,e3,e4,q0,q1])).1)
     clear HF HN;go_wp2_with fail;go_ret;exact ybg
   cases q2:(t2.toList==[60,61])
   rotate_left
   · have HE:RowKit.Hid (n=2):=Lib.hid (by
     rw[←HN.out];exact(two_n _ ⟨#[60,61]⟩ (by rw[HF.out];unfold twoL;simp only[List.find?_cons,e0,e1,e2,e3,e4,q0,q1,q2])).1)
     clear HF HN;go_wp2_with fail;go_ret;exact ybg
   cases q3:(t2.toList==[62,61])
   rotate_left
   · have HE:RowKit.Hid (n=2):=Lib.hid (by
     rw[←HN.out];exact(two_n _ ⟨#[62,61]⟩ (by rw[HF.out];unfold twoL;simp only[List.find?_cons,e0,e1,e2,e3,e4,q0,q1,q2,q3])).1)
     clear HF HN;go_wp2_with fail;go_ret;exact ybg
   cases q4:(t2.toList==[46,46])
   rotate_left
   · have HE:RowKit.Hid (n=2):=Lib.hid (by
     rw[←HN.out];exact(two_n _ ⟨#[46,46]⟩ (by rw[HF.out];unfold twoL;simp only[List.find?_cons,e0,e1,e2,e3,e4,q0,q1,q2,q3,q4])).1)
     clear HF HN;go_wp2_with fail;go_ret;exact ybg
   have HB:RowKit.Hid ((singles.data.toList.contains u=true→n=1)∧(singles.data.toList.contains u=false→n=0)):=Lib.hid (by
    have hf:twoL.find? (fun q=>Lib.hasPrefix (s.data.toList.drop k) q.data.toList)=none:=by
     rw[HF.out];unfold twoL;simp only[List.find?_cons,List.find?_nil,e0,e1,e2,e3,e4,q0,q1,q2,q3,q4]
    rw[HD.out] at hf;have h:=one_n u _ hf;rw[←HN.out,HD.out]
    exact⟨fun x=>(h.1 x).1,fun x=>(h.2 x).1⟩)
   clear HF e0 e1 e2 e3 e4;go_wp2_with fail
   try(simp only[ht2])
   try clear ht2
   go_loopw [6] (fun ii wr=>∃ (j:Nat) (d:Nat) (os:Array Obj),ii=.int .i64 j∧j≤14∧(singles.data.toList.take j).contains u=false∧wr=more w d os) (fun ii _=>14-(intOf ii).toNat)
   case atStart=>exact⟨0,w.drawn,#[],rfl,by omega,rfl,by simp[more]⟩
   case round =>
    obtain⟨j,d,os,rfl,hj,hf,rfl⟩:=hrel
    have HFF:=Lib.hid hf;clear hf
    by_cases hlt:j<14
    · go_wp2_with fail
      refine qaa 5 45 (List.replicate 5 false) zaf zaf rfl ?_;refine yac ?_
      repeat(refine Lex.step rfl ?_;intro K hK;unfold StepG;go_simp;(first
        | refine hK _ ?_);clear hK K)
      refine yaa ?_;intro dd oo;go_wp2_with fail;rw[ends_normal];go_wp2_with fail
      · rename_i hqt
        have hq:=qcV u j hlt (by simp only[beq_iff_eq] at hqt;exact hqt.symm);go_ret
        exact⟨ret_int (by rw[HB.out.1 (qeD u j hlt hq)];rfl),(Ext.refl _).more _ _⟩
      · rename_i hqt
        have hq:=qcS u j hlt (by simp only[beq_eq_false_iff_ne,ne_eq] at hqt;exact fun h=>hqt h.symm);go_roundw
        case rel=>exact⟨j+1,_,_,by go_num,by omega,single_step u j hlt HFF.out hq,rfl⟩
        case measure=>simp[intOf]<;>omega
    · have hj14:j=14:=by omega
      subst hj14;go_wp2_with fail;go_ret
      exact⟨ret_int (by rw[HB.out.2 (by rw[show singles.data.toList=singles.data.toList.take 14 from rfl,HFF.out])];rfl),(Ext.refl _).more _ _⟩
 · have h2i:(s.size:Int)<(k:Int)+2:=by omega
   have HB:RowKit.Hid ((singles.data.toList.contains u=true→n=1)∧(singles.data.toList.contains u=false→n=0)):=Lib.hid (by
    have h0:s.data.toList.drop (k+1)=[]:=List.drop_eq_nil_of_le zam
    have hf:twoL.find? (fun q=>Lib.hasPrefix (s.data.toList.drop k) q.data.toList)=none:=by
     rw[List.find?_eq_none];intro q hq
     obtain⟨a,b,hab⟩:=qen q hq
     rw[HD.out,h0,hab];simp[Lib.hasPrefix,List.isPrefixOf]
    rw[HD.out] at hf;have h:=one_n u _ hf;rw[←HN.out,HD.out]
    exact⟨fun x=>(h.1 x).1,fun x=>(h.2 x).1⟩)
   clear h2;go_enter Tryz.func144,Tryz.ntmps144;go_wp2_with fail
   try(simp only[ht2])
   try clear ht2
   go_loopw [6] (fun ii wr=>∃ (j:Nat) (d:Nat) (os:Array Obj),ii=.int .i64 j∧j≤14∧(singles.data.toList.take j).contains u=false∧wr=more w d os) (fun ii _=>14-(intOf ii).toNat)
   case atStart=>exact⟨0,w.drawn,#[],rfl,by omega,rfl,by simp[more]⟩
   case round =>
    obtain⟨j,d,os,rfl,hj,hf,rfl⟩:=hrel
    have HFF:=Lib.hid hf;clear hf
    by_cases hlt:j<14
    · go_wp2_with fail
      refine qaa 5 45 (List.replicate 5 false) zaf zaf rfl ?_;refine yac ?_
      repeat(refine Lex.step rfl ?_;intro K hK;unfold StepG;go_simp;(first
        | refine hK _ ?_);clear hK K)
      refine yaa ?_;intro dd oo;go_wp2_with fail;rw[ends_normal];go_wp2_with fail
      · rename_i hqt
        have hq:=qcV u j hlt (by simp only[beq_iff_eq] at hqt;exact hqt.symm);go_ret
        exact⟨ret_int (by rw[HB.out.1 (qeD u j hlt hq)];rfl),(Ext.refl _).more _ _⟩
      · rename_i hqt
        have hq:=qcS u j hlt (by simp only[beq_eq_false_iff_ne,ne_eq] at hqt;exact fun h=>hqt h.symm);go_roundw
        case rel=>exact⟨j+1,_,_,by go_num,by omega,single_step u j hlt HFF.out hq,rfl⟩
        case measure=>simp[intOf]<;>omega
    · have hj14:j=14:=by omega
      subst hj14;go_wp2_with fail;go_ret
      exact⟨ret_int (by rw[HB.out.2 (by rw[show singles.data.toList=singles.data.toList.take 14 from rfl,HFF.out])];rfl),(Ext.refl _).more _ _⟩
end Go.Proofs.YtpnabjopfpdkhaaGreatDoor
