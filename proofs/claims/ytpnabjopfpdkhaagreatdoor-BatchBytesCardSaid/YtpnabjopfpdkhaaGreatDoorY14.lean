/- Lemmas. -/
import Derived.Test.YtpnabjopfpdkhaaGreatDoorY03
import Derived.Test.YtpnabjopfpdkhaaGreatDoorY12
set_option linter.all false
set_option maxHeartbeats 4000000
set_option maxRecDepth 20000
namespace Go.Proofs.YtpnabjopfpdkhaaGreatDoor
open Tryz RowKit
attribute [go_sem] more_more Array.size_append
def OnePost (r:Tok) (k n:Nat) (e:Int) (w:World) (e':Ending) (w':World):Prop :=
  (∃ (a b:Int) (c:ByteArray) (d z:Int),e'=.returned (.tuple #[.agg #[.int .i64 a,.int .i64 b,.string c,.int .i64 d],.int .i64 z,.int .i64 e]) /\ (e=0 -> a=r.k /\ b=(k:Int) /\ c=r.s /\ d=r.i /\ z=((k+n:Nat):Int))) /\ Ext w w'
theorem OnePost.mk {r:Tok} {k n:Nat} {e:Int} {w w':World} {e':Ending} (a b:Int) (c:ByteArray) (d z:Int) (he:e'=.returned (.tuple #[.agg #[.int .i64 a,.int .i64 b,.string c,.int .i64 d],.int .i64 z,.int .i64 e])) (h:e=0 -> a=r.k /\ b=(k:Int) /\ c=r.s /\ d=r.i /\ z=((k+n:Nat):Int)) (hx:Ext w w'):OnePost r k n e w e' w':=⟨⟨a,b,c,d,z,he,h⟩,hx⟩
theorem qds (p:Int -> Bool) (s:ByteArray) (m:Nat) (h:m<s.size):spanN p (s.data.toList.drop m)=if p ((s[m]'h).toNat:Int)=true then spanN p (s.data.toList.drop (m+1))+1 else 0:=by
  rw[qaT s m h,spanN]
theorem span_end (p:Int -> Bool) (s:ByteArray):spanN p (s.data.toList.drop s.size)=0:=by rw[qcH];rfl
theorem one_letter (s:ByteArray) (hs:(s.size:Int) <= 5000) (k n:Nat) (hk:k<s.size) (hl:qar ((s[k]'hk).toNat:Int)=true) (hn:spanN nameB (s.data.toList.drop k)=n) (t:ByteArray) (ht:s.extract k (k+n)=t) (r:Tok) (e:Int) (hr:nameF t=(r,e)) (w:World) :
    Calls prog 117 #[.string s,.int .i64 (k:Int)] w (OnePost r k n e w):=by
  have HN:=J hn
  have HR:=J hr
  have hle:=spanN_le nameB (s.data.toList.drop k)
  rw[hn] at hle
  have hkn:k+n <= s.size:=by simp at hle;omega
  have hts:t.size=n:=by rw[<- ht];simp;omega
  have hk5:(k:Int) <= 5000:=by omega
  have hki:(k:Int)<(s.size:Int):=by omega
  have hu:=(s[k]'hk).toNat_lt
  have HT:=J ht
  clear hn hr hle ht
  go_enter func117,ntmps117
  go_wp2_with (((with_reducible refine (qaN _ Y Y _).mono ?_);rintro e' _ ⟨rfl,rfl⟩))
  go_loopw [9] (fun a wr=>∃ m:Nat,a=.int .i64 (m:Int) /\ k <= m /\ m <= s.size /\ m+spanN nameB (s.data.toList.drop m)=k+n /\ wr=(w.alloc (.cells #[.int .i64 0,.int .i64 0,.string ⟨#[]⟩,.int .i64 0] 186 (0,0))).alloc (.cells #[.int .i64 0,.int .i64 (k:Int),.string ⟨#[]⟩,.int .i64 0] 186 (0,0))) (fun a _=>s.size-(intOf a).toNat)
  case atStart=>exact⟨k,rfl,Nat.le_refl _,by omega,by rw[HN.out],rfl⟩
  case round =>
    obtain⟨m,rfl,hkm,hms,hsp,rfl⟩:=hrel
    have HS:=J hsp
    clear hsp
    have hm5:(m:Int) <= 5000:=by omega
    by_cases hnam:∃ hlt:m<s.size,nameB ((s[m]'hlt).toNat:Int)=true
    · obtain⟨hlt,q⟩:=hnam
      have hlt2:(m:Int)<(s.size:Int):=by omega
      have hv:=(s[m]'hlt).toNat_lt
      have HLT:=J hlt
      have HS2:Hid (m+1+spanN nameB (s.data.toList.drop (m+1))=k+n):=J (by
        have h:=HS.out
        rw[qds nameB s m hlt,if_pos q] at h
        omega)
      unfold nameB at q
      cases q1:qar ((s[m]'hlt).toNat:Int)<;>cases q2:qah ((s[m]'hlt).toNat:Int)
      · rw[q1,q2] at q;cases q
      all_goals
        clear q
        go_wp2_with (first
      | (((with_reducible refine (qaN _ Y Y _).mono ?_);rintro e' _ ⟨rfl,rfl⟩))
      | (((with_reducible refine (qbl _ Y Y _).mono ?_);rintro e' _ ⟨rfl,rfl⟩)))
        go_roundw
        case rel=>exact⟨m+1,by go_num,by omega,by have:=HLT.out;omega,HS2.out,by first | rfl | trivial⟩
        case measure=>have:=HLT.out;simp[intOf];omega
    have HE:Hid (m=k+n):=J (by
      have h:=HS.out
      by_cases hlt:m<s.size
      · rw[qds nameB s m hlt,if_neg (fun q=>hnam ⟨hlt,q⟩)] at h
        omega
      · rw[show m=s.size by omega,span_end] at h
        omega)
    have hend:(∃ hlt:m<s.size,qar ((s[m]'hlt).toNat:Int)=false /\ qah ((s[m]'hlt).toNat:Int)=false /\ (m:Int)<(s.size:Int) /\ (s[m]'hlt).toNat<256) \/ (s.size:Int) <= (m:Int):=by
      by_cases hlt:m<s.size
      · have q:nameB ((s[m]'hlt).toNat:Int)=false:=by
          cases q:nameB ((s[m]'hlt).toNat:Int)
          · rfl
          · exact absurd ⟨hlt,q⟩ hnam
        unfold nameB at q
        rw[Bool.or_eq_false_iff] at q
        exact .inl ⟨hlt,q.1,q.2,by omega,(s[m]'hlt).toNat_lt⟩
      · exact .inr Y
    clear hnam
    have hmk:m-k=n:=by have:=HE.out;omega
    have hx:s.extract k m=t:=by rw[HE.out];exact HT.out
    have hkm2:(k:Int) <= (m:Int):=by omega
    have hms2:(m:Int) <= (s.size:Int):=by omega
    have hti:(t.size:Int)=(m:Int)-(k:Int):=by omega
    have ht5:(t.size:Int) <= 100000:=by omega
    have WD:=J (fun w1=>rword_big t ht5 w1)
    rcases hend with ⟨hlt,q1,q2,hlt2,hv⟩ | hlt2
    all_goals
      cases hw:wordB t
      · rw[hw] at WD
        by_cases h16:16<t.size
        · have h162:(16:Int)<(m:Int)-(k:Int):=by omega
          have HR2:Hid (e=5):=J (by
            have h:=HR.out
            unfold nameF at h
            rw[hw,if_neg (by simp),if_pos h16] at h
            simp only[Prod.mk.injEq] at h;exact h.2.symm)
          clear h16 hw
          go_wp2_with (first
      | (((with_reducible refine (qaN _ Y Y _).mono ?_);rintro e' _ ⟨rfl,rfl⟩))
      | (((with_reducible refine (qbl _ Y Y _).mono ?_);rintro e' _ ⟨rfl,rfl⟩))
      | (((with_reducible refine (WD.out _).mono ?_);rintro e' _ ⟨rfl,dw,ow,rfl⟩)))
          refine bodyPost_ret (v:=.tuple #[.agg #[.int .i64 1,.int .i64 (k:Int),.string t,.int .i64 0],.int .i64 0,.int .i64 5]) (by simp[results,results117,go_sem]) rfl (OnePost.mk 1 k t 0 0 (by rw[HR2.out]) (fun h0=>by have:=HR2.out;omega) (by repeat(first | exact Ext.refl _ | apply Ext.alloc | apply Ext.more | (refine Ext.setCell ?_ (by simp) _))))
        · have h162:(m:Int)-(k:Int) <= 16:=by omega
          have HR2:Hid (r=⟨1,t,0⟩ /\ e=0):=J (by
            have h:=HR.out
            unfold nameF at h
            rw[hw,if_neg (by simp),if_neg h16] at h
            simp only[Prod.mk.injEq] at h;exact⟨h.1.symm,h.2.symm⟩)
          clear h16 hw
          go_wp2_with (first
      | (((with_reducible refine (qaN _ Y Y _).mono ?_);rintro e' _ ⟨rfl,rfl⟩))
      | (((with_reducible refine (qbl _ Y Y _).mono ?_);rintro e' _ ⟨rfl,rfl⟩))
      | (((with_reducible refine (WD.out _).mono ?_);rintro e' _ ⟨rfl,dw,ow,rfl⟩)))
          obtain⟨rfl,rfl⟩:=HR2.out
          refine bodyPost_ret (v:=.tuple #[.agg #[.int .i64 1,.int .i64 (k:Int),.string t,.int .i64 0],.int .i64 (m:Int),.int .i64 0]) (by simp[results,results117,go_sem]) rfl (OnePost.mk 1 k t 0 m rfl (fun _=>⟨rfl,rfl,rfl,rfl,by rw[HE.out]⟩) (by repeat(first | exact Ext.refl _ | apply Ext.alloc | apply Ext.more | (refine Ext.setCell ?_ (by simp) _))))
      · rw[hw] at WD
        have HR2:Hid (r=⟨5,t,0⟩ /\ e=0):=J (by
          have h:=HR.out
          unfold nameF at h
          rw[hw,if_pos rfl] at h
          simp only[Prod.mk.injEq] at h;exact⟨h.1.symm,h.2.symm⟩)
        clear hw
        go_wp2_with (first
      | (((with_reducible refine (qaN _ Y Y _).mono ?_);rintro e' _ ⟨rfl,rfl⟩))
      | (((with_reducible refine (qbl _ Y Y _).mono ?_);rintro e' _ ⟨rfl,rfl⟩))
      | (((with_reducible refine (WD.out _).mono ?_);rintro e' _ ⟨rfl,dw,ow,rfl⟩)))
        obtain⟨rfl,rfl⟩:=HR2.out
        refine bodyPost_ret (v:=.tuple #[.agg #[.int .i64 5,.int .i64 (k:Int),.string t,.int .i64 0],.int .i64 (m:Int),.int .i64 0]) (by simp[results,results117,go_sem]) rfl (OnePost.mk 5 k t 0 m rfl (fun _=>⟨rfl,rfl,rfl,rfl,by rw[HE.out]⟩) (by repeat(first | exact Ext.refl _ | apply Ext.alloc | apply Ext.more | (refine Ext.setCell ?_ (by simp) _))))
theorem one_digit (s:ByteArray) (hs:(s.size:Int) <= 5000) (k n:Nat) (hk:k<s.size) (hl:qar ((s[k]'hk).toNat:Int)=false) (hdg:qah ((s[k]'hk).toNat:Int)=true) (hn:spanN qah (s.data.toList.drop k)=n) (t:ByteArray) (ht:s.extract k (k+n)=t) (r:Tok) (e:Int)
    (hr:(if (1<n /\ (s[k]'hk).toNat=48) \/ headLetter (s.data.toList.drop (k+n))=true then(tok0,3) else numF t)=(r,e)) (w:World) :
    Calls prog 117 #[.string s,.int .i64 (k:Int)] w (OnePost r k n e w):=by
  have HN:=J hn
  have HR:=J hr
  have hle:=spanN_le qah (s.data.toList.drop k)
  rw[hn] at hle
  have hkn:k+n <= s.size:=by simp at hle;omega
  have hts:t.size=n:=by rw[<- ht];simp;omega
  have hk5:(k:Int) <= 5000:=by omega
  have hki:(k:Int)<(s.size:Int):=by omega
  have hu:=(s[k]'hk).toNat_lt
  have HDD:=J (qfp s k n Y hn hkn)
  rw[ht] at HDD
  have HT:=J ht
  clear hn hr hle ht
  go_enter func117,ntmps117
  go_wp2_with (first
      | (((with_reducible refine (qaN _ Y Y _).mono ?_);rintro e' _ ⟨rfl,rfl⟩))
      | (((with_reducible refine (qbl _ Y Y _).mono ?_);rintro e' _ ⟨rfl,rfl⟩)))
  go_loopw [9] (fun a wr=>∃ m:Nat,a=.int .i64 (m:Int) /\ k <= m /\ m <= s.size /\ m+spanN qah (s.data.toList.drop m)=k+n /\ wr=(w.alloc (.cells #[.int .i64 0,.int .i64 0,.string ⟨#[]⟩,.int .i64 0] 186 (0,0))).alloc (.cells #[.int .i64 0,.int .i64 (k:Int),.string ⟨#[]⟩,.int .i64 0] 186 (0,0))) (fun a _=>s.size-(intOf a).toNat)
  case atStart=>exact⟨k,rfl,Nat.le_refl _,by omega,by rw[HN.out],rfl⟩
  case round =>
    obtain⟨m,rfl,hkm,hms,hsp,rfl⟩:=hrel
    have HS:=J hsp
    clear hsp
    have hm5:(m:Int) <= 5000:=by omega
    by_cases hdig:∃ hlt:m<s.size,qah ((s[m]'hlt).toNat:Int)=true
    · obtain⟨hlt,q2⟩:=hdig
      have hlt2:(m:Int)<(s.size:Int):=by omega
      have hv:=(s[m]'hlt).toNat_lt
      have HLT:=J hlt
      have HS2:Hid (m+1+spanN qah (s.data.toList.drop (m+1))=k+n):=J (by
        have h:=HS.out
        rw[qds qah s m hlt,if_pos q2] at h
        omega)
      go_wp2_with (first
      | (((with_reducible refine (qaN _ Y Y _).mono ?_);rintro e' _ ⟨rfl,rfl⟩))
      | (((with_reducible refine (qbl _ Y Y _).mono ?_);rintro e' _ ⟨rfl,rfl⟩)))
      go_roundw
      case rel=>exact⟨m+1,by go_num,by omega,by have:=HLT.out;omega,HS2.out,by first | rfl | trivial⟩
      case measure=>have:=HLT.out;simp[intOf];omega
    have HE:Hid (m=k+n):=J (by
      have h:=HS.out
      by_cases hlt:m<s.size
      · rw[qds qah s m hlt,if_neg (fun q=>hdig ⟨hlt,q⟩)] at h
        omega
      · rw[show m=s.size by omega,span_end] at h
        omega)
    have hkm2:(k:Int) <= (m:Int):=by omega
    have hms2:(m:Int) <= (s.size:Int):=by omega
    cases hlet:headLetter (s.data.toList.drop (k+n)) with
    | true =>
      have hlt:m<s.size:=by
        by_cases hlt:m<s.size
        · exact hlt
        · rw[<- HE.out,show m=s.size by omega,qcH] at hlet
          cases hlet
      have q2:qah ((s[m]'hlt).toNat:Int)=false:=by
        cases q:qah ((s[m]'hlt).toNat:Int)
        · rfl
        · exact absurd ⟨hlt,q⟩ hdig
      have q3:qar ((s[m]'hlt).toNat:Int)=true:=by rw[<- HE.out,qaT s m hlt] at hlet;exact hlet
      have hlt2:(m:Int)<(s.size:Int):=by omega
      have hv:=(s[m]'hlt).toNat_lt
      have HR2:Hid (e=3):=J (by
        have h:=HR.out;rw[if_pos (Or.inr hlet)] at h;simp only[Prod.mk.injEq] at h;exact h.2.symm)
      clear hdig hlet
      go_wp2_with (first
      | (((with_reducible refine (qaN _ Y Y _).mono ?_);rintro e' _ ⟨rfl,rfl⟩))
      | (((with_reducible refine (qbl _ Y Y _).mono ?_);rintro e' _ ⟨rfl,rfl⟩)))
      all_goals exact bodyPost_ret (v:=.tuple #[.agg #[.int .i64 0,.int .i64 (k:Int),.string ⟨#[]⟩,.int .i64 0],.int .i64 0,.int .i64 3]) (by simp[results,results117,go_sem]) rfl (OnePost.mk 0 k ⟨#[]⟩ 0 0 (by rw[HR2.out]) (fun h0=>by have:=HR2.out;omega) (by repeat(first | exact Ext.refl _ | apply Ext.alloc | apply Ext.more | (refine Ext.setCell ?_ (by simp) _))))
    | false =>
      have hend:(∃ hlt:m<s.size,qah ((s[m]'hlt).toNat:Int)=false /\ qar ((s[m]'hlt).toNat:Int)=false /\ (m:Int)<(s.size:Int) /\ (s[m]'hlt).toNat<256) \/ (s.size:Int) <= (m:Int):=by
        by_cases hlt:m<s.size
        · refine .inl ⟨hlt,?_,by rw[<- HE.out,qaT s m hlt] at hlet;exact hlet,by omega,(s[m]'hlt).toNat_lt⟩
          cases q:qah ((s[m]'hlt).toNat:Int)
          · rfl
          · exact absurd ⟨hlt,q⟩ hdig
        · exact .inr Y
      have hx:s.extract k m=t:=by rw[HE.out];exact HT.out
      have hmk:(m:Int)-(k:Int)=(n:Int):=by have:=HE.out;omega
      have HLE:=J hlet
      clear hdig hlet
      by_cases hc:1<n /\ (s[k]'hk).toNat=48
      · have hc1:1<(m:Int)-(k:Int):=by omega
        have hc2:((s[k]'hk).toNat:Int)=48:=by omega
        have HC:=J hc
        clear hc hmk
        have HR2:Hid (e=3):=J (by
          have h:=HR.out;rw[if_pos (Or.inl HC.out)] at h;simp only[Prod.mk.injEq] at h;exact h.2.symm)
        rcases hend with ⟨hlt,q2,q3,hlt2,hv⟩ | hlt2
        all_goals
          go_wp2_with (first
      | (((with_reducible refine (qaN _ Y Y _).mono ?_);rintro e' _ ⟨rfl,rfl⟩))
      | (((with_reducible refine (qbl _ Y Y _).mono ?_);rintro e' _ ⟨rfl,rfl⟩)))
          all_goals exact bodyPost_ret (v:=.tuple #[.agg #[.int .i64 0,.int .i64 (k:Int),.string ⟨#[]⟩,.int .i64 0],.int .i64 0,.int .i64 3]) (by simp[results,results117,go_sem]) rfl (OnePost.mk 0 k ⟨#[]⟩ 0 0 (by rw[HR2.out]) (fun h0=>by have:=HR2.out;omega) (by repeat(first | exact Ext.refl _ | apply Ext.alloc | apply Ext.more | (refine Ext.setCell ?_ (by simp) _))))
      · have HR2:Hid (numF t=(r,e)):=J (by
          have h:=HR.out
          rw[if_neg (by rw[HLE.out];simpa using hc)] at h;exact h)
        obtain⟨R,hR⟩:∃ R,numG 0 t.data.toList=R:=⟨_,rfl⟩
        have NB:=J (fun w1=>number16 t Y HDD.out R hR w1)
        unfold numF at HR2
        rw[hR] at HR2
        have hcz:((m:Int)-(k:Int) <= 1 /\ ((s[k]'hk).toNat:Int)=48) \/ (((s[k]'hk).toNat:Int)==48)=false:=by
          by_cases hz:(s[k]'hk).toNat=48
          · exact .inl ⟨by omega,by omega⟩
          · exact .inr (beq_eq_false_iff_ne.2 Y)
        clear hR hc hmk
        rcases hcz with ⟨hc1,hc2⟩ | hc2
        all_goals
          rcases hend with ⟨hlt,q2,q3,hlt2,hv⟩ | hlt2
          all_goals
            cases R with
            | none =>
              have HR3:Hid (e=8):=J (by have h:=HR2.out;unfold numE at h;simp only[Prod.mk.injEq] at h;exact h.2.symm)
              unfold numV at NB
              go_wp2_with (first
      | (((with_reducible refine (qaN _ Y Y _).mono ?_);rintro e' _ ⟨rfl,rfl⟩))
      | (((with_reducible refine (qbl _ Y Y _).mono ?_);rintro e' _ ⟨rfl,rfl⟩))
      | (((with_reducible refine (NB.out _).mono ?_); rintro e' _ ⟨rfl, rfl⟩)))
              exact bodyPost_ret (v:=.tuple #[.agg #[.int .i64 0,.int .i64 (k:Int),.string ⟨#[]⟩,.int .i64 0],.int .i64 0,.int .i64 8]) (by simp[results,results117,go_sem]) rfl (OnePost.mk 0 k ⟨#[]⟩ 0 0 (by rw[HR3.out]) (fun h0=>by have:=HR3.out;omega) (by repeat(first | exact Ext.refl _ | apply Ext.alloc | apply Ext.more | (refine Ext.setCell ?_ (by simp) _))))
            | some v =>
              have HR3:Hid (r=⟨2,⟨#[]⟩,v⟩ /\ e=0):=J (by have h:=HR2.out;unfold numE at h;simp only[Prod.mk.injEq] at h;exact⟨h.1.symm,h.2.symm⟩)
              unfold numV at NB
              go_wp2_with (first
      | (((with_reducible refine (qaN _ Y Y _).mono ?_);rintro e' _ ⟨rfl,rfl⟩))
      | (((with_reducible refine (qbl _ Y Y _).mono ?_);rintro e' _ ⟨rfl,rfl⟩))
      | (((with_reducible refine (NB.out _).mono ?_); rintro e' _ ⟨rfl, rfl⟩)))
              obtain⟨rfl,rfl⟩:=HR3.out
              exact bodyPost_ret (v:=.tuple #[.agg #[.int .i64 2,.int .i64 (k:Int),.string ⟨#[]⟩,.int .i64 v],.int .i64 (m:Int),.int .i64 0]) (by simp[results,results117,go_sem]) rfl (OnePost.mk 2 k ⟨#[]⟩ v m rfl (fun _=>⟨rfl,rfl,rfl,rfl,by rw[HE.out]⟩) (by repeat(first | exact Ext.refl _ | apply Ext.alloc | apply Ext.more | (refine Ext.setCell ?_ (by simp) _))))
theorem textG_k (l acc:List UInt8):(textG l acc).2.2=0 -> (textG l acc).1.k=3 /\ (textG l acc).1.i=0:=by
  fun_induction textG l acc
  all_goals intro h
  all_goals first
    | (exfalso;exact absurd h (by decide))
    | exact⟨rfl,rfl⟩
    | (rename_i ih;exact ih h)
theorem one_text (s:ByteArray) (hs:(s.size:Int) <= 5000) (k n:Nat) (hk:k<s.size) (hl:qar ((s[k]'hk).toNat:Int)=false) (hdg:qah ((s[k]'hk).toNat:Int)=false) (hq:(s[k]'hk).toNat=34) (r:Tok) (e:Int) (hr:textG (s.data.toList.drop (k+1)) []=(r,n,e)) (w:World) :
    Calls prog 117 #[.string s,.int .i64 (k:Int)] w (OnePost r k (1+n) e w):=by
  have TX:=J (fun w1=>text16 s hs k (k+1+n) hk r e (by rw[hr]) (by rw[hr]) (by rw[hr]) w1)
  have HK:=J (textG_k (s.data.toList.drop (k+1)) [])
  rw[hr] at HK
  have hk5:(k:Int) <= 5000:=by omega
  have hki:(k:Int)<(s.size:Int):=by omega
  have hu:=(s[k]'hk).toNat_lt
  have hq2:((s[k]'hk).toNat:Int)=34:=by omega
  clear hr hq
  go_enter func117,ntmps117
  go_wp2_with (first
      | (((with_reducible refine (qaN _ Y Y _).mono ?_);rintro e' _ ⟨rfl,rfl⟩))
      | (((with_reducible refine (qbl _ Y Y _).mono ?_);rintro e' _ ⟨rfl,rfl⟩))
      | (((with_reducible refine (TX.out _).mono ?_);rintro e' _ ⟨⟨q,z,rfl,hq5⟩,rfl⟩;have HQ:=J hq5;clear hq5)))
  refine bodyPost_ret (v:=.tuple #[.agg #[.int .i64 3,.int .i64 (k:Int),.string q,.int .i64 0],.int .i64 z,.int .i64 e]) (by simp[results,results117,go_sem]) rfl (OnePost.mk 3 k q 0 z rfl (fun h0=>?_) (by repeat(first | exact Ext.refl _ | apply Ext.alloc | apply Ext.more | (refine Ext.setCell ?_ (by simp) _))))
  obtain⟨h1,h2⟩:=HQ.out h0
  obtain⟨h3,h4⟩:=HK.out h0
  exact⟨h3.symm,rfl,h1,h4.symm,by rw[h2];omega⟩
theorem sign_cut (s:ByteArray) (k n:Nat) (hk:k<s.size) (r:Tok) (e:Int) (hr:signF (s.data.toList.drop k)=(r,n,e)):(n=0 /\ e=3) \/ (0<n /\ k+n <= s.size /\ n <= 2 /\ e=0 /\ r=⟨4,s.extract k (k+n),0⟩):=by
  have hd:=qaT s k hk
  cases hf:twoL.find? (fun q=>Lib.hasPrefix (s.data.toList.drop k) q.data.toList) with
  | some p =>
    have h:=(two_n _ p hf).2
    rw[hr] at h
    simp only[Prod.mk.injEq] at h
    obtain⟨rfl,rfl,rfl⟩:=h
    right
    obtain⟨a,b,hab⟩:=qeP p (List.mem_of_find?_eq_some hf)
    have hp:=List.find?_some hf
    rw[hab] at hp
    have hpre:=List.isPrefixOf_iff_prefix.1 hp
    obtain⟨x,hx⟩:=hpre
    have hlen:=congrArg List.length hx
    simp at hlen
    refine ⟨by omega,by omega,by omega,rfl,?_⟩
    have:s.extract k (k+2)=p:=by
      rw[qaQ,<- hx]
      apply ByteArray.ext
      apply Array.ext'
      simp[hab]
    rw[this]
  | none =>
    rw[hd] at hf
    have h:=one_n _ _ hf
    cases hc:singles.data.toList.contains (s[k]'hk)
    · have:=h.2 hc
      rw[<- hd] at this
      unfold signN at this
      rw[hr] at this
      exact Or.inl this
    · have:=(h.1 hc).2
      rw[<- hd,hr] at this
      simp only[Prod.mk.injEq] at this
      obtain⟨rfl,rfl,rfl⟩:=this
      exact Or.inr ⟨by omega,by omega,by omega,rfl,by rw[ext_one s k hk]⟩
theorem one_sign (s:ByteArray) (hs:(s.size:Int) <= 5000) (k n:Nat) (hk:k<s.size) (hl:qar ((s[k]'hk).toNat:Int)=false) (hdg:qah ((s[k]'hk).toNat:Int)=false) (hq:(s[k]'hk).toNat≠34) (r:Tok) (e:Int) (hr:signF (s.data.toList.drop k)=(r,n,e)) (w:World) :
    Calls prog 117 #[.string s,.int .i64 (k:Int)] w (OnePost r k n e w):=by
  have SG:=J (fun w1=>sign16 s hs k n hk (by unfold signN;rw[hr]) w1)
  have hcut:=sign_cut s k n hk r e hr
  have hk5:(k:Int) <= 5000:=by omega
  have hki:(k:Int)<(s.size:Int):=by omega
  have hu:=(s[k]'hk).toNat_lt
  have hq2:(((s[k]'hk).toNat:Int)==34)=false:=beq_eq_false_iff_ne.2 Y
  clear hr hq
  rcases hcut with ⟨rfl,rfl⟩ | ⟨h0,hkn,h2,rfl,rfl⟩
  · go_enter func117,ntmps117
    go_wp2_with (first
      | (((with_reducible refine (qaN _ Y Y _).mono ?_);rintro e' _ ⟨rfl,rfl⟩))
      | (((with_reducible refine (qbl _ Y Y _).mono ?_);rintro e' _ ⟨rfl,rfl⟩))
      | (((with_reducible refine (SG.out _).mono ?_);rintro e' _ ⟨rfl,dw,ow,rfl⟩)))
    exact bodyPost_ret (v:=.tuple #[.agg #[.int .i64 0,.int .i64 (k:Int),.string ⟨#[]⟩,.int .i64 0],.int .i64 0,.int .i64 3]) (by simp[results,results117,go_sem]) rfl (OnePost.mk 0 k ⟨#[]⟩ 0 0 rfl (fun h0=>absurd h0 (by decide)) (by repeat(first | exact Ext.refl _ | apply Ext.alloc | apply Ext.more | (refine Ext.setCell ?_ (by simp) _))))
  · have hn0:((n:Int)==0)=false:=beq_eq_false_iff_ne.2 Y
    have hkn2:(k:Int)+(n:Int) <= (s.size:Int):=by omega
    have hn2:(n:Int) <= 2:=by omega
    have hnn:0 <= (n:Int):=by omega
    have hx:(k:Int) <= (k:Int)+(n:Int):=by omega
    have htn:((k:Int)+(n:Int)).toNat=k+n:=by omega
    obtain⟨t,ht⟩:∃ t,s.extract k (k+n)=t:=⟨_,rfl⟩
    go_enter func117,ntmps117
    go_wp2_with (first
      | (((with_reducible refine (qaN _ Y Y _).mono ?_);rintro e' _ ⟨rfl,rfl⟩))
      | (((with_reducible refine (qbl _ Y Y _).mono ?_);rintro e' _ ⟨rfl,rfl⟩))
      | (((with_reducible refine (SG.out _).mono ?_);rintro e' _ ⟨rfl,dw,ow,rfl⟩)))
    rw[ht]
    exact bodyPost_ret (v:=.tuple #[.agg #[.int .i64 4,.int .i64 (k:Int),.string t,.int .i64 0],.int .i64 ((k:Int)+(n:Int)),.int .i64 0]) (by simp[results,results117,go_sem]) rfl (OnePost.mk 4 k t 0 _ rfl (fun _=>⟨rfl,rfl,rfl,rfl,rfl⟩) (by repeat(first | exact Ext.refl _ | apply Ext.alloc | apply Ext.more | (refine Ext.setCell ?_ (by simp) _))))
theorem one16 (s:ByteArray) (hs:(s.size:Int) <= 5000) (k n:Nat) (hk:k<s.size) (r:Tok) (e:Int) (hr:oneF (s.data.toList.drop k)=(r,n,e)) (w:World):Calls prog 117 #[.string s,.int .i64 (k:Int)] w (OnePost r k n e w):=by
  have hd:=qaT s k hk
  rw[hd] at hr
  unfold oneF at hr
  dsimp only at hr
  rw[<- hd] at hr
  have ex:∀ n,(⟨((s.data.toList.drop k).take n).toArray⟩:ByteArray)=s.extract k (k+n):=fun n=>(qaQ s k n).symm
  simp only[ex] at hr
  cases hl:qar ((s[k]'hk).toNat:Int)
  · rw[hl,if_neg (by simp)] at hr
    cases hdg:qah ((s[k]'hk).toNat:Int)
    · rw[hdg,if_neg (by simp)] at hr
      by_cases hq:(s[k]'hk).toNat=34
      · rw[if_pos hq] at hr
        simp only[Prod.mk.injEq] at hr
        obtain⟨h1,rfl,h3⟩:=hr
        exact one_text s hs k _ hk hl hdg hq r e (by rw[<- h1,<- h3]) w
      · rw[if_neg hq] at hr
        exact one_sign s hs k n hk hl hdg hq r e hr w
    · rw[hdg,if_pos rfl] at hr
      have key:n=spanN qah (s.data.toList.drop k) /\ (if (1<spanN qah (s.data.toList.drop k) /\ (s[k]'hk).toNat=48) \/ headLetter (s.data.toList.drop (k+spanN qah (s.data.toList.drop k)))=true then(tok0,3) else numF (s.extract k (k+spanN qah (s.data.toList.drop k))))=(r,e):=by
        rw[List.drop_drop] at hr
        split at hr
        · next hc=>rw[if_pos hc];simp only[Prod.mk.injEq] at hr ⊢;exact⟨hr.2.1.symm,hr.1,hr.2.2⟩
        · next hc =>
          rw[if_neg hc];simp only[Prod.mk.injEq] at hr
          exact⟨hr.2.1.symm,by rw[<- hr.1,<- hr.2.2]⟩
      obtain⟨rfl,h2⟩:=key
      exact one_digit s hs k _ hk hl hdg rfl _ rfl r e h2 w
  · rw[hl,if_pos rfl] at hr
    simp only[Prod.mk.injEq] at hr
    obtain⟨h1,rfl,h3⟩:=hr
    exact one_letter s hs k _ hk hl rfl _ rfl r e (by rw[<- h1,<- h3]) w
def TokPost16 (w:World) (r:List (Tok × Nat) × Int × Nat) (e:Ending) (w':World):Prop :=
  (r.2.1=0 /\ ∃ g cap,e=.returned (.tuple #[.slice (some ⟨g,0,none⟩) r.1.length cap,.int .i64 0,.int .i64 0]) /\ w'.ownsRow w.heap.size 186 4 (.slice (some ⟨g,0,none⟩) r.1.length cap) r.1.length (qat r.1) /\ Ext w w') \/
  (r.2.1≠0 /\ e=.returned (.tuple #[.slice none 0 0,.int .i64 r.2.1,.int .i64 (r.2.2:Int)]) /\ Ext w w')
theorem TokPost16.err {w w':World} {r:List (Tok × Nat) × Int × Nat} {e:Ending} (h:r.2.1≠0) (he:e=.returned (.tuple #[.slice none 0 0,.int .i64 r.2.1,.int .i64 (r.2.2:Int)])) (hx:Ext w w'):TokPost16 w r e w':=Or.inr ⟨h,he,hx⟩
theorem TokPost16.ok {w w':World} {l:List (Tok × Nat)} {x:Nat} {v:Value} {e:Ending} (he:e=.returned (.tuple #[v,.int .i64 0,.int .i64 0])) (hl:0<l.length) (ho:w'.ownsRow w.heap.size 186 4 v l.length (qat l)) (hx:Ext w w'):TokPost16 w (l,0,x) e w':=by
  obtain⟨g,cap,rfl,_,_⟩:=ho.form hl
  exact Or.inl ⟨rfl,g,cap,he,ho,hx⟩
theorem own_frame {W w w1:World} {v:Value} {n:Nat} {xs:List Value} {e:TypeId} {size:Nat} (hx:Ext W w) (h:w.ownsRow W.heap.size e size v n xs) (hg:w.grownBy w1 v.ownBlock):Ext W w1:=by
  exact hx.grown hg fun k hk=>(h.lt k hk).1
theorem tok16_x (s:ByteArray) (hs:(s.size:Int) <= 4096) (res:List (Tok × Nat) × Int × Nat) (hr:lexG s.data.toList (s.size+1) 0 []=res) (w:World):Calls prog 104 #[.string s] w (TokPost16 w res):=by
  have HR:=J hr
  have hs5:(s.size:Int) <= 5000:=by omega
  have SK0:Hid (∀ w1,Calls prog 116 #[.string s,.int .i64 0] w1 fun e w'=>e=.returned (.int .i64 ((0+skipL false (s.data.toList.drop 0):Nat):Int)) /\ w1=w'):=J (fun w1=>skip16 s hs5 0 _ (Nat.zero_le _) rfl w1)
  have hle0:=qch false (s.data.toList.drop 0)
  have hlen:s.data.toList.length=s.size:=by simp
  obtain⟨i0,hi,hz0,hz1,hz2⟩:=info_parts tokInfo
  clear hr
  go_enter func104,ntmps104
  go_wp2_with (((with_reducible refine (SK0.out _).mono ?_);rintro e' _ ⟨rfl,rfl⟩))
  go_loopg [5,6] (s.size+1) (fun g x y wr=>∃ (k K:Nat) (acc:List (Tok × Nat)) (lv:Value),lv=x /\ y=.int .i64 (K:Int) /\ k <= s.size /\ s.size+1 <= k+g /\ acc.length <= 1024 /\ K=k+skipL false (s.data.toList.drop k) /\ lexG s.data.toList g k acc=res /\ wr.ownsRow w.heap.size 186 4 lv acc.length (qat acc) /\ Ext w wr)
  case atStart=>exact⟨0,_,[],.slice none 0 0,rfl,rfl,Nat.zero_le _,by omega,by simp,by first | rfl | simp,HR.out,World.ownsRow_nil _ _ _ _,Ext.refl _⟩
  case round =>
    obtain⟨k,K,acc,lv,rfl,rfl,hk,hkg,hac,hK,hlex,hown,hx⟩:=hrel
    obtain⟨g,rfl⟩:∃ g,gk=g+1:=⟨gk-1,by omega⟩
    have hle:=qch false (s.data.toList.drop k)
    rw[List.length_drop,hlen] at hle
    rw[lexG,hlen,<- hK] at hlex
    have HOWN:=J hown
    have HX:=J hx
    have hK5:(K:Int) <= 5000:=by omega
    have hac2:(acc.length:Int) <= 1024:=by omega
    clear hown hx hle0
    by_cases hend:s.size <= K
    · have hKe:(K:Int)=(s.size:Int):=by omega
      have hend2:(s.size:Int) <= (K:Int):=by omega
      rw[if_pos hend] at hlex
      have HL:=J hlex
      clear hlex hend hK hle
      go_wp2_with (at_builtin;refine wpList_append_own_at _ rfl _ _ 156 rfl w.heap.size 186 i0 (.agg #[.int .i64 0,.int .i64 0,.string ⟨#[]⟩,.int .i64 0]) 4 40 underlying156 hi hz0 hz1 hz2 rfl (by decide) lv acc.length (qat acc) rfl ?c0 ⟨_,0,none⟩ 1 1 [.int .i64 0,.int .i64 (s.size:Int),.string ⟨#[]⟩,.int .i64 0] rfl rfl ?c1 ?c2 ?c3 ?c4 ?c5 ?_)
      case c0=>repeat(first | (with_reducible exact HOWN.out) | (with_reducible refine World.ownsRow.alloc ?_ _) | (with_reducible apply own_more))
      case c1=>exact qaq rfl
      case c2=>intro u hu;simp at hu;rcases hu with rfl | rfl | rfl | rfl<;>rfl
      case c3=>unfold maxLen;omega
      case c4=>omega
      case c5=>have h:=HX.out.size;simp;omega
      intro v' w1 hown' hgrow _ hblk
      have hl:=HL.out
      subst hl
      have XF:=own_frame ((HX.out).alloc (.cells #[.int .i64 0,.int .i64 (s.size:Int),.string ⟨#[]⟩,.int .i64 0] 186 (0,0))) ((HOWN.out).alloc _) hgrow
      clear hgrow hblk
      go_wp2_with fail
      go_ret3
      refine TokPost16.ok rfl (by simp) ?_ XF
      rw[qbv]
      simpa [tok0,List.length_append] using hown'
    · have hKlt:K<s.size:=Y
      have hKi:(K:Int)<(s.size:Int):=by omega
      rw[if_neg hend] at hlex
      obtain⟨r,n1,e1,hone⟩:∃ r n1 e1,oneF (s.data.toList.drop K)=(r,n1,e1):=⟨_,_,_,rfl⟩
      rw[hone] at hlex
      dsimp only at hlex
      have OE:=J (fun w1=>one16 s hs5 K n1 hKlt r e1 hone w1)
      by_cases he:e1=0
      rotate_left
      · rw[if_pos he] at hlex
        have HL:=J hlex
        have he2:(e1 !=0)=true:=by simpa using he
        have HE:=J he
        clear hlex hend hK hle he
        go_wp2_with (((with_reducible refine (OE.out _).mono ?_);rintro e' _ ⟨⟨ta,tb,tc,td,tz,rfl,hok⟩,d1,os1,rfl⟩;have HOK:=J hok;clear hok))
        go_ret3
        have hl:=HL.out
        subst hl
        exact TokPost16.err HE.out rfl (by refine HX.out.trans ?_;repeat(first | exact Ext.refl _ | apply Ext.alloc | apply Ext.more))
      · subst he
        rw[if_neg (by simp)] at hlex
        by_cases hfull:acc.length=1024
        · rw[if_pos hfull] at hlex
          have HL:=J hlex
          have hlv:∃ p c,lv=.slice p acc.length c:=by
            rcases Go.Joins.ownsRow_forms HOWN.out with ⟨rfl,h0⟩ | ⟨g1,c,rfl⟩
            · exact⟨none,0,by rw[h0]⟩
            · exact⟨_,_,rfl⟩
          obtain⟨p,c,rfl⟩:=hlv
          have hge:(1024:Int) <= (acc.length:Int):=by omega
          clear hlex hend hK hle hfull
          go_wp2_with (((with_reducible refine (OE.out _).mono ?_);rintro e' _ ⟨⟨ta,tb,tc,td,tz,rfl,hok⟩,d1,os1,rfl⟩;have HOK:=J hok;clear hok))
          go_ret3
          have hl:=HL.out
          subst hl
          exact TokPost16.err (show(5:Int)≠0 by decide) rfl (by refine HX.out.trans ?_;repeat(first | exact Ext.refl _ | apply Ext.alloc | apply Ext.more))
        · rw[if_neg hfull] at hlex
          have hlv:∃ p c,lv=.slice p acc.length c:=by
            rcases Go.Joins.ownsRow_forms HOWN.out with ⟨rfl,h0⟩ | ⟨g1,c,rfl⟩
            · exact⟨none,0,by rw[h0]⟩
            · exact⟨_,_,rfl⟩
          obtain⟨p,c,rfl⟩:=hlv
          have hlt1:(acc.length:Int)<1024:=by omega
          have hbd:=oneF_bd _ r n1 (by rw[List.length_drop,hlen];omega) hone
          rw[List.length_drop,hlen] at hbd
          have SK:Hid (∀ w1,Calls prog 116 #[.string s,.int .i64 ((K:Int)+(n1:Int))] w1 fun e w'=>e=.returned (.int .i64 ((K+n1+skipL false (s.data.toList.drop (K+n1)):Nat):Int)) /\ w1=w'):=J (fun w1=>by have h:=skip16 s hs5 (K+n1) _ Y rfl w1;rwa [Int.natCast_add] at h)
          have HL:=J hlex
          have HB:=J (And.intro hbd.1 (And.intro hkg (And.intro hK hlt1)))
          have HBD:=J hbd.2
          clear hlex hend hK hle hfull hkg hbd
          go_wp2_with (first
            | (((with_reducible refine (OE.out _).mono ?_);rintro e' _ ⟨⟨ta,tb,tc,td,tz,rfl,hok⟩,d1,os1,rfl⟩;have HOK:=J hok;clear hok))
            | (at_builtin;refine wpList_append_own_at _ rfl _ _ 156 rfl w.heap.size 186 i0 (.agg #[.int .i64 0,.int .i64 0,.string ⟨#[]⟩,.int .i64 0]) 4 40 underlying156 hi hz0 hz1 hz2 rfl (by decide) (.slice p acc.length c) acc.length (qat acc) rfl ?c0 ⟨_,0,none⟩ 1 1 [.int .i64 ta,.int .i64 tb,.string tc,.int .i64 td] rfl rfl ?c1 ?c2 ?c3 ?c4 ?c5 ?_))
          case c0=>repeat(first | (with_reducible exact HOWN.out) | (with_reducible refine World.ownsRow.alloc ?_ _) | (with_reducible apply own_more))
          case c1=>exact qaq (by simp[more_size])
          case c2=>intro u hu;simp at hu;rcases hu with rfl | rfl | rfl | rfl<;>rfl
          case c3=>unfold maxLen;omega
          case c4=>omega
          case c5=>have h:=HX.out.size;simp[more_size];omega
          intro v' w1 hown' hgrow _ hblk
          obtain⟨k1,k2,k3,k4,k5⟩:=HOK.out (by first | rfl | trivial)
          subst k1 k2 k3 k4 k5
          have XF:=J (own_frame (W:=w) (v:=.slice p acc.length c) (n:=acc.length) (xs:=qat acc) (e:=186) (size:=4) (by refine HX.out.trans ?_;repeat(first | exact Ext.refl _ | apply Ext.alloc | apply Ext.more)) (by repeat(first | (with_reducible exact HOWN.out) | (with_reducible refine World.ownsRow.alloc ?_ _) | (with_reducible apply own_more))) hgrow)
          have HO2:=J hown'
          clear hgrow hblk hown'
          go_wp2_with (((with_reducible refine (SK.out _).mono ?_);rintro e' _ ⟨rfl,rfl⟩))
          go_roundg g
          case measure=>omega
          case rel =>
            obtain⟨b1,b2,b3,b4⟩:=HB.out
            exact⟨K+n1,_,acc++[(r,K)],v',rfl,rfl,by have:=HBD.out;omega,by omega,by simp;omega,rfl,HL.out,by rw[qbv];simpa using HO2.out,XF.out⟩
theorem tok16 (s:ByteArray) (res:List (Tok × Nat) × Int × Nat) (hr:lexF s.data.toList=res) (w:World):Calls prog 104 #[.string s] w (TokPost16 w res):=by
  unfold lexF at hr
  have hlen:s.data.toList.length=s.size:=by simp
  rw[hlen] at hr
  by_cases h:4096<s.size
  · rw[if_pos h] at hr
    subst hr
    have h2:(4096:Int)<s.size:=by omega
    clear h
    go_enter func104,ntmps104
    go_wp2_with fail
    go_ret3
    exact TokPost16.err (show(5:Int)≠0 by decide) rfl (Ext.refl _)
  · rw[if_neg h] at hr
    exact tok16_x s Y res hr w
end Go.Proofs.YtpnabjopfpdkhaaGreatDoor
