/- Lemmas. -/
import Derived.Test.YtpnabjopfpdkhaaGreatDoorY05
import Derived.Test.YtpnabjopfpdkhaaGreatDoorY32
import Derived.WalkMore
set_option linter.all false
set_option maxHeartbeats 2000000
set_option maxRecDepth 20000
namespace Go.Proofs.YtpnabjopfpdkhaaGreatDoor
open Tryz RowKit
variable {w:World} {b k off:Nat} {l:List UInt8}
def BytesAt.lt (h:BytesAt w b off l) (hl:0<l.length):b<w.heap.size:=by
 have h0:=h 0 l[0] (by simp[List.getElem?_eq_getElem hl]);rcases Nat.lt_or_ge b w.heap.size with h' | h'
 . exact h'
 . unfold World.cell? at h0;simp[Array.getElem?_eq_none h'] at h0
def BytesAt.ext {w':World} (h:BytesAt w b off l) (hx:Ext w w'):BytesAt w' b off l:=by
 intro j u hj;have hb:=h.lt (by have:=(List.getElem?_eq_some_iff.1 hj).1;omega);obtain⟨d,os,rfl⟩:=hx;rw[qcw _ _ _ _ _ hb];exact h j u hj
def BytesAt.drop (h:BytesAt w b off l) (n:Nat):BytesAt w b (off+n) (l.drop n):=by
 intro j u hj;rw[List.getElem?_drop] at hj;have:=h _ _ hj;rw[Nat.add_assoc];exact this
def BytesAt.take (h:BytesAt w b off l) (n:Nat):BytesAt w b off (l.take n):=by
 intro j u hj;rw[List.getElem?_take] at hj
 split at hj
 . exact h _ _ hj
 . simp at hj
def pow7 (k:Nat):(2:Int) ^ (7*k)=((128 ^ k:Nat):Int):=by
 rw[Nat.pow_mul' 2 7 k |> fun h=>(by rw[Int.pow_mul];rfl:(2:Int) ^ (7*k)=(128:Int) ^ k)];simp
def qaK (n:Int):IntKind.u64.wrap n=n % 18446744073709551616:=by simp[IntKind.wrap,IntKind.bits,IntKind.signed]
def u64_nat (n:Nat) (h:n<18446744073709551616):IntKind.u64.wrap (n:Int)=(n:Int):=by rw[qaK];omega
def qgm (v c k:Nat) (hk:k<=9) (hv:v<128 ^ k) (h:c*128 ^ k<18446744073709551616) :
  bits BinOp.or IntKind.u64 (v:Int) (IntKind.u64.wrap ((c:Int)*2 ^ (7*k)))=((v+c*128 ^ k:Nat):Int):=by
 have hp:128 ^ k<=128 ^ 9:=Nat.pow_le_pow_right Y hk;rw[pow7,<-Int.natCast_mul,u64_nat _ h,u64_or_nat _ _ Y h,Nat.or_comm];have e:(128:Nat) ^ k=2 ^ (7*k):=by rw[Nat.pow_mul]
 rw[nat_join (7*k) (c*128 ^ k) v (by rw[e];exact Nat.mul_mod_left _ _) (by rw[<-e];exact hv),Nat.add_comm]
def and127 (c:Nat) (hc:c<256):bits BinOp.and IntKind.u8 (c:Int) 127=((c % 128:Nat):Int):=by
 have:=u8_and_nat c 127 hc Y;rw[nat_mask7] at this;exact this
def or_step (v c k:Nat) (hc:c<256) (hk:k<=9) (hv:v<128 ^ k) (h:c % 128*128 ^ k<18446744073709551616) :
  bits BinOp.or IntKind.u64 (v:Int) (IntKind.u64.wrap (IntKind.u64.wrap (bits BinOp.and IntKind.u8 (c:Int) 127)*2 ^ (7*k)))=((v+c % 128*128 ^ k:Nat):Int):=by
 rw[and127 c hc,u64_nat _ Y,qgm v (c % 128) k hk hv h]
def ret_int3 {k k' k'':IntKind} {a b c a' b' c':Int} (h:a=a') (h':b=b') (h'':c=c'):Ending.returned (.tuple #[.int k a,.int k' b,.int k'' c])=.returned (.tuple #[.int k a',.int k' b',.int k'' c']):=by rw[h,h',h'']
def qfs {c:Nat} (hk:k<=8) (hc:c<128):c*128 ^ k<18446744073709551616/\128 ^ (k+1)<=9223372036854775808:=by
 obtain⟨M,hM⟩:=qey k hk;have ep:128 ^ (k+1)=128*128 ^ k:=by rw[Nat.pow_succ,Nat.mul_comm]
 have hp:0<128 ^ k:=Nat.pow_pos Y;have h1:128 ^ (k+1)<=128 ^ 9:=Nat.pow_le_pow_right Y Y;have h2:c*128 ^ k<128*128 ^ k:=Nat.mul_lt_mul_of_pos_right hc hp;omega
def qcF (b off cap:Nat) (l:List UInt8) (w:World) (hm:l.length<=maxLen) (hb:BytesAt w b off l) (x n:Nat) (e:Int) (hr:cutG 0 0 l=(x,n,e)) :
  Calls prog 44 #[.slice (some ⟨b,off,none⟩) l.length cap] w fun r w'=>r=.returned (.tuple #[.int .u64 (x:Int),.int .i64 (n:Int),.int .i64 e])/\Ext w w':=by
 unfold maxLen at hm;obtain⟨len,hlen⟩:∃ len,l.length=len:=⟨_,rfl⟩
 have HL:=J hlen;rw[hlen] at hm ⊢;clear hlen;have HB:=J hb;have HR:=J hr;clear hb hr;go_enter func44,ntmps44
 go_wp2
 go_step3
 go_wp2
 go_step3
 go_wp2
 go_loop [5,10] (fun vv ii=>∃ (k v:Nat),k<=9/\k<=len/\vv=.int .u64 v/\ii=.int .i64 k/\v<128 ^ k/\cutG k v (l.drop k)=(x,n,e)) (fun _ ii=>len-(intOf ii).toNat)
 case atStart=>exact⟨0,0,Y,Y,rfl,rfl,zy,by simpa using HR.out⟩
 case round =>
  obtain⟨k,v,hk9,hkn,rfl,rfl,hv,hr⟩:=hrel;have HV:=J hv;clear hv HR;by_cases hlt:k<len
  . have hkl:k<l.length:=(by rw[HL.out];exact hlt)
    obtain⟨u,hu⟩:∃ u,l[k]=u:=⟨_,rfl⟩
    have hc:=HB.out k u (by rw[<-hu];exact List.getElem?_eq_getElem hkl);have hd:l.drop k=u::l.drop (k+1):=(by rw[<-hu];exact List.drop_eq_getElem_cons hkl)
    rw[hd] at hr;unfold cutG at hr;have hc2:=u.toNat_lt;generalize u.toNat=c at hr hc hc2;have hc3:c<256:=hc2;clear hc2 hd hu hkl;by_cases h9:k=9
    . subst h9;by_cases h1:1<c
      . rw[if_pos ⟨rfl,h1⟩] at hr;simp only[Prod.mk.injEq] at hr;obtain⟨rfl,rfl,rfl⟩:=hr
        go_wp2
        try rw[Exit.noGoto_ret]
        go_ret3;exact⟨rfl,Ext.refl _⟩
      . rw[if_neg Y,if_neg Y] at hr;by_cases h0:c=0
        . subst h0;rw[if_pos ⟨rfl,Y⟩] at hr;simp only[Prod.mk.injEq] at hr;obtain⟨rfl,rfl,rfl⟩:=hr
          go_wp2
          try rw[Exit.noGoto_ret]
          go_ret3;exact⟨rfl,Ext.refl _⟩
        . have e1:c=1:=Y;subst e1;rw[if_neg Y] at hr;simp only[Prod.mk.injEq] at hr;have Hr:=J hr;clear hr
          go_wp2
          try rw[Exit.noGoto_ret]
          go_ret3;obtain⟨rfl,rfl,rfl⟩:=Hr.out;refine ⟨ret_int3 ?_ ?_ rfl,Ext.refl _⟩
          . have:=qgm v 1 9 Y HV.out Y
            simpa [qaK] using this
          . simp
    . have h9':((k:Int)==9)=false:=zg;have hk8:k<=8:=Y;rw[if_neg Y] at hr;clear h9 hk9;by_cases h1:128<=c
      . rw[if_pos h1] at hr;have Hr:=J hr;clear hr
        go_wp2
        go_round
        case rel =>
         have hs:=qfs hk8 (Nat.mod_lt c (show 0<128 by omega));refine ⟨k+1,v+c % 128*128 ^ k,Y,Y,by rw[or_step v c k hc3 Y HV.out hs.1],by go_num,?_,Hr.out⟩;have h1:=HV.out;have h2:c % 128*128 ^ k<=127*128 ^ k:=Nat.mul_le_mul_right _ Y;rw[Nat.pow_succ];omega
        case measure=>simp[intOf];omega
      . rw[if_neg h1] at hr;by_cases h0:c=0
        . subst h0;by_cases hk0:k=0
          . subst hk0;rw[Nat.add_zero] at hc;rw[if_neg Y] at hr;simp only[Prod.mk.injEq] at hr;have Hr:=J hr;clear hr
            go_wp2
            try rw[Exit.noGoto_ret]
            go_ret3;obtain⟨rfl,rfl,rfl⟩:=Hr.out;refine ⟨ret_int3 ?_ ?_ rfl,Ext.refl _⟩
            . have:=qgm v 0 0 Y HV.out Y
              simpa [qaK] using this
            . simp
          . have hk1:0<k:=Y;clear hk0;rw[if_pos ⟨rfl,hk1⟩] at hr;simp only[Prod.mk.injEq] at hr;obtain⟨rfl,rfl,rfl⟩:=hr
            go_wp2
            try rw[Exit.noGoto_ret]
            go_ret3;exact⟨rfl,Ext.refl _⟩
        . have h0':((c:Int)==0)=false:=zg;rw[if_neg Y] at hr;simp only[Prod.mk.injEq] at hr;have Hr:=J hr;have hs:=J (qfs hk8 (show c<128 by omega)).1;clear hr h0
          go_wp2
          try rw[Exit.noGoto_ret]
          go_ret3;obtain⟨rfl,rfl,rfl⟩:=Hr.out;refine ⟨ret_int3 ?_ ?_ rfl,Ext.refl _⟩
          . have:=qgm v c k Y HV.out hs.out
            simpa using this
          . simp
  . have hk':k=len:=Y;have:l.drop k=[]:=by apply List.drop_eq_nil_of_le;have:=HL.out;omega
    rw[this] at hr;simp only[cutG,Prod.mk.injEq] at hr;obtain⟨rfl,rfl,rfl⟩:=hr;subst hk';clear hlt this
    go_wp2
    try rw[Exit.noGoto_ret]
    go_ret3;exact⟨rfl,Ext.refl _⟩
def qbH:∀ (l:List UInt8) (k:Nat),valB (l.drop k)<=valB l
 | [],k=>by simp
 | c::l,0=>by simp
 | c::l,k+1=>by
  have:=qbH l k;simp only[valB,List.drop_succ_cons];omega
def qfg (l:List UInt8) (N j:Nat) (hN:N<l.length) (hj:j<=N) (hl:j<l.length):valB ((l.take (N+1)).drop j)=valB ((l.take (N+1)).drop (j+1))*128+(l[j]).toNat % 128:=by
 have h:(l.take (N+1)).drop j=l[j]::(l.take (N+1)).drop (j+1):=by
  rw[List.drop_eq_getElem_cons zg];simp
 rw[h,valB];omega
def cutG_fit:∀ (l:List UInt8) (k v x n:Nat),k<=9->v<128 ^ k->cutG k v l=(x,n,0)->x<18446744073709551616:=by
 intro l
 induction l with
 | nil=>intro k v x n _ _ h;simp[cutG] at h
 | cons c l ih =>
  intro k v x n hk hv h;unfold cutG at h;have hc:=c.toNat_lt;by_cases c1:k=9/\1<c.toNat
  . rw[if_pos c1] at h;simp at h
  rw[if_neg c1] at h;by_cases c2:128<=c.toNat
  . rw[if_pos c2] at h;refine ih _ _ _ _ Y ?_ h;have h2:c.toNat % 128*128 ^ k<=127*128 ^ k:=Nat.mul_le_mul_right _ Y;rw[Nat.pow_succ];omega
  . rw[if_neg c2] at h;by_cases c3:c.toNat=0/\0<k
    . rw[if_pos c3] at h;simp at h
    rw[if_neg c3] at h;simp only[Prod.mk.injEq,and_true] at h;obtain⟨rfl,rfl⟩:=h;by_cases h9:k=9
    . subst h9;have:c.toNat<=1:=by omega
      have h2:c.toNat*128 ^ 9<=1*128 ^ 9:=Nat.mul_le_mul_right _ this;omega
    . have hs:=qfs (k:=k) (c:=c.toNat) Y Y;have ep:128 ^ (k+1)=128*128 ^ k:=(by rw[Nat.pow_succ,Nat.mul_comm])
      have h2:c.toNat*128 ^ k<=127*128 ^ k:=Nat.mul_le_mul_right _ Y;have:=hs.2;omega
def qgq (l:List UInt8) (N x n:Nat) (e:Int) (h:(valB (l.take (N+1)),N+1,0)=(x,n,e)/\cutG 0 0 l=(x,n,e)):valB (l.take (N+1))<18446744073709551616:=by
 obtain⟨h1,h2⟩:=h;simp only[Prod.mk.injEq] at h1;obtain⟨rfl,rfl,rfl⟩:=h1;exact cutG_fit l 0 0 _ _ Y zy h2
def contN_step (hk:k<9) (hl:k<l.length) (h:128<=(l[k]).toNat):contN (9-k) (l.drop k)=contN (9-(k+1)) (l.drop (k+1))+1:=by
 rw[List.drop_eq_getElem_cons hl,show 9-k=(9-(k+1))+1 from by omega,contN,if_pos h]
def contN_stop (hl:k<l.length) (h:¬ 128<=(l[k]).toNat):contN (9-k) (l.drop k)=0:=by
 rw[List.drop_eq_getElem_cons hl]
 cases 9-k with
 | zero=>rfl
 | succ f=>rw[contN,if_neg h]
def qeB (s:ByteArray) (hm:s.size<=maxLen) (w:World) (x n:Nat) (e:Int) (hr:cutG 0 0 s.data.toList=(x,n,e)) :
  Calls prog 67 #[.string s] w fun r w'=>r=.returned (.tuple #[.int .u64 (x:Int),.int .i64 (n:Int),.int .i64 e])/\Ext w w':=by
 unfold maxLen at hm;have hg:=hr;rw[cutG_ref _ _ _ Y] at hg;simp only[Nat.zero_add,Nat.sub_zero,Nat.pow_zero,Nat.mul_one] at hg;have HG:=J hg;have HR0:=J hr;have hlen:s.data.toList.length=s.size:=zy;have HLN:=J hlen;clear hg hr hlen;go_enter func67,ntmps67
 go_wp2
 go_loop [5] (fun ii=>∃ k:Nat,ii=.int .i64 k/\k<=8/\k<=s.size/\contN 9 s.data.toList=k+contN (9-k) (s.data.toList.drop k)) (fun ii=>9-(intOf ii).toNat)
 case atStart=>exact⟨0,rfl,Y,Y,zy⟩
 obtain⟨k,rfl,hk,hks,hc⟩:=hrel;have HC:=J hc;clear hc;by_cases hlt:k<s.size
 . have hkl:k<s.data.toList.length:=by rw[HLN.out];exact hlt
   have hg:s.data.toList[k]'hkl=s[k]'hlt:=rfl;by_cases h128:128<=((s[k]'hlt).toNat:Int)
   . have hst:=contN_step Y hkl (by rw[hg];omega);have HC2:Hid (contN 9 s.data.toList=k+1+contN (9-(k+1)) (s.data.toList.drop (k+1))):=J (by rw[HC.out,hst];omega);clear HC hst hg hkl;by_cases h8:k<8
     . go_wp2
       go_round
       case rel=>exact⟨k+1,by go_num,Y,Y,HC2.out⟩
       case measure=>simp[intOf];omega
     . have:k=8:=by omega
       subst this
       have hN9:contN 9 s.data.toList=9:=by
        rw[HC2.out];cases s.data.toList.drop 9<;>rfl
       have HG1:=HG.out;rw[hN9] at HG1;clear hN9 HC2 HG h8 hk;by_cases h9:9<s.size
       . have hN:9<s.size:=h9;have hd:s.data.toList.getD 9 0=s[9]'h9:=(by simp[List.getD,List.getElem?_eq_getElem (show 9<s.data.toList.length by rw[HLN.out];exact h9)];rfl)
         rw[hd,if_neg (by rw[HLN.out];omega)] at HG1;by_cases h91:1<((s[9]'h9).toNat:Int)
         . rw[if_pos ⟨rfl,Y⟩] at HG1;simp only[Prod.mk.injEq] at HG1;obtain⟨rfl,rfl,rfl⟩:=HG1;clear hd
           go_wp2
           go_ret3;exact⟨rfl,Ext.refl _⟩
         rw[if_neg Y] at HG1;by_cases h90:((s[9]'h9).toNat:Int)=0
         . rw[if_pos ⟨Y,Y⟩] at HG1;simp only[Prod.mk.injEq] at HG1;obtain⟨rfl,rfl,rfl⟩:=HG1;clear hd
           go_wp2
           go_ret3;exact⟨rfl,Ext.refl _⟩
         have h90':(((s[9]'h9).toNat:Int)==0)=false:=(by simpa using h90)
         rw[if_neg Y] at HG1;have HR:=J (And.intro HG1 HR0.out);clear h90 hd HG1 HR0
         go_wp2
         have HV:=J (show valB (s.data.toList.take (9+1))<18446744073709551616 from qgq _ _ _ _ _ HR.out)
         go_loop [6,7] (fun vv ii=>∃ (j V:Nat),j<=9+1/\vv=.int .u64 V/\ii=.int .i64 ((j:Int)-1)/\V=valB ((s.data.toList.take (9+1)).drop j)) (fun _ ii=>(intOf ii+1).toNat)
         case atStart=>exact⟨9+1,0,Y,rfl,by go_num,by rw[List.drop_of_length_le zg];rfl⟩
         case round =>
          obtain⟨j,V,hj,rfl,rfl,hV⟩:=hrel;have HV2:=J hV;clear hV
          cases j with
          | zero =>
           go_wp2
           go_ret3;have h:=HR.out.1;simp only[Prod.mk.injEq] at h
           obtain⟨rfl,rfl,rfl⟩:=h;refine ⟨ret_int3 ?_ ?_ rfl,Ext.refl _⟩
           . rw[HV2.out];simp
           . simp
          | succ j =>
           have hjs:j<s.size:=Y;have hs:=J (qfg s.data.toList 9 j (by simpa using hN) Y zcv);have hg:s.data.toList[j]'zcv=s[j]'hjs:=rfl
           have hb:V*128+(s[j]'hjs).toNat % 128<=18446744073709551615:=by
            have h1:=hs.out;rw[hg,<-HV2.out] at h1;have h2:=qbH (s.data.toList.take (9+1)) j;have h3:=HV.out;omega
           have hb':(V:Int)*128+((s[j]'hjs).toNat:Int) % 128<=18446744073709551615:=Y;have hb0:0<=((s[j]'hjs).toNat:Int) % 128:=Y;clear hb hg
           go_wp2
           go_round
           case rel =>
            refine ⟨j,V*128+(s[j]'hjs).toNat % 128,Y,?_,by go_num,?_⟩
            . first | rfl | go_num
            . have h1:=hs.out;rw[<-HV2.out] at h1;rw[h1];rfl
           case measure=>simp[intOf]<;>omega
       . rw[if_pos (by rw[HLN.out];omega)] at HG1;simp only[Prod.mk.injEq] at HG1;obtain⟨rfl,rfl,rfl⟩:=HG1
         go_wp2
         go_ret3;exact⟨rfl,Ext.refl _⟩
   . have hst:=contN_stop hkl (by rw[hg];omega);have hNk:contN 9 s.data.toList=k:=(by rw[HC.out,hst];rfl)
     have HG1:=HG.out;rw[hNk] at HG1;have hd:s.data.toList.getD k 0=s[k]'hlt:=(by simp[List.getD,List.getElem?_eq_getElem hkl];rfl)
     have hN:k<s.size:=hlt;rw[hd,if_neg (by rw[HLN.out];omega),if_neg Y] at HG1;have hk9:((k:Int)==9)=false:=zg;clear hNk hst HC HG hd hg hkl;have h128':((s[k]'hlt).toNat:Int)<128:=Y;clear h128;by_cases hk0:k=0
     . subst hk0;have hne:¬ s=ByteArray.empty:=(by rintro rfl;exact absurd hlt zw)
       rw[if_neg Y] at HG1;have HR:=J (And.intro HG1 HR0.out);clear HG1 HR0
       go_wp2
       all_goals
        have HV:=J (show valB (s.data.toList.take (0+1))<18446744073709551616 from qgq _ _ _ _ _ HR.out)
        go_loop [6,7] (fun vv ii=>∃ (j V:Nat),j<=0+1/\vv=.int .u64 V/\ii=.int .i64 ((j:Int)-1)/\V=valB ((s.data.toList.take (0+1)).drop j)) (fun _ ii=>(intOf ii+1).toNat)
        case atStart=>exact⟨0+1,0,Y,rfl,by go_num,by rw[List.drop_of_length_le zg];rfl⟩
        case round =>
         obtain⟨j,V,hj,rfl,rfl,hV⟩:=hrel;have HV2:=J hV;clear hV
         cases j with
         | zero =>
          go_wp2
          go_ret3;have h:=HR.out.1;simp only[Prod.mk.injEq] at h
          obtain⟨rfl,rfl,rfl⟩:=h;refine ⟨ret_int3 ?_ ?_ rfl,Ext.refl _⟩
          . rw[HV2.out];simp
          . simp
         | succ j =>
          have hjs:j<s.size:=Y;have hs:=J (qfg s.data.toList 0 j (by simpa using hN) Y zcv);have hg:s.data.toList[j]'zcv=s[j]'hjs:=rfl
          have hb:V*128+(s[j]'hjs).toNat % 128<=18446744073709551615:=by
           have h1:=hs.out;rw[hg,<-HV2.out] at h1;have h2:=qbH (s.data.toList.take (0+1)) j;have h3:=HV.out;omega
          have hb':(V:Int)*128+((s[j]'hjs).toNat:Int) % 128<=18446744073709551615:=Y;have hb0:0<=((s[j]'hjs).toNat:Int) % 128:=Y;clear hb hg
          go_wp2
          go_round
          case rel =>
           refine ⟨j,V*128+(s[j]'hjs).toNat % 128,Y,?_,by go_num,?_⟩
           . first | rfl | go_num
           . have h1:=hs.out;rw[<-HV2.out] at h1;rw[h1];rfl
          case measure=>simp[intOf]<;>omega
     . have hk1:0<k:=Y;clear hk0;by_cases h90:((s[k]'hlt).toNat:Int)=0
       . rw[if_pos ⟨Y,hk1⟩] at HG1;simp only[Prod.mk.injEq] at HG1;obtain⟨rfl,rfl,rfl⟩:=HG1
         go_wp2
         go_ret3;exact⟨rfl,Ext.refl _⟩
       . have h90':(((s[k]'hlt).toNat:Int)==0)=false:=(by simpa using h90)
         rw[if_neg Y] at HG1;have HR:=J (And.intro HG1 HR0.out);clear h90 HG1 HR0
         go_wp2
         have HV:=J (show valB (s.data.toList.take (k+1))<18446744073709551616 from qgq _ _ _ _ _ HR.out)
         go_loop [6,7] (fun vv ii=>∃ (j V:Nat),j<=k+1/\vv=.int .u64 V/\ii=.int .i64 ((j:Int)-1)/\V=valB ((s.data.toList.take (k+1)).drop j)) (fun _ ii=>(intOf ii+1).toNat)
         case atStart=>exact⟨k+1,0,Y,rfl,by go_num,by rw[List.drop_of_length_le zg];rfl⟩
         case round =>
          obtain⟨j,V,hj,rfl,rfl,hV⟩:=hrel;have HV2:=J hV;clear hV
          cases j with
          | zero =>
           go_wp2
           go_ret3;have h:=HR.out.1;simp only[Prod.mk.injEq] at h
           obtain⟨rfl,rfl,rfl⟩:=h;refine ⟨ret_int3 ?_ ?_ rfl,Ext.refl _⟩
           . rw[HV2.out];simp
           . simp
          | succ j =>
           have hjs:j<s.size:=Y;have hs:=J (qfg s.data.toList k j (by simpa using hN) Y zcv);have hg:s.data.toList[j]'zcv=s[j]'hjs:=rfl
           have hb:V*128+(s[j]'hjs).toNat % 128<=18446744073709551615:=by
            have h1:=hs.out;rw[hg,<-HV2.out] at h1;have h2:=qbH (s.data.toList.take (k+1)) j;have h3:=HV.out;omega
           have hb':(V:Int)*128+((s[j]'hjs).toNat:Int) % 128<=18446744073709551615:=Y;have hb0:0<=((s[j]'hjs).toNat:Int) % 128:=Y;clear hb hg
           go_wp2
           go_round
           case rel =>
            refine ⟨j,V*128+(s[j]'hjs).toNat % 128,Y,?_,by go_num,?_⟩
            . first | rfl | go_num
            . have h1:=hs.out;rw[<-HV2.out] at h1;rw[h1];rfl
           case measure=>simp[intOf]<;>omega
 . have hk':k=s.size:=Y;have hst:contN (9-k) (s.data.toList.drop k)=0:=by rw[List.drop_eq_nil_of_le (by rw[HLN.out];omega)];cases 9-k<;>rfl
   have hNk:contN 9 s.data.toList=k:=by rw[HC.out,hst];rfl
   have HG1:=HG.out;rw[hNk,if_pos (by rw[HLN.out];omega)] at HG1;simp only[Prod.mk.injEq] at HG1;obtain⟨rfl,rfl,rfl⟩:=HG1;clear hst hNk HC HG hk'
   go_wp2
   go_ret3;exact⟨rfl,Ext.refl _⟩
def cutG_err:∀ (l:List UInt8) (k v x n:Nat) (e:Int),cutG k v l=(x,n,e)->e≠0->x=0/\n=0:=by
 intro l
 induction l with
 | nil=>intro k v x n e h he;simp[cutG] at h;exact⟨h.1.symm,h.2.1.symm⟩
 | cons c l ih =>
  intro k v x n e h he;unfold cutG at h
  split at h
  . simp at h;exact⟨h.1.symm,h.2.1.symm⟩
  . split at h
    . exact ih _ _ _ _ _ h he
    . split at h
      . simp at h;exact⟨h.1.symm,h.2.1.symm⟩
      . simp at h;exact absurd h.2.2.symm he
def qbe {x n:Nat} {e:Int} (h:cutG 0 0 l=(x,n,e)):x<18446744073709551616/\n<=l.length:=by
 by_cases he:e=0
 . subst he;obtain⟨y,_,_,h3,_⟩:=cutG_back l 0 0 x n Y h;exact⟨cutG_fit l 0 0 _ _ Y zy h,Y⟩
 . obtain⟨rfl,rfl⟩:=cutG_err l 0 0 x n e h he;exact⟨Y,Y⟩
def cutT (l:List UInt8):List UInt8 × Nat × Int :=
 if (cutG 0 0 l).2.2≠0 then([],0,(cutG 0 0 l).2.2) else if 255<(cutG 0 0 l).1 then([],0,8) else if l.length<(cutG 0 0 l).2.1+(cutG 0 0 l).1 then([],0,2) else((l.drop (cutG 0 0 l).2.1).take (cutG 0 0 l).1,(cutG 0 0 l).2.1+(cutG 0 0 l).1,0)
def qgI {P:Program} {src dst e:TypeId} {cap:Nat} (hs:P.underlying src=some (.slice e)) (he:P.underlying e=some (.int .u8)) (hd:P.underlying dst=some .string)
  (h:BytesAt w b off l) (n:Nat) (hn:n=l.length):(convert src dst (.slice (some ⟨b,off,none⟩) n cap)).run P w=.ok (.string ⟨l.toArray⟩) w:=by
 subst hn;refine run_convert_bytes_back w src dst e ⟨b,off,none⟩ cap l hs he hd fun j hj=>?_
 rw[Addr.add_lit];exact h j _ (List.getElem?_eq_getElem hj)
def vcuttext_any (b off cap:Nat) (l:List UInt8) (w:World) (hm:l.length<=maxLen) (hcap:l.length<=cap) (hb:BytesAt w b off l) (t:List UInt8) (n:Nat) (e:Int) (hr:cutT l=(t,n,e)) :
  Calls prog 92 #[.slice (some ⟨b,off,none⟩) l.length cap] w fun r w'=>r=.returned (.tuple #[.string ⟨t.toArray⟩,.int .i64 (n:Int),.int .i64 e])/\Ext w w':=by
 obtain⟨v,m,e0,hg⟩:∃ v m e0,cutG 0 0 l=(v,m,e0):=⟨_,_,_,rfl⟩
 have hlt:=qbe hg;unfold cutT at hr;rw[hg] at hr;dsimp only at hr;have C:=J (qcF b off cap l w hm hb v m e0 hg);have hv:v<18446744073709551616:=hlt.1;have hm2:m<=l.length:=hlt.2;have HB:=J hb;unfold maxLen at hm;clear hg hb hlt;by_cases h1:e0=0
 case neg =>
  rw[if_pos h1] at hr;simp only[Prod.mk.injEq] at hr;obtain⟨rfl,rfl,rfl⟩:=hr;have h1':(e0==0)=false:=by simpa using h1
  have h1'':(e0 !=0)=true:=by simpa using h1
  clear h1;go_enter func92,ntmps92
  go_wp2_with (go_at_call 44;refine C.out.mono ?_;rintro e _ ⟨rfl,d,os,rfl⟩)
  go_ret3;exact⟨rfl,zf⟩
 subst h1;rw[if_neg zy] at hr;by_cases h2:255<v
 . rw[if_pos h2] at hr;simp only[Prod.mk.injEq] at hr;obtain⟨rfl,rfl,rfl⟩:=hr;go_enter func92,ntmps92
   go_wp2_with (go_at_call 44;refine C.out.mono ?_;rintro e _ ⟨rfl,d,os,rfl⟩)
   go_ret3;exact⟨rfl,zf⟩
 rw[if_neg h2] at hr;by_cases h3:l.length<m+v
 . rw[if_pos h3] at hr;simp only[Prod.mk.injEq] at hr;obtain⟨rfl,rfl,rfl⟩:=hr;have h4:(l.length:Int)-m<v:=Y;go_enter func92,ntmps92
   go_wp2_with (go_at_call 44;refine C.out.mono ?_;rintro e _ ⟨rfl,d,os,rfl⟩)
   go_ret3;exact⟨rfl,zf⟩
 rw[if_neg h3] at hr;simp only[Prod.mk.injEq] at hr;obtain⟨rfl,rfl,rfl⟩:=hr;have h4:¬ (l.length:Int)-m<v:=Y;have hlen:((l.drop m).take v).length=v:=zg;have hB:=(HB.out.drop m).take v;by_cases h5:m=cap
 . have hv0:v=0:=Y;subst hv0;subst h5;have hB0:BytesAt w b off []:=by intro j u hj;simp at hj
   have hcv:=J fun (d:Nat) (os:Array Obj) (c:Nat)=>qgI (P:=prog) (src:=53) (dst:=9) (cap:=c) underlying53 underlying5 underlying9 (hB0.ext (Ext.more (Ext.refl w) d os)) 0 rfl
   rw[List.take_zero];clear hB hlen hB0;go_enter func92,ntmps92
   go_wp2_with (go_at_call 44;refine C.out.mono ?_;rintro e _ ⟨rfl,d,os,rfl⟩)
   first | rw[hcv.out d os 0] | rw[hcv.out d os (m-m)] | trace_state
   clear hcv
   go_wp2
   go_ret3;exact⟨rfl,zf⟩
 . go_enter func92,ntmps92;have hcv:=J fun (d:Nat) (os:Array Obj) (c:Nat)=>qgI (P:=prog) (src:=53) (dst:=9) (cap:=c) underlying53 underlying5 underlying9 (hB.ext (Ext.more (Ext.refl w) d os)) v hlen.symm
   clear hB hlen
   go_wp2_with (go_at_call 44;refine C.out.mono ?_;rintro e _ ⟨rfl,d,os,rfl⟩)
   rw[hcv.out d os (cap-m)];clear hcv
   go_wp2
   go_ret3;exact⟨rfl,zf⟩
def toList_extract (s:ByteArray) (a b:Nat):(s.extract a b).data.toList=(s.data.toList.drop a).take (b-a):=by
 simp[List.extract_eq_take_drop]
def rcuttext_any (s:ByteArray) (w:World) (hm:s.size<=4611686018427387904) (t:List UInt8) (n:Nat) (e:Int) (hr:cutT s.data.toList=(t,n,e)) :
  Calls prog 93 #[.string s] w fun r w'=>r=.returned (.tuple #[.string ⟨t.toArray⟩,.int .i64 (n:Int),.int .i64 e])/\Ext w w':=by
 obtain⟨v,m,e0,hg⟩:∃ v m e0,cutG 0 0 s.data.toList=(v,m,e0):=⟨_,_,_,rfl⟩
 have hlt:=qbe hg;unfold cutT at hr;rw[hg] at hr;dsimp only at hr;have C:=J (qeB s jq w v m e0 hg);have hv:v<18446744073709551616:=hlt.1;have hsz:s.data.toList.length=s.size:=zy;have hm2:m<=s.size:=Y;rw[hsz] at hr;clear hg hlt hsz;by_cases h1:e0=0
 case neg =>
  rw[if_pos h1] at hr;simp only[Prod.mk.injEq] at hr;obtain⟨rfl,rfl,rfl⟩:=hr;have h1':(e0==0)=false:=by simpa using h1
  have h1'':(e0 !=0)=true:=by simpa using h1
  clear h1;go_enter func93,ntmps93
  go_wp2_with (go_at_call 67;refine C.out.mono ?_;rintro e _ ⟨rfl,d,os,rfl⟩)
  go_ret3;exact⟨rfl,zf⟩
 subst h1;rw[if_neg zy] at hr;by_cases h2:255<v
 . rw[if_pos h2] at hr;simp only[Prod.mk.injEq] at hr;obtain⟨rfl,rfl,rfl⟩:=hr;go_enter func93,ntmps93
   go_wp2_with (go_at_call 67;refine C.out.mono ?_;rintro e _ ⟨rfl,d,os,rfl⟩)
   go_ret3;exact⟨rfl,zf⟩
 rw[if_neg h2] at hr;by_cases h3:s.size<m+v
 . rw[if_pos h3] at hr;simp only[Prod.mk.injEq] at hr;obtain⟨rfl,rfl,rfl⟩:=hr;have h4:(s.size:Int)<m+v:=Y;go_enter func93,ntmps93
   go_wp2_with (go_at_call 67;refine C.out.mono ?_;rintro e _ ⟨rfl,d,os,rfl⟩)
   go_ret3;exact⟨rfl,zf⟩
 rw[if_neg h3] at hr;simp only[Prod.mk.injEq] at hr;obtain⟨rfl,rfl,rfl⟩:=hr
 have e1:(s.extract m (m+v))=⟨((s.data.toList.drop m).take v).toArray⟩:=by
  have e0:=toList_extract s m (m+v);rw[Nat.add_sub_cancel_left] at e0;rw[<-e0]
 rw[<-e1];clear e1;have h4:(m:Int)+v<=s.size:=Y;go_enter func93,ntmps93
 go_wp2_with (go_at_call 67;refine C.out.mono ?_;rintro e _ ⟨rfl,d,os,rfl⟩)
 go_ret3;exact⟨rfl,zf⟩
def bl_step {x:UInt8} {a b:List UInt8}:Op.bytesLess (x::a) (x::b)=Op.bytesLess a b:=by
 have h1:(decide (x<x))=false:=by simp[UInt8.lt_irrefl]
 conv=>lhs;unfold Op.bytesLess
 simp[h1]
def bl_at:∀ (i:Nat) (a b:List UInt8) (ha:i<a.length) (hb:i<b.length),a.take i=b.take i->a[i]≠b[i]->Op.bytesLess a b=decide (a[i].toNat<b[i].toNat)
 | _,[],_,ha,_,_,_=>by simp at ha
 | _,_::_,[],_,hb,_,_=>by simp at hb
 | 0,x::a,y::b,ha,hb,_,hn=>by
  have h2:(x==y)=false:=by simpa using hn
  unfold Op.bytesLess;simp only[List.getElem_cons_zero,h2,Bool.false_and,Bool.or_false]
  rfl
 | i+1,x::a,y::b,ha,hb,ht,hn=>by
  simp only[List.take_succ_cons,List.cons.injEq] at ht;obtain⟨rfl,ht⟩:=ht;rw[bl_step]
  simpa using bl_at i a b (by simpa using ha) (by simpa using hb) ht (by simpa using hn)
def bl_end:∀ (m:Nat) (a b:List UInt8),a.take m=b.take m->(m=a.length\/m=b.length)->m<=a.length->m<=b.length->Op.bytesLess a b=decide (a.length<b.length)
 | 0,a,b,_,hm,_,_=>by
  rcases hm with h | h
  . cases a with
    | nil=>cases b with
     | nil=>rfl
     | cons y b=>simp[Op.bytesLess]
    | cons x a=>simp at h
  . cases b with
    | nil=>cases a with
     | nil=>rfl
     | cons y b=>simp[Op.bytesLess]
    | cons x a=>simp at h
 | m+1,a,b,ht,hm,ha,hb=>by
  cases a with
  | nil=>simp at ha
  | cons x a =>
   cases b with
   | nil=>simp at hb
   | cons y b =>
    simp only[List.take_succ_cons,List.cons.injEq] at ht;obtain⟨rfl,ht⟩:=ht;rw[bl_step,bl_end m a b ht (by simpa using hm) (by simpa using ha) (by simpa using hb)];simp
end Go.Proofs.YtpnabjopfpdkhaaGreatDoor
