/- Lemmas. -/
import Derived.Test.YtpnabjopfpdkhaaGreatDoorY11
import Derived.Test.YtpnabjopfpdkhaaGreatDoorY23
import Derived.Test.YtpnabjopfpdkhaaGreatDoorY29
import Derived.IntWalk
import Derived.Lib.LaidTab
import Derived.Deep.QuietTactic
import Derived.BigQuiet
set_option linter.all false
set_option maxHeartbeats 4000000
set_option maxRecDepth 20000
namespace Go.Proofs.YtpnabjopfpdkhaaGreatDoor
open Tryz RowKit
variable {ns:List Nd}
attribute [go_sem] more_more Array.size_append
def qdV {fi m a:Int} {l:List Int} (h:qbi ns fi=(l,m,0,a)):mayB ns fi=true/\a=-1/\l.length=ns.length/\ns.length<=512:=by
 unfold qbi at h
 split at h
 . rename_i hm;obtain⟨R,hR,h1,h2,h3⟩:=qgn hm;rw[hR] at h;dsimp only at h
   split at h
   . simp only[Prod.mk.injEq] at h;obtain⟨rfl,rfl,_,rfl⟩:=h;exact⟨hm,rfl,h1,Y⟩
   . rename_i he;simp only[Prod.mk.injEq] at h;exact absurd h.2.2.1 he
 . simp only[Prod.mk.injEq] at h;exact absurd h.2.2.1 zw
def rmake_any {nv:Value} (fi:Int) {w:World} (hr:w.ownsRow 0 166 8 nv ns.length (qac ns)) (l:List Int) (mo e a:Int) (hf:qbi ns fi=(l,mo,e,a)) :
  Calls prog 91 #[.agg #[nv,.int .i64 fi]] w fun r w'=>r=.returned (.tuple #[.int .i64 mo,.int .i64 e,.int .i64 a])/\Ext w w':=by
 have SL:∀ W',Ext w W'->Calls prog 106 #[.agg #[nv,.int .i64 fi]] W' fun r w'=>∃ v,r=.returned (.tuple #[v,.int .i64 mo,.int .i64 e,.int .i64 a])/\Ext W' w':=by
  intro W' hx;cases hm:mayB ns fi
  . unfold qbi at hf;rw[hm,if_neg zy] at hf;simp only[Prod.mk.injEq] at hf;obtain⟨_,rfl,rfl,rfl⟩:=hf;exact rslots_no fi (own_ext hr hx) hm
  . rw[slotsF_doc hm] at hf;exact rslots_yes fi (own_ext hr hx) hm l mo e a hf
 obtain⟨p,cap,hv⟩:=qad hr;rw[hv] at SL ⊢;have HS:=J SL;clear hr hf hv SL;go_enter func91,ntmps91
 go_wp2_with ((with_reducible refine (HS.out _ zq).mono ?_);rintro e' w2 ⟨v,rfl,hx2⟩;have HX2:=J (Ext.trans ((Ext.refl w).alloc _) hx2);clear hx2)
 go_ret3;exact⟨rfl,HX2.out⟩
def csource_err (s:ByteArray) (c a:Int) (hr:qaY s.data.toList=.error (c,a)) (hc:c≠0) (w:World) :
  Calls prog 73 #[.string s] w fun r w'=>r=.returned (.tuple #[.pointer none,.int .i64 c,.int .i64 a])/\Ext w w':=by
 have SC:=J (fun W'=>qdX s _ hr W');have he2:(c !=0)=true:=by simpa using hc
 clear hr hc;go_enter func73,ntmps73
 go_wp2_with ((with_reducible refine (SC.out _).mono ?_);rintro e' w2 ⟨rfl,hx2⟩;have HX2:=J hx2;clear hx2)
 go_ret3;exact⟨rfl,HX2.out.trans zq⟩
def csource_no (s:ByteArray) (ns:List Nd) (fi:Int) (hr:qaY s.data.toList=.ok (ns,fi)) (hz:∀ z∈ns,z.s.size<=maxLen) (l:List Int) (mo e a:Int) (hf:qbi ns fi=(l,mo,e,a)) (he:e≠0) (w:World) :
  Calls prog 73 #[.string s] w fun r w'=>r=.returned (.tuple #[.pointer none,.int .i64 e,.int .i64 a])/\Ext w w':=by
 have SC:=J (fun W'=>qdX s _ hr W');have CM:=J (fun W' nv base (h:World.ownsRow W' base 166 8 nv ns.length (qac ns))=>cmake_no fi W' h hz l mo e a hf he);clear hr hz hf he;go_enter func73,ntmps73
 go_wp2_with (first
  | ((with_reducible refine (SC.out _).mono ?_);rintro e' w2 ⟨nv,rfl,hn,hx2⟩;obtain⟨pn,kn,hvn⟩:=qad hn;subst hvn;have HN:=J hn;have HX2:=J hx2;clear hx2 hn)
  | ((with_reducible refine (CM.out _ _ _ (own_ext HN.out zq)).mono ?_);rintro e' w3 ⟨rfl,hx3⟩;have HX3:=J hx3;clear hx3))
 go_ret3;exact⟨rfl,(HX2.out.trans zq).trans HX3.out⟩
def csource_ok (s:ByteArray) (ns:List Nd) (fi:Int) (hr:qaY s.data.toList=.ok (ns,fi)) (hz:∀ z∈ns,z.s.size<=maxLen) (l:List Int) (mo a:Int) (hf:qbi ns fi=(l,mo,0,a)) (R:Mk) (hR:codeF ns fi l=some R) (w:World) :
  Calls prog 73 #[.string s] w fun r w'=>∃ c,r=.returned (.tuple #[.pointer (some ⟨c,0,none⟩),.int .i64 0,.int .i64 (-1)])/\CodeAt w.heap.size c fi mo ns R w'/\Ext w w':=by
 have SC:=J (fun W'=>qdX s _ hr W');have CM:=J (fun W' nv base (h:World.ownsRow W' base 166 8 nv ns.length (qac ns))=>cmake_ok fi W' h hz (by have:=(qdV hf).2.2.2;omega) l mo a hf R hR);clear hr hz hf hR;go_enter func73,ntmps73
 go_wp2_with (first
  | ((with_reducible refine (SC.out _).mono ?_);rintro e' w2 ⟨nv,rfl,hn,hx2⟩;obtain⟨pn,kn,hvn⟩:=qad hn;subst hvn;have HN:=J hn;have HX2:=J (hx2.trans ((Ext.refl w2).alloc (.cells #[.slice pn ns.length kn,.int .i64 fi] 132)));clear hx2 hn)
  | ((with_reducible refine (CM.out _ _ _ (own_ext HN.out zq)).mono ?_);rintro e' w3 ⟨c,rfl,hc,hx3⟩;have HC:=J hc;have HX3:=J hx3;clear hx3 hc))
 go_ret3;exact⟨c,rfl,HC.out.mono HX2.out.size,HX2.out.trans HX3.out⟩
structure Snd (N:Nat) (M:Mk):Prop where
 l1:1<=M.ins.length
 l2:M.ins.length<=4*N+1
 h0:0<=M.high
 h1:M.high<=(N:Int)+1
 fn:Fine N M
 n5:N<=512
def code_of {fi m a:Int} {l:List Int} (h:qbi ns fi=(l,m,0,a)):∃ R,codeF ns fi l=some R/\Snd ns.length R:=by
 obtain⟨hm,rfl,hl,h5⟩:=qdV h;obtain⟨h1,h2,h3,h4⟩:=qbC hm;obtain⟨n,hn,t⟩:=qgJ hm;obtain⟨M,e,b1,b2,b3,b4,b5,b6⟩:=codeF_law (sl:=l) Y (fun j z hz=>node_nk hz (h2 j z hz)) (blk_sk h3 (Int.le_refl _)) t hn h1;exact⟨M,e,b1,b2,b3,b4,b5,h5⟩
end Go.Proofs.YtpnabjopfpdkhaaGreatDoor
namespace Go.Proofs.YtpnabjopfpdkhaaGreatDoor
open Tryz RowKit
variable {s:ByteArray}
attribute [go_sem] more_more Array.size_append
def SignsAt (B:Nat) (w:World):Prop:=0<B/\w.cell? ⟨0,0,none⟩=some (.int .u64 288195191779622912)/\w.cell? ⟨0,1,none⟩=some (.int .u64 576460745860972544)
def SignsAt.below {B B':Nat} {w w':World} (h:SignsAt B w) (hb:Below B' w w') (hB:B<=B'):SignsAt B w' :=
 ⟨h.1,(hb.cell (p:=⟨0,0,none⟩) (Nat.lt_of_lt_of_le h.1 hB)).trans h.2.1,(hb.cell (p:=⟨0,1,none⟩) (Nat.lt_of_lt_of_le h.1 hB)).trans h.2.2⟩
def SignsAt.ext {B:Nat} {w w':World} (h:SignsAt B w) (hx:Ext w w') (hB:B<=w.heap.size):SignsAt B w':=h.below hx.below hB
def sign_tab:∀ n:Fin 128,(bits BinOp.and IntKind.u64 ((if n.val<64 then(288195191779622912:Int) else 576460745860972544) / 2 ^ (n.val % 64)) 1==1)=signB (UInt8.ofNat n.val):=by decide +kernel
def and63_fin:∀ n:Fin 256,bits BinOp.and IntKind.u8 (n.val:Int) 63=((n.val % 64:Nat):Int):=by decide +kernel
def sign_hi:∀ n:Fin 256,128<=n.val->signB (UInt8.ofNat n.val)=false:=by decide +kernel
def ksign_any (c:UInt8) (B:Nat) (w:World) (h:SignsAt B w):Calls prog 108 #[.int .u8 (c.toNat:Int)] w fun e w'=>e=.returned (.bool (signB c))/\Ext w w':=by
 obtain⟨_,h0,h1⟩:=h;have hc0:(0:Int)<=(c.toNat:Int):=Y;have hc1:(c.toNat:Int)<256:=by have:=c.toNat_lt;omega
 have ha:=and63_fin ⟨c.toNat,c.toNat_lt⟩;have e8:UInt8.ofNat c.toNat=c:=zy;by_cases h128:c.toNat<128
 . have h128':(c.toNat:Int)<128:=Y;have hs:=sign_tab ⟨c.toNat,h128⟩;simp only[e8] at hs ha;by_cases h64:c.toNat<64
   . have i0:(c.toNat:Int) / 64=0:=Y;simp only[h64,if_true] at hs;go_enter func108,ntmps108;go_wp2_with fail;go_ret;exact⟨rfl,Ext.refl _⟩
   . have i0:(c.toNat:Int) / 64=1:=Y;simp only[h64,if_false] at hs;go_enter func108,ntmps108;go_wp2_with fail;go_ret;exact⟨rfl,Ext.refl _⟩
 . have h128':¬ (c.toNat:Int)<128:=Y;have hs:=sign_hi ⟨c.toNat,c.toNat_lt⟩ (by simpa using h128);simp only[e8] at hs;go_enter func108,ntmps108;go_wp2_with fail;go_ret;exact⟨rfl,Ext.refl _⟩
def all_snoc (l:List UInt8) (k:Nat) (h:k<l.length) (p:UInt8->Bool) (h1:(l.take k).all p=true) (h2:p l[k]=true):(l.take (k+1)).all p=true:=by
 rw[List.take_succ_eq_append_getElem h,List.all_append,h1];simp[h2]
def all_no (l:List UInt8) (k:Nat) (h:k<l.length) (p:UInt8->Bool) (h2:p l[k]=false):l.all p=false:=by
 rw[Bool.eq_false_iff];intro q;have:=List.all_eq_true.1 q _ (List.getElem_mem h);rw[h2] at this;cases this
def qfO (s:ByteArray):s.data.toList.length=s.size:=by simp
def patB_yes (h1:s.size<=24) (h2:s.data.toList.all signB=true):patB s=true:=by unfold patB;simp[h1,h2]
def patB_long (h1:¬ s.size<=24):patB s=false:=by unfold patB;rw[decide_eq_false h1];rfl
def patB_no (h:s.data.toList.all signB=false):patB s=false:=by unfold patB;rw[h,Bool.and_false]
def formed_any (s:ByteArray) (hs:s.size<=maxLen) (B:Nat) (w:World) (h:SignsAt B w) (hB:B<=w.heap.size):Calls prog 95 #[.string s] w fun e w'=>e=.returned (.bool (patB s))/\Ext w w':=by
 unfold maxLen at hs;have HS:=J h;clear h;by_cases h24:s.size<=24
 . have h24':(s.size:Int)<=24:=Y;go_enter func95,ntmps95;go_wp2_with fail;go_loopw [9] (fun i wr=>∃ k:Nat,i=.int .i64 (k:Int)/\k<=s.size/\(s.data.toList.take k).all signB=true/\Ext w wr) (fun i _=>s.size-(intOf i).toNat)
   case atStart=>exact⟨0,rfl,Nat.zero_le _,rfl,Ext.refl _⟩
   case round =>
    obtain⟨k,rfl,hk,hall,d,os,rfl⟩:=hrel;have HA:=J hall;clear hall;by_cases hlt:k<s.size
    . cases hsg:signB s[k] with
      | true =>
       have HG:=J hsg;clear hsg
       go_wp2_with (go_at_call 108;refine (ksign_any _ B _ (HS.out.ext ((Ext.refl _).more _ _) hB)).mono ?_;rw[HG.out];rintro e _ ⟨rfl,d2,os2,rfl⟩)
       go_roundw
       case rel=>exact⟨k+1,by go_num,Y,all_snoc _ k jb _ HA.out HG.out,zf⟩
       case measure=>simp[intOf];omega
      | false =>
       have HG:=J hsg;clear hsg
       go_wp2_with (go_at_call 108;refine (ksign_any _ B _ (HS.out.ext ((Ext.refl _).more _ _) hB)).mono ?_;rw[HG.out];rintro e _ ⟨rfl,d2,os2,rfl⟩)
       go_ret;rw[patB_no (all_no _ k jb _ HG.out)]
       exact⟨rfl,zf⟩
    . go_wp2_with fail
      go_ret;rw[patB_yes h24 (by rw[List.take_of_length_le qf] at HA;exact HA.out)]
      exact⟨rfl,zf⟩
 . have h24':¬ (s.size:Int)<=24:=Y;go_enter func95,ntmps95;go_wp2_with fail;go_ret;rw[patB_long h24];exact⟨rfl,Ext.refl _⟩
end Go.Proofs.YtpnabjopfpdkhaaGreatDoor
