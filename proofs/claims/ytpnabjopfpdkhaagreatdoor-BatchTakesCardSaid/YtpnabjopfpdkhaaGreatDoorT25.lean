/- Lemmas. -/
import Derived.Test.YtpnabjopfpdkhaaGreatDoorT01
import Derived.LoopTactic
import Derived.Lib.LaidTab
import Derived.Deep.QuietTactic
import Derived.BigQuiet
set_option linter.unusedSimpArgs false
set_option linter.unusedVariables false
set_option maxHeartbeats 4000000
set_option maxRecDepth 20000
namespace Go.Proofs.YtpnabjopfpdkhaaGreatDoor
open Go.RowKit
variable {s:ByteArray}
def signB (c:UInt8):Bool:=decide (97≤c.toNat∧c.toNat≤122)||decide (48≤c.toNat∧c.toNat≤57)||c==45||c==46||c==47||c==95
def patB (s:ByteArray):Bool:=decide (s.size≤24)&&s.data.toList.all signB
structure It where
 k:ByteArray
 vk:Int
 vi:Int
 vs:ByteArray
 ver:Int
def itL (x:It):List Value:=[.string x.k,.int .i64 x.vk,.int .i64 x.vi,.string x.vs,.int .i64 x.ver]
def qaB:List It→List Value
 | []=>[]
 | x::l=>itL x++qaB l
def ltB (a b:ByteArray):Bool:=Op.bytesLess a.data.toList b.data.toList
theorem bl_total:∀ a b:List UInt8,Op.bytesLess a b=false→Op.bytesLess b a=false→a=b
 | [],[],_,_=>rfl
 | [],_::_,h,_=>by simp[Op.bytesLess] at h
 | _::_,[],_,h=>by simp[Op.bytesLess] at h
 | x::a,y::b,h,k=>by
  unfold Op.bytesLess at h k;simp only[Bool.or_eq_false_iff,Bool.and_eq_false_iff,decide_eq_false_iff_not,UInt8.not_lt] at h k
  have e:x=y:=UInt8.le_antisymm k.1 h.1
  subst e
  have h2:Op.bytesLess a b=false:=by rcases h.2 with q | q;simp at q;exact q
  have k2:Op.bytesLess b a=false:=by rcases k.2 with q | q;simp at q;exact q
  rw[bl_total a b h2 k2]
theorem bl_asym:∀ a b:List UInt8,Op.bytesLess a b=true→Op.bytesLess b a=false
 | [],[],h=>by simp[Op.bytesLess] at h
 | [],_::_,_=>by simp[Op.bytesLess]
 | _::_,[],h=>by simp[Op.bytesLess] at h
 | x::a,y::b,h=>by
  unfold Op.bytesLess at h ⊢;simp only[Bool.or_eq_true,Bool.and_eq_true,decide_eq_true_eq,beq_iff_eq] at h
  rcases h with h | ⟨rfl,h⟩
  · have h1:(decide (y<x))=false:=by simp;exact UInt8.le_of_lt h
    have h2:(y==x)=false:=by rw[beq_eq_false_iff_ne];intro e;subst e;exact UInt8.lt_irrefl _ h
    simp[h1,h2]
  · have h1:(decide (x<x))=false:=by simp[UInt8.lt_irrefl]
    simp[h1,bl_asym a b h]
theorem bl_le (a b:List UInt8):(Op.bytesLess a b||a==b)=!Op.bytesLess b a:=by
 cases h:Op.bytesLess a b with
 | true=>rw[bl_asym a b h];rfl
 | false =>
  cases k:Op.bytesLess b a with
  | true =>
   have e:(a==b)=false:=by rw[beq_eq_false_iff_ne];intro e;subst e;rw[h] at k;cases k
   rw[e];rfl
  | false=>rw[bl_total a b h k];simp
set_option maxRecDepth 20000
attribute [go_sem] more_more Array.size_append
def SignsAt (B:Nat) (w:World):Prop:=0<B∧w.cell? ⟨0,0,none⟩=some (.int .u64 288195191779622912)∧w.cell? ⟨0,1,none⟩=some (.int .u64 576460745860972544)
theorem SignsAt.below {B B':Nat} {w w':World} (h:SignsAt B w) (hb:Below B' w w') (hB:B≤B'):SignsAt B w' :=
 ⟨h.1,(hb.cell (p:=⟨0,0,none⟩) (Nat.lt_of_lt_of_le h.1 hB)).trans h.2.1,(hb.cell (p:=⟨0,1,none⟩) (Nat.lt_of_lt_of_le h.1 hB)).trans h.2.2⟩
theorem SignsAt.ext {B:Nat} {w w':World} (h:SignsAt B w) (hx:Ext w w') (hB:B≤w.heap.size):SignsAt B w':=h.below hx.below hB
theorem sign_tab:∀ n:Fin 128,(bits BinOp.and IntKind.u64 ((if n.val<64 then(288195191779622912:Int) else 576460745860972544) / 2 ^ (n.val % 64)) 1==1)=signB (UInt8.ofNat n.val):=by decide +kernel
theorem and63_fin:∀ n:Fin 256,bits BinOp.and IntKind.u8 (n.val:Int) 63=((n.val % 64:Nat):Int):=by decide +kernel
theorem sign_hi:∀ n:Fin 256,128≤n.val→signB (UInt8.ofNat n.val)=false:=by decide +kernel
theorem ksign_any (c:UInt8) (B:Nat) (w:World) (h:SignsAt B w):Calls Tryz.prog 108 #[.int .u8 (c.toNat:Int)] w fun e w'=>e=.returned (.bool (signB c))∧Ext w w':=by
 obtain⟨_,h0,h1⟩:=h
 have hc0:(0:Int)≤(c.toNat:Int):=by omega
 have hc1:(c.toNat:Int)<256:=by have:=c.toNat_lt;omega
 have ha:=and63_fin ⟨c.toNat,c.toNat_lt⟩
 have e8:UInt8.ofNat c.toNat=c:=by simp
 by_cases h128:c.toNat<128
 · have h128':(c.toNat:Int)<128:=by omega
   have hs:=sign_tab ⟨c.toNat,h128⟩;simp only[e8] at hs ha
   by_cases h64:c.toNat<64
   · have i0:(c.toNat:Int) / 64=0:=by omega
     simp only[h64,if_true] at hs;go_enter Tryz.func108,Tryz.ntmps108;go_wp2_with fail;go_ret
     exact⟨rfl,Ext.refl _⟩
   · have i0:(c.toNat:Int) / 64=1:=by omega
     simp only[h64,if_false] at hs;go_enter Tryz.func108,Tryz.ntmps108;go_wp2_with fail;go_ret
     exact⟨rfl,Ext.refl _⟩
 · have h128':¬ (c.toNat:Int)<128:=by omega
   have hs:=sign_hi ⟨c.toNat,c.toNat_lt⟩ (by simpa using h128);simp only[e8] at hs;go_enter Tryz.func108,Tryz.ntmps108;go_wp2_with fail;go_ret
   exact⟨rfl,Ext.refl _⟩
theorem all_snoc (l:List UInt8) (k:Nat) (h:k<l.length) (p:UInt8→Bool) (h1:(l.take k).all p=true) (h2:p l[k]=true):(l.take (k+1)).all p=true:=by
 rw[List.take_succ_eq_append_getElem h,List.all_append,h1]
 simp[h2]
theorem all_no (l:List UInt8) (k:Nat) (h:k<l.length) (p:UInt8→Bool) (h2:p l[k]=false):l.all p=false:=by
 rw[Bool.eq_false_iff];intro q
 have:=List.all_eq_true.1 q _ (List.getElem_mem h)
 rw[h2] at this;cases this
theorem qbK (s:ByteArray):s.data.toList.length=s.size:=by simp
theorem patB_yes (h1:s.size≤24) (h2:s.data.toList.all signB=true):patB s=true:=by unfold patB;simp[h1,h2]
theorem patB_long (h1:¬ s.size≤24):patB s=false:=by unfold patB;rw[decide_eq_false h1];rfl
theorem patB_no (h:s.data.toList.all signB=false):patB s=false:=by unfold patB;rw[h,Bool.and_false]
theorem formed_any (s:ByteArray) (hs:s.size≤maxLen) (B:Nat) (w:World) (h:SignsAt B w) (hB:B≤w.heap.size):Calls Tryz.prog 95 #[.string s] w fun e w'=>e=.returned (.bool (patB s))∧Ext w w':=by
 unfold maxLen at hs;have HS:=Lib.hid h;clear h
 by_cases h24:s.size≤24
 · have h24':(s.size:Int)≤24:=by omega
   go_enter Tryz.func95,Tryz.ntmps95;go_wp2_with fail;go_loopw [9] (fun i wr=>∃ k:Nat,i=.int .i64 (k:Int)∧k≤s.size∧(s.data.toList.take k).all signB=true∧Ext w wr) (fun i _=>s.size-(intOf i).toNat)
   case atStart=>exact⟨0,rfl,Nat.zero_le _,rfl,Ext.refl _⟩
   case round =>
    obtain⟨k,rfl,hk,hall,d,os,rfl⟩:=hrel
    have HA:=Lib.hid hall;clear hall
    by_cases hlt:k<s.size
    · cases hsg:signB s[k] with
      | true =>
       have HG:=Lib.hid hsg;clear hsg
       go_wp2_with (go_at_call 108;refine (ksign_any _ B _ (HS.out.ext ((Ext.refl _).more _ _) hB)).mono ?_;rw[HG.out];rintro e _ ⟨rfl,d2,os2,rfl⟩)
       go_roundw
       case rel=>exact⟨k+1,by go_num,by omega,all_snoc _ k (by simpa using hlt) _ HA.out HG.out,zab⟩
       case measure=>simp[intOf];omega
      | false =>
       have HG:=Lib.hid hsg;clear hsg
       go_wp2_with (go_at_call 108;refine (ksign_any _ B _ (HS.out.ext ((Ext.refl _).more _ _) hB)).mono ?_;rw[HG.out];rintro e _ ⟨rfl,d2,os2,rfl⟩)
       go_ret;rw[patB_no (all_no _ k (by simpa using hlt) _ HG.out)]
       exact⟨rfl,zab⟩
    · go_wp2_with fail
      go_ret;rw[patB_yes h24 (by rw[List.take_of_length_le (by rw[qbK];omega)] at HA;exact HA.out)]
      exact⟨rfl,zab⟩
 · have h24':¬ (s.size:Int)≤24:=by omega
   go_enter Tryz.func95,Tryz.ntmps95;go_wp2_with fail;go_ret;rw[patB_long h24]
   exact⟨rfl,Ext.refl _⟩
end Go.Proofs.YtpnabjopfpdkhaaGreatDoor
