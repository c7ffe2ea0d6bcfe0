/- Lemmas. -/
import Derived.Test.YtpnabjopfpdkhaaGreatDoorA01
import Derived.Test.YtpnabjopfpdkhaaGreatDoorA02
import Derived.Test.YtpnabjopfpdkhaaGreatDoorChecked
import Derived.LoopTactic
import Derived.Deep.LoopGhost
import Derived.Outline
import Derived.Test.YtpnabjopfpdkhaaGreatDoorShelf
import Derived.Lib.Builder
import Derived.Lib.AppendStr
import Derived.Deep.WholeRow
import Derived.Laws.Tables
import Derived.Laws.Rows
set_option linter.unusedSimpArgs false
set_option linter.unusedVariables false
set_option maxHeartbeats 2000000
set_option maxRecDepth 100000
namespace Go.Proofs.YtpnabjopfpdkhaaGreatDoor
open Go.RowKit
variable {B b k:Nat} {s:ByteArray} {lv:Value} {w w':World} {bs:List Value}
theorem ret1 {P:Program} {f:FuncId} {args:Array Value} {v:Value} {W:World} (h:Calls P f args W fun e w'=>e=.returned v∧Ext W w') :
  Calls P f args W (RetG W fun x _=>x=v):=h.mono fun e w' ⟨he,hx⟩=>⟨v,he,hx,rfl⟩
attribute [go_sem] more_more Array.size_append
theorem ret_bool {a b:Bool} (h:a=b):Ending.returned (.bool a)=.returned (.bool b):=by rw[h]
theorem ret_int {k:IntKind} {a b:Int} (h:a=b):Ending.returned (.int k a)=.returned (.int k b):=by rw[h]
def qao (c:Int):Bool:=decide ((97≤c∧c≤122)∨c=95)
def qai (c:Int):Bool:=decide (48≤c∧c≤57)
def noNl (c:Int):Bool:=decide (¬ c=10)
def nameB (c:Int):Bool:=qao c||qai c
def escZ (c:Int):Int:=if c=34∨c=92 then c else if c=110 then 10 else 0
def LexAt (b:Nat) (s:ByteArray) (k:Nat) (lv:Value) (w:World):Prop:=w.heap[b]?=some (.cells #[.string s,.int .i64 (k:Int),lv] 184 (0,0))
theorem LexAt.lt (h:LexAt b s k lv w):b<w.heap.size:=by
 rcases Nat.lt_or_ge b w.heap.size with h' | h'
 · exact h'
 · unfold LexAt at h;rw[Array.getElem?_eq_none h'] at h;cases h
theorem LexAt.cells (h:LexAt b s k lv w) :
  w.cell? ⟨b,0,none⟩=some (.string s)∧w.cell? ⟨b,1,none⟩=some (.int .i64 (k:Int))∧w.cell? ⟨b,2,none⟩=some lv∧w.frozen? ⟨b,1,none⟩=false∧w.frozen? ⟨b,2,none⟩=false:=by
 unfold LexAt at h
 simp[World.cell?,World.frozen?,h]
theorem LexAt.more (h:LexAt b s k lv w) (d:Nat) (os:Array Obj):LexAt b s k lv (more w d os):=by
 unfold LexAt;rw[more_heap _ _ _ _ h.lt];exact h
theorem LexAt.set (h:LexAt b s k lv w) (k':Nat) (z:Int) (hz:z=k'):LexAt b s k' lv (w.setCell ⟨b,1,none⟩ (.int .i64 z)):=by
 subst hz;unfold LexAt at h ⊢
 simp[World.setCell,Array.getElem?_modify,h]
theorem qbB {w0:World} (h:w0.grownBy w (some b)) (i:Nat) (v:Value):w0.grownBy (w.setCell ⟨b,i,none⟩ v) (some b):=by
 obtain⟨h1,h2,h3,h4,h5⟩:=h
 refine ⟨h1,h2,h3,by simpa [World.setCell] using h4,fun k hk hne=>?_⟩;rw[←h5 k hk hne];exact Below.heap_setCell _ _ _ _ (fun e=>hne (by simp[e]))
theorem grown_refl (w:World) (row:Option Nat):w.grownBy w row:=⟨rfl,rfl,rfl,Nat.le_refl _,fun _ _ _=>rfl⟩
theorem qax {w0:World} {row:Option Nat} (h:w0.grownBy w row) (hx:Ext w w'):w0.grownBy w' row:=by
 obtain⟨d,os,rfl⟩:=hx
 obtain⟨h1,h2,h3,h4,h5⟩:=h
 refine ⟨h1,h2,h3,by rw[more_size];omega,fun k hk hne=>?_⟩;rw[more_heap _ _ _ _ zac];exact h5 k hk hne
theorem grown_trans {a b c:World} {row:Option Nat} (h:a.grownBy b row) (k:b.grownBy c row):a.grownBy c row:=by
 obtain⟨h1,h2,h3,h4,h5⟩:=h
 obtain⟨k1,k2,k3,k4,k5⟩:=k
 refine ⟨k1.trans h1,k2.trans h2,k3.trans h3,by omega,fun j hj hne=>?_⟩;rw[k5 j zac hne,h5 j hj hne]
def spanN (p:Int→Bool):List UInt8→Nat
 | []=>0
 | c::l=>if p (c.toNat:Int) then spanN p l+1 else 0
theorem spanN_le (p:Int→Bool):∀ l,spanN p l≤l.length
 | []=>by simp[spanN]
 | c::l=>by have:=spanN_le p l;simp only[spanN,List.length_cons];split<;>omega
theorem qbi (c:Int) (h0:0≤c) (h1:c<256) (w:World) :
  Calls Tryz.prog 125 #[.int .u8 c] w fun e w'=>e=.returned (.bool (qao c))∧w=w':=by
 go_enter Tryz.func125,Tryz.ntmps125
 go_wp2
 all_goals
  go_ret;refine ⟨ret_bool (by first | (rw[Bool.eq_iff_iff];simp[qao];omega) | (simp[qao];omega)),rfl⟩
theorem qcm (c:Int) (h0:0≤c) (h1:c<256) (w:World) :
  Calls Tryz.prog 127 #[.int .u8 c] w fun e w'=>e=.returned (.bool (qai c))∧w=w':=by
 go_enter Tryz.func127,Tryz.ntmps127
 go_wp2
 all_goals
  go_ret;refine ⟨ret_bool (by first | (rw[Bool.eq_iff_iff];simp[qai];omega) | (simp[qai];omega)),rfl⟩
theorem nonl_any (c:Int) (h0:0≤c) (h1:c<256) (w:World) :
  Calls Tryz.prog 153 #[.int .u8 c] w fun e w'=>e=.returned (.bool (noNl c))∧w=w':=by
 go_enter Tryz.func153,Tryz.ntmps153
 go_wp2
 all_goals
  go_ret;refine ⟨ret_bool (by first | (rw[Bool.eq_iff_iff];simp[noNl];done) | (rw[Bool.eq_iff_iff];simp[noNl];omega)),rfl⟩
theorem esc_any (c:Int) (h0:0≤c) (h1:c<256) (w:World) :
  Calls Tryz.prog 160 #[.int .u8 c] w fun e w'=>e=.returned (.int .u8 (escZ c))∧w=w':=by
 go_enter Tryz.func160,Tryz.ntmps160
 go_wp2
 all_goals
  go_ret;refine ⟨ret_int ?_,rfl⟩;unfold escZ;simp only[beq_iff_eq,beq_eq_false_iff_ne,ne_eq] at *
  repeat' split
  all_goals omega
theorem name1_any (c:Int) (h0:0≤c) (h1:c<256) (w:World) :
  Calls Tryz.prog 155 #[.int .u8 c] w fun e w'=>e=.returned (.bool (nameB c))∧w=w':=by
 have C1:=Lib.hid (qbi c h0 h1);have C2:=Lib.hid (qcm c h0 h1)
 obtain⟨p,hp⟩:∃ p,qao c=p:=⟨_,rfl⟩
 obtain⟨q,hq⟩:∃ q,qai c=q:=⟨_,rfl⟩
 have hn:nameB c=(p||q):=by unfold nameB;rw[hp,hq]
 rw[hp] at C1;rw[hq] at C2;rw[hn];clear hp hq hn
 cases p
 all_goals
  go_enter Tryz.func155,Tryz.ntmps155
  go_wp2_with (first
   | (go_at_call 125;refine (C1.out _).mono ?_;rintro e _ ⟨rfl,rfl⟩)
   | (go_at_call 127;refine (C2.out _).mono ?_;rintro e _ ⟨rfl,rfl⟩))
  go_ret
  exact⟨rfl,rfl⟩
theorem while_digit (b:Nat) (s:ByteArray) (k n:Nat) (lv:Value) (w:World) (h:LexAt b s k lv w) (hk:k≤s.size) (hs:s.size≤maxLen) (hn:spanN qai (s.data.toList.drop k)=n) :
  Calls Tryz.prog 152 #[.pointer (some ⟨b,0,none⟩),.func (.func 127) #[] #[]] w fun e w'=>e=.returned (.string (s.extract k (k+n)))∧LexAt b s (k+n) lv w'∧w.grownBy w' (some b):=by
 unfold maxLen at hs;have HN:=Lib.hid hn;have HL:=Lib.hid h
 obtain⟨c0,c1,c2,f1,f2⟩:=h.cells
 have hb:=h.lt;clear hn h;go_enter Tryz.func152,Tryz.ntmps152;go_wp2_with fail;clear c0 c1 c2 f1 f2 hb
 go_loopg [] n (fun g wr=>∃ m,k≤m∧m≤s.size∧m+g=k+n∧spanN qai (s.data.toList.drop m)=g∧LexAt b s m lv wr∧w.grownBy wr (some b))
 case atStart=>exact⟨k,by omega,by omega,by omega,HN.out,HL.out,grown_refl _ _⟩
 case round =>
  obtain⟨m,hkm,hms,hj,hsp,hL,hg⟩:=hrel
  have HLL:=Lib.hid hL;have HG:=Lib.hid hg;have HJ:=Lib.hid hj
  obtain⟨c0,c1,c2,f1,f2⟩:=hL.cells
  have hb:=hL.lt;clear hL hg hj HN HL
  by_cases hlt:m<s.size
  · have hml:m<s.data.toList.length:=by simpa using hlt
    have hd:s.data.toList.drop m=s[m]'hlt::s.data.toList.drop (m+1):=List.drop_eq_getElem_cons hml
    rw[hd] at hsp;unfold spanN at hsp;have h256:=(s[m]'hlt).toNat_lt;have CC:=Lib.hid (qcm ((s[m]'hlt).toNat:Int) zac zac)
    by_cases hp:qai ((s[m]'hlt).toNat:Int)=true
    · rw[if_pos hp] at hsp
      rw[hp] at CC;have HS:=Lib.hid hsp;clear hsp hd hp h256 hml;go_wp2_with fail;refine yaw ⟨?_⟩;refine yac ?_
      repeat(refine Lex.step rfl ?_;intro K hK;unfold StepG;go_simp;(first
        | refine hK _ ?_);clear hK K)
      refine yaa ?_;intro dd oo
      go_wp2_with (go_at_call 127;refine (CC.out _).mono ?_;rintro e _ ⟨rfl,rfl⟩)
      rw[ends_normal];go_wp2_with fail
      go_roundg (gk-1)
      case measure=>have:=HS.out;omega
      case rel =>
       have h1:=HS.out;refine ⟨m+1,by omega,by omega,by have:=HJ.out;omega,by omega,((HLL.out.set (m+1) _ zac).more _ _),qax (qbB HG.out _ _) (Ext.more (Ext.refl _) _ _)⟩
    · have hpf:qai ((s[m]'hlt).toNat:Int)=false:=by simpa using hp
      rw[if_neg hp] at hsp;rw[hpf] at CC;subst hsp;have HMN:=Lib.hid (show m=k+n by have:=HJ.out;omega);clear hd hp hpf h256 hml HJ;go_wp2_with fail;refine yaw ⟨?_⟩;refine yac ?_
      repeat(refine Lex.step rfl ?_;intro K hK;unfold StepG;go_simp;(first
        | refine hK _ ?_);clear hK K)
      refine yaa ?_;intro dd oo
      go_wp2_with (go_at_call 127;refine (CC.out _).mono ?_;rintro e _ ⟨rfl,rfl⟩)
      rw[ends_normal];go_wp2_with fail;refine ybd ⟨?_⟩;refine yac ?_
      repeat(refine Lex.step rfl ?_;intro K hK;unfold StepG;go_simp;(first
        | refine hK _ ?_);clear hK K)
      refine yaa ?_;intro dd oo;go_wp2_with fail;rw[ends_normal];go_wp2_with fail;go_ret;refine ⟨?_,?_,?_⟩
      · rw[←HMN.out];rfl
      · rw[←HMN.out];exact HLL.out.more _ _
      · exact qax HG.out zbo
  · have hme:m=s.size:=by omega
    have hnil:s.data.toList.drop m=[]:=by apply List.drop_eq_nil_of_le;simp;omega
    rw[hnil] at hsp;simp only[spanN] at hsp;subst hsp;have HMN:=Lib.hid (show s.size=k+n by have:=HJ.out;omega);clear hnil hms HJ;subst hme;go_wp2_with fail;refine yaw ⟨?_⟩;refine yac ?_
    repeat(refine Lex.step rfl ?_;intro K hK;unfold StepG;go_simp;(first
      | refine hK _ ?_);clear hK K)
    refine yaa ?_;intro dd oo;go_wp2_with fail;rw[ends_normal];go_wp2_with fail;refine ybd ⟨?_⟩;refine yac ?_
    repeat(refine Lex.step rfl ?_;intro K hK;unfold StepG;go_simp;(first
      | refine hK _ ?_);clear hK K)
    refine yaa ?_;intro dd oo;go_wp2_with fail;rw[ends_normal];go_wp2_with fail;go_ret;refine ⟨?_,?_,?_⟩
    · rw[←HMN.out];rfl
    · rw[←HMN.out];exact HLL.out.more _ _
    · exact qax HG.out zbo
theorem while_nonl (b:Nat) (s:ByteArray) (k n:Nat) (lv:Value) (w:World) (h:LexAt b s k lv w) (hk:k≤s.size) (hs:s.size≤maxLen) (hn:spanN noNl (s.data.toList.drop k)=n) :
  Calls Tryz.prog 152 #[.pointer (some ⟨b,0,none⟩),.func (.func 153) #[] #[]] w fun e w'=>e=.returned (.string (s.extract k (k+n)))∧LexAt b s (k+n) lv w'∧w.grownBy w' (some b):=by
 unfold maxLen at hs;have HN:=Lib.hid hn;have HL:=Lib.hid h
 obtain⟨c0,c1,c2,f1,f2⟩:=h.cells
 have hb:=h.lt;clear hn h;go_enter Tryz.func152,Tryz.ntmps152;go_wp2_with fail;clear c0 c1 c2 f1 f2 hb
 go_loopg [] n (fun g wr=>∃ m,k≤m∧m≤s.size∧m+g=k+n∧spanN noNl (s.data.toList.drop m)=g∧LexAt b s m lv wr∧w.grownBy wr (some b))
 case atStart=>exact⟨k,by omega,by omega,by omega,HN.out,HL.out,grown_refl _ _⟩
 case round =>
  obtain⟨m,hkm,hms,hj,hsp,hL,hg⟩:=hrel
  have HLL:=Lib.hid hL;have HG:=Lib.hid hg;have HJ:=Lib.hid hj
  obtain⟨c0,c1,c2,f1,f2⟩:=hL.cells
  have hb:=hL.lt;clear hL hg hj HN HL
  by_cases hlt:m<s.size
  · have hml:m<s.data.toList.length:=by simpa using hlt
    have hd:s.data.toList.drop m=s[m]'hlt::s.data.toList.drop (m+1):=List.drop_eq_getElem_cons hml
    rw[hd] at hsp;unfold spanN at hsp;have h256:=(s[m]'hlt).toNat_lt;have CC:=Lib.hid (nonl_any ((s[m]'hlt).toNat:Int) zac zac)
    by_cases hp:noNl ((s[m]'hlt).toNat:Int)=true
    · rw[if_pos hp] at hsp
      rw[hp] at CC;have HS:=Lib.hid hsp;clear hsp hd hp h256 hml;go_wp2_with fail;refine yaw ⟨?_⟩;refine yac ?_
      repeat(refine Lex.step rfl ?_;intro K hK;unfold StepG;go_simp;(first
        | refine hK _ ?_);clear hK K)
      refine yaa ?_;intro dd oo
      go_wp2_with (go_at_call 153;refine (CC.out _).mono ?_;rintro e _ ⟨rfl,rfl⟩)
      rw[ends_normal];go_wp2_with fail
      go_roundg (gk-1)
      case measure=>have:=HS.out;omega
      case rel =>
       have h1:=HS.out;refine ⟨m+1,by omega,by omega,by have:=HJ.out;omega,by omega,((HLL.out.set (m+1) _ zac).more _ _),qax (qbB HG.out _ _) (Ext.more (Ext.refl _) _ _)⟩
    · have hpf:noNl ((s[m]'hlt).toNat:Int)=false:=by simpa using hp
      rw[if_neg hp] at hsp;rw[hpf] at CC;subst hsp;have HMN:=Lib.hid (show m=k+n by have:=HJ.out;omega);clear hd hp hpf h256 hml HJ;go_wp2_with fail;refine yaw ⟨?_⟩;refine yac ?_
      repeat(refine Lex.step rfl ?_;intro K hK;unfold StepG;go_simp;(first
        | refine hK _ ?_);clear hK K)
      refine yaa ?_;intro dd oo
      go_wp2_with (go_at_call 153;refine (CC.out _).mono ?_;rintro e _ ⟨rfl,rfl⟩)
      rw[ends_normal];go_wp2_with fail;refine ybd ⟨?_⟩;refine yac ?_
      repeat(refine Lex.step rfl ?_;intro K hK;unfold StepG;go_simp;(first
        | refine hK _ ?_);clear hK K)
      refine yaa ?_;intro dd oo;go_wp2_with fail;rw[ends_normal];go_wp2_with fail;go_ret;refine ⟨?_,?_,?_⟩
      · rw[←HMN.out];rfl
      · rw[←HMN.out];exact HLL.out.more _ _
      · exact qax HG.out zbo
  · have hme:m=s.size:=by omega
    have hnil:s.data.toList.drop m=[]:=by apply List.drop_eq_nil_of_le;simp;omega
    rw[hnil] at hsp;simp only[spanN] at hsp;subst hsp;have HMN:=Lib.hid (show s.size=k+n by have:=HJ.out;omega);clear hnil hms HJ;subst hme;go_wp2_with fail;refine yaw ⟨?_⟩;refine yac ?_
    repeat(refine Lex.step rfl ?_;intro K hK;unfold StepG;go_simp;(first
      | refine hK _ ?_);clear hK K)
    refine yaa ?_;intro dd oo;go_wp2_with fail;rw[ends_normal];go_wp2_with fail;refine ybd ⟨?_⟩;refine yac ?_
    repeat(refine Lex.step rfl ?_;intro K hK;unfold StepG;go_simp;(first
      | refine hK _ ?_);clear hK K)
    refine yaa ?_;intro dd oo;go_wp2_with fail;rw[ends_normal];go_wp2_with fail;go_ret;refine ⟨?_,?_,?_⟩
    · rw[←HMN.out];rfl
    · rw[←HMN.out];exact HLL.out.more _ _
    · exact qax HG.out zbo
theorem while_name (b:Nat) (s:ByteArray) (k n:Nat) (lv:Value) (w:World) (h:LexAt b s k lv w) (hk:k≤s.size) (hs:s.size≤maxLen) (hn:spanN nameB (s.data.toList.drop k)=n) :
  Calls Tryz.prog 152 #[.pointer (some ⟨b,0,none⟩),.func (.func 155) #[] #[]] w fun e w'=>e=.returned (.string (s.extract k (k+n)))∧LexAt b s (k+n) lv w'∧w.grownBy w' (some b):=by
 unfold maxLen at hs;have HN:=Lib.hid hn;have HL:=Lib.hid h
 obtain⟨c0,c1,c2,f1,f2⟩:=h.cells
 have hb:=h.lt;clear hn h;go_enter Tryz.func152,Tryz.ntmps152;go_wp2_with fail;clear c0 c1 c2 f1 f2 hb
 go_loopg [] n (fun g wr=>∃ m,k≤m∧m≤s.size∧m+g=k+n∧spanN nameB (s.data.toList.drop m)=g∧LexAt b s m lv wr∧w.grownBy wr (some b))
 case atStart=>exact⟨k,by omega,by omega,by omega,HN.out,HL.out,grown_refl _ _⟩
 case round =>
  obtain⟨m,hkm,hms,hj,hsp,hL,hg⟩:=hrel
  have HLL:=Lib.hid hL;have HG:=Lib.hid hg;have HJ:=Lib.hid hj
  obtain⟨c0,c1,c2,f1,f2⟩:=hL.cells
  have hb:=hL.lt;clear hL hg hj HN HL
  by_cases hlt:m<s.size
  · have hml:m<s.data.toList.length:=by simpa using hlt
    have hd:s.data.toList.drop m=s[m]'hlt::s.data.toList.drop (m+1):=List.drop_eq_getElem_cons hml
    rw[hd] at hsp;unfold spanN at hsp;have h256:=(s[m]'hlt).toNat_lt;have CC:=Lib.hid (name1_any ((s[m]'hlt).toNat:Int) zac zac)
    by_cases hp:nameB ((s[m]'hlt).toNat:Int)=true
    · rw[if_pos hp] at hsp
      rw[hp] at CC;have HS:=Lib.hid hsp;clear hsp hd hp h256 hml;go_wp2_with fail;refine yaw ⟨?_⟩;refine yac ?_
      repeat(refine Lex.step rfl ?_;intro K hK;unfold StepG;go_simp;(first
        | refine hK _ ?_);clear hK K)
      refine yaa ?_;intro dd oo
      go_wp2_with (go_at_call 155;refine (CC.out _).mono ?_;rintro e _ ⟨rfl,rfl⟩)
      rw[ends_normal];go_wp2_with fail
      go_roundg (gk-1)
      case measure=>have:=HS.out;omega
      case rel =>
       have h1:=HS.out;refine ⟨m+1,by omega,by omega,by have:=HJ.out;omega,by omega,((HLL.out.set (m+1) _ zac).more _ _),qax (qbB HG.out _ _) (Ext.more (Ext.refl _) _ _)⟩
    · have hpf:nameB ((s[m]'hlt).toNat:Int)=false:=by simpa using hp
      rw[if_neg hp] at hsp;rw[hpf] at CC;subst hsp;have HMN:=Lib.hid (show m=k+n by have:=HJ.out;omega);clear hd hp hpf h256 hml HJ;go_wp2_with fail;refine yaw ⟨?_⟩;refine yac ?_
      repeat(refine Lex.step rfl ?_;intro K hK;unfold StepG;go_simp;(first
        | refine hK _ ?_);clear hK K)
      refine yaa ?_;intro dd oo
      go_wp2_with (go_at_call 155;refine (CC.out _).mono ?_;rintro e _ ⟨rfl,rfl⟩)
      rw[ends_normal];go_wp2_with fail;refine ybd ⟨?_⟩;refine yac ?_
      repeat(refine Lex.step rfl ?_;intro K hK;unfold StepG;go_simp;(first
        | refine hK _ ?_);clear hK K)
      refine yaa ?_;intro dd oo;go_wp2_with fail;rw[ends_normal];go_wp2_with fail;go_ret;refine ⟨?_,?_,?_⟩
      · rw[←HMN.out];rfl
      · rw[←HMN.out];exact HLL.out.more _ _
      · exact qax HG.out zbo
  · have hme:m=s.size:=by omega
    have hnil:s.data.toList.drop m=[]:=by apply List.drop_eq_nil_of_le;simp;omega
    rw[hnil] at hsp;simp only[spanN] at hsp;subst hsp;have HMN:=Lib.hid (show s.size=k+n by have:=HJ.out;omega);clear hnil hms HJ;subst hme;go_wp2_with fail;refine yaw ⟨?_⟩;refine yac ?_
    repeat(refine Lex.step rfl ?_;intro K hK;unfold StepG;go_simp;(first
      | refine hK _ ?_);clear hK K)
    refine yaa ?_;intro dd oo;go_wp2_with fail;rw[ends_normal];go_wp2_with fail;refine ybd ⟨?_⟩;refine yac ?_
    repeat(refine Lex.step rfl ?_;intro K hK;unfold StepG;go_simp;(first
      | refine hK _ ?_);clear hK K)
    refine yaa ?_;intro dd oo;go_wp2_with fail;rw[ends_normal];go_wp2_with fail;go_ret;refine ⟨?_,?_,?_⟩
    · rw[←HMN.out];rfl
    · rw[←HMN.out];exact HLL.out.more _ _
    · exact qax HG.out zbo
abbrev Bld (B b:Nat) (bs:List Value) (w:World):Prop:=Lib.IsBuilder 236 5 B b bs w
abbrev BldU (B b:Nat) (bs:List Value) (w:World):Prop:=Lib.BuilderAt 236 5 B b (.pointer (some ⟨b,0,none⟩)) bs w
theorem bldInfo:(Tryz.prog.info? 236).map (·.size)=some 2:=by kernel_rfl
theorem bldLies:liesAt Tryz.prog Tryz.prog.depth 236 (2 / Tryz.prog.cellsOf 236) 0 236 1=true:=by kernel_rfl
theorem u8info:(Tryz.prog.info? 5).map (fun i=>(i.zero,i.size,i.bytes))=some (some (.int .u8 0),1,1):=by kernel_rfl
theorem qfw {T e:TypeId} {b0:Nat} {p:Value} (h:Lib.BuilderAt T e B b p bs w) (hg:w.grownBy w' (some b0)) (hb:b0<B):Lib.BuilderAt T e B b p bs w':=by
 have hlt:=Lib.BuilderAt.lt h
 obtain⟨hB,v,hbk,hown,hne⟩:=h
 refine ⟨hB,v,?_,?_,hne⟩
 · rw[hg.block b hlt zam];exact hbk
 · refine hown.kept hg ?_
   cases hv:v.ownBlock with
   | none=>exact Or.inl rfl
   | some k =>
    refine Or.inr ?_
    have:=(hown.lt k hv).1
    simp;omega
theorem bld_kept {b0:Nat} (h:Bld B b bs w) (hg:w.grownBy w' (some b0)) (hb:b0<B):Bld B b bs w':=by
 rcases h with h | h
 · exact Or.inl (qfw h hg hb)
 · exact Or.inr (qfw h hg hb)
theorem bldAt_ext {T e:TypeId} {p:Value} (h:Lib.BuilderAt T e B b p bs w) (hx:Ext w w'):Lib.BuilderAt T e B b p bs w':=by
 have hlt:=Lib.BuilderAt.lt h
 obtain⟨d,os,rfl⟩:=hx
 obtain⟨hB,v,hbk,hown,hne⟩:=h
 refine ⟨hB,v,?_,own_more hown d os,hne⟩;rw[more_heap _ _ _ _ hlt];exact hbk
theorem bld_ext (h:Bld B b bs w) (hx:Ext w w'):Bld B b bs w':=by
 rcases h with h | h
 · exact Or.inl (bldAt_ext h hx)
 · exact Or.inr (bldAt_ext h hx)
theorem qcO {wr:World} {row:Option Nat} (h:w.grownBy wr row) (hb:Below w.heap.size wr w'):w.grownBy w' row:=by
 obtain⟨h1,h2,h3,h4,h5⟩:=h
 obtain⟨k1,k2,k3,k4,k5⟩:=hb
 refine ⟨k1.trans h1,k2.trans h2,k3.trans h3,by omega,fun j hj hne=>?_⟩;rw[k5 j hj,h5 j hj hne]
theorem LexAt.below (h:LexAt b s k lv w) (hb:Below B w w') (hB:b<B):LexAt b s k lv w':=by
 unfold LexAt;rw[hb.block b hB];exact h
theorem qeY (b:Nat) (w:World) (h0:w.cell? ⟨b,0,none⟩=some (.pointer (some ⟨b,0,none⟩))) :
  Calls Tryz.prog 193 #[.pointer (some ⟨b,0,none⟩)] w fun e w'=>e=.returned (.tuple #[])∧w'=w:=by
 obtain⟨j,hj,_⟩:=Option.map_eq_some_iff.1 bldInfo
 go_enter Tryz.func193,Tryz.ntmps193
 go_wp2
 rw[Lib.run_neq_ptr_same w _ Tryz.underlying234 hj]
 go_wp2
 go_end0
 exact⟨rfl,rfl⟩
theorem qem (b:Nat) (w:World) (h0:w.cell? ⟨b,0,none⟩=some (.pointer none)) (hsh:w.shape? b=some (236,2)) (hfz:w.frozen? ⟨b,0,none⟩=false) :
  Calls Tryz.prog 193 #[.pointer (some ⟨b,0,none⟩)] w fun e w'=>e=.returned (.tuple #[])∧w'=w.setCell ⟨b,0,none⟩ (.pointer (some ⟨b,0,none⟩)):=by
 obtain⟨j,hj,hjs⟩:=Option.map_eq_some_iff.1 bldInfo
 go_enter Tryz.func193,Tryz.ntmps193
 go_wp2
 rw[Lib.run_to_unsafe w ⟨b,0,none⟩ Tryz.underlying234 Tryz.underlying273 hj (by rw[hjs];decide) hsh (Nat.zero_lt_succ 1)];simp only[Result.andThen];rw[Oper.upon_value]
 go_wp2
 rw[run_callFunc_extern Tryz.func210 zaf zaf zaf (e:=Extern.AbiNoEscape.same) zaf];rw[Lib.run_noEscape];simp only[Result.andThen];rw[Oper.upon_value]
 go_wp2
 rw[Lib.run_from_unsafe w ⟨b,0,none⟩ Tryz.underlying273 Tryz.underlying234 hj hsh bldLies];simp only[Result.andThen];rw[Oper.upon_value]
 go_wp2
 go_end0
 exact⟨rfl,rfl⟩
theorem qcY (B b:Nat) (bs:List Value) (w:World) (h:Bld B b bs w) :
  Calls Tryz.prog 193 #[.pointer (some ⟨b,0,none⟩)] w fun e w'=>e=.returned (.tuple #[])∧(BldU B b bs w'∧Below B w w'):=by
 rcases h with h | h
 · refine (qem b w h.cell0 h.shape h.frozen0).mono ?_
   rintro e w' ⟨rfl,rfl⟩
   exact⟨rfl,h.used _,(Below.refl B w).setCell (p:=⟨b,0,none⟩) h.1 _⟩
 · refine (qeY b w h.cell0).mono ?_
   rintro e w' ⟨rfl,rfl⟩
   exact⟨rfl,h,Below.refl B _⟩
theorem qat (B b:Nat) (bs:List Value) (c:Int) (w:World) (h:Bld B b bs w) (hlen:bs.length+1≤140737488355328) (hBw:B≤w.heap.size) :
  Calls Tryz.prog 159 #[.pointer (some ⟨b,0,none⟩),.int .u8 c] w fun e w'=>e=.returned .nilIface∧(Bld B b (bs++[.int .u8 c]) w'∧Below B w w'):=by
 obtain⟨i0,hi,hz0,hz1,hz2⟩:=info_parts u8info
 go_enter Tryz.func159,Tryz.ntmps159
 go_wp2_with (go_at_call 193;refine (qcY B b bs _ h).mono ?_)
 rintro e w1 ⟨rfl,h1,hb1⟩
 obtain⟨hB,v,hbk,hown,hne⟩:=h1
 have c0:w1.cell? ⟨b,0,none⟩=some (.pointer (some ⟨b,0,none⟩)):=by rw[Lib.cell_of_heap hbk];rfl
 have c1:w1.cell? ⟨b,1,none⟩=some v:=by rw[Lib.cell_of_heap hbk];rfl
 go_wp2_with (at_builtin;refine wpList_append_own _ rfl _ _ 53 rfl B 5 i0 (.int .u8 0) 1 1 Tryz.underlying53 hi hz0 hz1 hz2 rfl zak _ _ _ rfl (hown.alloc _) ⟨w1.heap.size,0,none⟩ 1 1 [.int .u8 c] rfl rfl ?c1 ?c2 ?c3 ?c4 ?c5 ?_)
 case c1 =>
  intro j u hj
  match j,hj with
  | 0,hj=>simp at hj;subst hj;simp[Addr.add]
 case c2=>intro u hu;simp at hu;subst hu;rfl
 case c3=>unfold maxLen;omega
 case c4=>omega
 case c5=>have:=hb1.size;simp;omega
 intro v' w2 hown' hgrow _
 have hlt:b<w1.heap.size:=by
  rcases Nat.lt_or_ge b w1.heap.size with h' | h'
  · exact h'
  · simp[Array.getElem?_eq_none h'] at hbk
 have hb2:w2.heap[b]?=some (.cells #[.pointer (some ⟨b,0,none⟩),v] 236 (0,0)):=by
  rw[hgrow.block b zam (fun e=>hne e.symm),Lib.alloc_old w1 _ b hlt];exact hbk
 have d0:w2.cell? ⟨b,0,none⟩=some (.pointer (some ⟨b,0,none⟩)):=by rw[Lib.cell_of_heap hb2];rfl
 have d1:w2.cell? ⟨b,1,none⟩=some v:=by rw[Lib.cell_of_heap hb2];rfl
 have f1:w2.frozen? ⟨b,1,none⟩=false:=Lib.frozen_of_heap hb2 1
 obtain⟨g,cap,rfl⟩:∃ g cap,v'=.slice (some ⟨g,0,none⟩) (bs.length+1) cap:=by
  rcases hown'.2 with ⟨_,h0⟩ | ⟨g,cap,cur,hv,_⟩
  · omega
  · exact⟨g,cap,hv⟩
 go_wp2
 go_ret;refine ⟨rfl,Or.inr ?_,?_⟩
 · exact Lib.BuilderAt.put (T:=236) (e:=5) hB hb2 (bs':=bs++[.int .u8 c]) (by simpa using hown') zak
 · exact((hb1.alloc (by have:=hb1.size;omega) _).grown hgrow (by have:=hb1.size;simp;omega) (fun k hk=>(hown.lt k hk).1)).setCell (p:=⟨b,1,none⟩) hB _
theorem qet (B b:Nat) (bs:List Value) (s:ByteArray) (w:World) (h:Bld B b bs w) (hlen:bs.length+s.size≤140737488355328) (hBw:B≤w.heap.size) :
  Calls Tryz.prog 235 #[.pointer (some ⟨b,0,none⟩),.string s] w fun e w'=>e=.returned (.tuple #[.int .i64 s.size,.nilIface])∧(Bld B b (bs++Lib.strCells s) w'∧Below B w w'):=by
 obtain⟨i0,hi,hz0,hz1,hz2⟩:=info_parts u8info
 go_enter Tryz.func235,Tryz.ntmps235
 go_wp2_with (go_at_call 193;refine (qcY B b bs _ h).mono ?_)
 rintro e w1 ⟨rfl,h1,hb1⟩
 obtain⟨hB,v,hbk,hown,hne⟩:=h1
 have c0:w1.cell? ⟨b,0,none⟩=some (.pointer (some ⟨b,0,none⟩)):=by rw[Lib.cell_of_heap hbk];rfl
 have c1:w1.cell? ⟨b,1,none⟩=some v:=by rw[Lib.cell_of_heap hbk];rfl
 go_wp2_with (at_builtin;refine Lib.wpList_append_own_string _ rfl _ _ 53 9 rfl B 5 i0 Tryz.underlying53 Tryz.underlying9 hi hz0 hz1 hz2 _ _ _ rfl hown s rfl ?c3 ?c4 ?c5 ?_)
 case c3=>unfold maxLen;omega
 case c4=>omega
 case c5=>have:=hb1.size;omega
 intro v' w2 hown' hgrow _
 have hlt:b<w1.heap.size:=by
  rcases Nat.lt_or_ge b w1.heap.size with h' | h'
  · exact h'
  · simp[Array.getElem?_eq_none h'] at hbk
 have hb2:w2.heap[b]?=some (.cells #[.pointer (some ⟨b,0,none⟩),v] 236 (0,0)):=by
  rw[hgrow.block b hlt (fun e=>hne e.symm)];exact hbk
 have d0:w2.cell? ⟨b,0,none⟩=some (.pointer (some ⟨b,0,none⟩)):=by rw[Lib.cell_of_heap hb2];rfl
 have d1:w2.cell? ⟨b,1,none⟩=some v:=by rw[Lib.cell_of_heap hb2];rfl
 have f1:w2.frozen? ⟨b,1,none⟩=false:=Lib.frozen_of_heap hb2 1
 obtain⟨ao,n',cap,rfl⟩:∃ ao n' cap,v'=.slice ao n' cap:=by
  rcases hown'.2 with ⟨hv,_⟩ | ⟨g,cap,cur,hv,_⟩
  · exact⟨_,_,_,hv⟩
  · exact⟨_,_,_,hv⟩
 go_wp2
 go_ret2
 have hl:(Lib.strCells s).length=s.size:=by simp[Lib.strCells]
 refine ⟨rfl,Or.inr ?_,?_⟩
 · refine Lib.BuilderAt.put (T:=236) (e:=5) hB hb2 (bs':=bs++Lib.strCells s) ?_ zak
   rw[List.length_append,hl];exact hown'
 · exact((hb1.grown hgrow (by have:=hb1.size;omega) (fun k hk=>(hown.lt k hk).1)).setCell (p:=⟨b,1,none⟩) hB _)
def wordL:List ByteArray:=[⟨#[97,98,111,114,116]⟩,⟨#[97,110,100]⟩,⟨#[100,101,108,101,116,101]⟩,⟨#[101,108,115,101]⟩,⟨#[102,97,108,115,101]⟩,⟨#[102,111,114]⟩,⟨#[103,101,116]⟩,⟨#[104,97,115]⟩,⟨#[105,102]⟩,⟨#[105,110]⟩,⟨#[108,101,110]⟩,⟨#[108,101,116]⟩,⟨#[110,105,108]⟩,⟨#[110,111,116]⟩,⟨#[111,114]⟩,⟨#[112,117,116]⟩,⟨#[114,101,112,101,97,116]⟩,⟨#[114,101,116,117,114,110]⟩,⟨#[115,99,97,110]⟩,⟨#[115,101,116]⟩,⟨#[115,104,111,119]⟩]
def wordV:Value:=.agg (wordL.map Value.string).toArray
def wordB (s:ByteArray):Bool:=wordL.any (fun x=>s.toList==x.toList)||s.toList==((⟨#[116,114,117,101]⟩:ByteArray)).toList
theorem Ext.setRow {a:World} (h:Ext a w) {g:Nat} (hg:a.heap.size≤g) (cs:Array Value):Ext a (w.setRow g cs):=by
 have hb:=h.below;refine Ext.of_below ⟨hb.os,hb.tape,hb.output,?_,fun k hk=>?_⟩
 · have:=hb.size
   simp;omega
 · rw[setRow_other w g k _ zac];exact hb.block k hk
theorem words_any (w:World):Calls Tryz.prog 192 #[] w fun e w'=>e=.returned wordV∧Ext w w':=by
 go_enter Tryz.func192,Tryz.ntmps192
 go_wp2_with (first
  | (refine wpList_build rfl _ _ rfl zaf ?_;generalize hA:(Program.built _ _ _).getD #[]=A;have hA2:A=(wordL.map Value.string).toArray:=(by rw[←hA];kernel_rfl);clear hA;have HA:=Lib.hid hA2;clear hA2)
  | (refine wpList_store_row rfl _ _ _ rfl w.heap.size _ rfl rfl 256 _ (heap_alloc_new _ _) ?h1 ?h2 ?h3 ?_))
 case h1=>rw[HA.out];kernel_rfl
 case h2=>rw[HA.out];rfl
 case h3=>rw[HA.out];simp[wordL,Value.oneCell']
 have hs:A.size=21:=by rw[HA.out];rfl
 have hld:=fun Z:Array Value=>run_loadVar_row (P:=Tryz.prog) _ w.heap.size 256 256 A (0,0) _ (setRow_heap _ _ _ A _ _ (heap_alloc_new w (.cells Z 256))) Tryz.underlying256 rfl (by rw[hs];kernel_rfl)
 have hV:wordV=.agg A:=by rw[HA.out];rfl
 rw[hV];refine bodyPost_ret (v:=.agg A) ?_ rfl ⟨rfl,(Ext.setRow ((Ext.refl _).alloc _) (Nat.le_refl _) _)⟩;unfold results;rw[Tryz.results192]
 simp[asAddr,Act.put,hld]
theorem word_index (k:Nat) (hk:k<21) (w:World):(Instr.index 256 wordV (.int .i64 (k:Int))).run Tryz.prog w=.ok (.string (wordL.getD k ⟨#[]⟩)) w:=by
 have h:k=0∨k=1∨k=2∨k=3∨k=4∨k=5∨k=6∨k=7∨k=8∨k=9∨k=10∨k=11∨k=12∨k=13∨k=14∨k=15∨k=16∨k=17∨k=18∨k=19∨k=20:=by omega
 rcases h with rfl | rfl | rfl | rfl | rfl | rfl | rfl | rfl | rfl | rfl | rfl | rfl | rfl | rfl | rfl | rfl | rfl | rfl | rfl | rfl | rfl
 all_goals
  clear hk
  show(Instr.index _ _ _).run _ _=_
  kernel_rfl
theorem any_snoc (s:ByteArray) (k:Nat) (hk:k<21):(wordL.take (k+1)).any (fun x=>s.toList==x.toList)=((wordL.take k).any (fun x=>s.toList==x.toList)||s.toList==(wordL.getD k ⟨#[]⟩).toList):=by
 have hl:k<wordL.length:=hk
 have h:wordL.take (k+1)=wordL.take k++[wordL.getD k ⟨#[]⟩]:=by
  rw[List.take_succ_eq_append_getElem hl]
  congr 2
  simp[List.getD,List.getElem?_eq_getElem hl]
 rw[h,List.any_append]
 simp
theorem any_done (s:ByteArray) (k:Nat) (hk:k<21) (h:s.toList==(wordL.getD k ⟨#[]⟩).toList):wordB s=true:=by
 have hl:k<wordL.length:=hk
 have:wordL.any (fun x=>s.toList==x.toList)=true:=List.any_eq_true.2 ⟨wordL.getD k ⟨#[]⟩,by simp[List.getD,List.getElem?_eq_getElem hl],h⟩
 simp[wordB,this]
theorem any_none (s:ByteArray) (h:(wordL.take 21).any (fun x=>s.toList==x.toList)=false):wordB s=(s.toList==(⟨#[116,114,117,101]⟩:ByteArray).toList):=by
 have e:wordL.take 21=wordL:=rfl
 rw[e] at h;simp only[wordB,h,Bool.false_or]
theorem word_any (s:ByteArray) (w:World):Calls Tryz.prog 156 #[.string s] w fun e w'=>e=.returned (.bool (wordB s))∧Ext w w':=by
 obtain⟨V,hV⟩:∃ V,wordV=V:=⟨_,rfl⟩
 have HW:=Lib.hid words_any;have HI:=Lib.hid word_index;rw[hV] at HW HI;clear hV;go_enter Tryz.func156,Tryz.ntmps156
 go_wp2_with (go_at_call 192;refine (HW.out _).mono ?_;rintro e _ ⟨rfl,d,os,rfl⟩)
 go_loop [6] (fun ii=>∃ k:Nat,ii=.int .i64 k∧k≤21∧(wordL.take k).any (fun x=>s.toList==x.toList)=false) (fun ii=>21-(intOf ii).toNat)
 case atStart=>exact⟨0,rfl,by omega,rfl⟩
 case round =>
  obtain⟨k,rfl,hk,hn⟩:=hrel
  have HN:=Lib.hid hn;clear hn
  by_cases hlt:k<21
  · have hi:=HI.out k hlt
    have hd:=Lib.hid (any_done s k hlt);have hs:=Lib.hid (any_snoc s k hlt);generalize wordL.getD k ⟨#[]⟩=x at hi hd hs;clear HI
    cases hq:s.toList==x.toList
    · go_wp2
      go_round
      case rel =>
       refine ⟨k+1,by go_num,by omega,?_⟩;rw[hs.out,HN.out,hq];rfl
      case measure=>simp[intOf];omega
    · have hd':=Lib.hid (hd.out hq)
      go_wp2
      go_ret
      exact⟨ret_bool hd'.out.symm,zab⟩
  · have hk21:k=21:=by omega
    subst hk21;have hd':=Lib.hid (any_none s HN.out);clear HI
    go_wp2
    go_ret
    exact⟨ret_bool (by rw[hd'.out];first | rfl | (simp[Lib.toList_data];done)),zab⟩
def skipL:Bool→List UInt8→Nat
 | _,[]=>0
 | true,c::l=>if c.toNat=10 then skipL false l+1 else skipL true l+1
 | false,c::l=>if c.toNat=32∨c.toNat=9∨c.toNat=10 then skipL false l+1 else if c.toNat=35 then skipL true l+1 else 0
theorem qbZ:∀ (q:Bool) (l:List UInt8),skipL q l≤l.length
  | _,[]=>by simp[skipL]
  | true,c::l=>by have h1:=qbZ false l;have h2:=qbZ true l;simp only[skipL,List.length_cons];split<;>omega
  | false, c :: l => by have h1 := qbZ false l; have h2 := qbZ true l; simp only [skipL, List.length_cons]; repeat' split
                        all_goals omega
theorem qfs:∀ l:List UInt8,skipL true l=spanN noNl l+skipL false (l.drop (spanN noNl l))
 | []=>by simp[skipL,spanN]
 | c::l=>by
  have ih:=qfs l
  by_cases h:c.toNat=10
  · have e:noNl (c.toNat:Int)=false:=by simp[noNl,h]
    rw[show spanN noNl (c::l)=0 from by rw[spanN,e];rfl]
    simp[skipL,h]
  · have e:noNl (c.toNat:Int)=true:=by simp[noNl];omega
    rw[spanN,if_pos e]
    simp[skipL,h]
    omega
theorem skip_mark (l:List UInt8) (u:UInt8) (h:u.toNat=35):skipL false (u::l)=spanN noNl (u::l)+skipL false ((u::l).drop (spanN noNl (u::l))):=by
 have e:noNl (u.toNat:Int)=true:=by simp[noNl];omega
 have:=qfs l
 rw[spanN,if_pos e]
 simp[skipL,h]
 omega
theorem blank_any (b:Nat) (s:ByteArray) (k n:Nat) (lv:Value) (w:World) (h:LexAt b s k lv w) (hk:k≤s.size) (hs:s.size≤maxLen) (hn:skipL false (s.data.toList.drop k)=n) :
  Calls Tryz.prog 123 #[.pointer (some ⟨b,0,none⟩)] w fun e w'=>e=.returned (.tuple #[])∧LexAt b s (k+n) lv w'∧w.grownBy w' (some b):=by
 have hmx:=hs;unfold maxLen at hs;have HN:=Lib.hid hn;have HL:=Lib.hid h;clear hn h;go_enter Tryz.func123,Tryz.ntmps123;go_wp2_with fail
 go_loopg [] (s.size-k) (fun g wr=>∃ m,k≤m∧m≤s.size∧g=s.size-m∧m+skipL false (s.data.toList.drop m)=k+n∧LexAt b s m lv wr∧w.grownBy wr (some b))
 case atStart=>exact⟨k,by omega,by omega,by omega,by have:=HN.out;omega,HL.out,grown_refl _ _⟩
 case round =>
  obtain⟨m,hkm,hms,hgk,hsp,hL,hg⟩:=hrel
  have HLL:=Lib.hid hL;have HG:=Lib.hid hg;have HGK:=Lib.hid hgk
  obtain⟨c0,c1,c2,f1,f2⟩:=hL.cells
  have hb:=hL.lt;clear hL hg hgk HN HL
  by_cases hlt:m<s.size
  · have hml:m<s.data.toList.length:=by simpa using hlt
    have hd:s.data.toList.drop m=s[m]'hlt::s.data.toList.drop (m+1):=List.drop_eq_getElem_cons hml
    have h256:=(s[m]'hlt).toNat_lt
    by_cases q1:((s[m]'hlt).toNat:Int)=32∨((s[m]'hlt).toNat:Int)=9∨((s[m]'hlt).toNat:Int)=10
    · rw[hd] at hsp
      rw[skipL,if_pos zac] at hsp;have HS:=Lib.hid hsp;clear hsp hd h256 hml;rcases q1 with q1 | q1 | q1
      all_goals
       go_wp2_with fail;refine qaa 9 36 (List.replicate 9 false) zaf zaf rfl ?_;refine yac ?_
       repeat(refine Lex.step rfl ?_;intro K hK;unfold StepG;go_simp;(first
         | refine hK _ ?_);clear hK K)
       refine yaa ?_;intro dd oo;go_wp2_with fail;rw[ends_normal];go_wp2_with fail;refine qaa 8 36 (List.replicate 8 false) zaf zaf rfl ?_;refine yac ?_
       repeat(refine Lex.step rfl ?_;intro K hK;unfold StepG;go_simp;(first
         | refine hK _ ?_);clear hK K)
       refine yaa ?_;intro dd oo;go_wp2_with fail;rw[ends_normal];go_wp2_with fail
       go_roundg (gk-1)
       case measure=>have:=HGK.out;omega
       case rel=>exact⟨m+1,by omega,by omega,by have:=HGK.out;omega,by have:=HS.out;omega,((HLL.out.set (m+1) _ zac).more _ _),qax (qbB HG.out _ _) (Ext.more (Ext.refl _) _ _)⟩
    · by_cases q2:((s[m]'hlt).toNat:Int)=35
      · have hsk:=skip_mark (s.data.toList.drop (m+1)) (s[m]'hlt) zac
        rw[←hd] at hsk
        obtain⟨n1,hn1⟩:∃ n1,spanN noNl (s.data.toList.drop m)=n1:=⟨_,rfl⟩
        rw[hn1,List.drop_drop] at hsk
        have hle:n1≤s.size-m:=by rw[←hn1];have:=spanN_le noNl (s.data.toList.drop m);simp at this;omega
        have hn0:1≤n1:=by rw[←hn1,hd,spanN,if_pos (by simp[noNl];omega)];omega
        have HS:=Lib.hid hsp;have HK:=Lib.hid hsk;have HN1:=Lib.hid hn1;clear hsp hsk hn1 hd h256 hml q1;go_wp2_with fail;refine qaa 9 36 (List.replicate 9 false) zaf zaf rfl ?_;refine yac ?_
        repeat(refine Lex.step rfl ?_;intro K hK;unfold StepG;go_simp;(first
          | refine hK _ ?_);clear hK K)
        refine yaa ?_;intro dd oo;go_wp2_with fail;rw[ends_normal];go_wp2_with fail;refine qaa 8 36 (List.replicate 8 false) zaf zaf rfl ?_;refine yac ?_
        repeat(refine Lex.step rfl ?_;intro K hK;unfold StepG;go_simp;(first
          | refine hK _ ?_);clear hK K)
        refine yaa ?_;intro dd oo;go_wp2_with fail;rw[ends_normal]
        go_wp2_with (go_at_call 152;refine (while_nonl b s m n1 lv _ (HLL.out.more _ _) hms hmx HN1.out).mono ?_;rintro e w1 ⟨rfl,hL1,hg1⟩)
        go_roundg (s.size-(m+n1))
        case measure=>have:=HGK.out;omega
        case rel=>exact⟨m+n1,by omega,by omega,rfl,by have h1:=HS.out;have h2:=HK.out;omega,hL1,grown_trans (qax HG.out zab) hg1⟩
      · have p1:(((s[m]'hlt).toNat:Int)==32)=false:=by simp;omega
        have p2:(((s[m]'hlt).toNat:Int)==9)=false:=by simp;omega
        have p3:(((s[m]'hlt).toNat:Int)==10)=false:=by simp;omega
        have p4:(((s[m]'hlt).toNat:Int)==35)=false:=by simp;omega
        rw[hd,skipL,if_neg zac,if_neg zac] at hsp;have HMN:=Lib.hid (show m=k+n by omega);clear hsp hd h256 hml q1 q2 HGK;go_wp2_with fail;refine qaa 9 36 (List.replicate 9 false) zaf zaf rfl ?_;refine yac ?_
        repeat(refine Lex.step rfl ?_;intro K hK;unfold StepG;go_simp;(first
          | refine hK _ ?_);clear hK K)
        refine yaa ?_;intro dd oo;go_wp2_with fail;rw[ends_normal];go_wp2_with fail;refine qaa 8 36 (List.replicate 8 false) zaf zaf rfl ?_;refine yac ?_
        repeat(refine Lex.step rfl ?_;intro K hK;unfold StepG;go_simp;(first
          | refine hK _ ?_);clear hK K)
        refine yaa ?_;intro dd oo;go_wp2_with fail;rw[ends_normal];go_wp2_with fail;refine bodyPost_ret (v:=.tuple #[]) (by simp[results,Tryz.results123,go_sem]) rfl ?_;refine ⟨rfl,?_,?_⟩
        · rw[←HMN.out];exact HLL.out.more _ _
        · exact qax HG.out zab
  · have hme:m=s.size:=by omega
    have hnil:s.data.toList.drop m=[]:=by apply List.drop_eq_nil_of_le;simp;omega
    rw[hnil] at hsp;simp only[skipL] at hsp;have HMN:=Lib.hid (show s.size=k+n by omega);clear hsp hnil hms HGK;subst hme;go_wp2_with fail;refine qaa 9 36 (List.replicate 9 false) zaf zaf rfl ?_;refine yac ?_
    repeat(refine Lex.step rfl ?_;intro K hK;unfold StepG;go_simp;(first
      | refine hK _ ?_);clear hK K)
    refine yaa ?_;intro dd oo;go_wp2_with fail;rw[ends_normal];go_wp2_with fail;go_end0;refine ⟨rfl,?_,?_⟩
    · rw[←HMN.out];exact HLL.out.more _ _
    · exact qax HG.out zab
structure Tok where
 k:Int
 s:ByteArray
 i:Int
def tokV (t:Tok) (at':Int):Value:=.agg #[.int .i64 t.k,.int .i64 at',.string t.s,.int .i64 t.i]
def tok0:Tok:=⟨0,⟨#[]⟩,0⟩
def nameF (t:ByteArray):Tok × Int:=if wordB t=true then(⟨5,t,0⟩,0) else if 16<t.size then(tok0,5) else(⟨1,t,0⟩,0)
def numG:Int→List UInt8→Option Int
 | v,[]=>if 9223372036854775807<v then none else some v
 | v,c::l=>if 922337203685477580<v then none else numG (10*v+((c.toNat:Int)-48)) l
theorem LexAt.alloc (h:LexAt b s k lv w) (o:Obj):LexAt b s k lv (w.alloc o):=by
 unfold LexAt;rw[Lib.alloc_old w o b h.lt];exact h
theorem LexAt.other (h:LexAt b s k lv w) {p:Addr} (hp:p.block≠b) (v:Value):LexAt b s k lv (w.setCell p v):=by
 unfold LexAt;rw[Below.heap_setCell _ _ _ _ (fun e=>hp e.symm)];exact h
theorem lex_form {k':Nat} (h:LexAt b s k lv w) (h':LexAt b s k' lv w') (hg:w.grownBy w' (some b)):Ext (w.setCell ⟨b,1,none⟩ (.int .i64 (k':Int))) w':=by
 obtain⟨h1,h2,h3,h4,h5⟩:=hg
 have hsz:(w.setCell ⟨b,1,none⟩ (.int .i64 (k':Int))).heap.size=w.heap.size:=by simp[World.setCell]
 have hS:=h.set k' (k':Int) rfl;refine Ext.of_below ⟨h1,h2,h3,by rw[hsz];exact h4,fun j hj=>?_⟩;rw[hsz] at hj
 by_cases hjb:j=b
 · subst hjb
   unfold LexAt at h' hS;rw[h',hS]
 · rw[h5 j hj (by simpa using hjb),Below.heap_setCell _ _ _ _ (fun e=>hjb e)]
theorem qfN (w:World) (b i:Nat) (v v':Value):(w.setCell ⟨b,i,none⟩ v).setCell ⟨b,i,none⟩ v'=w.setCell ⟨b,i,none⟩ v':=by
 unfold World.setCell
 congr 1
 apply Array.ext_getElem?
 intro k;simp only[Array.getElem?_modify]
 by_cases hk:b=k
 · subst hk
   cases w.heap[b]? with
   | none=>simp
   | some o=>cases o<;>simp
 · simp[hk]
theorem skipped_no:Go.yielded.match_1 (fun _=>Option Bool) (some undef) (fun b=>some b) (fun _=>none)=none:=rfl
attribute [go_sem] qfN skipped_no
theorem while_name_x (b:Nat) (s t:ByteArray) (k n:Nat) (lv:Value) (hk:k≤s.size) (hs:s.size≤maxLen) (hn:spanN nameB (s.data.toList.drop k)=n) (ht:s.extract k (k+n)=t) (w:World) (h:LexAt b s k lv w) :
  Calls Tryz.prog 152 #[.pointer (some ⟨b,0,none⟩),.func (.func 155) #[] #[]] w fun e w'=>e=.returned (.string t)∧Ext (w.setCell ⟨b,1,none⟩ (.int .i64 ((k+n:Nat):Int))) w':=by
 subst ht
 exact(while_name b s k n lv w h hk hs hn).mono fun e w' ⟨he,hL,hg⟩=>⟨he,lex_form h hL hg⟩
theorem qds (b:Nat) (s t:ByteArray) (k n:Nat) (lv:Value) (hk:k≤s.size) (hs:s.size≤maxLen) (hn:spanN qai (s.data.toList.drop k)=n) (ht:s.extract k (k+n)=t) (w:World) (h:LexAt b s k lv w) :
  Calls Tryz.prog 152 #[.pointer (some ⟨b,0,none⟩),.func (.func 127) #[] #[]] w fun e w'=>e=.returned (.string t)∧Ext (w.setCell ⟨b,1,none⟩ (.int .i64 ((k+n:Nat):Int))) w':=by
 subst ht
 exact(while_digit b s k n lv w h hk hs hn).mono fun e w' ⟨he,hL,hg⟩=>⟨he,lex_form h hL hg⟩
theorem qeA (b:Nat) (s:ByteArray) (k n:Nat) (lv:Value) (hk:k≤s.size) (hs:s.size≤maxLen) (hn:skipL false (s.data.toList.drop k)=n) (w:World) (h:LexAt b s k lv w) :
  Calls Tryz.prog 123 #[.pointer (some ⟨b,0,none⟩)] w fun e w'=>e=.returned (.tuple #[])∧Ext (w.setCell ⟨b,1,none⟩ (.int .i64 ((k+n:Nat):Int))) w' :=
 (blank_any b s k n lv w h hk hs hn).mono fun e w' ⟨he,hL,hg⟩=>⟨he,lex_form h hL hg⟩
theorem name_any (b:Nat) (s t:ByteArray) (k n:Nat) (lv:Value) (hk:k≤s.size) (hs:s.size≤maxLen) (hn:spanN nameB (s.data.toList.drop k)=n) (ht:s.extract k (k+n)=t) (r:Tok) (e:Int) (hr:nameF t=(r,e)) (w:World) (h:LexAt b s k lv w) :
  Calls Tryz.prog 126 #[.pointer (some ⟨b,0,none⟩)] w fun e' w'=>e'=.returned (.tuple #[tokV r 0,.int .i64 e])∧Ext (w.setCell ⟨b,1,none⟩ (.int .i64 ((k+n:Nat):Int))) w':=by
 have HL:=Lib.hid h;have C:=Lib.hid (while_name_x b s t k n lv hk hs hn ht);have W:=Lib.hid (fun w=>word_any t w);have hb:=h.lt
 have hsz:t.size≤s.size:=by rw[←ht];simp;omega
 unfold maxLen at hs;unfold nameF at hr;unfold tokV tok0 at *;clear h hn ht
 cases hq:wordB t
 · rw[hq] at W hr
   rw[if_neg zaj] at hr
   by_cases h16:16<t.size
   · rw[if_pos h16] at hr
     simp only[Prod.mk.injEq] at hr
     obtain⟨rfl,rfl⟩:=hr
     clear hq;go_enter Tryz.func126,Tryz.ntmps126
     go_wp2_with (first
      | (go_at_call 152;refine (C.out _ zbc).mono ?_;rintro e _ ⟨rfl,d,os,rfl⟩)
      | (go_at_call 156;refine (W.out _).mono ?_;rintro e _ ⟨rfl,d,os,rfl⟩))
     refine bodyPost_ret (v:=.tuple #[.agg #[.int .i64 0,.int .i64 0,.string ⟨#[]⟩,.int .i64 0],.int .i64 5]) (by simp[results,Tryz.results126,go_sem]) rfl ?_
     exact⟨rfl,zab⟩
   · rw[if_neg h16] at hr
     simp only[Prod.mk.injEq] at hr
     obtain⟨rfl,rfl⟩:=hr
     clear hq;go_enter Tryz.func126,Tryz.ntmps126
     go_wp2_with (first
      | (go_at_call 152;refine (C.out _ zbc).mono ?_;rintro e _ ⟨rfl,d,os,rfl⟩)
      | (go_at_call 156;refine (W.out _).mono ?_;rintro e _ ⟨rfl,d,os,rfl⟩))
     refine bodyPost_ret (v:=.tuple #[.agg #[.int .i64 1,.int .i64 0,.string t,.int .i64 0],.int .i64 0]) (by simp[results,Tryz.results126,go_sem]) rfl ?_
     exact⟨rfl,zab⟩
 · rw[hq] at W hr
   rw[if_pos rfl] at hr;simp only[Prod.mk.injEq] at hr
   obtain⟨rfl,rfl⟩:=hr
   clear hq;go_enter Tryz.func126,Tryz.ntmps126
   go_wp2_with (first
    | (go_at_call 152;refine (C.out _ zbc).mono ?_;rintro e _ ⟨rfl,d,os,rfl⟩)
    | (go_at_call 156;refine (W.out _).mono ?_;rintro e _ ⟨rfl,d,os,rfl⟩))
   refine bodyPost_ret (v:=.tuple #[.agg #[.int .i64 5,.int .i64 0,.string t,.int .i64 0],.int .i64 0]) (by simp[results,Tryz.results126,go_sem]) rfl ?_
   exact⟨rfl,zab⟩
theorem span_all (p:Int→Bool):∀ (l:List UInt8) (j:Nat) (u:UInt8),(l.take (spanN p l))[j]?=some u→p (u.toNat:Int)=true
 | [],j,u,h=>by simp[spanN] at h
 | c::l,j,u,h=>by
  by_cases hc:p (c.toNat:Int)=true
  · rw[spanN,if_pos hc] at h
    cases j with
    | zero=>simp at h;subst h;exact hc
    | succ j=>exact span_all p l j u zbn
  · rw[spanN,if_neg hc] at h
    simp at h
def numE:Option Int→Tok × Int
 | none=>(tok0,8)
 | some v=>(⟨2,⟨#[]⟩,v⟩,0)
def numF (t:ByteArray):Tok × Int:=numE (numG 0 t.data.toList)
theorem number_ok (b:Nat) (s t:ByteArray) (k n:Nat) (lv:Value) (hk:k≤s.size) (hs:s.size≤maxLen) (hkn:k+n≤s.size) (hn:spanN qai (s.data.toList.drop k)=n) (ht:s.extract k (k+n)=t) (htn:t.size=n)
    (hA:n≤1∨(1<n∧∃ h:0<t.size,¬ ((t[0]'h).toNat:Int)=48)) (hB:k+n=s.size∨∃ h:k+n<s.size,qao ((s[k+n]'h).toNat:Int)=false)
    (hd:∀ (j:Nat) (h:j<t.size),48≤((t[j]'h).toNat:Int)∧((t[j]'h).toNat:Int)≤57) (r:Tok) (e:Int) (hr:numF t=(r,e)) (w:World) (h:LexAt b s k lv w) :
    Calls Tryz.prog 128 #[.pointer (some ⟨b,0,none⟩)] w fun e' w'=>e'=.returned (.tuple #[tokV r 0,.int .i64 e])∧Ext (w.setCell ⟨b,1,none⟩ (.int .i64 ((k+n:Nat):Int))) w':=by
  have HL:=Lib.hid h;have C:=Lib.hid (qds b s t k n lv hk hs hn ht);have hb:=h.lt
  obtain⟨c0,c1,c2,f1,f2⟩:=h.cells
  unfold maxLen at hs;have HR:=Lib.hid hr;have HTN:=Lib.hid htn;have HD:=Lib.hid hd;unfold tokV;clear h hn ht hr hd
  obtain⟨R,hR⟩:∃ R,numG 0 t.data.toList=R:=⟨_,rfl⟩
  have HR2:=Lib.hid (show numE R=(r,e) from by rw[←hR];exact HR.out);have HRR:=Lib.hid hR;clear HR hR
  have hts:t.size≤9223372036854775807:=by omega
  rcases hA with hA | ⟨hA,hA0,hA1⟩
  all_goals rcases hB with hB | ⟨hB,hB2⟩
  all_goals
    first
      | (have hA2:(1<(t.size:Int))=False:=by simp;omega
         clear hA htn)
      | (have hA2:(1<(t.size:Int))=True:=by simp;omega
         have hA3:(((t[0]'hA0).toNat:Int)==48)=false:=by simpa using hA1
         clear hA htn hA1)
    first
      | (have hB3:((k:Int)+n<s.size)=False:=by simp;omega
         clear hB)
      | (have hB3:((k:Int)+n<s.size)=True:=by simp;omega
         have h256:=(s[k+n]'hB).toNat_lt;have le:=qbi ((s[k+n]'hB).toNat:Int) zac zac;rw[hB2] at le;have LE:=Lib.hid le
         clear le h256 hB2)
    go_enter Tryz.func128,Tryz.ntmps128
    go_wp2_with (go_at_call 152;refine (C.out _ zbc).mono ?_;rintro e _ ⟨rfl,d,os,rfl⟩)
    refine qaa 28 65 (List.replicate 28 false) zaf zaf rfl ?_;refine yac ?_
    repeat(refine Lex.step rfl ?_;intro K hK;unfold StepG;go_simp;(first
        | refine hK _ ?_);clear hK K)
    refine yaa ?_;intro dd oo
    go_wp2_with (go_at_call 125;refine (LE.out _).mono ?_;rintro e _ ⟨rfl,rfl⟩)
    rw[ends_normal];go_wp2_with fail
    go_loop [5,44] (fun vv ii=>∃ (i:Nat) (V:Int),i≤t.size∧ii=.int .i64 i∧vv=.int .u64 V∧0≤V∧V≤9223372036854775809∧numG V (t.data.toList.drop i)=R) (fun _ ii=>t.size-(intOf ii).toNat)
    case atStart=>exact⟨0,0,by omega,rfl,rfl,by omega,by omega,HRR.out⟩
    case round =>
      obtain⟨i,V,hi,rfl,rfl,hV0,hV1,hG⟩:=hrel
      clear HRR
      by_cases hlt:i<t.size
      · have hml:i<t.data.toList.length:=by simpa using hlt
        have hdd:t.data.toList.drop i=t[i]'hlt::t.data.toList.drop (i+1):=List.drop_eq_getElem_cons hml
        rw[hdd] at hG;unfold numG at hG
        obtain⟨hd1,hd2⟩:=HD.out i hlt
        clear hdd hml
        by_cases hbig:922337203685477580<V
        · rw[if_pos hbig] at hG
          subst hG;have h:=HR2.out;simp only[numE,Prod.mk.injEq,tok0] at h
          obtain⟨rfl,rfl⟩:=h
          clear HR2
          go_wp2
          refine bodyPost_ret (v:=.tuple #[.agg #[.int .i64 0,.int .i64 0,.string ⟨#[]⟩,.int .i64 0],.int .i64 8]) (by simp[results,Tryz.results128,go_sem]) rfl ?_
          exact⟨rfl,zab⟩
        · rw[if_neg hbig] at hG
          have HGG:=Lib.hid hG
          have hz1:10*V+(((t[i]'hlt).toNat:Int)-48)≤9223372036854775809:=by omega
          have hz0:0≤10*V+(((t[i]'hlt).toNat:Int)-48):=by omega
          clear hG
          go_wp2
          go_round
          case rel=>exact⟨i+1,10*V+(((t[i]'hlt).toNat:Int)-48),by omega,by go_num,by first | rfl | go_num,by omega,by omega,HGG.out⟩
          case measure=>simp[intOf]<;>omega
      · have hie:i=t.size:=by omega
        have hnil:t.data.toList.drop i=[]:=by apply List.drop_eq_nil_of_le;simp;omega
        rw[hnil] at hG;unfold numG at hG;clear hnil
        by_cases hbig:9223372036854775807<V
        · rw[if_pos hbig] at hG
          subst hG;have h:=HR2.out;simp only[numE,Prod.mk.injEq,tok0] at h
          obtain⟨rfl,rfl⟩:=h
          clear HR2;subst hie
          go_wp2
          refine bodyPost_ret (v:=.tuple #[.agg #[.int .i64 0,.int .i64 0,.string ⟨#[]⟩,.int .i64 0],.int .i64 8]) (by simp[results,Tryz.results128,go_sem]) rfl ?_
          exact⟨rfl,zab⟩
        · rw[if_neg hbig] at hG
          subst hG;have h:=HR2.out;simp only[numE,Prod.mk.injEq] at h
          obtain⟨rfl,rfl⟩:=h
          clear HR2;subst hie
          go_wp2
          refine bodyPost_ret (v:=.tuple #[.agg #[.int .i64 2,.int .i64 0,.string ⟨#[]⟩,.int .i64 V],.int .i64 0]) (by simp[results,Tryz.results128,go_sem]) rfl ?_
          exact⟨rfl,zab⟩
theorem number_err (b:Nat) (s t:ByteArray) (k n:Nat) (lv:Value) (hk:k≤s.size) (hs:s.size≤maxLen) (hkn:k+n≤s.size) (hn:spanN qai (s.data.toList.drop k)=n) (ht:s.extract k (k+n)=t) (htn:t.size=n)
    (hA:(1<n∧∃ h:0<t.size,((t[0]'h).toNat:Int)=48)∨((n≤1∨(1<n∧∃ h:0<t.size,¬ ((t[0]'h).toNat:Int)=48))∧∃ h:k+n<s.size,qao ((s[k+n]'h).toNat:Int)=true))
    (w:World) (h:LexAt b s k lv w) :
    Calls Tryz.prog 128 #[.pointer (some ⟨b,0,none⟩)] w fun e' w'=>e'=.returned (.tuple #[tokV tok0 0,.int .i64 3])∧Ext (w.setCell ⟨b,1,none⟩ (.int .i64 ((k+n:Nat):Int))) w':=by
  have HL:=Lib.hid h;have C:=Lib.hid (qds b s t k n lv hk hs hn ht);have hb:=h.lt
  obtain⟨c0,c1,c2,f1,f2⟩:=h.cells
  unfold maxLen at hs;have HTN:=Lib.hid htn;unfold tokV tok0;clear h hn ht
  have hts:t.size≤9223372036854775807:=by omega
  rcases hA with ⟨hA,hA0,hA1⟩ | ⟨hA | ⟨hA,hA0,hA1⟩,hB,hB2⟩
  all_goals
    try
      (have hB3:((k:Int)+n<s.size)=True:=by simp;omega
       have h256:=(s[k+n]'hB).toNat_lt;have le:=qbi ((s[k+n]'hB).toNat:Int) zac zac;rw[hB2] at le;have LE:=Lib.hid le
       clear le h256 hB2)
    first
      | (have hA2:(1<(t.size:Int))=False:=by simp;omega
         clear hA htn)
      | (have hA2:(1<(t.size:Int))=True:=by simp;omega
         have hA3:(((t[0]'hA0).toNat:Int)==48)=true:=by simpa using hA1
         clear hA htn hA1)
      | (have hA2:(1<(t.size:Int))=True:=by simp;omega
         have hA3:(((t[0]'hA0).toNat:Int)==48)=false:=by simpa using hA1
         clear hA htn hA1)
    go_enter Tryz.func128,Tryz.ntmps128
    go_wp2_with (go_at_call 152;refine (C.out _ zbc).mono ?_;rintro e _ ⟨rfl,d,os,rfl⟩)
    refine qaa 28 65 (List.replicate 28 false) zaf zaf rfl ?_;refine yac ?_
    repeat(refine Lex.step rfl ?_;intro K hK;unfold StepG;go_simp;(first
        | refine hK _ ?_);clear hK K)
    refine yaa ?_;intro dd oo
    go_wp2_with (go_at_call 125;refine (LE.out _).mono ?_;rintro e _ ⟨rfl,rfl⟩)
    rw[ends_normal];go_wp2_with fail;refine bodyPost_ret (v:=.tuple #[.agg #[.int .i64 0,.int .i64 0,.string ⟨#[]⟩,.int .i64 0],.int .i64 3]) (by simp[results,Tryz.results128,go_sem]) rfl ?_
    exact⟨rfl,zab⟩
set_option maxRecDepth 20000
theorem rcell_lt {a:Addr} {v:Value} (h:w.cell? a=some v):a.block<w.heap.size:=by
 rcases Nat.lt_or_ge a.block w.heap.size with h' | h'
 · exact h'
 · simp[World.cell?,Array.getElem?_eq_none h'] at h
end Go.Proofs.YtpnabjopfpdkhaaGreatDoor
