/- Lemmas. -/
import Derived.Test.YtpnabjopfpdkhaaGreatDoorT21
import Derived.Test.YtpnabjopfpdkhaaGreatDoorT31
set_option linter.unusedSimpArgs false
set_option linter.unusedVariables false
namespace Go.Proofs.YtpnabjopfpdkhaaGreatDoor
open Go.RowKit
theorem mustP_one (L:Toks) (s:ByteArray) (m n:Nat):mustP L [s] m n=must1 L s m n:=by
 cases h:isP L s m
 · rw[qdn h];unfold must1;rw[h];rfl
 · rw[qbo h];unfold must1;rw[h];rfl
section
variable (L:Toks)
def sOpen:ByteArray:=⟨#[40]⟩
def sShut:ByteArray:=⟨#[41]⟩
def sMinus:ByteArray:=⟨#[45]⟩
def sNot:ByteArray:=⟨#[110,111,116]⟩
def sNil:ByteArray:=⟨#[110,105,108]⟩
def sTrue:ByteArray:=⟨#[116,114,117,101]⟩
def sFalse:ByteArray:=⟨#[102,97,108,115,101]⟩
def sGet:ByteArray:=⟨#[103,101,116]⟩
def sHas:ByteArray:=⟨#[104,97,115]⟩
def sLen:ByteArray:=⟨#[108,101,110]⟩
def sShow:ByteArray:=⟨#[115,104,111,119]⟩
def callP (k:Int) (e1:PM Int):PM Int:=pbind skipP fun _=>pbind (must1 L sOpen) fun _=>pbind e1 fun a=>pbind (must1 L sShut) fun _=>layP L { nd k with a:=a }
def parenP (e1:PM Int):PM Int:=pbind skipP fun _=>pbind e1 fun a=>pbind (must1 L sShut) fun _=>pok a
def wiP (k:Int) (d:Nat) (o1:PM Int):PM Int:=pbind skipP fun _=>qaU L k d o1
def moreP (d:Nat) (e1 o1:PM Int):PM Int:=fun m n =>
 if isP L sOpen m=true then parenP L e1 m n
 else if isP L sNot m=true then wiP L 9 d o1 m n
 else if isP L sMinus m=true then wiP L 10 d o1 m n
 else if isP L sGet m=true then callP L 5 e1 m n
 else if isP L sHas m=true then callP L 6 e1 m n
 else if isP L sLen m=true then callP L 7 e1 m n
 else if isP L sShow m=true then callP L 8 e1 m n
 else pno L 3 m n
def puP (z:Nd):PM Int:=pbind skipP fun _=>layP L z
variable {L}
theorem isP_w {s:ByteArray} (hw:wordB s=true) (m:Nat):isP L s m=((tk L m).1.k==5&&(tk L m).1.s.toList==s.toList):=by unfold isP;rw[hw];rfl
theorem isP_s {s:ByteArray} (hw:wordB s=false) (m:Nat):isP L s m=((tk L m).1.k==4&&(tk L m).1.s.toList==s.toList):=by unfold isP;rw[hw];rfl
theorem qei (s:ByteArray):mustP L [s]=must1 L s:=by funext m n;exact mustP_one L s m n
theorem one_eq (d:Nat) (e1 o1:PM Int) (m n:Nat) (h2:(tk L m).1.k≠2) (h3:(tk L m).1.k≠3) (h1:(tk L m).1.k≠1) :
  oneP L d e1 o1 m n=if isP L sNil m=true then puP L (nd 0) m n else if isP L sTrue m=true then puP L { nd 1 with i:=1 } m n else if isP L sFalse m=true then puP L (nd 1) m n else moreP L d e1 o1 m n:=by
 have w1:wordB sNil=true:=by kernel_rfl
 have w2:wordB sTrue=true:=by kernel_rfl
 have w3:wordB sFalse=true:=by kernel_rfl
 have w4:wordB sOpen=false:=by kernel_rfl
 have w5:wordB sNot=true:=by kernel_rfl
 have w6:wordB sMinus=false:=by kernel_rfl
 have w7:wordB sGet=true:=by kernel_rfl
 have w8:wordB sHas=true:=by kernel_rfl
 have w9:wordB sLen=true:=by kernel_rfl
 have w10:wordB sShow=true:=by kernel_rfl
 have l1:sNil.toList=[110,105,108]:=by kernel_rfl
 have l2:sTrue.toList=[116,114,117,101]:=by kernel_rfl
 have l3:sFalse.toList=[102,97,108,115,101]:=by kernel_rfl
 have l4:sOpen.toList=[40]:=by kernel_rfl
 have l5:sNot.toList=[110,111,116]:=by kernel_rfl
 have l6:sMinus.toList=[45]:=by kernel_rfl
 have l7:sGet.toList=[103,101,116]:=by kernel_rfl
 have l8:sHas.toList=[104,97,115]:=by kernel_rfl
 have l9:sLen.toList=[108,101,110]:=by kernel_rfl
 have l10:sShow.toList=[115,104,111,119]:=by kernel_rfl
 unfold oneP;rw[if_neg h2,if_neg h3,if_neg h1];unfold moreP;rw[isP_w w1,isP_w w2,isP_w w3,isP_s w4,isP_w w5,isP_s w6,isP_w w7,isP_w w8,isP_w w9,isP_w w10,l1,l2,l3,l4,l5,l6,l7,l8,l9,l10]
 have s1:(⟨#[110,111,116]⟩:ByteArray)=sNot:=rfl
 have s2:(⟨#[110,105,108]⟩:ByteArray)=sNil:=rfl
 have s3:(⟨#[45]⟩:ByteArray)=sMinus:=rfl
 have s4:(⟨#[40]⟩:ByteArray)=sOpen:=rfl
 have s5:(⟨#[41]⟩:ByteArray)=sShut:=rfl
 by_cases h4:(tk L m).1.k=4
 · have e4:((tk L m).1.k==4)=true:=by simpa using h4
   have e5:((tk L m).1.k==5)=false:=by rw[h4];rfl
   rw[if_pos h4,e4,e5];simp only[Bool.false_and,Bool.true_and,Bool.false_eq_true,if_false];unfold qbk;rw[s3,s4,s5,isP_s w6,isP_s w4,l6,l4,e4];simp only[Bool.true_and,qei]
   by_cases hm:((tk L m).1.s.toList==[45])=true
   · have:(tk L m).1.s.toList=[45]:=by simpa using hm
     rw[this];rfl
   · rw[if_neg hm,if_neg hm]
     rfl
 · rw[if_neg h4]
   have e4:((tk L m).1.k==4)=false:=by simpa using h4
   rw[e4];simp only[Bool.false_and,Bool.false_eq_true,if_false]
   by_cases h5:(tk L m).1.k=5
   · have e5:((tk L m).1.k==5)=true:=by simpa using h5
     rw[if_pos h5,e5];simp only[Bool.true_and];unfold qbi callF sIs;rw[s1,s2,s4,s5,isP_w w5,isP_w w1,l5,l1,e5];simp only[Bool.true_and,qei]
     obtain⟨l,hl⟩:∃ l,(tk L m).1.s.toList=l:=⟨_,rfl⟩
     rw[hl]
     by_cases q1:l=[110,105,108]
     · subst q1;rfl
     by_cases q2:l=[116,114,117,101]
     · subst q2;rfl
     by_cases q3:l=[102,97,108,115,101]
     · subst q3;rfl
     by_cases q4:l=[110,111,116]
     · subst q4;rfl
     by_cases q5:l=[103,101,116]
     · subst q5;rfl
     by_cases q6:l=[104,97,115]
     · subst q6;rfl
     by_cases q7:l=[108,101,110]
     · subst q7;rfl
     by_cases q8:l=[115,104,111,119]
     · subst q8;rfl
     have b:∀ x:List UInt8,l≠x→(l==x)=false:=fun x hx=>by simpa using hx
     rw[b _ q1,b _ q2,b _ q3,b _ q4,b _ q5,b _ q6,b _ q7,b _ q8]
     rfl
   · rw[if_neg h5]
     have e5:((tk L m).1.k==5)=false:=by simpa using h5
     rw[e5];simp only[Bool.false_and,Bool.false_eq_true,if_false]
end
end Go.Proofs.YtpnabjopfpdkhaaGreatDoor
