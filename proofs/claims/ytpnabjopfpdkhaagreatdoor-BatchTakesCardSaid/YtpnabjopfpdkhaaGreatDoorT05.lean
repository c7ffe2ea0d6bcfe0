/- Lemmas. -/
import Derived.Test.YtpnabjopfpdkhaaGreatDoorT03
import Derived.Test.YtpnabjopfpdkhaaGreatDoorT04
import Derived.Outline
import Derived.Lib.SmallJoins
import Derived.Maps.Own
import Derived.Maps.OwnSet
import Derived.Maps.Views
import Derived.StringKeys
import Derived.Deep.OwnRows
set_option linter.unusedSimpArgs false
set_option linter.unusedVariables false
set_option maxHeartbeats 4000000
set_option maxRecDepth 20000
namespace Go.Proofs.YtpnabjopfpdkhaaGreatDoor
open Go.RowKit
variable {N a b n x y z:Nat} {w:World} {lv:Value}
theorem next_end (b:Nat) (s:ByteArray) (k n:Nat) (lv:Value) (hk:k≤s.size) (hs:s.size≤maxLen) (hn:skipL false (s.data.toList.drop k)=n) (hlt:k+n=s.size) (w:World) (h:LexAt b s k lv w) :
  Calls Tryz.prog 109 #[.pointer (some ⟨b,0,none⟩)] w fun e' w'=>e'=.returned (.tuple #[tokV tok0 0,.int .i64 0,.bool false])∧Ext (w.setCell ⟨b,1,none⟩ (.int .i64 ((k+n:Nat):Int))) w':=by
 have HL:=Lib.hid h;have C:=Lib.hid (qex b s k n lv hk hs hn);have hb:=h.lt
 obtain⟨c0,c1,c2,f1,f2⟩:=h.cells
 unfold maxLen at hs;clear h hn
 have hle:(((k:Int)+n)==(s.size:Int))=true:=by simp;omega
 unfold tokV tok0;go_enter Tryz.func109,Tryz.ntmps109
 go_wp2_with (go_at_call 123;refine (C.out _ zbe).mono ?_;rintro e _ ⟨rfl,d,os,rfl⟩)
 refine qaa 9 62 (List.replicate 9 false) zaf zaf rfl ?_;refine yac ?_
 repeat(refine Lex.step rfl ?_;intro K hK;unfold StepG;go_simp;(first
   | refine hK _ ?_);clear hK K)
 refine yaa ?_;intro dd oo;go_wp2_with fail;rw[ends_normal];go_wp2_with fail;refine bodyPost_ret (v:=.tuple #[.agg #[.int .i64 0,.int .i64 0,.string ⟨#[]⟩,.int .i64 0],.int .i64 0,.bool false]) zbl rfl ?_;refine ⟨rfl,?_⟩;rw[hlt]
 repeat(first | exact Ext.refl _ | apply Ext.alloc | apply Ext.more)
def qbF (b K:Nat) (r:Tok) (e:Int) (w:World) (e':Ending) (w':World):Prop :=
 e'=.returned (.tuple #[.agg #[.int .i64 r.k,.int .i64 0,.string r.s,.int .i64 r.i],.int .i64 e])∧∃ k':Nat,(e=0→k'=K)∧Ext (w.setCell ⟨b,1,none⟩ (.int .i64 (k':Int))) w'
def qdc (b A K:Nat) (r:Tok) (e:Int) (w:World) (e':Ending) (w':World):Prop :=
 e'=.returned (.tuple #[.agg #[.int .i64 r.k,.int .i64 (A:Int),.string r.s,.int .i64 r.i],.int .i64 e,.bool true])∧∃ k':Nat,(e=0→k'=K)∧Ext (w.setCell ⟨b,1,none⟩ (.int .i64 (k':Int))) w'
theorem next_name (b:Nat) (s:ByteArray) (k n:Nat) (lv:Value) (hk:k≤s.size) (hs:s.size≤maxLen) (hn:skipL false (s.data.toList.drop k)=n) (hlt:k+n<s.size) (hc:qao ((s[k+n]'hlt).toNat:Int)=true) (K:Nat) (r:Tok) (e:Int)
  (T:RowKit.Hid (∀ w,LexAt b s (k+n) lv w→Calls Tryz.prog 126 #[.pointer (some ⟨b,0,none⟩)] w (qbF b K r e w))) (w:World) (h:LexAt b s k lv w) :
  Calls Tryz.prog 109 #[.pointer (some ⟨b,0,none⟩)] w (qdc b (k+n) K r e w):=by
 have HL:=Lib.hid h;have C:=Lib.hid (qex b s k n lv hk hs hn);have hb:=h.lt
 obtain⟨c0,c1,c2,f1,f2⟩:=h.cells
 unfold maxLen at hs;clear h hn
 have hle:(((k:Int)+n)==(s.size:Int))=false:=by simp;omega
 have h256:=(s[k+n]'hlt).toNat_lt;have le:=qbl ((s[k+n]'hlt).toNat:Int) zac zac;rw[hc] at le;have LE:=Lib.hid le;clear le hc;clear h256
 have hz:((k:Int)+n<s.size):=by omega
 go_enter Tryz.func109,Tryz.ntmps109
 go_wp2_with (go_at_call 123;refine (C.out _ zbe).mono ?_;rintro e _ ⟨rfl,d,os,rfl⟩)
 refine qaa 9 62 (List.replicate 9 false) zaf zaf rfl ?_;refine yac ?_
 repeat(refine Lex.step rfl ?_;intro K hK;unfold StepG;go_simp;(first
   | refine hK _ ?_);clear hK K)
 refine yaa ?_;intro dd oo;go_wp2_with fail;rw[ends_normal];go_wp2_with fail;refine qaa 8 62 (List.replicate 8 false) zaf zaf rfl ?_;refine yac ?_
 repeat(refine Lex.step rfl ?_;intro K hK;unfold StepG;go_simp;(first
   | refine hK _ ?_);clear hK K)
 refine yaa ?_;intro dd oo
 go_wp2_with (go_at_call 125;refine (LE.out _).mono ?_;rintro e _ ⟨rfl,rfl⟩)
 first | rw[ends_normal] | skip
 go_wp2_with (go_at_call 125;refine (LE.out _).mono ?_;rintro e _ ⟨rfl,rfl⟩)
 refine (T.out _ zbf).mono ?_;rintro e _ ⟨rfl,k2,hk2,d3,os3,rfl⟩;have HK2:=Lib.hid hk2;clear hk2;go_wp2_with fail;refine yat ⟨?_⟩
 exact⟨rfl,k2,HK2.out,zab⟩
theorem next_number (b:Nat) (s:ByteArray) (k n:Nat) (lv:Value) (hk:k≤s.size) (hs:s.size≤maxLen) (hn:skipL false (s.data.toList.drop k)=n) (hlt:k+n<s.size) (hc:qao ((s[k+n]'hlt).toNat:Int)=false) (hd:qai ((s[k+n]'hlt).toNat:Int)=true) (K:Nat) (r:Tok) (e:Int)
  (T:RowKit.Hid (∀ w,LexAt b s (k+n) lv w→Calls Tryz.prog 128 #[.pointer (some ⟨b,0,none⟩)] w (qbF b K r e w))) (w:World) (h:LexAt b s k lv w) :
  Calls Tryz.prog 109 #[.pointer (some ⟨b,0,none⟩)] w (qdc b (k+n) K r e w):=by
 have HL:=Lib.hid h;have C:=Lib.hid (qex b s k n lv hk hs hn);have hb:=h.lt
 obtain⟨c0,c1,c2,f1,f2⟩:=h.cells
 unfold maxLen at hs;clear h hn
 have hle:(((k:Int)+n)==(s.size:Int))=false:=by simp;omega
 have h256:=(s[k+n]'hlt).toNat_lt;have le:=qbl ((s[k+n]'hlt).toNat:Int) zac zac;rw[hc] at le;have LE:=Lib.hid le;clear le hc;have de:=qcl ((s[k+n]'hlt).toNat:Int) zac zac;rw[hd] at de;have DE:=Lib.hid de;clear de hd;clear h256
 have hz:((k:Int)+n<s.size):=by omega
 go_enter Tryz.func109,Tryz.ntmps109
 go_wp2_with (go_at_call 123;refine (C.out _ zbe).mono ?_;rintro e _ ⟨rfl,d,os,rfl⟩)
 refine qaa 9 62 (List.replicate 9 false) zaf zaf rfl ?_;refine yac ?_
 repeat(refine Lex.step rfl ?_;intro K hK;unfold StepG;go_simp;(first
   | refine hK _ ?_);clear hK K)
 refine yaa ?_;intro dd oo;go_wp2_with fail;rw[ends_normal];go_wp2_with fail;refine qaa 8 62 (List.replicate 8 false) zaf zaf rfl ?_;refine yac ?_
 repeat(refine Lex.step rfl ?_;intro K hK;unfold StepG;go_simp;(first
   | refine hK _ ?_);clear hK K)
 refine yaa ?_;intro dd oo
 go_wp2_with (first
  | (go_at_call 125;refine (LE.out _).mono ?_;rintro e _ ⟨rfl,rfl⟩)
  | (go_at_call 127;refine (DE.out _).mono ?_;rintro e _ ⟨rfl,rfl⟩))
 first | rw[ends_normal] | skip
 go_wp2_with (first
  | (go_at_call 125;refine (LE.out _).mono ?_;rintro e _ ⟨rfl,rfl⟩)
  | (go_at_call 127;refine (DE.out _).mono ?_;rintro e _ ⟨rfl,rfl⟩))
 refine (T.out _ zbf).mono ?_;rintro e _ ⟨rfl,k2,hk2,d3,os3,rfl⟩;have HK2:=Lib.hid hk2;clear hk2;go_wp2_with fail;refine yat ⟨?_⟩
 exact⟨rfl,k2,HK2.out,zab⟩
theorem next_text (b:Nat) (s:ByteArray) (k n:Nat) (lv:Value) (hk:k≤s.size) (hs:s.size≤maxLen) (hn:skipL false (s.data.toList.drop k)=n) (hlt:k+n<s.size) (hc:qao ((s[k+n]'hlt).toNat:Int)=false) (hd:qai ((s[k+n]'hlt).toNat:Int)=false) (hq:(((s[k+n]'hlt).toNat:Int)==34)=true) (K:Nat) (r:Tok) (e:Int)
  (T:RowKit.Hid (∀ w,LexAt b s (k+n) lv w→Calls Tryz.prog 129 #[.pointer (some ⟨b,0,none⟩)] w (qbF b K r e w))) (w:World) (h:LexAt b s k lv w) :
  Calls Tryz.prog 109 #[.pointer (some ⟨b,0,none⟩)] w (qdc b (k+n) K r e w):=by
 have HL:=Lib.hid h;have C:=Lib.hid (qex b s k n lv hk hs hn);have hb:=h.lt
 obtain⟨c0,c1,c2,f1,f2⟩:=h.cells
 unfold maxLen at hs;clear h hn
 have hle:(((k:Int)+n)==(s.size:Int))=false:=by simp;omega
 have h256:=(s[k+n]'hlt).toNat_lt;have le:=qbl ((s[k+n]'hlt).toNat:Int) zac zac;rw[hc] at le;have LE:=Lib.hid le;clear le hc;have de:=qcl ((s[k+n]'hlt).toNat:Int) zac zac;rw[hd] at de;have DE:=Lib.hid de;clear de hd;clear h256
 have hz:((k:Int)+n<s.size):=by omega
 go_enter Tryz.func109,Tryz.ntmps109
 go_wp2_with (go_at_call 123;refine (C.out _ zbe).mono ?_;rintro e _ ⟨rfl,d,os,rfl⟩)
 refine qaa 9 62 (List.replicate 9 false) zaf zaf rfl ?_;refine yac ?_
 repeat(refine Lex.step rfl ?_;intro K hK;unfold StepG;go_simp;(first
   | refine hK _ ?_);clear hK K)
 refine yaa ?_;intro dd oo;go_wp2_with fail;rw[ends_normal];go_wp2_with fail;refine qaa 8 62 (List.replicate 8 false) zaf zaf rfl ?_;refine yac ?_
 repeat(refine Lex.step rfl ?_;intro K hK;unfold StepG;go_simp;(first
   | refine hK _ ?_);clear hK K)
 refine yaa ?_;intro dd oo
 go_wp2_with (first
  | (go_at_call 125;refine (LE.out _).mono ?_;rintro e _ ⟨rfl,rfl⟩)
  | (go_at_call 127;refine (DE.out _).mono ?_;rintro e _ ⟨rfl,rfl⟩))
 first | rw[ends_normal] | skip
 go_wp2_with (first
  | (go_at_call 125;refine (LE.out _).mono ?_;rintro e _ ⟨rfl,rfl⟩)
  | (go_at_call 127;refine (DE.out _).mono ?_;rintro e _ ⟨rfl,rfl⟩))
 refine (T.out _ zbf).mono ?_;rintro e _ ⟨rfl,k2,hk2,d3,os3,rfl⟩;have HK2:=Lib.hid hk2;clear hk2;go_wp2_with fail;refine yat ⟨?_⟩
 exact⟨rfl,k2,HK2.out,zab⟩
theorem next_sign (b:Nat) (s:ByteArray) (k n:Nat) (lv:Value) (hk:k≤s.size) (hs:s.size≤maxLen) (hn:skipL false (s.data.toList.drop k)=n) (hlt:k+n<s.size) (hc:qao ((s[k+n]'hlt).toNat:Int)=false) (hd:qai ((s[k+n]'hlt).toNat:Int)=false) (hq:(((s[k+n]'hlt).toNat:Int)==34)=false) (K:Nat) (r:Tok) (e:Int)
  (T:RowKit.Hid (∀ w,LexAt b s (k+n) lv w→Calls Tryz.prog 124 #[.pointer (some ⟨b,0,none⟩)] w (qbF b K r e w))) (w:World) (h:LexAt b s k lv w) :
  Calls Tryz.prog 109 #[.pointer (some ⟨b,0,none⟩)] w (qdc b (k+n) K r e w):=by
 have HL:=Lib.hid h;have C:=Lib.hid (qex b s k n lv hk hs hn);have hb:=h.lt
 obtain⟨c0,c1,c2,f1,f2⟩:=h.cells
 unfold maxLen at hs;clear h hn
 have hle:(((k:Int)+n)==(s.size:Int))=false:=by simp;omega
 have h256:=(s[k+n]'hlt).toNat_lt;have le:=qbl ((s[k+n]'hlt).toNat:Int) zac zac;rw[hc] at le;have LE:=Lib.hid le;clear le hc;have de:=qcl ((s[k+n]'hlt).toNat:Int) zac zac;rw[hd] at de;have DE:=Lib.hid de;clear de hd;clear h256
 have hz:((k:Int)+n<s.size):=by omega
 go_enter Tryz.func109,Tryz.ntmps109
 go_wp2_with (go_at_call 123;refine (C.out _ zbe).mono ?_;rintro e _ ⟨rfl,d,os,rfl⟩)
 refine qaa 9 62 (List.replicate 9 false) zaf zaf rfl ?_;refine yac ?_
 repeat(refine Lex.step rfl ?_;intro K hK;unfold StepG;go_simp;(first
   | refine hK _ ?_);clear hK K)
 refine yaa ?_;intro dd oo;go_wp2_with fail;rw[ends_normal];go_wp2_with fail;refine qaa 8 62 (List.replicate 8 false) zaf zaf rfl ?_;refine yac ?_
 repeat(refine Lex.step rfl ?_;intro K hK;unfold StepG;go_simp;(first
   | refine hK _ ?_);clear hK K)
 refine yaa ?_;intro dd oo
 go_wp2_with (first
  | (go_at_call 125;refine (LE.out _).mono ?_;rintro e _ ⟨rfl,rfl⟩)
  | (go_at_call 127;refine (DE.out _).mono ?_;rintro e _ ⟨rfl,rfl⟩))
 first | rw[ends_normal] | skip
 go_wp2_with (first
  | (go_at_call 125;refine (LE.out _).mono ?_;rintro e _ ⟨rfl,rfl⟩)
  | (go_at_call 127;refine (DE.out _).mono ?_;rintro e _ ⟨rfl,rfl⟩))
 refine (T.out _ zbf).mono ?_;rintro e _ ⟨rfl,k2,hk2,d3,os3,rfl⟩;have HK2:=Lib.hid hk2;clear hk2;go_wp2_with fail;refine yat ⟨?_⟩
 exact⟨rfl,k2,HK2.out,zab⟩
def headLetter:List UInt8→Bool
 | []=>false
 | c::_=>qao (c.toNat:Int)
def oneF:List UInt8→Tok × Nat × Int
  | []=>(tok0,0,3)
  | c::l =>
    if qao (c.toNat:Int)=true then((nameF ⟨((c::l).take (spanN nameB (c::l))).toArray⟩).1,spanN nameB (c::l),(nameF ⟨((c::l).take (spanN nameB (c::l))).toArray⟩).2)
    else if qai (c.toNat:Int)=true then
      (if (1<spanN qai (c::l)∧c.toNat=48)∨headLetter ((c::l).drop (spanN qai (c::l)))=true then(tok0,spanN qai (c::l),3)
       else((numF ⟨((c::l).take (spanN qai (c::l))).toArray⟩).1,spanN qai (c::l),(numF ⟨((c::l).take (spanN qai (c::l))).toArray⟩).2))
    else if c.toNat=34 then((textG l []).1,1+(textG l []).2.1,(textG l []).2.2)
    else signF (c::l)
theorem qaP (s:ByteArray) (m n:Nat):s.extract m (m+n)=⟨((s.data.toList.drop m).take n).toArray⟩:=by
 apply ByteArray.ext
 apply Array.ext'
 simp[List.extract_eq_take_drop]
theorem take_name (b:Nat) (s:ByteArray) (m n:Nat) (lv:Value) (hk:m≤s.size) (hs:s.size≤maxLen) (hn:spanN nameB (s.data.toList.drop m)=n) (r:Tok) (e:Int) (hr:nameF (s.extract m (m+n))=(r,e)) (w:World) (h:LexAt b s m lv w) :
  Calls Tryz.prog 126 #[.pointer (some ⟨b,0,none⟩)] w (qbF b (m+n) r e w) :=
 (name_any b s _ m n lv hk hs hn rfl r e hr w h).mono fun e' w' ⟨he,hx⟩=>⟨he,m+n,fun _=>rfl,hx⟩
theorem take_sign (b:Nat) (s:ByteArray) (m n:Nat) (lv:Value) (hk:m<s.size) (hs:(s.size:Int)≤4611686018427387904) (r:Tok) (e:Int) (hr:signF (s.data.toList.drop m)=(r,n,e)) (w:World) (h:LexAt b s m lv w) :
  Calls Tryz.prog 124 #[.pointer (some ⟨b,0,none⟩)] w (qbF b (m+n) r e w):=by
 have e1:(s.extract m s.size).data.toList=s.data.toList.drop m:=by
  have h1:(s.extract m s.size).data.toList=(s.data.toList.drop m).take (s.size-m):=by simp[List.extract_eq_take_drop]
  rw[h1,List.take_of_length_le zaj]
 refine (sign_any b s _ m n lv hk hs rfl zam r e (by rw[e1];exact hr) w h).mono fun e' w' ⟨he,hx⟩=>⟨he,m+n,fun _=>rfl,hx⟩
theorem take_text (b:Nat) (s:ByteArray) (m n:Nat) (lv:Value) (hk:m<s.size) (hs:s.size≤140737488351232) (r:Tok) (e:Int) (hr:textG (s.data.toList.drop (m+1)) []=(r,n,e)) (w:World) (h:LexAt b s m lv w) :
  Calls Tryz.prog 129 #[.pointer (some ⟨b,0,none⟩)] w (qbF b (m+(1+n)) r e w) :=
 (text_any b s m n lv hk hs r e hr w h).mono fun e' w' ⟨he,k',h1,hx⟩=>⟨he,k',fun h0=>by rw[h1 h0];omega,hx⟩
theorem qeF (s:ByteArray) (m n:Nat) (hm:m≤s.size) (hn:spanN qai (s.data.toList.drop m)=n) (hmn:m+n≤s.size) :
  ∀ (j:Nat) (h:j<(s.extract m (m+n)).size),48≤(((s.extract m (m+n))[j]'h).toNat:Int)∧(((s.extract m (m+n))[j]'h).toNat:Int)≤57:=by
 intro j h
 have hl:(s.extract m (m+n)).data.toList=(s.data.toList.drop m).take n:=by rw[qaP]
 have hj:((s.data.toList.drop m).take (spanN qai (s.data.toList.drop m)))[j]?=some ((s.extract m (m+n))[j]'h):=by
  rw[hn,←hl];exact List.getElem?_eq_getElem (by simp at h ⊢;omega)
 have:=span_all qai _ j _ hj
 simpa [qai] using this
theorem take_number (b:Nat) (s:ByteArray) (m n:Nat) (lv:Value) (hk:m<s.size) (hs:s.size≤maxLen) (hn:spanN qai (s.data.toList.drop m)=n) (r:Tok) (e:Int)
  (hr:(if (1<n∧(s[m]'hk).toNat=48)∨headLetter (s.data.toList.drop (m+n))=true then(tok0,3) else numF (s.extract m (m+n)))=(r,e)) (w:World) (h:LexAt b s m lv w) :
  Calls Tryz.prog 128 #[.pointer (some ⟨b,0,none⟩)] w (qbF b (m+n) r e w):=by
 have hle:=spanN_le qai (s.data.toList.drop m);rw[hn] at hle
 have hmn:m+n≤s.size:=by simp at hle;omega
 have htn:(s.extract m (m+n)).size=n:=by simp;omega
 have h0:∀ h:0<(s.extract m (m+n)).size,(s.extract m (m+n))[0]'h=s[m]'hk:=by
  intro h
  simp[ByteArray.getElem_extract]
 have hlet:headLetter (s.data.toList.drop (m+n))=true↔∃ h:m+n<s.size,qao ((s[m+n]'h).toNat:Int)=true:=by
  by_cases hlt:m+n<s.size
  · have hd:s.data.toList.drop (m+n)=s[m+n]'hlt::s.data.toList.drop (m+n+1):=List.drop_eq_getElem_cons (by simpa using hlt)
    rw[hd]
    exact⟨fun h=>⟨hlt,h⟩,fun ⟨_,h⟩=>h⟩
  · have hd:s.data.toList.drop (m+n)=[]:=List.drop_eq_nil_of_le zam
    rw[hd]
    exact⟨fun h=>by simp[headLetter] at h,fun ⟨h,_⟩=>absurd h hlt⟩
 by_cases hc:(1<n∧(s[m]'hk).toNat=48)∨headLetter (s.data.toList.drop (m+n))=true
 · rw[if_pos hc] at hr
   simp only[Prod.mk.injEq] at hr
   obtain⟨rfl,rfl⟩:=hr
   refine (number_err b s _ m n lv zac hs hmn hn rfl htn ?_ w h).mono fun e' w' ⟨he,hx⟩=>⟨he,m+n,fun _=>rfl,hx⟩
   by_cases h1:1<n∧(s[m]'hk).toNat=48
   · exact Or.inl ⟨h1.1,by omega,by rw[h0];omega⟩
   · have h2:=hlet.1 (hc.resolve_left h1)
     refine Or.inr ⟨?_,h2⟩
     by_cases h3:1<n
     · exact Or.inr ⟨h3,by omega,by rw[h0];omega⟩
     · exact Or.inl zac
 · rw[if_neg hc] at hr
   refine (number_ok b s _ m n lv zac hs hmn hn rfl htn ?_ ?_ (qeF s m n zac hn hmn) r e hr w h).mono fun e' w' ⟨he,hx⟩=>⟨he,m+n,fun _=>rfl,hx⟩
   · by_cases h3:1<n
     · exact Or.inr ⟨h3,by omega,by rw[h0];omega⟩
     · exact Or.inl zac
   · by_cases hlt:m+n<s.size
     · refine Or.inr ⟨hlt,?_⟩
       cases hb:qao ((s[m+n]'hlt).toNat:Int)
       · rfl
       · exact absurd (Or.inr (hlet.2 ⟨hlt,hb⟩)) hc
     · exact Or.inl zac
theorem next_any (b:Nat) (s:ByteArray) (k n:Nat) (lv:Value) (hk:k≤s.size) (hs:s.size≤140737488351232) (hn:skipL false (s.data.toList.drop k)=n) (hlt:k+n<s.size) (n1:Nat) (r:Tok) (e:Int) (hr:oneF (s.data.toList.drop (k+n))=(r,n1,e)) (w:World) (h:LexAt b s k lv w) :
  Calls Tryz.prog 109 #[.pointer (some ⟨b,0,none⟩)] w (qdc b (k+n) (k+n+n1) r e w):=by
 have hm:s.size≤maxLen:=by unfold maxLen;omega
 obtain⟨m,hmm⟩:∃ m,k+n=m:=⟨_,rfl⟩
 have hlt':m<s.size:=by omega
 have hd:s.data.toList.drop m=s[m]'hlt'::s.data.toList.drop (m+1):=List.drop_eq_getElem_cons (by simpa using hlt')
 subst hmm;have hr0:=hr;rw[hd] at hr;unfold oneF at hr;dsimp only at hr;rw[←hd] at hr
 by_cases c1:qao ((s[k+n]'hlt).toNat:Int)=true
 · rw[if_pos c1] at hr
   simp only[Prod.mk.injEq] at hr
   obtain⟨rfl,rfl,rfl⟩:=hr
   refine next_name b s k n lv hk hm hn hlt c1 _ _ _ (Lib.hid fun w h=>take_name b s (k+n) _ lv zac hm rfl _ _ ?_ w h) w h;rw[qaP]
 rw[if_neg c1] at hr
 have c1':qao ((s[k+n]'hlt).toNat:Int)=false:=by simpa using c1
 by_cases c2:qai ((s[k+n]'hlt).toNat:Int)=true
 · rw[if_pos c2] at hr
   have hnum:∀ n2,spanN qai (s.data.toList.drop (k+n))=n2→n2=n1∧(if (1<n2∧(s[k+n]'hlt).toNat=48)∨headLetter (s.data.toList.drop (k+n+n2))=true then(tok0,3) else numF (s.extract (k+n) (k+n+n2)))=(r,e):=by
    intro n2 h2;rw[h2,List.drop_drop] at hr;rw[qaP]
    split at hr
    · next hc=>rw[if_pos hc];simp only[Prod.mk.injEq] at hr ⊢;exact⟨hr.2.1,hr.1,hr.2.2⟩
    · next hc=>rw[if_neg hc];simp only[Prod.mk.injEq] at hr;exact⟨hr.2.1,by rw[←hr.1,←hr.2.2]⟩
   obtain⟨h3,h4⟩:=hnum _ rfl
   rw[←h3];exact next_number b s k n lv hk hm hn hlt c1' c2 _ _ _ (Lib.hid fun w h=>take_number b s (k+n) _ lv hlt hm rfl _ _ h4 w h) w h
 rw[if_neg c2] at hr
 have c2':qai ((s[k+n]'hlt).toNat:Int)=false:=by simpa using c2
 by_cases c3:(s[k+n]'hlt).toNat=34
 · rw[if_pos c3] at hr
   simp only[Prod.mk.injEq] at hr
   obtain⟨rfl,rfl,rfl⟩:=hr
   exact next_text b s k n lv hk hm hn hlt c1' c2' zam _ _ _ (Lib.hid fun w h=>take_text b s (k+n) _ lv hlt hs _ _ rfl w h) w h
 · rw[if_neg c3] at hr
   exact next_sign b s k n lv hk hm hn hlt c1' c2' zam _ _ _ (Lib.hid fun w h=>take_sign b s (k+n) _ lv hlt zac _ _ hr w h) w h
def lexG (s:List UInt8):Nat→Nat→List (Tok × Nat)→List (Tok × Nat) × Int × Nat
 | 0,_,_=>([],0,0)
 | g+1,k,acc =>
  if s.length≤k+skipL false (s.drop k) then(acc++[(tok0,s.length)],0,0)
  else if (oneF (s.drop (k+skipL false (s.drop k)))).2.2≠0 then([],(oneF (s.drop (k+skipL false (s.drop k)))).2.2,k+skipL false (s.drop k))
  else if acc.length=1024 then([],5,k+skipL false (s.drop k))
  else lexG s g (k+skipL false (s.drop k)+(oneF (s.drop (k+skipL false (s.drop k)))).2.1) (acc++[((oneF (s.drop (k+skipL false (s.drop k)))).1,k+skipL false (s.drop k))])
def lexF (s:List UInt8):List (Tok × Nat) × Int × Nat:=if 4096<s.length then([],5,4096) else lexG s (s.length+1) 0 []
def qap (l:List (Tok × Nat)):List Value:=l.flatMap fun t=>[.int .i64 t.1.k,.int .i64 (t.2:Int),.string t.1.s,.int .i64 t.1.i]
theorem qeh (l m:List (Tok × Nat)):qap (l++m)=qap l++qap m:=by simp[qap]
theorem textG_bd (l acc:List UInt8):(textG l acc).2.2=0→1≤(textG l acc).2.1∧(textG l acc).2.1≤l.length:=by
 fun_induction textG l acc
 all_goals intro h
 all_goals first
  | (exfalso;exact absurd h zal)
  | (refine ⟨?_,?_⟩<;>simp only[List.length_cons]<;>omega)
  | (rename_i ih;have h2:=ih h;exact⟨Nat.succ_le_succ (Nat.zero_le _),Nat.succ_le_succ h2.2⟩)
  | (rename_i ih;have h2:=ih h;exact⟨Nat.succ_le_succ (Nat.zero_le _),Nat.succ_le_succ (Nat.succ_le_succ h2.2)⟩)
theorem signF_bd (l:List UInt8) (r:Tok) (n:Nat) (h:signF l=(r,n,0)):1≤n∧n≤l.length:=by
 unfold signF at h
 cases hf:twoL.find? (fun p=>Lib.hasPrefix l p.data.toList) with
 | some p =>
  rw[hf] at h;simp only[Prod.mk.injEq] at h
  obtain⟨_,rfl,_⟩:=h
  have h1:=List.find?_some hf;have h2:=List.mem_of_find?_eq_some hf
  have h3:p.data.toList.length=2:=by
   simp only[twoL,List.mem_cons,List.not_mem_nil,or_false] at h2;rcases h2 with rfl | rfl | rfl | rfl | rfl<;>rfl
  have h4:=(List.isPrefixOf_iff_prefix.1 h1).length_le
  omega
 | none =>
  rw[hf] at h
  cases l with
  | nil=>simp at h
  | cons c l =>
   dsimp only at h
   split at h
   · simp only[Prod.mk.injEq] at h
     obtain⟨_,rfl,_⟩:=h
     simp
   · simp at h
theorem oneF_bd (l:List UInt8) (r:Tok) (n:Nat) (hl:0<l.length) (h:oneF l=(r,n,0)):1≤n∧n≤l.length:=by
 cases l with
 | nil=>simp at hl
 | cons c l =>
  unfold oneF at h;dsimp only at h
  by_cases c1:qao (c.toNat:Int)=true
  · rw[if_pos c1] at h
    simp only[Prod.mk.injEq] at h
    obtain⟨_,rfl,_⟩:=h
    have hb:nameB (c.toNat:Int)=true:=by simp[nameB,c1]
    refine ⟨?_,spanN_le _ _⟩;rw[spanN,if_pos hb];omega
  rw[if_neg c1] at h
  by_cases c2:qai (c.toNat:Int)=true
  · rw[if_pos c2] at h
    have key:n=spanN qai (c::l):=by
     split at h<;>simp only[Prod.mk.injEq] at h<;>exact h.2.1.symm
    rw[key];refine ⟨?_,spanN_le _ _⟩;rw[spanN,if_pos c2];omega
  rw[if_neg c2] at h
  by_cases c3:c.toNat=34
  · rw[if_pos c3] at h
    simp only[Prod.mk.injEq] at h
    obtain⟨_,rfl,h3⟩:=h
    have:=textG_bd l [] h3
    simp only[List.length_cons]
    omega
  · rw[if_neg c3] at h
    exact signF_bd _ r n h
theorem ltV1 (h:a<n):(a<n+x)=True:=by simp;omega
theorem ltV2 (h:a<n):(a<n+x+y)=True:=by simp;omega
theorem ltV3 (h:a<n):(a<n+x+y+z)=True:=by simp;omega
theorem ltV4 {u:Nat} (h:a<n):(a<n+x+y+z+u)=True:=by simp;omega
theorem ltV5 {u v:Nat} (h:a<n):(a<n+x+y+z+u+v)=True:=by simp;omega
attribute [go_sem] ltV1 ltV2 ltV3 ltV4 ltV5
theorem tokInfo:(Tryz.prog.info? 186).map (fun i=>(i.zero,i.size,i.bytes))=some (some (.agg #[.int .i64 0,.int .i64 0,.string ⟨#[]⟩,.int .i64 0]),4,40):=by kernel_rfl
theorem tokens_big (s:ByteArray) (hs:4096<(s.size:Int)) (w:World) :
  Calls Tryz.prog 96 #[.string s] w fun e w'=>e=.returned (.tuple #[.slice none 0 0,.int .i64 5,.int .i64 4096])∧Ext w w':=by
 go_enter Tryz.func96,Tryz.ntmps96
 go_wp2
 go_ret3
 exact⟨rfl,zab⟩
def qdz (w:World) (r:List (Tok × Nat) × Int × Nat) (e:Ending) (w':World):Prop :=
 (r.2.1=0∧∃ g cap,e=.returned (.tuple #[.slice (some ⟨g,0,none⟩) r.1.length cap,.int .i64 0,.int .i64 0])∧w'.ownsRow w.heap.size 186 4 (.slice (some ⟨g,0,none⟩) r.1.length cap) r.1.length (qap r.1)∧Ext w w') ∨
 (r.2.1≠0∧e=.returned (.tuple #[.slice none 0 0,.int .i64 r.2.1,.int .i64 (r.2.2:Int)])∧Ext w w')
theorem qfE {w':World} {r:List (Tok × Nat) × Int × Nat} {v:Value} (h0:r.2.1=0) (hl:0<r.1.length) (hown:w'.ownsRow (w.heap.size+1) 186 4 v r.1.length (qap r.1)) (hx:Ext w w') :
  qdz w r (.returned (.tuple #[v,.int .i64 0,.int .i64 0])) w':=by
 obtain⟨g,cap,rfl,_,_⟩:=hown.form hl
 exact Or.inl ⟨h0,g,cap,rfl,hown.mono zac,hx⟩
theorem qbt (l:List (Tok × Nat)) (t:Tok) (k:Nat):qap (l++[(t,k)])=qap l++[.int .i64 t.k,.int .i64 (k:Int),.string t.s,.int .i64 t.i]:=by rw[qeh];rfl
theorem qbU {wr w1 w2:World} {v:Value} (hN:N=w.heap.size) (hb:Below N w wr) (hx:Ext (wr.setCell ⟨N,1,none⟩ v) w1) (hg:w1.grownBy w2 lv.ownBlock) (hl:∀ k,lv.ownBlock=some k→N<k):Ext w w2:=by
 subst hN
 have h1:Ext w wr:=Ext.of_below hb
 have h2:Ext w (wr.setCell ⟨w.heap.size,1,none⟩ v):=h1.setCell (Nat.le_refl _) v
 exact(h2.trans hx).grown hg (fun k hk=>Nat.le_of_lt (hl k hk))
theorem news_split {d1 d2:Nat} {os1 os2:Array Obj} {cs:Array Value} {t:TypeId} (hN:N=w.heap.size+os1.size) :
  ∀ j u,cs.toList[j]?=some u→(more ((more w d1 os1).alloc (.cells cs t)) d2 os2).cell? ((⟨N,0,none⟩:Addr).add j)=some u:=by
 intro j u h
 have hN':N=(more w d1 os1).heap.size:=by rw[more_size];exact hN
 subst hN';rw[Addr.add_lit,qdm _ _ _ _ _ zaj];simp only[World.cell?,heap_alloc_new]
 simpa using h
theorem lex_grown {s:ByteArray} {k:Nat} {w':World} {row:Option Nat} (h:LexAt b s k lv w) (hg:w.grownBy w' row) (hne:row≠some b):LexAt b s k lv w':=by
 obtain⟨h1,h2,h3,h4,h5⟩:=hg
 unfold LexAt;rw[h5 b h.lt (fun e=>hne e.symm)];exact h
theorem LexAt.setL {s:ByteArray} {k:Nat} (h:LexAt b s k lv w) (v:Value):LexAt b s k v (w.setCell ⟨b,2,none⟩ v):=by
 unfold LexAt at h ⊢
 simp[World.setCell,Array.getElem?_modify,h]
theorem qaq {cs:Array Value} {t:TypeId} (hN:N=w.heap.size):∀ j u,cs.toList[j]?=some u→(w.alloc (.cells cs t)).cell? ((⟨N,0,none⟩:Addr).add j)=some u:=by
 intro j u h;subst hN;rw[Addr.add_lit];simp only[World.cell?,heap_alloc_new]
 simpa using h
theorem tokens_x (s:ByteArray) (hs:(s.size:Int)≤4096) (res:List (Tok × Nat) × Int × Nat) (HR:RowKit.Hid (lexG s.data.toList (s.size+1) 0 []=res)) (w:World):Calls Tryz.prog 96 #[.string s] w (qdz w res):=by
 go_enter Tryz.func96,Tryz.ntmps96;go_wp2_with fail
 go_loopg [] (s.size+1) (fun g wr=>∃ (k:Nat) (acc:List (Tok × Nat)) (lv:Value),k≤s.size∧s.size+1≤k+g∧acc.length≤1024∧lexG s.data.toList g k acc=res∧LexAt w.heap.size s k lv wr∧wr.ownsRow (w.heap.size+1) 186 4 lv acc.length (qap acc)∧Below w.heap.size w wr)
 case atStart=>exact⟨0,[],.slice none 0 0,Nat.zero_le _,by omega,by simp,HR.out,(by unfold LexAt;exact heap_alloc_new _ _),World.ownsRow_nil _ _ _ _,(Below.refl _ _).alloc (Nat.le_refl _) _⟩
 case round =>
  obtain⟨k,acc,lv,hk,hkg,hac,hlex,hL,hown,hbl⟩:=hrel
  have hb:=hL.lt
  have hs':s.size≤maxLen:=by unfold maxLen;omega
  have hlen:s.data.toList.length=s.size:=by simp
  obtain⟨g,rfl⟩:∃ g,gk=g+1:=⟨gk-1,by omega⟩
  rw[lexG,hlen] at hlex
  obtain⟨i0,hi,hz0,hz1,hz2⟩:=info_parts tokInfo
  have HOWN:=Lib.hid hown;have HBL:=Lib.hid hbl;have HL:=Lib.hid hL
  by_cases hend:k+skipL false (s.data.toList.drop k)=s.size
  · rw[if_pos zac] at hlex
    have N:=Lib.hid (next_end w.heap.size s k _ lv hk hs' rfl hend wr hL);have HLEX:=Lib.hid hlex
    obtain⟨c0,c1,c2,f1,f2⟩:=hL.cells
    unfold tokV tok0 at N;rw[hend] at N;clear hL hown hbl hend hlex hlen
    go_wp2_with (first
     | (go_at_call 109;refine N.out.mono ?_;rintro e _ ⟨rfl,d,os,rfl⟩)
     | (at_builtin;refine wpList_append_own_at _ rfl _ _ 156 rfl (w.heap.size+1) 186 i0 (.agg #[.int .i64 0,.int .i64 0,.string ⟨#[]⟩,.int .i64 0]) 4 40 Tryz.underlying156 hi hz0 hz1 hz2 rfl zal lv acc.length (qap acc) rfl ?c0 ⟨wr.heap.size+os.size+1,0,none⟩ 1 1 [.int .i64 0,.int .i64 (s.size:Int),.string ⟨#[]⟩,.int .i64 0] rfl rfl ?c1 ?c2 ?c3 ?c4 ?c5 ?_))
    case c0=>exact((own_more (ownsRow_setCell_below HOWN.out zaj _) _ _).alloc _).alloc _
    case c1=>exact qaq zbg
    case c2=>intro u hu;simp at hu;rcases hu with rfl | rfl | rfl | rfl<;>rfl
    case c3=>unfold maxLen;omega
    case c4=>omega
    case c5=>simp[more_size];omega
    intro v' w1 hown' hgrow _ hblk
    go_wp2
    go_ret3;have hl:=HLEX.out;subst hl;refine qfE rfl zaj ?_ (qbU rfl HBL.out zab hgrow (fun k hk=>(HOWN.out.lt k hk).1));rw[qbt]
    simpa [tok0] using hown'
  · -- MORE
    have hle:=qbX false (s.data.toList.drop k)
    obtain⟨sk,hsk⟩:∃ sk,skipL false (s.data.toList.drop k)=sk:=⟨_,rfl⟩
    rw[hsk] at hlex hend hle
    have hlt:k+sk<s.size:=by simp at hle;omega
    obtain⟨r,n1,er,hr⟩:∃ r n1 er,oneF (s.data.toList.drop (k+sk))=(r,n1,er):=⟨_,_,_,rfl⟩
    rw[if_neg zac,hr] at hlex;dsimp only at hlex;have N:=Lib.hid (next_any w.heap.size s k sk lv hk zac hsk hlt n1 r er hr wr hL)
    obtain⟨m,hm⟩:∃ m,k+sk=m:=⟨_,rfl⟩
    rw[hm] at N hlex hlt hr
    obtain⟨c0,c1,c2,f1,f2⟩:=hL.cells
    by_cases her:er=0
    · subst her
      rw[if_neg zaj] at hlex
      by_cases hfull:acc.length=1024
      · rw[if_pos hfull] at hlex
        have HLEX:=Lib.hid hlex;have HF:=Lib.hid hfull;rw[hfull] at hown
        rcases Go.Joins.ownsRow_forms hown with ⟨rfl,h0⟩ | ⟨g1,cap,rfl⟩
        · omega
        clear hL hown hbl hlex hlen hm hr hsk hfull HOWN
        go_wp2_with (go_at_call 109;refine N.out.mono ?_;rintro e _ ⟨rfl,k2,hk2,d,os,rfl⟩;have HK2:=Lib.hid hk2;clear hk2)
        refine qaa 5 58 (List.replicate 5 false) zaf zaf rfl ?_;refine yac ?_
        repeat(refine Lex.step rfl ?_;intro K hK;unfold StepG;go_simp;(first
          | refine hK _ ?_);clear hK K)
        refine yaa ?_;intro dd oo;go_wp2_with fail;rw[ends_normal];go_wp2_with fail;go_ret3;have hl:=HLEX.out;subst hl;exact Or.inr ⟨by simp,rfl,qbU rfl HBL.out zab (lv:=.slice none 0 0) (grown_refl _ _) (by intro k hk;simp[Value.ownBlock] at hk)⟩
      · rw[if_neg hfull] at hlex
        have HLEX:=Lib.hid hlex
        have hF:((acc.length:Int)==1024)=false:=by simp;omega
        have hbd:=oneF_bd _ r n1 zam hr
        have HBD:RowKit.Hid (1≤n1∧m+n1≤s.size∧s.size+1≤k+g+1∧k≤m∧acc.length+1≤1024):=Lib.hid ⟨hbd.1,by have:=hbd.2;simp at this;omega,by omega,by omega,by omega⟩
        obtain⟨len,cap,p,rfl,hlen2⟩:∃ len cap p,lv=.slice p len cap∧len=acc.length:=by
         rcases Go.Joins.ownsRow_forms hown with ⟨rfl,h0⟩ | ⟨g1,cap,rfl⟩
         · exact⟨_,_,_,rfl,h0.symm⟩
         · exact⟨_,_,_,rfl,rfl⟩
        subst hlen2;clear hL hown hbl hlex hlen hm hr hsk hfull hbd
        go_wp2_with (go_at_call 109;refine N.out.mono ?_;rintro e _ ⟨rfl,k2,hk2,d,os,rfl⟩;have HK2:=Lib.hid hk2;clear hk2)
        refine qaa 7 58 [true,false,false,false,false,false,false] zaf zaf rfl ?_;refine yac ?_;refine Lex.stepP rfl rfl ?_;intro K hK;go_simp;refine hK _ ?_;clear hK K
        iterate 5 (refine Lex.step rfl ?_;intro K hK;unfold StepG;go_simp;refine hK _ ?_;clear hK K)
        refine Lex.sliceLit 54 (.cells #[.int .i64 r.k,.int .i64 (m:Int),.string r.s,.int .i64 r.i] 186) 1 1 rfl rfl (fun d os=>?_) ?_
        · unfold StepG
          go_simp
          exact⟨(Ext.refl _).alloc _,NewSl.of_alloc _ _ _ _ _ _ _ zbg⟩
        refine Lex.nil fun WW hE=>?_
        intro u hu
        obtain⟨d1,os1,d2,os2,rfl,rfl⟩:=hu.split hE
        clear hu hE;go_simp;unfold FillH
        go_wp2_with (at_builtin;refine wpList_append_own_at _ rfl _ _ 156 rfl (w.heap.size+1) 186 i0 (.agg #[.int .i64 0,.int .i64 0,.string ⟨#[]⟩,.int .i64 0]) 4 40 Tryz.underlying156 hi hz0 hz1 hz2 rfl zal (.slice p acc.length cap) acc.length (qap acc) rfl ?c0 ⟨_,0,none⟩ 1 1 [.int .i64 r.k,.int .i64 (m:Int),.string r.s,.int .i64 r.i] rfl rfl ?c1 ?c2 ?c3 ?c4 ?c5 ?_)
        case c0=>repeat(first | (with_reducible exact ownsRow_setCell_below HOWN.out zaj _) | (with_reducible apply own_more) | (with_reducible refine World.ownsRow.alloc ?_ _))
        case c1=>exact news_split zbg
        case c2=>intro u hu;simp at hu;rcases hu with rfl | rfl | rfl | rfl<;>rfl
        case c3=>have:=HBD.out;unfold maxLen;omega
        case c4=>have:=HBD.out;omega
        case c5=>simp[more_size];omega
        intro v' w1 hown' hgrow _ hblk;have k2e:=HK2.out trivial;subst k2e
        have HL1:LexAt w.heap.size s (m+n1) (.slice p acc.length cap) w1:=by
         refine lex_grown ?_ hgrow (fun e=>Nat.lt_irrefl _ ((HOWN.out.lt _ e).1))
         repeat(first | (with_reducible apply LexAt.more) | (with_reducible apply LexAt.alloc) | (with_reducible exact LexAt.set HL.out _ _ rfl))
        obtain⟨c0,c1,c2,f1,f2⟩:=HL1.cells
        have hb1:=HL1.lt
        have hx:Ext w w1:=qbU rfl HBL.out zab hgrow (fun k hk=>(HOWN.out.lt k hk).1)
        obtain⟨g1,cap1,rfl,_,_⟩:=hown'.form zac
        have HOWN1:=Lib.hid hown';have HX:=Lib.hid hx;have HLL:=Lib.hid HL1;clear hown' hgrow hblk HL1 hx HL HOWN HBL N;go_wp2_with fail
        first | rw[ends_normal] | skip
        go_wp2_with fail
        go_roundg g
        case measure=>omega
        case rel =>
         have hq:=HBD.out;refine ⟨m+n1,acc++[(r,m)],_,by omega,by omega,by simp;omega,HLEX.out,HLL.out.setL _,?_,(HX.out.setCell (Nat.le_refl _) _).below⟩;rw[qbt]
         have:=ownsRow_setCell_below HOWN1.out (a:=⟨w.heap.size,2,none⟩) zaj (.slice (some ⟨g1,0,none⟩) (acc.length+1) cap1)
         simpa using this
    · rw[if_pos her] at hlex
      have HLEX:=Lib.hid hlex
      have he1:(er==0)=false:=by simpa using her
      have he2:(er !=0)=true:=by simpa using her
      have HE:=Lib.hid her;clear hL hown hbl hlex hlen hm hr hsk her
      go_wp2_with (go_at_call 109;refine N.out.mono ?_;rintro e _ ⟨rfl,k2,hk2,d,os,rfl⟩;have HK2:=Lib.hid hk2;clear hk2)
      refine qaa 6 58 (List.replicate 6 false) zaf zaf rfl ?_;refine yac ?_
      repeat(refine Lex.step rfl ?_;intro K hK;unfold StepG;go_simp;(first
        | refine hK _ ?_);clear hK K)
      refine yaa ?_;intro dd oo;go_wp2_with fail;rw[ends_normal];go_wp2_with fail;go_ret3;have hl:=HLEX.out;subst hl;exact Or.inr ⟨HE.out,rfl,qbU rfl HBL.out zab (lv:=.slice none 0 0) (grown_refl _ _) (by intro k hk;simp[Value.ownBlock] at hk)⟩
theorem qfu (s:ByteArray) (res:List (Tok × Nat) × Int × Nat) (hr:lexF s.data.toList=res) (w:World):Calls Tryz.prog 96 #[.string s] w (qdz w res):=by
 have hl:s.data.toList.length=s.size:=by simp
 unfold lexF at hr
 by_cases h:4096<s.data.toList.length
 · rw[if_pos h] at hr
   subst hr
   exact(tokens_big s zac w).mono fun e w' ⟨h1,h2⟩=>Or.inr ⟨by simp,h1,h2⟩
 · rw[if_neg h,hl] at hr
   exact tokens_x s zac res (Lib.hid hr) w
def quo1 (c:UInt8):List UInt8:=if c.toNat=10 then [92,110] else if c.toNat=34∨c.toNat=92 then [92,c] else [c]
def okQ (c:UInt8):Bool:=decide (c.toNat=10∨(32≤c.toNat∧c.toNat≤126))
def qbM (s:List UInt8):List UInt8 × Int:=if 64<s.length then([],5) else if s.all okQ=true then(34::s.flatMap quo1++[34],0) else([],3)
theorem textG_cons (c:UInt8) (l acc:List UInt8):textG (c::l) acc =
  if c.toNat=34 then(if 64<acc.length then(tok0,0,5) else(⟨3,⟨acc.toArray⟩,0⟩,1,0))
  else if c.toNat<32∨126<c.toNat then(tok0,0,3)
  else if c.toNat≠92 then(let r:=textG l (acc++[c]);(r.1,r.2.1+1,r.2.2))
  else match l with
   | []=>(tok0,0,2)
   | d::l'=>if escZ (d.toNat:Int)=0 then(tok0,0,3) else(let r:=textG l' (acc++[UInt8.ofNat (escZ (d.toNat:Int)).toNat]);(r.1,r.2.1+2,r.2.2)):=by
 cases l<;>rw[textG.eq_def]
theorem quo1_len (s:List UInt8):(s.flatMap quo1).length≤2*s.length:=by
 induction s with
 | nil=>simp
 | cons c s ih =>
  have:(quo1 c).length≤2:=by unfold quo1;(repeat' split)<;>simp
  simp only[List.flatMap_cons,List.length_append,List.length_cons]
  omega
theorem qem {B:Nat} {acc:List UInt8} {l:List Value} {m:List UInt8} (h:Bld B b (qag acc++l) w) (hl:l=qag m):Bld B b (qag (acc++m)) w:=by
 rw[qbS,←hl];exact h
theorem qbE (L:List UInt8) (k:Nat) (u:UInt8) (hu:L[k]?=some u):(L.take (k+1)).flatMap quo1=(L.take k).flatMap quo1++quo1 u:=by
 rw[List.take_add_one,hu];simp[List.flatMap_append]
theorem ok_step (L:List UInt8) (k:Nat) (u:UInt8) (hu:L[k]?=some u) (h:(L.take k).all okQ=true):(L.take (k+1)).all okQ=okQ u:=by
 rw[List.take_add_one,hu,List.all_append,h];simp
theorem ok_bad (L:List UInt8) (k:Nat) (u:UInt8) (hu:L[k]?=some u) (h:okQ u=false):L.all okQ=false:=by
 have hk:=(List.getElem?_eq_some_iff.1 hu)
 rw[List.all_eq_false]
 exact⟨u,List.mem_of_getElem? hu,by simp[h]⟩
theorem ok_done (L:List UInt8) (k:Nat) (hk:L.length≤k) (h:(L.take k).all okQ=true):L.all okQ=true:=by rwa [List.take_of_length_le hk] at h
theorem quote_any (s:ByteArray) (q:List UInt8) (er:Int) (hr:qbM s.data.toList=(q,er)) (w:World) :
  Calls Tryz.prog 229 #[.string s] w fun e w'=>e=.returned (.tuple #[.string ⟨q.toArray⟩,.int .i64 er])∧Ext w w':=by
 have hl:s.data.toList.length=s.size:=by simp
 unfold qbM at hr
 by_cases h64:64<s.data.toList.length
 · rw[if_pos h64] at hr
   simp only[Prod.mk.injEq] at hr
   obtain⟨rfl,rfl⟩:=hr
   have h64':(64:Int)<s.size:=by omega
   clear h64 hl;go_enter Tryz.func229,Tryz.ntmps229;go_wp2_with fail;go_ret2
   exact⟨rfl,zab⟩
 rw[if_neg h64] at hr
 have h64':(s.size:Int)≤64:=by omega
 clear h64 hl;go_enter Tryz.func229,Tryz.ntmps229;go_wp2_with fail;refine (qas w.heap.size w.heap.size (qag []) 34 _ (Lib.fresh_isBuilder 236 5 w) (by simp[qag]) zaj).mono ?_;rintro e w1 ⟨rfl,hB1,hbl1⟩;have HB1:=Lib.hid hB1;have HBL1:=Lib.hid (((Below.refl _ _).alloc (Nat.le_refl _) _).trans hbl1);clear hB1 hbl1;go_wp2_with fail;go_loopw [13] (fun ii wr=>∃ (k:Nat) (acc:List UInt8),ii=.int .i64 (k:Int)∧k≤s.size∧(s.data.toList.take k).all okQ=true∧acc=34::(s.data.toList.take k).flatMap quo1∧Bld w.heap.size w.heap.size (qag acc) wr∧Below w.heap.size w wr) (fun ii _=>s.size-(intOf ii).toNat)
 case atStart=>exact⟨0,[34],rfl,Nat.zero_le _,rfl,rfl,HB1.out,HBL1.out⟩
 case round =>
  obtain⟨k,acc,rfl,hk,hok,hacc,hg,hbl⟩:=hrel
  have hal:acc.length≤200:=by
   have:=quo1_len (s.data.toList.take k)
   rw[hacc];simp at this ⊢;omega
  have HAL:=Lib.hid hal;have HBL:=Lib.hid hbl;have HB:=Lib.hid hg;clear hal hbl HB1 HBL1;have HK:=Lib.hid hok;have HAC:=Lib.hid hacc;have HGX:=Lib.hid hg;clear hok hacc hg
  by_cases hlt:k<s.size
  · have hu:s.data.toList[k]?=some (s[k]'hlt):=by rw[List.getElem?_eq_getElem (by simpa using hlt)];rfl
    have h256:=(s[k]'hlt).toNat_lt;have HU:=Lib.hid hu;clear hu
    by_cases c1:(s[k]'hlt).toNat=10
    · have e1:((s[k]'hlt).toNat:Int)=10:=by first | omega | (simp;omega)
      have hq1:quo1 (s[k]'hlt)=[92,110]:=by rw[quo1,if_pos c1]
      have hst:=qbE _ k _ HU.out;rw[hq1] at hst;have HST:=Lib.hid hst;have HOK:=Lib.hid (by rw[ok_step _ k _ HU.out HK.out];simp[okQ];omega:(s.data.toList.take (k+1)).all okQ=true);clear hq1 hst;go_wp2_with fail;refine (qeE w.heap.size w.heap.size (qag acc) ⟨#[92,110]⟩ _ HB.out (by rw[cellsB_length];have:=HAL.out;have e:(⟨#[92,110]⟩:ByteArray).size=2:=rfl;omega) (by have:=HBL.out.size;omega)).mono ?_;rintro e w2 ⟨rfl,hB2,hbl2⟩;have HB2:=Lib.hid hB2;have HBL2:=Lib.hid (HBL.out.trans hbl2);clear hB2 hbl2;go_wp2_with fail;go_roundw
      case rel =>
       refine ⟨k+1,_,by go_num,by omega,HOK.out,?_,qem HB2.out (m:=[92,110]) (by rfl),HBL2.out⟩;rw[HST.out,HAC.out];simp
      case measure=>simp[intOf];omega
    by_cases c2:(s[k]'hlt).toNat<32
    · have e1:(((s[k]'hlt).toNat:Int)==10)=false:=by first | omega | (simp;omega)
      have e2:(((s[k]'hlt).toNat:Int)<32)=True:=by first | omega | (simp;omega)
      have hbad:=Lib.hid (ok_bad _ k _ HU.out (by simp[okQ];omega));go_wp2_with fail;go_ret2;rw[hbad.out] at hr;simp only[Bool.false_eq_true,if_false,Prod.mk.injEq] at hr
      obtain⟨rfl,rfl⟩:=hr
      exact⟨rfl,Ext.of_below HBL.out⟩
    by_cases c3:126<(s[k]'hlt).toNat
    · have e1:(((s[k]'hlt).toNat:Int)==10)=false:=by first | omega | (simp;omega)
      have e2:(((s[k]'hlt).toNat:Int)<32)=False:=by first | omega | (simp;omega)
      have e3:(126<((s[k]'hlt).toNat:Int))=True:=by first | omega | (simp;omega)
      have hbad:=Lib.hid (ok_bad _ k _ HU.out (by simp[okQ];omega));go_wp2_with fail;go_ret2;rw[hbad.out] at hr;simp only[Bool.false_eq_true,if_false,Prod.mk.injEq] at hr
      obtain⟨rfl,rfl⟩:=hr
      exact⟨rfl,Ext.of_below HBL.out⟩
    by_cases c4:(s[k]'hlt).toNat=34
    · have e1:((s[k]'hlt).toNat:Int)=34:=by first | omega | (simp;omega)
      have hq1:quo1 (s[k]'hlt)=[92,s[k]'hlt]:=by rw[quo1,if_neg c1,if_pos (Or.inl c4)]
      have hst:=qbE _ k _ HU.out;rw[hq1] at hst;have HST:=Lib.hid hst;have HOK:=Lib.hid (by rw[ok_step _ k _ HU.out HK.out];simp[okQ];omega:(s.data.toList.take (k+1)).all okQ=true);clear hq1 hst;go_wp2_with fail;refine (qas w.heap.size w.heap.size (qag acc) _ _ HB.out zbb (by have:=HBL.out.size;omega)).mono ?_;rintro e w2 ⟨rfl,hB2,hbl2⟩;have HB2:=Lib.hid hB2;have HBL2:=Lib.hid (HBL.out.trans hbl2);clear hB2 hbl2;go_wp2_with fail;refine (qas w.heap.size w.heap.size (qag acc++[.int .u8 92]) 34 _ HB2.out zbb (by have:=HBL2.out.size;omega)).mono ?_;rintro e w3 ⟨rfl,hB3,hbl3⟩;have HB3:=Lib.hid hB3;have HBL3:=Lib.hid (HBL2.out.trans hbl3)
      clear hB3 hbl3;go_wp2_with fail;go_roundw
      case rel =>
       refine ⟨k+1,_,by go_num,by omega,HOK.out,?_,qem (l:=[.int .u8 92,.int .u8 34]) (by simpa using HB3.out) (m:=[92,s[k]'hlt]) (by simp[qag,c4]),HBL3.out⟩;rw[HST.out,HAC.out];simp
      case measure=>simp[intOf];omega
    by_cases c5:(s[k]'hlt).toNat=92
    · have e1:((s[k]'hlt).toNat:Int)=92:=by first | omega | (simp;omega)
      have hq1:quo1 (s[k]'hlt)=[92,s[k]'hlt]:=by rw[quo1,if_neg c1,if_pos (Or.inr c5)]
      have hst:=qbE _ k _ HU.out;rw[hq1] at hst;have HST:=Lib.hid hst;have HOK:=Lib.hid (by rw[ok_step _ k _ HU.out HK.out];simp[okQ];omega:(s.data.toList.take (k+1)).all okQ=true);clear hq1 hst;go_wp2_with fail;refine (qas w.heap.size w.heap.size (qag acc) _ _ HB.out zbb (by have:=HBL.out.size;omega)).mono ?_;rintro e w2 ⟨rfl,hB2,hbl2⟩;have HB2:=Lib.hid hB2;have HBL2:=Lib.hid (HBL.out.trans hbl2);clear hB2 hbl2;go_wp2_with fail;refine (qas w.heap.size w.heap.size (qag acc++[.int .u8 92]) 92 _ HB2.out zbb (by have:=HBL2.out.size;omega)).mono ?_;rintro e w3 ⟨rfl,hB3,hbl3⟩;have HB3:=Lib.hid hB3;have HBL3:=Lib.hid (HBL2.out.trans hbl3)
      clear hB3 hbl3;go_wp2_with fail;go_roundw
      case rel =>
       refine ⟨k+1,_,by go_num,by omega,HOK.out,?_,qem (l:=[.int .u8 92,.int .u8 92]) (by simpa using HB3.out) (m:=[92,s[k]'hlt]) (by simp[qag,c5]),HBL3.out⟩;rw[HST.out,HAC.out];simp
      case measure=>simp[intOf];omega
    · have e1:(((s[k]'hlt).toNat:Int)==10)=false:=by first | omega | (simp;omega)
      have e2:(((s[k]'hlt).toNat:Int)<32)=False:=by first | omega | (simp;omega)
      have e3:(126<((s[k]'hlt).toNat:Int))=False:=by first | omega | (simp;omega)
      have e4:(((s[k]'hlt).toNat:Int)==34)=false:=by first | omega | (simp;omega)
      have e5:(((s[k]'hlt).toNat:Int)==92)=false:=by first | omega | (simp;omega)
      have hq1:quo1 (s[k]'hlt)=[s[k]'hlt]:=by rw[quo1,if_neg c1,if_neg zac]
      have hst:=qbE _ k _ HU.out;rw[hq1] at hst;have HST:=Lib.hid hst;have HOK:=Lib.hid (by rw[ok_step _ k _ HU.out HK.out];simp[okQ];omega:(s.data.toList.take (k+1)).all okQ=true);clear hq1 hst;go_wp2_with fail;refine (qas w.heap.size w.heap.size (qag acc) _ _ HB.out zbb (by have:=HBL.out.size;omega)).mono ?_;rintro e w2 ⟨rfl,hB2,hbl2⟩;have HB2:=Lib.hid hB2;have HBL2:=Lib.hid (HBL.out.trans hbl2);clear hB2 hbl2;go_wp2_with fail;go_roundw
      case rel =>
       refine ⟨k+1,_,by go_num,by omega,HOK.out,?_,qem HB2.out (m:=[s[k]'hlt]) (by rfl),HBL2.out⟩;rw[HST.out,HAC.out];simp
      case measure=>simp[intOf];omega
  · have hks:k=s.size:=by omega
    have hd:=ok_done s.data.toList k zam HK.out;rw[if_pos hd] at hr;simp only[Prod.mk.injEq] at hr
    obtain⟨rfl,rfl⟩:=hr
    have he:acc=34::s.data.toList.flatMap quo1:=by have:=HAC.out;rwa [List.take_of_length_le zam] at this
    have HE:=Lib.hid he;subst hks;clear hd he;go_wp2_with fail;refine (qas w.heap.size w.heap.size (qag acc) _ _ HB.out zbb (by have:=HBL.out.size;omega)).mono ?_;rintro e w2 ⟨rfl,hB2,hbl2⟩
    have hB3:Bld w.heap.size w.heap.size (qag (acc++[34])) w2:=qem hB2 rfl
    have HB2:=Lib.hid hB3;have HBL2:=Lib.hid (HBL.out.trans hbl2);clear hB2 hbl2 hB3;go_wp2_with fail;refine (Tryz.Builder_String_any w.heap.size w.heap.size (acc++[34]) _ HB2.out (by have:=HBL2.out.size;omega)).mono ?_;rintro e w3 ⟨rfl,hbl3⟩;have HBL3:=Lib.hid (HBL2.out.trans hbl3);clear hbl3;go_wp2_with fail;go_ret2;rw[HE.out]
    exact⟨rfl,Ext.of_below HBL3.out⟩
theorem u8_eq {u n:UInt8} (h:u.toNat=n.toNat):(u==n)=true:=by rw[beq_iff_eq];exact UInt8.toNat_inj.1 h
theorem u8_ne {u n:UInt8} (h:u.toNat≠n.toNat):(u==n)=false:=by rw[beq_eq_false_iff_ne];exact fun e=>h (by rw[e])
theorem one_byte (s:ByteArray) (k:Nat) (h:k<s.size):s.extract k (k+1)=⟨#[s[k]'h]⟩:=by
 apply ByteArray.ext
 apply Array.ext'
 have hd:s.data.toList.drop k=s[k]'h::s.data.toList.drop (k+1):=List.drop_eq_getElem_cons zbn
 simp[List.extract_eq_take_drop,hd]
theorem ba_app (a b:List UInt8):(⟨a.toArray⟩:ByteArray)++⟨b.toArray⟩=⟨(a++b).toArray⟩:=by
 apply ByteArray.ext
 simp
attribute [go_sem] more_more Array.size_append
open Go.Maps (Keyed string_keyed IsMap)
def closeTab:List (List UInt8 × Int):=[([111,114],0),([97,110,100],1),([61,61],2),([33,61],2),([60],2),([60,61],2),([62],2),([62,61],2),([46,46],3),([43],4),([45],4),([42],5),([47],5),([37],5)]
def qcf (l:List UInt8):Option Int:=(closeTab.find? fun p=>p.1==l).map fun p=>p.2
def closeD:DataW Unit:=closeTab.foldl (fun D p=>D.put (.string p.1) (.lit (.int .i64 p.2))) (.map [])
theorem lawSM:Keyed Tryz.prog 9:=string_keyed Tryz.underlying9
theorem zeroIM (w:World):(zeroValue 3).run Tryz.prog w=.ok (.int .i64 0) w:=by kernel_rfl
theorem close_mem (l:List UInt8):(l=[111,114]∨l=[97,110,100]∨l=[61,61]∨l=[33,61]∨l=[60]∨l=[60,61]∨l=[62]∨l=[62,61]∨l=[46,46]∨l=[43]∨l=[45]∨l=[42]∨l=[47]∨l=[37])∨(([111,114]==l)=false∧([97,110,100]==l)=false∧([61,61]==l)=false∧([33,61]==l)=false∧([60]==l)=false∧([60,61]==l)=false∧([62]==l)=false∧([62,61]==l)=false∧([46,46]==l)=false∧([43]==l)=false∧([45]==l)=false∧([42]==l)=false∧([47]==l)=false∧([37]==l)=false):=by
 by_cases h:l=[111,114]∨l=[97,110,100]∨l=[61,61]∨l=[33,61]∨l=[60]∨l=[60,61]∨l=[62]∨l=[62,61]∨l=[46,46]∨l=[43]∨l=[45]∨l=[42]∨l=[47]∨l=[37]
 · exact Or.inl h
 · right
   have k:∀ x:List UInt8,l≠x→(x==l)=false:=fun x hx=>by simpa using fun e=>hx e.symm
   simp only[not_or] at h
   obtain⟨a0,a1,a2,a3,a4,a5,a6,a7,a8,a9,a10,a11,a12,a13⟩:=h
   exact⟨k _ a0,k _ a1,k _ a2,k _ a3,k _ a4,k _ a5,k _ a6,k _ a7,k _ a8,k _ a9,k _ a10,k _ a11,k _ a12,k _ a13⟩
def closeKeys:Bool:=match closeD with
 | .map es=>es.all fun p=>match p.1 with
  | .string a=>closeTab.any fun q=>q.1==a
  | _=>false
 | _=>false
theorem closeKeys_ok:closeKeys=true:=by kernel_rfl
theorem close_key (l:List UInt8):Maps.has closeD (.string l)=(qcf l).isSome∧closeD.atKey (.string l) (.lit (.int .i64 0))=.lit (.int .i64 ((qcf l).getD 0)):=by
 rcases close_mem l with h | h
 · rcases h with rfl | rfl | rfl | rfl | rfl | rfl | rfl | rfl | rfl | rfl | rfl | rfl | rfl | rfl<;>exact⟨by kernel_rfl,by kernel_rfl⟩
 obtain⟨a0,a1,a2,a3,a4,a5,a6,a7,a8,a9,a10,a11,a12,a13⟩:=h
 have hn:qcf l=none:=by
  unfold qcf closeTab;simp only[List.find?_cons,List.find?_nil,a0,a1,a2,a3,a4,a5,a6,a7,a8,a9,a10,a11,a12,a13]
  rfl
 rw[hn]
 have hno:∀ a:List UInt8,(closeTab.any fun q=>q.1==a)=true→(a==l)=false:=by
  intro a ha;simp only[closeTab,List.any_cons,List.any_nil,Bool.or_false,Bool.or_eq_true,beq_iff_eq] at ha;rcases ha with rfl | rfl | rfl | rfl | rfl | rfl | rfl | rfl | rfl | rfl | rfl | rfl | rfl | rfl
  all_goals assumption
 have hk:=closeKeys_ok;unfold closeKeys at hk
 cases hD:closeD with
 | map es =>
  rw[hD] at hk
  have hf:∀ p∈es,p.1.sameKey (.string l)=false:=by
   intro p hp;have h1:=List.all_eq_true.1 hk p hp
   rcases p with ⟨k,d⟩
   cases k with
   | string a=>exact hno a h1
   | _=>cases h1
  refine ⟨?_,?_⟩
  · rw[Maps.has_eq]
    rw[List.any_eq_false.2 (fun p hp=>by rw[hf p hp];simp)];rfl
  · unfold DataW.atKey
    dsimp only;rw[List.find?_eq_none.2 (fun p hp=>by rw[hf p hp];simp)];rfl
 | _=>rw[hD] at hk;cases hk
theorem qgb (w:World):Calls Tryz.prog 230 #[] w fun e w'=>∃ B,e=.returned (.map (some B))∧w'.ownsMap Tryz.prog 9 (plainElem Tryz.prog 3) B 14 closeD∧Ext w w':=by
 have hmm:=@run_makeMap Tryz.prog;have HO0:=World.ownsMap_made w Tryz.prog 9 (plainElem (H:=Unit) Tryz.prog 3)
 have HX0:Ext w (w.alloc (.map #[] 0)):=(Ext.refl w).alloc _
 obtain⟨w1,hr1,HO1,hg1⟩:=HO0.update lawSM Tryz.underlying283 zbk (key:=.string ⟨#[111,114]⟩) (val:=.int .i64 0) (WideMaps.keyOf_string_mk Tryz.underlying9 zal) (plainElem_int Tryz.underlying3 zal)
 have HX1:Ext w w1:=HX0.grown hg1 (fun k hk=>by simp at hk;omega)
 obtain⟨w2,hr2,HO2,hg2⟩:=HO1.update lawSM Tryz.underlying283 zbk (key:=.string ⟨#[97,110,100]⟩) (val:=.int .i64 1) (WideMaps.keyOf_string_mk Tryz.underlying9 zal) (plainElem_int Tryz.underlying3 zal)
 have HX2:Ext w w2:=HX1.grown hg2 (fun k hk=>by simp at hk;omega)
 obtain⟨w3,hr3,HO3,hg3⟩:=HO2.update lawSM Tryz.underlying283 zbk (key:=.string ⟨#[61,61]⟩) (val:=.int .i64 2) (WideMaps.keyOf_string_mk Tryz.underlying9 zal) (plainElem_int Tryz.underlying3 zal)
 have HX3:Ext w w3:=HX2.grown hg3 (fun k hk=>by simp at hk;omega)
 obtain⟨w4,hr4,HO4,hg4⟩:=HO3.update lawSM Tryz.underlying283 zbk (key:=.string ⟨#[33,61]⟩) (val:=.int .i64 2) (WideMaps.keyOf_string_mk Tryz.underlying9 zal) (plainElem_int Tryz.underlying3 zal)
 have HX4:Ext w w4:=HX3.grown hg4 (fun k hk=>by simp at hk;omega)
 obtain⟨w5,hr5,HO5,hg5⟩:=HO4.update lawSM Tryz.underlying283 zbk (key:=.string ⟨#[60]⟩) (val:=.int .i64 2) (WideMaps.keyOf_string_mk Tryz.underlying9 zal) (plainElem_int Tryz.underlying3 zal)
 have HX5:Ext w w5:=HX4.grown hg5 (fun k hk=>by simp at hk;omega)
 obtain⟨w6,hr6,HO6,hg6⟩:=HO5.update lawSM Tryz.underlying283 zbk (key:=.string ⟨#[60,61]⟩) (val:=.int .i64 2) (WideMaps.keyOf_string_mk Tryz.underlying9 zal) (plainElem_int Tryz.underlying3 zal)
 have HX6:Ext w w6:=HX5.grown hg6 (fun k hk=>by simp at hk;omega)
 obtain⟨w7,hr7,HO7,hg7⟩:=HO6.update lawSM Tryz.underlying283 zbk (key:=.string ⟨#[62]⟩) (val:=.int .i64 2) (WideMaps.keyOf_string_mk Tryz.underlying9 zal) (plainElem_int Tryz.underlying3 zal)
 have HX7:Ext w w7:=HX6.grown hg7 (fun k hk=>by simp at hk;omega)
 obtain⟨w8,hr8,HO8,hg8⟩:=HO7.update lawSM Tryz.underlying283 zbk (key:=.string ⟨#[62,61]⟩) (val:=.int .i64 2) (WideMaps.keyOf_string_mk Tryz.underlying9 zal) (plainElem_int Tryz.underlying3 zal)
 have HX8:Ext w w8:=HX7.grown hg8 (fun k hk=>by simp at hk;omega)
 obtain⟨w9,hr9,HO9,hg9⟩:=HO8.update lawSM Tryz.underlying283 zbk (key:=.string ⟨#[46,46]⟩) (val:=.int .i64 3) (WideMaps.keyOf_string_mk Tryz.underlying9 zal) (plainElem_int Tryz.underlying3 zal)
 have HX9:Ext w w9:=HX8.grown hg9 (fun k hk=>by simp at hk;omega)
 obtain⟨w10,hr10,HO10,hg10⟩:=HO9.update lawSM Tryz.underlying283 zbk (key:=.string ⟨#[43]⟩) (val:=.int .i64 4) (WideMaps.keyOf_string_mk Tryz.underlying9 zal) (plainElem_int Tryz.underlying3 zal)
 have HX10:Ext w w10:=HX9.grown hg10 (fun k hk=>by simp at hk;omega)
 obtain⟨w11,hr11,HO11,hg11⟩:=HO10.update lawSM Tryz.underlying283 zbk (key:=.string ⟨#[45]⟩) (val:=.int .i64 4) (WideMaps.keyOf_string_mk Tryz.underlying9 zal) (plainElem_int Tryz.underlying3 zal)
 have HX11:Ext w w11:=HX10.grown hg11 (fun k hk=>by simp at hk;omega)
 obtain⟨w12,hr12,HO12,hg12⟩:=HO11.update lawSM Tryz.underlying283 zbk (key:=.string ⟨#[42]⟩) (val:=.int .i64 5) (WideMaps.keyOf_string_mk Tryz.underlying9 zal) (plainElem_int Tryz.underlying3 zal)
 have HX12:Ext w w12:=HX11.grown hg12 (fun k hk=>by simp at hk;omega)
 obtain⟨w13,hr13,HO13,hg13⟩:=HO12.update lawSM Tryz.underlying283 zbk (key:=.string ⟨#[47]⟩) (val:=.int .i64 5) (WideMaps.keyOf_string_mk Tryz.underlying9 zal) (plainElem_int Tryz.underlying3 zal)
 have HX13:Ext w w13:=HX12.grown hg13 (fun k hk=>by simp at hk;omega)
 obtain⟨w14,hr14,HO14,hg14⟩:=HO13.update lawSM Tryz.underlying283 zbk (key:=.string ⟨#[37]⟩) (val:=.int .i64 5) (WideMaps.keyOf_string_mk Tryz.underlying9 zal) (plainElem_int Tryz.underlying3 zal)
 have HX14:Ext w w14:=HX13.grown hg14 (fun k hk=>by simp at hk;omega)
 clear HO0 HO1 HO2 HO3 HO4 HO5 HO6 HO7 HO8 HO9 HO10 HO11 HO12 HO13 HX0 HX1 HX2 HX3 HX4 HX5 HX6 HX7 HX8 HX9 HX10 HX11 HX12 HX13 hg1 hg2 hg3 hg4 hg5 hg6 hg7 hg8 hg9 hg10 hg11 hg12 hg13 hg14;have H1:=Lib.hid HO14;have H2:=Lib.hid HX14;clear HO14 HX14;go_enter Tryz.func230,Tryz.ntmps230;go_wp2_with fail;go_ret
 exact⟨_,rfl,H1.out,H2.out⟩
def qbd (k:Int) (s:ByteArray):Int:=if k<0∨11<k then -1 else if k<11 then 6 else(qcf s.data.toList).getD (-1)
theorem look_close {B:Nat} (h:w.ownsMap Tryz.prog 9 (plainElem (H:=Unit) Tryz.prog 3) B 14 closeD) (s:ByteArray) (hs:s.size≤maxLen) :
  (Instr.lookup 283 (.map (some B)) (.string s) true).run Tryz.prog w=.ok (.tuple #[.int .i64 ((qcf s.data.toList).getD 0),.bool (qcf s.data.toList).isSome]) w:=by
 obtain⟨v,ps,hr,hv⟩:=h.look_ok lawSM Tryz.underlying283 (zeroIM w) (plainElem_int Tryz.underlying3 zal) (WideMaps.keyOf_string_mk Tryz.underlying9 hs)
 obtain⟨h7,h8⟩:=close_key s.data.toList
 rw[h7] at hr;rw[h8] at hv
 obtain⟨a,rfl,ha,_⟩:=plainElem_int_inv Tryz.underlying3 hv
 simp only[Prod.mk.injEq,DataW.lit.injEq,Lit.int.injEq,true_and] at ha;rw[hr,←ha.1]
def CloMap:Fact:=fun v W=>∃ B,v=.map (some B)∧W.ownsMap Tryz.prog 9 (plainElem (H:=Unit) Tryz.prog 3) B 14 closeD
theorem CloMap.upc:Upc CloMap:=by
 rintro v W W' hx ⟨B,hv,ho⟩;have hb:=hx.below
 exact⟨B,hv,ho.kept (row:=none) ⟨hb.os,hb.tape,hb.output,hb.size,fun k hk _=>hb.block k hk⟩ zaj⟩
theorem close_any (zk za zb zc zx zi:Int) (zs zt:ByteArray) (hs:zs.size≤maxLen) (w:World):Calls Tryz.prog 222 #[.agg #[.int .i64 zk,.int .i64 za,.int .i64 zb,.int .i64 zc,.int .i64 zx,.int .i64 zi,.string zs,.string zt]] w fun e w'=>e=.returned (.int .i64 (qbd zk zs))∧Ext w w':=by
 by_cases h0:zk<0
 · have hc:qbd zk zs=-1:=by unfold qbd;rw[if_pos (Or.inl h0)]
   rw[hc];go_enter Tryz.func222,Tryz.ntmps222;go_wp2_with fail;go_ret
   exact⟨rfl,zae⟩
 by_cases h1:11<zk
 · have hc:qbd zk zs=-1:=by unfold qbd;rw[if_pos (Or.inr h1)]
   rw[hc]
   have h2:0≤zk:=by omega
   clear h0;go_enter Tryz.func222,Tryz.ntmps222;go_wp2_with fail;go_ret
   exact⟨rfl,zae⟩
 by_cases h3:zk<11
 · have hc:qbd zk zs=6:=by unfold qbd;rw[if_neg zac,if_pos h3]
   rw[hc]
   have h2:0≤zk:=by omega
   have h4:zk≤11:=by omega
   clear h0 h1;go_enter Tryz.func222,Tryz.ntmps222;go_wp2_with fail;go_ret
   exact⟨rfl,zae⟩
 have h5:zk=11:=by omega
 subst h5
 have hc:qbd 11 zs=(qcf zs.data.toList).getD (-1):=rfl
 rw[hc];have CL:=Lib.hid qgb
 obtain⟨O,hO⟩:∃ O,qcf zs.data.toList=O:=⟨_,rfl⟩
 have LK:=Lib.hid (fun (w:World) (B:Nat) h=>look_close (w:=w) (B:=B) h zs hs);rw[hO] at LK ⊢;clear hO h0 h1 h3 hc hs;go_enter Tryz.func222,Tryz.ntmps222;go_wp2_with fail;refine qaa 9 28 (List.replicate 9 false) zaf zaf rfl ?_;refine yac ?_;refine Lex.gap 19 CloMap rfl CloMap.upc rfl (fun d os=>?_) ?_
 · unfold StepG
   go_simp
   exact(CL.out _).mono fun e w' ⟨B,he,ho,hx⟩=>⟨_,he,hx,B,rfl,ho⟩
 iterate 2 (refine Lex.step rfl ?_;intro K hK;unfold StepG;go_simp;refine hK _ ?_;clear hK K)
 refine Lex.go1 (.tuple #[.int .i64 (O.getD 0),.bool O.isSome]) 19 CloMap rfl (fun u d os hu=>?_) ?_
 · obtain⟨B,rfl,ho⟩:=hu
   have hlk:=LK.out _ _ ho;clear ho;unfold StepG;go_simp
 go_simp
 iterate 5 (refine Lex.step rfl ?_;intro K hK;unfold StepG;go_simp;refine hK _ ?_;clear hK K)
 refine Lex.nil fun WW hE=>?_
 intro u hu
 obtain⟨dd,oo,rfl⟩:=hE
 clear hu;go_simp;unfold FillH;go_wp2_with fail
 try rw[ends_normal]
 cases O with
 | none =>
  go_wp2_with fail;go_ret
  exact⟨rfl,zae⟩
 | some v =>
  go_wp2_with fail;go_ret
  exact⟨rfl,zae⟩
def shA (k:Int):Bool:=[5,6,7,8,9,10,23,27,28,11,22,20,21,24,25].contains k
def shB (k:Int):Bool:=[11,22].contains k
def shBB (k:Int):Bool:=[24,25,26].contains k
def shBC (k:Int):Bool:=[24].contains k
def shS (k:Int):Bool:=[4,20,21,25].contains k
def shT (k:Int):Bool:=[25].contains k
def qcg (k:Int):Bool:=[0,1,2,3,4,5,6,7,8,9,10,11,20,21,22,23,24,25,26,27,28].contains k
theorem kind_cases (k:Int):(k=0∨k=1∨k=2∨k=3∨k=4∨k=5∨k=6∨k=7∨k=8∨k=9∨k=10∨k=11∨k=20∨k=21∨k=22∨k=23∨k=24∨k=25∨k=26∨k=27∨k=28)∨((k==0)=false∧(k==1)=false∧(k==2)=false∧(k==3)=false∧(k==4)=false∧(k==5)=false∧(k==6)=false∧(k==7)=false∧(k==8)=false∧(k==9)=false∧(k==10)=false∧(k==11)=false∧(k==20)=false∧(k==21)=false∧(k==22)=false∧(k==23)=false∧(k==24)=false∧(k==25)=false∧(k==26)=false∧(k==27)=false∧(k==28)=false):=by
 by_cases h:k=0∨k=1∨k=2∨k=3∨k=4∨k=5∨k=6∨k=7∨k=8∨k=9∨k=10∨k=11∨k=20∨k=21∨k=22∨k=23∨k=24∨k=25∨k=26∨k=27∨k=28
 · exact Or.inl h
 · right
   simp only[not_or] at h;simp only[beq_eq_false_iff_ne,ne_eq];exact h
theorem sh_none (k:Int) (h:(k==0)=false∧(k==1)=false∧(k==2)=false∧(k==3)=false∧(k==4)=false∧(k==5)=false∧(k==6)=false∧(k==7)=false∧(k==8)=false∧(k==9)=false∧(k==10)=false∧(k==11)=false∧(k==20)=false∧(k==21)=false∧(k==22)=false∧(k==23)=false∧(k==24)=false∧(k==25)=false∧(k==26)=false∧(k==27)=false∧(k==28)=false):qcg k=false∧shA k=false∧shB k=false∧shBB k=false∧shBC k=false∧shS k=false∧shT k=false:=by
 obtain⟨a0,a1,a2,a3,a4,a5,a6,a7,a8,a9,a10,a11,a20,a21,a22,a23,a24,a25,a26,a27,a28⟩:=h
 have c:∀ (x:Int) (l:List Int),(x::l).contains k=(k==x||l.contains k):=fun x l=>by rw[List.contains_cons]
 have n:([]:List Int).contains k=false:=rfl
 refine ⟨?_,?_,?_,?_,?_,?_,?_⟩
 · unfold qcg;simp only[c,n,a0,a1,a2,a3,a4,a5,a6,a7,a8,a9,a10,a11,a20,a21,a22,a23,a24,a25,a26,a27,a28,Bool.or_self]
 · unfold shA;simp only[c,n,a5,a6,a7,a8,a9,a10,a23,a27,a28,a11,a22,a20,a21,a24,a25,Bool.or_self]
 · unfold shB;simp only[c,n,a11,a22,Bool.or_self]
 · unfold shBB;simp only[c,n,a24,a25,a26,Bool.or_self]
 · unfold shBC;simp only[c,n,a24,Bool.or_self]
 · unfold shS;simp only[c,n,a4,a20,a21,a25,Bool.or_self]
 · unfold shT;simp only[c,n,a25,Bool.or_self]
theorem shape_any (k:Int) (w:World):Calls Tryz.prog 197 #[.int .i64 k] w fun e w'=>e=.returned (.tuple #[.agg #[.bool (shA k),.bool (shB k),.bool (shBB k),.bool (shBC k),.bool (shS k),.bool (shT k)],.bool (qcg k)])∧Ext w w':=by
 rcases kind_cases k with h | h
 · rcases h with rfl | rfl | rfl | rfl | rfl | rfl | rfl | rfl | rfl | rfl | rfl | rfl | rfl | rfl | rfl | rfl | rfl | rfl | rfl | rfl | rfl
   all_goals
    go_enter Tryz.func197,Tryz.ntmps197;go_wp2_with fail;refine bodyPost_ret (by simp[results,Tryz.results197,go_sem];rfl) rfl ⟨?_,zae⟩
    kernel_rfl
 · obtain⟨s0,s1,s2,s3,s4,s5,s6⟩:=sh_none k h
   rw[s0,s1,s2,s3,s4,s5,s6]
   obtain⟨a0,a1,a2,a3,a4,a5,a6,a7,a8,a9,a10,a11,a20,a21,a22,a23,a24,a25,a26,a27,a28⟩:=h
   go_enter Tryz.func197,Tryz.ntmps197;go_wp2_with fail;exact bodyPost_ret (v:=.tuple #[.agg #[.bool false,.bool false,.bool false,.bool false,.bool false,.bool false],.bool false]) (by simp[results,Tryz.results197,go_sem]) rfl ⟨rfl,zae⟩
def numOk (k c i:Int):Bool :=
 if k=2 then decide (0≤i) else if k=1 then(i==0||i==1) else if k=24 then(i==1||(i==0&&c==-1)) else if k=25∨k=26 then(decide (0≤i)&&decide (i≤64)) else i==0
theorem num_any (zk za zb zc zx zi:Int) (zs zt:ByteArray) (w:World):Calls Tryz.prog 198 #[.agg #[.int .i64 zk,.int .i64 za,.int .i64 zb,.int .i64 zc,.int .i64 zx,.int .i64 zi,.string zs,.string zt]] w fun e w'=>e=.returned (.bool (numOk zk zc zi))∧Ext w w':=by
 by_cases h2:zk=2
 · subst h2
   have hr:numOk 2 zc zi=decide (0≤zi):=rfl
   rw[hr]
   by_cases hi:0≤zi
   · rw[decide_eq_true hi]
     go_enter Tryz.func198,Tryz.ntmps198;go_wp2_with fail;go_ret
     exact⟨ret_bool zaq,zae⟩
   · rw[decide_eq_false hi]
     have hi2:zi<0:=by omega
     clear hi;go_enter Tryz.func198,Tryz.ntmps198;go_wp2_with fail;go_ret
     exact⟨ret_bool zaq,zae⟩
 by_cases h1:zk=1
 · subst h1
   have hr:numOk 1 zc zi=(zi==0||zi==1):=rfl
   rw[hr]
   cases q0:(zi==0)<;>cases q1:(zi==1)
   all_goals
    go_enter Tryz.func198,Tryz.ntmps198;go_wp2_with fail;go_ret
    exact⟨ret_bool zaq,zae⟩
 by_cases h24:zk=24
 · subst h24
   have hr:numOk 24 zc zi=(zi==1||(zi==0&&zc==-1)):=rfl
   rw[hr]
   cases q1:(zi==1)<;>cases q0:(zi==0)<;>cases qc:(zc==-1)
   all_goals
    go_enter Tryz.func198,Tryz.ntmps198;go_wp2_with fail;go_ret
    exact⟨ret_bool zaq,zae⟩
 have q2:(zk==2)=false:=by simpa using h2
 have q1:(zk==1)=false:=by simpa using h1
 have q24:(zk==24)=false:=by simpa using h24
 by_cases h25:zk=25∨zk=26
 · have hr:numOk zk zc zi=(decide (0≤zi)&&decide (zi≤64)):=by unfold numOk;rw[if_neg h2,if_neg h1,if_neg h24,if_pos h25]
   rw[hr];clear q2 q1 q24 h2 h1 h24 hr
   by_cases hi:0≤zi
   · rw[decide_eq_true hi]
     by_cases hj:zi≤64
     · rw[decide_eq_true hj]
       rcases h25 with rfl | rfl
       all_goals
        go_enter Tryz.func198,Tryz.ntmps198;go_wp2_with fail;go_ret
        exact⟨ret_bool zaq,zae⟩
     · rw[decide_eq_false hj]
       have hj2:64<zi:=by omega
       clear hj;rcases h25 with rfl | rfl
       all_goals
        go_enter Tryz.func198,Tryz.ntmps198;go_wp2_with fail;go_ret
        exact⟨ret_bool zaq,zae⟩
   · rw[decide_eq_false hi]
     have hi2:zi<0:=by omega
     clear hi;rcases h25 with rfl | rfl
     all_goals
      go_enter Tryz.func198,Tryz.ntmps198;go_wp2_with fail;go_ret
      exact⟨ret_bool zaq,zae⟩
 have hr:numOk zk zc zi=(zi==0):=by unfold numOk;rw[if_neg h2,if_neg h1,if_neg h24,if_neg h25]
 rw[hr]
 have q25:(zk==25)=false:=by simp;exact fun e=>h25 (Or.inl e)
 have q26:(zk==26)=false:=by simp;exact fun e=>h25 (Or.inr e)
 clear h2 h1 h24 h25 hr
 cases q0:(zi==0)
 all_goals
  go_enter Tryz.func198,Tryz.ntmps198;go_wp2_with fail;go_ret
  exact⟨ret_bool zaq,zae⟩
theorem tokcM {base g cap:Nat} {l:List (Tok × Nat)} (h:w.ownsRow base 186 4 (.slice (some ⟨g,0,none⟩) n cap) n (qap l)) (j:Nat) (u:Value) (hj:(qap l)[j]?=some u):w.cell? ⟨g,j,none⟩=some u:=by
 have:=h.cells (g:=g) rfl j u hj
 rwa [Addr.add_lit,Nat.zero_add] at this
def nameR (r:List (Tok × Nat) × Int × Nat) (s:ByteArray):Bool:=r.2.1==0&&(match r.1 with | [t,_]=>t.1.k==1&&t.1.s.toList==s.toList | _=>false)
def nameOk (s:ByteArray):Bool:=nameR (lexF s.data.toList) s
theorem name1_ok (s:ByteArray) (w:World):Calls Tryz.prog 220 #[.string s] w fun e w'=>e=.returned (.bool (nameOk s))∧Ext w w':=by
 unfold nameOk
 obtain⟨l,e,x,hl⟩:∃ l e x,lexF s.data.toList=(l,e,x):=⟨_,_,_,rfl⟩
 have T:=Lib.hid (qfu s _ hl);rw[hl];clear hl
 by_cases he:e=0
 rotate_left
 · have q0:(e==0)=false:=by simpa using he
   have hr:nameR (l,e,x) s=false:=by
    unfold nameR;dsimp only;rw[q0,Bool.false_and]
   clear q0;rw[hr];have HE:=Lib.hid he
   have q:(e==0)=false:=by simpa using he
   clear hr he;go_enter Tryz.func220,Tryz.ntmps220
   go_wp2_with (((with_reducible refine (T.out _).mono ?_);rintro e' w1 (⟨h2,_⟩ | ⟨_,he,d1,os1,rfl⟩);exact absurd h2 HE.out;dsimp only at he;subst he))
   go_ret
   exact⟨rfl,zae⟩
 subst he
 by_cases h2:l.length=2
 rotate_left
 · have hr:nameR (l,0,x) s=false:=by
     unfold nameR
     match l,h2 with
     | [],_=>rfl
     | [_],_=>rfl
     | [_,_],h=>exact absurd rfl h
     | _::_::_::_,_=>rfl
   rw[hr]
   have q:(((l.length:Nat):Int)==2)=false:=beq_eq_false_iff_ne.2 zac
   clear hr h2;go_enter Tryz.func220,Tryz.ntmps220
   go_wp2_with (((with_reducible refine (T.out _).mono ?_);rintro e' w1 (⟨_,g,cap,he,hrow,d1,os1,rfl⟩ | ⟨h2,_⟩);rotate_left;exact absurd rfl h2;dsimp only at he;subst he;clear hrow))
   go_ret
   exact⟨rfl,zae⟩
 match l,h2 with
 | [((⟨tk,ts,ti⟩:Tok),p0),t1],_ =>
  have hr:nameR ([((⟨tk,ts,ti⟩:Tok),p0),t1],0,x) s=(tk==1&&ts.toList==s.toList):=rfl
  rw[hr]
  cases q1:(tk==1)<;>cases q2:(ts.toList==s.toList)
  all_goals
   go_enter Tryz.func220,Tryz.ntmps220
   go_wp2_with (((with_reducible refine (T.out _).mono ?_);rintro e' w1 (⟨_,g,cap,he,hrow,hx⟩ | ⟨h2,_⟩);rotate_left;exact absurd rfl h2;dsimp only[List.length_cons,List.length_nil] at he hrow;subst he;have hgs:=(hrow.lt g rfl).2;have k0:=tokcM hrow 0 _ rfl;have k2:=tokcM hrow 2 _ rfl;clear hrow;have HX:=Lib.hid hx;clear hx))
   go_ret
   exact⟨rfl,HX.out.trans zab⟩
def qbc (s:ByteArray):Bool:=(qbM s.data.toList).2==0
theorem quoted_any (s:ByteArray) (w:World):Calls Tryz.prog 221 #[.string s] w fun e w'=>e=.returned (.bool (qbc s))∧Ext w w':=by
 unfold qbc
 obtain⟨q,er,hq⟩:∃ q er,qbM s.data.toList=(q,er):=⟨_,_,rfl⟩
 have Q:=Lib.hid (quote_any s q er hq);rw[hq];dsimp only;clear hq
 cases h:(er==0)
 all_goals
  go_enter Tryz.func221,Tryz.ntmps221
  go_wp2_with (((with_reducible refine (Q.out _).mono ?_);rintro e' _ ⟨rfl,d1,os1,rfl⟩))
  go_ret
  exact⟨rfl,zae⟩
def txt2 (k:Int) (s:ByteArray) (bS:Bool):Bool:=if (k==3)=true then qbc s else if (k==11)=true then decide (0≤qbd k s) else if bS=true then nameOk s else s.toList.isEmpty
def txt1 (t:ByteArray) (bT:Bool):Bool:=if bT=true then(!t.toList.isEmpty&&nameOk t) else t.toList.isEmpty
theorem texts_x (zk za zb zc zx zi:Int) (zs zt:ByteArray) (hs:zs.size≤maxLen) (b0 b1 b2 b3 bS bT:Bool) (w:World) :
  Calls Tryz.prog 199 #[.agg #[.int .i64 zk,.int .i64 za,.int .i64 zb,.int .i64 zc,.int .i64 zx,.int .i64 zi,.string zs,.string zt],.agg #[.bool b0,.bool b1,.bool b2,.bool b3,.bool bS,.bool bT]] w fun e w'=>e=.returned (.bool (txt1 zt bT&&txt2 zk zs bS))∧Ext w w':=by
 have NMT:=Lib.hid (fun w1=>name1_ok zt w1);have NMS:=Lib.hid (fun w1=>name1_ok zs w1);have QS:=Lib.hid (fun w1=>quoted_any zs w1);have CL:=Lib.hid (fun w1=>close_any zk za zb zc zx zi zs zt hs w1)
 obtain⟨NT,hNT⟩:∃ NT,nameOk zt=NT:=⟨_,rfl⟩
 obtain⟨NS,hNS⟩:∃ NS,nameOk zs=NS:=⟨_,rfl⟩
 obtain⟨QQ,hQ⟩:∃ QQ,qbc zs=QQ:=⟨_,rfl⟩
 obtain⟨CC,hC⟩:∃ CC,qbd zk zs=CC:=⟨_,rfl⟩
 rw[hNT] at NMT;rw[hNS] at NMS;rw[hQ] at QS;rw[hC] at CL
 have ht:txt1 zt bT=(if bT=true then(!zt.toList.isEmpty&&NT) else zt.toList.isEmpty):=by unfold txt1;rw[hNT]
 rw[ht];clear ht hNT
 cases bT
 · rw[if_neg zaj]
   cases qt:zt.toList.isEmpty
   · rw[Bool.false_and]
     go_enter Tryz.func199,Tryz.ntmps199
     go_wp2_with (((with_reducible refine (NMT.out _).mono ?_);rintro e' _ ⟨rfl,d1,os1,rfl⟩))
     go_ret
     exact⟨ret_bool zaq,zae⟩
   · rw[Bool.true_and]
     cases q3:(zk==3)
     rotate_left
     · rw[show txt2 zk zs bS=QQ from by unfold txt2;rw[q3,hQ];rfl]
       go_enter Tryz.func199,Tryz.ntmps199
       go_wp2_with (first | (((with_reducible refine (NMT.out _).mono ?_);rintro e' _ ⟨rfl,d1,os1,rfl⟩)) | (((with_reducible refine (QS.out _).mono ?_);rintro e' _ ⟨rfl,d3,os3,rfl⟩)))
       go_ret
       exact⟨ret_bool zaq,zae⟩
     cases q11:(zk==11)
     rotate_left
     · rw[show txt2 zk zs bS=decide (0≤CC) from by unfold txt2;rw[q3,q11,hC];rfl]
       by_cases hc0:0≤CC
       · rw[decide_eq_true hc0]
         go_enter Tryz.func199,Tryz.ntmps199
         go_wp2_with (first | (((with_reducible refine (NMT.out _).mono ?_);rintro e' _ ⟨rfl,d1,os1,rfl⟩)) | (((with_reducible refine (CL.out _).mono ?_);rintro e' _ ⟨rfl,d4,os4,rfl⟩)))
         go_ret
         exact⟨ret_bool zaq,zae⟩
       · rw[decide_eq_false hc0]
         have hc1:CC<0:=by omega
         clear hc0;go_enter Tryz.func199,Tryz.ntmps199
         go_wp2_with (first | (((with_reducible refine (NMT.out _).mono ?_);rintro e' _ ⟨rfl,d1,os1,rfl⟩)) | (((with_reducible refine (CL.out _).mono ?_);rintro e' _ ⟨rfl,d4,os4,rfl⟩)))
         go_ret
         exact⟨ret_bool zaq,zae⟩
     cases bS
     · rw[show txt2 zk zs false=zs.toList.isEmpty from by unfold txt2;rw[q3,q11];rfl]
       cases qs:zs.toList.isEmpty
       all_goals
        go_enter Tryz.func199,Tryz.ntmps199
        go_wp2_with (((with_reducible refine (NMT.out _).mono ?_);rintro e' _ ⟨rfl,d1,os1,rfl⟩))
        go_ret
        exact⟨ret_bool zaq,zae⟩
     · rw[show txt2 zk zs true=NS from by unfold txt2;rw[q3,q11,hNS];rfl]
       go_enter Tryz.func199,Tryz.ntmps199
       go_wp2_with (first | (((with_reducible refine (NMT.out _).mono ?_);rintro e' _ ⟨rfl,d1,os1,rfl⟩)) | (((with_reducible refine (NMS.out _).mono ?_);rintro e' _ ⟨rfl,d2,os2,rfl⟩)))
       go_ret
       exact⟨ret_bool zaq,zae⟩
 · rw[if_pos rfl]
   cases qt:zt.toList.isEmpty
   · rw[Bool.not_false,Bool.true_and]
     cases NT
     · rw[Bool.false_and]
       go_enter Tryz.func199,Tryz.ntmps199
       go_wp2_with (((with_reducible refine (NMT.out _).mono ?_);rintro e' _ ⟨rfl,d1,os1,rfl⟩))
       go_ret
       exact⟨ret_bool zaq,zae⟩
     · rw[Bool.true_and]
       cases q3:(zk==3)
       rotate_left
       · rw[show txt2 zk zs bS=QQ from by unfold txt2;rw[q3,hQ];rfl]
         go_enter Tryz.func199,Tryz.ntmps199
         go_wp2_with (first | (((with_reducible refine (NMT.out _).mono ?_);rintro e' _ ⟨rfl,d1,os1,rfl⟩)) | (((with_reducible refine (QS.out _).mono ?_);rintro e' _ ⟨rfl,d3,os3,rfl⟩)))
         go_ret
         exact⟨ret_bool zaq,zae⟩
       cases q11:(zk==11)
       rotate_left
       · rw[show txt2 zk zs bS=decide (0≤CC) from by unfold txt2;rw[q3,q11,hC];rfl]
         by_cases hc0:0≤CC
         · rw[decide_eq_true hc0]
           go_enter Tryz.func199,Tryz.ntmps199
           go_wp2_with (first | (((with_reducible refine (NMT.out _).mono ?_);rintro e' _ ⟨rfl,d1,os1,rfl⟩)) | (((with_reducible refine (CL.out _).mono ?_);rintro e' _ ⟨rfl,d4,os4,rfl⟩)))
           go_ret
           exact⟨ret_bool zaq,zae⟩
         · rw[decide_eq_false hc0]
           have hc1:CC<0:=by omega
           clear hc0;go_enter Tryz.func199,Tryz.ntmps199
           go_wp2_with (first | (((with_reducible refine (NMT.out _).mono ?_);rintro e' _ ⟨rfl,d1,os1,rfl⟩)) | (((with_reducible refine (CL.out _).mono ?_);rintro e' _ ⟨rfl,d4,os4,rfl⟩)))
           go_ret
           exact⟨ret_bool zaq,zae⟩
       cases bS
       · rw[show txt2 zk zs false=zs.toList.isEmpty from by unfold txt2;rw[q3,q11];rfl]
         cases qs:zs.toList.isEmpty
         all_goals
          go_enter Tryz.func199,Tryz.ntmps199
          go_wp2_with (((with_reducible refine (NMT.out _).mono ?_);rintro e' _ ⟨rfl,d1,os1,rfl⟩))
          go_ret
          exact⟨ret_bool zaq,zae⟩
       · rw[show txt2 zk zs true=NS from by unfold txt2;rw[q3,q11,hNS];rfl]
         go_enter Tryz.func199,Tryz.ntmps199
         go_wp2_with (first | (((with_reducible refine (NMT.out _).mono ?_);rintro e' _ ⟨rfl,d1,os1,rfl⟩)) | (((with_reducible refine (NMS.out _).mono ?_);rintro e' _ ⟨rfl,d2,os2,rfl⟩)))
         go_ret
         exact⟨ret_bool zaq,zae⟩
   · rw[Bool.not_true,Bool.false_and,Bool.false_and]
     go_enter Tryz.func199,Tryz.ntmps199
     go_wp2_with (((with_reducible refine (NMT.out _).mono ?_);rintro e' _ ⟨rfl,d1,os1,rfl⟩))
     go_ret
     exact⟨ret_bool zaq,zae⟩
end Go.Proofs.YtpnabjopfpdkhaaGreatDoor
