/- Lemmas. -/
import Derived.Test.YtpnabjopfpdkhaaGreatDoorA05
import Derived.Test.YtpnabjopfpdkhaaGreatDoorA06
import Derived.Outline
import Derived.Lib.SmallJoins
import Derived.LoopTactic
set_option linter.unusedSimpArgs false
set_option linter.unusedVariables false
set_option maxHeartbeats 2000000
set_option maxRecDepth 20000
namespace Go.Proofs.YtpnabjopfpdkhaaGreatDoor
open Go.RowKit
variable {N a b n x y z:Nat} {w:World} {lv:Value}
theorem next_end (b:Nat) (s:ByteArray) (k n:Nat) (lv:Value) (hk:k≤s.size) (hs:s.size≤maxLen) (hn:skipL false (s.data.toList.drop k)=n) (hlt:k+n=s.size) (w:World) (h:LexAt b s k lv w) :
  Calls Tryz.prog 109 #[.pointer (some ⟨b,0,none⟩)] w fun e' w'=>e'=.returned (.tuple #[tokV tok0 0,.int .i64 0,.bool false])∧Ext (w.setCell ⟨b,1,none⟩ (.int .i64 ((k+n:Nat):Int))) w':=by
 have HL:=Lib.hid h;have C:=Lib.hid (qeA b s k n lv hk hs hn);have hb:=h.lt
 obtain⟨c0,c1,c2,f1,f2⟩:=h.cells
 unfold maxLen at hs;clear h hn
 have hle:(((k:Int)+n)==(s.size:Int))=true:=by simp;omega
 unfold tokV tok0;go_enter Tryz.func109,Tryz.ntmps109
 go_wp2_with (go_at_call 123;refine (C.out _ zbe).mono ?_;rintro e _ ⟨rfl,d,os,rfl⟩)
 refine qaa 9 62 (List.replicate 9 false) zaf zaf rfl ?_;refine yac ?_
 repeat(refine Lex.step rfl ?_;intro K hK;unfold StepG;go_simp;(first
   | refine hK _ ?_);clear hK K)
 refine yaa ?_;intro dd oo;go_wp2_with fail;rw[ends_normal];go_wp2_with fail;refine bodyPost_ret (v:=.tuple #[.agg #[.int .i64 0,.int .i64 0,.string ⟨#[]⟩,.int .i64 0],.int .i64 0,.bool false]) zbl rfl ?_;refine ⟨rfl,?_⟩;rw[hlt]
 repeat(first | exact Ext.refl _ | apply Ext.alloc | apply Ext.more)
def qbF (b K:Nat) (r:Tok) (e:Int) (w:World) (e':Ending) (w':World):Prop :=
 e'=.returned (.tuple #[.agg #[.int .i64 r.k,.int .i64 0,.string r.s,.int .i64 r.i],.int .i64 e])∧∃ k':Nat,(e=0→k'=K)∧Ext (w.setCell ⟨b,1,none⟩ (.int .i64 (k':Int))) w'
def qcW (b A K:Nat) (r:Tok) (e:Int) (w:World) (e':Ending) (w':World):Prop :=
 e'=.returned (.tuple #[.agg #[.int .i64 r.k,.int .i64 (A:Int),.string r.s,.int .i64 r.i],.int .i64 e,.bool true])∧∃ k':Nat,(e=0→k'=K)∧Ext (w.setCell ⟨b,1,none⟩ (.int .i64 (k':Int))) w'
theorem next_name (b:Nat) (s:ByteArray) (k n:Nat) (lv:Value) (hk:k≤s.size) (hs:s.size≤maxLen) (hn:skipL false (s.data.toList.drop k)=n) (hlt:k+n<s.size) (hc:qao ((s[k+n]'hlt).toNat:Int)=true) (K:Nat) (r:Tok) (e:Int)
  (T:RowKit.Hid (∀ w,LexAt b s (k+n) lv w→Calls Tryz.prog 126 #[.pointer (some ⟨b,0,none⟩)] w (qbF b K r e w))) (w:World) (h:LexAt b s k lv w) :
  Calls Tryz.prog 109 #[.pointer (some ⟨b,0,none⟩)] w (qcW b (k+n) K r e w):=by
 have HL:=Lib.hid h;have C:=Lib.hid (qeA b s k n lv hk hs hn);have hb:=h.lt
 obtain⟨c0,c1,c2,f1,f2⟩:=h.cells
 unfold maxLen at hs;clear h hn
 have hle:(((k:Int)+n)==(s.size:Int))=false:=by simp;omega
 have h256:=(s[k+n]'hlt).toNat_lt;have le:=qbi ((s[k+n]'hlt).toNat:Int) zac zac;rw[hc] at le;have LE:=Lib.hid le;clear le hc;clear h256
 have hz:((k:Int)+n<s.size):=by omega
 go_enter Tryz.func109,Tryz.ntmps109
 go_wp2_with (go_at_call 123;refine (C.out _ zbe).mono ?_;rintro e _ ⟨rfl,d,os,rfl⟩)
 refine qaa 9 62 (List.replicate 9 false) zaf zaf rfl ?_;refine yac ?_
 repeat(refine Lex.step rfl ?_;intro K hK;unfold StepG;go_simp;(first
   | refine hK _ ?_);clear hK K)
 refine yaa ?_;intro dd oo;go_wp2_with fail;rw[ends_normal];go_wp2_with fail;refine qaa 8 62 (List.replicate 8 false) zaf zaf rfl ?_;refine yac ?_
 repeat(refine Lex.step rfl ?_;intro K hK;unfold StepG;go_simp;(first
   | refine hK _ ?_);clear hK K)
 refine yaa ?_;intro dd oo
 go_wp2_with (go_at_call 125;refine (LE.out _).mono ?_;rintro e _ ⟨rfl,rfl⟩)
 first | rw[ends_normal] | skip
 go_wp2_with (go_at_call 125;refine (LE.out _).mono ?_;rintro e _ ⟨rfl,rfl⟩)
 refine (T.out _ zbg).mono ?_;rintro e _ ⟨rfl,k2,hk2,d3,os3,rfl⟩;have HK2:=Lib.hid hk2;clear hk2;go_wp2_with fail;refine yat ⟨?_⟩
 exact⟨rfl,k2,HK2.out,zab⟩
theorem next_number (b:Nat) (s:ByteArray) (k n:Nat) (lv:Value) (hk:k≤s.size) (hs:s.size≤maxLen) (hn:skipL false (s.data.toList.drop k)=n) (hlt:k+n<s.size) (hc:qao ((s[k+n]'hlt).toNat:Int)=false) (hd:qai ((s[k+n]'hlt).toNat:Int)=true) (K:Nat) (r:Tok) (e:Int)
  (T:RowKit.Hid (∀ w,LexAt b s (k+n) lv w→Calls Tryz.prog 128 #[.pointer (some ⟨b,0,none⟩)] w (qbF b K r e w))) (w:World) (h:LexAt b s k lv w) :
  Calls Tryz.prog 109 #[.pointer (some ⟨b,0,none⟩)] w (qcW b (k+n) K r e w):=by
 have HL:=Lib.hid h;have C:=Lib.hid (qeA b s k n lv hk hs hn);have hb:=h.lt
 obtain⟨c0,c1,c2,f1,f2⟩:=h.cells
 unfold maxLen at hs;clear h hn
 have hle:(((k:Int)+n)==(s.size:Int))=false:=by simp;omega
 have h256:=(s[k+n]'hlt).toNat_lt;have le:=qbi ((s[k+n]'hlt).toNat:Int) zac zac;rw[hc] at le;have LE:=Lib.hid le;clear le hc;have de:=qcm ((s[k+n]'hlt).toNat:Int) zac zac;rw[hd] at de;have DE:=Lib.hid de;clear de hd;clear h256
 have hz:((k:Int)+n<s.size):=by omega
 go_enter Tryz.func109,Tryz.ntmps109
 go_wp2_with (go_at_call 123;refine (C.out _ zbe).mono ?_;rintro e _ ⟨rfl,d,os,rfl⟩)
 refine qaa 9 62 (List.replicate 9 false) zaf zaf rfl ?_;refine yac ?_
 repeat(refine Lex.step rfl ?_;intro K hK;unfold StepG;go_simp;(first
   | refine hK _ ?_);clear hK K)
 refine yaa ?_;intro dd oo;go_wp2_with fail;rw[ends_normal];go_wp2_with fail;refine qaa 8 62 (List.replicate 8 false) zaf zaf rfl ?_;refine yac ?_
 repeat(refine Lex.step rfl ?_;intro K hK;unfold StepG;go_simp;(first
   | refine hK _ ?_);clear hK K)
 refine yaa ?_;intro dd oo
 go_wp2_with (first
  | (go_at_call 125;refine (LE.out _).mono ?_;rintro e _ ⟨rfl,rfl⟩)
  | (go_at_call 127;refine (DE.out _).mono ?_;rintro e _ ⟨rfl,rfl⟩))
 first | rw[ends_normal] | skip
 go_wp2_with (first
  | (go_at_call 125;refine (LE.out _).mono ?_;rintro e _ ⟨rfl,rfl⟩)
  | (go_at_call 127;refine (DE.out _).mono ?_;rintro e _ ⟨rfl,rfl⟩))
 refine (T.out _ zbg).mono ?_;rintro e _ ⟨rfl,k2,hk2,d3,os3,rfl⟩;have HK2:=Lib.hid hk2;clear hk2;go_wp2_with fail;refine yat ⟨?_⟩
 exact⟨rfl,k2,HK2.out,zab⟩
theorem next_text (b:Nat) (s:ByteArray) (k n:Nat) (lv:Value) (hk:k≤s.size) (hs:s.size≤maxLen) (hn:skipL false (s.data.toList.drop k)=n) (hlt:k+n<s.size) (hc:qao ((s[k+n]'hlt).toNat:Int)=false) (hd:qai ((s[k+n]'hlt).toNat:Int)=false) (hq:(((s[k+n]'hlt).toNat:Int)==34)=true) (K:Nat) (r:Tok) (e:Int)
  (T:RowKit.Hid (∀ w,LexAt b s (k+n) lv w→Calls Tryz.prog 129 #[.pointer (some ⟨b,0,none⟩)] w (qbF b K r e w))) (w:World) (h:LexAt b s k lv w) :
  Calls Tryz.prog 109 #[.pointer (some ⟨b,0,none⟩)] w (qcW b (k+n) K r e w):=by
 have HL:=Lib.hid h;have C:=Lib.hid (qeA b s k n lv hk hs hn);have hb:=h.lt
 obtain⟨c0,c1,c2,f1,f2⟩:=h.cells
 unfold maxLen at hs;clear h hn
 have hle:(((k:Int)+n)==(s.size:Int))=false:=by simp;omega
 have h256:=(s[k+n]'hlt).toNat_lt;have le:=qbi ((s[k+n]'hlt).toNat:Int) zac zac;rw[hc] at le;have LE:=Lib.hid le;clear le hc;have de:=qcm ((s[k+n]'hlt).toNat:Int) zac zac;rw[hd] at de;have DE:=Lib.hid de;clear de hd;clear h256
 have hz:((k:Int)+n<s.size):=by omega
 go_enter Tryz.func109,Tryz.ntmps109
 go_wp2_with (go_at_call 123;refine (C.out _ zbe).mono ?_;rintro e _ ⟨rfl,d,os,rfl⟩)
 refine qaa 9 62 (List.replicate 9 false) zaf zaf rfl ?_;refine yac ?_
 repeat(refine Lex.step rfl ?_;intro K hK;unfold StepG;go_simp;(first
   | refine hK _ ?_);clear hK K)
 refine yaa ?_;intro dd oo;go_wp2_with fail;rw[ends_normal];go_wp2_with fail;refine qaa 8 62 (List.replicate 8 false) zaf zaf rfl ?_;refine yac ?_
 repeat(refine Lex.step rfl ?_;intro K hK;unfold StepG;go_simp;(first
   | refine hK _ ?_);clear hK K)
 refine yaa ?_;intro dd oo
 go_wp2_with (first
  | (go_at_call 125;refine (LE.out _).mono ?_;rintro e _ ⟨rfl,rfl⟩)
  | (go_at_call 127;refine (DE.out _).mono ?_;rintro e _ ⟨rfl,rfl⟩))
 first | rw[ends_normal] | skip
 go_wp2_with (first
  | (go_at_call 125;refine (LE.out _).mono ?_;rintro e _ ⟨rfl,rfl⟩)
  | (go_at_call 127;refine (DE.out _).mono ?_;rintro e _ ⟨rfl,rfl⟩))
 refine (T.out _ zbg).mono ?_;rintro e _ ⟨rfl,k2,hk2,d3,os3,rfl⟩;have HK2:=Lib.hid hk2;clear hk2;go_wp2_with fail;refine yat ⟨?_⟩
 exact⟨rfl,k2,HK2.out,zab⟩
theorem next_sign (b:Nat) (s:ByteArray) (k n:Nat) (lv:Value) (hk:k≤s.size) (hs:s.size≤maxLen) (hn:skipL false (s.data.toList.drop k)=n) (hlt:k+n<s.size) (hc:qao ((s[k+n]'hlt).toNat:Int)=false) (hd:qai ((s[k+n]'hlt).toNat:Int)=false) (hq:(((s[k+n]'hlt).toNat:Int)==34)=false) (K:Nat) (r:Tok) (e:Int)
  (T:RowKit.Hid (∀ w,LexAt b s (k+n) lv w→Calls Tryz.prog 124 #[.pointer (some ⟨b,0,none⟩)] w (qbF b K r e w))) (w:World) (h:LexAt b s k lv w) :
  Calls Tryz.prog 109 #[.pointer (some ⟨b,0,none⟩)] w (qcW b (k+n) K r e w):=by
 have HL:=Lib.hid h;have C:=Lib.hid (qeA b s k n lv hk hs hn);have hb:=h.lt
 obtain⟨c0,c1,c2,f1,f2⟩:=h.cells
 unfold maxLen at hs;clear h hn
 have hle:(((k:Int)+n)==(s.size:Int))=false:=by simp;omega
 have h256:=(s[k+n]'hlt).toNat_lt;have le:=qbi ((s[k+n]'hlt).toNat:Int) zac zac;rw[hc] at le;have LE:=Lib.hid le;clear le hc;have de:=qcm ((s[k+n]'hlt).toNat:Int) zac zac;rw[hd] at de;have DE:=Lib.hid de;clear de hd;clear h256
 have hz:((k:Int)+n<s.size):=by omega
 go_enter Tryz.func109,Tryz.ntmps109
 go_wp2_with (go_at_call 123;refine (C.out _ zbe).mono ?_;rintro e _ ⟨rfl,d,os,rfl⟩)
 refine qaa 9 62 (List.replicate 9 false) zaf zaf rfl ?_;refine yac ?_
 repeat(refine Lex.step rfl ?_;intro K hK;unfold StepG;go_simp;(first
   | refine hK _ ?_);clear hK K)
 refine yaa ?_;intro dd oo;go_wp2_with fail;rw[ends_normal];go_wp2_with fail;refine qaa 8 62 (List.replicate 8 false) zaf zaf rfl ?_;refine yac ?_
 repeat(refine Lex.step rfl ?_;intro K hK;unfold StepG;go_simp;(first
   | refine hK _ ?_);clear hK K)
 refine yaa ?_;intro dd oo
 go_wp2_with (first
  | (go_at_call 125;refine (LE.out _).mono ?_;rintro e _ ⟨rfl,rfl⟩)
  | (go_at_call 127;refine (DE.out _).mono ?_;rintro e _ ⟨rfl,rfl⟩))
 first | rw[ends_normal] | skip
 go_wp2_with (first
  | (go_at_call 125;refine (LE.out _).mono ?_;rintro e _ ⟨rfl,rfl⟩)
  | (go_at_call 127;refine (DE.out _).mono ?_;rintro e _ ⟨rfl,rfl⟩))
 refine (T.out _ zbg).mono ?_;rintro e _ ⟨rfl,k2,hk2,d3,os3,rfl⟩;have HK2:=Lib.hid hk2;clear hk2;go_wp2_with fail;refine yat ⟨?_⟩
 exact⟨rfl,k2,HK2.out,zab⟩
def headLetter:List UInt8→Bool
 | []=>false
 | c::_=>qao (c.toNat:Int)
def oneF:List UInt8→Tok × Nat × Int
  | []=>(tok0,0,3)
  | c::l =>
    if qao (c.toNat:Int)=true then((nameF ⟨((c::l).take (spanN nameB (c::l))).toArray⟩).1,spanN nameB (c::l),(nameF ⟨((c::l).take (spanN nameB (c::l))).toArray⟩).2)
    else if qai (c.toNat:Int)=true then
      (if (1<spanN qai (c::l)∧c.toNat=48)∨headLetter ((c::l).drop (spanN qai (c::l)))=true then(tok0,spanN qai (c::l),3)
       else((numF ⟨((c::l).take (spanN qai (c::l))).toArray⟩).1,spanN qai (c::l),(numF ⟨((c::l).take (spanN qai (c::l))).toArray⟩).2))
    else if c.toNat=34 then((textG l []).1,1+(textG l []).2.1,(textG l []).2.2)
    else signF (c::l)
theorem qaM (s:ByteArray) (m n:Nat):s.extract m (m+n)=⟨((s.data.toList.drop m).take n).toArray⟩:=by
 apply ByteArray.ext
 apply Array.ext'
 simp[List.extract_eq_take_drop]
theorem take_name (b:Nat) (s:ByteArray) (m n:Nat) (lv:Value) (hk:m≤s.size) (hs:s.size≤maxLen) (hn:spanN nameB (s.data.toList.drop m)=n) (r:Tok) (e:Int) (hr:nameF (s.extract m (m+n))=(r,e)) (w:World) (h:LexAt b s m lv w) :
  Calls Tryz.prog 126 #[.pointer (some ⟨b,0,none⟩)] w (qbF b (m+n) r e w) :=
 (name_any b s _ m n lv hk hs hn rfl r e hr w h).mono fun e' w' ⟨he,hx⟩=>⟨he,m+n,fun _=>rfl,hx⟩
theorem take_sign (b:Nat) (s:ByteArray) (m n:Nat) (lv:Value) (hk:m<s.size) (hs:(s.size:Int)≤4611686018427387904) (r:Tok) (e:Int) (hr:signF (s.data.toList.drop m)=(r,n,e)) (w:World) (h:LexAt b s m lv w) :
  Calls Tryz.prog 124 #[.pointer (some ⟨b,0,none⟩)] w (qbF b (m+n) r e w):=by
 have e1:(s.extract m s.size).data.toList=s.data.toList.drop m:=by
  have h1:(s.extract m s.size).data.toList=(s.data.toList.drop m).take (s.size-m):=by simp[List.extract_eq_take_drop]
  rw[h1,List.take_of_length_le zaj]
 refine (sign_any b s _ m n lv hk hs rfl zam r e (by rw[e1];exact hr) w h).mono fun e' w' ⟨he,hx⟩=>⟨he,m+n,fun _=>rfl,hx⟩
theorem take_text (b:Nat) (s:ByteArray) (m n:Nat) (lv:Value) (hk:m<s.size) (hs:s.size≤140737488351232) (r:Tok) (e:Int) (hr:textG (s.data.toList.drop (m+1)) []=(r,n,e)) (w:World) (h:LexAt b s m lv w) :
  Calls Tryz.prog 129 #[.pointer (some ⟨b,0,none⟩)] w (qbF b (m+(1+n)) r e w) :=
 (text_any b s m n lv hk hs r e hr w h).mono fun e' w' ⟨he,k',h1,hx⟩=>⟨he,k',fun h0=>by rw[h1 h0];omega,hx⟩
theorem qeF (s:ByteArray) (m n:Nat) (hm:m≤s.size) (hn:spanN qai (s.data.toList.drop m)=n) (hmn:m+n≤s.size) :
  ∀ (j:Nat) (h:j<(s.extract m (m+n)).size),48≤(((s.extract m (m+n))[j]'h).toNat:Int)∧(((s.extract m (m+n))[j]'h).toNat:Int)≤57:=by
 intro j h
 have hl:(s.extract m (m+n)).data.toList=(s.data.toList.drop m).take n:=by rw[qaM]
 have hj:((s.data.toList.drop m).take (spanN qai (s.data.toList.drop m)))[j]?=some ((s.extract m (m+n))[j]'h):=by
  rw[hn,←hl];exact List.getElem?_eq_getElem (by simp at h ⊢;omega)
 have:=span_all qai _ j _ hj
 simpa [qai] using this
theorem take_number (b:Nat) (s:ByteArray) (m n:Nat) (lv:Value) (hk:m<s.size) (hs:s.size≤maxLen) (hn:spanN qai (s.data.toList.drop m)=n) (r:Tok) (e:Int)
  (hr:(if (1<n∧(s[m]'hk).toNat=48)∨headLetter (s.data.toList.drop (m+n))=true then(tok0,3) else numF (s.extract m (m+n)))=(r,e)) (w:World) (h:LexAt b s m lv w) :
  Calls Tryz.prog 128 #[.pointer (some ⟨b,0,none⟩)] w (qbF b (m+n) r e w):=by
 have hle:=spanN_le qai (s.data.toList.drop m);rw[hn] at hle
 have hmn:m+n≤s.size:=by simp at hle;omega
 have htn:(s.extract m (m+n)).size=n:=by simp;omega
 have h0:∀ h:0<(s.extract m (m+n)).size,(s.extract m (m+n))[0]'h=s[m]'hk:=by
  intro h
  simp[ByteArray.getElem_extract]
 have hlet:headLetter (s.data.toList.drop (m+n))=true↔∃ h:m+n<s.size,qao ((s[m+n]'h).toNat:Int)=true:=by
  by_cases hlt:m+n<s.size
  · have hd:s.data.toList.drop (m+n)=s[m+n]'hlt::s.data.toList.drop (m+n+1):=List.drop_eq_getElem_cons (by simpa using hlt)
    rw[hd]
    exact⟨fun h=>⟨hlt,h⟩,fun ⟨_,h⟩=>h⟩
  · have hd:s.data.toList.drop (m+n)=[]:=List.drop_eq_nil_of_le zam
    rw[hd]
    exact⟨fun h=>by simp[headLetter] at h,fun ⟨h,_⟩=>absurd h hlt⟩
 by_cases hc:(1<n∧(s[m]'hk).toNat=48)∨headLetter (s.data.toList.drop (m+n))=true
 · rw[if_pos hc] at hr
   simp only[Prod.mk.injEq] at hr
   obtain⟨rfl,rfl⟩:=hr
   refine (number_err b s _ m n lv zac hs hmn hn rfl htn ?_ w h).mono fun e' w' ⟨he,hx⟩=>⟨he,m+n,fun _=>rfl,hx⟩
   by_cases h1:1<n∧(s[m]'hk).toNat=48
   · exact Or.inl ⟨h1.1,by omega,by rw[h0];omega⟩
   · have h2:=hlet.1 (hc.resolve_left h1)
     refine Or.inr ⟨?_,h2⟩
     by_cases h3:1<n
     · exact Or.inr ⟨h3,by omega,by rw[h0];omega⟩
     · exact Or.inl zac
 · rw[if_neg hc] at hr
   refine (number_ok b s _ m n lv zac hs hmn hn rfl htn ?_ ?_ (qeF s m n zac hn hmn) r e hr w h).mono fun e' w' ⟨he,hx⟩=>⟨he,m+n,fun _=>rfl,hx⟩
   · by_cases h3:1<n
     · exact Or.inr ⟨h3,by omega,by rw[h0];omega⟩
     · exact Or.inl zac
   · by_cases hlt:m+n<s.size
     · refine Or.inr ⟨hlt,?_⟩
       cases hb:qao ((s[m+n]'hlt).toNat:Int)
       · rfl
       · exact absurd (Or.inr (hlet.2 ⟨hlt,hb⟩)) hc
     · exact Or.inl zac
theorem next_any (b:Nat) (s:ByteArray) (k n:Nat) (lv:Value) (hk:k≤s.size) (hs:s.size≤140737488351232) (hn:skipL false (s.data.toList.drop k)=n) (hlt:k+n<s.size) (n1:Nat) (r:Tok) (e:Int) (hr:oneF (s.data.toList.drop (k+n))=(r,n1,e)) (w:World) (h:LexAt b s k lv w) :
  Calls Tryz.prog 109 #[.pointer (some ⟨b,0,none⟩)] w (qcW b (k+n) (k+n+n1) r e w):=by
 have hm:s.size≤maxLen:=by unfold maxLen;omega
 obtain⟨m,hmm⟩:∃ m,k+n=m:=⟨_,rfl⟩
 have hlt':m<s.size:=by omega
 have hd:s.data.toList.drop m=s[m]'hlt'::s.data.toList.drop (m+1):=List.drop_eq_getElem_cons (by simpa using hlt')
 subst hmm;have hr0:=hr;rw[hd] at hr;unfold oneF at hr;dsimp only at hr;rw[←hd] at hr
 by_cases c1:qao ((s[k+n]'hlt).toNat:Int)=true
 · rw[if_pos c1] at hr
   simp only[Prod.mk.injEq] at hr
   obtain⟨rfl,rfl,rfl⟩:=hr
   refine next_name b s k n lv hk hm hn hlt c1 _ _ _ (Lib.hid fun w h=>take_name b s (k+n) _ lv zac hm rfl _ _ ?_ w h) w h;rw[qaM]
 rw[if_neg c1] at hr
 have c1':qao ((s[k+n]'hlt).toNat:Int)=false:=by simpa using c1
 by_cases c2:qai ((s[k+n]'hlt).toNat:Int)=true
 · rw[if_pos c2] at hr
   have hnum:∀ n2,spanN qai (s.data.toList.drop (k+n))=n2→n2=n1∧(if (1<n2∧(s[k+n]'hlt).toNat=48)∨headLetter (s.data.toList.drop (k+n+n2))=true then(tok0,3) else numF (s.extract (k+n) (k+n+n2)))=(r,e):=by
    intro n2 h2;rw[h2,List.drop_drop] at hr;rw[qaM]
    split at hr
    · next hc=>rw[if_pos hc];simp only[Prod.mk.injEq] at hr ⊢;exact⟨hr.2.1,hr.1,hr.2.2⟩
    · next hc=>rw[if_neg hc];simp only[Prod.mk.injEq] at hr;exact⟨hr.2.1,by rw[←hr.1,←hr.2.2]⟩
   obtain⟨h3,h4⟩:=hnum _ rfl
   rw[←h3];exact next_number b s k n lv hk hm hn hlt c1' c2 _ _ _ (Lib.hid fun w h=>take_number b s (k+n) _ lv hlt hm rfl _ _ h4 w h) w h
 rw[if_neg c2] at hr
 have c2':qai ((s[k+n]'hlt).toNat:Int)=false:=by simpa using c2
 by_cases c3:(s[k+n]'hlt).toNat=34
 · rw[if_pos c3] at hr
   simp only[Prod.mk.injEq] at hr
   obtain⟨rfl,rfl,rfl⟩:=hr
   exact next_text b s k n lv hk hm hn hlt c1' c2' zam _ _ _ (Lib.hid fun w h=>take_text b s (k+n) _ lv hlt hs _ _ rfl w h) w h
 · rw[if_neg c3] at hr
   exact next_sign b s k n lv hk hm hn hlt c1' c2' zam _ _ _ (Lib.hid fun w h=>take_sign b s (k+n) _ lv hlt zac _ _ hr w h) w h
def lexG (s:List UInt8):Nat→Nat→List (Tok × Nat)→List (Tok × Nat) × Int × Nat
 | 0,_,_=>([],0,0)
 | g+1,k,acc =>
  if s.length≤k+skipL false (s.drop k) then(acc++[(tok0,s.length)],0,0)
  else if (oneF (s.drop (k+skipL false (s.drop k)))).2.2≠0 then([],(oneF (s.drop (k+skipL false (s.drop k)))).2.2,k+skipL false (s.drop k))
  else if acc.length=1024 then([],5,k+skipL false (s.drop k))
  else lexG s g (k+skipL false (s.drop k)+(oneF (s.drop (k+skipL false (s.drop k)))).2.1) (acc++[((oneF (s.drop (k+skipL false (s.drop k)))).1,k+skipL false (s.drop k))])
def lexF (s:List UInt8):List (Tok × Nat) × Int × Nat:=if 4096<s.length then([],5,4096) else lexG s (s.length+1) 0 []
def qap (l:List (Tok × Nat)):List Value:=l.flatMap fun t=>[.int .i64 t.1.k,.int .i64 (t.2:Int),.string t.1.s,.int .i64 t.1.i]
theorem qep (l m:List (Tok × Nat)):qap (l++m)=qap l++qap m:=by simp[qap]
theorem textG_bd (l acc:List UInt8):(textG l acc).2.2=0→1≤(textG l acc).2.1∧(textG l acc).2.1≤l.length:=by
 fun_induction textG l acc
 all_goals intro h
 all_goals first
  | (exfalso;exact absurd h zak)
  | (refine ⟨?_,?_⟩<;>simp only[List.length_cons]<;>omega)
  | (rename_i ih;have h2:=ih h;exact⟨Nat.succ_le_succ (Nat.zero_le _),Nat.succ_le_succ h2.2⟩)
  | (rename_i ih;have h2:=ih h;exact⟨Nat.succ_le_succ (Nat.zero_le _),Nat.succ_le_succ (Nat.succ_le_succ h2.2)⟩)
theorem signF_bd (l:List UInt8) (r:Tok) (n:Nat) (h:signF l=(r,n,0)):1≤n∧n≤l.length:=by
 unfold signF at h
 cases hf:twoL.find? (fun p=>Lib.hasPrefix l p.data.toList) with
 | some p =>
  rw[hf] at h;simp only[Prod.mk.injEq] at h
  obtain⟨_,rfl,_⟩:=h
  have h1:=List.find?_some hf;have h2:=List.mem_of_find?_eq_some hf
  have h3:p.data.toList.length=2:=by
   simp only[twoL,List.mem_cons,List.not_mem_nil,or_false] at h2;rcases h2 with rfl | rfl | rfl | rfl | rfl<;>rfl
  have h4:=(List.isPrefixOf_iff_prefix.1 h1).length_le
  omega
 | none =>
  rw[hf] at h
  cases l with
  | nil=>simp at h
  | cons c l =>
   dsimp only at h
   split at h
   · simp only[Prod.mk.injEq] at h
     obtain⟨_,rfl,_⟩:=h
     simp
   · simp at h
theorem oneF_bd (l:List UInt8) (r:Tok) (n:Nat) (hl:0<l.length) (h:oneF l=(r,n,0)):1≤n∧n≤l.length:=by
 cases l with
 | nil=>simp at hl
 | cons c l =>
  unfold oneF at h;dsimp only at h
  by_cases c1:qao (c.toNat:Int)=true
  · rw[if_pos c1] at h
    simp only[Prod.mk.injEq] at h
    obtain⟨_,rfl,_⟩:=h
    have hb:nameB (c.toNat:Int)=true:=by simp[nameB,c1]
    refine ⟨?_,spanN_le _ _⟩;rw[spanN,if_pos hb];omega
  rw[if_neg c1] at h
  by_cases c2:qai (c.toNat:Int)=true
  · rw[if_pos c2] at h
    have key:n=spanN qai (c::l):=by
     split at h<;>simp only[Prod.mk.injEq] at h<;>exact h.2.1.symm
    rw[key];refine ⟨?_,spanN_le _ _⟩;rw[spanN,if_pos c2];omega
  rw[if_neg c2] at h
  by_cases c3:c.toNat=34
  · rw[if_pos c3] at h
    simp only[Prod.mk.injEq] at h
    obtain⟨_,rfl,h3⟩:=h
    have:=textG_bd l [] h3
    simp only[List.length_cons]
    omega
  · rw[if_neg c3] at h
    exact signF_bd _ r n h
theorem ltV1 (h:a<n):(a<n+x)=True:=by simp;omega
theorem ltV2 (h:a<n):(a<n+x+y)=True:=by simp;omega
theorem ltV3 (h:a<n):(a<n+x+y+z)=True:=by simp;omega
theorem ltV4 {u:Nat} (h:a<n):(a<n+x+y+z+u)=True:=by simp;omega
theorem ltV5 {u v:Nat} (h:a<n):(a<n+x+y+z+u+v)=True:=by simp;omega
attribute [go_sem] ltV1 ltV2 ltV3 ltV4 ltV5
theorem tokInfo:(Tryz.prog.info? 186).map (fun i=>(i.zero,i.size,i.bytes))=some (some (.agg #[.int .i64 0,.int .i64 0,.string ⟨#[]⟩,.int .i64 0]),4,40):=by kernel_rfl
theorem tokens_big (s:ByteArray) (hs:4096<(s.size:Int)) (w:World) :
  Calls Tryz.prog 96 #[.string s] w fun e w'=>e=.returned (.tuple #[.slice none 0 0,.int .i64 5,.int .i64 4096])∧Ext w w':=by
 go_enter Tryz.func96,Tryz.ntmps96
 go_wp2
 go_ret3
 exact⟨rfl,zab⟩
def qdH (w:World) (r:List (Tok × Nat) × Int × Nat) (e:Ending) (w':World):Prop :=
 (r.2.1=0∧∃ g cap,e=.returned (.tuple #[.slice (some ⟨g,0,none⟩) r.1.length cap,.int .i64 0,.int .i64 0])∧w'.ownsRow w.heap.size 186 4 (.slice (some ⟨g,0,none⟩) r.1.length cap) r.1.length (qap r.1)∧Ext w w') ∨
 (r.2.1≠0∧e=.returned (.tuple #[.slice none 0 0,.int .i64 r.2.1,.int .i64 (r.2.2:Int)])∧Ext w w')
theorem qgl {w':World} {r:List (Tok × Nat) × Int × Nat} {v:Value} (h0:r.2.1=0) (hl:0<r.1.length) (hown:w'.ownsRow (w.heap.size+1) 186 4 v r.1.length (qap r.1)) (hx:Ext w w') :
  qdH w r (.returned (.tuple #[v,.int .i64 0,.int .i64 0])) w':=by
 obtain⟨g,cap,rfl,_,_⟩:=hown.form hl
 exact Or.inl ⟨h0,g,cap,rfl,hown.mono zac,hx⟩
theorem qbu (l:List (Tok × Nat)) (t:Tok) (k:Nat):qap (l++[(t,k)])=qap l++[.int .i64 t.k,.int .i64 (k:Int),.string t.s,.int .i64 t.i]:=by rw[qep];rfl
theorem qbY {wr w1 w2:World} {v:Value} (hN:N=w.heap.size) (hb:Below N w wr) (hx:Ext (wr.setCell ⟨N,1,none⟩ v) w1) (hg:w1.grownBy w2 lv.ownBlock) (hl:∀ k,lv.ownBlock=some k→N<k):Ext w w2:=by
 subst hN
 have h1:Ext w wr:=Ext.of_below hb
 have h2:Ext w (wr.setCell ⟨w.heap.size,1,none⟩ v):=h1.setCell (Nat.le_refl _) v
 exact(h2.trans hx).grown hg (fun k hk=>Nat.le_of_lt (hl k hk))
theorem news_split {d1 d2:Nat} {os1 os2:Array Obj} {cs:Array Value} {t:TypeId} (hN:N=w.heap.size+os1.size) :
  ∀ j u,cs.toList[j]?=some u→(more ((more w d1 os1).alloc (.cells cs t)) d2 os2).cell? ((⟨N,0,none⟩:Addr).add j)=some u:=by
 intro j u h
 have hN':N=(more w d1 os1).heap.size:=by rw[more_size];exact hN
 subst hN';rw[Addr.add_lit,qdh _ _ _ _ _ zaj];simp only[World.cell?,heap_alloc_new]
 simpa using h
theorem lex_grown {s:ByteArray} {k:Nat} {w':World} {row:Option Nat} (h:LexAt b s k lv w) (hg:w.grownBy w' row) (hne:row≠some b):LexAt b s k lv w':=by
 obtain⟨h1,h2,h3,h4,h5⟩:=hg
 unfold LexAt;rw[h5 b h.lt (fun e=>hne e.symm)];exact h
theorem LexAt.setL {s:ByteArray} {k:Nat} (h:LexAt b s k lv w) (v:Value):LexAt b s k v (w.setCell ⟨b,2,none⟩ v):=by
 unfold LexAt at h ⊢
 simp[World.setCell,Array.getElem?_modify,h]
theorem qaq {cs:Array Value} {t:TypeId} (hN:N=w.heap.size):∀ j u,cs.toList[j]?=some u→(w.alloc (.cells cs t)).cell? ((⟨N,0,none⟩:Addr).add j)=some u:=by
 intro j u h;subst hN;rw[Addr.add_lit];simp only[World.cell?,heap_alloc_new]
 simpa using h
theorem tokens_x (s:ByteArray) (hs:(s.size:Int)≤4096) (res:List (Tok × Nat) × Int × Nat) (HR:RowKit.Hid (lexG s.data.toList (s.size+1) 0 []=res)) (w:World):Calls Tryz.prog 96 #[.string s] w (qdH w res):=by
 go_enter Tryz.func96,Tryz.ntmps96;go_wp2_with fail
 go_loopg [] (s.size+1) (fun g wr=>∃ (k:Nat) (acc:List (Tok × Nat)) (lv:Value),k≤s.size∧s.size+1≤k+g∧acc.length≤1024∧lexG s.data.toList g k acc=res∧LexAt w.heap.size s k lv wr∧wr.ownsRow (w.heap.size+1) 186 4 lv acc.length (qap acc)∧Below w.heap.size w wr)
 case atStart=>exact⟨0,[],.slice none 0 0,Nat.zero_le _,by omega,by simp,HR.out,(by unfold LexAt;exact heap_alloc_new _ _),World.ownsRow_nil _ _ _ _,(Below.refl _ _).alloc (Nat.le_refl _) _⟩
 case round =>
  obtain⟨k,acc,lv,hk,hkg,hac,hlex,hL,hown,hbl⟩:=hrel
  have hb:=hL.lt
  have hs':s.size≤maxLen:=by unfold maxLen;omega
  have hlen:s.data.toList.length=s.size:=by simp
  obtain⟨g,rfl⟩:∃ g,gk=g+1:=⟨gk-1,by omega⟩
  rw[lexG,hlen] at hlex
  obtain⟨i0,hi,hz0,hz1,hz2⟩:=info_parts tokInfo
  have HOWN:=Lib.hid hown;have HBL:=Lib.hid hbl;have HL:=Lib.hid hL
  by_cases hend:k+skipL false (s.data.toList.drop k)=s.size
  · rw[if_pos zac] at hlex
    have N:=Lib.hid (next_end w.heap.size s k _ lv hk hs' rfl hend wr hL);have HLEX:=Lib.hid hlex
    obtain⟨c0,c1,c2,f1,f2⟩:=hL.cells
    unfold tokV tok0 at N;rw[hend] at N;clear hL hown hbl hend hlex hlen
    go_wp2_with (first
     | (go_at_call 109;refine N.out.mono ?_;rintro e _ ⟨rfl,d,os,rfl⟩)
     | (at_builtin;refine wpList_append_own_at _ rfl _ _ 156 rfl (w.heap.size+1) 186 i0 (.agg #[.int .i64 0,.int .i64 0,.string ⟨#[]⟩,.int .i64 0]) 4 40 Tryz.underlying156 hi hz0 hz1 hz2 rfl zak lv acc.length (qap acc) rfl ?c0 ⟨wr.heap.size+os.size+1,0,none⟩ 1 1 [.int .i64 0,.int .i64 (s.size:Int),.string ⟨#[]⟩,.int .i64 0] rfl rfl ?c1 ?c2 ?c3 ?c4 ?c5 ?_))
    case c0=>exact((own_more (ownsRow_setCell_below HOWN.out zaj _) _ _).alloc _).alloc _
    case c1=>exact qaq zbf
    case c2=>intro u hu;simp at hu;rcases hu with rfl | rfl | rfl | rfl<;>rfl
    case c3=>unfold maxLen;omega
    case c4=>omega
    case c5=>simp[more_size];omega
    intro v' w1 hown' hgrow _ hblk
    go_wp2
    go_ret3;have hl:=HLEX.out;subst hl;refine qgl rfl zaj ?_ (qbY rfl HBL.out zab hgrow (fun k hk=>(HOWN.out.lt k hk).1));rw[qbu]
    simpa [tok0] using hown'
  · -- MORE
    have hle:=qbZ false (s.data.toList.drop k)
    obtain⟨sk,hsk⟩:∃ sk,skipL false (s.data.toList.drop k)=sk:=⟨_,rfl⟩
    rw[hsk] at hlex hend hle
    have hlt:k+sk<s.size:=by simp at hle;omega
    obtain⟨r,n1,er,hr⟩:∃ r n1 er,oneF (s.data.toList.drop (k+sk))=(r,n1,er):=⟨_,_,_,rfl⟩
    rw[if_neg zac,hr] at hlex;dsimp only at hlex;have N:=Lib.hid (next_any w.heap.size s k sk lv hk zac hsk hlt n1 r er hr wr hL)
    obtain⟨m,hm⟩:∃ m,k+sk=m:=⟨_,rfl⟩
    rw[hm] at N hlex hlt hr
    obtain⟨c0,c1,c2,f1,f2⟩:=hL.cells
    by_cases her:er=0
    · subst her
      rw[if_neg zaj] at hlex
      by_cases hfull:acc.length=1024
      · rw[if_pos hfull] at hlex
        have HLEX:=Lib.hid hlex;have HF:=Lib.hid hfull;rw[hfull] at hown
        rcases Go.Joins.ownsRow_forms hown with ⟨rfl,h0⟩ | ⟨g1,cap,rfl⟩
        · omega
        clear hL hown hbl hlex hlen hm hr hsk hfull HOWN
        go_wp2_with (go_at_call 109;refine N.out.mono ?_;rintro e _ ⟨rfl,k2,hk2,d,os,rfl⟩;have HK2:=Lib.hid hk2;clear hk2)
        refine qaa 5 58 (List.replicate 5 false) zaf zaf rfl ?_;refine yac ?_
        repeat(refine Lex.step rfl ?_;intro K hK;unfold StepG;go_simp;(first
          | refine hK _ ?_);clear hK K)
        refine yaa ?_;intro dd oo;go_wp2_with fail;rw[ends_normal];go_wp2_with fail;go_ret3;have hl:=HLEX.out;subst hl;exact Or.inr ⟨by simp,rfl,qbY rfl HBL.out zab (lv:=.slice none 0 0) (grown_refl _ _) (by intro k hk;simp[Value.ownBlock] at hk)⟩
      · rw[if_neg hfull] at hlex
        have HLEX:=Lib.hid hlex
        have hF:((acc.length:Int)==1024)=false:=by simp;omega
        have hbd:=oneF_bd _ r n1 zam hr
        have HBD:RowKit.Hid (1≤n1∧m+n1≤s.size∧s.size+1≤k+g+1∧k≤m∧acc.length+1≤1024):=Lib.hid ⟨hbd.1,by have:=hbd.2;simp at this;omega,by omega,by omega,by omega⟩
        obtain⟨len,cap,p,rfl,hlen2⟩:∃ len cap p,lv=.slice p len cap∧len=acc.length:=by
         rcases Go.Joins.ownsRow_forms hown with ⟨rfl,h0⟩ | ⟨g1,cap,rfl⟩
         · exact⟨_,_,_,rfl,h0.symm⟩
         · exact⟨_,_,_,rfl,rfl⟩
        subst hlen2;clear hL hown hbl hlex hlen hm hr hsk hfull hbd
        go_wp2_with (go_at_call 109;refine N.out.mono ?_;rintro e _ ⟨rfl,k2,hk2,d,os,rfl⟩;have HK2:=Lib.hid hk2;clear hk2)
        refine qaa 7 58 [true,false,false,false,false,false,false] zaf zaf rfl ?_;refine yac ?_;refine Lex.stepP rfl rfl ?_;intro K hK;go_simp;refine hK _ ?_;clear hK K
        iterate 5 (refine Lex.step rfl ?_;intro K hK;unfold StepG;go_simp;refine hK _ ?_;clear hK K)
        refine Lex.sliceLit 54 (.cells #[.int .i64 r.k,.int .i64 (m:Int),.string r.s,.int .i64 r.i] 186) 1 1 rfl rfl (fun d os=>?_) ?_
        · unfold StepG
          go_simp
          exact⟨(Ext.refl _).alloc _,NewSl.of_alloc _ _ _ _ _ _ _ zbf⟩
        refine Lex.nil fun WW hE=>?_
        intro u hu
        obtain⟨d1,os1,d2,os2,rfl,rfl⟩:=hu.split hE
        clear hu hE;go_simp;unfold FillH
        go_wp2_with (at_builtin;refine wpList_append_own_at _ rfl _ _ 156 rfl (w.heap.size+1) 186 i0 (.agg #[.int .i64 0,.int .i64 0,.string ⟨#[]⟩,.int .i64 0]) 4 40 Tryz.underlying156 hi hz0 hz1 hz2 rfl zak (.slice p acc.length cap) acc.length (qap acc) rfl ?c0 ⟨_,0,none⟩ 1 1 [.int .i64 r.k,.int .i64 (m:Int),.string r.s,.int .i64 r.i] rfl rfl ?c1 ?c2 ?c3 ?c4 ?c5 ?_)
        case c0=>repeat(first | (with_reducible exact ownsRow_setCell_below HOWN.out zaj _) | (with_reducible apply own_more) | (with_reducible refine World.ownsRow.alloc ?_ _))
        case c1=>exact news_split zbf
        case c2=>intro u hu;simp at hu;rcases hu with rfl | rfl | rfl | rfl<;>rfl
        case c3=>have:=HBD.out;unfold maxLen;omega
        case c4=>have:=HBD.out;omega
        case c5=>simp[more_size];omega
        intro v' w1 hown' hgrow _ hblk;have k2e:=HK2.out trivial;subst k2e
        have HL1:LexAt w.heap.size s (m+n1) (.slice p acc.length cap) w1:=by
         refine lex_grown ?_ hgrow (fun e=>Nat.lt_irrefl _ ((HOWN.out.lt _ e).1))
         repeat(first | (with_reducible apply LexAt.more) | (with_reducible apply LexAt.alloc) | (with_reducible exact LexAt.set HL.out _ _ rfl))
        obtain⟨c0,c1,c2,f1,f2⟩:=HL1.cells
        have hb1:=HL1.lt
        have hx:Ext w w1:=qbY rfl HBL.out zab hgrow (fun k hk=>(HOWN.out.lt k hk).1)
        obtain⟨g1,cap1,rfl,_,_⟩:=hown'.form zac
        have HOWN1:=Lib.hid hown';have HX:=Lib.hid hx;have HLL:=Lib.hid HL1;clear hown' hgrow hblk HL1 hx HL HOWN HBL N;go_wp2_with fail
        first | rw[ends_normal] | skip
        go_wp2_with fail
        go_roundg g
        case measure=>omega
        case rel =>
         have hq:=HBD.out;refine ⟨m+n1,acc++[(r,m)],_,by omega,by omega,by simp;omega,HLEX.out,HLL.out.setL _,?_,(HX.out.setCell (Nat.le_refl _) _).below⟩;rw[qbu]
         have:=ownsRow_setCell_below HOWN1.out (a:=⟨w.heap.size,2,none⟩) zaj (.slice (some ⟨g1,0,none⟩) (acc.length+1) cap1)
         simpa using this
    · rw[if_pos her] at hlex
      have HLEX:=Lib.hid hlex
      have he1:(er==0)=false:=by simpa using her
      have he2:(er !=0)=true:=by simpa using her
      have HE:=Lib.hid her;clear hL hown hbl hlex hlen hm hr hsk her
      go_wp2_with (go_at_call 109;refine N.out.mono ?_;rintro e _ ⟨rfl,k2,hk2,d,os,rfl⟩;have HK2:=Lib.hid hk2;clear hk2)
      refine qaa 6 58 (List.replicate 6 false) zaf zaf rfl ?_;refine yac ?_
      repeat(refine Lex.step rfl ?_;intro K hK;unfold StepG;go_simp;(first
        | refine hK _ ?_);clear hK K)
      refine yaa ?_;intro dd oo;go_wp2_with fail;rw[ends_normal];go_wp2_with fail;go_ret3;have hl:=HLEX.out;subst hl;exact Or.inr ⟨HE.out,rfl,qbY rfl HBL.out zab (lv:=.slice none 0 0) (grown_refl _ _) (by intro k hk;simp[Value.ownBlock] at hk)⟩
theorem qfx (s:ByteArray) (res:List (Tok × Nat) × Int × Nat) (hr:lexF s.data.toList=res) (w:World):Calls Tryz.prog 96 #[.string s] w (qdH w res):=by
 have hl:s.data.toList.length=s.size:=by simp
 unfold lexF at hr
 by_cases h:4096<s.data.toList.length
 · rw[if_pos h] at hr
   subst hr
   exact(tokens_big s zac w).mono fun e w' ⟨h1,h2⟩=>Or.inr ⟨by simp,h1,h2⟩
 · rw[if_neg h,hl] at hr
   exact tokens_x s zac res (Lib.hid hr) w
def quo1 (c:UInt8):List UInt8:=if c.toNat=10 then [92,110] else if c.toNat=34∨c.toNat=92 then [92,c] else [c]
def okQ (c:UInt8):Bool:=decide (c.toNat=10∨(32≤c.toNat∧c.toNat≤126))
def qbM (s:List UInt8):List UInt8 × Int:=if 64<s.length then([],5) else if s.all okQ=true then(34::s.flatMap quo1++[34],0) else([],3)
theorem textG_cons (c:UInt8) (l acc:List UInt8):textG (c::l) acc =
  if c.toNat=34 then(if 64<acc.length then(tok0,0,5) else(⟨3,⟨acc.toArray⟩,0⟩,1,0))
  else if c.toNat<32∨126<c.toNat then(tok0,0,3)
  else if c.toNat≠92 then(let r:=textG l (acc++[c]);(r.1,r.2.1+1,r.2.2))
  else match l with
   | []=>(tok0,0,2)
   | d::l'=>if escZ (d.toNat:Int)=0 then(tok0,0,3) else(let r:=textG l' (acc++[UInt8.ofNat (escZ (d.toNat:Int)).toNat]);(r.1,r.2.1+2,r.2.2)):=by
 cases l<;>rw[textG.eq_def]
theorem quo1_len (s:List UInt8):(s.flatMap quo1).length≤2*s.length:=by
 induction s with
 | nil=>simp
 | cons c s ih =>
  have:(quo1 c).length≤2:=by unfold quo1;(repeat' split)<;>simp
  simp only[List.flatMap_cons,List.length_append,List.length_cons]
  omega
theorem qeJ {B:Nat} {acc:List UInt8} {l:List Value} {m:List UInt8} (h:Bld B b (qag acc++l) w) (hl:l=qag m):Bld B b (qag (acc++m)) w:=by
 rw[qbS,←hl];exact h
theorem qbG (L:List UInt8) (k:Nat) (u:UInt8) (hu:L[k]?=some u):(L.take (k+1)).flatMap quo1=(L.take k).flatMap quo1++quo1 u:=by
 rw[List.take_add_one,hu];simp[List.flatMap_append]
theorem ok_step (L:List UInt8) (k:Nat) (u:UInt8) (hu:L[k]?=some u) (h:(L.take k).all okQ=true):(L.take (k+1)).all okQ=okQ u:=by
 rw[List.take_add_one,hu,List.all_append,h];simp
theorem ok_bad (L:List UInt8) (k:Nat) (u:UInt8) (hu:L[k]?=some u) (h:okQ u=false):L.all okQ=false:=by
 have hk:=(List.getElem?_eq_some_iff.1 hu)
 rw[List.all_eq_false]
 exact⟨u,List.mem_of_getElem? hu,by simp[h]⟩
theorem ok_done (L:List UInt8) (k:Nat) (hk:L.length≤k) (h:(L.take k).all okQ=true):L.all okQ=true:=by rwa [List.take_of_length_le hk] at h
theorem quote_any (s:ByteArray) (q:List UInt8) (er:Int) (hr:qbM s.data.toList=(q,er)) (w:World) :
  Calls Tryz.prog 229 #[.string s] w fun e w'=>e=.returned (.tuple #[.string ⟨q.toArray⟩,.int .i64 er])∧Ext w w':=by
 have hl:s.data.toList.length=s.size:=by simp
 unfold qbM at hr
 by_cases h64:64<s.data.toList.length
 · rw[if_pos h64] at hr
   simp only[Prod.mk.injEq] at hr
   obtain⟨rfl,rfl⟩:=hr
   have h64':(64:Int)<s.size:=by omega
   clear h64 hl;go_enter Tryz.func229,Tryz.ntmps229;go_wp2_with fail;go_ret2
   exact⟨rfl,zab⟩
 rw[if_neg h64] at hr
 have h64':(s.size:Int)≤64:=by omega
 clear h64 hl;go_enter Tryz.func229,Tryz.ntmps229;go_wp2_with fail;refine (qat w.heap.size w.heap.size (qag []) 34 _ (Lib.fresh_isBuilder 236 5 w) (by simp[qag]) zaj).mono ?_;rintro e w1 ⟨rfl,hB1,hbl1⟩;have HB1:=Lib.hid hB1;have HBL1:=Lib.hid (((Below.refl _ _).alloc (Nat.le_refl _) _).trans hbl1);clear hB1 hbl1;go_wp2_with fail;go_loopw [13] (fun ii wr=>∃ (k:Nat) (acc:List UInt8),ii=.int .i64 (k:Int)∧k≤s.size∧(s.data.toList.take k).all okQ=true∧acc=34::(s.data.toList.take k).flatMap quo1∧Bld w.heap.size w.heap.size (qag acc) wr∧Below w.heap.size w wr) (fun ii _=>s.size-(intOf ii).toNat)
 case atStart=>exact⟨0,[34],rfl,Nat.zero_le _,rfl,rfl,HB1.out,HBL1.out⟩
 case round =>
  obtain⟨k,acc,rfl,hk,hok,hacc,hg,hbl⟩:=hrel
  have hal:acc.length≤200:=by
   have:=quo1_len (s.data.toList.take k)
   rw[hacc];simp at this ⊢;omega
  have HAL:=Lib.hid hal;have HBL:=Lib.hid hbl;have HB:=Lib.hid hg;clear hal hbl HB1 HBL1;have HK:=Lib.hid hok;have HAC:=Lib.hid hacc;have HGX:=Lib.hid hg;clear hok hacc hg
  by_cases hlt:k<s.size
  · have hu:s.data.toList[k]?=some (s[k]'hlt):=by rw[List.getElem?_eq_getElem (by simpa using hlt)];rfl
    have h256:=(s[k]'hlt).toNat_lt;have HU:=Lib.hid hu;clear hu
    by_cases c1:(s[k]'hlt).toNat=10
    · have e1:((s[k]'hlt).toNat:Int)=10:=by first | omega | (simp;omega)
      have hq1:quo1 (s[k]'hlt)=[92,110]:=by rw[quo1,if_pos c1]
      have hst:=qbG _ k _ HU.out;rw[hq1] at hst;have HST:=Lib.hid hst;have HOK:=Lib.hid (by rw[ok_step _ k _ HU.out HK.out];simp[okQ];omega:(s.data.toList.take (k+1)).all okQ=true);clear hq1 hst;go_wp2_with fail;refine (qet w.heap.size w.heap.size (qag acc) ⟨#[92,110]⟩ _ HB.out (by rw[cellsB_length];have:=HAL.out;have e:(⟨#[92,110]⟩:ByteArray).size=2:=rfl;omega) (by have:=HBL.out.size;omega)).mono ?_;rintro e w2 ⟨rfl,hB2,hbl2⟩;have HB2:=Lib.hid hB2;have HBL2:=Lib.hid (HBL.out.trans hbl2);clear hB2 hbl2;go_wp2_with fail;go_roundw
      case rel =>
       refine ⟨k+1,_,by go_num,by omega,HOK.out,?_,qeJ HB2.out (m:=[92,110]) (by rfl),HBL2.out⟩;rw[HST.out,HAC.out];simp
      case measure=>simp[intOf];omega
    by_cases c2:(s[k]'hlt).toNat<32
    · have e1:(((s[k]'hlt).toNat:Int)==10)=false:=by first | omega | (simp;omega)
      have e2:(((s[k]'hlt).toNat:Int)<32)=True:=by first | omega | (simp;omega)
      have hbad:=Lib.hid (ok_bad _ k _ HU.out (by simp[okQ];omega));go_wp2_with fail;go_ret2;rw[hbad.out] at hr;simp only[Bool.false_eq_true,if_false,Prod.mk.injEq] at hr
      obtain⟨rfl,rfl⟩:=hr
      exact⟨rfl,Ext.of_below HBL.out⟩
    by_cases c3:126<(s[k]'hlt).toNat
    · have e1:(((s[k]'hlt).toNat:Int)==10)=false:=by first | omega | (simp;omega)
      have e2:(((s[k]'hlt).toNat:Int)<32)=False:=by first | omega | (simp;omega)
      have e3:(126<((s[k]'hlt).toNat:Int))=True:=by first | omega | (simp;omega)
      have hbad:=Lib.hid (ok_bad _ k _ HU.out (by simp[okQ];omega));go_wp2_with fail;go_ret2;rw[hbad.out] at hr;simp only[Bool.false_eq_true,if_false,Prod.mk.injEq] at hr
      obtain⟨rfl,rfl⟩:=hr
      exact⟨rfl,Ext.of_below HBL.out⟩
    by_cases c4:(s[k]'hlt).toNat=34
    · have e1:((s[k]'hlt).toNat:Int)=34:=by first | omega | (simp;omega)
      have hq1:quo1 (s[k]'hlt)=[92,s[k]'hlt]:=by rw[quo1,if_neg c1,if_pos (Or.inl c4)]
      have hst:=qbG _ k _ HU.out;rw[hq1] at hst;have HST:=Lib.hid hst;have HOK:=Lib.hid (by rw[ok_step _ k _ HU.out HK.out];simp[okQ];omega:(s.data.toList.take (k+1)).all okQ=true);clear hq1 hst;go_wp2_with fail;refine (qat w.heap.size w.heap.size (qag acc) _ _ HB.out zbb (by have:=HBL.out.size;omega)).mono ?_;rintro e w2 ⟨rfl,hB2,hbl2⟩;have HB2:=Lib.hid hB2;have HBL2:=Lib.hid (HBL.out.trans hbl2);clear hB2 hbl2;go_wp2_with fail;refine (qat w.heap.size w.heap.size (qag acc++[.int .u8 92]) 34 _ HB2.out zbb (by have:=HBL2.out.size;omega)).mono ?_;rintro e w3 ⟨rfl,hB3,hbl3⟩;have HB3:=Lib.hid hB3;have HBL3:=Lib.hid (HBL2.out.trans hbl3)
      clear hB3 hbl3;go_wp2_with fail;go_roundw
      case rel =>
       refine ⟨k+1,_,by go_num,by omega,HOK.out,?_,qeJ (l:=[.int .u8 92,.int .u8 34]) (by simpa using HB3.out) (m:=[92,s[k]'hlt]) (by simp[qag,c4]),HBL3.out⟩;rw[HST.out,HAC.out];simp
      case measure=>simp[intOf];omega
    by_cases c5:(s[k]'hlt).toNat=92
    · have e1:((s[k]'hlt).toNat:Int)=92:=by first | omega | (simp;omega)
      have hq1:quo1 (s[k]'hlt)=[92,s[k]'hlt]:=by rw[quo1,if_neg c1,if_pos (Or.inr c5)]
      have hst:=qbG _ k _ HU.out;rw[hq1] at hst;have HST:=Lib.hid hst;have HOK:=Lib.hid (by rw[ok_step _ k _ HU.out HK.out];simp[okQ];omega:(s.data.toList.take (k+1)).all okQ=true);clear hq1 hst;go_wp2_with fail;refine (qat w.heap.size w.heap.size (qag acc) _ _ HB.out zbb (by have:=HBL.out.size;omega)).mono ?_;rintro e w2 ⟨rfl,hB2,hbl2⟩;have HB2:=Lib.hid hB2;have HBL2:=Lib.hid (HBL.out.trans hbl2);clear hB2 hbl2;go_wp2_with fail;refine (qat w.heap.size w.heap.size (qag acc++[.int .u8 92]) 92 _ HB2.out zbb (by have:=HBL2.out.size;omega)).mono ?_;rintro e w3 ⟨rfl,hB3,hbl3⟩;have HB3:=Lib.hid hB3;have HBL3:=Lib.hid (HBL2.out.trans hbl3)
      clear hB3 hbl3;go_wp2_with fail;go_roundw
      case rel =>
       refine ⟨k+1,_,by go_num,by omega,HOK.out,?_,qeJ (l:=[.int .u8 92,.int .u8 92]) (by simpa using HB3.out) (m:=[92,s[k]'hlt]) (by simp[qag,c5]),HBL3.out⟩;rw[HST.out,HAC.out];simp
      case measure=>simp[intOf];omega
    · have e1:(((s[k]'hlt).toNat:Int)==10)=false:=by first | omega | (simp;omega)
      have e2:(((s[k]'hlt).toNat:Int)<32)=False:=by first | omega | (simp;omega)
      have e3:(126<((s[k]'hlt).toNat:Int))=False:=by first | omega | (simp;omega)
      have e4:(((s[k]'hlt).toNat:Int)==34)=false:=by first | omega | (simp;omega)
      have e5:(((s[k]'hlt).toNat:Int)==92)=false:=by first | omega | (simp;omega)
      have hq1:quo1 (s[k]'hlt)=[s[k]'hlt]:=by rw[quo1,if_neg c1,if_neg zac]
      have hst:=qbG _ k _ HU.out;rw[hq1] at hst;have HST:=Lib.hid hst;have HOK:=Lib.hid (by rw[ok_step _ k _ HU.out HK.out];simp[okQ];omega:(s.data.toList.take (k+1)).all okQ=true);clear hq1 hst;go_wp2_with fail;refine (qat w.heap.size w.heap.size (qag acc) _ _ HB.out zbb (by have:=HBL.out.size;omega)).mono ?_;rintro e w2 ⟨rfl,hB2,hbl2⟩;have HB2:=Lib.hid hB2;have HBL2:=Lib.hid (HBL.out.trans hbl2);clear hB2 hbl2;go_wp2_with fail;go_roundw
      case rel =>
       refine ⟨k+1,_,by go_num,by omega,HOK.out,?_,qeJ HB2.out (m:=[s[k]'hlt]) (by rfl),HBL2.out⟩;rw[HST.out,HAC.out];simp
      case measure=>simp[intOf];omega
  · have hks:k=s.size:=by omega
    have hd:=ok_done s.data.toList k zam HK.out;rw[if_pos hd] at hr;simp only[Prod.mk.injEq] at hr
    obtain⟨rfl,rfl⟩:=hr
    have he:acc=34::s.data.toList.flatMap quo1:=by have:=HAC.out;rwa [List.take_of_length_le zam] at this
    have HE:=Lib.hid he;subst hks;clear hd he;go_wp2_with fail;refine (qat w.heap.size w.heap.size (qag acc) _ _ HB.out zbb (by have:=HBL.out.size;omega)).mono ?_;rintro e w2 ⟨rfl,hB2,hbl2⟩
    have hB3:Bld w.heap.size w.heap.size (qag (acc++[34])) w2:=qeJ hB2 rfl
    have HB2:=Lib.hid hB3;have HBL2:=Lib.hid (HBL.out.trans hbl2);clear hB2 hbl2 hB3;go_wp2_with fail;refine (Tryz.Builder_String_any w.heap.size w.heap.size (acc++[34]) _ HB2.out (by have:=HBL2.out.size;omega)).mono ?_;rintro e w3 ⟨rfl,hbl3⟩;have HBL3:=Lib.hid (HBL2.out.trans hbl3);clear hbl3;go_wp2_with fail;go_ret2;rw[HE.out]
    exact⟨rfl,Ext.of_below HBL3.out⟩
theorem u8_eq {u n:UInt8} (h:u.toNat=n.toNat):(u==n)=true:=by rw[beq_iff_eq];exact UInt8.toNat_inj.1 h
theorem u8_ne {u n:UInt8} (h:u.toNat≠n.toNat):(u==n)=false:=by rw[beq_eq_false_iff_ne];exact fun e=>h (by rw[e])
theorem one_byte (s:ByteArray) (k:Nat) (h:k<s.size):s.extract k (k+1)=⟨#[s[k]'h]⟩:=by
 apply ByteArray.ext
 apply Array.ext'
 have hd:s.data.toList.drop k=s[k]'h::s.data.toList.drop (k+1):=List.drop_eq_getElem_cons zbn
 simp[List.extract_eq_take_drop,hd]
theorem ba_app (a b:List UInt8):(⟨a.toArray⟩:ByteArray)++⟨b.toArray⟩=⟨(a++b).toArray⟩:=by
 apply ByteArray.ext
 simp
def wordsT:List UInt8:=[32,97,98,111,114,116,32,97,110,100,32,100,101,108,101,116,101,32,101,108,115,101,32,102,97,108,115,101,32,102,111,114,32,103,101,116,32,104,97,115,32,105,102,32,105,110,32,108,101,110,32,108,101,116,32,110,105,108,32,110,111,116,32,111,114,32,112,117,116,32,114,101,112,101,97,116,32,114,101,116,117,114,110,32,115,99,97,110,32,115,101,116,32,115,104,111,119,32,116,114,117,101,32]
def lowB (c:UInt8):Bool:=decide (97≤c.toNat∧c.toNat≤122)
def qdf (l:List UInt8):Bool:=wordL.any (fun x=>l==x.data.toList)||l==[116,114,117,101]
theorem qed (s:ByteArray):wordB s=qdf s.data.toList:=by
 unfold wordB qdf;simp only[Lib.toList_data]
def hitL (l:List UInt8) (k:Nat):Bool:=(wordsT.drop k).take (l.length+2)==32::l++[32]
theorem hit_eq (s:ByteArray) (k:Nat) (h:k+s.size+2≤103):((({ data:=#[32,97,98,111,114,116,32,97,110,100,32,100,101,108,101,116,101,32,101,108,115,101,32,102,97,108,115,101,32,102,111,114,32,103,101,116,32,104,97,115,32,105,102,32,105,110,32,108,101,110,32,108,101,116,32,110,105,108,32,110,111,116,32,111,114,32,112,117,116,32,114,101,112,101,97,116,32,114,101,116,117,114,110,32,115,99,97,110,32,115,101,116,32,115,104,111,119,32,116,114,117,101,32] }:ByteArray).extract k (k+s.size+2)).toList==(({ data:=#[32] }:ByteArray)++s++{ data:=#[32] }).toList)=hitL s.data.toList k:=by
 unfold hitL wordsT;simp only[Lib.toList_data]
 have e1:(({ data:=#[32,97,98,111,114,116,32,97,110,100,32,100,101,108,101,116,101,32,101,108,115,101,32,102,97,108,115,101,32,102,111,114,32,103,101,116,32,104,97,115,32,105,102,32,105,110,32,108,101,110,32,108,101,116,32,110,105,108,32,110,111,116,32,111,114,32,112,117,116,32,114,101,112,101,97,116,32,114,101,116,117,114,110,32,115,99,97,110,32,115,101,116,32,115,104,111,119,32,116,114,117,101,32] }:ByteArray).extract k (k+s.size+2)).data.toList=(wordsT.drop k).take (s.data.toList.length+2):=by
  have hl:s.data.toList.length=s.size:=by simp
  have e:k+s.size+2-k=s.size+2:=by omega
  rw[hl];simp only[ByteArray.data_extract,Array.toList_extract,List.extract_eq_take_drop,e]
  rfl
 rw[e1]
 have e2:(({ data:=#[32] }:ByteArray)++s++{ data:=#[32] }).data.toList=32::s.data.toList++[32]:=by simp
 rw[e2]
 rfl
def chk:Bool:=(List.range 103).all fun k=>(List.range 102).all fun n=>!(wordsT.getD k 0==32&&wordsT.getD (k+n+1) 0==32&&((wordsT.drop (k+1)).take n).all lowB)||(n==0||qdf ((wordsT.drop (k+1)).take n))
theorem chk_true:chk=true:=by kernel_rfl
def chk2:Bool:=(wordL.map (fun x:ByteArray=>x.data.toList)++[[116,114,117,101]]).all fun l:List UInt8=>l.all lowB&&!l.isEmpty&&(List.range 103).any fun k=>decide (k+l.length+2≤103)&&hitL l k
theorem chk2_true:chk2=true:=by kernel_rfl
theorem isWord_mem (l:List UInt8) (h:qdf l=true):l∈wordL.map (fun x:ByteArray=>x.data.toList)++[[116,114,117,101]]:=by
 unfold qdf at h;simp only[Bool.or_eq_true,List.any_eq_true,beq_iff_eq] at h
 rcases h with ⟨x,hx,rfl⟩ | rfl
 · exact List.mem_append_left _ (List.mem_map.2 ⟨x,hx,rfl⟩)
 · exact List.mem_append_right _ zaj
theorem qdM (l:List UInt8) (h:qdf l=true):l.all lowB=true∧l≠[]∧∃ k,k+l.length+2≤103∧hitL l k=true:=by
 have:=List.all_eq_true.1 chk2_true l (isWord_mem l h)
 simp only[Bool.and_eq_true,List.any_eq_true,decide_eq_true_eq] at this
 obtain⟨⟨h1,h2⟩,k,_,h3,h4⟩:=this
 exact⟨h1,by simpa using h2,k,h3,h4⟩
theorem hit_word (l:List UInt8) (k:Nat) (hk:k+l.length+2≤103) (hl:l.all lowB=true) (hne:l≠[]) (h:hitL l k=true):qdf l=true:=by
 have hpos:0<l.length:=by cases l<;>simp at hne ⊢
 have h1:=List.all_eq_true.1 chk_true k (List.mem_range.2 zac);have h2:=List.all_eq_true.1 h1 l.length (List.mem_range.2 zac)
 have he:(wordsT.drop k).take (l.length+2)=32::l++[32]:=by simpa [hitL] using h
 have hg:∀ j,j<l.length+2→wordsT[k+j]?=(32::l++[32])[j]?:=by
  intro j hj;rw[←he,List.getElem?_take,if_pos hj,List.getElem?_drop]
 have g0:wordsT[k]?=some 32:=by have:=hg 0 zac;simpa using this
 have g1:wordsT[k+l.length+1]?=some 32:=by
  have:=hg (l.length+1) zac
  rw[Nat.add_assoc,this]
  simp
 have gm:(wordsT.drop (k+1)).take l.length=l:=by
  have e:wordsT.drop (k+1)=(wordsT.drop k).drop 1:=by rw[List.drop_drop]
  rw[e,List.take_drop]
  have e2:((wordsT.drop k).take (1+l.length))=((wordsT.drop k).take (l.length+2)).take (1+l.length):=by rw[List.take_take];congr 1;omega
  rw[e2,he]
  simp[List.take_append,Nat.add_comm 1]
 rw[gm,hl] at h2;simp only[List.getD,g0,g1,Option.getD_some] at h2
 have hn0:(l.length==0)=false:=by simpa using hne
 simpa [hn0] using h2
theorem lows_bad (s:ByteArray) (k:Nat) (h:k<s.size) (hb:lowB (s[k]'h)=false):wordB s=false:=by
 rw[qed]
 cases hw:qdf s.data.toList
 · rfl
 · have h1:=(qdM _ hw).1
   have hu:s.data.toList[k]?=some (s[k]'h):=by rw[List.getElem?_eq_getElem zbn];rfl
   have:=List.all_eq_true.1 h1 _ (List.mem_of_getElem? hu)
   rw[hb] at this;cases this
theorem lows_step (s:ByteArray) (k:Nat) (h:k<s.size) (ha:(s.data.toList.take k).all lowB=true) (hb:lowB (s[k]'h)=true):(s.data.toList.take (k+1)).all lowB=true:=by
 have hu:s.data.toList[k]?=some (s[k]'h):=by rw[List.getElem?_eq_getElem zbn];rfl
 rw[List.take_add_one,hu,List.all_append,ha]
 simpa using hb
theorem word_hit (s:ByteArray) (k:Nat) (hk:k+s.size+2≤103) (hl:(s.data.toList.take s.size).all lowB=true) (hne:¬ s.toList=[]) (h:hitL s.data.toList k=true):wordB s=true:=by
 rw[qed]
 have e:s.data.toList.take s.size=s.data.toList:=List.take_of_length_le zaj
 rw[e] at hl;exact hit_word _ k (by simpa using hk) hl (by rw[Lib.toList_data] at hne;exact hne) h
theorem word_nohit (s:ByteArray) (h:∀ k,k+s.size+2≤103→hitL s.data.toList k=false):wordB s=false:=by
 rw[qed]
 cases hw:qdf s.data.toList
 · rfl
 · obtain⟨_,_,k,hk,hh⟩:=qdM _ hw
   rw[h k (by simpa using hk)] at hh;cases hh
theorem word_none (s:ByteArray) (h:s.toList=[]):wordB s=false:=by
 rw[qed];rw[Lib.toList_data] at h;rw[h];rfl
theorem rword_big (s:ByteArray) (hs:(s.size:Int)≤100000) (w:World):Calls Tryz.prog 141 #[.string s] w fun e w'=>e=.returned (.bool (wordB s))∧Ext w w':=by
 have HB:=Lib.hid (lows_bad s);have HSt:=Lib.hid (lows_step s);have HH:=Lib.hid (word_hit s);have HNH:=Lib.hid (word_nohit s);have HE:=Lib.hid (hit_eq s);have HWN:=Lib.hid (word_none s);generalize wordB s=B at *;go_enter Tryz.func141,Tryz.ntmps141;go_wp2_with fail
 go_loop [3] (fun ii=>∃ k:Nat,ii=.int .i64 k∧k≤s.size∧(s.data.toList.take k).all lowB=true) (fun ii=>s.size-(intOf ii).toNat)
 case atStart=>exact⟨0,rfl,by omega,rfl⟩
 case round =>
  obtain⟨k,rfl,hk,hn⟩:=hrel
  have HN:=Lib.hid hn;clear hn
  by_cases hlt:k<s.size
  · cases hlow:lowB (s[k]'hlt)
    · have hf:=Lib.hid (HB.out k hlt hlow)
      by_cases q1:(s[k]'hlt).toNat<97
      · have e1:(((s[k]'hlt).toNat:Int)<97)=True:=by simp;omega
        clear q1 hlow;go_wp2_with fail;go_ret
        exact⟨ret_bool hf.out.symm,Ext.refl _⟩
      · have e1:(((s[k]'hlt).toNat:Int)<97)=False:=by simp;omega
        have e2:(122<((s[k]'hlt).toNat:Int))=True:=by simp[lowB] at hlow ⊢;omega
        clear q1 hlow;go_wp2_with fail;go_ret
        exact⟨ret_bool hf.out.symm,Ext.refl _⟩
    · have HST:=Lib.hid (HSt.out k hlt HN.out hlow)
      have e1:(((s[k]'hlt).toNat:Int)<97)=False:=by simp[lowB] at hlow ⊢;omega
      have e2:(122<((s[k]'hlt).toNat:Int))=False:=by simp[lowB] at hlow ⊢;omega
      clear hlow;go_wp2_with fail
      go_round
      case rel=>exact⟨k+1,by go_num,by omega,HST.out⟩
      case measure=>simp[intOf];omega
  · have hks:k=s.size:=by omega
    subst hks;go_wp2_with fail
    go_loop [4] (fun ii=>∃ k:Nat,ii=.int .i64 k∧k≤103∧∀ j,j<k→j+s.size+2≤103→hitL s.data.toList j=false) (fun ii=>103-(intOf ii).toNat)
    case atStart=>exact⟨0,rfl,by omega,fun j hj=>absurd hj zac⟩
    case round =>
     obtain⟨k,rfl,hk,hno⟩:=hrel
     have HNO:=Lib.hid hno;clear hno
     by_cases hlt:k+s.size+2≤103
     · by_cases hnil:s.toList=[]
       · have hf:=Lib.hid (HWN.out hnil)
         go_wp2_with fail
         go_round
         case rel =>
          refine ⟨k+1,by go_num,by omega,fun j hj hj2=>?_⟩;rcases Nat.lt_or_ge j k with h | h
          · exact HNO.out j h hj2
          · have e:j=k:=by omega
            subst e
            cases hh:hitL s.data.toList j
            · rfl
            · exfalso
              have hl:s.data.toList=[]:=by rw[Lib.toList_data] at hnil;exact hnil
              rw[hl] at hh
              have e2:s.size=0:=by rw[←ByteArray.size_data,←Array.length_toList,hl];rfl
              exact absurd hh (by
               have:∀ j,j<103→hitL [] j=false:=by decide +kernel
               simp[this j zac])
         case measure=>simp[intOf];omega
       · cases hh:hitL s.data.toList k
         · have hx:=HE.out k hlt
           rw[hh] at hx;have HHH:=Lib.hid hh;clear hh;go_wp2_with fail
           go_round
           case rel =>
            refine ⟨k+1,by go_num,by omega,fun j hj hj2=>?_⟩;rcases Nat.lt_or_ge j k with h | h
            · exact HNO.out j h hj2
            · have e:j=k:=by omega
              subst e;exact HHH.out
           case measure=>simp[intOf];omega
         · have hx:=HE.out k hlt
           rw[hh] at hx;have hf:=Lib.hid (HH.out k hlt HN.out hnil hh)
           have hne:(!s.toList.isEmpty)=true:=by simpa using hnil
           clear hh;go_wp2_with fail;go_ret
           exact⟨ret_bool hf.out.symm,Ext.refl _⟩
     · have hf:=Lib.hid (HNH.out fun j hj=>HNO.out j zac hj)
       go_wp2_with fail;go_ret
       exact⟨ret_bool hf.out.symm,Ext.refl _⟩
theorem rword_any (s:ByteArray) (hs:(s.size:Int)≤100) (w:World):Calls Tryz.prog 141 #[.string s] w fun e w'=>e=.returned (.bool (wordB s))∧Ext w w':=rword_big s zac w
end Go.Proofs.YtpnabjopfpdkhaaGreatDoor
