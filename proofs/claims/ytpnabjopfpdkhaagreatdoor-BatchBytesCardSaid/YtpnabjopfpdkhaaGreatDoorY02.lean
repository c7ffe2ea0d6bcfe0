/- Lemmas. -/
import Derived.Test.YtpnabjopfpdkhaaGreatDoorY01
import Derived.Deep.OwnRows
import Derived.Lib.SmallJoins
set_option linter.all false
set_option maxHeartbeats 8000000
set_option maxRecDepth 20000
namespace Go.Proofs.YtpnabjopfpdkhaaGreatDoor
open Tryz RowKit
def skipL:Bool->List UInt8->Nat
 | _,[]=>0
 | true,c::l=>if c.toNat=10 then skipL false l+1 else skipL true l+1
 | false,c::l=>if c.toNat=32\/c.toNat=9\/c.toNat=10 then skipL false l+1 else if c.toNat=35 then skipL true l+1 else 0
def qch:∀ (q:Bool) (l:List UInt8),skipL q l<=l.length
  | _,[]=>by simp[skipL]
  | true,c::l=>by have h1:=qch false l;have h2:=qch true l;simp only[skipL,List.length_cons];split<;>omega
  | false, c :: l => by have h1 := qch false l; have h2 := qch true l; simp only [skipL, List.length_cons]; repeat' split
                        all_goals omega
def qfE:∀ l:List UInt8,skipL true l=spanN noNl l+skipL false (l.drop (spanN noNl l))
 | []=>by simp[skipL,spanN]
 | c::l=>by
  have ih:=qfE l;by_cases h:c.toNat=10
  . have e:noNl (c.toNat:Int)=false:=(by simp[noNl,h])
    rw[show spanN noNl (c::l)=0 from by rw[spanN,e];rfl];simp[skipL,h]
  . have e:noNl (c.toNat:Int)=true:=(by simp[noNl];omega)
    rw[spanN,if_pos e];simp[skipL,h];omega
def skip_mark (l:List UInt8) (u:UInt8) (h:u.toNat=35):skipL false (u::l)=spanN noNl (u::l)+skipL false ((u::l).drop (spanN noNl (u::l))):=by
 have e:noNl (u.toNat:Int)=true:=by simp[noNl];omega
 have:=qfE l;rw[spanN,if_pos e];simp[skipL,h];omega
def blank_any (b:Nat) (s:ByteArray) (k n:Nat) (lv:Value) (w:World) (h:LexAt b s k lv w) (hk:k<=s.size) (hs:s.size<=maxLen) (hn:skipL false (s.data.toList.drop k)=n) :
  Calls prog 123 #[.pointer (some ⟨b,0,none⟩)] w fun e w'=>e=.returned (.tuple #[])/\LexAt b s (k+n) lv w'/\w.grownBy w' (some b):=by
 have hmx:=hs;unfold maxLen at hs;have HN:=J hn;have HL:=J h;clear hn h;go_enter func123,ntmps123;go_wp2_with fail
 go_loopg [] (s.size-k) (fun g wr=>∃ m,k<=m/\m<=s.size/\g=s.size-m/\m+skipL false (s.data.toList.drop m)=k+n/\LexAt b s m lv wr/\w.grownBy wr (some b))
 case atStart=>exact⟨k,Y,Y,Y,jj,HL.out,grown_refl _ _⟩
 case round =>
  obtain⟨m,hkm,hms,hgk,hsp,hL,hg⟩:=hrel;have HLL:=J hL;have HG:=J hg;have HGK:=J hgk;obtain⟨c0,c1,c2,f1,f2⟩:=hL.cells;have hb:=hL.lt;clear hL hg hgk HN HL;by_cases hlt:m<s.size
  . have hml:m<s.data.toList.length:=jb;have hd:s.data.toList.drop m=s[m]'hlt::s.data.toList.drop (m+1):=List.drop_eq_getElem_cons hml;have h256:=(s[m]'hlt).toNat_lt;by_cases q1:((s[m]'hlt).toNat:Int)=32\/((s[m]'hlt).toNat:Int)=9\/((s[m]'hlt).toNat:Int)=10
    . rw[hd] at hsp;rw[skipL,if_pos Y] at hsp;have HS:=J hsp;clear hsp hd h256 hml;rcases q1 with q1 | q1 | q1
      all_goals
       go_wp2_with fail;refine qaa 9 36 (List.replicate 9 false) zv zv rfl ?_;refine zh ?_
       repeat(refine Lex.step rfl ?_;intro K hK;unfold StepG;go_simp;(first
         | refine hK _ ?_);clear hK K)
       refine zd ?_;intro dd oo;go_wp2_with fail;rw[ends_normal];go_wp2_with fail;refine qaa 8 36 (List.replicate 8 false) zv zv rfl ?_;refine zh ?_
       repeat(refine Lex.step rfl ?_;intro K hK;unfold StepG;go_simp;(first
         | refine hK _ ?_);clear hK K)
       refine zd ?_;intro dd oo;go_wp2_with fail;rw[ends_normal];go_wp2_with fail
       go_roundg (gk-1)
       case measure=>have:=HGK.out;omega
       case rel=>exact⟨m+1,Y,Y,by have:=HGK.out;omega,by have:=HS.out;omega,((HLL.out.set (m+1) _ Y).more _ _),qal (qak HG.out _ _) (Ext.more (Ext.refl _) _ _)⟩
    . by_cases q2:((s[m]'hlt).toNat:Int)=35
      . have hsk:=skip_mark (s.data.toList.drop (m+1)) (s[m]'hlt) Y;rw[<-hd] at hsk;obtain⟨n1,hn1⟩:∃ n1,spanN noNl (s.data.toList.drop m)=n1:=⟨_,rfl⟩
        rw[hn1,List.drop_drop] at hsk;have hle:n1<=s.size-m:=(by rw[<-hn1];have:=spanN_le noNl (s.data.toList.drop m);simp at this;omega)
        have hn0:1<=n1:=(by rw[<-hn1,hd,spanN,if_pos (by simp[noNl];omega)];omega)
        have HS:=J hsp;have HK:=J hsk;have HN1:=J hn1;clear hsp hsk hn1 hd h256 hml q1;go_wp2_with fail;refine qaa 9 36 (List.replicate 9 false) zv zv rfl ?_;refine zh ?_
        repeat(refine Lex.step rfl ?_;intro K hK;unfold StepG;go_simp;(first
          | refine hK _ ?_);clear hK K)
        refine zd ?_;intro dd oo;go_wp2_with fail;rw[ends_normal];go_wp2_with fail;refine qaa 8 36 (List.replicate 8 false) zv zv rfl ?_;refine zh ?_
        repeat(refine Lex.step rfl ?_;intro K hK;unfold StepG;go_simp;(first
          | refine hK _ ?_);clear hK K)
        refine zd ?_;intro dd oo;go_wp2_with fail;rw[ends_normal]
        go_wp2_with (go_at_call 152;refine (while_nonl b s m n1 lv _ (HLL.out.more _ _) hms hmx HN1.out).mono ?_;rintro e w1 ⟨rfl,hL1,hg1⟩)
        go_roundg (s.size-(m+n1))
        case measure=>have:=HGK.out;omega
        case rel=>exact⟨m+n1,Y,Y,rfl,by have h1:=HS.out;have h2:=HK.out;omega,hL1,grown_trans (qal HG.out zf) hg1⟩
      . have p1:(((s[m]'hlt).toNat:Int)==32)=false:=zg;have p2:(((s[m]'hlt).toNat:Int)==9)=false:=zg;have p3:(((s[m]'hlt).toNat:Int)==10)=false:=zg;have p4:(((s[m]'hlt).toNat:Int)==35)=false:=zg;rw[hd,skipL,if_neg Y,if_neg Y] at hsp;have HMN:=J (show m=k+n by omega);clear hsp hd h256 hml q1 q2 HGK;go_wp2_with fail;refine qaa 9 36 (List.replicate 9 false) zv zv rfl ?_;refine zh ?_
        repeat(refine Lex.step rfl ?_;intro K hK;unfold StepG;go_simp;(first
          | refine hK _ ?_);clear hK K)
        refine zd ?_;intro dd oo;go_wp2_with fail;rw[ends_normal];go_wp2_with fail;refine qaa 8 36 (List.replicate 8 false) zv zv rfl ?_;refine zh ?_
        repeat(refine Lex.step rfl ?_;intro K hK;unfold StepG;go_simp;(first
          | refine hK _ ?_);clear hK K)
        refine zd ?_;intro dd oo;go_wp2_with fail;rw[ends_normal];go_wp2_with fail;refine bodyPost_ret (v:=.tuple #[]) (by simp[results,results123,go_sem]) rfl ?_;refine ⟨rfl,?_,?_⟩
        . rw[<-HMN.out];exact HLL.out.more _ _
        . exact qal HG.out zf
  . have hme:m=s.size:=Y;have hnil:s.data.toList.drop m=[]:=(by apply List.drop_eq_nil_of_le;simp;omega)
    rw[hnil] at hsp;simp only[skipL] at hsp;have HMN:=J (show s.size=k+n by omega);clear hsp hnil hms HGK;subst hme;go_wp2_with fail;refine qaa 9 36 (List.replicate 9 false) zv zv rfl ?_;refine zh ?_
    repeat(refine Lex.step rfl ?_;intro K hK;unfold StepG;go_simp;(first
      | refine hK _ ?_);clear hK K)
    refine zd ?_;intro dd oo;go_wp2_with fail;rw[ends_normal];go_wp2_with fail;go_end0;refine ⟨rfl,?_,?_⟩
    . rw[<-HMN.out];exact HLL.out.more _ _
    . exact qal HG.out zf
structure Tok where
 k:Int
 s:ByteArray
 i:Int
def tokV (t:Tok) (at':Int):Value:=.agg #[.int .i64 t.k,.int .i64 at',.string t.s,.int .i64 t.i]
def tok0:Tok:=⟨0,⟨#[]⟩,0⟩
def nameF (t:ByteArray):Tok × Int:=if wordB t=true then(⟨5,t,0⟩,0) else if 16<t.size then(tok0,5) else(⟨1,t,0⟩,0)
def numG:Int->List UInt8->Option Int
 | v,[]=>if 9223372036854775807<v then none else some v
 | v,c::l=>if 922337203685477580<v then none else numG (10*v+((c.toNat:Int)-48)) l
def LexAt.alloc {b:Nat} {s:ByteArray} {k:Nat} {lv:Value} {w:World} (h:LexAt b s k lv w) (o:Obj):LexAt b s k lv (w.alloc o):=by
 unfold LexAt;rw[Lib.alloc_old w o b h.lt];exact h
def LexAt.other {b:Nat} {s:ByteArray} {k:Nat} {lv:Value} {w:World} (h:LexAt b s k lv w) {p:Addr} (hp:p.block≠b) (v:Value):LexAt b s k lv (w.setCell p v):=by
 unfold LexAt;rw[Below.heap_setCell _ _ _ _ (fun e=>hp e.symm)];exact h
def lex_form {b:Nat} {s:ByteArray} {k k':Nat} {lv:Value} {w w':World} (h:LexAt b s k lv w) (h':LexAt b s k' lv w') (hg:w.grownBy w' (some b)):Ext (w.setCell ⟨b,1,none⟩ (.int .i64 (k':Int))) w':=by
 obtain⟨h1,h2,h3,h4,h5⟩:=hg;have hsz:(w.setCell ⟨b,1,none⟩ (.int .i64 (k':Int))).heap.size=w.heap.size:=by simp[World.setCell]
 have hS:=h.set k' (k':Int) rfl;refine Ext.of_below ⟨h1,h2,h3,by rw[hsz];exact h4,fun j hj=>?_⟩;rw[hsz] at hj;by_cases hjb:j=b
 . subst hjb;unfold LexAt at h' hS;rw[h',hS]
 . rw[h5 j hj (by simpa using hjb),Below.heap_setCell _ _ _ _ (fun e=>hjb e)]
theorem qgs (w:World) (b i:Nat) (v v':Value):(w.setCell ⟨b,i,none⟩ v).setCell ⟨b,i,none⟩ v'=w.setCell ⟨b,i,none⟩ v':=by
 unfold World.setCell
 congr 1
 apply Array.ext_getElem?;intro k;simp only[Array.getElem?_modify];by_cases hk:b=k
 . subst hk
   cases w.heap[b]? with
   | none=>simp
   | some o=>cases o<;>simp
 . simp[hk]
theorem skipped_no:Go.yielded.match_1 (fun _=>Option Bool) (some undef) (fun b=>some b) (fun _=>none)=none:=rfl
attribute [go_sem] qgs skipped_no
def while_name_x (b:Nat) (s t:ByteArray) (k n:Nat) (lv:Value) (hk:k<=s.size) (hs:s.size<=maxLen) (hn:spanN nameB (s.data.toList.drop k)=n) (ht:s.extract k (k+n)=t) (w:World) (h:LexAt b s k lv w) :
  Calls prog 152 #[.pointer (some ⟨b,0,none⟩),.func (.func 155) #[] #[]] w fun e w'=>e=.returned (.string t)/\Ext (w.setCell ⟨b,1,none⟩ (.int .i64 ((k+n:Nat):Int))) w':=by
 subst ht;exact(while_name b s k n lv w h hk hs hn).mono fun e w' ⟨he,hL,hg⟩=>⟨he,lex_form h hL hg⟩
def qdm (b:Nat) (s t:ByteArray) (k n:Nat) (lv:Value) (hk:k<=s.size) (hs:s.size<=maxLen) (hn:spanN qah (s.data.toList.drop k)=n) (ht:s.extract k (k+n)=t) (w:World) (h:LexAt b s k lv w) :
  Calls prog 152 #[.pointer (some ⟨b,0,none⟩),.func (.func 127) #[] #[]] w fun e w'=>e=.returned (.string t)/\Ext (w.setCell ⟨b,1,none⟩ (.int .i64 ((k+n:Nat):Int))) w':=by
 subst ht;exact(while_digit b s k n lv w h hk hs hn).mono fun e w' ⟨he,hL,hg⟩=>⟨he,lex_form h hL hg⟩
def qeG (b:Nat) (s:ByteArray) (k n:Nat) (lv:Value) (hk:k<=s.size) (hs:s.size<=maxLen) (hn:skipL false (s.data.toList.drop k)=n) (w:World) (h:LexAt b s k lv w) :
  Calls prog 123 #[.pointer (some ⟨b,0,none⟩)] w fun e w'=>e=.returned (.tuple #[])/\Ext (w.setCell ⟨b,1,none⟩ (.int .i64 ((k+n:Nat):Int))) w' :=
 (blank_any b s k n lv w h hk hs hn).mono fun e w' ⟨he,hL,hg⟩=>⟨he,lex_form h hL hg⟩
def name_any (b:Nat) (s t:ByteArray) (k n:Nat) (lv:Value) (hk:k<=s.size) (hs:s.size<=maxLen) (hn:spanN nameB (s.data.toList.drop k)=n) (ht:s.extract k (k+n)=t) (r:Tok) (e:Int) (hr:nameF t=(r,e)) (w:World) (h:LexAt b s k lv w) :
  Calls prog 126 #[.pointer (some ⟨b,0,none⟩)] w fun e' w'=>e'=.returned (.tuple #[tokV r 0,.int .i64 e])/\Ext (w.setCell ⟨b,1,none⟩ (.int .i64 ((k+n:Nat):Int))) w':=by
 have HL:=J h;have C:=J (while_name_x b s t k n lv hk hs hn ht);have W:=J (fun w=>word_any t w);have hb:=h.lt;have hsz:t.size<=s.size:=by rw[<-ht];simp;omega
 unfold maxLen at hs;unfold nameF at hr;unfold tokV tok0 at *;clear h hn ht;cases hq:wordB t
 . rw[hq] at W hr;rw[if_neg zy] at hr;by_cases h16:16<t.size
   . rw[if_pos h16] at hr;simp only[Prod.mk.injEq] at hr;obtain⟨rfl,rfl⟩:=hr;clear hq;go_enter func126,ntmps126
     go_wp2_with (first
      | (go_at_call 152;refine (C.out _ zbc).mono ?_;rintro e _ ⟨rfl,d,os,rfl⟩)
      | (go_at_call 156;refine (W.out _).mono ?_;rintro e _ ⟨rfl,d,os,rfl⟩))
     refine bodyPost_ret (v:=.tuple #[.agg #[.int .i64 0,.int .i64 0,.string ⟨#[]⟩,.int .i64 0],.int .i64 5]) zch rfl ?_;exact⟨rfl,zf⟩
   . rw[if_neg h16] at hr;simp only[Prod.mk.injEq] at hr;obtain⟨rfl,rfl⟩:=hr;clear hq;go_enter func126,ntmps126
     go_wp2_with (first
      | (go_at_call 152;refine (C.out _ zbc).mono ?_;rintro e _ ⟨rfl,d,os,rfl⟩)
      | (go_at_call 156;refine (W.out _).mono ?_;rintro e _ ⟨rfl,d,os,rfl⟩))
     refine bodyPost_ret (v:=.tuple #[.agg #[.int .i64 1,.int .i64 0,.string t,.int .i64 0],.int .i64 0]) zch rfl ?_;exact⟨rfl,zf⟩
 . rw[hq] at W hr;rw[if_pos rfl] at hr;simp only[Prod.mk.injEq] at hr;obtain⟨rfl,rfl⟩:=hr;clear hq;go_enter func126,ntmps126
   go_wp2_with (first
    | (go_at_call 152;refine (C.out _ zbc).mono ?_;rintro e _ ⟨rfl,d,os,rfl⟩)
    | (go_at_call 156;refine (W.out _).mono ?_;rintro e _ ⟨rfl,d,os,rfl⟩))
   refine bodyPost_ret (v:=.tuple #[.agg #[.int .i64 5,.int .i64 0,.string t,.int .i64 0],.int .i64 0]) zch rfl ?_;exact⟨rfl,zf⟩
def span_all (p:Int->Bool):∀ (l:List UInt8) (j:Nat) (u:UInt8),(l.take (spanN p l))[j]?=some u->p (u.toNat:Int)=true
 | [],j,u,h=>by simp[spanN] at h
 | c::l,j,u,h=>by
  by_cases hc:p (c.toNat:Int)=true
  . rw[spanN,if_pos hc] at h
    cases j with
    | zero=>simp at h;subst h;exact hc
    | succ j=>exact span_all p l j u jx
  . rw[spanN,if_neg hc] at h;simp at h
def numE:Option Int->Tok × Int
 | none=>(tok0,8)
 | some v=>(⟨2,⟨#[]⟩,v⟩,0)
def numF (t:ByteArray):Tok × Int:=numE (numG 0 t.data.toList)
def number_ok (b:Nat) (s t:ByteArray) (k n:Nat) (lv:Value) (hk:k<=s.size) (hs:s.size<=maxLen) (hkn:k+n<=s.size) (hn:spanN qah (s.data.toList.drop k)=n) (ht:s.extract k (k+n)=t) (htn:t.size=n)
    (hA:n<=1\/(1<n/\∃ h:0<t.size,¬ ((t[0]'h).toNat:Int)=48)) (hB:k+n=s.size\/∃ h:k+n<s.size,qar ((s[k+n]'h).toNat:Int)=false)
    (hd:∀ (j:Nat) (h:j<t.size),48<=((t[j]'h).toNat:Int)/\((t[j]'h).toNat:Int)<=57) (r:Tok) (e:Int) (hr:numF t=(r,e)) (w:World) (h:LexAt b s k lv w) :
    Calls prog 128 #[.pointer (some ⟨b,0,none⟩)] w fun e' w'=>e'=.returned (.tuple #[tokV r 0,.int .i64 e])/\Ext (w.setCell ⟨b,1,none⟩ (.int .i64 ((k+n:Nat):Int))) w':=by
  have HL:=J h;have C:=J (qdm b s t k n lv hk hs hn ht);have hb:=h.lt;obtain⟨c0,c1,c2,f1,f2⟩:=h.cells;unfold maxLen at hs;have HR:=J hr;have HTN:=J htn;have HD:=J hd;unfold tokV;clear h hn ht hr hd;obtain⟨R,hR⟩:∃ R,numG 0 t.data.toList=R:=⟨_,rfl⟩
  have HR2:=J (show numE R=(r,e) from by rw[<-hR];exact HR.out);have HRR:=J hR;clear HR hR;have hts:t.size<=9223372036854775807:=Y;rcases hA with hA | ⟨hA,hA0,hA1⟩
  all_goals rcases hB with hB | ⟨hB,hB2⟩
  all_goals
    first
      | (have hA2:(1<(t.size:Int))=False:=by simp;omega
         clear hA htn)
      | (have hA2:(1<(t.size:Int))=True:=by simp;omega
         have hA3:(((t[0]'hA0).toNat:Int)==48)=false:=by simpa using hA1
         clear hA htn hA1)
    first
      | (have hB3:((k:Int)+n<s.size)=False:=by simp;omega
         clear hB)
      | (have hB3:((k:Int)+n<s.size)=True:=by simp;omega
         have h256:=(s[k+n]'hB).toNat_lt;have le:=qbm ((s[k+n]'hB).toNat:Int) Y Y;rw[hB2] at le;have LE:=J le
         clear le h256 hB2)
    go_enter func128,ntmps128
    go_wp2_with (go_at_call 152;refine (C.out _ zbc).mono ?_;rintro e _ ⟨rfl,d,os,rfl⟩)
    refine qaa 28 65 (List.replicate 28 false) zv zv rfl ?_;refine zh ?_
    repeat(refine Lex.step rfl ?_;intro K hK;unfold StepG;go_simp;(first
        | refine hK _ ?_);clear hK K)
    refine zd ?_;intro dd oo
    go_wp2_with (go_at_call 125;refine (LE.out _).mono ?_;rintro e _ ⟨rfl,rfl⟩)
    rw[ends_normal];go_wp2_with fail
    go_loop [5,44] (fun vv ii=>∃ (i:Nat) (V:Int),i<=t.size/\ii=.int .i64 i/\vv=.int .u64 V/\0<=V/\V<=9223372036854775809/\numG V (t.data.toList.drop i)=R) (fun _ ii=>t.size-(intOf ii).toNat)
    case atStart=>exact⟨0,0,Y,rfl,rfl,Y,Y,HRR.out⟩
    case round =>
      obtain⟨i,V,hi,rfl,rfl,hV0,hV1,hG⟩:=hrel;clear HRR;by_cases hlt:i<t.size
      . have hml:i<t.data.toList.length:=jb;have hdd:t.data.toList.drop i=t[i]'hlt::t.data.toList.drop (i+1):=List.drop_eq_getElem_cons hml;rw[hdd] at hG;unfold numG at hG;obtain⟨hd1,hd2⟩:=HD.out i hlt;clear hdd hml;by_cases hbig:922337203685477580<V
        . rw[if_pos hbig] at hG;subst hG;have h:=HR2.out;simp only[numE,Prod.mk.injEq,tok0] at h;obtain⟨rfl,rfl⟩:=h;clear HR2
          go_wp2
          refine bodyPost_ret (v:=.tuple #[.agg #[.int .i64 0,.int .i64 0,.string ⟨#[]⟩,.int .i64 0],.int .i64 8]) zbw rfl ?_;exact⟨rfl,zf⟩
        . rw[if_neg hbig] at hG;have HGG:=J hG;have hz1:10*V+(((t[i]'hlt).toNat:Int)-48)<=9223372036854775809:=Y;have hz0:0<=10*V+(((t[i]'hlt).toNat:Int)-48):=Y;clear hG
          go_wp2
          go_round
          case rel=>exact⟨i+1,10*V+(((t[i]'hlt).toNat:Int)-48),Y,by go_num,by first | rfl | go_num,Y,Y,HGG.out⟩
          case measure=>simp[intOf]<;>omega
      . have hie:i=t.size:=Y;have hnil:t.data.toList.drop i=[]:=(by apply List.drop_eq_nil_of_le;simp;omega)
        rw[hnil] at hG;unfold numG at hG;clear hnil;by_cases hbig:9223372036854775807<V
        . rw[if_pos hbig] at hG;subst hG;have h:=HR2.out;simp only[numE,Prod.mk.injEq,tok0] at h;obtain⟨rfl,rfl⟩:=h;clear HR2;subst hie
          go_wp2
          refine bodyPost_ret (v:=.tuple #[.agg #[.int .i64 0,.int .i64 0,.string ⟨#[]⟩,.int .i64 0],.int .i64 8]) zbw rfl ?_;exact⟨rfl,zf⟩
        . rw[if_neg hbig] at hG;subst hG;have h:=HR2.out;simp only[numE,Prod.mk.injEq] at h;obtain⟨rfl,rfl⟩:=h;clear HR2;subst hie
          go_wp2
          refine bodyPost_ret (v:=.tuple #[.agg #[.int .i64 2,.int .i64 0,.string ⟨#[]⟩,.int .i64 V],.int .i64 0]) zbw rfl ?_;exact⟨rfl,zf⟩
def number_err (b:Nat) (s t:ByteArray) (k n:Nat) (lv:Value) (hk:k<=s.size) (hs:s.size<=maxLen) (hkn:k+n<=s.size) (hn:spanN qah (s.data.toList.drop k)=n) (ht:s.extract k (k+n)=t) (htn:t.size=n)
    (hA:(1<n/\∃ h:0<t.size,((t[0]'h).toNat:Int)=48)\/((n<=1\/(1<n/\∃ h:0<t.size,¬ ((t[0]'h).toNat:Int)=48))/\∃ h:k+n<s.size,qar ((s[k+n]'h).toNat:Int)=true))
    (w:World) (h:LexAt b s k lv w) :
    Calls prog 128 #[.pointer (some ⟨b,0,none⟩)] w fun e' w'=>e'=.returned (.tuple #[tokV tok0 0,.int .i64 3])/\Ext (w.setCell ⟨b,1,none⟩ (.int .i64 ((k+n:Nat):Int))) w':=by
  have HL:=J h;have C:=J (qdm b s t k n lv hk hs hn ht);have hb:=h.lt;obtain⟨c0,c1,c2,f1,f2⟩:=h.cells;unfold maxLen at hs;have HTN:=J htn;unfold tokV tok0;clear h hn ht;have hts:t.size<=9223372036854775807:=Y;rcases hA with ⟨hA,hA0,hA1⟩ | ⟨hA | ⟨hA,hA0,hA1⟩,hB,hB2⟩
  all_goals
    try
      (have hB3:((k:Int)+n<s.size)=True:=by simp;omega
       have h256:=(s[k+n]'hB).toNat_lt;have le:=qbm ((s[k+n]'hB).toNat:Int) Y Y;rw[hB2] at le;have LE:=J le
       clear le h256 hB2)
    first
      | (have hA2:(1<(t.size:Int))=False:=by simp;omega
         clear hA htn)
      | (have hA2:(1<(t.size:Int))=True:=by simp;omega
         have hA3:(((t[0]'hA0).toNat:Int)==48)=true:=by simpa using hA1
         clear hA htn hA1)
      | (have hA2:(1<(t.size:Int))=True:=by simp;omega
         have hA3:(((t[0]'hA0).toNat:Int)==48)=false:=by simpa using hA1
         clear hA htn hA1)
    go_enter func128,ntmps128
    go_wp2_with (go_at_call 152;refine (C.out _ zbc).mono ?_;rintro e _ ⟨rfl,d,os,rfl⟩)
    refine qaa 28 65 (List.replicate 28 false) zv zv rfl ?_;refine zh ?_
    repeat(refine Lex.step rfl ?_;intro K hK;unfold StepG;go_simp;(first
        | refine hK _ ?_);clear hK K)
    refine zd ?_;intro dd oo
    go_wp2_with (go_at_call 125;refine (LE.out _).mono ?_;rintro e _ ⟨rfl,rfl⟩)
    rw[ends_normal];go_wp2_with fail;refine bodyPost_ret (v:=.tuple #[.agg #[.int .i64 0,.int .i64 0,.string ⟨#[]⟩,.int .i64 0],.int .i64 3]) zbw rfl ?_;exact⟨rfl,zf⟩
structure Nd where
 k:Int
 a:Int
 b:Int
 c:Int
 x:Int
 i:Int
 s:ByteArray
 t:ByteArray
def nd (k:Int):Nd:=⟨k,-1,-1,-1,-1,0,⟨#[]⟩,⟨#[]⟩⟩
def ndL (z:Nd):List Value:=[.int .i64 z.k,.int .i64 z.a,.int .i64 z.b,.int .i64 z.c,.int .i64 z.x,.int .i64 z.i,.string z.s,.string z.t]
def qac (l:List Nd):List Value:=l.flatMap ndL
def qcS (l m:List Nd):qac (l++m)=qac l++qac m:=by simp[qac]
def ndCells_one (l:List Nd):∀ u∈qac l,u.oneCell'=true:=by
 intro u hu;simp only[qac,List.mem_flatMap] at hu;obtain⟨t,_,h⟩:=hu;simp[ndL] at h;rcases h with rfl | rfl | rfl | rfl | rfl | rfl | rfl | rfl<;>rfl
abbrev Toks:=List (Tok × Int)
def tkL (t:Tok × Int):List Value:=[.int .i64 t.1.k,.int .i64 t.2,.string t.1.s,.int .i64 t.1.i]
def qbt (l:Toks):List Value:=l.flatMap tkL
def tk (L:Toks) (m:Nat):Tok × Int:=L.getD m (tok0,0)
def qfy:∀ (l:Toks) (j:Nat),j<l.length ->
  (qbt l)[j*4]?=some (.int .i64 (tk l j).1.k)/\(qbt l)[j*4+1]?=some (.int .i64 (tk l j).2)/\(qbt l)[j*4+2]?=some (.string (tk l j).1.s)/\(qbt l)[j*4+3]?=some (.int .i64 (tk l j).1.i)
 | [],j,h=>by simp at h
 | t::l,0,_=>⟨rfl,rfl,rfl,rfl⟩
 | t::l,j+1,h=>by
  have:=qfy l j jx
  have e:∀ r,(qbt (t::l))[(j+1)*4+r]?=(qbt l)[j*4+r]?:=by
   intro r;have h1:qbt (t::l)=tkL t++qbt l:=rfl;rw[h1,List.getElem?_append_right (by simp[tkL];omega)]
   congr 1
   simp[tkL];omega
  have e2:tk (t::l) (j+1)=tk l j:=rfl;rw[e2,e 1,e 2,e 3,<-Nat.add_zero ((j+1)*4),e 0]
  simpa using this
abbrev PR (α:Type):=Except (Int × Int) (α × Nat × List Nd)
abbrev PM (α:Type):=Nat->Nat->PR α
def prep {α:Type} (ns:List Nd):PR α->PR α
 | .error e=>.error e
 | .ok (v,m,ns')=>.ok (v,m,ns++ns')
def pok {α:Type} (v:α):PM α:=fun m _=>.ok (v,m,[])
def pbind {α β:Type} (p:PM α) (f:α->PM β):PM β:=fun m n=>match p m n with
 | .error e=>.error e
 | .ok (v,m1,ns)=>prep ns (f v m1 (n+ns.length))
def qap {α β:Type} {p:PM α} {f:α->PM β} {m n:Nat} {e:Int × Int} (h:p m n=.error e):pbind p f m n=.error e:=by
 unfold pbind;rw[h]
def qai {α β:Type} {p:PM α} {f:α->PM β} {m n:Nat} {v:α} {m1:Nat} {ns:List Nd} (h:p m n=.ok (v,m1,ns)):pbind p f m n=prep ns (f v m1 (n+ns.length)):=by
 unfold pbind;rw[h]
def qaF {α:Type} (r:PR α):prep [] r=r:=by
 cases r with
 | error e=>rfl
 | ok v=>obtain⟨v,m,ns⟩:=v;rfl
def qbT {α:Type} (a b:List Nd) (r:PR α):prep a (prep b r)=prep (a++b) r:=by
 cases r with
 | error e=>rfl
 | ok v=>obtain⟨v,m,ns⟩:=v;simp[prep]
section
variable (L:Toks)
def pno {α:Type} (e:Int):PM α:=fun m _=>.error (e,(tk L m).2)
def isP (s:ByteArray) (m:Nat):Bool:=(tk L m).1.k==(if wordB s=true then 5 else 4)&&((tk L m).1.s).toList==s.toList
def takesP (s:ByteArray):PM Bool:=fun m _=>if isP L s m=true then .ok (true,m+1,[]) else .ok (false,m,[])
def must1 (s:ByteArray):PM Unit:=fun m _=>if isP L s m=true then .ok ((),m+1,[]) else .error (3,(tk L m).2)
def mustP:List ByteArray->PM Unit
 | []=>pok ()
 | s::r=>pbind (must1 L s) fun _=>mustP r
def ofP (k:Int):PM Tok:=fun m _=>if (tk L m).1.k=k then .ok ((tk L m).1,m+1,[]) else .error (3,(tk L m).2)
def layP (z:Nd):PM Int:=fun m n=>if n=512 then .error (5,(tk L m).2) else .ok ((n:Int),m,[z])
def deepP (d:Nat):PM Unit:=fun m _=>if 16<d then .error (14,(tk L m).2) else .ok ((),m,[])
def skipP:PM Unit:=fun m _=>.ok ((),m+1,[])
def qbo:PM Int:=fun m n=>if (tk L m).1.k=2/\64<(tk L m).1.i then .error (8,(tk L m).2) else pbind (ofP L 2) (fun t=>pok t.i) m n
def qaP (ss:List ByteArray):PM (Option ByteArray):=fun m _=>match ss.find? (fun s=>isP L s m) with
 | none=>.ok (none,m,[])
 | some s=>.ok (some s,m+1,[])
def twoNd (a b:Int) (s:ByteArray):Nd:={ nd 11 with a:=a,b:=b,s:=s }
def qaA (cl:PM Int) (ss:List ByteArray):Nat->Int->PM Int
 | 0,a=>pok a
 | g+1,a=>pbind (qaP L ss) fun o=>match o with
  | none=>pok a
  | some s=>pbind cl fun b=>pbind (layP L (twoNd a b s)) fun a'=>qaA cl ss g a'
def twoP (cl:PM Int) (ss:List ByteArray):PM Int:=pbind cl fun a=>qaA L cl ss (L.length+1) a
def qcA:List ByteArray:=[⟨#[42]⟩,⟨#[47]⟩,⟨#[37]⟩]
def ssSum:List ByteArray:=[⟨#[43]⟩,⟨#[45]⟩]
def qdZ:List ByteArray:=[⟨#[46,46]⟩]
def ssIs:List ByteArray:=[⟨#[61,61]⟩,⟨#[33,61]⟩,⟨#[60]⟩,⟨#[60,61]⟩,⟨#[62]⟩,⟨#[62,61]⟩]
def ssAnd:List ByteArray:=[⟨#[97,110,100]⟩]
def ssOr:List ByteArray:=[⟨#[111,114]⟩]
def timesP (one:PM Int):PM Int:=twoP L one qcA
def sumP (one:PM Int):PM Int:=twoP L (timesP L one) ssSum
def joinP (one:PM Int):PM Int:=twoP L (sumP L one) qdZ
def compP (one:PM Int):PM Int:=pbind (joinP L one) fun a=>pbind (qaP L ssIs) fun o=>match o with
  | none=>pok a
  | some s=>pbind (joinP L one) fun b=>layP L (twoNd a b s)
def andP (one:PM Int):PM Int:=twoP L (compP L one) ssAnd
def orP (one:PM Int):PM Int:=twoP L (andP L one) ssOr
def sIs (x:ByteArray) (l:List UInt8):Bool:=x.toList==l
def callF (s:ByteArray):Int :=
 if sIs s [103,101,116]=true then 5 else if sIs s [104,97,115]=true then 6 else if sIs s [108,101,110]=true then 7 else if sIs s [115,104,111,119]=true then 8 else -1
def qaX (k:Int) (d:Nat) (o1:PM Int):PM Int:=pbind (deepP L (d+1)) fun _=>pbind o1 fun a=>layP L { nd k with a:=a }
def qbk (d:Nat) (e1 o1:PM Int):PM Int:=fun m n =>
 if isP L ⟨#[45]⟩ m=true then pbind (skipP) (fun _=>qaX L 10 d o1) m n
 else if isP L ⟨#[40]⟩ m=true then pbind (skipP) (fun _=>pbind e1 fun a=>pbind (mustP L [⟨#[41]⟩]) fun _=>pok a) m n
 else pno L 3 m n
def qbj (d:Nat) (e1 o1:PM Int):PM Int:=fun m n =>
 if callF (tk L m).1.s=-1 then
  if isP L ⟨#[110,111,116]⟩ m=true then pbind (skipP) (fun _=>qaX L 9 d o1) m n
  else if isP L ⟨#[110,105,108]⟩ m=true then pbind (skipP) (fun _=>layP L (nd 0)) m n
  else if sIs (tk L m).1.s [116,114,117,101]=true then pbind (skipP) (fun _=>layP L { nd 1 with i:=1 }) m n
  else if sIs (tk L m).1.s [102,97,108,115,101]=true then pbind (skipP) (fun _=>layP L (nd 1)) m n
  else pno L 3 m n
 else pbind (skipP) (fun _=>pbind (mustP L [⟨#[40]⟩]) fun _=>pbind e1 fun a=>pbind (mustP L [⟨#[41]⟩]) fun _=>layP L { nd (callF (tk L m).1.s) with a:=a }) m n
def oneP (d:Nat) (e1 o1:PM Int):PM Int:=fun m n =>
 if (tk L m).1.k=2 then pbind (skipP) (fun _=>layP L { nd 2 with i:=(tk L m).1.i }) m n
 else if (tk L m).1.k=3 then pbind (skipP) (fun _=>layP L { nd 3 with s:=(tk L m).1.s }) m n
 else if (tk L m).1.k=1 then pbind (skipP) (fun _=>layP L { nd 4 with s:=(tk L m).1.s }) m n
 else if (tk L m).1.k=4 then qbk L d e1 o1 m n
 else if (tk L m).1.k=5 then qbj L d e1 o1 m n
 else pno L 3 m n
def exprD:Nat->PM Int × PM Int
 | 0=>(pno L 14,pno L 14)
 | D+1=>(orP L (oneP L (16-D) (exprD D).1 (exprD D).2),oneP L (16-D) (exprD D).1 (exprD D).2)
def exprP (D:Nat):PM Int:=(exprD L D).1
def setNext (ns:List Nd) (j:Nat) (v:Int):List Nd:=ns.modify j fun z=>{ z with x:=v }
def qan (st:PM Int):Nat->Int->Int->List Nd->Nat->Nat->PR Int
 | 0,first,_,acc,m,_=>.ok (first,m,acc)
 | g+1,first,last,acc,m,n=>match st m (n+acc.length) with
  | .error e=>.error e
  | .ok (i,m1,ns) =>
   if i=-1 then .ok (first,m1,acc++ns)
   else if first=-1 then qan st g i i (acc++ns) m1 n
   else qan st g first i (setNext (acc++ns) (last.toNat-n) i) m1 n
def qaC (bl:PM Int):PM Int:=pbind (mustP L [⟨#[123]⟩]) fun _=>pbind bl fun n=>pbind (mustP L [⟨#[125]⟩]) fun _=>pok n
def qbE (k:Int) (ex:PM Int):PM Int:=pbind (skipP) fun _=>pbind (ofP L 1) fun t=>pbind (mustP L [⟨#[61]⟩]) fun _=>pbind ex fun a=>pbind (mustP L [⟨#[59]⟩]) fun _=>layP L { nd k with s:=t.s,a:=a }
def putP (ex:PM Int):PM Int:=pbind (skipP) fun _=>pbind ex fun a=>pbind (mustP L [⟨#[44]⟩]) fun _=>pbind ex fun b=>pbind (mustP L [⟨#[59]⟩]) fun _=>layP L { nd 22 with a:=a,b:=b }
def qaH (k:Int) (ex:PM Int):PM Int:=pbind (skipP) fun _=>pbind ex fun a=>pbind (mustP L [⟨#[59]⟩]) fun _=>layP L { nd k with a:=a }
def whenP (ex br:PM Int):PM Int:=pbind (skipP) fun _=>pbind ex fun a=>pbind br fun b=>pbind (takesP L ⟨#[101,108,115,101]⟩) fun e =>
 if e=true then pbind br fun c=>layP L { nd 24 with a:=a,b:=b,i:=1,c:=c } else layP L { nd 24 with a:=a,b:=b }
def eachP (ex br:PM Int):PM Int:=pbind (skipP) fun _=>pbind (ofP L 1) fun s=>pbind (mustP L [⟨#[44]⟩]) fun _=>pbind (ofP L 1) fun t =>
 pbind (mustP L [⟨#[105,110]⟩,⟨#[115,99,97,110]⟩,⟨#[40]⟩]) fun _=>pbind ex fun a=>pbind (mustP L [⟨#[44]⟩]) fun _=>pbind (qbo L) fun i=>pbind (mustP L [⟨#[41]⟩]) fun _ =>
 pbind br fun b=>layP L { nd 25 with s:=s.s,t:=t.s,a:=a,i:=i,b:=b }
def qdM (br:PM Int):PM Int:=pbind (skipP) fun _=>pbind (qbo L) fun i=>pbind br fun b=>layP L { nd 26 with i:=i,b:=b }
def stmtP (ex br:PM Int):PM Int:=fun m n =>
 if ¬ (tk L m).1.k=5 then pok (-1) m n
 else if sIs (tk L m).1.s [108,101,116]=true then qbE L 20 ex m n
 else if sIs (tk L m).1.s [115,101,116]=true then qbE L 21 ex m n
 else if sIs (tk L m).1.s [112,117,116]=true then putP L ex m n
 else if sIs (tk L m).1.s [100,101,108,101,116,101]=true then qaH L 23 ex m n
 else if sIs (tk L m).1.s [97,98,111,114,116]=true then qaH L 27 ex m n
 else if sIs (tk L m).1.s [114,101,116,117,114,110]=true then qaH L 28 ex m n
 else if sIs (tk L m).1.s [105,102]=true then whenP L ex br m n
 else if sIs (tk L m).1.s [102,111,114]=true then eachP L ex br m n
 else if sIs (tk L m).1.s [114,101,112,101,97,116]=true then qdM L br m n
 else pok (-1) m n
def blockD:Nat->PM Int
 | 0=>pno L 14
 | D+1=>fun m n=>qan (stmtP L (exprP L (D+1)) (qaC L (blockD D))) (L.length+1) (-1) (-1) [] m n
def progP:Except (Int × Int) (List Nd × Int):=match pbind (blockD L 16) (fun f=>pbind (ofP L 0) fun _=>pok f) 0 0 with
 | .error e=>.error e
 | .ok (f,_,ns)=>.ok (ns,f)
def qeg:Bool:=L≠[]&&(List.range L.length).all fun j=>((tk L j).1.k==0)==decide (j+1=L.length)
def qcn:Except (Int × Int) (List Nd × Int):=if qeg L=true then progP L else .error (1,0)
end
theorem ltP1 {a n x:Nat} (h:a<n):(a<n+x)=True:=by simp;omega
theorem ltP2 {a n x y:Nat} (h:a<n):(a<n+x+y)=True:=by simp;omega
theorem ltP3 {a n x y z:Nat} (h:a<n):(a<n+x+y+z)=True:=by simp;omega
theorem ltP4 {a n x y z u:Nat} (h:a<n):(a<n+x+y+z+u)=True:=by simp;omega
theorem ltP5 {a n x y z u v:Nat} (h:a<n):(a<n+x+y+z+u+v)=True:=by simp;omega
attribute [go_sem] ltP1 ltP2 ltP3 ltP4 ltP5
def ToksAt (lb lo:Nat) (L:Toks) (w:World):Prop:=∀ j,j<L.length ->
 w.cell? ⟨lb,lo+j*4,none⟩=some (.int .i64 (tk L j).1.k)/\w.cell? ⟨lb,lo+j*4+1,none⟩=some (.int .i64 (tk L j).2) /\
 w.cell? ⟨lb,lo+j*4+2,none⟩=some (.string (tk L j).1.s)/\w.cell? ⟨lb,lo+j*4+3,none⟩=some (.int .i64 (tk L j).1.i)
def ToksAt.lt {lb lo:Nat} {L:Toks} {w:World} (h:ToksAt lb lo L w) (hl:0<L.length):lb<w.heap.size :=
 World.block_lt_of_cell? w _ (h 0 hl).1
def ToksAt.of_block {lb lo:Nat} {L:Toks} {w w':World} (h:ToksAt lb lo L w) (e:w'.heap[lb]?=w.heap[lb]?):ToksAt lb lo L w':=by
 intro j hj;obtain⟨h1,h2,h3,h4⟩:=h j hj;exact⟨(World.cell?_of_block e).trans h1,(World.cell?_of_block e).trans h2,(World.cell?_of_block e).trans h3,(World.cell?_of_block e).trans h4⟩
structure Ends (L:Toks):Prop where
 pos:0<L.length
 few:L.length<=5000
 at_:∀ j,j<L.length->((tk L j).1.k=0↔j+1=L.length)
structure St (b lb lo cap:Nat) (nv:Value) (L:Toks) (m:Nat) (N:List Nd) (w:World):Prop where
 ends:Ends L
 blk:w.heap[b]?=some (.cells #[.slice (some ⟨lb,lo,none⟩) L.length cap,.int .i64 (m:Int),nv,.int .i64 0] 193 (0,0))
 toks:ToksAt lb lo L w
 row:w.ownsRow (b+1) 166 8 nv N.length (qac N)
 low:lb<b
 pos:m<L.length
 cnt:N.length<=512
def St.lt {b lb lo cap:Nat} {nv:Value} {L:Toks} {m:Nat} {N:List Nd} {w:World} (h:St b lb lo cap nv L m N w):b<w.heap.size :=
 (Array.getElem?_eq_some_iff.1 h.blk).1
structure Loc (b:Nat) (nv:Value) (k:Nat) (o:Obj) (w:World):Prop where
 is:w.heap[k]?=some o
 ne:k≠b
 nr:nv.ownBlock≠some k
def Loc.lt {b:Nat} {nv:Value} {k:Nat} {o:Obj} {w:World} (h:Loc b nv k o w):k<w.heap.size :=
 (Array.getElem?_eq_some_iff.1 h.is).1
structure Kp (b:Nat) (nv nv':Value) (w w':World):Prop where
 os:w'.os=w.os
 tape:w'.tape=w.tape
 output:w'.output=w.output
 size:w.heap.size<=w'.heap.size
 block:∀ k,k<w.heap.size->k≠b->nv.ownBlock≠some k->w'.heap[k]?=w.heap[k]?
 row:nv'.ownBlock=nv.ownBlock\/∀ k,nv'.ownBlock=some k->w.heap.size<=k
def Kp.refl (b:Nat) (nv:Value) (w:World):Kp b nv nv w w:=⟨rfl,rfl,rfl,Nat.le_refl _,fun _ _ _ _=>rfl,Or.inl rfl⟩
def Kp.trans {b:Nat} {nv nv1 nv2:Value} {w w1 w2:World} (h:Kp b nv nv1 w w1) (k:Kp b nv1 nv2 w1 w2):Kp b nv nv2 w w2:=by
 refine ⟨k.os.trans h.os,k.tape.trans h.tape,k.output.trans h.output,Nat.le_trans h.size k.size,fun j hj hb hn=>?_,?_⟩
 . have hn1:nv1.ownBlock≠some j:=by
     rcases h.row with e | e
     . rw[e];exact hn
     . intro e2;have:=e j e2;omega
   rw[k.block j (Nat.lt_of_lt_of_le hj h.size) hb hn1,h.block j hj hb hn]
 . rcases k.row with e | e
   . rcases h.row with e1 | e1
     . exact Or.inl (e.trans e1)
     . exact Or.inr (fun j hj=>e1 j (by rw[<-e];exact hj))
   . exact Or.inr (fun j hj=>Nat.le_trans h.size (e j hj))
def Kp.ext {b:Nat} {nv nv1:Value} {w w1 w2:World} (h:Kp b nv nv1 w w1) (hx:Ext w1 w2):Kp b nv nv1 w w2:=by
 refine h.trans ?_;have hb:=hx.below;exact⟨hb.os,hb.tape,hb.output,hb.size,fun k hk _ _=>hb.block k hk,Or.inl rfl⟩
def Kp.alloc {b:Nat} {nv nv1:Value} {w w1:World} (h:Kp b nv nv1 w w1) (o:Obj):Kp b nv nv1 w (w1.alloc o):=h.ext ((Ext.refl _).alloc o)
def Kp.more {b:Nat} {nv nv1:Value} {w w1:World} (h:Kp b nv nv1 w w1) (d:Nat) (os:Array Obj):Kp b nv nv1 w (more w1 d os):=h.ext ((Ext.refl _).more d os)
def heap_set_other (w:World) (k i j:Nat) (v:Value) (h:j≠k):(w.setCell ⟨k,i,none⟩ v).heap[j]?=w.heap[j]?:=by
 simp[World.setCell,Array.getElem?_modify,Ne.symm h]
def Kp.setNew {b:Nat} {nv nv1:Value} {w w1:World} (h:Kp b nv nv1 w w1) {k:Nat} (hk:w.heap.size<=k) (i:Nat) (v:Value):Kp b nv nv1 w (w1.setCell ⟨k,i,none⟩ v) :=
 ⟨h.os,h.tape,h.output,by simpa [World.setCell] using h.size,fun j hj hb hn=>by rw[heap_set_other _ _ _ _ _ Y];exact h.block j hj hb hn,h.row⟩
def Kp.setB {b:Nat} {nv nv1:Value} {w w1:World} (h:Kp b nv nv1 w w1) (i:Nat) (v:Value):Kp b nv nv1 w (w1.setCell ⟨b,i,none⟩ v) :=
 ⟨h.os,h.tape,h.output,by simpa [World.setCell] using h.size,fun j hj hb hn=>by rw[heap_set_other _ _ _ _ _ hb];exact h.block j hj hb hn,h.row⟩
def Loc.kp {b:Nat} {nv nv1:Value} {w w1:World} {k:Nat} {o:Obj} (h:Loc b nv k o w) (hk:Kp b nv nv1 w w1):Loc b nv1 k o w1:=by
 refine ⟨(hk.block k h.lt h.ne h.nr).trans h.is,h.ne,?_⟩;rcases hk.row with e | e
 . rw[e];exact h.nr
 . intro e2;have:=e k e2;have:=h.lt;omega
def Loc.ext {b:Nat} {nv:Value} {w w1:World} {k:Nat} {o:Obj} (h:Loc b nv k o w) (hx:Ext w w1):Loc b nv k o w1:=h.kp ((Kp.refl b nv w).ext hx)
def Loc.set {b:Nat} {nv:Value} {w:World} {k:Nat} {cs:Array Value} {t:TypeId} (h:Loc b nv k (.cells cs t (0,0)) w) (i:Nat) (v:Value):Loc b nv k (.cells (cs.setIfInBounds i v) t (0,0)) (w.setCell ⟨k,i,none⟩ v):=by
 refine ⟨?_,h.ne,h.nr⟩;have:=h.is;simp[World.setCell,Array.getElem?_modify,this]
def St.ext {b lb lo cap:Nat} {nv:Value} {L:Toks} {m:Nat} {N:List Nd} {w w1:World} (h:St b lb lo cap nv L m N w) (hx:Ext w w1):St b lb lo cap nv L m N w1:=by
 have hb:=hx.below;refine ⟨h.ends,(hb.block b h.lt).trans h.blk,h.toks.of_block (hb.block lb (Nat.lt_trans h.low h.lt)),own_ext h.row hx,h.low,h.pos,h.cnt⟩
def St.alloc {b lb lo cap:Nat} {nv:Value} {L:Toks} {m:Nat} {N:List Nd} {w:World} (h:St b lb lo cap nv L m N w) (o:Obj):St b lb lo cap nv L m N (w.alloc o):=h.ext ((Ext.refl _).alloc o)
def St.more {b lb lo cap:Nat} {nv:Value} {L:Toks} {m:Nat} {N:List Nd} {w:World} (h:St b lb lo cap nv L m N w) (d:Nat) (os:Array Obj):St b lb lo cap nv L m N (more w d os):=h.ext ((Ext.refl _).more d os)
def Loc.more {b:Nat} {nv:Value} {w:World} {k:Nat} {o:Obj} (h:Loc b nv k o w) (d:Nat) (os:Array Obj):Loc b nv k o (YtpnabjopfpdkhaaGreatDoor.more w d os):=h.ext ((Ext.refl _).more d os)
def Loc.alloc {b:Nat} {nv:Value} {w:World} {k:Nat} {o:Obj} (h:Loc b nv k o w) (o':Obj):Loc b nv k o (w.alloc o'):=h.ext ((Ext.refl _).alloc o')
def St.rowNe {b lb lo cap:Nat} {nv:Value} {L:Toks} {m:Nat} {N:List Nd} {w:World} (h:St b lb lo cap nv L m N w) {k:Nat} (hk:w.heap.size<=k):nv.ownBlock≠some k:=by
 intro e;have:=(h.row.lt k e).2;omega
def St.loc {b lb lo cap:Nat} {nv:Value} {L:Toks} {m:Nat} {N:List Nd} {w:World} (h:St b lb lo cap nv L m N w) (o:Obj):Loc b nv w.heap.size o (w.alloc o) :=
 ⟨heap_alloc_new _ _,by have:=h.lt;omega,h.rowNe (Nat.le_refl _)⟩
def St.setLoc {b lb lo cap:Nat} {nv:Value} {L:Toks} {m:Nat} {N:List Nd} {w:World} (h:St b lb lo cap nv L m N w) {k:Nat} {o:Obj} (hk:Loc b nv k o w) (hl:lb≠k) (i:Nat) (v:Value) :
  St b lb lo cap nv L m N (w.setCell ⟨k,i,none⟩ v):=by
 refine ⟨h.ends,by rw[heap_set_other _ _ _ _ _ hk.ne.symm];exact h.blk,h.toks.of_block (heap_set_other _ _ _ _ _ hl),?_,h.low,h.pos,h.cnt⟩;refine h.row.kept (row:=some k) ⟨rfl,rfl,rfl,by simp[World.setCell],fun j hj hn=>heap_set_other _ _ _ _ _ (fun e=>hn (by rw[e]))⟩ (Or.inr hk.nr)
def St.setAt {b lb lo cap:Nat} {nv:Value} {L:Toks} {m:Nat} {N:List Nd} {w:World} (h:St b lb lo cap nv L m N w) (m':Nat) (z:Int) (hz:z=m') (hm:m'<L.length):St b lb lo cap nv L m' N (w.setCell ⟨b,1,none⟩ (.int .i64 z)):=by
 subst hz;refine ⟨h.ends,?_,h.toks.of_block (heap_set_other _ _ _ _ _ jh),?_,h.low,hm,h.cnt⟩
 . simp[World.setCell,Array.getElem?_modify,h.blk]
 . refine h.row.kept (row:=some b) ⟨rfl,rfl,rfl,by simp[World.setCell],fun j hj hn=>heap_set_other _ _ _ _ _ (fun e=>hn (by rw[e]))⟩ (Or.inr fun e=>?_);have:=(h.row.lt b e).1;omega
def ownBlock_kept {w w1:World} {row:Option Nat} {k:Nat} (hg:w.grownBy w1 row) (hk:k<w.heap.size) (hn:row≠some k):w1.heap[k]?=w.heap[k]?:=hg.block k hk (fun e=>hn e.symm)
def St.push {b lb lo cap:Nat} {nv v':Value} {L:Toks} {m:Nat} {N:List Nd} {w w1:World} (h:St b lb lo cap nv L m N w) {z:Nd} (hown:w1.ownsRow (b+1) 166 8 v' (N.length+1) (qac N++ndL z)) (hg:w.grownBy w1 nv.ownBlock) (hn:N.length<512) :
  St b lb lo cap v' L m (N++[z]) (w1.setCell ⟨b,2,none⟩ v'):=by
 have hb:nv.ownBlock≠some b:=fun e=>by have:=(h.row.lt b e).1;omega
 have hl:nv.ownBlock≠some lb:=fun e=>by have:=(h.row.lt lb e).1;have:=h.low;omega
 have e1:w1.heap[b]?=w.heap[b]?:=ownBlock_kept hg h.lt hb;have e2:w1.heap[lb]?=w.heap[lb]?:=ownBlock_kept hg (Nat.lt_trans h.low h.lt) hl;refine ⟨h.ends,?_,(h.toks.of_block e2).of_block (heap_set_other _ _ _ _ _ jh),?_,h.low,h.pos,zg⟩
 . have:=h.blk;simp[World.setCell,Array.getElem?_modify,e1,this]
 . have hc:qac (N++[z])=qac N++ndL z:=by rw[qcS];simp[qac]
   rw[hc,List.length_append];refine hown.kept (row:=some b) ⟨rfl,rfl,rfl,by simp[World.setCell],fun j hj hn=>heap_set_other _ _ _ _ _ (fun e=>hn (by rw[e]))⟩ (Or.inr fun e=>?_);have:=(hown.lt b e).1;omega
def St.grownFacts {b lb lo cap:Nat} {nv:Value} {L:Toks} {m:Nat} {N:List Nd} {w w1:World} (h:St b lb lo cap nv L m N w) (hg:w.grownBy w1 nv.ownBlock) :
  w1.cell? ⟨b,2,none⟩=some nv/\w1.frozen? ⟨b,2,none⟩=false/\b<w1.heap.size:=by
 have hb:nv.ownBlock≠some b:=fun e=>by have:=(h.row.lt b e).1;omega
 have e1:w1.heap[b]?=w.heap[b]?:=ownBlock_kept hg h.lt hb;have:=h.blk;refine ⟨?_,?_,Nat.lt_of_lt_of_le h.lt hg.size⟩<;>simp[World.cell?,World.frozen?,e1,this]
def Kp.push {b:Nat} {nv nv1 v':Value} {w w1 w2:World} (h:Kp b nv nv1 w w1) (hg:w1.grownBy w2 nv1.ownBlock) (hb:v'.ownBlock=nv1.ownBlock\/v'.ownBlock=some w1.heap.size):Kp b nv v' w (w2.setCell ⟨b,2,none⟩ v'):=by
 refine h.trans (Kp.setB ⟨hg.os,hg.tape,hg.output,hg.size,fun k hk _ hn=>ownBlock_kept hg hk hn,?_⟩ 2 _);rcases hb with e | e
 . exact Or.inl e
 . exact Or.inr fun k hk=>by rw[e] at hk;simp at hk;omega
def St.facts {b lb lo cap:Nat} {nv:Value} {L:Toks} {m:Nat} {N:List Nd} {w:World} (h:St b lb lo cap nv L m N w) :
  w.cell? ⟨b,0,none⟩=some (.slice (some ⟨lb,lo,none⟩) L.length cap)/\w.cell? ⟨b,1,none⟩=some (.int .i64 (m:Int))/\w.cell? ⟨b,2,none⟩=some nv/\w.cell? ⟨b,3,none⟩=some (.int .i64 0) /\
  w.frozen? ⟨b,1,none⟩=false/\w.frozen? ⟨b,2,none⟩=false/\w.frozen? ⟨b,3,none⟩=false/\b<w.heap.size:=by
 have:=h.blk;refine ⟨?_,?_,?_,?_,?_,?_,?_,h.lt⟩<;>simp[World.cell?,World.frozen?,this]
def St.tokFacts {b lb lo cap:Nat} {nv:Value} {L:Toks} {m:Nat} {N:List Nd} {w:World} (h:St b lb lo cap nv L m N w) :
  w.cell? ⟨lb,lo+m*4,none⟩=some (.int .i64 (tk L m).1.k)/\w.cell? ⟨lb,lo+m*4+1,none⟩=some (.int .i64 (tk L m).2) /\
  w.cell? ⟨lb,lo+m*4+2,none⟩=some (.string (tk L m).1.s)/\w.cell? ⟨lb,lo+m*4+3,none⟩=some (.int .i64 (tk L m).1.i)/\lb<w.heap.size :=
 ⟨(h.toks m h.pos).1,(h.toks m h.pos).2.1,(h.toks m h.pos).2.2.1,(h.toks m h.pos).2.2.2,Nat.lt_trans h.low h.lt⟩
def St.next {b lb lo cap:Nat} {nv:Value} {L:Toks} {m:Nat} {N:List Nd} {w:World} (h:St b lb lo cap nv L m N w) (hk:(tk L m).1.k≠0):m+1<L.length:=by
 have h1:=h.ends.at_ m h.pos;have h2:=h.pos;rcases Nat.lt_or_ge (m+1) L.length with h3 | h3
 . exact h3
 . exact absurd (h1.2 Y) hk
def noV (c a:Int):Ending:=.panicked [{ v:=.iface 190 (.agg #[.int .i64 c,.int .i64 a]),recovered:=false }]
def PPost {α:Type} (V:α->Value) (b lb lo cap:Nat) (nv:Value) (L:Toks) (m:Nat) (N:List Nd) (w:World) (r:PR α) (e:Ending) (w':World):Prop :=
 match r with
 | .error (c,a)=>e=noV c a/\∃ nv',Kp b nv nv' w w'
 | .ok (v,m',ns)=>e=.returned (V v)/\∃ nv',St b lb lo cap nv' L m' (N++ns) w'/\Kp b nv nv' w w'/\m<=m'
def unitV:Unit->Value:=fun _=>.tuple #[]
def intV:Int->Value:=fun z=>.int .i64 z
attribute [go_sem] more_more Array.size_append
def qez:∀ (l:List Nd) (j:Nat) (z:Nd),l[j]?=some z->(qac l)[j*8+0]?=some (.int .i64 z.k)/\(qac l)[j*8+1]?=some (.int .i64 z.a)/\(qac l)[j*8+2]?=some (.int .i64 z.b)/\(qac l)[j*8+3]?=some (.int .i64 z.c)/\(qac l)[j*8+4]?=some (.int .i64 z.x)/\(qac l)[j*8+5]?=some (.int .i64 z.i)/\(qac l)[j*8+6]?=some (.string z.s)/\(qac l)[j*8+7]?=some (.string z.t)
 | [],j,z,h=>by simp at h
 | y::l,0,z,h=>by
  simp at h;subst h
  exact⟨rfl,rfl,rfl,rfl,rfl,rfl,rfl,rfl⟩
 | y::l,j+1,z,h=>by
  have:=qez l j z jx
  have e:∀ r,(qac (y::l))[(j+1)*8+r]?=(qac l)[j*8+r]?:=by
   intro r;have h1:qac (y::l)=ndL y++qac l:=rfl;rw[h1,List.getElem?_append_right (by simp[ndL];omega)]
   congr 1
   simp[ndL];omega
  rw[e 0,e 1,e 2,e 3,e 4,e 5,e 6,e 7];exact this
def qad {w:World} {base:Nat} {e:TypeId} {size:Nat} {v:Value} {n:Nat} {xs:List Value} (h:w.ownsRow base e size v n xs):∃ p c,v=.slice p n c:=by
 rcases Go.Joins.ownsRow_forms h with ⟨rfl,h0⟩ | ⟨g1,c,rfl⟩
 . exact⟨none,0,by rw[h0]⟩
 . exact⟨_,_,rfl⟩
def own_block {w w':World} {base:Nat} {e:TypeId} {size:Nat} {v:Value} {n:Nat} {xs:List Value} (h:w.ownsRow base e size v n xs) (hb:∀ k,v.ownBlock=some k->k<w.heap.size->w'.heap[k]?=w.heap[k]?):w'.ownsRow base e size v n xs:=by
 obtain⟨h1,h2⟩:=h;refine ⟨h1,?_⟩;rcases h2 with h2 | ⟨g,cap,cur,rfl,hg,hh,r⟩
 . exact Or.inl h2
 . exact Or.inr ⟨g,cap,cur,rfl,hg,(hb g rfl (Array.getElem?_eq_some_iff.1 hh).1).trans hh,r⟩
def ndInfo:(prog.info? 166).map (fun i=>(i.zero,i.size,i.bytes))=some (some (.agg #[.int .i64 0,.int .i64 0,.int .i64 0,.int .i64 0,.int .i64 0,.int .i64 0,.string ⟨#[]⟩,.string ⟨#[]⟩]),8,80):=by kernel_rfl
def intInfo:(prog.info? 3).map (fun i=>(i.zero,i.size,i.bytes))=some (some (.int .i64 0),1,8):=by kernel_rfl
def nd_at {w:World} {base g cap n:Nat} {ns:List Nd} (h:w.ownsRow base 166 8 (.slice (some ⟨g,0,none⟩) n cap) n (qac ns)) {j:Nat} {z:Nd} (hj:ns[j]?=some z) :
  w.cell? ⟨g,j*8,none⟩=some (.int .i64 z.k)/\w.cell? ⟨g,j*8+1,none⟩=some (.int .i64 z.a)/\w.cell? ⟨g,j*8+2,none⟩=some (.int .i64 z.b)/\w.cell? ⟨g,j*8+3,none⟩=some (.int .i64 z.c)/\w.cell? ⟨g,j*8+4,none⟩=some (.int .i64 z.x)/\w.cell? ⟨g,j*8+5,none⟩=some (.int .i64 z.i)/\w.cell? ⟨g,j*8+6,none⟩=some (.string z.s)/\w.cell? ⟨g,j*8+7,none⟩=some (.string z.t):=by
 have hc:=h.cells (g:=g) rfl;obtain⟨h0,h1,h2,h3,h4,h5,h6,h7⟩:=qez ns j z hj
 have e:∀ i v,(qac ns)[i]?=some v->w.cell? ⟨g,i,none⟩=some v:=fun i v hi=>by
  have:=hc i v hi
  rwa [Addr.add_lit,Nat.zero_add] at this
 exact⟨e _ _ h0,e _ _ h1,e _ _ h2,e _ _ h3,e _ _ h4,e _ _ h5,e _ _ h6,e _ _ h7⟩
def twoL:List ByteArray:=[⟨#[61,61]⟩,⟨#[33,61]⟩,⟨#[60,61]⟩,⟨#[62,61]⟩,⟨#[46,46]⟩]
def twoV:Value:=.agg (twoL.map Value.string).toArray
def singles:ByteArray:=⟨#[40,41,123,125,44,59,61,60,62,43,45,42,47,37]⟩
def signF (l:List UInt8):Tok × Nat × Int :=
 match twoL.find? (fun p=>Lib.hasPrefix l p.data.toList) with
 | some p=>(⟨4,p,0⟩,2,0)
 | none=>(match l with
  | []=>(tok0,0,3)
  | c::_=>if singles.data.toList.contains c=true then(⟨4,⟨#[c]⟩,0⟩,1,0) else(tok0,0,3))
def two_index (k:Nat) (hk:k<5) (w:World):(Instr.index 233 twoV (.int .i64 (k:Int))).run prog w=.ok (.string (twoL.getD k ⟨#[]⟩)) w:=by
 have h:k=0\/k=1\/k=2\/k=3\/k=4:=Y;rcases h with rfl | rfl | rfl | rfl | rfl
 all_goals
  clear hk;show(Instr.index _ _ _).run _ _=_
  kernel_rfl
def lex_same {b:Nat} {s:ByteArray} {k:Nat} {lv:Value} {w:World} (h:LexAt b s k lv w):w.setCell ⟨b,1,none⟩ (.int .i64 (k:Int))=w:=by
 have h2:=h.set k (k:Int) rfl
 have e:(w.setCell ⟨b,1,none⟩ (.int .i64 (k:Int))).heap=w.heap:=by
  apply Array.ext_getElem?;intro j;by_cases hj:b=j
  . subst hj;unfold LexAt at h h2;rw[h,h2]
  . exact Below.heap_setCell _ _ _ _ (fun e=>hj e.symm)
 unfold World.setCell at e ⊢;simp only at e;rw[e]
def first_byte (t:ByteArray) (h:0<t.size):t.extract 0 1=⟨#[t[0]]⟩:=by
 apply ByteArray.ext;apply Array.ext';have hl:0<t.data.toList.length:=jx;have e1:(t.extract 0 1).data.toList=t.data.toList.take 1:=by simp[List.extract_eq_take_drop]
 rw[e1];have h2:=List.drop_eq_getElem_cons hl;rw[List.drop_zero] at h2;rw[h2];rfl
def qdv (u:UInt8) (j:Nat) (h:j<14) (e:(u.toNat:Int)=((singles[j]'h).toNat:Int)):u=singles[j]'h:=UInt8.toNat_inj.1 Y
def qdj (u:UInt8) (j:Nat) (h:j<14) (e:¬ (u.toNat:Int)=((singles[j]'h).toNat:Int)):¬ u=singles[j]'h:=fun e'=>e (by rw[e'])
def qfb (u:UInt8) (j:Nat) (h:j<14) (e:u=singles[j]'h):singles.data.toList.contains u=true:=by
 have hl:j<singles.data.toList.length:=h;rw[List.contains_iff_mem,e];exact List.getElem_mem hl
def single_step (u:UInt8) (j:Nat) (h:j<14) (hf:(singles.data.toList.take j).contains u=false) (e:¬ u=singles[j]'h):(singles.data.toList.take (j+1)).contains u=false:=by
 have hl:j<singles.data.toList.length:=h;rw[List.take_succ_eq_append_getElem hl,List.contains_eq_mem] at *;simp only[List.mem_append,List.mem_singleton,decide_eq_false_iff_not,not_or] at *;exact⟨hf,e⟩
def find_none (l:List UInt8) (k:Nat) (hk:k<5) (h:(twoL.take k).find? (fun p=>Lib.hasPrefix l p.data.toList)=none) (hn:Lib.hasPrefix l (twoL.getD k ⟨#[]⟩).data.toList=false):(twoL.take (k+1)).find? (fun p=>Lib.hasPrefix l p.data.toList)=none:=by
 have hl:k<twoL.length:=hk
 have e:twoL.take (k+1)=twoL.take k++[twoL.getD k ⟨#[]⟩]:=by
  rw[List.take_succ_eq_append_getElem hl]
  congr 2
  simp[List.getD,List.getElem?_eq_getElem hl]
 rw[e,List.find?_append,h];simp only[Option.none_or,List.find?_cons,hn,List.find?_nil]
def find_some (l:List UInt8) (k:Nat) (hk:k<5) (h:(twoL.take k).find? (fun p=>Lib.hasPrefix l p.data.toList)=none) (hn:Lib.hasPrefix l (twoL.getD k ⟨#[]⟩).data.toList=true):twoL.find? (fun p=>Lib.hasPrefix l p.data.toList)=some (twoL.getD k ⟨#[]⟩):=by
 have hl:k<twoL.length:=hk
 have e:twoL=twoL.take k++(twoL.getD k ⟨#[]⟩::twoL.drop (k+1)):=by
  have h1:=List.take_append_drop k twoL;rw[List.drop_eq_getElem_cons hl] at h1;have h2:twoL.getD k ⟨#[]⟩=twoL[k]:=by simp[List.getD,List.getElem?_eq_getElem hl]
  rw[h2];exact h1.symm
 rw[e,List.find?_append,h];simp only[Option.none_or,List.find?_cons];rw[<-e,hn]
def sign_any (b:Nat) (s t:ByteArray) (k n:Nat) (lv:Value) (hk:k<s.size) (hs:(s.size:Int)<=4611686018427387904) (ht:s.extract k s.size=t) (h0:0<t.size) (r:Tok) (e:Int) (hr:signF t.data.toList=(r,n,e)) (w:World) (h:LexAt b s k lv w) :
  Calls prog 124 #[.pointer (some ⟨b,0,none⟩)] w fun e' w'=>e'=.returned (.tuple #[tokV r 0,.int .i64 e])/\Ext (w.setCell ⟨b,1,none⟩ (.int .i64 ((k+n:Nat):Int))) w':=by
 have HL:=J h;have hb:=h.lt;obtain⟨c0,c1,c2,f1,f2⟩:=h.cells;have hk2:(k:Int)<=9223372036854775800:=Y;have hs3:s.size<=maxLen:=jq;unfold maxLen at hs3;clear hs;unfold tokV;have HR:=J hr;obtain⟨V,hV⟩:∃ V,twoV=V:=⟨_,rfl⟩
 have hV2:(Value.agg #[.string ⟨#[61,61]⟩,.string ⟨#[33,61]⟩,.string ⟨#[60,61]⟩,.string ⟨#[62,61]⟩,.string ⟨#[46,46]⟩])=V:=by rw[<-hV];rfl
 have HI:=J two_index;rw[hV] at HI;clear h hr hV;go_enter func124,ntmps124;go_wp2_with fail;refine qaa 8 54 (List.replicate 8 false) zv zv rfl ?_;refine zh ?_
 repeat(refine Lex.step rfl ?_;intro K hK;unfold StepG;go_simp;(first
   | refine hK _ ?_);clear hK K)
 refine zd ?_;intro dd oo;go_wp2_with fail;rw[ends_normal];go_wp2_with fail;clear hV2 ht
 go_loop [18] (fun ii=>∃ j:Nat,ii=.int .i64 j/\j<=5/\(twoL.take j).find? (fun p=>Lib.hasPrefix t.data.toList p.data.toList)=none) (fun ii=>5-(intOf ii).toNat)
 case atStart=>exact⟨0,rfl,Y,rfl⟩
 case round =>
  obtain⟨j,rfl,hj,hf⟩:=hrel;have HF:=J hf;clear hf;by_cases hlt:j<5
  . have hi:=HI.out j hlt;have hno:=J (find_none t.data.toList j hlt HF.out);have hso:=J (find_some t.data.toList j hlt HF.out);generalize twoL.getD j ⟨#[]⟩=x at hi hno hso;cases hq:Lib.hasPrefix t.data.toList x.data.toList
    . clear HR
      go_wp2_with (go_at_call 154;refine (Tryz.strings_HasPrefix _ _ _).mono ?_;rintro e _ ⟨rfl,rfl⟩)
      go_round
      case rel=>exact⟨j+1,by go_num,Y,hno.out hq⟩
      case measure=>simp[intOf]<;>omega
    . have h1:=HR.out;unfold signF at h1;rw[hso.out hq] at h1;simp only[Prod.mk.injEq] at h1;obtain⟨rfl,rfl,rfl⟩:=h1;clear HR
      go_wp2_with (go_at_call 154;refine (Tryz.strings_HasPrefix _ _ _).mono ?_;rintro e _ ⟨rfl,rfl⟩)
      refine bodyPost_ret (v:=.tuple #[.agg #[.int .i64 4,.int .i64 0,.string x,.int .i64 0],.int .i64 0]) (by simp[results,results124,go_sem]) rfl ?_;exact⟨rfl,zf⟩
  . have hj5:j=5:=Y;subst hj5;have hfn:twoL.find? (fun p=>Lib.hasPrefix t.data.toList p.data.toList)=none:=HF.out;have h1:=HR.out;unfold signF at h1;rw[hfn] at h1
    have hct:t.data.toList=t[0]::t.data.toList.drop 1:=by
     have hl':0<t.data.toList.length:=(by simpa using h0)
     have:=List.drop_eq_getElem_cons hl';rw[List.drop_zero] at this;exact this
    rw[hct] at h1;dsimp only at h1;have H1:=J h1;obtain⟨u,hu⟩:∃ u,t[0]=u:=⟨_,rfl⟩
    clear HR hfn HF HI h1 hct;rw[hu] at H1;cases hct:singles.data.toList.contains u
    . have h1:=H1.out;rw[hct] at h1;rw[if_neg zy] at h1;simp only[Prod.mk.injEq] at h1;obtain⟨rfl,rfl,rfl⟩:=h1;have HC:=J hct;clear H1 hct
      go_wp2
      go_loopw [34] (fun ii wr=>∃ (j:Nat) (d:Nat) (os:Array Obj),ii=.int .i64 j/\j<=14/\(singles.data.toList.take j).contains u=false/\wr=more (w.alloc (.cells #[.int .i64 0,.int .i64 0,.string ⟨#[]⟩,.int .i64 0] 186)) d os) (fun ii _=>14-(intOf ii).toNat)
      case atStart=>exact⟨0,_,_,rfl,Y,rfl,rfl⟩
      case round =>
       obtain⟨j,d,os,rfl,hj,hf,rfl⟩:=hrel;have HF:=J hf;clear hf;by_cases hlt:j<14
       . go_wp2_with fail;refine qaa 4 54 (List.replicate 4 false) zv zv rfl ?_;refine zh ?_
         repeat(refine Lex.step rfl ?_;intro K hK;unfold StepG;go_simp;(first
           | refine hK _ ?_);clear hK K)
         refine zd ?_;intro dd oo;go_wp2_with fail;rw[ends_normal];go_wp2_with fail
         . rename_i hqt;have hq:=qdv u j hlt (by simp only[beq_iff_eq] at hqt;exact hqt);exact absurd (qfb u j hlt hq) (by rw[HC.out];simp)
         . rename_i hqt;have hq:=qdj u j hlt (by simp only[beq_eq_false_iff_ne,ne_eq] at hqt;exact hqt);go_roundw
           case rel=>exact⟨j+1,_,_,by go_num,Y,single_step u j hlt HF.out hq,rfl⟩
           case measure=>simp[intOf]<;>omega
       . have hj14:j=14:=Y;subst hj14
         go_wp2
         refine bodyPost_ret (v:=.tuple #[.agg #[.int .i64 0,.int .i64 0,.string ⟨#[]⟩,.int .i64 0],.int .i64 3]) (by simp[results,results124,go_sem]) rfl ?_;refine ⟨rfl,?_⟩;rw[Nat.add_zero,lex_same HL.out]
         repeat(first | exact Ext.refl _ | apply Ext.alloc | apply Ext.more)
    . have h1:=H1.out;rw[hct] at h1;rw[if_pos rfl] at h1;simp only[Prod.mk.injEq] at h1;obtain⟨rfl,rfl,rfl⟩:=h1;have HC:=J hct;have hx:t.extract 0 1=⟨#[u]⟩:=(by rw[<-hu];exact first_byte t h0)
      clear H1 hct
      go_wp2
      go_loopw [34] (fun ii wr=>∃ (j:Nat) (d:Nat) (os:Array Obj),ii=.int .i64 j/\j<=14/\(singles.data.toList.take j).contains u=false/\wr=more (w.alloc (.cells #[.int .i64 0,.int .i64 0,.string ⟨#[]⟩,.int .i64 0] 186)) d os) (fun ii _=>14-(intOf ii).toNat)
      case atStart=>exact⟨0,_,_,rfl,Y,rfl,rfl⟩
      case round =>
       obtain⟨j,d,os,rfl,hj,hf,rfl⟩:=hrel;have HF:=J hf;clear hf;by_cases hlt:j<14
       . go_wp2_with fail;refine qaa 4 54 (List.replicate 4 false) zv zv rfl ?_;refine zh ?_
         repeat(refine Lex.step rfl ?_;intro K hK;unfold StepG;go_simp;(first
           | refine hK _ ?_);clear hK K)
         refine zd ?_;intro dd oo;go_wp2_with fail;rw[ends_normal];go_wp2_with fail
         . rename_i hqt;have hq:=qdv u j hlt (by simp only[beq_iff_eq] at hqt;exact hqt);refine bodyPost_ret (v:=.tuple #[.agg #[.int .i64 4,.int .i64 0,.string ⟨#[u]⟩,.int .i64 0],.int .i64 0]) (by simp[results,results124,hx,go_sem]) rfl ?_;exact⟨rfl,zf⟩
         . rename_i hqt;have hq:=qdj u j hlt (by simp only[beq_eq_false_iff_ne,ne_eq] at hqt;exact hqt);go_roundw
           case rel=>exact⟨j+1,_,_,by go_num,Y,single_step u j hlt HF.out hq,rfl⟩
           case measure=>simp[intOf]<;>omega
       . have hj14:j=14:=Y;subst hj14;exact absurd HC.out (by rw[show singles.data.toList=singles.data.toList.take 14 from rfl,HF.out];simp)
def textG:List UInt8->List UInt8->Tok × Nat × Int
 | [],_=>(tok0,0,2)
 | c::l,acc =>
  if c.toNat=34 then(if 64<acc.length then(tok0,0,5) else(⟨3,⟨acc.toArray⟩,0⟩,1,0))
  else if c.toNat<32\/126<c.toNat then(tok0,0,3)
  else if c.toNat≠92 then(let r:=textG l (acc++[c]);(r.1,r.2.1+1,r.2.2))
  else match l with
   | []=>(tok0,0,2)
   | d::l'=>if escZ (d.toNat:Int)=0 then(tok0,0,3) else(let r:=textG l' (acc++[UInt8.ofNat (escZ (d.toNat:Int)).toNat]);(r.1,r.2.1+2,r.2.2))
def TextPost (b k n:Nat) (r:Tok) (e:Int) (w:World) (e':Ending) (w':World):Prop :=
 e'=.returned (.tuple #[.agg #[.int .i64 r.k,.int .i64 0,.string r.s,.int .i64 r.i],.int .i64 e])/\∃ k':Nat,(e=0->k'=k+1+n)/\Ext (w.setCell ⟨b,1,none⟩ (.int .i64 (k':Int))) w'
def escZ_range (c:Int) (h0:0<=c) (h1:c<256):0<=escZ c/\escZ c<256:=by unfold escZ;(repeat' split)<;>omega
def qfA {B b:Nat} {acc:List UInt8} {c:Int} {u:UInt8} {w:World} (h:Bld B b (qae acc++[.int .u8 c]) w) (hu:(u.toNat:Int)=c):Bld B b (qae (acc++[u])) w:=by
 rw[qby];have e:qae [u]=[.int .u8 c]:=by rw[<-hu];rfl
 rw[e];exact h
def grown_new {w0 w:World} {row:Option Nat} (h:w0.grownBy w row) {p:Addr} (hp:w0.heap.size<=p.block) (v:Value):w0.grownBy (w.setCell p v) row:=by
 obtain⟨h1,h2,h3,h4,h5⟩:=h;refine ⟨h1,h2,h3,by simpa [World.setCell] using h4,fun k hk hne=>?_⟩;rw[<-h5 k hk hne];exact Below.heap_setCell _ _ _ _ (fun e=>by omega)
theorem setCell_same {w:World} {b i:Nat} {v:Value} (h:w.cell? ⟨b,i,none⟩=some v):w.setCell ⟨b,i,none⟩ v=w:=by
 have e:(w.setCell ⟨b,i,none⟩ v).heap=w.heap:=by
  apply Array.ext_getElem?;intro j;by_cases hj:b=j
  . subst hj;unfold World.cell? at h;unfold World.setCell;simp only[Array.getElem?_modify,if_true]
    cases hb:w.heap[b]? with
    | none=>rfl
    | some o =>
     rw[hb] at h
     cases o with
     | cells c t fr =>
      have hi:c[i]?=some v:=jx;obtain⟨hlt,hv⟩:=Array.getElem?_eq_some_iff.1 hi
      have hs:c.setIfInBounds i v=c:=by
       apply Array.ext_getElem?;intro q;rw[Array.getElem?_setIfInBounds];by_cases h3:i=q
       . subst h3;rw[if_pos rfl,if_pos hlt,hi]
       . rw[if_neg h3]
      simp[hs]
     | _=>first | (simp at h;done) | cases h
  . exact Below.heap_setCell _ _ _ _ (fun e=>hj e.symm)
 unfold World.setCell at e ⊢;simp only at e;rw[e]
attribute [go_sem] setCell_same
def TokBlk (N:Nat) (w:World):Prop:=w.heap[N]?=some (.cells #[.int .i64 0,.int .i64 0,.string ⟨#[]⟩,.int .i64 0] 186 (0,0))
def TokBlk.cells {N:Nat} {w:World} (h:TokBlk N w):w.cell? ⟨N,0,none⟩=some (.int .i64 0)/\w.cell? ⟨N,1,none⟩=some (.int .i64 0)/\w.cell? ⟨N,2,none⟩=some (.string ⟨#[]⟩)/\w.cell? ⟨N,3,none⟩=some (.int .i64 0)/\(∀ o,w.frozen? ⟨N,o,none⟩=false)/\N<w.heap.size:=by
 unfold TokBlk at h;refine ⟨by simp[World.cell?,h],by simp[World.cell?,h],by simp[World.cell?,h],by simp[World.cell?,h],fun o=>by simp[World.frozen?,h],?_⟩;exact(Array.getElem?_eq_some_iff.1 h).1
def TokBlk.start {N:Nat} {w:World} (h:w.heap.size=N) (o:Obj):TokBlk N ((w.alloc (.cells #[.int .i64 0,.int .i64 0,.string ⟨#[]⟩,.int .i64 0] 186)).alloc o):=by
 subst h;unfold TokBlk;rw[Lib.alloc_old _ o _ zy];exact heap_alloc_new _ _
def TokBlk.below {N B:Nat} {w w':World} (h:TokBlk N w) (hb:Below B w w') (hN:N<B):TokBlk N w':=by
 unfold TokBlk;rw[hb.block N hN];exact h
def TokBlk.set {N:Nat} {w:World} (h:TokBlk N w) {p:Addr} (hp:p.block≠N) (v:Value):TokBlk N (w.setCell p v):=by
 unfold TokBlk;rw[Below.heap_setCell _ _ _ _ (fun e=>hp e.symm)];exact h
def TokBlk.more {N:Nat} {w:World} (h:TokBlk N w) (d:Nat) (os:Array Obj):TokBlk N (more w d os):=by
 unfold TokBlk;rw[more_heap _ _ _ _ h.cells.2.2.2.2.2];exact h
def bld_set {B b b0 i:Nat} {bs:List Value} {w:World} (h:Bld B b bs w) (hb:b0<B) (v:Value):Bld B b bs (w.setCell ⟨b0,i,none⟩ v):=bld_kept h (qak (grown_refl w _) i v) hb
def bld_more {B b:Nat} {bs:List Value} {w:World} (h:Bld B b bs w) (d:Nat) (os:Array Obj):Bld B b bs (more w d os):=bld_ext h (Ext.more (Ext.refl _) _ _)
def text_cases {s:ByteArray} {m:Nat} (hlt:m<s.size) {acc:List UInt8} {r:Tok} {n:Nat} {e:Int} (hx:textG (s.data.toList.drop m) acc=(r,n,e)):∃ c:Nat,(s[m]'hlt).toNat=c/\c<256 /\
  ((c=34/\64<acc.length/\r=tok0/\e=5)\/(c=34/\acc.length<=64/\r=⟨3,⟨acc.toArray⟩,0⟩/\n=1/\e=0)\/(c≠34/\(c<32\/126<c)/\r=tok0/\e=3) \/
   (c≠34/\¬(c<32\/126<c)/\c≠92/\∃ n1,n=n1+1/\Hid (textG (s.data.toList.drop (m+1)) (acc++[s[m]'hlt])=(r,n1,e))) \/
   (c=92/\m+1=s.size/\r=tok0/\e=2) \/
   (c=92/\∃ (h2:m+1<s.size) (z:Int),escZ ((s[m+1]'h2).toNat:Int)=z/\(z=0/\r=tok0/\e=3\/z≠0/\∃ n1,n=n1+2/\Hid (textG (s.data.toList.drop (m+1+1)) (acc++[UInt8.ofNat z.toNat])=(r,n1,e))))):=by
 refine ⟨_,rfl,(s[m]'hlt).toNat_lt,?_⟩;rw[List.drop_eq_getElem_cons jb] at hx;rw[show s.data.toList[m]'jb=s[m]'hlt from rfl] at hx;unfold textG at hx;generalize s[m]'hlt=u at *;by_cases q1:u.toNat=34
 . rw[if_pos q1] at hx
   split at hx<;>cases hx
   . exact Or.inl ⟨q1,zo,rfl,rfl⟩
   . exact Or.inr (Or.inl ⟨q1,Y,rfl,rfl,rfl⟩)
 rw[if_neg q1] at hx;by_cases q2:u.toNat<32\/126<u.toNat
 . rw[if_pos q2] at hx;cases hx;exact Or.inr (Or.inr (Or.inl ⟨q1,q2,rfl,rfl⟩))
 rw[if_neg q2] at hx;by_cases q5:u.toNat≠92
 . rw[if_pos q5] at hx;cases hx;exact Or.inr (Or.inr (Or.inr (Or.inl ⟨q1,q2,q5,_,rfl,J rfl⟩)))
 rw[if_neg q5] at hx;by_cases h2:m+1<s.size
 . rw[List.drop_eq_getElem_cons (by simpa using h2)] at hx;rw[show s.data.toList[m+1]'(by simpa using h2)=s[m+1]'h2 from rfl] at hx;dsimp only at hx;refine Or.inr (Or.inr (Or.inr (Or.inr (Or.inr ⟨Y,h2,_,rfl,?_⟩))))
   split at hx<;>cases hx
   . exact Or.inl ⟨zo,rfl,rfl⟩
   . exact Or.inr ⟨zo,_,rfl,J rfl⟩
 . rw[List.drop_eq_nil_of_le zg] at hx;cases hx;exact Or.inr (Or.inr (Or.inr (Or.inr (Or.inl ⟨Y,Y,rfl,rfl⟩))))
def text_any (b:Nat) (s:ByteArray) (k n:Nat) (lv:Value) (hk:k<s.size) (hs:s.size<=140737488351232) (r:Tok) (e:Int) (hr:textG (s.data.toList.drop (k+1)) []=(r,n,e)) (w:World) (h:LexAt b s k lv w) :
  Calls prog 129 #[.pointer (some ⟨b,0,none⟩)] w (TextPost b k n r e w):=by
 have HL:=J h;have HR:=J hr;have hbw:=h.lt;obtain⟨c0,c1,c2,f1,f2⟩:=h.cells;have HSZ:=J hs;have hs3:s.size<=maxLen:=jq;unfold maxLen at hs3;clear h hr hs;go_enter func129,ntmps129;go_wp2_with fail;clear c0 c1 c2 f1 f2
 go_loopg [] (s.size-(k+1)) (fun g wr=>∃ (m:Nat) (acc:List UInt8) (n':Nat),k<m/\m<=s.size/\acc.length<=m/\g=s.size-m/\textG (s.data.toList.drop m) acc=(r,n',e)/\(e=0->m+n'=k+1+n)/\LexAt b s m lv wr/\TokBlk w.heap.size wr/\Bld (w.heap.size+1) (w.heap.size+1) (qae acc) wr/\w.grownBy wr (some b))
 case atStart =>
  have hsz:(w.setCell ⟨b,1,none⟩ (.int .i64 ((k:Int)+1))).heap.size=w.heap.size:=by simp[World.setCell]
  refine ⟨k+1,[],n,Y,Y,zy,rfl,HR.out,fun _=>by omega,((HL.out.set (k+1) _ Y).alloc _).alloc _,?_,?_,?_⟩
  . exact TokBlk.start hsz _
  . have h:=Lib.fresh_isBuilder 236 5 ((w.setCell ⟨b,1,none⟩ (.int .i64 ((k:Int)+1))).alloc (.cells #[.int .i64 0,.int .i64 0,.string ⟨#[]⟩,.int .i64 0] 186));have e2:((w.setCell ⟨b,1,none⟩ (.int .i64 ((k:Int)+1))).alloc (.cells #[.int .i64 0,.int .i64 0,.string ⟨#[]⟩,.int .i64 0] 186)).heap.size=w.heap.size+1:=(by simp[World.setCell])
    rw[e2] at h;exact h
  . exact qal (qak (grown_refl _ _) _ _) (((Ext.refl _).alloc _).alloc _)
 case round =>
  obtain⟨m,acc,n',hkm,hms,hal,hgk,hx,hsn,hL,hT,hB,hg⟩:=hrel;have HLL:=J hL;have HT:=J hT;have HB:=J hB;have HG:=J hg;have HGK:=J hgk;have HS:=J hsn;obtain⟨c0,c1,c2,f1,f2⟩:=hL.cells;have hb:=hL.lt;obtain⟨t0,t1,t2,t3,tf,ht⟩:=hT.cells;have hne:(w.heap.size=b)=False:=zg;have hne2:(b=w.heap.size)=False:=zg;clear hL hT hB hg hgk hsn HR;by_cases hlt:m<s.size;rotate_left
  . rw[List.drop_eq_nil_of_le zg] at hx;obtain⟨rfl,rfl,he⟩:tok0=r/\0=n'/\2=e:=by simpa [textG] using hx
    unfold tok0;have hlt':((m:Int)<s.size)=False:=zg;have HE:=J he;clear hx he;go_wp2_with fail;refine qaa 9 100 (List.replicate 9 false) zv zv rfl ?_;refine qg ?_
    repeat(refine Lex.step rfl ?_;intro K hK;unfold StepG;go_simp;refine hK _ ?_;clear hK K)
    refine zd ?_;intro dd oo;go_wp2_with fail;rw[ends_normal];go_wp2_with fail;have he:=HE.out.symm;refine yak ⟨?_⟩;exact⟨rfl,m,fun h=>absurd h Y,lex_form HL.out (k':=m) qz ju⟩
  obtain⟨c,hc,hc2,K⟩:=text_cases hlt hx;have KK:=J K;have HC:=J hc;clear hx K hc;go_wp2_with fail;refine qaa 9 100 (List.replicate 9 false) zv zv rfl ?_;refine qg ?_
  repeat(refine Lex.step rfl ?_;intro K hK;unfold StepG;go_simp;refine hK _ ?_;clear hK K)
  refine zd ?_;intro dd oo;go_wp2_with fail;rw[ends_normal];go_wp2_with fail;refine qaa 8 100 (List.replicate 8 false) zv zv rfl ?_;refine qg ?_
  repeat(refine Lex.step rfl ?_;intro K hK;unfold StepG;go_simp;refine hK _ ?_;clear hK K)
  refine zd ?_;intro dd oo;go_wp2_with fail;rw[ends_normal];rw[HC.out];rcases KK.out with ⟨rfl,h1,rfl,he⟩ | ⟨rfl,h1,rfl,rfl,rfl⟩ | ⟨q1,h1,rfl,he⟩ | ⟨q1,q2,q3,n1,rfl,HX⟩ | ⟨rfl,h1,rfl,he⟩ | ⟨rfl,h2,z,hz,K2⟩
  all_goals clear KK
  . unfold tok0;have HE:=J he;clear he
    go_wp2_with (go_at_call 157;refine (Tryz.Builder_Len (w.heap.size+1) (w.heap.size+1) (qae acc) _ qi).mono ?_;rw[cellsB_length];rintro e' _ ⟨rfl,rfl⟩)
    have he:=HE.out;refine yak ⟨?_⟩;exact⟨rfl,m+1,fun h=>absurd h Y,lex_form HL.out (k':=m+1) qz ju⟩
  . have h64':((acc.length:Int)<=64):=Y
    go_wp2_with (go_at_call 157;refine (Tryz.Builder_Len (w.heap.size+1) (w.heap.size+1) (qae acc) _ qi).mono ?_;rw[cellsB_length];rintro e' _ ⟨rfl,rfl⟩)
    refine (Tryz.Builder_String_any (w.heap.size+1) (w.heap.size+1) acc _ (show Bld (w.heap.size+1) (w.heap.size+1) (qae acc) _ from qi) (by simp only[more_size,World.setCell,Array.size_modify];omega)).mono ?_;rintro e' w2 ⟨rfl,hbl⟩;have hL:=LexAt.below (k:=m+1) qz hbl Y;have hT:=TokBlk.below (N:=w.heap.size) zar hbl Y;have hG:=qdb (w:=w) (row:=some b) ju (hbl.mono Y);clear HLL HT HG;have HLL:=J hL;have HT:=J hT;have HG:=J hG;clear c0 c1 c2 f1 f2 t0 t1 t2 t3 tf ht hb hbl;obtain⟨c0,c1,c2,f1,f2⟩:=hL.cells;have hb:=hL.lt;obtain⟨t0,t1,t2,t3,tf,ht⟩:=hT.cells;clear hL hT hG;go_wp2_with fail;refine bodyPost_ret (v:=.tuple #[.agg #[.int .i64 3,.int .i64 0,.string ⟨acc.toArray⟩,.int .i64 0],.int .i64 0]) (by simp[results,results129,t0,t1,t2,t3,tf,hne,hne2,ht,hb,go_sem]) rfl ?_;exact⟨rfl,m+1,fun _=>by have:=HS.out (by trivial);omega,lex_form HL.out (k':=m+1) qz ju⟩
  . have p1:((c:Int)==34)=false:=zg;unfold tok0;have HE:=J he;clear he;rcases h1 with h1 | h1
    . have p2:((c:Int)<32)=True:=zg
      go_wp2_with fail;have he:=HE.out;refine yak ⟨?_⟩
      exact⟨rfl,m,fun h=>absurd h Y,lex_form HL.out (k':=m) qz ju⟩
    . have p2:((c:Int)<32)=False:=zg;have p3:(126<(c:Int))=True:=zg
      go_wp2_with fail;have he:=HE.out;refine yak ⟨?_⟩
      exact⟨rfl,m,fun h=>absurd h Y,lex_form HL.out (k':=m) qz ju⟩
  . have p1:((c:Int)==34)=false:=zg;have p2:((c:Int)<32)=False:=zg;have p3:(126<(c:Int))=False:=zg;have p4:((c:Int)==92)=false:=zg;have p5:((c:Int) !=92)=true:=zg
    go_wp2_with fail;have hc:=HC.out;refine (qaw (w.heap.size+1) (w.heap.size+1) (qae acc) (c:Int) _ qi (by rw[cellsB_length];have:=HSZ.out;omega) (by simp only[more_size,World.setCell,Array.size_modify];omega)).mono ?_;rintro e' w2 ⟨rfl,hB1,hbl⟩;have hL:=LexAt.below (k:=m) qz hbl Y;have hT:=TokBlk.below (N:=w.heap.size) zar hbl Y;have hG:=qdb (w:=w) (row:=some b) ju (hbl.mono Y);clear HLL HT HG;have HLL:=J hL;have HT:=J hT;have HG:=J hG;clear c0 c1 c2 f1 f2 t0 t1 t2 t3 tf ht hb hbl
    obtain⟨c0,c1,c2,f1,f2⟩:=hL.cells;have hb:=hL.lt;obtain⟨t0,t1,t2,t3,tf,ht⟩:=hT.cells;clear hL hT hG;clear HB;have HB:=J hB1;clear hB1;go_wp2_with fail
    go_roundg (s.size-(m+1))
    case measure=>have:=HGK.out;omega
    case rel=>exact⟨m+1,acc++[s[m]'hlt],n1,Y,Y,zg,rfl,HX.out,fun h=>by have:=HS.out h;omega,qz,zar,qfA qi (by first | omega | (simp;omega)),ju⟩
  . unfold tok0;have hle:(((m:Int)+1)==(s.size:Int))=true:=zg;have HE:=J he;clear he;go_wp2_with fail;refine qaa 9 100 (List.replicate 9 false) zv zv rfl ?_;refine qg ?_
    repeat(refine Lex.step rfl ?_;intro K hK;unfold StepG;go_simp;refine hK _ ?_;clear hK K)
    refine zd ?_;intro dd oo;go_wp2_with fail;rw[ends_normal];go_wp2_with fail;have he:=HE.out;refine yak ⟨?_⟩;exact⟨rfl,m+1,fun h=>absurd h Y,lex_form HL.out (k':=m+1) qz ju⟩
  . have hle:(((m:Int)+1)==(s.size:Int))=false:=zg;have h256b:=(s[m+1]'h2).toNat_lt;have es:=esc_any ((s[m+1]'h2).toNat:Int) Y Y;have er:=escZ_range ((s[m+1]'h2).toNat:Int) Y Y;rw[hz] at es er;have ES:=J es;have HK2:=J K2;clear es hz h256b K2;go_wp2_with fail;refine qaa 9 100 (List.replicate 9 false) zv zv rfl ?_;refine qg ?_
    repeat(refine Lex.step rfl ?_;intro K hK;unfold StepG;go_simp;refine hK _ ?_;clear hK K)
    refine zd ?_;intro dd oo;go_wp2_with fail;rw[ends_normal];go_wp2_with fail;refine qaa 8 100 (List.replicate 8 false) zv zv rfl ?_;refine qg ?_
    repeat(refine Lex.step rfl ?_;intro K hK;unfold StepG;go_simp;refine hK _ ?_;clear hK K)
    refine zd ?_;intro dd oo
    go_wp2_with (go_at_call 160;refine (ES.out _).mono ?_;rintro e' _ ⟨rfl,rfl⟩)
    rw[ends_normal];rcases HK2.out with ⟨rfl,rfl,he⟩ | ⟨z0,n1,rfl,HX⟩
    . unfold tok0;have HE:=J he;clear he HK2;go_wp2_with fail;have he:=HE.out;refine yak ⟨?_⟩;exact⟨rfl,m+1,fun h=>absurd h Y,lex_form HL.out (k':=m+1) qz ju⟩
    . have z1:(z==0)=false:=(by simpa using z0)
      clear HK2;go_wp2_with fail;refine (qaw (w.heap.size+1) (w.heap.size+1) (qae acc) z _ qi (by rw[cellsB_length];have:=HSZ.out;omega) (by simp only[more_size,World.setCell,Array.size_modify];omega)).mono ?_;rintro e' w2 ⟨rfl,hB1,hbl⟩;have hL:=LexAt.below (k:=(m+1)) qz hbl Y;have hT:=TokBlk.below (N:=w.heap.size) zar hbl Y;have hG:=qdb (w:=w) (row:=some b) ju (hbl.mono Y);clear HLL HT HG;have HLL:=J hL;have HT:=J hT;have HG:=J hG;clear c0 c1 c2 f1 f2 t0 t1 t2 t3 tf ht hb hbl;obtain⟨c0,c1,c2,f1,f2⟩:=hL.cells;have hb:=hL.lt;obtain⟨t0,t1,t2,t3,tf,ht⟩:=hT.cells;clear hL hT hG;clear HB;have HB:=J hB1;clear hB1;go_wp2_with fail
      go_roundg (s.size-((m+1)+1))
      case measure=>have:=HGK.out;omega
      case rel=>exact⟨(m+1)+1,acc++[UInt8.ofNat z.toNat],n1,Y,Y,zg,rfl,HX.out,fun h=>by have:=HS.out h;omega,qz,zar,qfA qi (by first | omega | (simp;omega)),ju⟩
def next_end (b:Nat) (s:ByteArray) (k n:Nat) (lv:Value) (hk:k<=s.size) (hs:s.size<=maxLen) (hn:skipL false (s.data.toList.drop k)=n) (hlt:k+n=s.size) (w:World) (h:LexAt b s k lv w) :
  Calls prog 109 #[.pointer (some ⟨b,0,none⟩)] w fun e' w'=>e'=.returned (.tuple #[tokV tok0 0,.int .i64 0,.bool false])/\Ext (w.setCell ⟨b,1,none⟩ (.int .i64 ((k+n:Nat):Int))) w':=by
 have HL:=J h;have C:=J (qeG b s k n lv hk hs hn);have hb:=h.lt;obtain⟨c0,c1,c2,f1,f2⟩:=h.cells;unfold maxLen at hs;clear h hn;have hle:(((k:Int)+n)==(s.size:Int))=true:=zg;unfold tokV tok0;go_enter func109,ntmps109
 go_wp2_with (go_at_call 123;refine (C.out _ zbe).mono ?_;rintro e _ ⟨rfl,d,os,rfl⟩)
 refine qaa 9 62 (List.replicate 9 false) zv zv rfl ?_;refine zh ?_
 repeat(refine Lex.step rfl ?_;intro K hK;unfold StepG;go_simp;(first
   | refine hK _ ?_);clear hK K)
 refine zd ?_;intro dd oo;go_wp2_with fail;rw[ends_normal];go_wp2_with fail;refine bodyPost_ret (v:=.tuple #[.agg #[.int .i64 0,.int .i64 0,.string ⟨#[]⟩,.int .i64 0],.int .i64 0,.bool false]) zbo rfl ?_;refine ⟨rfl,?_⟩;rw[hlt]
 repeat(first | exact Ext.refl _ | apply Ext.alloc | apply Ext.more)
def qbN (b K:Nat) (r:Tok) (e:Int) (w:World) (e':Ending) (w':World):Prop :=
 e'=.returned (.tuple #[.agg #[.int .i64 r.k,.int .i64 0,.string r.s,.int .i64 r.i],.int .i64 e])/\∃ k':Nat,(e=0->k'=K)/\Ext (w.setCell ⟨b,1,none⟩ (.int .i64 (k':Int))) w'
def qdw (b A K:Nat) (r:Tok) (e:Int) (w:World) (e':Ending) (w':World):Prop :=
 e'=.returned (.tuple #[.agg #[.int .i64 r.k,.int .i64 (A:Int),.string r.s,.int .i64 r.i],.int .i64 e,.bool true])/\∃ k':Nat,(e=0->k'=K)/\Ext (w.setCell ⟨b,1,none⟩ (.int .i64 (k':Int))) w'
def next_name (b:Nat) (s:ByteArray) (k n:Nat) (lv:Value) (hk:k<=s.size) (hs:s.size<=maxLen) (hn:skipL false (s.data.toList.drop k)=n) (hlt:k+n<s.size) (hc:qar ((s[k+n]'hlt).toNat:Int)=true) (K:Nat) (r:Tok) (e:Int)
  (T:Hid (∀ w,LexAt b s (k+n) lv w->Calls prog 126 #[.pointer (some ⟨b,0,none⟩)] w (qbN b K r e w))) (w:World) (h:LexAt b s k lv w) :
  Calls prog 109 #[.pointer (some ⟨b,0,none⟩)] w (qdw b (k+n) K r e w):=by
 have HL:=J h;have C:=J (qeG b s k n lv hk hs hn);have hb:=h.lt;obtain⟨c0,c1,c2,f1,f2⟩:=h.cells;unfold maxLen at hs;clear h hn;have hle:(((k:Int)+n)==(s.size:Int))=false:=zg;have h256:=(s[k+n]'hlt).toNat_lt;have le:=qbm ((s[k+n]'hlt).toNat:Int) Y Y;rw[hc] at le;have LE:=J le;clear le hc;clear h256;have hz:((k:Int)+n<s.size):=Y;go_enter func109,ntmps109
 go_wp2_with (go_at_call 123;refine (C.out _ zbe).mono ?_;rintro e _ ⟨rfl,d,os,rfl⟩)
 refine qaa 9 62 (List.replicate 9 false) zv zv rfl ?_;refine zh ?_
 repeat(refine Lex.step rfl ?_;intro K hK;unfold StepG;go_simp;(first
   | refine hK _ ?_);clear hK K)
 refine zd ?_;intro dd oo;go_wp2_with fail;rw[ends_normal];go_wp2_with fail;refine qaa 8 62 (List.replicate 8 false) zv zv rfl ?_;refine zh ?_
 repeat(refine Lex.step rfl ?_;intro K hK;unfold StepG;go_simp;(first
   | refine hK _ ?_);clear hK K)
 refine zd ?_;intro dd oo
 go_wp2_with (go_at_call 125;refine (LE.out _).mono ?_;rintro e _ ⟨rfl,rfl⟩)
 first | rw[ends_normal] | skip
 go_wp2_with (go_at_call 125;refine (LE.out _).mono ?_;rintro e _ ⟨rfl,rfl⟩)
 refine (T.out _ zbg).mono ?_;rintro e _ ⟨rfl,k2,hk2,d3,os3,rfl⟩;have HK2:=J hk2;clear hk2;go_wp2_with fail;refine yar ⟨?_⟩;exact⟨rfl,k2,HK2.out,zf⟩
def next_number (b:Nat) (s:ByteArray) (k n:Nat) (lv:Value) (hk:k<=s.size) (hs:s.size<=maxLen) (hn:skipL false (s.data.toList.drop k)=n) (hlt:k+n<s.size) (hc:qar ((s[k+n]'hlt).toNat:Int)=false) (hd:qah ((s[k+n]'hlt).toNat:Int)=true) (K:Nat) (r:Tok) (e:Int)
  (T:Hid (∀ w,LexAt b s (k+n) lv w->Calls prog 128 #[.pointer (some ⟨b,0,none⟩)] w (qbN b K r e w))) (w:World) (h:LexAt b s k lv w) :
  Calls prog 109 #[.pointer (some ⟨b,0,none⟩)] w (qdw b (k+n) K r e w):=by
 have HL:=J h;have C:=J (qeG b s k n lv hk hs hn);have hb:=h.lt;obtain⟨c0,c1,c2,f1,f2⟩:=h.cells;unfold maxLen at hs;clear h hn;have hle:(((k:Int)+n)==(s.size:Int))=false:=zg;have h256:=(s[k+n]'hlt).toNat_lt;have le:=qbm ((s[k+n]'hlt).toNat:Int) Y Y;rw[hc] at le;have LE:=J le;clear le hc;have de:=qcG ((s[k+n]'hlt).toNat:Int) Y Y;rw[hd] at de;have DE:=J de;clear de hd;clear h256;have hz:((k:Int)+n<s.size):=Y;go_enter func109,ntmps109
 go_wp2_with (go_at_call 123;refine (C.out _ zbe).mono ?_;rintro e _ ⟨rfl,d,os,rfl⟩)
 refine qaa 9 62 (List.replicate 9 false) zv zv rfl ?_;refine zh ?_
 repeat(refine Lex.step rfl ?_;intro K hK;unfold StepG;go_simp;(first
   | refine hK _ ?_);clear hK K)
 refine zd ?_;intro dd oo;go_wp2_with fail;rw[ends_normal];go_wp2_with fail;refine qaa 8 62 (List.replicate 8 false) zv zv rfl ?_;refine zh ?_
 repeat(refine Lex.step rfl ?_;intro K hK;unfold StepG;go_simp;(first
   | refine hK _ ?_);clear hK K)
 refine zd ?_;intro dd oo
 go_wp2_with (first
  | (go_at_call 125;refine (LE.out _).mono ?_;rintro e _ ⟨rfl,rfl⟩)
  | (go_at_call 127;refine (DE.out _).mono ?_;rintro e _ ⟨rfl,rfl⟩))
 first | rw[ends_normal] | skip
 go_wp2_with (first
  | (go_at_call 125;refine (LE.out _).mono ?_;rintro e _ ⟨rfl,rfl⟩)
  | (go_at_call 127;refine (DE.out _).mono ?_;rintro e _ ⟨rfl,rfl⟩))
 refine (T.out _ zbg).mono ?_;rintro e _ ⟨rfl,k2,hk2,d3,os3,rfl⟩;have HK2:=J hk2;clear hk2;go_wp2_with fail;refine yar ⟨?_⟩;exact⟨rfl,k2,HK2.out,zf⟩
def next_text (b:Nat) (s:ByteArray) (k n:Nat) (lv:Value) (hk:k<=s.size) (hs:s.size<=maxLen) (hn:skipL false (s.data.toList.drop k)=n) (hlt:k+n<s.size) (hc:qar ((s[k+n]'hlt).toNat:Int)=false) (hd:qah ((s[k+n]'hlt).toNat:Int)=false) (hq:(((s[k+n]'hlt).toNat:Int)==34)=true) (K:Nat) (r:Tok) (e:Int)
  (T:Hid (∀ w,LexAt b s (k+n) lv w->Calls prog 129 #[.pointer (some ⟨b,0,none⟩)] w (qbN b K r e w))) (w:World) (h:LexAt b s k lv w) :
  Calls prog 109 #[.pointer (some ⟨b,0,none⟩)] w (qdw b (k+n) K r e w):=by
 have HL:=J h;have C:=J (qeG b s k n lv hk hs hn);have hb:=h.lt;obtain⟨c0,c1,c2,f1,f2⟩:=h.cells;unfold maxLen at hs;clear h hn;have hle:(((k:Int)+n)==(s.size:Int))=false:=zg;have h256:=(s[k+n]'hlt).toNat_lt;have le:=qbm ((s[k+n]'hlt).toNat:Int) Y Y;rw[hc] at le;have LE:=J le;clear le hc;have de:=qcG ((s[k+n]'hlt).toNat:Int) Y Y;rw[hd] at de;have DE:=J de;clear de hd;clear h256;have hz:((k:Int)+n<s.size):=Y;go_enter func109,ntmps109
 go_wp2_with (go_at_call 123;refine (C.out _ zbe).mono ?_;rintro e _ ⟨rfl,d,os,rfl⟩)
 refine qaa 9 62 (List.replicate 9 false) zv zv rfl ?_;refine zh ?_
 repeat(refine Lex.step rfl ?_;intro K hK;unfold StepG;go_simp;(first
   | refine hK _ ?_);clear hK K)
 refine zd ?_;intro dd oo;go_wp2_with fail;rw[ends_normal];go_wp2_with fail;refine qaa 8 62 (List.replicate 8 false) zv zv rfl ?_;refine zh ?_
 repeat(refine Lex.step rfl ?_;intro K hK;unfold StepG;go_simp;(first
   | refine hK _ ?_);clear hK K)
 refine zd ?_;intro dd oo
 go_wp2_with (first
  | (go_at_call 125;refine (LE.out _).mono ?_;rintro e _ ⟨rfl,rfl⟩)
  | (go_at_call 127;refine (DE.out _).mono ?_;rintro e _ ⟨rfl,rfl⟩))
 first | rw[ends_normal] | skip
 go_wp2_with (first
  | (go_at_call 125;refine (LE.out _).mono ?_;rintro e _ ⟨rfl,rfl⟩)
  | (go_at_call 127;refine (DE.out _).mono ?_;rintro e _ ⟨rfl,rfl⟩))
 refine (T.out _ zbg).mono ?_;rintro e _ ⟨rfl,k2,hk2,d3,os3,rfl⟩;have HK2:=J hk2;clear hk2;go_wp2_with fail;refine yar ⟨?_⟩;exact⟨rfl,k2,HK2.out,zf⟩
def next_sign (b:Nat) (s:ByteArray) (k n:Nat) (lv:Value) (hk:k<=s.size) (hs:s.size<=maxLen) (hn:skipL false (s.data.toList.drop k)=n) (hlt:k+n<s.size) (hc:qar ((s[k+n]'hlt).toNat:Int)=false) (hd:qah ((s[k+n]'hlt).toNat:Int)=false) (hq:(((s[k+n]'hlt).toNat:Int)==34)=false) (K:Nat) (r:Tok) (e:Int)
  (T:Hid (∀ w,LexAt b s (k+n) lv w->Calls prog 124 #[.pointer (some ⟨b,0,none⟩)] w (qbN b K r e w))) (w:World) (h:LexAt b s k lv w) :
  Calls prog 109 #[.pointer (some ⟨b,0,none⟩)] w (qdw b (k+n) K r e w):=by
 have HL:=J h;have C:=J (qeG b s k n lv hk hs hn);have hb:=h.lt;obtain⟨c0,c1,c2,f1,f2⟩:=h.cells;unfold maxLen at hs;clear h hn;have hle:(((k:Int)+n)==(s.size:Int))=false:=zg;have h256:=(s[k+n]'hlt).toNat_lt;have le:=qbm ((s[k+n]'hlt).toNat:Int) Y Y;rw[hc] at le;have LE:=J le;clear le hc;have de:=qcG ((s[k+n]'hlt).toNat:Int) Y Y;rw[hd] at de;have DE:=J de;clear de hd;clear h256;have hz:((k:Int)+n<s.size):=Y;go_enter func109,ntmps109
 go_wp2_with (go_at_call 123;refine (C.out _ zbe).mono ?_;rintro e _ ⟨rfl,d,os,rfl⟩)
 refine qaa 9 62 (List.replicate 9 false) zv zv rfl ?_;refine zh ?_
 repeat(refine Lex.step rfl ?_;intro K hK;unfold StepG;go_simp;(first
   | refine hK _ ?_);clear hK K)
 refine zd ?_;intro dd oo;go_wp2_with fail;rw[ends_normal];go_wp2_with fail;refine qaa 8 62 (List.replicate 8 false) zv zv rfl ?_;refine zh ?_
 repeat(refine Lex.step rfl ?_;intro K hK;unfold StepG;go_simp;(first
   | refine hK _ ?_);clear hK K)
 refine zd ?_;intro dd oo
 go_wp2_with (first
  | (go_at_call 125;refine (LE.out _).mono ?_;rintro e _ ⟨rfl,rfl⟩)
  | (go_at_call 127;refine (DE.out _).mono ?_;rintro e _ ⟨rfl,rfl⟩))
 first | rw[ends_normal] | skip
 go_wp2_with (first
  | (go_at_call 125;refine (LE.out _).mono ?_;rintro e _ ⟨rfl,rfl⟩)
  | (go_at_call 127;refine (DE.out _).mono ?_;rintro e _ ⟨rfl,rfl⟩))
 refine (T.out _ zbg).mono ?_;rintro e _ ⟨rfl,k2,hk2,d3,os3,rfl⟩;have HK2:=J hk2;clear hk2;go_wp2_with fail;refine yar ⟨?_⟩;exact⟨rfl,k2,HK2.out,zf⟩
def headLetter:List UInt8->Bool
 | []=>false
 | c::_=>qar (c.toNat:Int)
def oneF:List UInt8->Tok × Nat × Int
  | []=>(tok0,0,3)
  | c::l =>
    if qar (c.toNat:Int)=true then((nameF ⟨((c::l).take (spanN nameB (c::l))).toArray⟩).1,spanN nameB (c::l),(nameF ⟨((c::l).take (spanN nameB (c::l))).toArray⟩).2)
    else if qah (c.toNat:Int)=true then
      (if (1<spanN qah (c::l)/\c.toNat=48)\/headLetter ((c::l).drop (spanN qah (c::l)))=true then(tok0,spanN qah (c::l),3)
       else((numF ⟨((c::l).take (spanN qah (c::l))).toArray⟩).1,spanN qah (c::l),(numF ⟨((c::l).take (spanN qah (c::l))).toArray⟩).2))
    else if c.toNat=34 then((textG l []).1,1+(textG l []).2.1,(textG l []).2.2)
    else signF (c::l)
def qaQ (s:ByteArray) (m n:Nat):s.extract m (m+n)=⟨((s.data.toList.drop m).take n).toArray⟩:=by
 apply ByteArray.ext;apply Array.ext';simp[List.extract_eq_take_drop]
def take_name (b:Nat) (s:ByteArray) (m n:Nat) (lv:Value) (hk:m<=s.size) (hs:s.size<=maxLen) (hn:spanN nameB (s.data.toList.drop m)=n) (r:Tok) (e:Int) (hr:nameF (s.extract m (m+n))=(r,e)) (w:World) (h:LexAt b s m lv w) :
  Calls prog 126 #[.pointer (some ⟨b,0,none⟩)] w (qbN b (m+n) r e w) :=
 (name_any b s _ m n lv hk hs hn rfl r e hr w h).mono fun e' w' ⟨he,hx⟩=>⟨he,m+n,fun _=>rfl,hx⟩
def take_sign (b:Nat) (s:ByteArray) (m n:Nat) (lv:Value) (hk:m<s.size) (hs:(s.size:Int)<=4611686018427387904) (r:Tok) (e:Int) (hr:signF (s.data.toList.drop m)=(r,n,e)) (w:World) (h:LexAt b s m lv w) :
  Calls prog 124 #[.pointer (some ⟨b,0,none⟩)] w (qbN b (m+n) r e w):=by
 have e1:(s.extract m s.size).data.toList=s.data.toList.drop m:=by
  have h1:(s.extract m s.size).data.toList=(s.data.toList.drop m).take (s.size-m):=by simp[List.extract_eq_take_drop]
  rw[h1,List.take_of_length_le zy]
 refine (sign_any b s _ m n lv hk hs rfl zg r e (by rw[e1];exact hr) w h).mono fun e' w' ⟨he,hx⟩=>⟨he,m+n,fun _=>rfl,hx⟩
def take_text (b:Nat) (s:ByteArray) (m n:Nat) (lv:Value) (hk:m<s.size) (hs:s.size<=140737488351232) (r:Tok) (e:Int) (hr:textG (s.data.toList.drop (m+1)) []=(r,n,e)) (w:World) (h:LexAt b s m lv w) :
  Calls prog 129 #[.pointer (some ⟨b,0,none⟩)] w (qbN b (m+(1+n)) r e w) :=
 (text_any b s m n lv hk hs r e hr w h).mono fun e' w' ⟨he,k',h1,hx⟩=>⟨he,k',fun h0=>by rw[h1 h0];omega,hx⟩
def qfp (s:ByteArray) (m n:Nat) (hm:m<=s.size) (hn:spanN qah (s.data.toList.drop m)=n) (hmn:m+n<=s.size) :
  ∀ (j:Nat) (h:j<(s.extract m (m+n)).size),48<=(((s.extract m (m+n))[j]'h).toNat:Int)/\(((s.extract m (m+n))[j]'h).toNat:Int)<=57:=by
 intro j h;have hl:(s.extract m (m+n)).data.toList=(s.data.toList.drop m).take n:=by rw[qaQ]
 have hj:((s.data.toList.drop m).take (spanN qah (s.data.toList.drop m)))[j]?=some ((s.extract m (m+n))[j]'h):=by
  rw[hn,<-hl];exact List.getElem?_eq_getElem (by simp at h ⊢;omega)
 have:=span_all qah _ j _ hj
 simpa [qah] using this
def take_number (b:Nat) (s:ByteArray) (m n:Nat) (lv:Value) (hk:m<s.size) (hs:s.size<=maxLen) (hn:spanN qah (s.data.toList.drop m)=n) (r:Tok) (e:Int)
  (hr:(if (1<n/\(s[m]'hk).toNat=48)\/headLetter (s.data.toList.drop (m+n))=true then(tok0,3) else numF (s.extract m (m+n)))=(r,e)) (w:World) (h:LexAt b s m lv w) :
  Calls prog 128 #[.pointer (some ⟨b,0,none⟩)] w (qbN b (m+n) r e w):=by
 have hle:=spanN_le qah (s.data.toList.drop m);rw[hn] at hle;have hmn:m+n<=s.size:=by simp at hle;omega
 have htn:(s.extract m (m+n)).size=n:=zg
 have h0:∀ h:0<(s.extract m (m+n)).size,(s.extract m (m+n))[0]'h=s[m]'hk:=by
  intro h;simp[ByteArray.getElem_extract]
 have hlet:headLetter (s.data.toList.drop (m+n))=true↔∃ h:m+n<s.size,qar ((s[m+n]'h).toNat:Int)=true:=by
  by_cases hlt:m+n<s.size
  . have hd:s.data.toList.drop (m+n)=s[m+n]'hlt::s.data.toList.drop (m+n+1):=List.drop_eq_getElem_cons jb;rw[hd];exact⟨fun h=>⟨hlt,h⟩,fun ⟨_,h⟩=>h⟩
  . have hd:s.data.toList.drop (m+n)=[]:=List.drop_eq_nil_of_le zg;rw[hd];exact⟨fun h=>by simp[headLetter] at h,fun ⟨h,_⟩=>absurd h hlt⟩
 by_cases hc:(1<n/\(s[m]'hk).toNat=48)\/headLetter (s.data.toList.drop (m+n))=true
 . rw[if_pos hc] at hr;simp only[Prod.mk.injEq] at hr;obtain⟨rfl,rfl⟩:=hr;refine (number_err b s _ m n lv Y hs hmn hn rfl htn ?_ w h).mono fun e' w' ⟨he,hx⟩=>⟨he,m+n,fun _=>rfl,hx⟩
   by_cases h1:1<n/\(s[m]'hk).toNat=48
   . exact Or.inl ⟨h1.1,Y,by rw[h0];omega⟩
   . have h2:=hlet.1 (hc.resolve_left h1);refine Or.inr ⟨?_,h2⟩;by_cases h3:1<n
     . exact Or.inr ⟨h3,Y,by rw[h0];omega⟩
     . exact Or.inl Y
 . rw[if_neg hc] at hr;refine (number_ok b s _ m n lv Y hs hmn hn rfl htn ?_ ?_ (qfp s m n Y hn hmn) r e hr w h).mono fun e' w' ⟨he,hx⟩=>⟨he,m+n,fun _=>rfl,hx⟩
   . by_cases h3:1<n
     . exact Or.inr ⟨h3,Y,by rw[h0];omega⟩
     . exact Or.inl Y
   . by_cases hlt:m+n<s.size
     . refine Or.inr ⟨hlt,?_⟩;cases hb:qar ((s[m+n]'hlt).toNat:Int)
       . rfl
       . exact absurd (Or.inr (hlet.2 ⟨hlt,hb⟩)) hc
     . exact Or.inl Y
def next_any (b:Nat) (s:ByteArray) (k n:Nat) (lv:Value) (hk:k<=s.size) (hs:s.size<=140737488351232) (hn:skipL false (s.data.toList.drop k)=n) (hlt:k+n<s.size) (n1:Nat) (r:Tok) (e:Int) (hr:oneF (s.data.toList.drop (k+n))=(r,n1,e)) (w:World) (h:LexAt b s k lv w) :
  Calls prog 109 #[.pointer (some ⟨b,0,none⟩)] w (qdw b (k+n) (k+n+n1) r e w):=by
 have hm:s.size<=maxLen:=jq;obtain⟨m,hmm⟩:∃ m,k+n=m:=⟨_,rfl⟩
 have hlt':m<s.size:=Y;have hd:s.data.toList.drop m=s[m]'hlt'::s.data.toList.drop (m+1):=List.drop_eq_getElem_cons (by simpa using hlt');subst hmm;have hr0:=hr;rw[hd] at hr;unfold oneF at hr;dsimp only at hr;rw[<-hd] at hr;by_cases c1:qar ((s[k+n]'hlt).toNat:Int)=true
 . rw[if_pos c1] at hr;simp only[Prod.mk.injEq] at hr;obtain⟨rfl,rfl,rfl⟩:=hr;refine next_name b s k n lv hk hm hn hlt c1 _ _ _ (J fun w h=>take_name b s (k+n) _ lv Y hm rfl _ _ ?_ w h) w h;rw[qaQ]
 rw[if_neg c1] at hr;have c1':qar ((s[k+n]'hlt).toNat:Int)=false:=by simpa using c1
 by_cases c2:qah ((s[k+n]'hlt).toNat:Int)=true
 . rw[if_pos c2] at hr
   have hnum:∀ n2,spanN qah (s.data.toList.drop (k+n))=n2->n2=n1/\(if (1<n2/\(s[k+n]'hlt).toNat=48)\/headLetter (s.data.toList.drop (k+n+n2))=true then(tok0,3) else numF (s.extract (k+n) (k+n+n2)))=(r,e):=by
    intro n2 h2;rw[h2,List.drop_drop] at hr;rw[qaQ]
    split at hr
    . next hc=>rw[if_pos hc];simp only[Prod.mk.injEq] at hr ⊢;exact⟨hr.2.1,hr.1,hr.2.2⟩
    . next hc=>rw[if_neg hc];simp only[Prod.mk.injEq] at hr;exact⟨hr.2.1,by rw[<-hr.1,<-hr.2.2]⟩
   obtain⟨h3,h4⟩:=hnum _ rfl;rw[<-h3];exact next_number b s k n lv hk hm hn hlt c1' c2 _ _ _ (J fun w h=>take_number b s (k+n) _ lv hlt hm rfl _ _ h4 w h) w h
 rw[if_neg c2] at hr;have c2':qah ((s[k+n]'hlt).toNat:Int)=false:=by simpa using c2
 by_cases c3:(s[k+n]'hlt).toNat=34
 . rw[if_pos c3] at hr;simp only[Prod.mk.injEq] at hr;obtain⟨rfl,rfl,rfl⟩:=hr;exact next_text b s k n lv hk hm hn hlt c1' c2' zg _ _ _ (J fun w h=>take_text b s (k+n) _ lv hlt hs _ _ rfl w h) w h
 . rw[if_neg c3] at hr;exact next_sign b s k n lv hk hm hn hlt c1' c2' zg _ _ _ (J fun w h=>take_sign b s (k+n) _ lv hlt Y _ _ hr w h) w h
def lexG (s:List UInt8):Nat->Nat->List (Tok × Nat)->List (Tok × Nat) × Int × Nat
 | 0,_,_=>([],0,0)
 | g+1,k,acc =>
  if s.length<=k+skipL false (s.drop k) then(acc++[(tok0,s.length)],0,0)
  else if (oneF (s.drop (k+skipL false (s.drop k)))).2.2≠0 then([],(oneF (s.drop (k+skipL false (s.drop k)))).2.2,k+skipL false (s.drop k))
  else if acc.length=1024 then([],5,k+skipL false (s.drop k))
  else lexG s g (k+skipL false (s.drop k)+(oneF (s.drop (k+skipL false (s.drop k)))).2.1) (acc++[((oneF (s.drop (k+skipL false (s.drop k)))).1,k+skipL false (s.drop k))])
def lexF (s:List UInt8):List (Tok × Nat) × Int × Nat:=if 4096<s.length then([],5,4096) else lexG s (s.length+1) 0 []
def qat (l:List (Tok × Nat)):List Value:=l.flatMap fun t=>[.int .i64 t.1.k,.int .i64 (t.2:Int),.string t.1.s,.int .i64 t.1.i]
def qeV (l m:List (Tok × Nat)):qat (l++m)=qat l++qat m:=by simp[qat]
def textG_bd (l acc:List UInt8):(textG l acc).2.2=0->1<=(textG l acc).2.1/\(textG l acc).2.1<=l.length:=by
 fun_induction textG l acc
 all_goals intro h
 all_goals first
  | (exfalso;exact absurd h zw)
  | (refine ⟨?_,?_⟩<;>simp only[List.length_cons]<;>omega)
  | (rename_i ih;have h2:=ih h;exact⟨Nat.succ_le_succ (Nat.zero_le _),Nat.succ_le_succ h2.2⟩)
  | (rename_i ih;have h2:=ih h;exact⟨Nat.succ_le_succ (Nat.zero_le _),Nat.succ_le_succ (Nat.succ_le_succ h2.2)⟩)
def signF_bd (l:List UInt8) (r:Tok) (n:Nat) (h:signF l=(r,n,0)):1<=n/\n<=l.length:=by
 unfold signF at h
 cases hf:twoL.find? (fun p=>Lib.hasPrefix l p.data.toList) with
 | some p =>
  rw[hf] at h;simp only[Prod.mk.injEq] at h;obtain⟨_,rfl,_⟩:=h;have h1:=List.find?_some hf;have h2:=List.mem_of_find?_eq_some hf
  have h3:p.data.toList.length=2:=by
   simp only[twoL,List.mem_cons,List.not_mem_nil,or_false] at h2;rcases h2 with rfl | rfl | rfl | rfl | rfl<;>rfl
  have h4:=(List.isPrefixOf_iff_prefix.1 h1).length_le
  omega
 | none =>
  rw[hf] at h
  cases l with
  | nil=>simp at h
  | cons c l =>
   dsimp only at h
   split at h
   . simp only[Prod.mk.injEq] at h;obtain⟨_,rfl,_⟩:=h;simp
   . simp at h
def oneF_bd (l:List UInt8) (r:Tok) (n:Nat) (hl:0<l.length) (h:oneF l=(r,n,0)):1<=n/\n<=l.length:=by
 cases l with
 | nil=>simp at hl
 | cons c l =>
  unfold oneF at h;dsimp only at h;by_cases c1:qar (c.toNat:Int)=true
  . rw[if_pos c1] at h;simp only[Prod.mk.injEq] at h;obtain⟨_,rfl,_⟩:=h;have hb:nameB (c.toNat:Int)=true:=(by simp[nameB,c1])
    refine ⟨?_,spanN_le _ _⟩;rw[spanN,if_pos hb];omega
  rw[if_neg c1] at h;by_cases c2:qah (c.toNat:Int)=true
  . rw[if_pos c2] at h
    have key:n=spanN qah (c::l):=by
     split at h<;>simp only[Prod.mk.injEq] at h<;>exact h.2.1.symm
    rw[key];refine ⟨?_,spanN_le _ _⟩;rw[spanN,if_pos c2];omega
  rw[if_neg c2] at h;by_cases c3:c.toNat=34
  . rw[if_pos c3] at h;simp only[Prod.mk.injEq] at h;obtain⟨_,rfl,h3⟩:=h;have:=textG_bd l [] h3;simp only[List.length_cons];omega
  . rw[if_neg c3] at h;exact signF_bd _ r n h
def quo1 (c:UInt8):List UInt8:=if c.toNat=10 then [92,110] else if c.toNat=34\/c.toNat=92 then [92,c] else [c]
def okQ (c:UInt8):Bool:=decide (c.toNat=10\/(32<=c.toNat/\c.toNat<=126))
def qbW (s:List UInt8):List UInt8 × Int:=if 64<s.length then([],5) else if s.all okQ=true then(34::s.flatMap quo1++[34],0) else([],3)
def textG_cons (c:UInt8) (l acc:List UInt8):textG (c::l) acc =
  if c.toNat=34 then(if 64<acc.length then(tok0,0,5) else(⟨3,⟨acc.toArray⟩,0⟩,1,0))
  else if c.toNat<32\/126<c.toNat then(tok0,0,3)
  else if c.toNat≠92 then(let r:=textG l (acc++[c]);(r.1,r.2.1+1,r.2.2))
  else match l with
   | []=>(tok0,0,2)
   | d::l'=>if escZ (d.toNat:Int)=0 then(tok0,0,3) else(let r:=textG l' (acc++[UInt8.ofNat (escZ (d.toNat:Int)).toNat]);(r.1,r.2.1+2,r.2.2)):=by
 cases l<;>rw[textG.eq_def]
def quo1_len (s:List UInt8):(s.flatMap quo1).length<=2*s.length:=by
 induction s with
 | nil=>simp
 | cons c s ih =>
  have:(quo1 c).length<=2:=by unfold quo1;(repeat' split)<;>simp
  simp only[List.flatMap_cons,List.length_append,List.length_cons];omega
def qeC {B b:Nat} {acc:List UInt8} {l:List Value} {m:List UInt8} {w:World} (h:Bld B b (qae acc++l) w) (hl:l=qae m):Bld B b (qae (acc++m)) w:=by
 rw[qby,<-hl];exact h
def qbJ (L:List UInt8) (k:Nat) (u:UInt8) (hu:L[k]?=some u):(L.take (k+1)).flatMap quo1=(L.take k).flatMap quo1++quo1 u:=by
 rw[List.take_add_one,hu];simp[List.flatMap_append]
def ok_step (L:List UInt8) (k:Nat) (u:UInt8) (hu:L[k]?=some u) (h:(L.take k).all okQ=true):(L.take (k+1)).all okQ=okQ u:=by
 rw[List.take_add_one,hu,List.all_append,h];simp
def ok_bad (L:List UInt8) (k:Nat) (u:UInt8) (hu:L[k]?=some u) (h:okQ u=false):L.all okQ=false:=by
 have hk:=(List.getElem?_eq_some_iff.1 hu)
 rw[List.all_eq_false];exact⟨u,List.mem_of_getElem? hu,by simp[h]⟩
def ok_done (L:List UInt8) (k:Nat) (hk:L.length<=k) (h:(L.take k).all okQ=true):L.all okQ=true:=by rwa [List.take_of_length_le hk] at h
def quote_any (s:ByteArray) (q:List UInt8) (er:Int) (hr:qbW s.data.toList=(q,er)) (w:World) :
  Calls prog 229 #[.string s] w fun e w'=>e=.returned (.tuple #[.string ⟨q.toArray⟩,.int .i64 er])/\Ext w w':=by
 have hl:s.data.toList.length=s.size:=zy;unfold qbW at hr;by_cases h64:64<s.data.toList.length
 . rw[if_pos h64] at hr;simp only[Prod.mk.injEq] at hr;obtain⟨rfl,rfl⟩:=hr;have h64':(64:Int)<s.size:=Y;clear h64 hl;go_enter func229,ntmps229;go_wp2_with fail;go_ret2;exact⟨rfl,zf⟩
 rw[if_neg h64] at hr;have h64':(s.size:Int)<=64:=Y;clear h64 hl;go_enter func229,ntmps229;go_wp2_with fail;refine (qaw w.heap.size w.heap.size (qae []) 34 _ (Lib.fresh_isBuilder 236 5 w) (by simp[qae]) zy).mono ?_;rintro e w1 ⟨rfl,hB1,hbl1⟩;have HB1:=J hB1;have HBL1:=J (((Below.refl _ _).alloc (Nat.le_refl _) _).trans hbl1);clear hB1 hbl1;go_wp2_with fail;go_loopw [13] (fun ii wr=>∃ (k:Nat) (acc:List UInt8),ii=.int .i64 (k:Int)/\k<=s.size/\(s.data.toList.take k).all okQ=true/\acc=34::(s.data.toList.take k).flatMap quo1/\Bld w.heap.size w.heap.size (qae acc) wr/\Below w.heap.size w wr) (fun ii _=>s.size-(intOf ii).toNat)
 case atStart=>exact⟨0,[34],rfl,Nat.zero_le _,rfl,rfl,HB1.out,HBL1.out⟩
 case round =>
  obtain⟨k,acc,rfl,hk,hok,hacc,hg,hbl⟩:=hrel
  have hal:acc.length<=200:=by
   have:=quo1_len (s.data.toList.take k);rw[hacc];simp at this ⊢;omega
  have HAL:=J hal;have HBL:=J hbl;have HB:=J hg;clear hal hbl HB1 HBL1;have HK:=J hok;have HAC:=J hacc;have HGX:=J hg;clear hok hacc hg;by_cases hlt:k<s.size
  . have hu:s.data.toList[k]?=some (s[k]'hlt):=(by rw[List.getElem?_eq_getElem jb];rfl)
    have h256:=(s[k]'hlt).toNat_lt;have HU:=J hu;clear hu;by_cases c1:(s[k]'hlt).toNat=10
    . have e1:((s[k]'hlt).toNat:Int)=10:=(by first | omega | (simp;omega))
      have hq1:quo1 (s[k]'hlt)=[92,110]:=(by rw[quo1,if_pos c1])
      have hst:=qbJ _ k _ HU.out;rw[hq1] at hst;have HST:=J hst;have HOK:=J (by rw[ok_step _ k _ HU.out HK.out];simp[okQ];omega:(s.data.toList.take (k+1)).all okQ=true);clear hq1 hst;go_wp2_with fail;refine (qfd w.heap.size w.heap.size (qae acc) ⟨#[92,110]⟩ _ HB.out (by rw[cellsB_length];have:=HAL.out;have e:(⟨#[92,110]⟩:ByteArray).size=2:=rfl;omega) zcs).mono ?_;rintro e w2 ⟨rfl,hB2,hbl2⟩;have HB2:=J hB2;have HBL2:=J (HBL.out.trans hbl2);clear hB2 hbl2;go_wp2_with fail;go_roundw
      case rel =>
       refine ⟨k+1,_,by go_num,Y,HOK.out,?_,qeC HB2.out (m:=[92,110]) jy,HBL2.out⟩;rw[HST.out,HAC.out];simp
      case measure=>simp[intOf];omega
    by_cases c2:(s[k]'hlt).toNat<32
    . have e1:(((s[k]'hlt).toNat:Int)==10)=false:=(by first | omega | (simp;omega))
      have e2:(((s[k]'hlt).toNat:Int)<32)=True:=(by first | omega | (simp;omega))
      have hbad:=J (ok_bad _ k _ HU.out (by simp[okQ];omega));go_wp2_with fail;go_ret2;rw[hbad.out] at hr;simp only[Bool.false_eq_true,if_false,Prod.mk.injEq] at hr;obtain⟨rfl,rfl⟩:=hr;exact⟨rfl,Ext.of_below HBL.out⟩
    by_cases c3:126<(s[k]'hlt).toNat
    . have e1:(((s[k]'hlt).toNat:Int)==10)=false:=(by first | omega | (simp;omega))
      have e2:(((s[k]'hlt).toNat:Int)<32)=False:=(by first | omega | (simp;omega))
      have e3:(126<((s[k]'hlt).toNat:Int))=True:=(by first | omega | (simp;omega))
      have hbad:=J (ok_bad _ k _ HU.out (by simp[okQ];omega));go_wp2_with fail;go_ret2;rw[hbad.out] at hr;simp only[Bool.false_eq_true,if_false,Prod.mk.injEq] at hr;obtain⟨rfl,rfl⟩:=hr;exact⟨rfl,Ext.of_below HBL.out⟩
    by_cases c4:(s[k]'hlt).toNat=34
    . have e1:((s[k]'hlt).toNat:Int)=34:=(by first | omega | (simp;omega))
      have hq1:quo1 (s[k]'hlt)=[92,s[k]'hlt]:=(by rw[quo1,if_neg c1,if_pos (Or.inl c4)])
      have hst:=qbJ _ k _ HU.out;rw[hq1] at hst;have HST:=J hst;have HOK:=J (by rw[ok_step _ k _ HU.out HK.out];simp[okQ];omega:(s.data.toList.take (k+1)).all okQ=true);clear hq1 hst;go_wp2_with fail;refine (qaw w.heap.size w.heap.size (qae acc) _ _ HB.out zbb zcs).mono ?_;rintro e w2 ⟨rfl,hB2,hbl2⟩;have HB2:=J hB2;have HBL2:=J (HBL.out.trans hbl2);clear hB2 hbl2;go_wp2_with fail;refine (qaw w.heap.size w.heap.size (qae acc++[.int .u8 92]) 34 _ HB2.out zbb (by have:=HBL2.out.size;omega)).mono ?_;rintro e w3 ⟨rfl,hB3,hbl3⟩;have HB3:=J hB3;have HBL3:=J (HBL2.out.trans hbl3);clear hB3 hbl3;go_wp2_with fail;go_roundw
      case rel =>
       refine ⟨k+1,_,by go_num,Y,HOK.out,?_,qeC (l:=[.int .u8 92,.int .u8 34]) (by simpa using HB3.out) (m:=[92,s[k]'hlt]) (by simp[qae,c4]),HBL3.out⟩;rw[HST.out,HAC.out];simp
      case measure=>simp[intOf];omega
    by_cases c5:(s[k]'hlt).toNat=92
    . have e1:((s[k]'hlt).toNat:Int)=92:=(by first | omega | (simp;omega))
      have hq1:quo1 (s[k]'hlt)=[92,s[k]'hlt]:=(by rw[quo1,if_neg c1,if_pos (Or.inr c5)])
      have hst:=qbJ _ k _ HU.out;rw[hq1] at hst;have HST:=J hst;have HOK:=J (by rw[ok_step _ k _ HU.out HK.out];simp[okQ];omega:(s.data.toList.take (k+1)).all okQ=true);clear hq1 hst;go_wp2_with fail;refine (qaw w.heap.size w.heap.size (qae acc) _ _ HB.out zbb zcs).mono ?_;rintro e w2 ⟨rfl,hB2,hbl2⟩;have HB2:=J hB2;have HBL2:=J (HBL.out.trans hbl2);clear hB2 hbl2;go_wp2_with fail;refine (qaw w.heap.size w.heap.size (qae acc++[.int .u8 92]) 92 _ HB2.out zbb (by have:=HBL2.out.size;omega)).mono ?_;rintro e w3 ⟨rfl,hB3,hbl3⟩;have HB3:=J hB3;have HBL3:=J (HBL2.out.trans hbl3);clear hB3 hbl3;go_wp2_with fail;go_roundw
      case rel =>
       refine ⟨k+1,_,by go_num,Y,HOK.out,?_,qeC (l:=[.int .u8 92,.int .u8 92]) (by simpa using HB3.out) (m:=[92,s[k]'hlt]) (by simp[qae,c5]),HBL3.out⟩;rw[HST.out,HAC.out];simp
      case measure=>simp[intOf];omega
    . have e1:(((s[k]'hlt).toNat:Int)==10)=false:=(by first | omega | (simp;omega))
      have e2:(((s[k]'hlt).toNat:Int)<32)=False:=(by first | omega | (simp;omega))
      have e3:(126<((s[k]'hlt).toNat:Int))=False:=(by first | omega | (simp;omega))
      have e4:(((s[k]'hlt).toNat:Int)==34)=false:=(by first | omega | (simp;omega))
      have e5:(((s[k]'hlt).toNat:Int)==92)=false:=(by first | omega | (simp;omega))
      have hq1:quo1 (s[k]'hlt)=[s[k]'hlt]:=(by rw[quo1,if_neg c1,if_neg Y])
      have hst:=qbJ _ k _ HU.out;rw[hq1] at hst;have HST:=J hst;have HOK:=J (by rw[ok_step _ k _ HU.out HK.out];simp[okQ];omega:(s.data.toList.take (k+1)).all okQ=true);clear hq1 hst;go_wp2_with fail;refine (qaw w.heap.size w.heap.size (qae acc) _ _ HB.out zbb zcs).mono ?_;rintro e w2 ⟨rfl,hB2,hbl2⟩;have HB2:=J hB2;have HBL2:=J (HBL.out.trans hbl2);clear hB2 hbl2;go_wp2_with fail;go_roundw
      case rel =>
       refine ⟨k+1,_,by go_num,Y,HOK.out,?_,qeC HB2.out (m:=[s[k]'hlt]) jy,HBL2.out⟩;rw[HST.out,HAC.out];simp
      case measure=>simp[intOf];omega
  . have hks:k=s.size:=Y;have hd:=ok_done s.data.toList k zg HK.out;rw[if_pos hd] at hr;simp only[Prod.mk.injEq] at hr;obtain⟨rfl,rfl⟩:=hr;have he:acc=34::s.data.toList.flatMap quo1:=(by have:=HAC.out;rwa [List.take_of_length_le zg] at this)
    have HE:=J he;subst hks;clear hd he;go_wp2_with fail;refine (qaw w.heap.size w.heap.size (qae acc) _ _ HB.out zbb zcs).mono ?_;rintro e w2 ⟨rfl,hB2,hbl2⟩;have hB3:Bld w.heap.size w.heap.size (qae (acc++[34])) w2:=qeC hB2 rfl;have HB2:=J hB3;have HBL2:=J (HBL.out.trans hbl2);clear hB2 hbl2 hB3;go_wp2_with fail;refine (Tryz.Builder_String_any w.heap.size w.heap.size (acc++[34]) _ HB2.out (by have:=HBL2.out.size;omega)).mono ?_;rintro e w3 ⟨rfl,hbl3⟩;have HBL3:=J (HBL2.out.trans hbl3);clear hbl3;go_wp2_with fail;go_ret2;rw[HE.out];exact⟨rfl,Ext.of_below HBL3.out⟩
def u8_eq {u n:UInt8} (h:u.toNat=n.toNat):(u==n)=true:=by rw[beq_iff_eq];exact UInt8.toNat_inj.1 h
def u8_ne {u n:UInt8} (h:u.toNat≠n.toNat):(u==n)=false:=by rw[beq_eq_false_iff_ne];exact fun e=>h (by rw[e])
def one_byte (s:ByteArray) (k:Nat) (h:k<s.size):s.extract k (k+1)=⟨#[s[k]'h]⟩:=by
 apply ByteArray.ext;apply Array.ext';have hd:s.data.toList.drop k=s[k]'h::s.data.toList.drop (k+1):=List.drop_eq_getElem_cons jx;simp[List.extract_eq_take_drop,hd]
def ba_app (a b:List UInt8):(⟨a.toArray⟩:ByteArray)++⟨b.toArray⟩=⟨(a++b).toArray⟩:=by
 apply ByteArray.ext;simp
end Go.Proofs.YtpnabjopfpdkhaaGreatDoor
