/- Lemmas. -/
import Derived.Test.YtpnabjopfpdkhaaGreatDoorY01
import Derived.Laws.BitsAllLaws
set_option linter.all false
set_option maxHeartbeats 400000
set_option maxRecDepth 20000
namespace Go.Proofs.YtpnabjopfpdkhaaGreatDoor
open Tryz RowKit
variable {w:World}
def putB (v:Nat):List UInt8:=if v<128 then [UInt8.ofNat v] else UInt8.ofNat (v % 128+128)::putB (v / 128)
termination_by v
decreasing_by omega
def qcC:(prog.info? 5).map (fun i=>(i.zero,i.size,i.bytes))=some (some (.int .u8 0),1,1):=by kernel_rfl
def or128_fin:∀ n:Fin 256,bits BinOp.or IntKind.u8 (n.val:Int) 128=(n.val:Int) % 128+128:=by decide +kernel
def or128 (v:Int) (h:0<=v):bits BinOp.or IntKind.u8 (v % 256) 128=v % 128+128:=by
 have h1:=or128_fin ⟨(v % 256).toNat,Y⟩;have e:(((v % 256).toNat:Nat):Int)=v % 256:=Y;simp only[e] at h1;rw[h1];omega
def qao:∀ (n:Nat) (v:Nat),v<128 ^ (n+1)->(putB v).length<=n+1:=by
 intro n
 induction n with
 | zero=>intro v h;rw[putB,if_pos Y];simp
 | succ n ih =>
  intro v h;rw[putB];split
  . simp
  . have:=ih (v / 128) (by rw[Nat.pow_succ] at h;omega);simp;omega
def qdA (v:Nat):0<(putB v).length:=by rw[putB];split<;>simp
def OwnB (w w':World) (e:Ending) (l:List UInt8):Prop :=
 ∃ g cap,e=.returned (.slice (some ⟨g,0,none⟩) l.length cap)/\w'.ownsRow w.heap.size 5 1 (.slice (some ⟨g,0,none⟩) l.length cap) l.length (qae l)/\Ext w w'
def OwnB.mk' {w':World} {v:Value} {l:List UInt8} (hl:0<l.length) (h:w'.ownsRow w.heap.size 5 1 v l.length (qae l)) (hx:Ext w w'):OwnB w w' (.returned v) l:=by
 obtain⟨g,cap,rfl,_,_⟩:=h.form hl;exact⟨g,cap,rfl,h,hx⟩
def qgX {base:Nat} {t:TypeId} (x:Value) (hb:base<=w.heap.size):(w.alloc (.cells #[x] t)).ownsRow base t 1 (.slice (some ⟨w.heap.size,0,none⟩) 1 1) 1 [x] :=
 ⟨rfl,.inr ⟨w.heap.size,1,#[x],rfl,hb,heap_alloc_new w _,Nat.le_refl _,jq,rfl,rfl⟩⟩
def qbF (v0:Int) (h0:0<=v0) (h1:v0<=18446744073709551615) (w:World) :
  Calls prog 46 #[.int .u64 v0] w fun e w'=>OwnB w w' e (putB v0.toNat):=by
 obtain⟨i0,hi,hz0,hz1,hz2⟩:=info_parts qcC;go_enter func46,ntmps46;go_wp2_with fail;go_loopw [0,3] (fun vv out wr=>∃ (v:Int) (k:Nat) (done:List UInt8),0<=v/\v<=18446744073709551615/\vv=.int .u64 v/\k=done.length/\done++putB v.toNat=putB v0.toNat/\wr.ownsRow w.heap.size 5 1 out k (qae done)/\Ext w wr) (fun vv _ _=>(intOf vv).toNat)
 case atStart=>exact⟨v0,0,[],h0,h1,rfl,rfl,rfl,World.ownsRow_nil _ _ _ _,Ext.refl _⟩
 case round =>
  obtain⟨v,k,done,hv0,hv1,rfl,hk,hd,hown,hext⟩:=hrel;have Hd:=J hd;have Hk:=J hk;clear hd hk
  have hka:k<=10:=by
   have h2:=congrArg List.length Hd.out;have h3:=qao 9 v0.toNat Y;have:=Hk.out;simp at h2;omega
  have hor:=or128 v hv0;by_cases hlt:v<128
  . go_wp2_with (at_builtin;refine wpList_append_own_at _ rfl _ _ 53 rfl w.heap.size 5 i0 (.int .u8 0) 1 1 underlying53 hi hz0 hz1 hz2 rfl zw _ k (qae done) rfl (hown.alloc _) ⟨wr.heap.size,0,none⟩ 1 1 [.int .u8 v] rfl rfl ?c1 ?c2 ?c3 ?c4 ?c5 ?_)
    case c1=>exact cell_one_new _ _ _
    case c2=>first | rfl | (intro u hu;simp at hu;subst hu;rfl)
    case c3=>unfold maxLen;omega
    case c4=>omega
    case c5=>have:=hext.size;simp;omega
    intro v' w1 hown' hgrow _ _
    go_wp2
    go_ret;refine OwnB.mk' (qdA _) ?_ ?_
    . have e1:putB v.toNat=[UInt8.ofNat v.toNat]:=(by rw[putB,if_pos Y])
      have h2:=Hd.out;rw[e1] at h2;rw[<-h2,qbD _ _ hv0 Y];have:=Hk.out
      simpa [this] using hown'
    . exact(hext.alloc _).grown hgrow (fun k hk=>(hown.lt k hk).1)
  . go_wp2_with (at_builtin;refine wpList_append_own_at _ rfl _ _ 53 rfl w.heap.size 5 i0 (.int .u8 0) 1 1 underlying53 hi hz0 hz1 hz2 rfl zw _ k (qae done) rfl (hown.alloc _) ⟨wr.heap.size,0,none⟩ 1 1 [.int .u8 (v % 128+128)] rfl rfl ?d1 ?d2 ?d3 ?d4 ?d5 ?_)
    try case d1=>exact cell_one_new _ _ _
    case d2=>first | rfl | (intro u hu;simp at hu;subst hu;rfl)
    case d3=>unfold maxLen;omega
    case d4=>omega
    case d5=>have:=hext.size;simp;omega
    intro v' w1 hown' hgrow _ _
    go_wp2
    go_roundw
    case rel =>
     refine ⟨v / 128,k+1,done++[UInt8.ofNat (v % 128+128).toNat],Y,Y,rfl,by have:=Hk.out;simp[this],?_,?_,?_⟩
     . rw[<-Hd.out]
       have e1:putB v.toNat=UInt8.ofNat (v % 128+128).toNat::putB (v / 128).toNat:=by
        rw[putB,if_neg Y];have a1:v.toNat % 128+128=(v % 128+128).toNat:=Y;have a2:v.toNat / 128=(v / 128).toNat:=Y;rw[a1,a2]
       rw[e1];simp
     . rw[qbD _ _ Y Y];exact hown'
     . exact(hext.alloc _).grown hgrow (fun k hk=>(hown.lt k hk).1)
    case measure=>simp[intOf];omega
def nat_xor_ones (x:Nat) (h:x<18446744073709551616):x ^^^ 18446744073709551615=18446744073709551615-x:=by
 have h1:(BitVec.ofNat 64 x ^^^ BitVec.allOnes 64).toNat=(~~~ (BitVec.ofNat 64 x)).toNat:=by rw[BitVec.xor_allOnes]
 rw[BitVec.toNat_xor,BitVec.toNat_not,BitVec.toNat_allOnes,BitVec.toNat_ofNat,Nat.mod_eq_of_lt jx] at h1
 simpa using h1
def xor_zero (a:Int) (h0:0<=a) (h1:a<18446744073709551616):bits BinOp.xor IntKind.u64 a 0=a:=by
 rw[u64_xor a 0 h0 h1 Y Y];simp;omega
def xor_ones (a:Int) (h0:0<=a) (h1:a<18446744073709551616):bits BinOp.xor IntKind.u64 a 18446744073709551615=18446744073709551615-a:=by
 rw[u64_xor a 18446744073709551615 h0 h1 Y Y];have e:(18446744073709551615:Int).toNat=18446744073709551615:=rfl;rw[e,nat_xor_ones a.toNat Y];omega
def zigZ (v:Int):Int:=if 0<=v then 2*v else 2*(-(v+1))+1
def zigZ_bd (v:Int) (h0:-9223372036854775808<=v) (h1:v<=9223372036854775807):0<=zigZ v/\zigZ v<=18446744073709551615:=by unfold zigZ;split<;>omega
def zig_pos (v:Int) (h0:0<=v) (h1:v<=9223372036854775807):bits BinOp.xor IntKind.u64 (v*2) (v / 9223372036854775808)=zigZ v:=by
 have:v / 9223372036854775808=0:=by omega
 rw[this,xor_zero _ Y Y,zigZ,if_pos h0];omega
def zig_neg (v:Int) (h0:v<0) (h1:-9223372036854775808<=v) :
  bits BinOp.xor IntKind.u64 (IntKind.u64.wrap (IntKind.u64.wrap v*2)) (IntKind.u64.wrap (v / 9223372036854775808))=zigZ v:=by
 have e1:v / 9223372036854775808=-1:=Y;have w64:∀ n:Int,IntKind.u64.wrap n=n % 18446744073709551616:=fun n=>by simp[IntKind.wrap,IntKind.bits,IntKind.signed]
 rw[e1,w64,w64,w64];have e2:(-1:Int) % 18446744073709551616=18446744073709551615:=rfl;rw[e2,xor_ones _ Y Y,zigZ,if_neg Y];omega
def zig_any (v:Int) (h0:-9223372036854775808<=v) (h1:v<=9223372036854775807) (w:World) :
  Calls prog 115 #[.int .i64 v] w fun e w'=>e=.returned (.int .u64 (zigZ v))/\Ext w w':=by
 by_cases hv:0<=v
 . go_enter func115,ntmps115
   go_wp2
   go_ret;exact⟨ret_intY (zig_pos v hv h1),Ext.refl _⟩
 . have hv':v<0:=Y;go_enter func115,ntmps115
   go_wp2
   go_ret;exact⟨ret_intY (zig_neg v hv' h0),Ext.refl _⟩
def putint_any (v:Int) (h0:-9223372036854775808<=v) (h1:v<=9223372036854775807) (w:World) :
  Calls prog 102 #[.int .i64 v] w fun e w'=>OwnB w w' e (putB (zigZ v).toNat):=by
 obtain⟨b0,b1⟩:=zigZ_bd v h0 h1;go_enter func102,ntmps102
 go_wp2_with (first
  | (go_at_call 115;refine (zig_any v h0 h1 _).mono ?_;rintro e _ ⟨rfl,d,os,rfl⟩)
  | (go_at_call 46;refine (qbF (zigZ v) b0 b1 _).mono ?_;rintro e w1 ⟨g,cap,rfl,ho,he⟩))
 go_ret;exact⟨_,_,rfl,ho.mono jf,((Ext.refl _).more _ _).trans he⟩
def qfn (s:ByteArray) (hs:(s.size:Int)<=255) (w:World) :
  Calls prog 80 #[.string s] w fun e w'=>OwnB w w' e (putB s.size++s.data.toList):=by
 obtain⟨i0,hi,hz0,hz1,hz2⟩:=info_parts qcC;have hl:=qao 1 s.size Y;go_enter func80,ntmps80
 go_wp2_with (first
  | (go_at_call 46;refine (qbF _ Y Y _).mono ?_;rintro e w1 ⟨g,cap,rfl,ho,he⟩;simp only[Int.toNat_natCast] at ho)
  | (at_builtin;refine qag _ rfl _ _ 53 9 rfl w.heap.size 5 i0 (.int .u8 0) 1 1 underlying53 hi hz0 hz1 hz2 rfl zw _ _ _ rfl ho _ s.size _ rfl (Src.ofString _ underlying9 s) ?c3 ?c4 ?c5 ?_))
 case c3=>unfold maxLen;omega
 case c4=>omega
 case c5=>exact he.size
 intro v' w2 hown' hgrow _
 go_wp2
 go_ret;refine OwnB.mk' (by have:=qdA s.size;simp;omega) ?_ (he.grown hgrow fun k hk=>(ho.lt k hk).1);rw[qdn,<-qby] at hown'
 simpa using hown'
def news_one {N:Nat} {x:Value} (h:w.cell? ⟨N,0,none⟩=some x):∀ j u,[x][j]?=some u->w.cell? ((⟨N,0,none⟩:Addr).add j)=some u:=by
 intro j u hu
 match j,hu with
 | 0,hu=>simp at hu;subst hu;simpa [Addr.add] using h
 | j+1,hu=>simp at hu
def encB (k i:Int) (s:ByteArray):List UInt8 :=
 if k=1 then [1,UInt8.ofNat i.toNat] else if k=2 then 2::putB (zigZ i).toNat else if k=3 then 3::(putB s.size++s.data.toList) else [0]
def enc_nil (s:ByteArray) (h:mayBY 0 0 s=true) (w:World) :
  Calls prog 87 #[.agg #[.int .i64 0,.int .i64 0,.string s]] w fun e w'=>OwnB w w' e [0]:=by
 go_enter func87,ntmps87
 go_wp2_with (go_at_call 86;refine (qcL _ _ _ _).mono ?_;rintro e _ ⟨rfl,d,os,rfl⟩)
 go_ret;exact⟨_,_,rfl,by simpa [more_size,qae] using (qgX (w:=more (w.alloc (.cells #[.int .i64 0,.int .i64 0,.string s] 45)) d os) (t:=5) (.int .u8 0) (Nat.le_refl _)).mono (base':=w.heap.size) (by simp[more_size];omega),zf⟩
def enc_bool (i:Int) (s:ByteArray) (h0:0<=i) (h1:i<=1) (h:mayBY 1 i s=true) (w:World) :
  Calls prog 87 #[.agg #[.int .i64 1,.int .i64 i,.string s]] w fun e w'=>OwnB w w' e [1,UInt8.ofNat i.toNat]:=by
 obtain⟨i0,hi,hz0,hz1,hz2⟩:=info_parts qcC;go_enter func87,ntmps87
 go_wp2_with (first
  | (go_at_call 86;refine (qcL _ _ _ _).mono ?_;rintro e _ ⟨rfl,d,os,rfl⟩)
  | (at_builtin;refine qag _ rfl _ _ 53 53 rfl w.heap.size 5 i0 (.int .u8 0) 1 1 underlying53 hi hz0 hz1 hz2 rfl zw (.slice (some ⟨w.heap.size+1+os.size,0,none⟩) 1 1) 1 [.int .u8 1] rfl ?c1 _ 1 [.int .u8 i] rfl ?c2 ?c3 ?c4 ?c5 ?_))
 case c1=>simpa [more_size] using ((qgX (w:=more (w.alloc (.cells #[.int .i64 1,.int .i64 i,.string s] 45)) d os) (t:=5) (.int .u8 1) (Nat.le_refl _)).alloc _).mono (base':=w.heap.size) (by simp[more_size];omega)
 case c2=>exact Src.ofSlice _ underlying53 _ _ _ [.int .u8 i] rfl (news_one (by simp[go_sem])) ji
 case c3=>unfold maxLen;omega
 case c4=>omega
 case c5=>simp[more_size];omega
 intro v' w2 hown' hgrow _
 go_wp2
 go_ret;refine OwnB.mk' zy ?_ (Ext.grown zf hgrow (by intro k hk;simp[Value.ownBlock] at hk;omega))
 have e:qae [1,UInt8.ofNat i.toNat]=[.int .u8 1]++[.int .u8 i]:=qbD [1] i h0 Y;rw[e];simpa using hown'
def enc_int (i:Int) (s:ByteArray) (h0:-9223372036854775808<=i) (h1:i<=9223372036854775807) (h:mayBY 2 i s=true) (w:World) :
  Calls prog 87 #[.agg #[.int .i64 2,.int .i64 i,.string s]] w fun e w'=>OwnB w w' e (2::putB (zigZ i).toNat):=by
 obtain⟨i0,hi,hz0,hz1,hz2⟩:=info_parts qcC
 have hlen:(putB (zigZ i).toNat).length<=1000:=by
  have:=zigZ_bd i h0 h1;have:=qao 9 (zigZ i).toNat Y;omega
 obtain⟨l,hl⟩:∃ l,putB (zigZ i).toNat=l:=⟨_,rfl⟩
 rw[hl] at hlen ⊢;have Hl:=J hl;clear hl;go_enter func87,ntmps87
 go_wp2_with (first
  | (go_at_call 86;refine (qcL _ _ _ _).mono ?_;rintro e _ ⟨rfl,d,os,rfl⟩)
  | (go_at_call 102;refine (putint_any i h0 h1 _).mono ?_;rw[Hl.out];rintro e _ ⟨g,cap,rfl,ho,d2,os2,rfl⟩)
  | (at_builtin;refine qag _ rfl _ _ 53 53 rfl w.heap.size 5 i0 (.int .u8 0) 1 1 underlying53 hi hz0 hz1 hz2 rfl zw (.slice (some ⟨w.heap.size+1+os.size,0,none⟩) 1 1) 1 [.int .u8 2] rfl ?c1 (.slice (some ⟨g,0,none⟩) l.length cap) l.length (qae l) rfl ?c2 ?c3 ?c4 ?c5 ?_))
 case c1=>exact own_more (by simpa [more_size] using (qgX (w:=more (w.alloc (.cells #[.int .i64 2,.int .i64 i,.string s] 45)) d os) (t:=5) (.int .u8 2) (Nat.le_refl _)).mono (base':=w.heap.size) (by simp[more_size];omega)) _ _
 case c2=>exact qgB underlying53 ho (qcQ l)
 case c3=>unfold maxLen;omega
 case c4=>omega
 case c5=>simp[more_size];omega
 intro v' w2 hown' hgrow _
 go_wp2
 go_ret;refine OwnB.mk' zy ?_ (Ext.grown zf hgrow (by intro k hk;simp[Value.ownBlock] at hk;omega))
 have e:qae (2::l)=[.int .u8 2]++qae l:=rfl;rw[e,List.length_cons];have a1:l.length+1=1+l.length:=Y;rw[a1];exact hown'
def enc_text (s:ByteArray) (hs:(s.size:Int)<=64) (h:mayBY 3 0 s=true) (w:World) :
  Calls prog 87 #[.agg #[.int .i64 3,.int .i64 0,.string s]] w fun e w'=>OwnB w w' e (3::(putB s.size++s.data.toList)):=by
 obtain⟨i0,hi,hz0,hz1,hz2⟩:=info_parts qcC
 have hlen:((putB s.size++s.data.toList)).length<=1000:=by
  have:=qao 1 s.size Y;have e:s.data.toList.length=s.size:=zy;rw[List.length_append,e];omega
 obtain⟨l,hl⟩:∃ l,(putB s.size++s.data.toList)=l:=⟨_,rfl⟩
 rw[hl] at hlen ⊢;have Hl:=J hl;clear hl;go_enter func87,ntmps87
 go_wp2_with (first
  | (go_at_call 86;refine (qcL _ _ _ _).mono ?_;rintro e _ ⟨rfl,d,os,rfl⟩)
  | (go_at_call 80;refine (qfn s Y _).mono ?_;rw[Hl.out];rintro e _ ⟨g,cap,rfl,ho,d2,os2,rfl⟩)
  | (at_builtin;refine qag _ rfl _ _ 53 53 rfl w.heap.size 5 i0 (.int .u8 0) 1 1 underlying53 hi hz0 hz1 hz2 rfl zw (.slice (some ⟨w.heap.size+1+os.size,0,none⟩) 1 1) 1 [.int .u8 3] rfl ?c1 (.slice (some ⟨g,0,none⟩) l.length cap) l.length (qae l) rfl ?c2 ?c3 ?c4 ?c5 ?_))
 case c1=>exact own_more (by simpa [more_size] using (qgX (w:=more (w.alloc (.cells #[.int .i64 3,.int .i64 0,.string s] 45)) d os) (t:=5) (.int .u8 3) (Nat.le_refl _)).mono (base':=w.heap.size) (by simp[more_size];omega)) _ _
 case c2=>exact qgB underlying53 ho (qcQ l)
 case c3=>unfold maxLen;omega
 case c4=>omega
 case c5=>simp[more_size];omega
 intro v' w2 hown' hgrow _
 go_wp2
 go_ret;refine OwnB.mk' zy ?_ (Ext.grown zf hgrow (by intro k hk;simp[Value.ownBlock] at hk;omega))
 have e:qae (3::l)=[.int .u8 3]++qae l:=rfl;rw[e,List.length_cons];have a1:l.length+1=1+l.length:=Y;rw[a1];exact hown'
def qbL (v0:Int) (h0:0<=v0) (h1:v0<=18446744073709551615) (w:World) :
  Calls prog 42 #[.int .u64 v0] w fun e w'=>e=.returned (.string ⟨(putB v0.toNat).toArray⟩)/\Ext w w':=by
 obtain⟨i0,hi,hz0,hz1,hz2⟩:=info_parts qcC;go_enter func42,ntmps42;go_wp2_with fail;go_loopw [0,3] (fun vv out wr=>∃ (v:Int) (k:Nat) (done:List UInt8),0<=v/\v<=18446744073709551615/\vv=.int .u64 v/\k=done.length/\done++putB v.toNat=putB v0.toNat/\wr.ownsRow w.heap.size 5 1 out k (qae done)/\Ext w wr) (fun vv _ _=>(intOf vv).toNat)
 case atStart=>exact⟨v0,0,[],h0,h1,rfl,rfl,rfl,World.ownsRow_nil _ _ _ _,Ext.refl _⟩
 case round =>
  obtain⟨v,k,done,hv0,hv1,rfl,hk,hd,hown,hext⟩:=hrel;have Hd:=J hd;have Hk:=J hk;clear hd hk
  have hka:k<=10:=by
   have h2:=congrArg List.length Hd.out;have h3:=qao 9 v0.toNat Y;have:=Hk.out;simp at h2;omega
  have hor:=or128 v hv0;by_cases hlt:v<128
  . go_wp2_with (at_builtin;refine wpList_append_own_at _ rfl _ _ 53 rfl w.heap.size 5 i0 (.int .u8 0) 1 1 underlying53 hi hz0 hz1 hz2 rfl zw _ k (qae done) rfl (hown.alloc _) ⟨wr.heap.size,0,none⟩ 1 1 [.int .u8 v] rfl rfl ?c1 ?c2 ?c3 ?c4 ?c5 ?_)
    case c1=>exact cell_one_new _ _ _
    case c2=>first | rfl | (intro u hu;simp at hu;subst hu;rfl)
    case c3=>unfold maxLen;omega
    case c4=>omega
    case c5=>have:=hext.size;simp;omega
    intro v' w1 hown' hgrow _ _;have e1:putB v.toNat=[UInt8.ofNat v.toNat]:=(by rw[putB,if_pos Y])
    have h2:=Hd.out;rw[e1] at h2;rw[<-qbD _ _ hv0 Y,h2] at hown';have hx:=(hext.alloc (.cells #[.int .u8 v] 5)).grown hgrow (fun k hk=>(hown.lt k hk).1);obtain⟨g,cap,hv',_,_⟩:=hown'.form Y;rw[hv'] at hown' ⊢;have hcv:=qgD (P:=prog) (src:=53) (dst:=9) underlying53 underlying5 underlying9 hown';clear e1 h2 hown' hgrow hv'
    go_wp2
    go_ret;exact⟨rfl,hx⟩
  . go_wp2_with (at_builtin;refine wpList_append_own_at _ rfl _ _ 53 rfl w.heap.size 5 i0 (.int .u8 0) 1 1 underlying53 hi hz0 hz1 hz2 rfl zw _ k (qae done) rfl (hown.alloc _) ⟨wr.heap.size,0,none⟩ 1 1 [.int .u8 (v % 128+128)] rfl rfl ?d1 ?d2 ?d3 ?d4 ?d5 ?_)
    try case d1=>exact cell_one_new _ _ _
    case d2=>first | rfl | (intro u hu;simp at hu;subst hu;rfl)
    case d3=>unfold maxLen;omega
    case d4=>omega
    case d5=>have:=hext.size;simp;omega
    intro v' w1 hown' hgrow _ _
    go_wp2
    go_roundw
    case rel =>
     refine ⟨v / 128,k+1,done++[UInt8.ofNat (v % 128+128).toNat],Y,Y,rfl,by have:=Hk.out;simp[this],?_,?_,?_⟩
     . rw[<-Hd.out]
       have e1:putB v.toNat=UInt8.ofNat (v % 128+128).toNat::putB (v / 128).toNat:=by
        rw[putB,if_neg Y];have a1:v.toNat % 128+128=(v % 128+128).toNat:=Y;have a2:v.toNat / 128=(v / 128).toNat:=Y;rw[a1,a2]
       rw[e1];simp
     . rw[qbD _ _ Y Y];exact hown'
     . exact(hext.alloc _).grown hgrow (fun k hk=>(hown.lt k hk).1)
    case measure=>simp[intOf];omega
def rtext_any (s:ByteArray) (hs:(s.size:Int)<=9223372036854775000) (w:World) :
  Calls prog 61 #[.string s] w fun e w'=>e=.returned (.string (⟨(putB s.size).toArray⟩++s))/\Ext w w':=by
 have hl:=qao 9 s.size Y;go_enter func61,ntmps61
 go_wp2_with (go_at_call 42;refine (qbL (s.size:Int) Y Y _).mono ?_;rw[Int.toNat_natCast];rintro e _ ⟨rfl,d,os,rfl⟩)
 go_ret;exact⟨rfl,(Ext.refl _).more _ _⟩
def may_cases {k i:Int} {s:ByteArray} (h:mayBY k i s=true) :
  (k=0/\i=0/\s.size=0)\/(k=1/\0<=i/\i<=1/\s.size=0)\/(k=2/\s.size=0)\/(k=3/\i=0/\s.size<=64):=by
 unfold mayBY at h;simp only[Bool.or_eq_true,Bool.and_eq_true,beq_iff_eq,decide_eq_true_eq] at h;omega
def enc_any (k i:Int) (s:ByteArray) (h:mayBY k i s=true) (h0:-9223372036854775808<=i) (h1:i<=9223372036854775807) (w:World) :
  Calls prog 87 #[.agg #[.int .i64 k,.int .i64 i,.string s]] w fun e w'=>OwnB w w' e (encB k i s):=by
 rcases may_cases h with ⟨rfl,rfl,_⟩ | ⟨rfl,a,b,_⟩ | ⟨rfl,_⟩ | ⟨rfl,rfl,a⟩
 . exact enc_nil s h w
 . exact enc_bool i s a b h w
 . exact enc_int i s h0 h1 h w
 . exact enc_text s Y h w
end Go.Proofs.YtpnabjopfpdkhaaGreatDoor
namespace Go.Proofs.YtpnabjopfpdkhaaGreatDoor
def cutG:Nat->Nat->List UInt8->Nat × Nat × Int
 | _,_,[]=>(0,0,2)
 | k,v,c::l=>if k=9/\1<c.toNat then(0,0,8) else if 128<=c.toNat then cutG (k+1) (v+c.toNat % 128*128 ^ k) l else if c.toNat=0/\0<k then(0,0,3) else(v+c.toNat*128 ^ k,k+1,0)
def cutG_put:∀ (m x k v:Nat) (tl:List UInt8),x<=m->x*128 ^ k<18446744073709551616->(0<k->0<x)->k<=9->cutG k v (putB x++tl)=(v+x*128 ^ k,k+(putB x).length,0):=by
 intro m
 induction m with
 | zero =>
  intro x k v tl hx hb hk h9;have h0:k=0:=Y;have hx0:x=0:=Y;subst h0 hx0;rw[putB,if_pos Y]
  simp[cutG]
 | succ m ih =>
  intro x k v tl hx hb hk h9;rw[putB];by_cases h:x<128
  . rw[if_pos h];have e:(UInt8.ofNat x).toNat=x:=zg;simp only[List.cons_append,List.nil_append,cutG,e]
    have c1:¬ (k=9/\1<x):=by
     rintro ⟨rfl,h1⟩;omega
    rw[if_neg c1,if_neg Y,if_neg Y];simp
  . rw[if_neg h];have e:(UInt8.ofNat (x % 128+128)).toNat=x % 128+128:=zg
    have h9':k<9:=by
     rcases Nat.lt_or_ge k 9 with h' | h'
     . exact h'
     . have:k=9:=by omega
       subst this;omega
    have hp:x / 128*128 ^ (k+1)<=x*128 ^ k:=by
     rw[Nat.pow_succ,Nat.mul_comm (128 ^ k),<-Nat.mul_assoc];exact Nat.mul_le_mul_right _ (Nat.div_mul_le_self _ _)
    simp only[List.cons_append,cutG,e];rw[if_neg Y,if_pos Y,ih (x / 128) (k+1) _ tl Y Y Y Y];have e1:(x % 128+128) % 128=x % 128:=Y
    have e2:v+x % 128*128 ^ k+x / 128*128 ^ (k+1)=v+x*128 ^ k:=by
     have:x=x % 128+x / 128*128:=by omega
     generalize x / 128=q at *;generalize x % 128=r at *;subst this;rw[Nat.pow_succ,Nat.add_mul,Nat.mul_comm (128 ^ k) 128,<-Nat.mul_assoc];omega
    rw[e1,e2];simp;omega
def qey:∀ k,k<=8->∃ M,128 ^ (k+1)*M=18446744073709551616:=by
 intro k hk;refine ⟨2 ^ (57-7*k),?_⟩;have:(128:Nat)=2 ^ 7:=rfl;rw[this,<-Nat.pow_mul,<-Nat.pow_add,show 7*(k+1)+(57-7*k)=64 from by omega]
def cutG_back:∀ (l:List UInt8) (k v x n:Nat),k<=9->cutG k v l=(x,n,0)->∃ y,x=v+y*128 ^ k/\k<n/\n<=k+l.length/\putB y=l.take (n-k)/\(0<k->0<y)/\y*128 ^ k<18446744073709551616:=by
 intro l
 induction l with
 | nil=>intro k v x n _ h;simp[cutG] at h
 | cons c l ih =>
  intro k v x n hk h;unfold cutG at h;have hc:=c.toNat_lt;by_cases c1:k=9/\1<c.toNat
  . rw[if_pos c1] at h;simp at h
  rw[if_neg c1] at h;by_cases c2:128<=c.toNat
  . rw[if_pos c2] at h;obtain⟨y,h1,h2,h3,h4,h5,h6⟩:=ih _ _ _ _ Y h;have hy:0<y:=h5 Y;have ep:128 ^ (k+1)=128*128 ^ k:=by rw[Nat.pow_succ,Nat.mul_comm]
    have e3:(c.toNat % 128+y*128)*128 ^ k=c.toNat % 128*128 ^ k+y*128 ^ (k+1):=by
     rw[ep,Nat.add_mul,Nat.mul_assoc]
    refine ⟨c.toNat % 128+y*128,?_,Y,zg,?_,Y,?_⟩
    . rw[h1,e3];omega
    . rw[putB,if_neg Y]
      have e1:UInt8.ofNat ((c.toNat % 128+y*128) % 128+128)=c:=by
       apply UInt8.toNat_inj.1;simp;omega
      have e2:(c.toNat % 128+y*128) / 128=y:=Y;rw[e1,e2,h4];have e4:n-k=(n-(k+1))+1:=Y;rw[e4,List.take_succ_cons]
    . rw[e3];have hk8:k<9:=Y
      -- y*128^(k+1)<2^64 and a multiple of 128^(k+1)
      have hb:c.toNat % 128*128 ^ k<128 ^ (k+1):=by
       rw[ep];exact Nat.mul_lt_mul_of_pos_right Y (Nat.pow_pos Y)
      obtain⟨M,hM⟩:=qey k Y;rw[<-hM] at h6 ⊢
      have hyM:y<M:=by
       rcases Nat.lt_or_ge y M with h' | h'
       . exact h'
       . have:=Nat.mul_le_mul_left (128 ^ (k+1)) h';rw[Nat.mul_comm _ y] at this;omega
      have:=Nat.mul_le_mul_left (128 ^ (k+1)) hyM;rw[Nat.mul_comm _ (y+1),Nat.succ_mul] at this;omega
  . rw[if_neg c2] at h;by_cases c3:c.toNat=0/\0<k
    . rw[if_pos c3] at h;simp at h
    rw[if_neg c3] at h;simp only[Prod.mk.injEq,and_true] at h;obtain⟨rfl,rfl⟩:=h;refine ⟨c.toNat,rfl,Y,zy,?_,Y,?_⟩
    . rw[putB,if_pos Y];have:k+1-k=1:=by omega
      rw[this];have:UInt8.ofNat c.toNat=c:=by apply UInt8.toNat_inj.1;simp
      rw[this];simp
    . by_cases h9:k=9
      . subst h9;omega
      . obtain⟨M,hM⟩:=qey k Y;rw[<-hM];have ep:128 ^ (k+1)=128*128 ^ k:=(by rw[Nat.pow_succ,Nat.mul_comm])
        have hp:0<128 ^ k:=Nat.pow_pos Y
        have hM0:0<M:=by
         rcases Nat.eq_zero_or_pos M with h' | h'
         . subst h';omega
         . exact h'
        have h1:=Nat.mul_le_mul_left (128 ^ (k+1)) hM0;have h2:c.toNat*128 ^ k<128*128 ^ k:=Nat.mul_lt_mul_of_pos_right Y hp;omega
def contN:Nat->List UInt8->Nat
 | _,[]=>0
 | 0,_::_=>0
 | f+1,c::l=>if 128<=c.toNat then contN f l+1 else 0
def valB:List UInt8->Nat
 | []=>0
 | c::l=>c.toNat % 128+128*valB l
def cutG_ref:∀ (l:List UInt8) (k v:Nat),k<=9->cutG k v l =
    (let n:=contN (9-k) l
     if l.length<=n then(0,0,2) else if k+n=9/\1<(l.getD n 0).toNat then(0,0,8) else if (l.getD n 0).toNat=0/\0<k+n then(0,0,3) else(v+valB (l.take (n+1))*128 ^ k,k+n+1,0)):=by
  intro l
  induction l with
  | nil=>intro k v _;simp[cutG,contN]
  | cons c l ih =>
    intro k v hk;have hc:=c.toNat_lt;unfold cutG;rcases Nat.lt_or_ge k 9 with h9 | h9
    . have e9:9-k=(9-(k+1))+1:=Y;rw[if_neg Y,e9];by_cases c2:128<=c.toNat
      . rw[if_pos c2,ih (k+1) _ Y];simp only[contN,c2,if_true,List.length_cons,Nat.add_le_add_iff_right,List.getD_cons_succ,List.take_succ_cons,valB];have e1:k+1+contN (9-(k+1)) l=k+(contN (9-(k+1)) l+1):=Y
        have e2:∀ z,v+c.toNat % 128*128 ^ k+z*128 ^ (k+1)=v+(c.toNat % 128+128*z)*128 ^ k:=by
          intro z;rw[Nat.add_mul,Nat.pow_succ,Nat.mul_comm 128 z,Nat.mul_assoc,Nat.mul_comm (128 ^ k) 128];omega
        rw[e1,e2]
      . rw[if_neg c2];simp[contN,c2,valB];have:¬ k=9:=by omega
        simp[this];by_cases c3:c.toNat=0/\0<k
        . simp[c3]
        . rw[if_neg c3,if_neg (by simpa using c3)];have:c.toNat % 128=c.toNat:=by omega
          rw[this]
    . have:k=9:=by omega
      subst this;simp[contN,valB];by_cases c1:1<c.toNat
      . simp[c1]
      . simp[c1];rw[if_neg Y];by_cases c3:c.toNat=0
        . simp[c3]
        . simp[c3];omega
end Go.Proofs.YtpnabjopfpdkhaaGreatDoor
