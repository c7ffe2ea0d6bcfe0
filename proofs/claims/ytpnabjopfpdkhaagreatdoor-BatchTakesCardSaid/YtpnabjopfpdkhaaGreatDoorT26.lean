/- Lemmas. -/
import Derived.Test.YtpnabjopfpdkhaaGreatDoorT01
import Derived.LoopTactic
import Derived.Laws.BitsAllLaws
set_option linter.unusedSimpArgs false
set_option linter.unusedVariables false
set_option maxRecDepth 20000
set_option maxHeartbeats 400000
namespace Go.Proofs.YtpnabjopfpdkhaaGreatDoor
open Go.RowKit
variable {w:World}
def putB (v:Nat):List UInt8:=if v<128 then [UInt8.ofNat v] else UInt8.ofNat (v % 128+128)::putB (v / 128)
termination_by v
decreasing_by omega
theorem qcN:(Tryz.prog.info? 5).map (fun i=>(i.zero,i.size,i.bytes))=some (some (.int .u8 0),1,1):=by kernel_rfl
theorem or128_fin:∀ n:Fin 256,bits BinOp.or IntKind.u8 (n.val:Int) 128=(n.val:Int) % 128+128:=by decide +kernel
theorem or128 (v:Int) (h:0≤v):bits BinOp.or IntKind.u8 (v % 256) 128=v % 128+128:=by
 have h1:=or128_fin ⟨(v % 256).toNat,by omega⟩
 have e:(((v % 256).toNat:Nat):Int)=v % 256:=by omega
 simp only[e] at h1;rw[h1];omega
theorem qba:∀ (n:Nat) (v:Nat),v<128 ^ (n+1)→(putB v).length≤n+1:=by
 intro n
 induction n with
 | zero=>intro v h;rw[putB,if_pos zac];simp
 | succ n ih =>
  intro v h;rw[putB]
  split
  · simp
  · have:=ih (v / 128) (by rw[Nat.pow_succ] at h;omega)
    simp;omega
theorem putB_pos (v:Nat):0<(putB v).length:=by rw[putB];split<;>simp
def OwnB (w w':World) (e:Ending) (l:List UInt8):Prop :=
 ∃ g cap,e=.returned (.slice (some ⟨g,0,none⟩) l.length cap)∧w'.ownsRow w.heap.size 5 1 (.slice (some ⟨g,0,none⟩) l.length cap) l.length (qag l)∧Ext w w'
theorem OwnB.mk' {w':World} {v:Value} {l:List UInt8} (hl:0<l.length) (h:w'.ownsRow w.heap.size 5 1 v l.length (qag l)) (hx:Ext w w'):OwnB w w' (.returned v) l:=by
 obtain⟨g,cap,rfl,_,_⟩:=h.form hl
 exact⟨g,cap,rfl,h,hx⟩
theorem qgg {base:Nat} {t:TypeId} (x:Value) (hb:base≤w.heap.size):(w.alloc (.cells #[x] t)).ownsRow base t 1 (.slice (some ⟨w.heap.size,0,none⟩) 1 1) 1 [x] :=
 ⟨rfl,.inr ⟨w.heap.size,1,#[x],rfl,hb,heap_alloc_new w _,Nat.le_refl _,by unfold maxLen;omega,rfl,rfl⟩⟩
theorem qgj (v0:Int) (h0:0≤v0) (h1:v0≤18446744073709551615) (w:World) :
  Calls Tryz.prog 46 #[.int .u64 v0] w fun e w'=>OwnB w w' e (putB v0.toNat):=by
 obtain⟨i0,hi,hz0,hz1,hz2⟩:=info_parts qcN
 go_enter Tryz.func46,Tryz.ntmps46;go_wp2_with fail;go_loopw [0,3] (fun vv out wr=>∃ (v:Int) (k:Nat) (done:List UInt8),0≤v∧v≤18446744073709551615∧vv=.int .u64 v∧k=done.length∧done++putB v.toNat=putB v0.toNat∧wr.ownsRow w.heap.size 5 1 out k (qag done)∧Ext w wr) (fun vv _ _=>(intOf vv).toNat)
 case atStart=>exact⟨v0,0,[],h0,h1,rfl,rfl,rfl,World.ownsRow_nil _ _ _ _,Ext.refl _⟩
 case round =>
  obtain⟨v,k,done,hv0,hv1,rfl,hk,hd,hown,hext⟩:=hrel
  have Hd:=Lib.hid hd;have Hk:=Lib.hid hk;clear hd hk
  have hka:k≤10:=by
   have h2:=congrArg List.length Hd.out;have h3:=qba 9 v0.toNat zac
   have:=Hk.out
   simp at h2;omega
  have hor:=or128 v hv0
  by_cases hlt:v<128
  · go_wp2_with (at_builtin;refine wpList_append_own_at _ rfl _ _ 53 rfl w.heap.size 5 i0 (.int .u8 0) 1 1 Tryz.underlying53 hi hz0 hz1 hz2 rfl zal _ k (qag done) rfl (hown.alloc _) ⟨wr.heap.size,0,none⟩ 1 1 [.int .u8 v] rfl rfl ?c1 ?c2 ?c3 ?c4 ?c5 ?_)
    case c1=>exact cell_one_new _ _ _
    case c2=>first | rfl | (intro u hu;simp at hu;subst hu;rfl)
    case c3=>unfold maxLen;omega
    case c4=>omega
    case c5=>have:=hext.size;simp;omega
    intro v' w1 hown' hgrow _ _
    go_wp2
    go_ret;refine OwnB.mk' (putB_pos _) ?_ ?_
    · have e1:putB v.toNat=[UInt8.ofNat v.toNat]:=by rw[putB,if_pos zac]
      have h2:=Hd.out;rw[e1] at h2;rw[←h2,qbB _ _ hv0 zac]
      have:=Hk.out
      simpa [this] using hown'
    · exact(hext.alloc _).grown hgrow (fun k hk=>(hown.lt k hk).1)
  · go_wp2_with (at_builtin;refine wpList_append_own_at _ rfl _ _ 53 rfl w.heap.size 5 i0 (.int .u8 0) 1 1 Tryz.underlying53 hi hz0 hz1 hz2 rfl zal _ k (qag done) rfl (hown.alloc _) ⟨wr.heap.size,0,none⟩ 1 1 [.int .u8 (v % 128+128)] rfl rfl ?d1 ?d2 ?d3 ?d4 ?d5 ?_)
    try case d1=>exact cell_one_new _ _ _
    case d2=>first | rfl | (intro u hu;simp at hu;subst hu;rfl)
    case d3=>unfold maxLen;omega
    case d4=>omega
    case d5=>have:=hext.size;simp;omega
    intro v' w1 hown' hgrow _ _
    go_wp2
    go_roundw
    case rel =>
     refine ⟨v / 128,k+1,done++[UInt8.ofNat (v % 128+128).toNat],by omega,by omega,rfl,by have:=Hk.out;simp[this],?_,?_,?_⟩
     · rw[←Hd.out]
       have e1:putB v.toNat=UInt8.ofNat (v % 128+128).toNat::putB (v / 128).toNat:=by
        rw[putB,if_neg zac]
        have a1:v.toNat % 128+128=(v % 128+128).toNat:=by omega
        have a2:v.toNat / 128=(v / 128).toNat:=by omega
        rw[a1,a2]
       rw[e1];simp
     · rw[qbB _ _ zac zac];exact hown'
     · exact(hext.alloc _).grown hgrow (fun k hk=>(hown.lt k hk).1)
    case measure=>simp[intOf];omega
theorem nat_xor_ones (x:Nat) (h:x<18446744073709551616):x ^^^ 18446744073709551615=18446744073709551615-x:=by
 have h1:(BitVec.ofNat 64 x ^^^ BitVec.allOnes 64).toNat=(~~~ (BitVec.ofNat 64 x)).toNat:=by rw[BitVec.xor_allOnes]
 rw[BitVec.toNat_xor,BitVec.toNat_not,BitVec.toNat_allOnes,BitVec.toNat_ofNat,Nat.mod_eq_of_lt zbn] at h1
 simpa using h1
theorem xor_zero (a:Int) (h0:0≤a) (h1:a<18446744073709551616):bits BinOp.xor IntKind.u64 a 0=a:=by
 rw[u64_xor a 0 h0 h1 zac zac]
 simp;omega
theorem xor_ones (a:Int) (h0:0≤a) (h1:a<18446744073709551616):bits BinOp.xor IntKind.u64 a 18446744073709551615=18446744073709551615-a:=by
 rw[u64_xor a 18446744073709551615 h0 h1 zac zac]
 have e:(18446744073709551615:Int).toNat=18446744073709551615:=rfl
 rw[e,nat_xor_ones a.toNat zac]
 omega
def zigZ (v:Int):Int:=if 0≤v then 2*v else 2*(-(v+1))+1
theorem zigZ_bd (v:Int) (h0:-9223372036854775808≤v) (h1:v≤9223372036854775807):0≤zigZ v∧zigZ v≤18446744073709551615:=by unfold zigZ;split<;>omega
theorem zig_pos (v:Int) (h0:0≤v) (h1:v≤9223372036854775807):bits BinOp.xor IntKind.u64 (v*2) (v / 9223372036854775808)=zigZ v:=by
 have:v / 9223372036854775808=0:=by omega
 rw[this,xor_zero _ zac zac,zigZ,if_pos h0];omega
theorem zig_neg (v:Int) (h0:v<0) (h1:-9223372036854775808≤v) :
  bits BinOp.xor IntKind.u64 (IntKind.u64.wrap (IntKind.u64.wrap v*2)) (IntKind.u64.wrap (v / 9223372036854775808))=zigZ v:=by
 have e1:v / 9223372036854775808=-1:=by omega
 have w64:∀ n:Int,IntKind.u64.wrap n=n % 18446744073709551616:=fun n=>by simp[IntKind.wrap,IntKind.bits,IntKind.signed]
 rw[e1,w64,w64,w64]
 have e2:(-1:Int) % 18446744073709551616=18446744073709551615:=rfl
 rw[e2,xor_ones _ zac zac,zigZ,if_neg zac];omega
theorem zig_any (v:Int) (h0:-9223372036854775808≤v) (h1:v≤9223372036854775807) (w:World) :
  Calls Tryz.prog 115 #[.int .i64 v] w fun e w'=>e=.returned (.int .u64 (zigZ v))∧Ext w w':=by
 by_cases hv:0≤v
 · go_enter Tryz.func115,Tryz.ntmps115
   go_wp2
   go_ret
   exact⟨ret_intY (zig_pos v hv h1),Ext.refl _⟩
 · have hv':v<0:=by omega
   go_enter Tryz.func115,Tryz.ntmps115
   go_wp2
   go_ret
   exact⟨ret_intY (zig_neg v hv' h0),Ext.refl _⟩
theorem putint_any (v:Int) (h0:-9223372036854775808≤v) (h1:v≤9223372036854775807) (w:World) :
  Calls Tryz.prog 102 #[.int .i64 v] w fun e w'=>OwnB w w' e (putB (zigZ v).toNat):=by
 obtain⟨b0,b1⟩:=zigZ_bd v h0 h1
 go_enter Tryz.func102,Tryz.ntmps102
 go_wp2_with (first
  | (go_at_call 115;refine (zig_any v h0 h1 _).mono ?_;rintro e _ ⟨rfl,d,os,rfl⟩)
  | (go_at_call 46;refine (qgj (zigZ v) b0 b1 _).mono ?_;rintro e w1 ⟨g,cap,rfl,ho,he⟩))
 go_ret
 exact⟨_,_,rfl,ho.mono zbg,((Ext.refl _).more _ _).trans he⟩
theorem puttext_any (s:ByteArray) (hs:(s.size:Int)≤255) (w:World) :
  Calls Tryz.prog 80 #[.string s] w fun e w'=>OwnB w w' e (putB s.size++s.data.toList):=by
 obtain⟨i0,hi,hz0,hz1,hz2⟩:=info_parts qcN
 have hl:=qba 1 s.size zac;go_enter Tryz.func80,Tryz.ntmps80
 go_wp2_with (first
  | (go_at_call 46;refine (qgj _ zac zac _).mono ?_;rintro e w1 ⟨g,cap,rfl,ho,he⟩;simp only[Int.toNat_natCast] at ho)
  | (at_builtin;refine qah _ rfl _ _ 53 9 rfl w.heap.size 5 i0 (.int .u8 0) 1 1 Tryz.underlying53 hi hz0 hz1 hz2 rfl zal _ _ _ rfl ho _ s.size _ rfl (Src.ofString _ Tryz.underlying9 s) ?c3 ?c4 ?c5 ?_))
 case c3=>unfold maxLen;omega
 case c4=>omega
 case c5=>exact he.size
 intro v' w2 hown' hgrow _
 go_wp2
 go_ret;refine OwnB.mk' (by have:=putB_pos s.size;simp;omega) ?_ (he.grown hgrow fun k hk=>(ho.lt k hk).1);rw[qgc,←qbS] at hown'
 simpa using hown'
theorem news_one {N:Nat} {x:Value} (h:w.cell? ⟨N,0,none⟩=some x):∀ j u,[x][j]?=some u→w.cell? ((⟨N,0,none⟩:Addr).add j)=some u:=by
 intro j u hu
 match j,hu with
 | 0,hu=>simp at hu;subst hu;simpa [Addr.add] using h
 | j+1,hu=>simp at hu
def encB (k i:Int) (s:ByteArray):List UInt8 :=
 if k=1 then [1,UInt8.ofNat i.toNat] else if k=2 then 2::putB (zigZ i).toNat else if k=3 then 3::(putB s.size++s.data.toList) else [0]
theorem enc_nil (s:ByteArray) (h:mayBY 0 0 s=true) (w:World) :
  Calls Tryz.prog 87 #[.agg #[.int .i64 0,.int .i64 0,.string s]] w fun e w'=>OwnB w w' e [0]:=by
 go_enter Tryz.func87,Tryz.ntmps87
 go_wp2_with (go_at_call 86;refine (qcv _ _ _ _).mono ?_;rintro e _ ⟨rfl,d,os,rfl⟩)
 go_ret
 exact⟨_,_,rfl,by simpa [more_size,qag] using (qgg (w:=more (w.alloc (.cells #[.int .i64 0,.int .i64 0,.string s] 45)) d os) (t:=5) (.int .u8 0) (Nat.le_refl _)).mono (base':=w.heap.size) (by simp[more_size];omega),zab⟩
theorem enc_bool (i:Int) (s:ByteArray) (h0:0≤i) (h1:i≤1) (h:mayBY 1 i s=true) (w:World) :
  Calls Tryz.prog 87 #[.agg #[.int .i64 1,.int .i64 i,.string s]] w fun e w'=>OwnB w w' e [1,UInt8.ofNat i.toNat]:=by
 obtain⟨i0,hi,hz0,hz1,hz2⟩:=info_parts qcN
 go_enter Tryz.func87,Tryz.ntmps87
 go_wp2_with (first
  | (go_at_call 86;refine (qcv _ _ _ _).mono ?_;rintro e _ ⟨rfl,d,os,rfl⟩)
  | (at_builtin;refine qah _ rfl _ _ 53 53 rfl w.heap.size 5 i0 (.int .u8 0) 1 1 Tryz.underlying53 hi hz0 hz1 hz2 rfl zal (.slice (some ⟨w.heap.size+1+os.size,0,none⟩) 1 1) 1 [.int .u8 1] rfl ?c1 _ 1 [.int .u8 i] rfl ?c2 ?c3 ?c4 ?c5 ?_))
 case c1=>simpa [more_size] using ((qgg (w:=more (w.alloc (.cells #[.int .i64 1,.int .i64 i,.string s] 45)) d os) (t:=5) (.int .u8 1) (Nat.le_refl _)).alloc _).mono (base':=w.heap.size) (by simp[more_size];omega)
 case c2=>exact Src.ofSlice _ Tryz.underlying53 _ _ _ [.int .u8 i] rfl (news_one (by simp[go_sem])) zbh
 case c3=>unfold maxLen;omega
 case c4=>omega
 case c5=>simp[more_size];omega
 intro v' w2 hown' hgrow _
 go_wp2
 go_ret;refine OwnB.mk' zaj ?_ (Ext.grown zab hgrow (by intro k hk;simp[Value.ownBlock] at hk;omega))
 have e:qag [1,UInt8.ofNat i.toNat]=[.int .u8 1]++[.int .u8 i]:=qbB [1] i h0 zac
 rw[e];simpa using hown'
theorem enc_int (i:Int) (s:ByteArray) (h0:-9223372036854775808≤i) (h1:i≤9223372036854775807) (h:mayBY 2 i s=true) (w:World) :
  Calls Tryz.prog 87 #[.agg #[.int .i64 2,.int .i64 i,.string s]] w fun e w'=>OwnB w w' e (2::putB (zigZ i).toNat):=by
 obtain⟨i0,hi,hz0,hz1,hz2⟩:=info_parts qcN
 have hlen:(putB (zigZ i).toNat).length≤1000:=by
  have:=zigZ_bd i h0 h1;have:=qba 9 (zigZ i).toNat zac;omega
 obtain⟨l,hl⟩:∃ l,putB (zigZ i).toNat=l:=⟨_,rfl⟩
 rw[hl] at hlen ⊢;have Hl:=Lib.hid hl;clear hl;go_enter Tryz.func87,Tryz.ntmps87
 go_wp2_with (first
  | (go_at_call 86;refine (qcv _ _ _ _).mono ?_;rintro e _ ⟨rfl,d,os,rfl⟩)
  | (go_at_call 102;refine (putint_any i h0 h1 _).mono ?_;rw[Hl.out];rintro e _ ⟨g,cap,rfl,ho,d2,os2,rfl⟩)
  | (at_builtin;refine qah _ rfl _ _ 53 53 rfl w.heap.size 5 i0 (.int .u8 0) 1 1 Tryz.underlying53 hi hz0 hz1 hz2 rfl zal (.slice (some ⟨w.heap.size+1+os.size,0,none⟩) 1 1) 1 [.int .u8 2] rfl ?c1 (.slice (some ⟨g,0,none⟩) l.length cap) l.length (qag l) rfl ?c2 ?c3 ?c4 ?c5 ?_))
 case c1=>exact own_more (by simpa [more_size] using (qgg (w:=more (w.alloc (.cells #[.int .i64 2,.int .i64 i,.string s] 45)) d os) (t:=5) (.int .u8 2) (Nat.le_refl _)).mono (base':=w.heap.size) (by simp[more_size];omega)) _ _
 case c2=>exact qfN Tryz.underlying53 ho (qcz l)
 case c3=>unfold maxLen;omega
 case c4=>omega
 case c5=>simp[more_size];omega
 intro v' w2 hown' hgrow _
 go_wp2
 go_ret;refine OwnB.mk' zaj ?_ (Ext.grown zab hgrow (by intro k hk;simp[Value.ownBlock] at hk;omega))
 have e:qag (2::l)=[.int .u8 2]++qag l:=rfl
 rw[e,List.length_cons]
 have a1:l.length+1=1+l.length:=by omega
 rw[a1];exact hown'
theorem enc_text (s:ByteArray) (hs:(s.size:Int)≤64) (h:mayBY 3 0 s=true) (w:World) :
  Calls Tryz.prog 87 #[.agg #[.int .i64 3,.int .i64 0,.string s]] w fun e w'=>OwnB w w' e (3::(putB s.size++s.data.toList)):=by
 obtain⟨i0,hi,hz0,hz1,hz2⟩:=info_parts qcN
 have hlen:((putB s.size++s.data.toList)).length≤1000:=by
  have:=qba 1 s.size zac;have e:s.data.toList.length=s.size:=by simp
  rw[List.length_append,e];omega
 obtain⟨l,hl⟩:∃ l,(putB s.size++s.data.toList)=l:=⟨_,rfl⟩
 rw[hl] at hlen ⊢;have Hl:=Lib.hid hl;clear hl;go_enter Tryz.func87,Tryz.ntmps87
 go_wp2_with (first
  | (go_at_call 86;refine (qcv _ _ _ _).mono ?_;rintro e _ ⟨rfl,d,os,rfl⟩)
  | (go_at_call 80;refine (puttext_any s zac _).mono ?_;rw[Hl.out];rintro e _ ⟨g,cap,rfl,ho,d2,os2,rfl⟩)
  | (at_builtin;refine qah _ rfl _ _ 53 53 rfl w.heap.size 5 i0 (.int .u8 0) 1 1 Tryz.underlying53 hi hz0 hz1 hz2 rfl zal (.slice (some ⟨w.heap.size+1+os.size,0,none⟩) 1 1) 1 [.int .u8 3] rfl ?c1 (.slice (some ⟨g,0,none⟩) l.length cap) l.length (qag l) rfl ?c2 ?c3 ?c4 ?c5 ?_))
 case c1=>exact own_more (by simpa [more_size] using (qgg (w:=more (w.alloc (.cells #[.int .i64 3,.int .i64 0,.string s] 45)) d os) (t:=5) (.int .u8 3) (Nat.le_refl _)).mono (base':=w.heap.size) (by simp[more_size];omega)) _ _
 case c2=>exact qfN Tryz.underlying53 ho (qcz l)
 case c3=>unfold maxLen;omega
 case c4=>omega
 case c5=>simp[more_size];omega
 intro v' w2 hown' hgrow _
 go_wp2
 go_ret;refine OwnB.mk' zaj ?_ (Ext.grown zab hgrow (by intro k hk;simp[Value.ownBlock] at hk;omega))
 have e:qag (3::l)=[.int .u8 3]++qag l:=rfl
 rw[e,List.length_cons]
 have a1:l.length+1=1+l.length:=by omega
 rw[a1];exact hown'
theorem rput_any (v0:Int) (h0:0≤v0) (h1:v0≤18446744073709551615) (w:World) :
  Calls Tryz.prog 42 #[.int .u64 v0] w fun e w'=>e=.returned (.string ⟨(putB v0.toNat).toArray⟩)∧Ext w w':=by
 obtain⟨i0,hi,hz0,hz1,hz2⟩:=info_parts qcN
 go_enter Tryz.func42,Tryz.ntmps42;go_wp2_with fail;go_loopw [0,3] (fun vv out wr=>∃ (v:Int) (k:Nat) (done:List UInt8),0≤v∧v≤18446744073709551615∧vv=.int .u64 v∧k=done.length∧done++putB v.toNat=putB v0.toNat∧wr.ownsRow w.heap.size 5 1 out k (qag done)∧Ext w wr) (fun vv _ _=>(intOf vv).toNat)
 case atStart=>exact⟨v0,0,[],h0,h1,rfl,rfl,rfl,World.ownsRow_nil _ _ _ _,Ext.refl _⟩
 case round =>
  obtain⟨v,k,done,hv0,hv1,rfl,hk,hd,hown,hext⟩:=hrel
  have Hd:=Lib.hid hd;have Hk:=Lib.hid hk;clear hd hk
  have hka:k≤10:=by
   have h2:=congrArg List.length Hd.out;have h3:=qba 9 v0.toNat zac
   have:=Hk.out
   simp at h2;omega
  have hor:=or128 v hv0
  by_cases hlt:v<128
  · go_wp2_with (at_builtin;refine wpList_append_own_at _ rfl _ _ 53 rfl w.heap.size 5 i0 (.int .u8 0) 1 1 Tryz.underlying53 hi hz0 hz1 hz2 rfl zal _ k (qag done) rfl (hown.alloc _) ⟨wr.heap.size,0,none⟩ 1 1 [.int .u8 v] rfl rfl ?c1 ?c2 ?c3 ?c4 ?c5 ?_)
    case c1=>exact cell_one_new _ _ _
    case c2=>first | rfl | (intro u hu;simp at hu;subst hu;rfl)
    case c3=>unfold maxLen;omega
    case c4=>omega
    case c5=>have:=hext.size;simp;omega
    intro v' w1 hown' hgrow _ _
    have e1:putB v.toNat=[UInt8.ofNat v.toNat]:=by rw[putB,if_pos zac]
    have h2:=Hd.out;rw[e1] at h2;rw[←qbB _ _ hv0 zac,h2] at hown';have hx:=(hext.alloc (.cells #[.int .u8 v] 5)).grown hgrow (fun k hk=>(hown.lt k hk).1)
    obtain⟨g,cap,hv',_,_⟩:=hown'.form zac
    rw[hv'] at hown' ⊢;have hcv:=conv_own (P:=Tryz.prog) (src:=53) (dst:=9) Tryz.underlying53 Tryz.underlying5 Tryz.underlying9 hown';clear e1 h2 hown' hgrow hv'
    go_wp2
    go_ret
    exact⟨rfl,hx⟩
  · go_wp2_with (at_builtin;refine wpList_append_own_at _ rfl _ _ 53 rfl w.heap.size 5 i0 (.int .u8 0) 1 1 Tryz.underlying53 hi hz0 hz1 hz2 rfl zal _ k (qag done) rfl (hown.alloc _) ⟨wr.heap.size,0,none⟩ 1 1 [.int .u8 (v % 128+128)] rfl rfl ?d1 ?d2 ?d3 ?d4 ?d5 ?_)
    try case d1=>exact cell_one_new _ _ _
    case d2=>first | rfl | (intro u hu;simp at hu;subst hu;rfl)
    case d3=>unfold maxLen;omega
    case d4=>omega
    case d5=>have:=hext.size;simp;omega
    intro v' w1 hown' hgrow _ _
    go_wp2
    go_roundw
    case rel =>
     refine ⟨v / 128,k+1,done++[UInt8.ofNat (v % 128+128).toNat],by omega,by omega,rfl,by have:=Hk.out;simp[this],?_,?_,?_⟩
     · rw[←Hd.out]
       have e1:putB v.toNat=UInt8.ofNat (v % 128+128).toNat::putB (v / 128).toNat:=by
        rw[putB,if_neg zac]
        have a1:v.toNat % 128+128=(v % 128+128).toNat:=by omega
        have a2:v.toNat / 128=(v / 128).toNat:=by omega
        rw[a1,a2]
       rw[e1];simp
     · rw[qbB _ _ zac zac];exact hown'
     · exact(hext.alloc _).grown hgrow (fun k hk=>(hown.lt k hk).1)
    case measure=>simp[intOf];omega
theorem rtext_any (s:ByteArray) (hs:(s.size:Int)≤9223372036854775000) (w:World) :
  Calls Tryz.prog 61 #[.string s] w fun e w'=>e=.returned (.string (⟨(putB s.size).toArray⟩++s))∧Ext w w':=by
 have hl:=qba 9 s.size zac;go_enter Tryz.func61,Tryz.ntmps61
 go_wp2_with (go_at_call 42;refine (rput_any (s.size:Int) zac zac _).mono ?_;rw[Int.toNat_natCast];rintro e _ ⟨rfl,d,os,rfl⟩)
 go_ret
 exact⟨rfl,(Ext.refl _).more _ _⟩
theorem may_cases {k i:Int} {s:ByteArray} (h:mayBY k i s=true) :
  (k=0∧i=0∧s.size=0)∨(k=1∧0≤i∧i≤1∧s.size=0)∨(k=2∧s.size=0)∨(k=3∧i=0∧s.size≤64):=by
 unfold mayBY at h;simp only[Bool.or_eq_true,Bool.and_eq_true,beq_iff_eq,decide_eq_true_eq] at h
 omega
theorem enc_any (k i:Int) (s:ByteArray) (h:mayBY k i s=true) (h0:-9223372036854775808≤i) (h1:i≤9223372036854775807) (w:World) :
  Calls Tryz.prog 87 #[.agg #[.int .i64 k,.int .i64 i,.string s]] w fun e w'=>OwnB w w' e (encB k i s):=by
 rcases may_cases h with ⟨rfl,rfl,_⟩ | ⟨rfl,a,b,_⟩ | ⟨rfl,_⟩ | ⟨rfl,rfl,a⟩
 · exact enc_nil s h w
 · exact enc_bool i s a b h w
 · exact enc_int i s h0 h1 h w
 · exact enc_text s zac h w
end Go.Proofs.YtpnabjopfpdkhaaGreatDoor
