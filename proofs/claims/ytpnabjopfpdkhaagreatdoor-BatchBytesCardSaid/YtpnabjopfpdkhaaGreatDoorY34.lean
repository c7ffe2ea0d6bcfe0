/- Lemmas. -/
import Derived.Test.YtpnabjopfpdkhaaGreatDoorY30
import Derived.Test.YtpnabjopfpdkhaaGreatDoorY33
set_option linter.all false
set_option maxHeartbeats 4000000
set_option maxRecDepth 20000
namespace Go.Proofs.YtpnabjopfpdkhaaGreatDoor
open Tryz RowKit
variable {N a b n off x y z:Nat} {w w':World} {v:Value} {l:List UInt8}
attribute [go_sem] more_more Array.size_append
def u8_eqY (c:UInt8) (n:Nat) (hn:n<256):(c==UInt8.ofNat n)=decide (c.toNat=n):=by
 rw[Bool.eq_iff_iff,beq_iff_eq,decide_eq_true_eq]
 constructor
 . rintro rfl;simp;omega
 . intro h;subst h;simp
def signB_nat (c:UInt8):signB c=decide ((97<=c.toNat/\c.toNat<=122)\/(48<=c.toNat/\c.toNat<=57)\/c.toNat=45\/c.toNat=46\/c.toNat=47\/c.toNat=95):=by
 unfold signB;rw[show(45:UInt8)=UInt8.ofNat 45 from rfl,show(46:UInt8)=UInt8.ofNat 46 from rfl,show(47:UInt8)=UInt8.ofNat 47 from rfl,show(95:UInt8)=UInt8.ofNat 95 from rfl,u8_eqY _ _ Y,u8_eqY _ _ Y,u8_eqY _ _ Y,u8_eqY _ _ Y];rw[Bool.eq_iff_iff];simp only[Bool.or_eq_true,decide_eq_true_eq];omega
def rsign_any (c:UInt8) (w:World):Calls prog 103 #[.int .u8 (c.toNat:Int)] w fun e w'=>e=.returned (.bool (signB c))/\Ext w w':=by
 have e:=signB_nat c;obtain⟨n,hn⟩:∃ n,c.toNat=n:=⟨_,rfl⟩
 have hc1:(n:Int)<256:=by have:=c.toNat_lt;omega
 rw[e,hn];clear e hn;have hc:(n:Int)<45\/n=45\/n=46\/n=47\/(48<=(n:Int)/\(n:Int)<=57)\/(57<(n:Int)/\(n:Int)<95)\/n=95\/n=96\/(97<=(n:Int)/\(n:Int)<=122)\/122<(n:Int):=Y;rcases hc with h | rfl | rfl | rfl | ⟨h,h'⟩ | ⟨h,h'⟩ | rfl | rfl | ⟨h,h'⟩ | h
 . have q45:((n:Int)==45)=false:=by rw[beq_eq_false_iff_ne];omega
   have q46:((n:Int)==46)=false:=by rw[beq_eq_false_iff_ne];omega
   have q47:((n:Int)==47)=false:=by rw[beq_eq_false_iff_ne];omega
   have q95:((n:Int)==95)=false:=by rw[beq_eq_false_iff_ne];omega
   rw[decide_eq_false Y];go_enter func103,ntmps103;go_wp2_with fail;go_ret;exact⟨rfl,Ext.refl _⟩
 . rw[decide_eq_true Y];go_enter func103,ntmps103;go_wp2_with fail;go_ret;exact⟨rfl,Ext.refl _⟩
 . rw[decide_eq_true Y];go_enter func103,ntmps103;go_wp2_with fail;go_ret;exact⟨rfl,Ext.refl _⟩
 . rw[decide_eq_true Y];go_enter func103,ntmps103;go_wp2_with fail;go_ret;exact⟨rfl,Ext.refl _⟩
 . have q45:((n:Int)==45)=false:=by rw[beq_eq_false_iff_ne];omega
   have q46:((n:Int)==46)=false:=by rw[beq_eq_false_iff_ne];omega
   have q47:((n:Int)==47)=false:=by rw[beq_eq_false_iff_ne];omega
   have q95:((n:Int)==95)=false:=by rw[beq_eq_false_iff_ne];omega
   rw[decide_eq_true Y];go_enter func103,ntmps103;go_wp2_with fail;go_ret;exact⟨rfl,Ext.refl _⟩
 . have q45:((n:Int)==45)=false:=by rw[beq_eq_false_iff_ne];omega
   have q46:((n:Int)==46)=false:=by rw[beq_eq_false_iff_ne];omega
   have q47:((n:Int)==47)=false:=by rw[beq_eq_false_iff_ne];omega
   have q95:((n:Int)==95)=false:=by rw[beq_eq_false_iff_ne];omega
   have l57:decide ((n:Int)<=57)=false:=decide_eq_false Y;rw[decide_eq_false Y];go_enter func103,ntmps103;go_wp2_with fail;go_ret;exact⟨rfl,Ext.refl _⟩
 . rw[decide_eq_true Y];go_enter func103,ntmps103;go_wp2_with fail;go_ret;exact⟨rfl,Ext.refl _⟩
 . rw[decide_eq_false Y];go_enter func103,ntmps103;go_wp2_with fail;go_ret;exact⟨rfl,Ext.refl _⟩
 . have q45:((n:Int)==45)=false:=by rw[beq_eq_false_iff_ne];omega
   have q46:((n:Int)==46)=false:=by rw[beq_eq_false_iff_ne];omega
   have q47:((n:Int)==47)=false:=by rw[beq_eq_false_iff_ne];omega
   have q95:((n:Int)==95)=false:=by rw[beq_eq_false_iff_ne];omega
   rw[decide_eq_true Y];go_enter func103,ntmps103;go_wp2_with fail;go_ret;exact⟨rfl,Ext.refl _⟩
 . have q45:((n:Int)==45)=false:=by rw[beq_eq_false_iff_ne];omega
   have q46:((n:Int)==46)=false:=by rw[beq_eq_false_iff_ne];omega
   have q47:((n:Int)==47)=false:=by rw[beq_eq_false_iff_ne];omega
   have q95:((n:Int)==95)=false:=by rw[beq_eq_false_iff_ne];omega
   have l122:decide ((n:Int)<=122)=false:=decide_eq_false Y;have l57:decide ((n:Int)<=57)=false:=decide_eq_false Y;rw[decide_eq_false Y];go_enter func103,ntmps103;go_wp2_with fail;go_ret;exact⟨rfl,Ext.refl _⟩
def rpat_any (s:ByteArray) (hs:s.size<=maxLen) (w:World):Calls prog 88 #[.string s] w fun e w'=>e=.returned (.bool (patB s))/\Ext w w':=by
 unfold maxLen at hs;go_enter func88,ntmps88;go_wp2_with fail;go_loopw [3] (fun i wr=>∃ k:Nat,i=.int .i64 (k:Int)/\k<=s.size/\(s.data.toList.take k).all signB=true/\Ext w wr) (fun i _=>s.size-(intOf i).toNat)
 case atStart=>exact⟨0,rfl,Nat.zero_le _,rfl,Ext.refl _⟩
 case round =>
  obtain⟨k,rfl,hk,hall,d,os,rfl⟩:=hrel;have HA:=J hall;clear hall;by_cases hlt:k<s.size
  . cases hsg:signB s[k] with
    | true =>
     have HG:=J hsg;clear hsg
     go_wp2_with (go_at_call 103;refine (rsign_any _ _).mono ?_;rw[HG.out];rintro e _ ⟨rfl,d2,os2,rfl⟩)
     go_roundw
     case rel=>exact⟨k+1,by go_num,Y,all_snoc _ k jb _ HA.out HG.out,zf⟩
     case measure=>simp[intOf];omega
    | false =>
     have HG:=J hsg;clear hsg
     go_wp2_with (go_at_call 103;refine (rsign_any _ _).mono ?_;rw[HG.out];rintro e _ ⟨rfl,d2,os2,rfl⟩)
     go_ret;rw[patB_no (all_no _ k jb _ HG.out)]
     exact⟨rfl,zf⟩
  . by_cases h24:s.size<=24
    . have h24':(s.size:Int)<=24:=Y
      go_wp2_with fail;go_ret;rw[patB_yes h24 (by rw[List.take_of_length_le qf] at HA;exact HA.out)]
      exact⟨rfl,zf⟩
    . have h24':¬ (s.size:Int)<=24:=Y
      go_wp2_with fail;go_ret;rw[patB_long h24]
      exact⟨rfl,zf⟩
def take_snoc2 (a b:ByteArray) (k:Nat) (ha:k<a.size) (hb:k<b.size) (h:a.data.toList.take k=b.data.toList.take k) (e:(a[k].toNat:Int)=b[k].toNat):a.data.toList.take (k+1)=b.data.toList.take (k+1):=by
 have e2:a[k]=b[k]:=UInt8.toNat_inj.1 Y;rw[List.take_succ_eq_append_getElem (by simpa using ha),List.take_succ_eq_append_getElem (by simpa using hb),h];exact congrArg (fun x=>_++[x]) e2
def ahead_any (a b:ByteArray) (ha:a.size<=maxLen) (hb:b.size<=maxLen) (w:World):Calls prog 89 #[.string a,.string b] w fun e w'=>e=.returned (.bool (ltB a b))/\Ext w w':=by
 unfold maxLen at ha hb;go_enter func89,ntmps89;go_wp2_with fail;go_loopw [5] (fun i wr=>∃ k:Nat,i=.int .i64 (k:Int)/\k<=a.size/\k<=b.size/\a.data.toList.take k=b.data.toList.take k/\Ext w wr) (fun i _=>a.size-(intOf i).toNat)
 case atStart=>exact⟨0,rfl,Nat.zero_le _,Nat.zero_le _,rfl,Ext.refl _⟩
 case round =>
  obtain⟨k,rfl,hka,hkb,hall,d,os,rfl⟩:=hrel;have HA:=J hall;clear hall;by_cases hlt:k<a.size
  . by_cases hlb:k<b.size
    . by_cases hq:(a[k].toNat:Int)=b[k].toNat
      . have HQ:=J hq;have hq1:((a[k].toNat:Int) !=b[k].toNat)=false:=(by simp[hq])
        clear hq;go_wp2_with fail
        go_quiet (fail)
        go_wp2_with fail;go_roundw
        case rel=>exact⟨k+1,by go_num,Y,Y,take_snoc2 a b k hlt hlb HA.out HQ.out,zby⟩
        case measure=>simp[intOf];omega
      . have HQ:=J hq;have hq1:((a[k].toNat:Int) !=b[k].toNat)=true:=zg;clear hq;go_wp2_with fail
        go_quiet (fail)
        go_wp2_with fail
        go_quiet (fail)
        go_wp2_with fail;go_ret
        have e1:ltB a b=decide (a[k].toNat<b[k].toNat):=by
         unfold ltB;rw[bl_at k _ _ jb (by simpa using hlb) HA.out (fun e=>HQ.out (by have:a[k]=b[k]:=e;rw[this]))];rfl
        rw[e1];exact⟨rfl,zby⟩
    . have e1:ltB a b=decide (a.size<b.size):=by
        unfold ltB;rw[bl_end k _ _ HA.out (Or.inr qf) qf qf,qfO,qfO]
      go_wp2_with fail;go_ret;rw[e1]
      exact⟨rfl,zf⟩
  . have e1:ltB a b=decide (a.size<b.size):=by
      unfold ltB;rw[bl_end k _ _ HA.out (Or.inl qf) qf qf,qfO,qfO]
    go_wp2_with fail;go_ret;rw[e1]
    exact⟨rfl,zf⟩
theorem ltP1Y (h:a<n):(a<n+x)=True:=by simp;omega
theorem ltP2Y (h:a<n):(a<n+x+y)=True:=by simp;omega
theorem ltP3Y (h:a<n):(a<n+x+y+z)=True:=by simp;omega
theorem ltP4Y {u:Nat} (h:a<n):(a<n+x+y+z+u)=True:=by simp;omega
theorem ltP5Y {u v:Nat} (h:a<n):(a<n+x+y+z+u+v)=True:=by simp;omega
attribute [go_sem] ltP1Y ltP2Y ltP3Y ltP4Y ltP5Y
def itV (x:It):Value:=.agg #[.string x.k,.int .i64 x.vk,.int .i64 x.vi,.string x.vs,.int .i64 x.ver]
def In64I (n:Int):Prop:=-9223372036854775808<=n/\n<=9223372036854775807
structure ItOk (x:It):Prop where
 k:x.k.size<=255
 vs:x.vs.size<=255
 vk:In64I x.vk
 vi:In64I x.vi
 ver:In64I x.ver
def ItsAt (w:World) (b off:Nat) (l:List It):Prop:=∀ j x,l[j]?=some x ->
 w.cell? ⟨b,off+j*5,none⟩=some (.string x.k)/\w.cell? ⟨b,off+j*5+1,none⟩=some (.int .i64 x.vk)/\w.cell? ⟨b,off+j*5+2,none⟩=some (.int .i64 x.vi) /\
 w.cell? ⟨b,off+j*5+3,none⟩=some (.string x.vs)/\w.cell? ⟨b,off+j*5+4,none⟩=some (.int .i64 x.ver)
def ItsAt.of_block {l:List It} (h:ItsAt w b off l) (e:w'.heap[b]?=w.heap[b]?):ItsAt w' b off l:=by
 intro j x hj;obtain⟨h1,h2,h3,h4,h5⟩:=h j x hj;exact⟨(World.cell?_of_block e).trans h1,(World.cell?_of_block e).trans h2,(World.cell?_of_block e).trans h3,(World.cell?_of_block e).trans h4,(World.cell?_of_block e).trans h5⟩
def ItsAt.lt {l:List It} (h:ItsAt w b off l) (hl:0<l.length):b<w.heap.size :=
 World.block_lt_of_cell? w _ (h 0 l[0] (List.getElem?_eq_getElem hl)).1
def ItsAt.ext {l:List It} (h:ItsAt w b off l) (hx:Ext w w'):ItsAt w' b off l:=by
 by_cases hl:0<l.length
 . exact h.of_block (hx.below.block b (h.lt hl))
 . intro j x hj;have:=(List.getElem?_eq_some_iff.1 hj).1;omega
def LfAt (w:World) (b:Nat) (v:Value) (l:List It):Prop :=
 (∀ x∈l,ItOk x)/\∃ p cap,v=.slice p l.length cap/\l.length<=cap/\(0<l.length->∃ off,p=some ⟨b,off,none⟩/\ItsAt w b off l)
def LfAt.ext {l:List It} (h:LfAt w b v l) (hx:Ext w w'):LfAt w' b v l:=by
 obtain⟨h0,p,cap,h1,h2,h3⟩:=h;exact⟨h0,p,cap,h1,h2,fun hl=>by obtain⟨off,e,hi⟩:=h3 hl;exact⟨off,e,hi.ext hx⟩⟩
def LfAt.of_block {l:List It} (h:LfAt w b v l) (e:0<l.length->w'.heap[b]?=w.heap[b]?):LfAt w' b v l:=by
 obtain⟨h0,p,cap,h1,h2,h3⟩:=h;exact⟨h0,p,cap,h1,h2,fun hl=>by obtain⟨off,e',hi⟩:=h3 hl;exact⟨off,e',hi.of_block (e hl)⟩⟩
def LfAt.nil (w:World) (b:Nat):LfAt w b (.slice none 0 0) []:=⟨zy,none,0,rfl,Nat.le_refl _,zy⟩
def get_at {l:List It} {k:Nat} (hn:l.length=n) (h:k<n):∃ x,l[k]?=some x:=⟨_,List.getElem?_eq_getElem Y⟩
def OwnFact (base:Nat) (l:List UInt8):Fact:=fun v W=>∃ g cap,v=.slice (some ⟨g,0,none⟩) l.length cap/\W.ownsRow base 5 1 (.slice (some ⟨g,0,none⟩) l.length cap) l.length (qae l)
def OwnFact.upc (base:Nat) (l:List UInt8):Upc (OwnFact base l):=by
 rintro v W W' hx ⟨g,cap,hv,ho⟩;exact⟨g,cap,hv,own_ext ho hx⟩
def retO {P:Program} {f:FuncId} {args:Array Value} {W:World} {base:Nat} (h:Calls P f args W fun e w'=>OwnB W w' e l) (hb:base<=W.heap.size) :
  Calls P f args W (RetG W (OwnFact base l)):=h.mono fun e w' ⟨g,cap,he,ho,hx⟩=>⟨_,he,hx,g,cap,rfl,ho.mono hb⟩
def encB_len (k i:Int) (s:ByteArray) (h:mayBY k i s=true) (h0:-9223372036854775808<=i) (h1:i<=9223372036854775807):(encB k i s).length<=80:=by
 unfold encB;have z:=zigZ_bd i h0 h1;have q1:=qao 9 (zigZ i).toNat Y;rcases may_cases h with ⟨rfl,rfl,_⟩ | ⟨rfl,a,b,_⟩ | ⟨rfl,_⟩ | ⟨rfl,rfl,a⟩
 . simp
 . simp
 . simp;omega
 . have q2:=qao 1 s.size Y;simp;omega
def BytesAt.of_block (h:BytesAt w b off l) (e:w'.heap[b]?=w.heap[b]?):BytesAt w' b off l:=fun j u hj=>(World.cell?_of_block e).trans (h j u hj)
def qbc {o:Obj} (h:w.heap[b]?=some o):b<w.heap.size:=(Array.getElem?_eq_some_iff.1 h).1
def tlO (o k cap:Nat):Nat:=if cap=k then o else o+k
def sl_tail (b o len cap k:Nat) (hk:k<=len) (W:World):(Instr.slice 53 (.slice (some ⟨b,o,none⟩) len cap) (some (.int .i64 (k:Int))) none none).run prog W=.ok (.slice (some ⟨b,tlO o k cap,none⟩) (len-k) (cap-k)) W:=by
 have h:=run_slice_l (P:=prog) (w:=W) 53 (some ⟨b,o,none⟩) len cap underlying53 .i64 (k:Int) Y Y;have hs:(sizeOf (prog.elem 53)).run prog W=.ok 1 W:=zv;rw[h,hs];show Result.ok (sliced (some ⟨b,o,none⟩) (Int.toNat (k:Int)) len cap 1) W=_
 rw[Int.toNat_natCast];unfold sliced tlO
 congr 2
 by_cases hc:cap=k
 . rw[if_pos hc,if_pos hc]
 . rw[if_neg hc,if_neg hc,Option.map_some,Addr.add_lit,Nat.mul_one]
def BytesAt.tl {o cap:Nat} (h:BytesAt w b o l) (k:Nat) (hcap:l.length<=cap):BytesAt w b (tlO o k cap) (l.drop k):=by
 unfold tlO;split
 . next e=>subst e;rw[List.drop_of_length_le hcap];intro j u hj;simp at hj
 . exact h.drop k
def itInfo:(prog.info? 154).map (fun i=>(i.zero,i.size,i.bytes))=some (some (.agg #[.string ⟨#[]⟩,.int .i64 0,.int .i64 0,.string ⟨#[]⟩,.int .i64 0]),5,56):=by kernel_rfl
def qct:∀ (l:List It) (x:It),qaE (l++[x])=qaE l++itL x
 | [],x=>by simp[qaE]
 | y::l,x=>by simp[qaE,qct l x]
def qeM:∀ (l:List It) (j:Nat) (x:It),l[j]?=some x->(qaE l)[j*5+0]?=some (.string x.k)/\(qaE l)[j*5+1]?=some (.int .i64 x.vk)/\(qaE l)[j*5+2]?=some (.int .i64 x.vi)/\(qaE l)[j*5+3]?=some (.string x.vs)/\(qaE l)[j*5+4]?=some (.int .i64 x.ver)
 | [],j,x,h=>by simp at h
 | y::l,0,x,h=>by
  simp at h;subst h
  exact⟨rfl,rfl,rfl,rfl,rfl⟩
 | y::l,j+1,x,h=>by
  have:=qeM l j x jx
  have e:∀ r,(qaE (y::l))[(j+1)*5+r]?=(qaE l)[j*5+r]?:=by
   intro r;have h1:qaE (y::l)=itL y++qaE l:=rfl;rw[h1,List.getElem?_append_right (by simp[itL];omega)]
   congr 1
   simp[itL];omega
  simp only[e];exact this
def news_it {xs:List Value} {t:TypeId} (hN:N=w.heap.size):∀ j u,xs[j]?=some u->(w.alloc (.cells xs.toArray t)).cell? ((⟨N,0,none⟩:Addr).add j)=some u:=by
 intro j u hu;subst hN;rw[Addr.add_lit,Nat.zero_add];simp only[World.cell?,heap_alloc_new]
 simpa using hu
def trC (v:Nat->Value) (V:Nat->Int):Array Value:=#[v 0,v 1,v 2,v 3,v 4,v 5,v 6,v 7,v 8,v 9,v 10,v 11,v 12,v 13,v 14,v 15,.int .i64 (V 0),.int .i64 (V 1),.int .i64 (V 2),.int .i64 (V 3),.int .i64 (V 4),.int .i64 (V 5),.int .i64 (V 6),.int .i64 (V 7),.int .i64 (V 8),.int .i64 (V 9),.int .i64 (V 10),.int .i64 (V 11),.int .i64 (V 12),.int .i64 (V 13),.int .i64 (V 14),.int .i64 (V 15)]
def trC_leaf (v:Nat->Value) (V:Nat->Int) (k:Nat) (hk:k<16):(trC v V)[k]?=some (v k):=by
 match k,hk with
 | 0,_=>rfl
 | 1,_=>rfl
 | 2,_=>rfl
 | 3,_=>rfl
 | 4,_=>rfl
 | 5,_=>rfl
 | 6,_=>rfl
 | 7,_=>rfl
 | 8,_=>rfl
 | 9,_=>rfl
 | 10,_=>rfl
 | 11,_=>rfl
 | 12,_=>rfl
 | 13,_=>rfl
 | 14,_=>rfl
 | 15,_=>rfl
 | k+16,h=>exact absurd h Y
def TrBlk (w:World) (N:Nat) (v:Nat->Value) (V:Nat->Int):Prop:=w.heap[N]?=some (.cells (trC v V) 63 (0,0))
def TrBlk.ext {v:Nat->Value} {V:Nat->Int} (h:TrBlk w N v V) (hx:Ext w w'):TrBlk w' N v V:=by
 unfold TrBlk at h ⊢;rw[hx.below.block N (qbc h)];exact h
def TrBlk.leaf {v:Nat->Value} {V:Nat->Int} (h:TrBlk w N v V) (k:Nat) (hk:k<16):w.cell? ⟨N,k,none⟩=some (v k):=by
 unfold TrBlk at h;simp only[World.cell?,h];exact trC_leaf v V k hk
def LvsAt (w:World) (bs:Nat->Nat) (v:Nat->Value) (T:Nat->List It):Prop:=∀ k,k<16->LfAt w (bs k) (v k) (T k)
def qaf {a:Addr} (h:w.cell? a=some v) (hx:Ext w w'):w'.cell? a=some v:=(World.cell?_of_block (hx.below.block a.block (World.block_lt_of_cell? _ _ h))).trans h
def RowIn {α:Type} (w:World) (enc:α->List Value) (n:Nat) (v:Value) (l:List α):Prop :=
 ∃ p cap,v=.slice p l.length cap/\l.length<=cap/\cap<=maxLen/\∀ (j:Nat) x,l[j]?=some x->∃ b off,p=some ⟨b,off,none⟩/\∀ (i:Nat) u,(enc x)[i]?=some u->w.cell? ⟨b,off+j*n+i,none⟩=some u
def RowIn.ext {α:Type} {enc:α->List Value} {l:List α} (h:RowIn w enc n v l) (hx:Ext w w'):RowIn w' enc n v l:=by
 obtain⟨p,cap,h2,h3,h4,h5⟩:=h;refine ⟨p,cap,h2,h3,h4,fun j x hj=>?_⟩;obtain⟨b,off,e,hc⟩:=h5 j x hj;exact⟨b,off,e,fun i u hi=>qaf (hc i u hi) hx⟩
def flat_at {α:Type} {enc:α->List Value} (hn:∀ a,(enc a).length=n):∀ (l:List α) (j i:Nat) (x:α) (u:Value),l[j]?=some x->(enc x)[i]?=some u->(l.flatMap enc)[j*n+i]?=some u
 | [],_,_,_,_,h,_=>by simp at h
 | y::l,0,i,x,u,h,hi=>by
  simp at h;subst h
  rw[List.flatMap_cons,Nat.zero_mul,Nat.zero_add,List.getElem?_append_left (List.getElem?_eq_some_iff.1 hi).1];exact hi
 | y::l,j+1,i,x,u,h,hi=>by
  rw[List.flatMap_cons,List.getElem?_append_right (by rw[hn,Nat.add_mul];omega),hn];have:=flat_at hn l j i x u jx hi;rw[show(j+1)*n+i-n=j*n+i from by rw[Nat.add_mul];omega];exact this
def flat_inv {α:Type} {enc:α->List Value} (hn:∀ a,(enc a).length=n):∀ (l:List α) (q:Nat) (u:Value),(l.flatMap enc)[q]?=some u->∃ j i x,q=j*n+i/\i<n/\l[j]?=some x/\(enc x)[i]?=some u
 | [],_,_,h=>by simp at h
 | y::l,q,u,h=>by
  rw[List.flatMap_cons] at h;by_cases hq:q<n
  . rw[List.getElem?_append_left (by rw[hn];exact hq)] at h;exact⟨0,q,y,zy,hq,rfl,h⟩
  . rw[List.getElem?_append_right (by rw[hn];omega),hn] at h;obtain⟨j,i,x,h1,h2,h3,h4⟩:=flat_inv hn l (q-n) u h;exact⟨j+1,i,x,by rw[Nat.add_mul];omega,h2,by simpa using h3,h4⟩
def qgV {α:Type} {enc:α->List Value} (hn:∀ a,(enc a).length=n):∀ l:List α,(l.flatMap enc).length=l.length*n
 | []=>by simp
 | y::l=>by rw[List.flatMap_cons,List.length_append,hn,qgV hn l,List.length_cons,Nat.add_mul];omega
def RowIn.own {α:Type} {B:Nat} {T:TypeId} {enc:α->List Value} (hn:∀ a,(enc a).length=n) {v:Value} {l:List α} (h:w.ownsRow B T n v l.length (l.flatMap enc)):RowIn w enc n v l:=by
 rcases h.2 with ⟨rfl,h0⟩ | ⟨g,cap,cur,rfl,hb,hg,h1,h2,h3,h4⟩
 . refine ⟨none,0,by rw[h0],Y,zw,fun j x hj=>?_⟩;have:=(List.getElem?_eq_some_iff.1 hj).1;omega
 . refine ⟨some ⟨g,0,none⟩,cap,rfl,h1,h2,fun j x hj=>⟨g,0,rfl,fun i u hi=>?_⟩⟩;have hf:=flat_at hn l j i x u hj hi;rw[Nat.zero_add];rw[<-h4,List.getElem?_take] at hf
   split at hf
   . simpa [World.cell?,hg] using hf
   . cases hf
structure La where
 c:Int
 t:Int
 code:Int
 vk:Int
 vi:Int
 vs:ByteArray
 ver:Int
def laL (x:La):List Value:=[.int .i64 x.c,.int .i64 x.t,.int .i64 x.code,.int .i64 x.vk,.int .i64 x.vi,.string x.vs,.int .i64 x.ver]
def resB (code vk vi:Int) (vs:ByteArray) (ver:Int):Bool:=decide (0<=code)&&decide (code<=23)&&mayBY vk vi vs&&decide (0<=ver)&&decide (ver<=2147483647)
def qdG (c t:Int):Bool:=decide (0<=c)&&decide (c<=255)&&decide (1<=t)&&decide (t<=2147483647)
def laB (x:La):Bool:=qdG x.c x.t&&resB x.code x.vk x.vi x.vs x.ver
def chkL:Option La->Nat->List La->Int × Int
 | _,_,[]=>(0,0)
 | none,i,x::l=>if laB x=false then(1,(i:Int)) else chkL (some x) (i+1) l
 | some y,i,x::l=>if laB x=false then(1,(i:Int)) else if x.c<=y.c then(3,(i:Int)) else chkL (some x) (i+1) l
def isL (l:List La):Bool:=(chkL none 0 l).1==0
def timeL (l:List La) (c:Int):Option Int:=(l.find? (fun x=>x.c==c)).map (·.t)
def askE (l:List La) (c t:Int):Int :=
 if isL l=false\/qdG c t=false then 1 else match timeL l c with
 | none=>6
 | some u=>if u<t then 6 else if t<u then 18 else 0
def qgT:∀ (l:List La) (p:Option La) (i:Nat),(chkL p i l).1=0↔((∀ x∈l,laB x=true)/\(∀ y,p=some y->∀ x∈l,y.c<x.c)/\l.Pairwise (fun a b=>a.c<b.c))
 | [],p,i=>by simp[chkL]
 | x::l,none,i=>by
  unfold chkL;cases h:laB x
  . simp[h]
  . rw[if_neg zy,qgT l (some x) (i+1)]
    simp[h]
 | x::l,some y,i=>by
  unfold chkL;cases h:laB x
  . simp[h]
  . rw[if_neg zy];by_cases hc:x.c<=y.c
    . rw[if_pos hc];refine ⟨fun e=>absurd (show(3:Int)=0 from e) zw,fun ⟨_,h2,_⟩=>?_⟩;have:=h2 y rfl x List.mem_cons_self;omega
    . rw[if_neg hc,qgT l (some x) (i+1)];simp only[List.mem_cons,forall_eq_or_imp,Option.some.injEq,forall_eq',List.pairwise_cons,h,true_and]
      constructor
      . rintro ⟨a,b,c⟩;exact⟨a,⟨Y,fun z hz=>by have:=b z hz;omega⟩,b,c⟩
      . rintro ⟨a,⟨b,c⟩,d,e⟩;exact⟨a,d,e⟩
def isL_iff (l:List La):isL l=true↔(∀ x∈l,laB x=true)/\l.Pairwise (fun a b=>a.c<b.c):=by
 unfold isL;rw[beq_iff_eq,qgT];simp
end Go.Proofs.YtpnabjopfpdkhaaGreatDoor
