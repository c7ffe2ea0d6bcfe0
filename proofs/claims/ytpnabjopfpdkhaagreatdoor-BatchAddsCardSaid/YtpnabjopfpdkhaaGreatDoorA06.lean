/- Lemmas. -/
import Derived.Test.YtpnabjopfpdkhaaGreatDoorA03
set_option linter.unusedSimpArgs false
set_option linter.unusedVariables false
set_option maxHeartbeats 8000000
set_option maxRecDepth 20000
namespace Go.Proofs.YtpnabjopfpdkhaaGreatDoor
open Go.RowKit
variable {B N b:Nat} {w:World}
def textG:List UInt8→List UInt8→Tok × Nat × Int
 | [],_=>(tok0,0,2)
 | c::l,acc =>
  if c.toNat=34 then(if 64<acc.length then(tok0,0,5) else(⟨3,⟨acc.toArray⟩,0⟩,1,0))
  else if c.toNat<32∨126<c.toNat then(tok0,0,3)
  else if c.toNat≠92 then(let r:=textG l (acc++[c]);(r.1,r.2.1+1,r.2.2))
  else match l with
   | []=>(tok0,0,2)
   | d::l'=>if escZ (d.toNat:Int)=0 then(tok0,0,3) else(let r:=textG l' (acc++[UInt8.ofNat (escZ (d.toNat:Int)).toNat]);(r.1,r.2.1+2,r.2.2))
def TextPost (b k n:Nat) (r:Tok) (e:Int) (w:World) (e':Ending) (w':World):Prop :=
 e'=.returned (.tuple #[.agg #[.int .i64 r.k,.int .i64 0,.string r.s,.int .i64 r.i],.int .i64 e])∧∃ k':Nat,(e=0→k'=k+1+n)∧Ext (w.setCell ⟨b,1,none⟩ (.int .i64 (k':Int))) w'
theorem escZ_range (c:Int) (h0:0≤c) (h1:c<256):0≤escZ c∧escZ c<256:=by unfold escZ;(repeat' split)<;>omega
theorem qeW {acc:List UInt8} {c:Int} {u:UInt8} (h:Bld B b (qag acc++[.int .u8 c]) w) (hu:(u.toNat:Int)=c):Bld B b (qag (acc++[u])) w:=by
 rw[qbS]
 have e:qag [u]=[.int .u8 c]:=by rw[←hu];rfl
 rw[e];exact h
theorem grown_new {w0:World} {row:Option Nat} (h:w0.grownBy w row) {p:Addr} (hp:w0.heap.size≤p.block) (v:Value):w0.grownBy (w.setCell p v) row:=by
 obtain⟨h1,h2,h3,h4,h5⟩:=h
 refine ⟨h1,h2,h3,by simpa [World.setCell] using h4,fun k hk hne=>?_⟩;rw[←h5 k hk hne];exact Below.heap_setCell _ _ _ _ (fun e=>by omega)
theorem setCell_same {i:Nat} {v:Value} (h:w.cell? ⟨b,i,none⟩=some v):w.setCell ⟨b,i,none⟩ v=w:=by
 have e:(w.setCell ⟨b,i,none⟩ v).heap=w.heap:=by
  apply Array.ext_getElem?
  intro j
  by_cases hj:b=j
  · subst hj
    unfold World.cell? at h;unfold World.setCell;simp only[Array.getElem?_modify,if_true]
    cases hb:w.heap[b]? with
    | none=>rfl
    | some o =>
     rw[hb] at h
     cases o with
     | cells c t fr =>
      have hi:c[i]?=some v:=by simpa using h
      obtain⟨hlt,hv⟩:=Array.getElem?_eq_some_iff.1 hi
      have hs:c.setIfInBounds i v=c:=by
       apply Array.ext_getElem?
       intro q;rw[Array.getElem?_setIfInBounds]
       by_cases h3:i=q
       · subst h3;rw[if_pos rfl,if_pos hlt,hi]
       · rw[if_neg h3]
      simp[hs]
     | _=>first | (simp at h;done) | cases h
  · exact Below.heap_setCell _ _ _ _ (fun e=>hj e.symm)
 unfold World.setCell at e ⊢;simp only at e;rw[e]
attribute [go_sem] setCell_same
def TokBlk (N:Nat) (w:World):Prop:=w.heap[N]?=some (.cells #[.int .i64 0,.int .i64 0,.string ⟨#[]⟩,.int .i64 0] 186 (0,0))
theorem TokBlk.cells (h:TokBlk N w):w.cell? ⟨N,0,none⟩=some (.int .i64 0)∧w.cell? ⟨N,1,none⟩=some (.int .i64 0)∧w.cell? ⟨N,2,none⟩=some (.string ⟨#[]⟩)∧w.cell? ⟨N,3,none⟩=some (.int .i64 0)∧(∀ o,w.frozen? ⟨N,o,none⟩=false)∧N<w.heap.size:=by
 unfold TokBlk at h;refine ⟨by simp[World.cell?,h],by simp[World.cell?,h],by simp[World.cell?,h],by simp[World.cell?,h],fun o=>by simp[World.frozen?,h],?_⟩
 exact(Array.getElem?_eq_some_iff.1 h).1
theorem TokBlk.start (h:w.heap.size=N) (o:Obj):TokBlk N ((w.alloc (.cells #[.int .i64 0,.int .i64 0,.string ⟨#[]⟩,.int .i64 0] 186)).alloc o):=by
 subst h;unfold TokBlk;rw[Lib.alloc_old _ o _ zaj];exact heap_alloc_new _ _
theorem TokBlk.below {w':World} (h:TokBlk N w) (hb:Below B w w') (hN:N<B):TokBlk N w':=by
 unfold TokBlk;rw[hb.block N hN];exact h
theorem TokBlk.set (h:TokBlk N w) {p:Addr} (hp:p.block≠N) (v:Value):TokBlk N (w.setCell p v):=by
 unfold TokBlk;rw[Below.heap_setCell _ _ _ _ (fun e=>hp e.symm)];exact h
theorem TokBlk.more (h:TokBlk N w) (d:Nat) (os:Array Obj):TokBlk N (more w d os):=by
 unfold TokBlk;rw[more_heap _ _ _ _ h.cells.2.2.2.2.2];exact h
theorem bld_set {b0 i:Nat} {bs:List Value} (h:Bld B b bs w) (hb:b0<B) (v:Value):Bld B b bs (w.setCell ⟨b0,i,none⟩ v):=bld_kept h (qbB (grown_refl w _) i v) hb
theorem bld_more {bs:List Value} (h:Bld B b bs w) (d:Nat) (os:Array Obj):Bld B b bs (more w d os):=bld_ext h (Ext.more (Ext.refl _) _ _)
theorem text_cases {s:ByteArray} {m:Nat} (hlt:m<s.size) {acc:List UInt8} {r:Tok} {n:Nat} {e:Int} (hx:textG (s.data.toList.drop m) acc=(r,n,e)):∃ c:Nat,(s[m]'hlt).toNat=c∧c<256 ∧
  ((c=34∧64<acc.length∧r=tok0∧e=5)∨(c=34∧acc.length≤64∧r=⟨3,⟨acc.toArray⟩,0⟩∧n=1∧e=0)∨(c≠34∧(c<32∨126<c)∧r=tok0∧e=3) ∨
   (c≠34∧¬(c<32∨126<c)∧c≠92∧∃ n1,n=n1+1∧Hid (textG (s.data.toList.drop (m+1)) (acc++[s[m]'hlt])=(r,n1,e))) ∨
   (c=92∧m+1=s.size∧r=tok0∧e=2) ∨
   (c=92∧∃ (h2:m+1<s.size) (z:Int),escZ ((s[m+1]'h2).toNat:Int)=z∧(z=0∧r=tok0∧e=3∨z≠0∧∃ n1,n=n1+2∧Hid (textG (s.data.toList.drop (m+1+1)) (acc++[UInt8.ofNat z.toNat])=(r,n1,e))))):=by
 refine ⟨_,rfl,(s[m]'hlt).toNat_lt,?_⟩;rw[List.drop_eq_getElem_cons (by simpa using hlt)] at hx;rw[show s.data.toList[m]'(by simpa using hlt)=s[m]'hlt from rfl] at hx;unfold textG at hx;generalize s[m]'hlt=u at *
 by_cases q1:u.toNat=34
 · rw[if_pos q1] at hx
   split at hx<;>cases hx
   · exact Or.inl ⟨q1,by assumption,rfl,rfl⟩
   · exact Or.inr (Or.inl ⟨q1,by omega,rfl,rfl,rfl⟩)
 rw[if_neg q1] at hx
 by_cases q2:u.toNat<32∨126<u.toNat
 · rw[if_pos q2] at hx
   cases hx
   exact Or.inr (Or.inr (Or.inl ⟨q1,q2,rfl,rfl⟩))
 rw[if_neg q2] at hx
 by_cases q5:u.toNat≠92
 · rw[if_pos q5] at hx
   cases hx
   exact Or.inr (Or.inr (Or.inr (Or.inl ⟨q1,q2,q5,_,rfl,Lib.hid rfl⟩)))
 rw[if_neg q5] at hx
 by_cases h2:m+1<s.size
 · rw[List.drop_eq_getElem_cons (by simpa using h2)] at hx
   rw[show s.data.toList[m+1]'(by simpa using h2)=s[m+1]'h2 from rfl] at hx;dsimp only at hx;refine Or.inr (Or.inr (Or.inr (Or.inr (Or.inr ⟨by omega,h2,_,rfl,?_⟩))))
   split at hx<;>cases hx
   · exact Or.inl ⟨by assumption,rfl,rfl⟩
   · exact Or.inr ⟨by assumption,_,rfl,Lib.hid rfl⟩
 · rw[List.drop_eq_nil_of_le zam] at hx
   cases hx
   exact Or.inr (Or.inr (Or.inr (Or.inr (Or.inl ⟨by omega,by omega,rfl,rfl⟩))))
theorem text_any (b:Nat) (s:ByteArray) (k n:Nat) (lv:Value) (hk:k<s.size) (hs:s.size≤140737488351232) (r:Tok) (e:Int) (hr:textG (s.data.toList.drop (k+1)) []=(r,n,e)) (w:World) (h:LexAt b s k lv w) :
  Calls Tryz.prog 129 #[.pointer (some ⟨b,0,none⟩)] w (TextPost b k n r e w):=by
 have HL:=Lib.hid h;have HR:=Lib.hid hr;have hbw:=h.lt
 obtain⟨c0,c1,c2,f1,f2⟩:=h.cells
 have HSZ:=Lib.hid hs
 have hs3:s.size≤maxLen:=by unfold maxLen;omega
 unfold maxLen at hs3;clear h hr hs;go_enter Tryz.func129,Tryz.ntmps129;go_wp2_with fail;clear c0 c1 c2 f1 f2
 go_loopg [] (s.size-(k+1)) (fun g wr=>∃ (m:Nat) (acc:List UInt8) (n':Nat),k<m∧m≤s.size∧acc.length≤m∧g=s.size-m∧textG (s.data.toList.drop m) acc=(r,n',e)∧(e=0→m+n'=k+1+n)∧LexAt b s m lv wr∧TokBlk w.heap.size wr∧Bld (w.heap.size+1) (w.heap.size+1) (qag acc) wr∧w.grownBy wr (some b))
 case atStart =>
  have hsz:(w.setCell ⟨b,1,none⟩ (.int .i64 ((k:Int)+1))).heap.size=w.heap.size:=by simp[World.setCell]
  refine ⟨k+1,[],n,by omega,by omega,by simp,rfl,HR.out,fun _=>by omega,((HL.out.set (k+1) _ zac).alloc _).alloc _,?_,?_,?_⟩
  · exact TokBlk.start hsz _
  · have h:=Lib.fresh_isBuilder 236 5 ((w.setCell ⟨b,1,none⟩ (.int .i64 ((k:Int)+1))).alloc (.cells #[.int .i64 0,.int .i64 0,.string ⟨#[]⟩,.int .i64 0] 186))
    have e2:((w.setCell ⟨b,1,none⟩ (.int .i64 ((k:Int)+1))).alloc (.cells #[.int .i64 0,.int .i64 0,.string ⟨#[]⟩,.int .i64 0] 186)).heap.size=w.heap.size+1:=by simp[World.setCell]
    rw[e2] at h;exact h
  · exact qax (qbB (grown_refl _ _) _ _) (((Ext.refl _).alloc _).alloc _)
 case round =>
  obtain⟨m,acc,n',hkm,hms,hal,hgk,hx,hsn,hL,hT,hB,hg⟩:=hrel
  have HLL:=Lib.hid hL;have HT:=Lib.hid hT;have HB:=Lib.hid hB;have HG:=Lib.hid hg;have HGK:=Lib.hid hgk;have HS:=Lib.hid hsn
  obtain⟨c0,c1,c2,f1,f2⟩:=hL.cells
  have hb:=hL.lt
  obtain⟨t0,t1,t2,t3,tf,ht⟩:=hT.cells
  have hne:(w.heap.size=b)=False:=by simp;omega
  have hne2:(b=w.heap.size)=False:=by simp;omega
  clear hL hT hB hg hgk hsn HR
  by_cases hlt:m<s.size
  rotate_left
  · rw[List.drop_eq_nil_of_le zam] at hx
    obtain⟨rfl,rfl,he⟩:tok0=r∧0=n'∧2=e:=by simpa [textG] using hx
    unfold tok0
    have hlt':((m:Int)<s.size)=False:=by simp;omega
    have HE:=Lib.hid he;clear hx he;go_wp2_with fail;refine qaa 9 100 (List.replicate 9 false) zaf zaf rfl ?_;refine yas ?_
    repeat(refine Lex.step rfl ?_;intro K hK;unfold StepG;go_simp;refine hK _ ?_;clear hK K)
    refine yaa ?_;intro dd oo;go_wp2_with fail;rw[ends_normal];go_wp2_with fail;have he:=HE.out.symm;refine yak ⟨?_⟩
    exact⟨rfl,m,fun h=>absurd h zac,lex_form HL.out (k':=m) zag zah⟩
  obtain⟨c,hc,hc2,K⟩:=text_cases hlt hx
  have KK:=Lib.hid K;have HC:=Lib.hid hc;clear hx K hc;go_wp2_with fail;refine qaa 9 100 (List.replicate 9 false) zaf zaf rfl ?_;refine yas ?_
  repeat(refine Lex.step rfl ?_;intro K hK;unfold StepG;go_simp;refine hK _ ?_;clear hK K)
  refine yaa ?_;intro dd oo;go_wp2_with fail;rw[ends_normal];go_wp2_with fail;refine qaa 8 100 (List.replicate 8 false) zaf zaf rfl ?_;refine yas ?_
  repeat(refine Lex.step rfl ?_;intro K hK;unfold StepG;go_simp;refine hK _ ?_;clear hK K)
  refine yaa ?_;intro dd oo;go_wp2_with fail;rw[ends_normal];rw[HC.out]
  rcases KK.out with ⟨rfl,h1,rfl,he⟩ | ⟨rfl,h1,rfl,rfl,rfl⟩ | ⟨q1,h1,rfl,he⟩ | ⟨q1,q2,q3,n1,rfl,HX⟩ | ⟨rfl,h1,rfl,he⟩ | ⟨rfl,h2,z,hz,K2⟩
  all_goals clear KK
  · unfold tok0
    have HE:=Lib.hid he;clear he
    go_wp2_with (go_at_call 157;refine (Tryz.Builder_Len (w.heap.size+1) (w.heap.size+1) (qag acc) _ zan).mono ?_;rw[cellsB_length];rintro e' _ ⟨rfl,rfl⟩)
    have he:=HE.out;refine yak ⟨?_⟩
    exact⟨rfl,m+1,fun h=>absurd h zac,lex_form HL.out (k':=m+1) zag zah⟩
  · have h64':((acc.length:Int)≤64):=by omega
    go_wp2_with (go_at_call 157;refine (Tryz.Builder_Len (w.heap.size+1) (w.heap.size+1) (qag acc) _ zan).mono ?_;rw[cellsB_length];rintro e' _ ⟨rfl,rfl⟩)
    refine (Tryz.Builder_String_any (w.heap.size+1) (w.heap.size+1) acc _ (show Bld (w.heap.size+1) (w.heap.size+1) (qag acc) _ from zan) (by simp only[more_size,World.setCell,Array.size_modify];omega)).mono ?_;rintro e' w2 ⟨rfl,hbl⟩;have hL:=LexAt.below (k:=m+1) zag hbl zac;have hT:=TokBlk.below (N:=w.heap.size) zas hbl zac;have hG:=qcO (w:=w) (row:=some b) zah (hbl.mono zac);clear HLL HT HG;have HLL:=Lib.hid hL;have HT:=Lib.hid hT;have HG:=Lib.hid hG;clear c0 c1 c2 f1 f2 t0 t1 t2 t3 tf ht hb hbl
    obtain⟨c0,c1,c2,f1,f2⟩:=hL.cells
    have hb:=hL.lt
    obtain⟨t0,t1,t2,t3,tf,ht⟩:=hT.cells
    clear hL hT hG;go_wp2_with fail;refine bodyPost_ret (v:=.tuple #[.agg #[.int .i64 3,.int .i64 0,.string ⟨acc.toArray⟩,.int .i64 0],.int .i64 0]) (by simp[results,Tryz.results129,t0,t1,t2,t3,tf,hne,hne2,ht,hb,go_sem]) rfl ?_
    exact⟨rfl,m+1,fun _=>by have:=HS.out (by trivial);omega,lex_form HL.out (k':=m+1) zag zah⟩
  · have p1:((c:Int)==34)=false:=by simp;omega
    unfold tok0;have HE:=Lib.hid he;clear he;rcases h1 with h1 | h1
    · have p2:((c:Int)<32)=True:=by simp;omega
      go_wp2_with fail;have he:=HE.out;refine yak ⟨?_⟩
      exact⟨rfl,m,fun h=>absurd h zac,lex_form HL.out (k':=m) zag zah⟩
    · have p2:((c:Int)<32)=False:=by simp;omega
      have p3:(126<(c:Int))=True:=by simp;omega
      go_wp2_with fail;have he:=HE.out;refine yak ⟨?_⟩
      exact⟨rfl,m,fun h=>absurd h zac,lex_form HL.out (k':=m) zag zah⟩
  · have p1:((c:Int)==34)=false:=by simp;omega
    have p2:((c:Int)<32)=False:=by simp;omega
    have p3:(126<(c:Int))=False:=by simp;omega
    have p4:((c:Int)==92)=false:=by simp;omega
    have p5:((c:Int) !=92)=true:=by simp;omega
    go_wp2_with fail;have hc:=HC.out;refine (qat (w.heap.size+1) (w.heap.size+1) (qag acc) (c:Int) _ zan (by rw[cellsB_length];have:=HSZ.out;omega) (by simp only[more_size,World.setCell,Array.size_modify];omega)).mono ?_;rintro e' w2 ⟨rfl,hB1,hbl⟩;have hL:=LexAt.below (k:=m) zag hbl zac;have hT:=TokBlk.below (N:=w.heap.size) zas hbl zac;have hG:=qcO (w:=w) (row:=some b) zah (hbl.mono zac);clear HLL HT HG;have HLL:=Lib.hid hL;have HT:=Lib.hid hT;have HG:=Lib.hid hG;clear c0 c1 c2 f1 f2 t0 t1 t2 t3 tf ht hb hbl
    obtain⟨c0,c1,c2,f1,f2⟩:=hL.cells
    have hb:=hL.lt
    obtain⟨t0,t1,t2,t3,tf,ht⟩:=hT.cells
    clear hL hT hG;clear HB;have HB:=Lib.hid hB1;clear hB1;go_wp2_with fail
    go_roundg (s.size-(m+1))
    case measure=>have:=HGK.out;omega
    case rel=>exact⟨m+1,acc++[s[m]'hlt],n1,by omega,by omega,by simp;omega,rfl,HX.out,fun h=>by have:=HS.out h;omega,zag,zas,qeW zan (by first | omega | (simp;omega)),zah⟩
  · unfold tok0
    have hle:(((m:Int)+1)==(s.size:Int))=true:=by simp;omega
    have HE:=Lib.hid he;clear he;go_wp2_with fail;refine qaa 9 100 (List.replicate 9 false) zaf zaf rfl ?_;refine yas ?_
    repeat(refine Lex.step rfl ?_;intro K hK;unfold StepG;go_simp;refine hK _ ?_;clear hK K)
    refine yaa ?_;intro dd oo;go_wp2_with fail;rw[ends_normal];go_wp2_with fail;have he:=HE.out;refine yak ⟨?_⟩
    exact⟨rfl,m+1,fun h=>absurd h zac,lex_form HL.out (k':=m+1) zag zah⟩
  · have hle:(((m:Int)+1)==(s.size:Int))=false:=by simp;omega
    have h256b:=(s[m+1]'h2).toNat_lt;have es:=esc_any ((s[m+1]'h2).toNat:Int) zac zac;have er:=escZ_range ((s[m+1]'h2).toNat:Int) zac zac;rw[hz] at es er;have ES:=Lib.hid es;have HK2:=Lib.hid K2;clear es hz h256b K2;go_wp2_with fail;refine qaa 9 100 (List.replicate 9 false) zaf zaf rfl ?_;refine yas ?_
    repeat(refine Lex.step rfl ?_;intro K hK;unfold StepG;go_simp;refine hK _ ?_;clear hK K)
    refine yaa ?_;intro dd oo;go_wp2_with fail;rw[ends_normal];go_wp2_with fail;refine qaa 8 100 (List.replicate 8 false) zaf zaf rfl ?_;refine yas ?_
    repeat(refine Lex.step rfl ?_;intro K hK;unfold StepG;go_simp;refine hK _ ?_;clear hK K)
    refine yaa ?_;intro dd oo
    go_wp2_with (go_at_call 160;refine (ES.out _).mono ?_;rintro e' _ ⟨rfl,rfl⟩)
    rw[ends_normal]
    rcases HK2.out with ⟨rfl,rfl,he⟩ | ⟨z0,n1,rfl,HX⟩
    · unfold tok0
      have HE:=Lib.hid he;clear he HK2;go_wp2_with fail;have he:=HE.out;refine yak ⟨?_⟩
      exact⟨rfl,m+1,fun h=>absurd h zac,lex_form HL.out (k':=m+1) zag zah⟩
    · have z1:(z==0)=false:=by simpa using z0
      clear HK2;go_wp2_with fail;refine (qat (w.heap.size+1) (w.heap.size+1) (qag acc) z _ zan (by rw[cellsB_length];have:=HSZ.out;omega) (by simp only[more_size,World.setCell,Array.size_modify];omega)).mono ?_;rintro e' w2 ⟨rfl,hB1,hbl⟩;have hL:=LexAt.below (k:=(m+1)) zag hbl zac;have hT:=TokBlk.below (N:=w.heap.size) zas hbl zac;have hG:=qcO (w:=w) (row:=some b) zah (hbl.mono zac);clear HLL HT HG;have HLL:=Lib.hid hL;have HT:=Lib.hid hT;have HG:=Lib.hid hG;clear c0 c1 c2 f1 f2 t0 t1 t2 t3 tf ht hb hbl
      obtain⟨c0,c1,c2,f1,f2⟩:=hL.cells
      have hb:=hL.lt
      obtain⟨t0,t1,t2,t3,tf,ht⟩:=hT.cells
      clear hL hT hG;clear HB;have HB:=Lib.hid hB1;clear hB1;go_wp2_with fail
      go_roundg (s.size-((m+1)+1))
      case measure=>have:=HGK.out;omega
      case rel=>exact⟨(m+1)+1,acc++[UInt8.ofNat z.toNat],n1,by omega,by omega,by simp;omega,rfl,HX.out,fun h=>by have:=HS.out h;omega,zag,zas,qeW zan (by first | omega | (simp;omega)),zah⟩
end Go.Proofs.YtpnabjopfpdkhaaGreatDoor
