/- Lemmas. -/
import Derived.Test.YtpnabjopfpdkhaaGreatDoorA03
import Derived.Outline
import Derived.Deep.OwnRows
import Derived.Lib.SmallJoins
set_option linter.unusedSimpArgs false
set_option linter.unusedVariables false
set_option maxHeartbeats 4000000
set_option maxRecDepth 20000
namespace Go.Proofs.YtpnabjopfpdkhaaGreatDoor
open Go.RowKit
structure Nd where
 k:Int
 a:Int
 b:Int
 c:Int
 x:Int
 i:Int
 s:ByteArray
 t:ByteArray
def nd (k:Int):Nd:=⟨k,-1,-1,-1,-1,0,⟨#[]⟩,⟨#[]⟩⟩
def ndL (z:Nd):List Value:=[.int .i64 z.k,.int .i64 z.a,.int .i64 z.b,.int .i64 z.c,.int .i64 z.x,.int .i64 z.i,.string z.s,.string z.t]
def qac (l:List Nd):List Value:=l.flatMap ndL
theorem qcG (l m:List Nd):qac (l++m)=qac l++qac m:=by simp[qac]
theorem ndCells_one (l:List Nd):∀ u∈qac l,u.oneCell'=true:=by
 intro u hu;simp only[qac,List.mem_flatMap] at hu
 obtain⟨t,_,h⟩:=hu
 simp[ndL] at h
 rcases h with rfl | rfl | rfl | rfl | rfl | rfl | rfl | rfl<;>rfl
abbrev Toks:=List (Tok × Int)
def tkL (t:Tok × Int):List Value:=[.int .i64 t.1.k,.int .i64 t.2,.string t.1.s,.int .i64 t.1.i]
def qbr (l:Toks):List Value:=l.flatMap tkL
def tk (L:Toks) (m:Nat):Tok × Int:=L.getD m (tok0,0)
theorem qef:∀ (l:Toks) (j:Nat),j<l.length →
  (qbr l)[j*4]?=some (.int .i64 (tk l j).1.k)∧(qbr l)[j*4+1]?=some (.int .i64 (tk l j).2)∧(qbr l)[j*4+2]?=some (.string (tk l j).1.s)∧(qbr l)[j*4+3]?=some (.int .i64 (tk l j).1.i)
 | [],j,h=>by simp at h
 | t::l,0,_=>⟨rfl,rfl,rfl,rfl⟩
 | t::l,j+1,h=>by
  have:=qef l j zbn
  have e:∀ r,(qbr (t::l))[(j+1)*4+r]?=(qbr l)[j*4+r]?:=by
   intro r
   have h1:qbr (t::l)=tkL t++qbr l:=rfl
   rw[h1,List.getElem?_append_right (by simp[tkL];omega)]
   congr 1
   simp[tkL];omega
  have e2:tk (t::l) (j+1)=tk l j:=rfl
  rw[e2,e 1,e 2,e 3,←Nat.add_zero ((j+1)*4),e 0]
  simpa using this
abbrev PR (α:Type):=Except (Int × Int) (α × Nat × List Nd)
abbrev PM (α:Type):=Nat→Nat→PR α
def prep {α:Type} (ns:List Nd):PR α→PR α
 | .error e=>.error e
 | .ok (v,m,ns')=>.ok (v,m,ns++ns')
def pok {α:Type} (v:α):PM α:=fun m _=>.ok (v,m,[])
def pbind {α β:Type} (p:PM α) (f:α→PM β):PM β:=fun m n=>match p m n with
 | .error e=>.error e
 | .ok (v,m1,ns)=>prep ns (f v m1 (n+ns.length))
theorem qan {α β:Type} {p:PM α} {f:α→PM β} {m n:Nat} {e:Int × Int} (h:p m n=.error e):pbind p f m n=.error e:=by
 unfold pbind;rw[h]
theorem qaj {α β:Type} {p:PM α} {f:α→PM β} {m n:Nat} {v:α} {m1:Nat} {ns:List Nd} (h:p m n=.ok (v,m1,ns)):pbind p f m n=prep ns (f v m1 (n+ns.length)):=by
 unfold pbind;rw[h]
theorem qaC {α:Type} (r:PR α):prep [] r=r:=by
 cases r with
 | error e=>rfl
 | ok v=>obtain⟨v,m,ns⟩:=v;rfl
theorem qbR {α:Type} (a b:List Nd) (r:PR α):prep a (prep b r)=prep (a++b) r:=by
 cases r with
 | error e=>rfl
 | ok v=>obtain⟨v,m,ns⟩:=v;simp[prep]
section
variable (L:Toks)
def pno {α:Type} (e:Int):PM α:=fun m _=>.error (e,(tk L m).2)
def isP (s:ByteArray) (m:Nat):Bool:=(tk L m).1.k==(if wordB s=true then 5 else 4)&&((tk L m).1.s).toList==s.toList
def takesP (s:ByteArray):PM Bool:=fun m _=>if isP L s m=true then .ok (true,m+1,[]) else .ok (false,m,[])
def must1 (s:ByteArray):PM Unit:=fun m _=>if isP L s m=true then .ok ((),m+1,[]) else .error (3,(tk L m).2)
def mustP:List ByteArray→PM Unit
 | []=>pok ()
 | s::r=>pbind (must1 L s) fun _=>mustP r
def ofP (k:Int):PM Tok:=fun m _=>if (tk L m).1.k=k then .ok ((tk L m).1,m+1,[]) else .error (3,(tk L m).2)
def layP (z:Nd):PM Int:=fun m n=>if n=512 then .error (5,(tk L m).2) else .ok ((n:Int),m,[z])
def deepP (d:Nat):PM Unit:=fun m _=>if 16<d then .error (14,(tk L m).2) else .ok ((),m,[])
def skipP:PM Unit:=fun m _=>.ok ((),m+1,[])
def qbn:PM Int:=fun m n=>if (tk L m).1.k=2∧64<(tk L m).1.i then .error (8,(tk L m).2) else pbind (ofP L 2) (fun t=>pok t.i) m n
def qaL (ss:List ByteArray):PM (Option ByteArray):=fun m _=>match ss.find? (fun s=>isP L s m) with
 | none=>.ok (none,m,[])
 | some s=>.ok (some s,m+1,[])
def twoNd (a b:Int) (s:ByteArray):Nd:={ nd 11 with a:=a,b:=b,s:=s }
def qaw (cl:PM Int) (ss:List ByteArray):Nat→Int→PM Int
 | 0,a=>pok a
 | g+1,a=>pbind (qaL L ss) fun o=>match o with
  | none=>pok a
  | some s=>pbind cl fun b=>pbind (layP L (twoNd a b s)) fun a'=>qaw cl ss g a'
def twoP (cl:PM Int) (ss:List ByteArray):PM Int:=pbind cl fun a=>qaw L cl ss (L.length+1) a
def qcs:List ByteArray:=[⟨#[42]⟩,⟨#[47]⟩,⟨#[37]⟩]
def ssSum:List ByteArray:=[⟨#[43]⟩,⟨#[45]⟩]
def qdL:List ByteArray:=[⟨#[46,46]⟩]
def ssIs:List ByteArray:=[⟨#[61,61]⟩,⟨#[33,61]⟩,⟨#[60]⟩,⟨#[60,61]⟩,⟨#[62]⟩,⟨#[62,61]⟩]
def ssAnd:List ByteArray:=[⟨#[97,110,100]⟩]
def ssOr:List ByteArray:=[⟨#[111,114]⟩]
def timesP (one:PM Int):PM Int:=twoP L one qcs
def sumP (one:PM Int):PM Int:=twoP L (timesP L one) ssSum
def joinP (one:PM Int):PM Int:=twoP L (sumP L one) qdL
def compP (one:PM Int):PM Int:=pbind (joinP L one) fun a=>pbind (qaL L ssIs) fun o=>match o with
  | none=>pok a
  | some s=>pbind (joinP L one) fun b=>layP L (twoNd a b s)
def andP (one:PM Int):PM Int:=twoP L (compP L one) ssAnd
def orP (one:PM Int):PM Int:=twoP L (andP L one) ssOr
def sIs (x:ByteArray) (l:List UInt8):Bool:=x.toList==l
def callF (s:ByteArray):Int :=
 if sIs s [103,101,116]=true then 5 else if sIs s [104,97,115]=true then 6 else if sIs s [108,101,110]=true then 7 else if sIs s [115,104,111,119]=true then 8 else -1
def qaV (k:Int) (d:Nat) (o1:PM Int):PM Int:=pbind (deepP L (d+1)) fun _=>pbind o1 fun a=>layP L { nd k with a:=a }
def qbm (d:Nat) (e1 o1:PM Int):PM Int:=fun m n =>
 if isP L ⟨#[45]⟩ m=true then pbind (skipP) (fun _=>qaV L 10 d o1) m n
 else if isP L ⟨#[40]⟩ m=true then pbind (skipP) (fun _=>pbind e1 fun a=>pbind (mustP L [⟨#[41]⟩]) fun _=>pok a) m n
 else pno L 3 m n
def qbl (d:Nat) (e1 o1:PM Int):PM Int:=fun m n =>
 if callF (tk L m).1.s=-1 then
  if isP L ⟨#[110,111,116]⟩ m=true then pbind (skipP) (fun _=>qaV L 9 d o1) m n
  else if isP L ⟨#[110,105,108]⟩ m=true then pbind (skipP) (fun _=>layP L (nd 0)) m n
  else if sIs (tk L m).1.s [116,114,117,101]=true then pbind (skipP) (fun _=>layP L { nd 1 with i:=1 }) m n
  else if sIs (tk L m).1.s [102,97,108,115,101]=true then pbind (skipP) (fun _=>layP L (nd 1)) m n
  else pno L 3 m n
 else pbind (skipP) (fun _=>pbind (mustP L [⟨#[40]⟩]) fun _=>pbind e1 fun a=>pbind (mustP L [⟨#[41]⟩]) fun _=>layP L { nd (callF (tk L m).1.s) with a:=a }) m n
def oneP (d:Nat) (e1 o1:PM Int):PM Int:=fun m n =>
 if (tk L m).1.k=2 then pbind (skipP) (fun _=>layP L { nd 2 with i:=(tk L m).1.i }) m n
 else if (tk L m).1.k=3 then pbind (skipP) (fun _=>layP L { nd 3 with s:=(tk L m).1.s }) m n
 else if (tk L m).1.k=1 then pbind (skipP) (fun _=>layP L { nd 4 with s:=(tk L m).1.s }) m n
 else if (tk L m).1.k=4 then qbm L d e1 o1 m n
 else if (tk L m).1.k=5 then qbl L d e1 o1 m n
 else pno L 3 m n
def exprD:Nat→PM Int × PM Int
 | 0=>(pno L 14,pno L 14)
 | D+1=>(orP L (oneP L (16-D) (exprD D).1 (exprD D).2),oneP L (16-D) (exprD D).1 (exprD D).2)
def exprP (D:Nat):PM Int:=(exprD L D).1
def setNext (ns:List Nd) (j:Nat) (v:Int):List Nd:=ns.modify j fun z=>{ z with x:=v }
def qam (st:PM Int):Nat→Int→Int→List Nd→Nat→Nat→PR Int
 | 0,first,_,acc,m,_=>.ok (first,m,acc)
 | g+1,first,last,acc,m,n=>match st m (n+acc.length) with
  | .error e=>.error e
  | .ok (i,m1,ns) =>
   if i=-1 then .ok (first,m1,acc++ns)
   else if first=-1 then qam st g i i (acc++ns) m1 n
   else qam st g first i (setNext (acc++ns) (last.toNat-n) i) m1 n
def qay (bl:PM Int):PM Int:=pbind (mustP L [⟨#[123]⟩]) fun _=>pbind bl fun n=>pbind (mustP L [⟨#[125]⟩]) fun _=>pok n
def qbC (k:Int) (ex:PM Int):PM Int:=pbind (skipP) fun _=>pbind (ofP L 1) fun t=>pbind (mustP L [⟨#[61]⟩]) fun _=>pbind ex fun a=>pbind (mustP L [⟨#[59]⟩]) fun _=>layP L { nd k with s:=t.s,a:=a }
def putP (ex:PM Int):PM Int:=pbind (skipP) fun _=>pbind ex fun a=>pbind (mustP L [⟨#[44]⟩]) fun _=>pbind ex fun b=>pbind (mustP L [⟨#[59]⟩]) fun _=>layP L { nd 22 with a:=a,b:=b }
def qaG (k:Int) (ex:PM Int):PM Int:=pbind (skipP) fun _=>pbind ex fun a=>pbind (mustP L [⟨#[59]⟩]) fun _=>layP L { nd k with a:=a }
def whenP (ex br:PM Int):PM Int:=pbind (skipP) fun _=>pbind ex fun a=>pbind br fun b=>pbind (takesP L ⟨#[101,108,115,101]⟩) fun e =>
 if e=true then pbind br fun c=>layP L { nd 24 with a:=a,b:=b,i:=1,c:=c } else layP L { nd 24 with a:=a,b:=b }
def eachP (ex br:PM Int):PM Int:=pbind (skipP) fun _=>pbind (ofP L 1) fun s=>pbind (mustP L [⟨#[44]⟩]) fun _=>pbind (ofP L 1) fun t =>
 pbind (mustP L [⟨#[105,110]⟩,⟨#[115,99,97,110]⟩,⟨#[40]⟩]) fun _=>pbind ex fun a=>pbind (mustP L [⟨#[44]⟩]) fun _=>pbind (qbn L) fun i=>pbind (mustP L [⟨#[41]⟩]) fun _ =>
 pbind br fun b=>layP L { nd 25 with s:=s.s,t:=t.s,a:=a,i:=i,b:=b }
def qdv (br:PM Int):PM Int:=pbind (skipP) fun _=>pbind (qbn L) fun i=>pbind br fun b=>layP L { nd 26 with i:=i,b:=b }
def stmtP (ex br:PM Int):PM Int:=fun m n =>
 if ¬ (tk L m).1.k=5 then pok (-1) m n
 else if sIs (tk L m).1.s [108,101,116]=true then qbC L 20 ex m n
 else if sIs (tk L m).1.s [115,101,116]=true then qbC L 21 ex m n
 else if sIs (tk L m).1.s [112,117,116]=true then putP L ex m n
 else if sIs (tk L m).1.s [100,101,108,101,116,101]=true then qaG L 23 ex m n
 else if sIs (tk L m).1.s [97,98,111,114,116]=true then qaG L 27 ex m n
 else if sIs (tk L m).1.s [114,101,116,117,114,110]=true then qaG L 28 ex m n
 else if sIs (tk L m).1.s [105,102]=true then whenP L ex br m n
 else if sIs (tk L m).1.s [102,111,114]=true then eachP L ex br m n
 else if sIs (tk L m).1.s [114,101,112,101,97,116]=true then qdv L br m n
 else pok (-1) m n
def blockD:Nat→PM Int
 | 0=>pno L 14
 | D+1=>fun m n=>qam (stmtP L (exprP L (D+1)) (qay L (blockD D))) (L.length+1) (-1) (-1) [] m n
def progP:Except (Int × Int) (List Nd × Int):=match pbind (blockD L 16) (fun f=>pbind (ofP L 0) fun _=>pok f) 0 0 with
 | .error e=>.error e
 | .ok (f,_,ns)=>.ok (ns,f)
def qdQ:Bool:=L≠[]&&(List.range L.length).all fun j=>((tk L j).1.k==0)==decide (j+1=L.length)
def qcd:Except (Int × Int) (List Nd × Int):=if qdQ L=true then progP L else .error (1,0)
end
theorem ltP1 {a n x:Nat} (h:a<n):(a<n+x)=True:=by simp;omega
theorem ltP2 {a n x y:Nat} (h:a<n):(a<n+x+y)=True:=by simp;omega
theorem ltP3 {a n x y z:Nat} (h:a<n):(a<n+x+y+z)=True:=by simp;omega
theorem ltP4 {a n x y z u:Nat} (h:a<n):(a<n+x+y+z+u)=True:=by simp;omega
theorem ltP5 {a n x y z u v:Nat} (h:a<n):(a<n+x+y+z+u+v)=True:=by simp;omega
attribute [go_sem] ltP1 ltP2 ltP3 ltP4 ltP5
def ToksAt (lb lo:Nat) (L:Toks) (w:World):Prop:=∀ j,j<L.length →
 w.cell? ⟨lb,lo+j*4,none⟩=some (.int .i64 (tk L j).1.k)∧w.cell? ⟨lb,lo+j*4+1,none⟩=some (.int .i64 (tk L j).2) ∧
 w.cell? ⟨lb,lo+j*4+2,none⟩=some (.string (tk L j).1.s)∧w.cell? ⟨lb,lo+j*4+3,none⟩=some (.int .i64 (tk L j).1.i)
theorem ToksAt.lt {lb lo:Nat} {L:Toks} {w:World} (h:ToksAt lb lo L w) (hl:0<L.length):lb<w.heap.size :=
 World.block_lt_of_cell? w _ (h 0 hl).1
theorem ToksAt.of_block {lb lo:Nat} {L:Toks} {w w':World} (h:ToksAt lb lo L w) (e:w'.heap[lb]?=w.heap[lb]?):ToksAt lb lo L w':=by
 intro j hj
 obtain⟨h1,h2,h3,h4⟩:=h j hj
 exact⟨(World.cell?_of_block e).trans h1,(World.cell?_of_block e).trans h2,(World.cell?_of_block e).trans h3,(World.cell?_of_block e).trans h4⟩
structure Ends (L:Toks):Prop where
 pos:0<L.length
 few:L.length≤5000
 at_:∀ j,j<L.length→((tk L j).1.k=0↔j+1=L.length)
structure St (b lb lo cap:Nat) (nv:Value) (L:Toks) (m:Nat) (N:List Nd) (w:World):Prop where
 ends:Ends L
 blk:w.heap[b]?=some (.cells #[.slice (some ⟨lb,lo,none⟩) L.length cap,.int .i64 (m:Int),nv,.int .i64 0] 193 (0,0))
 toks:ToksAt lb lo L w
 row:w.ownsRow (b+1) 166 8 nv N.length (qac N)
 low:lb<b
 pos:m<L.length
 cnt:N.length≤512
theorem St.lt {b lb lo cap:Nat} {nv:Value} {L:Toks} {m:Nat} {N:List Nd} {w:World} (h:St b lb lo cap nv L m N w):b<w.heap.size :=
 (Array.getElem?_eq_some_iff.1 h.blk).1
structure Loc (b:Nat) (nv:Value) (k:Nat) (o:Obj) (w:World):Prop where
 is:w.heap[k]?=some o
 ne:k≠b
 nr:nv.ownBlock≠some k
theorem Loc.lt {b:Nat} {nv:Value} {k:Nat} {o:Obj} {w:World} (h:Loc b nv k o w):k<w.heap.size :=
 (Array.getElem?_eq_some_iff.1 h.is).1
structure Kp (b:Nat) (nv nv':Value) (w w':World):Prop where
 os:w'.os=w.os
 tape:w'.tape=w.tape
 output:w'.output=w.output
 size:w.heap.size≤w'.heap.size
 block:∀ k,k<w.heap.size→k≠b→nv.ownBlock≠some k→w'.heap[k]?=w.heap[k]?
 row:nv'.ownBlock=nv.ownBlock∨∀ k,nv'.ownBlock=some k→w.heap.size≤k
theorem Kp.refl (b:Nat) (nv:Value) (w:World):Kp b nv nv w w:=⟨rfl,rfl,rfl,Nat.le_refl _,fun _ _ _ _=>rfl,Or.inl rfl⟩
theorem Kp.trans {b:Nat} {nv nv1 nv2:Value} {w w1 w2:World} (h:Kp b nv nv1 w w1) (k:Kp b nv1 nv2 w1 w2):Kp b nv nv2 w w2:=by
 refine ⟨k.os.trans h.os,k.tape.trans h.tape,k.output.trans h.output,Nat.le_trans h.size k.size,fun j hj hb hn=>?_,?_⟩
 · have hn1:nv1.ownBlock≠some j:=by
     rcases h.row with e | e
     · rw[e];exact hn
     · intro e2;have:=e j e2;omega
   rw[k.block j (Nat.lt_of_lt_of_le hj h.size) hb hn1,h.block j hj hb hn]
 · rcases k.row with e | e
   · rcases h.row with e1 | e1
     · exact Or.inl (e.trans e1)
     · exact Or.inr (fun j hj=>e1 j (by rw[←e];exact hj))
   · exact Or.inr (fun j hj=>Nat.le_trans h.size (e j hj))
theorem Kp.ext {b:Nat} {nv nv1:Value} {w w1 w2:World} (h:Kp b nv nv1 w w1) (hx:Ext w1 w2):Kp b nv nv1 w w2:=by
 refine h.trans ?_;have hb:=hx.below
 exact⟨hb.os,hb.tape,hb.output,hb.size,fun k hk _ _=>hb.block k hk,Or.inl rfl⟩
theorem Kp.alloc {b:Nat} {nv nv1:Value} {w w1:World} (h:Kp b nv nv1 w w1) (o:Obj):Kp b nv nv1 w (w1.alloc o):=h.ext ((Ext.refl _).alloc o)
theorem Kp.more {b:Nat} {nv nv1:Value} {w w1:World} (h:Kp b nv nv1 w w1) (d:Nat) (os:Array Obj):Kp b nv nv1 w (more w1 d os):=h.ext ((Ext.refl _).more d os)
theorem heap_set_other (w:World) (k i j:Nat) (v:Value) (h:j≠k):(w.setCell ⟨k,i,none⟩ v).heap[j]?=w.heap[j]?:=by
 simp[World.setCell,Array.getElem?_modify,Ne.symm h]
theorem Kp.setNew {b:Nat} {nv nv1:Value} {w w1:World} (h:Kp b nv nv1 w w1) {k:Nat} (hk:w.heap.size≤k) (i:Nat) (v:Value):Kp b nv nv1 w (w1.setCell ⟨k,i,none⟩ v) :=
 ⟨h.os,h.tape,h.output,by simpa [World.setCell] using h.size,fun j hj hb hn=>by rw[heap_set_other _ _ _ _ _ zac];exact h.block j hj hb hn,h.row⟩
theorem Kp.setB {b:Nat} {nv nv1:Value} {w w1:World} (h:Kp b nv nv1 w w1) (i:Nat) (v:Value):Kp b nv nv1 w (w1.setCell ⟨b,i,none⟩ v) :=
 ⟨h.os,h.tape,h.output,by simpa [World.setCell] using h.size,fun j hj hb hn=>by rw[heap_set_other _ _ _ _ _ hb];exact h.block j hj hb hn,h.row⟩
theorem Loc.kp {b:Nat} {nv nv1:Value} {w w1:World} {k:Nat} {o:Obj} (h:Loc b nv k o w) (hk:Kp b nv nv1 w w1):Loc b nv1 k o w1:=by
 refine ⟨(hk.block k h.lt h.ne h.nr).trans h.is,h.ne,?_⟩;rcases hk.row with e | e
 · rw[e];exact h.nr
 · intro e2;have:=e k e2;have:=h.lt;omega
theorem Loc.ext {b:Nat} {nv:Value} {w w1:World} {k:Nat} {o:Obj} (h:Loc b nv k o w) (hx:Ext w w1):Loc b nv k o w1:=h.kp ((Kp.refl b nv w).ext hx)
theorem Loc.set {b:Nat} {nv:Value} {w:World} {k:Nat} {cs:Array Value} {t:TypeId} (h:Loc b nv k (.cells cs t (0,0)) w) (i:Nat) (v:Value):Loc b nv k (.cells (cs.setIfInBounds i v) t (0,0)) (w.setCell ⟨k,i,none⟩ v):=by
 refine ⟨?_,h.ne,h.nr⟩
 have:=h.is
 simp[World.setCell,Array.getElem?_modify,this]
theorem St.ext {b lb lo cap:Nat} {nv:Value} {L:Toks} {m:Nat} {N:List Nd} {w w1:World} (h:St b lb lo cap nv L m N w) (hx:Ext w w1):St b lb lo cap nv L m N w1:=by
 have hb:=hx.below;refine ⟨h.ends,(hb.block b h.lt).trans h.blk,h.toks.of_block (hb.block lb (Nat.lt_trans h.low h.lt)),own_ext h.row hx,h.low,h.pos,h.cnt⟩
theorem St.alloc {b lb lo cap:Nat} {nv:Value} {L:Toks} {m:Nat} {N:List Nd} {w:World} (h:St b lb lo cap nv L m N w) (o:Obj):St b lb lo cap nv L m N (w.alloc o):=h.ext ((Ext.refl _).alloc o)
theorem St.more {b lb lo cap:Nat} {nv:Value} {L:Toks} {m:Nat} {N:List Nd} {w:World} (h:St b lb lo cap nv L m N w) (d:Nat) (os:Array Obj):St b lb lo cap nv L m N (more w d os):=h.ext ((Ext.refl _).more d os)
theorem Loc.more {b:Nat} {nv:Value} {w:World} {k:Nat} {o:Obj} (h:Loc b nv k o w) (d:Nat) (os:Array Obj):Loc b nv k o (YtpnabjopfpdkhaaGreatDoor.more w d os):=h.ext ((Ext.refl _).more d os)
theorem Loc.alloc {b:Nat} {nv:Value} {w:World} {k:Nat} {o:Obj} (h:Loc b nv k o w) (o':Obj):Loc b nv k o (w.alloc o'):=h.ext ((Ext.refl _).alloc o')
theorem St.rowNe {b lb lo cap:Nat} {nv:Value} {L:Toks} {m:Nat} {N:List Nd} {w:World} (h:St b lb lo cap nv L m N w) {k:Nat} (hk:w.heap.size≤k):nv.ownBlock≠some k:=by
 intro e;have:=(h.row.lt k e).2;omega
theorem St.loc {b lb lo cap:Nat} {nv:Value} {L:Toks} {m:Nat} {N:List Nd} {w:World} (h:St b lb lo cap nv L m N w) (o:Obj):Loc b nv w.heap.size o (w.alloc o) :=
 ⟨heap_alloc_new _ _,by have:=h.lt;omega,h.rowNe (Nat.le_refl _)⟩
theorem St.setLoc {b lb lo cap:Nat} {nv:Value} {L:Toks} {m:Nat} {N:List Nd} {w:World} (h:St b lb lo cap nv L m N w) {k:Nat} {o:Obj} (hk:Loc b nv k o w) (hl:lb≠k) (i:Nat) (v:Value) :
  St b lb lo cap nv L m N (w.setCell ⟨k,i,none⟩ v):=by
 refine ⟨h.ends,by rw[heap_set_other _ _ _ _ _ hk.ne.symm];exact h.blk,h.toks.of_block (heap_set_other _ _ _ _ _ hl),?_,h.low,h.pos,h.cnt⟩;refine h.row.kept (row:=some k) ⟨rfl,rfl,rfl,by simp[World.setCell],fun j hj hn=>heap_set_other _ _ _ _ _ (fun e=>hn (by rw[e]))⟩ (Or.inr hk.nr)
theorem St.setAt {b lb lo cap:Nat} {nv:Value} {L:Toks} {m:Nat} {N:List Nd} {w:World} (h:St b lb lo cap nv L m N w) (m':Nat) (z:Int) (hz:z=m') (hm:m'<L.length):St b lb lo cap nv L m' N (w.setCell ⟨b,1,none⟩ (.int .i64 z)):=by
 subst hz;refine ⟨h.ends,?_,h.toks.of_block (heap_set_other _ _ _ _ _ (by have:=h.low;omega)),?_,h.low,hm,h.cnt⟩
 · simp[World.setCell,Array.getElem?_modify,h.blk]
 · refine h.row.kept (row:=some b) ⟨rfl,rfl,rfl,by simp[World.setCell],fun j hj hn=>heap_set_other _ _ _ _ _ (fun e=>hn (by rw[e]))⟩ (Or.inr fun e=>?_)
   have:=(h.row.lt b e).1;omega
theorem ownBlock_kept {w w1:World} {row:Option Nat} {k:Nat} (hg:w.grownBy w1 row) (hk:k<w.heap.size) (hn:row≠some k):w1.heap[k]?=w.heap[k]?:=hg.block k hk (fun e=>hn e.symm)
theorem St.push {b lb lo cap:Nat} {nv v':Value} {L:Toks} {m:Nat} {N:List Nd} {w w1:World} (h:St b lb lo cap nv L m N w) {z:Nd} (hown:w1.ownsRow (b+1) 166 8 v' (N.length+1) (qac N++ndL z)) (hg:w.grownBy w1 nv.ownBlock) (hn:N.length<512) :
  St b lb lo cap v' L m (N++[z]) (w1.setCell ⟨b,2,none⟩ v'):=by
 have hb:nv.ownBlock≠some b:=fun e=>by have:=(h.row.lt b e).1;omega
 have hl:nv.ownBlock≠some lb:=fun e=>by have:=(h.row.lt lb e).1;have:=h.low;omega
 have e1:w1.heap[b]?=w.heap[b]?:=ownBlock_kept hg h.lt hb
 have e2:w1.heap[lb]?=w.heap[lb]?:=ownBlock_kept hg (Nat.lt_trans h.low h.lt) hl
 refine ⟨h.ends,?_,(h.toks.of_block e2).of_block (heap_set_other _ _ _ _ _ (by have:=h.low;omega)),?_,h.low,h.pos,by simp;omega⟩
 · have:=h.blk
   simp[World.setCell,Array.getElem?_modify,e1,this]
 · have hc:qac (N++[z])=qac N++ndL z:=by rw[qcG];simp[qac]
   rw[hc,List.length_append];refine hown.kept (row:=some b) ⟨rfl,rfl,rfl,by simp[World.setCell],fun j hj hn=>heap_set_other _ _ _ _ _ (fun e=>hn (by rw[e]))⟩ (Or.inr fun e=>?_)
   have:=(hown.lt b e).1;omega
theorem St.grownFacts {b lb lo cap:Nat} {nv:Value} {L:Toks} {m:Nat} {N:List Nd} {w w1:World} (h:St b lb lo cap nv L m N w) (hg:w.grownBy w1 nv.ownBlock) :
  w1.cell? ⟨b,2,none⟩=some nv∧w1.frozen? ⟨b,2,none⟩=false∧b<w1.heap.size:=by
 have hb:nv.ownBlock≠some b:=fun e=>by have:=(h.row.lt b e).1;omega
 have e1:w1.heap[b]?=w.heap[b]?:=ownBlock_kept hg h.lt hb
 have:=h.blk
 refine ⟨?_,?_,Nat.lt_of_lt_of_le h.lt hg.size⟩<;>simp[World.cell?,World.frozen?,e1,this]
theorem Kp.push {b:Nat} {nv nv1 v':Value} {w w1 w2:World} (h:Kp b nv nv1 w w1) (hg:w1.grownBy w2 nv1.ownBlock) (hb:v'.ownBlock=nv1.ownBlock∨v'.ownBlock=some w1.heap.size):Kp b nv v' w (w2.setCell ⟨b,2,none⟩ v'):=by
 refine h.trans (Kp.setB ⟨hg.os,hg.tape,hg.output,hg.size,fun k hk _ hn=>ownBlock_kept hg hk hn,?_⟩ 2 _);rcases hb with e | e
 · exact Or.inl e
 · exact Or.inr fun k hk=>by rw[e] at hk;simp at hk;omega
theorem St.facts {b lb lo cap:Nat} {nv:Value} {L:Toks} {m:Nat} {N:List Nd} {w:World} (h:St b lb lo cap nv L m N w) :
  w.cell? ⟨b,0,none⟩=some (.slice (some ⟨lb,lo,none⟩) L.length cap)∧w.cell? ⟨b,1,none⟩=some (.int .i64 (m:Int))∧w.cell? ⟨b,2,none⟩=some nv∧w.cell? ⟨b,3,none⟩=some (.int .i64 0) ∧
  w.frozen? ⟨b,1,none⟩=false∧w.frozen? ⟨b,2,none⟩=false∧w.frozen? ⟨b,3,none⟩=false∧b<w.heap.size:=by
 have:=h.blk
 refine ⟨?_,?_,?_,?_,?_,?_,?_,h.lt⟩<;>simp[World.cell?,World.frozen?,this]
theorem St.tokFacts {b lb lo cap:Nat} {nv:Value} {L:Toks} {m:Nat} {N:List Nd} {w:World} (h:St b lb lo cap nv L m N w) :
  w.cell? ⟨lb,lo+m*4,none⟩=some (.int .i64 (tk L m).1.k)∧w.cell? ⟨lb,lo+m*4+1,none⟩=some (.int .i64 (tk L m).2) ∧
  w.cell? ⟨lb,lo+m*4+2,none⟩=some (.string (tk L m).1.s)∧w.cell? ⟨lb,lo+m*4+3,none⟩=some (.int .i64 (tk L m).1.i)∧lb<w.heap.size :=
 ⟨(h.toks m h.pos).1,(h.toks m h.pos).2.1,(h.toks m h.pos).2.2.1,(h.toks m h.pos).2.2.2,Nat.lt_trans h.low h.lt⟩
theorem St.next {b lb lo cap:Nat} {nv:Value} {L:Toks} {m:Nat} {N:List Nd} {w:World} (h:St b lb lo cap nv L m N w) (hk:(tk L m).1.k≠0):m+1<L.length:=by
 have h1:=h.ends.at_ m h.pos;have h2:=h.pos;rcases Nat.lt_or_ge (m+1) L.length with h3 | h3
 · exact h3
 · exact absurd (h1.2 zac) hk
def noV (c a:Int):Ending:=.panicked [{ v:=.iface 190 (.agg #[.int .i64 c,.int .i64 a]),recovered:=false }]
def PPost {α:Type} (V:α→Value) (b lb lo cap:Nat) (nv:Value) (L:Toks) (m:Nat) (N:List Nd) (w:World) (r:PR α) (e:Ending) (w':World):Prop :=
 match r with
 | .error (c,a)=>e=noV c a∧∃ nv',Kp b nv nv' w w'
 | .ok (v,m',ns)=>e=.returned (V v)∧∃ nv',St b lb lo cap nv' L m' (N++ns) w'∧Kp b nv nv' w w'∧m≤m'
def unitV:Unit→Value:=fun _=>.tuple #[]
def intV:Int→Value:=fun z=>.int .i64 z
attribute [go_sem] more_more Array.size_append
theorem qeI:∀ (l:List Nd) (j:Nat) (z:Nd),l[j]?=some z→(qac l)[j*8+0]?=some (.int .i64 z.k)∧(qac l)[j*8+1]?=some (.int .i64 z.a)∧(qac l)[j*8+2]?=some (.int .i64 z.b)∧(qac l)[j*8+3]?=some (.int .i64 z.c)∧(qac l)[j*8+4]?=some (.int .i64 z.x)∧(qac l)[j*8+5]?=some (.int .i64 z.i)∧(qac l)[j*8+6]?=some (.string z.s)∧(qac l)[j*8+7]?=some (.string z.t)
 | [],j,z,h=>by simp at h
 | y::l,0,z,h=>by
  simp at h
  subst h
  exact⟨rfl,rfl,rfl,rfl,rfl,rfl,rfl,rfl⟩
 | y::l,j+1,z,h=>by
  have:=qeI l j z zbn
  have e:∀ r,(qac (y::l))[(j+1)*8+r]?=(qac l)[j*8+r]?:=by
   intro r
   have h1:qac (y::l)=ndL y++qac l:=rfl
   rw[h1,List.getElem?_append_right (by simp[ndL];omega)]
   congr 1
   simp[ndL];omega
  rw[e 0,e 1,e 2,e 3,e 4,e 5,e 6,e 7];exact this
theorem qae {w:World} {base:Nat} {e:TypeId} {size:Nat} {v:Value} {n:Nat} {xs:List Value} (h:w.ownsRow base e size v n xs):∃ p c,v=.slice p n c:=by
 rcases Go.Joins.ownsRow_forms h with ⟨rfl,h0⟩ | ⟨g1,c,rfl⟩
 · exact⟨none,0,by rw[h0]⟩
 · exact⟨_,_,rfl⟩
theorem qaf {w w':World} {base:Nat} {e:TypeId} {size:Nat} {v:Value} {n:Nat} {xs:List Value} (h:w.ownsRow base e size v n xs) (hb:∀ k,v.ownBlock=some k→k<w.heap.size→w'.heap[k]?=w.heap[k]?):w'.ownsRow base e size v n xs:=by
 obtain⟨h1,h2⟩:=h
 refine ⟨h1,?_⟩
 rcases h2 with h2 | ⟨g,cap,cur,rfl,hg,hh,r⟩
 · exact Or.inl h2
 · exact Or.inr ⟨g,cap,cur,rfl,hg,(hb g rfl (Array.getElem?_eq_some_iff.1 hh).1).trans hh,r⟩
theorem ndInfo:(Tryz.prog.info? 166).map (fun i=>(i.zero,i.size,i.bytes))=some (some (.agg #[.int .i64 0,.int .i64 0,.int .i64 0,.int .i64 0,.int .i64 0,.int .i64 0,.string ⟨#[]⟩,.string ⟨#[]⟩]),8,80):=by kernel_rfl
theorem intInfo:(Tryz.prog.info? 3).map (fun i=>(i.zero,i.size,i.bytes))=some (some (.int .i64 0),1,8):=by kernel_rfl
theorem nd_at {w:World} {base g cap n:Nat} {ns:List Nd} (h:w.ownsRow base 166 8 (.slice (some ⟨g,0,none⟩) n cap) n (qac ns)) {j:Nat} {z:Nd} (hj:ns[j]?=some z) :
  w.cell? ⟨g,j*8,none⟩=some (.int .i64 z.k)∧w.cell? ⟨g,j*8+1,none⟩=some (.int .i64 z.a)∧w.cell? ⟨g,j*8+2,none⟩=some (.int .i64 z.b)∧w.cell? ⟨g,j*8+3,none⟩=some (.int .i64 z.c)∧w.cell? ⟨g,j*8+4,none⟩=some (.int .i64 z.x)∧w.cell? ⟨g,j*8+5,none⟩=some (.int .i64 z.i)∧w.cell? ⟨g,j*8+6,none⟩=some (.string z.s)∧w.cell? ⟨g,j*8+7,none⟩=some (.string z.t):=by
 have hc:=h.cells (g:=g) rfl
 obtain⟨h0,h1,h2,h3,h4,h5,h6,h7⟩:=qeI ns j z hj
 have e:∀ i v,(qac ns)[i]?=some v→w.cell? ⟨g,i,none⟩=some v:=fun i v hi=>by
  have:=hc i v hi
  rwa [Addr.add_lit,Nat.zero_add] at this
 exact⟨e _ _ h0,e _ _ h1,e _ _ h2,e _ _ h3,e _ _ h4,e _ _ h5,e _ _ h6,e _ _ h7⟩
structure CkSt (W:World) (c H:Nat) (nv:Value) (ns:List Nd) (fi:Int) (n:Nat) (g:Nat→Nat) (w:World):Prop where
 ext:Ext W w
 cell:w.heap[c]?=some (.cells #[nv,.int .i64 fi,.slice (some ⟨H,0,none⟩) n n] 248 (0,0))
 had:w.rowIs H 3 n (fun j=>.int .i64 (g j:Int))
 row:w.ownsRow 0 166 8 nv n (qac ns)
 base:W.heap.size≤H∧H≠c∧nv.ownBlock≠some H∧ns.length=n
theorem CkSt.of_ext {W:World} {c H:Nat} {nv:Value} {ns:List Nd} {fi:Int} {n:Nat} {g:Nat→Nat} {w:World} {w':World} (h:CkSt W c H nv ns fi n g w) (hx:Ext w w'):CkSt W c H nv ns fi n g w' :=
 ⟨h.ext.trans hx,(hx.below.block _ (Array.getElem?_eq_some_iff.1 h.cell).1).trans h.cell,h.had.of_block (hx.below.block _ h.had.lt),own_ext h.row hx,h.base⟩
theorem CkSt.alloc {W:World} {c H:Nat} {nv:Value} {ns:List Nd} {fi:Int} {n:Nat} {g:Nat→Nat} {w:World} (h:CkSt W c H nv ns fi n g w) (b:Obj):CkSt W c H nv ns fi n g (w.alloc b):=h.of_ext ((Ext.refl w).alloc b)
theorem CkSt.more {W:World} {c H:Nat} {nv:Value} {ns:List Nd} {fi:Int} {n:Nat} {g:Nat→Nat} {w:World} (h:CkSt W c H nv ns fi n g w) (d:Nat) (os:Array Obj):CkSt W c H nv ns fi n g (more w d os):=h.of_ext ((Ext.refl w).more d os)
theorem CkSt.facts {W:World} {c H:Nat} {nv:Value} {ns:List Nd} {fi:Int} {n:Nat} {g:Nat→Nat} {w:World} (h:CkSt W c H nv ns fi n g w) :
  w.cell? ⟨c,0,none⟩=some nv∧w.cell? ⟨c,1,none⟩=some (.int .i64 fi)∧w.cell? ⟨c,2,none⟩=some (.slice (some ⟨H,0,none⟩) n n)∧c<w.heap.size∧H<w.heap.size:=by
 have h1:=h.cell;refine ⟨?_,?_,?_,(Array.getElem?_eq_some_iff.1 h1).1,h.had.lt⟩<;>simp[World.cell?,h1]
theorem CkSt.set {W:World} {c H:Nat} {nv:Value} {ns:List Nd} {fi:Int} {n:Nat} {g:Nat→Nat} {w:World} (h:CkSt W c H nv ns fi n g w) (k:Nat) (v:Int) (g':Nat→Nat) (hg:∀ j,(g' j:Int)=if j=k then v else(g j:Int)) :
  CkSt W c H nv ns fi n g' (w.setCell ⟨H,k,none⟩ (.int .i64 v)):=by
 obtain⟨b1,b2,b4,b5⟩:=h.base
 refine ⟨h.ext.setCell b1 _,by rw[heap_set_other _ _ _ _ _ (Ne.symm b2)];exact h.cell,(h.had.set k _).congr fun j _=>?_,?_,h.base⟩
 · rw[hg j];split<;>rfl
 · exact qaf h.row fun j hj _=>heap_set_other _ _ _ _ _ (fun e=>b4 (by rw[←e];exact hj))
theorem CkSt.congr {W:World} {c H:Nat} {nv:Value} {ns:List Nd} {fi:Int} {n:Nat} {g:Nat→Nat} {w:World} {g':Nat→Nat} (h:CkSt W c H nv ns fi n g w) (e:∀ j,j<n→g j=g' j):CkSt W c H nv ns fi n g' w :=
 ⟨h.ext,h.cell,h.had.congr fun j hj=>by rw[e j hj],h.row,h.base⟩
def Fr (H:Nat) (w w':World):Prop:=∀ q,q<w.heap.size→q≠H→w'.heap[q]?=w.heap[q]?
theorem Fr.refl (H:Nat) (w:World):Fr H w w:=fun _ _ _=>rfl
def KB (k:Nat) (cs:Array Value) (T:TypeId) (w:World):Prop:=w.heap[k]?=some (.cells cs T (0,0))
theorem KB.lt {k:Nat} {cs:Array Value} {T:TypeId} {w:World} (h:KB k cs T w):k<w.heap.size:=(Array.getElem?_eq_some_iff.1 h).1
theorem KB.kept {k H:Nat} {cs:Array Value} {T:TypeId} {w w':World} (h:KB k cs T w) (hf:Fr H w w') (hn:k≠H):KB k cs T w':=(hf k h.lt hn).trans h
theorem KB.of_ext {k:Nat} {cs:Array Value} {T:TypeId} {w w':World} (h:KB k cs T w) (hx:Ext w w'):KB k cs T w':=(hx.below.block _ h.lt).trans h
theorem KB.new (w:World) (cs:Array Value) (T:TypeId):KB w.heap.size cs T (w.alloc (.cells cs T (0,0))):=heap_alloc_new _ _
theorem KB.cell {k:Nat} {cs:Array Value} {T:TypeId} {w:World} (h:KB k cs T w) (j:Nat) (v:Value) (hj:cs[j]?=some v):w.cell? ⟨k,j,none⟩=some v:=by
 unfold KB at h
 simp[World.cell?,h,hj]
def qct (ns:List Nd) (k:Int):Int:=match ns[k.toNat]? with | some z=>z.k | none=>0
def qal (ns:List Nd) (k f t:Int) (st:Bool):Bool:=decide (f≤k)&&decide (k<t)&&(st==decide (20≤qct ns k))
def blkB (ns:List Nd) (k i:Int):Bool:=k==-1||qal ns k 0 i true
def pone (a k:Int):Nat:=if a=k then 1 else 0
def addB (A:Bool) (k:Int) (g:Nat→Nat):Nat→Nat:=fun j=>g j+if A=true then pone k j else 0
theorem qgs (A:Bool) (k:Int) (g:Nat→Nat) (j m:Nat) (h:g j≤m):addB A k g j≤m+1:=by
 unfold addB pone;split<;>(try split)<;>omega
theorem qcw {W:World} {c H:Nat} {nv:Value} {ns:List Nd} {fi:Int} {n:Nat} {g:Nat→Nat} {w:World} (h:CkSt W c H nv ns fi n g w) (k f t:Int) (st:Bool) (h0:0≤f) (ht:t≤(n:Int)) (hb:∀ j,j<n→g j≤9000) :
  Calls Tryz.prog 200 #[.pointer (some ⟨c,0,none⟩),.int .i64 k,.int .i64 f,.int .i64 t,.bool st] w fun e w'=>e=.returned (.bool (qal ns k f t st))∧CkSt W c H nv ns fi n (addB (qal ns k f t st) k g) w'∧Fr H w w':=by
 have HS:=Lib.hid h;have HC0:=Lib.hid (h.congr (g':=addB false k g) fun j _=>by simp[addB])
 obtain⟨c0,c1,c2,lc,lH⟩:=h.facts
 by_cases hf:f≤k
 rotate_left
 · have hr:qal ns k f t st=false:=by unfold qal;rw[decide_eq_false hf];rfl
   rw[hr]
   have q1:k<f:=by omega
   clear h hb c0 c1 c2 hf hr h0 ht;go_enter Tryz.func200,Tryz.ntmps200;go_wp2_with fail;go_ret
   exact⟨rfl,HC0.out,Fr.refl _ _⟩
 by_cases hk:k<t
 rotate_left
 · have hr:qal ns k f t st=false:=by unfold qal;rw[decide_eq_false hk];simp
   rw[hr]
   have q1:f≤k:=hf
   have q2:t≤k:=by omega
   clear h hb c0 c1 c2 hf hr h0 ht hk;go_enter Tryz.func200,Tryz.ntmps200;go_wp2_with fail;go_ret
   exact⟨rfl,HC0.out,Fr.refl _ _⟩
 obtain⟨j,rfl⟩:∃ j:Nat,k=(j:Int):=⟨k.toNat,by omega⟩
 have hj:j<n:=by omega
 obtain⟨z,hz⟩:∃ z,ns[j]?=some z:=⟨_,List.getElem?_eq_getElem (by rw[h.base.2.2.2];exact hj)⟩
 have hp:∃ G cap,nv=.slice (some ⟨G,0,none⟩) n cap:=by
  rcases Go.Joins.ownsRow_forms h.row with ⟨_,h0⟩ | ⟨g1,c1,h0⟩
  · omega
  · exact⟨g1,c1,h0⟩
 obtain⟨G,cap,rfl⟩:=hp
 have a0:=(nd_at h.row hz).1;have hG:=(h.row.lt G rfl).2
 have hkd:qct ns (j:Int)=z.k:=by unfold qct;rw[show((j:Int)).toNat=j from rfl,hz]
 obtain⟨zk,hzk⟩:∃ zk,z.k=zk:=⟨_,rfl⟩
 rw[hzk] at a0 hkd
 have hr:qal ns (j:Int) f t st=(st==decide (20≤zk)):=by unfold qal;rw[decide_eq_true hf,decide_eq_true hk,hkd];simp
 rw[hr];have hc:=h.had.cell hj;have hfz:=h.had.frozen j
 have hgj:(g j:Int)≤9000:=by have:=hb j hj;omega
 have hgj0:0≤(g j:Int):=by omega
 obtain⟨q,hq⟩:∃ q:Nat,g j=q:=⟨_,rfl⟩
 have HQ:=Lib.hid hq;simp only[hq] at hc hgj hgj0
 have hj0:0≤(j:Int):=by omega
 have hjn:(j:Int)<(n:Int):=by omega
 clear h hb hq hj hz hzk hkd hr c1 ht h0
 cases st<;>by_cases hz20:20≤zk
 · rw[decide_eq_true hz20,show((false:Bool)==true)=false from rfl]
   go_enter Tryz.func200,Tryz.ntmps200;go_wp2_with fail;go_ret
   exact⟨rfl,HC0.out,Fr.refl _ _⟩
 · rw[decide_eq_false hz20,show((false:Bool)==false)=true from rfl]
   have hz2:zk<20:=by omega
   clear hz20;go_enter Tryz.func200,Tryz.ntmps200;go_wp2_with fail;go_ret;refine ⟨rfl,HS.out.set j _ _ fun i=>?_,fun q _ hq=>heap_set_other _ _ _ _ _ hq⟩;unfold addB pone;rw[if_pos rfl]
   by_cases e:i=j
   · subst e;rw[if_pos rfl,if_pos rfl,HQ.out];omega
   · rw[if_neg e,if_neg zac];rfl
 · rw[decide_eq_true hz20,show((true:Bool)==true)=true from rfl]
   go_enter Tryz.func200,Tryz.ntmps200;go_wp2_with fail;go_ret;refine ⟨rfl,HS.out.set j _ _ fun i=>?_,fun q _ hq=>heap_set_other _ _ _ _ _ hq⟩;unfold addB pone;rw[if_pos rfl]
   by_cases e:i=j
   · subst e;rw[if_pos rfl,if_pos rfl,HQ.out];omega
   · rw[if_neg e,if_neg zac];rfl
 · rw[decide_eq_false hz20,show((true:Bool)==false)=false from rfl]
   have hzd:decide (20≤zk)=false:=decide_eq_false hz20
   have hz2:zk<20:=by omega
   clear hz20;go_enter Tryz.func200,Tryz.ntmps200;go_wp2_with fail;go_ret
   exact⟨rfl,HC0.out,Fr.refl _ _⟩
theorem qdz {W:World} {c H:Nat} {nv:Value} {ns:List Nd} {fi:Int} {n:Nat} {g:Nat→Nat} {w:World} (h:CkSt W c H nv ns fi n g w) (k i:Int) (ht:i≤(n:Int)) (hb:∀ j,j<n→g j≤9000) :
  Calls Tryz.prog 170 #[.pointer (some ⟨c,0,none⟩),.int .i64 k,.int .i64 i] w fun e w'=>e=.returned (.bool (blkB ns k i))∧CkSt W c H nv ns fi n (addB (blkB ns k i) k g) w'∧Fr H w w':=by
 by_cases hk:k=-1
 · subst hk
   have HC0:=Lib.hid (h.congr (g':=addB true (-1) g) fun j _=>by unfold addB pone;rw[if_pos rfl,if_neg zac];rfl);rw[show blkB ns (-1) i=true from rfl];clear h hb ht;go_enter Tryz.func170,Tryz.ntmps170;go_wp2_with fail;go_ret
   exact⟨rfl,HC0.out,Fr.refl _ _⟩
 · have T:=Lib.hid (qcw h k 0 i true zac ht hb)
   rw[show blkB ns k i=qal ns k 0 i true from by unfold blkB;rw[show(k==-1)=false from by simpa using hk];rfl]
   obtain⟨A,hA⟩:∃ A,qal ns k 0 i true=A:=⟨_,rfl⟩
   rw[hA] at T ⊢
   have q:(k==-1)=false:=by simpa using hk
   clear h hb ht hA hk;go_enter Tryz.func170,Tryz.ntmps170
   go_wp2_with (((with_reducible refine T.out.mono ?_);rintro e' w1 ⟨rfl,h1,h2⟩;have H1:=Lib.hid h1;have H2:=Lib.hid h2;clear h1 h2))
   go_ret
   exact⟨rfl,H1.out,H2.out⟩
def Fwd {α:Type} (p:PM α):Prop:=∀ m n v m1 ns,p m n=.ok (v,m1,ns)→m≤m1
def Lays (p:PM Int):Prop:=∀ m n v m1 ns,p m n=.ok (v,m1,ns)→v+1=(n:Int)+ns.length∧0<ns.length
theorem prep_inv {α:Type} {ns:List Nd} {r:PR α} {v:α} {m:Nat} {l:List Nd} (h:prep ns r=.ok (v,m,l)):∃ l1,r=.ok (v,m,l1)∧l=ns++l1:=by
 cases r with
 | error e=>simp[prep] at h
 | ok x=>obtain⟨v',m',l'⟩:=x;simp only[prep,Except.ok.injEq,Prod.mk.injEq] at h;obtain⟨rfl,rfl,rfl⟩:=h;exact⟨_,rfl,rfl⟩
theorem qdt {α β:Type} {p:PM α} {f:α→PM β} {m n:Nat} {v:β} {m2:Nat} {l:List Nd} (h:pbind p f m n=.ok (v,m2,l)) :
  ∃ a m1 l1 l2,p m n=.ok (a,m1,l1)∧f a m1 (n+l1.length)=.ok (v,m2,l2)∧l=l1++l2:=by
 unfold pbind at h
 cases hp:p m n with
 | error e=>rw[hp] at h;simp at h
 | ok x =>
  obtain⟨a,m1,l1⟩:=x
  rw[hp] at h
  obtain⟨l2,h1,h2⟩:=prep_inv h
  exact⟨a,m1,l1,l2,rfl,h1,h2⟩
theorem Fwd.bind {α β:Type} {p:PM α} {f:α→PM β} (hp:Fwd p) (hf:∀ a,Fwd (f a)):Fwd (pbind p f):=by
 intro m n v m1 ns h
 obtain⟨a,m2,l1,l2,h1,h2,_⟩:=qdt h
 exact Nat.le_trans (hp _ _ _ _ _ h1) (hf a _ _ _ _ _ h2)
theorem Lays.bind {α:Type} {p:PM α} {f:α→PM Int} (hf:∀ a,Lays (f a)):Lays (pbind p f):=by
 intro m n v m1 ns h
 obtain⟨a,m2,l1,l2,h1,h2,rfl⟩:=qdt h
 have:=hf a _ _ _ _ _ h2
 simp only[List.length_append]
 omega
theorem Fwd.ok {α:Type} (v:α):Fwd (pok v):=by
 intro m n v m1 ns h;simp[pok] at h;omega
theorem Fwd.no {α:Type} (L:Toks) (e:Int):Fwd (pno (α:=α) L e):=by intro m n v m1 ns h;simp[pno] at h
section
variable (L:Toks)
theorem Fwd.skip:Fwd skipP:=by intro m n v m1 ns h;simp[skipP] at h;omega
theorem Fwd.lay (z:Nd):Fwd (layP L z):=by
 intro m n v m1 ns h;unfold layP at h;split at h
 · simp at h
 · simp at h;omega
theorem Lays.lay (z:Nd):Lays (layP L z):=by
 intro m n v m1 ns h;unfold layP at h;split at h
 · simp at h
 · simp at h;obtain⟨rfl,_,rfl⟩:=h;simp
theorem Fwd.deep (d:Nat):Fwd (deepP L d):=by
 intro m n v m1 ns h;unfold deepP at h;split at h
 · simp at h
 · simp at h;omega
theorem Fwd.takes (s:ByteArray):Fwd (takesP L s):=by
 intro m n v m1 ns h;unfold takesP at h;split at h<;>simp at h<;>omega
theorem Fwd.must1 (s:ByteArray):Fwd (must1 L s):=by
 intro m n v m1 ns h;unfold Go.Proofs.YtpnabjopfpdkhaaGreatDoor.must1 at h;split at h<;>simp at h<;>omega
theorem Fwd.must:∀ ss,Fwd (mustP L ss)
 | []=>Fwd.ok ()
 | s::r=>by rw[mustP];exact Fwd.bind (Fwd.must1 L s) fun _=>Fwd.must r
theorem Fwd.of (k:Int):Fwd (ofP L k):=by
 intro m n v m1 ns h;unfold ofP at h;split at h<;>simp at h<;>omega
theorem Fwd.oneOf (ss:List ByteArray):Fwd (qaL L ss):=by
 intro m n v m1 ns h;unfold qaL at h;split at h<;>simp at h<;>omega
theorem Fwd.turns:Fwd (qbn L):=by
 have h2:Fwd (pbind (ofP L 2) (fun t=>pok t.i)):=Fwd.bind (Fwd.of L 2) fun t=>Fwd.ok _
 intro m n v m1 ns h;unfold qbn at h;split at h
 · simp at h
 · exact h2 _ _ _ _ _ h
end
theorem strict {α:Type} {f:Unit→PM α} (hf:∀ a,Fwd (f a)) {m n:Nat} {v:α} {m1:Nat} {ns:List Nd} (h:pbind skipP f m n=.ok (v,m1,ns)):m<m1:=by
 obtain⟨a,m2,l1,l2,h1,h2,_⟩:=qdt h
 have:=hf a _ _ _ _ _ h2
 simp[skipP] at h1
 omega
def Strong (p:PM Int):Prop:=(∀ m n v m1 ns,p m n=.ok (v,m1,ns)→m<m1)∧Lays p
theorem Strong.of {f:Unit→PM Int} (hf:∀ a,Fwd (f a)) (hl:∀ a,Lays (f a)):Strong (pbind skipP f):=⟨fun _ _ _ _ _ h=>strict hf h,Lays.bind hl⟩
section
variable {L:Toks} {ex br:PM Int}
theorem qbb (k:Int) (he:Fwd ex):Strong (qbC L k ex) :=
 Strong.of (fun _=>Fwd.bind (Fwd.of L 1) fun _=>Fwd.bind (Fwd.must L _) fun _=>Fwd.bind he fun _=>Fwd.bind (Fwd.must L _) fun _=>Fwd.lay L _)
  (fun _=>Lays.bind fun _=>Lays.bind fun _=>Lays.bind fun _=>Lays.bind fun _=>Lays.lay L _)
theorem qdI (he:Fwd ex):Strong (putP L ex) :=
 Strong.of (fun _=>Fwd.bind he fun _=>Fwd.bind (Fwd.must L _) fun _=>Fwd.bind he fun _=>Fwd.bind (Fwd.must L _) fun _=>Fwd.lay L _)
  (fun _=>Lays.bind fun _=>Lays.bind fun _=>Lays.bind fun _=>Lays.bind fun _=>Lays.lay L _)
theorem qas (k:Int) (he:Fwd ex):Strong (qaG L k ex) :=
 Strong.of (fun _=>Fwd.bind he fun _=>Fwd.bind (Fwd.must L _) fun _=>Fwd.lay L _) (fun _=>Lays.bind fun _=>Lays.bind fun _=>Lays.lay L _)
theorem qcL (he:Fwd ex) (hb:Fwd br):Strong (whenP L ex br):=by
 refine Strong.of (fun _=>Fwd.bind he fun _=>Fwd.bind hb fun _=>Fwd.bind (Fwd.takes L _) fun e=>?_) (fun _=>Lays.bind fun _=>Lays.bind fun _=>Lays.bind fun e=>?_)
 · cases e
   · exact Fwd.lay L _
   · exact Fwd.bind hb fun _=>Fwd.lay L _
 · cases e
   · exact Lays.lay L _
   · exact Lays.bind fun _=>Lays.lay L _
theorem qcI (he:Fwd ex) (hb:Fwd br):Strong (eachP L ex br) :=
 Strong.of (fun _=>Fwd.bind (Fwd.of L 1) fun _=>Fwd.bind (Fwd.must L _) fun _=>Fwd.bind (Fwd.of L 1) fun _=>Fwd.bind (Fwd.must L _) fun _=>Fwd.bind he fun _=>Fwd.bind (Fwd.must L _) fun _=>Fwd.bind (Fwd.turns L) fun _=>Fwd.bind (Fwd.must L _) fun _=>Fwd.bind hb fun _=>Fwd.lay L _)
  (fun _=>Lays.bind fun _=>Lays.bind fun _=>Lays.bind fun _=>Lays.bind fun _=>Lays.bind fun _=>Lays.bind fun _=>Lays.bind fun _=>Lays.bind fun _=>Lays.bind fun _=>Lays.lay L _)
theorem qcb (hb:Fwd br):Strong (qdv L br) :=
 Strong.of (fun _=>Fwd.bind (Fwd.turns L) fun _=>Fwd.bind hb fun _=>Fwd.lay L _) (fun _=>Lays.bind fun _=>Lays.bind fun _=>Lays.lay L _)
theorem stmt_ok (he:Fwd ex) (hb:Fwd br) {m n:Nat} {v:Int} {m1:Nat} {ns:List Nd} (h:stmtP L ex br m n=.ok (v,m1,ns)) :
  (v=-1∧m1=m∧ns=[])∨(m<m1∧v+1=(n:Int)+ns.length∧0<ns.length):=by
 have st:∀ {p:PM Int},Strong p→p m n=.ok (v,m1,ns)→m<m1∧v+1=(n:Int)+ns.length∧0<ns.length:=fun hs h=>⟨hs.1 _ _ _ _ _ h,hs.2 _ _ _ _ _ h⟩
 have no:pok (-1) m n=.ok (v,m1,ns)→v=-1∧m1=m∧ns=[]:=fun h=>by simp[pok] at h;exact⟨h.1.symm,h.2.1.symm,h.2.2⟩
 unfold stmtP at h
 split at h
 · exact Or.inl (no h)
 split at h
 · exact Or.inr (st (qbb _ he) h)
 split at h
 · exact Or.inr (st (qbb _ he) h)
 split at h
 · exact Or.inr (st (qdI he) h)
 split at h
 · exact Or.inr (st (qas _ he) h)
 split at h
 · exact Or.inr (st (qas _ he) h)
 split at h
 · exact Or.inr (st (qas _ he) h)
 split at h
 · exact Or.inr (st (qcL he hb) h)
 split at h
 · exact Or.inr (st (qcI he hb) h)
 split at h
 · exact Or.inr (st (qcb hb) h)
 · exact Or.inl (no h)
theorem Fwd.stmt (he:Fwd ex) (hb:Fwd br):Fwd (stmtP L ex br):=by
 intro m n v m1 ns h
 rcases stmt_ok he hb h with ⟨_,rfl,_⟩ | ⟨h1,_⟩
 · exact Nat.le_refl _
 · omega
end
section
variable (L:Toks)
theorem Fwd.two {cl:PM Int} (hc:Fwd cl) (ss:List ByteArray):∀ g a,Fwd (qaw L cl ss g a)
 | 0,a=>Fwd.ok a
 | g+1,a=>by
  rw[qaw]
  refine Fwd.bind (Fwd.oneOf L ss) fun o=>?_
  cases o with
  | none=>exact Fwd.ok a
  | some s=>exact Fwd.bind hc fun b=>Fwd.bind (Fwd.lay L _) fun a'=>Fwd.two hc ss g a'
theorem Fwd.twoP {cl:PM Int} (hc:Fwd cl) (ss:List ByteArray):Fwd (twoP L cl ss):=Fwd.bind hc fun a=>Fwd.two L hc ss _ a
theorem Fwd.comp {o:PM Int} (ho:Fwd o):Fwd (compP L o):=by
 have hj:Fwd (joinP L o):=Fwd.twoP L (Fwd.twoP L (Fwd.twoP L ho _) _) _
 refine Fwd.bind hj fun a=>Fwd.bind (Fwd.oneOf L _) fun o=>?_
 cases o with
 | none=>exact Fwd.ok a
 | some s=>exact Fwd.bind hj fun b=>Fwd.lay L _
theorem Fwd.or {o:PM Int} (ho:Fwd o):Fwd (orP L o):=Fwd.twoP L (Fwd.twoP L (Fwd.comp L ho) _) _
theorem Fwd.within (k:Int) (d:Nat) {o1:PM Int} (ho:Fwd o1):Fwd (qaV L k d o1):=Fwd.bind (Fwd.deep L _) fun _=>Fwd.bind ho fun _=>Fwd.lay L _
theorem Fwd.one (d:Nat) {e1 o1:PM Int} (he:Fwd e1) (ho:Fwd o1):Fwd (oneP L d e1 o1):=by
 have sk:∀ {p:PM Int},Fwd p→Fwd (pbind skipP fun _=>p):=fun hp=>Fwd.bind Fwd.skip fun _=>hp
 have hs:Fwd (qbm L d e1 o1):=by
  intro m n v m1 ns h;unfold qbm at h
  split at h
  · exact sk (Fwd.within L _ d ho) _ _ _ _ _ h
  split at h
  · exact sk (Fwd.bind he fun _=>Fwd.bind (Fwd.must L _) fun _=>Fwd.ok _) _ _ _ _ _ h
  · exact Fwd.no L _ _ _ _ _ _ h
 have hw:Fwd (qbl L d e1 o1):=by
  intro m n v m1 ns h;unfold qbl at h
  split at h
  · split at h
    · exact sk (Fwd.within L _ d ho) _ _ _ _ _ h
    split at h
    · exact sk (Fwd.lay L _) _ _ _ _ _ h
    split at h
    · exact sk (Fwd.lay L _) _ _ _ _ _ h
    split at h
    · exact sk (Fwd.lay L _) _ _ _ _ _ h
    · exact Fwd.no L _ _ _ _ _ _ h
  · exact Fwd.bind Fwd.skip (fun _=>Fwd.bind (Fwd.must L _) fun _=>Fwd.bind he fun _=>Fwd.bind (Fwd.must L _) fun _=>Fwd.lay L _) _ _ _ _ _ h
 intro m n v m1 ns h;unfold oneP at h
 split at h
 · exact sk (Fwd.lay L _) _ _ _ _ _ h
 split at h
 · exact sk (Fwd.lay L _) _ _ _ _ _ h
 split at h
 · exact sk (Fwd.lay L _) _ _ _ _ _ h
 split at h
 · exact hs _ _ _ _ _ h
 split at h
 · exact hw _ _ _ _ _ h
 · exact Fwd.no L _ _ _ _ _ _ h
theorem Fwd.exprD:∀ D,Fwd (exprD L D).1∧Fwd (exprD L D).2
 | 0=>⟨Fwd.no L _,Fwd.no L _⟩
 | D+1=>by
  have:=Fwd.exprD D
  have ho:=Fwd.one L (16-D) this.1 this.2
  exact⟨Fwd.or L ho,ho⟩
theorem Fwd.braced {b:PM Int} (hb:Fwd b):Fwd (qay L b):=Fwd.bind (Fwd.must L _) fun _=>Fwd.bind hb fun _=>Fwd.bind (Fwd.must L _) fun _=>Fwd.ok _
theorem Fwd.loop {st:PM Int} (hs:Fwd st):∀ g fi la acc m n v m1 ns,qam st g fi la acc m n=.ok (v,m1,ns)→m≤m1
 | 0,fi,la,acc,m,n,v,m1,ns,h=>by simp[qam] at h;omega
 | g+1,fi,la,acc,m,n,v,m1,ns,h=>by
  rw[qam] at h
  cases hst:st m (n+acc.length) with
  | error e=>rw[hst] at h;simp at h
  | ok x =>
   obtain⟨i,m2,ns2⟩:=x
   rw[hst] at h;dsimp only at h;have h1:=hs _ _ _ _ _ hst
   split at h
   · simp at h;omega
   split at h
   · exact Nat.le_trans h1 (Fwd.loop hs g _ _ _ _ _ _ _ _ h)
   · exact Nat.le_trans h1 (Fwd.loop hs g _ _ _ _ _ _ _ _ h)
theorem Fwd.blockD:∀ D,Fwd (blockD L D)
 | 0=>Fwd.no L _
 | D+1=>fun m n v m1 ns h=>Fwd.loop (Fwd.stmt (Fwd.exprD L (D+1)).1 (Fwd.braced L (Fwd.blockD D))) _ _ _ _ _ _ _ _ _ h
end
def NZ {α:Type} (p:PM α):Prop:=∀ m n c a,p m n=.error (c,a)→c≠0
theorem NZ.ok {α:Type} (v:α):NZ (pok v):=fun m n c a h=>by simp[pok] at h
theorem NZ.skip:NZ skipP:=fun m n c a h=>by simp[skipP] at h
theorem NZ.bind {α β:Type} {p:PM α} {f:α→PM β} (h:NZ p) (hf:∀ a,NZ (f a)):NZ (pbind p f):=by
 intro m n c a he;unfold pbind at he
 split at he
 · next e hp =>
   simp only[Except.error.injEq] at he;subst he;exact h _ _ _ _ hp
 · next v m1 ns hp =>
   rcases hq:f v m1 (n+ns.length) with ⟨c',a'⟩ | ⟨v',m',l'⟩
   · rw[hq] at he
     simp[prep] at he
     have:=hf _ _ _ _ _ hq
     omega
   · rw[hq] at he;simp[prep] at he
section
variable (L:Toks)
theorem NZ.no {α:Type} (e:Int) (he:e≠0):NZ (pno (α:=α) L e):=fun m n c a h=>by simp[pno] at h;omega
theorem NZ.must1 (s:ByteArray):NZ (must1 L s):=fun m n c a h=>by unfold Go.Proofs.YtpnabjopfpdkhaaGreatDoor.must1 at h;split at h<;>simp at h;omega
theorem NZ.must:∀ ss,NZ (mustP L ss)
 | []=>NZ.ok _
 | s::r=>NZ.bind (NZ.must1 L s) fun _=>NZ.must r
theorem NZ.takes (s:ByteArray):NZ (takesP L s):=fun m n c a h=>by unfold takesP at h;split at h<;>simp at h
theorem NZ.of (k:Int):NZ (ofP L k):=fun m n c a h=>by unfold ofP at h;split at h<;>simp at h;omega
theorem NZ.lay (z:Nd):NZ (layP L z):=fun m n c a h=>by unfold layP at h;split at h<;>simp at h;omega
theorem NZ.deep (d:Nat):NZ (deepP L d):=fun m n c a h=>by unfold deepP at h;split at h<;>simp at h;omega
theorem NZ.turns:NZ (qbn L):=fun m n c a h=>by
 unfold qbn at h;split at h
 · simp at h;omega
 · exact NZ.bind (NZ.of L 2) (fun t=>NZ.ok _) _ _ _ _ h
theorem NZ.oneOf (ss:List ByteArray):NZ (qaL L ss):=fun m n c a h=>by unfold qaL at h;split at h<;>simp at h
variable {ex br:PM Int}
theorem NZ.names (k:Int) (he:NZ ex):NZ (qbC L k ex) :=
 NZ.bind NZ.skip fun _=>NZ.bind (NZ.of L 1) fun t=>NZ.bind (NZ.must L _) fun _=>NZ.bind he fun a=>NZ.bind (NZ.must L _) fun _=>NZ.lay L _
theorem NZ.put (he:NZ ex):NZ (putP L ex) :=
 NZ.bind NZ.skip fun _=>NZ.bind he fun a=>NZ.bind (NZ.must L _) fun _=>NZ.bind he fun b=>NZ.bind (NZ.must L _) fun _=>NZ.lay L _
theorem NZ.simple (k:Int) (he:NZ ex):NZ (qaG L k ex) :=
 NZ.bind NZ.skip fun _=>NZ.bind he fun a=>NZ.bind (NZ.must L _) fun _=>NZ.lay L _
theorem NZ.when (he:NZ ex) (hb:NZ br):NZ (whenP L ex br) :=
 NZ.bind NZ.skip fun _=>NZ.bind he fun a=>NZ.bind hb fun b=>NZ.bind (NZ.takes L _) fun e=>by
  by_cases h:e=true
  · rw[if_pos h];exact NZ.bind hb fun c=>NZ.lay L _
  · rw[if_neg h];exact NZ.lay L _
theorem NZ.each (he:NZ ex) (hb:NZ br):NZ (eachP L ex br) :=
 NZ.bind NZ.skip fun _=>NZ.bind (NZ.of L 1) fun s=>NZ.bind (NZ.must L _) fun _=>NZ.bind (NZ.of L 1) fun t=>NZ.bind (NZ.must L _) fun _=>NZ.bind he fun a =>
  NZ.bind (NZ.must L _) fun _=>NZ.bind (NZ.turns L) fun i=>NZ.bind (NZ.must L _) fun _=>NZ.bind hb fun b=>NZ.lay L _
theorem NZ.repeat (hb:NZ br):NZ (qdv L br) :=
 NZ.bind NZ.skip fun _=>NZ.bind (NZ.turns L) fun i=>NZ.bind hb fun b=>NZ.lay L _
theorem NZ.braced {bl:PM Int} (hb:NZ bl):NZ (qay L bl) :=
 NZ.bind (NZ.must L _) fun _=>NZ.bind hb fun n=>NZ.bind (NZ.must L _) fun _=>NZ.ok _
theorem NZ.stmt (he:NZ ex) (hb:NZ br):NZ (stmtP L ex br):=by
 intro m n c a h;unfold stmtP at h
 split at h
 · exact NZ.ok _ _ _ _ _ h
 split at h
 · exact NZ.names L _ he _ _ _ _ h
 split at h
 · exact NZ.names L _ he _ _ _ _ h
 split at h
 · exact NZ.put L he _ _ _ _ h
 split at h
 · exact NZ.simple L _ he _ _ _ _ h
 split at h
 · exact NZ.simple L _ he _ _ _ _ h
 split at h
 · exact NZ.simple L _ he _ _ _ _ h
 split at h
 · exact NZ.when L he hb _ _ _ _ h
 split at h
 · exact NZ.each L he hb _ _ _ _ h
 split at h
 · exact NZ.repeat L hb _ _ _ _ h
 · exact NZ.ok _ _ _ _ _ h
theorem NZ.two {cl:PM Int} (hc:NZ cl) (ss:List ByteArray):∀ g a,NZ (qaw L cl ss g a)
 | 0,a=>NZ.ok _
 | g+1,a=>by
  rw[qaw]
  refine NZ.bind (NZ.oneOf L ss) fun o=>?_
  cases o with
  | none=>exact NZ.ok _
  | some s=>exact NZ.bind hc fun b=>NZ.bind (NZ.lay L _) fun a'=>NZ.two hc ss g a'
theorem NZ.twoP {cl:PM Int} (hc:NZ cl) (ss:List ByteArray):NZ (twoP L cl ss):=NZ.bind hc fun a=>NZ.two L hc ss _ a
theorem NZ.comp {o:PM Int} (ho:NZ o):NZ (compP L o):=by
 have hj:NZ (joinP L o):=NZ.twoP L (NZ.twoP L (NZ.twoP L ho _) _) _
 refine NZ.bind hj fun a=>NZ.bind (NZ.oneOf L _) fun o=>?_
 cases o with
 | none=>exact NZ.ok _
 | some s=>exact NZ.bind hj fun b=>NZ.lay L _
theorem NZ.or {o:PM Int} (ho:NZ o):NZ (orP L o):=NZ.twoP L (NZ.twoP L (NZ.comp L ho) _) _
theorem NZ.within (k:Int) (d:Nat) {o:PM Int} (ho:NZ o):NZ (qaV L k d o) :=
 NZ.bind (NZ.deep L _) fun _=>NZ.bind ho fun a=>NZ.lay L _
theorem NZ.one (d:Nat) {e1 o1:PM Int} (he:NZ e1) (ho:NZ o1):NZ (oneP L d e1 o1):=by
 have sk:∀ {p:PM Int},NZ p→NZ (pbind skipP fun _=>p):=fun hp=>NZ.bind NZ.skip fun _=>hp
 have hs:NZ (qbm L d e1 o1):=by
  intro m n c a h;unfold qbm at h
  split at h
  · exact sk (NZ.within L _ d ho) _ _ _ _ h
  split at h
  · exact sk (NZ.bind he fun a=>NZ.bind (NZ.must L _) fun _=>NZ.ok _) _ _ _ _ h
  · exact NZ.no L 3 zak _ _ _ _ h
 have hw:NZ (qbl L d e1 o1):=by
  intro m n c a h;unfold qbl at h
  split at h
  · split at h
    · exact sk (NZ.within L _ d ho) _ _ _ _ h
    split at h
    · exact sk (NZ.lay L _) _ _ _ _ h
    split at h
    · exact sk (NZ.lay L _) _ _ _ _ h
    split at h
    · exact sk (NZ.lay L _) _ _ _ _ h
    · exact NZ.no L 3 zak _ _ _ _ h
  · exact NZ.bind NZ.skip (fun _=>NZ.bind (NZ.must L _) fun _=>NZ.bind he fun a=>NZ.bind (NZ.must L _) fun _=>NZ.lay L _) _ _ _ _ h
 intro m n c a h;unfold oneP at h
 split at h
 · exact sk (NZ.lay L _) _ _ _ _ h
 split at h
 · exact sk (NZ.lay L _) _ _ _ _ h
 split at h
 · exact sk (NZ.lay L _) _ _ _ _ h
 split at h
 · exact hs _ _ _ _ h
 split at h
 · exact hw _ _ _ _ h
 · exact NZ.no L 3 zak _ _ _ _ h
theorem NZ.exprD:∀ D,NZ (exprD L D).1∧NZ (exprD L D).2
 | 0=>⟨NZ.no L 14 zak,NZ.no L 14 zak⟩
 | D+1=>by
  have:=NZ.exprD D
  have ho:=NZ.one L (16-D) this.1 this.2
  exact⟨NZ.or L ho,ho⟩
theorem NZ.loop {st:PM Int} (hs:NZ st):∀ g fi la acc m n c a,qam st g fi la acc m n=.error (c,a)→c≠0
 | 0,fi,la,acc,m,n,c,a,h=>by simp[qam] at h
 | g+1,fi,la,acc,m,n,c,a,h=>by
  rw[qam] at h
  split at h
  · next e hp =>
    simp only[Except.error.injEq] at h;subst h;exact hs _ _ _ _ hp
  · split at h
    · simp at h
    split at h
    · exact NZ.loop hs g _ _ _ _ _ _ _ h
    · exact NZ.loop hs g _ _ _ _ _ _ _ h
theorem NZ.blockD:∀ D,NZ (blockD L D)
 | 0=>NZ.no L 14 zak
 | D+1=>by
  intro m n c a h;exact NZ.loop (NZ.stmt L (NZ.exprD L (D+1)).1 (NZ.braced L (NZ.blockD D))) _ _ _ _ _ _ _ _ h
theorem parse_nz (c a:Int) (h:qcd L=.error (c,a)):c≠0:=by
 unfold qcd at h
 by_cases he:qdQ L=true
 · rw[if_pos he] at h
   unfold progP at h
   split at h
   · next e hp =>
     simp only[Except.error.injEq] at h;subst h;exact NZ.bind (NZ.blockD L 16) (fun f=>NZ.bind (NZ.of L 0) fun _=>NZ.ok _) _ _ _ _ hp
   · simp at h
 · rw[if_neg he] at h
   simp at h
   omega
end
def qaX (n:Nat):List Int→List Nd→List Nd
 | a::b::r,acc=>qaX n (b::r) (setNext acc (a.toNat-n) b)
 | _,acc=>acc
theorem qex (l:List Nd) (j:Nat) (v:Int):(setNext l j v).length=l.length:=by simp[setNext]
theorem setNext_left (a b:List Nd) (j:Nat) (v:Int) (h:j<a.length):setNext (a++b) j v=setNext a j v++b:=by
 unfold setNext
 induction a generalizing j with
 | nil=>simp at h
 | cons z a ih =>
  cases j with
  | zero=>simp
  | succ j=>simp only[List.cons_append,List.modify_succ_cons];rw[ih j zbn]
theorem qcP (n:Nat):∀ (l:List Int) (acc:List Nd),(qaX n l acc).length=acc.length
 | [],acc=>rfl
 | [a],acc=>rfl
 | a::b::r,acc=>by rw[qaX,qcP n (b::r),qex]
theorem qcu (n:Nat) (i:Int) (ns:List Nd):∀ (l:List Int) (acc:List Nd) (hl:l≠[]),(∀ x∈l,(n:Int)≤x∧x<(n:Int)+acc.length) →
  qaX n (l++[i]) (acc++ns)=setNext (qaX n l acc++ns) ((l.getLast hl).toNat-n) i
 | [],acc,hl,_=>absurd rfl hl
 | [a],acc,_,h=>rfl
 | a::b::r,acc,_,h=>by
  have ha:=h a zaj
  have e:qaX n (a::b::r++[i]) (acc++ns)=qaX n (b::r++[i]) (setNext (acc++ns) (a.toNat-n) b):=rfl
  rw[e,setNext_left _ _ _ _ zac,qcu n i ns (b::r) _ zaj (fun x hx=>by rw[qex];exact h x (by simp[List.mem_cons] at hx ⊢;exact Or.inr hx))]
  rfl
def blockR (st:PM Int):Nat→List Int→List Nd→Nat→Nat→Except (Int × Int) (List Int × Nat × List Nd)
 | 0,l,acc,m,_=>.ok (l,m,acc)
 | g+1,l,acc,m,n=>match st m (n+acc.length) with
  | .error e=>.error e
  | .ok (i,m1,ns)=>if i=-1 then .ok (l,m1,acc++ns) else blockR st g (l++[i]) (acc++ns) m1 n
def qdB:List Int→Int
 | []=>-1
 | a::_=>a
theorem qfq (st:PM Int) (hok:∀ m n v m1 ns,st m n=.ok (v,m1,ns)→(v=-1∧m1=m∧ns=[])∨(m<m1∧v+1=(n:Int)+ns.length∧0<ns.length)) :
  ∀ (g:Nat) (l:List Int) (acc:List Nd) (m n:Nat),(∀ x∈l,(n:Int)≤x∧x<(n:Int)+acc.length) →
  qam st g (qdB l) (l.getLastD (-1)) (qaX n l acc) m n=match blockR st g l acc m n with
   | .error e=>.error e
   | .ok (l',m',acc')=>.ok (qdB l',m',qaX n l' acc')
 | 0,l,acc,m,n,h=>rfl
 | g+1,l,acc,m,n,h=>by
  rw[qam,blockR,qcP]
  cases hs:st m (n+acc.length) with
  | error e=>rfl
  | ok v =>
   obtain⟨i,m1,ns⟩:=v
   dsimp only;have hk:=hok _ _ _ _ _ hs
   by_cases hi:i=-1
   · rw[if_pos hi,if_pos hi]
     rcases hk with ⟨_,_,rfl⟩ | ⟨_,h2,_⟩
     · simp
     · omega
   · rw[if_neg hi,if_neg hi]
     have hv:(n:Int)≤i∧i<(n:Int)+(acc++ns).length:=by
      rcases hk with ⟨h1,_⟩ | ⟨_,h2,h3⟩
      · exact absurd h1 hi
      · simp only[List.length_append];omega
     have hall:∀ x∈l++[i],(n:Int)≤x∧x<(n:Int)+(acc++ns).length:=by
      intro x hx;rcases List.mem_append.1 hx with hx | hx
      · have:=h x hx;simp only[List.length_append];omega
      · simp at hx;subst hx;exact hv
     have ih:=qfq st hok g (l++[i]) (acc++ns) m1 n hall
     cases l with
     | nil =>
      rw[if_pos (show qdB []=-1 from rfl)];exact ih
     | cons a r =>
      have ha:=h a zaj;rw[if_neg (by show ¬ a=-1;omega)];rw[qcu n i ns (a::r) acc zaj h] at ih
      have e1:qdB (a::r++[i])=qdB (a::r):=rfl
      have e2:(a::r++[i]).getLastD (-1)=i:=by rw[List.getLastD_eq_getLast?,List.getLast?_concat];rfl
      rw[e1,e2] at ih
      have e3:(a::r).getLastD (-1)=(a::r).getLast zaj:=by rw[List.getLastD_eq_getLast?,List.getLast?_eq_some_getLast zaj];rfl
      rw[e3];exact ih
end Go.Proofs.YtpnabjopfpdkhaaGreatDoor
