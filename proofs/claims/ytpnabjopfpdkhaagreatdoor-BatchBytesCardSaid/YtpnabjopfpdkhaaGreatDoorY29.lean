/- Lemmas. -/
import Derived.Test.YtpnabjopfpdkhaaGreatDoorY03
import Derived.Test.YtpnabjopfpdkhaaGreatDoorY28
set_option linter.all false
set_option maxHeartbeats 2000000
namespace Go.Proofs.YtpnabjopfpdkhaaGreatDoor
open Tryz RowKit
attribute [go_sem] more_more Array.size_append
def qcl (l:List (Tok × Nat)):Toks:=l.map fun t=>(t.1,(t.2:Int))
def toksOf_length (l:List (Tok × Nat)):(qcl l).length=l.length:=by simp[qcl]
def toksOf_cells (l:List (Tok × Nat)):qbt (qcl l)=qat l:=by
 induction l with
 | nil=>rfl
 | cons t l ih =>
  have e1:qbt (qcl (t::l))=tkL (t.1,(t.2:Int))++qbt (qcl l):=rfl;have e2:qat (t::l)=[.int .i64 t.1.k,.int .i64 (t.2:Int),.string t.1.s,.int .i64 t.1.i]++qat l:=rfl;rw[e1,e2,ih];rfl
def qaY (s:List UInt8):Except (Int × Int) (List Nd × Int) :=
 if (lexF s).2.1=0 then qcn (qcl (lexF s).1) else .error ((lexF s).2.1,((lexF s).2.2:Int))
def lexG_len (s:List UInt8):∀ (g k:Nat) (acc l:List (Tok × Nat)) (x:Nat),k<=s.length->s.length+1<=k+g->acc.length<=1024->lexG s g k acc=(l,0,x)->0<l.length/\l.length<=1025
 | 0,k,acc,l,x,hk,hg,_,_=>by omega
 | g+1,k,acc,l,x,hk,hg,ha,h=>by
  rw[lexG] at h
  split at h
  . simp only[Prod.mk.injEq] at h;obtain⟨rfl,_,_⟩:=h;simp;omega
  split at h
  . rename_i h1 h2;simp only[Prod.mk.injEq] at h;exact absurd h.2.1 h2
  split at h
  . simp only[Prod.mk.injEq] at h;omega
  . rename_i h1 h2 h3;have hd:0<(s.drop (k+skipL false (s.drop k))).length:=zg;obtain⟨r,n1,er,hr⟩:∃ r n1 er,oneF (s.drop (k+skipL false (s.drop k)))=(r,n1,er):=⟨_,_,_,rfl⟩
    rw[hr] at h h2;dsimp only at h h2;have h2':er=0:=(by simpa using h2)
    subst h2';have hb:=oneF_bd _ r n1 hd hr;simp only[List.length_drop] at hb;exact lexG_len s g _ _ l x Y Y zg h
def lexF_len (s:List UInt8) (h:(lexF s).2.1=0):0<(lexF s).1.length/\(lexF s).1.length<=1025:=by
 unfold lexF at h ⊢
 split at h
 . simp at h
 . rename_i hs;rw[if_neg hs];obtain⟨l,e,x,hx⟩:∃ l e x,lexG s (s.length+1) 0 []=(l,e,x):=⟨_,_,_,rfl⟩
   rw[hx] at h ⊢;dsimp only at h ⊢;subst h;exact lexG_len s _ 0 [] l x (Nat.zero_le _) Y zy hx
def toks_at {w:World} {base g cap n:Nat} {l:List (Tok × Nat)} (h:w.ownsRow base 186 4 (.slice (some ⟨g,0,none⟩) n cap) n (qat l)) (hn:n=l.length):ToksAt g 0 (qcl l) w:=by
 intro j hj;have hc:=h.cells (g:=g) rfl;rw[<-toksOf_cells] at hc;obtain⟨h1,h2,h3,h4⟩:=qfy (qcl l) j hj
 have e:∀ i v,(qbt (qcl l))[i]?=some v->w.cell? ⟨g,i,none⟩=some v:=fun i v hi=>by
  have:=hc i v hi
  rwa [Addr.add_lit,Nat.zero_add] at this
 refine ⟨?_,?_,?_,?_⟩
 . rw[Nat.zero_add];exact e _ _ h1
 . rw[Nat.zero_add];exact e _ _ h2
 . rw[Nat.zero_add];exact e _ _ h3
 . rw[Nat.zero_add];exact e _ _ h4
def own_swap {w:World} {o o':Obj} {d d2:Nat} {os os2:Array Obj} {base:Nat} {e:TypeId} {size:Nat} {v:Value} {n:Nat} {xs:List Value} (h:(more (more (w.alloc o) d os) d2 os2).ownsRow base e size v n xs) (hb:w.heap.size<base):(more (w.alloc o') d2 (os++os2)).ownsRow base e size v n xs:=by
 refine h.kept (row:=some w.heap.size) ⟨rfl,rfl,rfl,by simp only[more_size,World.size_alloc,Array.size_append];omega,fun k hk hne=>?_⟩ (Or.inr fun e=>by have:=(h.lt _ e).1;omega);have hne:k≠w.heap.size:=fun e=>hne (by rw[e])
 simp only[more,World.alloc,Array.append_assoc];simp only[Array.getElem?_append,Array.size_push,Array.getElem?_push,if_neg hne]
def qdX (s:ByteArray) (r:Except (Int × Int) (List Nd × Int)) (hr:qaY s.data.toList=r) (w:World):Calls prog 84 #[.string s] w (qdi w r):=by
 obtain⟨l,e,x,hx⟩:∃ l e x,lexF s.data.toList=(l,e,x):=⟨_,_,_,rfl⟩
 unfold qaY at hr;have hlen:=lexF_len s.data.toList;rw[hx] at hr hlen;dsimp only at hr hlen;have T:=J (qfJ s _ hx);clear hx;by_cases he:e=0
 . subst he;rw[if_pos rfl] at hr;obtain⟨h0,h1⟩:=hlen rfl;have HR:=J hr;have HL:=J (And.intro h0 h1);clear hr hlen h0 h1;go_enter func84,ntmps84;go_wp2_with fail
   go_at_call 96
   refine (T.out _).mono ?_;rintro e w1 (⟨_,g,cap,he,hrow,hx⟩ | ⟨h2,_⟩)
   . dsimp only at he hrow;subst he;obtain⟨d,os,rfl⟩:=hx;have TA:=J (toks_at hrow rfl);clear hrow;go_wp2_with fail
     go_at_call 97
     have P:=parse_any (qcl l) g 0 cap (by rw[toksOf_length];exact HL.out.1) (by rw[toksOf_length];have:=HL.out.2;omega) _ TA.out _ HR.out;rw[toksOf_length] at P;refine P.mono ?_;clear P;rcases r with ⟨c1,a1⟩ | ⟨ns,f1⟩
     . rintro e w2 ⟨he,d2,os2,rfl⟩;subst he;go_wp2_with fail;exact bodyPost_ret (v:=.tuple #[.agg #[.slice none 0 0,.int .i64 0],.int .i64 c1,.int .i64 a1]) (by simp[results,results84,go_sem]) rfl ⟨rfl,zf⟩
     . rintro e w2 ⟨nv,he,hrow2,hx2⟩
       obtain⟨len,cc,pp,rfl⟩:∃ len cc pp,nv=.slice pp len cc:=by
        rcases Go.Joins.ownsRow_forms hrow2 with ⟨rfl,h0⟩ | ⟨g1,c,rfl⟩
        . exact⟨_,_,_,rfl⟩
        . exact⟨_,_,_,rfl⟩
       have HROW:=J hrow2;obtain⟨d2,os2,rfl⟩:=hx2;subst he;clear hrow2;go_wp2_with fail;refine bodyPost_ret (v:=.tuple #[.agg #[.slice pp len cc,.int .i64 f1],.int .i64 0,.int .i64 0]) (by simp[results,results84,go_sem]) rfl ⟨.slice pp len cc,rfl,?_,zf⟩;exact(own_swap HROW.out zck).mono zck
   . exact absurd rfl h2
 . rw[if_neg he] at hr;have he2:(e !=0)=true:=by simpa using he
   have HR:=J hr;have HE:=J he;clear hr hlen he;go_enter func84,ntmps84;go_wp2_with fail
   go_at_call 96
   refine (T.out _).mono ?_;rintro e' w1 (⟨h0,_⟩ | ⟨_,he,hx⟩)
   . exact absurd h0 HE.out
   . dsimp only at he;subst he;obtain⟨d,os,rfl⟩:=hx;go_wp2_with fail;have:=HR.out;subst this;exact bodyPost_ret (v:=.tuple #[.agg #[.slice none 0 0,.int .i64 0],.int .i64 e,.int .i64 (x:Int)]) (by simp[results,results84,go_sem]) rfl ⟨rfl,zf⟩
def Tidy (z:Nd):Prop:=z.s.size<=4096/\z.t.size<=4096/\0<=z.i/\z.i<=9223372036854775807
def qcj (t:Tok):Prop:=t.s.size<=4096/\0<=t.i/\t.i<=9223372036854775807
def e0:(⟨#[]⟩:ByteArray).size<=4096:=by decide
def z0:(0:Int)<=0:=by decide
def z1:(0:Int)<=9223372036854775807:=by decide
def oo0:(0:Int)<=1:=by decide
def oo1:(1:Int)<=9223372036854775807:=by decide
def AllP {α:Type} (V:α->Prop) (p:PM α):Prop:=∀ m n v m1 ns,p m n=.ok (v,m1,ns)->V v/\∀ z∈ns,Tidy z
def AllP.bind {α β:Type} {U:α->Prop} {V:β->Prop} {p:PM α} {f:α->PM β} (hp:AllP U p) (hf:∀ a,U a->AllP V (f a)):AllP V (pbind p f):=by
 intro m n v m1 ns h;obtain⟨a,m2,l1,l2,h1,h2,rfl⟩:=qdf h;obtain⟨u,q1⟩:=hp _ _ _ _ _ h1;obtain⟨w,q2⟩:=hf a u _ _ _ _ _ h2;exact⟨w,fun z hz=>(List.mem_append.1 hz).elim (q1 z) (q2 z)⟩
def AllP.ok {α:Type} {V:α->Prop} {v:α} (h:V v):AllP V (pok v):=by
 intro m n v m1 ns h;simp[pok] at h;obtain⟨rfl,_,rfl⟩:=h;exact⟨‹_›,fun z hz=>by cases hz⟩
def AllP.no {α:Type} {V:α->Prop} (L:Toks) (e:Int):AllP V (pno (α:=α) L e):=by intro m n v m1 ns h;simp[pno] at h
def Any {α:Type}:α->Prop:=fun _=>True
def qcX (k a b c x:Int):Tidy ⟨k,a,b,c,x,0,⟨#[]⟩,⟨#[]⟩⟩:=⟨e0,e0,z0,z1⟩
section
variable {L:Toks}
def AllP.skip:AllP Any skipP:=by intro m n v m1 ns h;simp[skipP] at h;obtain⟨_,rfl⟩:=h;exact⟨trivial,fun z hz=>by cases hz⟩
def AllP.lay {z:Nd} (hz:Tidy z):AllP Any (layP L z):=by
 intro m n v m1 ns h;unfold layP at h;split at h
 . simp at h
 . simp at h;obtain⟨_,_,rfl⟩:=h;exact⟨trivial,fun y hy=>by simp at hy;subst hy;exact hz⟩
def AllP.deep (d:Nat):AllP Any (deepP L d):=by
 intro m n v m1 ns h;unfold deepP at h;split at h
 . simp at h
 . simp at h;obtain⟨_,rfl⟩:=h;exact⟨trivial,fun z hz=>by cases hz⟩
def AllP.takes (s:ByteArray):AllP Any (takesP L s):=by
 intro m n v m1 ns h;unfold takesP at h;split at h<;>(simp at h;obtain⟨_,_,rfl⟩:=h;exact⟨trivial,fun z hz=>by cases hz⟩)
def AllP.must1 (s:ByteArray):AllP Any (must1 L s):=by
 intro m n v m1 ns h;unfold Go.Proofs.YtpnabjopfpdkhaaGreatDoor.must1 at h;split at h
 . simp at h;obtain⟨_,rfl⟩:=h;exact⟨trivial,fun z hz=>by cases hz⟩
 . simp at h
def AllP.must:∀ ss,AllP Any (mustP L ss)
 | []=>AllP.ok trivial
 | s::r=>AllP.bind (AllP.must1 s) fun _ _=>AllP.must r
variable (hL:∀ m,qcj (tk L m).1)
include hL
def AllP.of (k:Int):AllP qcj (ofP L k):=by
 intro m n v m1 ns h;unfold ofP at h;split at h
 . simp at h;obtain⟨rfl,_,rfl⟩:=h;exact⟨hL m,fun z hz=>by cases hz⟩
 . simp at h
def AllP.turns:AllP (fun i:Int=>0<=i/\i<=9223372036854775807) (qbo L):=by
 have h2:AllP (fun i:Int=>0<=i/\i<=9223372036854775807) (pbind (ofP L 2) (fun t=>pok t.i)):=AllP.bind (AllP.of hL 2) fun t ht=>AllP.ok ht.2
 intro m n v m1 ns h;unfold qbo at h;split at h
 . simp at h
 . exact h2 _ _ _ _ _ h
omit hL in
def AllP.oneOf {ss:List ByteArray} (hs:∀ s∈ss,s.size<=4096):AllP (fun o:Option ByteArray=>∀ s,o=some s->s.size<=4096) (qaP L ss):=by
 intro m n v m1 ns h;unfold qaP at h;split at h
 . simp at h;obtain⟨rfl,_,rfl⟩:=h;exact⟨fun s e=>(by cases e),fun z hz=>(by cases hz)⟩
 . rename_i s hf;simp at h;obtain⟨rfl,_,rfl⟩:=h;exact⟨fun s' e=>(by cases e;exact hs _ (List.mem_of_find?_eq_some hf)),fun z hz=>(by cases hz)⟩
variable {ex br:PM Int} (he:AllP Any ex) (hb:AllP Any br)
include he
def AllP.names (k:Int):AllP Any (qbE L k ex) :=
 AllP.bind AllP.skip fun _ _=>AllP.bind (AllP.of hL 1) fun t ht=>AllP.bind (AllP.must _) fun _ _=>AllP.bind he fun _ _=>AllP.bind (AllP.must _) fun _ _=>AllP.lay ⟨ht.1,e0,z0,z1⟩
omit hL in
def AllP.put:AllP Any (putP L ex) :=
 AllP.bind AllP.skip fun _ _=>AllP.bind he fun _ _=>AllP.bind (AllP.must _) fun _ _=>AllP.bind he fun _ _=>AllP.bind (AllP.must _) fun _ _=>AllP.lay (qcX _ _ _ _ _)
omit hL in
def AllP.simple (k:Int):AllP Any (qaH L k ex) :=
 AllP.bind AllP.skip fun _ _=>AllP.bind he fun _ _=>AllP.bind (AllP.must _) fun _ _=>AllP.lay (qcX _ _ _ _ _)
include hb
omit hL in
def AllP.when:AllP Any (whenP L ex br):=by
 refine AllP.bind AllP.skip fun _ _=>AllP.bind he fun _ _=>AllP.bind hb fun _ _=>AllP.bind (AllP.takes _) fun e _=>?_
 cases e
 . exact AllP.lay (qcX _ _ _ _ _)
 . exact AllP.bind hb fun _ _=>AllP.lay ⟨e0,e0,oo0,oo1⟩
def AllP.each:AllP Any (eachP L ex br) :=
 AllP.bind AllP.skip fun _ _=>AllP.bind (AllP.of hL 1) fun s hs=>AllP.bind (AllP.must _) fun _ _=>AllP.bind (AllP.of hL 1) fun t ht=>AllP.bind (AllP.must _) fun _ _=>AllP.bind he fun _ _=>AllP.bind (AllP.must _) fun _ _=>AllP.bind (AllP.turns hL) fun i hi=>AllP.bind (AllP.must _) fun _ _=>AllP.bind hb fun _ _=>AllP.lay ⟨hs.1,ht.1,hi.1,hi.2⟩
omit he in
def AllP.repeat':AllP Any (qdM L br) :=
 AllP.bind AllP.skip fun _ _=>AllP.bind (AllP.turns hL) fun i hi=>AllP.bind hb fun _ _=>AllP.lay ⟨e0,e0,hi.1,hi.2⟩
def AllP.stmt:AllP Any (stmtP L ex br):=by
 have no:AllP Any (pok (-1:Int)):=AllP.ok trivial;intro m n v m1 ns h;unfold stmtP at h
 split at h
 . exact no _ _ _ _ _ h
 split at h
 . exact AllP.names hL he _ _ _ _ _ _ h
 split at h
 . exact AllP.names hL he _ _ _ _ _ _ h
 split at h
 . exact AllP.put he _ _ _ _ _ h
 split at h
 . exact AllP.simple he _ _ _ _ _ _ h
 split at h
 . exact AllP.simple he _ _ _ _ _ _ h
 split at h
 . exact AllP.simple he _ _ _ _ _ _ h
 split at h
 . exact AllP.when he hb _ _ _ _ _ h
 split at h
 . exact AllP.each hL he hb _ _ _ _ _ h
 split at h
 . exact AllP.repeat' hL hb _ _ _ _ _ h
 . exact no _ _ _ _ _ h
omit hL he hb
def AllP.two {cl:PM Int} (hc:AllP Any cl) {ss:List ByteArray} (hs:∀ s∈ss,s.size<=4096):∀ g a,AllP Any (qaA L cl ss g a)
 | 0,a=>AllP.ok trivial
 | g+1,a=>by
  rw[qaA];refine AllP.bind (AllP.oneOf hs) fun o ho=>?_
  cases o with
  | none=>exact AllP.ok trivial
  | some s=>exact AllP.bind hc fun b _=>AllP.bind (AllP.lay ⟨ho s rfl,e0,z0,z1⟩) fun a' _=>AllP.two hc hs g a'
def AllP.twoP {cl:PM Int} (hc:AllP Any cl) {ss:List ByteArray} (hs:∀ s∈ss,s.size<=4096):AllP Any (twoP L cl ss):=AllP.bind hc fun a _=>AllP.two hc hs _ a
def qcI:(∀ s∈qcA,s.size<=4096)/\(∀ s∈ssSum,s.size<=4096)/\(∀ s∈qdZ,s.size<=4096)/\(∀ s∈ssIs,s.size<=4096)/\(∀ s∈ssAnd,s.size<=4096)/\(∀ s∈ssOr,s.size<=4096):=by decide
def AllP.comp {o:PM Int} (ho:AllP Any o):AllP Any (compP L o):=by
 have hj:AllP Any (joinP L o):=AllP.twoP (AllP.twoP (AllP.twoP ho qcI.1) qcI.2.1) qcI.2.2.1;refine AllP.bind hj fun a _=>AllP.bind (AllP.oneOf qcI.2.2.2.1) fun o ho=>?_
 cases o with
 | none=>exact AllP.ok trivial
 | some s=>exact AllP.bind hj fun b _=>AllP.lay ⟨ho s rfl,e0,z0,z1⟩
def AllP.or {o:PM Int} (ho:AllP Any o):AllP Any (orP L o):=AllP.twoP (AllP.twoP (AllP.comp ho) qcI.2.2.2.2.1) qcI.2.2.2.2.2
def AllP.within (k:Int) (d:Nat) {o1:PM Int} (ho:AllP Any o1):AllP Any (qaX L k d o1):=AllP.bind (AllP.deep _) fun _ _=>AllP.bind ho fun _ _=>AllP.lay (qcX _ _ _ _ _)
include hL
def AllP.one (d:Nat) {e1 o1:PM Int} (he:AllP Any e1) (ho:AllP Any o1):AllP Any (oneP L d e1 o1):=by
 have sk:∀ {p:PM Int},AllP Any p->AllP Any (pbind skipP fun _=>p):=fun hp=>AllP.bind AllP.skip fun _ _=>hp
 have hs:AllP Any (qbk L d e1 o1):=by
  intro m n v m1 ns h;unfold qbk at h
  split at h
  . exact sk (AllP.within _ d ho) _ _ _ _ _ h
  split at h
  . exact sk (AllP.bind he fun _ _=>AllP.bind (AllP.must _) fun _ _=>AllP.ok trivial) _ _ _ _ _ h
  . exact AllP.no L _ _ _ _ _ _ h
 have hw:AllP Any (qbj L d e1 o1):=by
  intro m n v m1 ns h;unfold qbj at h
  split at h
  . split at h
    . exact sk (AllP.within _ d ho) _ _ _ _ _ h
    split at h
    . exact sk (AllP.lay (qcX _ _ _ _ _)) _ _ _ _ _ h
    split at h
    . exact sk (AllP.lay ⟨e0,e0,oo0,oo1⟩) _ _ _ _ _ h
    split at h
    . exact sk (AllP.lay (qcX _ _ _ _ _)) _ _ _ _ _ h
    . exact AllP.no L _ _ _ _ _ _ h
  . exact AllP.bind AllP.skip (fun _ _=>AllP.bind (AllP.must _) fun _ _=>AllP.bind he fun _ _=>AllP.bind (AllP.must _) fun _ _=>AllP.lay (qcX _ _ _ _ _)) _ _ _ _ _ h
 intro m n v m1 ns h;have hm:=hL m;unfold oneP at h
 split at h
 . exact sk (AllP.lay ⟨e0,e0,hm.2.1,hm.2.2⟩) _ _ _ _ _ h
 split at h
 . exact sk (AllP.lay ⟨hm.1,e0,z0,z1⟩) _ _ _ _ _ h
 split at h
 . exact sk (AllP.lay ⟨hm.1,e0,z0,z1⟩) _ _ _ _ _ h
 split at h
 . exact hs _ _ _ _ _ h
 split at h
 . exact hw _ _ _ _ _ h
 . exact AllP.no L _ _ _ _ _ _ h
def AllP.exprD:∀ D,AllP Any (exprD L D).1/\AllP Any (exprD L D).2
 | 0=>⟨AllP.no L _,AllP.no L _⟩
 | D+1=>by
  have:=AllP.exprD D;have ho:=AllP.one hL (16-D) this.1 this.2;exact⟨AllP.or ho,ho⟩
omit hL in
def tidy_next {ns:List Nd} (h:∀ z∈ns,Tidy z) (j:Nat) (v:Int):∀ z∈setNext ns j v,Tidy z:=by
 intro z hz;obtain⟨i,hi⟩:=List.getElem?_of_mem hz;unfold setNext at hi;rw[List.getElem?_modify] at hi
 cases hq:ns[i]? with
 | none=>rw[hq] at hi;simp at hi
 | some y =>
  have hy:=h y (List.mem_of_getElem? hq);rw[hq] at hi;by_cases hji:j=i
  . simp[hji] at hi;subst hi;exact hy
  . simp[hji] at hi;subst hi;exact hy
omit hL in
def AllP.loop {st:PM Int} (hs:AllP Any st):∀ g fi la acc m n v m1 ns,(∀ z∈acc,Tidy z)->qan st g fi la acc m n=.ok (v,m1,ns)->∀ z∈ns,Tidy z
 | 0,fi,la,acc,m,n,v,m1,ns,ha,h=>by simp[qan] at h;obtain⟨_,_,rfl⟩:=h;exact ha
 | g+1,fi,la,acc,m,n,v,m1,ns,ha,h=>by
  rw[qan] at h
  cases hst:st m (n+acc.length) with
  | error e=>rw[hst] at h;simp at h
  | ok x =>
   obtain⟨i,m2,ns2⟩:=x;rw[hst] at h;dsimp only at h;have h1:=(hs _ _ _ _ _ hst).2;have h2:∀ z∈acc++ns2,Tidy z:=fun z hz=>(List.mem_append.1 hz).elim (ha z) (h1 z)
   split at h
   . simp at h;obtain⟨_,_,rfl⟩:=h;exact fun z hz=>h2 z (by simpa using hz)
   split at h
   . exact AllP.loop hs g _ _ _ _ _ _ _ _ h2 h
   . exact AllP.loop hs g _ _ _ _ _ _ _ _ (tidy_next h2 _ _) h
def AllP.blockD:∀ D,AllP Any (blockD L D)
 | 0=>AllP.no L _
 | D+1=>fun m n v m1 ns h=>⟨trivial,AllP.loop (AllP.stmt hL (AllP.exprD hL (D+1)).1 (AllP.bind (AllP.must _) fun _ _=>AllP.bind (AllP.blockD D) fun _ _=>AllP.bind (AllP.must _) fun _ _=>AllP.ok trivial)) _ _ _ _ _ _ _ _ _ (fun z hz=>by cases hz) h⟩
def prog_tidy {ns:List Nd} {f:Int} (h:progP L=.ok (ns,f)):∀ z∈ns,Tidy z:=by
 have hp:AllP Any (pbind (Go.Proofs.YtpnabjopfpdkhaaGreatDoor.blockD L 16) (fun f=>pbind (ofP L 0) fun _=>pok f)):=AllP.bind (AllP.blockD hL 16) fun _ _=>AllP.bind (AllP.of hL 0) fun _ _=>AllP.ok trivial
 unfold progP at h
 split at h
 . cases h
 . rename_i v m l hq;cases h;exact(hp _ _ _ _ _ hq).2
end
def qaM:qcj tok0:=⟨zw,zw,zw⟩
def qdH:∀ (n:Nat) (l acc:List UInt8),l.length<=n->qcj (textG l acc).1
 | _,[],acc,_=>qaM
 | 0,c::l,acc,h=>absurd h zy
 | n+1,c::l,acc,h=>by
  unfold textG;simp only[List.length_cons] at h;split
  . split
    . exact qaM
    . exact⟨by show acc.toArray.size<=4096;simp;omega,z0,z1⟩
  split
  . exact qaM
  split
  . exact qdH n l _ Y
  . split
    . exact qaM
    . rename_i d l2;simp only[List.length_cons] at h;split
      . exact qaM
      . exact qdH n l2 _ Y
def numG_le:∀ (l:List UInt8) (v r:Int),0<=v->(∀ c∈l,48<=c.toNat)->numG v l=some r->0<=r/\r<=9223372036854775807
 | [],v,r,hv,_,h=>by
  unfold numG at h;split at h
  . cases h
  . cases h;omega
 | c::l,v,r,hv,hc,h=>by
  unfold numG at h;split at h
  . cases h
  . have:=hc c zy;exact numG_le l _ r Y (fun x hx=>hc x (by simp[hx])) h
def spanN_all (p:Int->Bool):∀ (l:List UInt8),∀ c∈l.take (spanN p l),p (c.toNat:Int)=true
 | [],c,h=>by simp[spanN] at h
 | x::l,c,h=>by
  unfold spanN at h
  split at h
  . rename_i hx;simp only[List.take_succ_cons,List.mem_cons] at h;rcases h with rfl | h
    . exact hx
    . exact spanN_all p l c h
  . simp at h
def oneF_tidy (l:List UInt8) (h:l.length<=4096):qcj (oneF l).1:=by
 have nm:∀ t:ByteArray,t.size<=4096->qcj (nameF t).1:=by
  intro t ht;unfold nameF;split
  . exact⟨ht,z0,z1⟩
  split
  . exact qaM
  . exact⟨ht,z0,z1⟩
 cases l with
 | nil=>exact qaM
 | cons c l =>
  rw[oneF];simp only[List.length_cons] at h;split
  . refine nm _ ?_;show((c::l).take _).toArray.size<=4096
    simp;omega
  split
  . split
    . exact qaM
    . dsimp only;unfold numF numE;split
      . exact qaM
      . rename_i v hv
        have:=numG_le _ 0 v (Int.le_refl _) (fun x hx=>by
         have:=spanN_all qah (c::l) x (by simpa using hx);unfold qah at this;have:=of_decide_eq_true this
         omega) hv
        exact⟨e0,this.1,this.2⟩
  split
  . exact qdH l.length l [] (Nat.le_refl _)
  . unfold signF;split
    . rename_i p hp;have hm:=List.mem_of_find?_eq_some hp;have:∀ p∈twoL,p.size<=4096:=by decide
      exact⟨this p hm,z0,z1⟩
    . dsimp only;split
      . exact⟨by show(1:Nat)<=4096;decide,z0,z1⟩
      . exact qaM
def lexG_tidy (s:List UInt8) (hs:s.length<=4096):∀ (g k:Nat) (acc:List (Tok × Nat)),(∀ t∈acc,qcj t.1)->∀ t∈(lexG s g k acc).1,qcj t.1
 | 0,k,acc,ha,t,ht=>by simp[lexG] at ht
 | g+1,k,acc,ha,t,ht=>by
  rw[lexG] at ht
  split at ht
  . simp only[List.mem_append,List.mem_singleton] at ht;rcases ht with h | rfl
    . exact ha t h
    . exact qaM
  split at ht
  . cases ht
  split at ht
  . cases ht
  . refine lexG_tidy s hs g _ _ (fun u hu=>?_) t ht;simp only[List.mem_append,List.mem_singleton] at hu;rcases hu with h | rfl
    . exact ha u h
    . exact oneF_tidy _ zg
def lexF_tidy (s:List UInt8):∀ t∈(lexF s).1,qcj t.1:=by
 unfold lexF;split
 . intro t ht;cases ht
 . exact lexG_tidy s Y _ _ _ (fun t ht=>by cases ht)
def source_tidy {s:List UInt8} {ns:List Nd} {f:Int} (h:qaY s=.ok (ns,f)):∀ z∈ns,Tidy z:=by
 unfold qaY at h
 split at h
 . unfold qcn at h
   split at h
   . refine prog_tidy (fun m=>?_) h;unfold tk qcl;rw[List.getD_eq_getElem?_getD,List.getElem?_map]
     cases hq:(lexF s).1[m]? with
     | none=>exact qaM
     | some t=>exact lexF_tidy s t (List.mem_of_getElem? hq)
   . cases h
 . cases h
end Go.Proofs.YtpnabjopfpdkhaaGreatDoor
