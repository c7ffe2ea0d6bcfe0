/- Lemmas. -/
import Derived.Test.YtpnabjopfpdkhaaGreatDoorY02
set_option linter.all false
namespace Go.Proofs.YtpnabjopfpdkhaaGreatDoor
open Tryz RowKit
def Fwd {α:Type} (p:PM α):Prop:=∀ m n v m1 ns,p m n=.ok (v,m1,ns)->m<=m1
def Lays (p:PM Int):Prop:=∀ m n v m1 ns,p m n=.ok (v,m1,ns)->v+1=(n:Int)+ns.length/\0<ns.length
def prep_inv {α:Type} {ns:List Nd} {r:PR α} {v:α} {m:Nat} {l:List Nd} (h:prep ns r=.ok (v,m,l)):∃ l1,r=.ok (v,m,l1)/\l=ns++l1:=by
 cases r with
 | error e=>simp[prep] at h
 | ok x=>obtain⟨v',m',l'⟩:=x;simp only[prep,Except.ok.injEq,Prod.mk.injEq] at h;obtain⟨rfl,rfl,rfl⟩:=h;exact⟨_,rfl,rfl⟩
def qdf {α β:Type} {p:PM α} {f:α->PM β} {m n:Nat} {v:β} {m2:Nat} {l:List Nd} (h:pbind p f m n=.ok (v,m2,l)) :
  ∃ a m1 l1 l2,p m n=.ok (a,m1,l1)/\f a m1 (n+l1.length)=.ok (v,m2,l2)/\l=l1++l2:=by
 unfold pbind at h
 cases hp:p m n with
 | error e=>rw[hp] at h;simp at h
 | ok x =>
  obtain⟨a,m1,l1⟩:=x;rw[hp] at h;obtain⟨l2,h1,h2⟩:=prep_inv h;exact⟨a,m1,l1,l2,rfl,h1,h2⟩
def Fwd.bind {α β:Type} {p:PM α} {f:α->PM β} (hp:Fwd p) (hf:∀ a,Fwd (f a)):Fwd (pbind p f):=by
 intro m n v m1 ns h;obtain⟨a,m2,l1,l2,h1,h2,_⟩:=qdf h;exact Nat.le_trans (hp _ _ _ _ _ h1) (hf a _ _ _ _ _ h2)
def Lays.bind {α:Type} {p:PM α} {f:α->PM Int} (hf:∀ a,Lays (f a)):Lays (pbind p f):=by
 intro m n v m1 ns h;obtain⟨a,m2,l1,l2,h1,h2,rfl⟩:=qdf h;have:=hf a _ _ _ _ _ h2;simp only[List.length_append];omega
def Fwd.ok {α:Type} (v:α):Fwd (pok v):=by
 intro m n v m1 ns h;simp[pok] at h;omega
def Fwd.no {α:Type} (L:Toks) (e:Int):Fwd (pno (α:=α) L e):=by intro m n v m1 ns h;simp[pno] at h
section
variable (L:Toks)
def Fwd.skip:Fwd skipP:=by intro m n v m1 ns h;simp[skipP] at h;omega
def Fwd.lay (z:Nd):Fwd (layP L z):=by
 intro m n v m1 ns h;unfold layP at h;split at h
 . simp at h
 . simp at h;omega
def Lays.lay (z:Nd):Lays (layP L z):=by
 intro m n v m1 ns h;unfold layP at h;split at h
 . simp at h
 . simp at h;obtain⟨rfl,_,rfl⟩:=h;simp
def Fwd.deep (d:Nat):Fwd (deepP L d):=by
 intro m n v m1 ns h;unfold deepP at h;split at h
 . simp at h
 . simp at h;omega
def Fwd.takes (s:ByteArray):Fwd (takesP L s):=by
 intro m n v m1 ns h;unfold takesP at h;split at h<;>simp at h<;>omega
def Fwd.must1 (s:ByteArray):Fwd (must1 L s):=by
 intro m n v m1 ns h;unfold Go.Proofs.YtpnabjopfpdkhaaGreatDoor.must1 at h;split at h<;>simp at h<;>omega
def Fwd.must:∀ ss,Fwd (mustP L ss)
 | []=>Fwd.ok ()
 | s::r=>by rw[mustP];exact Fwd.bind (Fwd.must1 L s) fun _=>Fwd.must r
def Fwd.of (k:Int):Fwd (ofP L k):=by
 intro m n v m1 ns h;unfold ofP at h;split at h<;>simp at h<;>omega
def Fwd.oneOf (ss:List ByteArray):Fwd (qaP L ss):=by
 intro m n v m1 ns h;unfold qaP at h;split at h<;>simp at h<;>omega
def Fwd.turns:Fwd (qbo L):=by
 have h2:Fwd (pbind (ofP L 2) (fun t=>pok t.i)):=Fwd.bind (Fwd.of L 2) fun t=>Fwd.ok _
 intro m n v m1 ns h;unfold qbo at h;split at h
 . simp at h
 . exact h2 _ _ _ _ _ h
end
def strict {α:Type} {f:Unit->PM α} (hf:∀ a,Fwd (f a)) {m n:Nat} {v:α} {m1:Nat} {ns:List Nd} (h:pbind skipP f m n=.ok (v,m1,ns)):m<m1:=by
 obtain⟨a,m2,l1,l2,h1,h2,_⟩:=qdf h;have:=hf a _ _ _ _ _ h2;simp[skipP] at h1;omega
def Strong (p:PM Int):Prop:=(∀ m n v m1 ns,p m n=.ok (v,m1,ns)->m<m1)/\Lays p
def Strong.of {f:Unit->PM Int} (hf:∀ a,Fwd (f a)) (hl:∀ a,Lays (f a)):Strong (pbind skipP f):=⟨fun _ _ _ _ _ h=>strict hf h,Lays.bind hl⟩
section
variable {L:Toks} {ex br:PM Int}
def qbd (k:Int) (he:Fwd ex):Strong (qbE L k ex) :=
 Strong.of (fun _=>Fwd.bind (Fwd.of L 1) fun _=>Fwd.bind (Fwd.must L _) fun _=>Fwd.bind he fun _=>Fwd.bind (Fwd.must L _) fun _=>Fwd.lay L _)
  (fun _=>Lays.bind fun _=>Lays.bind fun _=>Lays.bind fun _=>Lays.bind fun _=>Lays.lay L _)
def qdO (he:Fwd ex):Strong (putP L ex) :=
 Strong.of (fun _=>Fwd.bind he fun _=>Fwd.bind (Fwd.must L _) fun _=>Fwd.bind he fun _=>Fwd.bind (Fwd.must L _) fun _=>Fwd.lay L _)
  (fun _=>Lays.bind fun _=>Lays.bind fun _=>Lays.bind fun _=>Lays.bind fun _=>Lays.lay L _)
def qax (k:Int) (he:Fwd ex):Strong (qaH L k ex) :=
 Strong.of (fun _=>Fwd.bind he fun _=>Fwd.bind (Fwd.must L _) fun _=>Fwd.lay L _) (fun _=>Lays.bind fun _=>Lays.bind fun _=>Lays.lay L _)
def qcV (he:Fwd ex) (hb:Fwd br):Strong (whenP L ex br):=by
 refine Strong.of (fun _=>Fwd.bind he fun _=>Fwd.bind hb fun _=>Fwd.bind (Fwd.takes L _) fun e=>?_) (fun _=>Lays.bind fun _=>Lays.bind fun _=>Lays.bind fun e=>?_)
 . cases e
   . exact Fwd.lay L _
   . exact Fwd.bind hb fun _=>Fwd.lay L _
 . cases e
   . exact Lays.lay L _
   . exact Lays.bind fun _=>Lays.lay L _
def qcY (he:Fwd ex) (hb:Fwd br):Strong (eachP L ex br) :=
 Strong.of (fun _=>Fwd.bind (Fwd.of L 1) fun _=>Fwd.bind (Fwd.must L _) fun _=>Fwd.bind (Fwd.of L 1) fun _=>Fwd.bind (Fwd.must L _) fun _=>Fwd.bind he fun _=>Fwd.bind (Fwd.must L _) fun _=>Fwd.bind (Fwd.turns L) fun _=>Fwd.bind (Fwd.must L _) fun _=>Fwd.bind hb fun _=>Fwd.lay L _)
  (fun _=>Lays.bind fun _=>Lays.bind fun _=>Lays.bind fun _=>Lays.bind fun _=>Lays.bind fun _=>Lays.bind fun _=>Lays.bind fun _=>Lays.bind fun _=>Lays.bind fun _=>Lays.lay L _)
def qce (hb:Fwd br):Strong (qdM L br) :=
 Strong.of (fun _=>Fwd.bind (Fwd.turns L) fun _=>Fwd.bind hb fun _=>Fwd.lay L _) (fun _=>Lays.bind fun _=>Lays.bind fun _=>Lays.lay L _)
def stmt_ok (he:Fwd ex) (hb:Fwd br) {m n:Nat} {v:Int} {m1:Nat} {ns:List Nd} (h:stmtP L ex br m n=.ok (v,m1,ns)) :
  (v=-1/\m1=m/\ns=[])\/(m<m1/\v+1=(n:Int)+ns.length/\0<ns.length):=by
 have st:∀ {p:PM Int},Strong p->p m n=.ok (v,m1,ns)->m<m1/\v+1=(n:Int)+ns.length/\0<ns.length:=fun hs h=>⟨hs.1 _ _ _ _ _ h,hs.2 _ _ _ _ _ h⟩
 have no:pok (-1) m n=.ok (v,m1,ns)->v=-1/\m1=m/\ns=[]:=fun h=>by simp[pok] at h;exact⟨h.1.symm,h.2.1.symm,h.2.2⟩
 unfold stmtP at h
 split at h
 . exact Or.inl (no h)
 split at h
 . exact Or.inr (st (qbd _ he) h)
 split at h
 . exact Or.inr (st (qbd _ he) h)
 split at h
 . exact Or.inr (st (qdO he) h)
 split at h
 . exact Or.inr (st (qax _ he) h)
 split at h
 . exact Or.inr (st (qax _ he) h)
 split at h
 . exact Or.inr (st (qax _ he) h)
 split at h
 . exact Or.inr (st (qcV he hb) h)
 split at h
 . exact Or.inr (st (qcY he hb) h)
 split at h
 . exact Or.inr (st (qce hb) h)
 . exact Or.inl (no h)
def Fwd.stmt (he:Fwd ex) (hb:Fwd br):Fwd (stmtP L ex br):=by
 intro m n v m1 ns h;rcases stmt_ok he hb h with ⟨_,rfl,_⟩ | ⟨h1,_⟩
 . exact Nat.le_refl _
 . omega
end
section
variable (L:Toks)
def Fwd.two {cl:PM Int} (hc:Fwd cl) (ss:List ByteArray):∀ g a,Fwd (qaA L cl ss g a)
 | 0,a=>Fwd.ok a
 | g+1,a=>by
  rw[qaA];refine Fwd.bind (Fwd.oneOf L ss) fun o=>?_
  cases o with
  | none=>exact Fwd.ok a
  | some s=>exact Fwd.bind hc fun b=>Fwd.bind (Fwd.lay L _) fun a'=>Fwd.two hc ss g a'
def Fwd.twoP {cl:PM Int} (hc:Fwd cl) (ss:List ByteArray):Fwd (twoP L cl ss):=Fwd.bind hc fun a=>Fwd.two L hc ss _ a
def Fwd.comp {o:PM Int} (ho:Fwd o):Fwd (compP L o):=by
 have hj:Fwd (joinP L o):=Fwd.twoP L (Fwd.twoP L (Fwd.twoP L ho _) _) _;refine Fwd.bind hj fun a=>Fwd.bind (Fwd.oneOf L _) fun o=>?_
 cases o with
 | none=>exact Fwd.ok a
 | some s=>exact Fwd.bind hj fun b=>Fwd.lay L _
def Fwd.or {o:PM Int} (ho:Fwd o):Fwd (orP L o):=Fwd.twoP L (Fwd.twoP L (Fwd.comp L ho) _) _
def Fwd.within (k:Int) (d:Nat) {o1:PM Int} (ho:Fwd o1):Fwd (qaX L k d o1):=Fwd.bind (Fwd.deep L _) fun _=>Fwd.bind ho fun _=>Fwd.lay L _
def Fwd.one (d:Nat) {e1 o1:PM Int} (he:Fwd e1) (ho:Fwd o1):Fwd (oneP L d e1 o1):=by
 have sk:∀ {p:PM Int},Fwd p->Fwd (pbind skipP fun _=>p):=fun hp=>Fwd.bind Fwd.skip fun _=>hp
 have hs:Fwd (qbk L d e1 o1):=by
  intro m n v m1 ns h;unfold qbk at h
  split at h
  . exact sk (Fwd.within L _ d ho) _ _ _ _ _ h
  split at h
  . exact sk (Fwd.bind he fun _=>Fwd.bind (Fwd.must L _) fun _=>Fwd.ok _) _ _ _ _ _ h
  . exact Fwd.no L _ _ _ _ _ _ h
 have hw:Fwd (qbj L d e1 o1):=by
  intro m n v m1 ns h;unfold qbj at h
  split at h
  . split at h
    . exact sk (Fwd.within L _ d ho) _ _ _ _ _ h
    split at h
    . exact sk (Fwd.lay L _) _ _ _ _ _ h
    split at h
    . exact sk (Fwd.lay L _) _ _ _ _ _ h
    split at h
    . exact sk (Fwd.lay L _) _ _ _ _ _ h
    . exact Fwd.no L _ _ _ _ _ _ h
  . exact Fwd.bind Fwd.skip (fun _=>Fwd.bind (Fwd.must L _) fun _=>Fwd.bind he fun _=>Fwd.bind (Fwd.must L _) fun _=>Fwd.lay L _) _ _ _ _ _ h
 intro m n v m1 ns h;unfold oneP at h
 split at h
 . exact sk (Fwd.lay L _) _ _ _ _ _ h
 split at h
 . exact sk (Fwd.lay L _) _ _ _ _ _ h
 split at h
 . exact sk (Fwd.lay L _) _ _ _ _ _ h
 split at h
 . exact hs _ _ _ _ _ h
 split at h
 . exact hw _ _ _ _ _ h
 . exact Fwd.no L _ _ _ _ _ _ h
def Fwd.exprD:∀ D,Fwd (exprD L D).1/\Fwd (exprD L D).2
 | 0=>⟨Fwd.no L _,Fwd.no L _⟩
 | D+1=>by
  have:=Fwd.exprD D;have ho:=Fwd.one L (16-D) this.1 this.2;exact⟨Fwd.or L ho,ho⟩
def Fwd.braced {b:PM Int} (hb:Fwd b):Fwd (qaC L b):=Fwd.bind (Fwd.must L _) fun _=>Fwd.bind hb fun _=>Fwd.bind (Fwd.must L _) fun _=>Fwd.ok _
def Fwd.loop {st:PM Int} (hs:Fwd st):∀ g fi la acc m n v m1 ns,qan st g fi la acc m n=.ok (v,m1,ns)->m<=m1
 | 0,fi,la,acc,m,n,v,m1,ns,h=>by simp[qan] at h;omega
 | g+1,fi,la,acc,m,n,v,m1,ns,h=>by
  rw[qan] at h
  cases hst:st m (n+acc.length) with
  | error e=>rw[hst] at h;simp at h
  | ok x =>
   obtain⟨i,m2,ns2⟩:=x;rw[hst] at h;dsimp only at h;have h1:=hs _ _ _ _ _ hst
   split at h
   . simp at h;omega
   split at h
   . exact Nat.le_trans h1 (Fwd.loop hs g _ _ _ _ _ _ _ _ h)
   . exact Nat.le_trans h1 (Fwd.loop hs g _ _ _ _ _ _ _ _ h)
def Fwd.blockD:∀ D,Fwd (blockD L D)
 | 0=>Fwd.no L _
 | D+1=>fun m n v m1 ns h=>Fwd.loop (Fwd.stmt (Fwd.exprD L (D+1)).1 (Fwd.braced L (Fwd.blockD D))) _ _ _ _ _ _ _ _ _ h
end
def NZ {α:Type} (p:PM α):Prop:=∀ m n c a,p m n=.error (c,a)->c≠0
def NZ.ok {α:Type} (v:α):NZ (pok v):=fun m n c a h=>by simp[pok] at h
def NZ.skip:NZ skipP:=fun m n c a h=>by simp[skipP] at h
def NZ.bind {α β:Type} {p:PM α} {f:α->PM β} (h:NZ p) (hf:∀ a,NZ (f a)):NZ (pbind p f):=by
 intro m n c a he;unfold pbind at he
 split at he
 . next e hp =>
   simp only[Except.error.injEq] at he;subst he;exact h _ _ _ _ hp
 . next v m1 ns hp =>
   rcases hq:f v m1 (n+ns.length) with ⟨c',a'⟩ | ⟨v',m',l'⟩
   . rw[hq] at he;simp[prep] at he;have:=hf _ _ _ _ _ hq;omega
   . rw[hq] at he;simp[prep] at he
section
variable (L:Toks)
def NZ.no {α:Type} (e:Int) (he:e≠0):NZ (pno (α:=α) L e):=fun m n c a h=>by simp[pno] at h;omega
def NZ.must1 (s:ByteArray):NZ (must1 L s):=fun m n c a h=>by unfold Go.Proofs.YtpnabjopfpdkhaaGreatDoor.must1 at h;split at h<;>simp at h;omega
def NZ.must:∀ ss,NZ (mustP L ss)
 | []=>NZ.ok _
 | s::r=>NZ.bind (NZ.must1 L s) fun _=>NZ.must r
def NZ.takes (s:ByteArray):NZ (takesP L s):=fun m n c a h=>by unfold takesP at h;split at h<;>simp at h
def NZ.of (k:Int):NZ (ofP L k):=fun m n c a h=>by unfold ofP at h;split at h<;>simp at h;omega
def NZ.lay (z:Nd):NZ (layP L z):=fun m n c a h=>by unfold layP at h;split at h<;>simp at h;omega
def NZ.deep (d:Nat):NZ (deepP L d):=fun m n c a h=>by unfold deepP at h;split at h<;>simp at h;omega
def NZ.turns:NZ (qbo L):=fun m n c a h=>by
 unfold qbo at h;split at h
 . simp at h;omega
 . exact NZ.bind (NZ.of L 2) (fun t=>NZ.ok _) _ _ _ _ h
def NZ.oneOf (ss:List ByteArray):NZ (qaP L ss):=fun m n c a h=>by unfold qaP at h;split at h<;>simp at h
variable {ex br:PM Int}
def NZ.names (k:Int) (he:NZ ex):NZ (qbE L k ex) :=
 NZ.bind NZ.skip fun _=>NZ.bind (NZ.of L 1) fun t=>NZ.bind (NZ.must L _) fun _=>NZ.bind he fun a=>NZ.bind (NZ.must L _) fun _=>NZ.lay L _
def NZ.put (he:NZ ex):NZ (putP L ex) :=
 NZ.bind NZ.skip fun _=>NZ.bind he fun a=>NZ.bind (NZ.must L _) fun _=>NZ.bind he fun b=>NZ.bind (NZ.must L _) fun _=>NZ.lay L _
def NZ.simple (k:Int) (he:NZ ex):NZ (qaH L k ex) :=
 NZ.bind NZ.skip fun _=>NZ.bind he fun a=>NZ.bind (NZ.must L _) fun _=>NZ.lay L _
def NZ.when (he:NZ ex) (hb:NZ br):NZ (whenP L ex br) :=
 NZ.bind NZ.skip fun _=>NZ.bind he fun a=>NZ.bind hb fun b=>NZ.bind (NZ.takes L _) fun e=>by
  by_cases h:e=true
  . rw[if_pos h];exact NZ.bind hb fun c=>NZ.lay L _
  . rw[if_neg h];exact NZ.lay L _
def NZ.each (he:NZ ex) (hb:NZ br):NZ (eachP L ex br) :=
 NZ.bind NZ.skip fun _=>NZ.bind (NZ.of L 1) fun s=>NZ.bind (NZ.must L _) fun _=>NZ.bind (NZ.of L 1) fun t=>NZ.bind (NZ.must L _) fun _=>NZ.bind he fun a =>
  NZ.bind (NZ.must L _) fun _=>NZ.bind (NZ.turns L) fun i=>NZ.bind (NZ.must L _) fun _=>NZ.bind hb fun b=>NZ.lay L _
def NZ.repeat (hb:NZ br):NZ (qdM L br) :=
 NZ.bind NZ.skip fun _=>NZ.bind (NZ.turns L) fun i=>NZ.bind hb fun b=>NZ.lay L _
def NZ.braced {bl:PM Int} (hb:NZ bl):NZ (qaC L bl) :=
 NZ.bind (NZ.must L _) fun _=>NZ.bind hb fun n=>NZ.bind (NZ.must L _) fun _=>NZ.ok _
def NZ.stmt (he:NZ ex) (hb:NZ br):NZ (stmtP L ex br):=by
 intro m n c a h;unfold stmtP at h
 split at h
 . exact NZ.ok _ _ _ _ _ h
 split at h
 . exact NZ.names L _ he _ _ _ _ h
 split at h
 . exact NZ.names L _ he _ _ _ _ h
 split at h
 . exact NZ.put L he _ _ _ _ h
 split at h
 . exact NZ.simple L _ he _ _ _ _ h
 split at h
 . exact NZ.simple L _ he _ _ _ _ h
 split at h
 . exact NZ.simple L _ he _ _ _ _ h
 split at h
 . exact NZ.when L he hb _ _ _ _ h
 split at h
 . exact NZ.each L he hb _ _ _ _ h
 split at h
 . exact NZ.repeat L hb _ _ _ _ h
 . exact NZ.ok _ _ _ _ _ h
def NZ.two {cl:PM Int} (hc:NZ cl) (ss:List ByteArray):∀ g a,NZ (qaA L cl ss g a)
 | 0,a=>NZ.ok _
 | g+1,a=>by
  rw[qaA];refine NZ.bind (NZ.oneOf L ss) fun o=>?_
  cases o with
  | none=>exact NZ.ok _
  | some s=>exact NZ.bind hc fun b=>NZ.bind (NZ.lay L _) fun a'=>NZ.two hc ss g a'
def NZ.twoP {cl:PM Int} (hc:NZ cl) (ss:List ByteArray):NZ (twoP L cl ss):=NZ.bind hc fun a=>NZ.two L hc ss _ a
def NZ.comp {o:PM Int} (ho:NZ o):NZ (compP L o):=by
 have hj:NZ (joinP L o):=NZ.twoP L (NZ.twoP L (NZ.twoP L ho _) _) _;refine NZ.bind hj fun a=>NZ.bind (NZ.oneOf L _) fun o=>?_
 cases o with
 | none=>exact NZ.ok _
 | some s=>exact NZ.bind hj fun b=>NZ.lay L _
def NZ.or {o:PM Int} (ho:NZ o):NZ (orP L o):=NZ.twoP L (NZ.twoP L (NZ.comp L ho) _) _
def NZ.within (k:Int) (d:Nat) {o:PM Int} (ho:NZ o):NZ (qaX L k d o) :=
 NZ.bind (NZ.deep L _) fun _=>NZ.bind ho fun a=>NZ.lay L _
def NZ.one (d:Nat) {e1 o1:PM Int} (he:NZ e1) (ho:NZ o1):NZ (oneP L d e1 o1):=by
 have sk:∀ {p:PM Int},NZ p->NZ (pbind skipP fun _=>p):=fun hp=>NZ.bind NZ.skip fun _=>hp
 have hs:NZ (qbk L d e1 o1):=by
  intro m n c a h;unfold qbk at h
  split at h
  . exact sk (NZ.within L _ d ho) _ _ _ _ h
  split at h
  . exact sk (NZ.bind he fun a=>NZ.bind (NZ.must L _) fun _=>NZ.ok _) _ _ _ _ h
  . exact NZ.no L 3 zw _ _ _ _ h
 have hw:NZ (qbj L d e1 o1):=by
  intro m n c a h;unfold qbj at h
  split at h
  . split at h
    . exact sk (NZ.within L _ d ho) _ _ _ _ h
    split at h
    . exact sk (NZ.lay L _) _ _ _ _ h
    split at h
    . exact sk (NZ.lay L _) _ _ _ _ h
    split at h
    . exact sk (NZ.lay L _) _ _ _ _ h
    . exact NZ.no L 3 zw _ _ _ _ h
  . exact NZ.bind NZ.skip (fun _=>NZ.bind (NZ.must L _) fun _=>NZ.bind he fun a=>NZ.bind (NZ.must L _) fun _=>NZ.lay L _) _ _ _ _ h
 intro m n c a h;unfold oneP at h
 split at h
 . exact sk (NZ.lay L _) _ _ _ _ h
 split at h
 . exact sk (NZ.lay L _) _ _ _ _ h
 split at h
 . exact sk (NZ.lay L _) _ _ _ _ h
 split at h
 . exact hs _ _ _ _ h
 split at h
 . exact hw _ _ _ _ h
 . exact NZ.no L 3 zw _ _ _ _ h
def NZ.exprD:∀ D,NZ (exprD L D).1/\NZ (exprD L D).2
 | 0=>⟨NZ.no L 14 zw,NZ.no L 14 zw⟩
 | D+1=>by
  have:=NZ.exprD D;have ho:=NZ.one L (16-D) this.1 this.2;exact⟨NZ.or L ho,ho⟩
def NZ.loop {st:PM Int} (hs:NZ st):∀ g fi la acc m n c a,qan st g fi la acc m n=.error (c,a)->c≠0
 | 0,fi,la,acc,m,n,c,a,h=>by simp[qan] at h
 | g+1,fi,la,acc,m,n,c,a,h=>by
  rw[qan] at h
  split at h
  . next e hp =>
    simp only[Except.error.injEq] at h;subst h;exact hs _ _ _ _ hp
  . split at h
    . simp at h
    split at h
    . exact NZ.loop hs g _ _ _ _ _ _ _ h
    . exact NZ.loop hs g _ _ _ _ _ _ _ h
def NZ.blockD:∀ D,NZ (blockD L D)
 | 0=>NZ.no L 14 zw
 | D+1=>by
  intro m n c a h;exact NZ.loop (NZ.stmt L (NZ.exprD L (D+1)).1 (NZ.braced L (NZ.blockD D))) _ _ _ _ _ _ _ _ h
def parse_nz (c a:Int) (h:qcn L=.error (c,a)):c≠0:=by
 unfold qcn at h;by_cases he:qeg L=true
 . rw[if_pos he] at h;unfold progP at h
   split at h
   . next e hp =>
     simp only[Except.error.injEq] at h;subst h;exact NZ.bind (NZ.blockD L 16) (fun f=>NZ.bind (NZ.of L 0) fun _=>NZ.ok _) _ _ _ _ hp
   . simp at h
 . rw[if_neg he] at h;simp at h;omega
end
def qaZ (n:Nat):List Int->List Nd->List Nd
 | a::b::r,acc=>qaZ n (b::r) (setNext acc (a.toNat-n) b)
 | _,acc=>acc
def qeJ (l:List Nd) (j:Nat) (v:Int):(setNext l j v).length=l.length:=by simp[setNext]
def setNext_left (a b:List Nd) (j:Nat) (v:Int) (h:j<a.length):setNext (a++b) j v=setNext a j v++b:=by
 unfold setNext
 induction a generalizing j with
 | nil=>simp at h
 | cons z a ih =>
  cases j with
  | zero=>simp
  | succ j=>simp only[List.cons_append,List.modify_succ_cons];rw[ih j jx]
def qcZ (n:Nat):∀ (l:List Int) (acc:List Nd),(qaZ n l acc).length=acc.length
 | [],acc=>rfl
 | [a],acc=>rfl
 | a::b::r,acc=>by rw[qaZ,qcZ n (b::r),qeJ]
def qcs (n:Nat) (i:Int) (ns:List Nd):∀ (l:List Int) (acc:List Nd) (hl:l≠[]),(∀ x∈l,(n:Int)<=x/\x<(n:Int)+acc.length) ->
  qaZ n (l++[i]) (acc++ns)=setNext (qaZ n l acc++ns) ((l.getLast hl).toNat-n) i
 | [],acc,hl,_=>absurd rfl hl
 | [a],acc,_,h=>rfl
 | a::b::r,acc,_,h=>by
  have ha:=h a zy;have e:qaZ n (a::b::r++[i]) (acc++ns)=qaZ n (b::r++[i]) (setNext (acc++ns) (a.toNat-n) b):=rfl;rw[e,setNext_left _ _ _ _ Y,qcs n i ns (b::r) _ zy (fun x hx=>by rw[qeJ];exact h x (by simp[List.mem_cons] at hx ⊢;exact Or.inr hx))];rfl
def blockR (st:PM Int):Nat->List Int->List Nd->Nat->Nat->Except (Int × Int) (List Int × Nat × List Nd)
 | 0,l,acc,m,_=>.ok (l,m,acc)
 | g+1,l,acc,m,n=>match st m (n+acc.length) with
  | .error e=>.error e
  | .ok (i,m1,ns)=>if i=-1 then .ok (l,m1,acc++ns) else blockR st g (l++[i]) (acc++ns) m1 n
def qdS:List Int->Int
 | []=>-1
 | a::_=>a
def qfY (st:PM Int) (hok:∀ m n v m1 ns,st m n=.ok (v,m1,ns)->(v=-1/\m1=m/\ns=[])\/(m<m1/\v+1=(n:Int)+ns.length/\0<ns.length)) :
  ∀ (g:Nat) (l:List Int) (acc:List Nd) (m n:Nat),(∀ x∈l,(n:Int)<=x/\x<(n:Int)+acc.length) ->
  qan st g (qdS l) (l.getLastD (-1)) (qaZ n l acc) m n=match blockR st g l acc m n with
   | .error e=>.error e
   | .ok (l',m',acc')=>.ok (qdS l',m',qaZ n l' acc')
 | 0,l,acc,m,n,h=>rfl
 | g+1,l,acc,m,n,h=>by
  rw[qan,blockR,qcZ]
  cases hs:st m (n+acc.length) with
  | error e=>rfl
  | ok v =>
   obtain⟨i,m1,ns⟩:=v;dsimp only;have hk:=hok _ _ _ _ _ hs;by_cases hi:i=-1
   . rw[if_pos hi,if_pos hi];rcases hk with ⟨_,_,rfl⟩ | ⟨_,h2,_⟩
     . simp
     . omega
   . rw[if_neg hi,if_neg hi]
     have hv:(n:Int)<=i/\i<(n:Int)+(acc++ns).length:=by
      rcases hk with ⟨h1,_⟩ | ⟨_,h2,h3⟩
      . exact absurd h1 hi
      . simp only[List.length_append];omega
     have hall:∀ x∈l++[i],(n:Int)<=x/\x<(n:Int)+(acc++ns).length:=by
      intro x hx;rcases List.mem_append.1 hx with hx | hx
      . have:=h x hx;simp only[List.length_append];omega
      . simp at hx;subst hx;exact hv
     have ih:=qfY st hok g (l++[i]) (acc++ns) m1 n hall
     cases l with
     | nil =>
      rw[if_pos (show qdS []=-1 from rfl)];exact ih
     | cons a r =>
      have ha:=h a zy;rw[if_neg (by show ¬ a=-1;omega)];rw[qcs n i ns (a::r) acc zy h] at ih;have e1:qdS (a::r++[i])=qdS (a::r):=rfl;have e2:(a::r++[i]).getLastD (-1)=i:=(by rw[List.getLastD_eq_getLast?,List.getLast?_concat];rfl)
      rw[e1,e2] at ih;have e3:(a::r).getLastD (-1)=(a::r).getLast zy:=(by rw[List.getLastD_eq_getLast?,List.getLast?_eq_some_getLast zy];rfl)
      rw[e3];exact ih
end Go.Proofs.YtpnabjopfpdkhaaGreatDoor
