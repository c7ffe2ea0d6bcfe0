/- Lemmas. -/
import Derived.Test.YtpnabjopfpdkhaaGreatDoorA09
import Derived.Test.YtpnabjopfpdkhaaGreatDoorA10
set_option linter.unusedSimpArgs false
set_option linter.unusedVariables false
namespace Go.Proofs.YtpnabjopfpdkhaaGreatDoor
open Go.RowKit
variable {N k n:Nat} {s:ByteArray} {i t:Int} {ns:List Nd}
theorem qcy (S:Sc) (e a:Int):(S.wrong e a).seen=S.seen∧(S.wrong e a).made=S.made∧(S.wrong e a).slots=S.slots∧(S.wrong e a).free=S.free∧(S.wrong e a).most=S.most:=by
 unfold Sc.wrong;split<;>exact⟨rfl,rfl,rfl,rfl,rfl⟩
theorem wrong_e {S:Sc} {e a:Int} (he:e≠0):(S.wrong e a).e≠0:=by
 unfold Sc.wrong
 split
 · exact he
 · assumption
theorem qgg (S:Sc) (s:ByteArray) (i:Nat):(S.use s i).seen=S.seen∧(S.use s i).made=S.made∧(S.use s i).slots.length=S.slots.length∧(S.use s i).free.length≤S.free.length+1:=by
 obtain⟨a1,a2,a3,a4,a5⟩:=qcy S 15 i
 unfold Sc.use;dsimp only
 split
 · split
   · exact⟨a1,a2,by rw[List.length_set,a3],by rw[a4];omega⟩
   · exact⟨a1,a2,by rw[List.length_set,a3],by rw[List.length_append,a4];simp⟩
 · exact⟨rfl,rfl,by rw[List.length_set],Nat.le_succ _⟩
theorem qcE (S:Sc) (s:ByteArray) (i:Int):(S.see s i).seen=S.seen++[s]∧(S.see s i).made=S.made++[s]∧(S.see s i).slots=S.slots∧(S.see s i).free=S.free:=by
 obtain⟨a1,a2,a3,a4,a5⟩:=qcy S 16 i
 obtain⟨b1,b2,b3,b4,b5⟩:=qcy S 5 i
 unfold Sc.see Sc.wrongSee;dsimp only
 split
 · exact⟨by rw[a1],by rw[a2],a3,a4⟩
 · split
   · exact⟨by rw[b1],by rw[b2],b3,b4⟩
   · exact⟨rfl,rfl,rfl,rfl⟩
def Gr (S R:Sc) (n:Nat):Prop:=(∃ x:List ByteArray,R.seen=S.seen++x∧x.length≤2*n)∧R.made.length≤S.made.length+2*n∧R.slots.length=S.slots.length∧R.free.length≤S.free.length+n
def Room (N:Nat) (S:Sc) (n:Nat):Prop:=N≤S.slots.length∧S.seen.length+2*n≤2000∧S.made.length+2*n≤2000∧S.free.length+n≤2000
theorem Gr.refl (S:Sc) (n:Nat):Gr S S n:=⟨⟨[],by simp,by simp⟩,by omega,rfl,by omega⟩
theorem Gr.trans {S R T:Sc} {m:Nat} (h:Gr S R n) (h':Gr R T m) (hk:n+m=k):Gr S T k:=by
 obtain⟨⟨x,a1,a2⟩,a3,a4,a5⟩:=h
 obtain⟨⟨y,b1,b2⟩,b3,b4,b5⟩:=h'
 exact⟨⟨x++y,by rw[b1,a1,List.append_assoc],by rw[List.length_append];omega⟩,by omega,by omega,by omega⟩
theorem Gr.mono {S R:Sc} (h:Gr S R n) (hk:n≤k):Gr S R k:=by
 obtain⟨⟨x,a1,a2⟩,a3,a4,a5⟩:=h
 exact⟨⟨x,a1,by omega⟩,by omega,a4,by omega⟩
theorem Room.after {S R:Sc} {m:Nat} (h:Room N S n) (g:Gr S R m) (hk:m+k≤n):Room N R k:=by
 obtain⟨⟨x,a1,a2⟩,a3,a4,a5⟩:=g
 obtain⟨b1,b2,b3,b4⟩:=h
 have:R.seen.length=S.seen.length+x.length:=by rw[a1,List.length_append]
 exact⟨by omega,by omega,by omega,by omega⟩
theorem Room.le {S:Sc} (h:Room N S n) (hk:k≤n):Room N S k:=h.after (Gr.refl S 0) zac
theorem useO_room {S:Sc} {i:Nat} (h:Room N S 1) (hi:i<N):∃ R,S.useO s i=some R∧Gr S R 1∧R.seen=S.seen:=by
 obtain⟨b1,b2,b3,b4⟩:=h
 obtain⟨c1,c2,c3,c4⟩:=qgg S s i
 refine ⟨_,by unfold Sc.useO;rw[if_pos ⟨by omega,by omega,by omega⟩],⟨⟨[],by rw[c1];simp,by simp⟩,by rw[c2];omega,c3,c4⟩,c1⟩
theorem qdy (i:Int):∀ (l:List ByteArray) (S:Sc),S.seen.length+l.length≤2000→S.made.length+l.length≤2000→∃ R,seesO i l S=some R∧R.seen=S.seen++l∧R.made.length=S.made.length+l.length∧R.slots=S.slots∧R.free=S.free
 | [],S,_,_=>⟨S,rfl,by simp,by simp,rfl,rfl⟩
 | s::l,S,h1,h2=>by
  rw[List.length_cons] at h1 h2
  obtain⟨c1,c2,c3,c4⟩:=qcE S s i
  obtain⟨R,d1,d2,d3,d4,d5⟩:=qdy i l (S.see s i) (by rw[c1,List.length_append,List.length_singleton];omega) (by rw[c2,List.length_append,List.length_singleton];omega)
  refine ⟨R,?_,by rw[d2,c1,List.append_assoc];rfl,by rw[d3,c2,List.length_append,List.length_singleton,List.length_cons];omega,by rw[d4,c3],by rw[d5,c4]⟩;unfold seesO Sc.seeO;rw[if_pos ⟨by omega,by omega⟩];exact d1
theorem qci (t:Tr ns i n) (h:0≤i):∃ (j:Nat) (z:Nd) (na nb nc nx:Nat),i=(j:Int)∧ns[j]?=some z∧Tr ns z.a na∧Tr ns z.b nb∧Tr ns z.c nc∧Tr ns z.x nx∧n=1+(na+(nb+(nc+nx))):=by
 cases t with
 | neg h0=>omega
 | node hz ta tb tc tx=>exact⟨_,_,_,_,_,_,rfl,hz,ta,tb,tc,tx,rfl⟩
theorem qfj (ns:List Nd):∀ (f:Nat) (i:Int) (n:Nat) (S:Sc),Tr ns i n→n≤f→Room ns.length S n→∃ R,exprS ns f i S=some R∧Gr S R n∧R.seen=S.seen:=by
 intro f
 induction f with
 | zero =>
  intro i n S t hf hr
  by_cases hi:i<0
  · exact⟨S,exprS_neg _ _ _ _ hi,Gr.refl _ _,rfl⟩
  · obtain⟨j,z,na,nb,nc,nx,rfl,hz,ta,tb,tc,tx,rfl⟩:=qci t zac
    omega
 | succ f ih =>
  intro i n S t hf hr
  by_cases hi:i<0
  · exact⟨S,exprS_neg _ _ _ _ hi,Gr.refl _ _,rfl⟩
  · obtain⟨j,z,na,nb,nc,nx,rfl,hz,ta,tb,tc,tx,rfl⟩:=qci t zac
    obtain⟨S1,h1,g1,e1⟩:=ih _ na S ta zac (hr.le zac)
    obtain⟨S2,h2,g2,e2⟩:=ih _ nb S1 tb zac (hr.after g1 zac)
    unfold exprS;rw[if_neg hi,Int.toNat_natCast,hz];dsimp only;rw[h1];dsimp only[Option.bind];rw[h2];dsimp only
    split
    · obtain⟨R,h3,g3,e3⟩:=useO_room (s:=z.s) (hr.after (g1.trans g2 rfl) (k:=1) zac) (List.getElem?_eq_some_iff.1 hz).1
      exact⟨R,h3,((g1.trans g2 rfl).trans g3 rfl).mono zac,by rw[e3,e2,e1]⟩
    · exact⟨S2,rfl,(g1.trans g2 rfl).mono zac,by rw[e2,e1]⟩
theorem qbA {B:Int→Sc→Option Sc} {first:Int} {names:List ByteArray} {S:Sc} {c:Nat} (hB:∀ S,Room N S n→∃ R,B first S=some R∧Gr S R n) (hc:names.length≤2*c) (hr:Room N S (n+c)):∃ R,qbf B first i names S=some R∧Gr S R (n+c)∧R.seen=S.seen:=by
 obtain⟨b1,b2,b3,b4⟩:=hr
 obtain⟨S1,d1,d2,d3,d4,d5⟩:=qdy i names S zac zac
 have g1:Gr S S1 c:=⟨⟨names,d2,hc⟩,by omega,by rw[d4],by rw[d5];omega⟩
 obtain⟨S2,h2,g2⟩:=hB S1 (Room.after ⟨b1,b2,b3,b4⟩ g1 zac)
 obtain⟨⟨x,e1,_⟩,e3,e4,e5⟩:=g1.trans g2 rfl
 have hl:S.seen.length≤S2.seen.length:=by rw[e1,List.length_append];omega
 refine ⟨{ S2 with seen:=S2.seen.take S.seen.length },?_,⟨⟨[],?_,by simp⟩,by show S2.made.length≤_;omega,e4,by show S2.free.length≤_;omega⟩,?_⟩
 · unfold qbf
   rw[d1];dsimp only[Option.bind];rw[h2];dsimp only;rw[if_pos hl]
 · dsimp only;rw[e1,List.take_left'];simp
   rfl
 · dsimp only;rw[e1,List.take_left'];rfl
theorem slot_room {S:Sc} {i:Nat} (h:Room N S n) (hi:i<N):∃ R,S.slot i=some R∧Gr S R 0∧R.seen=S.seen:=by
 refine ⟨{ S with slots:=S.slots.set i S.seen.length },by unfold Sc.slot;rw[if_pos (by have:=h.1;omega)],⟨⟨[],by simp,by simp⟩,by simp,by simp,by simp⟩,rfl⟩
theorem blkS_neg (ns:List Nd) (f:Nat) (i:Int) (S:Sc) (h:i<0):blkS ns f i S=some S:=by
 cases f<;>(unfold blkS;rw[if_pos h])
theorem blkS_room (ns:List Nd):∀ (f:Nat) (i:Int) (n:Nat) (S:Sc),Tr ns i n→n≤f→Room ns.length S n→∃ R,blkS ns f i S=some R∧Gr S R n:=by
 intro f
 induction f with
 | zero =>
  intro i n S t hf hr
  by_cases hi:i<0
  · exact⟨S,blkS_neg _ _ _ _ hi,Gr.refl _ _⟩
  · obtain⟨j,z,na,nb,nc,nx,rfl,hz,ta,tb,tc,tx,rfl⟩:=qci t zac
    omega
 | succ f ih =>
  intro i n S t hf hr
  by_cases hi:i<0
  · exact⟨S,blkS_neg _ _ _ _ hi,Gr.refl _ _⟩
  · obtain⟨j,z,na,nb,nc,nx,rfl,hz,ta,tb,tc,tx,rfl⟩:=qci t zac
    have hj:=(List.getElem?_eq_some_iff.1 hz).1
    obtain⟨S1,h1,g1,e1⟩:=qfj ns f z.a na S ta zac (hr.le zac)
    have st:∃ R,stmS (exprS ns f) (blkS ns f) j z S=some R∧Gr S R (1+(na+(nb+nc))):=by
     unfold stmS;rw[h1];dsimp only[Option.bind]
     have r1:Room ns.length S1 (1+(nb+nc)):=hr.after g1 zac
     split
     · obtain⟨S2,h2,g2,e2⟩:=qfj ns f z.b nb S1 tb zac (r1.le zac)
       exact⟨S2,h2,(g1.trans g2 rfl).mono zac⟩
     split
     · obtain⟨S2,h2,g2,e2⟩:=slot_room r1 hj
       have r2:Room ns.length S2 1:=r1.after g2 zac
       obtain⟨R,d1,d2,d3,d4,d5⟩:=qdy j [z.s] S2 (by have:=r2.2.1;simp;omega) (by have:=r2.2.2.1;simp;omega)
       refine ⟨R,?_,((g1.trans g2 rfl).trans (⟨⟨[z.s],d2,by simp⟩,by rw[d3];simp,by rw[d4],by rw[d5];omega⟩:Gr S2 R 1) rfl).mono zac⟩;rw[h2];dsimp only;unfold seesO at d1
       obtain⟨R',f1,f2⟩:=qab d1
       have:seesO (j:Int) [] R'=some R':=rfl
       rw[this] at f2;rw[f1,f2]
     split
     · obtain⟨S2,h2,g2,e2⟩:=useO_room (s:=z.s) (r1.le (k:=1) zac) hj
       exact⟨S2,h2,(g1.trans g2 rfl).mono zac⟩
     split
     · obtain⟨S2,h2,g2,e2⟩:=qbA (B:=blkS ns f) (first:=z.b) (i:=(j:Int)) (names:=[]) (n:=nb) (c:=0) (fun S hS=>ih _ nb S tb zac hS) zaj (r1.le zac)
       obtain⟨S3,h3,g3,e3⟩:=qbA (B:=blkS ns f) (first:=z.c) (i:=(j:Int)) (names:=[]) (n:=nc) (c:=0) (fun S hS=>ih _ nc S tc zac hS) zaj (r1.after g2 zac)
       rw[h2]
       exact⟨S3,h3,((g1.trans g2 rfl).trans g3 rfl).mono zac⟩
     split
     · obtain⟨S2,h2,g2,e2⟩:=slot_room r1 hj
       obtain⟨S3,h3,g3,e3⟩:=qbA (B:=blkS ns f) (first:=z.b) (i:=(j:Int)) (names:=[z.s,z.t]) (n:=nb) (c:=1) (fun S hS=>ih _ nb S tb zac hS) zaj (r1.after g2 zac)
       rw[h2]
       exact⟨S3,h3,((g1.trans g2 rfl).trans g3 rfl).mono zac⟩
     split
     · obtain⟨S2,h2,g2,e2⟩:=qbA (B:=blkS ns f) (first:=z.b) (i:=(j:Int)) (names:=[]) (n:=nb) (c:=0) (fun S hS=>ih _ nb S tb zac hS) zaj (r1.le zac)
       exact⟨S2,h2,(g1.trans g2 rfl).mono zac⟩
     · exact⟨S1,rfl,g1.mono zac⟩
    obtain⟨R,h2,g2⟩:=st
    obtain⟨R2,h3,g3⟩:=ih _ nx R tx zac (hr.after g2 zac)
    refine ⟨R2,?_,(g2.trans g3 rfl).mono zac⟩;unfold blkS;rw[if_neg hi,Int.toNat_natCast,hz];dsimp only;rw[h2];exact h3
structure Stp where
 nd:Nat
 mkx:Bool
 nm:ByteArray
 sn:List ByteArray
def qau (ns:List Nd):Nat→Int→List ByteArray→List Stp
 | 0,_,_=>[]
 | f+1,i,sn=>if i<0 then [] else
  match ns[i.toNat]? with
  | none=>[]
  | some z=>(qau ns f z.a sn++qau ns f z.b sn)++(if z.k=4 then [⟨i.toNat,false,z.s,sn⟩] else [])
def qbI (E B:Int→List ByteArray→List Stp) (i:Nat) (z:Nd) (sn:List ByteArray):List Stp :=
 if z.k=20 then [⟨i,true,z.s,sn⟩]
 else if z.k=21 then [⟨i,false,z.s,sn⟩]
 else if z.k=22 then E z.b sn
 else if z.k=24 then B z.b sn++B z.c sn
 else if z.k=25 then([⟨i,true,z.s,sn⟩]++[⟨i,true,z.t,sn++[z.s]⟩])++B z.b (sn++[z.s]++[z.t])
 else if z.k=26 then B z.b sn
 else []
def qar (ns:List Nd):Nat→Int→List ByteArray→List Stp
 | 0,_,_=>[]
 | f+1,i,sn=>if i<0 then [] else
  match ns[i.toNat]? with
  | none=>[]
  | some z=>(qau ns f z.a sn++qbI (qau ns f) (qar ns f) i.toNat z sn)++qar ns f z.x (if z.k=20 then sn++[z.s] else sn)
def Gd (S:Sc) (j:Nat):Prop:=j<S.slots.length∧0≤S.slots.getD j (-1)∧S.slots.getD j (-1)<S.most
def Good (S:Sc) (x:Stp):Prop:=Gd S x.nd∧(x.sn.length:Int)≤S.most∧x.sn.Nodup
def Inv (S:Sc):Prop:=S.seen.Nodup∧(S.seen.length:Int)≤S.most∧S.most≤32
def Keep (S R:Sc):Prop:=S.most≤R.most∧R.slots.length=S.slots.length∧(∀ j,Gd S j→Gd R j)∧R.free=S.free
def Law (S R:Sc) (l:List Stp):Prop:=R.e=0→S.e=0∧(Inv S→Inv R∧Keep S R∧∀ x∈l,Good R x)
theorem Keep.refl (S:Sc):Keep S S:=⟨Int.le_refl _,rfl,fun _ h=>h,rfl⟩
theorem Keep.trans {S R T:Sc} (h:Keep S R) (h':Keep R T):Keep S T:=⟨Int.le_trans h.1 h'.1,h'.2.1.trans h.2.1,fun j hj=>h'.2.2.1 j (h.2.2.1 j hj),h'.2.2.2.trans h.2.2.2⟩
theorem Keep.good {S R:Sc} (h:Keep S R) {x:Stp} (g:Good S x):Good R x:=⟨h.2.2.1 _ g.1,Int.le_trans g.2.1 h.1,g.2.2⟩
theorem Law.refl (S:Sc):Law S S []:=fun e=>⟨e,fun i=>⟨i,Keep.refl S,fun x hx=>by cases hx⟩⟩
theorem Law.trans {S R T:Sc} {l m:List Stp} (h:Law S R l) (h':Law R T m):Law S T (l++m):=fun e=>by
 obtain⟨e1,k1⟩:=h' e
 obtain⟨e0,k0⟩:=h e1
 refine ⟨e0,fun i=>?_⟩
 obtain⟨i1,q1,g1⟩:=k0 i
 obtain⟨i2,q2,g2⟩:=k1 i1
 refine ⟨i2,q1.trans q2,fun x hx=>?_⟩;rcases List.mem_append.1 hx with h | h
 · exact q2.good (g1 x h)
 · exact g2 x h
theorem lastOf_lt (s:ByteArray) (l:List ByteArray):∀ j,qav s l j<(j:Int)
 | 0=>by simp[qav]
 | j+1=>by
  unfold qav
  have:=lastOf_lt s l j
  split<;>omega
theorem qbv (l:List Int) (i j:Nat) (v:Int) (hi:i<l.length):(l.set i v).getD j (-1)=if i=j then v else l.getD j (-1):=by
 rw[List.getD_eq_getElem?_getD,List.getElem?_set,List.getD_eq_getElem?_getD]
 by_cases e:i=j
 · subst e;rw[if_pos rfl,if_pos rfl,if_pos hi];rfl
 · rw[if_neg e,if_neg e]
theorem use_law {S R:Sc} {i:Nat} (h:S.useO s i=some R):Law S R [⟨i,false,s,S.seen⟩]∧R.seen=S.seen:=by
 obtain⟨a1,a2,a3,rfl⟩:=qeH h
 refine ⟨fun e=>?_,(qgg S s i).1⟩
 by_cases hk:qav s S.seen S.seen.length<0
 · have:(S.use s i).e=(S.wrong 15 i).e:=by
     unfold Sc.use;dsimp only;rw[if_pos hk];split<;>rfl
   rw[this] at e;exact absurd e (wrong_e zak)
 · have hR:S.use s i={ S with slots:=S.slots.set i (qav s S.seen S.seen.length) }:=by unfold Sc.use;dsimp only;rw[if_neg hk]
   have hlt:=lastOf_lt s S.seen S.seen.length;rw[hR] at e ⊢;refine ⟨e,fun hi=>?_⟩
   obtain⟨i1,i2,i3⟩:=hi
   refine ⟨⟨i1,i2,i3⟩,⟨Int.le_refl _,by simp,fun j hj=>?_,rfl⟩,fun x hx=>?_⟩
   · obtain⟨g1,g2,g3⟩:=hj
     refine ⟨by simpa using g1,?_,?_⟩<;>(dsimp only;rw[qbv _ _ _ _ a1];split<;>omega)
   · rcases List.mem_singleton.1 hx with rfl
     refine ⟨⟨by simpa using a1,?_,?_⟩,i2,i1⟩<;>(dsimp only;rw[qbv _ _ _ _ a1,if_pos rfl];omega)
theorem see_law {S R:Sc} (h:S.seeO s i=some R) (he:R.e=0):S.e=0∧(Inv S→Inv R∧S.most≤R.most∧((S.seen.length:Int)+1)≤R.most)∧R.slots=S.slots∧R.free=S.free∧R.seen=S.seen++[s]:=by
  obtain⟨a1,a2,rfl⟩:=qbQ h
  obtain⟨c1,c2,c3,c4⟩:=qcE S s i
  refine ⟨?_,?_,c3,c4,c1⟩
  all_goals
    cases hQ:Lib.containsS S.seen s
    · by_cases h32:32≤S.seen.length
      · have:(S.see s i).e=(S.wrong 5 i).e:=by unfold Sc.see Sc.wrongSee;rw[hQ,if_neg zaj,if_pos h32]
        rw[this] at he;exact absurd he (wrong_e zak)
      · have hR:S.see s i={ S with made:=S.made++[s],seen:=S.seen++[s],most:=max S.most ((S.seen.length:Int)+1) }:=by unfold Sc.see Sc.wrongSee;rw[hQ,if_neg zaj,if_neg h32]
        rw[hR] at he
        first
          | exact he
          | (intro hi
             obtain⟨i1,i2,i3⟩:=hi
             rw[hR]
             have hm:s∉S.seen:=fun hm=>by have:=(Lib.containsS_iff S.seen s).2 hm;rw[hQ] at this;cases this
             refine ⟨⟨List.nodup_append.2 ⟨i1,by simp,fun a ha b hb=>by simp at hb;subst hb;intro e;subst e;exact hm ha⟩,?_,?_⟩,?_,?_⟩
             · dsimp only;rw[List.length_append,List.length_singleton];omega
             · dsimp only;omega
             · dsimp only;omega
             · dsimp only;omega)
    · have:(S.see s i).e=(S.wrong 16 i).e:=by unfold Sc.see Sc.wrongSee;rw[hQ,if_pos rfl]
      rw[this] at he;exact absurd he (wrong_e zak)
theorem exprS_law (ns:List Nd):∀ (f:Nat) (i:Int) (S R:Sc),exprS ns f i S=some R→Law S R (qau ns f i S.seen)∧R.seen=S.seen:=by
 intro f
 induction f with
 | zero =>
  intro i S R h
  by_cases hi:i<0
  · rw[exprS_neg _ _ _ _ hi] at h;cases h
    exact⟨Law.refl S,rfl⟩
  · obtain⟨g,_,_,_,_,e,_⟩:=qbL zac h
    cases e
 | succ f ih =>
  intro i S R h
  by_cases hi:i<0
  · rw[exprS_neg _ _ _ _ hi] at h;cases h
    unfold qau;rw[if_pos hi]
    exact⟨Law.refl S,rfl⟩
  · obtain⟨g,j,z,S1,S2,e,rfl,hz,h1,h2,h3⟩:=qbL zac h
    obtain rfl:f=g:=by omega
    obtain⟨l1,e1⟩:=ih _ _ _ h1
    obtain⟨l2,e2⟩:=ih _ _ _ h2
    unfold qau;rw[if_neg hi,Int.toNat_natCast,hz];dsimp only;rw[e1] at l2
    split at h3
    · rename_i hk
      obtain⟨l3,e3⟩:=use_law h3
      rw[if_pos hk];rw[e2,e1] at l3
      exact⟨(l1.trans l2).trans l3,by rw[e3,e2,e1]⟩
    · rename_i hk
      cases h3
      rw[if_neg hk,List.append_nil]
      exact⟨l1.trans l2,by rw[e2,e1]⟩
theorem take_law {S S2:Sc} {x:List ByteArray} {l:List Stp} (h:Law S S2 l) (hx:S2.seen=S.seen++x) (hl:S.seen.length≤S2.seen.length):Law S { S2 with seen:=S2.seen.take S.seen.length } l:=fun e=>by
 obtain⟨e0,k⟩:=h e
 refine ⟨e0,fun i=>?_⟩
 obtain⟨i1,q1,g1⟩:=k i
 have et:S2.seen.take S.seen.length=S.seen:=by rw[hx,List.take_left'];rfl
 rw[et]
 exact⟨⟨i.1,by have:=i.2.1;have:=q1.1;dsimp only;omega,i1.2.2⟩,q1,g1⟩
theorem qbW {B:Int→Sc→Option Sc} {SB:Int→List ByteArray→List Stp} (hB:∀ i S R,B i S=some R→Law S R (SB i S.seen)∧∃ x,R.seen=S.seen++x) {first i:Int} {S R:Sc} (h:qbf B first i [] S=some R):Law S R (SB first S.seen)∧R.seen=S.seen:=by
 unfold qbf at h
 obtain⟨S1,h1,h⟩:=qab h
 cases h1
 obtain⟨S2,h2,h⟩:=qab h
 obtain⟨l2,x,hx⟩:=hB _ _ _ h2
 split at h
 · rename_i hl
   cases h
   exact⟨take_law l2 hx hl,by dsimp only;rw[hx,List.take_left'];rfl⟩
 · cases h
theorem stmS_law {E B:Int→Sc→Option Sc} {SE SB:Int→List ByteArray→List Stp} (hE:∀ i S R,E i S=some R→Law S R (SE i S.seen)∧R.seen=S.seen) (hB:∀ i S R,B i S=some R→Law S R (SB i S.seen)∧∃ x,R.seen=S.seen++x)
  {i:Nat} {z:Nd} {S R:Sc} (h:stmS E B i z S=some R):Law S R (SE z.a S.seen++qbI SE SB i z S.seen)∧R.seen=if z.k=20 then S.seen++[z.s] else S.seen:=by
 unfold stmS at h
 obtain⟨S1,h1,h⟩:=qab h
 obtain⟨l1,e1⟩:=hE _ _ _ h1
 suffices q:Law S1 R (qbI SE SB i z S1.seen)∧R.seen=if z.k=20 then S1.seen++[z.s] else S1.seen by
  rw[e1] at q
  exact⟨l1.trans q.1,q.2⟩
 clear h1 l1 e1;unfold qbI
 split at h
 · rename_i hk
   rw[if_neg zac,if_neg zac,if_pos hk,if_neg zac];exact hE _ _ _ h
 split at h
 · rename_i hk
   rw[if_pos hk,if_pos hk]
   obtain⟨S2,h2,h⟩:=qab h
   obtain⟨b1,rfl⟩:=qco h2
   obtain⟨_,_,hq⟩:=qbQ h
   have hs:=(qcE { S1 with slots:=S1.slots.set i S1.seen.length } z.s i).1;refine ⟨fun e=>?_,by rw[hq];exact hs⟩
   obtain⟨c1,c2,c3,c4,c5⟩:=see_law h e
   refine ⟨c1,fun hi=>?_⟩
   obtain⟨d1,d2,d3⟩:=c2 hi
   dsimp only at d2 d3 c3 c4;refine ⟨d1,⟨d2,by rw[c3];simp,fun j hj=>?_,c4⟩,fun x hx=>?_⟩
   · obtain⟨g1,g2,g3⟩:=hj
     refine ⟨by rw[c3];simpa using g1,?_,?_⟩<;>(rw[c3,qbv _ _ _ _ b1];split<;>omega)
   · rcases List.mem_singleton.1 hx with rfl
     refine ⟨⟨by rw[c3];simpa using b1,?_,?_⟩,by have:=hi.2.1;dsimp only at this ⊢;omega,hi.1⟩<;>(rw[c3,qbv _ _ _ _ b1,if_pos rfl];omega)
 split at h
 · rename_i hk0 hk
   rw[if_neg hk0,if_pos hk,if_neg hk0];exact use_law h
 split at h
 · rename_i hk0 hk1 hk
   rw[if_neg zac,if_neg zac,if_neg zac,if_pos hk,if_neg zac]
   obtain⟨S2,h2,h⟩:=qab h
   obtain⟨l2,e2⟩:=qbW hB h2
   obtain⟨l3,e3⟩:=qbW hB h
   rw[e2] at l3
   exact⟨l2.trans l3,by rw[e3,e2]⟩
 split at h
 · rename_i hk0 hk1 hk2 hk
   rw[if_neg zac,if_neg zac,if_neg zac,if_neg zac,if_pos hk,if_neg zac]
   obtain⟨S2,h2,h⟩:=qab h
   obtain⟨b1,rfl⟩:=qco h2
   unfold qbf at h
   obtain⟨S3,h3,h⟩:=qab h
   obtain⟨S4,h4,hfin⟩:=qab h
   obtain⟨l4,x,hx⟩:=hB _ _ _ h4
   unfold seesO at h3
   obtain⟨S5,h5,h3⟩:=qab h3
   unfold seesO at h3
   obtain⟨S6,h6,h3⟩:=qab h3
   have e63:S6=S3:=Option.some.inj h3
   subst e63
   obtain⟨_,_,hq5⟩:=qbQ h5
   obtain⟨_,_,hq6⟩:=qbQ h6
   have s5:S5.seen=S1.seen++[z.s]:=by rw[hq5];exact(qcE _ z.s i).1
   have s6:S6.seen=S1.seen++[z.s]++[z.t]:=by rw[hq6,(qcE S5 z.t i).1,s5]
   have l6:Law S1 S6 ([⟨i,true,z.s,S1.seen⟩]++[⟨i,true,z.t,S1.seen++[z.s]⟩]):=fun e=>by
    obtain⟨c1,c2,c3,c4,c5⟩:=see_law h6 e
    obtain⟨d1,d2,d3,d4,d5⟩:=see_law h5 c1
    refine ⟨d1,fun hi=>?_⟩
    obtain⟨p1,p2,p3⟩:=d2 hi
    obtain⟨q1,q2,q3⟩:=c2 p1
    rw[d3] at c3;rw[d4] at c4;rw[s5,List.length_append,List.length_singleton] at q3;dsimp only at p2 p3 c3 c4 q2;refine ⟨q1,⟨by omega,by rw[c3];simp,fun j hj=>?_,c4⟩,fun x hx=>?_⟩
    · obtain⟨g1,g2,g3⟩:=hj
      refine ⟨by rw[c3];simpa using g1,?_,?_⟩<;>(rw[c3,qbv _ _ _ _ b1];split<;>omega)
    · have gi:Gd S6 i:=by refine ⟨by rw[c3];simpa using b1,?_,?_⟩<;>(rw[c3,qbv _ _ _ _ b1,if_pos rfl];omega)
      simp only[List.cons_append,List.nil_append,List.mem_cons,List.not_mem_nil,or_false] at hx;rcases hx with rfl | rfl
      · exact⟨gi,by dsimp only;omega,hi.1⟩
      · refine ⟨gi,by dsimp only;rw[List.length_append,List.length_singleton];omega,?_⟩
        have:=p1.1
        rw[s5] at this;exact this
   split at hfin
   · rename_i hl
     cases hfin
     have lt:Law S1 S4 (([⟨i,true,z.s,S1.seen⟩]++[⟨i,true,z.t,S1.seen++[z.s]⟩])++SB z.b (S1.seen++[z.s]++[z.t])):=by
      rw[s6] at l4;exact l6.trans l4
     have hx2:S4.seen=S1.seen++([z.s]++[z.t]++x):=by rw[hx,s6];simp
     exact⟨take_law lt hx2 hl,by dsimp only;rw[hx2,List.take_left'];rfl⟩
   · cases hfin
 split at h
 · rename_i hk0 hk1 hk2 hk3 hk
   rw[if_neg zac,if_neg zac,if_neg zac,if_neg zac,if_neg zac,if_pos hk,if_neg zac];exact qbW hB h
 · rename_i hk0 hk1 hk2 hk3 hk4 hk5
   cases h
   rw[if_neg zac,if_neg zac,if_neg zac,if_neg zac,if_neg zac,if_neg zac,if_neg zac]
   exact⟨Law.refl _,rfl⟩
theorem blkS_law (ns:List Nd):∀ (f:Nat) (i:Int) (S R:Sc),blkS ns f i S=some R→Law S R (qar ns f i S.seen)∧∃ x,R.seen=S.seen++x:=by
 intro f
 induction f with
 | zero =>
  intro i S R h;unfold blkS at h
  split at h
  · cases h;exact⟨Law.refl S,[],by simp⟩
  · cases h
 | succ f ih =>
  intro i S R h
  by_cases hi:i<0
  · rw[blkS_neg _ _ _ _ hi] at h;cases h
    unfold qar;rw[if_pos hi]
    exact⟨Law.refl S,[],by simp⟩
  · unfold blkS at h
    rw[if_neg hi] at h;unfold qar;rw[if_neg hi]
    split at h
    · cases h
    · rename_i z hz
      rw[hz];dsimp only
      obtain⟨S1,h1,h⟩:=qab h
      obtain⟨l1,e1⟩:=stmS_law (fun i S R h=>exprS_law ns f i S R h) (fun i S R h=>ih i S R h) h1
      obtain⟨l2,x,e2⟩:=ih _ _ _ h
      rw[e1] at l2;refine ⟨l1.trans l2,?_⟩;rw[e2,e1]
      split
      · exact⟨[z.s]++x,by simp⟩
      · exact⟨x,rfl⟩
def Sc.start (n:Nat):Sc:=⟨[],0,List.replicate n (-1),[],[],0,0⟩
theorem qfR {fi:Int} (h:mayB ns fi=true):∃ R,qbf (blkS ns ns.length) fi (-1) [] (Sc.start ns.length)=some R∧R.slots.length=ns.length∧R.slots.length≤512 ∧
  (R.e=0→R.free=[]∧0≤R.most∧R.most≤32∧∀ x∈qar ns ns.length fi [],Good R x):=by
 obtain⟨n,hn,t⟩:=qgi h
 have h5:=(qby h).1
 have hr:Room ns.length (Sc.start ns.length) (n+0):=by
  refine ⟨by simp[Sc.start],by simp[Sc.start];omega,by simp[Sc.start];omega,by simp[Sc.start];omega⟩
 obtain⟨R,h1,h2,h3⟩:=qbA (B:=blkS ns ns.length) (first:=fi) (i:=-1) (names:=[]) (n:=n) (c:=0) (fun S hS=>blkS_room ns ns.length fi n S t hn hS) zaj hr
 have hs:R.slots.length=ns.length:=by rw[h2.2.2.1];simp[Sc.start]
 refine ⟨R,h1,hs,by omega,fun e=>?_⟩
 obtain⟨l,_⟩:=qbW (fun i S R h=>blkS_law ns ns.length i S R h) h1
 obtain⟨_,k⟩:=l e
 obtain⟨i1,q1,g1⟩:=k ⟨by simp[Sc.start],by simp[Sc.start],by simp[Sc.start]⟩
 exact⟨q1.2.2.2,by have:=i1.2.1;omega,i1.2.2,g1⟩
structure Cin where
 op:Int
 a:Int
 b:Int
 nd:Int
structure Mk where
 ins:List Cin
 vals:List (Int × Int × ByteArray)
 now:Int
 high:Int
def Mk.add (M:Mk) (op a b nd h:Int):Option Mk :=
 if M.ins.length≤100000∧-100000≤M.now∧M.now≤100000∧-10≤h∧h≤10 then some { M with ins:=M.ins++[⟨op,a,b,nd⟩],now:=M.now+h,high:=max M.high (M.now+h) } else none
def Mk.setA (M:Mk) (j:Nat):Option Mk :=
 match M.ins[j]? with
 | none=>none
 | some x=>if M.ins.length≤100000 then some { M with ins:=M.ins.set j { x with a:=(M.ins.length:Int) } } else none
def Mk.setB (M:Mk) (j:Nat):Option Mk :=
 match M.ins[j]? with
 | none=>none
 | some x=>if M.ins.length≤100000 then some { M with ins:=M.ins.set j { x with b:=(M.ins.length:Int) } } else none
def veq (v u:Int × Int × ByteArray):Bool:=v.1==u.1&&(v.2.1==u.2.1&&(v.2.2.toList==u.2.2.toList))
def vidx (v:Int × Int × ByteArray):List (Int × Int × ByteArray)→Int→Int
 | [],_=>-1
 | u::l,j=>if veq u v=true then j else vidx v l (j+1)
def Mk.value (M:Mk) (v:Int × Int × ByteArray):Option (Mk × Int) :=
 if M.vals.length≤100000 then
  if 0≤vidx v M.vals 0 then some (M,vidx v M.vals 0) else some ({ M with vals:=M.vals++[v] },(M.vals.length:Int))
 else none
def andS:ByteArray:=⟨#[97,110,100]⟩
def orS:ByteArray:=⟨#[111,114]⟩
def signsL:List ByteArray:=[⟨#[61,61]⟩,⟨#[33,61]⟩,⟨#[60]⟩,⟨#[60,61]⟩,⟨#[62]⟩,⟨#[62,61]⟩,⟨#[43]⟩,⟨#[45]⟩,⟨#[42]⟩,⟨#[47]⟩,⟨#[37]⟩,⟨#[46,46]⟩]
def sidx (s:ByteArray):List ByteArray→Int→Int
 | [],_=>-1
 | u::l,j=>if (u.toList==s.toList)=true then j else sidx s l (j+1)
def csgF (s:ByteArray):Int:=sidx s signsL 0
def twoM (E:Int→Mk→Option Mk) (i:Nat) (z:Nd) (M:Mk):Option Mk :=
 (E z.a M).bind fun M0 =>
 if z.s=andS∨z.s=orS then
  (M0.add 5 0 (if z.s=orS then 1 else 0) i (-1)).bind fun M1=>(E z.b M1).bind fun M2=>(M2.add 6 0 0 i 0).bind fun M3=>M3.setA M0.ins.length
 else(E z.b M0).bind fun M1=>M1.add 4 (csgF z.s) 0 i (-1)
def exprM (ns:List Nd) (sl:List Int):Nat→Int→Mk→Option Mk
 | 0,_,_=>none
 | f+1,i,M =>
  if i<0 then none else
  match ns[i.toNat]? with
  | none=>none
  | some z =>
   if z.k=0∨z.k=1∨z.k=2∨z.k=3 then(M.value (z.k,z.i,z.s)).bind fun q=>q.1.add 0 q.2 0 (i.toNat:Nat) 1
   else if z.k=4 then(sl[i.toNat]?).bind fun j=>M.add 1 j 0 (i.toNat:Nat) 1
   else if z.k=11 then twoM (exprM ns sl f) i.toNat z M
   else(exprM ns sl f z.a M).bind fun M1=>M1.add 3 z.k 0 (i.toNat:Nat) 0
def loopM (B:Int→Mk→Option Mk) (op a:Int) (i:Nat) (bl:Int) (M:Mk):Option Mk :=
 (M.add op a 0 i 0).bind fun M1=>(B bl M1).bind fun M2=>(M2.add 9 M.ins.length 0 i 0).bind fun M3=>M3.setB M.ins.length
def ifM (B:Int→Mk→Option Mk) (i:Nat) (z:Nd) (M:Mk):Option Mk :=
 (M.add 8 0 0 i (-1)).bind fun M1=>(B z.b M1).bind fun M2 =>
  if z.c<0 then M2.setA M.ins.length
  else(M2.add 9 0 0 i 0).bind fun M3=>(M3.setA M.ins.length).bind fun M4=>(B z.c M4).bind fun M5=>M5.setA M2.ins.length
def stmKM (E B:Int→Mk→Option Mk) (sl:List Int) (i:Nat) (z:Nd) (M:Mk):Option Mk :=
 if z.k=20∨z.k=21 then(sl[i]?).bind fun j=>M.add 2 j 0 i (-1)
 else if z.k=22 then(E z.b M).bind fun M1=>M1.add 10 0 0 i (-2)
 else if z.k=23 then M.add 11 0 0 i (-1)
 else if z.k=27 then M.add 16 0 0 i (-1)
 else if z.k=28 then M.add 17 0 0 i (-1)
 else if z.k=24 then ifM B i z M
 else if z.k=25 then(M.add 12 0 z.i i (-1)).bind fun M1=>(sl[i]?).bind fun j=>loopM B 13 j i z.b M1
 else if z.k=26 then(M.add 14 z.i 0 i 0).bind fun M1=>loopM B 15 0 i z.b M1
 else some M
def stmM (E B:Int→Mk→Option Mk) (sl:List Int) (i:Nat) (z:Nd) (M:Mk):Option Mk :=
 (if z.k=26 then some M else E z.a M).bind fun M1=>stmKM E B sl i z M1
def blkM (ns:List Nd) (sl:List Int):Nat→Int→Mk→Option Mk
 | 0,i,M=>if i<0 then some M else none
 | f+1,i,M=>if i<0 then some M else
  match ns[i.toNat]? with
  | none=>none
  | some z=>(M.add 7 0 0 (i.toNat:Nat) 0).bind fun M1=>(stmM (exprM ns sl f) (blkM ns sl f) sl i.toNat z M1).bind fun M2=>blkM ns sl f z.x M2
def Mk.start:Mk:=⟨[],[],0,0⟩
def codeF (ns:List Nd) (fi:Int) (sl:List Int):Option Mk:=(blkM ns sl ns.length fi Mk.start).bind fun M=>M.add 18 0 0 (-1) 0
def VOk (v:Int × Int × ByteArray):Prop:=(v.1=0∧v.2.1=0∧v.2.2.size=0)∨(v.1=1∧(v.2.1=0∨v.2.1=1)∧v.2.2.size=0)∨(v.1=2∧v.2.2.size=0)∨(v.1=3∧v.2.1=0∧v.2.2.size≤64)
def EK (ns:List Nd) (i:Int):Prop:=∃ (j:Nat) (z:Nd),i=(j:Int)∧ns[j]?=some z∧z.k<20
def SK (ns:List Nd) (i:Int):Prop:=i<0∨∃ (j:Nat) (z:Nd),i=(j:Int)∧ns[j]?=some z∧20≤z.k
structure NK (ns:List Nd) (z:Nd):Prop where
 kd:qch z.k=true
 ea:shA z.k=true→EK ns z.a
 eb:shB z.k=true→EK ns z.b
 sb:shBB z.k=true→SK ns z.b
 sc:SK ns z.c
 sx:SK ns z.x
 vv:z.k=0∨z.k=1∨z.k=2∨z.k=3→VOk (z.k,z.i,z.s)
def Fine (N:Nat) (M:Mk):Prop:=(∀ x∈M.ins,-1≤x.nd∧x.nd<(N:Int))∧(∀ v∈M.vals,VOk v)
structure MG (N:Nat) (M R:Mk) (n:Nat) (h:Int):Prop where
 l1:M.ins.length≤R.ins.length
 l2:R.ins.length≤M.ins.length+4*n
 v2:R.vals.length≤M.vals.length+n
 nw:R.now=M.now+h
 h1:M.high≤R.high
 h2:R.high≤max M.high (M.now+n)
 fn:Fine N M→Fine N R
structure MR (M:Mk) (n:Nat):Prop where
 l:M.ins.length+4*n≤90000
 v:M.vals.length+n≤90000
 n0:0≤M.now
 n1:M.now+n≤90000
theorem MG.refl (N:Nat) (M:Mk) (n:Nat):MG N M M n 0:=⟨Nat.le_refl _,by omega,by omega,by omega,Int.le_refl _,by omega,id⟩
theorem qaA {M:Mk} (op a b nd h:Int) (hl:M.ins.length≤100000) (h0:-100000≤M.now) (h1:M.now≤100000) (h2:-10≤h) (h3:h≤10) (hn:-1≤nd∧nd<(N:Int)) :
  ∃ R,M.add op a b nd h=some R∧R.ins.length=M.ins.length+1∧R.vals=M.vals∧R.now=M.now+h∧R.high=max M.high (M.now+h)∧(Fine N M→Fine N R):=by
 refine ⟨{ M with ins:=M.ins++[⟨op,a,b,nd⟩],now:=M.now+h,high:=max M.high (M.now+h) },by unfold Mk.add;rw[if_pos ⟨hl,h0,h1,h2,h3⟩],by simp,rfl,rfl,rfl,fun hf=>⟨fun x hx=>?_,hf.2⟩⟩;rcases List.mem_append.1 hx with h | h
 · exact hf.1 x h
 · obtain rfl:=List.mem_singleton.1 h
   exact hn
theorem qdk {M:Mk} (j:Nat) (hj:j<M.ins.length) (hl:M.ins.length≤100000):∃ R,M.setA j=some R∧R.ins.length=M.ins.length∧R.vals=M.vals∧R.now=M.now∧R.high=M.high∧(Fine N M→Fine N R):=by
 have hx:=List.getElem?_eq_getElem hj;refine ⟨{ M with ins:=M.ins.set j { M.ins[j] with a:=(M.ins.length:Int) } },by unfold Mk.setA;rw[hx];dsimp only;rw[if_pos hl],by simp,rfl,rfl,rfl,fun hf=>⟨fun x hm=>?_,hf.2⟩⟩;dsimp only at hm;rcases List.mem_or_eq_of_mem_set hm with h | h
 · exact hf.1 x h
 · subst h;exact hf.1 M.ins[j] (List.mem_of_getElem? hx)
theorem setB_room {M:Mk} (j:Nat) (hj:j<M.ins.length) (hl:M.ins.length≤100000):∃ R,M.setB j=some R∧R.ins.length=M.ins.length∧R.vals=M.vals∧R.now=M.now∧R.high=M.high∧(Fine N M→Fine N R):=by
 have hx:=List.getElem?_eq_getElem hj;refine ⟨{ M with ins:=M.ins.set j { M.ins[j] with b:=(M.ins.length:Int) } },by unfold Mk.setB;rw[hx];dsimp only;rw[if_pos hl],by simp,rfl,rfl,rfl,fun hf=>⟨fun x hm=>?_,hf.2⟩⟩;dsimp only at hm;rcases List.mem_or_eq_of_mem_set hm with h | h
 · exact hf.1 x h
 · subst h;exact hf.1 M.ins[j] (List.mem_of_getElem? hx)
theorem value_room {M:Mk} {v:Int × Int × ByteArray} (hl:M.vals.length≤100000) (hv:VOk v):∃ R j,M.value v=some (R,j)∧R.ins=M.ins∧R.vals.length≤M.vals.length+1∧R.now=M.now∧R.high=M.high∧(Fine N M→Fine N R):=by
 unfold Mk.value;rw[if_pos hl]
 by_cases h:0≤vidx v M.vals 0
 · exact⟨M,vidx v M.vals 0,by rw[if_pos h],rfl,by omega,rfl,rfl,id⟩
 · refine ⟨{ M with vals:=M.vals++[v] },(M.vals.length:Int),by rw[if_neg h],rfl,by simp,rfl,rfl,fun hf=>⟨hf.1,fun u hu=>?_⟩⟩
   rcases List.mem_append.1 hu with h | h
   · exact hf.2 u h
   · obtain rfl:=List.mem_singleton.1 h
     exact hv
theorem ek_tr (h:EK ns i) (t:Tr ns i n):1≤n:=by
 obtain⟨j,z,rfl,_,_⟩:=h
 cases t with
 | neg h=>omega
 | node=>omega
theorem qfb (ns:List Nd) (sl:List Int) (hs:ns.length≤sl.length) (hk:∀ (j:Nat) (z:Nd),ns[j]?=some z→NK ns z):∀ (f:Nat) (i:Int) (n:Nat) (M:Mk),EK ns i→Tr ns i n→n≤f→MR M n→∃ R,exprM ns sl f i M=some R∧MG ns.length M R n 1:=by
 intro f
 induction f with
 | zero =>
  intro i n M e t hf hr
  have:=ek_tr e t
  omega
 | succ f ih =>
  intro i n M e t hf hr
  obtain⟨j,z,rfl,hz,h20⟩:=e
  have hj:=(List.getElem?_eq_some_iff.1 hz).1
  obtain⟨_,z',na,nb,nc,nx,e',hz',ta,tb,tc,tx,rfl⟩:=qci t zac
  cases e'
  obtain rfl:z=z':=Option.some.inj (hz.symm.trans hz');have K:=hk j z hz
  obtain⟨r1,r2,r3,r4⟩:=hr
  have hnd:(-1:Int)≤(j:Int)∧(j:Int)<(ns.length:Int):=by omega
  unfold exprM;rw[if_neg zac,Int.toNat_natCast,hz];dsimp only
  split
  · rename_i hc
    obtain⟨R1,q,e1,d1,d2,d3,d4,d5⟩:=value_room (N:=ns.length) (M:=M) zac (K.vv hc)
    rw[e1];dsimp only[Option.bind]
    obtain⟨R,e2,c1,c2,c3,c4,c5⟩:=qaA (N:=ns.length) (M:=R1) 0 q 0 j 1 (by rw[d1];omega) zac zac zac zac hnd
    refine ⟨R,e2,by rw[c1,d1];omega,by rw[c1,d1];omega,by rw[c2];omega,by rw[c3,d3],by rw[c4,d4];omega,by rw[c4,d3,d4];omega,fun hf=>c5 (d5 hf)⟩
  split
  · obtain⟨q,hq⟩:∃ q,sl[j]?=some q:=⟨_,List.getElem?_eq_getElem zac⟩
    rw[hq];dsimp only[Option.bind]
    obtain⟨R,e2,c1,c2,c3,c4,c5⟩:=qaA (N:=ns.length) (M:=M) 1 q 0 j 1 zac zac zac zac zac hnd
    exact⟨R,e2,by omega,by omega,by rw[c2];omega,c3,by omega,by omega,c5⟩
  rename_i hn hn4;have hkd:=K.kd;unfold qch at hkd;simp only[List.contains_iff_mem,List.mem_cons,List.not_mem_nil,or_false] at hkd
  split
  · rename_i h11
    have E1:=K.ea (by rw[h11];decide);have E2:=K.eb (by rw[h11];decide);have p1:=ek_tr E1 ta;have p2:=ek_tr E2 tb;unfold twoM
    obtain⟨M0,e0,g0⟩:=ih _ na M E1 ta zac ⟨by omega,by omega,r3,by omega⟩
    obtain⟨a1,a2,a3,a4,a5,a6,a7⟩:=g0
    rw[e0];dsimp only[Option.bind]
    split
    · obtain⟨M1,e1,c1,c2,c3,c4,c5⟩:=qaA (N:=ns.length) (M:=M0) 5 0 (if z.s=orS then 1 else 0) j (-1) zac zac zac zac zac hnd
      rw[e1];dsimp only
      obtain⟨M2,e2,g2⟩:=ih _ nb M1 E2 tb zac ⟨by omega,by rw[c2];omega,by omega,by omega⟩
      obtain⟨b1,b2,b3,b4,b5,b6,b7⟩:=g2
      rw[e2];dsimp only
      obtain⟨M3,e3,x1,x2,x3,x4,x5⟩:=qaA (N:=ns.length) (M:=M2) 6 0 0 j 0 zac zac zac zac zac hnd
      rw[e3];dsimp only
      obtain⟨R,e4,y1,y2,y3,y4,y5⟩:=qdk (N:=ns.length) (M:=M3) M0.ins.length zac zac
      refine ⟨R,e4,by omega,by omega,by rw[y2,x2];rw[c2] at b3;omega,by omega,by omega,by omega,fun hf=>y5 (x5 (b7 (c5 (a7 hf))))⟩
    · obtain⟨M1,e1,g1⟩:=ih _ nb M0 E2 tb zac ⟨by omega,by omega,by omega,by omega⟩
      obtain⟨b1,b2,b3,b4,b5,b6,b7⟩:=g1
      rw[e1];dsimp only
      obtain⟨R,e2,c1,c2,c3,c4,c5⟩:=qaA (N:=ns.length) (M:=M1) 4 (csgF z.s) 0 j (-1) zac zac zac zac zac hnd
      refine ⟨R,e2,by omega,by omega,by rw[c2];omega,by omega,by omega,by omega,fun hf=>c5 (b7 (a7 hf))⟩
  · rename_i h11
    have hA:shA z.k=true:=by
     have:z.k=5∨z.k=6∨z.k=7∨z.k=8∨z.k=9∨z.k=10:=by omega
     rcases this with h | h | h | h | h | h<;>rw[h]<;>decide
    have E1:=K.ea hA;have p1:=ek_tr E1 ta
    obtain⟨M0,e0,g0⟩:=ih _ na M E1 ta zac ⟨by omega,by omega,r3,by omega⟩
    obtain⟨a1,a2,a3,a4,a5,a6,a7⟩:=g0
    rw[e0];dsimp only[Option.bind]
    obtain⟨R,e2,c1,c2,c3,c4,c5⟩:=qaA (N:=ns.length) (M:=M0) 3 z.k 0 j 0 zac zac zac zac zac hnd
    exact⟨R,e2,by omega,by omega,by rw[c2];omega,by omega,by omega,by omega,fun hf=>c5 (a7 hf)⟩
def BR (ns:List Nd) (B:Int→Mk→Option Mk) (i:Int) (n:Nat):Prop:=∀ M,MR M n→∃ R,B i M=some R∧MG ns.length M R n 0
theorem qfh {B:Int→Mk→Option Mk} {bl:Int} (hB:BR ns B bl n) (op a:Int) (j:Nat) (hj:j<ns.length) (M:Mk) (hl:M.ins.length+2+4*n≤90000) (hv:M.vals.length+n≤90000) (n0:0≤M.now) (n1:M.now+n≤90000) :
  ∃ R,loopM B op a j bl M=some R∧M.ins.length≤R.ins.length∧R.ins.length≤M.ins.length+2+4*n∧R.vals.length≤M.vals.length+n∧R.now=M.now∧M.high≤R.high∧R.high≤max M.high (M.now+n)∧(Fine ns.length M→Fine ns.length R):=by
 have hnd:(-1:Int)≤(j:Int)∧(j:Int)<(ns.length:Int):=by omega
 unfold loopM
 obtain⟨M1,e1,c1,c2,c3,c4,c5⟩:=qaA (N:=ns.length) (M:=M) op a 0 j 0 zac zac zac zac zac hnd
 rw[e1];dsimp only[Option.bind]
 obtain⟨M2,e2,b1,b2,b3,b4,b5,b6,b7⟩:=hB M1 ⟨by omega,by rw[c2];omega,by omega,by omega⟩
 rw[e2];dsimp only
 obtain⟨M3,e3,x1,x2,x3,x4,x5⟩:=qaA (N:=ns.length) (M:=M2) 9 M.ins.length 0 j 0 zac zac zac zac zac hnd
 rw[e3];dsimp only
 obtain⟨R,e4,y1,y2,y3,y4,y5⟩:=setB_room (N:=ns.length) (M:=M3) M.ins.length zac zac
 rw[c2] at b3
 exact⟨R,e4,by omega,by omega,by rw[y2,x2];omega,by omega,by omega,by omega,fun hf=>y5 (x5 (b7 (c5 hf)))⟩
theorem stmM_room {sl:List Int} (hs:ns.length≤sl.length) {E B:Int→Mk→Option Mk} {j:Nat} {z:Nd} (hj:j<ns.length) (K:NK ns z) (h20:20≤z.k) {na nb nc:Nat}
  (hE:∀ M,shA z.k=true→MR M na→∃ R,E z.a M=some R∧MG ns.length M R na 1) (pa:shA z.k=true→1≤na) (hE2:∀ M,shB z.k=true→MR M nb→∃ R,E z.b M=some R∧MG ns.length M R nb 1) (pb:shB z.k=true→1≤nb) (hB:shBB z.k=true→BR ns B z.b nb) (hC:BR ns B z.c nc)
  (M:Mk) (hl:M.ins.length+3+4*(na+nb+nc)≤90000) (hv:M.vals.length+(na+nb+nc)≤90000) (n0:0≤M.now) (n1:M.now+(na+nb+nc:Nat)≤90000) :
  ∃ R,stmM E B sl j z M=some R∧M.ins.length≤R.ins.length∧R.ins.length≤M.ins.length+3+4*(na+nb+nc)∧R.vals.length≤M.vals.length+(na+nb+nc)∧R.now=M.now∧M.high≤R.high∧R.high≤max M.high (M.now+(na+nb+nc:Nat))∧(Fine ns.length M→Fine ns.length R):=by
 have hnd:(-1:Int)≤(j:Int)∧(j:Int)<(ns.length:Int):=by omega
 have hkd:=K.kd;unfold qch at hkd;simp only[List.contains_iff_mem,List.mem_cons,List.not_mem_nil,or_false] at hkd
 obtain⟨q,hq⟩:∃ q,sl[j]?=some q:=⟨_,List.getElem?_eq_getElem zac⟩
 unfold stmM stmKM
 by_cases h26:z.k=26
 · rw[if_pos h26]
   dsimp only[Option.bind];rw[if_neg zac,if_neg zac,if_neg zac,if_neg zac,if_neg zac,if_neg zac,if_neg zac,if_pos h26]
   obtain⟨M1,e1,c1,c2,c3,c4,c5⟩:=qaA (N:=ns.length) (M:=M) 14 z.i 0 j 0 zac zac zac zac zac hnd
   rw[e1];dsimp only
   obtain⟨R,e2,b1,b2,b3,b4,b5,b6,b7⟩:=qfh (hB (by rw[h26];decide)) 15 0 j hj M1 zac (by rw[c2];omega) zac zac
   rw[c2] at b3
   exact⟨R,e2,by omega,by omega,by omega,by omega,by omega,by omega,fun hf=>b7 (c5 hf)⟩
 rw[if_neg h26]
 have hA:shA z.k=true:=by
  have:z.k=20∨z.k=21∨z.k=22∨z.k=23∨z.k=24∨z.k=25∨z.k=27∨z.k=28:=by omega
  rcases this with h | h | h | h | h | h | h | h<;>rw[h]<;>decide
 have p1:=pa hA
 obtain⟨M0,e0,a1,a2,a3,a4,a5,a6,a7⟩:=hE M hA ⟨by omega,by omega,n0,by omega⟩
 rw[e0];dsimp only[Option.bind]
 by_cases h:z.k=20∨z.k=21
 · rw[if_pos h,hq]
   dsimp only
   obtain⟨R,e2,c1,c2,c3,c4,c5⟩:=qaA (N:=ns.length) (M:=M0) 2 q 0 j (-1) zac zac zac zac zac hnd
   exact⟨R,e2,by omega,by omega,by rw[c2];omega,by omega,by omega,by omega,fun hf=>c5 (a7 hf)⟩
 rw[if_neg h];have q1:=h;clear h
 by_cases h:z.k=22
 · rw[if_pos h]
   have hB2:shB z.k=true:=by rw[h];decide
   have p2:=pb hB2
   obtain⟨M1,e1,b1,b2,b3,b4,b5,b6,b7⟩:=hE2 M0 hB2 ⟨by omega,by omega,by omega,by omega⟩
   rw[e1];dsimp only
   obtain⟨R,e2,c1,c2,c3,c4,c5⟩:=qaA (N:=ns.length) (M:=M1) 10 0 0 j (-2) zac zac zac zac zac hnd
   exact⟨R,e2,by omega,by omega,by rw[c2];omega,by omega,by omega,by omega,fun hf=>c5 (b7 (a7 hf))⟩
 rw[if_neg h];have q2:=h;clear h
 have one:∀ op,∃ R,M0.add op 0 0 j (-1)=some R∧M.ins.length≤R.ins.length∧R.ins.length≤M.ins.length+3+4*(na+nb+nc)∧R.vals.length≤M.vals.length+(na+nb+nc)∧R.now=M.now∧M.high≤R.high∧R.high≤max M.high (M.now+(na+nb+nc:Nat))∧(Fine ns.length M→Fine ns.length R):=fun op=>by
  obtain⟨R,e2,c1,c2,c3,c4,c5⟩:=qaA (N:=ns.length) (M:=M0) op 0 0 j (-1) zac zac zac zac zac hnd
  exact⟨R,e2,by omega,by omega,by rw[c2];omega,by omega,by omega,by omega,fun hf=>c5 (a7 hf)⟩
 by_cases h:z.k=23
 · rw[if_pos h];exact one 11
 rw[if_neg h];have q3:=h;clear h
 by_cases h:z.k=27
 · rw[if_pos h];exact one 16
 rw[if_neg h];have q4:=h;clear h
 by_cases h:z.k=28
 · rw[if_pos h];exact one 17
 rw[if_neg h];have q5:=h;clear h one
 by_cases h:z.k=24
 · rw[if_pos h]
   have HB:=hB (by rw[h];decide);unfold ifM
   obtain⟨M1,e1,c1,c2,c3,c4,c5⟩:=qaA (N:=ns.length) (M:=M0) 8 0 0 j (-1) zac zac zac zac zac hnd
   rw[e1];dsimp only[Option.bind]
   obtain⟨M2,e2,b1,b2,b3,b4,b5,b6,b7⟩:=HB M1 ⟨by omega,by rw[c2];omega,by omega,by omega⟩
   rw[c2] at b3;rw[e2];dsimp only
   split
   · obtain⟨R,e4,y1,y2,y3,y4,y5⟩:=qdk (N:=ns.length) (M:=M2) M0.ins.length zac zac
     exact⟨R,e4,by omega,by omega,by rw[y2];omega,by omega,by omega,by omega,fun hf=>y5 (b7 (c5 (a7 hf)))⟩
   · obtain⟨M3,e3,x1,x2,x3,x4,x5⟩:=qaA (N:=ns.length) (M:=M2) 9 0 0 j 0 zac zac zac zac zac hnd
     rw[e3];dsimp only
     obtain⟨M4,e4,y1,y2,y3,y4,y5⟩:=qdk (N:=ns.length) (M:=M3) M0.ins.length zac zac
     rw[e4];dsimp only
     obtain⟨M5,e5,u1,u2,u3,u4,u5,u6,u7⟩:=hC M4 ⟨by omega,by rw[y2,x2];omega,by omega,by omega⟩
     rw[e5];dsimp only
     obtain⟨R,e6,t1,t2,t3,t4,t5⟩:=qdk (N:=ns.length) (M:=M5) M2.ins.length zac zac
     rw[y2,x2] at u3
     exact⟨R,e6,by omega,by omega,by rw[t2];omega,by omega,by omega,by omega,fun hf=>t5 (u7 (y5 (x5 (b7 (c5 (a7 hf))))))⟩
 rw[if_neg h]
 have h25:z.k=25:=by omega
 rw[if_pos h25]
 obtain⟨M1,e1,c1,c2,c3,c4,c5⟩:=qaA (N:=ns.length) (M:=M0) 12 0 z.i j (-1) zac zac zac zac zac hnd
 rw[e1];dsimp only;rw[hq];dsimp only
 obtain⟨R,e2,b1,b2,b3,b4,b5,b6,b7⟩:=qfh (hB (by rw[h25];decide)) 13 q j hj M1 zac (by rw[c2];omega) zac zac
 rw[c2] at b3
 exact⟨R,e2,by omega,by omega,by omega,by omega,by omega,by omega,fun hf=>b7 (c5 (a7 hf))⟩
theorem blkM_neg (ns:List Nd) (sl:List Int) (f:Nat) (i:Int) (M:Mk) (h:i<0):blkM ns sl f i M=some M:=by
 cases f<;>(unfold blkM;rw[if_pos h])
theorem blkM_room (ns:List Nd) (sl:List Int) (hs:ns.length≤sl.length) (hk:∀ (j:Nat) (z:Nd),ns[j]?=some z→NK ns z):∀ (f:Nat) (i:Int) (n:Nat),SK ns i→Tr ns i n→n≤f→BR ns (blkM ns sl f) i n:=by
 intro f
 induction f with
 | zero =>
  intro i n e t hf M hr
  rcases e with e | ⟨j,z,rfl,hz,h20⟩
  · exact⟨M,blkM_neg _ _ _ _ _ e,MG.refl _ _ _⟩
  · obtain⟨_,z',na,nb,nc,nx,e',hz',ta,tb,tc,tx,rfl⟩:=qci t zac
    omega
 | succ f ih =>
  intro i n e t hf M hr
  rcases e with e | ⟨j,z,rfl,hz,h20⟩
  · exact⟨M,blkM_neg _ _ _ _ _ e,MG.refl _ _ _⟩
  have hj:=(List.getElem?_eq_some_iff.1 hz).1
  obtain⟨_,z',na,nb,nc,nx,e',hz',ta,tb,tc,tx,rfl⟩:=qci t zac
  cases e'
  obtain rfl:z=z':=Option.some.inj (hz.symm.trans hz');have K:=hk j z hz
  obtain⟨r1,r2,r3,r4⟩:=hr
  unfold blkM;rw[if_neg zac,Int.toNat_natCast,hz];dsimp only
  obtain⟨M1,e1,c1,c2,c3,c4,c5⟩:=qaA (N:=ns.length) (M:=M) 7 0 0 j 0 zac zac zac zac zac ⟨by omega,by omega⟩
  rw[e1];dsimp only[Option.bind]
  obtain⟨M2,e2,b1,b2,b3,b4,b5,b6,b7⟩:=stmM_room hs (E:=exprM ns sl f) (B:=blkM ns sl f) hj K h20 (na:=na) (nb:=nb) (nc:=nc) (fun M ha hm=>qfb ns sl hs hk f _ _ M (K.ea ha) ta zac hm) (fun ha=>ek_tr (K.ea ha) ta) (fun M ha hm=>qfb ns sl hs hk f _ _ M (K.eb ha) tb zac hm) (fun ha=>ek_tr (K.eb ha) tb) (fun ha=>ih _ _ (K.sb ha) tb zac) (ih _ _ K.sc tc zac) M1 zac (by rw[c2];omega) zac zac
  rw[e2];dsimp only;rw[c2] at b3
  obtain⟨R,e3,x1,x2,x3,x4,x5,x6,x7⟩:=ih _ _ K.sx tx zac M2 ⟨by omega,by omega,by omega,by omega⟩
  exact⟨R,e3,by omega,by omega,by omega,by omega,by omega,by omega,fun hf=>x7 (b7 (c5 hf))⟩
theorem codeF_law {fi:Int} {sl:List Int} (hs:ns.length≤sl.length) (hk:∀ (j:Nat) (z:Nd),ns[j]?=some z→NK ns z) (hf:SK ns fi) {n:Nat} (t:Tr ns fi n) (hn:n≤ns.length) (h512:ns.length≤512) :
  ∃ M,codeF ns fi sl=some M∧1≤M.ins.length∧M.ins.length≤4*ns.length+1∧0≤M.high∧M.high≤(ns.length:Int)+1∧Fine ns.length M∧M.vals.length≤ns.length:=by
 obtain⟨M,e,b1,b2,b3,b4,b5,b6,b7⟩:=blkM_room ns sl hs hk ns.length fi n hf t hn Mk.start ⟨by simp[Mk.start];omega,by simp[Mk.start];omega,Int.le_refl _,by simp[Mk.start];omega⟩
 simp only[Mk.start,List.length_nil] at b1 b2 b3 b4 b5 b6
 obtain⟨R,e2,c1,c2,c3,c4,c5⟩:=qaA (N:=ns.length) (M:=M) 18 0 0 (-1) 0 zac zac zac zac zac ⟨by omega,by omega⟩
 refine ⟨R,by unfold codeF;rw[e];exact e2,by omega,by omega,by omega,by omega,c5 (b7 ⟨fun x hx=>(by cases hx),fun x hx=>(by cases hx)⟩),by rw[c2];omega⟩
theorem takes_ek {k:Int} (h:qal ns k 0 t false=true) (ht:t≤(ns.length:Int)):EK ns k:=by
 have hl:=qbO h;unfold qal qct at h;simp only[Bool.and_eq_true] at h
 obtain⟨j,rfl⟩:∃ j:Nat,k=(j:Int):=⟨k.toNat,by omega⟩
 have hj:j<ns.length:=by omega
 have hz:=List.getElem?_eq_getElem hj;refine ⟨j,ns[j],rfl,hz,?_⟩;have h2:=h.2;rw[Int.toNat_natCast,hz] at h2;dsimp only at h2;have h3:=beq_iff_eq.1 h2
 have:=decide_eq_false_iff_not.1 h3.symm
 omega
theorem takes_sk {k f:Int} (h:qal ns k f t true=true) (hf:0≤f) (ht:t≤(ns.length:Int)):SK ns k:=by
 have hl:=qbO h;unfold qal qct at h;simp only[Bool.and_eq_true] at h
 obtain⟨j,rfl⟩:∃ j:Nat,k=(j:Int):=⟨k.toNat,by omega⟩
 have hj:j<ns.length:=by omega
 have hz:=List.getElem?_eq_getElem hj;refine Or.inr ⟨j,ns[j],rfl,hz,?_⟩;have h2:=h.2;rw[Int.toNat_natCast,hz] at h2;dsimp only at h2;have h3:=beq_iff_eq.1 h2;exact of_decide_eq_true h3.symm
theorem blk_sk {k:Int} (h:blkB ns k t=true) (ht:t≤(ns.length:Int)):SK ns k:=by
 unfold blkB at h;simp only[Bool.or_eq_true,beq_iff_eq] at h;rcases h with h | h
 · exact Or.inl zac
 · exact takes_sk h (Int.le_refl _) ht
theorem quot_len (h:qbe s=true):s.size≤64:=by
 unfold qbe qbM at h
 split at h
 · simp at h
 · rename_i q
   have:s.size=s.data.toList.length:=by rw[←ByteArray.size_data,←Array.length_toList]
   omega
theorem qfM (h:s.toList.isEmpty=true):s.size=0:=by
 have h1:=List.isEmpty_iff.1 h
 have h3:(⟨#[]⟩:ByteArray).toList=[]:=by first | kernel_rfl | (unfold ByteArray.toList;unfold ByteArray.toList.loop;rfl)
 have h2:(s.toList==(⟨#[]⟩:ByteArray).toList)=true:=by rw[h1,h3];rfl
 rw[(Lib.bytes_beq_iff _ _).1 h2];rfl
theorem node_nk {j:Nat} {z:Nd} (hz:ns[j]?=some z) (h:nodeB ns j z=true):NK ns z:=by
 have hj:=(List.getElem?_eq_some_iff.1 hz).1;unfold nodeB at h;simp only[Bool.and_eq_true] at h
 obtain⟨hh,⟨⟨ha,hb⟩,hc⟩,hx⟩:=h
 unfold qdP at hh;simp only[Bool.and_eq_true] at hh
 obtain⟨⟨hk,hn⟩,ht1,ht2⟩:=hh
 refine ⟨hk,fun q=>?_,fun q=>?_,fun q=>?_,?_,?_,fun q=>?_⟩
 · unfold aB at ha;rw[if_pos q] at ha;exact takes_ek ha zac
 · unfold bB at hb;rw[if_pos q] at hb;exact takes_ek hb zac
 · unfold bB at hb
   have q2:¬ shB z.k=true:=by
    unfold shBB at q;unfold shB;simp only[List.contains_iff_mem,List.mem_cons,List.not_mem_nil,or_false] at q ⊢
    omega
   rw[if_neg q2,if_pos q] at hb;exact blk_sk hb zac
 · unfold cB at hc
   simp only[Bool.or_eq_true,Bool.and_eq_true,beq_iff_eq] at hc
   rcases hc with h | ⟨_,h⟩
   · exact Or.inl zac
   · exact blk_sk h zac
 · unfold xB at hx
   simp only[Bool.or_eq_true,Bool.and_eq_true,beq_iff_eq] at hx
   rcases hx with h | ⟨_,h⟩
   · exact Or.inl zac
   · exact takes_sk h zac zac
 · unfold VOk
   dsimp only;unfold numOk at hn;unfold txt2 at ht2;rcases q with h | h | h | h
   · rw[h] at hn ht2
     exact Or.inl ⟨h,by simpa using hn,qfM (by simpa [shS] using ht2)⟩
   · rw[h] at hn ht2
     exact Or.inr (Or.inl ⟨h,by simpa using hn,qfM (by simpa [shS] using ht2)⟩)
   · rw[h] at hn ht2
     exact Or.inr (Or.inr (Or.inl ⟨h,qfM (by simpa [shS] using ht2)⟩))
   · rw[h] at hn ht2
     exact Or.inr (Or.inr (Or.inr ⟨h,by simpa using hn,quot_len (by simpa using ht2)⟩))
end Go.Proofs.YtpnabjopfpdkhaaGreatDoor
