/- Lemmas. -/
import Derived.Test.YtpnabjopfpdkhaaGreatDoorA01
import Derived.StillTail
import Derived.Deep.Quiet
import Derived.LoopTactic
import Derived.Lib.LaidTab
import Derived.Deep.QuietTactic
import Derived.BigQuiet
set_option linter.unusedSimpArgs false
set_option linter.unusedVariables false
set_option maxHeartbeats 4000000
set_option maxRecDepth 20000
namespace Go.Proofs.YtpnabjopfpdkhaaGreatDoor
open Go.RowKit
abbrev Fact:=Value→World→Prop
def Upc (Ψ:Fact):Prop:=∀ v W W',Ext W W'→Ψ v W→Ψ v W'
def RetG (W:World) (Ψ:Fact) (e:Ending) (W'':World):Prop:=∃ v,e=.returned v∧Ext W W''∧Ψ v W''
def qbX (P:Program) (W:World) (Ψ:Fact):Result Next→Prop
 | .ok (.value v) W'=>Ext W W'∧Ψ v W'
 | .ok .skip W'=>Ext W W'∧Ψ undef W'
 | .ok (.enter f args) W'=>Calls P f args W' (RetG W Ψ)
 | _=>False
def StepG (P:Program) (ops:Array Oper) (o:Oper) (a:Act) (W:World) (Ψ:Fact):Prop :=
 if Region.wanted o (yielded ops a.tmps) then qbX P W Ψ ((execOp a.eval o).run P W) else Ψ undef W
def PureStep (P:Program) (ops:Array Oper) (o:Oper) (a:Act) (W:World) (Ψ:Fact):Prop :=
 if Region.wanted o (yielded ops a.tmps) then ∃ v,(∀ w,(execOp a.eval o).run P w=.ok (.value v) w)∧Ψ v W else Ψ undef W
def StepK (P:Program) (ops:Array Oper) (b:Bool) (o:Oper) (a:Act) (W:World) (Ψ:Fact):Prop:=if b then PureStep P ops o a W Ψ else StepG P ops o a W Ψ
def EndsQ (Q:Exit→Act→World→Prop):Exit→Act→World→Prop
 | .normal,a,w=>Q .normal a w
 | _,_,_=>False
def dstOf (ops:Array Oper) (i:Nat):Option Tmp:=(ops[i]?).bind (·.dst)
def cur (ops:Array Oper) (n:Nat) (Ψs:Nat→Fact) (σ0:Tmp→Fact) (p:Nat→Bool) (t:Tmp):Fact :=
 match (List.range n).find? (fun i=>p i&&dstOf ops i==some t) with
 | some i=>Ψs i
 | none=>σ0 t
def headB (ops:Array Oper) (n N:Nat):Bool :=
 (List.range n).all fun j=>match ops[j]? with
  | none=>false
  | some oj=>(oj.after.all fun e=>!Region.binds .any e||decide (e.on<j)) &&
   (match oj.dst with | some d=>decide (d<N) | none=>true) &&
   (List.range j).all fun i=>match ops[i]? with
    | none=>false
    | some oi=>(oj.after.any (fun e=>Region.binds .any e&&e.on==i)||oi.apart ops oj)&&(match oi.dst with | some d=>oj.dst !=some d | none=>true)
def qdj (s n:Nat):Array Bool:=((List.range s).map fun i=>decide (i<n)).toArray
def ancL (ops:Array Oper) (n:Nat):List Nat:=(List.range n).reverse.foldl (fun M j=>if M.any (fun k=>Region.waitsFor .any ops k j) then j::M else M) [n]
def pureB (ops:Array Oper) (n:Nat) (fl:List Bool):Bool :=
 (List.range n).all fun j=>!(fl.getD j false)||match ops[j]? with
  | none=>false
  | some oj=>(List.range ops.size).all fun k=>decide (k<n)||match ops[k]? with
   | none=>false
   | some ok=>Region.waitsFor .any ops k j||oj.apart ops ok
def growB (ops:Array Oper) (n N:Nat) (fl:List Bool):Bool :=
 Region.noSelect ops&&headB ops n N&&pureB ops n fl&&Region.seqB .any ops (ops.size-n) n (qdj ops.size n) &&
  (decide (n=ops.size)||decide (n<ops.size)&&((List.range n).all fun i=>fl.getD i false||(ancL ops n).contains i)&&Region.chainB .any ops n)
section
variable {P:Program} {ops:Array Oper} {n N:Nat} {Ψs:Nat→Fact} {σ0:Tmp→Fact}
theorem wp_of_yields {o:Oper} {a:Act} {W:World} {Ψ:Fact} {K:Act→World→Prop} {Q:Exit→Act→World→Prop} (h:∀ v W',Ext W W'→Ψ v W'→K (a.put o.dst v) W')
  (hh:qbX P W Ψ ((execOp a.eval o).run P W)):o.wp P a W K Q:=by
 unfold Oper.wp;generalize (execOp a.eval o).run P W=r at *
 cases r with
 | ok n w' =>
  cases n<;>simp only[qbX] at hh<;>simp only[Oper.upon]
  case value u=>exact h _ _ hh.1 hh.2
  case skip=>exact h _ _ hh.1 hh.2
  case enter f args=>exact hh.mono fun e w'' ⟨v,he,hx,hv⟩=>by subst he;exact h _ _ hx hv
 | halt x w'=>simp only[qbX] at hh
theorem wpOp_of_step {i:Nat} {o:Oper} {a:Act} {W:World} {Ψ:Fact} {K:Act→World→Prop} {Q:Exit→Act→World→Prop} (hi:ops[i]?=some o)
  (h:∀ v W',Ext W W'→Ψ v W'→K (a.put o.dst v) W') (hs:StepG P ops o a W Ψ):wpOp P ops Q i K a W:=by
 unfold wpOp;simp only[hi];unfold StepG at hs
 split
 · rename_i hw
   simp only[hw,if_true] at hs;exact .inl (wp_of_yields h hs)
 · rename_i hw
   simp only[hw] at hs;exact h _ _ (Ext.refl _) hs
theorem step_of_pure {o:Oper} {a:Act} {W:World} {Ψ:Fact} (h:PureStep P ops o a W Ψ):StepG P ops o a W Ψ:=by
 unfold PureStep at h;unfold StepG
 split
 · rename_i hw
   simp only[hw,if_true] at h
   obtain⟨v,hr,hv⟩:=h
   rw[hr W]
   exact⟨Ext.refl _,hv⟩
 · rename_i hw
   simp only[hw] at h;exact h
theorem stepG_of {b:Bool} {o:Oper} {a:Act} {W:World} {Ψ:Fact} (h:StepK P ops b o a W Ψ):StepG P ops o a W Ψ:=by
 cases b
 · exact h
 · exact step_of_pure h
theorem wp_monoQ {o:Oper} {a:Act} {w:World} {K K':Act→World→Prop} {Q Q':Exit→Act→World→Prop} (hq:∀ e a w,Q e a w→Q' e a w) (h:∀ a w,K a w→K' a w) (hh:o.wp P a w K Q):o.wp P a w K' Q':=by
 unfold Oper.wp at *;generalize (execOp a.eval o).run P w=r at *
 cases r with
 | ok n w' =>
  cases n<;>simp only[Oper.upon] at hh ⊢
  case value u=>exact h _ _ hh
  case skip=>exact h _ _ hh
  case defer d=>exact h _ _ hh
  case enter f args =>
   refine Calls.mono hh fun e w'' he=>?_
   cases e with
   | returned u=>exact h _ _ he
   | panicked c=>exact hq _ _ _ he
   | outgrown=>obtain⟨x,y,hf⟩:=he;exact⟨x,y,hq _ _ _ hf⟩
  case row row args=>exact Rows.mono hh (fun _ _ he=>h _ _ he)
  all_goals exact hh
 | halt x w'=>cases x<;>simp only[Oper.upon] at hh ⊢<;>first | exact hq _ _ _ hh | exact hh
theorem wpOp_monoQ {i:Nat} {a:Act} {w:World} {K K':Act→World→Prop} {Q Q':Exit→Act→World→Prop} (hq:∀ e a w,Q e a w→Q' e a w) (h:∀ a w,K a w→K' a w) (hh:wpOp P ops Q i K a w):wpOp P ops Q' i K' a w:=by
 unfold wpOp at *
 split
 · exact h _ _ (by simpa [*] using hh)
 · rename_i o ho
   simp only[ho] at hh
   split
   · rename_i hw
     simp only[hw,if_true] at hh
     rcases hh with hh | ⟨h1,x,y,h2⟩
     · exact .inl (wp_monoQ hq h hh)
     · exact .inr ⟨h1,x,y,hq _ _ _ h2⟩
   · rename_i hw;simp only[hw] at hh;exact h _ _ hh
theorem qeT {Q Q':Exit→Act→World→Prop} (hq:∀ e a w,Q e a w→Q' e a w):∀ (f:Nat) (listed:Array Bool) (a:Act) (w:World),wpAny P .any ops Q f listed a w→wpAny P .any ops Q' f listed a w
 | 0,_,_,_,h=>⟨h.1,hq _ _ _ h.2⟩
 | f+1,_,_,_,h=>⟨fun h0=>hq _ _ _ (h.1 h0),fun i hi=>wpOp_monoQ hq (fun a' w' h'=>qeT hq f _ a' w' h') (h.2 i hi)⟩
theorem ends_le {Q:Exit→Act→World→Prop}:∀ e a w,EndsQ Q e a w→Q e a w:=by
 intro e a w h
 cases e<;>first | exact h | exact h.elim
@[go_sem] theorem ends_normal (Q:Exit→Act→World→Prop) (a:Act) (w:World):EndsQ Q .normal a w=Q .normal a w:=rfl
theorem anc_listed {n:Nat} {listed:Array Bool} (hcl:∀ j oj,ops[j]?=some oj→listed.getD j false=true→∀ e∈oj.after,Region.binds .any e=true→listed.getD e.on false=true)
  (hn:n∈Region.ready .any ops listed):∀ i∈ancL ops n,i=n∨listed.getD i false=true:=by
 have key:∀ (l M:List Nat),(∀ i∈M,i=n∨listed.getD i false=true) →
   ∀ i∈l.foldl (fun M j=>if M.any (fun k=>Region.waitsFor .any ops k j) then j::M else M) M,i=n∨listed.getD i false=true:=by
  intro l
  induction l with
  | nil=>intro M h;exact h
  | cons j l ih =>
   intro M h;rw[List.foldl_cons];refine ih _ ?_
   split
   · rename_i hany
     intro i hi
     cases hi with
     | head =>
      obtain⟨k,hk,hw⟩:=List.any_eq_true.1 hany
      obtain⟨ok,hok,e,he,hb,hon⟩:=Region.waitsFor_spec hw
      rcases h k hk with rfl | hl
      · obtain⟨_,o',ho',hall⟩:=mem_ready.1 hn
        have:o'=ok:=Option.some.inj (ho'.symm.trans hok)
        subst this
        right;rw[←hon];exact hall e he hb
      · right;rw[←hon];exact hcl k ok hok hl e he hb
     | tail _ hi=>exact h i hi
   · exact h
 exact key _ _ (fun i hi=>.inl (by simpa using hi))
structure HeadFacts (ops:Array Oper) (n N j:Nat) (oj:Oper):Prop where
 back:∀ e∈oj.after,Region.binds .any e=true→e.on<j
 rng:∀ d,oj.dst=some d→d<N
 tie:∀ i oi,i<j→ops[i]?=some oi→(∃ e∈oj.after,Region.binds .any e=true∧e.on=i)∨oi.apart ops oj=true
 unlike:∀ i oi d,i<j→ops[i]?=some oi→oi.dst=some d→oj.dst≠some d
theorem qaF (h:headB ops n N=true) {j:Nat} (hj:j<n):∃ oj,ops[j]?=some oj∧HeadFacts ops n N j oj:=by
 have h1:=List.all_eq_true.1 h j (List.mem_range.2 hj)
 cases ho:ops[j]? with
 | none=>simp[ho] at h1
 | some oj =>
  simp only[ho,Bool.and_eq_true,List.all_eq_true,List.mem_range] at h1
  obtain⟨⟨h2,h3⟩,h4⟩:=h1
  refine ⟨oj,rfl,?_,?_,?_,?_⟩
  · intro e he hb
    have:=(Array.all_eq_true_iff_forall_mem.1 h2) e he
    simpa [hb] using this
  · intro d hd
    simpa [hd] using h3
  · intro i oi hi hoi
    have:=h4 i hi
    simp only[hoi,Bool.and_eq_true,Bool.or_eq_true] at this;rcases this.1 with h5 | h5
    · obtain⟨e,he,hb⟩:=Array.any_eq_true'.1 h5
      simp only[Bool.and_eq_true,beq_iff_eq] at hb;exact .inl ⟨e,he,hb.1,hb.2⟩
    · exact .inr h5
  · intro i oi d hi hoi hd
    have:=h4 i hi
    simp only[hoi,Bool.and_eq_true,hd] at this
    simpa using this.2
theorem qcz (h:headB ops n N=true) {i j:Nat} (hi:i<n) (hj:j<n) {t:Tmp} (h1:dstOf ops i=some t) (h2:dstOf ops j=some t):i=j:=by
 obtain⟨oi,ei,fi⟩:=qaF h hi
 obtain⟨oj,ej,fj⟩:=qaF h hj
 have d1:oi.dst=some t:=by simpa [dstOf,ei] using h1
 have d2:oj.dst=some t:=by simpa [dstOf,ej] using h2
 rcases Nat.lt_trichotomy i j with hlt | rfl | hlt
 · exact absurd d2 (fj.unlike i oi t hlt ei d1)
 · rfl
 · exact absurd d1 (fi.unlike j oj t hlt ej d2)
theorem qaR (h:headB ops n N=true) {p:Nat→Bool} {i:Nat} (hi:i<n) (hp:p i=true) {t:Tmp} (hd:dstOf ops i=some t):cur ops n Ψs σ0 p t=Ψs i:=by
 unfold cur
 cases hf:(List.range n).find? (fun i=>p i&&dstOf ops i==some t) with
 | none =>
  have:=List.find?_eq_none.1 hf i (List.mem_range.2 hi)
  simp[hp,hd] at this
 | some k =>
  have h1:=List.find?_some hf;have h2:=List.mem_range.1 (List.mem_of_find?_eq_some hf);simp only[Bool.and_eq_true,beq_iff_eq] at h1
  have:=qcz h hi h2 hd h1.2
  subst this
  rfl
theorem qaI {p:Nat→Bool} {t:Tmp} (h:∀ i,i<n→p i=true→dstOf ops i≠some t):cur ops n Ψs σ0 p t=σ0 t:=by
 unfold cur
 cases hf:(List.range n).find? (fun i=>p i&&dstOf ops i==some t) with
 | none=>rfl
 | some k =>
  have h1:=List.find?_some hf;have h2:=List.mem_range.1 (List.mem_of_find?_eq_some hf);simp only[Bool.and_eq_true,beq_iff_eq] at h1;exact absurd h1.2 (h k h2 h1.1)
theorem qfO (a:Act) (d:Option Tmp) (v:Value) (t:Tmp) (hsz:∀ x,d=some x→x<a.tmps.size) :
  (a.put d v).tmps.getD t undef=if d=some t then v else a.tmps.getD t undef:=by
 cases d with
 | none=>simp[Act.put]
 | some x =>
  have hx:=hsz x rfl
  by_cases h:x=t
  · subst h
    simp[Act.put,hx]
  · simp[Act.put,h,Array.getElem?_setIfInBounds_ne h]
structure GrowInv (ops:Array Oper) (n N:Nat) (Ψs:Nat→Fact) (σ0:Tmp→Fact) (w0:World) (df:List Deferred) (listed:Array Bool) (a:Act) (W:World):Prop where
 head:HeadInv .any ops n listed
 ext:Ext w0 W
 size:a.tmps.size=N
 defers:a.defers=df
 sat:∀ t,cur ops n Ψs σ0 (fun i=>listed.getD i false) t (a.tmps.getD t undef) W
theorem grow_head (hB:headB ops n N=true) {w0:World} {df:List Deferred} (hup:∀ i,i<n→Upc (Ψs i)) (hup0:∀ t,Upc (σ0 t))
  {fl:Nat→Bool} (hstep:∀ j oj,j<n→ops[j]?=some oj→∀ a W,Ext w0 W→a.tmps.size=N→(∀ t∈oj.looksAt ops,cur ops n Ψs σ0 (fun i=>decide (i<j)) t (a.tmps.getD t undef) W)→StepK P ops (fl j) oj a W (Ψs j))
  {listed:Array Bool} {a:Act} {W:World} (inv:GrowInv ops n N Ψs σ0 w0 df listed a W) {i:Nat} (hi:i∈Region.ready .any ops listed) (hin:i<n) :
  ∃ oi,ops[i]?=some oi∧StepK P ops (fl i) oi a W (Ψs i)∧∀ v W',Ext W W'→Ψs i v W'→GrowInv ops n N Ψs σ0 w0 df (listed.setIfInBounds i true) (a.put oi.dst v) W':=by
 obtain⟨oi,hoi,fi⟩:=qaF hB hin
 obtain⟨hun,o',ho',hall⟩:=mem_ready.1 hi
 have:o'=oi:=Option.some.inj (ho'.symm.trans hoi)
 subst this;have hunf:=getD_both hun
 -- what i looks at is as it is in the order of the text
 have hlook:∀ t∈o'.looksAt ops,cur ops n Ψs σ0 (fun k=>decide (k<i)) t (a.tmps.getD t undef) W:=by
  intro t ht;have hs:=inv.sat t
  have key:cur ops n Ψs σ0 (fun k=>decide (k<i)) t=cur ops n Ψs σ0 (fun k=>listed.getD k false) t:=by
   by_cases hex:∃ k,k<n∧dstOf ops k=some t
   · obtain⟨k,hk,hd⟩:=hex
     obtain⟨ok,hok,fk⟩:=qaF hB hk
     have hdk:ok.dst=some t:=by simpa [dstOf,hok] using hd
     rcases Nat.lt_trichotomy k i with hlt | rfl | hlt
     · have hl:listed.getD k false=true:=by
         rcases fi.tie k ok hlt hok with ⟨e,he,hb,hon⟩ | hap
         · rw[←hon];exact hall e he hb
         · exact absurd ht ((Oper.apart_spec hap).1 t hdk)
       rw[qaR hB hk (by simpa using hlt) hd,qaR hB hk hl hd]
     · have n1:∀ m,m<n→decide (m<k)=true→dstOf ops m≠some t:=fun m hm hp hdm=>by
         have:=qcz hB hm hk hdm hd;simp at hp;omega
       have n2:∀ m,m<n→listed.getD m false=true→dstOf ops m≠some t:=fun m hm hp hdm=>by
        have:=qcz hB hm hk hdm hd;subst this;rw[hunf] at hp;cases hp
       rw[qaI n1,qaI n2]
     · have n1:∀ m,m<n→decide (m<i)=true→dstOf ops m≠some t:=fun m hm hp hdm=>by
         have:=qcz hB hm hk hdm hd;simp at hp;omega
       have n2:∀ m,m<n→listed.getD m false=true→dstOf ops m≠some t:=fun m hm hp hdm=>by
        have:=qcz hB hm hk hdm hd
        subst this
        rcases fk.tie i o' hlt hoi with ⟨e,he,hb,hon⟩ | hap
        · have:=inv.head.closed m ok hok hp e he hb
          rw[hon,hunf] at this;cases this
        · exact absurd ht ((Oper.apart_spec hap).2.2 t hdk)
       rw[qaI n1,qaI n2]
   · have n1:∀ (p:Nat→Bool) m,m<n→p m=true→dstOf ops m≠some t:=fun p m hm _ hdm=>hex ⟨m,hm,hdm⟩
     rw[qaI (n1 _),qaI (n1 _)]
  rw[key];exact hs
 refine ⟨o',hoi,hstep i o' hin hoi a W inv.ext inv.size hlook,fun v W' hx hv=>?_⟩
 have hrng:∀ x,o'.dst=some x→x<a.tmps.size:=fun x hx=>by rw[inv.size];exact fi.rng x hx
 refine ⟨inv.head.set hi hin,inv.ext.trans hx,?_,?_,?_⟩
 · have h1:=inv.size
   cases hd:o'.dst<;>simp[Act.put,h1]
 · have h1:=inv.defers
   cases hd:o'.dst<;>simp[Act.put,h1]
 · intro t
   have hlt:i<listed.size:=by
    rcases Nat.lt_or_ge i listed.size with h | h
    · exact h
    · simp[Array.getElem?_eq_none h] at hun
   rw[qfO a o'.dst v t hrng]
   by_cases hd:o'.dst=some t
   · rw[if_pos hd,qaR hB hin (by simp[hlt]) (by simp[dstOf,hoi,hd])]
     exact hv
   · rw[if_neg hd]
     have e:cur ops n Ψs σ0 (fun k=>(listed.setIfInBounds i true).getD k false) t=cur ops n Ψs σ0 (fun k=>listed.getD k false) t:=by
      by_cases hex:∃ k,k<n∧listed.getD k false=true∧dstOf ops k=some t
      · obtain⟨k,hk,hp,hdk⟩:=hex
        exact(qaR hB hk (p:=fun k=>(listed.setIfInBounds i true).getD k false) (getD_set_true hp) hdk).trans (qaR hB hk (p:=fun k=>listed.getD k false) hp hdk).symm
      · rw[qaI (fun m hm hp hdm=>hex ⟨m,hm,hp,hdm⟩),qaI (fun m hm hp hdm=>by
          by_cases hmi:i=m
          · subst hmi
            simp[dstOf,hoi] at hdm
            exact hd hdm
          · rw[getD_set_ne false hmi] at hp
            exact hex ⟨m,hm,hp,hdm⟩)]
     rw[e];have hs:=inv.sat t
     by_cases hex:∃ k,k<n∧listed.getD k false=true∧dstOf ops k=some t
     · obtain⟨k,hk,hp,hdk⟩:=hex
       rw[qaR hB hk hp hdk] at hs ⊢;exact hup k hk _ _ _ hx hs
     · rw[qaI (fun m hm hp hdm=>hex ⟨m,hm,hp,hdm⟩)] at hs ⊢
       exact hup0 t _ _ _ hx hs
def qcr (n:Nat) (listed:Array Bool):Nat:=((List.range n).filter fun i=>listed.getD i false==false).length
theorem left_set {listed:Array Bool} {i:Nat} (hin:i<n) (hl:i<listed.size) (hun:listed.getD i false=false):qcr n (listed.setIfInBounds i true)+1=qcr n listed:=by
 unfold qcr
 have key:∀ (l:List Nat),l.Nodup→i∈l→((l.filter fun k=>(listed.setIfInBounds i true).getD k false==false).length+1=(l.filter fun k=>listed.getD k false==false).length):=by
  intro l
  induction l with
  | nil=>intro _ h;cases h
  | cons x l ih =>
   intro hnd hm
   obtain⟨hx,hnd'⟩:=List.nodup_cons.1 hnd
   by_cases hxi:i=x
   · subst hxi
     have e:l.filter (fun k=>(listed.setIfInBounds i true).getD k false==false)=l.filter (fun k=>listed.getD k false==false):=by
      apply List.filter_congr
      intro k hk
      have:i≠k:=fun h=>hx (h ▸ hk)
      rw[getD_set_ne false this]
     have e1:((listed.setIfInBounds i true).getD i false==false)=false:=by simp[hl]
     have e2:(listed.getD i false==false)=true:=by simpa using hun
     rw[List.filter_cons,List.filter_cons,e1,e2,e]
     simp
   · have hm':i∈l:=by
       cases hm with
       | head=>exact absurd rfl hxi
       | tail _ h=>exact h
     have:=ih hnd' hm'
     rw[List.filter_cons,List.filter_cons,getD_set_ne false hxi]
     split
     · simp only[List.length_cons];omega
     · exact this
 exact key _ List.nodup_range (List.mem_range.2 hin)
theorem left_pos {listed:Array Bool} (h:0<qcr n listed):∃ i,i<n∧listed.getD i false=false∧∀ k,k<i→listed.getD k false=true:=by
 have hex:∃ i,i<n∧listed.getD i false=false:=by
  unfold qcr at h
  obtain⟨i,hi⟩:=List.exists_mem_of_length_pos h
  simp only[List.mem_filter,List.mem_range,beq_iff_eq] at hi
  exact⟨i,hi⟩
 obtain⟨i,hi,hf⟩:=hex
 induction i using Nat.strongRecOn with
 | _ i ih =>
  by_cases hall:∀ k,k<i→listed.getD k false=true
  · exact⟨i,hi,hf,hall⟩
  · simp only[Classical.not_forall] at hall
    obtain⟨k,hk,hkf⟩:=hall
    exact ih k hk zac (by simpa using hkf)
theorem qeh {id:Nat} {Q:Exit→Act→World→Prop} {a0:Act} {w:World} {l:List Oper} (n:Nat) (fl:List Bool) (hm:P.follows .mixedOrders=true) (hB:growB l.toArray n a0.tmps.size fl=true)
  (Ψs:Nat→Fact) (hup:∀ i,i<n→Upc (Ψs i))
  (hstep:∀ j oj,j<n→l.toArray[j]?=some oj→∀ a W,Ext w W→a.tmps.size=a0.tmps.size →
   (∀ t∈oj.looksAt l.toArray,cur l.toArray n Ψs (fun t v _=>v=a0.tmps.getD t undef) (fun i=>decide (i<j)) t (a.tmps.getD t undef) W)→StepK P l.toArray (fl.getD j false) oj a W (Ψs j))
  (htail:∀ a W,Ext w W→a.tmps.size=a0.tmps.size→a.defers=a0.defers →
   (∀ t,cur l.toArray n Ψs (fun t v _=>v=a0.tmps.getD t undef) (fun i=>decide (i<n)) t (a.tmps.getD t undef) W)→wpList P l.toArray (EndsQ Q) (l.drop n) a W) :
  (Code.region id l.toArray true).wp P Q a0 w:=by
 simp only[growB,Bool.and_eq_true,Bool.or_eq_true,decide_eq_true_eq] at hB
 obtain⟨⟨⟨⟨hsel,hh⟩,hpu⟩,hseq⟩,hend⟩:=hB
 have hup0:∀ t,Upc (fun v _=>v=a0.tmps.getD t undef):=fun t v W W' _ h=>h
 have hnle:n≤l.length:=by
  rcases hend with h | h
  · simp at h;omega
  · have:=h.1.1;simp at this;omega
 have hlen:(l.drop n).length=l.toArray.size-n:=by simp
 -- all of it,by how many heads are still to come
 have main:∀ (f:Nat) (listed:Array Bool) (a:Act) (W:World),qcr n listed=f→GrowInv l.toArray n a0.tmps.size Ψs (fun t v _=>v=a0.tmps.getD t undef) w a0.defers listed a W →
   wpAny P .any l.toArray (EndsQ Q) (f+(l.drop n).length) listed a W:=by
  intro f
  induction f with
  | zero =>
   intro listed a W hf inv
   have hdone:∀ i,i<n→listed.getD i false=true:=by
    intro i hi
    cases hl:listed.getD i false with
    | true=>rfl
    | false =>
     have:0<qcr n listed:=by
      unfold qcr;exact List.length_pos_of_mem (List.mem_filter.2 ⟨List.mem_range.2 hi,by simpa using hl⟩)
     omega
   have hli:listed=qdj l.toArray.size n:=by
    apply Array.ext_getElem?
    intro i;have hsz:=inv.head.size
    by_cases hi:i<l.toArray.size
    · have h1:i<listed.size:=by omega
      have e1:listed[i]?=some (listed.getD i false):=by simp[h1]
      have e2:(qdj l.toArray.size n)[i]?=some (decide (i<n)):=by unfold qdj;rw[List.getElem?_toArray,List.getElem?_map,List.getElem?_range hi];rfl
      rw[e1,e2]
      by_cases hin:i<n
      · rw[hdone i hin];simp[hin]
      · have:=getD_both (inv.head.tail i zac hi)
        rw[this];simp[hin]
    · have h1:¬ i<listed.size:=by omega
      rw[Array.getElem?_eq_none zac,Array.getElem?_eq_none (by simp[qdj] at hi ⊢;omega)]
   rw[Nat.zero_add];refine wpAny_of_seq (l.drop n) n listed a W (fun j=>by simp[List.getElem?_drop]) (by rw[hlen,hli];exact hseq) ?_
   refine htail a W inv.ext inv.size inv.defers fun t=>?_
   have hs:=inv.sat t
   have e:cur l.toArray n Ψs (fun t v _=>v=a0.tmps.getD t undef) (fun i=>decide (i<n)) t=cur l.toArray n Ψs (fun t v _=>v=a0.tmps.getD t undef) (fun i=>listed.getD i false) t:=by
    by_cases hex:∃ k,k<n∧dstOf l.toArray k=some t
    · obtain⟨k,hk,hd⟩:=hex
      rw[qaR hh hk (by simpa using hk) hd,qaR hh hk (hdone k hk) hd]
    · rw[qaI (fun m hm _ hd=>hex ⟨m,hm,hd⟩),qaI (fun m hm _ hd=>hex ⟨m,hm,hd⟩)]
   rw[e];exact hs
  | succ f ih =>
   intro listed a W hf inv;rw[show f+1+(l.drop n).length=(f+(l.drop n).length)+1 by omega]
   obtain⟨i,hi,hun,hlow⟩:=left_pos (n:=n) (listed:=listed) zac
   obtain⟨oi,hoi,fi⟩:=qaF hh hi
   have hsz:=inv.head.size
   have hil:i<listed.size:=by rw[hsz];simp;omega
   have hri:i∈Region.ready .any l.toArray listed:=mem_ready.2 ⟨getD_in hil hun,oi,hoi,fun e he hb=>hlow _ (fi.back e he hb)⟩
   have hset:∀ j,j∈Region.ready .any l.toArray listed→j<n→qcr n (listed.setIfInBounds j true)=f:=fun j hj hjn=>by
    have hjun:=(mem_ready.1 hj).1
    have:=left_set (n:=n) hjn (by
     rcases Nat.lt_or_ge j listed.size with h' | h'
     · exact h'
     · simp[Array.getElem?_eq_none h'] at hjun) (getD_both hjun)
    omega
   by_cases hp:∃ j,j∈Region.ready .any l.toArray listed∧j<n∧fl.getD j false=true
   · -- a pure one is taken first
     obtain⟨j,hj,hjn,hjp⟩:=hp
     obtain⟨oj,hoj,hst,hnext⟩:=grow_head (fl:=fun j=>fl.getD j false) hh hup hup0 hstep inv hj hjn
     obtain⟨oj',hoj',fj⟩:=qaF hh hjn
     have:oj'=oj:=Option.some.inj (hoj'.symm.trans hoj)
     subst this
     have hst':PureStep P l.toArray oj' a W (Ψs j):=by
      have h1:=hst;simp only[StepK,hjp,if_true] at h1;exact h1
     obtain⟨v,hy,hv⟩:∃ v,Yields P l.toArray oj' v a∧Ψs j v W:=by
      unfold PureStep at hst'
      by_cases hw:Region.wanted oj' (yielded l.toArray a.tmps)=true
      · simp only[hw,if_true] at hst'
        obtain⟨v,h1,h2⟩:=hst'
        exact⟨v,.inl ⟨hw,h1⟩,h2⟩
      · simp only[hw] at hst'
        exact⟨undef,.inr ⟨by simpa using hw,rfl⟩,hst'⟩
     refine wpAny_first hoj (Region.noSelect_spec hsel) (fun c a w h=>h) _ listed a W ?_ hj hy (ih _ _ _ (hset j hj hjn) (hnext v W (Ext.refl _) hv));intro k ok hok hkj hkun hkno
     have hks:k<l.toArray.size:=(Array.getElem?_eq_some_iff.1 hok).1
     by_cases hkn:k<n
     · obtain⟨ok',hok',fk⟩:=qaF hh hkn
       have:ok'=ok:=Option.some.inj (hok'.symm.trans hok)
       subst this;rcases Nat.lt_or_ge k j with hlt | hge
       · rcases fj.tie k ok' hlt hok with ⟨e,he,hb,hon⟩ | hap
         · obtain⟨_,o2,ho2,hall⟩:=mem_ready.1 hj
           have:o2=oj':=Option.some.inj (ho2.symm.trans hoj)
           subst this
           have:=hall e he hb
           rw[hon,getD_both hkun] at this
           cases this
         · obtain⟨h1,h2,h3⟩:=Oper.apart_spec hap
           unfold Oper.apart;simp only[Bool.and_eq_true];refine ⟨?_,?_⟩
           · cases hd:oj'.dst with
             | none=>rfl
             | some d =>
              have a1:=h3 d hd
              have a2:ok'.dst≠some d:=fun e=>h2 d e hd
              simp[a1,a2]
           · cases hd:ok'.dst with
             | none=>rfl
             | some d =>
              have a1:=h1 d hd
              simp[a1]
       · have hlt:j<k:=by omega
         rcases fk.tie j oj' hlt hoj with ⟨e,he,hb,hon⟩ | hap
         · exact absurd hon (hkno e he hb)
         · exact hap
     · have h1:=List.all_eq_true.1 hpu j (List.mem_range.2 hjn)
       simp only[hjp,Bool.not_true,Bool.false_or,hoj,List.all_eq_true,List.mem_range] at h1;have h2:=h1 k hks;simp only[hkn,decide_false,Bool.false_or,hok,Bool.or_eq_true] at h2;rcases h2 with h2 | h2
       · obtain⟨o2,ho2,e,he,hb,hon⟩:=Region.waitsFor_spec h2
         have:o2=ok:=Option.some.inj (ho2.symm.trans hok)
         subst this;exact absurd hon (hkno e he hb)
       · exact h2
   · refine ⟨fun h0=>(by rw[h0] at hri;cases hri),fun j hj=>?_⟩
     have hjn:j<n:=by
      rcases Nat.lt_or_ge j n with h' | h'
      · exact h'
      · exfalso
        obtain⟨_,oj,hoj,hall⟩:=mem_ready.1 hj
        have hjs:=(Array.getElem?_eq_some_iff.1 hoj).1
        rcases hend with h | ⟨⟨hns,hanc⟩,hch⟩
        · omega
        · have hj0:j=n:=by
            apply Classical.byContradiction
            intro hne;have h1:=List.all_eq_true.1 hch j (List.mem_range.2 hjs);simp only[Bool.or_eq_true,decide_eq_true_eq] at h1;rcases h1 with h1 | h1
            · omega
            · obtain⟨o',ho',e,he,hb,hon⟩:=Region.waitsFor_spec h1
              have:o'=oj:=Option.some.inj (ho'.symm.trans hoj)
              subst this;have h2:=hall e he hb;rw[hon,getD_both (inv.head.tail (j-1) zac zac)] at h2
              cases h2
          subst hj0;have h1:=List.all_eq_true.1 hanc i (List.mem_range.2 hi);simp only[Bool.or_eq_true] at h1;rcases h1 with h1 | h1
          · exact hp ⟨i,hri,hi,h1⟩
          · rcases anc_listed inv.head.closed hj i (by simpa using h1) with h2 | h2
            · omega
            · rw[hun] at h2;cases h2
     obtain⟨oj,hoj,hst,hnext⟩:=grow_head (fl:=fun j=>fl.getD j false) hh hup hup0 hstep inv hj hjn
     exact wpOp_of_step hoj (fun v W' hx hv=>ih _ _ _ (hset j hj hjn) (hnext v W' hx hv)) (stepG_of hst)
 refine wp_region_any hm ?_
 have inv0:GrowInv l.toArray n a0.tmps.size Ψs (fun t v _=>v=a0.tmps.getD t undef) w a0.defers (Array.replicate l.toArray.size false) a0 { w with drawn:=w.drawn+1 } :=
  ⟨⟨by simp,fun j oj _ hl=>(by rw[getD_replicate_false] at hl;cases hl),fun t _ ht=>getD_in (by simpa using ht) (getD_replicate_false _ _)⟩,(Ext.refl w).drew,rfl,rfl,fun t=>by
   rw[qaI (fun m _ hp=>by rw[getD_replicate_false] at hp;cases hp)]⟩
 have h0:qcr n (Array.replicate l.toArray.size false)=n:=by
  unfold qcr;rw[List.filter_eq_self.2 (fun k _=>by rw[getD_replicate_false];rfl)]
  simp
 have:=main n _ a0 _ h0 inv0
 rw[hlen] at this;rw[show n+(l.toArray.size-n)=l.toArray.size by simp;omega] at this;exact qeT ends_le _ _ _ _ this
def FillH (K:Act→World→Prop):List (Tmp × Fact)→Act→World→Prop
 | [],a,W=>K a W
 | (t,Ψ)::H,a,W=>∀ u,Ψ u W→FillH K H (a.put (some t) u) W
def looks (ops:Array Oper) (o:Oper) (H:List (Tmp × Fact)):List (Tmp × Fact):=H.filter fun h=>(o.looksAt ops).contains h.1
inductive Lex (P:Program) (ops:Array Oper) (w0:World) (fin:Act→List (Tmp × Fact)→Prop):List Bool→List Oper→Act→List (Tmp × Fact)→Prop
 | nil {a H} (h:fin a H):Lex P ops w0 fin [] [] a H
 | det {b fl o rest a H} (v:Value) (h:∀ W,Ext w0 W→FillH (fun a W=>StepK P ops b o a W (fun x _=>x=v)) (looks ops o H) a W) (k:Lex P ops w0 fin fl rest (a.put o.dst v) H):Lex P ops w0 fin (b::fl) (o::rest) a H
 | hole {b fl o rest a H} (t:Tmp) (Ψ:Fact) (ht:o.dst=some t) (hu:Upc Ψ) (h:∀ W,Ext w0 W→FillH (fun a W=>StepK P ops b o a W Ψ) (looks ops o H) a W) (k:Lex P ops w0 fin fl rest a ((t,Ψ)::H)):Lex P ops w0 fin (b::fl) (o::rest) a H
structure Matches (ops:Array Oper) (n N:Nat) (Ψs:Nat→Fact) (σ0:Tmp→Fact) (k:Nat) (a:Act) (H:List (Tmp × Fact)):Prop where
 size:a.tmps.size=N
 keys:∀ h∈H,∃ i,i<k∧dstOf ops i=some h.1∧Ψs i=h.2
 nodup:(H.map (·.1)).Nodup
 rest:∀ t,(∀ h∈H,h.1≠t)→cur ops n Ψs σ0 (fun i=>decide (i<k)) t=fun v _=>v=a.tmps.getD t undef
theorem fill_of {K:Act→World→Prop}:∀ (H:List (Tmp × Fact)) (a:Act) (W:World) (A:Act),(∀ h∈H,h.2 (A.tmps.getD h.1 undef) W)→FillH K H a W →
  K (H.foldl (fun b h=>b.put (some h.1) (A.tmps.getD h.1 undef)) a) W
 | [],a,W,A,_,hf=>hf
 | (t,Ψ)::H,a,W,A,hs,hf=>fill_of H _ W A (fun h hh=>hs h (List.mem_cons_of_mem _ hh)) (hf _ (hs _ (List.mem_cons_self ..)))
theorem fold_size (A:Act):∀ (H:List (Tmp × Fact)) (a:Act),(H.foldl (fun b h=>b.put (some h.1) (A.tmps.getD h.1 undef)) a).tmps.size=a.tmps.size
 | [],a=>rfl
 | (t,Ψ)::H,a=>by rw[List.foldl_cons,fold_size A H];simp[Act.put]
theorem qeq (A:Act):∀ (H:List (Tmp × Fact)) (a:Act),(H.foldl (fun b h=>b.put (some h.1) (A.tmps.getD h.1 undef)) a).defers=a.defers
 | [],a=>rfl
 | (t,Ψ)::H,a=>by rw[List.foldl_cons,qeq A H];simp[Act.put]
theorem qgm (A:Act) (t:Tmp):∀ (H:List (Tmp × Fact)) (a:Act),(∀ h∈H,h.1<a.tmps.size)→((∃ h∈H,h.1=t)∨a.tmps.getD t undef=A.tmps.getD t undef) →
  (H.foldl (fun b h=>b.put (some h.1) (A.tmps.getD h.1 undef)) a).tmps.getD t undef=A.tmps.getD t undef
 | [],a,_,h=>by
  rcases h with ⟨h,hh,_⟩ | h
  · cases hh
  · exact h
 | (x,Ψ)::H,a,hsz,h=>by
  rw[List.foldl_cons]
  have hx:x<a.tmps.size:=hsz _ (List.mem_cons_self ..)
  refine qgm A t H _ (fun h' hh=>by have:=hsz h' (List.mem_cons_of_mem _ hh);simpa [Act.put] using this) ?_;rw[qfO a (some x) _ t (fun y hy=>by cases hy;exact hx)]
  by_cases hxt:x=t
  · subst hxt;right;simp
  · rw[if_neg (by simpa using hxt)]
    rcases h with ⟨h',hh,e⟩ | h
    · cases hh with
      | head=>exact absurd e hxt
      | tail _ hh=>exact .inl ⟨h',hh,e⟩
    · exact .inr h
theorem step_congr {o:Oper} {a b:Act} {W:World} {Ψ:Fact} (hsel:∀ cs c,o.op≠.select cs c) (c:Bool) (h:∀ t∈o.looksAt ops,a.tmps.getD t undef=b.tmps.getD t undef) (hs:StepK P ops c o a W Ψ):StepK P ops c o b W Ψ:=by
 have he:execOp a.eval o=execOp b.eval o:=execOp_congr o hsel fun x hx=>by
  cases x with
  | tmp t=>exact h t (List.mem_append_left _ (List.mem_filterMap.2 ⟨.tmp t,by simpa using hx,rfl⟩))
  | _=>rfl
 have hw:Region.wanted o (yielded ops a.tmps)=Region.wanted o (yielded ops b.tmps):=by
  unfold Region.wanted
  cases hg:o.guard with
  | none=>rfl
  | some gw =>
   obtain⟨g,want⟩:=gw
   have hy:yielded ops a.tmps g=yielded ops b.tmps g:=by
    unfold yielded
    cases ht:(ops[g]?).bind (·.dst) with
    | none=>rfl
    | some t =>
     have h1:=h t (by simp[Oper.looksAt,hg,ht])
     have key:∀ x y:Option Value,x.getD undef=y.getD undef→(match x with | some (.bool b)=>some b | _=>Option.none)=(match y with | some (.bool b)=>some b | _=>Option.none):=by
      intro x y hxy
      cases x<;>cases y<;>simp at hxy<;>subst_vars<;>rfl
     exact key _ _ (by simpa using h1)
   simp only[hy]
 unfold StepK StepG PureStep at *;rw[←he,←hw];exact hs
theorem cur_succ (hB:headB ops n N=true) {k:Nat} (hk:k<n) (t:Tmp) :
  cur ops n Ψs σ0 (fun i=>decide (i<k+1)) t=if dstOf ops k=some t then Ψs k else cur ops n Ψs σ0 (fun i=>decide (i<k)) t:=by
 by_cases hd:dstOf ops k=some t
 · rw[if_pos hd,qaR hB hk zaj hd]
 · rw[if_neg hd]
   by_cases hex:∃ i,i<n∧i<k∧dstOf ops i=some t
   · obtain⟨i,hi,hik,hdi⟩:=hex
     rw[qaR hB hi zam hdi,qaR hB hi (by simpa using hik) hdi]
   · rw[qaI (p:=fun i=>decide (i<k+1)) (fun m hm hp hdm=>by
       simp at hp
       by_cases hmk:m=k
       · subst hmk;exact hd hdm
       · exact hex ⟨m,hm,by omega,hdm⟩),qaI (p:=fun i=>decide (i<k)) (fun m hm hp hdm=>hex ⟨m,hm,by simpa using hp,hdm⟩)]
theorem qgj {Ψs':Nat→Fact} {k:Nat} (h:∀ i,i<k→Ψs i=Ψs' i) (t:Tmp):cur ops n Ψs σ0 (fun i=>decide (i<k)) t=cur ops n Ψs' σ0 (fun i=>decide (i<k)) t:=by
 unfold cur
 cases hf:(List.range n).find? (fun i=>decide (i<k)&&dstOf ops i==some t) with
 | none=>rfl
 | some i =>
  have h1:=List.find?_some hf;simp only[Bool.and_eq_true,decide_eq_true_eq] at h1;exact h i h1.1
theorem lex_facts (hB:headB ops n N=true) (hsel:Region.noSelect ops=true) {w0:World} {fin:Act→List (Tmp × Fact)→Prop} {fl:List Bool} {l:List Oper} {a:Act} {H:List (Tmp × Fact)} (hx:Lex P ops w0 fin fl l a H) :
  ∀ (k:Nat) (Ψ0:Nat→Fact),(∀ j,j<l.length→l[j]?=ops[k+j]?)→k+l.length=n→Matches ops n N Ψ0 σ0 k a H →
  ∃ (Ψs:Nat→Fact),(∀ i,i<k→Ψs i=Ψ0 i)∧(∀ j,k≤j→j<n→Upc (Ψs j)) ∧
   (∀ j oj,k≤j→j<n→ops[j]?=some oj→∀ A W,Ext w0 W→A.tmps.size=N→(∀ t∈oj.looksAt ops,cur ops n Ψs σ0 (fun i=>decide (i<j)) t (A.tmps.getD t undef) W)→StepK P ops (fl.getD (j-k) false) oj A W (Ψs j)) ∧
   ∃ a' H',a'.defers=a.defers∧Matches ops n N Ψs σ0 n a' H'∧fin a' H':=by
 -- what one operation,proved at the act and the holes,says of whatever act
 have one:∀ (b:Bool) {o:Oper} {a:Act} {H:List (Tmp × Fact)} {Ψ:Fact} {k:Nat} {Ψs:Nat→Fact},ops[k]?=some o→k<n→Matches ops n N Ψs σ0 k a H→(∀ W,Ext w0 W→FillH (fun a W=>StepK P ops b o a W Ψ) (looks ops o H) a W) →
   ∀ A W,Ext w0 W→A.tmps.size=N→(∀ t∈o.looksAt ops,cur ops n Ψs σ0 (fun i=>decide (i<k)) t (A.tmps.getD t undef) W)→StepK P ops b o A W Ψ:=by
  intro b o a H Ψ k Ψs ho hk hm h A W hE hsz hs
  have hkey:∀ h∈H,h.1∈o.looksAt ops→h.2 (A.tmps.getD h.1 undef) W:=fun h hh hl=>by
   obtain⟨i,hi,hd,e⟩:=hm.keys h hh
   have:=hs h.1 hl
   rw[qaR hB (i:=i) zac (by simpa using hi) hd,e] at this;exact this
  have h1:=fill_of (looks ops o H) a W A (fun h hh=>by
   simp only[looks,List.mem_filter,List.contains_iff_mem] at hh
   exact hkey h hh.1 (by simpa using hh.2)) (h W hE)
  refine step_congr (fun cs c=>Region.noSelect_spec hsel k o cs c ho) b (fun t ht=>?_) h1;refine qgm A t _ a (fun h hh=>?_) ?_
  · simp only[looks,List.mem_filter] at hh
    obtain⟨i,hi,hd,_⟩:=hm.keys h hh.1
    obtain⟨oi,hoi,fi⟩:=qaF hB (j:=i) zac
    rw[hm.size];exact fi.rng h.1 (by simpa [dstOf,hoi] using hd)
  · by_cases hex:∃ h∈H,h.1=t
    · obtain⟨h,hh,e⟩:=hex
      left
      refine ⟨h,?_,e⟩;simp only[looks,List.mem_filter]
      exact⟨hh,by subst e;simpa using ht⟩
    · right
      have:=hs t ht
      rw[hm.rest t (fun h hh e=>hex ⟨h,hh,e⟩)] at this;exact this.symm
 induction hx with
 | nil h =>
  intro k Ψ0 hl hk hm
  have:k=n:=by simpa using hk
  subst this
  exact⟨Ψ0,fun _ _=>rfl,fun j h1 h2=>by omega,fun j _ h1 h2=>by omega,_,_,rfl,hm,h⟩
 | det v h hlex ih =>
  rename_i b fl o rest a H;intro k Ψ0 hl hk hm;simp only[List.length_cons] at hk
  have hkn:k<n:=by omega
  have h0:ops[k]?=some o:=by simpa using (hl 0 zaj).symm
  obtain⟨ok,hok,fk⟩:=qaF hB hkn
  have:ok=o:=Option.some.inj (hok.symm.trans h0)
  subst this
  have hdk:dstOf ops k=ok.dst:=by simp[dstOf,h0]
  let Ψ1:Nat→Fact:=fun i=>if i=k then(fun x _=>x=v) else Ψ0 i
  have e1:∀ i,i<k→Ψ1 i=Ψ0 i:=fun i hi=>if_neg zac
  have e2:Ψ1 k=fun x _=>x=v:=if_pos rfl
  have hm1:Matches ops n N Ψ1 σ0 k a H:=⟨hm.size,fun h hh=>by
   obtain⟨i,hi,hd,e⟩:=hm.keys h hh
   exact⟨i,hi,hd,(e1 i hi).trans e⟩,hm.nodup,fun t ht=>by rw[qgj e1];exact hm.rest t ht⟩
  have hm2:Matches ops n N Ψ1 σ0 (k+1) (a.put ok.dst v) H:=by
   refine ⟨?_,fun h hh=>?_,hm.nodup,fun t ht=>?_⟩
   · have:=hm.size
     cases hd:ok.dst<;>simp[Act.put,this]
   · obtain⟨i,hi,hd,e⟩:=hm1.keys h hh
     exact⟨i,by omega,hd,e⟩
   · rw[cur_succ hB hkn,hdk]
     funext x W
     rw[qfO a ok.dst v t (fun y hy=>by rw[hm.size];exact fk.rng y hy)]
     by_cases hd:ok.dst=some t
     · rw[if_pos hd,if_pos hd,e2]
     · rw[if_neg hd,if_neg hd,hm1.rest t ht]
  obtain⟨Ψs,f1,f2,f3,a',H',hdf,f4,f5⟩:=ih (k+1) Ψ1 (fun j hj=>by have:=hl (j+1) zam;simpa [Nat.add_assoc,Nat.add_comm 1 j] using this) zac hm2
  have g1:∀ i,i<k→Ψs i=Ψ0 i:=fun i hi=>(f1 i zac).trans (e1 i hi)
  have gk:Ψs k=fun x _=>x=v:=(f1 k zac).trans e2
  have hms:Matches ops n N Ψs σ0 k a H:=⟨hm.size,fun h hh=>by
   obtain⟨i,hi,hd,e⟩:=hm.keys h hh
   exact⟨i,hi,hd,(g1 i hi).trans e⟩,hm.nodup,fun t ht=>by rw[qgj g1];exact hm.rest t ht⟩
  refine ⟨Ψs,g1,fun j h1 h2=>?_,fun j oj h1 h2 hoj=>?_,a',H',hdf.trans (by cases hd:ok.dst<;>simp[Act.put]),f4,f5⟩
  · by_cases hjk:j=k
    · subst hjk;rw[gk];exact fun _ _ _ _ hx=>hx
    · exact f2 j zac h2
  · by_cases hjk:j=k
    · subst hjk
      have:oj=ok:=Option.some.inj (hoj.symm.trans h0)
      subst this;rw[gk,Nat.sub_self];exact one _ h0 hkn hms h
    · have e3:j-k=(j-(k+1))+1:=by omega
      rw[e3];exact f3 j oj zac h2 hoj
 | hole t Ψ ht hu h hlex ih =>
  rename_i b fl o rest a H;intro k Ψ0 hl hk hm;simp only[List.length_cons] at hk
  have hkn:k<n:=by omega
  have h0:ops[k]?=some o:=by simpa using (hl 0 zaj).symm
  obtain⟨ok,hok,fk⟩:=qaF hB hkn
  have:ok=o:=Option.some.inj (hok.symm.trans h0)
  subst this
  have hdk:dstOf ops k=some t:=by simp[dstOf,h0,ht]
  let Ψ1:Nat→Fact:=fun i=>if i=k then Ψ else Ψ0 i
  have e1:∀ i,i<k→Ψ1 i=Ψ0 i:=fun i hi=>if_neg zac
  have e2:Ψ1 k=Ψ:=if_pos rfl
  have hm1:Matches ops n N Ψ1 σ0 k a H:=⟨hm.size,fun h hh=>by
   obtain⟨i,hi,hd,e⟩:=hm.keys h hh
   exact⟨i,hi,hd,(e1 i hi).trans e⟩,hm.nodup,fun t ht=>by rw[qgj e1];exact hm.rest t ht⟩
  have hm2:Matches ops n N Ψ1 σ0 (k+1) a ((t,Ψ)::H):=by
   refine ⟨hm.size,fun h hh=>?_,?_,fun x hx=>?_⟩
   · cases hh with
     | head=>exact⟨k,by omega,hdk,e2⟩
     | tail _ hh =>
      obtain⟨i,hi,hd,e⟩:=hm1.keys h hh
      exact⟨i,by omega,hd,e⟩
   · rw[List.map_cons,List.nodup_cons]
     refine ⟨fun hmem=>?_,hm.nodup⟩
     obtain⟨h,hh,e⟩:=List.mem_map.1 hmem
     obtain⟨i,hi,hd,_⟩:=hm.keys h hh
     rw[e] at hd
     have:=qcz hB zac hkn hd hdk
     omega
   · have hne:t≠x:=hx _ (List.mem_cons_self ..)
     rw[cur_succ hB hkn,hdk,if_neg (by simpa using hne),hm1.rest x (fun h hh=>hx h (List.mem_cons_of_mem _ hh))]
  obtain⟨Ψs,f1,f2,f3,a',H',hdf,f4,f5⟩:=ih (k+1) Ψ1 (fun j hj=>by have:=hl (j+1) zam;simpa [Nat.add_assoc,Nat.add_comm 1 j] using this) zac hm2
  have g1:∀ i,i<k→Ψs i=Ψ0 i:=fun i hi=>(f1 i zac).trans (e1 i hi)
  have gk:Ψs k=Ψ:=(f1 k zac).trans e2
  have hms:Matches ops n N Ψs σ0 k a H:=⟨hm.size,fun h hh=>by
   obtain⟨i,hi,hd,e⟩:=hm.keys h hh
   exact⟨i,hi,hd,(g1 i hi).trans e⟩,hm.nodup,fun t ht=>by rw[qgj g1];exact hm.rest t ht⟩
  refine ⟨Ψs,g1,fun j h1 h2=>?_,fun j oj h1 h2 hoj=>?_,a',H',hdf,f4,f5⟩
  · by_cases hjk:j=k
    · subst hjk;rw[gk];exact hu
    · exact f2 j zac h2
  · by_cases hjk:j=k
    · subst hjk
      have:oj=ok:=Option.some.inj (hoj.symm.trans h0)
      subst this;rw[gk,Nat.sub_self];exact one _ h0 hkn hms h
    · have e3:j-k=(j-(k+1))+1:=by omega
      rw[e3];exact f3 j oj zac h2 hoj
theorem qaa {id:Nat} {Q:Exit→Act→World→Prop} {a0:Act} {w:World} {l:List Oper} (n N:Nat) (fl:List Bool) (hm:P.follows .mixedOrders=true) (hB:growB l.toArray n N fl=true) (hN:a0.tmps.size=N)
  (h:Lex P l.toArray w (fun a H=>∀ W,Ext w W→FillH (fun a W=>wpList P l.toArray (EndsQ Q) (l.drop n) a W) H a W) fl (l.take n) a0 []):(Code.region id l.toArray true).wp P Q a0 w:=by
 subst hN;have hB0:=hB;simp only[growB,Bool.and_eq_true,Bool.or_eq_true,decide_eq_true_eq] at hB
 obtain⟨⟨⟨⟨hsel,hh⟩,hpu⟩,hseq⟩,hend⟩:=hB
 have hnle:n≤l.length:=by
  rcases hend with h | h
  · simp at h;omega
  · have:=h.1.1;simp at this;omega
 have htl:(l.take n).length=n:=by simp;omega
 obtain⟨Ψs,_,f2,f3,a',H',hdf,f4,f5⟩:=lex_facts (σ0:=fun t v _=>v=a0.tmps.getD t undef) hh hsel h 0 (fun _=>fun _ _=>True) (fun j hj=>by
  have hj':j<n:=by rw[htl] at hj;exact hj
  simp[hj']) zac ⟨rfl,fun h hh=>(by cases hh),by simp,fun t _=>by rw[qaI (fun m _ hp=>by simp at hp)]⟩
 refine qeh n fl hm hB0 Ψs (fun i hi=>f2 i (Nat.zero_le _) hi) (fun j oj hj hoj A W hE hsz hs=>f3 j oj (Nat.zero_le _) hj hoj A W hE hsz hs) fun A W hE hsz hdf2 hs=>?_
 have h1:=fill_of H' a' W A (fun h hmem=>by
  obtain⟨i,hi,hd,e⟩:=f4.keys h hmem
  have:=hs h.1
  rw[qaR hh (i:=i) hi (by simpa using hi) hd,e] at this
  exact this) (f5 W hE)
 have hget:∀ t,(H'.foldl (fun b h=>b.put (some h.1) (A.tmps.getD h.1 undef)) a').tmps.getD t undef=A.tmps.getD t undef:=fun t =>
  qgm A t H' a' (fun h hmem=>by
   obtain⟨i,hi,hd,_⟩:=f4.keys h hmem
   obtain⟨oi,hoi,fi⟩:=qaF hh (j:=i) hi
   rw[f4.size]
   exact fi.rng h.1 (by simpa [dstOf,hoi] using hd)) (by
   by_cases hex:∃ h∈H',h.1=t
   · exact .inl hex
   · right
     have:=hs t
     rw[f4.rest t (fun h hmem e=>hex ⟨h,hmem,e⟩)] at this
     exact this.symm)
 have hs1:(H'.foldl (fun b h=>b.put (some h.1) (A.tmps.getD h.1 undef)) a').tmps.size=A.tmps.size:=by rw[fold_size,f4.size,hsz]
 have hs2:(H'.foldl (fun b h=>b.put (some h.1) (A.tmps.getD h.1 undef)) a').defers=A.defers:=by rw[qeq,hdf,hdf2]
 generalize H'.foldl (fun b h=>b.put (some h.1) (A.tmps.getD h.1 undef)) a'=B at *
 have hs3:B.tmps=A.tmps:=by
  apply Array.ext hs1
  intro t h1 h2
  have:=hget t
  simpa [h1,h2] using this
 cases B;cases A
 simp only at hs2 hs3;subst hs2 hs3;exact h1
@[go_sem] theorem yields_value (W W':World) (Ψ:Fact) (v:Value):qbX P W Ψ (.ok (.value v) W')=(Ext W W'∧Ψ v W'):=rfl
@[go_sem] theorem yields_skip (W W':World) (Ψ:Fact):qbX P W Ψ (.ok .skip W')=(Ext W W'∧Ψ undef W'):=rfl
@[go_sem] theorem yields_enter (W W':World) (Ψ:Fact) (f:FuncId) (args:Array Value) :
  qbX P W Ψ (.ok (.enter f args) W')=Calls P f args W' (RetG W Ψ):=rfl
theorem Lex.go {w0:World} {fin:Act→List (Tmp × Fact)→Prop} {o:Oper} {fl:List Bool} {rest:List Oper} {a:Act} {H:List (Tmp × Fact)} (v:Value) (hl:looks ops o H=[])
  (h:∀ d os,StepG P ops o a (more w0 d os) (fun x _=>x=v)) (k:Lex P ops w0 fin fl rest (a.put o.dst v) H):Lex P ops w0 fin (false::fl) (o::rest) a H :=
 Lex.det v (fun W hE=>by rw[hl];obtain⟨d,os,rfl⟩:=hE;exact h d os) k
theorem Lex.goP {w0:World} {fin:Act→List (Tmp × Fact)→Prop} {o:Oper} {fl:List Bool} {rest:List Oper} {a:Act} {H:List (Tmp × Fact)} (v:Value) (hl:looks ops o H=[]) (hg:o.guard=none)
  (h:∀ w,(execOp a.eval o).run P w=.ok (.value v) w) (k:Lex P ops w0 fin fl rest (a.put o.dst v) H):Lex P ops w0 fin (true::fl) (o::rest) a H :=
 Lex.det v (fun W hE=>by rw[hl];exact(by unfold StepK PureStep;simp only[Region.wanted,hg,if_true];exact⟨v,h,rfl⟩:StepK P ops true o a W (fun x _=>x=v))) k
theorem Lex.go1 {w0:World} {fin:Act→List (Tmp × Fact)→Prop} {o:Oper} {fl:List Bool} {rest:List Oper} {a:Act} {H:List (Tmp × Fact)} (v:Value) (t:Tmp) (Ψ:Fact) (hl:looks ops o H=[(t,Ψ)])
  (h:∀ u d os,Ψ u (more w0 d os)→StepG P ops o (a.put (some t) u) (more w0 d os) (fun x _=>x=v)) (k:Lex P ops w0 fin fl rest (a.put o.dst v) H):Lex P ops w0 fin (false::fl) (o::rest) a H :=
 Lex.det v (fun W hE=>by rw[hl];obtain⟨d,os,rfl⟩:=hE;exact fun u hu=>h u d os hu) k
theorem Lex.gap {w0:World} {fin:Act→List (Tmp × Fact)→Prop} {o:Oper} {fl:List Bool} {rest:List Oper} {a:Act} {H:List (Tmp × Fact)} (t:Tmp) (Ψ:Fact) (ht:o.dst=some t) (hu:Upc Ψ) (hl:looks ops o H=[])
  (h:∀ d os,StepG P ops o a (more w0 d os) Ψ) (k:Lex P ops w0 fin fl rest a ((t,Ψ)::H)):Lex P ops w0 fin (false::fl) (o::rest) a H :=
 Lex.hole t Ψ ht hu (fun W hE=>by rw[hl];obtain⟨d,os,rfl⟩:=hE;exact h d os) k
@[go_sem] theorem ext_refl (w:World):Ext w w=True:=eq_true (Ext.refl w)
theorem Lex.step {w0:World} {fin:Act→List (Tmp × Fact)→Prop} {o:Oper} {fl:List Bool} {rest:List Oper} {a:Act} {H:List (Tmp × Fact)} (hl:looks ops o H=[])
  (h:∀ K:Act→Prop,(∀ a,Lex P ops w0 fin fl rest a H→K a)→∃ v,(∀ d os,StepG P ops o a (more w0 d os) (fun x _=>x=v))∧K (a.put o.dst v)):Lex P ops w0 fin (false::fl) (o::rest) a H:=by
 obtain⟨v,h1,h2⟩:=h _ (fun _ h=>h)
 exact Lex.go v hl h1 h2
theorem Lex.stepP {w0:World} {fin:Act→List (Tmp × Fact)→Prop} {o:Oper} {fl:List Bool} {rest:List Oper} {a:Act} {H:List (Tmp × Fact)} (hl:looks ops o H=[]) (hg:o.guard=none)
  (h:∀ K:Act→Prop,(∀ a,Lex P ops w0 fin fl rest a H→K a)→∃ v,(∀ w,(execOp a.eval o).run P w=.ok (.value v) w)∧K (a.put o.dst v)):Lex P ops w0 fin (true::fl) (o::rest) a H:=by
 obtain⟨v,h1,h2⟩:=h _ (fun _ h=>h)
 exact Lex.goP v hl hg h1 h2
def NewBlk (w0:World) (o:Obj):Fact:=fun v W=>∃ g,v=.pointer (some ⟨g,0,none⟩)∧w0.heap.size≤g∧W.heap[g]?=some o
theorem NewBlk.upc (w0:World) (o:Obj):Upc (NewBlk w0 o):=by
 rintro v W W' ⟨d,os,rfl⟩ ⟨g,hv,hg,hh⟩
 have hlt:g<W.heap.size:=by
  rcases Nat.lt_or_ge g W.heap.size with h | h
  · exact h
  · rw[Array.getElem?_eq_none h] at hh;cases hh
 exact⟨g,hv,hg,by rw[more_heap _ _ _ _ hlt];exact hh⟩
theorem NewBlk.of_alloc (w0:World) (d:Nat) (os:Array Obj) (o:Obj) (n:Nat) (hn:n=(more w0 d os).heap.size):NewBlk w0 o (.pointer (some ⟨n,0,none⟩)) ((more w0 d os).alloc o):=by
 subst hn
 exact⟨_,rfl,by simp[more_size],heap_alloc_new _ _⟩
theorem Lex.alloc {w0:World} {fin:Act→List (Tmp × Fact)→Prop} {o:Oper} {fl:List Bool} {rest:List Oper} {a:Act} {H:List (Tmp × Fact)} (t:Tmp) (ob:Obj) (ht:o.dst=some t) (hl:looks ops o H=[])
  (h:∀ d os,StepG P ops o a (more w0 d os) (NewBlk w0 ob)) (k:Lex P ops w0 fin fl rest a ((t,NewBlk w0 ob)::H)):Lex P ops w0 fin (false::fl) (o::rest) a H :=
 Lex.gap t _ ht (NewBlk.upc w0 ob) hl h k
theorem NewBlk.split {w0:World} {o:Obj} {v:Value} {W:World} (h:NewBlk w0 o v W) (hx:Ext w0 W) :
  ∃ d1 os1 d2 os2,W=more ((more w0 d1 os1).alloc o) d2 os2∧v=.pointer (some ⟨w0.heap.size+os1.size,0,none⟩):=by
 obtain⟨g,rfl,hg,hh⟩:=h
 obtain⟨d,os,rfl⟩:=hx
 have h1:os[g-w0.heap.size]?=some o:=by
  have:(more w0 d os).heap[g]?=os[g-w0.heap.size]?:=by
   simp only[more];rw[Array.getElem?_append,if_neg zac]
  rw[←this];exact hh
 have hlt:g-w0.heap.size<os.size:=(Array.getElem?_eq_some_iff.1 h1).1
 refine ⟨d,os.extract 0 (g-w0.heap.size),d,os.extract (g-w0.heap.size+1) os.size,?_,?_⟩
 · unfold World.alloc more
   simp only
   congr 1
   apply Array.ext_getElem?
   intro k;simp only[Array.getElem?_append,Array.getElem?_push,Array.size_append,Array.size_push,Array.size_extract,Array.getElem?_extract]
   by_cases c1:k<w0.heap.size
   · have e1:k<w0.heap.size+(min (g-w0.heap.size) os.size-0)+1:=by omega
     have e2:¬ k=w0.heap.size+(min (g-w0.heap.size) os.size-0):=by omega
     simp only[if_pos c1,if_pos e1,if_neg e2]
   · simp only[if_neg c1]
     by_cases c2:k<g
     · have e1:k<w0.heap.size+(min (g-w0.heap.size) os.size-0)+1:=by omega
       have e2:¬ k=w0.heap.size+(min (g-w0.heap.size) os.size-0):=by omega
       have e3:k-w0.heap.size<min (g-w0.heap.size) os.size-0:=by omega
       simp only[if_pos e1,if_neg e2,if_pos e3,Nat.zero_add]
     · by_cases c3:k=g
       · have e1:k<w0.heap.size+(min (g-w0.heap.size) os.size-0)+1:=by omega
         have e2:k=w0.heap.size+(min (g-w0.heap.size) os.size-0):=by omega
         rw[if_pos e1,if_pos e2,c3,h1]
       · have e1:¬ k<w0.heap.size+(min (g-w0.heap.size) os.size-0)+1:=by omega
         rw[if_neg e1]
         by_cases c4:k-w0.heap.size<os.size
         · rw[if_pos zac]
           congr 1
           omega
         · rw[if_neg zac,Array.getElem?_eq_none zac]
 · congr 3
   simp
   omega
end
section
variable {P:Program} {ops:Array Oper}
def NewSl (w0:World) (o:Obj) (n c:Nat):Fact:=fun v W=>∃ g,v=.slice (some ⟨g,0,none⟩) n c∧w0.heap.size≤g∧W.heap[g]?=some o
theorem NewSl.upc (w0:World) (o:Obj) (n c:Nat):Upc (NewSl w0 o n c):=by
 rintro v W W' ⟨d,os,rfl⟩ ⟨g,hv,hg,hh⟩
 have hlt:g<W.heap.size:=by
  rcases Nat.lt_or_ge g W.heap.size with h | h
  · exact h
  · rw[Array.getElem?_eq_none h] at hh;cases hh
 exact⟨g,hv,hg,by rw[more_heap _ _ _ _ hlt];exact hh⟩
theorem NewSl.of_alloc (w0:World) (d:Nat) (os:Array Obj) (o:Obj) (n c m:Nat) (hm:m=(more w0 d os).heap.size):NewSl w0 o n c (.slice (some ⟨m,0,none⟩) n c) ((more w0 d os).alloc o):=by
 subst hm
 exact⟨_,rfl,by simp[more_size],heap_alloc_new _ _⟩
theorem Lex.sliceLit {w0:World} {fin:Act→List (Tmp × Fact)→Prop} {o:Oper} {fl:List Bool} {rest:List Oper} {a:Act} {H:List (Tmp × Fact)} (t:Tmp) (ob:Obj) (n c:Nat) (ht:o.dst=some t) (hl:looks ops o H=[])
  (h:∀ d os,StepG P ops o a (more w0 d os) (NewSl w0 ob n c)) (k:Lex P ops w0 fin fl rest a ((t,NewSl w0 ob n c)::H)):Lex P ops w0 fin (false::fl) (o::rest) a H :=
 Lex.gap t _ ht (NewSl.upc w0 ob n c) hl h k
theorem NewSl.split {w0:World} {o:Obj} {n c:Nat} {v:Value} {W:World} (h:NewSl w0 o n c v W) (hx:Ext w0 W) :
  ∃ d1 os1 d2 os2,W=more ((more w0 d1 os1).alloc o) d2 os2∧v=.slice (some ⟨w0.heap.size+os1.size,0,none⟩) n c:=by
 obtain⟨g,rfl,hg,hh⟩:=h
 obtain⟨d1,os1,d2,os2,hw,hv⟩:=NewBlk.split (w0:=w0) (o:=o) (v:=.pointer (some ⟨g,0,none⟩)) ⟨g,rfl,hg,hh⟩ hx
 simp only[Value.pointer.injEq,Option.some.injEq,Addr.mk.injEq,and_true] at hv
 exact⟨d1,os1,d2,os2,hw,by rw[hv]⟩
end
set_option maxRecDepth 20000
attribute [go_sem] more_more Array.size_append
def SignsAt (B:Nat) (w:World):Prop:=0<B∧w.cell? ⟨0,0,none⟩=some (.int .u64 288195191779622912)∧w.cell? ⟨0,1,none⟩=some (.int .u64 576460745860972544)
theorem SignsAt.below {B B':Nat} {w w':World} (h:SignsAt B w) (hb:Below B' w w') (hB:B≤B'):SignsAt B w' :=
 ⟨h.1,(hb.cell (p:=⟨0,0,none⟩) (Nat.lt_of_lt_of_le h.1 hB)).trans h.2.1,(hb.cell (p:=⟨0,1,none⟩) (Nat.lt_of_lt_of_le h.1 hB)).trans h.2.2⟩
theorem SignsAt.ext {B:Nat} {w w':World} (h:SignsAt B w) (hx:Ext w w') (hB:B≤w.heap.size):SignsAt B w':=h.below hx.below hB
theorem sign_tab:∀ n:Fin 128,(bits BinOp.and IntKind.u64 ((if n.val<64 then(288195191779622912:Int) else 576460745860972544) / 2 ^ (n.val % 64)) 1==1)=signB (UInt8.ofNat n.val):=by decide +kernel
theorem and63_fin:∀ n:Fin 256,bits BinOp.and IntKind.u8 (n.val:Int) 63=((n.val % 64:Nat):Int):=by decide +kernel
theorem sign_hi:∀ n:Fin 256,128≤n.val→signB (UInt8.ofNat n.val)=false:=by decide +kernel
theorem ksign_any (c:UInt8) (B:Nat) (w:World) (h:SignsAt B w):Calls Tryz.prog 108 #[.int .u8 (c.toNat:Int)] w fun e w'=>e=.returned (.bool (signB c))∧Ext w w':=by
 obtain⟨_,h0,h1⟩:=h
 have hc0:(0:Int)≤(c.toNat:Int):=by omega
 have hc1:(c.toNat:Int)<256:=by have:=c.toNat_lt;omega
 have ha:=and63_fin ⟨c.toNat,c.toNat_lt⟩
 have e8:UInt8.ofNat c.toNat=c:=by simp
 by_cases h128:c.toNat<128
 · have h128':(c.toNat:Int)<128:=by omega
   have hs:=sign_tab ⟨c.toNat,h128⟩;simp only[e8] at hs ha
   by_cases h64:c.toNat<64
   · have i0:(c.toNat:Int) / 64=0:=by omega
     simp only[h64,if_true] at hs;go_enter Tryz.func108,Tryz.ntmps108;go_wp2_with fail;go_ret
     exact⟨rfl,Ext.refl _⟩
   · have i0:(c.toNat:Int) / 64=1:=by omega
     simp only[h64,if_false] at hs;go_enter Tryz.func108,Tryz.ntmps108;go_wp2_with fail;go_ret
     exact⟨rfl,Ext.refl _⟩
 · have h128':¬ (c.toNat:Int)<128:=by omega
   have hs:=sign_hi ⟨c.toNat,c.toNat_lt⟩ (by simpa using h128);simp only[e8] at hs;go_enter Tryz.func108,Tryz.ntmps108;go_wp2_with fail;go_ret
   exact⟨rfl,Ext.refl _⟩
theorem all_snoc (l:List UInt8) (k:Nat) (h:k<l.length) (p:UInt8→Bool) (h1:(l.take k).all p=true) (h2:p l[k]=true):(l.take (k+1)).all p=true:=by
 rw[List.take_succ_eq_append_getElem h,List.all_append,h1]
 simp[h2]
theorem all_no (l:List UInt8) (k:Nat) (h:k<l.length) (p:UInt8→Bool) (h2:p l[k]=false):l.all p=false:=by
 rw[Bool.eq_false_iff];intro q
 have:=List.all_eq_true.1 q _ (List.getElem_mem h)
 rw[h2] at this;cases this
theorem qbP (s:ByteArray):s.data.toList.length=s.size:=by simp
theorem patB_yes {s:ByteArray} (h1:s.size≤24) (h2:s.data.toList.all signB=true):patB s=true:=by unfold patB;simp[h1,h2]
theorem patB_long {s:ByteArray} (h1:¬ s.size≤24):patB s=false:=by unfold patB;rw[decide_eq_false h1];rfl
theorem patB_no {s:ByteArray} (h:s.data.toList.all signB=false):patB s=false:=by unfold patB;rw[h,Bool.and_false]
theorem formed_any (s:ByteArray) (hs:s.size≤maxLen) (B:Nat) (w:World) (h:SignsAt B w) (hB:B≤w.heap.size):Calls Tryz.prog 95 #[.string s] w fun e w'=>e=.returned (.bool (patB s))∧Ext w w':=by
 unfold maxLen at hs;have HS:=Lib.hid h;clear h
 by_cases h24:s.size≤24
 · have h24':(s.size:Int)≤24:=by omega
   go_enter Tryz.func95,Tryz.ntmps95;go_wp2_with fail;go_loopw [9] (fun i wr=>∃ k:Nat,i=.int .i64 (k:Int)∧k≤s.size∧(s.data.toList.take k).all signB=true∧Ext w wr) (fun i _=>s.size-(intOf i).toNat)
   case atStart=>exact⟨0,rfl,Nat.zero_le _,rfl,Ext.refl _⟩
   case round =>
    obtain⟨k,rfl,hk,hall,d,os,rfl⟩:=hrel
    have HA:=Lib.hid hall;clear hall
    by_cases hlt:k<s.size
    · cases hsg:signB s[k] with
      | true =>
       have HG:=Lib.hid hsg;clear hsg
       go_wp2_with (go_at_call 108;refine (ksign_any _ B _ (HS.out.ext ((Ext.refl _).more _ _) hB)).mono ?_;rw[HG.out];rintro e _ ⟨rfl,d2,os2,rfl⟩)
       go_roundw
       case rel=>exact⟨k+1,by go_num,by omega,all_snoc _ k (by simpa using hlt) _ HA.out HG.out,zab⟩
       case measure=>simp[intOf];omega
      | false =>
       have HG:=Lib.hid hsg;clear hsg
       go_wp2_with (go_at_call 108;refine (ksign_any _ B _ (HS.out.ext ((Ext.refl _).more _ _) hB)).mono ?_;rw[HG.out];rintro e _ ⟨rfl,d2,os2,rfl⟩)
       go_ret;rw[patB_no (all_no _ k (by simpa using hlt) _ HG.out)]
       exact⟨rfl,zab⟩
    · go_wp2_with fail
      go_ret;rw[patB_yes h24 (by rw[List.take_of_length_le (by rw[qbP];omega)] at HA;exact HA.out)]
      exact⟨rfl,zab⟩
 · have h24':¬ (s.size:Int)≤24:=by omega
   go_enter Tryz.func95,Tryz.ntmps95;go_wp2_with fail;go_ret;rw[patB_long h24]
   exact⟨rfl,Ext.refl _⟩
end Go.Proofs.YtpnabjopfpdkhaaGreatDoor
