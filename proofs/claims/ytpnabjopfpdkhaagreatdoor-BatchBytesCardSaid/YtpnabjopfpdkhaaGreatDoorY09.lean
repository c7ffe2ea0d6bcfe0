/- Lemmas. -/
import Derived.Test.YtpnabjopfpdkhaaGreatDoorY07
set_option linter.all false
set_option maxHeartbeats 8000000
set_option maxRecDepth 20000
namespace Go.Proofs.YtpnabjopfpdkhaaGreatDoor
open Tryz RowKit
variable {W:World} {nv:Value} {fi:Int} {ns:List Nd} {base i n:Nat} {s:ByteArray}
attribute [go_sem] more_more Array.size_append
def WkV.push_slots {b:Nat} {L:List (Nat × Obj)} {S:Sc} {w:World} {sv tv mv fv v':Value} {w1:World} {s:Int} (h:WkV W b nv fi ns L S sv tv mv fv w) (hr:w1.ownsRow W.heap.size 3 1 v' (S.slots.length+1) (intL S.slots++[.int .i64 s])) (hg:w.grownBy w1 tv.ownBlock) (hv:v'.ownBlock=tv.ownBlock\/v'.ownBlock=some w.heap.size) :
  WkV W b nv fi ns L { S with slots:=S.slots++[s] } sv v' mv fv (w1.setCell ⟨b,4,none⟩ v'):=by
 have hA:=h.apart;have lb:=(Array.getElem?_eq_some_iff.1 h.cell).1;have hold:∀ k,k<w.heap.size->tv.ownBlock≠some k->w1.heap[k]?=w.heap[k]?:=fun k hk hn=>hg.block k hk (Ne.symm hn)
 have L1:=fun g q=>(h.seen.lt g q).2
 have L2:=fun g q=>(h.slots.lt g q).2
 have L3:=fun g q=>(h.made.lt g q).2
 have L4:=fun g q=>(h.free.lt g q).2
 have hvn:∀ g,v'.ownBlock=some g->tv.ownBlock=some g\/g=w.heap.size:=fun g q=>by
  rcases hv with e | e
  . exact Or.inl (e ▸ q)
  . rw[e] at q;exact Or.inr (Option.some.inj q).symm
 have hx1:Ext W w1:=h.ext.grown hg fun k hk=>(h.slots.lt k hk).1
 have hnb:tv.ownBlock≠some b:=fun q=>by have:=hA b;simp_all
 have kb:KB b _ _ w1:=(hold b lb hnb).trans h.cell
 have keep:∀ (x:Value) (n:Nat) (xs:List Value) (e:TypeId) (sz bs:Nat),w.ownsRow bs e sz x n xs->(∀ g,x.ownBlock=some g->g≠b)->(∀ g,x.ownBlock=some g->tv.ownBlock≠some g)->(w1.setCell ⟨b,4,none⟩ v').ownsRow bs e sz x n xs:=fun x n xs e sz bs hx h1 h2 =>
  own_block hx fun k q hk=>(heap_set_other _ _ _ _ _ (h1 k q)).trans (hold k hk (h2 k q))
 refine ⟨hx1.setCell h.base.1 _,KB.setAt kb 4 v' zy,keep _ _ _ _ _ _ h.row (fun g q=>by have:=h.base.2 g q;have:=h.base.1;omega) (fun g q e=>by have:=h.base.2 g q;have:=(h.slots.lt g e).1;omega),?_,?_,?_,?_,h.base,?_,?_⟩
 . exact keep _ _ _ _ _ _ h.seen (fun g q=>by have:=hA g;simp_all) (fun g q e=>by have:=hA g;simp_all)
 . dsimp only;rw[List.length_append];unfold intL;rw[List.map_append];exact own_block hr fun k q _=>heap_set_other _ _ _ _ _ (fun e=>by rcases hvn k q with e1 | e1;exact hnb (e ▸ e1);omega)
 . exact keep _ _ _ _ _ _ h.made (fun g q=>by have:=hA g;simp_all) (fun g q e=>by have:=hA g;simp_all)
 . exact keep _ _ _ _ _ _ h.free (fun g q=>by have:=hA g;simp_all) (fun g q e=>by have:=hA g;simp_all)
 . intro g;have a:=hA g;have b1:=hA w.heap.size;have n1:sv.ownBlock≠some w.heap.size:=fun q=>absurd (L1 _ q) (Nat.lt_irrefl _)
   have n2:tv.ownBlock≠some w.heap.size:=fun q=>absurd (L2 _ q) (Nat.lt_irrefl _)
   have n3:mv.ownBlock≠some w.heap.size:=fun q=>absurd (L3 _ q) (Nat.lt_irrefl _)
   have n4:fv.ownBlock≠some w.heap.size:=fun q=>absurd (L4 _ q) (Nat.lt_irrefl _)
   have nb:w.heap.size≠b:=Y;rcases hv with e | e
   . rw[e];exact a
   . by_cases hgs:g=w.heap.size
     . subst hgs;simp_all
     . have q:v'.ownBlock≠some g:=(by rw[e];intro e2;exact hgs (Option.some.inj e2).symm)
       simp_all
 . intro q hq;have hl:=h.loc q hq;have hlt:=(Array.getElem?_eq_some_iff.1 hl.1).1;have e1:(w1.setCell ⟨b,4,none⟩ v').heap[q.1]?=some q.2:=(heap_set_other _ _ _ _ _ hl.2.1).trans ((hold q.1 hlt (by have:=hl.2;simp_all)).trans hl.1)
   have e2:v'.ownBlock≠some q.1:=by
    intro e;rcases hvn q.1 e with e3 | e3
    . have:=hl.2;simp_all
    . omega
   have:=hl.2;refine ⟨e1,this.1,?_⟩;simp_all
def blocks_all {b:Nat}:∀ f,BlockC W b nv fi ns f/\StmC W b nv fi ns f:=by
 intro f
 induction f using Nat.strongRecOn with
 | _ f ih =>
  have h1:BlockC W b nv fi ns f:=block_of f fun g hg=>(ih g hg).2
  exact⟨h1,stm_of f h1⟩
def intInfo2:(prog.info? 3).map (fun i=>(i.zero,i.size,i.bytes))=some (some (.int .i64 0),1,8):=by kernel_rfl
def WkV.start (hr:W.ownsRow 0 166 8 nv ns.length (qac ns)):WkV W W.heap.size nv fi ns [] ⟨[],0,[],[],[],0,0⟩ (.slice none 0 0) (.slice none 0 0) (.slice none 0 0) (.slice none 0 0) (W.alloc (.cells #[nv,.int .i64 fi,.slice none 0 0,.int .i64 0,.slice none 0 0,.slice none 0 0,.slice none 0 0,.int .i64 0,.int .i64 0] 200 (0,0))) :=
 ⟨(Ext.refl W).alloc _,heap_alloc_new _ _,hr.alloc _,World.ownsRow_nil _ _ _ _,World.ownsRow_nil _ _ _ _,World.ownsRow_nil _ _ _ _,World.ownsRow_nil _ _ _ _,⟨Nat.le_refl _,fun g hg=>(hr.lt g hg).2⟩,fun g=>by simp[Value.ownBlock],fun q hq=>by cases hq⟩
def Sc.sl (k:Nat):Sc:=⟨[],0,List.replicate k (-1),[],[],0,0⟩
def walk_no (fi:Int) (w:World) (hr:w.ownsRow base 166 8 nv n (qac ns)) (hl:ns.length=n) (hs:∀ z∈ns,z.s.size<=maxLen) (hm:mayB ns fi=false) :
  Calls prog 113 #[.agg #[nv,.int .i64 fi]] w fun e w'=>e=.returned (.tuple #[.pointer none,.int .i64 1])/\Ext w w':=by
 obtain⟨p1,c1,rfl⟩:=qad hr;have MY:=J (fun W' (hx:Ext w W')=>may_any fi W' (own_ext hr hx) hl hs);rw[hm] at MY;clear hr hl hs hm;go_enter func113,ntmps113
 go_wp2_with ((with_reducible refine (MY.out _ zq).mono ?_);rintro e' _ ⟨rfl,d1,os1,rfl⟩)
 go_ret2;exact⟨rfl,zq⟩
def walk_yes (fi:Int) (w:World) (hr:w.ownsRow base 166 8 nv n (qac ns)) (hl:ns.length=n) (hs:∀ z∈ns,z.s.size<=maxLen) (hm:mayB ns fi=true) (R:Sc) (hR:qbg (blkS ns n) fi (-1) [] (Sc.start n)=some R) :
  Calls prog 113 #[.agg #[nv,.int .i64 fi]] w fun e w'=>∃ b W,e=.returned (.tuple #[.pointer (some ⟨b,0,none⟩),.int .i64 0])/\Wk W b nv fi ns [] R w'/\Ext w W:=by
 obtain⟨p1,c1,rfl⟩:=qad hr;have hn:=(qbC hm).1;rw[hl] at hn;have hni:(n:Int)<=512:=Y;have MY:=J (fun W' (hx:Ext w W')=>may_any fi W' (own_ext hr hx) hl hs);rw[hm] at MY;have HP:=J (hr.mono (Nat.zero_le _));have HL:=J hl;have HR:=J hR;obtain⟨i0,hi,hz0,hz1,hz2⟩:=info_parts intInfo2;clear hr hl hs hm hR hn;go_enter func113,ntmps113
 go_wp2_with ((with_reducible refine (MY.out _ zq).mono ?_);rintro e' _ ⟨rfl,d1,os1,rfl⟩)
 have HW:=J (WkV.start (fi:=fi) (W:=more (w.alloc (.cells #[.slice p1 n c1,.int .i64 fi] 132 (0,0))) d1 os1) (show(more (w.alloc (.cells #[.slice p1 n c1,.int .i64 fi] 132 (0,0))) d1 os1).ownsRow 0 166 8 (.slice p1 n c1) ns.length (qac ns) from own_ext (by have:=HP.out;rw[HL.out];exact this) zq));have hsz:(more (w.alloc (.cells #[.slice p1 n c1,.int .i64 fi] 132 (0,0))) d1 os1).heap.size=w.heap.size+1+os1.size:=jf;have XE:=J (show Ext w (more (w.alloc (.cells #[.slice p1 n c1,.int .i64 fi] 132 (0,0))) d1 os1) from zq);have KP:=J (show ∀ wr,Ext (more (w.alloc (.cells #[.slice p1 n c1,.int .i64 fi] 132 (0,0))) d1 os1) wr->KB w.heap.size #[.slice p1 n c1,.int .i64 fi] 132 wr from fun wr hx=>(KB.new w _ _).of_ext (Ext.trans zq hx));rw[hsz] at HW;generalize hb:w.heap.size+1+os1.size=b at *;generalize hW:more (w.alloc (.cells #[.slice p1 n c1,.int .i64 fi] 132 (0,0))) d1 os1=W at *;generalize hk1:w.heap.size=k1 at *;clear hb hW hk1 hsz MY;go_loopw [14] (fun y wr=>∃ k:Nat,y=.int .i64 (k:Int)/\k<=n/\Wk W b (.slice p1 n c1) fi ns [] (Sc.sl k) wr) (fun y _=>n-(intOf y).toNat)
 case atStart=>exact⟨0,rfl,Nat.zero_le _,_,_,_,_,HW.out⟩
 case round =>
  obtain⟨k,rfl,hk,sv,tv,mv,fv,hwk⟩:=hrel;have H:=J hwk;have HK:=J hk;have KX:=J (show KB b _ _ wr from hwk.cell);have x4:=KX.out.cell 4 tv rfl;have lb:=KX.out.lt;have hk0:0<=(k:Int):=Y;have hlen:(Sc.sl k).slots.length=k:=by simp[Sc.sl]
  have HLN:=J hlen;have KB1:=J (KP.out wr hwk.ext);by_cases hlt:k<n
  . have hkn:(k:Int)<(n:Int):=Y;have htb:tv.ownBlock≠some b:=fun q=>((H.out.apart b).2.1 q).1 rfl
    have hf4:=KX.out.frozen 4;clear hwk hk hlen hlt
    go_wp2_with (at_builtin;refine wpList_append_own_at _ rfl _ _ 160 rfl W.heap.size 3 i0 (.int .i64 0) 1 8 underlying160 hi hz0 hz1 hz2 rfl zw tv (Sc.sl k).slots.length (intL (Sc.sl k).slots) rfl (H.out.slots.alloc _) ⟨_,0,none⟩ 1 1 [.int .i64 (-1)] rfl rfl (qaq zy) ji (by rw[HLN.out];unfold maxLen;have:=HK.out;omega) (by rw[HLN.out];have:=HK.out;omega) (by simp;have:=H.out.ext.size;omega) ?_)
    intro v' w1 hown hgrow _ hblk;obtain⟨g3,cap3,rfl,_,_⟩:=hown.form Y;have HPU:=J (WkV.push_slots (s:=-1) (H.out.of_ext ((Ext.refl _).alloc _)) hown hgrow zco);have KX3:=J (show KB b _ _ w1 from(hgrow.block b (by rw[World.size_alloc];omega) (Ne.symm htb)).trans (KX.out.alloc _));have z4:=KX3.out.cell 4 tv rfl;have z4f:=KX3.out.frozen 4;have lb3:=KX3.out.lt;clear hown hgrow hblk htb;go_wp2_with fail;go_roundw
    case rel=>exact⟨k+1,by go_num,Y,_,_,_,_,by have:=HPU.out;rw[show({ Sc.sl k with slots:=(Sc.sl k).slots++[-1] }:Sc)=Sc.sl (k+1) from by unfold Sc.sl;rw[List.replicate_succ']] at this;exact this⟩
    case measure=>simp[intOf];omega
  . have hke:k=n:=Y;subst hke;have q1:=KB1.out.cell 1 _ rfl;have l1:=KB1.out.lt;have CB:=J ((blocks_all (W:=W) (b:=b) (nv:=.slice p1 k c1) (fi:=fi) (ns:=ns) k).1 [] (Sc.start k) R wr fi (-1) [] (.slice none 0 0) (Or.inl ⟨rfl,rfl⟩) HR.out ⟨_,_,_,_,hwk⟩);clear hwk hlt hlen hk x4
    go_wp2_with ((with_reducible refine CB.out.mono ?_);rintro e' w2 ⟨rfl,h2⟩;have H2:=J h2;clear h2)
    go_ret2;exact⟨b,W,rfl,H2.out,XE.out⟩
def qbi (ns:List Nd) (fi:Int):List Int × Int × Int × Int :=
 if mayB ns fi=true then
  match qbg (blkS ns ns.length) fi (-1) [] (Sc.start ns.length) with
  | some R=>if R.e=0 then(R.slots,R.most,0,-1) else([],0,R.e,R.a)
  | none=>([],0,1,-1)
 else([],0,1,-1)
def slots_any (fi:Int) (w:World) (hr:w.ownsRow base 166 8 nv n (qac ns)) (hl:ns.length=n) (hs:∀ z∈ns,z.s.size<=maxLen) (l:List Int) (m e a:Int) (hf:qbi ns fi=(l,m,e,a)) :
  Calls prog 98 #[.agg #[nv,.int .i64 fi]] w fun r w'=>∃ v,r=.returned (.tuple #[v,.int .i64 m,.int .i64 e,.int .i64 a])/\w'.ownsRow w.heap.size 3 1 v l.length (intL l)/\Ext w w':=by
 obtain⟨p1,c1,rfl⟩:=qad hr;unfold qbi at hf;cases hm:mayB ns fi
 . rw[hm,if_neg zy] at hf;simp only[Prod.mk.injEq] at hf;obtain⟨rfl,rfl,rfl,rfl⟩:=hf;have WN:=J (fun W' (hx:Ext w W')=>walk_no fi W' (own_ext hr hx) hl hs hm);clear hr hl hs hm;go_enter func98,ntmps98
   go_wp2_with ((with_reducible refine (WN.out _ zq).mono ?_);rintro e' _ ⟨rfl,d1,os1,rfl⟩)
   exact bodyPost_ret (v:=.tuple #[.slice none 0 0,.int .i64 0,.int .i64 1,.int .i64 (-1)]) (by simp[results,results98,go_sem]) rfl ⟨_,rfl,World.ownsRow_nil _ _ _ _,zq⟩
 . rw[hm,if_pos rfl] at hf;obtain⟨R,hR,h1,h2,h3⟩:=qgn hm;rw[hR] at hf;dsimp only at hf;have WY:=J (fun W' (hx:Ext w W')=>walk_yes fi W' (own_ext hr hx) hl hs hm R (by rw[<-hl];exact hR));obtain⟨rs,rm,rt,rd,rf,re,ra⟩:=R;dsimp only at hf;clear hr hl hs hm h1 h2 h3 hR;by_cases he:re=0
   . subst he;rw[if_pos rfl] at hf;simp only[Prod.mk.injEq] at hf;obtain⟨rfl,rfl,rfl,rfl⟩:=hf;go_enter func98,ntmps98
     go_wp2_with ((with_reducible refine (WY.out _ zq).mono ?_);rintro e' w2 ⟨b,W2,rfl,⟨sv,tv,mv,fv,h2⟩,hx⟩;have KX:=J (show KB b _ _ w2 from h2.cell);have x7:=KX.out.cell 7 _ rfl;have x4:=KX.out.cell 4 _ rfl;have x3:=KX.out.cell 3 _ rfl;have lb:=KX.out.lt;have H2:=J h2;have HX:=J (((Ext.refl w).alloc _).trans hx);clear h2 hx)
     go_region
     go_wp2_with fail;exact bodyPost_ret (v:=.tuple #[tv,.int .i64 rm,.int .i64 0,.int .i64 (-1)]) (by simp[results,results98,go_sem]) rfl ⟨tv,rfl,own_ext (H2.out.slots.mono HX.out.size) ((Ext.refl _).drew),Ext.trans HX.out (H2.out.ext.trans ((Ext.refl _).drew))⟩
   . rw[if_neg he] at hf;simp only[Prod.mk.injEq] at hf;obtain⟨rfl,rfl,rfl,rfl⟩:=hf;have he2:(re !=0)=true:=(by simpa using he)
     clear he;go_enter func98,ntmps98
     go_wp2_with ((with_reducible refine (WY.out _ zq).mono ?_);rintro e' w2 ⟨b,W2,rfl,⟨sv,tv,mv,fv,h2⟩,hx⟩;have KX:=J (show KB b _ _ w2 from h2.cell);have x7:=KX.out.cell 7 _ rfl;have x8:=KX.out.cell 8 _ rfl;have lb:=KX.out.lt;have HX:=J ((((Ext.refl w).alloc _).trans hx).trans h2.ext);clear h2 hx)
     go_region
     go_wp2_with fail;exact bodyPost_ret (v:=.tuple #[.slice none 0 0,.int .i64 0,.int .i64 re,.int .i64 ra]) (by simp[results,results98,go_sem]) rfl ⟨_,rfl,World.ownsRow_nil _ _ _ _,HX.out.trans ((Ext.refl _).drew)⟩
inductive Trl (ns:List Nd):Int->List Nat->Prop
 | neg {i:Int}:i<0->Trl ns i []
 | node {i:Nat} {z:Nd} {la lb lc lx:List Nat}:ns[i]?=some z->Trl ns z.a la->Trl ns z.b lb->Trl ns z.c lc->Trl ns z.x lx->Trl ns (i:Int) (i::(la++(lb++(lc++lx))))
def trl_of_lev (ns:List Nd) (hb:∀ (j:Nat) (z:Nd),ns[j]?=some z->z.a<ns.length/\z.b<ns.length/\z.c<ns.length/\z.x<ns.length):∀ (d:Nat) (i:Int),i<ns.length->levL ns (kid i) d=[]->∃ l,Trl ns i l/\∀ k,l.count k=(uptoL ns (kid i) d).count k:=by
 intro d
 induction d with
 | zero =>
  intro i hi h;have hk:kid i=[]:=h;by_cases h0:i<0
  . exact⟨[],Trl.neg h0,fun k=>rfl⟩
  . unfold kid at hk;rw[if_neg h0] at hk;cases hk
 | succ d ih =>
  intro i hi h;by_cases h0:i<0
  . have hk:kid i=[]:=by unfold kid;rw[if_pos h0]
    have:uptoL ns (kid i) (d+1)=[]:=by
     rw[hk];clear h ih hk
     induction d with
     | zero=>rfl
     | succ d ih=>rw[uptoL,ih,qgR];rfl
    exact⟨[],Trl.neg h0,fun k=>by rw[this]⟩
  . obtain⟨j,rfl⟩:∃ j:Nat,i=(j:Int):=⟨i.toNat,Y⟩
    have hj:j<ns.length:=Y;obtain⟨z,hz⟩:∃ z,ns[j]?=some z:=⟨_,List.getElem?_eq_getElem hj⟩
    have hk:kid (j:Int)=[j]:=(by unfold kid;rw[if_neg h0];simp)
    have hch:chs ns j=chN z:=(by unfold chs;rw[hz])
    have h1:∀ m,levL ns (kid (j:Int)) (m+1)=levL ns (chN z) m:=fun m=>by rw[hk,levL];simp[hch]
    rw[h1] at h;unfold chN at h;rw[qaL,qaL,qaL] at h;simp only[List.append_eq_nil_iff] at h;obtain⟨ha,hb1,hc,hx⟩:=h;obtain⟨b1,b2,b3,b4⟩:=hb j z hz;obtain⟨la,t1,e1⟩:=ih _ b1 ha;obtain⟨lb,t2,e2⟩:=ih _ b2 hb1;obtain⟨lc,t3,e3⟩:=ih _ b3 hc;obtain⟨lx,t4,e4⟩:=ih _ b4 hx;refine ⟨_,Trl.node hz t1 t2 t3 t4,fun k=>?_⟩
    have e:∀ m,(uptoL ns (kid (j:Int)) (m+1)).count k=[j].count k+((uptoL ns (kid z.a) m).count k+((uptoL ns (kid z.b) m).count k+((uptoL ns (kid z.c) m).count k+(uptoL ns (kid z.x) m).count k))):=by
     intro m
     induction m with
     | zero=>simp[uptoL,levL,hk]
     | succ m ihm =>
      rw[uptoL,List.count_append,ihm,h1];simp only[uptoL,List.count_append,chN,qaL];omega
    rw[e d,List.count_cons,List.count_append,List.count_append,List.count_append,e1,e2,e3,e4];simp only[List.count_cons,List.count_nil];omega
def trl_of_once (ns:List Nd) (fi:Int) (hf:fi<ns.length) (hb:∀ (j:Nat) (z:Nd),ns[j]?=some z->z.a<ns.length/\z.b<ns.length/\z.c<ns.length/\z.x<ns.length)
  (ho:∀ k,k<ns.length->pone fi k+pcnt ns k<=1):∃ l,Trl ns fi l/\Uq l:=by
 have hkid:∀ a:Int,a<ns.length->∀ u∈kid a,u<ns.length:=by
  intro a ha u hu;unfold kid at hu
  split at hu
  . cases hu
  . simp at hu;omega
 have hchs:∀ v,∀ u∈chs ns v,u<ns.length:=by
  intro v u hu;unfold chs at hu
  split at hu
  . rename_i z hz;obtain⟨b1,b2,b3,b4⟩:=hb v z hz;unfold chN at hu;simp only[List.mem_append] at hu;rcases hu with h | h | h | h
    . exact hkid _ b1 u h
    . exact hkid _ b2 u h
    . exact hkid _ b3 u h
    . exact hkid _ b4 u h
  . cases hu
 have key:∀ d,Uq (uptoL ns (kid fi) d)/\∀ u∈uptoL ns (kid fi) d,u<ns.length:=by
  intro d
  induction d with
  | zero=>exact⟨fun k=>by simp[uptoL],fun u h=>by cases h⟩
  | succ d ih =>
   have hm:∀ u∈uptoL ns (kid fi) (d+1),u<ns.length:=by
    intro u hu;rw[qbV] at hu;simp only[List.mem_append,List.mem_flatMap] at hu;rcases hu with h | ⟨v,_,h⟩
    . exact hkid _ hf u h
    . exact hchs v u h
   refine ⟨fun k=>?_,hm⟩;by_cases hk:k<ns.length
   . rw[qbV,List.count_append,List.count_flatMap,qeE];have h1:=qfK (fun u=>(chs ns u).count k) ns.length _ ih.1 ih.2;rw[<-qfV] at h1;have h2:=ho k hk;have h3:(List.map (List.count k∘chs ns) (uptoL ns (kid fi) d)).sum=((uptoL ns (kid fi) d).map fun u=>(chs ns u).count k).sum:=rfl;omega
   . have:(uptoL ns (kid fi) (d+1)).count k=0:=List.count_eq_zero.2 fun h=>hk (hm k h)
     omega
 have hlen:∀ d,(uptoL ns (kid fi) d).length<=ns.length:=by
  intro d;have h1:=qfK (fun _=>1) ns.length _ (key d).1 (key d).2;simp only[List.map_const',List.sum_replicate_nat,List.length_range] at h1;omega
 have he:levL ns (kid fi) ns.length=[]:=by
  by_cases h:levL ns (kid fi) ns.length=[]
  . exact h
  . have h1:=qgZ ns (kid fi) ns.length h;have h2:=hlen (ns.length+1);omega
 obtain⟨l,t,e⟩:=trl_of_lev ns hb _ fi hf he;exact⟨l,t,fun k=>by rw[e];exact(key _).1 k⟩
def lastI (sn:List ByteArray) (s:ByteArray):Int:=qaz s sn sn.length
def rstep (q:List Int × Int) (x:Stp):Except (Int × Nat) (List Int × Int) :=
 if x.mkx=true then
  if 0<=lastI x.sn x.nm then .error (16,x.nd)
  else if 32<=x.sn.length then .error (5,x.nd)
  else .ok (if q.1.getD x.nd (-1)<0 then q.1.set x.nd x.sn.length else q.1,max q.2 ((x.sn.length:Int)+1))
 else if lastI x.sn x.nm<0 then .error (15,x.nd) else .ok (q.1.set x.nd (lastI x.sn x.nm),q.2)
def rfold:List Stp->List Int × Int->Except (Int × Nat) (List Int × Int)
 | [],q=>.ok q
 | x::l,q=>match rstep q x with | .error e=>.error e | .ok q'=>rfold l q'
def rfold_app (l m:List Stp) (q:List Int × Int):rfold (l++m) q=match rfold l q with | .error e=>.error e | .ok q'=>rfold m q':=by
 induction l generalizing q with
 | nil=>rfl
 | cons x l ih =>
  simp only[List.cons_append,rfold]
  cases rstep q x with
  | error e=>rfl
  | ok q'=>exact ih q'
def qge (s:ByteArray) (l:List ByteArray):∀ j,j<=l.length->(0<=qaz s l j↔∃ i,i<j/\l[i]?=some s)
 | 0,_=>by simp[qaz]
 | j+1,h=>by
  unfold qaz;have ih:=qge s l j Y
  have hj:l[j]?=some (l.getD j ByteArray.empty):=by
   rw[List.getElem?_eq_getElem Y,List.getD_eq_getElem?_getD,List.getElem?_eq_getElem Y];rfl
  by_cases e:((l.getD j ByteArray.empty).toList==s.toList)=true
  . rw[if_pos e];refine ⟨fun _=>⟨j,Y,?_⟩,fun _=>by omega⟩;rw[hj];rw[(Lib.bytes_beq_iff _ _).1 e]
  . rw[if_neg e,ih]
    constructor
    . rintro ⟨i,hi,hl⟩;exact⟨i,Y,hl⟩
    . rintro ⟨i,hi,hl⟩;refine ⟨i,?_,hl⟩;rcases Nat.lt_or_ge i j with h1 | h1
      . exact h1
      . obtain rfl:i=j:=by omega
        rw[hj] at hl;rw[Option.some.inj hl] at e;exact absurd zy e
def lastI_has (sn:List ByteArray) (s:ByteArray):0<=lastI sn s↔Lib.containsS sn s=true:=by
 unfold lastI;rw[qge s sn sn.length (Nat.le_refl _),Lib.containsS_iff]
 constructor
 . rintro ⟨i,_,h⟩;exact List.mem_of_getElem? h
 . intro h;obtain⟨i,hi⟩:=List.getElem?_of_mem h;exact⟨i,(List.getElem?_eq_some_iff.1 hi).1,hi⟩
def Out (S R:Sc) (l:List Stp):Prop:=if S.e=0 then(match rfold l (S.slots,S.most) with | .ok q=>R.e=0/\R.slots=q.1/\R.most=q.2 | .error e=>R.e=e.1/\R.a=(e.2:Int)) else R.e=S.e/\R.a=S.a
def Out.refl (S:Sc):Out S S []:=by
 unfold Out;split
 . next h=>exact⟨h,rfl,rfl⟩
 . exact⟨rfl,rfl⟩
def rstep_err {q:List Int × Int} {x:Stp} {e:Int × Nat} (h:rstep q x=.error e):e.1≠0:=by
 unfold rstep at h
 (repeat' split at h)<;>first | (cases h;simp) | cases h
def qeQ:∀ {l:List Stp} {q:List Int × Int} {e:Int × Nat},rfold l q=.error e->e.1≠0
 | [],q,e,h=>by cases h
 | x::l,q,e,h=>by
  unfold rfold at h
  split at h
  . next e' he=>cases h;exact rstep_err he
  . exact qeQ h
def Out.trans {S R T:Sc} {l m:List Stp} (h:Out S R l) (k:Out R T m):Out S T (l++m):=by
 unfold Out at h k ⊢;by_cases h0:S.e=0
 . rw[if_pos h0] at h ⊢;rw[rfold_app]
   cases hf:rfold l (S.slots,S.most) with
   | error e =>
    rw[hf] at h;dsimp only at h ⊢;have:=qeQ hf;rw[if_neg (by rw[h.1];exact this)] at k
    exact⟨k.1.trans h.1,k.2.trans h.2⟩
   | ok q =>
    rw[hf] at h;dsimp only at h ⊢;rw[if_pos h.1,h.2.1,h.2.2] at k;exact k
 . rw[if_neg h0] at h ⊢;rw[if_neg (by rw[h.1];exact h0)] at k;exact⟨k.1.trans h.1,k.2.trans h.2⟩
def Fresh (S:Sc) (l:List Nat):Prop:=∀ u∈l,S.slots.getD u (-1)<0
def Stay (S R:Sc) (l:List Nat):Prop:=∀ u,u∉l->R.slots.getD u (-1)=S.slots.getD u (-1)
def Stay.refl (S:Sc) (l:List Nat):Stay S S l:=fun _ _=>rfl
def Stay.trans {S R T:Sc} {l m:List Nat} (h:Stay S R l) (k:Stay R T m):Stay S T (l++m):=fun u hu=>by
 rw[k u (fun q=>hu (by simp[q])),h u (fun q=>hu (by simp[q]))]
def Stay.mono {S R:Sc} {l m:List Nat} (h:Stay S R l) (k:∀ u∈l,u∈m):Stay S R m:=fun u hu=>h u (fun q=>hu (k u q))
def Fresh.stay {S R:Sc} {l m:List Nat} (h:Fresh S m) (k:Stay S R l) (hd:∀ u∈m,u∉l):Fresh R m:=fun u hu=>by rw[k u (hd u hu)];exact h u hu
def use_out {S R:Sc} (h:S.useO s i=some R):Out S R [⟨i,false,s,S.seen⟩]/\R.seen=S.seen/\Stay S R [i]:=by
 obtain⟨a1,a2,a3,rfl⟩:=qff h
 have hst:Stay S (S.use s i) [i]:=fun u hu=>by
  have hne:i≠u:=fun e=>hu (by simp[e])
  have q:=qcJ S 15 i;unfold Sc.use;dsimp only
  (repeat' split)<;>(dsimp only;first | rw[q.2.2.1] | skip)<;>rw[qbw _ _ _ _ a1,if_neg hne]
 refine ⟨?_,(qgK S s i).1,hst⟩;unfold Out;simp only[rfold,rstep,Bool.false_eq_true,if_false];by_cases hk:lastI S.seen s<0
 . rw[if_pos hk];have hk2:qaz s S.seen S.seen.length<0:=hk
   have he:(S.use s i).e=(S.wrong 15 i).e/\(S.use s i).a=(S.wrong 15 i).a:=by
    unfold Sc.use;dsimp only;rw[if_pos hk2];split<;>exact⟨rfl,rfl⟩
   split
   . next h0=>rw[he.1,he.2];unfold Sc.wrong;rw[if_pos h0];exact⟨rfl,rfl⟩
   . next h0=>rw[he.1,he.2];unfold Sc.wrong;rw[if_neg h0];exact⟨rfl,rfl⟩
 . rw[if_neg hk];have hk2:¬ qaz s S.seen S.seen.length<0:=hk;have hR:S.use s i={ S with slots:=S.slots.set i (qaz s S.seen S.seen.length) }:=by unfold Sc.use;dsimp only;rw[if_neg hk2]
   rw[hR];split
   . next h0=>exact⟨h0,rfl,rfl⟩
   . exact⟨rfl,rfl⟩
def see_out {S R:Sc} (h:S.seeO s i=some R):R.seen=S.seen++[s]/\R.slots=S.slots /\
  (if S.e=0 then(if 0<=lastI S.seen s then R.e=16/\R.a=(i:Int) else if 32<=S.seen.length then R.e=5/\R.a=(i:Int) else R.e=0/\R.most=max S.most ((S.seen.length:Int)+1)) else R.e=S.e/\R.a=S.a):=by
 obtain⟨a1,a2,rfl⟩:=qbX h;obtain⟨c1,c2,c3,c4⟩:=qcN S s i;refine ⟨c1,c3,?_⟩;by_cases hm:0<=lastI S.seen s
 . have hc:=(lastI_has S.seen s).1 hm;have e1:(S.see s i).e=(S.wrong 16 i).e/\(S.see s i).a=(S.wrong 16 i).a:=by unfold Sc.see Sc.wrongSee;rw[hc];exact⟨rfl,rfl⟩
   rw[if_pos hm,e1.1,e1.2];unfold Sc.wrong;split
   . exact⟨rfl,rfl⟩
   . exact⟨rfl,rfl⟩
 . have hc:Lib.containsS S.seen s=false:=by
     cases hq:Lib.containsS S.seen s with
     | false=>rfl
     | true=>exact absurd ((lastI_has S.seen s).2 hq) hm
   rw[if_neg hm];by_cases h32:32<=S.seen.length
   . have e1:(S.see s i).e=(S.wrong 5 i).e/\(S.see s i).a=(S.wrong 5 i).a:=(by unfold Sc.see Sc.wrongSee;rw[hc,if_neg zy,if_pos h32];exact⟨rfl,rfl⟩)
     rw[if_pos h32,e1.1,e1.2];unfold Sc.wrong;split
     . exact⟨rfl,rfl⟩
     . exact⟨rfl,rfl⟩
   . have e1:S.see s i={ S with made:=S.made++[s],seen:=S.seen++[s],most:=max S.most ((S.seen.length:Int)+1) }:=(by unfold Sc.see Sc.wrongSee;rw[hc,if_neg zy,if_neg h32])
     rw[if_neg h32,e1];split
     . next h0=>exact⟨h0,rfl⟩
     . exact⟨rfl,rfl⟩
def uq_left {l m:List Nat} (h:Uq (l++m)):Uq l:=fun k=>by have:=h k;rw[List.count_append] at this;omega
def qex {l m:List Nat} (h:Uq (l++m)):Uq m:=fun k=>by have:=h k;rw[List.count_append] at this;omega
def qdk {l m:List Nat} (h:Uq (l++m)) {u:Nat} (hu:u∈m):u∉l:=fun hl=>by
 have:=h u;rw[List.count_append] at this;have h1:=List.count_pos_iff.2 hu;have h2:=List.count_pos_iff.2 hl;omega
def Fresh.sub {S:Sc} {l m:List Nat} (h:Fresh S l) (k:∀ u∈m,u∈l):Fresh S m:=fun u hu=>h u (k u hu)
def qef {S S2 R:Sc} (h1:S.slot i=some S2) (h:S2.seeO s i=some R) (hf:S.slots.getD i (-1)<0):Out S R [⟨i,true,s,S.seen⟩]/\R.seen=S.seen++[s]/\Stay S R [i]/\R.slots.getD i (-1)=S.seen.length/\i<R.slots.length:=by
 obtain⟨b1,rfl⟩:=qcB h1;obtain⟨c1,c2,c3⟩:=see_out h;refine ⟨?_,c1,fun u hu=>?_,?_,?_⟩
 . unfold Out;simp only[rfold,rstep,if_true];dsimp only at c3;by_cases h0:S.e=0
   . rw[if_pos h0] at c3 ⊢;by_cases q1:0<=lastI S.seen s
     . rw[if_pos q1] at c3 ⊢;exact c3
     . rw[if_neg q1] at c3 ⊢;by_cases q2:32<=S.seen.length
       . rw[if_pos q2] at c3 ⊢;exact c3
       . rw[if_neg q2] at c3 ⊢;dsimp only;rw[if_pos hf];exact⟨c3.1,c2,c3.2⟩
   . rw[if_neg h0] at c3 ⊢;exact c3
 . have hne:i≠u:=fun e=>hu (by simp[e])
   rw[c2];dsimp only;rw[qbw _ _ _ _ b1,if_neg hne]
 . rw[c2];dsimp only;rw[qbw _ _ _ _ b1,if_pos rfl]
 . rw[c2];dsimp only;simpa using b1
def see_again {S R:Sc} (h:S.seeO s i=some R) (hf:0<=S.slots.getD i (-1)):Out S R [⟨i,true,s,S.seen⟩]/\R.seen=S.seen++[s]/\R.slots=S.slots:=by
 obtain⟨c1,c2,c3⟩:=see_out h;refine ⟨?_,c1,c2⟩;unfold Out;simp only[rfold,rstep,if_true];by_cases h0:S.e=0
 . rw[if_pos h0] at c3 ⊢;by_cases q1:0<=lastI S.seen s
   . rw[if_pos q1] at c3 ⊢;exact c3
   . rw[if_neg q1] at c3 ⊢;by_cases q2:32<=S.seen.length
     . rw[if_pos q2] at c3 ⊢;exact c3
     . rw[if_neg q2] at c3 ⊢;dsimp only;rw[if_neg Y];exact⟨c3.1,c2,c3.2⟩
 . rw[if_neg h0] at c3 ⊢;exact c3
def exprS_out (ns:List Nd):∀ (f:Nat) (i:Int) (l:List Nat) (S R:Sc),Trl ns i l->exprS ns f i S=some R->Out S R (qay ns f i S.seen)/\R.seen=S.seen/\Stay S R l:=by
 intro f
 induction f with
 | zero =>
  intro i l S R t h;by_cases hi:i<0
  . rw[exprS_neg _ _ _ _ hi] at h;cases h;exact⟨Out.refl S,rfl,Stay.refl S l⟩
  . obtain⟨g,_,_,_,_,e,_⟩:=qbS Y h
    cases e
 | succ f ih =>
  intro i l S R t h;by_cases hi:i<0
  . rw[exprS_neg _ _ _ _ hi] at h;cases h;unfold qay;rw[if_pos hi];exact⟨Out.refl S,rfl,Stay.refl S l⟩
  . obtain⟨g,j,z,S1,S2,e,rfl,hz,h1,h2,h3⟩:=qbS Y h;obtain rfl:f=g:=by omega
    cases t with
    | neg h=>exact absurd h hi
    | @node i' z' la lb lc lx hz' ta tb tc tx =>
     obtain rfl:z'=z:=Option.some.inj (hz'.symm.trans hz);obtain⟨l1,e1,s1⟩:=ih _ _ _ _ ta h1;obtain⟨l2,e2,s2⟩:=ih _ _ _ _ tb h2;unfold qay;rw[if_neg hi,Int.toNat_natCast,hz];dsimp only;rw[e1] at l2;have s12:=s1.trans s2
     split at h3
     . rename_i hk;obtain⟨l3,e3,s3⟩:=use_out h3;rw[if_pos hk];rw[e2,e1] at l3;refine ⟨(l1.trans l2).trans l3,by rw[e3,e2,e1],(s12.trans s3).mono fun u hu=>?_⟩;simp only[List.mem_append,List.mem_singleton,List.mem_cons] at hu ⊢;rcases hu with (h | h) | h
       . exact Or.inr (Or.inl h)
       . exact Or.inr (Or.inr (Or.inl h))
       . exact Or.inl jx
     . rename_i hk;cases h3;rw[if_neg hk,List.append_nil];refine ⟨l1.trans l2,by rw[e2,e1],s12.mono fun u hu=>?_⟩;simp only[List.mem_append,List.mem_cons] at hu ⊢;rcases hu with h | h
       . exact Or.inr (Or.inl h)
       . exact Or.inr (Or.inr (Or.inl h))
def Out.seen {S R:Sc} {l:List Stp} (h:Out S R l) (x:List ByteArray):Out S { R with seen:=x } l:=h
def BOut (ns:List Nd) (B:Int->Sc->Option Sc) (SB:Int->List ByteArray->List Stp):Prop:=∀ i l S R,Trl ns i l->Uq l->Fresh S l->B i S=some R->Out S R (SB i S.seen)/\(∃ x,R.seen=S.seen++x)/\Stay S R l
def qcd {B:Int->Sc->Option Sc} {SB:Int->List ByteArray->List Stp} (hB:BOut ns B SB) {first i:Int} {S R:Sc} {l:List Nat} (t:Trl ns first l) (hu:Uq l) (hf:Fresh S l) (h:qbg B first i [] S=some R):Out S R (SB first S.seen)/\R.seen=S.seen/\Stay S R l:=by
 unfold qbg at h;obtain⟨S1,h1,h⟩:=qab h;cases h1;obtain⟨S2,h2,h⟩:=qab h;obtain⟨l2,⟨x,hx⟩,s2⟩:=hB _ _ _ _ t hu hf h2
 split at h
 . rename_i hl;cases h;exact⟨l2.seen _,by dsimp only;rw[hx,List.take_left'];rfl,s2⟩
 . cases h
def stmS_out {E B:Int->Sc->Option Sc} {SE SB:Int->List ByteArray->List Stp} (hE:∀ i l S R,Trl ns i l->E i S=some R->Out S R (SE i S.seen)/\R.seen=S.seen/\Stay S R l) (hB:BOut ns B SB)
  {i:Nat} {z:Nd} {S R:Sc} {la lb lc:List Nat} (ta:Trl ns z.a la) (tb:Trl ns z.b lb) (tc:Trl ns z.c lc) (hu:Uq (i::(la++(lb++lc)))) (hf:Fresh S (i::(la++(lb++lc)))) (h:stmS E B i z S=some R) :
  Out S R (SE z.a S.seen++qbK SE SB i z S.seen)/\R.seen=(if z.k=20 then S.seen++[z.s] else S.seen)/\Stay S R (i::(la++(lb++lc))):=by
 have u1:Uq ([i]++(la++(lb++lc))):=hu;have u2:=qex u1;have u3:=qex u2;have ila:i∉la:=fun h=>qdk u1 (show i∈la++(lb++lc) by simp[h]) zy
 unfold stmS at h;obtain⟨S1,h1,h⟩:=qab h;obtain⟨l1,e1,s1⟩:=hE _ _ _ _ ta h1
 have f1:Fresh S1 (i::(lb++lc)):=Fresh.stay (hf.sub fun u hu=>by simp at hu ⊢;rcases hu with h | h | h<;>simp[h]) s1 (fun u hu=>by
  simp only[List.mem_cons] at hu;rcases hu with rfl | h
  . exact ila
  . exact qdk u2 h)
 suffices q:Out S1 R (qbK SE SB i z S1.seen)/\R.seen=(if z.k=20 then S1.seen++[z.s] else S1.seen)/\Stay S1 R (i::(lb++lc)) by
  rw[e1] at q;refine ⟨l1.trans q.1,q.2.1,(s1.trans q.2.2).mono fun u hu=>?_⟩;simp only[List.mem_append,List.mem_cons] at hu ⊢;rcases hu with h | h | h | h<;>simp[h]
 have fi:S1.slots.getD i (-1)<0:=f1 i zy;have fb:Fresh S1 lb:=f1.sub fun u hu=>by simp[hu]
 have ub:=uq_left u3;have uc:=qex u3;clear h1 l1 e1;unfold qbK
 split at h
 . rename_i hk;rw[if_neg Y,if_neg Y,if_pos hk,if_neg Y];obtain⟨a1,a2,a3⟩:=hE _ _ _ _ tb h;exact⟨a1,a2,a3.mono fun u hu=>by simp[hu]⟩
 split at h
 . rename_i hk;rw[if_pos hk,if_pos hk];obtain⟨S2,h2,h⟩:=qab h;obtain⟨a1,a2,a3,_,_⟩:=qef h2 h fi;exact⟨a1,a2,a3.mono fun u hu=>by simp at hu;simp[hu]⟩
 split at h
 . rename_i hk0 hk;rw[if_neg hk0,if_pos hk,if_neg hk0];obtain⟨a1,a2,a3⟩:=use_out h;exact⟨a1,a2,a3.mono fun u hu=>by simp at hu;simp[hu]⟩
 split at h
 . rename_i hk0 hk1 hk;rw[if_neg Y,if_neg Y,if_neg Y,if_pos hk,if_neg Y];obtain⟨S2,h2,h⟩:=qab h;obtain⟨l2,e2,s2⟩:=qcd hB tb ub fb h2;have fc:Fresh S2 lc:=Fresh.stay (f1.sub fun u hu=>by simp[hu]) s2 (fun u hu=>qdk u3 hu);obtain⟨l3,e3,s3⟩:=qcd hB tc uc fc h;rw[e2] at l3;exact⟨l2.trans l3,by rw[e3,e2],(s2.trans s3).mono fun u hu=>by simp at hu ⊢;rcases hu with h | h<;>simp[h]⟩
 split at h
 . rename_i hk0 hk1 hk2 hk;rw[if_neg Y,if_neg Y,if_neg Y,if_neg Y,if_pos hk,if_neg Y];obtain⟨S2,h2,h⟩:=qab h;unfold qbg at h;obtain⟨S3,h3,h⟩:=qab h;obtain⟨S4,h4,hfin⟩:=qab h;unfold seesO at h3;obtain⟨S5,h5,h3⟩:=qab h3;unfold seesO at h3;obtain⟨S6,h6,h3⟩:=qab h3;have e63:S6=S3:=Option.some.inj h3;subst e63;obtain⟨a1,a2,a3,a4,a5⟩:=qef h2 h5 fi;obtain⟨b1,b2,b3⟩:=see_again h6 (by rw[a4];omega);rw[a2] at b1 b2
   have f6:Fresh S6 lb:=fun u hu=>by
    have hne:u∉[i]:=qdk u1 (show u∈la++(lb++lc) by simp[hu]);rw[b3,a3 u hne];exact fb u hu
   obtain⟨l4,⟨x,hx⟩,s4⟩:=hB _ _ _ _ tb ub f6 h4;have hseen:S2.seen=S1.seen:=by obtain⟨_,rfl⟩:=qcB h2;rfl
   split at hfin
   . rename_i hl;cases hfin;rw[b2] at l4;have hx2:S4.seen=S1.seen++([z.s]++[z.t]++x):=(by rw[hx,b2];simp)
     refine ⟨((a1.trans b1).trans l4).seen _,?_,fun u hu=>?_⟩
     . dsimp only;rw[hx2,hseen,List.take_left'];rfl
     . simp only[List.mem_cons,List.mem_append,not_or] at hu;show S4.slots.getD u (-1)=_
       rw[s4 u hu.2.1,b3,a3 u (by simpa using hu.1)]
   . cases hfin
 split at h
 . rename_i hk0 hk1 hk2 hk3 hk;rw[if_neg Y,if_neg Y,if_neg Y,if_neg Y,if_neg Y,if_pos hk,if_neg Y];obtain⟨a1,a2,a3⟩:=qcd hB tb ub fb h;exact⟨a1,a2,a3.mono fun u hu=>by simp[hu]⟩
 . rename_i hk0 hk1 hk2 hk3 hk4 hk5;cases h;rw[if_neg Y,if_neg Y,if_neg Y,if_neg Y,if_neg Y,if_neg Y,if_neg Y];exact⟨Out.refl _,rfl,Stay.refl _ _⟩
def blkS_out (ns:List Nd):∀ (f:Nat),BOut ns (blkS ns f) (qau ns f):=by
 intro f
 induction f with
 | zero =>
  intro i l S R t hu hf h;unfold blkS at h
  split at h
  . cases h;exact⟨Out.refl S,⟨[],zy⟩,Stay.refl S l⟩
  . cases h
 | succ f ih =>
  intro i l S R t hu hf h;by_cases hi:i<0
  . have:blkS ns (f+1) i S=some S:=by unfold blkS;rw[if_pos hi]
    rw[this] at h;cases h;unfold qau;rw[if_pos hi];exact⟨Out.refl S,⟨[],zy⟩,Stay.refl S l⟩
  . cases t with
    | neg h=>exact absurd h hi
    | @node j z la lb lc lx hz ta tb tc tx =>
     unfold blkS at h;rw[if_neg hi,Int.toNat_natCast,hz] at h;dsimp only at h;unfold qau;rw[if_neg hi,Int.toNat_natCast,hz];dsimp only;obtain⟨S1,h1,h⟩:=qab h;have ej:j::(la++(lb++(lc++lx)))=(j::(la++(lb++lc)))++lx:=zy;rw[ej] at hu hf ⊢;obtain⟨l1,e1,s1⟩:=stmS_out (fun i l S R t h=>exprS_out ns f i l S R t h) ih ta tb tc (uq_left hu) (hf.sub fun u hu=>by simp only[List.mem_append];exact Or.inl hu) h1;have f2:Fresh S1 lx:=Fresh.stay (hf.sub fun u hu=>by simp only[List.mem_append];exact Or.inr hu) s1 (fun u h2=>qdk hu h2);obtain⟨l2,⟨x,e2⟩,s2⟩:=ih _ _ _ _ tx (qex hu) f2 h;rw[e1] at l2;refine ⟨l1.trans l2,?_,s1.trans s2⟩;rw[e2,e1];split
     . exact⟨[z.s]++x,zy⟩
     . exact⟨x,rfl⟩
def qfI (ns:List Nd) (fi:Int):List Int × Int × Int × Int :=
 match rfold (qau ns ns.length fi []) (List.replicate ns.length (-1),0) with
 | .ok q=>(q.1,q.2,0,-1)
 | .error e=>([],0,e.1,(e.2:Int))
def slots_doc {l:List Nat} (t:Trl ns fi l) (hu:Uq l) {R:Sc} (h:qbg (blkS ns ns.length) fi (-1) [] (Sc.start ns.length)=some R) :
  (if R.e=0 then(R.slots,R.most,0,-1) else([],0,R.e,R.a))=qfI ns fi:=by
 have hf:Fresh (Sc.start ns.length) l:=fun u _=>by
  show(List.replicate ns.length (-1:Int)).getD u (-1)<0
  rw[List.getD_eq_getElem?_getD,List.getElem?_replicate]
  split<;>decide
 obtain⟨o,_,_⟩:=qcd (blkS_out ns ns.length) t hu hf h;unfold Out at o;rw[if_pos (show(Sc.start ns.length).e=0 from rfl)] at o;unfold qfI;have e0:(Sc.start ns.length).slots=List.replicate ns.length (-1):=rfl;have e1:(Sc.start ns.length).most=0:=rfl;have e2:(Sc.start ns.length).seen=[]:=rfl;rw[e0,e1,e2] at o
 cases hr:rfold (qau ns ns.length fi []) (List.replicate ns.length (-1),0) with
 | ok q =>
  rw[hr] at o;dsimp only at o ⊢;rw[if_pos o.1,o.2.1,o.2.2]
 | error e =>
  rw[hr] at o;dsimp only at o ⊢;rw[if_neg (by rw[o.1];exact qeQ hr),o.1,o.2]
def may_trl (h:mayB ns fi=true):∃ l,Trl ns fi l/\Uq l:=by
 obtain⟨h1,h2,h3,h4⟩:=qbC h;exact trl_of_once ns fi (qgu h3 Y) (fun j z hz=>nodeB_lt (List.getElem?_eq_some_iff.1 hz).1 (h2 j z hz)) (fun k hk=>Nat.le_of_eq (h4 k hk))
def slotsF_doc (h:mayB ns fi=true):qbi ns fi=qfI ns fi:=by
 obtain⟨l,t,hu⟩:=may_trl h;obtain⟨R,hR,_⟩:=qgn h;unfold qbi;rw[if_pos h,hR];exact slots_doc t hu hR
end Go.Proofs.YtpnabjopfpdkhaaGreatDoor
