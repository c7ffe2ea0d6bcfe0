/- Lemmas. -/
import Derived.Test.YtpnabjopfpdkhaaGreatDoorA12
import Derived.Deep.RegionHeldLaw
import Derived.StillTailTactics
set_option linter.unusedSimpArgs false
set_option linter.unusedVariables false
set_option maxHeartbeats 8000000
set_option maxRecDepth 20000
namespace Go.Proofs.YtpnabjopfpdkhaaGreatDoor
open Go.RowKit
variable {W:World} {c m:Nat} {nv sv:Value} {fi mo:Int} {ns:List Nd} {sl:List Int}
attribute [go_sem] more_more Array.size_append
theorem qdl {L:List (Nat × Obj)} {M R:Mk} {w:World} (h:MkS W c m nv sv fi mo ns sl L M w) (op a b nd hg:Int) (hR:M.add op a b nd hg=some R) :
  Calls Tryz.prog 137 #[.pointer (some ⟨m,0,none⟩),.int .i64 op,.int .i64 a,.int .i64 b,.int .i64 nd,.int .i64 hg] w fun r w'=>∃ km ko ki,r=.returned (.func (.func 178) #[] #[.pointer (some ⟨ko,0,none⟩),.pointer (some ⟨km,0,none⟩),.pointer (some ⟨ki,0,none⟩)])∧MkS W c m nv sv fi mo ns sl ((ki,.cells #[.int .i64 (M.ins.length:Int)] 3 (0,0))::(ko,.cells #[.int .i64 op] 3 (0,0))::(km,.cells #[.pointer (some ⟨m,0,none⟩)] 163 (0,0))::L) R w':=by
 have hmf:∀ (fn:Fn) (first cap:Array Value) (w:World),(Instr.makeFunc fn first cap).run Tryz.prog w=.ok (.func fn first cap) w:=fun _ _ _ _=>rfl
 have H0:=Lib.hid ((h.locNew (.cells #[.pointer (some ⟨m,0,none⟩)] 163 (0,0))).locNew (.cells #[.int .i64 op] 3 (0,0)));rw[World.size_alloc] at H0;have AD:=Lib.hid (qbJ H0.out op a b nd hg hR);clear h hR;go_enter Tryz.func137,Tryz.ntmps137
 go_wp2_with ((with_reducible refine AD.out.mono ?_);rintro e' w2 ⟨rfl,h2⟩;have H2:=Lib.hid h2;clear h2)
 go_ret
 exact⟨w.heap.size,w.heap.size+1,w2.heap.size,rfl,H2.out.locNew _⟩
theorem qdU {L:List (Nat × Obj)} {M R:Mk} {w:World} (h:MkS W c m nv sv fi mo ns sl L M w) {km ko ki j:Nat} {op:Int} (b1:(ki,Obj.cells #[.int .i64 (j:Int)] 3 (0,0))∈L) (b2:(ko,Obj.cells #[.int .i64 op] 3 (0,0))∈L) (b3:(km,Obj.cells #[.pointer (some ⟨m,0,none⟩)] 163 (0,0))∈L) (hR:(if op=13∨op=15 then M.setB j else M.setA j)=some R) :
  Calls Tryz.prog 178 #[.pointer (some ⟨ko,0,none⟩),.pointer (some ⟨km,0,none⟩),.pointer (some ⟨ki,0,none⟩)] w fun r w'=>r=.returned (.tuple #[])∧MkS W c m nv sv fi mo ns sl L R w':=by
 have K1:=h.locAt b1;have K2:=h.locAt b2;have K3:=h.locAt b3;have u1:=K1.cell 0 _ rfl;have u2:=K2.cell 0 _ rfl;have u3:=K3.cell 0 _ rfl;have v1:=K1.lt;have v2:=K2.lt;have v3:=K3.lt
 obtain⟨iv,vv,h⟩:=h
 have hx:∃ x,M.ins[j]?=some x∧M.ins.length≤100000:=by
  split at hR
  · unfold Mk.setB at hR
    split at hR
    · cases hR
    · rename_i x hx;split at hR
      · rename_i q;exact⟨x,hx,q⟩
      · cases hR
  · unfold Mk.setA at hR
    split at hR
    · cases hR
    · rename_i x hx;split at hR
      · rename_i q;exact⟨x,hx,q⟩
      · cases hR
 obtain⟨x,hx,hl⟩:=hx
 have hj:=(List.getElem?_eq_some_iff.1 hx).1
 obtain⟨n,hn⟩:∃ n,M.ins.length=n:=⟨_,rfl⟩
 obtain⟨g,k,hv,_,hg⟩:=h.ins.form zac
 rw[hn] at hv hl hj;subst hv
 have kc:KB c _ _ w:=h.code
 have km':KB m _ _ w:=h.mkr
 have x0:=km'.cell 0 _ rfl;have y2:=kc.cell 2 _ rfl;have lc:=kc.lt;have lm:=km'.lt;have hc:=h.ins.cells (g:=g) rfl
 obtain⟨_,ia,ib,_⟩:=insC_get M.ins j x hx
 have z1:=hc _ _ ia;have z2:=hc _ _ ib;rw[Addr.add_lit,Nat.zero_add] at z1 z2
 have fz:=fun i=>qfC h.ins i
 have z3:=fz (j*4+1);have z4:=fz (j*4+2)
 have hjI:(j:Int)<(n:Int):=by omega
 have hj0:(0:Int)≤(j:Int):=by omega
 have hnI:(n:Int)≤100000:=by omega
 have HI:=Lib.hid h;have HN:=Lib.hid hn;have HX:=Lib.hid hx;have HJ:=Lib.hid hj;have HL:=Lib.hid hl
 by_cases ho:op=13∨op=15
 · rw[if_pos ho] at hR
   have o1:((op==13)=true)∨(op==13)=false∧(op==15)=true:=by rcases ho with h | h<;>subst h<;>simp
   clear ho;unfold Mk.setB at hR;rw[hx] at hR;dsimp only at hR;rw[if_pos zac] at hR;have e:=Option.some.inj hR;subst e
   have fin:MkS W c m nv sv fi mo ns sl L { M with ins:=M.ins.set j { x with b:=(M.ins.length:Int) } } (w.setCell ⟨g,j*4+2,none⟩ (.int .i64 (n:Int))).drew:=MkS.of_ext ⟨_,_,HI.out.setIns (j*4+2) (.int .i64 (n:Int)) _ (by have:=HJ.out;have:=HN.out;omega) HN.out (by rw[←HN.out];exact insC_setB _ _ _ _ HX.out) zaj⟩ ((Ext.refl _).drew)
   have FIN:=Lib.hid fin;clear fin;clear h K1 K2 K3 hx hn hl hR fz hc hj
   rcases o1 with o1 | ⟨o1,o2⟩
   · go_enter Tryz.func178,Tryz.ntmps178
     go_wp2_with fail
     go_region
     all_goals
      go_end0
      exact⟨rfl,FIN.out⟩
   · go_enter Tryz.func178,Tryz.ntmps178
     go_wp2_with fail
     go_region
     all_goals
      go_end0
      exact⟨rfl,FIN.out⟩
 · rw[if_neg ho] at hR
   have o1:(op==13)=false:=by have:op≠13:=fun e=>ho (Or.inl e);simpa using this
   have o2:(op==15)=false:=by have:op≠15:=fun e=>ho (Or.inr e);simpa using this
   clear ho;unfold Mk.setA at hR;rw[hx] at hR;dsimp only at hR;rw[if_pos zac] at hR;have e:=Option.some.inj hR;subst e
   have fin:MkS W c m nv sv fi mo ns sl L { M with ins:=M.ins.set j { x with a:=(M.ins.length:Int) } } (w.setCell ⟨g,j*4+1,none⟩ (.int .i64 (n:Int))).drew:=MkS.of_ext ⟨_,_,HI.out.setIns (j*4+1) (.int .i64 (n:Int)) _ (by have:=HJ.out;have:=HN.out;omega) HN.out (by rw[←HN.out];exact insC_setA _ _ _ _ HX.out) zaj⟩ ((Ext.refl _).drew)
   have FIN:=Lib.hid fin;clear fin;clear h K1 K2 K3 hx hn hl hR fz hc hj;go_enter Tryz.func178,Tryz.ntmps178;go_wp2_with fail
   go_region
   all_goals
    go_end0
    exact⟨rfl,FIN.out⟩
theorem vindex_any {w:World} {base:Nat} {v:Value} {l:List (Int × Int × ByteArray)} (h:w.ownsRow base 45 3 v l.length (valC3 l)) (hl:l.length≤100000) (k0 i0:Int) (s0:ByteArray) :
  Calls Tryz.prog 206 #[v,.agg #[.int .i64 k0,.int .i64 i0,.string s0]] w fun r w'=>r=.returned (.int .i64 (vidx (k0,i0,s0) l 0))∧Ext w w':=by
 obtain⟨n,hn⟩:∃ n,l.length=n:=⟨_,rfl⟩
 obtain⟨p,c,hv⟩:=qae h
 rw[hn] at hv hl;subst hv;have H:=Lib.hid h;have HN:=Lib.hid hn
 have hni:(n:Int)≤100000:=by omega
 clear h hn hl;go_enter Tryz.func206,Tryz.ntmps206;go_wp2_with fail;go_loopw [8] (fun y8 wr=>∃ k:Nat,y8=.int .i64 (k:Int)∧k≤n∧vidx (k0,i0,s0) (l.drop k) (k:Int)=vidx (k0,i0,s0) l 0∧∃ d os,wr=more (w.alloc (.cells #[.int .i64 k0,.int .i64 i0,.string s0] 45)) d os) (fun y8 _=>n-(intOf y8).toNat)
 case atStart=>exact⟨0,rfl,Nat.zero_le _,rfl,by first | exact⟨_,_,rfl⟩ | exact⟨w.drawn,#[],by simp[more];rfl⟩⟩
 case round =>
  obtain⟨k,rfl,hk,hq,d,os,rfl⟩:=hrel
  have hk0:0≤(k:Int):=by omega
  have HQ:=Lib.hid hq;clear hq
  by_cases hlt:k<n
  · have hki:(k:Int)<(n:Int):=by omega
    have hp:∃ g,p=some ⟨g,0,none⟩:=by
     rcases Go.Joins.ownsRow_forms H.out with ⟨_,h0⟩ | ⟨g1,c1,h0⟩
     · have:=HN.out;omega
     · simp at h0;exact⟨g1,h0.1⟩
    obtain⟨g,rfl⟩:=hp
    obtain⟨⟨xk,xi,xs⟩,hx⟩:∃ x,l[k]?=some x:=⟨_,List.getElem?_eq_getElem (by rw[HN.out];exact hlt)⟩
    obtain⟨a0,a1,a2⟩:=valC3_get l k _ hx
    have hc:=H.out.cells (g:=g) rfl;have d0:=hc _ _ a0;have d1:=hc _ _ a1;have d2:=hc _ _ a2;rw[Addr.add_lit,Nat.zero_add] at d0 d1 d2;dsimp only at d0 d1 d2;have hg:=(H.out.lt g rfl).2
    have hdr:l.drop k=(xk,xi,xs)::l.drop (k+1):=by
     have hlt2:k<l.length:=by rw[HN.out];exact hlt
     rw[List.drop_eq_getElem_cons hlt2];rw[List.getElem?_eq_getElem hlt2] at hx;rw[Option.some.inj hx]
    have HV:=Lib.hid (show(if veq (xk,xi,xs) (k0,i0,s0)=true then(k:Int) else vidx (k0,i0,s0) (l.drop (k+1)) ((k:Int)+1))=vidx (k0,i0,s0) l 0 from by have:=HQ.out;rw[hdr] at this;simp only[vidx] at this;exact this);have HLT:=Lib.hid hlt;clear a0 a1 a2 hc hx hdr hlt HQ
    by_cases e1:k0=xk
    · subst e1
      by_cases e2:i0=xi
      · subst e2
        by_cases e3:s0.toList=xs.toList
        · have hb:veq (k0,i0,xs) (k0,i0,s0)=true:=by simp[veq,e3]
          have HV2:=Lib.hid (HV.out.symm.trans (if_pos hb));clear HV hb;go_wp2_with fail
          go_region
          go_wp2_with fail;go_ret
          exact⟨by rw[HV2.out];rfl,zaa⟩
        · have hb:veq (k0,i0,xs) (k0,i0,s0)=false:=by(simp[veq];exact fun e=>e3 e.symm)
          have HV2:=Lib.hid (HV.out.symm.trans (if_neg zbq));clear HV hb;go_wp2_with fail
          go_region
          go_wp2_with fail;go_roundw
          case rel=>exact⟨k+1,by go_num,by have:=HLT.out;omega,by have:=HV2.out;push_cast;exact this.symm,_,_,rfl⟩
          case measure=>have:=HLT.out;simp[intOf];omega
      · have hb:veq (k0,xi,xs) (k0,i0,s0)=false:=by simp[veq,Ne.symm e2]
        have HV2:=Lib.hid (HV.out.symm.trans (if_neg zbq));clear HV hb;go_wp2_with fail
        go_region
        go_wp2_with fail;go_roundw
        case rel=>exact⟨k+1,by go_num,by have:=HLT.out;omega,by have:=HV2.out;push_cast;exact this.symm,_,_,rfl⟩
        case measure=>have:=HLT.out;simp[intOf];omega
    · have hb:veq (xk,xi,xs) (k0,i0,s0)=false:=by simp[veq,Ne.symm e1]
      have HV2:=Lib.hid (HV.out.symm.trans (if_neg zbq));clear HV hb;go_wp2_with fail
      go_region
      go_wp2_with fail;go_roundw
      case rel=>exact⟨k+1,by go_num,by have:=HLT.out;omega,by have:=HV2.out;push_cast;exact this.symm,_,_,rfl⟩
      case measure=>have:=HLT.out;simp[intOf];omega
  · have hke:k=n:=by omega
    subst hke
    have e0:vidx (k0,i0,s0) l 0=-1:=by
     have:=HQ.out
     rw[List.drop_eq_nil_of_le zap] at this;exact this.symm
    have E0:=Lib.hid e0;clear hlt e0;go_wp2_with fail;go_ret
    exact⟨by(rw[E0.out];rfl),zaa⟩
theorem results_cell {fn:Func} {p:Tmp} {ty:TypeId} (h:fn.results=#[.cell p ty]) (tmps:Array Value) (w:World) (a:Addr) (r:Value)
  (hp:tmps.getD p undef=.pointer (some a)) (hl:(loadVar ty a).run Tryz.prog w=.ok r w) :
  (results fn tmps).run Tryz.prog w=.ok r w:=by
 have hp':tmps[p]?.getD undef=.pointer (some a):=by simpa using hp
 simp[results,h,hp',asAddr,hl]
theorem csigns_any (w:World):Calls Tryz.prog 224 #[] w fun r w'=>r=.returned (.agg #[.string ⟨#[61,61]⟩,.string ⟨#[33,61]⟩,.string ⟨#[60]⟩,.string ⟨#[60,61]⟩,.string ⟨#[62]⟩,.string ⟨#[62,61]⟩,.string ⟨#[43]⟩,.string ⟨#[45]⟩,.string ⟨#[42]⟩,.string ⟨#[47]⟩,.string ⟨#[37]⟩,.string ⟨#[46,46]⟩])∧Ext w w':=by
 go_enter Tryz.func224,Tryz.ntmps224;go_wp2_with fail;exact bodyPost_ret (results_cell (p:=0) (ty:=278) rfl _ _ ⟨w.heap.size,0,none⟩ _ rfl (run_loadVar_row _ w.heap.size 278 278 #[.string ⟨#[61,61]⟩,.string ⟨#[33,61]⟩,.string ⟨#[60]⟩,.string ⟨#[60,61]⟩,.string ⟨#[62]⟩,.string ⟨#[62,61]⟩,.string ⟨#[43]⟩,.string ⟨#[45]⟩,.string ⟨#[42]⟩,.string ⟨#[47]⟩,.string ⟨#[37]⟩,.string ⟨#[46,46]⟩] (0,0) _ (heap_alloc_new _ _) Tryz.underlying278 rfl zaf)) rfl ⟨rfl,(Ext.refl w).alloc _⟩
theorem csign_gen (s x0 x1 x2 x3 x4 x5 x6 x7 x8 x9 x10 x11:ByteArray) (w:World) (hsg:∀ W,Calls Tryz.prog 224 #[] W fun r w'=>r=.returned (.agg #[.string x0,.string x1,.string x2,.string x3,.string x4,.string x5,.string x6,.string x7,.string x8,.string x9,.string x10,.string x11])∧Ext W w'):Calls Tryz.prog 207 #[.string s] w fun r w'=>r=.returned (.int .i64 (sidx s [x0,x1,x2,x3,x4,x5,x6,x7,x8,x9,x10,x11] 0))∧Ext w w':=by
 have SG:=Lib.hid hsg;clear hsg
 obtain⟨r,hr⟩:∃ r,sidx s [x0,x1,x2,x3,x4,x5,x6,x7,x8,x9,x10,x11] 0=r:=⟨_,rfl⟩
 rw[hr]
 have I0:∀ W:World,(Instr.index 278 (.agg #[.string x0,.string x1,.string x2,.string x3,.string x4,.string x5,.string x6,.string x7,.string x8,.string x9,.string x10,.string x11]) (.int .i64 0)).run Tryz.prog W=.ok (.string x0) W:=fun W=>by kernel_rfl
 have I1:∀ W:World,(Instr.index 278 (.agg #[.string x0,.string x1,.string x2,.string x3,.string x4,.string x5,.string x6,.string x7,.string x8,.string x9,.string x10,.string x11]) (.int .i64 1)).run Tryz.prog W=.ok (.string x1) W:=fun W=>by kernel_rfl
 have I2:∀ W:World,(Instr.index 278 (.agg #[.string x0,.string x1,.string x2,.string x3,.string x4,.string x5,.string x6,.string x7,.string x8,.string x9,.string x10,.string x11]) (.int .i64 2)).run Tryz.prog W=.ok (.string x2) W:=fun W=>by kernel_rfl
 have I3:∀ W:World,(Instr.index 278 (.agg #[.string x0,.string x1,.string x2,.string x3,.string x4,.string x5,.string x6,.string x7,.string x8,.string x9,.string x10,.string x11]) (.int .i64 3)).run Tryz.prog W=.ok (.string x3) W:=fun W=>by kernel_rfl
 have I4:∀ W:World,(Instr.index 278 (.agg #[.string x0,.string x1,.string x2,.string x3,.string x4,.string x5,.string x6,.string x7,.string x8,.string x9,.string x10,.string x11]) (.int .i64 4)).run Tryz.prog W=.ok (.string x4) W:=fun W=>by kernel_rfl
 have I5:∀ W:World,(Instr.index 278 (.agg #[.string x0,.string x1,.string x2,.string x3,.string x4,.string x5,.string x6,.string x7,.string x8,.string x9,.string x10,.string x11]) (.int .i64 5)).run Tryz.prog W=.ok (.string x5) W:=fun W=>by kernel_rfl
 have I6:∀ W:World,(Instr.index 278 (.agg #[.string x0,.string x1,.string x2,.string x3,.string x4,.string x5,.string x6,.string x7,.string x8,.string x9,.string x10,.string x11]) (.int .i64 6)).run Tryz.prog W=.ok (.string x6) W:=fun W=>by kernel_rfl
 have I7:∀ W:World,(Instr.index 278 (.agg #[.string x0,.string x1,.string x2,.string x3,.string x4,.string x5,.string x6,.string x7,.string x8,.string x9,.string x10,.string x11]) (.int .i64 7)).run Tryz.prog W=.ok (.string x7) W:=fun W=>by kernel_rfl
 have I8:∀ W:World,(Instr.index 278 (.agg #[.string x0,.string x1,.string x2,.string x3,.string x4,.string x5,.string x6,.string x7,.string x8,.string x9,.string x10,.string x11]) (.int .i64 8)).run Tryz.prog W=.ok (.string x8) W:=fun W=>by kernel_rfl
 have I9:∀ W:World,(Instr.index 278 (.agg #[.string x0,.string x1,.string x2,.string x3,.string x4,.string x5,.string x6,.string x7,.string x8,.string x9,.string x10,.string x11]) (.int .i64 9)).run Tryz.prog W=.ok (.string x9) W:=fun W=>by kernel_rfl
 have I10:∀ W:World,(Instr.index 278 (.agg #[.string x0,.string x1,.string x2,.string x3,.string x4,.string x5,.string x6,.string x7,.string x8,.string x9,.string x10,.string x11]) (.int .i64 10)).run Tryz.prog W=.ok (.string x10) W:=fun W=>by kernel_rfl
 have I11:∀ W:World,(Instr.index 278 (.agg #[.string x0,.string x1,.string x2,.string x3,.string x4,.string x5,.string x6,.string x7,.string x8,.string x9,.string x10,.string x11]) (.int .i64 11)).run Tryz.prog W=.ok (.string x11) W:=fun W=>by kernel_rfl
 have HR:=Lib.hid hr;clear hr;go_enter Tryz.func207,Tryz.ntmps207
 go_wp2_with ((with_reducible refine (SG.out _).mono ?_);rintro e' w1 ⟨rfl,hx⟩;have HX:=Lib.hid hx;clear hx)
 go_loopw [6] (fun y6 wr=>∃ k:Nat,y6=.int .i64 (k:Int)∧k≤12∧sidx s ([x0,x1,x2,x3,x4,x5,x6,x7,x8,x9,x10,x11].drop k) (k:Int)=r∧wr=w1) (fun y6 _=>12-(intOf y6).toNat)
 case atStart=>exact⟨0,rfl,Nat.zero_le _,HR.out,rfl⟩
 case round =>
  obtain⟨k,rfl,hk,hq,rfl⟩:=hrel
  have hc:k=0∨k=1∨k=2∨k=3∨k=4∨k=5∨k=6∨k=7∨k=8∨k=9∨k=10∨k=11∨k=12:=by omega
  rcases hc with rfl | rfl | rfl | rfl | rfl | rfl | rfl | rfl | rfl | rfl | rfl | rfl | rfl
  · simp only[List.drop_succ_cons,List.drop_zero,sidx] at hq
    cases hb:(x0.toList==s.toList)
    · have HQ:=Lib.hid (hq.symm.trans (if_neg zbq))
      clear hq;go_wp2_with fail;go_roundw
      case rel=>exact⟨1,by go_num,by omega,by have:=HQ.out;simp only[List.drop_succ_cons,List.drop_zero];exact this.symm,by first | rfl | trivial⟩
      case measure=>simp[intOf]
    · have HQ:=Lib.hid (hq.symm.trans (if_pos hb))
      clear hq;go_wp2_with fail;go_ret;exact yaz
  · simp only[List.drop_succ_cons,List.drop_zero,sidx] at hq
    cases hb:(x1.toList==s.toList)
    · have HQ:=Lib.hid (hq.symm.trans (if_neg zbq))
      clear hq;go_wp2_with fail;go_roundw
      case rel=>exact⟨2,by go_num,by omega,by have:=HQ.out;simp only[List.drop_succ_cons,List.drop_zero];exact this.symm,by first | rfl | trivial⟩
      case measure=>simp[intOf]
    · have HQ:=Lib.hid (hq.symm.trans (if_pos hb))
      clear hq;go_wp2_with fail;go_ret;exact yaz
  · simp only[List.drop_succ_cons,List.drop_zero,sidx] at hq
    cases hb:(x2.toList==s.toList)
    · have HQ:=Lib.hid (hq.symm.trans (if_neg zbq))
      clear hq;go_wp2_with fail;go_roundw
      case rel=>exact⟨3,by go_num,by omega,by have:=HQ.out;simp only[List.drop_succ_cons,List.drop_zero];exact this.symm,by first | rfl | trivial⟩
      case measure=>simp[intOf]
    · have HQ:=Lib.hid (hq.symm.trans (if_pos hb))
      clear hq;go_wp2_with fail;go_ret;exact yaz
  · simp only[List.drop_succ_cons,List.drop_zero,sidx] at hq
    cases hb:(x3.toList==s.toList)
    · have HQ:=Lib.hid (hq.symm.trans (if_neg zbq))
      clear hq;go_wp2_with fail;go_roundw
      case rel=>exact⟨4,by go_num,by omega,by have:=HQ.out;simp only[List.drop_succ_cons,List.drop_zero];exact this.symm,by first | rfl | trivial⟩
      case measure=>simp[intOf]
    · have HQ:=Lib.hid (hq.symm.trans (if_pos hb))
      clear hq;go_wp2_with fail;go_ret;exact yaz
  · simp only[List.drop_succ_cons,List.drop_zero,sidx] at hq
    cases hb:(x4.toList==s.toList)
    · have HQ:=Lib.hid (hq.symm.trans (if_neg zbq))
      clear hq;go_wp2_with fail;go_roundw
      case rel=>exact⟨5,by go_num,by omega,by have:=HQ.out;simp only[List.drop_succ_cons,List.drop_zero];exact this.symm,by first | rfl | trivial⟩
      case measure=>simp[intOf]
    · have HQ:=Lib.hid (hq.symm.trans (if_pos hb))
      clear hq;go_wp2_with fail;go_ret;exact yaz
  · simp only[List.drop_succ_cons,List.drop_zero,sidx] at hq
    cases hb:(x5.toList==s.toList)
    · have HQ:=Lib.hid (hq.symm.trans (if_neg zbq))
      clear hq;go_wp2_with fail;go_roundw
      case rel=>exact⟨6,by go_num,by omega,by have:=HQ.out;simp only[List.drop_succ_cons,List.drop_zero];exact this.symm,by first | rfl | trivial⟩
      case measure=>simp[intOf]
    · have HQ:=Lib.hid (hq.symm.trans (if_pos hb))
      clear hq;go_wp2_with fail;go_ret;exact yaz
  · simp only[List.drop_succ_cons,List.drop_zero,sidx] at hq
    cases hb:(x6.toList==s.toList)
    · have HQ:=Lib.hid (hq.symm.trans (if_neg zbq))
      clear hq;go_wp2_with fail;go_roundw
      case rel=>exact⟨7,by go_num,by omega,by have:=HQ.out;simp only[List.drop_succ_cons,List.drop_zero];exact this.symm,by first | rfl | trivial⟩
      case measure=>simp[intOf]
    · have HQ:=Lib.hid (hq.symm.trans (if_pos hb))
      clear hq;go_wp2_with fail;go_ret;exact yaz
  · simp only[List.drop_succ_cons,List.drop_zero,sidx] at hq
    cases hb:(x7.toList==s.toList)
    · have HQ:=Lib.hid (hq.symm.trans (if_neg zbq))
      clear hq;go_wp2_with fail;go_roundw
      case rel=>exact⟨8,by go_num,by omega,by have:=HQ.out;simp only[List.drop_succ_cons,List.drop_zero];exact this.symm,by first | rfl | trivial⟩
      case measure=>simp[intOf]
    · have HQ:=Lib.hid (hq.symm.trans (if_pos hb))
      clear hq;go_wp2_with fail;go_ret;exact yaz
  · simp only[List.drop_succ_cons,List.drop_zero,sidx] at hq
    cases hb:(x8.toList==s.toList)
    · have HQ:=Lib.hid (hq.symm.trans (if_neg zbq))
      clear hq;go_wp2_with fail;go_roundw
      case rel=>exact⟨9,by go_num,by omega,by have:=HQ.out;simp only[List.drop_succ_cons,List.drop_zero];exact this.symm,by first | rfl | trivial⟩
      case measure=>simp[intOf]
    · have HQ:=Lib.hid (hq.symm.trans (if_pos hb))
      clear hq;go_wp2_with fail;go_ret;exact yaz
  · simp only[List.drop_succ_cons,List.drop_zero,sidx] at hq
    cases hb:(x9.toList==s.toList)
    · have HQ:=Lib.hid (hq.symm.trans (if_neg zbq))
      clear hq;go_wp2_with fail;go_roundw
      case rel=>exact⟨10,by go_num,by omega,by have:=HQ.out;simp only[List.drop_succ_cons,List.drop_zero];exact this.symm,by first | rfl | trivial⟩
      case measure=>simp[intOf]
    · have HQ:=Lib.hid (hq.symm.trans (if_pos hb))
      clear hq;go_wp2_with fail;go_ret;exact yaz
  · simp only[List.drop_succ_cons,List.drop_zero,sidx] at hq
    cases hb:(x10.toList==s.toList)
    · have HQ:=Lib.hid (hq.symm.trans (if_neg zbq))
      clear hq;go_wp2_with fail;go_roundw
      case rel=>exact⟨11,by go_num,by omega,by have:=HQ.out;simp only[List.drop_succ_cons,List.drop_zero];exact this.symm,by first | rfl | trivial⟩
      case measure=>simp[intOf]
    · have HQ:=Lib.hid (hq.symm.trans (if_pos hb))
      clear hq;go_wp2_with fail;go_ret;exact yaz
  · simp only[List.drop_succ_cons,List.drop_zero,sidx] at hq
    cases hb:(x11.toList==s.toList)
    · have HQ:=Lib.hid (hq.symm.trans (if_neg zbq))
      clear hq;go_wp2_with fail;go_roundw
      case rel=>exact⟨12,by go_num,by omega,by have:=HQ.out;simp only[List.drop_succ_cons,List.drop_zero];exact this.symm,by first | rfl | trivial⟩
      case measure=>simp[intOf]
    · have HQ:=Lib.hid (hq.symm.trans (if_pos hb))
      clear hq;go_wp2_with fail;go_ret;exact yaz
  · simp only[List.drop_succ_cons,List.drop_zero,List.drop_nil,sidx] at hq
    have HQ:=Lib.hid hq;clear hq;go_wp2_with fail;go_ret
    exact⟨by(rw[←HQ.out];rfl),HX.out⟩
theorem csign_any (s:ByteArray) (w:World):Calls Tryz.prog 207 #[.string s] w fun r w'=>r=.returned (.int .i64 (csgF s))∧Ext w w':=csign_gen s _ _ _ _ _ _ _ _ _ _ _ _ w csigns_any
theorem valInfo:(Tryz.prog.info? 45).map (fun i=>(i.zero,i.size,i.bytes))=some (some (.agg #[.int .i64 0,.int .i64 0,.string ⟨#[]⟩]),3,32):=by kernel_rfl
theorem value_any {L:List (Nat × Obj)} {M R:Mk} {w:World} (h:MkS W c m nv sv fi mo ns sl L M w) (k0 i0:Int) (s0:ByteArray) (j:Int) (hR:M.value (k0,i0,s0)=some (R,j)) :
  Calls Tryz.prog 176 #[.pointer (some ⟨m,0,none⟩),.agg #[.int .i64 k0,.int .i64 i0,.string s0]] w fun r w'=>r=.returned (.int .i64 j)∧MkS W c m nv sv fi mo ns sl L R w':=by
 unfold Mk.value at hR
 split at hR
 rotate_left
 · cases hR
 rename_i hl
 obtain⟨iv,vv,h⟩:=h
 obtain⟨n,hn⟩:∃ n,M.vals.length=n:=⟨_,rfl⟩
 obtain⟨p,k,hv⟩:=qae h.vals
 rw[hn] at hv;subst hv;have HN:=Lib.hid hn;have HQ:=Lib.hid (show(n:Int)≤100000∧n≤100000 from⟨by omega,by omega⟩);have H1:=Lib.hid (h.locNew (.cells #[.int .i64 k0,.int .i64 i0,.string s0] 45 (0,0)));have VI:=Lib.hid (fun (w':World) (hx:Ext (w.alloc (.cells #[.int .i64 k0,.int .i64 i0,.string s0] 45 (0,0))) w')=>vindex_any (own_ext H1.out.vals hx) hl k0 i0 s0)
 obtain⟨x,hx⟩:∃ x,vidx (k0,i0,s0) M.vals 0=x:=⟨_,rfl⟩
 rw[hx] at VI hR;clear h hn hl hx
 by_cases hx0:0≤x
 · rw[if_pos hx0] at hR
   simp only[Option.some.injEq,Prod.mk.injEq] at hR
   obtain⟨e1,e2⟩:=hR
   subst e1 e2;go_enter Tryz.func176,Tryz.ntmps176;go_wp2_with fail
   obtain⟨Bx,hBx⟩:∃ Bx,w.heap.size=Bx:=⟨_,rfl⟩
   obtain⟨w1,hw1⟩:∃ w1,w.alloc (.cells #[.int .i64 k0,.int .i64 i0,.string s0] 45 (0,0))=w1:=⟨_,rfl⟩
   rw[hBx] at H1 ⊢;rw[hw1] at H1 VI ⊢;clear hBx hw1
   have kc1:KB c _ _ w1:=H1.out.code
   have km1:KB m _ _ w1:=H1.out.mkr
   have kb1:KB Bx #[.int .i64 k0,.int .i64 i0,.string s0] 45 w1:=(H1.out.loc _ List.mem_cons_self).1
   have x0:w1.cell? ⟨m,0,none⟩=some (.pointer (some ⟨c,0,none⟩)):=km1.cell 0 _ rfl
   have y3:w1.cell? ⟨c,3,none⟩=some (.slice p n k):=kc1.cell 3 _ rfl
   have b0:w1.cell? ⟨Bx,0,none⟩=some (.int .i64 k0):=kb1.cell 0 _ rfl
   have b1:w1.cell? ⟨Bx,1,none⟩=some (.int .i64 i0):=kb1.cell 1 _ rfl
   have b2:w1.cell? ⟨Bx,2,none⟩=some (.string s0):=kb1.cell 2 _ rfl
   clear kc1 km1 kb1
   go_still_tail 8,zaf
   have H1d:=Lib.hid (H1.out.of_ext ((Ext.refl _).drew));have VId:=Lib.hid (VI.out w1.drew ((Ext.refl _).drew))
   change wpList _ _ _ _ _ w1.drew
   generalize w1.drew=w1d at *
   go_wp2_with (((with_reducible refine VId.out.mono ?_);rintro e' w2 ⟨rfl,hx2⟩;have H2:=Lib.hid (H1d.out.of_ext hx2);clear hx2))
   clear x0 y3 b0 b1 b2 H1 VI H1d VId;go_ret
   exact⟨rfl,MkS.sub ⟨_,_,H2.out⟩ (fun q hq=>List.mem_cons_of_mem _ hq)⟩
 · rw[if_neg hx0] at hR
   simp only[Option.some.injEq,Prod.mk.injEq] at hR
   obtain⟨e1,e2⟩:=hR
   subst e1 e2
   have hxn:x<0:=by omega
   clear hx0;go_enter Tryz.func176,Tryz.ntmps176;go_wp2_with fail
   obtain⟨Bx,hBx⟩:∃ Bx,w.heap.size=Bx:=⟨_,rfl⟩
   obtain⟨w1,hw1⟩:∃ w1,w.alloc (.cells #[.int .i64 k0,.int .i64 i0,.string s0] 45 (0,0))=w1:=⟨_,rfl⟩
   rw[hBx] at H1 ⊢;rw[hw1] at H1 VI ⊢;clear hBx hw1
   have kc1:KB c _ _ w1:=H1.out.code
   have km1:KB m _ _ w1:=H1.out.mkr
   have kb1:KB Bx #[.int .i64 k0,.int .i64 i0,.string s0] 45 w1:=(H1.out.loc _ List.mem_cons_self).1
   have x0:w1.cell? ⟨m,0,none⟩=some (.pointer (some ⟨c,0,none⟩)):=km1.cell 0 _ rfl
   have y3:w1.cell? ⟨c,3,none⟩=some (.slice p n k):=kc1.cell 3 _ rfl
   have b0:w1.cell? ⟨Bx,0,none⟩=some (.int .i64 k0):=kb1.cell 0 _ rfl
   have b1:w1.cell? ⟨Bx,1,none⟩=some (.int .i64 i0):=kb1.cell 1 _ rfl
   have b2:w1.cell? ⟨Bx,2,none⟩=some (.string s0):=kb1.cell 2 _ rfl
   clear kc1 km1 kb1
   go_still_tail 8,zaf
   have H1d:=Lib.hid (H1.out.of_ext ((Ext.refl _).drew));have VId:=Lib.hid (VI.out w1.drew ((Ext.refl _).drew))
   change wpList _ _ _ _ _ w1.drew
   generalize w1.drew=w1d at *
   go_wp2_with (((with_reducible refine VId.out.mono ?_);rintro e' w2 ⟨rfl,hx2⟩;have H2:=Lib.hid (H1d.out.of_ext hx2);clear hx2))
   clear x0 y3 b0 b1 b2 H1 VI H1d VId;have HOM:=Lib.hid (show(Value.slice p n k).ownBlock≠some m from fun e=>((H2.out.apart m).2 e).2 rfl);have HOC:=Lib.hid (show(Value.slice p n k).ownBlock≠some c from fun e=>((H2.out.apart c).2 e).1 rfl);have HLC:=Lib.hid (H2.out.loc _ List.mem_cons_self);have HCM:=Lib.hid (Ne.symm H2.out.base.2.2.1);have HKC:=Lib.hid (show KB c _ _ w2 from H2.out.code);have HKM:=Lib.hid (show KB m _ _ w2 from H2.out.mkr);have HKB:=Lib.hid (show KB Bx #[.int .i64 k0,.int .i64 i0,.string s0] 45 w2 from HLC.out.1)
   have x0:w2.cell? ⟨m,0,none⟩=some (.pointer (some ⟨c,0,none⟩)):=HKM.out.cell 0 _ rfl
   have y2:w2.cell? ⟨c,3,none⟩=some (.slice p n k):=HKC.out.cell 3 _ rfl
   have b0:w2.cell? ⟨Bx,0,none⟩=some (.int .i64 k0):=HKB.out.cell 0 _ rfl
   have b1:w2.cell? ⟨Bx,1,none⟩=some (.int .i64 i0):=HKB.out.cell 1 _ rfl
   have b2:w2.cell? ⟨Bx,2,none⟩=some (.string s0):=HKB.out.cell 2 _ rfl
   have lc:=HKC.out.lt;have lm:=HKM.out.lt;have lb:=HKB.out.lt;have HOB:=Lib.hid (show(Value.slice p n k).ownBlock≠some Bx from HLC.out.2.2.2.2);have HCB:=Lib.hid (show Bx≠c from HLC.out.2.1)
   obtain⟨v0,hi,hz0,hz1,hz2⟩:=info_parts valInfo
   refine wp_region_held_drew (S:=(fun w'=>w'.cell? ⟨m,0,none⟩=some (.pointer (some ⟨c,0,none⟩))∧w'.cell? ⟨Bx,0,none⟩=some (.int .i64 k0)∧w'.cell? ⟨Bx,1,none⟩=some (.int .i64 i0)∧w'.cell? ⟨Bx,2,none⟩=some (.string s0))) zaf ⟨cell_ext x0 zad,cell_ext b0 zad,cell_ext b1 zad,cell_ext b2 zad⟩ (fun hS=>?_);refine tkH 0 (.pointer (some ⟨m,0,none⟩)) hS ?_;refine yab ?_;refine tkH 1 (.pointer (some ⟨m,0,none⟩)) hS ?_;refine yab ?_;refine tkH 2 (.pointer (some ⟨m,0,none⟩)) hS ?_;refine yab ?_;refine tkH 3 (.pointer (some ⟨c,0,none⟩)) hS ?_;refine yab ?_;refine tkH 4 (.pointer (some ⟨m,0,none⟩)) hS ?_;refine yab ?_
   refine tkH 5 (.pointer (some ⟨m,0,none⟩)) hS ?_;refine yab ?_;refine tkH 6 (.pointer (some ⟨m,0,none⟩)) hS ?_;refine yab ?_;refine tkH 7 (.pointer (some ⟨c,0,none⟩)) hS ?_;refine yab ?_;refine tkH 8 (.pointer (some ⟨c,0,none⟩)) hS ?_;refine yab ?_;refine tkH 9 (.pointer (some ⟨c,3,none⟩)) hS ?_;refine yab ?_;refine tkH 11 (.agg #[.int .i64 k0,.int .i64 i0,.string s0]) hS ?_;refine yab ?_;refine wpAnyH_ready (rs:=[10,12]) zaf zaj ?_;refine AllReadyH.cons (o:=_) rfl (fun K hK=>?_) (AllReadyH.cons (o:=_) rfl (fun K hK=>?_) AllReadyH.nil)
   · rw[if_pos (by rfl)]
     have y2d:w2.drew.cell? ⟨c,3,none⟩=some (.slice p n k):=cell_ext y2 zad
     go_simp;refine hK.out _ _ (⟨cell_ext x0 zad,cell_ext b0 zad,cell_ext b1 zad,cell_ext b2 zad⟩) (fun hS1=>?_);clear hK K;refine yab ?_;refine wpAnyH_ready (rs:=[12]) zaf zaj ?_;refine AllReadyH.cons (o:=_) rfl (fun K hK=>?_) AllReadyH.nil;rw[if_pos (by rfl)];go_simp;refine hK.out _ _ (⟨cell_ext x0 zad,cell_ext b0 zad,cell_ext b1 zad,cell_ext b2 zad⟩) (fun hS2=>?_);clear hK K;refine yab ?_;refine wpAnyH_ready (rs:=[13]) zaf zaj ?_;refine AllReadyH.cons (o:=_) rfl (fun K hK=>?_) AllReadyH.nil;refine step_append_lies _ rfl (.tmp 28) (.tmp 30) 168 rfl W.heap.size 45 v0 (.agg #[.int .i64 0,.int .i64 0,.string ⟨#[]⟩]) 3 32 Tryz.underlying168 hi hz0 hz1 hz2 rfl zak (.slice p n k) n (valC3 M.vals) rfl (own_ext (by have:=H2.out.vals;rw[HN.out] at this;exact this) zad) ⟨w2.heap.size,0,none⟩ 1 1 [.int .i64 k0,.int .i64 i0,.string s0] rfl rfl (World.news_of_block (heap_alloc_new _ _)) (by intro u hu;simp at hu;rcases hu with rfl | rfl | rfl<;>rfl) zak (by have:=HQ.out.2;unfold maxLen;omega) (by have:=HQ.out.2;omega) (by have:=H2.out.ext.size;simp;omega) _ rfl ?_
     intro g1 cap1 w4 hown4 hgrow4 hat4 hlt4
     have kb4:KB c _ _ w4:=(hgrow4.block c zam (Ne.symm HOC.out)).trans (HKC.out.of_ext zad)
     have km4:KB m _ _ w4:=(hgrow4.block m zam (Ne.symm HOM.out)).trans (HKM.out.of_ext zad)
     have kx4:KB Bx #[.int .i64 k0,.int .i64 i0,.string s0] 45 w4:=(hgrow4.block Bx zam (Ne.symm HOB.out)).trans (HKB.out.of_ext zad)
     have m0:w4.cell? ⟨m,0,none⟩=some (.pointer (some ⟨c,0,none⟩)):=km4.cell 0 _ rfl
     have m2:w4.cell? ⟨c,3,none⟩=some (.slice p n k):=kb4.cell 3 _ rfl
     have m3:=kb4.frozen 3;have m4:=kb4.lt
     have d0:w4.cell? ⟨Bx,0,none⟩=some (.int .i64 k0):=kx4.cell 0 _ rfl
     have d1:w4.cell? ⟨Bx,1,none⟩=some (.int .i64 i0):=kx4.cell 1 _ rfl
     have d2:w4.cell? ⟨Bx,2,none⟩=some (.string s0):=kx4.cell 2 _ rfl
     have KM4:=Lib.hid km4;have KX4:=Lib.hid kx4;clear kb4 km4 kx4;refine hK.out _ _ (⟨m0,d0,d1,d2⟩) (fun hS3=>?_);clear hK K;refine yab ?_;refine tkH 14 (.pointer (some ⟨c,0,none⟩)) hS3 ?_;refine yab ?_;refine tkH 15 (.pointer (some ⟨c,3,none⟩)) hS3 ?_;refine yab ?_;refine wpAnyH_ready (rs:=[16]) zaf zaj ?_;refine AllReadyH.cons (o:=_) rfl (fun K hK=>?_) AllReadyH.nil;rw[if_pos (by rfl)];go_simp;refine hK.out _ _ (⟨(KM4.out.setOther 3 _ HCM.out).cell 0 (.pointer (some ⟨c,0,none⟩)) rfl,(KX4.out.setOther 3 _ HCB.out).cell 0 (.int .i64 k0) rfl,(KX4.out.setOther 3 _ HCB.out).cell 1 (.int .i64 i0) rfl,(KX4.out.setOther 3 _ HCB.out).cell 2 (.string s0) rfl⟩) (fun hS4=>?_)
     clear hK K;refine yab ?_;refine wpAnyH_done zaf ?_ _
     have hv4:(Value.slice (some ⟨g1,0,none⟩) (n+1) cap1).ownBlock=(Value.slice p n k).ownBlock∨(Value.slice (some ⟨g1,0,none⟩) (n+1) cap1).ownBlock=some (((w2.alloc (.cells #[.int .i64 k0,.int .i64 i0,.string s0] 45)).drew)).heap.size:=by
      rcases hat4 with e | e
      · exact Or.inl e.symm
      · exact Or.inr (by rw[←e];rfl)
     have HP:=Lib.hid (MkV.push_val (x:=(k0,i0,s0)) (H2.out.of_ext (w':=((w2.alloc (.cells #[.int .i64 k0,.int .i64 i0,.string s0] 45)).drew)) zad) (by rw[HN.out];exact hown4) hgrow4 hv4);clear hv4 hat4 hlt4 hgrow4 hown4 m0 m2 m3 m4 KM4 HKC HKM H2 x0 y2 lc lm d0 d1 d2 KX4 HKB b0 b1 b2 lb;generalize w4.setCell ⟨c,3,none⟩ (Value.slice (some ⟨g1,0,none⟩) (n+1) cap1)=W1 at *
     have kc:KB c _ _ W1:=HP.out.code
     have km:KB m _ _ W1:=HP.out.mkr
     have x0:W1.cell? ⟨m,0,none⟩=some (.pointer (some ⟨c,0,none⟩)):=km.cell 0 _ rfl
     have x3:W1.cell? ⟨c,3,none⟩=some (.slice (some ⟨g1,0,none⟩) (n+1) cap1):=kc.cell 3 _ rfl
     have lm:=km.lt;have lc:=kc.lt;have hnI:=HQ.out.1;clear kc km;go_wp2_with fail;go_ret
     exact⟨by(rw[HN.out];rfl),MkS.sub ⟨_,_,HP.out⟩ (fun q hq=>List.mem_cons_of_mem _ hq)⟩
   · rw[if_pos (by rfl)]
     go_simp;refine hK.out _ _ (⟨cell_ext x0 zad,cell_ext b0 zad,cell_ext b1 zad,cell_ext b2 zad⟩) (fun hS1=>?_);clear hK K;refine yab ?_
     have y2a:((w2.alloc (.cells #[.int .i64 k0,.int .i64 i0,.string s0] 45)).drew).cell? ⟨c,3,none⟩=some (.slice p n k):=cell_ext y2 zad
     refine wpAnyH_ready (rs:=[10]) zaf zaj ?_;refine AllReadyH.cons (o:=_) rfl (fun K hK=>?_) AllReadyH.nil;rw[if_pos (by rfl)];go_simp;refine hK.out _ _ (⟨cell_ext x0 zad,cell_ext b0 zad,cell_ext b1 zad,cell_ext b2 zad⟩) (fun hS2=>?_);clear hK K;refine yab ?_;refine wpAnyH_ready (rs:=[13]) zaf zaj ?_;refine AllReadyH.cons (o:=_) rfl (fun K hK=>?_) AllReadyH.nil;refine step_append_lies _ rfl (.tmp 28) (.tmp 30) 168 rfl W.heap.size 45 v0 (.agg #[.int .i64 0,.int .i64 0,.string ⟨#[]⟩]) 3 32 Tryz.underlying168 hi hz0 hz1 hz2 rfl zak (.slice p n k) n (valC3 M.vals) rfl (own_ext (by have:=H2.out.vals;rw[HN.out] at this;exact this) zad) ⟨w2.heap.size,0,none⟩ 1 1 [.int .i64 k0,.int .i64 i0,.string s0] rfl rfl (World.news_of_block (heap_alloc_new _ _)) (by intro u hu;simp at hu;rcases hu with rfl | rfl | rfl<;>rfl) zak (by have:=HQ.out.2;unfold maxLen;omega) (by have:=HQ.out.2;omega) (by have:=H2.out.ext.size;simp;omega) _ rfl ?_
     intro g1 cap1 w4 hown4 hgrow4 hat4 hlt4
     have kb4:KB c _ _ w4:=(hgrow4.block c zam (Ne.symm HOC.out)).trans (HKC.out.of_ext zad)
     have km4:KB m _ _ w4:=(hgrow4.block m zam (Ne.symm HOM.out)).trans (HKM.out.of_ext zad)
     have kx4:KB Bx #[.int .i64 k0,.int .i64 i0,.string s0] 45 w4:=(hgrow4.block Bx zam (Ne.symm HOB.out)).trans (HKB.out.of_ext zad)
     have m0:w4.cell? ⟨m,0,none⟩=some (.pointer (some ⟨c,0,none⟩)):=km4.cell 0 _ rfl
     have m2:w4.cell? ⟨c,3,none⟩=some (.slice p n k):=kb4.cell 3 _ rfl
     have m3:=kb4.frozen 3;have m4:=kb4.lt
     have d0:w4.cell? ⟨Bx,0,none⟩=some (.int .i64 k0):=kx4.cell 0 _ rfl
     have d1:w4.cell? ⟨Bx,1,none⟩=some (.int .i64 i0):=kx4.cell 1 _ rfl
     have d2:w4.cell? ⟨Bx,2,none⟩=some (.string s0):=kx4.cell 2 _ rfl
     have KM4:=Lib.hid km4;have KX4:=Lib.hid kx4;clear kb4 km4 kx4;refine hK.out _ _ (⟨m0,d0,d1,d2⟩) (fun hS3=>?_);clear hK K;refine yab ?_;refine tkH 14 (.pointer (some ⟨c,0,none⟩)) hS3 ?_;refine yab ?_;refine tkH 15 (.pointer (some ⟨c,3,none⟩)) hS3 ?_;refine yab ?_;refine wpAnyH_ready (rs:=[16]) zaf zaj ?_;refine AllReadyH.cons (o:=_) rfl (fun K hK=>?_) AllReadyH.nil;rw[if_pos (by rfl)];go_simp;refine hK.out _ _ (⟨(KM4.out.setOther 3 _ HCM.out).cell 0 (.pointer (some ⟨c,0,none⟩)) rfl,(KX4.out.setOther 3 _ HCB.out).cell 0 (.int .i64 k0) rfl,(KX4.out.setOther 3 _ HCB.out).cell 1 (.int .i64 i0) rfl,(KX4.out.setOther 3 _ HCB.out).cell 2 (.string s0) rfl⟩) (fun hS4=>?_)
     clear hK K;refine yab ?_;refine wpAnyH_done zaf ?_ _
     have hv4:(Value.slice (some ⟨g1,0,none⟩) (n+1) cap1).ownBlock=(Value.slice p n k).ownBlock∨(Value.slice (some ⟨g1,0,none⟩) (n+1) cap1).ownBlock=some (((w2.alloc (.cells #[.int .i64 k0,.int .i64 i0,.string s0] 45)).drew)).heap.size:=by
      rcases hat4 with e | e
      · exact Or.inl e.symm
      · exact Or.inr (by rw[←e];rfl)
     have HP:=Lib.hid (MkV.push_val (x:=(k0,i0,s0)) (H2.out.of_ext (w':=((w2.alloc (.cells #[.int .i64 k0,.int .i64 i0,.string s0] 45)).drew)) zad) (by rw[HN.out];exact hown4) hgrow4 hv4);clear hv4 hat4 hlt4 hgrow4 hown4 m0 m2 m3 m4 KM4 HKC HKM H2 x0 y2 lc lm d0 d1 d2 KX4 HKB b0 b1 b2 lb;generalize w4.setCell ⟨c,3,none⟩ (Value.slice (some ⟨g1,0,none⟩) (n+1) cap1)=W1 at *
     have kc:KB c _ _ W1:=HP.out.code
     have km:KB m _ _ W1:=HP.out.mkr
     have x0:W1.cell? ⟨m,0,none⟩=some (.pointer (some ⟨c,0,none⟩)):=km.cell 0 _ rfl
     have x3:W1.cell? ⟨c,3,none⟩=some (.slice (some ⟨g1,0,none⟩) (n+1) cap1):=kc.cell 3 _ rfl
     have lm:=km.lt;have lc:=kc.lt;have hnI:=HQ.out.1;clear kc km;go_wp2_with fail;go_ret
     exact⟨by(rw[HN.out];rfl),MkS.sub ⟨_,_,HP.out⟩ (fun q hq=>List.mem_cons_of_mem _ hq)⟩
def MExprC (W:World) (c m:Nat) (nv sv:Value) (fi mo:Int) (ns:List Nd) (sl:List Int) (f:Nat):Prop:=∀ (L:List (Nat × Obj)) (M R:Mk) (w:World) (i:Int),exprM ns sl f i M=some R→MkS W c m nv sv fi mo ns sl L M w →
  Calls Tryz.prog 136 #[.pointer (some ⟨m,0,none⟩),.int .i64 i] w fun r w'=>r=.returned (.tuple #[])∧MkS W c m nv sv fi mo ns sl L R w'
theorem MExprC.out {f:Nat} (h:MExprC W c m nv sv fi mo ns sl f) {L:List (Nat × Obj)} {M R:Mk} {i:Int} (hR:exprM ns sl f i M=some R) (w:World) (hm:MkS W c m nv sv fi mo ns sl L M w) :
  Calls Tryz.prog 136 #[.pointer (some ⟨m,0,none⟩),.int .i64 i] w fun r w'=>r=.returned (.tuple #[])∧MkS W c m nv sv fi mo ns sl L R w':=h L M R w i hR hm
theorem andS_iff (s:ByteArray):s=andS↔(s.toList==[97,110,100])=true:=by
 have e:andS.toList=[97,110,100]:=by kernel_rfl
 rw[←e]
 exact(Lib.bytes_beq_iff s andS).symm
theorem orS_iff (s:ByteArray):s=orS↔(s.toList==[111,114])=true:=by
 have e:orS.toList=[111,114]:=by kernel_rfl
 rw[←e]
 exact(Lib.bytes_beq_iff s orS).symm
theorem mtwo_of {f:Nat} (hE:MExprC W c m nv sv fi mo ns sl f) {L:List (Nat × Obj)} {M R:Mk} (w:World) (j:Nat) (z:Nd) (hR:twoM (exprM ns sl f) j z M=some R) (h:MkS W c m nv sv fi mo ns sl L M w) :
  Calls Tryz.prog 177 #[.pointer (some ⟨m,0,none⟩),.int .i64 (j:Int),.agg #[.int .i64 z.k,.int .i64 z.a,.int .i64 z.b,.int .i64 z.c,.int .i64 z.x,.int .i64 z.i,.string z.s,.string z.t]] w fun r w'=>r=.returned (.tuple #[])∧MkS W c m nv sv fi mo ns sl L R w':=by
 obtain⟨zk,za,zb,zc,zx,zi,zs,zt⟩:=z
 unfold twoM at hR;dsimp only at hR ⊢
 obtain⟨M0,h0,hR⟩:=qab hR
 refine yal ?_;intro H0;have C0:=Lib.hid (fun w1 hw=>hE.out (L:=((w.heap.size,.cells #[.int .i64 zk,.int .i64 za,.int .i64 zb,.int .i64 zc,.int .i64 zx,.int .i64 zi,.string zs,.string zt] 166 (0,0))::L)) h0 w1 hw)
 by_cases ha:zs=andS∨zs=orS
 · rw[if_pos ha] at hR
   obtain⟨M1,h1,hR⟩:=qab hR
   obtain⟨M2,h2,hR⟩:=qab hR
   obtain⟨M3,h3,hR⟩:=qab hR
   have hR5:(if (5:Int)=13∨(5:Int)=15 then M3.setB M0.ins.length else M3.setA M0.ins.length)=some R:=hR
   have C2:=Lib.hid (fun LL w1 hw=>hE.out (L:=LL) h2 w1 hw);have C3:=Lib.hid (fun LL w1 (hw:MkS W c m nv sv fi mo ns sl LL M2 w1)=>qbJ hw 6 0 0 (j:Int) 0 h3)
   by_cases ho:zs=orS
   · rw[if_pos ho] at h1
     have b2:=(orS_iff zs).1 ho
     have b1:(zs.toList==[97,110,100])=false:=by rw[ho];kernel_rfl
     have b3:zs.toList=[111,114]:=by simpa using b2
     have C1:=Lib.hid (fun LL w1 (hw:MkS W c m nv sv fi mo ns sl LL M0 w1)=>qdl hw 5 0 1 (j:Int) (-1) h1);clear hE hR h h0 h1 h2 h3 ha ho;have HR5:=Lib.hid hR5;clear hR5 b3;go_enter Tryz.func177,Tryz.ntmps177
     go_wp2_with (first
      | ((with_reducible refine (C0.out _ H0.out).mono ?_);rintro e' w2 ⟨rfl,h2⟩;have H2:=Lib.hid h2;clear h2;have KX2:Hid (KB w.heap.size #[.int .i64 zk,.int .i64 za,.int .i64 zb,.int .i64 zc,.int .i64 zx,.int .i64 zi,.string zs,.string zt] 166 w2):=Lib.hid (H2.out.locAt List.mem_cons_self);have x26:=KX2.out.cell 6 _ rfl;have lx2:=KX2.out.lt)
      | ((with_reducible refine (C1.out _ _ H2.out).mono ?_);rintro e' w3 ⟨km,ko,ki,rfl,h3⟩;have H3:=Lib.hid h3;clear h3;have KX3:Hid (KB w.heap.size #[.int .i64 zk,.int .i64 za,.int .i64 zb,.int .i64 zc,.int .i64 zx,.int .i64 zi,.string zs,.string zt] 166 w3):=Lib.hid (H3.out.locAt (List.mem_cons_of_mem _ (List.mem_cons_of_mem _ (List.mem_cons_of_mem _ List.mem_cons_self))));have x32:=KX3.out.cell 2 _ rfl;have lx3:=KX3.out.lt)
      | ((with_reducible refine (C2.out _ _ H3.out).mono ?_);rintro e' w4 ⟨rfl,h4⟩;have H4:=Lib.hid h4;clear h4)
      | ((with_reducible refine (C3.out _ _ H4.out).mono ?_);rintro e' w5 ⟨rfl,h5⟩;have H5:=Lib.hid h5;clear h5)
      | ((with_reducible refine (qdU H5.out (op:=5) List.mem_cons_self (List.mem_cons_of_mem _ List.mem_cons_self) (List.mem_cons_of_mem _ (List.mem_cons_of_mem _ List.mem_cons_self)) HR5.out).mono ?_);rintro e' w6 ⟨rfl,h6⟩;have H6:=Lib.hid h6;clear h6))
     refine yae ?_
     exact⟨rfl,H6.out.sub fun q hq=>List.mem_cons_of_mem _ (List.mem_cons_of_mem _ (List.mem_cons_of_mem _ (List.mem_cons_of_mem _ hq)))⟩
   · rw[if_neg ho] at h1
     have ha2:zs=andS:=ha.resolve_right ho
     have b1:=(andS_iff zs).1 ha2
     have b2:(zs.toList==[111,114])=false:=by rw[ha2];kernel_rfl
     have C1:=Lib.hid (fun LL w1 (hw:MkS W c m nv sv fi mo ns sl LL M0 w1)=>qdl hw 5 0 0 (j:Int) (-1) h1);clear hE hR h h0 h1 h2 h3 ha ho ha2;have HR5:=Lib.hid hR5;clear hR5;go_enter Tryz.func177,Tryz.ntmps177
     go_wp2_with (first
      | ((with_reducible refine (C0.out _ H0.out).mono ?_);rintro e' w2 ⟨rfl,h2⟩;have H2:=Lib.hid h2;clear h2;have KX2:Hid (KB w.heap.size #[.int .i64 zk,.int .i64 za,.int .i64 zb,.int .i64 zc,.int .i64 zx,.int .i64 zi,.string zs,.string zt] 166 w2):=Lib.hid (H2.out.locAt List.mem_cons_self);have x26:=KX2.out.cell 6 _ rfl;have lx2:=KX2.out.lt)
      | ((with_reducible refine (C1.out _ _ H2.out).mono ?_);rintro e' w3 ⟨km,ko,ki,rfl,h3⟩;have H3:=Lib.hid h3;clear h3;have KX3:Hid (KB w.heap.size #[.int .i64 zk,.int .i64 za,.int .i64 zb,.int .i64 zc,.int .i64 zx,.int .i64 zi,.string zs,.string zt] 166 w3):=Lib.hid (H3.out.locAt (List.mem_cons_of_mem _ (List.mem_cons_of_mem _ (List.mem_cons_of_mem _ List.mem_cons_self))));have x32:=KX3.out.cell 2 _ rfl;have lx3:=KX3.out.lt)
      | ((with_reducible refine (C2.out _ _ H3.out).mono ?_);rintro e' w4 ⟨rfl,h4⟩;have H4:=Lib.hid h4;clear h4)
      | ((with_reducible refine (C3.out _ _ H4.out).mono ?_);rintro e' w5 ⟨rfl,h5⟩;have H5:=Lib.hid h5;clear h5)
      | ((with_reducible refine (qdU H5.out (op:=5) List.mem_cons_self (List.mem_cons_of_mem _ List.mem_cons_self) (List.mem_cons_of_mem _ (List.mem_cons_of_mem _ List.mem_cons_self)) HR5.out).mono ?_);rintro e' w6 ⟨rfl,h6⟩;have H6:=Lib.hid h6;clear h6))
     refine yae ?_
     exact⟨rfl,H6.out.sub fun q hq=>List.mem_cons_of_mem _ (List.mem_cons_of_mem _ (List.mem_cons_of_mem _ (List.mem_cons_of_mem _ hq)))⟩
 · rw[if_neg ha] at hR
   obtain⟨M1,h1,hR⟩:=qab hR
   have b1:(zs.toList==[97,110,100])=false:=by cases hb:(zs.toList==[97,110,100]) with
    | false=>rfl
    | true=>exact absurd (Or.inl ((andS_iff zs).2 hb)) ha
   have b2:(zs.toList==[111,114])=false:=by cases hb:(zs.toList==[111,114]) with
    | false=>rfl
    | true=>exact absurd (Or.inr ((orS_iff zs).2 hb)) ha
   have C1:=Lib.hid (fun LL w1 hw=>hE.out (L:=LL) h1 w1 hw);have C3:=Lib.hid (fun LL w1 (hw:MkS W c m nv sv fi mo ns sl LL M1 w1)=>qbJ hw 4 (csgF zs) 0 (j:Int) (-1) hR);clear hE hR h h0 h1 ha;go_enter Tryz.func177,Tryz.ntmps177
   go_wp2_with (first
    | ((with_reducible refine (C0.out _ H0.out).mono ?_);rintro e' w2 ⟨rfl,h2⟩;have H2:=Lib.hid h2;clear h2;have KX2:Hid (KB w.heap.size #[.int .i64 zk,.int .i64 za,.int .i64 zb,.int .i64 zc,.int .i64 zx,.int .i64 zi,.string zs,.string zt] 166 w2):=Lib.hid (H2.out.locAt List.mem_cons_self);have x22:=KX2.out.cell 2 _ rfl;have x26:=KX2.out.cell 6 _ rfl;have lx2:=KX2.out.lt)
    | ((with_reducible refine (C1.out _ _ H2.out).mono ?_);rintro e' w3 ⟨rfl,h3⟩;have H3:=Lib.hid h3;clear h3;have KX3:Hid (KB w.heap.size #[.int .i64 zk,.int .i64 za,.int .i64 zb,.int .i64 zc,.int .i64 zx,.int .i64 zi,.string zs,.string zt] 166 w3):=Lib.hid (H3.out.locAt List.mem_cons_self);have x36:=KX3.out.cell 6 _ rfl;have lx3:=KX3.out.lt)
    | ((with_reducible refine (csign_any _ _).mono ?_);rintro e' w4 ⟨rfl,hx4⟩;have H4:=Lib.hid (H3.out.of_ext hx4);clear hx4)
    | ((with_reducible refine (C3.out _ _ H4.out).mono ?_);rintro e' w5 ⟨rfl,h5⟩;have H5:=Lib.hid h5;clear h5))
   refine yae ?_
   exact⟨rfl,H5.out.sub fun q hq=>List.mem_cons_of_mem _ hq⟩
theorem mexpr_any:∀ f,MExprC W c m nv sv fi mo ns sl f:=by
 intro f
 induction f with
 | zero=>intro L M R w i hR h;cases hR
 | succ f ih =>
  intro L M R w i hR h;unfold exprM at hR
  split at hR
  · cases hR
  rename_i hi
  obtain⟨j,rfl⟩:∃ j:Nat,i=(j:Int):=⟨i.toNat,by omega⟩
  rw[Int.toNat_natCast] at hR
  split at hR
  · cases hR
  rename_i z hz
  obtain⟨zk,za,zb,zc,zx,zi,zs,zt⟩:=z
  dsimp only at hR
  obtain⟨G,n,cap,iv,vv,rfl,hG,hj,lc,lm,x0,y0,x1,y2,y3,hiv,a0,a1,a2,a3,a4,a5,a6,a7⟩:=h.node hz
  dsimp only at a0 a1 a2 a3 a4 a5 a6 a7;refine yal ?_;intro H0
  have hj0:0≤(j:Int):=by omega
  have hjn:(j:Int)<(n:Int):=by omega
  clear hiv
  by_cases hA:zk=0∨zk=1∨zk=2∨zk=3
  · rw[if_pos hA] at hR
    obtain⟨⟨M1,q⟩,h1,hR⟩:=qab hR
    have C1:=Lib.hid (fun w1 (hw:MkS W c m (.slice (some ⟨G,0,none⟩) n cap) sv fi mo ns sl ((w.heap.size,.cells #[.int .i64 zk,.int .i64 za,.int .i64 zb,.int .i64 zc,.int .i64 zx,.int .i64 zi,.string zs,.string zt] 166 (0,0))::L) M w1)=>value_any hw zk zi zs q h1);have C2:=Lib.hid (fun w1 (hw:MkS W c m (.slice (some ⟨G,0,none⟩) n cap) sv fi mo ns sl ((w.heap.size,.cells #[.int .i64 zk,.int .i64 za,.int .i64 zb,.int .i64 zc,.int .i64 zx,.int .i64 zi,.string zs,.string zt] 166 (0,0))::L) M1 w1)=>qbJ hw 0 q 0 (j:Int) 1 hR);clear ih hR h hz h1 hi;rcases hA with hA | hA | hA | hA
    all_goals
     subst hA;go_enter Tryz.func136,Tryz.ntmps136
     go_wp2_with (first
      | ((with_reducible refine (C1.out _ H0.out).mono ?_);rintro e' w2 ⟨rfl,h2⟩;have H2:=Lib.hid h2;clear h2)
      | ((with_reducible refine (C2.out _ H2.out).mono ?_);rintro e' w3 ⟨rfl,h3⟩;have H3:=Lib.hid h3;clear h3))
     refine yae ?_
     exact⟨rfl,H3.out.sub fun q hq=>List.mem_cons_of_mem _ hq⟩
  rw[if_neg hA] at hR
  have b0:(zk==0)=false:=by simpa using fun e=>hA (Or.inl e)
  have b1:(zk==1)=false:=by simpa using fun e=>hA (Or.inr (Or.inl e))
  have b2:(zk==2)=false:=by simpa using fun e=>hA (Or.inr (Or.inr (Or.inl e)))
  have b3:(zk==3)=false:=by simpa using fun e=>hA (Or.inr (Or.inr (Or.inr e)))
  by_cases h4:zk=4
  · rw[if_pos h4] at hR
    obtain⟨q,hq,hR⟩:=qab hR
    obtain⟨g,n2,k2,rfl,hn2,hj2,hg2,s0⟩:=h.slot hq
    have C2:=Lib.hid (fun w1 (hw:MkS W c m (.slice (some ⟨G,0,none⟩) n cap) (.slice (some ⟨g,0,none⟩) n2 k2) fi mo ns sl ((w.heap.size,.cells #[.int .i64 zk,.int .i64 za,.int .i64 zb,.int .i64 zc,.int .i64 zx,.int .i64 zi,.string zs,.string zt] 166 (0,0))::L) M w1)=>qbJ hw 1 q 0 (j:Int) 1 hR)
    have hjn2:(j:Int)<(n2:Int):=by omega
    subst h4;clear ih hR h hz hi hA hq b0 b1 b2 b3 hn2;go_enter Tryz.func136,Tryz.ntmps136
    go_wp2_with (first
     | ((with_reducible refine (C2.out _ H0.out).mono ?_);rintro e' w2 ⟨rfl,h2⟩;have H2:=Lib.hid h2;clear h2))
    refine yae ?_
    exact⟨rfl,H2.out.sub fun q hq=>List.mem_cons_of_mem _ hq⟩
  rw[if_neg h4] at hR
  have b4:(zk==4)=false:=by simpa using h4
  by_cases h11:zk=11
  · rw[if_pos h11] at hR
    have C1:=Lib.hid (fun w1 hw=>mtwo_of ih (L:=((w.heap.size,.cells #[.int .i64 zk,.int .i64 za,.int .i64 zb,.int .i64 zc,.int .i64 zx,.int .i64 zi,.string zs,.string zt] 166 (0,0))::L)) w1 j _ hR hw);dsimp only at C1;subst h11;clear ih hR h hz hi hA h4 b0 b1 b2 b3 b4;go_enter Tryz.func136,Tryz.ntmps136
    go_wp2_with (first
     | ((with_reducible refine (C1.out _ H0.out).mono ?_);rintro e' w2 ⟨rfl,h2⟩;have H2:=Lib.hid h2;clear h2))
    refine yae ?_
    exact⟨rfl,H2.out.sub fun q hq=>List.mem_cons_of_mem _ hq⟩
  rw[if_neg h11] at hR
  have b5:(zk==11)=false:=by simpa using h11
  obtain⟨M1,h1,hR⟩:=qab hR
  have C1:=Lib.hid (fun w1 hw=>ih.out (L:=((w.heap.size,.cells #[.int .i64 zk,.int .i64 za,.int .i64 zb,.int .i64 zc,.int .i64 zx,.int .i64 zi,.string zs,.string zt] 166 (0,0))::L)) h1 w1 hw);have C2:=Lib.hid (fun w1 (hw:MkS W c m (.slice (some ⟨G,0,none⟩) n cap) sv fi mo ns sl ((w.heap.size,.cells #[.int .i64 zk,.int .i64 za,.int .i64 zb,.int .i64 zc,.int .i64 zx,.int .i64 zi,.string zs,.string zt] 166 (0,0))::L) M1 w1)=>qbJ hw 3 zk 0 (j:Int) 0 hR);clear ih hR h hz hi hA h4 h11 h1;go_enter Tryz.func136,Tryz.ntmps136
  go_wp2_with (first
   | ((with_reducible refine (C1.out _ H0.out).mono ?_);rintro e' w2 ⟨rfl,h2⟩;have H2:=Lib.hid h2;clear h2;have KX2:Hid (KB w.heap.size #[.int .i64 zk,.int .i64 za,.int .i64 zb,.int .i64 zc,.int .i64 zx,.int .i64 zi,.string zs,.string zt] 166 w2):=Lib.hid (H2.out.locAt List.mem_cons_self);have x20:=KX2.out.cell 0 _ rfl;have lx2:=KX2.out.lt)
   | ((with_reducible refine (C2.out _ H2.out).mono ?_);rintro e' w3 ⟨rfl,h3⟩;have H3:=Lib.hid h3;clear h3))
  refine yae ?_
  exact⟨rfl,H3.out.sub fun q hq=>List.mem_cons_of_mem _ hq⟩
end Go.Proofs.YtpnabjopfpdkhaaGreatDoor
