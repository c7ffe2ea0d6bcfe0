/- Lemmas. -/
import Derived.Test.YtpnabjopfpdkhaaGreatDoorA17
import Derived.Test.YtpnabjopfpdkhaaGreatDoorA22
import Derived.Test.YtpnabjopfpdkhaaGreatDoorA27
import Derived.Deep.RegionHeldLaw
import Derived.IntWalk
set_option linter.unusedSimpArgs false
set_option linter.unusedVariables false
set_option maxHeartbeats 4000000
namespace Go.Proofs.YtpnabjopfpdkhaaGreatDoor
open Go.RowKit
variable {ns:List Nd}
attribute [go_sem] more_more Array.size_append
theorem qdA {fi m a:Int} {l:List Int} (h:qbg ns fi=(l,m,0,a)):mayB ns fi=true∧a=-1∧l.length=ns.length∧ns.length≤512:=by
 unfold qbg at h
 split at h
 · rename_i hm
   obtain⟨R,hR,h1,h2,h3⟩:=qfR hm
   rw[hR] at h;dsimp only at h
   split at h
   · simp only[Prod.mk.injEq] at h
     obtain⟨rfl,rfl,_,rfl⟩:=h
     exact⟨hm,rfl,h1,by omega⟩
   · rename_i he
     simp only[Prod.mk.injEq] at h;exact absurd h.2.2.1 he
 · simp only[Prod.mk.injEq] at h
   exact absurd h.2.2.1 zak
theorem rmake_any {nv:Value} (fi:Int) {w:World} (hr:w.ownsRow 0 166 8 nv ns.length (qac ns)) (l:List Int) (mo e a:Int) (hf:qbg ns fi=(l,mo,e,a)) :
  Calls Tryz.prog 91 #[.agg #[nv,.int .i64 fi]] w fun r w'=>r=.returned (.tuple #[.int .i64 mo,.int .i64 e,.int .i64 a])∧Ext w w':=by
 have SL:∀ W',Ext w W'→Calls Tryz.prog 106 #[.agg #[nv,.int .i64 fi]] W' fun r w'=>∃ v,r=.returned (.tuple #[v,.int .i64 mo,.int .i64 e,.int .i64 a])∧Ext W' w':=by
  intro W' hx
  cases hm:mayB ns fi
  · unfold qbg at hf
    rw[hm,if_neg zaj] at hf;simp only[Prod.mk.injEq] at hf
    obtain⟨_,rfl,rfl,rfl⟩:=hf
    exact rslots_no fi (own_ext hr hx) hm
  · rw[slotsF_doc hm] at hf
    exact rslots_yes fi (own_ext hr hx) hm l mo e a hf
 obtain⟨p,cap,hv⟩:=qae hr
 rw[hv] at SL ⊢;have HS:=Lib.hid SL;clear hr hf hv SL;go_enter Tryz.func91,Tryz.ntmps91
 go_wp2_with (go_at_call 106;(with_reducible refine (HS.out _ zaa).mono ?_);rintro e' w2 ⟨v,rfl,hx2⟩;have HX2:=Lib.hid (Ext.trans ((Ext.refl w).alloc _) hx2);clear hx2)
 go_ret3
 exact⟨rfl,HX2.out⟩
theorem csource_err (s:ByteArray) (c a:Int) (hr:qaU s.data.toList=.error (c,a)) (hc:c≠0) (w:World) :
  Calls Tryz.prog 73 #[.string s] w fun r w'=>r=.returned (.tuple #[.pointer none,.int .i64 c,.int .i64 a])∧Ext w w':=by
 have SC:=Lib.hid (fun W'=>qdw s _ hr W')
 have he2:(c !=0)=true:=by simpa using hc
 clear hr hc;go_enter Tryz.func73,Tryz.ntmps73
 go_wp2_with ((with_reducible refine (SC.out _).mono ?_);rintro e' w2 ⟨rfl,hx2⟩;have HX2:=Lib.hid hx2;clear hx2)
 go_ret3
 exact⟨rfl,HX2.out.trans zaa⟩
theorem csource_no (s:ByteArray) (ns:List Nd) (fi:Int) (hr:qaU s.data.toList=.ok (ns,fi)) (hz:∀ z∈ns,z.s.size≤maxLen) (l:List Int) (mo e a:Int) (hf:qbg ns fi=(l,mo,e,a)) (he:e≠0) (w:World) :
  Calls Tryz.prog 73 #[.string s] w fun r w'=>r=.returned (.tuple #[.pointer none,.int .i64 e,.int .i64 a])∧Ext w w':=by
 have SC:=Lib.hid (fun W'=>qdw s _ hr W');have CM:=Lib.hid (fun W' nv base (h:World.ownsRow W' base 166 8 nv ns.length (qac ns))=>cmake_no fi W' h hz l mo e a hf he);clear hr hz hf he;go_enter Tryz.func73,Tryz.ntmps73
 go_wp2_with (first
  | ((with_reducible refine (SC.out _).mono ?_);rintro e' w2 ⟨nv,rfl,hn,hx2⟩;obtain⟨pn,kn,hvn⟩:=qae hn;subst hvn;have HN:=Lib.hid hn;have HX2:=Lib.hid hx2;clear hx2 hn)
  | (go_at_call 85;(with_reducible refine (CM.out _ _ _ (own_ext HN.out zaa)).mono ?_);rintro e' w3 ⟨rfl,hx3⟩;have HX3:=Lib.hid hx3;clear hx3))
 go_ret3
 exact⟨rfl,(HX2.out.trans zaa).trans HX3.out⟩
theorem csource_ok (s:ByteArray) (ns:List Nd) (fi:Int) (hr:qaU s.data.toList=.ok (ns,fi)) (hz:∀ z∈ns,z.s.size≤maxLen) (l:List Int) (mo a:Int) (hf:qbg ns fi=(l,mo,0,a)) (R:Mk) (hR:codeF ns fi l=some R) (w:World) :
  Calls Tryz.prog 73 #[.string s] w fun r w'=>∃ c,r=.returned (.tuple #[.pointer (some ⟨c,0,none⟩),.int .i64 0,.int .i64 (-1)])∧CodeAt w.heap.size c fi mo ns R w'∧Ext w w':=by
 have SC:=Lib.hid (fun W'=>qdw s _ hr W');have CM:=Lib.hid (fun W' nv base (h:World.ownsRow W' base 166 8 nv ns.length (qac ns))=>cmake_ok fi W' h hz (by have:=(qdA hf).2.2.2;omega) l mo a hf R hR);clear hr hz hf hR;go_enter Tryz.func73,Tryz.ntmps73
 go_wp2_with (first
  | ((with_reducible refine (SC.out _).mono ?_);rintro e' w2 ⟨nv,rfl,hn,hx2⟩;obtain⟨pn,kn,hvn⟩:=qae hn;subst hvn;have HN:=Lib.hid hn;have HX2:=Lib.hid (hx2.trans ((Ext.refl w2).alloc (.cells #[.slice pn ns.length kn,.int .i64 fi] 132)));clear hx2 hn)
  | (go_at_call 85;(with_reducible refine (CM.out _ _ _ (own_ext HN.out zaa)).mono ?_);rintro e' w3 ⟨c,rfl,hc,hx3⟩;have HC:=Lib.hid hc;have HX3:=Lib.hid hx3;clear hx3 hc))
 go_ret3
 exact⟨c,rfl,HC.out.mono HX2.out.size,HX2.out.trans HX3.out⟩
structure Snd (N:Nat) (M:Mk):Prop where
 l1:1≤M.ins.length
 l2:M.ins.length≤4*N+1
 h0:0≤M.high
 h1:M.high≤(N:Int)+1
 fn:Fine N M
 n5:N≤512
theorem code_of {fi m a:Int} {l:List Int} (h:qbg ns fi=(l,m,0,a)):∃ R,codeF ns fi l=some R∧Snd ns.length R:=by
 obtain⟨hm,rfl,hl,h5⟩:=qdA h
 obtain⟨h1,h2,h3,h4⟩:=qby hm
 obtain⟨n,hn,t⟩:=qgi hm
 obtain⟨M,e,b1,b2,b3,b4,b5,b6⟩:=codeF_law (sl:=l) zac (fun j z hz=>node_nk hz (h2 j z hz)) (blk_sk h3 (Int.le_refl _)) t hn h1
 exact⟨M,e,b1,b2,b3,b4,b5,h5⟩
end Go.Proofs.YtpnabjopfpdkhaaGreatDoor
