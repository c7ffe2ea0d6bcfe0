/- Lemmas. -/
import Derived.Test.YtpnabjopfpdkhaaGreatDoorA04
import Derived.Test.YtpnabjopfpdkhaaGreatDoorA27
import Derived.Test.YtpnabjopfpdkhaaGreatDoorA28
import Derived.Test.YtpnabjopfpdkhaaGreatDoorA39
set_option linter.unusedSimpArgs false
set_option linter.unusedVariables false
set_option maxHeartbeats 4000000
namespace Go.Proofs.YtpnabjopfpdkhaaGreatDoor
open Go.RowKit
attribute [go_sem] more_more Array.size_append
theorem qgk (s:ByteArray) (c a:Int) (hr:qaU s.data.toList=.error (c,a)) (hc:c≠0) (w:World) :
  Calls Tryz.prog 78 #[.string s] w fun r w'=>r=.returned (.tuple #[.agg #[.slice none 0 0,.int .i64 0],.int .i64 c,.int .i64 a])∧Ext w w':=by
 have SC:=Lib.hid (fun W'=>qeC s _ hr W')
 have he2:(c !=0)=true:=by simpa using hc
 clear hr hc;go_enter Tryz.func78,Tryz.ntmps78
 go_wp2_with ((with_reducible refine (SC.out _).mono ?_);rintro e' _ ⟨rfl,d2,o2,rfl⟩)
 exact bodyPost_ret (v:=.tuple #[.agg #[.slice none 0 0,.int .i64 0],.int .i64 c,.int .i64 a]) (by simp[results,Tryz.results78,go_sem]) rfl ⟨rfl,zaa⟩
theorem rsource20_ok (s:ByteArray) (ns:List Nd) (fi:Int) (hr:qaU s.data.toList=.ok (ns,fi)) (l:List Int) (mo e a:Int) (hf:qbg ns fi=(l,mo,e,a)) (w:World) :
  Calls Tryz.prog 78 #[.string s] w fun r w'=>∃ nv,r=.returned (.tuple #[.agg #[nv,.int .i64 fi],.int .i64 e,.int .i64 a])∧w'.ownsRow w.heap.size 166 8 nv ns.length (qac ns)∧Ext w w':=by
 have SC:=Lib.hid (fun W'=>qeC s _ hr W');have RM:=Lib.hid (fun (W':World) nv (h:World.ownsRow W' 0 166 8 nv ns.length (qac ns))=>rmake_any fi h l mo e a hf);clear hr hf;go_enter Tryz.func78,Tryz.ntmps78
 go_wp2_with ((with_reducible refine (SC.out _).mono ?_);rintro e' w2 ⟨nv,rfl,hn,hx2⟩;obtain⟨pn,kn,hvn⟩:=qae hn;subst hvn;have HN:=Lib.hid hn;have HX2:=Lib.hid (Ext.trans ((Ext.refl w).alloc _) hx2);have KR:=Lib.hid ((KB.new w #[.slice none 0 0,.int .i64 0] 132).of_ext hx2);have lr:=KR.out.lt;clear hx2 hn)
 obtain⟨Br,hBr⟩:∃ Br,w.heap.size=Br:=⟨_,rfl⟩
 have HBR:=Lib.hid hBr;rw[hBr] at KR lr ⊢;clear hBr
 go_wp2_with (go_at_call 91;(with_reducible refine (RM.out _ _ (own_ext (HN.out.mono (Nat.zero_le _)) zaa)).mono ?_);rintro e' w3 ⟨rfl,hx3⟩;have HX3:=Lib.hid (Ext.trans ((Ext.refl w2).alloc _) hx3);have KP:=Lib.hid ((KB.new w2 #[.slice pn ns.length kn,.int .i64 fi] 132).of_ext hx3);have p0:w3.cell? ⟨w2.heap.size,0,none⟩=some (.slice pn ns.length kn):=KP.out.cell 0 _ rfl;have p1:w3.cell? ⟨w2.heap.size,1,none⟩=some (.int .i64 fi):=KP.out.cell 1 _ rfl;have lp:=KP.out.lt;have KR3:=Lib.hid (KR.out.of_ext (Ext.trans ((Ext.refl w2).alloc _) hx3));have lr3:=KR3.out.lt;have r0f:=KR3.out.frozen 0;have r1f:=KR3.out.frozen 1;have r0c:=KR3.out.cell 0 _ rfl;have r1c:=KR3.out.cell 1 _ rfl;clear hx3)
 have KR4:=Lib.hid ((KR3.out.setAt 0 (.slice pn ns.length kn) zaj).setAt 1 (.int .i64 fi) zaj)
 have q0:((w3.setCell ⟨Br,0,none⟩ (.slice pn ns.length kn)).setCell ⟨Br,1,none⟩ (.int .i64 fi)).cell? ⟨Br,0,none⟩=some (.slice pn ns.length kn):=KR4.out.cell 0 _ rfl
 have q1:((w3.setCell ⟨Br,0,none⟩ (.slice pn ns.length kn)).setCell ⟨Br,1,none⟩ (.int .i64 fi)).cell? ⟨Br,1,none⟩=some (.int .i64 fi):=KR4.out.cell 1 _ rfl
 have HNB:=Lib.hid (fun q (hq:(Value.slice pn ns.length kn).ownBlock=some q)=>show q≠Br from by have:=(HN.out.lt q hq).1;have:=HBR.out;simp at *;omega);exact bodyPost_ret (v:=.tuple #[.agg #[.slice pn ns.length kn,.int .i64 fi],.int .i64 e,.int .i64 a]) (by simp[results,Tryz.results78,go_sem,q0,q1]) rfl ⟨_,rfl,qaf (own_ext (HN.out.mono (by have:=HBR.out;first | omega | (simp;done) | (simp;omega))) HX3.out) (fun q hq _=>(heap_set_other _ _ _ _ _ (HNB.out q hq)).trans (heap_set_other _ _ _ _ _ (HNB.out q hq))),((HX2.out.trans HX3.out).setCell (Nat.le_of_eq HBR.out) _).setCell (Nat.le_of_eq HBR.out) _⟩
end Go.Proofs.YtpnabjopfpdkhaaGreatDoor
