/- Lemmas for the claim (texts CdD, CdE, what its proof uses of them). -/
import Derived.Test.YtpnabjopfpdkhaaGreatDoorB16
import Derived.Test.YtpnabjopfpdkhaaGreatDoorB17
import Derived.Test.YtpnabjopfpdkhaaGreatDoorB23
import Derived.Deep.RegionHeldLaw
import Derived.IntWalk
set_option linter.unusedSimpArgs false
set_option linter.unusedVariables false
namespace Go.Proofs.YtpnabjopfpdkhaaGreatDoor
open Go.RowKit
attribute [go_sem] more_more Array.size_append
theorem qcp {ns : List Nd} {fi m a : Int} {l : List Int} (h : qbp ns fi = (l, m, 0, a)) : mayB ns fi = true ∧ a = -1 ∧ l.length = ns.length ∧ ns.length ≤ 512 := by
 unfold qbp at h
 split at h
 · rename_i hm
   obtain ⟨R, hR, h1, h2, h3⟩ := walk_law hm
   rw [hR] at h
   dsimp only at h
   split at h
   · simp only [Prod.mk.injEq] at h
     obtain ⟨rfl, rfl, _, rfl⟩ := h
     exact ⟨hm, rfl, h1, by omega⟩
   · rename_i he
     simp only [Prod.mk.injEq] at h
     exact absurd h.2.2.1 he
 · simp only [Prod.mk.injEq] at h
   exact absurd h.2.2.1 zaj
set_option maxHeartbeats 4000000 in
theorem csource_err (s : ByteArray) (c a : Int) (hr : qaY s.data.toList = .error (c, a)) (hc : c ≠ 0) (w : World) :
  Calls Tryz.prog 73 #[.string s] w fun r w' => r = .returned (.tuple #[.pointer none, .int .i64 c, .int .i64 a]) ∧ Ext w w' := by
 have SC := Lib.hid (fun W' => qcs s _ hr W')
 have he2 : (c != 0) = true := by simpa using hc
 clear hr hc
 go_enter Tryz.func73, Tryz.ntmps73
 go_wp2_with (go_at_call 84; (with_reducible refine (SC.out _).mono ?_); rintro e' w2 ⟨rfl, hx2⟩; have HX2 := Lib.hid hx2; clear hx2)
 go_ret3
 exact ⟨rfl, HX2.out.trans zaa⟩
set_option maxHeartbeats 4000000 in
theorem csource_no (s : ByteArray) (ns : List Nd) (fi : Int) (hr : qaY s.data.toList = .ok (ns, fi)) (hz : ∀ z ∈ ns, z.s.size ≤ maxLen) (l : List Int) (mo e a : Int) (hf : qbp ns fi = (l, mo, e, a)) (he : e ≠ 0) (w : World) :
  Calls Tryz.prog 73 #[.string s] w fun r w' => r = .returned (.tuple #[.pointer none, .int .i64 e, .int .i64 a]) ∧ Ext w w' := by
 have SC := Lib.hid (fun W' => qcs s _ hr W')
 have CM := Lib.hid (fun W' nv base (h : World.ownsRow W' base 166 8 nv ns.length (qae ns)) => cmake_no fi W' h hz l mo e a hf he)
 clear hr hz hf he
 go_enter Tryz.func73, Tryz.ntmps73
 go_wp2_with (first
  | (go_at_call 84; (with_reducible refine (SC.out _).mono ?_); rintro e' w2 ⟨nv, rfl, hn, hx2⟩; obtain ⟨pn, kn, hvn⟩ := qag hn; subst hvn; have HN := Lib.hid hn; have HX2 := Lib.hid hx2; clear hx2 hn)
  | (go_at_call 85; (with_reducible refine (CM.out _ _ _ (own_ext HN.out zaa)).mono ?_); rintro e' w3 ⟨rfl, hx3⟩; have HX3 := Lib.hid hx3; clear hx3))
 go_ret3
 exact ⟨rfl, (HX2.out.trans zaa).trans HX3.out⟩
set_option maxHeartbeats 4000000 in
theorem csource_ok (s : ByteArray) (ns : List Nd) (fi : Int) (hr : qaY s.data.toList = .ok (ns, fi)) (hz : ∀ z ∈ ns, z.s.size ≤ maxLen) (l : List Int) (mo a : Int) (hf : qbp ns fi = (l, mo, 0, a)) (R : Mk) (hR : codeF ns fi l = some R) (w : World) :
  Calls Tryz.prog 73 #[.string s] w fun r w' => ∃ c, r = .returned (.tuple #[.pointer (some ⟨c, 0, none⟩), .int .i64 0, .int .i64 (-1)]) ∧ CodeAt w.heap.size c fi mo ns R w' ∧ Ext w w' := by
 have SC := Lib.hid (fun W' => qcs s _ hr W')
 have CM := Lib.hid (fun W' nv base (h : World.ownsRow W' base 166 8 nv ns.length (qae ns)) => cmake_ok fi W' h hz (by have := (qcp hf).2.2.2; omega) l mo a hf R hR)
 clear hr hz hf hR
 go_enter Tryz.func73, Tryz.ntmps73
 go_wp2_with (first
  | (go_at_call 84; (with_reducible refine (SC.out _).mono ?_); rintro e' w2 ⟨nv, rfl, hn, hx2⟩; obtain ⟨pn, kn, hvn⟩ := qag hn; subst hvn; have HN := Lib.hid hn; have HX2 := Lib.hid (hx2.trans ((Ext.refl w2).alloc (.cells #[.slice pn ns.length kn, .int .i64 fi] 132))); clear hx2 hn)
  | (go_at_call 85; (with_reducible refine (CM.out _ _ _ (own_ext HN.out zaa)).mono ?_); rintro e' w3 ⟨c, rfl, hc, hx3⟩; have HC := Lib.hid hc; have HX3 := Lib.hid hx3; clear hx3 hc))
 go_ret3
 exact ⟨c, rfl, HC.out.mono HX2.out.size, HX2.out.trans HX3.out⟩
/-- what is known of a code's numbers -/
structure Snd (N : Nat) (M : Mk) : Prop where
 l1 : 1 ≤ M.ins.length
 l2 : M.ins.length ≤ 4 * N + 1
 h0 : 0 ≤ M.high
 h1 : M.high ≤ (N : Int) + 1
 fn : Fine N M
 n5 : N ≤ 512
end Go.Proofs.YtpnabjopfpdkhaaGreatDoor

namespace Go.Proofs.YtpnabjopfpdkhaaGreatDoor
open Go.RowKit
attribute [go_sem] more_more Array.size_append
/-- a program's code, where it has its slots -/
theorem code_of {ns : List Nd} {fi m a : Int} {l : List Int} (h : qbp ns fi = (l, m, 0, a)) : ∃ R, codeF ns fi l = some R ∧ Snd ns.length R := by
 obtain ⟨hm, rfl, hl, h5⟩ := qcp h
 obtain ⟨h1, h2, h3, h4⟩ := qbF hm
 obtain ⟨n, hn, t⟩ := may_tree hm
 obtain ⟨M, e, b1, b2, b3, b4, b5, b6⟩ := codeF_law (sl := l) zae (fun j z hz => node_nk hz (h2 j z hz)) (blk_sk h3 (Int.le_refl _)) t hn h1
 exact ⟨M, e, b1, b2, b3, b4, b5, h5⟩
end Go.Proofs.YtpnabjopfpdkhaaGreatDoor
