/- Lemmas for the claim (texts CdD, CdE, what its proof uses of them). -/
import Derived.Test.YtpoeknndkccbaaaGreatS23
import Derived.Test.YtpoeknndkccbaaaGreatS24
import Derived.Test.YtpoeknndkccbaaaGreatS31
import Derived.Deep.RegionHeldLaw
import Derived.IntWalk
set_option linter.unusedSimpArgs false
set_option linter.unusedVariables false
namespace Go.Proofs.YtpoeknndkccbaaaGreat
open Go.RowKit
attribute [go_sem] more_more Array.size_append
theorem qby {ns : List Nd} {fi m a : Int} {l : List Int} (h : qaV ns fi = (l, m, 0, a)) : mayB ns fi = true ∧ a = -1 ∧ l.length = ns.length ∧ ns.length ≤ 512 := by
 unfold qaV at h
 split at h
 · rename_i hm
   obtain ⟨R, hR, h1, h2, h3⟩ := walk_law hm
   rw [hR] at h
   dsimp only at h
   split at h
   · simp only [Prod.mk.injEq] at h
     obtain ⟨rfl, rfl, _, rfl⟩ := h
     exact ⟨hm, rfl, h1, by omega⟩
   · rename_i he
     simp only [Prod.mk.injEq] at h
     exact absurd h.2.2.1 he
 · simp only [Prod.mk.injEq] at h
   exact absurd h.2.2.1 zbf
set_option maxHeartbeats 4000000 in
theorem csource_err (s : ByteArray) (c a : Int) (hr : qbu s.data.toList = .error (c, a)) (hc : c ≠ 0) (w : World) :
  Calls Tryz.prog 11 #[.string s] w fun r w' => r = .returned (.tuple #[.pointer none, .int .i64 c, .int .i64 a]) ∧ Ext w w' := by
 have SC := Lib.hid (fun W' => qca s _ hr W')
 have he2 : (c != 0) = true := by simpa using hc
 clear hr hc
 go_enter Tryz.func11, Tryz.ntmps11
 go_wp2_with (go_at_call 26; (with_reducible refine (SC.out _).mono ?_); rintro e' w2 ⟨rfl, hx2⟩; have HX2 := Lib.hid hx2; clear hx2)
 go_ret3
 exact ⟨rfl, HX2.out.trans zae⟩
set_option maxHeartbeats 4000000 in
theorem csource_no (s : ByteArray) (ns : List Nd) (fi : Int) (hr : qbu s.data.toList = .ok (ns, fi)) (hz : ∀ z ∈ ns, z.s.size ≤ maxLen) (l : List Int) (mo e a : Int) (hf : qaV ns fi = (l, mo, e, a)) (he : e ≠ 0) (w : World) :
  Calls Tryz.prog 11 #[.string s] w fun r w' => r = .returned (.tuple #[.pointer none, .int .i64 e, .int .i64 a]) ∧ Ext w w' := by
 have SC := Lib.hid (fun W' => qca s _ hr W')
 have CM := Lib.hid (fun W' nv base (h : World.ownsRow W' base 42 8 nv ns.length (qac ns)) => cmake_no fi W' h hz l mo e a hf he)
 clear hr hz hf he
 go_enter Tryz.func11, Tryz.ntmps11
 go_wp2_with (first
  | (go_at_call 26; (with_reducible refine (SC.out _).mono ?_); rintro e' w2 ⟨nv, rfl, hn, hx2⟩; obtain ⟨pn, kn, hvn⟩ := qaj hn; subst hvn; have HN := Lib.hid hn; have HX2 := Lib.hid hx2; clear hx2 hn)
  | (go_at_call 7; (with_reducible refine (CM.out _ _ _ (own_ext HN.out zae)).mono ?_); rintro e' w3 ⟨rfl, hx3⟩; have HX3 := Lib.hid hx3; clear hx3))
 go_ret3
 exact ⟨rfl, (HX2.out.trans zae).trans HX3.out⟩
set_option maxHeartbeats 4000000 in
theorem csource_ok (s : ByteArray) (ns : List Nd) (fi : Int) (hr : qbu s.data.toList = .ok (ns, fi)) (hz : ∀ z ∈ ns, z.s.size ≤ maxLen) (l : List Int) (mo a : Int) (hf : qaV ns fi = (l, mo, 0, a)) (R : Mk) (hR : codeF ns fi l = some R) (w : World) :
  Calls Tryz.prog 11 #[.string s] w fun r w' => ∃ c, r = .returned (.tuple #[.pointer (some ⟨c, 0, none⟩), .int .i64 0, .int .i64 (-1)]) ∧ CodeAt w.heap.size c fi mo ns R w' ∧ Ext w w' := by
 have SC := Lib.hid (fun W' => qca s _ hr W')
 have CM := Lib.hid (fun W' nv base (h : World.ownsRow W' base 42 8 nv ns.length (qac ns)) => cmake_ok fi W' h hz (by have := (qby hf).2.2.2; omega) l mo a hf R hR)
 clear hr hz hf hR
 go_enter Tryz.func11, Tryz.ntmps11
 go_wp2_with (first
  | (go_at_call 26; (with_reducible refine (SC.out _).mono ?_); rintro e' w2 ⟨nv, rfl, hn, hx2⟩; obtain ⟨pn, kn, hvn⟩ := qaj hn; subst hvn; have HN := Lib.hid hn; have HX2 := Lib.hid (hx2.trans ((Ext.refl w2).alloc (.cells #[.slice pn ns.length kn, .int .i64 fi] 24))); clear hx2 hn)
  | (go_at_call 7; (with_reducible refine (CM.out _ _ _ (own_ext HN.out zae)).mono ?_); rintro e' w3 ⟨c, rfl, hc, hx3⟩; have HC := Lib.hid hc; have HX3 := Lib.hid hx3; clear hx3 hc))
 go_ret3
 exact ⟨c, rfl, HC.out.mono HX2.out.size, HX2.out.trans HX3.out⟩
/-- what is known of a code's numbers -/
structure Snd (N : Nat) (M : Mk) : Prop where
 l1 : 1 ≤ M.ins.length
 l2 : M.ins.length ≤ 4 * N + 1
 h0 : 0 ≤ M.high
 h1 : M.high ≤ (N : Int) + 1
 fn : Fine N M
 n5 : N ≤ 512
end Go.Proofs.YtpoeknndkccbaaaGreat

namespace Go.Proofs.YtpoeknndkccbaaaGreat
open Go.RowKit
attribute [go_sem] more_more Array.size_append
theorem cwx1 : qbu [114, 101, 116, 117, 114, 110, 32, 49, 32, 43, 32, 50, 59] = .ok ([⟨2, (-1), (-1), (-1), (-1), 1, ⟨#[]⟩, ⟨#[]⟩⟩, ⟨2, (-1), (-1), (-1), (-1), 2, ⟨#[]⟩, ⟨#[]⟩⟩, ⟨11, 0, 1, (-1), (-1), 0, ⟨#[43]⟩, ⟨#[]⟩⟩, ⟨28, 2, (-1), (-1), (-1), 0, ⟨#[]⟩, ⟨#[]⟩⟩], 3) := by kernel_rfl
theorem cws1 : qaV [⟨2, (-1), (-1), (-1), (-1), 1, ⟨#[]⟩, ⟨#[]⟩⟩, ⟨2, (-1), (-1), (-1), (-1), 2, ⟨#[]⟩, ⟨#[]⟩⟩, ⟨11, 0, 1, (-1), (-1), 0, ⟨#[43]⟩, ⟨#[]⟩⟩, ⟨28, 2, (-1), (-1), (-1), 0, ⟨#[]⟩, ⟨#[]⟩⟩] 3 = ([-1, -1, -1, -1], 0, 0, -1) := by kernel_rfl
theorem cwc1 : codeF [⟨2, (-1), (-1), (-1), (-1), 1, ⟨#[]⟩, ⟨#[]⟩⟩, ⟨2, (-1), (-1), (-1), (-1), 2, ⟨#[]⟩, ⟨#[]⟩⟩, ⟨11, 0, 1, (-1), (-1), 0, ⟨#[43]⟩, ⟨#[]⟩⟩, ⟨28, 2, (-1), (-1), (-1), 0, ⟨#[]⟩, ⟨#[]⟩⟩] 3 [-1, -1, -1, -1] = some ⟨[⟨7, 0, 0, 3⟩, ⟨0, 0, 0, 0⟩, ⟨0, 1, 0, 1⟩, ⟨4, 6, 0, 2⟩, ⟨17, 0, 0, 3⟩, ⟨18, 0, 0, (-1)⟩], [(2, 1, ⟨#[]⟩), (2, 2, ⟨#[]⟩)], 0, 2⟩ := by kernel_rfl
theorem cwz1 : ∀ z ∈ ([⟨2, (-1), (-1), (-1), (-1), 1, ⟨#[]⟩, ⟨#[]⟩⟩, ⟨2, (-1), (-1), (-1), (-1), 2, ⟨#[]⟩, ⟨#[]⟩⟩, ⟨11, 0, 1, (-1), (-1), 0, ⟨#[43]⟩, ⟨#[]⟩⟩, ⟨28, 2, (-1), (-1), (-1), 0, ⟨#[]⟩, ⟨#[]⟩⟩] : List Nd), z.s.size ≤ maxLen := by
 intro z hz
 have : z.s.size ≤ 1 := by revert z; decide
 unfold maxLen; omega
theorem cwx2 : qbu [114, 101, 116, 117, 114, 110, 32, 120, 59] = .ok ([⟨4, (-1), (-1), (-1), (-1), 0, ⟨#[120]⟩, ⟨#[]⟩⟩, ⟨28, 0, (-1), (-1), (-1), 0, ⟨#[]⟩, ⟨#[]⟩⟩], 1) := by kernel_rfl
theorem cws2 : qaV [⟨4, (-1), (-1), (-1), (-1), 0, ⟨#[120]⟩, ⟨#[]⟩⟩, ⟨28, 0, (-1), (-1), (-1), 0, ⟨#[]⟩, ⟨#[]⟩⟩] 1 = ([], 0, 15, 0) := by kernel_rfl
theorem cwz2 : ∀ z ∈ ([⟨4, (-1), (-1), (-1), (-1), 0, ⟨#[120]⟩, ⟨#[]⟩⟩, ⟨28, 0, (-1), (-1), (-1), 0, ⟨#[]⟩, ⟨#[]⟩⟩] : List Nd), z.s.size ≤ maxLen := by
 intro z hz
 have : z.s.size ≤ 1 := by revert z; decide
 unfold maxLen; omega
theorem cwx3 : qbu [49, 59] = .error (3, 0) := by kernel_rfl
set_option maxHeartbeats 4000000 in
set_option maxRecDepth 20000 in
theorem qbZ (w : World) : Calls Tryz.prog 9 #[] w fun e w' => e = .returned (.bool true) ∧ Ext w w' := by
 have A1 := Lib.hid (fun W' => csource_ok ⟨#[114, 101, 116, 117, 114, 110, 32, 49, 32, 43, 32, 50, 59]⟩ _ _ cwx1 cwz1 _ _ _ cws1 _ cwc1 W')
 have A2 := Lib.hid (fun W' => csource_no ⟨#[114, 101, 116, 117, 114, 110, 32, 120, 59]⟩ _ _ cwx2 cwz2 _ _ _ _ cws2 zbf W')
 have A3 := Lib.hid (fun W' => csource_err ⟨#[49, 59]⟩ _ _ cwx3 zbf W')
 go_enter Tryz.func9, Tryz.ntmps9
 go_wp2_with (first
  | (go_at_call 11; (with_reducible refine (A1.out _).mono ?_); rintro e' w2 ⟨c, rfl, hc, hx2⟩; have HC := Lib.hid hc; have HX2 := Lib.hid hx2; clear hx2 hc)
  | (go_at_call 11; (with_reducible refine (A2.out _).mono ?_); rintro e' w3 ⟨rfl, hx3⟩; have HX3 := Lib.hid (HX2.out.trans hx3); have HC3 := Lib.hid (HC.out.ext hx3); clear hx3)
  | (go_at_call 11; (with_reducible refine (A3.out _).mono ?_); rintro e' w4 ⟨rfl, hx4⟩; have HX4 := Lib.hid (HX3.out.trans hx4); have HC4 := Lib.hid (HC3.out.ext hx4); clear hx4)
  | (go_at_call 25; (with_reducible refine (cslots_any HC4.out).mono ?_); rintro e' _ ⟨rfl, rfl⟩)
  | (go_at_call 13; (with_reducible refine (qbW HC4.out).mono ?_); rintro e' _ ⟨rfl, rfl⟩))
 go_ret
 exact ⟨rfl, HX4.out⟩
theorem qcW (ns : List Nd) : ∀ z ∈ fewN ns, z.s.size ≤ maxLen := by
 intro z hz
 have hz2 := List.mem_of_mem_take hz
 obtain ⟨y, _, rfl⟩ := List.mem_map.1 hz2
 have := cut100_le y.s
 show (cut100 y.s).size ≤ maxLen
 unfold maxLen; omega
/-- a program's code, where it has its slots -/
theorem code_of {ns : List Nd} {fi m a : Int} {l : List Int} (h : qaV ns fi = (l, m, 0, a)) : ∃ R, codeF ns fi l = some R ∧ Snd ns.length R := by
 obtain ⟨hm, rfl, hl, h5⟩ := qby h
 obtain ⟨h1, h2, h3, h4⟩ := qbe hm
 obtain ⟨n, hn, t⟩ := qdf hm
 obtain ⟨M, e, b1, b2, b3, b4, b5, b6⟩ := codeF_law (sl := l) zah (fun j z hz => node_nk hz (h2 j z hz)) (blk_sk h3 (Int.le_refl _)) t hn h1
 exact ⟨M, e, b1, b2, b3, b4, b5, h5⟩
end Go.Proofs.YtpoeknndkccbaaaGreat
