/- Lemmas. -/
import Derived.Test.YtpoeknndkccbaaaGreatO22
import Derived.Test.YtpoeknndkccbaaaGreatO33
import Derived.Test.YtpoeknndkccbaaaGreatO40
import Derived.Deep.RegionHeldLaw
import Derived.IntWalk
set_option linter.unusedSimpArgs false
set_option linter.unusedVariables false
set_option maxHeartbeats 8000000
set_option maxRecDepth 20000
namespace Go.Proofs.YtpoeknndkccbaaaGreat
open Go.RowKit
variable {ns : List Nd}
attribute [go_sem] more_more Array.size_append
theorem qcv {fi m a : Int} {l : List Int} (h : qaT ns fi = (l, m, 0, a)) : mayB ns fi = true ∧ a = -1 ∧ l.length = ns.length ∧ ns.length ≤ 512 := by
 unfold qaT at h
 split at h
 · rename_i hm
   obtain ⟨R, hR, h1, h2, h3⟩ := qfm hm
   rw [hR] at h
   dsimp only at h
   split at h
   · simp only [Prod.mk.injEq] at h
     obtain ⟨rfl, rfl, _, rfl⟩ := h
     exact ⟨hm, rfl, h1, by omega⟩
   · rename_i he
     simp only [Prod.mk.injEq] at h
     exact absurd h.2.2.1 he
 · simp only [Prod.mk.injEq] at h
   exact absurd h.2.2.1 zal
theorem qew {nv : Value} (fi : Int) {w : World} (hr : w.ownsRow 0 42 8 nv ns.length (qac ns)) (l : List Int) (mo e a : Int) (hf : qaT ns fi = (l, mo, e, a)) :
  Calls Tryz.prog 8 #[.agg #[nv, .int .i64 fi]] w fun r w' => r = .returned (.tuple #[.int .i64 mo, .int .i64 e, .int .i64 a]) ∧ Ext w w' := by
 have SL : ∀ W', Ext w W' → Calls Tryz.prog 24 #[.agg #[nv, .int .i64 fi]] W' fun r w' => ∃ v, r = .returned (.tuple #[v, .int .i64 mo, .int .i64 e, .int .i64 a]) ∧ Ext W' w' := by
  intro W' hx
  cases hm : mayB ns fi
  · unfold qaT at hf
    rw [hm, if_neg zan] at hf
    simp only [Prod.mk.injEq] at hf
    obtain ⟨_, rfl, rfl, rfl⟩ := hf
    exact rslots_no fi (own_ext hr hx) hm
  · rw [slotsF_doc hm] at hf
    exact rslots_yes fi (own_ext hr hx) hm l mo e a hf
 obtain ⟨p, cap, hv⟩ := qae hr
 rw [hv] at SL ⊢
 have HS := Lib.hid SL
 clear hr hf hv SL
 go_enter Tryz.func8, Tryz.ntmps8
 go_wp2_with ((with_reducible refine (HS.out _ zaa).mono ?_); rintro e' w2 ⟨v, rfl, hx2⟩; have HX2 := Lib.hid (Ext.trans ((Ext.refl w).alloc _) hx2); clear hx2)
 go_ret3
 exact ⟨rfl, HX2.out⟩
theorem csource_err (s : ByteArray) (c a : Int) (hr : qav s.data.toList = .error (c, a)) (hc : c ≠ 0) (w : World) :
  Calls Tryz.prog 11 #[.string s] w fun r w' => r = .returned (.tuple #[.pointer none, .int .i64 c, .int .i64 a]) ∧ Ext w w' := by
 have SC := Lib.hid (fun W' => qdk s _ hr W')
 have he2 : (c != 0) = true := by simpa using hc
 clear hr hc
 go_enter Tryz.func11, Tryz.ntmps11
 go_wp2_with ((with_reducible refine (SC.out _).mono ?_); rintro e' w2 ⟨rfl, hx2⟩; have HX2 := Lib.hid hx2; clear hx2)
 go_ret3
 exact ⟨rfl, HX2.out.trans zaa⟩
theorem csource_no (s : ByteArray) (ns : List Nd) (fi : Int) (hr : qav s.data.toList = .ok (ns, fi)) (hz : ∀ z ∈ ns, z.s.size ≤ maxLen) (l : List Int) (mo e a : Int) (hf : qaT ns fi = (l, mo, e, a)) (he : e ≠ 0) (w : World) :
  Calls Tryz.prog 11 #[.string s] w fun r w' => r = .returned (.tuple #[.pointer none, .int .i64 e, .int .i64 a]) ∧ Ext w w' := by
 have SC := Lib.hid (fun W' => qdk s _ hr W')
 have CM := Lib.hid (fun W' nv base (h : World.ownsRow W' base 42 8 nv ns.length (qac ns)) => cmake_no fi W' h hz l mo e a hf he)
 clear hr hz hf he
 go_enter Tryz.func11, Tryz.ntmps11
 go_wp2_with (first
  | ((with_reducible refine (SC.out _).mono ?_); rintro e' w2 ⟨nv, rfl, hn, hx2⟩; obtain ⟨pn, kn, hvn⟩ := qae hn; subst hvn; have HN := Lib.hid hn; have HX2 := Lib.hid hx2; clear hx2 hn)
  | ((with_reducible refine (CM.out _ _ _ (own_ext HN.out zaa)).mono ?_); rintro e' w3 ⟨rfl, hx3⟩; have HX3 := Lib.hid hx3; clear hx3))
 go_ret3
 exact ⟨rfl, (HX2.out.trans zaa).trans HX3.out⟩
theorem csource_ok (s : ByteArray) (ns : List Nd) (fi : Int) (hr : qav s.data.toList = .ok (ns, fi)) (hz : ∀ z ∈ ns, z.s.size ≤ maxLen) (l : List Int) (mo a : Int) (hf : qaT ns fi = (l, mo, 0, a)) (R : Mk) (hR : codeF ns fi l = some R) (w : World) :
  Calls Tryz.prog 11 #[.string s] w fun r w' => ∃ c, r = .returned (.tuple #[.pointer (some ⟨c, 0, none⟩), .int .i64 0, .int .i64 (-1)]) ∧ CodeAt w.heap.size c fi mo ns R w' ∧ Ext w w' := by
 have SC := Lib.hid (fun W' => qdk s _ hr W')
 have CM := Lib.hid (fun W' nv base (h : World.ownsRow W' base 42 8 nv ns.length (qac ns)) => cmake_ok fi W' h hz (by have := (qcv hf).2.2.2; omega) l mo a hf R hR)
 clear hr hz hf hR
 go_enter Tryz.func11, Tryz.ntmps11
 go_wp2_with (first
  | ((with_reducible refine (SC.out _).mono ?_); rintro e' w2 ⟨nv, rfl, hn, hx2⟩; obtain ⟨pn, kn, hvn⟩ := qae hn; subst hvn; have HN := Lib.hid hn; have HX2 := Lib.hid (hx2.trans ((Ext.refl w2).alloc (.cells #[.slice pn ns.length kn, .int .i64 fi] 24))); clear hx2 hn)
  | ((with_reducible refine (CM.out _ _ _ (own_ext HN.out zaa)).mono ?_); rintro e' w3 ⟨c, rfl, hc, hx3⟩; have HC := Lib.hid hc; have HX3 := Lib.hid hx3; clear hx3 hc))
 go_ret3
 exact ⟨c, rfl, HC.out.mono HX2.out.size, HX2.out.trans HX3.out⟩
structure Snd (N : Nat) (M : Mk) : Prop where
 l1 : 1 ≤ M.ins.length
 l2 : M.ins.length ≤ 4 * N + 1
 h0 : 0 ≤ M.high
 h1 : M.high ≤ (N : Int) + 1
 fn : Fine N M
 n5 : N ≤ 512
theorem sound_any {B c : Nat} {fi mo : Int} {M : Mk} {w : World} {pv : Value} {base : Nat} (h : CodeAt B c fi mo ns M w) (hp : w.ownsRow base 42 8 pv ns.length (qac ns)) (hs : Snd ns.length M) :
  Calls Tryz.prog 10 #[.pointer (some ⟨c, 0, none⟩), .agg #[pv, .int .i64 fi], .int .i64 mo] w fun e w' => e = .returned (.bool true) ∧ Ext w w' := by
 obtain ⟨pp, cp, hvp⟩ := qae hp
 subst hvp
 obtain ⟨s1, s2, s3, s4, s5, s6⟩ := hs
 have HM5 := Lib.hid (show ns.length ≤ 100000 by omega)
 have HLE := Lib.hid (show M.ins.length ≤ 100000 by omega)
 have SM := Lib.hid (fun W' b1 b2 nv' (h1 : W'.ownsRow b1 42 8 nv' ns.length (qac ns)) (h2 : W'.ownsRow b2 42 8 (.slice pp ns.length cp) ns.length (qac ns)) => same_any ns nv' (.slice pp ns.length cp) b1 b2 fi W' h1 h2 s6)
 have HC0 := Lib.hid h
 have HP0 := Lib.hid hp
 obtain ⟨n, hn⟩ : ∃ n, ns.length = n := ⟨_, rfl⟩
 obtain ⟨z, hz⟩ : ∃ z, M.ins.length = z := ⟨_, rfl⟩
 obtain ⟨hh, hhh⟩ : ∃ x, M.high = x := ⟨_, rfl⟩
 have HN := Lib.hid hn
 have HZ := Lib.hid hz
 have HH := Lib.hid hhh
 rw [hn] at s2 s4 s5 s6 SM HP0 ⊢
 rw [hz] at s1 s2
 rw [hhh] at s3 s4
 have HF := Lib.hid s5
 have ni : (n : Int) ≤ 512 := by omega
 have z1 : (1 : Int) ≤ (z : Int) := by omega
 have z2 : (z : Int) ≤ 4 * (n : Int) + 1 := by omega
 have z3 : (z : Int) ≤ 3000 := by omega
 clear h hp hn hz hhh s1 s2 s5 s6
 go_enter Tryz.func10, Tryz.ntmps10
 go_wp2_with fail
 obtain ⟨Bx, hBx⟩ : ∃ Bx, w.heap.size = Bx := ⟨_, rfl⟩
 obtain ⟨w1, hw1⟩ : ∃ w1, w.alloc (.cells #[.slice pp n cp, .int .i64 fi] 24 (0, 0)) = w1 := ⟨_, rfl⟩
 have HKB : Hid (KB Bx #[.slice pp n cp, .int .i64 fi] 24 w1) := Lib.hid (by rw [← hw1, ← hBx]; exact KB.new w _ _)
 have HX1 : Hid (Ext w w1) := Lib.hid (by rw [← hw1]; exact (Ext.refl w).alloc _)
 have HC := Lib.hid (HC0.out.ext HX1.out)
 have HP := Lib.hid (own_ext HP0.out HX1.out)
 have z0 : w1.cell? ⟨Bx, 0, none⟩ = some (.slice pp n cp) := HKB.out.cell 0 _ rfl
 have z1' : w1.cell? ⟨Bx, 1, none⟩ = some (.int .i64 fi) := HKB.out.cell 1 _ rfl
 rw [hBx]
 try rw [hw1]
 have CH := Lib.hid (fun W' (h : CodeAt B c fi mo ns M W') => show Calls Tryz.prog 14 #[.pointer (some ⟨c, 0, none⟩)] W' fun e w' => e = .returned (.int .i64 hh) ∧ W' = w' from by have := chigh_any h; rw [HH.out] at this; exact this)
 have CZ := Lib.hid (fun W' (h : CodeAt B c fi mo ns M W') => show Calls Tryz.prog 13 #[.pointer (some ⟨c, 0, none⟩)] W' fun e w' => e = .returned (.int .i64 (z : Int)) ∧ W' = w' from by have := csize_any h; rw [HZ.out] at this; exact this)
 have hw1a : IntKind.i64.wrap ((n : Int) + 1) = (n : Int) + 1 := IntWalk.i64_in _ zae
 have hw2a : IntKind.i64.wrap (4 * (n : Int)) = 4 * (n : Int) := IntWalk.i64_in _ zae
 have hw3a : IntKind.i64.wrap (4 * (n : Int) + 1) = 4 * (n : Int) + 1 := IntWalk.i64_in _ zae
 have t1 : (hh < 0) = False := by simp; omega
 have t2 : ((n : Int) + 1 < hh) = False := by simp; omega
 have t3 : ((z : Int) < 1) = False := by simp; omega
 have t4 : (4 * (n : Int) + 1 < (z : Int)) = False := by simp; omega
 clear hw1 hBx
 refine wp_region_held_drew (S := (fun w' => w'.cell? ⟨Bx, 0, none⟩ = some (.slice pp n cp) ∧ w'.cell? ⟨Bx, 1, none⟩ = some (.int .i64 fi))) zad ⟨cell_ext z0 zaa, cell_ext z1' zaa⟩ (fun hS => ?_)
 refine wpAnyH_take (i := 0) (oi := _) (v := .pointer (some ⟨c, 0, none⟩)) rfl zad zad zad (fun _ _ _ h => h) (Or.inl ⟨by rfl, fun W hW => by go_simp⟩) hS ?_
 refine yab ?_
 refine wpAnyH_take (i := 2) (oi := _) (v := .int .i64 mo) rfl zad zad zad (fun _ _ _ h => h) (Or.inl ⟨by rfl, fun W hW => by go_simp⟩) hS ?_
 refine yab ?_
 refine wpAnyH_ready (rs := [1]) zad zan ?_
 refine AllReadyH.cons (o := _) rfl (fun K hK => ?_) AllReadyH.nil
 rw [if_pos (by rfl)]
 go_simp
 refine (qeO (HC.out.ext zaa)).mono ?_
 rintro e' _ ⟨rfl, rfl⟩
 refine hK.out _ _ (⟨cell_ext z0 zaa, cell_ext z1' zaa⟩) (fun hS1 => ?_)
 clear hK K
 refine yab ?_
 refine wpAnyH_take (i := 3) (oi := _) (v := .bool false) rfl zad zad zad (fun _ _ _ h => h) (Or.inl ⟨by rfl, fun W hW => by go_simp⟩) hS1 ?_
 refine yab ?_
 refine wpAnyH_take (i := 4) (oi := _) (v := .bool false) rfl zad zad zad (fun _ _ _ h => h) (Or.inl ⟨by rfl, fun W hW => by go_simp⟩) hS1 ?_
 refine yab ?_
 refine wpAnyH_take (i := 5) (oi := _) (v := .pointer (some ⟨c, 0, none⟩)) rfl zad zad zad (fun _ _ _ h => h) (Or.inl ⟨by rfl, fun W hW => by go_simp⟩) hS1 ?_
 refine yab ?_
 refine wpAnyH_ready (rs := [6]) zad zan ?_
 refine AllReadyH.cons (o := _) rfl (fun K hK => ?_) AllReadyH.nil
 rw [if_pos (by rfl)]
 go_simp
 refine (CH.out _ (HC.out.ext zaa)).mono ?_
 rintro e' _ ⟨rfl, rfl⟩
 refine hK.out _ _ (⟨cell_ext z0 zaa, cell_ext z1' zaa⟩) (fun hS2 => ?_)
 clear hK K
 refine yab ?_
 refine wpAnyH_take (i := 7) (oi := _) (v := .bool false) rfl zad zad zad (fun _ _ _ h => h) (Or.inl ⟨by rfl, fun W hW => by go_simp⟩) hS2 ?_
 refine yab ?_
 refine wpAnyH_take (i := 8) (oi := _) (v := .bool false) rfl zad zad zad (fun _ _ _ h => h) (Or.inl ⟨by rfl, fun W hW => by go_simp⟩) hS2 ?_
 refine yab ?_
 refine wpAnyH_take (i := 9) (oi := _) (v := .bool false) rfl zad zad zad (fun _ _ _ h => h) (Or.inl ⟨by rfl, fun W hW => by go_simp⟩) hS2 ?_
 refine yab ?_
 refine wpAnyH_take (i := 10) (oi := _) (v := .pointer (some ⟨c, 0, none⟩)) rfl zad zad zad (fun _ _ _ h => h) (Or.inl ⟨by rfl, fun W hW => by go_simp⟩) hS2 ?_
 refine yab ?_
 refine wpAnyH_take (i := 12) (oi := _) (v := .int .i64 (n : Int)) rfl zad zad zad (fun _ _ _ h => h) (Or.inl ⟨by rfl, fun W hW => by go_simp⟩) hS2 ?_
 refine yab ?_
 refine wpAnyH_take (i := 13) (oi := _) (v := .int .i64 ((n : Int) + 1)) rfl zad zad zad (fun _ _ _ h => h) (Or.inl ⟨by rfl, fun W hW => by go_simp⟩) hS2 ?_
 refine yab ?_
 refine wpAnyH_ready (rs := [11]) zad zan ?_
 refine AllReadyH.cons (o := _) rfl (fun K hK => ?_) AllReadyH.nil
 rw [if_pos (by rfl)]
 go_simp
 refine (CH.out _ (HC.out.ext zaa)).mono ?_
 rintro e' _ ⟨rfl, rfl⟩
 refine hK.out _ _ (⟨cell_ext z0 zaa, cell_ext z1' zaa⟩) (fun hS3 => ?_)
 clear hK K
 refine yab ?_
 refine wpAnyH_take (i := 14) (oi := _) (v := .bool false) rfl zad zad zad (fun _ _ _ h => h) (Or.inl ⟨by rfl, fun W hW => by go_simp⟩) hS3 ?_
 refine yab ?_
 refine wpAnyH_take (i := 15) (oi := _) (v := .bool false) rfl zad zad zad (fun _ _ _ h => h) (Or.inl ⟨by rfl, fun W hW => by go_simp⟩) hS3 ?_
 refine yab ?_
 refine wpAnyH_take (i := 16) (oi := _) (v := .bool false) rfl zad zad zad (fun _ _ _ h => h) (Or.inl ⟨by rfl, fun W hW => by go_simp⟩) hS3 ?_
 refine yab ?_
 refine wpAnyH_take (i := 17) (oi := _) (v := .pointer (some ⟨c, 0, none⟩)) rfl zad zad zad (fun _ _ _ h => h) (Or.inl ⟨by rfl, fun W hW => by go_simp⟩) hS3 ?_
 refine yab ?_
 refine wpAnyH_ready (rs := [18]) zad zan ?_
 refine AllReadyH.cons (o := _) rfl (fun K hK => ?_) AllReadyH.nil
 rw [if_pos (by rfl)]
 go_simp
 refine (CZ.out _ (HC.out.ext zaa)).mono ?_
 rintro e' _ ⟨rfl, rfl⟩
 refine hK.out _ _ (⟨cell_ext z0 zaa, cell_ext z1' zaa⟩) (fun hS4 => ?_)
 clear hK K
 refine yab ?_
 refine wpAnyH_take (i := 19) (oi := _) (v := .bool false) rfl zad zad zad (fun _ _ _ h => h) (Or.inl ⟨by rfl, fun W hW => by go_simp⟩) hS4 ?_
 refine yab ?_
 refine wpAnyH_take (i := 20) (oi := _) (v := .bool false) rfl zad zad zad (fun _ _ _ h => h) (Or.inl ⟨by rfl, fun W hW => by go_simp⟩) hS4 ?_
 refine yab ?_
 refine wpAnyH_take (i := 21) (oi := _) (v := .bool false) rfl zad zad zad (fun _ _ _ h => h) (Or.inl ⟨by rfl, fun W hW => by go_simp⟩) hS4 ?_
 refine yab ?_
 refine wpAnyH_take (i := 22) (oi := _) (v := .pointer (some ⟨c, 0, none⟩)) rfl zad zad zad (fun _ _ _ h => h) (Or.inl ⟨by rfl, fun W hW => by go_simp⟩) hS4 ?_
 refine yab ?_
 refine wpAnyH_take (i := 24) (oi := _) (v := .int .i64 (n : Int)) rfl zad zad zad (fun _ _ _ h => h) (Or.inl ⟨by rfl, fun W hW => by go_simp⟩) hS4 ?_
 refine yab ?_
 refine wpAnyH_take (i := 25) (oi := _) (v := .int .i64 (4 * (n : Int))) rfl zad zad zad (fun _ _ _ h => h) (Or.inl ⟨by rfl, fun W hW => by go_simp⟩) hS4 ?_
 refine yab ?_
 refine wpAnyH_take (i := 26) (oi := _) (v := .int .i64 (4 * (n : Int) + 1)) rfl zad zad zad (fun _ _ _ h => h) (Or.inl ⟨by rfl, fun W hW => by go_simp⟩) hS4 ?_
 refine yab ?_
 refine wpAnyH_ready (rs := [23]) zad zan ?_
 refine AllReadyH.cons (o := _) rfl (fun K hK => ?_) AllReadyH.nil
 rw [if_pos (by rfl)]
 go_simp
 refine (CZ.out _ (HC.out.ext zaa)).mono ?_
 rintro e' _ ⟨rfl, rfl⟩
 refine hK.out _ _ (⟨cell_ext z0 zaa, cell_ext z1' zaa⟩) (fun hS5 => ?_)
 clear hK K
 refine yab ?_
 refine wpAnyH_take (i := 27) (oi := _) (v := .bool false) rfl zad zad zad (fun _ _ _ h => h) (Or.inl ⟨by rfl, fun W hW => by go_simp⟩) hS5 ?_
 refine yab ?_
 refine wpAnyH_take (i := 28) (oi := _) (v := .bool false) rfl zad zad zad (fun _ _ _ h => h) (Or.inl ⟨by rfl, fun W hW => by go_simp⟩) hS5 ?_
 refine yab ?_
 refine wpAnyH_take (i := 29) (oi := _) (v := .bool false) rfl zad zad zad (fun _ _ _ h => h) (Or.inl ⟨by rfl, fun W hW => by go_simp⟩) hS5 ?_
 refine yab ?_
 refine wpAnyH_take (i := 30) (oi := _) (v := .pointer (some ⟨c, 0, none⟩)) rfl zad zad zad (fun _ _ _ h => h) (Or.inl ⟨by rfl, fun W hW => by go_simp⟩) hS5 ?_
 refine yab ?_
 refine wpAnyH_take (i := 32) (oi := _) (v := .agg #[.slice pp n cp, .int .i64 fi]) rfl zad zad zad (fun _ _ _ h => h) (Or.inl ⟨by rfl, fun W hW => by (obtain ⟨hW1, hW2⟩ := hW; go_simp)⟩) hS5 ?_
 refine yab ?_
 refine wpAnyH_ready (rs := [31]) zad zan ?_
 refine AllReadyH.cons (o := _) rfl (fun K hK => ?_) AllReadyH.nil
 rw [if_pos (by rfl)]
 go_simp
 refine (cprogram_any (HC.out.ext zaa) HM5.out).mono ?_
 rintro e' w2 ⟨nv2, rfl, hn2, hx2⟩
 rw [HN.out] at hn2
 obtain ⟨p2, k2, hvn⟩ := qae hn2
 subst hvn
 have hxw : Ext w1 w2 := Ext.trans zaa hx2
 have HN2 := Lib.hid hn2
 clear hx2 hn2
 refine hK.out _ _ (⟨cell_ext z0 (by repeat (first | (with_reducible exact hxw) | (with_reducible exact Ext.refl _) | (with_reducible apply Ext.alloc) | (with_reducible apply Ext.more) | (with_reducible apply Ext.drew))), cell_ext z1' (by repeat (first | (with_reducible exact hxw) | (with_reducible exact Ext.refl _) | (with_reducible apply Ext.alloc) | (with_reducible apply Ext.more) | (with_reducible apply Ext.drew)))⟩) (fun hS6 => ?_)
 clear hK K
 refine yab ?_
 refine wpAnyH_ready (rs := [33]) zad zan ?_
 refine AllReadyH.cons (o := _) rfl (fun K hK => ?_) AllReadyH.nil
 rw [if_pos (by rfl)]
 go_simp
 refine (SM.out _ _ _ _ (own_ext HN2.out zaa) (own_ext HP.out (by repeat (first | (with_reducible exact hxw) | (with_reducible exact Ext.refl _) | (with_reducible apply Ext.alloc) | (with_reducible apply Ext.more) | (with_reducible apply Ext.drew))))).mono ?_
 rintro e' w3 ⟨rfl, hx3⟩
 have hxw3 : Ext w1 w3 := Ext.trans (Ext.trans hxw zaa) hx3
 clear hx3
 refine hK.out _ _ (⟨cell_ext z0 (by repeat (first | (with_reducible exact hxw3) | (with_reducible exact Ext.refl _) | (with_reducible apply Ext.alloc) | (with_reducible apply Ext.more) | (with_reducible apply Ext.drew))), cell_ext z1' (by repeat (first | (with_reducible exact hxw3) | (with_reducible exact Ext.refl _) | (with_reducible apply Ext.alloc) | (with_reducible apply Ext.more) | (with_reducible apply Ext.drew)))⟩) (fun hS7 => ?_)
 clear hK K
 refine yab ?_
 refine wpAnyH_take (i := 34) (oi := _) (v := .bool false) rfl zad zad zad (fun _ _ _ h => h) (Or.inl ⟨by rfl, fun W hW => by go_simp⟩) hS7 ?_
 refine yab ?_
 refine wpAnyH_take (i := 35) (oi := _) (v := .bool false) rfl zad zad zad (fun _ _ _ h => h) (Or.inl ⟨by rfl, fun W hW => by go_simp⟩) hS7 ?_
 refine yab ?_
 refine wpAnyH_done zad ?_ _
 clear hw1a hw2a hw3a t1 t2 t3 t4
 have HC3 := Lib.hid (HC.out.ext hxw3)
 have HX3 := Lib.hid (HX1.out.trans hxw3)
 clear z0 z1' hxw hxw3
 go_wp2_with (first
  | ((with_reducible refine (CZ.out _ (HC3.out.ext zaa)).mono ?_); rintro e' _ ⟨rfl, rfl⟩)
  | ((with_reducible refine (cat_no (HC3.out.ext zaa) HLE.out (-1) (Or.inl zal)).mono ?_); rintro e' _ ⟨rfl, d4, o4, rfl⟩)
  | ((with_reducible refine (cat_no (HC3.out.ext zaa) HLE.out (z : Int) (Or.inr (by have := HZ.out; omega))).mono ?_); rintro e' _ ⟨rfl, d5, o5, rfl⟩))
 go_loopw [12] (fun y wr => ∃ k : Nat, y = .int .i64 (k : Int) ∧ k ≤ z ∧ Ext w wr ∧ CodeAt B c fi mo ns M wr) (fun y _ => z - (intOf y).toNat)
 case atStart => exact ⟨0, rfl, Nat.zero_le _, HX3.out.trans zaa, HC3.out.ext zaa⟩
 case round =>
  obtain ⟨k, rfl, hk, hx, hc⟩ := hrel
  have HXr := Lib.hid hx
  have HCr := Lib.hid hc
  have hk0 : 0 ≤ (k : Int) := by omega
  clear hx hc
  by_cases hlt : k < z
  · have hkz : (k : Int) < (z : Int) := by omega
    obtain ⟨x, hx⟩ : ∃ x, M.ins[k]? = some x := ⟨_, List.getElem?_eq_getElem (by rw [HZ.out]; exact hlt)⟩
    have hf := HF.out.1 x (List.mem_of_getElem? hx)
    obtain ⟨xo, xa, xb, xn⟩ := x
    have AT := Lib.hid (fun W' (h : CodeAt B c fi mo ns M W') => cat_yes h HLE.out k _ hx)
    dsimp only at hf AT
    obtain ⟨f1, f2⟩ := hf
    have HLT := Lib.hid hlt
    have t1 : decide (xn < -1) = false := by simp; omega
    have t2 : decide ((n : Int) ≤ xn) = false := by simp; omega
    clear hx hlt hk
    go_wp2_with (first
     | ((with_reducible refine (CZ.out _ (HCr.out.ext zaa)).mono ?_); rintro e' _ ⟨rfl, rfl⟩)
     | ((with_reducible refine (AT.out _ (HCr.out.ext zaa)).mono ?_); rintro e' _ ⟨rfl, d6, o6, rfl⟩))
    go_roundw
    case rel => exact ⟨k + 1, by go_num, by have := HLT.out; omega, HXr.out.trans zaa, HCr.out.ext zaa⟩
    case measure => have := HLT.out; simp [intOf]; omega
  · have hke : k = z := by omega
    subst hke
    clear hlt hk
    go_wp2_with ((with_reducible refine (CZ.out _ (HCr.out.ext zaa)).mono ?_); rintro e' _ ⟨rfl, rfl⟩)
    go_ret
    exact ⟨rfl, HXr.out⟩
end Go.Proofs.YtpoeknndkccbaaaGreat

namespace Go.Proofs.YtpoeknndkccbaaaGreat
open Go.RowKit
attribute [go_sem] more_more Array.size_append
theorem cwx1 : qav [114, 101, 116, 117, 114, 110, 32, 49, 32, 43, 32, 50, 59] = .ok ([⟨2, (-1), (-1), (-1), (-1), 1, ⟨#[]⟩, ⟨#[]⟩⟩, ⟨2, (-1), (-1), (-1), (-1), 2, ⟨#[]⟩, ⟨#[]⟩⟩, ⟨11, 0, 1, (-1), (-1), 0, ⟨#[43]⟩, ⟨#[]⟩⟩, ⟨28, 2, (-1), (-1), (-1), 0, ⟨#[]⟩, ⟨#[]⟩⟩], 3) := by kernel_rfl
theorem cws1 : qaT [⟨2, (-1), (-1), (-1), (-1), 1, ⟨#[]⟩, ⟨#[]⟩⟩, ⟨2, (-1), (-1), (-1), (-1), 2, ⟨#[]⟩, ⟨#[]⟩⟩, ⟨11, 0, 1, (-1), (-1), 0, ⟨#[43]⟩, ⟨#[]⟩⟩, ⟨28, 2, (-1), (-1), (-1), 0, ⟨#[]⟩, ⟨#[]⟩⟩] 3 = ([-1, -1, -1, -1], 0, 0, -1) := by kernel_rfl
theorem cwc1 : codeF [⟨2, (-1), (-1), (-1), (-1), 1, ⟨#[]⟩, ⟨#[]⟩⟩, ⟨2, (-1), (-1), (-1), (-1), 2, ⟨#[]⟩, ⟨#[]⟩⟩, ⟨11, 0, 1, (-1), (-1), 0, ⟨#[43]⟩, ⟨#[]⟩⟩, ⟨28, 2, (-1), (-1), (-1), 0, ⟨#[]⟩, ⟨#[]⟩⟩] 3 [-1, -1, -1, -1] = some ⟨[⟨7, 0, 0, 3⟩, ⟨0, 0, 0, 0⟩, ⟨0, 1, 0, 1⟩, ⟨4, 6, 0, 2⟩, ⟨17, 0, 0, 3⟩, ⟨18, 0, 0, (-1)⟩], [(2, 1, ⟨#[]⟩), (2, 2, ⟨#[]⟩)], 0, 2⟩ := by kernel_rfl
theorem cwz1 : ∀ z ∈ ([⟨2, (-1), (-1), (-1), (-1), 1, ⟨#[]⟩, ⟨#[]⟩⟩, ⟨2, (-1), (-1), (-1), (-1), 2, ⟨#[]⟩, ⟨#[]⟩⟩, ⟨11, 0, 1, (-1), (-1), 0, ⟨#[43]⟩, ⟨#[]⟩⟩, ⟨28, 2, (-1), (-1), (-1), 0, ⟨#[]⟩, ⟨#[]⟩⟩] : List Nd), z.s.size ≤ maxLen := by
 intro z hz
 have : z.s.size ≤ 1 := by revert z; decide
 unfold maxLen; omega
theorem cwx2 : qav [114, 101, 116, 117, 114, 110, 32, 120, 59] = .ok ([⟨4, (-1), (-1), (-1), (-1), 0, ⟨#[120]⟩, ⟨#[]⟩⟩, ⟨28, 0, (-1), (-1), (-1), 0, ⟨#[]⟩, ⟨#[]⟩⟩], 1) := by kernel_rfl
theorem cws2 : qaT [⟨4, (-1), (-1), (-1), (-1), 0, ⟨#[120]⟩, ⟨#[]⟩⟩, ⟨28, 0, (-1), (-1), (-1), 0, ⟨#[]⟩, ⟨#[]⟩⟩] 1 = ([], 0, 15, 0) := by kernel_rfl
theorem cwz2 : ∀ z ∈ ([⟨4, (-1), (-1), (-1), (-1), 0, ⟨#[120]⟩, ⟨#[]⟩⟩, ⟨28, 0, (-1), (-1), (-1), 0, ⟨#[]⟩, ⟨#[]⟩⟩] : List Nd), z.s.size ≤ maxLen := by
 intro z hz
 have : z.s.size ≤ 1 := by revert z; decide
 unfold maxLen; omega
theorem cwx3 : qav [49, 59] = .error (3, 0) := by kernel_rfl
theorem qbB (w : World) : Calls Tryz.prog 9 #[] w fun e w' => e = .returned (.bool true) ∧ Ext w w' := by
 have A1 := Lib.hid (fun W' => csource_ok ⟨#[114, 101, 116, 117, 114, 110, 32, 49, 32, 43, 32, 50, 59]⟩ _ _ cwx1 cwz1 _ _ _ cws1 _ cwc1 W')
 have A2 := Lib.hid (fun W' => csource_no ⟨#[114, 101, 116, 117, 114, 110, 32, 120, 59]⟩ _ _ cwx2 cwz2 _ _ _ _ cws2 zal W')
 have A3 := Lib.hid (fun W' => csource_err ⟨#[49, 59]⟩ _ _ cwx3 zal W')
 go_enter Tryz.func9, Tryz.ntmps9
 go_wp2_with (first
  | ((with_reducible refine (A1.out _).mono ?_); rintro e' w2 ⟨c, rfl, hc, hx2⟩; have HC := Lib.hid hc; have HX2 := Lib.hid hx2; clear hx2 hc)
  | ((with_reducible refine (A2.out _).mono ?_); rintro e' w3 ⟨rfl, hx3⟩; have HX3 := Lib.hid (HX2.out.trans hx3); have HC3 := Lib.hid (HC.out.ext hx3); clear hx3)
  | ((with_reducible refine (A3.out _).mono ?_); rintro e' w4 ⟨rfl, hx4⟩; have HX4 := Lib.hid (HX3.out.trans hx4); have HC4 := Lib.hid (HC3.out.ext hx4); clear hx4)
  | ((with_reducible refine (qeO HC4.out).mono ?_); rintro e' _ ⟨rfl, rfl⟩)
  | ((with_reducible refine (csize_any HC4.out).mono ?_); rintro e' _ ⟨rfl, rfl⟩))
 go_ret
 exact ⟨rfl, HX4.out⟩
theorem code_of {ns : List Nd} {fi m a : Int} {l : List Int} (h : qaT ns fi = (l, m, 0, a)) : ∃ R, codeF ns fi l = some R ∧ Snd ns.length R := by
 obtain ⟨hm, rfl, hl, h5⟩ := qcv h
 obtain ⟨h1, h2, h3, h4⟩ := qbC hm
 obtain ⟨n, hn, t⟩ := qfx hm
 obtain ⟨M, e, b1, b2, b3, b4, b5, b6⟩ := codeF_law (sl := l) zae (fun j z hz => node_nk hz (h2 j z hz)) (blk_sk h3 (Int.le_refl _)) t hn h1
 exact ⟨M, e, b1, b2, b3, b4, b5, h5⟩
end Go.Proofs.YtpoeknndkccbaaaGreat
