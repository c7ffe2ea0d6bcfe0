/- Lemmas for the claim (texts Cd6, Cd7, Cd8, what its proof uses of them). -/
import Derived.Test.YtpnabjopfpdkhaaGreatDoorB14
import Derived.Deep.RegionHeldLaw
import Derived.StillTailTactics
set_option linter.unusedSimpArgs false
set_option linter.unusedVariables false
namespace Go.Proofs.YtpnabjopfpdkhaaGreatDoor
open Go.RowKit
attribute [go_sem] more_more Array.size_append
theorem valInfo : (Tryz.prog.info? 45).map (fun i => (i.zero, i.size, i.bytes)) = some (some (.agg #[.int .i64 0, .int .i64 0, .string ⟨#[]⟩]), 3, 32) := by kernel_rfl
set_option maxHeartbeats 8000000 in
set_option maxRecDepth 20000 in
theorem value_any {W : World} {c m : Nat} {nv sv : Value} {fi mo : Int} {ns : List Nd} {sl : List Int} {L : List (Nat × Obj)} {M R : Mk} {w : World} (h : MkS W c m nv sv fi mo ns sl L M w) (k0 i0 : Int) (s0 : ByteArray) (j : Int) (hR : M.value (k0, i0, s0) = some (R, j)) :
  Calls Tryz.prog 176 #[.pointer (some ⟨m, 0, none⟩), .agg #[.int .i64 k0, .int .i64 i0, .string s0]] w fun r w' => r = .returned (.int .i64 j) ∧ MkS W c m nv sv fi mo ns sl L R w' := by
 unfold Mk.value at hR
 split at hR
 rotate_left
 · cases hR
 rename_i hl
 obtain ⟨iv, vv, h⟩ := h
 obtain ⟨n, hn⟩ : ∃ n, M.vals.length = n := ⟨_, rfl⟩
 obtain ⟨p, k, hv⟩ := qag h.vals
 rw [hn] at hv
 subst hv
 have HN := Lib.hid hn
 have HQ := Lib.hid (show (n : Int) ≤ 100000 ∧ n ≤ 100000 from ⟨by omega, by omega⟩)
 have H1 := Lib.hid (h.locNew (.cells #[.int .i64 k0, .int .i64 i0, .string s0] 45 (0, 0)))
 have VI := Lib.hid (fun (w' : World) (hx : Ext (w.alloc (.cells #[.int .i64 k0, .int .i64 i0, .string s0] 45 (0, 0))) w') => vindex_any (own_ext H1.out.vals hx) hl k0 i0 s0)
 obtain ⟨x, hx⟩ : ∃ x, vidx (k0, i0, s0) M.vals 0 = x := ⟨_, rfl⟩
 rw [hx] at VI hR
 clear h hn hl hx
 by_cases hx0 : 0 ≤ x
 · rw [if_pos hx0] at hR
   simp only [Option.some.injEq, Prod.mk.injEq] at hR
   obtain ⟨e1, e2⟩ := hR
   subst e1 e2
   go_enter Tryz.func176, Tryz.ntmps176
   go_wp2_with fail
   obtain ⟨Bx, hBx⟩ : ∃ Bx, w.heap.size = Bx := ⟨_, rfl⟩
   obtain ⟨w1, hw1⟩ : ∃ w1, w.alloc (.cells #[.int .i64 k0, .int .i64 i0, .string s0] 45 (0, 0)) = w1 := ⟨_, rfl⟩
   rw [hBx] at H1 ⊢
   rw [hw1] at H1 VI ⊢
   clear hBx hw1
   have kc1 : KB c _ _ w1 := H1.out.code
   have km1 : KB m _ _ w1 := H1.out.mkr
   have kb1 : KB Bx #[.int .i64 k0, .int .i64 i0, .string s0] 45 w1 := (H1.out.loc _ List.mem_cons_self).1
   have x0 : w1.cell? ⟨m, 0, none⟩ = some (.pointer (some ⟨c, 0, none⟩)) := km1.cell 0 _ rfl
   have y3 : w1.cell? ⟨c, 3, none⟩ = some (.slice p n k) := kc1.cell 3 _ rfl
   have b0 : w1.cell? ⟨Bx, 0, none⟩ = some (.int .i64 k0) := kb1.cell 0 _ rfl
   have b1 : w1.cell? ⟨Bx, 1, none⟩ = some (.int .i64 i0) := kb1.cell 1 _ rfl
   have b2 : w1.cell? ⟨Bx, 2, none⟩ = some (.string s0) := kb1.cell 2 _ rfl
   clear kc1 km1 kb1
   go_still_tail 8, zad
   have H1d := Lib.hid (H1.out.of_ext ((Ext.refl _).drew))
   have VId := Lib.hid (VI.out w1.drew ((Ext.refl _).drew))
   change wpList _ _ _ _ _ w1.drew
   generalize w1.drew = w1d at *
   go_wp2_with ((go_at_call 206; (with_reducible refine VId.out.mono ?_); rintro e' w2 ⟨rfl, hx2⟩; have H2 := Lib.hid (H1d.out.of_ext hx2); clear hx2))
   clear x0 y3 b0 b1 b2 H1 VI H1d VId
   go_ret
   exact ⟨rfl, MkS.sub ⟨_, _, H2.out⟩ (fun q hq => List.mem_cons_of_mem _ hq)⟩
 · rw [if_neg hx0] at hR
   simp only [Option.some.injEq, Prod.mk.injEq] at hR
   obtain ⟨e1, e2⟩ := hR
   subst e1 e2
   have hxn : x < 0 := by omega
   clear hx0
   go_enter Tryz.func176, Tryz.ntmps176
   go_wp2_with fail
   obtain ⟨Bx, hBx⟩ : ∃ Bx, w.heap.size = Bx := ⟨_, rfl⟩
   obtain ⟨w1, hw1⟩ : ∃ w1, w.alloc (.cells #[.int .i64 k0, .int .i64 i0, .string s0] 45 (0, 0)) = w1 := ⟨_, rfl⟩
   rw [hBx] at H1 ⊢
   rw [hw1] at H1 VI ⊢
   clear hBx hw1
   have kc1 : KB c _ _ w1 := H1.out.code
   have km1 : KB m _ _ w1 := H1.out.mkr
   have kb1 : KB Bx #[.int .i64 k0, .int .i64 i0, .string s0] 45 w1 := (H1.out.loc _ List.mem_cons_self).1
   have x0 : w1.cell? ⟨m, 0, none⟩ = some (.pointer (some ⟨c, 0, none⟩)) := km1.cell 0 _ rfl
   have y3 : w1.cell? ⟨c, 3, none⟩ = some (.slice p n k) := kc1.cell 3 _ rfl
   have b0 : w1.cell? ⟨Bx, 0, none⟩ = some (.int .i64 k0) := kb1.cell 0 _ rfl
   have b1 : w1.cell? ⟨Bx, 1, none⟩ = some (.int .i64 i0) := kb1.cell 1 _ rfl
   have b2 : w1.cell? ⟨Bx, 2, none⟩ = some (.string s0) := kb1.cell 2 _ rfl
   clear kc1 km1 kb1
   go_still_tail 8, zad
   have H1d := Lib.hid (H1.out.of_ext ((Ext.refl _).drew))
   have VId := Lib.hid (VI.out w1.drew ((Ext.refl _).drew))
   change wpList _ _ _ _ _ w1.drew
   generalize w1.drew = w1d at *
   go_wp2_with ((go_at_call 206; (with_reducible refine VId.out.mono ?_); rintro e' w2 ⟨rfl, hx2⟩; have H2 := Lib.hid (H1d.out.of_ext hx2); clear hx2))
   clear x0 y3 b0 b1 b2 H1 VI H1d VId
   have HOM := Lib.hid (show (Value.slice p n k).ownBlock ≠ some m from fun e => ((H2.out.apart m).2 e).2 rfl)
   have HOC := Lib.hid (show (Value.slice p n k).ownBlock ≠ some c from fun e => ((H2.out.apart c).2 e).1 rfl)
   have HLC := Lib.hid (H2.out.loc _ List.mem_cons_self)
   have HCM := Lib.hid (Ne.symm H2.out.base.2.2.1)
   have HKC := Lib.hid (show KB c _ _ w2 from H2.out.code)
   have HKM := Lib.hid (show KB m _ _ w2 from H2.out.mkr)
   have HKB := Lib.hid (show KB Bx #[.int .i64 k0, .int .i64 i0, .string s0] 45 w2 from HLC.out.1)
   have x0 : w2.cell? ⟨m, 0, none⟩ = some (.pointer (some ⟨c, 0, none⟩)) := HKM.out.cell 0 _ rfl
   have y2 : w2.cell? ⟨c, 3, none⟩ = some (.slice p n k) := HKC.out.cell 3 _ rfl
   have b0 : w2.cell? ⟨Bx, 0, none⟩ = some (.int .i64 k0) := HKB.out.cell 0 _ rfl
   have b1 : w2.cell? ⟨Bx, 1, none⟩ = some (.int .i64 i0) := HKB.out.cell 1 _ rfl
   have b2 : w2.cell? ⟨Bx, 2, none⟩ = some (.string s0) := HKB.out.cell 2 _ rfl
   have lc := HKC.out.lt
   have lm := HKM.out.lt
   have lb := HKB.out.lt
   have HOB := Lib.hid (show (Value.slice p n k).ownBlock ≠ some Bx from HLC.out.2.2.2.2)
   have HCB := Lib.hid (show Bx ≠ c from HLC.out.2.1)
   obtain ⟨v0, hi, hz0, hz1, hz2⟩ := info_parts valInfo
   refine wp_region_held_drew (S := (fun w' => w'.cell? ⟨m, 0, none⟩ = some (.pointer (some ⟨c, 0, none⟩)) ∧ w'.cell? ⟨Bx, 0, none⟩ = some (.int .i64 k0) ∧ w'.cell? ⟨Bx, 1, none⟩ = some (.int .i64 i0) ∧ w'.cell? ⟨Bx, 2, none⟩ = some (.string s0))) zad ⟨cell_ext x0 zac, cell_ext b0 zac, cell_ext b1 zac, cell_ext b2 zac⟩ (fun hS => ?_)
   refine wpAnyH_take (i := 0) (oi := _) (v := .pointer (some ⟨m, 0, none⟩)) rfl zad zad zad (fun _ _ _ h => h) (Or.inl ⟨by rfl, fun W hW => by go_simp⟩) hS ?_
   (try simp only [Act.put, List.getElem_toArray, List.getElem_cons_succ, List.getElem_cons_zero, List.setIfInBounds_toArray, List.set_cons_zero, List.set_cons_succ])
   refine wpAnyH_take (i := 1) (oi := _) (v := .pointer (some ⟨m, 0, none⟩)) rfl zad zad zad (fun _ _ _ h => h) (Or.inl ⟨by rfl, fun W hW => by go_simp⟩) hS ?_
   (try simp only [Act.put, List.getElem_toArray, List.getElem_cons_succ, List.getElem_cons_zero, List.setIfInBounds_toArray, List.set_cons_zero, List.set_cons_succ])
   refine wpAnyH_take (i := 2) (oi := _) (v := .pointer (some ⟨m, 0, none⟩)) rfl zad zad zad (fun _ _ _ h => h) (Or.inl ⟨by rfl, fun W hW => by go_simp⟩) hS ?_
   (try simp only [Act.put, List.getElem_toArray, List.getElem_cons_succ, List.getElem_cons_zero, List.setIfInBounds_toArray, List.set_cons_zero, List.set_cons_succ])
   refine wpAnyH_take (i := 3) (oi := _) (v := .pointer (some ⟨c, 0, none⟩)) rfl zad zad zad (fun _ _ _ h => h) (Or.inl ⟨by rfl, fun W hW => by (obtain ⟨hW1, hW2, hW3, hW4⟩ := hW; go_simp)⟩) hS ?_
   (try simp only [Act.put, List.getElem_toArray, List.getElem_cons_succ, List.getElem_cons_zero, List.setIfInBounds_toArray, List.set_cons_zero, List.set_cons_succ])
   refine wpAnyH_take (i := 4) (oi := _) (v := .pointer (some ⟨m, 0, none⟩)) rfl zad zad zad (fun _ _ _ h => h) (Or.inl ⟨by rfl, fun W hW => by go_simp⟩) hS ?_
   (try simp only [Act.put, List.getElem_toArray, List.getElem_cons_succ, List.getElem_cons_zero, List.setIfInBounds_toArray, List.set_cons_zero, List.set_cons_succ])
   refine wpAnyH_take (i := 5) (oi := _) (v := .pointer (some ⟨m, 0, none⟩)) rfl zad zad zad (fun _ _ _ h => h) (Or.inl ⟨by rfl, fun W hW => by go_simp⟩) hS ?_
   (try simp only [Act.put, List.getElem_toArray, List.getElem_cons_succ, List.getElem_cons_zero, List.setIfInBounds_toArray, List.set_cons_zero, List.set_cons_succ])
   refine wpAnyH_take (i := 6) (oi := _) (v := .pointer (some ⟨m, 0, none⟩)) rfl zad zad zad (fun _ _ _ h => h) (Or.inl ⟨by rfl, fun W hW => by go_simp⟩) hS ?_
   (try simp only [Act.put, List.getElem_toArray, List.getElem_cons_succ, List.getElem_cons_zero, List.setIfInBounds_toArray, List.set_cons_zero, List.set_cons_succ])
   refine wpAnyH_take (i := 7) (oi := _) (v := .pointer (some ⟨c, 0, none⟩)) rfl zad zad zad (fun _ _ _ h => h) (Or.inl ⟨by rfl, fun W hW => by (obtain ⟨hW1, hW2, hW3, hW4⟩ := hW; go_simp)⟩) hS ?_
   (try simp only [Act.put, List.getElem_toArray, List.getElem_cons_succ, List.getElem_cons_zero, List.setIfInBounds_toArray, List.set_cons_zero, List.set_cons_succ])
   refine wpAnyH_take (i := 8) (oi := _) (v := .pointer (some ⟨c, 0, none⟩)) rfl zad zad zad (fun _ _ _ h => h) (Or.inl ⟨by rfl, fun W hW => by go_simp⟩) hS ?_
   (try simp only [Act.put, List.getElem_toArray, List.getElem_cons_succ, List.getElem_cons_zero, List.setIfInBounds_toArray, List.set_cons_zero, List.set_cons_succ])
   refine wpAnyH_take (i := 9) (oi := _) (v := .pointer (some ⟨c, 3, none⟩)) rfl zad zad zad (fun _ _ _ h => h) (Or.inl ⟨by rfl, fun W hW => by go_simp⟩) hS ?_
   (try simp only [Act.put, List.getElem_toArray, List.getElem_cons_succ, List.getElem_cons_zero, List.setIfInBounds_toArray, List.set_cons_zero, List.set_cons_succ])
   refine wpAnyH_take (i := 11) (oi := _) (v := .agg #[.int .i64 k0, .int .i64 i0, .string s0]) rfl zad zad zad (fun _ _ _ h => h) (Or.inl ⟨by rfl, fun W hW => by (obtain ⟨hW1, hW2, hW3, hW4⟩ := hW; go_simp)⟩) hS ?_
   (try simp only [Act.put, List.getElem_toArray, List.getElem_cons_succ, List.getElem_cons_zero, List.setIfInBounds_toArray, List.set_cons_zero, List.set_cons_succ])
   refine wpAnyH_ready (rs := [10, 12]) zad zal ?_
   refine AllReadyH.cons (o := _) rfl (fun K hK => ?_) (AllReadyH.cons (o := _) rfl (fun K hK => ?_) AllReadyH.nil)
   · rw [if_pos (by rfl)]
     have y2d : w2.drew.cell? ⟨c, 3, none⟩ = some (.slice p n k) := cell_ext y2 zac
     go_simp
     refine hK.out _ _ (⟨cell_ext x0 zac, cell_ext b0 zac, cell_ext b1 zac, cell_ext b2 zac⟩) (fun hS1 => ?_)
     clear hK K
     (try simp only [Act.put, List.getElem_toArray, List.getElem_cons_succ, List.getElem_cons_zero, List.setIfInBounds_toArray, List.set_cons_zero, List.set_cons_succ])
     refine wpAnyH_ready (rs := [12]) zad zal ?_
     refine AllReadyH.cons (o := _) rfl (fun K hK => ?_) AllReadyH.nil
     rw [if_pos (by rfl)]
     go_simp
     refine hK.out _ _ (⟨cell_ext x0 zac, cell_ext b0 zac, cell_ext b1 zac, cell_ext b2 zac⟩) (fun hS2 => ?_)
     clear hK K
     (try simp only [Act.put, List.getElem_toArray, List.getElem_cons_succ, List.getElem_cons_zero, List.setIfInBounds_toArray, List.set_cons_zero, List.set_cons_succ])
     refine wpAnyH_ready (rs := [13]) zad zal ?_
     refine AllReadyH.cons (o := _) rfl (fun K hK => ?_) AllReadyH.nil
     refine step_append_lies _ rfl (.tmp 28) (.tmp 30) 168 rfl W.heap.size 45 v0 (.agg #[.int .i64 0, .int .i64 0, .string ⟨#[]⟩]) 3 32 Tryz.underlying168 hi hz0 hz1 hz2 rfl zaj (.slice p n k) n (valC3 M.vals) rfl (own_ext (by have := H2.out.vals; rw [HN.out] at this; exact this) zac) ⟨w2.heap.size, 0, none⟩ 1 1 [.int .i64 k0, .int .i64 i0, .string s0] rfl rfl (World.news_of_block (heap_alloc_new _ _)) (by intro u hu; simp at hu; rcases hu with rfl | rfl | rfl <;> rfl) zaj (by have := HQ.out.2; unfold maxLen; omega) (by have := HQ.out.2; omega) (by have := H2.out.ext.size; simp; omega) _ rfl ?_
     intro g1 cap1 w4 hown4 hgrow4 hat4 hlt4
     have kb4 : KB c _ _ w4 := (hgrow4.block c zaw (Ne.symm HOC.out)).trans (HKC.out.of_ext zac)
     have km4 : KB m _ _ w4 := (hgrow4.block m zaw (Ne.symm HOM.out)).trans (HKM.out.of_ext zac)
     have kx4 : KB Bx #[.int .i64 k0, .int .i64 i0, .string s0] 45 w4 := (hgrow4.block Bx zaw (Ne.symm HOB.out)).trans (HKB.out.of_ext zac)
     have m0 : w4.cell? ⟨m, 0, none⟩ = some (.pointer (some ⟨c, 0, none⟩)) := km4.cell 0 _ rfl
     have m2 : w4.cell? ⟨c, 3, none⟩ = some (.slice p n k) := kb4.cell 3 _ rfl
     have m3 := kb4.frozen 3
     have m4 := kb4.lt
     have d0 : w4.cell? ⟨Bx, 0, none⟩ = some (.int .i64 k0) := kx4.cell 0 _ rfl
     have d1 : w4.cell? ⟨Bx, 1, none⟩ = some (.int .i64 i0) := kx4.cell 1 _ rfl
     have d2 : w4.cell? ⟨Bx, 2, none⟩ = some (.string s0) := kx4.cell 2 _ rfl
     have KM4 := Lib.hid km4
     have KX4 := Lib.hid kx4
     clear kb4 km4 kx4
     refine hK.out _ _ (⟨m0, d0, d1, d2⟩) (fun hS3 => ?_)
     clear hK K
     (try simp only [Act.put, List.getElem_toArray, List.getElem_cons_succ, List.getElem_cons_zero, List.setIfInBounds_toArray, List.set_cons_zero, List.set_cons_succ])
     refine wpAnyH_take (i := 14) (oi := _) (v := .pointer (some ⟨c, 0, none⟩)) rfl zad zad zad (fun _ _ _ h => h) (Or.inl ⟨by rfl, fun W hW => by go_simp⟩) hS3 ?_
     (try simp only [Act.put, List.getElem_toArray, List.getElem_cons_succ, List.getElem_cons_zero, List.setIfInBounds_toArray, List.set_cons_zero, List.set_cons_succ])
     refine wpAnyH_take (i := 15) (oi := _) (v := .pointer (some ⟨c, 3, none⟩)) rfl zad zad zad (fun _ _ _ h => h) (Or.inl ⟨by rfl, fun W hW => by go_simp⟩) hS3 ?_
     (try simp only [Act.put, List.getElem_toArray, List.getElem_cons_succ, List.getElem_cons_zero, List.setIfInBounds_toArray, List.set_cons_zero, List.set_cons_succ])
     refine wpAnyH_ready (rs := [16]) zad zal ?_
     refine AllReadyH.cons (o := _) rfl (fun K hK => ?_) AllReadyH.nil
     rw [if_pos (by rfl)]
     go_simp
     refine hK.out _ _ (⟨(KM4.out.setOther 3 _ HCM.out).cell 0 (.pointer (some ⟨c, 0, none⟩)) rfl, (KX4.out.setOther 3 _ HCB.out).cell 0 (.int .i64 k0) rfl, (KX4.out.setOther 3 _ HCB.out).cell 1 (.int .i64 i0) rfl, (KX4.out.setOther 3 _ HCB.out).cell 2 (.string s0) rfl⟩) (fun hS4 => ?_)
     clear hK K
     (try simp only [Act.put, List.getElem_toArray, List.getElem_cons_succ, List.getElem_cons_zero, List.setIfInBounds_toArray, List.set_cons_zero, List.set_cons_succ])
     refine wpAnyH_done zad ?_ _
     have hv4 : (Value.slice (some ⟨g1, 0, none⟩) (n + 1) cap1).ownBlock = (Value.slice p n k).ownBlock ∨ (Value.slice (some ⟨g1, 0, none⟩) (n + 1) cap1).ownBlock = some (((w2.alloc (.cells #[.int .i64 k0, .int .i64 i0, .string s0] 45)).drew)).heap.size := by
      rcases hat4 with e | e
      · exact Or.inl e.symm
      · exact Or.inr (by rw [← e]; rfl)
     have HP := Lib.hid (MkV.push_val (x := (k0, i0, s0)) (H2.out.of_ext (w' := ((w2.alloc (.cells #[.int .i64 k0, .int .i64 i0, .string s0] 45)).drew)) zac) (by rw [HN.out]; exact hown4) hgrow4 hv4)
     clear hv4 hat4 hlt4 hgrow4 hown4 m0 m2 m3 m4 KM4 HKC HKM H2 x0 y2 lc lm d0 d1 d2 KX4 HKB b0 b1 b2 lb
     generalize w4.setCell ⟨c, 3, none⟩ (Value.slice (some ⟨g1, 0, none⟩) (n + 1) cap1) = W1 at *
     have kc : KB c _ _ W1 := HP.out.code
     have km : KB m _ _ W1 := HP.out.mkr
     have x0 : W1.cell? ⟨m, 0, none⟩ = some (.pointer (some ⟨c, 0, none⟩)) := km.cell 0 _ rfl
     have x3 : W1.cell? ⟨c, 3, none⟩ = some (.slice (some ⟨g1, 0, none⟩) (n + 1) cap1) := kc.cell 3 _ rfl
     have lm := km.lt
     have lc := kc.lt
     have hnI := HQ.out.1
     clear kc km
     go_wp2_with fail
     go_ret
     exact ⟨by (rw [HN.out]; rfl), MkS.sub ⟨_, _, HP.out⟩ (fun q hq => List.mem_cons_of_mem _ hq)⟩
   · rw [if_pos (by rfl)]
     go_simp
     refine hK.out _ _ (⟨cell_ext x0 zac, cell_ext b0 zac, cell_ext b1 zac, cell_ext b2 zac⟩) (fun hS1 => ?_)
     clear hK K
     (try simp only [Act.put, List.getElem_toArray, List.getElem_cons_succ, List.getElem_cons_zero, List.setIfInBounds_toArray, List.set_cons_zero, List.set_cons_succ])
     have y2a : ((w2.alloc (.cells #[.int .i64 k0, .int .i64 i0, .string s0] 45)).drew).cell? ⟨c, 3, none⟩ = some (.slice p n k) := cell_ext y2 zac
     refine wpAnyH_ready (rs := [10]) zad zal ?_
     refine AllReadyH.cons (o := _) rfl (fun K hK => ?_) AllReadyH.nil
     rw [if_pos (by rfl)]
     go_simp
     refine hK.out _ _ (⟨cell_ext x0 zac, cell_ext b0 zac, cell_ext b1 zac, cell_ext b2 zac⟩) (fun hS2 => ?_)
     clear hK K
     (try simp only [Act.put, List.getElem_toArray, List.getElem_cons_succ, List.getElem_cons_zero, List.setIfInBounds_toArray, List.set_cons_zero, List.set_cons_succ])
     refine wpAnyH_ready (rs := [13]) zad zal ?_
     refine AllReadyH.cons (o := _) rfl (fun K hK => ?_) AllReadyH.nil
     refine step_append_lies _ rfl (.tmp 28) (.tmp 30) 168 rfl W.heap.size 45 v0 (.agg #[.int .i64 0, .int .i64 0, .string ⟨#[]⟩]) 3 32 Tryz.underlying168 hi hz0 hz1 hz2 rfl zaj (.slice p n k) n (valC3 M.vals) rfl (own_ext (by have := H2.out.vals; rw [HN.out] at this; exact this) zac) ⟨w2.heap.size, 0, none⟩ 1 1 [.int .i64 k0, .int .i64 i0, .string s0] rfl rfl (World.news_of_block (heap_alloc_new _ _)) (by intro u hu; simp at hu; rcases hu with rfl | rfl | rfl <;> rfl) zaj (by have := HQ.out.2; unfold maxLen; omega) (by have := HQ.out.2; omega) (by have := H2.out.ext.size; simp; omega) _ rfl ?_
     intro g1 cap1 w4 hown4 hgrow4 hat4 hlt4
     have kb4 : KB c _ _ w4 := (hgrow4.block c zaw (Ne.symm HOC.out)).trans (HKC.out.of_ext zac)
     have km4 : KB m _ _ w4 := (hgrow4.block m zaw (Ne.symm HOM.out)).trans (HKM.out.of_ext zac)
     have kx4 : KB Bx #[.int .i64 k0, .int .i64 i0, .string s0] 45 w4 := (hgrow4.block Bx zaw (Ne.symm HOB.out)).trans (HKB.out.of_ext zac)
     have m0 : w4.cell? ⟨m, 0, none⟩ = some (.pointer (some ⟨c, 0, none⟩)) := km4.cell 0 _ rfl
     have m2 : w4.cell? ⟨c, 3, none⟩ = some (.slice p n k) := kb4.cell 3 _ rfl
     have m3 := kb4.frozen 3
     have m4 := kb4.lt
     have d0 : w4.cell? ⟨Bx, 0, none⟩ = some (.int .i64 k0) := kx4.cell 0 _ rfl
     have d1 : w4.cell? ⟨Bx, 1, none⟩ = some (.int .i64 i0) := kx4.cell 1 _ rfl
     have d2 : w4.cell? ⟨Bx, 2, none⟩ = some (.string s0) := kx4.cell 2 _ rfl
     have KM4 := Lib.hid km4
     have KX4 := Lib.hid kx4
     clear kb4 km4 kx4
     refine hK.out _ _ (⟨m0, d0, d1, d2⟩) (fun hS3 => ?_)
     clear hK K
     (try simp only [Act.put, List.getElem_toArray, List.getElem_cons_succ, List.getElem_cons_zero, List.setIfInBounds_toArray, List.set_cons_zero, List.set_cons_succ])
     refine wpAnyH_take (i := 14) (oi := _) (v := .pointer (some ⟨c, 0, none⟩)) rfl zad zad zad (fun _ _ _ h => h) (Or.inl ⟨by rfl, fun W hW => by go_simp⟩) hS3 ?_
     (try simp only [Act.put, List.getElem_toArray, List.getElem_cons_succ, List.getElem_cons_zero, List.setIfInBounds_toArray, List.set_cons_zero, List.set_cons_succ])
     refine wpAnyH_take (i := 15) (oi := _) (v := .pointer (some ⟨c, 3, none⟩)) rfl zad zad zad (fun _ _ _ h => h) (Or.inl ⟨by rfl, fun W hW => by go_simp⟩) hS3 ?_
     (try simp only [Act.put, List.getElem_toArray, List.getElem_cons_succ, List.getElem_cons_zero, List.setIfInBounds_toArray, List.set_cons_zero, List.set_cons_succ])
     refine wpAnyH_ready (rs := [16]) zad zal ?_
     refine AllReadyH.cons (o := _) rfl (fun K hK => ?_) AllReadyH.nil
     rw [if_pos (by rfl)]
     go_simp
     refine hK.out _ _ (⟨(KM4.out.setOther 3 _ HCM.out).cell 0 (.pointer (some ⟨c, 0, none⟩)) rfl, (KX4.out.setOther 3 _ HCB.out).cell 0 (.int .i64 k0) rfl, (KX4.out.setOther 3 _ HCB.out).cell 1 (.int .i64 i0) rfl, (KX4.out.setOther 3 _ HCB.out).cell 2 (.string s0) rfl⟩) (fun hS4 => ?_)
     clear hK K
     (try simp only [Act.put, List.getElem_toArray, List.getElem_cons_succ, List.getElem_cons_zero, List.setIfInBounds_toArray, List.set_cons_zero, List.set_cons_succ])
     refine wpAnyH_done zad ?_ _
     have hv4 : (Value.slice (some ⟨g1, 0, none⟩) (n + 1) cap1).ownBlock = (Value.slice p n k).ownBlock ∨ (Value.slice (some ⟨g1, 0, none⟩) (n + 1) cap1).ownBlock = some (((w2.alloc (.cells #[.int .i64 k0, .int .i64 i0, .string s0] 45)).drew)).heap.size := by
      rcases hat4 with e | e
      · exact Or.inl e.symm
      · exact Or.inr (by rw [← e]; rfl)
     have HP := Lib.hid (MkV.push_val (x := (k0, i0, s0)) (H2.out.of_ext (w' := ((w2.alloc (.cells #[.int .i64 k0, .int .i64 i0, .string s0] 45)).drew)) zac) (by rw [HN.out]; exact hown4) hgrow4 hv4)
     clear hv4 hat4 hlt4 hgrow4 hown4 m0 m2 m3 m4 KM4 HKC HKM H2 x0 y2 lc lm d0 d1 d2 KX4 HKB b0 b1 b2 lb
     generalize w4.setCell ⟨c, 3, none⟩ (Value.slice (some ⟨g1, 0, none⟩) (n + 1) cap1) = W1 at *
     have kc : KB c _ _ W1 := HP.out.code
     have km : KB m _ _ W1 := HP.out.mkr
     have x0 : W1.cell? ⟨m, 0, none⟩ = some (.pointer (some ⟨c, 0, none⟩)) := km.cell 0 _ rfl
     have x3 : W1.cell? ⟨c, 3, none⟩ = some (.slice (some ⟨g1, 0, none⟩) (n + 1) cap1) := kc.cell 3 _ rfl
     have lm := km.lt
     have lc := kc.lt
     have hnI := HQ.out.1
     clear kc km
     go_wp2_with fail
     go_ret
     exact ⟨by (rw [HN.out]; rfl), MkS.sub ⟨_, _, HP.out⟩ (fun q hq => List.mem_cons_of_mem _ hq)⟩
end Go.Proofs.YtpnabjopfpdkhaaGreatDoor

namespace Go.Proofs.YtpnabjopfpdkhaaGreatDoor
open Go.RowKit
attribute [go_sem] more_more Array.size_append
def MExprC (W : World) (c m : Nat) (nv sv : Value) (fi mo : Int) (ns : List Nd) (sl : List Int) (f : Nat) : Prop := ∀ (L : List (Nat × Obj)) (M R : Mk) (w : World) (i : Int), exprM ns sl f i M = some R → MkS W c m nv sv fi mo ns sl L M w →
  Calls Tryz.prog 136 #[.pointer (some ⟨m, 0, none⟩), .int .i64 i] w fun r w' => r = .returned (.tuple #[]) ∧ MkS W c m nv sv fi mo ns sl L R w'
theorem MExprC.out {W : World} {c m : Nat} {nv sv : Value} {fi mo : Int} {ns : List Nd} {sl : List Int} {f : Nat} (h : MExprC W c m nv sv fi mo ns sl f) {L : List (Nat × Obj)} {M R : Mk} {i : Int} (hR : exprM ns sl f i M = some R) (w : World) (hm : MkS W c m nv sv fi mo ns sl L M w) :
  Calls Tryz.prog 136 #[.pointer (some ⟨m, 0, none⟩), .int .i64 i] w fun r w' => r = .returned (.tuple #[]) ∧ MkS W c m nv sv fi mo ns sl L R w' := h L M R w i hR hm
theorem andS_iff (s : ByteArray) : s = andS ↔ (s.toList == [97, 110, 100]) = true := by
 have e : andS.toList = [97, 110, 100] := by kernel_rfl
 rw [← e]
 exact (Lib.bytes_beq_iff s andS).symm
theorem orS_iff (s : ByteArray) : s = orS ↔ (s.toList == [111, 114]) = true := by
 have e : orS.toList = [111, 114] := by kernel_rfl
 rw [← e]
 exact (Lib.bytes_beq_iff s orS).symm
set_option maxHeartbeats 4000000 in
set_option maxRecDepth 20000 in
theorem mtwo_of {W : World} {c m : Nat} {nv sv : Value} {fi mo : Int} {ns : List Nd} {sl : List Int} {f : Nat} (hE : MExprC W c m nv sv fi mo ns sl f) {L : List (Nat × Obj)} {M R : Mk} (w : World) (j : Nat) (z : Nd) (hR : twoM (exprM ns sl f) j z M = some R) (h : MkS W c m nv sv fi mo ns sl L M w) :
  Calls Tryz.prog 177 #[.pointer (some ⟨m, 0, none⟩), .int .i64 (j : Int), .agg #[.int .i64 z.k, .int .i64 z.a, .int .i64 z.b, .int .i64 z.c, .int .i64 z.x, .int .i64 z.i, .string z.s, .string z.t]] w fun r w' => r = .returned (.tuple #[]) ∧ MkS W c m nv sv fi mo ns sl L R w' := by
 obtain ⟨zk, za, zb, zc, zx, zi, zs, zt⟩ := z
 unfold twoM at hR
 dsimp only at hR ⊢
 obtain ⟨M0, h0, hR⟩ := qac hR
 have H0 := Lib.hid (h.locNew (.cells #[.int .i64 zk, .int .i64 za, .int .i64 zb, .int .i64 zc, .int .i64 zx, .int .i64 zi, .string zs, .string zt] 166 (0, 0)))
 have C0 := Lib.hid (fun w1 hw => hE.out (L := ((w.heap.size, .cells #[.int .i64 zk, .int .i64 za, .int .i64 zb, .int .i64 zc, .int .i64 zx, .int .i64 zi, .string zs, .string zt] 166 (0, 0)) :: L)) h0 w1 hw)
 by_cases ha : zs = andS ∨ zs = orS
 · rw [if_pos ha] at hR
   obtain ⟨M1, h1, hR⟩ := qac hR
   obtain ⟨M2, h2, hR⟩ := qac hR
   obtain ⟨M3, h3, hR⟩ := qac hR
   have hR5 : (if (5 : Int) = 13 ∨ (5 : Int) = 15 then M3.setB M0.ins.length else M3.setA M0.ins.length) = some R := hR
   have C2 := Lib.hid (fun LL w1 hw => hE.out (L := LL) h2 w1 hw)
   have C3 := Lib.hid (fun LL w1 (hw : MkS W c m nv sv fi mo ns sl LL M2 w1) => qaA hw 6 0 0 (j : Int) 0 h3)
   by_cases ho : zs = orS
   · rw [if_pos ho] at h1
     have b2 := (orS_iff zs).1 ho
     have b1 : (zs.toList == [97, 110, 100]) = false := by rw [ho]; kernel_rfl
     have b3 : zs.toList = [111, 114] := by simpa using b2
     have C1 := Lib.hid (fun LL w1 (hw : MkS W c m nv sv fi mo ns sl LL M0 w1) => qbd hw 5 0 1 (j : Int) (-1) h1)
     clear hE hR h h0 h1 h2 h3 ha ho
     have HR5 := Lib.hid hR5
     clear hR5 b3
     go_enter Tryz.func177, Tryz.ntmps177
     go_wp2_with (first
      | (go_at_call 136; (with_reducible refine (C0.out _ H0.out).mono ?_); rintro e' w2 ⟨rfl, h2⟩; have H2 := Lib.hid h2; clear h2; have KX2 : Hid (KB w.heap.size #[.int .i64 zk, .int .i64 za, .int .i64 zb, .int .i64 zc, .int .i64 zx, .int .i64 zi, .string zs, .string zt] 166 w2) := Lib.hid (H2.out.locAt List.mem_cons_self); have x26 := KX2.out.cell 6 _ rfl; have lx2 := KX2.out.lt)
      | (go_at_call 137; (with_reducible refine (C1.out _ _ H2.out).mono ?_); rintro e' w3 ⟨km, ko, ki, rfl, h3⟩; have H3 := Lib.hid h3; clear h3; have KX3 : Hid (KB w.heap.size #[.int .i64 zk, .int .i64 za, .int .i64 zb, .int .i64 zc, .int .i64 zx, .int .i64 zi, .string zs, .string zt] 166 w3) := Lib.hid (H3.out.locAt (List.mem_cons_of_mem _ (List.mem_cons_of_mem _ (List.mem_cons_of_mem _ List.mem_cons_self)))); have x32 := KX3.out.cell 2 _ rfl; have lx3 := KX3.out.lt)
      | (go_at_call 136; (with_reducible refine (C2.out _ _ H3.out).mono ?_); rintro e' w4 ⟨rfl, h4⟩; have H4 := Lib.hid h4; clear h4)
      | (go_at_call 101; (with_reducible refine (C3.out _ _ H4.out).mono ?_); rintro e' w5 ⟨rfl, h5⟩; have H5 := Lib.hid h5; clear h5)
      | (go_at_call 178; (with_reducible refine (qbB H5.out (op := 5) List.mem_cons_self (List.mem_cons_of_mem _ List.mem_cons_self) (List.mem_cons_of_mem _ (List.mem_cons_of_mem _ List.mem_cons_self)) HR5.out).mono ?_); rintro e' w6 ⟨rfl, h6⟩; have H6 := Lib.hid h6; clear h6))
     (first | go_end0 | refine bodyPost_ret (results_none rfl _ _ _) rfl ?_)
     exact ⟨rfl, H6.out.sub fun q hq => List.mem_cons_of_mem _ (List.mem_cons_of_mem _ (List.mem_cons_of_mem _ (List.mem_cons_of_mem _ hq)))⟩
   · rw [if_neg ho] at h1
     have ha2 : zs = andS := ha.resolve_right ho
     have b1 := (andS_iff zs).1 ha2
     have b2 : (zs.toList == [111, 114]) = false := by rw [ha2]; kernel_rfl
     have C1 := Lib.hid (fun LL w1 (hw : MkS W c m nv sv fi mo ns sl LL M0 w1) => qbd hw 5 0 0 (j : Int) (-1) h1)
     clear hE hR h h0 h1 h2 h3 ha ho ha2
     have HR5 := Lib.hid hR5
     clear hR5
     go_enter Tryz.func177, Tryz.ntmps177
     go_wp2_with (first
      | (go_at_call 136; (with_reducible refine (C0.out _ H0.out).mono ?_); rintro e' w2 ⟨rfl, h2⟩; have H2 := Lib.hid h2; clear h2; have KX2 : Hid (KB w.heap.size #[.int .i64 zk, .int .i64 za, .int .i64 zb, .int .i64 zc, .int .i64 zx, .int .i64 zi, .string zs, .string zt] 166 w2) := Lib.hid (H2.out.locAt List.mem_cons_self); have x26 := KX2.out.cell 6 _ rfl; have lx2 := KX2.out.lt)
      | (go_at_call 137; (with_reducible refine (C1.out _ _ H2.out).mono ?_); rintro e' w3 ⟨km, ko, ki, rfl, h3⟩; have H3 := Lib.hid h3; clear h3; have KX3 : Hid (KB w.heap.size #[.int .i64 zk, .int .i64 za, .int .i64 zb, .int .i64 zc, .int .i64 zx, .int .i64 zi, .string zs, .string zt] 166 w3) := Lib.hid (H3.out.locAt (List.mem_cons_of_mem _ (List.mem_cons_of_mem _ (List.mem_cons_of_mem _ List.mem_cons_self)))); have x32 := KX3.out.cell 2 _ rfl; have lx3 := KX3.out.lt)
      | (go_at_call 136; (with_reducible refine (C2.out _ _ H3.out).mono ?_); rintro e' w4 ⟨rfl, h4⟩; have H4 := Lib.hid h4; clear h4)
      | (go_at_call 101; (with_reducible refine (C3.out _ _ H4.out).mono ?_); rintro e' w5 ⟨rfl, h5⟩; have H5 := Lib.hid h5; clear h5)
      | (go_at_call 178; (with_reducible refine (qbB H5.out (op := 5) List.mem_cons_self (List.mem_cons_of_mem _ List.mem_cons_self) (List.mem_cons_of_mem _ (List.mem_cons_of_mem _ List.mem_cons_self)) HR5.out).mono ?_); rintro e' w6 ⟨rfl, h6⟩; have H6 := Lib.hid h6; clear h6))
     (first | go_end0 | refine bodyPost_ret (results_none rfl _ _ _) rfl ?_)
     exact ⟨rfl, H6.out.sub fun q hq => List.mem_cons_of_mem _ (List.mem_cons_of_mem _ (List.mem_cons_of_mem _ (List.mem_cons_of_mem _ hq)))⟩
 · rw [if_neg ha] at hR
   obtain ⟨M1, h1, hR⟩ := qac hR
   have b1 : (zs.toList == [97, 110, 100]) = false := by cases hb : (zs.toList == [97, 110, 100]) with
    | false => rfl
    | true => exact absurd (Or.inl ((andS_iff zs).2 hb)) ha
   have b2 : (zs.toList == [111, 114]) = false := by cases hb : (zs.toList == [111, 114]) with
    | false => rfl
    | true => exact absurd (Or.inr ((orS_iff zs).2 hb)) ha
   have C1 := Lib.hid (fun LL w1 hw => hE.out (L := LL) h1 w1 hw)
   have C3 := Lib.hid (fun LL w1 (hw : MkS W c m nv sv fi mo ns sl LL M1 w1) => qaA hw 4 (csgF zs) 0 (j : Int) (-1) hR)
   clear hE hR h h0 h1 ha
   go_enter Tryz.func177, Tryz.ntmps177
   go_wp2_with (first
    | (go_at_call 136; (with_reducible refine (C0.out _ H0.out).mono ?_); rintro e' w2 ⟨rfl, h2⟩; have H2 := Lib.hid h2; clear h2; have KX2 : Hid (KB w.heap.size #[.int .i64 zk, .int .i64 za, .int .i64 zb, .int .i64 zc, .int .i64 zx, .int .i64 zi, .string zs, .string zt] 166 w2) := Lib.hid (H2.out.locAt List.mem_cons_self); have x22 := KX2.out.cell 2 _ rfl; have x26 := KX2.out.cell 6 _ rfl; have lx2 := KX2.out.lt)
    | (go_at_call 136; (with_reducible refine (C1.out _ _ H2.out).mono ?_); rintro e' w3 ⟨rfl, h3⟩; have H3 := Lib.hid h3; clear h3; have KX3 : Hid (KB w.heap.size #[.int .i64 zk, .int .i64 za, .int .i64 zb, .int .i64 zc, .int .i64 zx, .int .i64 zi, .string zs, .string zt] 166 w3) := Lib.hid (H3.out.locAt List.mem_cons_self); have x36 := KX3.out.cell 6 _ rfl; have lx3 := KX3.out.lt)
    | (go_at_call 207; (with_reducible refine (csign_any _ _).mono ?_); rintro e' w4 ⟨rfl, hx4⟩; have H4 := Lib.hid (H3.out.of_ext hx4); clear hx4)
    | (go_at_call 101; (with_reducible refine (C3.out _ _ H4.out).mono ?_); rintro e' w5 ⟨rfl, h5⟩; have H5 := Lib.hid h5; clear h5))
   (first | go_end0 | refine bodyPost_ret (results_none rfl _ _ _) rfl ?_)
   exact ⟨rfl, H5.out.sub fun q hq => List.mem_cons_of_mem _ hq⟩
set_option maxHeartbeats 8000000 in
set_option maxRecDepth 20000 in
theorem mexpr_any {W : World} {c m : Nat} {nv sv : Value} {fi mo : Int} {ns : List Nd} {sl : List Int} : ∀ f, MExprC W c m nv sv fi mo ns sl f := by
 intro f
 induction f with
 | zero => intro L M R w i hR h; cases hR
 | succ f ih =>
  intro L M R w i hR h
  unfold exprM at hR
  split at hR
  · cases hR
  rename_i hi
  obtain ⟨j, rfl⟩ : ∃ j : Nat, i = (j : Int) := ⟨i.toNat, by omega⟩
  rw [Int.toNat_natCast] at hR
  split at hR
  · cases hR
  rename_i z hz
  obtain ⟨zk, za, zb, zc, zx, zi, zs, zt⟩ := z
  dsimp only at hR
  obtain ⟨G, n, cap, iv, vv, rfl, hG, hj, lc, lm, x0, y0, x1, y2, y3, hiv, a0, a1, a2, a3, a4, a5, a6, a7⟩ := h.node hz
  dsimp only at a0 a1 a2 a3 a4 a5 a6 a7
  have H0 := Lib.hid (h.locNew (.cells #[.int .i64 zk, .int .i64 za, .int .i64 zb, .int .i64 zc, .int .i64 zx, .int .i64 zi, .string zs, .string zt] 166 (0, 0)))
  have hj0 : 0 ≤ (j : Int) := by omega
  have hjn : (j : Int) < (n : Int) := by omega
  clear hiv
  by_cases hA : zk = 0 ∨ zk = 1 ∨ zk = 2 ∨ zk = 3
  · rw [if_pos hA] at hR
    obtain ⟨⟨M1, q⟩, h1, hR⟩ := qac hR
    have C1 := Lib.hid (fun w1 (hw : MkS W c m (.slice (some ⟨G, 0, none⟩) n cap) sv fi mo ns sl ((w.heap.size, .cells #[.int .i64 zk, .int .i64 za, .int .i64 zb, .int .i64 zc, .int .i64 zx, .int .i64 zi, .string zs, .string zt] 166 (0, 0)) :: L) M w1) => value_any hw zk zi zs q h1)
    have C2 := Lib.hid (fun w1 (hw : MkS W c m (.slice (some ⟨G, 0, none⟩) n cap) sv fi mo ns sl ((w.heap.size, .cells #[.int .i64 zk, .int .i64 za, .int .i64 zb, .int .i64 zc, .int .i64 zx, .int .i64 zi, .string zs, .string zt] 166 (0, 0)) :: L) M1 w1) => qaA hw 0 q 0 (j : Int) 1 hR)
    clear ih hR h hz h1 hi
    rcases hA with hA | hA | hA | hA
    all_goals
     subst hA
     go_enter Tryz.func136, Tryz.ntmps136
     go_wp2_with (first
      | (go_at_call 176; (with_reducible refine (C1.out _ H0.out).mono ?_); rintro e' w2 ⟨rfl, h2⟩; have H2 := Lib.hid h2; clear h2)
      | (go_at_call 101; (with_reducible refine (C2.out _ H2.out).mono ?_); rintro e' w3 ⟨rfl, h3⟩; have H3 := Lib.hid h3; clear h3))
     (first | go_end0 | refine bodyPost_ret (results_none rfl _ _ _) rfl ?_)
     exact ⟨rfl, H3.out.sub fun q hq => List.mem_cons_of_mem _ hq⟩
  rw [if_neg hA] at hR
  have b0 : (zk == 0) = false := by simpa using fun e => hA (Or.inl e)
  have b1 : (zk == 1) = false := by simpa using fun e => hA (Or.inr (Or.inl e))
  have b2 : (zk == 2) = false := by simpa using fun e => hA (Or.inr (Or.inr (Or.inl e)))
  have b3 : (zk == 3) = false := by simpa using fun e => hA (Or.inr (Or.inr (Or.inr e)))
  by_cases h4 : zk = 4
  · rw [if_pos h4] at hR
    obtain ⟨q, hq, hR⟩ := qac hR
    obtain ⟨g, n2, k2, rfl, hn2, hj2, hg2, s0⟩ := h.slot hq
    have C2 := Lib.hid (fun w1 (hw : MkS W c m (.slice (some ⟨G, 0, none⟩) n cap) (.slice (some ⟨g, 0, none⟩) n2 k2) fi mo ns sl ((w.heap.size, .cells #[.int .i64 zk, .int .i64 za, .int .i64 zb, .int .i64 zc, .int .i64 zx, .int .i64 zi, .string zs, .string zt] 166 (0, 0)) :: L) M w1) => qaA hw 1 q 0 (j : Int) 1 hR)
    have hjn2 : (j : Int) < (n2 : Int) := by omega
    subst h4
    clear ih hR h hz hi hA hq b0 b1 b2 b3 hn2
    go_enter Tryz.func136, Tryz.ntmps136
    go_wp2_with (first
     | (go_at_call 101; (with_reducible refine (C2.out _ H0.out).mono ?_); rintro e' w2 ⟨rfl, h2⟩; have H2 := Lib.hid h2; clear h2))
    (first | go_end0 | refine bodyPost_ret (results_none rfl _ _ _) rfl ?_)
    exact ⟨rfl, H2.out.sub fun q hq => List.mem_cons_of_mem _ hq⟩
  rw [if_neg h4] at hR
  have b4 : (zk == 4) = false := by simpa using h4
  by_cases h11 : zk = 11
  · rw [if_pos h11] at hR
    have C1 := Lib.hid (fun w1 hw => mtwo_of ih (L := ((w.heap.size, .cells #[.int .i64 zk, .int .i64 za, .int .i64 zb, .int .i64 zc, .int .i64 zx, .int .i64 zi, .string zs, .string zt] 166 (0, 0)) :: L)) w1 j _ hR hw)
    dsimp only at C1
    subst h11
    clear ih hR h hz hi hA h4 b0 b1 b2 b3 b4
    go_enter Tryz.func136, Tryz.ntmps136
    go_wp2_with (first
     | (go_at_call 177; (with_reducible refine (C1.out _ H0.out).mono ?_); rintro e' w2 ⟨rfl, h2⟩; have H2 := Lib.hid h2; clear h2))
    (first | go_end0 | refine bodyPost_ret (results_none rfl _ _ _) rfl ?_)
    exact ⟨rfl, H2.out.sub fun q hq => List.mem_cons_of_mem _ hq⟩
  rw [if_neg h11] at hR
  have b5 : (zk == 11) = false := by simpa using h11
  obtain ⟨M1, h1, hR⟩ := qac hR
  have C1 := Lib.hid (fun w1 hw => ih.out (L := ((w.heap.size, .cells #[.int .i64 zk, .int .i64 za, .int .i64 zb, .int .i64 zc, .int .i64 zx, .int .i64 zi, .string zs, .string zt] 166 (0, 0)) :: L)) h1 w1 hw)
  have C2 := Lib.hid (fun w1 (hw : MkS W c m (.slice (some ⟨G, 0, none⟩) n cap) sv fi mo ns sl ((w.heap.size, .cells #[.int .i64 zk, .int .i64 za, .int .i64 zb, .int .i64 zc, .int .i64 zx, .int .i64 zi, .string zs, .string zt] 166 (0, 0)) :: L) M1 w1) => qaA hw 3 zk 0 (j : Int) 0 hR)
  clear ih hR h hz hi hA h4 h11 h1
  go_enter Tryz.func136, Tryz.ntmps136
  go_wp2_with (first
   | (go_at_call 136; (with_reducible refine (C1.out _ H0.out).mono ?_); rintro e' w2 ⟨rfl, h2⟩; have H2 := Lib.hid h2; clear h2; have KX2 : Hid (KB w.heap.size #[.int .i64 zk, .int .i64 za, .int .i64 zb, .int .i64 zc, .int .i64 zx, .int .i64 zi, .string zs, .string zt] 166 w2) := Lib.hid (H2.out.locAt List.mem_cons_self); have x20 := KX2.out.cell 0 _ rfl; have lx2 := KX2.out.lt)
   | (go_at_call 101; (with_reducible refine (C2.out _ H2.out).mono ?_); rintro e' w3 ⟨rfl, h3⟩; have H3 := Lib.hid h3; clear h3))
  (first | go_end0 | refine bodyPost_ret (results_none rfl _ _ _) rfl ?_)
  exact ⟨rfl, H3.out.sub fun q hq => List.mem_cons_of_mem _ hq⟩
end Go.Proofs.YtpnabjopfpdkhaaGreatDoor

namespace Go.Proofs.YtpnabjopfpdkhaaGreatDoor
open Go.RowKit
attribute [go_sem] more_more Array.size_append
def MBlkC (W : World) (c m : Nat) (nv sv : Value) (fi mo : Int) (ns : List Nd) (sl : List Int) (f : Nat) : Prop := ∀ (L : List (Nat × Obj)) (M R : Mk) (w : World) (i : Int), blkM ns sl f i M = some R → MkS W c m nv sv fi mo ns sl L M w →
  Calls Tryz.prog 100 #[.pointer (some ⟨m, 0, none⟩), .int .i64 i] w fun r w' => r = .returned (.tuple #[]) ∧ MkS W c m nv sv fi mo ns sl L R w'
theorem MBlkC.out {W : World} {c m : Nat} {nv sv : Value} {fi mo : Int} {ns : List Nd} {sl : List Int} {f : Nat} (h : MBlkC W c m nv sv fi mo ns sl f) {L : List (Nat × Obj)} {M R : Mk} {i : Int} (hR : blkM ns sl f i M = some R) (w : World) (hm : MkS W c m nv sv fi mo ns sl L M w) :
  Calls Tryz.prog 100 #[.pointer (some ⟨m, 0, none⟩), .int .i64 i] w fun r w' => r = .returned (.tuple #[]) ∧ MkS W c m nv sv fi mo ns sl L R w' := h L M R w i hR hm
def MStmC (W : World) (c m : Nat) (nv sv : Value) (fi mo : Int) (ns : List Nd) (sl : List Int) (f : Nat) : Prop := ∀ (L : List (Nat × Obj)) (M R : Mk) (w : World) (j : Nat) (z : Nd), ns[j]? = some z → stmM (exprM ns sl f) (blkM ns sl f) sl j z M = some R → MkS W c m nv sv fi mo ns sl L M w →
  Calls Tryz.prog 114 #[.pointer (some ⟨m, 0, none⟩), .int .i64 (j : Int), .agg #[.int .i64 z.k, .int .i64 z.a, .int .i64 z.b, .int .i64 z.c, .int .i64 z.x, .int .i64 z.i, .string z.s, .string z.t]] w fun r w' => r = .returned (.tuple #[]) ∧ MkS W c m nv sv fi mo ns sl L R w'
theorem MStmC.out {W : World} {c m : Nat} {nv sv : Value} {fi mo : Int} {ns : List Nd} {sl : List Int} {f : Nat} (h : MStmC W c m nv sv fi mo ns sl f) {L : List (Nat × Obj)} {M R : Mk} {j : Nat} {z : Nd} (hz : ns[j]? = some z) (hR : stmM (exprM ns sl f) (blkM ns sl f) sl j z M = some R) (w : World) (hm : MkS W c m nv sv fi mo ns sl L M w) :
  Calls Tryz.prog 114 #[.pointer (some ⟨m, 0, none⟩), .int .i64 (j : Int), .agg #[.int .i64 z.k, .int .i64 z.a, .int .i64 z.b, .int .i64 z.c, .int .i64 z.x, .int .i64 z.i, .string z.s, .string z.t]] w fun r w' => r = .returned (.tuple #[]) ∧ MkS W c m nv sv fi mo ns sl L R w' := h L M R w j z hz hR hm
theorem MkS.nodeG {W : World} {c m : Nat} {G n cap : Nat} {sv : Value} {fi mo : Int} {ns : List Nd} {sl : List Int} {L : List (Nat × Obj)} {M : Mk} {w : World} (h : MkS W c m (.slice (some ⟨G, 0, none⟩) n cap) sv fi mo ns sl L M w) {j : Nat} {z : Nd} (hz : ns[j]? = some z) :
  G < w.heap.size ∧ j < n ∧ c < w.heap.size ∧ m < w.heap.size ∧ w.cell? ⟨m, 0, none⟩ = some (.pointer (some ⟨c, 0, none⟩)) ∧ w.cell? ⟨c, 0, none⟩ = some (.slice (some ⟨G, 0, none⟩) n cap) ∧ w.cell? ⟨m, 1, none⟩ = some sv ∧
  w.cell? ⟨G, j * 8, none⟩ = some (.int .i64 z.k) ∧ w.cell? ⟨G, j * 8 + 1, none⟩ = some (.int .i64 z.a) ∧ w.cell? ⟨G, j * 8 + 2, none⟩ = some (.int .i64 z.b) ∧ w.cell? ⟨G, j * 8 + 3, none⟩ = some (.int .i64 z.c) ∧ w.cell? ⟨G, j * 8 + 4, none⟩ = some (.int .i64 z.x) ∧ w.cell? ⟨G, j * 8 + 5, none⟩ = some (.int .i64 z.i) ∧ w.cell? ⟨G, j * 8 + 6, none⟩ = some (.string z.s) ∧ w.cell? ⟨G, j * 8 + 7, none⟩ = some (.string z.t) := by
 obtain ⟨G', n', cap', iv, vv, e, hG, hj, lc, lm, x0, y0, x1, y2, y3, hiv, a⟩ := h.node hz
 simp only [Value.slice.injEq, Option.some.injEq, Addr.mk.injEq] at e
 obtain ⟨⟨rfl, _, _⟩, rfl, rfl⟩ := e
 exact ⟨hG, hj, lc, lm, x0, y0, x1, a⟩
theorem MkS.insLen {W : World} {c m : Nat} {nv sv : Value} {fi mo : Int} {ns : List Nd} {sl : List Int} {L : List (Nat × Obj)} {M : Mk} {w : World} (h : MkS W c m nv sv fi mo ns sl L M w) : ∃ p k, c < w.heap.size ∧ m < w.heap.size ∧ w.cell? ⟨m, 0, none⟩ = some (.pointer (some ⟨c, 0, none⟩)) ∧ w.cell? ⟨c, 2, none⟩ = some (.slice p M.ins.length k) := by
 obtain ⟨iv, vv, h⟩ := h
 have kb : KB c _ _ w := h.code
 have km : KB m _ _ w := h.mkr
 obtain ⟨p, k, hv⟩ := qag h.ins
 exact ⟨p, k, kb.lt, km.lt, km.cell 0 _ rfl, by have := kb.cell 2 _ rfl; rw [hv] at this; exact this⟩
theorem mblk_neg (ns : List Nd) (sl : List Int) (f : Nat) (i : Int) (M : Mk) (h : i < 0) : blkM ns sl f i M = some M := by
 cases f <;> (unfold blkM; rw [if_pos h])
theorem mblk_pos {ns : List Nd} {sl : List Int} {f : Nat} {i : Int} {M R : Mk} (h : 0 ≤ i) (hR : blkM ns sl f i M = some R) : ∃ g j z M1 M2, f = g + 1 ∧ i = ((j : Nat) : Int) ∧ ns[j]? = some z ∧ M.add 7 0 0 (j : Int) 0 = some M1 ∧ stmM (exprM ns sl g) (blkM ns sl g) sl j z M1 = some M2 ∧ blkM ns sl g z.x M2 = some R := by
 cases f with
 | zero => unfold blkM at hR; rw [if_neg zae] at hR; cases hR
 | succ g =>
  unfold blkM at hR
  rw [if_neg zae] at hR
  obtain ⟨j, rfl⟩ : ∃ j : Nat, i = (j : Int) := ⟨i.toNat, by omega⟩
  rw [Int.toNat_natCast] at hR
  split at hR
  · cases hR
  · rename_i z hz
    obtain ⟨M1, h1, hR⟩ := qac hR
    obtain ⟨M2, h2, hR⟩ := qac hR
    exact ⟨g, j, z, M1, M2, rfl, rfl, hz, h1, h2, hR⟩
set_option maxHeartbeats 8000000 in
set_option maxRecDepth 20000 in
theorem mblk_of {W : World} {c m : Nat} {nv sv : Value} {fi mo : Int} {ns : List Nd} {sl : List Int} (f : Nat) (hS : ∀ g, g < f → MStmC W c m nv sv fi mo ns sl g) : MBlkC W c m nv sv fi mo ns sl f := by
 intro L M R w i hR h
 have HSS := Lib.hid hS
 have HR := Lib.hid hR
 have H0 := Lib.hid h
 clear hS hR h
 go_enter Tryz.func100, Tryz.ntmps100
 go_wp2_with fail
 go_loopg [1] f (fun g x wr => ∃ (i' : Int) (M' : Mk), x = .int .i64 i' ∧ g ≤ f ∧ blkM ns sl g i' M' = some R ∧ MkS W c m nv sv fi mo ns sl L M' wr)
 case atStart => exact ⟨i, M, rfl, Nat.le_refl _, HR.out, H0.out⟩
 case round =>
  obtain ⟨i', M', rfl, hg, hb, hwk⟩ := hrel
  have HG := Lib.hid hg
  clear hg
  by_cases hi : i' < 0
  · rw [mblk_neg _ _ _ _ _ hi] at hb
    have e2 := Option.some.inj hb
    subst e2
    have HK2 := Lib.hid hwk
    clear hb hwk
    go_wp2_with fail
    (first | go_end0 | refine bodyPost_ret (results_none rfl _ _ _) rfl ?_)
    exact ⟨rfl, HK2.out⟩
  · obtain ⟨g1, j, ⟨zk, za, zb, zc, zx, zi, zs, zt⟩, M1, M2, e, rfl, hz, h1, h2, h3⟩ := mblk_pos zae hb
    have HE := Lib.hid e
    obtain ⟨G, n, cap, iv, vv, rfl, hG, hj, lc, lm, x0, y0, x1, y2, y3, hiv, a0, a1, a2, a3, a4, a5, a6, a7⟩ := hwk.node hz
    have HZ := Lib.hid hz
    have C1 := Lib.hid (fun w1 (hw : MkS W c m (.slice (some ⟨G, 0, none⟩) n cap) sv fi mo ns sl L M' w1) => qaA hw 7 0 0 (j : Int) 0 h1)
    have C2 := Lib.hid (fun w1 hw => (HSS.out g1 (by have := HG.out; omega)).out (L := L) hz h2 w1 hw)
    have H3x := Lib.hid h3
    have HK := Lib.hid hwk
    dsimp only at C2 H3x
    have hj0 : 0 ≤ (j : Int) := by omega
    have hjn : (j : Int) < (n : Int) := by omega
    clear hb hwk hi e hz h1 h2 h3 hiv a0 a1 a2 a3 a4 a5 a6 a7 x0 y0 x1 y2 y3 lc lm hG
    go_wp2_with (first
     | (go_at_call 101; (with_reducible refine (C1.out _ HK.out).mono ?_); rintro e' w2 ⟨rfl, h2⟩; have H2 := Lib.hid h2; have hnd := h2.nodeG HZ.out; dsimp only at hnd; obtain ⟨hG, hj, lc, lm, x0, y0, x1, a0, a1, a2, a3, a4, a5, a6, a7⟩ := hnd; clear h2)
     | (go_at_call 114; (with_reducible refine (C2.out _ H2.out).mono ?_); rintro e' w3 ⟨rfl, h3⟩; have H3 := Lib.hid h3; have hnd := h3.nodeG HZ.out; dsimp only at hnd; obtain ⟨hG', hj', lc', lm', x0', y0', x1', a0', a1', a2', a3', a4', a5', a6', a7'⟩ := hnd; clear h3))
    clear hG lc lm x0 y0 x1 a0 a1 a2 a3 a4 a5 a6 a7 hG' lc' lm' x0' y0' x1' a0' a1' a2' a3' a4' a5' a6' a7'
    go_roundg g1
    case rel => exact ⟨zx, M2, rfl, by have := HG.out; have := HE.out; omega, H3x.out, H3.out⟩
    case measure => have := HE.out; omega
set_option maxHeartbeats 8000000 in
set_option maxRecDepth 20000 in
theorem mloop_of {W : World} {c m : Nat} {nv sv : Value} {fi mo : Int} {ns : List Nd} {sl : List Int} {f : Nat} (hB : MBlkC W c m nv sv fi mo ns sl f) {L : List (Nat × Obj)} {M R : Mk} (w : World) (op a bl : Int) (j : Nat) (hop : op = 13 ∨ op = 15) (hR : loopM (blkM ns sl f) op a j bl M = some R) (h : MkS W c m nv sv fi mo ns sl L M w) :
  Calls Tryz.prog 138 #[.pointer (some ⟨m, 0, none⟩), .int .i64 op, .int .i64 a, .int .i64 (j : Int), .int .i64 bl] w fun r w' => r = .returned (.tuple #[]) ∧ MkS W c m nv sv fi mo ns sl L R w' := by
 unfold loopM at hR
 obtain ⟨M1, h1, hR⟩ := qac hR
 obtain ⟨M2, h2, hR⟩ := qac hR
 obtain ⟨M3, h3, hR⟩ := qac hR
 obtain ⟨N, hN⟩ : ∃ N, M.ins.length = N := ⟨_, rfl⟩
 obtain ⟨p, k, lc, lm, x0, y2⟩ := h.insLen
 rw [hN] at y2 h3 hR
 have hR5 : (if op = 13 ∨ op = 15 then M3.setB N else M3.setA N) = some R := by rw [if_pos hop]; exact hR
 have C1 := Lib.hid (fun w1 (hw : MkS W c m nv sv fi mo ns sl L M w1) => qbd hw op a 0 (j : Int) 0 h1)
 have C2 := Lib.hid (fun LL w1 hw => hB.out (L := LL) h2 w1 hw)
 have C3 := Lib.hid (fun LL w1 (hw : MkS W c m nv sv fi mo ns sl LL M2 w1) => qaA hw 9 (N : Int) 0 (j : Int) 0 h3)
 rw [hN] at C1
 have HR5 := Lib.hid hR5
 have H0 := Lib.hid h
 clear hB hR h h1 h2 h3 hop hN hR5
 go_enter Tryz.func138, Tryz.ntmps138
 go_wp2_with (first
  | (go_at_call 137; (with_reducible refine (C1.out _ H0.out).mono ?_); rintro e' w2 ⟨km, ko, ki, rfl, h2⟩; have H2 := Lib.hid h2; clear h2)
  | (go_at_call 100; (with_reducible refine (C2.out _ _ H2.out).mono ?_); rintro e' w3 ⟨rfl, h3⟩; have H3 := Lib.hid h3; clear h3)
  | (go_at_call 101; (with_reducible refine (C3.out _ _ H3.out).mono ?_); rintro e' w4 ⟨rfl, h4⟩; have H4 := Lib.hid h4; clear h4)
  | (go_at_call 178; (with_reducible refine (qbB H4.out (op := op) List.mem_cons_self (List.mem_cons_of_mem _ List.mem_cons_self) (List.mem_cons_of_mem _ (List.mem_cons_of_mem _ List.mem_cons_self)) HR5.out).mono ?_); rintro e' w5 ⟨rfl, h5⟩; have H5 := Lib.hid h5; clear h5))
 (first | go_end0 | refine bodyPost_ret (results_none rfl _ _ _) rfl ?_)
 exact ⟨rfl, H5.out.sub fun q hq => List.mem_cons_of_mem _ (List.mem_cons_of_mem _ (List.mem_cons_of_mem _ hq))⟩
end Go.Proofs.YtpnabjopfpdkhaaGreatDoor
