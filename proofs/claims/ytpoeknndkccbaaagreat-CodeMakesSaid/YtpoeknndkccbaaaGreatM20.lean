/- Lemmas for the claim (texts Cd3, Cd4, Cd5, what its proof uses of them). -/
import Derived.Test.YtpoeknndkccbaaaGreatM19
import Derived.Deep.RegionHeldLaw
import Derived.Deep.AppendLies
import Derived.Outline
set_option linter.unusedSimpArgs false
set_option linter.unusedVariables false
set_option maxHeartbeats 8000000
set_option maxRecDepth 20000
namespace Go.Proofs.YtpoeknndkccbaaaGreat
open Go.RowKit
attribute [go_sem] more_more Array.size_append
theorem insInfo : (Tryz.prog.info? 44).map (fun i => (i.zero, i.size, i.bytes)) = some (some (.agg #[.int .i64 0, .int .i64 0, .int .i64 0, .int .i64 0]), 4, 32) := by kernel_rfl
theorem qaS {W : World} {c m : Nat} {nv sv : Value} {fi mo : Int} {ns : List Nd} {sl : List Int} {L : List (Nat × Obj)} {M R : Mk} {w : World} (h : MkS W c m nv sv fi mo ns sl L M w) (op a b nd hg : Int) (hR : M.add op a b nd hg = some R) :
  Calls Tryz.prog 23 #[.pointer (some ⟨m, 0, none⟩), .int .i64 op, .int .i64 a, .int .i64 b, .int .i64 nd, .int .i64 hg] w fun r w' => r = .returned (.int .i64 (M.ins.length : Int)) ∧ MkS W c m nv sv fi mo ns sl L R w' := by
 obtain ⟨iv, vv, h⟩ := h
 unfold Mk.add at hR
 split at hR
 rotate_left
 · cases hR
 rename_i hq
 obtain ⟨q1, q2, q3, q4, q5⟩ := hq
 have e := Option.some.inj hR
 subst e
 clear hR
 obtain ⟨n, hn⟩ : ∃ n, M.ins.length = n := ⟨_, rfl⟩
 obtain ⟨p, k, hv⟩ := qag h.ins
 rw [hn] at hv q1
 subst hv
 have HI := Lib.hid h
 have HN := Lib.hid hn
 have kc : KB c _ _ w := h.code
 have km : KB m _ _ w := h.mkr
 have HB := Lib.hid h.base
 have HKC := Lib.hid kc
 have HKM := Lib.hid km
 have x0 : w.cell? ⟨m, 0, none⟩ = some (.pointer (some ⟨c, 0, none⟩)) := km.cell 0 _ rfl
 have y2 : w.cell? ⟨c, 2, none⟩ = some (.slice p n k) := kc.cell 2 _ rfl
 have f2 := kc.frozen 2
 have lc := kc.lt
 have lm := km.lt
 have hoc : (Value.slice p n k).ownBlock ≠ some c := fun e => ((h.apart c).1 e).1 rfl
 have hom : (Value.slice p n k).ownBlock ≠ some m := fun e => ((h.apart m).1 e).2.1 rfl
 have HCM := Lib.hid (Ne.symm h.base.2.2.1)
 have HOC := Lib.hid hoc
 have HOM := Lib.hid hom
 obtain ⟨i0, hi, hz0, hz1, hz2⟩ := info_parts insInfo
 have HQ := Lib.hid (show (n : Int) ≤ 100000 ∧ n ≤ 100000 from ⟨by omega, q1⟩)
 obtain ⟨nw, hnw⟩ : ∃ x, M.now = x := ⟨_, rfl⟩
 obtain ⟨hh, hhh⟩ : ∃ x, M.high = x := ⟨_, rfl⟩
 rw [hnw] at q2 q3
 clear h hn kc km hoc hom q1
 go_enter Tryz.func23, Tryz.ntmps23
 go_wp2_with fail
 refine wp_region_held_drew (S := (fun w' => w'.cell? ⟨m, 0, none⟩ = some (.pointer (some ⟨c, 0, none⟩)))) zae (cell_ext x0 zah) (fun hS => ?_)
 refine wpAnyH_take (i := 0) (oi := _) (v := .pointer (some ⟨m, 0, none⟩)) rfl zae zae zae (fun _ _ _ h => h) (Or.inl ⟨by rfl, fun W hW => by go_simp⟩) hS ?_
 refine yab ?_
 refine wpAnyH_take (i := 1) (oi := _) (v := .pointer (some ⟨m, 0, none⟩)) rfl zae zae zae (fun _ _ _ h => h) (Or.inl ⟨by rfl, fun W hW => by go_simp⟩) hS ?_
 refine yab ?_
 refine wpAnyH_take (i := 2) (oi := _) (v := .pointer (some ⟨m, 0, none⟩)) rfl zae zae zae (fun _ _ _ h => h) (Or.inl ⟨by rfl, fun W hW => by go_simp⟩) hS ?_
 refine yab ?_
 refine wpAnyH_take (i := 3) (oi := _) (v := .pointer (some ⟨c, 0, none⟩)) rfl zae zae zae (fun _ _ _ h => h) (Or.inl ⟨by rfl, fun W hW => by (dsimp only at hW; go_simp)⟩) hS ?_
 refine yab ?_
 refine wpAnyH_take (i := 4) (oi := _) (v := .pointer (some ⟨m, 0, none⟩)) rfl zae zae zae (fun _ _ _ h => h) (Or.inl ⟨by rfl, fun W hW => by go_simp⟩) hS ?_
 refine yab ?_
 refine wpAnyH_take (i := 5) (oi := _) (v := .pointer (some ⟨m, 0, none⟩)) rfl zae zae zae (fun _ _ _ h => h) (Or.inl ⟨by rfl, fun W hW => by go_simp⟩) hS ?_
 refine yab ?_
 refine wpAnyH_take (i := 6) (oi := _) (v := .pointer (some ⟨m, 0, none⟩)) rfl zae zae zae (fun _ _ _ h => h) (Or.inl ⟨by rfl, fun W hW => by go_simp⟩) hS ?_
 refine yab ?_
 refine wpAnyH_take (i := 7) (oi := _) (v := .pointer (some ⟨c, 0, none⟩)) rfl zae zae zae (fun _ _ _ h => h) (Or.inl ⟨by rfl, fun W hW => by (dsimp only at hW; go_simp)⟩) hS ?_
 refine yab ?_
 refine wpAnyH_take (i := 8) (oi := _) (v := .pointer (some ⟨c, 0, none⟩)) rfl zae zae zae (fun _ _ _ h => h) (Or.inl ⟨by rfl, fun W hW => by go_simp⟩) hS ?_
 refine yab ?_
 refine wpAnyH_take (i := 9) (oi := _) (v := .pointer (some ⟨c, 2, none⟩)) rfl zae zae zae (fun _ _ _ h => h) (Or.inl ⟨by rfl, fun W hW => by go_simp⟩) hS ?_
 refine yab ?_
 refine wpAnyH_take (i := 11) (oi := _) (v := .int .i64 op) rfl zae zae zae (fun _ _ _ h => h) (Or.inl ⟨by rfl, fun W hW => by go_simp⟩) hS ?_
 refine yab ?_
 refine wpAnyH_take (i := 12) (oi := _) (v := .int .i64 a) rfl zae zae zae (fun _ _ _ h => h) (Or.inl ⟨by rfl, fun W hW => by go_simp⟩) hS ?_
 refine yab ?_
 refine wpAnyH_take (i := 13) (oi := _) (v := .int .i64 b) rfl zae zae zae (fun _ _ _ h => h) (Or.inl ⟨by rfl, fun W hW => by go_simp⟩) hS ?_
 refine yab ?_
 refine wpAnyH_take (i := 14) (oi := _) (v := .int .i64 nd) rfl zae zae zae (fun _ _ _ h => h) (Or.inl ⟨by rfl, fun W hW => by go_simp⟩) hS ?_
 refine yab ?_
 refine wpAnyH_take (i := 15) (oi := _) (v := .agg #[.int .i64 op, .int .i64 a, .int .i64 b, .int .i64 nd]) rfl zae zae zae (fun _ _ _ h => h) (Or.inl ⟨by rfl, fun W hW => by go_simp⟩) hS ?_
 refine yab ?_
 refine wpAnyH_ready (rs := [10, 16]) zae zay ?_
 refine AllReadyH.cons (o := _) rfl (fun K hK => ?_) (AllReadyH.cons (o := _) rfl (fun K hK => ?_) AllReadyH.nil)
 · rw [if_pos (by rfl)]
   have y2d : w.drew.cell? ⟨c, 2, none⟩ = some (.slice p n k) := cell_ext y2 zah
   go_simp
   refine hK.out _ _ ((cell_ext x0 zah)) (fun hS1 => ?_)
   clear hK K
   refine yab ?_
   refine wpAnyH_ready (rs := [16]) zae zay ?_
   refine AllReadyH.cons (o := _) rfl (fun K hK => ?_) AllReadyH.nil
   rw [if_pos (by rfl)]
   go_simp
   refine hK.out _ _ ((cell_ext x0 zah)) (fun hS2 => ?_)
   clear hK K
   refine yab ?_
   refine wpAnyH_ready (rs := [17]) zae zay ?_
   refine AllReadyH.cons (o := _) rfl (fun K hK => ?_) AllReadyH.nil
   refine step_append_lies _ rfl (.tmp 23) (.tmp 29) 59 rfl W.heap.size 44 i0 (.agg #[.int .i64 0, .int .i64 0, .int .i64 0, .int .i64 0]) 4 32 Tryz.underlying59 hi hz0 hz1 hz2 rfl zax (.slice p n k) n (insC M.ins) rfl (own_ext (by have := HI.out.ins; rw [HN.out] at this; exact this) zah) ⟨w.heap.size, 0, none⟩ 1 1 [.int .i64 op, .int .i64 a, .int .i64 b, .int .i64 nd] rfl rfl (World.news_of_block (heap_alloc_new _ _)) zde zax (by have := HQ.out.2; unfold maxLen; omega) (by have := HQ.out.2; omega) (by have := HI.out.ext.size; simp; omega) _ rfl ?_
   intro g1 cap1 w4 hown4 hgrow4 hat4 hlt4
   have kb4 : KB c _ _ w4 := (hgrow4.block c zbl (Ne.symm HOC.out)).trans (HKC.out.of_ext zah)
   have km4 : KB m _ _ w4 := (hgrow4.block m zbl (Ne.symm HOM.out)).trans (HKM.out.of_ext zah)
   have m0 : w4.cell? ⟨m, 0, none⟩ = some (.pointer (some ⟨c, 0, none⟩)) := km4.cell 0 _ rfl
   have m2 : w4.cell? ⟨c, 2, none⟩ = some (.slice p n k) := kb4.cell 2 _ rfl
   have m3 := kb4.frozen 2
   have m4 := kb4.lt
   have KM4 := Lib.hid km4
   clear kb4 km4
   refine hK.out _ _ (m0) (fun hS3 => ?_)
   clear hK K
   refine yab ?_
   refine wpAnyH_take (i := 18) (oi := _) (v := .pointer (some ⟨c, 0, none⟩)) rfl zae zae zae (fun _ _ _ h => h) (Or.inl ⟨by rfl, fun W hW => by go_simp⟩) hS3 ?_
   refine yab ?_
   refine wpAnyH_take (i := 19) (oi := _) (v := .pointer (some ⟨c, 2, none⟩)) rfl zae zae zae (fun _ _ _ h => h) (Or.inl ⟨by rfl, fun W hW => by go_simp⟩) hS3 ?_
   refine yab ?_
   refine wpAnyH_ready (rs := [20]) zae zay ?_
   refine AllReadyH.cons (o := _) rfl (fun K hK => ?_) AllReadyH.nil
   rw [if_pos (by rfl)]
   go_simp
   refine hK.out _ _ ((KM4.out.setOther 2 _ HCM.out).cell 0 (.pointer (some ⟨c, 0, none⟩)) rfl) (fun hS4 => ?_)
   clear hK K
   refine yab ?_
   refine wpAnyH_done zae ?_ _
   have hv4 : (Value.slice (some ⟨g1, 0, none⟩) (n + 1) cap1).ownBlock = (Value.slice p n k).ownBlock ∨ (Value.slice (some ⟨g1, 0, none⟩) (n + 1) cap1).ownBlock = some ((w.alloc (.cells #[.int .i64 op, .int .i64 a, .int .i64 b, .int .i64 nd] 44)).drew).heap.size := by
    rcases hat4 with e | e
    · exact Or.inl e.symm
    · exact Or.inr (by rw [← e]; rfl)
   have HP := Lib.hid (MkV.push_ins (x := ⟨op, a, b, nd⟩) (HI.out.of_ext (w' := (w.alloc (.cells #[.int .i64 op, .int .i64 a, .int .i64 b, .int .i64 nd] 44)).drew) zah) (by rw [HN.out]; exact hown4) hgrow4 hv4)
   clear hv4 hat4 hlt4 hgrow4 hown4 m0 m2 m3 m4 KM4 HKC HKM HI x0 y2 f2 lc lm
   generalize w4.setCell ⟨c, 2, none⟩ (Value.slice (some ⟨g1, 0, none⟩) (n + 1) cap1) = W1 at *
   have kc : KB c _ _ W1 := HP.out.code
   have km : KB m _ _ W1 := HP.out.mkr
   have x0 : W1.cell? ⟨m, 0, none⟩ = some (.pointer (some ⟨c, 0, none⟩)) := km.cell 0 _ rfl
   have x2 : W1.cell? ⟨m, 2, none⟩ = some (.int .i64 M.now) := km.cell 2 _ rfl
   have g2 := km.frozen 2
   have lm := km.lt
   clear kc km
   rw [hnw] at x2
   go_wp2_with fail
   have HS := Lib.hid (HP.out.setNow (nw + hg))
   clear HP x0 x2 g2 lm hS3 hS4
   generalize W1.setCell ⟨m, 2, none⟩ (Value.int IntKind.i64 (nw + hg)) = W2 at *
   have kc : KB c _ _ W2 := HS.out.code
   have km : KB m _ _ W2 := HS.out.mkr
   have x0 : W2.cell? ⟨m, 0, none⟩ = some (.pointer (some ⟨c, 0, none⟩)) := km.cell 0 _ rfl
   have x2 : W2.cell? ⟨m, 2, none⟩ = some (.int .i64 (nw + hg)) := km.cell 2 _ rfl
   have x5 : W2.cell? ⟨c, 5, none⟩ = some (.int .i64 M.high) := kc.cell 5 _ rfl
   have y2 : W2.cell? ⟨c, 2, none⟩ = some (.slice (some ⟨g1, 0, none⟩) (n + 1) cap1) := kc.cell 2 _ rfl
   have g5 := kc.frozen 5
   have lc := kc.lt
   clear kc km
   rw [hhh] at x5
   have hcm2 := HCM.out
   have hnI := HQ.out.1
   go_region
   have HT := Lib.hid ((HS.out.setHigh (max hh (nw + hg))).of_ext ((Ext.refl _).drew))
   clear HS x0 x2 x5 y2 g5 lc
   generalize (W2.setCell ⟨c, 5, none⟩ (Value.int IntKind.i64 (max hh (nw + hg)))).drew = W3 at *
   have kc : KB c _ _ W3 := HT.out.code
   have km : KB m _ _ W3 := HT.out.mkr
   have x0 : W3.cell? ⟨m, 0, none⟩ = some (.pointer (some ⟨c, 0, none⟩)) := km.cell 0 _ rfl
   have y2 : W3.cell? ⟨c, 2, none⟩ = some (.slice (some ⟨g1, 0, none⟩) (n + 1) cap1) := kc.cell 2 _ rfl
   have lc := kc.lt
   clear kc km
   go_wp2_with fail
   go_ret
   refine ⟨by (rw [HN.out]; rfl), .slice (some ⟨g1, 0, none⟩) (n + 1) cap1, vv, ?_⟩
   have := HT.out
   first | exact this | (rw [hhh, hnw]; exact this)
 · rw [if_pos (by rfl)]
   go_simp
   refine hK.out _ _ ((cell_ext x0 zah)) (fun hS1 => ?_)
   clear hK K
   refine yab ?_
   have y2a : ((w.alloc (.cells #[.int .i64 op, .int .i64 a, .int .i64 b, .int .i64 nd] 44)).drew).cell? ⟨c, 2, none⟩ = some (.slice p n k) := cell_ext y2 zah
   refine wpAnyH_ready (rs := [10]) zae zay ?_
   refine AllReadyH.cons (o := _) rfl (fun K hK => ?_) AllReadyH.nil
   rw [if_pos (by rfl)]
   go_simp
   refine hK.out _ _ ((cell_ext x0 zah)) (fun hS2 => ?_)
   clear hK K
   refine yab ?_
   refine wpAnyH_ready (rs := [17]) zae zay ?_
   refine AllReadyH.cons (o := _) rfl (fun K hK => ?_) AllReadyH.nil
   refine step_append_lies _ rfl (.tmp 23) (.tmp 29) 59 rfl W.heap.size 44 i0 (.agg #[.int .i64 0, .int .i64 0, .int .i64 0, .int .i64 0]) 4 32 Tryz.underlying59 hi hz0 hz1 hz2 rfl zax (.slice p n k) n (insC M.ins) rfl (own_ext (by have := HI.out.ins; rw [HN.out] at this; exact this) zah) ⟨w.heap.size, 0, none⟩ 1 1 [.int .i64 op, .int .i64 a, .int .i64 b, .int .i64 nd] rfl rfl (World.news_of_block (heap_alloc_new _ _)) zde zax (by have := HQ.out.2; unfold maxLen; omega) (by have := HQ.out.2; omega) (by have := HI.out.ext.size; simp; omega) _ rfl ?_
   intro g1 cap1 w4 hown4 hgrow4 hat4 hlt4
   have kb4 : KB c _ _ w4 := (hgrow4.block c zbl (Ne.symm HOC.out)).trans (HKC.out.of_ext zah)
   have km4 : KB m _ _ w4 := (hgrow4.block m zbl (Ne.symm HOM.out)).trans (HKM.out.of_ext zah)
   have m0 : w4.cell? ⟨m, 0, none⟩ = some (.pointer (some ⟨c, 0, none⟩)) := km4.cell 0 _ rfl
   have m2 : w4.cell? ⟨c, 2, none⟩ = some (.slice p n k) := kb4.cell 2 _ rfl
   have m3 := kb4.frozen 2
   have m4 := kb4.lt
   have KM4 := Lib.hid km4
   clear kb4 km4
   refine hK.out _ _ (m0) (fun hS3 => ?_)
   clear hK K
   refine yab ?_
   refine wpAnyH_take (i := 18) (oi := _) (v := .pointer (some ⟨c, 0, none⟩)) rfl zae zae zae (fun _ _ _ h => h) (Or.inl ⟨by rfl, fun W hW => by go_simp⟩) hS3 ?_
   refine yab ?_
   refine wpAnyH_take (i := 19) (oi := _) (v := .pointer (some ⟨c, 2, none⟩)) rfl zae zae zae (fun _ _ _ h => h) (Or.inl ⟨by rfl, fun W hW => by go_simp⟩) hS3 ?_
   refine yab ?_
   refine wpAnyH_ready (rs := [20]) zae zay ?_
   refine AllReadyH.cons (o := _) rfl (fun K hK => ?_) AllReadyH.nil
   rw [if_pos (by rfl)]
   go_simp
   refine hK.out _ _ ((KM4.out.setOther 2 _ HCM.out).cell 0 (.pointer (some ⟨c, 0, none⟩)) rfl) (fun hS4 => ?_)
   clear hK K
   refine yab ?_
   refine wpAnyH_done zae ?_ _
   have hv4 : (Value.slice (some ⟨g1, 0, none⟩) (n + 1) cap1).ownBlock = (Value.slice p n k).ownBlock ∨ (Value.slice (some ⟨g1, 0, none⟩) (n + 1) cap1).ownBlock = some ((w.alloc (.cells #[.int .i64 op, .int .i64 a, .int .i64 b, .int .i64 nd] 44)).drew).heap.size := by
    rcases hat4 with e | e
    · exact Or.inl e.symm
    · exact Or.inr (by rw [← e]; rfl)
   have HP := Lib.hid (MkV.push_ins (x := ⟨op, a, b, nd⟩) (HI.out.of_ext (w' := (w.alloc (.cells #[.int .i64 op, .int .i64 a, .int .i64 b, .int .i64 nd] 44)).drew) zah) (by rw [HN.out]; exact hown4) hgrow4 hv4)
   clear hv4 hat4 hlt4 hgrow4 hown4 m0 m2 m3 m4 KM4 HKC HKM HI x0 y2 f2 lc lm
   generalize w4.setCell ⟨c, 2, none⟩ (Value.slice (some ⟨g1, 0, none⟩) (n + 1) cap1) = W1 at *
   have kc : KB c _ _ W1 := HP.out.code
   have km : KB m _ _ W1 := HP.out.mkr
   have x0 : W1.cell? ⟨m, 0, none⟩ = some (.pointer (some ⟨c, 0, none⟩)) := km.cell 0 _ rfl
   have x2 : W1.cell? ⟨m, 2, none⟩ = some (.int .i64 M.now) := km.cell 2 _ rfl
   have g2 := km.frozen 2
   have lm := km.lt
   clear kc km
   rw [hnw] at x2
   go_wp2_with fail
   have HS := Lib.hid (HP.out.setNow (nw + hg))
   clear HP x0 x2 g2 lm hS3 hS4
   generalize W1.setCell ⟨m, 2, none⟩ (Value.int IntKind.i64 (nw + hg)) = W2 at *
   have kc : KB c _ _ W2 := HS.out.code
   have km : KB m _ _ W2 := HS.out.mkr
   have x0 : W2.cell? ⟨m, 0, none⟩ = some (.pointer (some ⟨c, 0, none⟩)) := km.cell 0 _ rfl
   have x2 : W2.cell? ⟨m, 2, none⟩ = some (.int .i64 (nw + hg)) := km.cell 2 _ rfl
   have x5 : W2.cell? ⟨c, 5, none⟩ = some (.int .i64 M.high) := kc.cell 5 _ rfl
   have y2 : W2.cell? ⟨c, 2, none⟩ = some (.slice (some ⟨g1, 0, none⟩) (n + 1) cap1) := kc.cell 2 _ rfl
   have g5 := kc.frozen 5
   have lc := kc.lt
   clear kc km
   rw [hhh] at x5
   have hcm2 := HCM.out
   have hnI := HQ.out.1
   go_region
   have HT := Lib.hid ((HS.out.setHigh (max hh (nw + hg))).of_ext ((Ext.refl _).drew))
   clear HS x0 x2 x5 y2 g5 lc
   generalize (W2.setCell ⟨c, 5, none⟩ (Value.int IntKind.i64 (max hh (nw + hg)))).drew = W3 at *
   have kc : KB c _ _ W3 := HT.out.code
   have km : KB m _ _ W3 := HT.out.mkr
   have x0 : W3.cell? ⟨m, 0, none⟩ = some (.pointer (some ⟨c, 0, none⟩)) := km.cell 0 _ rfl
   have y2 : W3.cell? ⟨c, 2, none⟩ = some (.slice (some ⟨g1, 0, none⟩) (n + 1) cap1) := kc.cell 2 _ rfl
   have lc := kc.lt
   clear kc km
   go_wp2_with fail
   go_ret
   refine ⟨by (rw [HN.out]; rfl), .slice (some ⟨g1, 0, none⟩) (n + 1) cap1, vv, ?_⟩
   have := HT.out
   first | exact this | (rw [hhh, hnw]; exact this)
end Go.Proofs.YtpoeknndkccbaaaGreat

namespace Go.Proofs.YtpoeknndkccbaaaGreat
open Go.RowKit
attribute [go_sem] more_more Array.size_append
theorem qbx {W : World} {c m : Nat} {nv sv : Value} {fi mo : Int} {ns : List Nd} {sl : List Int} {L : List (Nat × Obj)} {M R : Mk} {w : World} (h : MkS W c m nv sv fi mo ns sl L M w) (op a b nd hg : Int) (hR : M.add op a b nd hg = some R) :
  Calls Tryz.prog 40 #[.pointer (some ⟨m, 0, none⟩), .int .i64 op, .int .i64 a, .int .i64 b, .int .i64 nd, .int .i64 hg] w fun r w' => ∃ km ko ki, r = .returned (.func (.func 64) #[] #[.pointer (some ⟨ko, 0, none⟩), .pointer (some ⟨km, 0, none⟩), .pointer (some ⟨ki, 0, none⟩)]) ∧ MkS W c m nv sv fi mo ns sl ((ki, .cells #[.int .i64 (M.ins.length : Int)] 3 (0, 0)) :: (ko, .cells #[.int .i64 op] 3 (0, 0)) :: (km, .cells #[.pointer (some ⟨m, 0, none⟩)] 57 (0, 0)) :: L) R w' := by
 have hmf : ∀ (fn : Fn) (first cap : Array Value) (w : World), (Instr.makeFunc fn first cap).run Tryz.prog w = .ok (.func fn first cap) w := fun _ _ _ _ => rfl
 have H0 := Lib.hid ((h.locNew (.cells #[.pointer (some ⟨m, 0, none⟩)] 57 (0, 0))).locNew (.cells #[.int .i64 op] 3 (0, 0)))
 rw [World.size_alloc] at H0
 have AD := Lib.hid (qaS H0.out op a b nd hg hR)
 clear h hR
 go_enter Tryz.func40, Tryz.ntmps40
 go_wp2_with ((with_reducible refine AD.out.mono ?_); rintro e' w2 ⟨rfl, h2⟩; have H2 := Lib.hid h2; clear h2)
 go_ret
 exact ⟨w.heap.size, w.heap.size + 1, w2.heap.size, rfl, H2.out.locNew _⟩
theorem qbV {W : World} {c m : Nat} {nv sv : Value} {fi mo : Int} {ns : List Nd} {sl : List Int} {L : List (Nat × Obj)} {M R : Mk} {w : World} (h : MkS W c m nv sv fi mo ns sl L M w) {km ko ki j : Nat} {op : Int} (b1 : (ki, Obj.cells #[.int .i64 (j : Int)] 3 (0, 0)) ∈ L) (b2 : (ko, Obj.cells #[.int .i64 op] 3 (0, 0)) ∈ L) (b3 : (km, Obj.cells #[.pointer (some ⟨m, 0, none⟩)] 57 (0, 0)) ∈ L) (hR : (if op = 13 ∨ op = 15 then M.setB j else M.setA j) = some R) :
  Calls Tryz.prog 64 #[.pointer (some ⟨ko, 0, none⟩), .pointer (some ⟨km, 0, none⟩), .pointer (some ⟨ki, 0, none⟩)] w fun r w' => r = .returned (.tuple #[]) ∧ MkS W c m nv sv fi mo ns sl L R w' := by
 have K1 := h.locAt b1
 have K2 := h.locAt b2
 have K3 := h.locAt b3
 have u1 := K1.cell 0 _ rfl
 have u2 := K2.cell 0 _ rfl
 have u3 := K3.cell 0 _ rfl
 have v1 := K1.lt
 have v2 := K2.lt
 have v3 := K3.lt
 obtain ⟨iv, vv, h⟩ := h
 have hx : ∃ x, M.ins[j]? = some x ∧ M.ins.length ≤ 100000 := by
  split at hR
  · unfold Mk.setB at hR
    split at hR
    · cases hR
    · rename_i x hx; split at hR
      · rename_i q; exact ⟨x, hx, q⟩
      · cases hR
  · unfold Mk.setA at hR
    split at hR
    · cases hR
    · rename_i x hx; split at hR
      · rename_i q; exact ⟨x, hx, q⟩
      · cases hR
 obtain ⟨x, hx, hl⟩ := hx
 have hj := (List.getElem?_eq_some_iff.1 hx).1
 obtain ⟨n, hn⟩ : ∃ n, M.ins.length = n := ⟨_, rfl⟩
 obtain ⟨g, k, hv, _, hg⟩ := h.ins.form zaf
 rw [hn] at hv hl hj
 subst hv
 have kc : KB c _ _ w := h.code
 have km' : KB m _ _ w := h.mkr
 have x0 := km'.cell 0 _ rfl
 have y2 := kc.cell 2 _ rfl
 have lc := kc.lt
 have lm := km'.lt
 have hc := h.ins.cells (g := g) rfl
 obtain ⟨_, ia, ib, _⟩ := qei M.ins j x hx
 have z1 := hc _ _ ia
 have z2 := hc _ _ ib
 rw [Addr.add_lit, Nat.zero_add] at z1 z2
 have fz := fun i => qdR h.ins i
 have z3 := fz (j * 4 + 1)
 have z4 := fz (j * 4 + 2)
 have hjI : (j : Int) < (n : Int) := by omega
 have hj0 : (0 : Int) ≤ (j : Int) := by omega
 have hnI : (n : Int) ≤ 100000 := by omega
 have HI := Lib.hid h
 have HN := Lib.hid hn
 have HX := Lib.hid hx
 have HJ := Lib.hid hj
 have HL := Lib.hid hl
 by_cases ho : op = 13 ∨ op = 15
 · rw [if_pos ho] at hR
   have o1 : ((op == 13) = true) ∨ (op == 13) = false ∧ (op == 15) = true := by rcases ho with h | h <;> subst h <;> simp
   clear ho
   unfold Mk.setB at hR
   rw [hx] at hR
   dsimp only at hR
   rw [if_pos zaf] at hR
   have e := Option.some.inj hR
   subst e
   have fin : MkS W c m nv sv fi mo ns sl L { M with ins := M.ins.set j { x with b := (M.ins.length : Int) } } (w.setCell ⟨g, j * 4 + 2, none⟩ (.int .i64 (n : Int))).drew := MkS.of_ext ⟨_, _, HI.out.setIns (j * 4 + 2) (.int .i64 (n : Int)) _ (by have := HJ.out; have := HN.out; omega) HN.out (by rw [← HN.out]; exact insC_setB _ _ _ _ HX.out) zay⟩ ((Ext.refl _).drew)
   have FIN := Lib.hid fin
   clear fin
   clear h K1 K2 K3 hx hn hl hR fz hc hj
   rcases o1 with o1 | ⟨o1, o2⟩
   · go_enter Tryz.func64, Tryz.ntmps64
     go_wp2_with fail
     go_region
     all_goals
      go_end0
      exact ⟨rfl, FIN.out⟩
   · go_enter Tryz.func64, Tryz.ntmps64
     go_wp2_with fail
     go_region
     all_goals
      go_end0
      exact ⟨rfl, FIN.out⟩
 · rw [if_neg ho] at hR
   have o1 : (op == 13) = false := by have : op ≠ 13 := fun e => ho (Or.inl e); simpa using this
   have o2 : (op == 15) = false := by have : op ≠ 15 := fun e => ho (Or.inr e); simpa using this
   clear ho
   unfold Mk.setA at hR
   rw [hx] at hR
   dsimp only at hR
   rw [if_pos zaf] at hR
   have e := Option.some.inj hR
   subst e
   have fin : MkS W c m nv sv fi mo ns sl L { M with ins := M.ins.set j { x with a := (M.ins.length : Int) } } (w.setCell ⟨g, j * 4 + 1, none⟩ (.int .i64 (n : Int))).drew := MkS.of_ext ⟨_, _, HI.out.setIns (j * 4 + 1) (.int .i64 (n : Int)) _ (by have := HJ.out; have := HN.out; omega) HN.out (by rw [← HN.out]; exact insC_setA _ _ _ _ HX.out) zay⟩ ((Ext.refl _).drew)
   have FIN := Lib.hid fin
   clear fin
   clear h K1 K2 K3 hx hn hl hR fz hc hj
   go_enter Tryz.func64, Tryz.ntmps64
   go_wp2_with fail
   go_region
   all_goals
    go_end0
    exact ⟨rfl, FIN.out⟩
end Go.Proofs.YtpoeknndkccbaaaGreat

namespace Go.Proofs.YtpoeknndkccbaaaGreat
open Go.RowKit
attribute [go_sem] more_more Array.size_append
theorem vindex_any {w : World} {base : Nat} {v : Value} {l : List (Int × Int × ByteArray)} (h : w.ownsRow base 48 3 v l.length (valC3 l)) (hl : l.length ≤ 100000) (k0 i0 : Int) (s0 : ByteArray) :
  Calls Tryz.prog 97 #[v, .agg #[.int .i64 k0, .int .i64 i0, .string s0]] w fun r w' => r = .returned (.int .i64 (vidx (k0, i0, s0) l 0)) ∧ Ext w w' := by
 obtain ⟨n, hn⟩ : ∃ n, l.length = n := ⟨_, rfl⟩
 obtain ⟨p, c, hv⟩ := qag h
 rw [hn] at hv hl
 subst hv
 have H := Lib.hid h
 have HN := Lib.hid hn
 have hni : (n : Int) ≤ 100000 := by omega
 clear h hn hl
 go_enter Tryz.func97, Tryz.ntmps97
 go_wp2_with fail
 go_loopw [8] (fun y8 wr => ∃ k : Nat, y8 = .int .i64 (k : Int) ∧ k ≤ n ∧ vidx (k0, i0, s0) (l.drop k) (k : Int) = vidx (k0, i0, s0) l 0 ∧ ∃ d os, wr = more (w.alloc (.cells #[.int .i64 k0, .int .i64 i0, .string s0] 48)) d os) (fun y8 _ => n - (intOf y8).toNat)
 case atStart => exact ⟨0, rfl, Nat.zero_le _, rfl, by first | exact ⟨_, _, rfl⟩ | exact ⟨w.drawn, #[], by simp [more]; rfl⟩⟩
 case round =>
  obtain ⟨k, rfl, hk, hq, d, os, rfl⟩ := hrel
  have hk0 : 0 ≤ (k : Int) := by omega
  have HQ := Lib.hid hq
  clear hq
  by_cases hlt : k < n
  · have hki : (k : Int) < (n : Int) := by omega
    have hp : ∃ g, p = some ⟨g, 0, none⟩ := by
     rcases Go.Joins.ownsRow_forms H.out with ⟨_, h0⟩ | ⟨g1, c1, h0⟩
     · have := HN.out; omega
     · simp at h0; exact ⟨g1, h0.1⟩
    obtain ⟨g, rfl⟩ := hp
    obtain ⟨⟨xk, xi, xs⟩, hx⟩ : ∃ x, l[k]? = some x := ⟨_, List.getElem?_eq_getElem (by rw [HN.out]; exact hlt)⟩
    obtain ⟨a0, a1, a2⟩ := valC3_get l k _ hx
    have hc := H.out.cells (g := g) rfl
    have d0 := hc _ _ a0
    have d1 := hc _ _ a1
    have d2 := hc _ _ a2
    rw [Addr.add_lit, Nat.zero_add] at d0 d1 d2
    dsimp only at d0 d1 d2
    have hg := (H.out.lt g rfl).2
    have hdr : l.drop k = (xk, xi, xs) :: l.drop (k + 1) := by
     have hlt2 : k < l.length := by rw [HN.out]; exact hlt
     rw [List.drop_eq_getElem_cons hlt2]
     rw [List.getElem?_eq_getElem hlt2] at hx
     rw [Option.some.inj hx]
    have HV := Lib.hid (show (if veq (xk, xi, xs) (k0, i0, s0) = true then (k : Int) else vidx (k0, i0, s0) (l.drop (k + 1)) ((k : Int) + 1)) = vidx (k0, i0, s0) l 0 from by have := HQ.out; rw [hdr] at this; simp only [vidx] at this; exact this)
    have HLT := Lib.hid hlt
    clear a0 a1 a2 hc hx hdr hlt HQ
    by_cases e1 : k0 = xk
    · subst e1
      by_cases e2 : i0 = xi
      · subst e2
        by_cases e3 : s0.toList = xs.toList
        · have hb : veq (k0, i0, xs) (k0, i0, s0) = true := by simp [veq, e3]
          have HV2 := Lib.hid (HV.out.symm.trans (if_pos hb))
          clear HV hb
          go_wp2_with fail
          go_region
          go_wp2_with fail
          go_ret
          exact ⟨by rw [HV2.out]; rfl, zaa⟩
        · have hb : veq (k0, i0, xs) (k0, i0, s0) = false := by (simp [veq]; exact fun e => e3 e.symm)
          have HV2 := Lib.hid (HV.out.symm.trans (if_neg zdm))
          clear HV hb
          go_wp2_with fail
          go_region
          go_wp2_with fail
          go_roundw
          case rel => exact ⟨k + 1, by go_num, by have := HLT.out; omega, by have := HV2.out; push_cast; exact this.symm, _, _, rfl⟩
          case measure => have := HLT.out; simp [intOf]; omega
      · have hb : veq (k0, xi, xs) (k0, i0, s0) = false := by simp [veq, Ne.symm e2]
        have HV2 := Lib.hid (HV.out.symm.trans (if_neg zdm))
        clear HV hb
        go_wp2_with fail
        go_region
        go_wp2_with fail
        go_roundw
        case rel => exact ⟨k + 1, by go_num, by have := HLT.out; omega, by have := HV2.out; push_cast; exact this.symm, _, _, rfl⟩
        case measure => have := HLT.out; simp [intOf]; omega
    · have hb : veq (xk, xi, xs) (k0, i0, s0) = false := by simp [veq, Ne.symm e1]
      have HV2 := Lib.hid (HV.out.symm.trans (if_neg zdm))
      clear HV hb
      go_wp2_with fail
      go_region
      go_wp2_with fail
      go_roundw
      case rel => exact ⟨k + 1, by go_num, by have := HLT.out; omega, by have := HV2.out; push_cast; exact this.symm, _, _, rfl⟩
      case measure => have := HLT.out; simp [intOf]; omega
  · have hke : k = n := by omega
    subst hke
    have e0 : vidx (k0, i0, s0) l 0 = -1 := by
     have := HQ.out
     rw [List.drop_eq_nil_of_le (by have := HN.out; omega)] at this
     exact this.symm
    have E0 := Lib.hid e0
    clear hlt e0
    go_wp2_with fail
    go_ret
    exact ⟨by (rw [E0.out]; rfl), zaa⟩
theorem results_cell {fn : Func} {p : Tmp} {ty : TypeId} (h : fn.results = #[.cell p ty]) (tmps : Array Value) (w : World) (a : Addr) (r : Value)
  (hp : tmps.getD p undef = .pointer (some a)) (hl : (loadVar ty a).run Tryz.prog w = .ok r w) :
  (results fn tmps).run Tryz.prog w = .ok r w := by
 have hp' : tmps[p]?.getD undef = .pointer (some a) := by simpa using hp
 simp [results, h, hp', asAddr, hl]
theorem csigns_any (w : World) : Calls Tryz.prog 128 #[] w fun r w' => r = .returned (.agg #[.string ⟨#[61, 61]⟩, .string ⟨#[33, 61]⟩, .string ⟨#[60]⟩, .string ⟨#[60, 61]⟩, .string ⟨#[62]⟩, .string ⟨#[62, 61]⟩, .string ⟨#[43]⟩, .string ⟨#[45]⟩, .string ⟨#[42]⟩, .string ⟨#[47]⟩, .string ⟨#[37]⟩, .string ⟨#[46, 46]⟩]) ∧ Ext w w' := by
 go_enter Tryz.func128, Tryz.ntmps128
 go_wp2_with fail
 exact bodyPost_ret (results_cell (p := 0) (ty := 165) rfl _ _ ⟨w.heap.size, 0, none⟩ _ rfl (run_loadVar_row _ w.heap.size 165 165 #[.string ⟨#[61, 61]⟩, .string ⟨#[33, 61]⟩, .string ⟨#[60]⟩, .string ⟨#[60, 61]⟩, .string ⟨#[62]⟩, .string ⟨#[62, 61]⟩, .string ⟨#[43]⟩, .string ⟨#[45]⟩, .string ⟨#[42]⟩, .string ⟨#[47]⟩, .string ⟨#[37]⟩, .string ⟨#[46, 46]⟩] (0, 0) _ (heap_alloc_new _ _) Tryz.underlying165 rfl zae)) rfl ⟨rfl, (Ext.refl w).alloc _⟩
theorem csign_gen (s x0 x1 x2 x3 x4 x5 x6 x7 x8 x9 x10 x11 : ByteArray) (w : World) (hsg : ∀ W, Calls Tryz.prog 128 #[] W fun r w' => r = .returned (.agg #[.string x0, .string x1, .string x2, .string x3, .string x4, .string x5, .string x6, .string x7, .string x8, .string x9, .string x10, .string x11]) ∧ Ext W w') : Calls Tryz.prog 98 #[.string s] w fun r w' => r = .returned (.int .i64 (sidx s [x0, x1, x2, x3, x4, x5, x6, x7, x8, x9, x10, x11] 0)) ∧ Ext w w' := by
 have SG := Lib.hid hsg
 clear hsg
 obtain ⟨r, hr⟩ : ∃ r, sidx s [x0, x1, x2, x3, x4, x5, x6, x7, x8, x9, x10, x11] 0 = r := ⟨_, rfl⟩
 rw [hr]
 have I0 : ∀ W : World, (Instr.index 165 (.agg #[.string x0, .string x1, .string x2, .string x3, .string x4, .string x5, .string x6, .string x7, .string x8, .string x9, .string x10, .string x11]) (.int .i64 0)).run Tryz.prog W = .ok (.string x0) W := fun W => by kernel_rfl
 have I1 : ∀ W : World, (Instr.index 165 (.agg #[.string x0, .string x1, .string x2, .string x3, .string x4, .string x5, .string x6, .string x7, .string x8, .string x9, .string x10, .string x11]) (.int .i64 1)).run Tryz.prog W = .ok (.string x1) W := fun W => by kernel_rfl
 have I2 : ∀ W : World, (Instr.index 165 (.agg #[.string x0, .string x1, .string x2, .string x3, .string x4, .string x5, .string x6, .string x7, .string x8, .string x9, .string x10, .string x11]) (.int .i64 2)).run Tryz.prog W = .ok (.string x2) W := fun W => by kernel_rfl
 have I3 : ∀ W : World, (Instr.index 165 (.agg #[.string x0, .string x1, .string x2, .string x3, .string x4, .string x5, .string x6, .string x7, .string x8, .string x9, .string x10, .string x11]) (.int .i64 3)).run Tryz.prog W = .ok (.string x3) W := fun W => by kernel_rfl
 have I4 : ∀ W : World, (Instr.index 165 (.agg #[.string x0, .string x1, .string x2, .string x3, .string x4, .string x5, .string x6, .string x7, .string x8, .string x9, .string x10, .string x11]) (.int .i64 4)).run Tryz.prog W = .ok (.string x4) W := fun W => by kernel_rfl
 have I5 : ∀ W : World, (Instr.index 165 (.agg #[.string x0, .string x1, .string x2, .string x3, .string x4, .string x5, .string x6, .string x7, .string x8, .string x9, .string x10, .string x11]) (.int .i64 5)).run Tryz.prog W = .ok (.string x5) W := fun W => by kernel_rfl
 have I6 : ∀ W : World, (Instr.index 165 (.agg #[.string x0, .string x1, .string x2, .string x3, .string x4, .string x5, .string x6, .string x7, .string x8, .string x9, .string x10, .string x11]) (.int .i64 6)).run Tryz.prog W = .ok (.string x6) W := fun W => by kernel_rfl
 have I7 : ∀ W : World, (Instr.index 165 (.agg #[.string x0, .string x1, .string x2, .string x3, .string x4, .string x5, .string x6, .string x7, .string x8, .string x9, .string x10, .string x11]) (.int .i64 7)).run Tryz.prog W = .ok (.string x7) W := fun W => by kernel_rfl
 have I8 : ∀ W : World, (Instr.index 165 (.agg #[.string x0, .string x1, .string x2, .string x3, .string x4, .string x5, .string x6, .string x7, .string x8, .string x9, .string x10, .string x11]) (.int .i64 8)).run Tryz.prog W = .ok (.string x8) W := fun W => by kernel_rfl
 have I9 : ∀ W : World, (Instr.index 165 (.agg #[.string x0, .string x1, .string x2, .string x3, .string x4, .string x5, .string x6, .string x7, .string x8, .string x9, .string x10, .string x11]) (.int .i64 9)).run Tryz.prog W = .ok (.string x9) W := fun W => by kernel_rfl
 have I10 : ∀ W : World, (Instr.index 165 (.agg #[.string x0, .string x1, .string x2, .string x3, .string x4, .string x5, .string x6, .string x7, .string x8, .string x9, .string x10, .string x11]) (.int .i64 10)).run Tryz.prog W = .ok (.string x10) W := fun W => by kernel_rfl
 have I11 : ∀ W : World, (Instr.index 165 (.agg #[.string x0, .string x1, .string x2, .string x3, .string x4, .string x5, .string x6, .string x7, .string x8, .string x9, .string x10, .string x11]) (.int .i64 11)).run Tryz.prog W = .ok (.string x11) W := fun W => by kernel_rfl
 have HR := Lib.hid hr
 clear hr
 go_enter Tryz.func98, Tryz.ntmps98
 go_wp2_with ((with_reducible refine (SG.out _).mono ?_); rintro e' w1 ⟨rfl, hx⟩; have HX := Lib.hid hx; clear hx)
 go_loopw [6] (fun y6 wr => ∃ k : Nat, y6 = .int .i64 (k : Int) ∧ k ≤ 12 ∧ sidx s ([x0, x1, x2, x3, x4, x5, x6, x7, x8, x9, x10, x11].drop k) (k : Int) = r ∧ wr = w1) (fun y6 _ => 12 - (intOf y6).toNat)
 case atStart => exact ⟨0, rfl, Nat.zero_le _, HR.out, rfl⟩
 case round =>
  obtain ⟨k, rfl, hk, hq, rfl⟩ := hrel
  have hc : k = 0 ∨ k = 1 ∨ k = 2 ∨ k = 3 ∨ k = 4 ∨ k = 5 ∨ k = 6 ∨ k = 7 ∨ k = 8 ∨ k = 9 ∨ k = 10 ∨ k = 11 ∨ k = 12 := by omega
  rcases hc with rfl | rfl | rfl | rfl | rfl | rfl | rfl | rfl | rfl | rfl | rfl | rfl | rfl
  · simp only [List.drop_succ_cons, List.drop_zero, sidx] at hq
    cases hb : (x0.toList == s.toList)
    · have HQ := Lib.hid (hq.symm.trans (if_neg zdm))
      clear hq
      go_wp2_with fail
      go_roundw
      case rel => exact ⟨1, by go_num, by omega, by have := HQ.out; simp only [List.drop_succ_cons, List.drop_zero]; exact this.symm, by first | rfl | trivial⟩
      case measure => simp [intOf]
    · have HQ := Lib.hid (hq.symm.trans (if_pos hb))
      clear hq
      go_wp2_with fail
      go_ret
      exact ydt
  · simp only [List.drop_succ_cons, List.drop_zero, sidx] at hq
    cases hb : (x1.toList == s.toList)
    · have HQ := Lib.hid (hq.symm.trans (if_neg zdm))
      clear hq
      go_wp2_with fail
      go_roundw
      case rel => exact ⟨2, by go_num, by omega, by have := HQ.out; simp only [List.drop_succ_cons, List.drop_zero]; exact this.symm, by first | rfl | trivial⟩
      case measure => simp [intOf]
    · have HQ := Lib.hid (hq.symm.trans (if_pos hb))
      clear hq
      go_wp2_with fail
      go_ret
      exact ydt
  · simp only [List.drop_succ_cons, List.drop_zero, sidx] at hq
    cases hb : (x2.toList == s.toList)
    · have HQ := Lib.hid (hq.symm.trans (if_neg zdm))
      clear hq
      go_wp2_with fail
      go_roundw
      case rel => exact ⟨3, by go_num, by omega, by have := HQ.out; simp only [List.drop_succ_cons, List.drop_zero]; exact this.symm, by first | rfl | trivial⟩
      case measure => simp [intOf]
    · have HQ := Lib.hid (hq.symm.trans (if_pos hb))
      clear hq
      go_wp2_with fail
      go_ret
      exact ydt
  · simp only [List.drop_succ_cons, List.drop_zero, sidx] at hq
    cases hb : (x3.toList == s.toList)
    · have HQ := Lib.hid (hq.symm.trans (if_neg zdm))
      clear hq
      go_wp2_with fail
      go_roundw
      case rel => exact ⟨4, by go_num, by omega, by have := HQ.out; simp only [List.drop_succ_cons, List.drop_zero]; exact this.symm, by first | rfl | trivial⟩
      case measure => simp [intOf]
    · have HQ := Lib.hid (hq.symm.trans (if_pos hb))
      clear hq
      go_wp2_with fail
      go_ret
      exact ydt
  · simp only [List.drop_succ_cons, List.drop_zero, sidx] at hq
    cases hb : (x4.toList == s.toList)
    · have HQ := Lib.hid (hq.symm.trans (if_neg zdm))
      clear hq
      go_wp2_with fail
      go_roundw
      case rel => exact ⟨5, by go_num, by omega, by have := HQ.out; simp only [List.drop_succ_cons, List.drop_zero]; exact this.symm, by first | rfl | trivial⟩
      case measure => simp [intOf]
    · have HQ := Lib.hid (hq.symm.trans (if_pos hb))
      clear hq
      go_wp2_with fail
      go_ret
      exact ydt
  · simp only [List.drop_succ_cons, List.drop_zero, sidx] at hq
    cases hb : (x5.toList == s.toList)
    · have HQ := Lib.hid (hq.symm.trans (if_neg zdm))
      clear hq
      go_wp2_with fail
      go_roundw
      case rel => exact ⟨6, by go_num, by omega, by have := HQ.out; simp only [List.drop_succ_cons, List.drop_zero]; exact this.symm, by first | rfl | trivial⟩
      case measure => simp [intOf]
    · have HQ := Lib.hid (hq.symm.trans (if_pos hb))
      clear hq
      go_wp2_with fail
      go_ret
      exact ydt
  · simp only [List.drop_succ_cons, List.drop_zero, sidx] at hq
    cases hb : (x6.toList == s.toList)
    · have HQ := Lib.hid (hq.symm.trans (if_neg zdm))
      clear hq
      go_wp2_with fail
      go_roundw
      case rel => exact ⟨7, by go_num, by omega, by have := HQ.out; simp only [List.drop_succ_cons, List.drop_zero]; exact this.symm, by first | rfl | trivial⟩
      case measure => simp [intOf]
    · have HQ := Lib.hid (hq.symm.trans (if_pos hb))
      clear hq
      go_wp2_with fail
      go_ret
      exact ydt
  · simp only [List.drop_succ_cons, List.drop_zero, sidx] at hq
    cases hb : (x7.toList == s.toList)
    · have HQ := Lib.hid (hq.symm.trans (if_neg zdm))
      clear hq
      go_wp2_with fail
      go_roundw
      case rel => exact ⟨8, by go_num, by omega, by have := HQ.out; simp only [List.drop_succ_cons, List.drop_zero]; exact this.symm, by first | rfl | trivial⟩
      case measure => simp [intOf]
    · have HQ := Lib.hid (hq.symm.trans (if_pos hb))
      clear hq
      go_wp2_with fail
      go_ret
      exact ydt
  · simp only [List.drop_succ_cons, List.drop_zero, sidx] at hq
    cases hb : (x8.toList == s.toList)
    · have HQ := Lib.hid (hq.symm.trans (if_neg zdm))
      clear hq
      go_wp2_with fail
      go_roundw
      case rel => exact ⟨9, by go_num, by omega, by have := HQ.out; simp only [List.drop_succ_cons, List.drop_zero]; exact this.symm, by first | rfl | trivial⟩
      case measure => simp [intOf]
    · have HQ := Lib.hid (hq.symm.trans (if_pos hb))
      clear hq
      go_wp2_with fail
      go_ret
      exact ydt
  · simp only [List.drop_succ_cons, List.drop_zero, sidx] at hq
    cases hb : (x9.toList == s.toList)
    · have HQ := Lib.hid (hq.symm.trans (if_neg zdm))
      clear hq
      go_wp2_with fail
      go_roundw
      case rel => exact ⟨10, by go_num, by omega, by have := HQ.out; simp only [List.drop_succ_cons, List.drop_zero]; exact this.symm, by first | rfl | trivial⟩
      case measure => simp [intOf]
    · have HQ := Lib.hid (hq.symm.trans (if_pos hb))
      clear hq
      go_wp2_with fail
      go_ret
      exact ydt
  · simp only [List.drop_succ_cons, List.drop_zero, sidx] at hq
    cases hb : (x10.toList == s.toList)
    · have HQ := Lib.hid (hq.symm.trans (if_neg zdm))
      clear hq
      go_wp2_with fail
      go_roundw
      case rel => exact ⟨11, by go_num, by omega, by have := HQ.out; simp only [List.drop_succ_cons, List.drop_zero]; exact this.symm, by first | rfl | trivial⟩
      case measure => simp [intOf]
    · have HQ := Lib.hid (hq.symm.trans (if_pos hb))
      clear hq
      go_wp2_with fail
      go_ret
      exact ydt
  · simp only [List.drop_succ_cons, List.drop_zero, sidx] at hq
    cases hb : (x11.toList == s.toList)
    · have HQ := Lib.hid (hq.symm.trans (if_neg zdm))
      clear hq
      go_wp2_with fail
      go_roundw
      case rel => exact ⟨12, by go_num, by omega, by have := HQ.out; simp only [List.drop_succ_cons, List.drop_zero]; exact this.symm, by first | rfl | trivial⟩
      case measure => simp [intOf]
    · have HQ := Lib.hid (hq.symm.trans (if_pos hb))
      clear hq
      go_wp2_with fail
      go_ret
      exact ydt
  · simp only [List.drop_succ_cons, List.drop_zero, List.drop_nil, sidx] at hq
    have HQ := Lib.hid hq
    clear hq
    go_wp2_with fail
    go_ret
    exact ⟨by (rw [← HQ.out]; rfl), HX.out⟩
theorem csign_any (s : ByteArray) (w : World) : Calls Tryz.prog 98 #[.string s] w fun r w' => r = .returned (.int .i64 (csgF s)) ∧ Ext w w' := csign_gen s _ _ _ _ _ _ _ _ _ _ _ _ w csigns_any
end Go.Proofs.YtpoeknndkccbaaaGreat
