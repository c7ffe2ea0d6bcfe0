/- Lemmas. -/
import Derived.Test.YtpoeknndkccbaaaGreatO19
import Derived.StillTailTactics
set_option linter.unusedSimpArgs false
set_option linter.unusedVariables false
set_option maxHeartbeats 8000000
set_option maxRecDepth 20000
namespace Go.Proofs.YtpoeknndkccbaaaGreat
open Go.RowKit
variable {W : World} {c f m : Nat} {nv sv : Value} {fi mo : Int} {ns : List Nd} {sl : List Int}
attribute [go_sem] more_more Array.size_append
theorem mstm_20 (hE : MExprC W c m nv sv fi mo ns sl f) (hB : MBlkC W c m nv sv fi mo ns sl f) {L : List (Nat × Obj)} {M R : Mk} (w : World) (j : Nat) (za zb zc zx zi : Int) (zs zt : ByteArray) (hj : j < ns.length) (hR : stmM (exprM ns sl f) (blkM ns sl f) sl j ⟨20, za, zb, zc, zx, zi, zs, zt⟩ M = some R) (h : MkS W c m nv sv fi mo ns sl L M w) :
  Calls Tryz.prog 29 #[.pointer (some ⟨m, 0, none⟩), .int .i64 (j : Int), .agg #[.int .i64 20, .int .i64 za, .int .i64 zb, .int .i64 zc, .int .i64 zx, .int .i64 zi, .string zs, .string zt]] w fun r w' => r = .returned (.tuple #[]) ∧ MkS W c m nv sv fi mo ns sl L R w' := by
 unfold stmM stmKM at hR
 dsimp only at hR
 obtain ⟨N, hN⟩ : ∃ N, ((w.heap.size, .cells #[.int .i64 20, .int .i64 za, .int .i64 zb, .int .i64 zc, .int .i64 zx, .int .i64 zi, .string zs, .string zt] 42 (0, 0)) :: L) = N := ⟨_, rfl⟩
 have hNm : (w.heap.size, Obj.cells #[.int .i64 20, .int .i64 za, .int .i64 zb, .int .i64 zc, .int .i64 zx, .int .i64 zi, .string zs, .string zt] 42 (0, 0)) ∈ N := by rw [← hN]; exact List.mem_cons_self
 have H0 := Lib.hid (show MkS W c m nv sv fi mo ns sl N M (w.alloc (.cells #[.int .i64 20, .int .i64 za, .int .i64 zb, .int .i64 zc, .int .i64 zx, .int .i64 zi, .string zs, .string zt] 42 (0, 0))) from by rw [← hN]; exact h.locNew (.cells #[.int .i64 20, .int .i64 za, .int .i64 zb, .int .i64 zc, .int .i64 zx, .int .i64 zi, .string zs, .string zt] 42 (0, 0)))
 have HNM := Lib.hid hNm
 have HNO := Lib.hid (show ∀ q, q ∈ L → q ∈ N from fun q hq => by rw [← hN]; exact List.mem_cons_of_mem _ hq)
 clear hN hNm
 rw [if_neg zal] at hR
 obtain ⟨M0, h0, hR⟩ := qab hR
 refine yca ?_; intro C0
 rw [if_pos zal] at hR
 obtain ⟨q, hq, hR⟩ := qab hR
 have C1 := Lib.hid (fun w1 (hw : MkS W c m nv sv fi mo ns sl N M0 w1) => qaN hw 2 q 0 (j : Int) (-1) hR)
 obtain ⟨g, n2, k2, rfl, hn2, hj2, hg2, s0⟩ := h.slot hq
 have HQ := Lib.hid hq
 have hj0 : 0 ≤ (j : Int) := by omega
 have hjn2 : (j : Int) < (n2 : Int) := by omega
 clear hE hB hR h h0 hq hn2 hj s0 hg2
 go_enter Tryz.func29, Tryz.ntmps29
 go_wp2_with (first
  | ((with_reducible refine (C0.out _ H0.out).mono ?_); rintro e' w2 ⟨rfl, h2⟩; have H2 := Lib.hid h2; obtain ⟨g', n2', k2', e2', _, hj2', hg2, s0⟩ := h2.slot HQ.out; simp only [Value.slice.injEq, Option.some.injEq, Addr.mk.injEq] at e2'; obtain ⟨⟨rfl, _, _⟩, rfl, rfl⟩ := e2'; obtain ⟨iv2, vv2, hv2⟩ := h2; have km2 : KB m _ _ w2 := hv2.mkr; have z1 := km2.cell 1 _ rfl; have lm2 := km2.lt; clear hv2 km2; have KX2 : Hid (KB w.heap.size #[.int .i64 20, .int .i64 za, .int .i64 zb, .int .i64 zc, .int .i64 zx, .int .i64 zi, .string zs, .string zt] 42 w2) := Lib.hid (H2.out.locAt HNM.out); have x20 := KX2.out.cell 0 _ rfl; have lx2 := KX2.out.lt)
  | ((with_reducible refine (C1.out _ H2.out).mono ?_); rintro e' w3 ⟨rfl, h3⟩; have H3 := Lib.hid h3; clear h3))
 refine yag ?_
 exact ycx
theorem mstm_21 (hE : MExprC W c m nv sv fi mo ns sl f) (hB : MBlkC W c m nv sv fi mo ns sl f) {L : List (Nat × Obj)} {M R : Mk} (w : World) (j : Nat) (za zb zc zx zi : Int) (zs zt : ByteArray) (hj : j < ns.length) (hR : stmM (exprM ns sl f) (blkM ns sl f) sl j ⟨21, za, zb, zc, zx, zi, zs, zt⟩ M = some R) (h : MkS W c m nv sv fi mo ns sl L M w) :
  Calls Tryz.prog 29 #[.pointer (some ⟨m, 0, none⟩), .int .i64 (j : Int), .agg #[.int .i64 21, .int .i64 za, .int .i64 zb, .int .i64 zc, .int .i64 zx, .int .i64 zi, .string zs, .string zt]] w fun r w' => r = .returned (.tuple #[]) ∧ MkS W c m nv sv fi mo ns sl L R w' := by
 unfold stmM stmKM at hR
 dsimp only at hR
 obtain ⟨N, hN⟩ : ∃ N, ((w.heap.size, .cells #[.int .i64 21, .int .i64 za, .int .i64 zb, .int .i64 zc, .int .i64 zx, .int .i64 zi, .string zs, .string zt] 42 (0, 0)) :: L) = N := ⟨_, rfl⟩
 have hNm : (w.heap.size, Obj.cells #[.int .i64 21, .int .i64 za, .int .i64 zb, .int .i64 zc, .int .i64 zx, .int .i64 zi, .string zs, .string zt] 42 (0, 0)) ∈ N := by rw [← hN]; exact List.mem_cons_self
 have H0 := Lib.hid (show MkS W c m nv sv fi mo ns sl N M (w.alloc (.cells #[.int .i64 21, .int .i64 za, .int .i64 zb, .int .i64 zc, .int .i64 zx, .int .i64 zi, .string zs, .string zt] 42 (0, 0))) from by rw [← hN]; exact h.locNew (.cells #[.int .i64 21, .int .i64 za, .int .i64 zb, .int .i64 zc, .int .i64 zx, .int .i64 zi, .string zs, .string zt] 42 (0, 0)))
 have HNM := Lib.hid hNm
 have HNO := Lib.hid (show ∀ q, q ∈ L → q ∈ N from fun q hq => by rw [← hN]; exact List.mem_cons_of_mem _ hq)
 clear hN hNm
 rw [if_neg zal] at hR
 obtain ⟨M0, h0, hR⟩ := qab hR
 refine yca ?_; intro C0
 rw [if_pos zal] at hR
 obtain ⟨q, hq, hR⟩ := qab hR
 have C1 := Lib.hid (fun w1 (hw : MkS W c m nv sv fi mo ns sl N M0 w1) => qaN hw 2 q 0 (j : Int) (-1) hR)
 obtain ⟨g, n2, k2, rfl, hn2, hj2, hg2, s0⟩ := h.slot hq
 have HQ := Lib.hid hq
 have hj0 : 0 ≤ (j : Int) := by omega
 have hjn2 : (j : Int) < (n2 : Int) := by omega
 clear hE hB hR h h0 hq hn2 hj s0 hg2
 go_enter Tryz.func29, Tryz.ntmps29
 go_wp2_with (first
  | ((with_reducible refine (C0.out _ H0.out).mono ?_); rintro e' w2 ⟨rfl, h2⟩; have H2 := Lib.hid h2; obtain ⟨g', n2', k2', e2', _, hj2', hg2, s0⟩ := h2.slot HQ.out; simp only [Value.slice.injEq, Option.some.injEq, Addr.mk.injEq] at e2'; obtain ⟨⟨rfl, _, _⟩, rfl, rfl⟩ := e2'; obtain ⟨iv2, vv2, hv2⟩ := h2; have km2 : KB m _ _ w2 := hv2.mkr; have z1 := km2.cell 1 _ rfl; have lm2 := km2.lt; clear hv2 km2; have KX2 : Hid (KB w.heap.size #[.int .i64 21, .int .i64 za, .int .i64 zb, .int .i64 zc, .int .i64 zx, .int .i64 zi, .string zs, .string zt] 42 w2) := Lib.hid (H2.out.locAt HNM.out); have x20 := KX2.out.cell 0 _ rfl; have lx2 := KX2.out.lt)
  | ((with_reducible refine (C1.out _ H2.out).mono ?_); rintro e' w3 ⟨rfl, h3⟩; have H3 := Lib.hid h3; clear h3))
 refine yag ?_
 exact ycx
theorem mstm_22 (hE : MExprC W c m nv sv fi mo ns sl f) (hB : MBlkC W c m nv sv fi mo ns sl f) {L : List (Nat × Obj)} {M R : Mk} (w : World) (j : Nat) (za zb zc zx zi : Int) (zs zt : ByteArray) (hj : j < ns.length) (hR : stmM (exprM ns sl f) (blkM ns sl f) sl j ⟨22, za, zb, zc, zx, zi, zs, zt⟩ M = some R) (h : MkS W c m nv sv fi mo ns sl L M w) :
  Calls Tryz.prog 29 #[.pointer (some ⟨m, 0, none⟩), .int .i64 (j : Int), .agg #[.int .i64 22, .int .i64 za, .int .i64 zb, .int .i64 zc, .int .i64 zx, .int .i64 zi, .string zs, .string zt]] w fun r w' => r = .returned (.tuple #[]) ∧ MkS W c m nv sv fi mo ns sl L R w' := by
 unfold stmM stmKM at hR
 dsimp only at hR
 obtain ⟨N, hN⟩ : ∃ N, ((w.heap.size, .cells #[.int .i64 22, .int .i64 za, .int .i64 zb, .int .i64 zc, .int .i64 zx, .int .i64 zi, .string zs, .string zt] 42 (0, 0)) :: L) = N := ⟨_, rfl⟩
 have hNm : (w.heap.size, Obj.cells #[.int .i64 22, .int .i64 za, .int .i64 zb, .int .i64 zc, .int .i64 zx, .int .i64 zi, .string zs, .string zt] 42 (0, 0)) ∈ N := by rw [← hN]; exact List.mem_cons_self
 have H0 := Lib.hid (show MkS W c m nv sv fi mo ns sl N M (w.alloc (.cells #[.int .i64 22, .int .i64 za, .int .i64 zb, .int .i64 zc, .int .i64 zx, .int .i64 zi, .string zs, .string zt] 42 (0, 0))) from by rw [← hN]; exact h.locNew (.cells #[.int .i64 22, .int .i64 za, .int .i64 zb, .int .i64 zc, .int .i64 zx, .int .i64 zi, .string zs, .string zt] 42 (0, 0)))
 have HNM := Lib.hid hNm
 have HNO := Lib.hid (show ∀ q, q ∈ L → q ∈ N from fun q hq => by rw [← hN]; exact List.mem_cons_of_mem _ hq)
 clear hN hNm
 rw [if_neg zal] at hR
 obtain ⟨M0, h0, hR⟩ := qab hR
 refine yca ?_; intro C0
 rw [if_neg zal] at hR
 rw [if_pos zal] at hR
 obtain ⟨M1, h1, hR⟩ := qab hR
 have C1 := Lib.hid (fun w1 hw => hE.out (L := N) h1 w1 hw)
 have C2 := Lib.hid (fun w1 (hw : MkS W c m nv sv fi mo ns sl N M1 w1) => qaN hw 10 0 0 (j : Int) (-2) hR)
 clear hE hB hR h h0 h1
 go_enter Tryz.func29, Tryz.ntmps29
 go_wp2_with (first
  | ((with_reducible refine (C0.out _ H0.out).mono ?_); rintro e' w2 ⟨rfl, h2⟩; have H2 := Lib.hid h2; clear h2; have KX2 : Hid (KB w.heap.size #[.int .i64 22, .int .i64 za, .int .i64 zb, .int .i64 zc, .int .i64 zx, .int .i64 zi, .string zs, .string zt] 42 w2) := Lib.hid (H2.out.locAt HNM.out); have x20 := KX2.out.cell 0 _ rfl; have x22 := KX2.out.cell 2 _ rfl; have lx2 := KX2.out.lt)
  | ((with_reducible refine (C1.out _ H2.out).mono ?_); rintro e' w3 ⟨rfl, h3⟩; have H3 := Lib.hid h3; clear h3)
  | ((with_reducible refine (C2.out _ H3.out).mono ?_); rintro e' w4 ⟨rfl, h4⟩; have H4 := Lib.hid h4; clear h4))
 refine yag ?_
 exact ⟨rfl, H4.out.sub fun q hq => HNO.out q hq⟩
theorem mstm_23 (hE : MExprC W c m nv sv fi mo ns sl f) (hB : MBlkC W c m nv sv fi mo ns sl f) {L : List (Nat × Obj)} {M R : Mk} (w : World) (j : Nat) (za zb zc zx zi : Int) (zs zt : ByteArray) (hj : j < ns.length) (hR : stmM (exprM ns sl f) (blkM ns sl f) sl j ⟨23, za, zb, zc, zx, zi, zs, zt⟩ M = some R) (h : MkS W c m nv sv fi mo ns sl L M w) :
  Calls Tryz.prog 29 #[.pointer (some ⟨m, 0, none⟩), .int .i64 (j : Int), .agg #[.int .i64 23, .int .i64 za, .int .i64 zb, .int .i64 zc, .int .i64 zx, .int .i64 zi, .string zs, .string zt]] w fun r w' => r = .returned (.tuple #[]) ∧ MkS W c m nv sv fi mo ns sl L R w' := by
 unfold stmM stmKM at hR
 dsimp only at hR
 obtain ⟨N, hN⟩ : ∃ N, ((w.heap.size, .cells #[.int .i64 23, .int .i64 za, .int .i64 zb, .int .i64 zc, .int .i64 zx, .int .i64 zi, .string zs, .string zt] 42 (0, 0)) :: L) = N := ⟨_, rfl⟩
 have hNm : (w.heap.size, Obj.cells #[.int .i64 23, .int .i64 za, .int .i64 zb, .int .i64 zc, .int .i64 zx, .int .i64 zi, .string zs, .string zt] 42 (0, 0)) ∈ N := by rw [← hN]; exact List.mem_cons_self
 have H0 := Lib.hid (show MkS W c m nv sv fi mo ns sl N M (w.alloc (.cells #[.int .i64 23, .int .i64 za, .int .i64 zb, .int .i64 zc, .int .i64 zx, .int .i64 zi, .string zs, .string zt] 42 (0, 0))) from by rw [← hN]; exact h.locNew (.cells #[.int .i64 23, .int .i64 za, .int .i64 zb, .int .i64 zc, .int .i64 zx, .int .i64 zi, .string zs, .string zt] 42 (0, 0)))
 have HNM := Lib.hid hNm
 have HNO := Lib.hid (show ∀ q, q ∈ L → q ∈ N from fun q hq => by rw [← hN]; exact List.mem_cons_of_mem _ hq)
 clear hN hNm
 rw [if_neg zal] at hR
 obtain ⟨M0, h0, hR⟩ := qab hR
 refine yca ?_; intro C0
 rw [if_neg zal] at hR
 rw [if_neg zal] at hR
 rw [if_pos zal] at hR
 have C1 := Lib.hid (fun w1 (hw : MkS W c m nv sv fi mo ns sl N M0 w1) => qaN hw 11 0 0 (j : Int) (-1) hR)
 clear hE hB hR h h0
 go_enter Tryz.func29, Tryz.ntmps29
 go_wp2_with (first
  | ((with_reducible refine (C0.out _ H0.out).mono ?_); rintro e' w2 ⟨rfl, h2⟩; have H2 := Lib.hid h2; clear h2; have KX2 : Hid (KB w.heap.size #[.int .i64 23, .int .i64 za, .int .i64 zb, .int .i64 zc, .int .i64 zx, .int .i64 zi, .string zs, .string zt] 42 w2) := Lib.hid (H2.out.locAt HNM.out); have x20 := KX2.out.cell 0 _ rfl; have lx2 := KX2.out.lt)
  | ((with_reducible refine (C1.out _ H2.out).mono ?_); rintro e' w3 ⟨rfl, h3⟩; have H3 := Lib.hid h3; clear h3))
 refine yag ?_
 exact ycx
theorem mstm_27 (hE : MExprC W c m nv sv fi mo ns sl f) (hB : MBlkC W c m nv sv fi mo ns sl f) {L : List (Nat × Obj)} {M R : Mk} (w : World) (j : Nat) (za zb zc zx zi : Int) (zs zt : ByteArray) (hj : j < ns.length) (hR : stmM (exprM ns sl f) (blkM ns sl f) sl j ⟨27, za, zb, zc, zx, zi, zs, zt⟩ M = some R) (h : MkS W c m nv sv fi mo ns sl L M w) :
  Calls Tryz.prog 29 #[.pointer (some ⟨m, 0, none⟩), .int .i64 (j : Int), .agg #[.int .i64 27, .int .i64 za, .int .i64 zb, .int .i64 zc, .int .i64 zx, .int .i64 zi, .string zs, .string zt]] w fun r w' => r = .returned (.tuple #[]) ∧ MkS W c m nv sv fi mo ns sl L R w' := by
 unfold stmM stmKM at hR
 dsimp only at hR
 obtain ⟨N, hN⟩ : ∃ N, ((w.heap.size, .cells #[.int .i64 27, .int .i64 za, .int .i64 zb, .int .i64 zc, .int .i64 zx, .int .i64 zi, .string zs, .string zt] 42 (0, 0)) :: L) = N := ⟨_, rfl⟩
 have hNm : (w.heap.size, Obj.cells #[.int .i64 27, .int .i64 za, .int .i64 zb, .int .i64 zc, .int .i64 zx, .int .i64 zi, .string zs, .string zt] 42 (0, 0)) ∈ N := by rw [← hN]; exact List.mem_cons_self
 have H0 := Lib.hid (show MkS W c m nv sv fi mo ns sl N M (w.alloc (.cells #[.int .i64 27, .int .i64 za, .int .i64 zb, .int .i64 zc, .int .i64 zx, .int .i64 zi, .string zs, .string zt] 42 (0, 0))) from by rw [← hN]; exact h.locNew (.cells #[.int .i64 27, .int .i64 za, .int .i64 zb, .int .i64 zc, .int .i64 zx, .int .i64 zi, .string zs, .string zt] 42 (0, 0)))
 have HNM := Lib.hid hNm
 have HNO := Lib.hid (show ∀ q, q ∈ L → q ∈ N from fun q hq => by rw [← hN]; exact List.mem_cons_of_mem _ hq)
 clear hN hNm
 rw [if_neg zal] at hR
 obtain ⟨M0, h0, hR⟩ := qab hR
 refine yca ?_; intro C0
 rw [if_neg zal] at hR
 rw [if_neg zal] at hR
 rw [if_neg zal] at hR
 rw [if_pos zal] at hR
 have C1 := Lib.hid (fun w1 (hw : MkS W c m nv sv fi mo ns sl N M0 w1) => qaN hw 16 0 0 (j : Int) (-1) hR)
 clear hE hB hR h h0
 go_enter Tryz.func29, Tryz.ntmps29
 go_wp2_with (first
  | ((with_reducible refine (C0.out _ H0.out).mono ?_); rintro e' w2 ⟨rfl, h2⟩; have H2 := Lib.hid h2; clear h2; have KX2 : Hid (KB w.heap.size #[.int .i64 27, .int .i64 za, .int .i64 zb, .int .i64 zc, .int .i64 zx, .int .i64 zi, .string zs, .string zt] 42 w2) := Lib.hid (H2.out.locAt HNM.out); have x20 := KX2.out.cell 0 _ rfl; have lx2 := KX2.out.lt)
  | ((with_reducible refine (C1.out _ H2.out).mono ?_); rintro e' w3 ⟨rfl, h3⟩; have H3 := Lib.hid h3; clear h3))
 refine yag ?_
 exact ycx
theorem mstm_28 (hE : MExprC W c m nv sv fi mo ns sl f) (hB : MBlkC W c m nv sv fi mo ns sl f) {L : List (Nat × Obj)} {M R : Mk} (w : World) (j : Nat) (za zb zc zx zi : Int) (zs zt : ByteArray) (hj : j < ns.length) (hR : stmM (exprM ns sl f) (blkM ns sl f) sl j ⟨28, za, zb, zc, zx, zi, zs, zt⟩ M = some R) (h : MkS W c m nv sv fi mo ns sl L M w) :
  Calls Tryz.prog 29 #[.pointer (some ⟨m, 0, none⟩), .int .i64 (j : Int), .agg #[.int .i64 28, .int .i64 za, .int .i64 zb, .int .i64 zc, .int .i64 zx, .int .i64 zi, .string zs, .string zt]] w fun r w' => r = .returned (.tuple #[]) ∧ MkS W c m nv sv fi mo ns sl L R w' := by
 unfold stmM stmKM at hR
 dsimp only at hR
 obtain ⟨N, hN⟩ : ∃ N, ((w.heap.size, .cells #[.int .i64 28, .int .i64 za, .int .i64 zb, .int .i64 zc, .int .i64 zx, .int .i64 zi, .string zs, .string zt] 42 (0, 0)) :: L) = N := ⟨_, rfl⟩
 have hNm : (w.heap.size, Obj.cells #[.int .i64 28, .int .i64 za, .int .i64 zb, .int .i64 zc, .int .i64 zx, .int .i64 zi, .string zs, .string zt] 42 (0, 0)) ∈ N := by rw [← hN]; exact List.mem_cons_self
 have H0 := Lib.hid (show MkS W c m nv sv fi mo ns sl N M (w.alloc (.cells #[.int .i64 28, .int .i64 za, .int .i64 zb, .int .i64 zc, .int .i64 zx, .int .i64 zi, .string zs, .string zt] 42 (0, 0))) from by rw [← hN]; exact h.locNew (.cells #[.int .i64 28, .int .i64 za, .int .i64 zb, .int .i64 zc, .int .i64 zx, .int .i64 zi, .string zs, .string zt] 42 (0, 0)))
 have HNM := Lib.hid hNm
 have HNO := Lib.hid (show ∀ q, q ∈ L → q ∈ N from fun q hq => by rw [← hN]; exact List.mem_cons_of_mem _ hq)
 clear hN hNm
 rw [if_neg zal] at hR
 obtain ⟨M0, h0, hR⟩ := qab hR
 refine yca ?_; intro C0
 rw [if_neg zal] at hR
 rw [if_neg zal] at hR
 rw [if_neg zal] at hR
 rw [if_neg zal] at hR
 rw [if_pos zal] at hR
 have C1 := Lib.hid (fun w1 (hw : MkS W c m nv sv fi mo ns sl N M0 w1) => qaN hw 17 0 0 (j : Int) (-1) hR)
 clear hE hB hR h h0
 go_enter Tryz.func29, Tryz.ntmps29
 go_wp2_with (first
  | ((with_reducible refine (C0.out _ H0.out).mono ?_); rintro e' w2 ⟨rfl, h2⟩; have H2 := Lib.hid h2; clear h2; have KX2 : Hid (KB w.heap.size #[.int .i64 28, .int .i64 za, .int .i64 zb, .int .i64 zc, .int .i64 zx, .int .i64 zi, .string zs, .string zt] 42 w2) := Lib.hid (H2.out.locAt HNM.out); have x20 := KX2.out.cell 0 _ rfl; have lx2 := KX2.out.lt)
  | ((with_reducible refine (C1.out _ H2.out).mono ?_); rintro e' w3 ⟨rfl, h3⟩; have H3 := Lib.hid h3; clear h3))
 refine yag ?_
 exact ycx
theorem mstm_24n (hE : MExprC W c m nv sv fi mo ns sl f) (hB : MBlkC W c m nv sv fi mo ns sl f) {L : List (Nat × Obj)} {M R : Mk} (w : World) (j : Nat) (za zb zc zx zi : Int) (zs zt : ByteArray) (hj : j < ns.length) (hc : zc < 0) (hR : stmM (exprM ns sl f) (blkM ns sl f) sl j ⟨24, za, zb, zc, zx, zi, zs, zt⟩ M = some R) (h : MkS W c m nv sv fi mo ns sl L M w) :
  Calls Tryz.prog 29 #[.pointer (some ⟨m, 0, none⟩), .int .i64 (j : Int), .agg #[.int .i64 24, .int .i64 za, .int .i64 zb, .int .i64 zc, .int .i64 zx, .int .i64 zi, .string zs, .string zt]] w fun r w' => r = .returned (.tuple #[]) ∧ MkS W c m nv sv fi mo ns sl L R w' := by
 unfold stmM stmKM at hR
 dsimp only at hR
 obtain ⟨N, hN⟩ : ∃ N, ((w.heap.size, .cells #[.int .i64 24, .int .i64 za, .int .i64 zb, .int .i64 zc, .int .i64 zx, .int .i64 zi, .string zs, .string zt] 42 (0, 0)) :: L) = N := ⟨_, rfl⟩
 have hNm : (w.heap.size, Obj.cells #[.int .i64 24, .int .i64 za, .int .i64 zb, .int .i64 zc, .int .i64 zx, .int .i64 zi, .string zs, .string zt] 42 (0, 0)) ∈ N := by rw [← hN]; exact List.mem_cons_self
 have H0 := Lib.hid (show MkS W c m nv sv fi mo ns sl N M (w.alloc (.cells #[.int .i64 24, .int .i64 za, .int .i64 zb, .int .i64 zc, .int .i64 zx, .int .i64 zi, .string zs, .string zt] 42 (0, 0))) from by rw [← hN]; exact h.locNew (.cells #[.int .i64 24, .int .i64 za, .int .i64 zb, .int .i64 zc, .int .i64 zx, .int .i64 zi, .string zs, .string zt] 42 (0, 0)))
 have HNM := Lib.hid hNm
 have HNO := Lib.hid (show ∀ q, q ∈ L → q ∈ N from fun q hq => by rw [← hN]; exact List.mem_cons_of_mem _ hq)
 clear hN hNm
 rw [if_neg zal] at hR
 obtain ⟨M0, h0, hR⟩ := qab hR
 refine yca ?_; intro C0
 rw [if_neg zal] at hR
 rw [if_neg zal] at hR
 rw [if_neg zal] at hR
 rw [if_neg zal] at hR
 rw [if_neg zal] at hR
 rw [if_pos zal] at hR
 unfold ifM at hR
 obtain ⟨M1, h1, hR⟩ := qab hR
 obtain ⟨M2, h2, hR⟩ := qab hR
 have C1 := Lib.hid (fun w1 (hw : MkS W c m nv sv fi mo ns sl N M0 w1) => qbR hw 8 0 0 (j : Int) (-1) h1)
 have C2 := Lib.hid (fun LL w1 hw => hB.out (L := LL) h2 w1 hw)
 dsimp only at hR
 rw [if_pos hc] at hR
 have HR5 := Lib.hid (show (if (8 : Int) = 13 ∨ (8 : Int) = 15 then M2.setB M0.ins.length else M2.setA M0.ins.length) = some R from hR)
 clear hE hB hR h h0 h1 h2
 go_enter Tryz.func29, Tryz.ntmps29
 go_wp2_with (first
  | ((with_reducible refine (C0.out _ H0.out).mono ?_); rintro e' w2 ⟨rfl, h2⟩; have H2 := Lib.hid h2; clear h2; have KX2 : Hid (KB w.heap.size #[.int .i64 24, .int .i64 za, .int .i64 zb, .int .i64 zc, .int .i64 zx, .int .i64 zi, .string zs, .string zt] 42 w2) := Lib.hid (H2.out.locAt HNM.out); have x20 := KX2.out.cell 0 _ rfl; have lx2 := KX2.out.lt)
  | ((with_reducible refine (C1.out _ H2.out).mono ?_); rintro e' w3 ⟨km3, ko3, ki3, rfl, h3⟩; have H3 := Lib.hid h3; clear h3; have KX3 : Hid (KB w.heap.size #[.int .i64 24, .int .i64 za, .int .i64 zb, .int .i64 zc, .int .i64 zx, .int .i64 zi, .string zs, .string zt] 42 w3) := Lib.hid (H3.out.locAt (List.mem_cons_of_mem _ (List.mem_cons_of_mem _ (List.mem_cons_of_mem _ HNM.out)))); have x32 := KX3.out.cell 2 _ rfl; have lx3 := KX3.out.lt)
  | ((with_reducible refine (C2.out _ _ H3.out).mono ?_); rintro e' w4 ⟨rfl, h4⟩; have H4 := Lib.hid h4; clear h4; have KX4 : Hid (KB w.heap.size #[.int .i64 24, .int .i64 za, .int .i64 zb, .int .i64 zc, .int .i64 zx, .int .i64 zi, .string zs, .string zt] 42 w4) := Lib.hid (H4.out.locAt (List.mem_cons_of_mem _ (List.mem_cons_of_mem _ (List.mem_cons_of_mem _ HNM.out)))); have x43 := KX4.out.cell 3 _ rfl; have lx4 := KX4.out.lt)
  | ((with_reducible refine (qcr H4.out (op := 8) List.mem_cons_self (List.mem_cons_of_mem _ List.mem_cons_self) (List.mem_cons_of_mem _ (List.mem_cons_of_mem _ List.mem_cons_self)) HR5.out).mono ?_); rintro e' w5 ⟨rfl, h5⟩; have H5 := Lib.hid h5; clear h5))
 refine yag ?_
 exact ⟨rfl, H5.out.sub fun q hq => List.mem_cons_of_mem _ (List.mem_cons_of_mem _ (List.mem_cons_of_mem _ (HNO.out q hq)))⟩
theorem mstm_24y (hE : MExprC W c m nv sv fi mo ns sl f) (hB : MBlkC W c m nv sv fi mo ns sl f) {L : List (Nat × Obj)} {M R : Mk} (w : World) (j : Nat) (za zb zc zx zi : Int) (zs zt : ByteArray) (hj : j < ns.length) (hc : 0 ≤ zc) (hR : stmM (exprM ns sl f) (blkM ns sl f) sl j ⟨24, za, zb, zc, zx, zi, zs, zt⟩ M = some R) (h : MkS W c m nv sv fi mo ns sl L M w) :
  Calls Tryz.prog 29 #[.pointer (some ⟨m, 0, none⟩), .int .i64 (j : Int), .agg #[.int .i64 24, .int .i64 za, .int .i64 zb, .int .i64 zc, .int .i64 zx, .int .i64 zi, .string zs, .string zt]] w fun r w' => r = .returned (.tuple #[]) ∧ MkS W c m nv sv fi mo ns sl L R w' := by
 unfold stmM stmKM at hR
 dsimp only at hR
 obtain ⟨N, hN⟩ : ∃ N, ((w.heap.size, .cells #[.int .i64 24, .int .i64 za, .int .i64 zb, .int .i64 zc, .int .i64 zx, .int .i64 zi, .string zs, .string zt] 42 (0, 0)) :: L) = N := ⟨_, rfl⟩
 have hNm : (w.heap.size, Obj.cells #[.int .i64 24, .int .i64 za, .int .i64 zb, .int .i64 zc, .int .i64 zx, .int .i64 zi, .string zs, .string zt] 42 (0, 0)) ∈ N := by rw [← hN]; exact List.mem_cons_self
 have H0 := Lib.hid (show MkS W c m nv sv fi mo ns sl N M (w.alloc (.cells #[.int .i64 24, .int .i64 za, .int .i64 zb, .int .i64 zc, .int .i64 zx, .int .i64 zi, .string zs, .string zt] 42 (0, 0))) from by rw [← hN]; exact h.locNew (.cells #[.int .i64 24, .int .i64 za, .int .i64 zb, .int .i64 zc, .int .i64 zx, .int .i64 zi, .string zs, .string zt] 42 (0, 0)))
 have HNM := Lib.hid hNm
 have HNO := Lib.hid (show ∀ q, q ∈ L → q ∈ N from fun q hq => by rw [← hN]; exact List.mem_cons_of_mem _ hq)
 clear hN hNm
 rw [if_neg zal] at hR
 obtain ⟨M0, h0, hR⟩ := qab hR
 refine yca ?_; intro C0
 rw [if_neg zal] at hR
 rw [if_neg zal] at hR
 rw [if_neg zal] at hR
 rw [if_neg zal] at hR
 rw [if_neg zal] at hR
 rw [if_pos zal] at hR
 unfold ifM at hR
 obtain ⟨M1, h1, hR⟩ := qab hR
 obtain ⟨M2, h2, hR⟩ := qab hR
 have C1 := Lib.hid (fun w1 (hw : MkS W c m nv sv fi mo ns sl N M0 w1) => qbR hw 8 0 0 (j : Int) (-1) h1)
 have C2 := Lib.hid (fun LL w1 hw => hB.out (L := LL) h2 w1 hw)
 dsimp only at hR
 rw [if_neg zae] at hR
 obtain ⟨M3, h3, hR⟩ := qab hR
 obtain ⟨M4, h4, hR⟩ := qab hR
 obtain ⟨M5, h5, hR⟩ := qab hR
 have C3 := Lib.hid (fun LL w1 (hw : MkS W c m nv sv fi mo ns sl LL M2 w1) => qbR hw 9 0 0 (j : Int) 0 h3)
 have C5 := Lib.hid (fun LL w1 hw => hB.out (L := LL) h5 w1 hw)
 have HR4 := Lib.hid (show (if (8 : Int) = 13 ∨ (8 : Int) = 15 then M3.setB M0.ins.length else M3.setA M0.ins.length) = some M4 from h4)
 have HR5 := Lib.hid (show (if (9 : Int) = 13 ∨ (9 : Int) = 15 then M5.setB M2.ins.length else M5.setA M2.ins.length) = some R from hR)
 clear hE hB hR h h0 h1 h2 h3 h4 h5
 go_enter Tryz.func29, Tryz.ntmps29
 go_wp2_with (first
  | ((with_reducible refine (C0.out _ H0.out).mono ?_); rintro e' w2 ⟨rfl, h2⟩; have H2 := Lib.hid h2; clear h2; have KX2 : Hid (KB w.heap.size #[.int .i64 24, .int .i64 za, .int .i64 zb, .int .i64 zc, .int .i64 zx, .int .i64 zi, .string zs, .string zt] 42 w2) := Lib.hid (H2.out.locAt HNM.out); have x20 := KX2.out.cell 0 _ rfl; have lx2 := KX2.out.lt)
  | ((with_reducible refine (C1.out _ H2.out).mono ?_); rintro e' w3 ⟨km3, ko3, ki3, rfl, h3⟩; have H3 := Lib.hid h3; clear h3; have KX3 : Hid (KB w.heap.size #[.int .i64 24, .int .i64 za, .int .i64 zb, .int .i64 zc, .int .i64 zx, .int .i64 zi, .string zs, .string zt] 42 w3) := Lib.hid (H3.out.locAt (List.mem_cons_of_mem _ (List.mem_cons_of_mem _ (List.mem_cons_of_mem _ HNM.out)))); have x32 := KX3.out.cell 2 _ rfl; have lx3 := KX3.out.lt)
  | ((with_reducible refine (C2.out _ _ H3.out).mono ?_); rintro e' w4 ⟨rfl, h4⟩; have H4 := Lib.hid h4; clear h4; have KX4 : Hid (KB w.heap.size #[.int .i64 24, .int .i64 za, .int .i64 zb, .int .i64 zc, .int .i64 zx, .int .i64 zi, .string zs, .string zt] 42 w4) := Lib.hid (H4.out.locAt (List.mem_cons_of_mem _ (List.mem_cons_of_mem _ (List.mem_cons_of_mem _ HNM.out)))); have x43 := KX4.out.cell 3 _ rfl; have lx4 := KX4.out.lt)
  | ((with_reducible refine (C3.out _ _ H4.out).mono ?_); rintro e' w5 ⟨km5, ko5, ki5, rfl, h5⟩; have H5 := Lib.hid h5; clear h5)
  | ((with_reducible refine (qcr H5.out (op := 8) (List.mem_cons_of_mem _ (List.mem_cons_of_mem _ (List.mem_cons_of_mem _ List.mem_cons_self))) (List.mem_cons_of_mem _ (List.mem_cons_of_mem _ (List.mem_cons_of_mem _ (List.mem_cons_of_mem _ List.mem_cons_self)))) (List.mem_cons_of_mem _ (List.mem_cons_of_mem _ (List.mem_cons_of_mem _ (List.mem_cons_of_mem _ (List.mem_cons_of_mem _ List.mem_cons_self))))) HR4.out).mono ?_); rintro e' w6 ⟨rfl, h6⟩; have H6 := Lib.hid h6; clear h6; have KX6 : Hid (KB w.heap.size #[.int .i64 24, .int .i64 za, .int .i64 zb, .int .i64 zc, .int .i64 zx, .int .i64 zi, .string zs, .string zt] 42 w6) := Lib.hid (H6.out.locAt (List.mem_cons_of_mem _ (List.mem_cons_of_mem _ (List.mem_cons_of_mem _ (List.mem_cons_of_mem _ (List.mem_cons_of_mem _ (List.mem_cons_of_mem _ HNM.out))))))); have x63 := KX6.out.cell 3 _ rfl; have lx6 := KX6.out.lt)
  | ((with_reducible refine (C5.out _ _ H6.out).mono ?_); rintro e' w7 ⟨rfl, h7⟩; have H7 := Lib.hid h7; clear h7)
  | ((with_reducible refine (qcr H7.out (op := 9) List.mem_cons_self (List.mem_cons_of_mem _ List.mem_cons_self) (List.mem_cons_of_mem _ (List.mem_cons_of_mem _ List.mem_cons_self)) HR5.out).mono ?_); rintro e' w8 ⟨rfl, h8⟩; have H8 := Lib.hid h8; clear h8))
 refine yag ?_
 exact ⟨rfl, H8.out.sub fun q hq => List.mem_cons_of_mem _ (List.mem_cons_of_mem _ (List.mem_cons_of_mem _ (List.mem_cons_of_mem _ (List.mem_cons_of_mem _ (List.mem_cons_of_mem _ (HNO.out q hq))))))⟩
theorem mstm_26 (hE : MExprC W c m nv sv fi mo ns sl f) (hB : MBlkC W c m nv sv fi mo ns sl f) {L : List (Nat × Obj)} {M R : Mk} (w : World) (j : Nat) (za zb zc zx zi : Int) (zs zt : ByteArray) (hj : j < ns.length) (hR : stmM (exprM ns sl f) (blkM ns sl f) sl j ⟨26, za, zb, zc, zx, zi, zs, zt⟩ M = some R) (h : MkS W c m nv sv fi mo ns sl L M w) :
  Calls Tryz.prog 29 #[.pointer (some ⟨m, 0, none⟩), .int .i64 (j : Int), .agg #[.int .i64 26, .int .i64 za, .int .i64 zb, .int .i64 zc, .int .i64 zx, .int .i64 zi, .string zs, .string zt]] w fun r w' => r = .returned (.tuple #[]) ∧ MkS W c m nv sv fi mo ns sl L R w' := by
 unfold stmM stmKM at hR
 dsimp only at hR
 obtain ⟨N, hN⟩ : ∃ N, ((w.heap.size, .cells #[.int .i64 26, .int .i64 za, .int .i64 zb, .int .i64 zc, .int .i64 zx, .int .i64 zi, .string zs, .string zt] 42 (0, 0)) :: L) = N := ⟨_, rfl⟩
 have hNm : (w.heap.size, Obj.cells #[.int .i64 26, .int .i64 za, .int .i64 zb, .int .i64 zc, .int .i64 zx, .int .i64 zi, .string zs, .string zt] 42 (0, 0)) ∈ N := by rw [← hN]; exact List.mem_cons_self
 have H0 := Lib.hid (show MkS W c m nv sv fi mo ns sl N M (w.alloc (.cells #[.int .i64 26, .int .i64 za, .int .i64 zb, .int .i64 zc, .int .i64 zx, .int .i64 zi, .string zs, .string zt] 42 (0, 0))) from by rw [← hN]; exact h.locNew (.cells #[.int .i64 26, .int .i64 za, .int .i64 zb, .int .i64 zc, .int .i64 zx, .int .i64 zi, .string zs, .string zt] 42 (0, 0)))
 have HNM := Lib.hid hNm
 have HNO := Lib.hid (show ∀ q, q ∈ L → q ∈ N from fun q hq => by rw [← hN]; exact List.mem_cons_of_mem _ hq)
 clear hN hNm
 rw [if_pos rfl] at hR
 obtain ⟨M0, h0, hR⟩ := qab hR
 cases h0
 rw [if_neg zal] at hR
 rw [if_neg zal] at hR
 rw [if_neg zal] at hR
 rw [if_neg zal] at hR
 rw [if_neg zal] at hR
 rw [if_neg zal] at hR
 rw [if_neg zal] at hR
 rw [if_pos zal] at hR
 obtain ⟨M1, h1, hR⟩ := qab hR
 have C1 := Lib.hid (fun w1 (hw : MkS W c m nv sv fi mo ns sl N M w1) => qaN hw 14 zi 0 (j : Int) 0 h1)
 have C2 := Lib.hid (fun w1 hw => mloop_of hB (L := N) w1 15 0 zb j (Or.inr rfl) hR hw)
 clear hE hB hR h h1
 go_enter Tryz.func29, Tryz.ntmps29
 go_wp2_with (first
  | ((with_reducible refine (C1.out _ H0.out).mono ?_); rintro e' w2 ⟨rfl, h2⟩; have H2 := Lib.hid h2; clear h2; have KX2 : Hid (KB w.heap.size #[.int .i64 26, .int .i64 za, .int .i64 zb, .int .i64 zc, .int .i64 zx, .int .i64 zi, .string zs, .string zt] 42 w2) := Lib.hid (H2.out.locAt HNM.out); have x22 := KX2.out.cell 2 _ rfl; have lx2 := KX2.out.lt)
  | ((with_reducible refine (C2.out _ H2.out).mono ?_); rintro e' w3 ⟨rfl, h3⟩; have H3 := Lib.hid h3; clear h3))
 refine yag ?_
 exact ycx
theorem mstm_25 (hE : MExprC W c m nv sv fi mo ns sl f) (hB : MBlkC W c m nv sv fi mo ns sl f) {L : List (Nat × Obj)} {M R : Mk} (w : World) (j : Nat) (za zb zc zx zi : Int) (zs zt : ByteArray) (hj : j < ns.length) (hR : stmM (exprM ns sl f) (blkM ns sl f) sl j ⟨25, za, zb, zc, zx, zi, zs, zt⟩ M = some R) (h : MkS W c m nv sv fi mo ns sl L M w) :
  Calls Tryz.prog 29 #[.pointer (some ⟨m, 0, none⟩), .int .i64 (j : Int), .agg #[.int .i64 25, .int .i64 za, .int .i64 zb, .int .i64 zc, .int .i64 zx, .int .i64 zi, .string zs, .string zt]] w fun r w' => r = .returned (.tuple #[]) ∧ MkS W c m nv sv fi mo ns sl L R w' := by
 unfold stmM stmKM at hR
 dsimp only at hR
 obtain ⟨N, hN⟩ : ∃ N, ((w.heap.size, .cells #[.int .i64 25, .int .i64 za, .int .i64 zb, .int .i64 zc, .int .i64 zx, .int .i64 zi, .string zs, .string zt] 42 (0, 0)) :: L) = N := ⟨_, rfl⟩
 have hNm : (w.heap.size, Obj.cells #[.int .i64 25, .int .i64 za, .int .i64 zb, .int .i64 zc, .int .i64 zx, .int .i64 zi, .string zs, .string zt] 42 (0, 0)) ∈ N := by rw [← hN]; exact List.mem_cons_self
 have H0 := Lib.hid (show MkS W c m nv sv fi mo ns sl N M (w.alloc (.cells #[.int .i64 25, .int .i64 za, .int .i64 zb, .int .i64 zc, .int .i64 zx, .int .i64 zi, .string zs, .string zt] 42 (0, 0))) from by rw [← hN]; exact h.locNew (.cells #[.int .i64 25, .int .i64 za, .int .i64 zb, .int .i64 zc, .int .i64 zx, .int .i64 zi, .string zs, .string zt] 42 (0, 0)))
 have HNM := Lib.hid hNm
 have HNO := Lib.hid (show ∀ q, q ∈ L → q ∈ N from fun q hq => by rw [← hN]; exact List.mem_cons_of_mem _ hq)
 clear hN hNm
 rw [if_neg zal] at hR
 obtain ⟨M0, h0, hR⟩ := qab hR
 refine yca ?_; intro C0
 rw [if_neg zal] at hR
 rw [if_neg zal] at hR
 rw [if_neg zal] at hR
 rw [if_neg zal] at hR
 rw [if_neg zal] at hR
 rw [if_neg zal] at hR
 rw [if_pos zal] at hR
 obtain ⟨M1, h1, hR⟩ := qab hR
 obtain ⟨q, hq, hR⟩ := qab hR
 have C1 := Lib.hid (fun w1 (hw : MkS W c m nv sv fi mo ns sl N M0 w1) => qaN hw 12 0 zi (j : Int) (-1) h1)
 have C2 := Lib.hid (fun w1 hw => mloop_of hB (L := N) w1 13 q zb j (Or.inl rfl) hR hw)
 obtain ⟨g, n2, k2, rfl, hn2, hj2, hg2, s0⟩ := h.slot hq
 have HQ := Lib.hid hq
 have hj0 : 0 ≤ (j : Int) := by omega
 have hjn2 : (j : Int) < (n2 : Int) := by omega
 clear hE hB hR h h0 h1 hq hn2 hj s0 hg2
 go_enter Tryz.func29, Tryz.ntmps29
 go_wp2_with (first
  | ((with_reducible refine (C0.out _ H0.out).mono ?_); rintro e' w2 ⟨rfl, h2⟩; have H2 := Lib.hid h2; clear h2; have KX2 : Hid (KB w.heap.size #[.int .i64 25, .int .i64 za, .int .i64 zb, .int .i64 zc, .int .i64 zx, .int .i64 zi, .string zs, .string zt] 42 w2) := Lib.hid (H2.out.locAt HNM.out); have x20 := KX2.out.cell 0 _ rfl; have x25 := KX2.out.cell 5 _ rfl; have lx2 := KX2.out.lt)
  | ((with_reducible refine (C1.out _ H2.out).mono ?_); rintro e' w3 ⟨rfl, h3⟩; have H3 := Lib.hid h3; obtain ⟨g', n2', k2', e2', _, hj2', hg2, s0⟩ := h3.slot HQ.out; simp only [Value.slice.injEq, Option.some.injEq, Addr.mk.injEq] at e2'; obtain ⟨⟨rfl, _, _⟩, rfl, rfl⟩ := e2'; obtain ⟨iv2, vv2, hv2⟩ := h3; have km2 : KB m _ _ w3 := hv2.mkr; have z1 := km2.cell 1 _ rfl; have lm2 := km2.lt; clear hv2 km2; have KX3 : Hid (KB w.heap.size #[.int .i64 25, .int .i64 za, .int .i64 zb, .int .i64 zc, .int .i64 zx, .int .i64 zi, .string zs, .string zt] 42 w3) := Lib.hid (H3.out.locAt HNM.out); have x32 := KX3.out.cell 2 _ rfl; have lx3 := KX3.out.lt))
 go_still_tail 11, zad
 have H4x := Lib.hid (H3.out.of_ext ((Ext.refl _).drew))
 change wpList _ _ _ _ _ w3.drew
 generalize w3.drew = w3d at *
 go_wp2_with (first
  | ((with_reducible refine (C2.out _ H4x.out).mono ?_); rintro e' w4 ⟨rfl, h4⟩; have H4 := Lib.hid h4; clear h4))
 refine yag ?_
 exact ⟨rfl, H4.out.sub fun q hq => HNO.out q hq⟩
theorem mstm_x (hE : MExprC W c m nv sv fi mo ns sl f) (hB : MBlkC W c m nv sv fi mo ns sl f) {L : List (Nat × Obj)} {M R : Mk} (w : World) (j : Nat) (zk za zb zc zx zi : Int) (zs zt : ByteArray) (hj : j < ns.length) (b20 : zk ≠ 20) (b21 : zk ≠ 21) (b22 : zk ≠ 22) (b23 : zk ≠ 23) (b27 : zk ≠ 27) (b28 : zk ≠ 28) (b24 : zk ≠ 24) (b25 : zk ≠ 25) (b26 : zk ≠ 26) (hR : stmM (exprM ns sl f) (blkM ns sl f) sl j ⟨zk, za, zb, zc, zx, zi, zs, zt⟩ M = some R) (h : MkS W c m nv sv fi mo ns sl L M w) :
  Calls Tryz.prog 29 #[.pointer (some ⟨m, 0, none⟩), .int .i64 (j : Int), .agg #[.int .i64 zk, .int .i64 za, .int .i64 zb, .int .i64 zc, .int .i64 zx, .int .i64 zi, .string zs, .string zt]] w fun r w' => r = .returned (.tuple #[]) ∧ MkS W c m nv sv fi mo ns sl L R w' := by
 unfold stmM stmKM at hR
 dsimp only at hR
 obtain ⟨N, hN⟩ : ∃ N, ((w.heap.size, .cells #[.int .i64 zk, .int .i64 za, .int .i64 zb, .int .i64 zc, .int .i64 zx, .int .i64 zi, .string zs, .string zt] 42 (0, 0)) :: L) = N := ⟨_, rfl⟩
 have hNm : (w.heap.size, Obj.cells #[.int .i64 zk, .int .i64 za, .int .i64 zb, .int .i64 zc, .int .i64 zx, .int .i64 zi, .string zs, .string zt] 42 (0, 0)) ∈ N := by rw [← hN]; exact List.mem_cons_self
 have H0 := Lib.hid (show MkS W c m nv sv fi mo ns sl N M (w.alloc (.cells #[.int .i64 zk, .int .i64 za, .int .i64 zb, .int .i64 zc, .int .i64 zx, .int .i64 zi, .string zs, .string zt] 42 (0, 0))) from by rw [← hN]; exact h.locNew (.cells #[.int .i64 zk, .int .i64 za, .int .i64 zb, .int .i64 zc, .int .i64 zx, .int .i64 zi, .string zs, .string zt] 42 (0, 0)))
 have HNM := Lib.hid hNm
 have HNO := Lib.hid (show ∀ q, q ∈ L → q ∈ N from fun q hq => by rw [← hN]; exact List.mem_cons_of_mem _ hq)
 clear hN hNm
 rw [if_neg b26] at hR
 obtain ⟨M0, h0, hR⟩ := qab hR
 refine yca ?_; intro C0
 rw [if_neg zae, if_neg b22, if_neg b23, if_neg b27, if_neg b28, if_neg b24, if_neg b25, if_neg b26] at hR
 have e := Option.some.inj hR
 subst e
 have c20 : (zk == 20) = false := by simpa using b20
 have c21 : (zk == 21) = false := by simpa using b21
 have c22 : (zk == 22) = false := by simpa using b22
 have c23 : (zk == 23) = false := by simpa using b23
 have c27 : (zk == 27) = false := by simpa using b27
 have c28 : (zk == 28) = false := by simpa using b28
 have c24 : (zk == 24) = false := by simpa using b24
 have c25 : (zk == 25) = false := by simpa using b25
 have c26 : (zk == 26) = false := by simpa using b26
 have d26 : (zk != 26) = true := by simpa using b26
 clear hE hB hR h h0 b20 b21 b22 b23 b27 b28 b24 b25 b26
 go_enter Tryz.func29, Tryz.ntmps29
 go_wp2_with (first
  | ((with_reducible refine (C0.out _ H0.out).mono ?_); rintro e' w2 ⟨rfl, h2⟩; have H2 := Lib.hid h2; clear h2; have KX2 : Hid (KB w.heap.size #[.int .i64 zk, .int .i64 za, .int .i64 zb, .int .i64 zc, .int .i64 zx, .int .i64 zi, .string zs, .string zt] 42 w2) := Lib.hid (H2.out.locAt HNM.out); have x20 := KX2.out.cell 0 _ rfl; have lx2 := KX2.out.lt))
 refine yag ?_
 exact ⟨rfl, H2.out.sub fun q hq => HNO.out q hq⟩
theorem mstm_all (hB : MBlkC W c m nv sv fi mo ns sl f) : MStmC W c m nv sv fi mo ns sl f := by
 intro L M R w j z hz hR h
 obtain ⟨zk, za, zb, zc, zx, zi, zs, zt⟩ := z
 have hE := mexpr_any (W := W) (c := c) (m := m) (nv := nv) (sv := sv) (fi := fi) (mo := mo) (ns := ns) (sl := sl) f
 have hj := (List.getElem?_eq_some_iff.1 hz).1
 dsimp only
 by_cases b20 : zk = 20
 · subst b20; exact mstm_20 hE hB w j za zb zc zx zi zs zt hj hR h
 by_cases b21 : zk = 21
 · subst b21; exact mstm_21 hE hB w j za zb zc zx zi zs zt hj hR h
 by_cases b22 : zk = 22
 · subst b22; exact mstm_22 hE hB w j za zb zc zx zi zs zt hj hR h
 by_cases b23 : zk = 23
 · subst b23; exact mstm_23 hE hB w j za zb zc zx zi zs zt hj hR h
 by_cases b27 : zk = 27
 · subst b27; exact mstm_27 hE hB w j za zb zc zx zi zs zt hj hR h
 by_cases b28 : zk = 28
 · subst b28; exact mstm_28 hE hB w j za zb zc zx zi zs zt hj hR h
 by_cases b24 : zk = 24
 · subst b24
   by_cases hc : zc < 0
   · exact mstm_24n hE hB w j za zb zc zx zi zs zt hj hc hR h
   · exact mstm_24y hE hB w j za zb zc zx zi zs zt hj zae hR h
 by_cases b25 : zk = 25
 · subst b25; exact mstm_25 hE hB w j za zb zc zx zi zs zt hj hR h
 by_cases b26 : zk = 26
 · subst b26; exact mstm_26 hE hB w j za zb zc zx zi zs zt hj hR h
 exact mstm_x hE hB w j zk za zb zc zx zi zs zt hj b20 b21 b22 b23 b27 b28 b24 b25 b26 hR h
theorem mblk_any : ∀ f, MBlkC W c m nv sv fi mo ns sl f := by
 intro f
 induction f using Nat.strongRecOn with
 | _ f ih => exact mblk_of f fun g hg => mstm_all (ih g hg)
end Go.Proofs.YtpoeknndkccbaaaGreat
