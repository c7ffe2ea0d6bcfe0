/- Lemmas for the claim (texts Cd9, CdA, CdC, what its proof uses of them). -/
import Derived.Test.YtpnabjopfpdkhaaGreatDoorB15
import Derived.StillTailTactics
set_option linter.unusedSimpArgs false
set_option linter.unusedVariables false
namespace Go.Proofs.YtpnabjopfpdkhaaGreatDoor
open Go.RowKit
attribute [go_sem] more_more Array.size_append
set_option maxHeartbeats 8000000 in
set_option maxRecDepth 20000 in
theorem mstm_20 {W : World} {c m : Nat} {nv sv : Value} {fi mo : Int} {ns : List Nd} {sl : List Int} {f : Nat} (hE : MExprC W c m nv sv fi mo ns sl f) (hB : MBlkC W c m nv sv fi mo ns sl f) {L : List (Nat × Obj)} {M R : Mk} (w : World) (j : Nat) (za zb zc zx zi : Int) (zs zt : ByteArray) (hj : j < ns.length) (hR : stmM (exprM ns sl f) (blkM ns sl f) sl j ⟨20, za, zb, zc, zx, zi, zs, zt⟩ M = some R) (h : MkS W c m nv sv fi mo ns sl L M w) :
  Calls Tryz.prog 114 #[.pointer (some ⟨m, 0, none⟩), .int .i64 (j : Int), .agg #[.int .i64 20, .int .i64 za, .int .i64 zb, .int .i64 zc, .int .i64 zx, .int .i64 zi, .string zs, .string zt]] w fun r w' => r = .returned (.tuple #[]) ∧ MkS W c m nv sv fi mo ns sl L R w' := by
 unfold stmM stmKM at hR
 dsimp only at hR
 obtain ⟨N, hN⟩ : ∃ N, ((w.heap.size, .cells #[.int .i64 20, .int .i64 za, .int .i64 zb, .int .i64 zc, .int .i64 zx, .int .i64 zi, .string zs, .string zt] 166 (0, 0)) :: L) = N := ⟨_, rfl⟩
 have hNm : (w.heap.size, Obj.cells #[.int .i64 20, .int .i64 za, .int .i64 zb, .int .i64 zc, .int .i64 zx, .int .i64 zi, .string zs, .string zt] 166 (0, 0)) ∈ N := by rw [← hN]; exact List.mem_cons_self
 have H0 := Lib.hid (show MkS W c m nv sv fi mo ns sl N M (w.alloc (.cells #[.int .i64 20, .int .i64 za, .int .i64 zb, .int .i64 zc, .int .i64 zx, .int .i64 zi, .string zs, .string zt] 166 (0, 0))) from by rw [← hN]; exact h.locNew (.cells #[.int .i64 20, .int .i64 za, .int .i64 zb, .int .i64 zc, .int .i64 zx, .int .i64 zi, .string zs, .string zt] 166 (0, 0)))
 have HNM := Lib.hid hNm
 have HNO := Lib.hid (show ∀ q, q ∈ L → q ∈ N from fun q hq => by rw [← hN]; exact List.mem_cons_of_mem _ hq)
 clear hN hNm
 rw [if_neg zaj] at hR
 obtain ⟨M0, h0, hR⟩ := qac hR
 have C0 := Lib.hid (fun w1 hw => hE.out (L := N) h0 w1 hw)
 rw [if_pos zaj] at hR
 obtain ⟨q, hq, hR⟩ := qac hR
 have C1 := Lib.hid (fun w1 (hw : MkS W c m nv sv fi mo ns sl N M0 w1) => qaA hw 2 q 0 (j : Int) (-1) hR)
 obtain ⟨g, n2, k2, rfl, hn2, hj2, hg2, s0⟩ := h.slot hq
 have HQ := Lib.hid hq
 have hj0 : 0 ≤ (j : Int) := by omega
 have hjn2 : (j : Int) < (n2 : Int) := by omega
 clear hE hB hR h h0 hq hn2 hj s0 hg2
 go_enter Tryz.func114, Tryz.ntmps114
 go_wp2_with (first
  | (go_at_call 136; (with_reducible refine (C0.out _ H0.out).mono ?_); rintro e' w2 ⟨rfl, h2⟩; have H2 := Lib.hid h2; obtain ⟨g', n2', k2', e2', _, hj2', hg2, s0⟩ := h2.slot HQ.out; simp only [Value.slice.injEq, Option.some.injEq, Addr.mk.injEq] at e2'; obtain ⟨⟨rfl, _, _⟩, rfl, rfl⟩ := e2'; obtain ⟨iv2, vv2, hv2⟩ := h2; have km2 : KB m _ _ w2 := hv2.mkr; have z1 := km2.cell 1 _ rfl; have lm2 := km2.lt; clear hv2 km2; have KX2 : Hid (KB w.heap.size #[.int .i64 20, .int .i64 za, .int .i64 zb, .int .i64 zc, .int .i64 zx, .int .i64 zi, .string zs, .string zt] 166 w2) := Lib.hid (H2.out.locAt HNM.out); have x20 := KX2.out.cell 0 _ rfl; have lx2 := KX2.out.lt)
  | (go_at_call 101; (with_reducible refine (C1.out _ H2.out).mono ?_); rintro e' w3 ⟨rfl, h3⟩; have H3 := Lib.hid h3; clear h3))
 (first | go_end0 | refine bodyPost_ret (results_none rfl _ _ _) rfl ?_)
 exact ⟨rfl, H3.out.sub fun q hq => HNO.out q hq⟩
set_option maxHeartbeats 8000000 in
set_option maxRecDepth 20000 in
theorem mstm_21 {W : World} {c m : Nat} {nv sv : Value} {fi mo : Int} {ns : List Nd} {sl : List Int} {f : Nat} (hE : MExprC W c m nv sv fi mo ns sl f) (hB : MBlkC W c m nv sv fi mo ns sl f) {L : List (Nat × Obj)} {M R : Mk} (w : World) (j : Nat) (za zb zc zx zi : Int) (zs zt : ByteArray) (hj : j < ns.length) (hR : stmM (exprM ns sl f) (blkM ns sl f) sl j ⟨21, za, zb, zc, zx, zi, zs, zt⟩ M = some R) (h : MkS W c m nv sv fi mo ns sl L M w) :
  Calls Tryz.prog 114 #[.pointer (some ⟨m, 0, none⟩), .int .i64 (j : Int), .agg #[.int .i64 21, .int .i64 za, .int .i64 zb, .int .i64 zc, .int .i64 zx, .int .i64 zi, .string zs, .string zt]] w fun r w' => r = .returned (.tuple #[]) ∧ MkS W c m nv sv fi mo ns sl L R w' := by
 unfold stmM stmKM at hR
 dsimp only at hR
 obtain ⟨N, hN⟩ : ∃ N, ((w.heap.size, .cells #[.int .i64 21, .int .i64 za, .int .i64 zb, .int .i64 zc, .int .i64 zx, .int .i64 zi, .string zs, .string zt] 166 (0, 0)) :: L) = N := ⟨_, rfl⟩
 have hNm : (w.heap.size, Obj.cells #[.int .i64 21, .int .i64 za, .int .i64 zb, .int .i64 zc, .int .i64 zx, .int .i64 zi, .string zs, .string zt] 166 (0, 0)) ∈ N := by rw [← hN]; exact List.mem_cons_self
 have H0 := Lib.hid (show MkS W c m nv sv fi mo ns sl N M (w.alloc (.cells #[.int .i64 21, .int .i64 za, .int .i64 zb, .int .i64 zc, .int .i64 zx, .int .i64 zi, .string zs, .string zt] 166 (0, 0))) from by rw [← hN]; exact h.locNew (.cells #[.int .i64 21, .int .i64 za, .int .i64 zb, .int .i64 zc, .int .i64 zx, .int .i64 zi, .string zs, .string zt] 166 (0, 0)))
 have HNM := Lib.hid hNm
 have HNO := Lib.hid (show ∀ q, q ∈ L → q ∈ N from fun q hq => by rw [← hN]; exact List.mem_cons_of_mem _ hq)
 clear hN hNm
 rw [if_neg zaj] at hR
 obtain ⟨M0, h0, hR⟩ := qac hR
 have C0 := Lib.hid (fun w1 hw => hE.out (L := N) h0 w1 hw)
 rw [if_pos zaj] at hR
 obtain ⟨q, hq, hR⟩ := qac hR
 have C1 := Lib.hid (fun w1 (hw : MkS W c m nv sv fi mo ns sl N M0 w1) => qaA hw 2 q 0 (j : Int) (-1) hR)
 obtain ⟨g, n2, k2, rfl, hn2, hj2, hg2, s0⟩ := h.slot hq
 have HQ := Lib.hid hq
 have hj0 : 0 ≤ (j : Int) := by omega
 have hjn2 : (j : Int) < (n2 : Int) := by omega
 clear hE hB hR h h0 hq hn2 hj s0 hg2
 go_enter Tryz.func114, Tryz.ntmps114
 go_wp2_with (first
  | (go_at_call 136; (with_reducible refine (C0.out _ H0.out).mono ?_); rintro e' w2 ⟨rfl, h2⟩; have H2 := Lib.hid h2; obtain ⟨g', n2', k2', e2', _, hj2', hg2, s0⟩ := h2.slot HQ.out; simp only [Value.slice.injEq, Option.some.injEq, Addr.mk.injEq] at e2'; obtain ⟨⟨rfl, _, _⟩, rfl, rfl⟩ := e2'; obtain ⟨iv2, vv2, hv2⟩ := h2; have km2 : KB m _ _ w2 := hv2.mkr; have z1 := km2.cell 1 _ rfl; have lm2 := km2.lt; clear hv2 km2; have KX2 : Hid (KB w.heap.size #[.int .i64 21, .int .i64 za, .int .i64 zb, .int .i64 zc, .int .i64 zx, .int .i64 zi, .string zs, .string zt] 166 w2) := Lib.hid (H2.out.locAt HNM.out); have x20 := KX2.out.cell 0 _ rfl; have lx2 := KX2.out.lt)
  | (go_at_call 101; (with_reducible refine (C1.out _ H2.out).mono ?_); rintro e' w3 ⟨rfl, h3⟩; have H3 := Lib.hid h3; clear h3))
 (first | go_end0 | refine bodyPost_ret (results_none rfl _ _ _) rfl ?_)
 exact ⟨rfl, H3.out.sub fun q hq => HNO.out q hq⟩
set_option maxHeartbeats 8000000 in
set_option maxRecDepth 20000 in
theorem mstm_22 {W : World} {c m : Nat} {nv sv : Value} {fi mo : Int} {ns : List Nd} {sl : List Int} {f : Nat} (hE : MExprC W c m nv sv fi mo ns sl f) (hB : MBlkC W c m nv sv fi mo ns sl f) {L : List (Nat × Obj)} {M R : Mk} (w : World) (j : Nat) (za zb zc zx zi : Int) (zs zt : ByteArray) (hj : j < ns.length) (hR : stmM (exprM ns sl f) (blkM ns sl f) sl j ⟨22, za, zb, zc, zx, zi, zs, zt⟩ M = some R) (h : MkS W c m nv sv fi mo ns sl L M w) :
  Calls Tryz.prog 114 #[.pointer (some ⟨m, 0, none⟩), .int .i64 (j : Int), .agg #[.int .i64 22, .int .i64 za, .int .i64 zb, .int .i64 zc, .int .i64 zx, .int .i64 zi, .string zs, .string zt]] w fun r w' => r = .returned (.tuple #[]) ∧ MkS W c m nv sv fi mo ns sl L R w' := by
 unfold stmM stmKM at hR
 dsimp only at hR
 obtain ⟨N, hN⟩ : ∃ N, ((w.heap.size, .cells #[.int .i64 22, .int .i64 za, .int .i64 zb, .int .i64 zc, .int .i64 zx, .int .i64 zi, .string zs, .string zt] 166 (0, 0)) :: L) = N := ⟨_, rfl⟩
 have hNm : (w.heap.size, Obj.cells #[.int .i64 22, .int .i64 za, .int .i64 zb, .int .i64 zc, .int .i64 zx, .int .i64 zi, .string zs, .string zt] 166 (0, 0)) ∈ N := by rw [← hN]; exact List.mem_cons_self
 have H0 := Lib.hid (show MkS W c m nv sv fi mo ns sl N M (w.alloc (.cells #[.int .i64 22, .int .i64 za, .int .i64 zb, .int .i64 zc, .int .i64 zx, .int .i64 zi, .string zs, .string zt] 166 (0, 0))) from by rw [← hN]; exact h.locNew (.cells #[.int .i64 22, .int .i64 za, .int .i64 zb, .int .i64 zc, .int .i64 zx, .int .i64 zi, .string zs, .string zt] 166 (0, 0)))
 have HNM := Lib.hid hNm
 have HNO := Lib.hid (show ∀ q, q ∈ L → q ∈ N from fun q hq => by rw [← hN]; exact List.mem_cons_of_mem _ hq)
 clear hN hNm
 rw [if_neg zaj] at hR
 obtain ⟨M0, h0, hR⟩ := qac hR
 have C0 := Lib.hid (fun w1 hw => hE.out (L := N) h0 w1 hw)
 rw [if_neg zaj] at hR
 rw [if_pos zaj] at hR
 obtain ⟨M1, h1, hR⟩ := qac hR
 have C1 := Lib.hid (fun w1 hw => hE.out (L := N) h1 w1 hw)
 have C2 := Lib.hid (fun w1 (hw : MkS W c m nv sv fi mo ns sl N M1 w1) => qaA hw 10 0 0 (j : Int) (-2) hR)
 clear hE hB hR h h0 h1
 go_enter Tryz.func114, Tryz.ntmps114
 go_wp2_with (first
  | (go_at_call 136; (with_reducible refine (C0.out _ H0.out).mono ?_); rintro e' w2 ⟨rfl, h2⟩; have H2 := Lib.hid h2; clear h2; have KX2 : Hid (KB w.heap.size #[.int .i64 22, .int .i64 za, .int .i64 zb, .int .i64 zc, .int .i64 zx, .int .i64 zi, .string zs, .string zt] 166 w2) := Lib.hid (H2.out.locAt HNM.out); have x20 := KX2.out.cell 0 _ rfl; have x22 := KX2.out.cell 2 _ rfl; have lx2 := KX2.out.lt)
  | (go_at_call 136; (with_reducible refine (C1.out _ H2.out).mono ?_); rintro e' w3 ⟨rfl, h3⟩; have H3 := Lib.hid h3; clear h3)
  | (go_at_call 101; (with_reducible refine (C2.out _ H3.out).mono ?_); rintro e' w4 ⟨rfl, h4⟩; have H4 := Lib.hid h4; clear h4))
 (first | go_end0 | refine bodyPost_ret (results_none rfl _ _ _) rfl ?_)
 exact ⟨rfl, H4.out.sub fun q hq => HNO.out q hq⟩
set_option maxHeartbeats 8000000 in
set_option maxRecDepth 20000 in
theorem mstm_23 {W : World} {c m : Nat} {nv sv : Value} {fi mo : Int} {ns : List Nd} {sl : List Int} {f : Nat} (hE : MExprC W c m nv sv fi mo ns sl f) (hB : MBlkC W c m nv sv fi mo ns sl f) {L : List (Nat × Obj)} {M R : Mk} (w : World) (j : Nat) (za zb zc zx zi : Int) (zs zt : ByteArray) (hj : j < ns.length) (hR : stmM (exprM ns sl f) (blkM ns sl f) sl j ⟨23, za, zb, zc, zx, zi, zs, zt⟩ M = some R) (h : MkS W c m nv sv fi mo ns sl L M w) :
  Calls Tryz.prog 114 #[.pointer (some ⟨m, 0, none⟩), .int .i64 (j : Int), .agg #[.int .i64 23, .int .i64 za, .int .i64 zb, .int .i64 zc, .int .i64 zx, .int .i64 zi, .string zs, .string zt]] w fun r w' => r = .returned (.tuple #[]) ∧ MkS W c m nv sv fi mo ns sl L R w' := by
 unfold stmM stmKM at hR
 dsimp only at hR
 obtain ⟨N, hN⟩ : ∃ N, ((w.heap.size, .cells #[.int .i64 23, .int .i64 za, .int .i64 zb, .int .i64 zc, .int .i64 zx, .int .i64 zi, .string zs, .string zt] 166 (0, 0)) :: L) = N := ⟨_, rfl⟩
 have hNm : (w.heap.size, Obj.cells #[.int .i64 23, .int .i64 za, .int .i64 zb, .int .i64 zc, .int .i64 zx, .int .i64 zi, .string zs, .string zt] 166 (0, 0)) ∈ N := by rw [← hN]; exact List.mem_cons_self
 have H0 := Lib.hid (show MkS W c m nv sv fi mo ns sl N M (w.alloc (.cells #[.int .i64 23, .int .i64 za, .int .i64 zb, .int .i64 zc, .int .i64 zx, .int .i64 zi, .string zs, .string zt] 166 (0, 0))) from by rw [← hN]; exact h.locNew (.cells #[.int .i64 23, .int .i64 za, .int .i64 zb, .int .i64 zc, .int .i64 zx, .int .i64 zi, .string zs, .string zt] 166 (0, 0)))
 have HNM := Lib.hid hNm
 have HNO := Lib.hid (show ∀ q, q ∈ L → q ∈ N from fun q hq => by rw [← hN]; exact List.mem_cons_of_mem _ hq)
 clear hN hNm
 rw [if_neg zaj] at hR
 obtain ⟨M0, h0, hR⟩ := qac hR
 have C0 := Lib.hid (fun w1 hw => hE.out (L := N) h0 w1 hw)
 rw [if_neg zaj] at hR
 rw [if_neg zaj] at hR
 rw [if_pos zaj] at hR
 have C1 := Lib.hid (fun w1 (hw : MkS W c m nv sv fi mo ns sl N M0 w1) => qaA hw 11 0 0 (j : Int) (-1) hR)
 clear hE hB hR h h0
 go_enter Tryz.func114, Tryz.ntmps114
 go_wp2_with (first
  | (go_at_call 136; (with_reducible refine (C0.out _ H0.out).mono ?_); rintro e' w2 ⟨rfl, h2⟩; have H2 := Lib.hid h2; clear h2; have KX2 : Hid (KB w.heap.size #[.int .i64 23, .int .i64 za, .int .i64 zb, .int .i64 zc, .int .i64 zx, .int .i64 zi, .string zs, .string zt] 166 w2) := Lib.hid (H2.out.locAt HNM.out); have x20 := KX2.out.cell 0 _ rfl; have lx2 := KX2.out.lt)
  | (go_at_call 101; (with_reducible refine (C1.out _ H2.out).mono ?_); rintro e' w3 ⟨rfl, h3⟩; have H3 := Lib.hid h3; clear h3))
 (first | go_end0 | refine bodyPost_ret (results_none rfl _ _ _) rfl ?_)
 exact ⟨rfl, H3.out.sub fun q hq => HNO.out q hq⟩
set_option maxHeartbeats 8000000 in
set_option maxRecDepth 20000 in
theorem mstm_27 {W : World} {c m : Nat} {nv sv : Value} {fi mo : Int} {ns : List Nd} {sl : List Int} {f : Nat} (hE : MExprC W c m nv sv fi mo ns sl f) (hB : MBlkC W c m nv sv fi mo ns sl f) {L : List (Nat × Obj)} {M R : Mk} (w : World) (j : Nat) (za zb zc zx zi : Int) (zs zt : ByteArray) (hj : j < ns.length) (hR : stmM (exprM ns sl f) (blkM ns sl f) sl j ⟨27, za, zb, zc, zx, zi, zs, zt⟩ M = some R) (h : MkS W c m nv sv fi mo ns sl L M w) :
  Calls Tryz.prog 114 #[.pointer (some ⟨m, 0, none⟩), .int .i64 (j : Int), .agg #[.int .i64 27, .int .i64 za, .int .i64 zb, .int .i64 zc, .int .i64 zx, .int .i64 zi, .string zs, .string zt]] w fun r w' => r = .returned (.tuple #[]) ∧ MkS W c m nv sv fi mo ns sl L R w' := by
 unfold stmM stmKM at hR
 dsimp only at hR
 obtain ⟨N, hN⟩ : ∃ N, ((w.heap.size, .cells #[.int .i64 27, .int .i64 za, .int .i64 zb, .int .i64 zc, .int .i64 zx, .int .i64 zi, .string zs, .string zt] 166 (0, 0)) :: L) = N := ⟨_, rfl⟩
 have hNm : (w.heap.size, Obj.cells #[.int .i64 27, .int .i64 za, .int .i64 zb, .int .i64 zc, .int .i64 zx, .int .i64 zi, .string zs, .string zt] 166 (0, 0)) ∈ N := by rw [← hN]; exact List.mem_cons_self
 have H0 := Lib.hid (show MkS W c m nv sv fi mo ns sl N M (w.alloc (.cells #[.int .i64 27, .int .i64 za, .int .i64 zb, .int .i64 zc, .int .i64 zx, .int .i64 zi, .string zs, .string zt] 166 (0, 0))) from by rw [← hN]; exact h.locNew (.cells #[.int .i64 27, .int .i64 za, .int .i64 zb, .int .i64 zc, .int .i64 zx, .int .i64 zi, .string zs, .string zt] 166 (0, 0)))
 have HNM := Lib.hid hNm
 have HNO := Lib.hid (show ∀ q, q ∈ L → q ∈ N from fun q hq => by rw [← hN]; exact List.mem_cons_of_mem _ hq)
 clear hN hNm
 rw [if_neg zaj] at hR
 obtain ⟨M0, h0, hR⟩ := qac hR
 have C0 := Lib.hid (fun w1 hw => hE.out (L := N) h0 w1 hw)
 rw [if_neg zaj] at hR
 rw [if_neg zaj] at hR
 rw [if_neg zaj] at hR
 rw [if_pos zaj] at hR
 have C1 := Lib.hid (fun w1 (hw : MkS W c m nv sv fi mo ns sl N M0 w1) => qaA hw 16 0 0 (j : Int) (-1) hR)
 clear hE hB hR h h0
 go_enter Tryz.func114, Tryz.ntmps114
 go_wp2_with (first
  | (go_at_call 136; (with_reducible refine (C0.out _ H0.out).mono ?_); rintro e' w2 ⟨rfl, h2⟩; have H2 := Lib.hid h2; clear h2; have KX2 : Hid (KB w.heap.size #[.int .i64 27, .int .i64 za, .int .i64 zb, .int .i64 zc, .int .i64 zx, .int .i64 zi, .string zs, .string zt] 166 w2) := Lib.hid (H2.out.locAt HNM.out); have x20 := KX2.out.cell 0 _ rfl; have lx2 := KX2.out.lt)
  | (go_at_call 101; (with_reducible refine (C1.out _ H2.out).mono ?_); rintro e' w3 ⟨rfl, h3⟩; have H3 := Lib.hid h3; clear h3))
 (first | go_end0 | refine bodyPost_ret (results_none rfl _ _ _) rfl ?_)
 exact ⟨rfl, H3.out.sub fun q hq => HNO.out q hq⟩
set_option maxHeartbeats 8000000 in
set_option maxRecDepth 20000 in
theorem mstm_28 {W : World} {c m : Nat} {nv sv : Value} {fi mo : Int} {ns : List Nd} {sl : List Int} {f : Nat} (hE : MExprC W c m nv sv fi mo ns sl f) (hB : MBlkC W c m nv sv fi mo ns sl f) {L : List (Nat × Obj)} {M R : Mk} (w : World) (j : Nat) (za zb zc zx zi : Int) (zs zt : ByteArray) (hj : j < ns.length) (hR : stmM (exprM ns sl f) (blkM ns sl f) sl j ⟨28, za, zb, zc, zx, zi, zs, zt⟩ M = some R) (h : MkS W c m nv sv fi mo ns sl L M w) :
  Calls Tryz.prog 114 #[.pointer (some ⟨m, 0, none⟩), .int .i64 (j : Int), .agg #[.int .i64 28, .int .i64 za, .int .i64 zb, .int .i64 zc, .int .i64 zx, .int .i64 zi, .string zs, .string zt]] w fun r w' => r = .returned (.tuple #[]) ∧ MkS W c m nv sv fi mo ns sl L R w' := by
 unfold stmM stmKM at hR
 dsimp only at hR
 obtain ⟨N, hN⟩ : ∃ N, ((w.heap.size, .cells #[.int .i64 28, .int .i64 za, .int .i64 zb, .int .i64 zc, .int .i64 zx, .int .i64 zi, .string zs, .string zt] 166 (0, 0)) :: L) = N := ⟨_, rfl⟩
 have hNm : (w.heap.size, Obj.cells #[.int .i64 28, .int .i64 za, .int .i64 zb, .int .i64 zc, .int .i64 zx, .int .i64 zi, .string zs, .string zt] 166 (0, 0)) ∈ N := by rw [← hN]; exact List.mem_cons_self
 have H0 := Lib.hid (show MkS W c m nv sv fi mo ns sl N M (w.alloc (.cells #[.int .i64 28, .int .i64 za, .int .i64 zb, .int .i64 zc, .int .i64 zx, .int .i64 zi, .string zs, .string zt] 166 (0, 0))) from by rw [← hN]; exact h.locNew (.cells #[.int .i64 28, .int .i64 za, .int .i64 zb, .int .i64 zc, .int .i64 zx, .int .i64 zi, .string zs, .string zt] 166 (0, 0)))
 have HNM := Lib.hid hNm
 have HNO := Lib.hid (show ∀ q, q ∈ L → q ∈ N from fun q hq => by rw [← hN]; exact List.mem_cons_of_mem _ hq)
 clear hN hNm
 rw [if_neg zaj] at hR
 obtain ⟨M0, h0, hR⟩ := qac hR
 have C0 := Lib.hid (fun w1 hw => hE.out (L := N) h0 w1 hw)
 rw [if_neg zaj] at hR
 rw [if_neg zaj] at hR
 rw [if_neg zaj] at hR
 rw [if_neg zaj] at hR
 rw [if_pos zaj] at hR
 have C1 := Lib.hid (fun w1 (hw : MkS W c m nv sv fi mo ns sl N M0 w1) => qaA hw 17 0 0 (j : Int) (-1) hR)
 clear hE hB hR h h0
 go_enter Tryz.func114, Tryz.ntmps114
 go_wp2_with (first
  | (go_at_call 136; (with_reducible refine (C0.out _ H0.out).mono ?_); rintro e' w2 ⟨rfl, h2⟩; have H2 := Lib.hid h2; clear h2; have KX2 : Hid (KB w.heap.size #[.int .i64 28, .int .i64 za, .int .i64 zb, .int .i64 zc, .int .i64 zx, .int .i64 zi, .string zs, .string zt] 166 w2) := Lib.hid (H2.out.locAt HNM.out); have x20 := KX2.out.cell 0 _ rfl; have lx2 := KX2.out.lt)
  | (go_at_call 101; (with_reducible refine (C1.out _ H2.out).mono ?_); rintro e' w3 ⟨rfl, h3⟩; have H3 := Lib.hid h3; clear h3))
 (first | go_end0 | refine bodyPost_ret (results_none rfl _ _ _) rfl ?_)
 exact ⟨rfl, H3.out.sub fun q hq => HNO.out q hq⟩
set_option maxHeartbeats 8000000 in
set_option maxRecDepth 20000 in
theorem mstm_24n {W : World} {c m : Nat} {nv sv : Value} {fi mo : Int} {ns : List Nd} {sl : List Int} {f : Nat} (hE : MExprC W c m nv sv fi mo ns sl f) (hB : MBlkC W c m nv sv fi mo ns sl f) {L : List (Nat × Obj)} {M R : Mk} (w : World) (j : Nat) (za zb zc zx zi : Int) (zs zt : ByteArray) (hj : j < ns.length) (hc : zc < 0) (hR : stmM (exprM ns sl f) (blkM ns sl f) sl j ⟨24, za, zb, zc, zx, zi, zs, zt⟩ M = some R) (h : MkS W c m nv sv fi mo ns sl L M w) :
  Calls Tryz.prog 114 #[.pointer (some ⟨m, 0, none⟩), .int .i64 (j : Int), .agg #[.int .i64 24, .int .i64 za, .int .i64 zb, .int .i64 zc, .int .i64 zx, .int .i64 zi, .string zs, .string zt]] w fun r w' => r = .returned (.tuple #[]) ∧ MkS W c m nv sv fi mo ns sl L R w' := by
 unfold stmM stmKM at hR
 dsimp only at hR
 obtain ⟨N, hN⟩ : ∃ N, ((w.heap.size, .cells #[.int .i64 24, .int .i64 za, .int .i64 zb, .int .i64 zc, .int .i64 zx, .int .i64 zi, .string zs, .string zt] 166 (0, 0)) :: L) = N := ⟨_, rfl⟩
 have hNm : (w.heap.size, Obj.cells #[.int .i64 24, .int .i64 za, .int .i64 zb, .int .i64 zc, .int .i64 zx, .int .i64 zi, .string zs, .string zt] 166 (0, 0)) ∈ N := by rw [← hN]; exact List.mem_cons_self
 have H0 := Lib.hid (show MkS W c m nv sv fi mo ns sl N M (w.alloc (.cells #[.int .i64 24, .int .i64 za, .int .i64 zb, .int .i64 zc, .int .i64 zx, .int .i64 zi, .string zs, .string zt] 166 (0, 0))) from by rw [← hN]; exact h.locNew (.cells #[.int .i64 24, .int .i64 za, .int .i64 zb, .int .i64 zc, .int .i64 zx, .int .i64 zi, .string zs, .string zt] 166 (0, 0)))
 have HNM := Lib.hid hNm
 have HNO := Lib.hid (show ∀ q, q ∈ L → q ∈ N from fun q hq => by rw [← hN]; exact List.mem_cons_of_mem _ hq)
 clear hN hNm
 rw [if_neg zaj] at hR
 obtain ⟨M0, h0, hR⟩ := qac hR
 have C0 := Lib.hid (fun w1 hw => hE.out (L := N) h0 w1 hw)
 rw [if_neg zaj] at hR
 rw [if_neg zaj] at hR
 rw [if_neg zaj] at hR
 rw [if_neg zaj] at hR
 rw [if_neg zaj] at hR
 rw [if_pos zaj] at hR
 unfold ifM at hR
 obtain ⟨M1, h1, hR⟩ := qac hR
 obtain ⟨M2, h2, hR⟩ := qac hR
 have C1 := Lib.hid (fun w1 (hw : MkS W c m nv sv fi mo ns sl N M0 w1) => qbd hw 8 0 0 (j : Int) (-1) h1)
 have C2 := Lib.hid (fun LL w1 hw => hB.out (L := LL) h2 w1 hw)
 dsimp only at hR
 rw [if_pos hc] at hR
 have HR5 := Lib.hid (show (if (8 : Int) = 13 ∨ (8 : Int) = 15 then M2.setB M0.ins.length else M2.setA M0.ins.length) = some R from hR)
 clear hE hB hR h h0 h1 h2
 go_enter Tryz.func114, Tryz.ntmps114
 go_wp2_with (first
  | (go_at_call 136; (with_reducible refine (C0.out _ H0.out).mono ?_); rintro e' w2 ⟨rfl, h2⟩; have H2 := Lib.hid h2; clear h2; have KX2 : Hid (KB w.heap.size #[.int .i64 24, .int .i64 za, .int .i64 zb, .int .i64 zc, .int .i64 zx, .int .i64 zi, .string zs, .string zt] 166 w2) := Lib.hid (H2.out.locAt HNM.out); have x20 := KX2.out.cell 0 _ rfl; have lx2 := KX2.out.lt)
  | (go_at_call 137; (with_reducible refine (C1.out _ H2.out).mono ?_); rintro e' w3 ⟨km3, ko3, ki3, rfl, h3⟩; have H3 := Lib.hid h3; clear h3; have KX3 : Hid (KB w.heap.size #[.int .i64 24, .int .i64 za, .int .i64 zb, .int .i64 zc, .int .i64 zx, .int .i64 zi, .string zs, .string zt] 166 w3) := Lib.hid (H3.out.locAt (List.mem_cons_of_mem _ (List.mem_cons_of_mem _ (List.mem_cons_of_mem _ HNM.out)))); have x32 := KX3.out.cell 2 _ rfl; have lx3 := KX3.out.lt)
  | (go_at_call 100; (with_reducible refine (C2.out _ _ H3.out).mono ?_); rintro e' w4 ⟨rfl, h4⟩; have H4 := Lib.hid h4; clear h4; have KX4 : Hid (KB w.heap.size #[.int .i64 24, .int .i64 za, .int .i64 zb, .int .i64 zc, .int .i64 zx, .int .i64 zi, .string zs, .string zt] 166 w4) := Lib.hid (H4.out.locAt (List.mem_cons_of_mem _ (List.mem_cons_of_mem _ (List.mem_cons_of_mem _ HNM.out)))); have x43 := KX4.out.cell 3 _ rfl; have lx4 := KX4.out.lt)
  | (go_at_call 178; (with_reducible refine (qbB H4.out (op := 8) List.mem_cons_self (List.mem_cons_of_mem _ List.mem_cons_self) (List.mem_cons_of_mem _ (List.mem_cons_of_mem _ List.mem_cons_self)) HR5.out).mono ?_); rintro e' w5 ⟨rfl, h5⟩; have H5 := Lib.hid h5; clear h5))
 (first | go_end0 | refine bodyPost_ret (results_none rfl _ _ _) rfl ?_)
 exact ⟨rfl, H5.out.sub fun q hq => List.mem_cons_of_mem _ (List.mem_cons_of_mem _ (List.mem_cons_of_mem _ (HNO.out q hq)))⟩
set_option maxHeartbeats 8000000 in
set_option maxRecDepth 20000 in
theorem mstm_24y {W : World} {c m : Nat} {nv sv : Value} {fi mo : Int} {ns : List Nd} {sl : List Int} {f : Nat} (hE : MExprC W c m nv sv fi mo ns sl f) (hB : MBlkC W c m nv sv fi mo ns sl f) {L : List (Nat × Obj)} {M R : Mk} (w : World) (j : Nat) (za zb zc zx zi : Int) (zs zt : ByteArray) (hj : j < ns.length) (hc : 0 ≤ zc) (hR : stmM (exprM ns sl f) (blkM ns sl f) sl j ⟨24, za, zb, zc, zx, zi, zs, zt⟩ M = some R) (h : MkS W c m nv sv fi mo ns sl L M w) :
  Calls Tryz.prog 114 #[.pointer (some ⟨m, 0, none⟩), .int .i64 (j : Int), .agg #[.int .i64 24, .int .i64 za, .int .i64 zb, .int .i64 zc, .int .i64 zx, .int .i64 zi, .string zs, .string zt]] w fun r w' => r = .returned (.tuple #[]) ∧ MkS W c m nv sv fi mo ns sl L R w' := by
 unfold stmM stmKM at hR
 dsimp only at hR
 obtain ⟨N, hN⟩ : ∃ N, ((w.heap.size, .cells #[.int .i64 24, .int .i64 za, .int .i64 zb, .int .i64 zc, .int .i64 zx, .int .i64 zi, .string zs, .string zt] 166 (0, 0)) :: L) = N := ⟨_, rfl⟩
 have hNm : (w.heap.size, Obj.cells #[.int .i64 24, .int .i64 za, .int .i64 zb, .int .i64 zc, .int .i64 zx, .int .i64 zi, .string zs, .string zt] 166 (0, 0)) ∈ N := by rw [← hN]; exact List.mem_cons_self
 have H0 := Lib.hid (show MkS W c m nv sv fi mo ns sl N M (w.alloc (.cells #[.int .i64 24, .int .i64 za, .int .i64 zb, .int .i64 zc, .int .i64 zx, .int .i64 zi, .string zs, .string zt] 166 (0, 0))) from by rw [← hN]; exact h.locNew (.cells #[.int .i64 24, .int .i64 za, .int .i64 zb, .int .i64 zc, .int .i64 zx, .int .i64 zi, .string zs, .string zt] 166 (0, 0)))
 have HNM := Lib.hid hNm
 have HNO := Lib.hid (show ∀ q, q ∈ L → q ∈ N from fun q hq => by rw [← hN]; exact List.mem_cons_of_mem _ hq)
 clear hN hNm
 rw [if_neg zaj] at hR
 obtain ⟨M0, h0, hR⟩ := qac hR
 have C0 := Lib.hid (fun w1 hw => hE.out (L := N) h0 w1 hw)
 rw [if_neg zaj] at hR
 rw [if_neg zaj] at hR
 rw [if_neg zaj] at hR
 rw [if_neg zaj] at hR
 rw [if_neg zaj] at hR
 rw [if_pos zaj] at hR
 unfold ifM at hR
 obtain ⟨M1, h1, hR⟩ := qac hR
 obtain ⟨M2, h2, hR⟩ := qac hR
 have C1 := Lib.hid (fun w1 (hw : MkS W c m nv sv fi mo ns sl N M0 w1) => qbd hw 8 0 0 (j : Int) (-1) h1)
 have C2 := Lib.hid (fun LL w1 hw => hB.out (L := LL) h2 w1 hw)
 dsimp only at hR
 rw [if_neg zae] at hR
 obtain ⟨M3, h3, hR⟩ := qac hR
 obtain ⟨M4, h4, hR⟩ := qac hR
 obtain ⟨M5, h5, hR⟩ := qac hR
 have C3 := Lib.hid (fun LL w1 (hw : MkS W c m nv sv fi mo ns sl LL M2 w1) => qbd hw 9 0 0 (j : Int) 0 h3)
 have C5 := Lib.hid (fun LL w1 hw => hB.out (L := LL) h5 w1 hw)
 have HR4 := Lib.hid (show (if (8 : Int) = 13 ∨ (8 : Int) = 15 then M3.setB M0.ins.length else M3.setA M0.ins.length) = some M4 from h4)
 have HR5 := Lib.hid (show (if (9 : Int) = 13 ∨ (9 : Int) = 15 then M5.setB M2.ins.length else M5.setA M2.ins.length) = some R from hR)
 clear hE hB hR h h0 h1 h2 h3 h4 h5
 go_enter Tryz.func114, Tryz.ntmps114
 go_wp2_with (first
  | (go_at_call 136; (with_reducible refine (C0.out _ H0.out).mono ?_); rintro e' w2 ⟨rfl, h2⟩; have H2 := Lib.hid h2; clear h2; have KX2 : Hid (KB w.heap.size #[.int .i64 24, .int .i64 za, .int .i64 zb, .int .i64 zc, .int .i64 zx, .int .i64 zi, .string zs, .string zt] 166 w2) := Lib.hid (H2.out.locAt HNM.out); have x20 := KX2.out.cell 0 _ rfl; have lx2 := KX2.out.lt)
  | (go_at_call 137; (with_reducible refine (C1.out _ H2.out).mono ?_); rintro e' w3 ⟨km3, ko3, ki3, rfl, h3⟩; have H3 := Lib.hid h3; clear h3; have KX3 : Hid (KB w.heap.size #[.int .i64 24, .int .i64 za, .int .i64 zb, .int .i64 zc, .int .i64 zx, .int .i64 zi, .string zs, .string zt] 166 w3) := Lib.hid (H3.out.locAt (List.mem_cons_of_mem _ (List.mem_cons_of_mem _ (List.mem_cons_of_mem _ HNM.out)))); have x32 := KX3.out.cell 2 _ rfl; have lx3 := KX3.out.lt)
  | (go_at_call 100; (with_reducible refine (C2.out _ _ H3.out).mono ?_); rintro e' w4 ⟨rfl, h4⟩; have H4 := Lib.hid h4; clear h4; have KX4 : Hid (KB w.heap.size #[.int .i64 24, .int .i64 za, .int .i64 zb, .int .i64 zc, .int .i64 zx, .int .i64 zi, .string zs, .string zt] 166 w4) := Lib.hid (H4.out.locAt (List.mem_cons_of_mem _ (List.mem_cons_of_mem _ (List.mem_cons_of_mem _ HNM.out)))); have x43 := KX4.out.cell 3 _ rfl; have lx4 := KX4.out.lt)
  | (go_at_call 137; (with_reducible refine (C3.out _ _ H4.out).mono ?_); rintro e' w5 ⟨km5, ko5, ki5, rfl, h5⟩; have H5 := Lib.hid h5; clear h5)
  | (go_at_call 178; (with_reducible refine (qbB H5.out (op := 8) (List.mem_cons_of_mem _ (List.mem_cons_of_mem _ (List.mem_cons_of_mem _ List.mem_cons_self))) (List.mem_cons_of_mem _ (List.mem_cons_of_mem _ (List.mem_cons_of_mem _ (List.mem_cons_of_mem _ List.mem_cons_self)))) (List.mem_cons_of_mem _ (List.mem_cons_of_mem _ (List.mem_cons_of_mem _ (List.mem_cons_of_mem _ (List.mem_cons_of_mem _ List.mem_cons_self))))) HR4.out).mono ?_); rintro e' w6 ⟨rfl, h6⟩; have H6 := Lib.hid h6; clear h6; have KX6 : Hid (KB w.heap.size #[.int .i64 24, .int .i64 za, .int .i64 zb, .int .i64 zc, .int .i64 zx, .int .i64 zi, .string zs, .string zt] 166 w6) := Lib.hid (H6.out.locAt (List.mem_cons_of_mem _ (List.mem_cons_of_mem _ (List.mem_cons_of_mem _ (List.mem_cons_of_mem _ (List.mem_cons_of_mem _ (List.mem_cons_of_mem _ HNM.out))))))); have x63 := KX6.out.cell 3 _ rfl; have lx6 := KX6.out.lt)
  | (go_at_call 100; (with_reducible refine (C5.out _ _ H6.out).mono ?_); rintro e' w7 ⟨rfl, h7⟩; have H7 := Lib.hid h7; clear h7)
  | (go_at_call 178; (with_reducible refine (qbB H7.out (op := 9) List.mem_cons_self (List.mem_cons_of_mem _ List.mem_cons_self) (List.mem_cons_of_mem _ (List.mem_cons_of_mem _ List.mem_cons_self)) HR5.out).mono ?_); rintro e' w8 ⟨rfl, h8⟩; have H8 := Lib.hid h8; clear h8))
 (first | go_end0 | refine bodyPost_ret (results_none rfl _ _ _) rfl ?_)
 exact ⟨rfl, H8.out.sub fun q hq => List.mem_cons_of_mem _ (List.mem_cons_of_mem _ (List.mem_cons_of_mem _ (List.mem_cons_of_mem _ (List.mem_cons_of_mem _ (List.mem_cons_of_mem _ (HNO.out q hq))))))⟩
set_option maxHeartbeats 8000000 in
set_option maxRecDepth 20000 in
theorem mstm_26 {W : World} {c m : Nat} {nv sv : Value} {fi mo : Int} {ns : List Nd} {sl : List Int} {f : Nat} (hE : MExprC W c m nv sv fi mo ns sl f) (hB : MBlkC W c m nv sv fi mo ns sl f) {L : List (Nat × Obj)} {M R : Mk} (w : World) (j : Nat) (za zb zc zx zi : Int) (zs zt : ByteArray) (hj : j < ns.length) (hR : stmM (exprM ns sl f) (blkM ns sl f) sl j ⟨26, za, zb, zc, zx, zi, zs, zt⟩ M = some R) (h : MkS W c m nv sv fi mo ns sl L M w) :
  Calls Tryz.prog 114 #[.pointer (some ⟨m, 0, none⟩), .int .i64 (j : Int), .agg #[.int .i64 26, .int .i64 za, .int .i64 zb, .int .i64 zc, .int .i64 zx, .int .i64 zi, .string zs, .string zt]] w fun r w' => r = .returned (.tuple #[]) ∧ MkS W c m nv sv fi mo ns sl L R w' := by
 unfold stmM stmKM at hR
 dsimp only at hR
 obtain ⟨N, hN⟩ : ∃ N, ((w.heap.size, .cells #[.int .i64 26, .int .i64 za, .int .i64 zb, .int .i64 zc, .int .i64 zx, .int .i64 zi, .string zs, .string zt] 166 (0, 0)) :: L) = N := ⟨_, rfl⟩
 have hNm : (w.heap.size, Obj.cells #[.int .i64 26, .int .i64 za, .int .i64 zb, .int .i64 zc, .int .i64 zx, .int .i64 zi, .string zs, .string zt] 166 (0, 0)) ∈ N := by rw [← hN]; exact List.mem_cons_self
 have H0 := Lib.hid (show MkS W c m nv sv fi mo ns sl N M (w.alloc (.cells #[.int .i64 26, .int .i64 za, .int .i64 zb, .int .i64 zc, .int .i64 zx, .int .i64 zi, .string zs, .string zt] 166 (0, 0))) from by rw [← hN]; exact h.locNew (.cells #[.int .i64 26, .int .i64 za, .int .i64 zb, .int .i64 zc, .int .i64 zx, .int .i64 zi, .string zs, .string zt] 166 (0, 0)))
 have HNM := Lib.hid hNm
 have HNO := Lib.hid (show ∀ q, q ∈ L → q ∈ N from fun q hq => by rw [← hN]; exact List.mem_cons_of_mem _ hq)
 clear hN hNm
 rw [if_pos rfl] at hR
 obtain ⟨M0, h0, hR⟩ := qac hR
 cases h0
 rw [if_neg zaj] at hR
 rw [if_neg zaj] at hR
 rw [if_neg zaj] at hR
 rw [if_neg zaj] at hR
 rw [if_neg zaj] at hR
 rw [if_neg zaj] at hR
 rw [if_neg zaj] at hR
 rw [if_pos zaj] at hR
 obtain ⟨M1, h1, hR⟩ := qac hR
 have C1 := Lib.hid (fun w1 (hw : MkS W c m nv sv fi mo ns sl N M w1) => qaA hw 14 zi 0 (j : Int) 0 h1)
 have C2 := Lib.hid (fun w1 hw => mloop_of hB (L := N) w1 15 0 zb j (Or.inr rfl) hR hw)
 clear hE hB hR h h1
 go_enter Tryz.func114, Tryz.ntmps114
 go_wp2_with (first
  | (go_at_call 101; (with_reducible refine (C1.out _ H0.out).mono ?_); rintro e' w2 ⟨rfl, h2⟩; have H2 := Lib.hid h2; clear h2; have KX2 : Hid (KB w.heap.size #[.int .i64 26, .int .i64 za, .int .i64 zb, .int .i64 zc, .int .i64 zx, .int .i64 zi, .string zs, .string zt] 166 w2) := Lib.hid (H2.out.locAt HNM.out); have x22 := KX2.out.cell 2 _ rfl; have lx2 := KX2.out.lt)
  | (go_at_call 138; (with_reducible refine (C2.out _ H2.out).mono ?_); rintro e' w3 ⟨rfl, h3⟩; have H3 := Lib.hid h3; clear h3))
 (first | go_end0 | refine bodyPost_ret (results_none rfl _ _ _) rfl ?_)
 exact ⟨rfl, H3.out.sub fun q hq => HNO.out q hq⟩
set_option maxHeartbeats 8000000 in
set_option maxRecDepth 20000 in
theorem mstm_25 {W : World} {c m : Nat} {nv sv : Value} {fi mo : Int} {ns : List Nd} {sl : List Int} {f : Nat} (hE : MExprC W c m nv sv fi mo ns sl f) (hB : MBlkC W c m nv sv fi mo ns sl f) {L : List (Nat × Obj)} {M R : Mk} (w : World) (j : Nat) (za zb zc zx zi : Int) (zs zt : ByteArray) (hj : j < ns.length) (hR : stmM (exprM ns sl f) (blkM ns sl f) sl j ⟨25, za, zb, zc, zx, zi, zs, zt⟩ M = some R) (h : MkS W c m nv sv fi mo ns sl L M w) :
  Calls Tryz.prog 114 #[.pointer (some ⟨m, 0, none⟩), .int .i64 (j : Int), .agg #[.int .i64 25, .int .i64 za, .int .i64 zb, .int .i64 zc, .int .i64 zx, .int .i64 zi, .string zs, .string zt]] w fun r w' => r = .returned (.tuple #[]) ∧ MkS W c m nv sv fi mo ns sl L R w' := by
 unfold stmM stmKM at hR
 dsimp only at hR
 obtain ⟨N, hN⟩ : ∃ N, ((w.heap.size, .cells #[.int .i64 25, .int .i64 za, .int .i64 zb, .int .i64 zc, .int .i64 zx, .int .i64 zi, .string zs, .string zt] 166 (0, 0)) :: L) = N := ⟨_, rfl⟩
 have hNm : (w.heap.size, Obj.cells #[.int .i64 25, .int .i64 za, .int .i64 zb, .int .i64 zc, .int .i64 zx, .int .i64 zi, .string zs, .string zt] 166 (0, 0)) ∈ N := by rw [← hN]; exact List.mem_cons_self
 have H0 := Lib.hid (show MkS W c m nv sv fi mo ns sl N M (w.alloc (.cells #[.int .i64 25, .int .i64 za, .int .i64 zb, .int .i64 zc, .int .i64 zx, .int .i64 zi, .string zs, .string zt] 166 (0, 0))) from by rw [← hN]; exact h.locNew (.cells #[.int .i64 25, .int .i64 za, .int .i64 zb, .int .i64 zc, .int .i64 zx, .int .i64 zi, .string zs, .string zt] 166 (0, 0)))
 have HNM := Lib.hid hNm
 have HNO := Lib.hid (show ∀ q, q ∈ L → q ∈ N from fun q hq => by rw [← hN]; exact List.mem_cons_of_mem _ hq)
 clear hN hNm
 rw [if_neg zaj] at hR
 obtain ⟨M0, h0, hR⟩ := qac hR
 have C0 := Lib.hid (fun w1 hw => hE.out (L := N) h0 w1 hw)
 rw [if_neg zaj] at hR
 rw [if_neg zaj] at hR
 rw [if_neg zaj] at hR
 rw [if_neg zaj] at hR
 rw [if_neg zaj] at hR
 rw [if_neg zaj] at hR
 rw [if_pos zaj] at hR
 obtain ⟨M1, h1, hR⟩ := qac hR
 obtain ⟨q, hq, hR⟩ := qac hR
 have C1 := Lib.hid (fun w1 (hw : MkS W c m nv sv fi mo ns sl N M0 w1) => qaA hw 12 0 zi (j : Int) (-1) h1)
 have C2 := Lib.hid (fun w1 hw => mloop_of hB (L := N) w1 13 q zb j (Or.inl rfl) hR hw)
 obtain ⟨g, n2, k2, rfl, hn2, hj2, hg2, s0⟩ := h.slot hq
 have HQ := Lib.hid hq
 have hj0 : 0 ≤ (j : Int) := by omega
 have hjn2 : (j : Int) < (n2 : Int) := by omega
 clear hE hB hR h h0 h1 hq hn2 hj s0 hg2
 go_enter Tryz.func114, Tryz.ntmps114
 go_wp2_with (first
  | (go_at_call 136; (with_reducible refine (C0.out _ H0.out).mono ?_); rintro e' w2 ⟨rfl, h2⟩; have H2 := Lib.hid h2; clear h2; have KX2 : Hid (KB w.heap.size #[.int .i64 25, .int .i64 za, .int .i64 zb, .int .i64 zc, .int .i64 zx, .int .i64 zi, .string zs, .string zt] 166 w2) := Lib.hid (H2.out.locAt HNM.out); have x20 := KX2.out.cell 0 _ rfl; have x25 := KX2.out.cell 5 _ rfl; have lx2 := KX2.out.lt)
  | (go_at_call 101; (with_reducible refine (C1.out _ H2.out).mono ?_); rintro e' w3 ⟨rfl, h3⟩; have H3 := Lib.hid h3; obtain ⟨g', n2', k2', e2', _, hj2', hg2, s0⟩ := h3.slot HQ.out; simp only [Value.slice.injEq, Option.some.injEq, Addr.mk.injEq] at e2'; obtain ⟨⟨rfl, _, _⟩, rfl, rfl⟩ := e2'; obtain ⟨iv2, vv2, hv2⟩ := h3; have km2 : KB m _ _ w3 := hv2.mkr; have z1 := km2.cell 1 _ rfl; have lm2 := km2.lt; clear hv2 km2; have KX3 : Hid (KB w.heap.size #[.int .i64 25, .int .i64 za, .int .i64 zb, .int .i64 zc, .int .i64 zx, .int .i64 zi, .string zs, .string zt] 166 w3) := Lib.hid (H3.out.locAt HNM.out); have x32 := KX3.out.cell 2 _ rfl; have lx3 := KX3.out.lt))
 go_still_tail 11, zad
 have H4x := Lib.hid (H3.out.of_ext ((Ext.refl _).drew))
 change wpList _ _ _ _ _ w3.drew
 generalize w3.drew = w3d at *
 go_wp2_with (first
  | (go_at_call 138; (with_reducible refine (C2.out _ H4x.out).mono ?_); rintro e' w4 ⟨rfl, h4⟩; have H4 := Lib.hid h4; clear h4))
 (first | go_end0 | refine bodyPost_ret (results_none rfl _ _ _) rfl ?_)
 exact ⟨rfl, H4.out.sub fun q hq => HNO.out q hq⟩
set_option maxHeartbeats 8000000 in
set_option maxRecDepth 20000 in
theorem mstm_x {W : World} {c m : Nat} {nv sv : Value} {fi mo : Int} {ns : List Nd} {sl : List Int} {f : Nat} (hE : MExprC W c m nv sv fi mo ns sl f) (hB : MBlkC W c m nv sv fi mo ns sl f) {L : List (Nat × Obj)} {M R : Mk} (w : World) (j : Nat) (zk za zb zc zx zi : Int) (zs zt : ByteArray) (hj : j < ns.length) (b20 : zk ≠ 20) (b21 : zk ≠ 21) (b22 : zk ≠ 22) (b23 : zk ≠ 23) (b27 : zk ≠ 27) (b28 : zk ≠ 28) (b24 : zk ≠ 24) (b25 : zk ≠ 25) (b26 : zk ≠ 26) (hR : stmM (exprM ns sl f) (blkM ns sl f) sl j ⟨zk, za, zb, zc, zx, zi, zs, zt⟩ M = some R) (h : MkS W c m nv sv fi mo ns sl L M w) :
  Calls Tryz.prog 114 #[.pointer (some ⟨m, 0, none⟩), .int .i64 (j : Int), .agg #[.int .i64 zk, .int .i64 za, .int .i64 zb, .int .i64 zc, .int .i64 zx, .int .i64 zi, .string zs, .string zt]] w fun r w' => r = .returned (.tuple #[]) ∧ MkS W c m nv sv fi mo ns sl L R w' := by
 unfold stmM stmKM at hR
 dsimp only at hR
 obtain ⟨N, hN⟩ : ∃ N, ((w.heap.size, .cells #[.int .i64 zk, .int .i64 za, .int .i64 zb, .int .i64 zc, .int .i64 zx, .int .i64 zi, .string zs, .string zt] 166 (0, 0)) :: L) = N := ⟨_, rfl⟩
 have hNm : (w.heap.size, Obj.cells #[.int .i64 zk, .int .i64 za, .int .i64 zb, .int .i64 zc, .int .i64 zx, .int .i64 zi, .string zs, .string zt] 166 (0, 0)) ∈ N := by rw [← hN]; exact List.mem_cons_self
 have H0 := Lib.hid (show MkS W c m nv sv fi mo ns sl N M (w.alloc (.cells #[.int .i64 zk, .int .i64 za, .int .i64 zb, .int .i64 zc, .int .i64 zx, .int .i64 zi, .string zs, .string zt] 166 (0, 0))) from by rw [← hN]; exact h.locNew (.cells #[.int .i64 zk, .int .i64 za, .int .i64 zb, .int .i64 zc, .int .i64 zx, .int .i64 zi, .string zs, .string zt] 166 (0, 0)))
 have HNM := Lib.hid hNm
 have HNO := Lib.hid (show ∀ q, q ∈ L → q ∈ N from fun q hq => by rw [← hN]; exact List.mem_cons_of_mem _ hq)
 clear hN hNm
 rw [if_neg b26] at hR
 obtain ⟨M0, h0, hR⟩ := qac hR
 have C0 := Lib.hid (fun w1 hw => hE.out (L := N) h0 w1 hw)
 rw [if_neg zae, if_neg b22, if_neg b23, if_neg b27, if_neg b28, if_neg b24, if_neg b25, if_neg b26] at hR
 have e := Option.some.inj hR
 subst e
 have c20 : (zk == 20) = false := by simpa using b20
 have c21 : (zk == 21) = false := by simpa using b21
 have c22 : (zk == 22) = false := by simpa using b22
 have c23 : (zk == 23) = false := by simpa using b23
 have c27 : (zk == 27) = false := by simpa using b27
 have c28 : (zk == 28) = false := by simpa using b28
 have c24 : (zk == 24) = false := by simpa using b24
 have c25 : (zk == 25) = false := by simpa using b25
 have c26 : (zk == 26) = false := by simpa using b26
 have d26 : (zk != 26) = true := by simpa using b26
 clear hE hB hR h h0 b20 b21 b22 b23 b27 b28 b24 b25 b26
 go_enter Tryz.func114, Tryz.ntmps114
 go_wp2_with (first
  | (go_at_call 136; (with_reducible refine (C0.out _ H0.out).mono ?_); rintro e' w2 ⟨rfl, h2⟩; have H2 := Lib.hid h2; clear h2; have KX2 : Hid (KB w.heap.size #[.int .i64 zk, .int .i64 za, .int .i64 zb, .int .i64 zc, .int .i64 zx, .int .i64 zi, .string zs, .string zt] 166 w2) := Lib.hid (H2.out.locAt HNM.out); have x20 := KX2.out.cell 0 _ rfl; have lx2 := KX2.out.lt))
 (first | go_end0 | refine bodyPost_ret (results_none rfl _ _ _) rfl ?_)
 exact ⟨rfl, H2.out.sub fun q hq => HNO.out q hq⟩
theorem mstm_all {W : World} {c m : Nat} {nv sv : Value} {fi mo : Int} {ns : List Nd} {sl : List Int} {f : Nat} (hB : MBlkC W c m nv sv fi mo ns sl f) : MStmC W c m nv sv fi mo ns sl f := by
 intro L M R w j z hz hR h
 obtain ⟨zk, za, zb, zc, zx, zi, zs, zt⟩ := z
 have hE := mexpr_any (W := W) (c := c) (m := m) (nv := nv) (sv := sv) (fi := fi) (mo := mo) (ns := ns) (sl := sl) f
 have hj := (List.getElem?_eq_some_iff.1 hz).1
 dsimp only
 by_cases b20 : zk = 20
 · subst b20; exact mstm_20 hE hB w j za zb zc zx zi zs zt hj hR h
 by_cases b21 : zk = 21
 · subst b21; exact mstm_21 hE hB w j za zb zc zx zi zs zt hj hR h
 by_cases b22 : zk = 22
 · subst b22; exact mstm_22 hE hB w j za zb zc zx zi zs zt hj hR h
 by_cases b23 : zk = 23
 · subst b23; exact mstm_23 hE hB w j za zb zc zx zi zs zt hj hR h
 by_cases b27 : zk = 27
 · subst b27; exact mstm_27 hE hB w j za zb zc zx zi zs zt hj hR h
 by_cases b28 : zk = 28
 · subst b28; exact mstm_28 hE hB w j za zb zc zx zi zs zt hj hR h
 by_cases b24 : zk = 24
 · subst b24
   by_cases hc : zc < 0
   · exact mstm_24n hE hB w j za zb zc zx zi zs zt hj hc hR h
   · exact mstm_24y hE hB w j za zb zc zx zi zs zt hj zae hR h
 by_cases b25 : zk = 25
 · subst b25; exact mstm_25 hE hB w j za zb zc zx zi zs zt hj hR h
 by_cases b26 : zk = 26
 · subst b26; exact mstm_26 hE hB w j za zb zc zx zi zs zt hj hR h
 exact mstm_x hE hB w j zk za zb zc zx zi zs zt hj b20 b21 b22 b23 b27 b28 b24 b25 b26 hR h
theorem mblk_any {W : World} {c m : Nat} {nv sv : Value} {fi mo : Int} {ns : List Nd} {sl : List Int} : ∀ f, MBlkC W c m nv sv fi mo ns sl f := by
 intro f
 induction f using Nat.strongRecOn with
 | _ f ih => exact mblk_of f fun g hg => mstm_all (ih g hg)
end Go.Proofs.YtpnabjopfpdkhaaGreatDoor

namespace Go.Proofs.YtpnabjopfpdkhaaGreatDoor
open Go.RowKit
attribute [go_sem] more_more Array.size_append
set_option maxHeartbeats 4000000 in
theorem nclone_any {ns : List Nd} {nv : Value} {base : Nat} (w : World) (h : w.ownsRow base 166 8 nv ns.length (qae ns)) (hm : ns.length ≤ 100000) :
  Calls Tryz.prog 99 #[nv] w fun e w' => ∃ v', e = .returned v' ∧ w'.ownsRow w.heap.size 166 8 v' ns.length (qae ns) ∧ Ext w w' := by
 obtain ⟨i0, hi, hz0, hz1, hz2⟩ := info_parts ndInfo
 have HSRC := Lib.hid fun (W : World) (hx : Ext w W) => src_row (P := Tryz.prog) (tx := 130) Tryz.underlying130 (own_ext h hx) (ndCells_one ns)
 obtain ⟨n, hn⟩ : ∃ n, ns.length = n := ⟨_, rfl⟩
 obtain ⟨p, cap, hv⟩ := qag h
 have h0 : p = none → n = 0 := fun e => by
  subst e
  rcases Go.Joins.ownsRow_forms h with ⟨a, b⟩ | ⟨g1, c1, b⟩
  · omega
  · rw [hv] at b; simp at b
 subst hv
 have HN := Lib.hid hn
 have qe : ∀ (w : World) (a : Option Addr) (n c n' c' : Nat), (binOp .eql 130 (.slice a n c) (.slice none n' c')).run Tryz.prog w = .ok (.bool a.isNone) w := fun w a n c n' c' => Lib.run_eql_slice_nil w _ _ a n c n' c' Tryz.underlying130
 rw [hn] at HSRC hm ⊢
 clear h hn
 cases p with
 | none =>
  obtain rfl := h0 rfl
  have hc : qae ns = [] := by
   have := HN.out
   cases ns with
   | nil => rfl
   | cons x r => simp at this
  clear HSRC
  go_enter Tryz.func99, Tryz.ntmps99
  go_wp2_with fail
  go_ret
  exact ⟨_, rfl, World.ownsRow_nil _ _ _ _, Ext.refl _⟩
 | some a =>
  clear h0
  go_enter Tryz.func99, Tryz.ntmps99
  go_wp2_with (at_builtin; refine qaj _ rfl _ _ 130 130 rfl w.heap.size 166 i0 (.agg #[.int .i64 0, .int .i64 0, .int .i64 0, .int .i64 0, .int .i64 0, .int .i64 0, .string ⟨#[]⟩, .string ⟨#[]⟩]) 8 80 Tryz.underlying130 hi hz0 hz1 hz2 rfl zaj _ 0 _ rfl (World.ownsRow_made w #[] 0 (Nat.le_refl _) (Nat.zero_le _) rfl) _ n _ rfl (HSRC.out _ ((Ext.refl _).alloc _)) ?c3 ?c4 ?c5 ?_)
  case c3 => unfold maxLen; omega
  case c4 => omega
  case c5 => simp
  intro v1 w1 hown hgrow _
  go_wp2_with fail
  go_ret
  refine ⟨v1, rfl, by simpa using hown, Ext.grown ((Ext.refl w).alloc _) hgrow (fun k hk => ?_)⟩
  simp [Value.ownBlock] at hk; omega
/-- a code: its block and its rows, all behind B -/
def CodeAt (B c : Nat) (fi mo : Int) (ns : List Nd) (M : Mk) (w : World) : Prop := ∃ nv iv vv, w.heap[c]? = some (.cells #[nv, .int .i64 fi, iv, vv, .int .i64 mo, .int .i64 M.high] 170 (0, 0)) ∧ B ≤ c ∧ w.ownsRow B 166 8 nv ns.length (qae ns) ∧ w.ownsRow B 203 4 iv M.ins.length (insC M.ins) ∧ w.ownsRow B 45 3 vv M.vals.length (valC3 M.vals)
theorem CodeAt.mono {B B' c : Nat} {fi mo : Int} {ns : List Nd} {M : Mk} {w : World} (h : CodeAt B c fi mo ns M w) (hb : B' ≤ B) : CodeAt B' c fi mo ns M w := by
 obtain ⟨nv, iv, vv, h1, h0, h2, h3, h4⟩ := h
 exact ⟨nv, iv, vv, h1, by omega, h2.mono hb, h3.mono hb, h4.mono hb⟩
theorem MkS.start {W : World} {nv sv : Value} {fi mo : Int} {ns : List Nd} {sl : List Int} (hr : W.ownsRow 0 166 8 nv ns.length (qae ns)) (hs : W.ownsRow 0 3 1 sv sl.length (intL sl)) :
  MkS W W.heap.size (W.heap.size + 1) nv sv fi mo ns sl [] Mk.start ((W.alloc (.cells #[nv, .int .i64 fi, .slice none 0 0, .slice none 0 0, .int .i64 mo, .int .i64 0] 170 (0, 0))).alloc (.cells #[.pointer (some ⟨W.heap.size, 0, none⟩), sv, .int .i64 0] 172 (0, 0))) := by
 have hx : Ext W ((W.alloc (.cells #[nv, .int .i64 fi, .slice none 0 0, .slice none 0 0, .int .i64 mo, .int .i64 0] 170 (0, 0))).alloc (.cells #[.pointer (some ⟨W.heap.size, 0, none⟩), sv, .int .i64 0] 172 (0, 0))) := ((Ext.refl _).alloc _).alloc _
 refine ⟨.slice none 0 0, .slice none 0 0, hx, ?_, ?_, own_ext hr hx, own_ext hs hx, World.ownsRow_nil _ _ _ _, World.ownsRow_nil _ _ _ _, ⟨Nat.le_refl _, by omega, by omega, fun g q => (hr.lt g q).2, fun g q => (hs.lt g q).2⟩, fun g => ⟨fun q => (by cases q), fun q => (by cases q)⟩, fun q hq => by cases hq⟩
 · exact (((Ext.refl (W.alloc (.cells #[nv, .int .i64 fi, .slice none 0 0, .slice none 0 0, .int .i64 mo, .int .i64 0] 170 (0, 0)))).alloc _).below.block _ zal).trans (heap_alloc_new _ _)
 · have := heap_alloc_new (W.alloc (.cells #[nv, .int .i64 fi, .slice none 0 0, .slice none 0 0, .int .i64 mo, .int .i64 0] 170 (0, 0))) (.cells #[.pointer (some ⟨W.heap.size, 0, none⟩), sv, .int .i64 0] 172 (0, 0))
   rw [World.size_alloc] at this
   exact this
theorem MkS.codeAt {W : World} {c m : Nat} {nv sv : Value} {fi mo : Int} {ns : List Nd} {sl : List Int} {L : List (Nat × Obj)} {M : Mk} {w : World} (h : MkS W c m nv sv fi mo ns sl L M w) {B : Nat} (hr : W.ownsRow B 166 8 nv ns.length (qae ns)) (hB : B ≤ W.heap.size) : CodeAt B c fi mo ns M w := by
 obtain ⟨iv, vv, h⟩ := h
 exact ⟨nv, iv, vv, h.code, Nat.le_trans hB h.base.1, own_ext hr h.ext, h.ins.mono hB, h.vals.mono hB⟩
theorem MkS.outer {W : World} {c m : Nat} {nv sv : Value} {fi mo : Int} {ns : List Nd} {sl : List Int} {L : List (Nat × Obj)} {M : Mk} {w : World} (h : MkS W c m nv sv fi mo ns sl L M w) : Ext W w := by
 obtain ⟨iv, vv, h⟩ := h
 exact h.ext
theorem codeF_parts {ns : List Nd} {fi : Int} {sl : List Int} {R : Mk} (h : codeF ns fi sl = some R) : ∃ M, blkM ns sl ns.length fi Mk.start = some M ∧ M.add 18 0 0 (-1) 0 = some R := qac h
set_option maxHeartbeats 8000000 in
set_option maxRecDepth 20000 in
theorem cmake_ok {ns : List Nd} {nv : Value} {base : Nat} (fi : Int) (w : World) (hr : w.ownsRow base 166 8 nv ns.length (qae ns)) (hs : ∀ z ∈ ns, z.s.size ≤ maxLen) (hm : ns.length ≤ 100000) (l : List Int) (mo a : Int) (hf : qbp ns fi = (l, mo, 0, a)) (R : Mk) (hR : codeF ns fi l = some R) :
  Calls Tryz.prog 85 #[.agg #[nv, .int .i64 fi]] w fun r w' => ∃ c, r = .returned (.tuple #[.pointer (some ⟨c, 0, none⟩), .int .i64 0, .int .i64 (-1)]) ∧ CodeAt w.heap.size c fi mo ns R w' ∧ Ext w w' := by
 obtain ⟨M, hM, hA⟩ := codeF_parts hR
 obtain ⟨p, cap, hv⟩ := qag hr
 have SL := Lib.hid (fun W' (hx : Ext w W') => slots_any fi W' (own_ext hr hx) rfl hs l mo 0 a hf)
 have CN := Lib.hid (fun W' (hx : Ext w W') => nclone_any W' (own_ext hr hx) hm)
 rw [hv] at SL CN ⊢
 have HM := Lib.hid hM
 have HA := Lib.hid hA
 clear hr hs hf hR hM hA hv hm
 go_enter Tryz.func85, Tryz.ntmps85
 go_wp2_with (go_at_call 98; (with_reducible refine (SL.out _ zaa).mono ?_); rintro e' w2 ⟨sv, rfl, hsv, hx2⟩; obtain ⟨ps, ks, hvs⟩ := qag hsv; subst hvs; have HSV := Lib.hid hsv; have HX2 := Lib.hid (Ext.trans ((Ext.refl w).alloc _) hx2); have hb2 := (hx2.below.block w.heap.size zal).trans (heap_alloc_new _ _); clear hsv hx2)
 have HB2 : Hid (KB w.heap.size #[.slice p ns.length cap, .int .i64 fi] 132 w2) := Lib.hid hb2
 have z0 : w2.cell? ⟨w.heap.size, 0, none⟩ = some (.slice p ns.length cap) := HB2.out.cell 0 _ rfl
 have z1 : w2.cell? ⟨w.heap.size, 1, none⟩ = some (.int .i64 fi) := HB2.out.cell 1 _ rfl
 clear hb2
 obtain ⟨Bx, hBx⟩ : ∃ Bx, w.heap.size = Bx := ⟨_, rfl⟩
 rw [hBx] at HB2 z0 z1 ⊢
 have HBX := Lib.hid hBx
 clear hBx
 refine wp_region_held_drew (S := (fun w' => w'.cell? ⟨Bx, 0, none⟩ = some (.slice p ns.length cap) ∧ w'.cell? ⟨Bx, 1, none⟩ = some (.int .i64 fi))) zad ⟨cell_ext z0 (by repeat (first | (with_reducible exact Ext.refl _) | (with_reducible exact Ext.refl _) | (with_reducible apply Ext.alloc) | (with_reducible apply Ext.drew))), cell_ext z1 (by repeat (first | (with_reducible exact Ext.refl _) | (with_reducible exact Ext.refl _) | (with_reducible apply Ext.alloc) | (with_reducible apply Ext.drew)))⟩ (fun hS => ?_)
 refine wpAnyH_take (i := 0) (oi := _) (v := .pointer (some ⟨Bx, 0, none⟩)) rfl zad zad zad (fun _ _ _ h => h) (Or.inl ⟨by rfl, fun W hW => by go_simp⟩) hS ?_
 (try simp only [Act.put, List.getElem_toArray, List.getElem_cons_succ, List.getElem_cons_zero, List.setIfInBounds_toArray, List.set_cons_zero, List.set_cons_succ])
 refine wpAnyH_take (i := 1) (oi := _) (v := .slice p ns.length cap) rfl zad zad zad (fun _ _ _ h => h) (Or.inl ⟨by rfl, fun W hW => by (obtain ⟨hW1, hW2⟩ := hW; go_simp)⟩) hS ?_
 (try simp only [Act.put, List.getElem_toArray, List.getElem_cons_succ, List.getElem_cons_zero, List.setIfInBounds_toArray, List.set_cons_zero, List.set_cons_succ])
 refine wpAnyH_take (i := 3) (oi := _) (v := .pointer (some ⟨Bx, 1, none⟩)) rfl zad zad zad (fun _ _ _ h => h) (Or.inl ⟨by rfl, fun W hW => by go_simp⟩) hS ?_
 (try simp only [Act.put, List.getElem_toArray, List.getElem_cons_succ, List.getElem_cons_zero, List.setIfInBounds_toArray, List.set_cons_zero, List.set_cons_succ])
 refine wpAnyH_take (i := 4) (oi := _) (v := .int .i64 fi) rfl zad zad zad (fun _ _ _ h => h) (Or.inl ⟨by rfl, fun W hW => by (obtain ⟨hW1, hW2⟩ := hW; go_simp)⟩) hS ?_
 (try simp only [Act.put, List.getElem_toArray, List.getElem_cons_succ, List.getElem_cons_zero, List.setIfInBounds_toArray, List.set_cons_zero, List.set_cons_succ])
 refine wpAnyH_take (i := 6) (oi := _) (v := .int .i64 mo) rfl zad zad zad (fun _ _ _ h => h) (Or.inl ⟨by rfl, fun W hW => by go_simp⟩) hS ?_
 (try simp only [Act.put, List.getElem_toArray, List.getElem_cons_succ, List.getElem_cons_zero, List.setIfInBounds_toArray, List.set_cons_zero, List.set_cons_succ])
 refine wpAnyH_take (i := 9) (oi := _) (v := .slice ps l.length ks) rfl zad zad zad (fun _ _ _ h => h) (Or.inl ⟨by rfl, fun W hW => by go_simp⟩) hS ?_
 (try simp only [Act.put, List.getElem_toArray, List.getElem_cons_succ, List.getElem_cons_zero, List.setIfInBounds_toArray, List.set_cons_zero, List.set_cons_succ])
 refine wpAnyH_ready (rs := [2]) zad zal ?_
 refine AllReadyH.cons (o := _) rfl (fun K hK => ?_) AllReadyH.nil
 rw [if_pos (by rfl)]
 go_simp
 refine (CN.out _ (HX2.out.trans ((Ext.refl _).drew))).mono ?_
 rintro e' w3 ⟨nv2, rfl, hn2, hx3⟩
 obtain ⟨pn, kn, hvn⟩ := qag hn2
 subst hvn
 have hxw : Ext w2 w3 := Ext.trans ((Ext.refl _).drew) hx3
 have HN2 := Lib.hid (hn2.mono (show w2.heap.size ≤ w2.drew.heap.size from Nat.le_refl _))
 have HS3 := Lib.hid (own_ext HSV.out hxw)
 clear hx3 hn2
 refine hK.out _ _ (⟨cell_ext z0 zao, cell_ext z1 zao⟩) (fun hS1 => ?_)
 clear hK K
 (try simp only [Act.put, List.getElem_toArray, List.getElem_cons_succ, List.getElem_cons_zero, List.setIfInBounds_toArray, List.set_cons_zero, List.set_cons_succ])
 refine wpAnyH_take (i := 5) (oi := _) (v := .agg #[.slice pn ns.length kn, .int .i64 fi]) rfl zad zad zad (fun _ _ _ h => h) (Or.inl ⟨by rfl, fun W hW => by go_simp⟩) hS1 ?_
 (try simp only [Act.put, List.getElem_toArray, List.getElem_cons_succ, List.getElem_cons_zero, List.setIfInBounds_toArray, List.set_cons_zero, List.set_cons_succ])
 refine wpAnyH_take (i := 7) (oi := _) (v := .agg #[.slice pn ns.length kn, .int .i64 fi, .slice none 0 0, .slice none 0 0, .int .i64 mo, .int .i64 0]) rfl zad zad zad (fun _ _ _ h => h) (Or.inl ⟨by rfl, fun W hW => by go_simp⟩) hS1 ?_
 (try simp only [Act.put, List.getElem_toArray, List.getElem_cons_succ, List.getElem_cons_zero, List.setIfInBounds_toArray, List.set_cons_zero, List.set_cons_succ])
 refine wpAnyH_ready (rs := [8]) zad zal ?_
 refine AllReadyH.cons (o := _) rfl (fun K hK => ?_) AllReadyH.nil
 rw [if_pos (by rfl)]
 go_simp
 refine hK.out _ _ (⟨cell_ext z0 zao, cell_ext z1 zao⟩) (fun hS2 => ?_)
 clear hK K
 (try simp only [Act.put, List.getElem_toArray, List.getElem_cons_succ, List.getElem_cons_zero, List.setIfInBounds_toArray, List.set_cons_zero, List.set_cons_succ])
 refine wpAnyH_take (i := 10) (oi := _) (v := .agg #[.pointer (some ⟨w3.heap.size, 0, none⟩), .slice ps l.length ks, .int .i64 0]) rfl zad zad zad (fun _ _ _ h => h) (Or.inl ⟨by rfl, fun W hW => by go_simp⟩) hS2 ?_
 (try simp only [Act.put, List.getElem_toArray, List.getElem_cons_succ, List.getElem_cons_zero, List.setIfInBounds_toArray, List.set_cons_zero, List.set_cons_succ])
 refine wpAnyH_ready (rs := [11]) zad zal ?_
 refine AllReadyH.cons (o := _) rfl (fun K hK => ?_) AllReadyH.nil
 rw [if_pos (by rfl)]
 go_simp
 refine hK.out _ _ (⟨cell_ext z0 zao, cell_ext z1 zao⟩) (fun hS3 => ?_)
 clear hK K
 (try simp only [Act.put, List.getElem_toArray, List.getElem_cons_succ, List.getElem_cons_zero, List.setIfInBounds_toArray, List.set_cons_zero, List.set_cons_succ])
 refine wpAnyH_take (i := 12) (oi := _) (v := .pointer (some ⟨w3.heap.size + 1, 0, none⟩)) rfl zad zad zad (fun _ _ _ h => h) (Or.inl ⟨by rfl, fun W hW => by go_simp⟩) hS3 ?_
 (try simp only [Act.put, List.getElem_toArray, List.getElem_cons_succ, List.getElem_cons_zero, List.setIfInBounds_toArray, List.set_cons_zero, List.set_cons_succ])
 refine wpAnyH_done zad ?_ _
 have HX3 := Lib.hid (HX2.out.trans hxw)
 have hxw2 := Lib.hid hxw
 have y1 := cell_ext z1 hxw
 have hB3 : Bx < w3.heap.size := Nat.lt_of_lt_of_le HB2.out.lt hxw.size
 have HR3 := Lib.hid (HN2.out)
 have H0 := Lib.hid (MkS.start (fi := fi) (mo := mo) (HN2.out.mono (Nat.zero_le _)) (HS3.out.mono (Nat.zero_le _)))
 have y2 := cell_ext y1 (show Ext w3 ((w3.alloc (.cells #[.slice pn ns.length kn, .int .i64 fi, .slice none 0 0, .slice none 0 0, .int .i64 mo, .int .i64 0] 170 (0, 0))).alloc (.cells #[.pointer (some ⟨w3.heap.size, 0, none⟩), .slice ps l.length ks, .int .i64 0] 172 (0, 0))) from ((Ext.refl _).alloc _).alloc _)
 have C1 := Lib.hid (fun w1 hw => (mblk_any (W := w3) (c := w3.heap.size) (m := w3.heap.size + 1) (nv := (.slice pn ns.length kn)) (sv := (.slice ps l.length ks)) (fi := fi) (mo := mo) (ns := ns) (sl := l) ns.length).out (L := []) HM.out w1 hw)
 have C2 := Lib.hid (fun w1 (hw : MkS w3 w3.heap.size (w3.heap.size + 1) (.slice pn ns.length kn) (.slice ps l.length ks) fi mo ns l [] M w1) => qaA hw 18 0 0 (-1) 0 HA.out)
 clear z0 z1 y1 hxw
 go_wp2_with (first
  | (go_at_call 100; (with_reducible refine (C1.out _ H0.out).mono ?_); rintro e' w4 ⟨rfl, h4⟩; have H4 := Lib.hid h4; clear h4)
  | (go_at_call 101; (with_reducible refine (C2.out _ H4.out).mono ?_); rintro e' w5 ⟨rfl, h5⟩; have H5 := Lib.hid h5; obtain ⟨p5, k5, lc5, lm5, x5, _⟩ := h5.insLen; clear h5))
 go_ret3
 exact ⟨w3.heap.size, rfl, (H5.out.codeAt HN2.out (Nat.le_trans hxw2.out.size (Nat.le_refl _))).mono (by have := HX2.out.size; have := HBX.out; omega), HX3.out.trans H5.out.outer⟩
set_option maxHeartbeats 4000000 in
theorem cmake_no {ns : List Nd} {nv : Value} {base : Nat} (fi : Int) (w : World) (hr : w.ownsRow base 166 8 nv ns.length (qae ns)) (hs : ∀ z ∈ ns, z.s.size ≤ maxLen) (l : List Int) (mo e a : Int) (hf : qbp ns fi = (l, mo, e, a)) (he : e ≠ 0) :
  Calls Tryz.prog 85 #[.agg #[nv, .int .i64 fi]] w fun r w' => r = .returned (.tuple #[.pointer none, .int .i64 e, .int .i64 a]) ∧ Ext w w' := by
 obtain ⟨p, cap, hv⟩ := qag hr
 have SL := Lib.hid (fun W' (hx : Ext w W') => slots_any fi W' (own_ext hr hx) rfl hs l mo e a hf)
 rw [hv] at SL ⊢
 have he2 : (e != 0) = true := by simpa using he
 clear hr hs hf hv he
 go_enter Tryz.func85, Tryz.ntmps85
 go_wp2_with (go_at_call 98; (with_reducible refine (SL.out _ zaa).mono ?_); rintro e' w2 ⟨sv, rfl, hsv, hx2⟩; have HX2 := Lib.hid (Ext.trans ((Ext.refl w).alloc _) hx2); clear hsv hx2)
 go_ret3
 exact ⟨rfl, HX2.out⟩
end Go.Proofs.YtpnabjopfpdkhaaGreatDoor

namespace Go.Proofs.YtpnabjopfpdkhaaGreatDoor
open Go.RowKit
attribute [go_sem] more_more Array.size_append
end Go.Proofs.YtpnabjopfpdkhaaGreatDoor
