/- Lemmas. -/
import Derived.Test.YtpoeknndkccbaaaGreatO10
set_option linter.unusedSimpArgs false
set_option linter.unusedVariables false
set_option maxHeartbeats 16000000
set_option maxRecDepth 20000
namespace Go.Proofs.YtpoeknndkccbaaaGreat
open Go.RowKit
attribute [go_sem] more_more Array.size_append
theorem node_c4 {W : World} {c H : Nat} {nv : Value} {ns : List Nd} {fi : Int} {n : Nat} {g : Nat → Nat} {w : World} (h : CkSt W c H nv ns fi n g w) (j : Nat) (zk za zb zc zx zi : Int) (zs zt : ByteArray) (hz : ns[j]? = some ⟨zk, za, zb, zc, zx, zi, zs, zt⟩) (hs : zs.size ≤ maxLen) (hb : ∀ j, j < n → g j ≤ 8000) (hn : n ≤ 512)
  (k1 : qbo zk = true) (k2 : numOk zk zc zi = true) (k3 : (txt1 zt (shT zk) && txt2 zk zs (shS zk)) = true) (sA : shA zk = true) (sB : shB zk = false) (sBB : shBB zk = true) (sBC : shBC zk = false) :
  Calls Tryz.prog 55 #[.pointer (some ⟨c, 0, none⟩), .int .i64 (j : Int)] w fun e w' => e = .returned (.bool ((qad ns za 0 j false) && (blkB ns zb j) && (zc == -1) && (zx == -1 || (decide (20 ≤ zk) && qad ns zx ((j : Int) + 1) n true)))) ∧
   CkSt W c H nv ns fi n (addB (zx == -1 || (decide (20 ≤ zk) && qad ns zx ((j : Int) + 1) n true)) zx (addB (zc == -1) zc (addB (blkB ns zb j) zb (addB (qad ns za 0 j false) za g)))) w' := by
 have hj : j < n := by have := (List.getElem?_eq_some_iff.1 hz).1; have := h.base.2.2.2; omega
 have hp : ∃ G cap, nv = .slice (some ⟨G, 0, none⟩) n cap := by
  rcases Go.Joins.ownsRow_forms h.row with ⟨_, h0⟩ | ⟨g1, c1, h0⟩
  · omega
  · exact ⟨g1, c1, h0⟩
 obtain ⟨G, cap, rfl⟩ := hp
 obtain ⟨a0, a1, a2, a3, a4, a5, a6, a7⟩ := nd_at h.row hz
 dsimp only at a0 a1 a2 a3 a4 a5 a6 a7
 have hG := (h.row.lt G rfl).2
 obtain ⟨c0, c1, c2, lc, lH⟩ := h.facts
 have HS0 := Lib.hid h
 have HB0 := Lib.hid hb
 have SH := Lib.hid (fun w1 => qbG zk w1)
 rw [k1, sA, sB, sBB, sBC] at SH
 refine ycs ?_; intro NM
 rw [k2] at NM
 have TX := Lib.hid (fun w1 => qcC zk za zb zc zx zi zs zt hs true false true false (shS zk) (shT zk) w1)
 rw [k3] at TX
 obtain ⟨bS, hS⟩ : ∃ bS, shS zk = bS := ⟨_, rfl⟩
 obtain ⟨bT, hT⟩ : ∃ bT, shT zk = bT := ⟨_, rfl⟩
 rw [hS, hT] at SH TX
 have hj0 : 0 ≤ (j : Int) := by omega
 refine ycb ⟨?_⟩; intro hjn
 have hjs : (j : Int) ≤ (n : Int) := by omega
 have hn0 : (n : Int) ≤ 512 := by omega
 clear h hb hz hs k1 k2 k3 sA sB sBB sBC hS hT hj c1 c2
 have HNE := Lib.hid (show w.heap.size ≠ H from by omega)
 obtain ⟨A, hA⟩ : ∃ A, (qad ns za 0 j false) = A := ⟨_, rfl⟩
 obtain ⟨B, hBq⟩ : ∃ B, (blkB ns zb j) = B := ⟨_, rfl⟩
 have HA := Lib.hid hA
 have HBq := Lib.hid hBq
 clear hA hBq
 have HLH := Lib.hid lH
 cases qc : (zc == -1)
 · go_enter Tryz.func55, Tryz.ntmps55
   go_wp2_with (first
    | (((with_reducible refine (SH.out _).mono ?_); rintro e' _ ⟨rfl, d1, os1, rfl⟩))
    | (((with_reducible refine (NM.out _).mono ?_); rintro e' _ ⟨rfl, d2, os2, rfl⟩))
    | (((with_reducible refine (TX.out _).mono ?_); rintro e' _ ⟨rfl, d3, os3, rfl⟩)))
   refine yak ⟨?_⟩
   rintro e1 w1 ⟨rfl, hck, hfr⟩
   rw [HA.out] at hck ⊢
   have HS1 := Lib.hid hck
   refine yaf ⟨?_⟩; intro K5
   have K6 := Lib.hid (KB.kept (show KB (w.heap.size + 1 + os1.size) #[.bool true, .bool false, .bool true, .bool false, .bool bS, .bool bT] 137 _ from zav) hfr (show w.heap.size + 1 + os1.size ≠ H from by have := HLH.out; omega))
   clear hck hfr
   have HN6 := Lib.hid (show w.heap.size + 1 + os1.size ≠ H from by have := HLH.out; omega)
   have HN5 := Lib.hid HNE.out
   obtain ⟨k6, hk6⟩ : ∃ k6, w.heap.size + 1 + os1.size = k6 := ⟨_, rfl⟩
   rw [hk6] at K6 HN6 ⊢
   obtain ⟨k5, hk5⟩ : ∃ k5, w.heap.size = k5 := ⟨_, rfl⟩
   rw [hk5] at K5 HN5 ⊢
   clear hk5 hk6 a0 a1 a2 a3 a4 a5 a6 a7 hG
   clear c0 lc lH
   obtain ⟨c0, c1, c2, lc, lH⟩ := HS1.out.facts
   clear c1 c2
   have n0 := K5.out.cell 0 _ rfl
   have n1 := K5.out.cell 1 _ rfl
   have n2 := K5.out.cell 2 _ rfl
   have n3 := K5.out.cell 3 _ rfl
   have n4 := K5.out.cell 4 _ rfl
   have l5 := K5.out.lt
   have s0 := K6.out.cell 0 _ rfl
   have s1 := K6.out.cell 1 _ rfl
   have s2 := K6.out.cell 2 _ rfl
   have s3 := K6.out.cell 3 _ rfl
   have l6 := K6.out.lt
   refine ybg ?_; intro HB1
   go_wp2_with fail
   refine yat ⟨?_⟩
   rintro e2 w2 ⟨rfl, hck, hfr⟩
   rw [HBq.out] at hck ⊢
   have HS2 := Lib.hid hck
   refine yae ⟨?_⟩; intro K5
   refine ybr ⟨?_⟩; intro K6
   clear hck hfr
   clear c0 lc lH
   obtain ⟨c0, c1, c2, lc, lH⟩ := HS2.out.facts
   clear c1 c2
   clear n0 n1 n2 n3 n4 l5 s0 s1 s2 s3 l6
   have n0 := K5.out.cell 0 _ rfl
   have n1 := K5.out.cell 1 _ rfl
   have n2 := K5.out.cell 2 _ rfl
   have n3 := K5.out.cell 3 _ rfl
   have n4 := K5.out.cell 4 _ rfl
   have l5 := K5.out.lt
   have s0 := K6.out.cell 0 _ rfl
   have s1 := K6.out.cell 1 _ rfl
   have s2 := K6.out.cell 2 _ rfl
   have s3 := K6.out.cell 3 _ rfl
   have l6 := K6.out.lt
   refine yax ?_; intro HB2
   go_wp2_with fail
   have HS3 := Lib.hid (HS2.out.idB false zc zan)
   refine ycn ?_; intro HB3
   cases qx : (zx == -1)
   rotate_left
   · have HXq := Lib.hid (show (zx == -1 || (decide (20 ≤ zk) && qad ns zx ((j : Int) + 1) n true)) = true from by rw [qx, Bool.true_or])
     refine ybe ⟨?_⟩; intro HS4
     refine ycg ?_; intro HB4
     refine yad ⟨?_⟩
     refine yac ?_
     repeat (refine Lex.step rfl ?_; intro K hK; unfold StepG; go_simp; (first
       | refine hK _ ?_); clear hK K)
     refine yaa ?_; intro dd oo
     go_wp2_with fail
     try rw [ends_normal]
     try go_wp2_with fail
     all_goals
      go_ret
      exact yaw
   by_cases hz20 : 20 ≤ zk
   rotate_left
   · have HXq := Lib.hid (show (zx == -1 || (decide (20 ≤ zk) && qad ns zx ((j : Int) + 1) n true)) = false from by rw [qx, decide_eq_false hz20]; rfl)
     refine ybi ?_; intro hzd
     refine yce ⟨?_⟩; intro HS4
     refine ycf ?_; intro HB4
     refine yad ⟨?_⟩
     refine yac ?_
     repeat (refine Lex.step rfl ?_; intro K hK; unfold StepG; go_simp; (first
       | refine hK _ ?_); clear hK K)
     refine yaa ?_; intro dd oo
     go_wp2_with fail
     try rw [ends_normal]
     try go_wp2_with fail
     all_goals
      go_ret
      exact yav
   · obtain ⟨X, hX⟩ : ∃ X, qad ns zx ((j : Int) + 1) n true = X := ⟨_, rfl⟩
     have HXq := Lib.hid (show (zx == -1 || (decide (20 ≤ zk) && qad ns zx ((j : Int) + 1) n true)) = X from by rw [qx, decide_eq_true hz20, hX]; rfl)
     have HXr := Lib.hid hX
     refine ybk ?_; intro hzd
     clear hX
     refine yad ⟨?_⟩
     refine yac ?_
     repeat (refine Lex.step rfl ?_; intro K hK; unfold StepG; go_simp; (first
       | refine hK _ ?_); clear hK K)
     refine yaa ?_; intro dd oo
     go_wp2_with fail
     refine yas ⟨?_⟩
     rintro e4 w4 ⟨rfl, hck, hfr⟩
     rw [HXr.out] at hck ⊢
     have HS4 := Lib.hid hck
     refine yae ⟨?_⟩; intro K5
     refine ybr ⟨?_⟩; intro K6
     clear hck hfr
     clear c0 lc lH
     obtain ⟨c0, c1, c2, lc, lH⟩ := HS4.out.facts
     clear c1 c2
     clear n0 n1 n2 n3 n4 l5 s0 s1 s2 s3 l6
     have n0 := K5.out.cell 0 _ rfl
     have n1 := K5.out.cell 1 _ rfl
     have n2 := K5.out.cell 2 _ rfl
     have n3 := K5.out.cell 3 _ rfl
     have n4 := K5.out.cell 4 _ rfl
     have l5 := K5.out.lt
     have s0 := K6.out.cell 0 _ rfl
     have s1 := K6.out.cell 1 _ rfl
     have s2 := K6.out.cell 2 _ rfl
     have s3 := K6.out.cell 3 _ rfl
     have l6 := K6.out.lt
     refine ych ?_; intro HB4
     go_wp2_with fail
     try rw [ends_normal]
     try go_wp2_with fail
     all_goals
      go_ret
      exact yay
 · go_enter Tryz.func55, Tryz.ntmps55
   go_wp2_with (first
    | (((with_reducible refine (SH.out _).mono ?_); rintro e' _ ⟨rfl, d1, os1, rfl⟩))
    | (((with_reducible refine (NM.out _).mono ?_); rintro e' _ ⟨rfl, d2, os2, rfl⟩))
    | (((with_reducible refine (TX.out _).mono ?_); rintro e' _ ⟨rfl, d3, os3, rfl⟩)))
   refine yak ⟨?_⟩
   rintro e1 w1 ⟨rfl, hck, hfr⟩
   rw [HA.out] at hck ⊢
   have HS1 := Lib.hid hck
   refine yaf ⟨?_⟩; intro K5
   have K6 := Lib.hid (KB.kept (show KB (w.heap.size + 1 + os1.size) #[.bool true, .bool false, .bool true, .bool false, .bool bS, .bool bT] 137 _ from zav) hfr (show w.heap.size + 1 + os1.size ≠ H from by have := HLH.out; omega))
   clear hck hfr
   have HN6 := Lib.hid (show w.heap.size + 1 + os1.size ≠ H from by have := HLH.out; omega)
   have HN5 := Lib.hid HNE.out
   obtain ⟨k6, hk6⟩ : ∃ k6, w.heap.size + 1 + os1.size = k6 := ⟨_, rfl⟩
   rw [hk6] at K6 HN6 ⊢
   obtain ⟨k5, hk5⟩ : ∃ k5, w.heap.size = k5 := ⟨_, rfl⟩
   rw [hk5] at K5 HN5 ⊢
   clear hk5 hk6 a0 a1 a2 a3 a4 a5 a6 a7 hG
   clear c0 lc lH
   obtain ⟨c0, c1, c2, lc, lH⟩ := HS1.out.facts
   clear c1 c2
   have n0 := K5.out.cell 0 _ rfl
   have n1 := K5.out.cell 1 _ rfl
   have n2 := K5.out.cell 2 _ rfl
   have n3 := K5.out.cell 3 _ rfl
   have n4 := K5.out.cell 4 _ rfl
   have l5 := K5.out.lt
   have s0 := K6.out.cell 0 _ rfl
   have s1 := K6.out.cell 1 _ rfl
   have s2 := K6.out.cell 2 _ rfl
   have s3 := K6.out.cell 3 _ rfl
   have l6 := K6.out.lt
   refine ybg ?_; intro HB1
   go_wp2_with fail
   refine yat ⟨?_⟩
   rintro e2 w2 ⟨rfl, hck, hfr⟩
   rw [HBq.out] at hck ⊢
   have HS2 := Lib.hid hck
   refine yae ⟨?_⟩; intro K5
   refine ybr ⟨?_⟩; intro K6
   clear hck hfr
   clear c0 lc lH
   obtain ⟨c0, c1, c2, lc, lH⟩ := HS2.out.facts
   clear c1 c2
   clear n0 n1 n2 n3 n4 l5 s0 s1 s2 s3 l6
   have n0 := K5.out.cell 0 _ rfl
   have n1 := K5.out.cell 1 _ rfl
   have n2 := K5.out.cell 2 _ rfl
   have n3 := K5.out.cell 3 _ rfl
   have n4 := K5.out.cell 4 _ rfl
   have l5 := K5.out.lt
   have s0 := K6.out.cell 0 _ rfl
   have s1 := K6.out.cell 1 _ rfl
   have s2 := K6.out.cell 2 _ rfl
   have s3 := K6.out.cell 3 _ rfl
   have l6 := K6.out.lt
   refine yax ?_; intro HB2
   go_wp2_with fail
   refine yct ⟨?_⟩; intro HS3
   refine ycd ?_; intro HB3
   cases qx : (zx == -1)
   rotate_left
   · have HXq := Lib.hid (show (zx == -1 || (decide (20 ≤ zk) && qad ns zx ((j : Int) + 1) n true)) = true from by rw [qx, Bool.true_or])
     refine ybe ⟨?_⟩; intro HS4
     refine ybp ?_; intro HB4
     refine yad ⟨?_⟩
     refine yac ?_
     repeat (refine Lex.step rfl ?_; intro K hK; unfold StepG; go_simp; (first
       | refine hK _ ?_); clear hK K)
     refine yaa ?_; intro dd oo
     go_wp2_with fail
     try rw [ends_normal]
     try go_wp2_with fail
     all_goals
      go_ret
      exact yaq
   by_cases hz20 : 20 ≤ zk
   rotate_left
   · have HXq := Lib.hid (show (zx == -1 || (decide (20 ≤ zk) && qad ns zx ((j : Int) + 1) n true)) = false from by rw [qx, decide_eq_false hz20]; rfl)
     refine ybi ?_; intro hzd
     refine yce ⟨?_⟩; intro HS4
     refine ybn ?_; intro HB4
     refine yad ⟨?_⟩
     refine yac ?_
     repeat (refine Lex.step rfl ?_; intro K hK; unfold StepG; go_simp; (first
       | refine hK _ ?_); clear hK K)
     refine yaa ?_; intro dd oo
     go_wp2_with fail
     try rw [ends_normal]
     try go_wp2_with fail
     all_goals
      go_ret
      exact yao
   · obtain ⟨X, hX⟩ : ∃ X, qad ns zx ((j : Int) + 1) n true = X := ⟨_, rfl⟩
     have HXq := Lib.hid (show (zx == -1 || (decide (20 ≤ zk) && qad ns zx ((j : Int) + 1) n true)) = X from by rw [qx, decide_eq_true hz20, hX]; rfl)
     have HXr := Lib.hid hX
     refine ybk ?_; intro hzd
     clear hX
     refine yad ⟨?_⟩
     refine yac ?_
     repeat (refine Lex.step rfl ?_; intro K hK; unfold StepG; go_simp; (first
       | refine hK _ ?_); clear hK K)
     refine yaa ?_; intro dd oo
     go_wp2_with fail
     refine yal ⟨?_⟩
     rintro e4 w4 ⟨rfl, hck, hfr⟩
     rw [HXr.out] at hck ⊢
     have HS4 := Lib.hid hck
     refine yae ⟨?_⟩; intro K5
     refine ybr ⟨?_⟩; intro K6
     clear hck hfr
     clear c0 lc lH
     obtain ⟨c0, c1, c2, lc, lH⟩ := HS4.out.facts
     clear c1 c2
     clear n0 n1 n2 n3 n4 l5 s0 s1 s2 s3 l6
     have n0 := K5.out.cell 0 _ rfl
     have n1 := K5.out.cell 1 _ rfl
     have n2 := K5.out.cell 2 _ rfl
     have n3 := K5.out.cell 3 _ rfl
     have n4 := K5.out.cell 4 _ rfl
     have l5 := K5.out.lt
     have s0 := K6.out.cell 0 _ rfl
     have s1 := K6.out.cell 1 _ rfl
     have s2 := K6.out.cell 2 _ rfl
     have s3 := K6.out.cell 3 _ rfl
     have l6 := K6.out.lt
     refine ybs ?_; intro HB4
     go_wp2_with fail
     try rw [ends_normal]
     try go_wp2_with fail
     all_goals
      go_ret
      exact yar
end Go.Proofs.YtpoeknndkccbaaaGreat
