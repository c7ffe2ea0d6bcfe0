/- Lemmas for the claim (texts Mn, May9, MayA, ScT, ScL, Sc6, Sc7, Sc9s, Rf1, Rfn, Rg1, Rg2, Rg3, Rg4, Rg5, Rg6, Rf9, RfA, what its proof uses of them). -/
import Derived.Test.YtpnabjopfpdkhaaGreatDoorB10
import Derived.Deep.DeepCutAuto
import Derived.Deep.CutBlock
import Derived.RegionTactic
import Derived.LoopTactic
import Derived.Deep.LoopGhost
set_option linter.unusedSimpArgs false
set_option linter.unusedVariables false
namespace Go.Proofs.YtpnabjopfpdkhaaGreatDoor
open Go.RowKit
attribute [go_sem] more_more Array.size_append
set_option maxHeartbeats 4000000 in
set_option maxRecDepth 20000 in
theorem node_u {W : World} {c H : Nat} {nv : Value} {ns : List Nd} {fi : Int} {n : Nat} {g : Nat → Nat} {w : World} (h : CkSt W c H nv ns fi n g w) (j : Nat) (zk za zb zc zx zi : Int) (zs zt : ByteArray) (hz : ns[j]? = some ⟨zk, za, zb, zc, zx, zi, zs, zt⟩) (hs : zs.size ≤ maxLen) (hb : ∀ j, j < n → g j ≤ 8000) (hn : n ≤ 512)
  (k1 : qca zk = true) (k2 : numOk zk zc zi = true) (k3 : (txt1 zt (shT zk) && txt2 zk zs (shS zk)) = true) :
  Calls Tryz.prog 169 #[.pointer (some ⟨c, 0, none⟩), .int .i64 (j : Int)] w fun e w' => e = .returned (.bool (aB ns j ⟨zk, za, zb, zc, zx, zi, zs, zt⟩ && bB ns j ⟨zk, za, zb, zc, zx, zi, zs, zt⟩ && cB ns j ⟨zk, za, zb, zc, zx, zi, zs, zt⟩ && xB ns j ⟨zk, za, zb, zc, zx, zi, zs, zt⟩)) ∧
   CkSt W c H nv ns fi n (addB (xB ns j ⟨zk, za, zb, zc, zx, zi, zs, zt⟩) zx (addB (cB ns j ⟨zk, za, zb, zc, zx, zi, zs, zt⟩) zc (addB (bB ns j ⟨zk, za, zb, zc, zx, zi, zs, zt⟩) zb (addB (aB ns j ⟨zk, za, zb, zc, zx, zi, zs, zt⟩) za g)))) w' := by
 have hj : j < n := by have := (List.getElem?_eq_some_iff.1 hz).1; have := h.base.2.2.2; omega
 have hp : ∃ G cap, nv = .slice (some ⟨G, 0, none⟩) n cap := by
  rcases Go.Joins.ownsRow_forms h.row with ⟨_, h0⟩ | ⟨g1, c1, h0⟩
  · omega
  · exact ⟨g1, c1, h0⟩
 obtain ⟨G, cap, rfl⟩ := hp
 obtain ⟨a0, a1, a2, a3, a4, a5, a6, a7⟩ := nd_at h.row hz
 dsimp only at a0 a1 a2 a3 a4 a5 a6 a7
 have hG := (h.row.lt G rfl).2
 obtain ⟨c0, c1, c2, lc, lH⟩ := h.facts
 have HS0 := Lib.hid h
 have HB0 := Lib.hid hb
 have SH := Lib.hid (fun w1 => shape_any zk w1)
 rw [k1] at SH
 have NM := Lib.hid (fun w1 => num_any zk za zb zc zx zi zs zt w1)
 rw [k2] at NM
 have TX := Lib.hid (fun w1 => texts_x zk za zb zc zx zi zs zt hs (shA zk) (shB zk) (shBB zk) (shBC zk) (shS zk) (shT zk) w1)
 rw [k3] at TX
 obtain ⟨zz, hzz⟩ : ∃ zz : Nd, zz = ⟨zk, za, zb, zc, zx, zi, zs, zt⟩ := ⟨_, rfl⟩
 rw [← hzz]
 have EA := Lib.hid (show aB ns j zz = if shA zk = true then qaz ns za 0 (j : Int) false else za == -1 from by rw [hzz]; rfl)
 have EB := Lib.hid (show bB ns j zz = if shB zk = true then qaz ns zb 0 (j : Int) false else if shBB zk = true then blkB ns zb (j : Int) else zb == -1 from by rw [hzz]; rfl)
 have EC := Lib.hid (show cB ns j zz = (zc == -1 || (shBC zk && blkB ns zc (j : Int))) from by rw [hzz]; rfl)
 have EX := Lib.hid (show xB ns j zz = (zx == -1 || (decide (20 ≤ zk) && qaz ns zx ((j : Int) + 1) n true)) from by rw [hzz, ← h.base.2.2.2]; rfl)
 obtain ⟨sA, hA⟩ : ∃ b, shA zk = b := ⟨_, rfl⟩
 obtain ⟨sB, hB⟩ : ∃ b, shB zk = b := ⟨_, rfl⟩
 obtain ⟨sBB, hBB⟩ : ∃ b, shBB zk = b := ⟨_, rfl⟩
 obtain ⟨sBC, hBC⟩ : ∃ b, shBC zk = b := ⟨_, rfl⟩
 obtain ⟨bS, hS⟩ : ∃ bS, shS zk = bS := ⟨_, rfl⟩
 obtain ⟨bT, hT⟩ : ∃ bT, shT zk = bT := ⟨_, rfl⟩
 obtain ⟨A, hAq⟩ : ∃ b, aB ns j zz = b := ⟨_, rfl⟩
 obtain ⟨B, hBq⟩ : ∃ b, bB ns j zz = b := ⟨_, rfl⟩
 obtain ⟨C, hCq⟩ : ∃ b, cB ns j zz = b := ⟨_, rfl⟩
 obtain ⟨X, hXq⟩ : ∃ b, xB ns j zz = b := ⟨_, rfl⟩
 rw [hA, hB, hBB, hBC, hS, hT] at SH TX
 rw [hAq, hA] at EA
 rw [hBq, hB, hBB] at EB
 rw [hCq, hBC] at EC
 rw [hXq] at EX
 rw [hAq, hBq, hCq, hXq]
 have hj0 : 0 ≤ (j : Int) := by omega
 have hjn : (j : Int) < (n : Int) := by omega
 have hn0 : (n : Int) ≤ 512 := by omega
 clear h hb hz hs k1 k2 k3 hA hB hBB hBC hS hT hj c1 c2 hzz hAq hBq hCq hXq
 have HNE := Lib.hid (show w.heap.size ≠ H from by omega)
 have HLH := Lib.hid lH
 go_enter Tryz.func169, Tryz.ntmps169
 go_upto_if 43 with (first
   | ((go_at_call 197; (with_reducible refine (SH.out _).mono ?_); rintro e' _ ⟨rfl, d1, os1, rfl⟩))
   | ((go_at_call 198; (with_reducible refine (NM.out _).mono ?_); rintro e' _ ⟨rfl, d2, os2, rfl⟩))
   | ((go_at_call 199; (with_reducible refine (TX.out _).mono ?_); rintro e' _ ⟨rfl, d3, os3, rfl⟩)))
 obtain ⟨W1, hW⟩ : ∃ W1, more ((more (w.alloc (.cells #[.int .i64 zk, .int .i64 za, .int .i64 zb, .int .i64 zc, .int .i64 zx, .int .i64 zi, .string zs, .string zt] 166)) d1 os1).alloc (.cells #[.bool sA, .bool sB, .bool sBB, .bool sBC, .bool bS, .bool bT] 261)) d3 (os2 ++ os3) = W1 := ⟨_, rfl⟩
 show Code.wp _ _ _ _ (more ((more (w.alloc (.cells #[.int .i64 zk, .int .i64 za, .int .i64 zb, .int .i64 zc, .int .i64 zx, .int .i64 zi, .string zs, .string zt] 166)) d1 os1).alloc (.cells #[.bool sA, .bool sB, .bool sBB, .bool sBC, .bool bS, .bool bT] 261)) d3 (os2 ++ os3))
 rw [hW]
 have Q1 := Lib.hid (show CkSt W c H (.slice (some ⟨G, 0, none⟩) n cap) ns fi n g W1 ∧ KB w.heap.size #[.int .i64 zk, .int .i64 za, .int .i64 zb, .int .i64 zc, .int .i64 zx, .int .i64 zi, .string zs, .string zt] 166 W1 ∧ KB (w.heap.size + 1 + os1.size) #[.bool sA, .bool sB, .bool sBB, .bool sBC, .bool bS, .bool bT] 261 W1 from by
  rw [← hW]
  exact ⟨((HS0.out.alloc _).more _ _ |>.alloc _).more _ _, (((KB.new _ _ _).more _ _).alloc _).more _ _, (KB.newAt (k := w.heap.size + 1 + os1.size) _ _ _ (by first | simp [more_size] | (rw [more_size]; rfl))).more _ _⟩)
 clear hW a0 a1 a2 a3 a4 a5 a6 a7 c0 hG lc lH
 obtain ⟨b5, hb5⟩ : ∃ b5, w.heap.size = b5 := ⟨_, rfl⟩
 obtain ⟨b6, hb6⟩ : ∃ b6, b5 + 1 + os1.size = b6 := ⟨_, rfl⟩
 have N5 := Lib.hid (show b5 ≠ H from by rw [← hb5]; exact HNE.out)
 have N6 := Lib.hid (show b6 ≠ H from by have := HLH.out; omega)
 rw [hb5, hb6] at Q1
 rw [hb5, hb6]
 clear hb5 hb6 HNE HLH HS0
 obtain ⟨c0, c1, c2, lc, lH⟩ := Q1.out.1.facts
 have n0 := Q1.out.2.1.cell 0 _ rfl
 have n1 := Q1.out.2.1.cell 1 _ rfl
 have n2 := Q1.out.2.1.cell 2 _ rfl
 have n3 := Q1.out.2.1.cell 3 _ rfl
 have n4 := Q1.out.2.1.cell 4 _ rfl
 have l5 := Q1.out.2.1.lt
 have s0 := Q1.out.2.2.cell 0 _ rfl
 have s1 := Q1.out.2.2.cell 1 _ rfl
 have s2 := Q1.out.2.2.cell 2 _ rfl
 have s3 := Q1.out.2.2.cell 3 _ rfl
 have l6 := Q1.out.2.2.lt
 go_cut [8] (fun s8 wx => s8 = .bool A ∧ CkSt W c H (.slice (some ⟨G, 0, none⟩) n cap) ns fi n (addB A za g) wx ∧ KB b5 #[.int .i64 zk, .int .i64 za, .int .i64 zb, .int .i64 zc, .int .i64 zx, .int .i64 zi, .string zs, .string zt] 166 wx ∧ KB b6 #[.bool sA, .bool sB, .bool sBB, .bool sBC, .bool bS, .bool bT] 261 wx)
 case first =>
  have TA := Lib.hid (qbC Q1.out.1 za 0 (j : Int) false zae zae (fun q hq => by have := HB0.out q hq; omega))
  cases sA
  · have HQ := Lib.hid (show CkSt W c H (.slice (some ⟨G, 0, none⟩) n cap) ns fi n (addB A za g) W1 from Q1.out.1.idB A za (fun e => by have := EA.out; rw [e] at this; simpa using this.symm))
    have hv := EA.out
    rw [if_neg zal] at hv
    subst hv
    go_wp2_with fail
    go_meet
    exact ⟨rfl, HQ.out, Q1.out.2⟩
  · have hv := EA.out
    rw [if_pos rfl] at hv
    rw [← hv] at TA
    clear hv
    go_wp2_with (go_at_call 200; (with_reducible refine TA.out.mono ?_); rintro e' w1 ⟨rfl, h1, h2⟩; have H1 := Lib.hid (show _ ∧ _ ∧ _ from ⟨h1, Q1.out.2.1.kept h2 N5.out, Q1.out.2.2.kept h2 N6.out⟩); clear h1 h2)
    go_meet
    exact ⟨rfl, H1.out⟩
 case rest =>
  clear c0 c1 c2 lc lH n0 n1 n2 n3 n4 l5 s0 s1 s2 s3 l6
  obtain ⟨rfl, hq⟩ := hcut
  rename World => W2
  have Q2 := Lib.hid hq
  clear hq
  obtain ⟨c0, c1, c2, lc, lH⟩ := Q2.out.1.facts
  have n0 := Q2.out.2.1.cell 0 _ rfl
  have n1 := Q2.out.2.1.cell 1 _ rfl
  have n2 := Q2.out.2.1.cell 2 _ rfl
  have n3 := Q2.out.2.1.cell 3 _ rfl
  have n4 := Q2.out.2.1.cell 4 _ rfl
  have l5 := Q2.out.2.1.lt
  have s0 := Q2.out.2.2.cell 0 _ rfl
  have s1 := Q2.out.2.2.cell 1 _ rfl
  have s2 := Q2.out.2.2.cell 2 _ rfl
  have s3 := Q2.out.2.2.cell 3 _ rfl
  have l6 := Q2.out.2.2.lt
  have HB1 := Lib.hid (fun q hq => qeg A za g q 8000 (HB0.out q hq))
  go_upto_block 0 with fail
  go_cut [9] (fun s9 wx => s9 = .bool B ∧ CkSt W c H (.slice (some ⟨G, 0, none⟩) n cap) ns fi n (addB B zb (addB A za g)) wx ∧ KB b5 #[.int .i64 zk, .int .i64 za, .int .i64 zb, .int .i64 zc, .int .i64 zx, .int .i64 zi, .string zs, .string zt] 166 wx ∧ KB b6 #[.bool sA, .bool sB, .bool sBB, .bool sBC, .bool bS, .bool bT] 261 wx)
  case first =>
   have TA := Lib.hid (qbC Q2.out.1 zb 0 (j : Int) false zae zae (fun q hq => by have := HB1.out q hq; omega))
   have TB := Lib.hid (qcw Q2.out.1 zb (j : Int) zae (fun q hq => by have := HB1.out q hq; omega))
   have hv := EB.out
   cases sB
   · rw [if_neg zal] at hv
     cases sBB
     · rw [if_neg zal] at hv
       subst hv
       have HQ := Lib.hid (show CkSt W c H (.slice (some ⟨G, 0, none⟩) n cap) ns fi n (addB (zb == -1) zb (addB A za g)) W2 from Q2.out.1.idB (zb == -1) zb (fun e => by simpa using e))
       go_wp2_with fail
       go_meet
       exact ⟨rfl, HQ.out, Q2.out.2⟩
     · rw [if_pos rfl] at hv
       rw [← hv] at TB
       clear hv
       go_wp2_with (go_at_call 170; (with_reducible refine TB.out.mono ?_); rintro e' w1 ⟨rfl, h1, h2⟩; have H1 := Lib.hid (show _ ∧ _ ∧ _ from ⟨h1, Q2.out.2.1.kept h2 N5.out, Q2.out.2.2.kept h2 N6.out⟩); clear h1 h2)
       go_meet
       exact ⟨rfl, H1.out⟩
   · rw [if_pos rfl] at hv
     rw [← hv] at TA
     clear hv
     go_wp2_with (go_at_call 200; (with_reducible refine TA.out.mono ?_); rintro e' w1 ⟨rfl, h1, h2⟩; have H1 := Lib.hid (show _ ∧ _ ∧ _ from ⟨h1, Q2.out.2.1.kept h2 N5.out, Q2.out.2.2.kept h2 N6.out⟩); clear h1 h2)
     go_meet
     exact ⟨rfl, H1.out⟩
  case rest =>
   clear c0 c1 c2 lc lH n0 n1 n2 n3 n4 l5 s0 s1 s2 s3 l6
   obtain ⟨rfl, hq⟩ := hcut
   rename World => W3
   have Q3 := Lib.hid hq
   clear hq
   obtain ⟨c0, c1, c2, lc, lH⟩ := Q3.out.1.facts
   have n0 := Q3.out.2.1.cell 0 _ rfl
   have n1 := Q3.out.2.1.cell 1 _ rfl
   have n2 := Q3.out.2.1.cell 2 _ rfl
   have n3 := Q3.out.2.1.cell 3 _ rfl
   have n4 := Q3.out.2.1.cell 4 _ rfl
   have l5 := Q3.out.2.1.lt
   have s0 := Q3.out.2.2.cell 0 _ rfl
   have s1 := Q3.out.2.2.cell 1 _ rfl
   have s2 := Q3.out.2.2.cell 2 _ rfl
   have s3 := Q3.out.2.2.cell 3 _ rfl
   have l6 := Q3.out.2.2.lt
   have HB2 := Lib.hid (fun q hq => qeg B zb _ q 8001 (HB1.out q hq))
   go_upto_region 13 with fail
   go_cut [10] (fun s10 wx => s10 = .bool C ∧ CkSt W c H (.slice (some ⟨G, 0, none⟩) n cap) ns fi n (addB C zc (addB B zb (addB A za g))) wx ∧ KB b5 #[.int .i64 zk, .int .i64 za, .int .i64 zb, .int .i64 zc, .int .i64 zx, .int .i64 zi, .string zs, .string zt] 166 wx ∧ KB b6 #[.bool sA, .bool sB, .bool sBB, .bool sBC, .bool bS, .bool bT] 261 wx)
   case first =>
    have TA := Lib.hid (qcw Q3.out.1 zc (j : Int) zae (fun q hq => by have := HB2.out q hq; omega))
    have hv := EC.out
    cases qc : (zc == -1)
    · rw [qc, Bool.false_or] at hv
      cases sBC
      · rw [Bool.false_and] at hv
        subst hv
        have HQ := Lib.hid (show CkSt W c H (.slice (some ⟨G, 0, none⟩) n cap) ns fi n (addB false zc (addB B zb (addB A za g))) W3 from Q3.out.1.idB false zc (fun e => absurd e zal))
        go_wp2_with fail
        go_meet
        exact ⟨rfl, HQ.out, Q3.out.2⟩
      · rw [Bool.true_and] at hv
        rw [← hv] at TA
        clear hv
        go_wp2_with (go_at_call 170; (with_reducible refine TA.out.mono ?_); rintro e' w1 ⟨rfl, h1, h2⟩; have H1 := Lib.hid (show _ ∧ _ ∧ _ from ⟨h1, Q3.out.2.1.kept h2 N5.out, Q3.out.2.2.kept h2 N6.out⟩); clear h1 h2)
        go_meet
        exact ⟨rfl, H1.out⟩
    · rw [qc, Bool.true_or] at hv
      subst hv
      have HQ := Lib.hid (show CkSt W c H (.slice (some ⟨G, 0, none⟩) n cap) ns fi n (addB true zc (addB B zb (addB A za g))) W3 from Q3.out.1.idB true zc (fun e => by simpa using qc))
      go_wp2_with fail
      go_meet
      exact ⟨rfl, HQ.out, Q3.out.2⟩
   case rest =>
    clear c0 c1 c2 lc lH n0 n1 n2 n3 n4 l5 s0 s1 s2 s3 l6
    obtain ⟨rfl, hq⟩ := hcut
    rename World => W4
    have Q4 := Lib.hid hq
    clear hq
    obtain ⟨c0, c1, c2, lc, lH⟩ := Q4.out.1.facts
    have n0 := Q4.out.2.1.cell 0 _ rfl
    have n1 := Q4.out.2.1.cell 1 _ rfl
    have n2 := Q4.out.2.1.cell 2 _ rfl
    have n3 := Q4.out.2.1.cell 3 _ rfl
    have n4 := Q4.out.2.1.cell 4 _ rfl
    have l5 := Q4.out.2.1.lt
    have s0 := Q4.out.2.2.cell 0 _ rfl
    have s1 := Q4.out.2.2.cell 1 _ rfl
    have s2 := Q4.out.2.2.cell 2 _ rfl
    have s3 := Q4.out.2.2.cell 3 _ rfl
    have l6 := Q4.out.2.2.lt
    have HB3 := Lib.hid (fun q hq => qeg C zc _ q 8002 (HB2.out q hq))
    have TA := Lib.hid (fun dd oo => qbC (Q4.out.1.more dd oo) zx ((j : Int) + 1) n true zae zae (fun q hq => by have := HB3.out q hq; omega))
    have hv := EX.out
    go_upto_region 14 with fail
    cases qx : (zx == -1)
    rotate_left
    · rw [qx, Bool.true_or] at hv
      subst hv
      have HQ := Lib.hid (Q4.out.1.idB true zx (fun _ => by simpa using qx))
      refine qaa 19 114 [false, false, false, false, false, false, false, false, false, false, false, false, false, false, false, false, false, false, false] zad zad rfl ?_
      simp only [List.take_succ_cons, List.take_zero, List.drop_succ_cons, List.drop_zero]
      repeat (refine Lex.step rfl ?_; intro K hK; unfold StepG; go_simp; refine hK _ ?_; clear hK K)
      refine Lex.nil fun WW hE => ?_
      obtain ⟨dd, oo, rfl⟩ := hE
      unfold FillH
      go_wp2_with fail
      try rw [ends_normal]
      try go_wp2_with fail
      all_goals
       go_ret
       exact ⟨ret_bool (by cases A <;> cases B <;> cases C <;> first | rfl | contradiction | simp_all), HQ.out.more _ _⟩
    rw [qx, Bool.false_or] at hv
    by_cases hz20 : 20 ≤ zk
    rotate_left
    · have hzd : decide (20 ≤ zk) = false := decide_eq_false hz20
      rw [hzd, Bool.false_and] at hv
      subst hv
      have HQ := Lib.hid (Q4.out.1.idB false zx (fun e => absurd e zal))
      refine qaa 19 114 [false, false, false, false, false, false, false, false, false, false, false, false, false, false, false, false, false, false, false] zad zad rfl ?_
      simp only [List.take_succ_cons, List.take_zero, List.drop_succ_cons, List.drop_zero]
      repeat (refine Lex.step rfl ?_; intro K hK; unfold StepG; go_simp; refine hK _ ?_; clear hK K)
      refine Lex.nil fun WW hE => ?_
      obtain ⟨dd, oo, rfl⟩ := hE
      unfold FillH
      go_wp2_with fail
      try rw [ends_normal]
      try go_wp2_with fail
      all_goals
       go_ret
       exact ⟨ret_bool (by cases A <;> cases B <;> cases C <;> first | rfl | contradiction | simp_all), HQ.out.more _ _⟩
    have hzd : decide (20 ≤ zk) = true := decide_eq_true hz20
    rw [hzd, Bool.true_and] at hv
    rw [← hv] at TA
    clear hv hz20
    refine qaa 19 114 [false, false, false, false, false, false, false, false, false, false, false, false, false, false, false, false, false, false, false] zad zad rfl ?_
    simp only [List.take_succ_cons, List.take_zero, List.drop_succ_cons, List.drop_zero]
    repeat (refine Lex.step rfl ?_; intro K hK; unfold StepG; go_simp; refine hK _ ?_; clear hK K)
    refine Lex.nil fun WW hE => ?_
    obtain ⟨dd, oo, rfl⟩ := hE
    unfold FillH
    go_wp2_with (go_at_call 200; (with_reducible refine (TA.out _ _).mono ?_); rintro e' w1 ⟨rfl, h1, h2⟩; have HQ := Lib.hid h1; clear h1 h2)
    try rw [ends_normal]
    try go_wp2_with fail
    all_goals
     go_ret
     exact ⟨ret_bool (by cases A <;> cases B <;> cases C <;> first | rfl | contradiction | simp_all), HQ.out⟩
end Go.Proofs.YtpnabjopfpdkhaaGreatDoor

namespace Go.Proofs.YtpnabjopfpdkhaaGreatDoor
open Go.RowKit
attribute [go_sem] more_more Array.size_append
def prefs (z : Nd) (k : Int) : Nat := pone z.a k + pone z.b k + pone z.c k + pone z.x k
def pcnt (ns : List Nd) (k : Int) : Nat := (ns.map fun z => prefs z k).sum
set_option maxHeartbeats 8000000 in
set_option maxRecDepth 20000 in
theorem node_h {W : World} {c H : Nat} {nv : Value} {ns : List Nd} {fi : Int} {n : Nat} {g : Nat → Nat} {w : World} (h : CkSt W c H nv ns fi n g w) (j : Nat) (zk za zb zc zx zi : Int) (zs zt : ByteArray) (hz : ns[j]? = some ⟨zk, za, zb, zc, zx, zi, zs, zt⟩) (hs : zs.size ≤ maxLen) (k0 : qdw ⟨zk, za, zb, zc, zx, zi, zs, zt⟩ = false) :
  Calls Tryz.prog 169 #[.pointer (some ⟨c, 0, none⟩), .int .i64 (j : Int)] w fun e w' => e = .returned (.bool false) ∧ CkSt W c H nv ns fi n g w' := by
 have hj : j < n := by have := (List.getElem?_eq_some_iff.1 hz).1; have := h.base.2.2.2; omega
 have hp : ∃ G cap, nv = .slice (some ⟨G, 0, none⟩) n cap := by
  rcases Go.Joins.ownsRow_forms h.row with ⟨_, h0⟩ | ⟨g1, c1, h0⟩
  · omega
  · exact ⟨g1, c1, h0⟩
 obtain ⟨G, cap, rfl⟩ := hp
 obtain ⟨a0, a1, a2, a3, a4, a5, a6, a7⟩ := nd_at h.row hz
 dsimp only at a0 a1 a2 a3 a4 a5 a6 a7
 have hG := (h.row.lt G rfl).2
 obtain ⟨c0, c1, c2, lc, lH⟩ := h.facts
 have HS0 := Lib.hid h
 have SH := Lib.hid (fun w1 => shape_any zk w1)
 have NM := Lib.hid (fun w1 => num_any zk za zb zc zx zi zs zt w1)
 have TX := Lib.hid (fun w1 => texts_x zk za zb zc zx zi zs zt hs (shA zk) (shB zk) (shBB zk) (shBC zk) (shS zk) (shT zk) w1)
 unfold qdw at k0
 dsimp only at k0
 obtain ⟨T, hT⟩ : ∃ T, (txt1 zt (shT zk) && txt2 zk zs (shS zk)) = T := ⟨_, rfl⟩
 obtain ⟨I, hI⟩ : ∃ I, qca zk = I := ⟨_, rfl⟩
 obtain ⟨M, hM⟩ : ∃ M, numOk zk zc zi = M := ⟨_, rfl⟩
 rw [hT] at TX k0
 rw [hI] at SH k0
 rw [hM] at NM k0
 obtain ⟨sA, h1⟩ : ∃ x, shA zk = x := ⟨_, rfl⟩
 obtain ⟨sB, h2⟩ : ∃ x, shB zk = x := ⟨_, rfl⟩
 obtain ⟨sC, h3⟩ : ∃ x, shBB zk = x := ⟨_, rfl⟩
 obtain ⟨sD, h4⟩ : ∃ x, shBC zk = x := ⟨_, rfl⟩
 obtain ⟨sE, h5⟩ : ∃ x, shS zk = x := ⟨_, rfl⟩
 obtain ⟨sF, h6⟩ : ∃ x, shT zk = x := ⟨_, rfl⟩
 rw [h1, h2, h3, h4, h5, h6] at SH TX
 have hj0 : 0 ≤ (j : Int) := by omega
 have hjn : (j : Int) < (n : Int) := by omega
 clear h hz hs hj c1 c2 hT hI hM h1 h2 h3 h4 h5 h6
 cases I
 rotate_left
 · cases M
   rotate_left
   · cases T
     rotate_left
     · cases k0
     clear k0
     go_enter Tryz.func169, Tryz.ntmps169
     go_wp2_with (first
      | ((go_at_call 197; (with_reducible refine (SH.out _).mono ?_); rintro e' _ ⟨rfl, d1, os1, rfl⟩))
      | ((go_at_call 198; (with_reducible refine (NM.out _).mono ?_); rintro e' _ ⟨rfl, d2, os2, rfl⟩))
      | ((go_at_call 199; (with_reducible refine (TX.out _).mono ?_); rintro e' _ ⟨rfl, d3, os3, rfl⟩)))
     go_ret
     exact ⟨rfl, (show CkSt W c H (.slice (some ⟨G, 0, none⟩) n cap) ns fi n g _ from by repeat (first | (with_reducible exact HS0.out) | (with_reducible apply CkSt.alloc) | (with_reducible apply CkSt.more)))⟩
   clear k0
   go_enter Tryz.func169, Tryz.ntmps169
   go_wp2_with (first
    | ((go_at_call 197; (with_reducible refine (SH.out _).mono ?_); rintro e' _ ⟨rfl, d1, os1, rfl⟩))
    | ((go_at_call 198; (with_reducible refine (NM.out _).mono ?_); rintro e' _ ⟨rfl, d2, os2, rfl⟩)))
   go_ret
   exact ⟨rfl, (show CkSt W c H (.slice (some ⟨G, 0, none⟩) n cap) ns fi n g _ from by repeat (first | (with_reducible exact HS0.out) | (with_reducible apply CkSt.alloc) | (with_reducible apply CkSt.more)))⟩
 clear k0
 go_enter Tryz.func169, Tryz.ntmps169
 go_wp2_with ((go_at_call 197; (with_reducible refine (SH.out _).mono ?_); rintro e' _ ⟨rfl, d1, os1, rfl⟩))
 go_ret
 exact ⟨rfl, (show CkSt W c H (.slice (some ⟨G, 0, none⟩) n cap) ns fi n g _ from by repeat (first | (with_reducible exact HS0.out) | (with_reducible apply CkSt.alloc) | (with_reducible apply CkSt.more)))⟩
theorem pnode_any {W : World} {c H : Nat} {nv : Value} {ns : List Nd} {fi : Int} {n : Nat} {g : Nat → Nat} {w : World} (h : CkSt W c H nv ns fi n g w) (j : Nat) (z : Nd) (hz : ns[j]? = some z) (hs : z.s.size ≤ maxLen) (hb : ∀ j, j < n → g j ≤ 8000) (hn : n ≤ 512) :
  Calls Tryz.prog 169 #[.pointer (some ⟨c, 0, none⟩), .int .i64 (j : Int)] w fun e w' => e = .returned (.bool (nodeB ns j z)) ∧ ∃ g', CkSt W c H nv ns fi n g' w' ∧ (nodeB ns j z = true → ∀ k, g' k = g k + prefs z k) := by
 obtain ⟨zk, za, zb, zc, zx, zi, zs, zt⟩ := z
 dsimp only at hs
 have hL := h.base.2.2.2
 cases hh : qdw ⟨zk, za, zb, zc, zx, zi, zs, zt⟩
 · refine (node_h h j zk za zb zc zx zi zs zt hz hs hh).mono ?_
   rintro e w' ⟨rfl, h1⟩
   have q : nodeB ns j ⟨zk, za, zb, zc, zx, zi, zs, zt⟩ = false := by unfold nodeB; rw [hh, Bool.false_and]
   rw [q]
   exact ⟨rfl, g, h1, fun e => absurd e zal⟩
 have hh2 := hh
 unfold qdw at hh2
 dsimp only at hh2
 simp only [Bool.and_eq_true] at hh2
 obtain ⟨⟨k1, k2⟩, k3a, k3b⟩ := hh2
 have k3 : (txt1 zt (shT zk) && txt2 zk zs (shS zk)) = true := by rw [k3a, k3b]; rfl
 have fin : ∀ (A B C X : Bool) (w' : World), nodeB ns j ⟨zk, za, zb, zc, zx, zi, zs, zt⟩ = (A && B && C && X) → CkSt W c H nv ns fi n (addB X zx (addB C zc (addB B zb (addB A za g)))) w' →
   (Ending.returned (.bool (A && B && C && X)) : Ending) = .returned (.bool (nodeB ns j ⟨zk, za, zb, zc, zx, zi, zs, zt⟩)) ∧ ∃ g', CkSt W c H nv ns fi n g' w' ∧ (nodeB ns j ⟨zk, za, zb, zc, zx, zi, zs, zt⟩ = true → ∀ k, g' k = g k + prefs ⟨zk, za, zb, zc, zx, zi, zs, zt⟩ k) := by
  intro A B C X w' e h1
  rw [e]
  refine ⟨rfl, _, h1, fun q k => ?_⟩
  simp only [Bool.and_eq_true] at q
  obtain ⟨⟨⟨rfl, rfl⟩, rfl⟩, rfl⟩ := q
  unfold addB prefs
  simp only [if_true]
  omega
 refine (node_u h j zk za zb zc zx zi zs zt hz hs hb hn k1 k2 k3).mono ?_
 rintro e w' ⟨rfl, h1⟩
 exact fin _ _ _ _ w' (by unfold nodeB; rw [hh, Bool.true_and]) h1
/-- is every number of a row a one? -/
def allB (g : Nat → Nat) (n : Nat) : Bool := (List.range n).all fun j => g j == 1
theorem allB_no {g : Nat → Nat} {n j : Nat} (hj : j < n) (h : g j ≠ 1) : allB g n = false := by
 unfold allB
 rw [Bool.eq_false_iff]
 intro q
 have := List.all_eq_true.1 q j (List.mem_range.2 hj)
 exact h (by simpa using this)
theorem allB_yes {g : Nat → Nat} {n : Nat} (h : ∀ j, j < n → g j = 1) : allB g n = true := by
 unfold allB
 exact List.all_eq_true.2 fun j hj => by simpa using h j (List.mem_range.1 hj)
set_option maxHeartbeats 1000000 in
theorem pone_any (k : Int) (w : World) : Calls Tryz.prog 172 #[.int .i64 k] w fun e w' => e = .returned (.bool (k != 1)) ∧ w' = w := by
 go_enter Tryz.func172, Tryz.ntmps172
 go_wp2_with fail
 go_ret
 exact ⟨ret_bool (by first | rfl | simp), rfl⟩
set_option maxHeartbeats 2000000 in
set_option maxRecDepth 20000 in
theorem pindex_any {H n : Nat} {g : Nat → Nat} {w : World} (h : w.rowIs H 3 n (fun j => .int .i64 (g j : Int))) (hn : n ≤ 512) (hb : ∀ j, j < n → g j ≤ 9000) :
  Calls Tryz.prog 201 #[.slice (some ⟨H, 0, none⟩) n n, .func (.func 172) #[] #[]] w fun e w' => (∃ r : Int, e = .returned (.int .i64 r) ∧ decide (0 ≤ r) = !allB g n) ∧ w' = w := by
 have HS := Lib.hid h
 have HBB := Lib.hid hb
 have hni : (n : Int) ≤ 512 := by omega
 have lH := h.lt
 clear h hb
 go_enter Tryz.func201, Tryz.ntmps201
 go_wp2_with fail
 go_loopg [5, 8] n (fun gg _ s8 wr => ∃ kk : Nat, kk ≤ n ∧ n - kk ≤ gg ∧ s8 = .int .i64 kk ∧ wr = w ∧ RowKit.Hid (∀ j, j < kk → g j = 1))
 case atStart => exact ⟨0, Nat.zero_le _, by omega, rfl, rfl, Lib.hid fun j hj => absurd hj (Nat.not_lt_zero _)⟩
 case round =>
  obtain ⟨kk, hkk, hg, rfl, rfl, A⟩ := hrel
  by_cases hlt : kk < n
  · have hltz : (kk : Int) < (n : Int) := by omega
    have hk0 : 0 ≤ (kk : Int) := by omega
    have hc := HS.out.cell hlt
    by_cases h1 : g kk = 1
    · have hc1 : wr.cell? ⟨H, kk, none⟩ = some (.int .i64 1) := by rw [hc, h1]; rfl
      have HP := Lib.hid (pone_any 1 wr)
      clear hc
      go_wp2_with (go_at_call 172; refine HP.out.mono ?_; rintro e w' ⟨rfl, rfl⟩)
      go_roundg (n - (kk + 1))
      case measure => omega
      case rel =>
       refine ⟨kk + 1, by omega, by omega, by go_num, rfl, Lib.hid fun j hj => ?_⟩
       by_cases e : j = kk
       · subst e; exact h1
       · exact A.out j zae
    · obtain ⟨q, hq⟩ : ∃ q : Int, (g kk : Int) = q := ⟨_, rfl⟩
      have hc1 : wr.cell? ⟨H, kk, none⟩ = some (.int .i64 q) := by rw [hc, hq]
      have hq1 : (q != 1) = true := by simp; omega
      have HP := Lib.hid (pone_any q wr)
      have HF := Lib.hid (allB_no hlt h1)
      rw [hq1] at HP
      clear hc h1 hq hq1
      go_wp2_with (go_at_call 172; refine HP.out.mono ?_; rintro e w' ⟨rfl, rfl⟩)
      go_ret
      exact ⟨⟨_, rfl, by rw [HF.out]; simp⟩, rfl⟩
  · have : kk = n := by omega
    subst this
    have HF := Lib.hid (allB_yes A.out)
    go_wp2_with fail
    go_ret
    exact ⟨⟨_, rfl, by rw [HF.out]; simp⟩, rfl⟩
set_option maxHeartbeats 1000000 in
theorem qec {H n : Nat} {g : Nat → Nat} {w : World} (h : w.rowIs H 3 n (fun j => .int .i64 (g j : Int))) (hn : n ≤ 512) (hb : ∀ j, j < n → g j ≤ 9000) :
  Calls Tryz.prog 171 #[.slice (some ⟨H, 0, none⟩) n n, .func (.func 172) #[] #[]] w fun e w' => e = .returned (.bool (!allB g n)) ∧ w' = w := by
 have HI := Lib.hid (pindex_any h hn hb)
 clear h hb
 go_enter Tryz.func171, Tryz.ntmps171
 go_wp2_with ((go_at_call 201; (with_reducible refine HI.out.mono ?_); rintro e' _ ⟨⟨r, rfl, hr⟩, rfl⟩))
 go_ret
 exact ⟨by rw [← hr]; rfl, rfl⟩
end Go.Proofs.YtpnabjopfpdkhaaGreatDoor

namespace Go.Proofs.YtpnabjopfpdkhaaGreatDoor
open Go.RowKit
attribute [go_sem] more_more Array.size_append
def qde (ns : List Nd) : Bool := (List.range ns.length).all fun j => match ns[j]? with | some z => nodeB ns j z | none => true
def onceB (ns : List Nd) (fi : Int) : Bool := allB (fun k => pone fi k + pcnt ns k) ns.length
/-- may a program be? -/
def mayB (ns : List Nd) (fi : Int) : Bool := decide (ns.length ≤ 512) && qde ns && blkB ns fi ns.length && onceB ns fi
theorem nodesB_no {ns : List Nd} {j : Nat} {z : Nd} (hz : ns[j]? = some z) (h : nodeB ns j z = false) : qde ns = false := by
 unfold qde
 rw [Bool.eq_false_iff]
 intro q
 have := List.all_eq_true.1 q j (List.mem_range.2 (List.getElem?_eq_some_iff.1 hz).1)
 rw [hz] at this
 dsimp only at this
 rw [h] at this
 cases this
theorem nodesB_yes {ns : List Nd} (h : ∀ j z, ns[j]? = some z → nodeB ns j z = true) : qde ns = true := by
 unfold qde
 refine List.all_eq_true.2 fun j hj => ?_
 cases hz : ns[j]? with
 | none => rfl
 | some z => exact h j z hz
theorem allB_congr {g g' : Nat → Nat} {n : Nat} (h : ∀ j, j < n → g j = g' j) : allB g n = allB g' n := by
 unfold allB
 rw [Bool.eq_iff_iff]
 simp only [List.all_eq_true, List.mem_range]
 exact ⟨fun q j hj => by rw [← h j hj]; exact q j hj, fun q j hj => by rw [h j hj]; exact q j hj⟩
theorem pcnt_take (ns : List Nd) (j : Nat) (z : Nd) (hz : ns[j]? = some z) (k : Int) : pcnt (ns.take (j + 1)) k = pcnt (ns.take j) k + prefs z k := by
 rw [List.take_add_one, hz]
 simp [pcnt]
theorem pcnt_le (ns : List Nd) (k : Int) : pcnt ns k ≤ 4 * ns.length := by
 induction ns with
 | nil => simp [pcnt]
 | cons z l ih =>
  have e2 : pcnt (z :: l) k = prefs z k + pcnt l k := by simp [pcnt]
  have h1 : ∀ a, pone a k ≤ 1 := fun a => by unfold pone; split <;> omega
  have := h1 z.a; have := h1 z.b; have := h1 z.c; have := h1 z.x
  rw [e2]; unfold prefs
  simp only [List.length_cons]; omega
set_option maxHeartbeats 1000000 in
theorem may_long {ns : List Nd} {nv : Value} {n : Nat} {base : Nat} (fi : Int) (w : World) (hr : w.ownsRow base 166 8 nv n (qae ns)) (hl : ns.length = n) (hn : 512 < n) :
  Calls Tryz.prog 134 #[.agg #[nv, .int .i64 fi]] w fun e w' => e = .returned (.bool (mayB ns fi)) ∧ Ext w w' := by
 have hq : mayB ns fi = false := by unfold mayB; rw [decide_eq_false zae]; rfl
 rw [hq]
 obtain ⟨p1, c1, rfl⟩ := qag hr
 have hni : (512 : Int) < (n : Int) := by omega
 clear hr hl hn hq
 go_enter Tryz.func134, Tryz.ntmps134
 go_wp2_with fail
 go_ret
 exact ⟨rfl, zab⟩
set_option maxHeartbeats 8000000 in
set_option maxRecDepth 20000 in
theorem may_short {ns : List Nd} {nv : Value} {n : Nat} {base : Nat} (fi : Int) (w : World) (hr : w.ownsRow base 166 8 nv n (qae ns)) (hl : ns.length = n) (hn : n ≤ 512) (hs : ∀ z ∈ ns, z.s.size ≤ maxLen) :
  Calls Tryz.prog 134 #[.agg #[nv, .int .i64 fi]] w fun e w' => e = .returned (.bool (mayB ns fi)) ∧ Ext w w' := by
 obtain ⟨p1, c1, rfl⟩ := qag hr
 have HR := Lib.hid (hr.mono (Nat.zero_le _))
 have HN := Lib.hid hl
 have HSZ := Lib.hid hs
 have hni : (n : Int) ≤ 512 := by omega
 have hm : mayB ns fi = (qde ns && blkB ns fi n && allB (fun k => pone fi k + pcnt ns k) n) := by unfold mayB onceB; rw [hl, decide_eq_true hn, Bool.true_and]
 rw [hm]
 have mk := fun W => run_make_row' (P := Tryz.prog) 160 3 (.int .i64 0) 8 Tryz.underlying160 intInfo rfl .i64 .i64 n zae zae W
 clear hr hl hs hm
 go_enter Tryz.func134, Tryz.ntmps134
 go_wp2_with fail
 go_region
 go_wp2_with fail
 have OS0 := Lib.hid (show CkSt (w.alloc (.cells #[.slice p1 n c1, .int .i64 fi] 132 (0, 0))) (w.heap.size + 1 + 1) (w.heap.size + 1) (.slice p1 n c1) ns fi n (fun _ => 0) _ from
  ⟨(((Ext.refl (w.alloc (.cells #[.slice p1 n c1, .int .i64 fi] 132 (0, 0)))).alloc (.cells (madeCells #[.int .i64 0] n) 3 (0, 0))).alloc (.cells #[.slice p1 n c1, .int .i64 fi, .slice (some ⟨w.heap.size + 1, 0, none⟩) n n] 248 (0, 0))).drew,
   by have := heap_alloc_new ((w.alloc (.cells #[.slice p1 n c1, .int .i64 fi] 132 (0, 0))).alloc (.cells (madeCells #[.int .i64 0] n) 3 (0, 0))) (.cells #[.slice p1 n c1, .int .i64 fi, .slice (some ⟨w.heap.size + 1, 0, none⟩) n n] 248 (0, 0)); rw [World.size_alloc, World.size_alloc] at this; exact this,
   ((World.rowIs_made (w.alloc (.cells #[.slice p1 n c1, .int .i64 fi] 132 (0, 0))) (.int .i64 0) n 3).alloc _ |> fun h => by rw [World.size_alloc] at h; exact h.congr fun j _ => rfl),
   (((HR.out).alloc _).alloc _).alloc _,
   ⟨by rw [World.size_alloc]; exact Nat.le_refl _, by omega, fun e => by have := (HR.out.lt _ e).2; omega, HN.out⟩⟩)
 have HBX := Lib.hid (fun wr (hx : Ext (w.alloc (.cells #[.slice p1 n c1, .int .i64 fi] 132 (0, 0))) wr) => (KB.new w #[.slice p1 n c1, .int .i64 fi] 132).of_ext hx)
 have HEX := Lib.hid ((Ext.refl w).alloc (.cells #[.slice p1 n c1, .int .i64 fi] 132 (0, 0)))
 obtain ⟨c, hc⟩ : ∃ c, w.heap.size + 1 + 1 = c := ⟨_, rfl⟩
 rw [hc] at OS0 ⊢
 obtain ⟨H, hH⟩ : ∃ H, w.heap.size + 1 = H := ⟨_, rfl⟩
 rw [hH] at OS0 ⊢
 obtain ⟨k1, hk1⟩ : ∃ k1, w.heap.size = k1 := ⟨_, rfl⟩
 rw [hk1] at HBX ⊢
 obtain ⟨W0, hW0⟩ : ∃ W0, w.alloc (.cells #[.slice p1 n c1, .int .i64 fi] 132 (0, 0)) = W0 := ⟨_, rfl⟩
 rw [hW0] at OS0 HBX HEX ⊢
 clear hc hH hk1 hW0 HR mk
 go_loopw [19] (fun y wr => ∃ j : Nat, y = .int .i64 (j : Int) ∧ j ≤ n ∧ CkSt W0 c H (.slice p1 n c1) ns fi n (fun k => pcnt (ns.take j) k) wr ∧ RowKit.Hid (∀ i z, i < j → ns[i]? = some z → nodeB ns i z = true)) (fun y _ => n - (intOf y).toNat)
 case atStart => exact ⟨0, rfl, Nat.zero_le _, OS0.out.congr fun j _ => by simp [pcnt], Lib.hid fun i z h => absurd h (Nat.not_lt_zero _)⟩
 case round =>
  obtain ⟨j, rfl, hj, hos, HA⟩ := hrel
  have OS := Lib.hid hos
  clear hos
  have hj0 : 0 ≤ (j : Int) := by omega
  have hbd : RowKit.Hid (∀ m q, pcnt (ns.take m) q ≤ 8000) := Lib.hid fun m q => by have := pcnt_le (ns.take m) q; rw [List.length_take] at this; have := HN.out; omega
  by_cases hlt : j < n
  · obtain ⟨z, hz⟩ : ∃ z, ns[j]? = some z := ⟨_, List.getElem?_eq_getElem (by rw [HN.out]; exact hlt)⟩
    have HZ := Lib.hid hz
    have HLT := Lib.hid hlt
    have hji : (j : Int) < (n : Int) := by omega
    have ND := Lib.hid (pnode_any OS.out j z hz (HSZ.out z (List.mem_of_getElem? hz)) (fun q _ => hbd.out j q) hn)
    clear hz hlt
    cases q : nodeB ns j z
    · rw [q] at ND
      have HF := Lib.hid (nodesB_no HZ.out q)
      clear q
      go_wp2_with ((go_at_call 169; (with_reducible refine ND.out.mono ?_); rintro e' w2 ⟨rfl, g2, h2, _⟩; have OS2 := Lib.hid h2; clear h2))
      go_ret
      exact ⟨ret_bool (by rw [HF.out]; rfl), HEX.out.trans OS2.out.ext⟩
    · rw [q] at ND
      have HT := Lib.hid q
      clear q
      go_wp2_with ((go_at_call 169; (with_reducible refine ND.out.mono ?_); rintro e' w2 ⟨rfl, g2, h2, h3⟩; have OS2 := Lib.hid h2; have H3 := Lib.hid (h3 rfl); clear h2 h3))
      go_roundw
      case rel =>
       refine ⟨j + 1, by go_num, by have := HLT.out; omega, OS2.out.congr fun q _ => ?_, Lib.hid fun i y hi hy => ?_⟩
       · rw [H3.out q, pcnt_take ns j z HZ.out q]
       · by_cases e : i = j
         · subst e
           have e2 := hy.symm.trans HZ.out
           simp only [Option.some.injEq] at e2
           subst e2
           exact HT.out
         · exact HA.out i y zae hy
      case measure => have := HLT.out; simp [intOf]; omega
  · have hje : j = n := by omega
    subst hje
    have hall : ns.take j = ns := List.take_of_length_le (by rw [HN.out]; omega)
    have hbd2 := hbd.out j
    rw [hall] at OS hbd2
    have HB2 := Lib.hid hbd2
    have HY := Lib.hid (nodesB_yes (ns := ns) fun i z hz => HA.out i z (by have := (List.getElem?_eq_some_iff.1 hz).1; have := HN.out; omega) hz)
    have KX := Lib.hid (HBX.out wr OS.out.ext)
    have x0 := KX.out.cell 0 _ rfl
    have x1 := KX.out.cell 1 _ rfl
    have lx := KX.out.lt
    have BK := Lib.hid (qcw OS.out fi (j : Int) zae (fun q _ => Nat.le_trans (HB2.out q) zae))
    clear hlt hall hbd hbd2
    cases q : blkB ns fi j
    · rw [q] at BK
      have HF := Lib.hid q
      clear q
      go_wp2_with ((go_at_call 170; (with_reducible refine BK.out.mono ?_); rintro e' w2 ⟨rfl, h2, _⟩; have OS2 := Lib.hid h2; clear h2))
      go_ret
      exact ⟨ret_bool (by rw [HF.out, Bool.and_false, Bool.false_and]), HEX.out.trans OS2.out.ext⟩
    · rw [q] at BK
      have HF := Lib.hid q
      clear q
      go_wp2_with (first | (go_at_call 170; (with_reducible refine BK.out.mono ?_); rintro e' w2 ⟨rfl, h2, _⟩; have OS2 := Lib.hid h2; clear h2; obtain ⟨c0, c1', c2, lc, lH⟩ := OS2.out.facts; clear c0 c1'; have CF := Lib.hid (qec OS2.out.had hn (fun q _ => Nat.le_trans (qeg true fi _ q 8000 (HB2.out q)) zae))) | (go_at_call 171; (with_reducible refine CF.out.mono ?_); rintro e' _ ⟨rfl, rfl⟩))
      go_ret
      exact ⟨ret_bool (by rw [HY.out, HF.out]; simp only [Bool.true_and, Bool.not_not]; exact allB_congr fun q _ => by unfold addB; rw [if_pos rfl]; exact Nat.add_comm _ _), HEX.out.trans OS2.out.ext⟩
theorem may_any {ns : List Nd} {nv : Value} {n : Nat} {base : Nat} (fi : Int) (w : World) (hr : w.ownsRow base 166 8 nv n (qae ns)) (hl : ns.length = n) (hs : ∀ z ∈ ns, z.s.size ≤ maxLen) :
  Calls Tryz.prog 134 #[.agg #[nv, .int .i64 fi]] w fun e w' => e = .returned (.bool (mayB ns fi)) ∧ Ext w w' := by
 by_cases hn : n ≤ 512
 · exact may_short fi w hr hl hn hs
 · exact may_long fi w hr hl zae
end Go.Proofs.YtpnabjopfpdkhaaGreatDoor

namespace Go.Proofs.YtpnabjopfpdkhaaGreatDoor
/-- the tree at a node has n nodes -/
inductive Tr (ns : List Nd) : Int → Nat → Prop
 | neg {i : Int} : i < 0 → Tr ns i 0
 | node {i : Nat} {z : Nd} {na nb nc nx : Nat} : ns[i]? = some z → Tr ns z.a na → Tr ns z.b nb → Tr ns z.c nc → Tr ns z.x nx → Tr ns (i : Int) (1 + (na + (nb + (nc + nx))))
def kid (a : Int) : List Nat := if a < 0 then [] else [a.toNat]
def chN (z : Nd) : List Nat := kid z.a ++ (kid z.b ++ (kid z.c ++ kid z.x))
def chs (ns : List Nd) (u : Nat) : List Nat := match ns[u]? with | some z => chN z | none => []
theorem kid_count (a : Int) (k : Nat) : (kid a).count k = pone a k := by
 unfold kid pone
 by_cases h : a < 0
 · rw [if_pos h, if_neg zae]; rfl
 · rw [if_neg h]
   by_cases e : a = k
   · rw [if_pos e, show a.toNat = k from by omega]; simp
   · rw [if_neg e, List.count_eq_zero]; simp; omega
theorem chN_count (z : Nd) (k : Nat) : (chN z).count k = prefs z k := by
 unfold chN prefs
 simp only [List.count_append, kid_count]; omega
/-- each stands in it once at most -/
def Uq (l : List Nat) : Prop := ∀ k, l.count k ≤ 1
theorem perm_sum {l m : List Nat} (h : l.Perm m) : l.sum = m.sum := by
 induction h with
 | nil => rfl
 | cons a _ ih => simp [ih]
 | swap a b l => simp; omega
 | trans _ _ h1 h2 => exact h1.trans h2
theorem uq_sum (f : Nat → Nat) : ∀ (N : Nat) (l : List Nat), Uq l → (∀ u ∈ l, u < N) → (l.map f).sum ≤ ((List.range N).map f).sum
 | 0, l, _, h => by
  cases l with
  | nil => simp
  | cons a l => exact absurd (h a zal) (Nat.not_lt_zero _)
 | N + 1, l, hu, h => by
  rw [List.range_succ, List.map_append, List.sum_append]
  by_cases hm : N ∈ l
  · have p := perm_sum ((List.perm_cons_erase hm).map f)
    rw [p, List.map_cons, List.sum_cons]
    have h1 := uq_sum f N (l.erase N) (fun k => by rw [List.count_erase]; have := hu k; omega) (fun u hu1 => by
     have h2 := h u (List.mem_of_mem_erase hu1)
     have h3 : u ≠ N := fun e => by
      subst e
      have h4 := List.count_pos_iff.2 hu1
      rw [List.count_erase] at h4
      have := hu u
      simp at h4; omega
     omega)
    simp only [List.map_cons, List.map_nil, List.sum_cons, List.sum_nil]
    omega
  · have h1 := uq_sum f N l hu (fun u hu1 => by have := h u hu1; have h3 : u ≠ N := fun e => hm (e ▸ hu1); omega)
    omega
theorem pcnt_range (ns : List Nd) (k : Nat) : pcnt ns k = ((List.range ns.length).map fun u => (chs ns u).count k).sum := by
 unfold pcnt
 congr 1
 apply List.ext_getElem
 · simp
 · intro i h1 h2
   simp only [List.length_map, List.length_range] at h1 h2
   simp only [List.getElem_map, List.getElem_range, chs]
   rw [List.getElem?_eq_getElem h1]
   exact (chN_count _ _).symm
def levL (ns : List Nd) : List Nat → Nat → List Nat
 | l, 0 => l
 | l, d + 1 => levL ns (l.flatMap (chs ns)) d
def uptoL (ns : List Nd) (l : List Nat) : Nat → List Nat
 | 0 => []
 | d + 1 => uptoL ns l d ++ levL ns l d
theorem levL_nil (ns : List Nd) : ∀ d, levL ns [] d = []
 | 0 => rfl
 | d + 1 => by rw [levL]; exact levL_nil ns d
theorem qaW (ns : List Nd) : ∀ d l m, levL ns (l ++ m) d = levL ns l d ++ levL ns m d
 | 0, _, _ => rfl
 | d + 1, l, m => by rw [levL, levL, levL, List.flatMap_append, qaW ns d]
theorem qcN (ns : List Nd) : ∀ d l, levL ns l (d + 1) = (levL ns l d).flatMap (chs ns)
 | 0, _ => rfl
 | d + 1, l => by rw [levL, qcN ns d]; rfl
theorem qbT (ns : List Nd) (l : List Nat) : ∀ d, uptoL ns l (d + 1) = l ++ (uptoL ns l d).flatMap (chs ns)
 | 0 => by simp [uptoL, levL]
 | d + 1 => by
  have e1 : uptoL ns l (d + 1) = uptoL ns l d ++ levL ns l d := rfl
  have e2 : uptoL ns l (d + 1 + 1) = uptoL ns l (d + 1) ++ levL ns l (d + 1) := rfl
  rw [e2, qcN, qbT ns l d, List.append_assoc, ← List.flatMap_append, ← e1, qbT ns l d]
theorem upto_len (ns : List Nd) (l : List Nat) : ∀ d, levL ns l d ≠ [] → d + 1 ≤ (uptoL ns l (d + 1)).length
 | 0, h => by rw [uptoL, List.length_append]; have : levL ns l 0 ≠ [] := h; have := List.length_pos_iff.2 this; omega
 | d + 1, h => by
  have h1 : levL ns l d ≠ [] := fun e => h (by rw [qcN, e]; rfl)
  have h2 := upto_len ns l d h1
  rw [uptoL, List.length_append]
  have := List.length_pos_iff.2 h
  omega
theorem tr_of_lev (ns : List Nd) (hb : ∀ (j : Nat) (z : Nd), ns[j]? = some z → z.a < ns.length ∧ z.b < ns.length ∧ z.c < ns.length ∧ z.x < ns.length) : ∀ (d : Nat) (i : Int), i < ns.length → levL ns (kid i) d = [] → Tr ns i (uptoL ns (kid i) d).length := by
 intro d
 induction d with
 | zero =>
  intro i hi h
  have hk : kid i = [] := h
  by_cases h0 : i < 0
  · exact Tr.neg h0
  · unfold kid at hk; rw [if_neg h0] at hk; cases hk
 | succ d ih =>
  intro i hi h
  by_cases h0 : i < 0
  · have hk : kid i = [] := by unfold kid; rw [if_pos h0]
    have : uptoL ns (kid i) (d + 1) = [] := by
     rw [hk]
     clear h ih hk
     induction d with
     | zero => rfl
     | succ d ih => rw [uptoL, ih, levL_nil]; rfl
    rw [this]
    exact Tr.neg h0
  · obtain ⟨j, rfl⟩ : ∃ j : Nat, i = (j : Int) := ⟨i.toNat, by omega⟩
    have hj : j < ns.length := by omega
    have hz := List.getElem?_eq_getElem hj
    obtain ⟨z, hz⟩ : ∃ z, ns[j]? = some z := ⟨_, hz⟩
    have hk : kid (j : Int) = [j] := by unfold kid; rw [if_neg h0]; simp
    have hch : chs ns j = chN z := by unfold chs; rw [hz]
    have h1 : ∀ m, levL ns (kid (j : Int)) (m + 1) = levL ns (chN z) m := fun m => by rw [hk, levL]; simp [hch]
    rw [h1] at h
    unfold chN at h
    rw [qaW, qaW, qaW] at h
    simp only [List.append_eq_nil_iff] at h
    obtain ⟨ha, hb1, hc, hx⟩ := h
    obtain ⟨b1, b2, b3, b4⟩ := hb j z hz
    have t := Tr.node hz (ih _ b1 ha) (ih _ b2 hb1) (ih _ b3 hc) (ih _ b4 hx)
    have e : ∀ m, (uptoL ns (kid (j : Int)) (m + 1)).length = 1 + ((uptoL ns (kid z.a) m).length + ((uptoL ns (kid z.b) m).length + ((uptoL ns (kid z.c) m).length + (uptoL ns (kid z.x) m).length))) := by
     intro m
     induction m with
     | zero => simp [uptoL, levL, hk]
     | succ m ihm =>
      rw [uptoL, List.length_append, ihm, h1]
      simp only [uptoL, List.length_append, chN, qaW]
      omega
    rw [e d]
    exact t
theorem tr_of_once (ns : List Nd) (fi : Int) (hf : fi < ns.length) (hb : ∀ (j : Nat) (z : Nd), ns[j]? = some z → z.a < ns.length ∧ z.b < ns.length ∧ z.c < ns.length ∧ z.x < ns.length)
  (ho : ∀ k, k < ns.length → pone fi k + pcnt ns k ≤ 1) : ∃ n, n ≤ ns.length ∧ Tr ns fi n := by
 have hkid : ∀ a : Int, a < ns.length → ∀ u ∈ kid a, u < ns.length := by
  intro a ha u hu
  unfold kid at hu
  split at hu
  · cases hu
  · simp at hu; omega
 have hchs : ∀ v, ∀ u ∈ chs ns v, u < ns.length := by
  intro v u hu
  unfold chs at hu
  split at hu
  · rename_i z hz
    obtain ⟨b1, b2, b3, b4⟩ := hb v z hz
    unfold chN at hu
    simp only [List.mem_append] at hu
    rcases hu with h | h | h | h
    · exact hkid _ b1 u h
    · exact hkid _ b2 u h
    · exact hkid _ b3 u h
    · exact hkid _ b4 u h
  · cases hu
 have key : ∀ d, Uq (uptoL ns (kid fi) d) ∧ ∀ u ∈ uptoL ns (kid fi) d, u < ns.length := by
  intro d
  induction d with
  | zero => exact ⟨fun k => by simp [uptoL], fun u h => by cases h⟩
  | succ d ih =>
   have hm : ∀ u ∈ uptoL ns (kid fi) (d + 1), u < ns.length := by
    intro u hu
    rw [qbT] at hu
    simp only [List.mem_append, List.mem_flatMap] at hu
    rcases hu with h | ⟨v, _, h⟩
    · exact hkid _ hf u h
    · exact hchs v u h
   refine ⟨fun k => ?_, hm⟩
   by_cases hk : k < ns.length
   · rw [qbT, List.count_append, List.count_flatMap, kid_count]
     have h1 := uq_sum (fun u => (chs ns u).count k) ns.length _ ih.1 ih.2
     rw [← pcnt_range] at h1
     have h2 := ho k hk
     have h3 : (List.map (List.count k ∘ chs ns) (uptoL ns (kid fi) d)).sum = ((uptoL ns (kid fi) d).map fun u => (chs ns u).count k).sum := rfl
     omega
   · have : (uptoL ns (kid fi) (d + 1)).count k = 0 := List.count_eq_zero.2 fun h => hk (hm k h)
     omega
 have hlen : ∀ d, (uptoL ns (kid fi) d).length ≤ ns.length := by
  intro d
  have h1 := uq_sum (fun _ => 1) ns.length _ (key d).1 (key d).2
  simp only [List.map_const', List.sum_replicate_nat, List.length_range] at h1
  omega
 have he : levL ns (kid fi) ns.length = [] := by
  by_cases h : levL ns (kid fi) ns.length = []
  · exact h
  · have h1 := upto_len ns (kid fi) ns.length h
    have h2 := hlen (ns.length + 1)
    omega
 exact ⟨_, hlen _, tr_of_lev ns hb _ fi hf he⟩
theorem qbF {ns : List Nd} {fi : Int} (h : mayB ns fi = true) : ns.length ≤ 512 ∧ (∀ (j : Nat) (z : Nd), ns[j]? = some z → nodeB ns j z = true) ∧ blkB ns fi ns.length = true ∧ ∀ k, k < ns.length → pone fi k + pcnt ns k = 1 := by
 unfold mayB at h
 simp only [Bool.and_eq_true, decide_eq_true_eq] at h
 obtain ⟨⟨⟨h1, h2⟩, h3⟩, h4⟩ := h
 refine ⟨h1, fun j z hz => ?_, h3, fun k hk => ?_⟩
 · unfold qde at h2
   have := List.all_eq_true.1 h2 j (List.mem_range.2 (List.getElem?_eq_some_iff.1 hz).1)
   rw [hz] at this
   exact this
 · unfold onceB allB at h4
   have := List.all_eq_true.1 h4 k (List.mem_range.2 hk)
   simpa using this
theorem qbe {ns : List Nd} {k f t : Int} {st : Bool} (h : qaz ns k f t st = true) : f ≤ k ∧ k < t := by
 unfold qaz at h
 simp only [Bool.and_eq_true, decide_eq_true_eq] at h
 exact h.1
theorem blkB_lt {ns : List Nd} {k i : Int} (h : blkB ns k i = true) (hi : 0 ≤ i) : k < i := by
 unfold blkB at h
 simp only [Bool.or_eq_true, beq_iff_eq] at h
 rcases h with h | h
 · omega
 · exact (qbe h).2
theorem nodeB_lt {ns : List Nd} {j : Nat} {z : Nd} (hj : j < ns.length) (h : nodeB ns j z = true) : z.a < ns.length ∧ z.b < ns.length ∧ z.c < ns.length ∧ z.x < ns.length := by
 unfold nodeB aB bB cB xB at h
 simp only [Bool.and_eq_true, Bool.or_eq_true, beq_iff_eq, decide_eq_true_eq] at h
 obtain ⟨_, ⟨⟨ha, hb⟩, hc⟩, hx⟩ := h
 refine ⟨?_, ?_, ?_, ?_⟩
 · split at ha
   · have := qbe ha; omega
   · have : z.a = -1 := by simpa using ha
     omega
 · split at hb
   · have := qbe hb; omega
   · split at hb
     · have := blkB_lt hb zae; omega
     · have : z.b = -1 := by simpa using hb
       omega
 · rcases hc with h | ⟨_, h⟩
   · omega
   · have := blkB_lt h zae; omega
 · rcases hx with h | ⟨_, h⟩
   · omega
   · have := qbe h; omega
theorem may_tree {ns : List Nd} {fi : Int} (h : mayB ns fi = true) : ∃ n, n ≤ ns.length ∧ Tr ns fi n := by
 obtain ⟨h1, h2, h3, h4⟩ := qbF h
 exact tr_of_once ns fi (blkB_lt h3 zae) (fun j z hz => nodeB_lt (List.getElem?_eq_some_iff.1 hz).1 (h2 j z hz)) (fun k hk => Nat.le_of_eq (h4 k hk))
end Go.Proofs.YtpnabjopfpdkhaaGreatDoor

namespace Go.Proofs.YtpnabjopfpdkhaaGreatDoor
open Go.RowKit
theorem qct (S : Sc) (e a : Int) : (S.wrong e a).seen = S.seen ∧ (S.wrong e a).made = S.made ∧ (S.wrong e a).slots = S.slots ∧ (S.wrong e a).free = S.free ∧ (S.wrong e a).most = S.most := by
 unfold Sc.wrong; split <;> exact ⟨rfl, rfl, rfl, rfl, rfl⟩
theorem wrong_e {S : Sc} {e a : Int} (he : e ≠ 0) : (S.wrong e a).e ≠ 0 := by
 unfold Sc.wrong
 split
 · exact he
 · assumption
theorem use_same (S : Sc) (s : ByteArray) (i : Nat) : (S.use s i).seen = S.seen ∧ (S.use s i).made = S.made ∧ (S.use s i).slots.length = S.slots.length ∧ (S.use s i).free.length ≤ S.free.length + 1 := by
 obtain ⟨a1, a2, a3, a4, a5⟩ := qct S 15 i
 unfold Sc.use
 dsimp only
 split
 · split
   · exact ⟨a1, a2, by rw [List.length_set, a3], by rw [a4]; omega⟩
   · exact ⟨a1, a2, by rw [List.length_set, a3], by rw [List.length_append, a4]; simp⟩
 · exact ⟨rfl, rfl, by rw [List.length_set], Nat.le_succ _⟩
theorem qcl (S : Sc) (s : ByteArray) (i : Int) : (S.see s i).seen = S.seen ++ [s] ∧ (S.see s i).made = S.made ++ [s] ∧ (S.see s i).slots = S.slots ∧ (S.see s i).free = S.free := by
 obtain ⟨a1, a2, a3, a4, a5⟩ := qct S 16 i
 obtain ⟨b1, b2, b3, b4, b5⟩ := qct S 5 i
 unfold Sc.see Sc.wrongSee
 dsimp only
 split
 · exact ⟨by rw [a1], by rw [a2], a3, a4⟩
 · split
   · exact ⟨by rw [b1], by rw [b2], b3, b4⟩
   · exact ⟨rfl, rfl, rfl, rfl⟩
/-- how much more it may have after n nodes -/
def Gr (S R : Sc) (n : Nat) : Prop := (∃ x : List ByteArray, R.seen = S.seen ++ x ∧ x.length ≤ 2 * n) ∧ R.made.length ≤ S.made.length + 2 * n ∧ R.slots.length = S.slots.length ∧ R.free.length ≤ S.free.length + n
def Room (N : Nat) (S : Sc) (n : Nat) : Prop := N ≤ S.slots.length ∧ S.seen.length + 2 * n ≤ 2000 ∧ S.made.length + 2 * n ≤ 2000 ∧ S.free.length + n ≤ 2000
theorem Gr.refl (S : Sc) (n : Nat) : Gr S S n := ⟨⟨[], by simp, by simp⟩, by omega, rfl, by omega⟩
theorem Gr.trans {S R T : Sc} {n m k : Nat} (h : Gr S R n) (h' : Gr R T m) (hk : n + m = k) : Gr S T k := by
 obtain ⟨⟨x, a1, a2⟩, a3, a4, a5⟩ := h
 obtain ⟨⟨y, b1, b2⟩, b3, b4, b5⟩ := h'
 exact ⟨⟨x ++ y, by rw [b1, a1, List.append_assoc], by rw [List.length_append]; omega⟩, by omega, by omega, by omega⟩
theorem Gr.mono {S R : Sc} {n k : Nat} (h : Gr S R n) (hk : n ≤ k) : Gr S R k := by
 obtain ⟨⟨x, a1, a2⟩, a3, a4, a5⟩ := h
 exact ⟨⟨x, a1, by omega⟩, by omega, a4, by omega⟩
theorem Room.after {N : Nat} {S R : Sc} {n m k : Nat} (h : Room N S n) (g : Gr S R m) (hk : m + k ≤ n) : Room N R k := by
 obtain ⟨⟨x, a1, a2⟩, a3, a4, a5⟩ := g
 obtain ⟨b1, b2, b3, b4⟩ := h
 have : R.seen.length = S.seen.length + x.length := by rw [a1, List.length_append]
 exact ⟨by omega, by omega, by omega, by omega⟩
theorem Room.le {N : Nat} {S : Sc} {n k : Nat} (h : Room N S n) (hk : k ≤ n) : Room N S k := h.after (Gr.refl S 0) zae
theorem useO_room {N : Nat} {S : Sc} {s : ByteArray} {i : Nat} (h : Room N S 1) (hi : i < N) : ∃ R, S.useO s i = some R ∧ Gr S R 1 ∧ R.seen = S.seen := by
 obtain ⟨b1, b2, b3, b4⟩ := h
 obtain ⟨c1, c2, c3, c4⟩ := use_same S s i
 refine ⟨_, by unfold Sc.useO; rw [if_pos ⟨by omega, by omega, by omega⟩], ⟨⟨[], by rw [c1]; simp, by simp⟩, by rw [c2]; omega, c3, c4⟩, c1⟩
theorem qco (i : Int) : ∀ (l : List ByteArray) (S : Sc), S.seen.length + l.length ≤ 2000 → S.made.length + l.length ≤ 2000 → ∃ R, seesO i l S = some R ∧ R.seen = S.seen ++ l ∧ R.made.length = S.made.length + l.length ∧ R.slots = S.slots ∧ R.free = S.free
 | [], S, _, _ => ⟨S, rfl, by simp, by simp, rfl, rfl⟩
 | s :: l, S, h1, h2 => by
  rw [List.length_cons] at h1 h2
  obtain ⟨c1, c2, c3, c4⟩ := qcl S s i
  obtain ⟨R, d1, d2, d3, d4, d5⟩ := qco i l (S.see s i) (by rw [c1, List.length_append, List.length_singleton]; omega) (by rw [c2, List.length_append, List.length_singleton]; omega)
  refine ⟨R, ?_, by rw [d2, c1, List.append_assoc]; rfl, by rw [d3, c2, List.length_append, List.length_singleton, List.length_cons]; omega, by rw [d4, c3], by rw [d5, c4]⟩
  unfold seesO Sc.seeO
  rw [if_pos ⟨by omega, by omega⟩]
  exact d1
theorem qcG {ns : List Nd} {i : Int} {n : Nat} (t : Tr ns i n) (h : 0 ≤ i) : ∃ (j : Nat) (z : Nd) (na nb nc nx : Nat), i = (j : Int) ∧ ns[j]? = some z ∧ Tr ns z.a na ∧ Tr ns z.b nb ∧ Tr ns z.c nc ∧ Tr ns z.x nx ∧ n = 1 + (na + (nb + (nc + nx))) := by
 cases t with
 | neg h0 => omega
 | node hz ta tb tc tx => exact ⟨_, _, _, _, _, _, rfl, hz, ta, tb, tc, tx, rfl⟩
theorem qdx (ns : List Nd) : ∀ (f : Nat) (i : Int) (n : Nat) (S : Sc), Tr ns i n → n ≤ f → Room ns.length S n → ∃ R, exprS ns f i S = some R ∧ Gr S R n ∧ R.seen = S.seen := by
 intro f
 induction f with
 | zero =>
  intro i n S t hf hr
  by_cases hi : i < 0
  · exact ⟨S, exprS_neg _ _ _ _ hi, Gr.refl _ _, rfl⟩
  · obtain ⟨j, z, na, nb, nc, nx, rfl, hz, ta, tb, tc, tx, rfl⟩ := qcG t zae
    omega
 | succ f ih =>
  intro i n S t hf hr
  by_cases hi : i < 0
  · exact ⟨S, exprS_neg _ _ _ _ hi, Gr.refl _ _, rfl⟩
  · obtain ⟨j, z, na, nb, nc, nx, rfl, hz, ta, tb, tc, tx, rfl⟩ := qcG t zae
    obtain ⟨S1, h1, g1, e1⟩ := ih _ na S ta zae (hr.le zae)
    obtain ⟨S2, h2, g2, e2⟩ := ih _ nb S1 tb zae (hr.after g1 zae)
    unfold exprS
    rw [if_neg hi, Int.toNat_natCast, hz]
    dsimp only
    rw [h1]
    dsimp only [Option.bind]
    rw [h2]
    dsimp only
    split
    · obtain ⟨R, h3, g3, e3⟩ := useO_room (s := z.s) (hr.after (g1.trans g2 rfl) (k := 1) zae) (List.getElem?_eq_some_iff.1 hz).1
      exact ⟨R, h3, ((g1.trans g2 rfl).trans g3 rfl).mono zae, by rw [e3, e2, e1]⟩
    · exact ⟨S2, rfl, (g1.trans g2 rfl).mono zae, by rw [e2, e1]⟩
theorem qaX {N : Nat} {B : Int → Sc → Option Sc} {first i : Int} {names : List ByteArray} {S : Sc} {n c : Nat} (hB : ∀ S, Room N S n → ∃ R, B first S = some R ∧ Gr S R n) (hc : names.length ≤ 2 * c) (hr : Room N S (n + c)) : ∃ R, qba B first i names S = some R ∧ Gr S R (n + c) ∧ R.seen = S.seen := by
 obtain ⟨b1, b2, b3, b4⟩ := hr
 obtain ⟨S1, d1, d2, d3, d4, d5⟩ := qco i names S zae zae
 have g1 : Gr S S1 c := ⟨⟨names, d2, hc⟩, by omega, by rw [d4], by rw [d5]; omega⟩
 obtain ⟨S2, h2, g2⟩ := hB S1 (Room.after ⟨b1, b2, b3, b4⟩ g1 zae)
 obtain ⟨⟨x, e1, _⟩, e3, e4, e5⟩ := g1.trans g2 rfl
 have hl : S.seen.length ≤ S2.seen.length := by rw [e1, List.length_append]; omega
 refine ⟨{ S2 with seen := S2.seen.take S.seen.length }, ?_, ⟨⟨[], ?_, by simp⟩, by show S2.made.length ≤ _; omega, e4, by show S2.free.length ≤ _; omega⟩, ?_⟩
 · unfold qba
   rw [d1]
   dsimp only [Option.bind]
   rw [h2]
   dsimp only
   rw [if_pos hl]
 · dsimp only; rw [e1, List.take_left']; simp
   rfl
 · dsimp only; rw [e1, List.take_left']; rfl
theorem slot_room {N : Nat} {S : Sc} {i n : Nat} (h : Room N S n) (hi : i < N) : ∃ R, S.slot i = some R ∧ Gr S R 0 ∧ R.seen = S.seen := by
 refine ⟨{ S with slots := S.slots.set i S.seen.length }, by unfold Sc.slot; rw [if_pos (by have := h.1; omega)], ⟨⟨[], by simp, by simp⟩, by simp, by simp, by simp⟩, rfl⟩
theorem blkS_neg (ns : List Nd) (f : Nat) (i : Int) (S : Sc) (h : i < 0) : blkS ns f i S = some S := by
 cases f <;> (unfold blkS; rw [if_pos h])
theorem blkS_room (ns : List Nd) : ∀ (f : Nat) (i : Int) (n : Nat) (S : Sc), Tr ns i n → n ≤ f → Room ns.length S n → ∃ R, blkS ns f i S = some R ∧ Gr S R n := by
 intro f
 induction f with
 | zero =>
  intro i n S t hf hr
  by_cases hi : i < 0
  · exact ⟨S, blkS_neg _ _ _ _ hi, Gr.refl _ _⟩
  · obtain ⟨j, z, na, nb, nc, nx, rfl, hz, ta, tb, tc, tx, rfl⟩ := qcG t zae
    omega
 | succ f ih =>
  intro i n S t hf hr
  by_cases hi : i < 0
  · exact ⟨S, blkS_neg _ _ _ _ hi, Gr.refl _ _⟩
  · obtain ⟨j, z, na, nb, nc, nx, rfl, hz, ta, tb, tc, tx, rfl⟩ := qcG t zae
    have hj := (List.getElem?_eq_some_iff.1 hz).1
    obtain ⟨S1, h1, g1, e1⟩ := qdx ns f z.a na S ta zae (hr.le zae)
    have st : ∃ R, stmS (exprS ns f) (blkS ns f) j z S = some R ∧ Gr S R (1 + (na + (nb + nc))) := by
     unfold stmS
     rw [h1]
     dsimp only [Option.bind]
     have r1 : Room ns.length S1 (1 + (nb + nc)) := hr.after g1 zae
     split
     · obtain ⟨S2, h2, g2, e2⟩ := qdx ns f z.b nb S1 tb zae (r1.le zae)
       exact ⟨S2, h2, (g1.trans g2 rfl).mono zae⟩
     split
     · obtain ⟨S2, h2, g2, e2⟩ := slot_room r1 hj
       have r2 : Room ns.length S2 1 := r1.after g2 zae
       obtain ⟨R, d1, d2, d3, d4, d5⟩ := qco j [z.s] S2 (by have := r2.2.1; simp; omega) (by have := r2.2.2.1; simp; omega)
       refine ⟨R, ?_, ((g1.trans g2 rfl).trans (⟨⟨[z.s], d2, by simp⟩, by rw [d3]; simp, by rw [d4], by rw [d5]; omega⟩ : Gr S2 R 1) rfl).mono zae⟩
       rw [h2]
       dsimp only
       unfold seesO at d1
       obtain ⟨R', f1, f2⟩ := qac d1
       have : seesO (j : Int) [] R' = some R' := rfl
       rw [this] at f2
       rw [f1, f2]
     split
     · obtain ⟨S2, h2, g2, e2⟩ := useO_room (s := z.s) (r1.le (k := 1) zae) hj
       exact ⟨S2, h2, (g1.trans g2 rfl).mono zae⟩
     split
     · obtain ⟨S2, h2, g2, e2⟩ := qaX (B := blkS ns f) (first := z.b) (i := (j : Int)) (names := []) (n := nb) (c := 0) (fun S hS => ih _ nb S tb zae hS) zal (r1.le zae)
       obtain ⟨S3, h3, g3, e3⟩ := qaX (B := blkS ns f) (first := z.c) (i := (j : Int)) (names := []) (n := nc) (c := 0) (fun S hS => ih _ nc S tc zae hS) zal (r1.after g2 zae)
       rw [h2]
       exact ⟨S3, h3, ((g1.trans g2 rfl).trans g3 rfl).mono zae⟩
     split
     · obtain ⟨S2, h2, g2, e2⟩ := slot_room r1 hj
       obtain ⟨S3, h3, g3, e3⟩ := qaX (B := blkS ns f) (first := z.b) (i := (j : Int)) (names := [z.s, z.t]) (n := nb) (c := 1) (fun S hS => ih _ nb S tb zae hS) zal (r1.after g2 zae)
       rw [h2]
       exact ⟨S3, h3, ((g1.trans g2 rfl).trans g3 rfl).mono zae⟩
     split
     · obtain ⟨S2, h2, g2, e2⟩ := qaX (B := blkS ns f) (first := z.b) (i := (j : Int)) (names := []) (n := nb) (c := 0) (fun S hS => ih _ nb S tb zae hS) zal (r1.le zae)
       exact ⟨S2, h2, (g1.trans g2 rfl).mono zae⟩
     · exact ⟨S1, rfl, g1.mono zae⟩
    obtain ⟨R, h2, g2⟩ := st
    obtain ⟨R2, h3, g3⟩ := ih _ nx R tx zae (hr.after g2 zae)
    refine ⟨R2, ?_, (g2.trans g3 rfl).mono zae⟩
    unfold blkS
    rw [if_neg hi, Int.toNat_natCast, hz]
    dsimp only
    rw [h2]
    exact h3
/-! ### the steps -/
structure Stp where
 nd : Nat
 mkx : Bool
 nm : ByteArray
 sn : List ByteArray
def qcK (ns : List Nd) : Nat → Int → List ByteArray → List Stp
 | 0, _, _ => []
 | f + 1, i, sn => if i < 0 then [] else
  match ns[i.toNat]? with
  | none => []
  | some z => (qcK ns f z.a sn ++ qcK ns f z.b sn) ++ (if z.k = 4 then [⟨i.toNat, false, z.s, sn⟩] else [])
def stepsK (E B : Int → List ByteArray → List Stp) (i : Nat) (z : Nd) (sn : List ByteArray) : List Stp :=
 if z.k = 20 then [⟨i, true, z.s, sn⟩]
 else if z.k = 21 then [⟨i, false, z.s, sn⟩]
 else if z.k = 22 then E z.b sn
 else if z.k = 24 then B z.b sn ++ B z.c sn
 else if z.k = 25 then ([⟨i, true, z.s, sn⟩] ++ [⟨i, true, z.t, sn ++ [z.s]⟩]) ++ B z.b (sn ++ [z.s] ++ [z.t])
 else if z.k = 26 then B z.b sn
 else []
def qdD (ns : List Nd) : Nat → Int → List ByteArray → List Stp
 | 0, _, _ => []
 | f + 1, i, sn => if i < 0 then [] else
  match ns[i.toNat]? with
  | none => []
  | some z => (qcK ns f z.a sn ++ stepsK (qcK ns f) (qdD ns f) i.toNat z sn) ++ qdD ns f z.x (if z.k = 20 then sn ++ [z.s] else sn)
/-- a slot that is told -/
def Gd (S : Sc) (j : Nat) : Prop := j < S.slots.length ∧ 0 ≤ S.slots.getD j (-1) ∧ S.slots.getD j (-1) < S.most
def Good (S : Sc) (x : Stp) : Prop := Gd S x.nd ∧ (x.sn.length : Int) ≤ S.most ∧ x.sn.Nodup
def Inv (S : Sc) : Prop := S.seen.Nodup ∧ (S.seen.length : Int) ≤ S.most ∧ S.most ≤ 32
def Keep (S R : Sc) : Prop := S.most ≤ R.most ∧ R.slots.length = S.slots.length ∧ (∀ j, Gd S j → Gd R j) ∧ R.free = S.free
def Law (S R : Sc) (l : List Stp) : Prop := R.e = 0 → S.e = 0 ∧ (Inv S → Inv R ∧ Keep S R ∧ ∀ x ∈ l, Good R x)
theorem Keep.refl (S : Sc) : Keep S S := ⟨Int.le_refl _, rfl, fun _ h => h, rfl⟩
theorem Keep.trans {S R T : Sc} (h : Keep S R) (h' : Keep R T) : Keep S T := ⟨Int.le_trans h.1 h'.1, h'.2.1.trans h.2.1, fun j hj => h'.2.2.1 j (h.2.2.1 j hj), h'.2.2.2.trans h.2.2.2⟩
theorem Keep.good {S R : Sc} (h : Keep S R) {x : Stp} (g : Good S x) : Good R x := ⟨h.2.2.1 _ g.1, Int.le_trans g.2.1 h.1, g.2.2⟩
theorem Law.refl (S : Sc) : Law S S [] := fun e => ⟨e, fun i => ⟨i, Keep.refl S, fun x hx => by cases hx⟩⟩
theorem Law.trans {S R T : Sc} {l m : List Stp} (h : Law S R l) (h' : Law R T m) : Law S T (l ++ m) := fun e => by
 obtain ⟨e1, k1⟩ := h' e
 obtain ⟨e0, k0⟩ := h e1
 refine ⟨e0, fun i => ?_⟩
 obtain ⟨i1, q1, g1⟩ := k0 i
 obtain ⟨i2, q2, g2⟩ := k1 i1
 refine ⟨i2, q1.trans q2, fun x hx => ?_⟩
 rcases List.mem_append.1 hx with h | h
 · exact q2.good (g1 x h)
 · exact g2 x h
theorem lastOf_lt (s : ByteArray) (l : List ByteArray) : ∀ j, qaN s l j < (j : Int)
 | 0 => by simp [qaN]
 | j + 1 => by
  unfold qaN
  have := lastOf_lt s l j
  split <;> omega
theorem qbA (l : List Int) (i j : Nat) (v : Int) (hi : i < l.length) : (l.set i v).getD j (-1) = if i = j then v else l.getD j (-1) := by
 rw [List.getD_eq_getElem?_getD, List.getElem?_set, List.getD_eq_getElem?_getD]
 by_cases e : i = j
 · subst e; rw [if_pos rfl, if_pos rfl, if_pos hi]; rfl
 · rw [if_neg e, if_neg e]
theorem use_law {S R : Sc} {s : ByteArray} {i : Nat} (h : S.useO s i = some R) : Law S R [⟨i, false, s, S.seen⟩] ∧ R.seen = S.seen := by
 obtain ⟨a1, a2, a3, rfl⟩ := useO_some h
 refine ⟨fun e => ?_, (use_same S s i).1⟩
 by_cases hk : qaN s S.seen S.seen.length < 0
 · have : (S.use s i).e = (S.wrong 15 i).e := by
     unfold Sc.use; dsimp only; rw [if_pos hk]; split <;> rfl
   rw [this] at e
   exact absurd e (wrong_e zaj)
 · have hR : S.use s i = { S with slots := S.slots.set i (qaN s S.seen S.seen.length) } := by unfold Sc.use; dsimp only; rw [if_neg hk]
   have hlt := lastOf_lt s S.seen S.seen.length
   rw [hR] at e ⊢
   refine ⟨e, fun hi => ?_⟩
   obtain ⟨i1, i2, i3⟩ := hi
   refine ⟨⟨i1, i2, i3⟩, ⟨Int.le_refl _, by simp, fun j hj => ?_, rfl⟩, fun x hx => ?_⟩
   · obtain ⟨g1, g2, g3⟩ := hj
     refine ⟨by simpa using g1, ?_, ?_⟩ <;> (dsimp only; rw [qbA _ _ _ _ a1]; split <;> omega)
   · rcases List.mem_singleton.1 hx with rfl
     refine ⟨⟨by simpa using a1, ?_, ?_⟩, i2, i1⟩ <;> (dsimp only; rw [qbA _ _ _ _ a1, if_pos rfl]; omega)
theorem see_law {S R : Sc} {s : ByteArray} {i : Int} (h : S.seeO s i = some R) (he : R.e = 0) : S.e = 0 ∧ (Inv S → Inv R ∧ S.most ≤ R.most ∧ ((S.seen.length : Int) + 1) ≤ R.most) ∧ R.slots = S.slots ∧ R.free = S.free ∧ R.seen = S.seen ++ [s] := by
  obtain ⟨a1, a2, rfl⟩ := qbv h
  obtain ⟨c1, c2, c3, c4⟩ := qcl S s i
  refine ⟨?_, ?_, c3, c4, c1⟩
  all_goals
    cases hQ : Lib.containsS S.seen s
    · by_cases h32 : 32 ≤ S.seen.length
      · have : (S.see s i).e = (S.wrong 5 i).e := by unfold Sc.see Sc.wrongSee; rw [hQ, if_neg zal, if_pos h32]
        rw [this] at he
        exact absurd he (wrong_e zaj)
      · have hR : S.see s i = { S with made := S.made ++ [s], seen := S.seen ++ [s], most := max S.most ((S.seen.length : Int) + 1) } := by unfold Sc.see Sc.wrongSee; rw [hQ, if_neg zal, if_neg h32]
        rw [hR] at he
        first
          | exact he
          | (intro hi
             obtain ⟨i1, i2, i3⟩ := hi
             rw [hR]
             have hm : s ∉ S.seen := fun hm => by have := (Lib.containsS_iff S.seen s).2 hm; rw [hQ] at this; cases this
             refine ⟨⟨List.nodup_append.2 ⟨i1, by simp, fun a ha b hb => by simp at hb; subst hb; intro e; subst e; exact hm ha⟩, ?_, ?_⟩, ?_, ?_⟩
             · dsimp only; rw [List.length_append, List.length_singleton]; omega
             · dsimp only; omega
             · dsimp only; omega
             · dsimp only; omega)
    · have : (S.see s i).e = (S.wrong 16 i).e := by unfold Sc.see Sc.wrongSee; rw [hQ, if_pos rfl]
      rw [this] at he
      exact absurd he (wrong_e zaj)
theorem exprS_law (ns : List Nd) : ∀ (f : Nat) (i : Int) (S R : Sc), exprS ns f i S = some R → Law S R (qcK ns f i S.seen) ∧ R.seen = S.seen := by
 intro f
 induction f with
 | zero =>
  intro i S R h
  by_cases hi : i < 0
  · rw [exprS_neg _ _ _ _ hi] at h; cases h
    exact ⟨Law.refl S, rfl⟩
  · obtain ⟨g, _, _, _, _, e, _⟩ := qcd zae h
    cases e
 | succ f ih =>
  intro i S R h
  by_cases hi : i < 0
  · rw [exprS_neg _ _ _ _ hi] at h; cases h
    unfold qcK
    rw [if_pos hi]
    exact ⟨Law.refl S, rfl⟩
  · obtain ⟨g, j, z, S1, S2, e, rfl, hz, h1, h2, h3⟩ := qcd zae h
    obtain rfl : f = g := by omega
    obtain ⟨l1, e1⟩ := ih _ _ _ h1
    obtain ⟨l2, e2⟩ := ih _ _ _ h2
    unfold qcK
    rw [if_neg hi, Int.toNat_natCast, hz]
    dsimp only
    rw [e1] at l2
    split at h3
    · rename_i hk
      obtain ⟨l3, e3⟩ := use_law h3
      rw [if_pos hk]
      rw [e2, e1] at l3
      exact ⟨(l1.trans l2).trans l3, by rw [e3, e2, e1]⟩
    · rename_i hk
      cases h3
      rw [if_neg hk, List.append_nil]
      exact ⟨l1.trans l2, by rw [e2, e1]⟩
theorem take_law {S S2 : Sc} {x : List ByteArray} {l : List Stp} (h : Law S S2 l) (hx : S2.seen = S.seen ++ x) (hl : S.seen.length ≤ S2.seen.length) : Law S { S2 with seen := S2.seen.take S.seen.length } l := fun e => by
 obtain ⟨e0, k⟩ := h e
 refine ⟨e0, fun i => ?_⟩
 obtain ⟨i1, q1, g1⟩ := k i
 have et : S2.seen.take S.seen.length = S.seen := by rw [hx, List.take_left']; rfl
 rw [et]
 exact ⟨⟨i.1, by have := i.2.1; have := q1.1; dsimp only; omega, i1.2.2⟩, q1, g1⟩
theorem qbl {B : Int → Sc → Option Sc} {SB : Int → List ByteArray → List Stp} (hB : ∀ i S R, B i S = some R → Law S R (SB i S.seen) ∧ ∃ x, R.seen = S.seen ++ x) {first i : Int} {S R : Sc} (h : qba B first i [] S = some R) : Law S R (SB first S.seen) ∧ R.seen = S.seen := by
 unfold qba at h
 obtain ⟨S1, h1, h⟩ := qac h
 cases h1
 obtain ⟨S2, h2, h⟩ := qac h
 obtain ⟨l2, x, hx⟩ := hB _ _ _ h2
 split at h
 · rename_i hl
   cases h
   exact ⟨take_law l2 hx hl, by dsimp only; rw [hx, List.take_left']; rfl⟩
 · cases h
theorem stmS_law {E B : Int → Sc → Option Sc} {SE SB : Int → List ByteArray → List Stp} (hE : ∀ i S R, E i S = some R → Law S R (SE i S.seen) ∧ R.seen = S.seen) (hB : ∀ i S R, B i S = some R → Law S R (SB i S.seen) ∧ ∃ x, R.seen = S.seen ++ x)
  {i : Nat} {z : Nd} {S R : Sc} (h : stmS E B i z S = some R) : Law S R (SE z.a S.seen ++ stepsK SE SB i z S.seen) ∧ R.seen = if z.k = 20 then S.seen ++ [z.s] else S.seen := by
 unfold stmS at h
 obtain ⟨S1, h1, h⟩ := qac h
 obtain ⟨l1, e1⟩ := hE _ _ _ h1
 suffices q : Law S1 R (stepsK SE SB i z S1.seen) ∧ R.seen = if z.k = 20 then S1.seen ++ [z.s] else S1.seen by
  rw [e1] at q
  exact ⟨l1.trans q.1, q.2⟩
 clear h1 l1 e1
 unfold stepsK
 split at h
 · rename_i hk
   rw [if_neg zae, if_neg zae, if_pos hk, if_neg zae]
   exact hE _ _ _ h
 split at h
 · rename_i hk
   rw [if_pos hk, if_pos hk]
   obtain ⟨S2, h2, h⟩ := qac h
   obtain ⟨b1, rfl⟩ := qcI h2
   obtain ⟨_, _, hq⟩ := qbv h
   have hs := (qcl { S1 with slots := S1.slots.set i S1.seen.length } z.s i).1
   refine ⟨fun e => ?_, by rw [hq]; exact hs⟩
   obtain ⟨c1, c2, c3, c4, c5⟩ := see_law h e
   refine ⟨c1, fun hi => ?_⟩
   obtain ⟨d1, d2, d3⟩ := c2 hi
   dsimp only at d2 d3 c3 c4
   refine ⟨d1, ⟨d2, by rw [c3]; simp, fun j hj => ?_, c4⟩, fun x hx => ?_⟩
   · obtain ⟨g1, g2, g3⟩ := hj
     refine ⟨by rw [c3]; simpa using g1, ?_, ?_⟩ <;> (rw [c3, qbA _ _ _ _ b1]; split <;> omega)
   · rcases List.mem_singleton.1 hx with rfl
     refine ⟨⟨by rw [c3]; simpa using b1, ?_, ?_⟩, by have := hi.2.1; dsimp only at this ⊢; omega, hi.1⟩ <;> (rw [c3, qbA _ _ _ _ b1, if_pos rfl]; omega)
 split at h
 · rename_i hk0 hk
   rw [if_neg hk0, if_pos hk, if_neg hk0]
   exact use_law h
 split at h
 · rename_i hk0 hk1 hk
   rw [if_neg zae, if_neg zae, if_neg zae, if_pos hk, if_neg zae]
   obtain ⟨S2, h2, h⟩ := qac h
   obtain ⟨l2, e2⟩ := qbl hB h2
   obtain ⟨l3, e3⟩ := qbl hB h
   rw [e2] at l3
   exact ⟨l2.trans l3, by rw [e3, e2]⟩
 split at h
 · rename_i hk0 hk1 hk2 hk
   rw [if_neg zae, if_neg zae, if_neg zae, if_neg zae, if_pos hk, if_neg zae]
   obtain ⟨S2, h2, h⟩ := qac h
   obtain ⟨b1, rfl⟩ := qcI h2
   unfold qba at h
   obtain ⟨S3, h3, h⟩ := qac h
   obtain ⟨S4, h4, hfin⟩ := qac h
   obtain ⟨l4, x, hx⟩ := hB _ _ _ h4
   unfold seesO at h3
   obtain ⟨S5, h5, h3⟩ := qac h3
   unfold seesO at h3
   obtain ⟨S6, h6, h3⟩ := qac h3
   have e63 : S6 = S3 := Option.some.inj h3
   subst e63
   obtain ⟨_, _, hq5⟩ := qbv h5
   obtain ⟨_, _, hq6⟩ := qbv h6
   have s5 : S5.seen = S1.seen ++ [z.s] := by rw [hq5]; exact (qcl _ z.s i).1
   have s6 : S6.seen = S1.seen ++ [z.s] ++ [z.t] := by rw [hq6, (qcl S5 z.t i).1, s5]
   have l6 : Law S1 S6 ([⟨i, true, z.s, S1.seen⟩] ++ [⟨i, true, z.t, S1.seen ++ [z.s]⟩]) := fun e => by
    obtain ⟨c1, c2, c3, c4, c5⟩ := see_law h6 e
    obtain ⟨d1, d2, d3, d4, d5⟩ := see_law h5 c1
    refine ⟨d1, fun hi => ?_⟩
    obtain ⟨p1, p2, p3⟩ := d2 hi
    obtain ⟨q1, q2, q3⟩ := c2 p1
    rw [d3] at c3
    rw [d4] at c4
    rw [s5, List.length_append, List.length_singleton] at q3
    dsimp only at p2 p3 c3 c4 q2
    refine ⟨q1, ⟨by omega, by rw [c3]; simp, fun j hj => ?_, c4⟩, fun x hx => ?_⟩
    · obtain ⟨g1, g2, g3⟩ := hj
      refine ⟨by rw [c3]; simpa using g1, ?_, ?_⟩ <;> (rw [c3, qbA _ _ _ _ b1]; split <;> omega)
    · have gi : Gd S6 i := by refine ⟨by rw [c3]; simpa using b1, ?_, ?_⟩ <;> (rw [c3, qbA _ _ _ _ b1, if_pos rfl]; omega)
      simp only [List.cons_append, List.nil_append, List.mem_cons, List.not_mem_nil, or_false] at hx
      rcases hx with rfl | rfl
      · exact ⟨gi, by dsimp only; omega, hi.1⟩
      · refine ⟨gi, by dsimp only; rw [List.length_append, List.length_singleton]; omega, ?_⟩
        have := p1.1
        rw [s5] at this
        exact this
   split at hfin
   · rename_i hl
     cases hfin
     have lt : Law S1 S4 (([⟨i, true, z.s, S1.seen⟩] ++ [⟨i, true, z.t, S1.seen ++ [z.s]⟩]) ++ SB z.b (S1.seen ++ [z.s] ++ [z.t])) := by
      rw [s6] at l4
      exact l6.trans l4
     have hx2 : S4.seen = S1.seen ++ ([z.s] ++ [z.t] ++ x) := by rw [hx, s6]; simp
     exact ⟨take_law lt hx2 hl, by dsimp only; rw [hx2, List.take_left']; rfl⟩
   · cases hfin
 split at h
 · rename_i hk0 hk1 hk2 hk3 hk
   rw [if_neg zae, if_neg zae, if_neg zae, if_neg zae, if_neg zae, if_pos hk, if_neg zae]
   exact qbl hB h
 · rename_i hk0 hk1 hk2 hk3 hk4 hk5
   cases h
   rw [if_neg zae, if_neg zae, if_neg zae, if_neg zae, if_neg zae, if_neg zae, if_neg zae]
   exact ⟨Law.refl _, rfl⟩
theorem blkS_law (ns : List Nd) : ∀ (f : Nat) (i : Int) (S R : Sc), blkS ns f i S = some R → Law S R (qdD ns f i S.seen) ∧ ∃ x, R.seen = S.seen ++ x := by
 intro f
 induction f with
 | zero =>
  intro i S R h
  unfold blkS at h
  split at h
  · cases h; exact ⟨Law.refl S, [], by simp⟩
  · cases h
 | succ f ih =>
  intro i S R h
  by_cases hi : i < 0
  · rw [blkS_neg _ _ _ _ hi] at h; cases h
    unfold qdD
    rw [if_pos hi]
    exact ⟨Law.refl S, [], by simp⟩
  · unfold blkS at h
    rw [if_neg hi] at h
    unfold qdD
    rw [if_neg hi]
    split at h
    · cases h
    · rename_i z hz
      rw [hz]
      dsimp only
      obtain ⟨S1, h1, h⟩ := qac h
      obtain ⟨l1, e1⟩ := stmS_law (fun i S R h => exprS_law ns f i S R h) (fun i S R h => ih i S R h) h1
      obtain ⟨l2, x, e2⟩ := ih _ _ _ h
      rw [e1] at l2
      refine ⟨l1.trans l2, ?_⟩
      rw [e2, e1]
      split
      · exact ⟨[z.s] ++ x, by simp⟩
      · exact ⟨x, rfl⟩
def Sc.start (n : Nat) : Sc := ⟨[], 0, List.replicate n (-1), [], [], 0, 0⟩
/-- what the walker comes to -/
theorem walk_law {ns : List Nd} {fi : Int} (h : mayB ns fi = true) : ∃ R, qba (blkS ns ns.length) fi (-1) [] (Sc.start ns.length) = some R ∧ R.slots.length = ns.length ∧ R.slots.length ≤ 512 ∧
  (R.e = 0 → R.free = [] ∧ 0 ≤ R.most ∧ R.most ≤ 32 ∧ ∀ x ∈ qdD ns ns.length fi [], Good R x) := by
 obtain ⟨n, hn, t⟩ := may_tree h
 have h5 := (qbF h).1
 have hr : Room ns.length (Sc.start ns.length) (n + 0) := by
  refine ⟨by simp [Sc.start], by simp [Sc.start]; omega, by simp [Sc.start]; omega, by simp [Sc.start]; omega⟩
 obtain ⟨R, h1, h2, h3⟩ := qaX (B := blkS ns ns.length) (first := fi) (i := -1) (names := []) (n := n) (c := 0) (fun S hS => blkS_room ns ns.length fi n S t hn hS) zal hr
 have hs : R.slots.length = ns.length := by rw [h2.2.2.1]; simp [Sc.start]
 refine ⟨R, h1, hs, by omega, fun e => ?_⟩
 obtain ⟨l, _⟩ := qbl (fun i S R h => blkS_law ns ns.length i S R h) h1
 obtain ⟨_, k⟩ := l e
 obtain ⟨i1, q1, g1⟩ := k ⟨by simp [Sc.start], by simp [Sc.start], by simp [Sc.start]⟩
 exact ⟨q1.2.2.2, by have := i1.2.1; omega, i1.2.2, g1⟩
end Go.Proofs.YtpnabjopfpdkhaaGreatDoor

namespace Go.Proofs.YtpnabjopfpdkhaaGreatDoor
open Go.RowKit
attribute [go_sem] more_more Array.size_append
theorem src_row {P : Program} {w : World} {base : Nat} {tx e : TypeId} {size n : Nat} {v : Value} {xs : List Value} (hk : P.underlying tx = some (.slice e)) (h : w.ownsRow base e size v n xs) (h1 : ∀ u ∈ xs, u.oneCell' = true) : Src P size tx v n xs w := by
 rcases Go.Joins.ownsRow_forms h with ⟨rfl, rfl⟩ | ⟨g, c, rfl⟩
 · have : xs = [] := List.length_eq_zero_iff.1 (by have := h.1; omega)
   subst this
   exact Src.ofNil w hk 0
 · exact Src.ofSlice w hk ⟨g, 0, none⟩ n c xs h.1 (h.cells (g := g) rfl) h1
end Go.Proofs.YtpnabjopfpdkhaaGreatDoor

namespace Go.Proofs.YtpnabjopfpdkhaaGreatDoor
open Go.RowKit
attribute [go_sem] more_more Array.size_append
end Go.Proofs.YtpnabjopfpdkhaaGreatDoor

namespace Go.Proofs.YtpnabjopfpdkhaaGreatDoor
open Go.RowKit
attribute [go_sem] more_more Array.size_append
end Go.Proofs.YtpnabjopfpdkhaaGreatDoor

namespace Go.Proofs.YtpnabjopfpdkhaaGreatDoor
open Go.RowKit
attribute [go_sem] more_more Array.size_append
end Go.Proofs.YtpnabjopfpdkhaaGreatDoor

set_option maxHeartbeats 4000000
set_option maxRecDepth 20000
namespace Go.Proofs.YtpnabjopfpdkhaaGreatDoor
open Go.RowKit
attribute [go_sem] more_more Array.size_append
end Go.Proofs.YtpnabjopfpdkhaaGreatDoor

set_option maxHeartbeats 4000000
set_option maxRecDepth 20000
namespace Go.Proofs.YtpnabjopfpdkhaaGreatDoor
open Go.RowKit
attribute [go_sem] more_more Array.size_append
end Go.Proofs.YtpnabjopfpdkhaaGreatDoor

set_option maxHeartbeats 4000000
set_option maxRecDepth 20000
namespace Go.Proofs.YtpnabjopfpdkhaaGreatDoor
open Go.RowKit
attribute [go_sem] more_more Array.size_append
end Go.Proofs.YtpnabjopfpdkhaaGreatDoor

set_option maxHeartbeats 4000000
set_option maxRecDepth 20000
namespace Go.Proofs.YtpnabjopfpdkhaaGreatDoor
open Go.RowKit
attribute [go_sem] more_more Array.size_append
end Go.Proofs.YtpnabjopfpdkhaaGreatDoor

set_option maxHeartbeats 4000000
set_option maxRecDepth 20000
namespace Go.Proofs.YtpnabjopfpdkhaaGreatDoor
open Go.RowKit
attribute [go_sem] more_more Array.size_append
end Go.Proofs.YtpnabjopfpdkhaaGreatDoor

set_option maxHeartbeats 4000000
set_option maxRecDepth 20000
namespace Go.Proofs.YtpnabjopfpdkhaaGreatDoor
open Go.RowKit
attribute [go_sem] more_more Array.size_append
end Go.Proofs.YtpnabjopfpdkhaaGreatDoor

set_option maxHeartbeats 4000000
set_option maxRecDepth 20000
namespace Go.Proofs.YtpnabjopfpdkhaaGreatDoor
open Go.RowKit
attribute [go_sem] more_more Array.size_append
end Go.Proofs.YtpnabjopfpdkhaaGreatDoor

namespace Go.Proofs.YtpnabjopfpdkhaaGreatDoor
open Go.RowKit
attribute [go_sem] more_more Array.size_append
end Go.Proofs.YtpnabjopfpdkhaaGreatDoor

namespace Go.Proofs.YtpnabjopfpdkhaaGreatDoor
open Go.RowKit
attribute [go_sem] more_more Array.size_append
end Go.Proofs.YtpnabjopfpdkhaaGreatDoor
