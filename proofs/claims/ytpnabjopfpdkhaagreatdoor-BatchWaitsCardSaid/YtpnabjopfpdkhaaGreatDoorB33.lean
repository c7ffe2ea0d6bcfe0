/- Lemmas for the claim (texts TnL, what its proof uses of them). -/
import Derived.Test.YtpnabjopfpdkhaaGreatDoorB32
import Derived.Deep.DeepCutAuto
import Derived.StillTailTactics
import Derived.Deep.CutBlock
set_option linter.unusedSimpArgs false
set_option linter.unusedVariables false
set_option maxHeartbeats 4000000
set_option maxRecDepth 20000
namespace Go.Proofs.YtpnabjopfpdkhaaGreatDoor
open Go.RowKit
attribute [go_sem] more_more Array.size_append
set_option maxHeartbeats 1000000
theorem tx_row (y : Tx) {w : World} (h : TxAt w y) : ∃ c u p1 m1 k1 p2 m2 k2 s g, txV y = .agg (txA c u (.slice p1 m1 k1) (.slice p2 m2 k2) s g) ∧ txL y = [.int .i64 c, .int .i64 u, .slice p1 m1 k1, .slice p2 m2 k2, .string s, .int .i64 g] ∧ y.c = c ∧ y.t = u := by
 obtain ⟨p1, m1, k1, p2, m2, k2, e1, e2⟩ := qbg h
 exact ⟨_, _, p1, m1, k1, p2, m2, k2, _, _, by unfold txV txA; rw [e1, e2], by unfold txL; rw [e1, e2], rfl, rfl⟩
def fnd (i k : Nat) : Int := if i < k then 1 else 0
def anyF (y : Tx) (x : List Tx) (j : Nat) : Bool := (x.take j).any fun z => sameX y z
theorem anyF_step {y z : Tx} {x : List Tx} {j : Nat} (h : x[j]? = some z) : anyF y x (j + 1) = (anyF y x j || sameX y z) := by
 unfold anyF
 rw [List.take_add_one, h, Option.toList_some, List.any_append]
 simp
theorem rnote_ok (v : Value) (l : List La) (c t : Int) (w : World) (h : LaAt w v l) (hl : l.length ≤ 100000) (ha : askE l c t = 6) : Calls Tryz.prog 17 #[v, .int .i64 c, .int .i64 t, .agg #[.int .i64 0, .int .i64 0, .int .i64 0, .string ⟨#[]⟩, .int .i64 0]] w fun e w' =>
  ∃ v', e = .returned (.tuple #[v', .int .i64 0]) ∧ LaAt w' v' (noteL l ⟨c, t, 0, 0, 0, ⟨#[]⟩, 0⟩) ∧ Ext w w' :=
 (rnote_any v l c t w h hl).mono fun e w' hp => by
  unfold qei at hp
  rw [ha, if_neg zaj, if_neg zal] at hp
  obtain ⟨v', h1, h2, h3⟩ := hp
  refine ⟨v', h1, ⟨RowIn.own laL_len h2, fun x hx => ?_⟩, h3⟩
  simp only [noteL, List.mem_append, List.mem_filter, List.mem_singleton] at hx
  rcases hx with (⟨hx, -⟩ | rfl) | ⟨hx, -⟩
  · exact h.2 x hx
  · exact (by unfold In64I; omega : In64I 0)
  · exact h.2 x hx
theorem noteL_len {l : List La} {x : La} (h : l.length ≤ 260) : (noteL l x).length ≤ 1000 := by
 unfold noteL
 have h1 := List.length_filter_le (fun y : La => decide (y.c < x.c)) l
 have h2 := List.length_filter_le (fun y : La => decide (x.c < y.c)) l
 rw [List.length_append, List.length_append]
 simp only [List.length_singleton]
 omega
theorem waits_walk (qv : Value) (q : List Tx) (t : Tx) (dv : Value) (d : List La) (B : Nat) (w : World) (hS : SignsAt B w) (hB : B ≤ w.heap.size) (hq : TxIn w qv q) (hql : q.length ≤ 140737488351232) (ht : TxAt w t) (hd : LaAt w dv d) (hdl : d.length ≤ 140737488351232) (hdz : ∀ x ∈ d, x.vs.size ≤ 140737488351232) :
  Calls Tryz.prog 4 #[qv, txV t, dv] w fun e w' => e = .returned (.bool true) ∧ Ext w w' := by
 obtain ⟨b1, hb1⟩ : ∃ b, w.heap.size + 1 = b := ⟨_, rfl⟩
 have FQ := Lib.hid (fun W (hx : Ext w W) (hb : w.heap.size + 1 ≤ W.heap.size) => pq_any qv q b1 W (hq.ext hx) hql (hb1 ▸ hb))
 have FT := Lib.hid (fun W (hx : Ext w W) (hb : w.heap.size + 1 ≤ W.heap.size) => pt_any t b1 W (ht.ext hx) (hb1 ▸ hb))
 have FD := Lib.hid (fun W (hx : Ext w W) (hb : w.heap.size + 1 ≤ W.heap.size) => pd_any dv d b1 W (hd.ext hx) hdl hdz (hb1 ▸ hb))
 have SG := Lib.hid (fun W (hx : Ext w W) => (⟨hS.ext hx hB, Nat.le_trans hB hx.size⟩ : SignsAt B W ∧ B ≤ W.heap.size))
 have AW := Lib.hid (fun W (hx : Ext w W) => awake27_any B W (SG.out W hx).1 (SG.out W hx).2)
 obtain ⟨rq, hrq⟩ : ∃ r, PQ b1 = r := ⟨_, rfl⟩
 obtain ⟨rt, hrt⟩ : ∃ r, PT b1 t = r := ⟨_, rfl⟩
 obtain ⟨rd, hrd⟩ : ∃ r, PD b1 = r := ⟨_, rfl⟩
 have UQ := Lib.hid (show Upc rq from hrq ▸ PQ.upc _)
 have UT := Lib.hid (show Upc rt from hrt ▸ PT.upc _ _)
 have UD := Lib.hid (show Upc rd from hrd ▸ PD.upc _)
 have HF := Lib.hid (And.intro hrq (And.intro hrt (And.intro hrd hb1)))
 rw [hrq] at FQ
 rw [hrt] at FT
 rw [hrd] at FD
 obtain ⟨tc, tt, p1, m1, k1, p2, m2, k2, ts, tg, -, -, hV⟩ := tx_cells t ht
 rw [hV] at FT ⊢
 obtain ⟨vp, vc, hv⟩ : ∃ p c, qv = .slice p q.length c := ⟨_, _, hq.2.choose_spec.choose_spec.1⟩
 obtain ⟨dp, dc, hdv⟩ : ∃ p c, dv = .slice p d.length c := ⟨_, _, hd.1.choose_spec.choose_spec.1⟩
 obtain ⟨n0, hn0⟩ : ∃ n, q.length = n := ⟨_, rfl⟩
 obtain ⟨n1, hn1⟩ : ∃ n, d.length = n := ⟨_, rfl⟩
 rw [hn0] at hv
 rw [hn1] at hdv
 subst hv hdv
 clear hV hn0 hn1 hq hd ht hS hB hql hdl hdz hrq hrt hrd hb1
 unfold txA at FT ⊢
 go_enter Tryz.func4, Tryz.ntmps4
 go_upto_region 1 with fail
 refine qaa 6 135 [false, false, false, false, false, false] zad zad rfl ?_
 simp only [List.take_succ_cons, List.take_zero, List.drop_succ_cons, List.drop_zero]
 (refine Lex.step rfl ?_; intro K hK; unfold StepG; go_simp; refine hK _ ?_; clear hK K)
 refine Lex.gap 20 rq rfl UQ.out rfl (fun d os => ?_) ?_
 · unfold StepG
   go_simp
   exact FQ.out _ zaa zbb
 (refine Lex.step rfl ?_; intro K hK; unfold StepG; go_simp; refine hK _ ?_; clear hK K)
 refine Lex.gap 22 rt rfl UT.out rfl (fun d os => ?_) ?_
 · unfold StepG
   go_simp
   exact FT.out _ zaa zbb
 (refine Lex.step rfl ?_; intro K hK; unfold StepG; go_simp; refine hK _ ?_; clear hK K)
 refine Lex.gap 24 rd rfl UD.out rfl (fun d os => ?_) ?_
 · unfold StepG
   go_simp
   exact FD.out _ zaa zbb
 refine Lex.nil fun WW hE => ?_
 intro vd hvd vt hvt vq hvq
 obtain ⟨e1, e2, e3, e4⟩ := HF.out
 subst e1 e2 e3
 obtain ⟨dd, oo, rfl⟩ := hE
 obtain ⟨tc', tt', q1, n1, l1, q2, n2, l2, ts', tg', rfl⟩ := PT.form hvt
 have HVQ := Lib.hid hvq
 have HVD := Lib.hid hvd
 have HVT := Lib.hid hvt
 have TB1 := Lib.hid (TB.kb ((KB.new w #[.int .i64 tc, .int .i64 tt, .slice p1 m1 k1, .slice p2 m2 k2, .string ts, .int .i64 tg] 27).of_ext (Ext.more (Ext.refl _) dd oo)))
 clear hvd hvq hvt
 unfold FillH
 go_upto_region 2 with (refine wpList_store_rowTo rfl 27 _ _ rfl rfl w.heap.size (txA tc' tt' (.slice q1 n1 l1) (.slice q2 n2 l2) ts' tg') rfl rfl 27 #[.int .i64 tc, .int .i64 tt, .slice p1 m1 k1, .slice p2 m2 k2, .string ts, .int .i64 tg] TB1.out zad rfl (txA_one tc' tt' _ _ ts' tg' rfl rfl) ?_)
 generalize hW2 : World.setRow _ _ _ = W2
 have HO : ∀ k, b1 ≤ k → W2.heap[k]? = (more (w.alloc (.cells #[.int .i64 tc, .int .i64 tt, .slice p1 m1 k1, .slice p2 m2 k2, .string ts, .int .i64 tg] 27)) dd oo).heap[k]? := fun k hk => by rw [← hW2]; exact setRow_other _ _ _ _ zae
 have X2 : Ext w W2 := by rw [← hW2]; exact Ext.setRow zaa (Nat.le_refl _) _
 have T2 : TB W2 w.heap.size (txA tc' tt' (.slice q1 n1 l1) (.slice q2 n2 l2) ts' tg') := by rw [← hW2]; exact TB.set TB1.out
 obtain ⟨t', et, hTA, hTS⟩ := (HVT.out.move HO).inn
 obtain ⟨q', qp, qc, rfl, hQI, hQL, hQS⟩ := (HVQ.out.move HO).inn
 obtain ⟨d', dp', dc', rfl, hDI, hDL⟩ := (HVD.out.move HO).inn
 have ec : t'.c = tc' ∧ t'.t = tt' := by unfold txA txV at et; simp at et; exact ⟨et.1.symm, et.2.1.symm⟩
 clear hW2 HO TB1 HVT HVQ HVD
 have b0 : W2.cell? ⟨w.heap.size, 0, none⟩ = some (.int .i64 tc') := T2.cell 0
 have b1 : W2.cell? ⟨w.heap.size, 1, none⟩ = some (.int .i64 tt') := T2.cell 1
 have b2 : W2.cell? ⟨w.heap.size, 2, none⟩ = some (.slice q1 n1 l1) := T2.cell 2
 have b3 : W2.cell? ⟨w.heap.size, 3, none⟩ = some (.slice q2 n2 l2) := T2.cell 3
 have b4 : W2.cell? ⟨w.heap.size, 4, none⟩ = some (.string ts') := T2.cell 4
 have b5 : W2.cell? ⟨w.heap.size, 5, none⟩ = some (.int .i64 tg') := T2.cell 5
 have hw2 := World.block_lt_of_cell? _ _ b0
 have AD := Lib.hid (fun W (hx : Ext W2 W) => qcF (.slice qp q'.length qc) q' t' (.slice dp' d'.length dc') d' B W (SG.out W (X2.trans hx)).1 (SG.out W (X2.trans hx)).2 (hQI.ext hx) zae (hTA.ext hx) (hDI.ext hx) zae)
 have XH2 := Lib.hid X2
 obtain ⟨r, hr⟩ : ∃ r, addQ q' t' d' = r := ⟨_, rfl⟩
 rw [hr, ← et] at AD
 unfold txA at AD
 cases r with
 | error c =>
  have hc2 : (c != 0) = true := by simpa using addQ_err hr
  clear hr et ec hTA hTS hQI hQS hDI T2 X2
  obtain ⟨n, hn⟩ : ∃ n, q'.length = n := ⟨_, rfl⟩
  obtain ⟨n2, hn2⟩ : ∃ n, d'.length = n := ⟨_, rfl⟩
  rw [hn, hn2] at AD ⊢
  clear hn hn2
  go_wp2_with (first
   | (go_at_call 10; (with_reducible refine (AD.out _ zaa).mono ?_); rintro e' _ ⟨rfl, d1, os1, rfl⟩)
   | (go_at_call 15; (with_reducible refine (AW.out _ (XH2.out.trans zaa)).mono ?_); rintro e' _ ⟨rfl, d2, os2, rfl⟩))
  go_ret
  exact ⟨rfl, XH2.out.trans zaa⟩
 | ok x =>
  obtain ⟨a1, a2, a3, a4, a5, i0, hi0, hx1, hx2⟩ := addQ_ok hr
  have WF := Lib.hid (fun k y (h : x[k]? = some y) => wait_found hi0 hx1 h)
  have WS := Lib.hid (fun k y (h : q'[k]? = some y) => wait_still hi0 hx1 hx2 h)
  have HXS : Hid (∀ y ∈ x, TxSm y) := Lib.hid (fun y hy => by
   obtain ⟨j, hj⟩ := List.getElem?_of_mem hy
   by_cases h : j = i0
   · subst h
     rw [hi0] at hj
     cases hj
     exact hTS
   · exact hQS y (List.mem_of_getElem? (hx1 j y h hj).2))
  have hx64 : x.length ≤ 64 := ((qbE x).1 a5).2.1
  have hi0m : i0 < x.length := (List.getElem?_eq_some_iff.1 hi0).1
  obtain ⟨dl1, dl2, dl3⟩ := drop_law hr ⟨t'.c, t'.t, 0, 0, 0, ⟨#[]⟩, 0⟩ rfl rfl (show resB 0 0 0 ⟨#[]⟩ 0 = true from by decide)
  obtain ⟨ys, hys⟩ : ∃ l, x.filter (fun y => askE (noteL d' ⟨t'.c, t'.t, 0, 0, 0, ⟨#[]⟩, 0⟩) y.c y.t == 6) = l := ⟨_, rfl⟩
  rw [hys] at dl2 dl3
  have hysl : ys.length ≤ 64 := by rw [← hys]; exact Nat.le_trans (List.length_filter_le _ _) hx64
  have NT := Lib.hid (fun W (hx : Ext W2 W) => rnote_ok (.slice dp' d'.length dc') d' t'.c t'.t W (hDI.ext hx) zae a4)
  obtain ⟨nd, hnd⟩ : ∃ l, noteL d' ⟨t'.c, t'.t, 0, 0, 0, ⟨#[]⟩, 0⟩ = l := ⟨_, rfl⟩
  have hndl : nd.length ≤ 1000 := by rw [← hnd]; exact noteL_len hDL
  have DR := Lib.hid (fun W v v2 (hx : Ext W2 W) (h : TxIn W v x) (h2 : LaAt W v2 nd) => bdrop_any v x v2 nd B W (SG.out W (X2.trans hx)).1 (SG.out W (X2.trans hx)).2 h zae h2 zae)
  have CK := Lib.hid (fun W v (hx : Ext W2 W) (h : TxIn W v x) => qcu v x B W (SG.out W (X2.trans hx)).1 (SG.out W (X2.trans hx)).2 h zae)
  rw [hnd] at dl2 NT
  rw [dl2] at DR
  rw [a5] at CK
  rw [ec.1, ec.2] at NT
  rw [ec.1] at dl3
  have EC := Lib.hid ec
  rw [ec.1] at WS
  have DL3 := Lib.hid dl3
  have HT := Lib.hid (And.intro hTA (And.intro hTS et))
  have HQ := Lib.hid (And.intro hQI hQS)
  obtain ⟨m, hm⟩ : ∃ m, x.length = m := ⟨_, rfl⟩
  have HM := Lib.hid hm
  rw [hm] at hx64 hi0m
  obtain ⟨n, hn⟩ : ∃ n, q'.length = n := ⟨_, rfl⟩
  have HN := Lib.hid hn
  obtain ⟨n2, hn2⟩ : ∃ n, d'.length = n := ⟨_, rfl⟩
  rw [hn, hn2] at AD ⊢
  rw [hn2] at NT
  rw [hn] at hQL
  have HI0 : Hid (fnd i0 m = 1) := Lib.hid (by unfold fnd; rw [if_pos hi0m])
  clear hr et ec hTA hTS hQI hQS hDI T2 X2 a1 a2 a3 a4 a5 hi0 hx1 hx2 dl1 dl2 dl3 hys hnd hm hn hn2
  go_upto_region 3 with (go_at_call 10; (with_reducible refine (AD.out _ zaa).mono ?_); rintro e' W3 ⟨v1, rfl, r1, x1⟩)
  have X3 : Ext W2 W3 := Ext.trans zaa x1
  obtain ⟨px, cx, hv1, -, -, hrx⟩ := r1.inn.2
  rw [HM.out] at hv1
  subst hv1
  have R1 := Lib.hid r1.inn
  have HRX := Lib.hid hrx
  have HX3 := Lib.hid X3
  have B0 := Lib.hid (And.intro b0 (And.intro b1 (And.intro b2 (And.intro b3 (And.intro b4 b5)))))
  have HTA3 := Lib.hid (fun W (hx : Ext W3 W) => HT.out.1.ext (X3.trans hx))
  clear r1 x1 X3 hrx b0 b1 b2 b3 b4 b5 hw2
  go_wp2_with fail
  go_loopw [9, 10] (fun f ii wr => ∃ k : Nat, ii = .int .i64 (k : Int) ∧ k ≤ m ∧ f = .int .i64 (fnd i0 k) ∧ Hid (Ext W3 wr)) (fun _ ii _ => m - (intOf ii).toNat)
  case atStart => exact ⟨0, rfl, Nat.zero_le _, rfl, Lib.hid (Ext.refl _)⟩
  case round =>
   obtain ⟨k, rfl, hkm, rfl, hH⟩ := hrel
   by_cases hlt : k < m
   case pos =>
    obtain ⟨y, hy⟩ : ∃ y, x[k]? = some y := ⟨_, List.getElem?_eq_getElem (by have := HM.out; omega)⟩
    have hs := WF.out k y hy
    have hym := List.mem_of_getElem? hy
    obtain ⟨yc, yt, y1, z1, l1', y2, z2, l2', ys', yg, hV, hL, -, -⟩ := tx_row y (R1.out.1 y hym)
    have SM := Lib.hid (fun W (hx : Ext W3 W) => qcQ y t' W ((R1.out.1 y hym).ext hx) (HTA3.out W hx) (HXS.out y hym) HT.out.2.1)
    rw [hs, hV, ← HT.out.2.2] at SM
    unfold txA at SM
    obtain ⟨b, off, rfl, hc⟩ := HRX.out k y hy
    rw [hL] at hc
    have f0 := qab (hc 0 _ rfl) hH.out
    have f1 := qab (hc 1 _ rfl) hH.out
    have f2 := qab (hc 2 _ rfl) hH.out
    have f3 := qab (hc 3 _ rfl) hH.out
    have f4 := qab (hc 4 _ rfl) hH.out
    have f5 := qab (hc 5 _ rfl) hH.out
    simp only [Nat.add_zero] at f0
    have g0 := qab B0.out.1 (HX3.out.trans hH.out)
    have g1 := qab B0.out.2.1 (HX3.out.trans hH.out)
    have g2 := qab B0.out.2.2.1 (HX3.out.trans hH.out)
    have g3 := qab B0.out.2.2.2.1 (HX3.out.trans hH.out)
    have g4 := qab B0.out.2.2.2.2.1 (HX3.out.trans hH.out)
    have g5 := qab B0.out.2.2.2.2.2 (HX3.out.trans hH.out)
    have hlb := World.block_lt_of_cell? _ _ f0
    have hlg := World.block_lt_of_cell? _ _ g0
    have HLT := Lib.hid hlt
    clear hy hs hym hV hL hc
    by_cases hk : k = i0
    · have hf0 : fnd i0 k = 0 := by unfold fnd; rw [if_neg zae]
      have HF1 : Hid (fnd i0 (k + 1) = 1) := Lib.hid (by unfold fnd; rw [if_pos zae])
      rw [hf0]
      rw [decide_eq_true hk] at SM
      clear hf0 hk
      go_upto_region 9 with fail
      go_still_tail 5, zad
      go_wp2_with (go_at_call 16; (with_reducible refine (SM.out _ (hH.out.trans zaa)).mono ?_); rintro e' _ ⟨rfl, d2, os2, rfl⟩)
      go_roundw
      case measure => have := HLT.out; simp [intOf]; omega
      case rel => exact ⟨k + 1, by go_num, by have := HLT.out; omega, by rw [HF1.out], Lib.hid (hH.out.trans zaa)⟩
    · have HF1 : Hid (fnd i0 (k + 1) = fnd i0 k) := Lib.hid (by unfold fnd; by_cases h : i0 < k; rw [if_pos h, if_pos zae]; rw [if_neg h, if_neg zae])
      rw [decide_eq_false hk] at SM
      clear hk
      go_upto_region 9 with fail
      go_still_tail 5, zad
      go_wp2_with (go_at_call 16; (with_reducible refine (SM.out _ (hH.out.trans zaa)).mono ?_); rintro e' _ ⟨rfl, d2, os2, rfl⟩)
      go_roundw
      case measure => have := HLT.out; simp [intOf]; omega
      case rel => exact ⟨k + 1, by go_num, by have := HLT.out; omega, by rw [HF1.out], Lib.hid (hH.out.trans zaa)⟩
   case neg =>
    have hk : m = k := by omega
    subst hk
    rw [HI0.out]
    clear hlt hkm
    go_wp2_with fail
    go_loopw [11, 12, 13] (fun ii s t wr => ∃ k : Nat, ii = .int .i64 (k : Int) ∧ k ≤ n ∧ Hid (Ext W3 wr)) (fun ii _ _ _ => n - (intOf ii).toNat)
    case atStart => exact ⟨0, rfl, Nat.zero_le _, Lib.hid (hH.out.trans zaa)⟩
    case round =>
     clear hH
     obtain ⟨i, rfl, hin, hH⟩ := hrel
     by_cases hlt : i < n
     case pos =>
      obtain ⟨y, hy⟩ : ∃ y, q'[i]? = some y := ⟨_, List.getElem?_eq_getElem zap⟩
      have hs := WS.out i y hy
      have hym := List.mem_of_getElem? hy
      obtain ⟨yc, yt, y1, z1, l1', y2, z2, l2', ys', yg, hV, hL, hyc, -⟩ := tx_row y (HQ.out.1.1 y hym)
      obtain ⟨p0, c0, hp0, -, -, hr0⟩ := HQ.out.1.2
      obtain ⟨b, off, e0, hc⟩ := hr0 i y hy
      have HP : Hid (qp = some ⟨b, off, none⟩) := Lib.hid (by rw [← e0]; simp at hp0; exact hp0.1)
      rw [hL] at hc
      have HY := Lib.hid (And.intro hym hV)
      rw [hyc] at hs
      have HSS := Lib.hid hs
      have HC := Lib.hid hc
      have HLT := Lib.hid hlt
      have SM := Lib.hid (fun z (hz : z ∈ x) W (hx : Ext W3 W) => qcQ y z W ((HQ.out.1.1 y hym).ext (HX3.out.trans hx)) ((R1.out.1 z hz).ext hx) (HQ.out.2 y hym) (HXS.out z hz))
      have hqb := HP.out
      subst hqb
      clear hy hs hym hV hL hc hyc hr0 hp0 e0
      go_wp2_with fail
      go_loopw [12, 13] (fun s jj wv => ∃ j : Nat, jj = .int .i64 (j : Int) ∧ j ≤ m ∧ s = .bool (anyF y x j) ∧ Hid (Ext W3 wv)) (fun _ jj _ => m - (intOf jj).toNat)
      case atStart => exact ⟨0, rfl, Nat.zero_le _, rfl, Lib.hid (hH.out.trans zaa)⟩
      case round =>
       clear hH
       obtain ⟨j, rfl, hjm, rfl, hH⟩ := hrel
       by_cases hlt : j < m
       case pos =>
        obtain ⟨z, hz⟩ : ∃ z, x[j]? = some z := ⟨_, List.getElem?_eq_getElem (by have := HM.out; omega)⟩
        have HAS := Lib.hid (anyF_step (y := y) hz)
        have hzm := List.mem_of_getElem? hz
        obtain ⟨zc, zt, u1, v1, w1, u2, v2, w2, zs, zg, hV, hL, -, -⟩ := tx_row z (R1.out.1 z hzm)
        have SM2 := Lib.hid (SM.out z hzm)
        rw [HY.out.2, hV] at SM2
        unfold txA at SM2
        obtain ⟨b', off', rfl, hc⟩ := HRX.out j z hz
        rw [hL] at hc
        have f0 := qab (hc 0 _ rfl) hH.out
        have f1 := qab (hc 1 _ rfl) hH.out
        have f2 := qab (hc 2 _ rfl) hH.out
        have f3 := qab (hc 3 _ rfl) hH.out
        have f4 := qab (hc 4 _ rfl) hH.out
        have f5 := qab (hc 5 _ rfl) hH.out
        simp only [Nat.add_zero] at f0
        have e0 := qab (HC.out 0 _ rfl) (HX3.out.trans hH.out)
        have e1 := qab (HC.out 1 _ rfl) (HX3.out.trans hH.out)
        have e2 := qab (HC.out 2 _ rfl) (HX3.out.trans hH.out)
        have e3 := qab (HC.out 3 _ rfl) (HX3.out.trans hH.out)
        have e4 := qab (HC.out 4 _ rfl) (HX3.out.trans hH.out)
        have e5 := qab (HC.out 5 _ rfl) (HX3.out.trans hH.out)
        simp only [Nat.add_zero] at e0
        have hlb := World.block_lt_of_cell? _ _ f0
        have hlg := World.block_lt_of_cell? _ _ e0
        have HLT2 := Lib.hid hlt
        obtain ⟨sb, hsb⟩ : ∃ r, sameX y z = r := ⟨_, rfl⟩
        rw [hsb] at SM2 HAS
        obtain ⟨ab, hab⟩ : ∃ r, anyF y x j = r := ⟨_, rfl⟩
        rw [hab] at HAS ⊢
        clear hz hzm hV hL hc hsb hab
        cases ab with
        | true =>
         have HA2 : Hid (anyF y x (j + 1) = true) := Lib.hid (by rw [HAS.out, Bool.true_or])
         clear HAS
         go_upto_region 18 with fail
         refine qaa 13 135 [false, false, false, false, false, false, false, false, false, false, false, false, false] zad zad rfl ?_
         simp only [List.take_succ_cons, List.take_zero, List.drop_succ_cons, List.drop_zero]
         repeat (refine Lex.step rfl ?_; intro K hK; unfold StepG; go_simp; (refine hK _ ?_); clear hK K)
         refine Lex.nil fun WW hE => ?_
         obtain ⟨dd, oo, rfl⟩ := hE
         unfold FillH
         go_wp2_with fail
         go_roundw
         case measure => have := HLT2.out; simp [intOf]; omega
         case rel => exact ⟨j + 1, by go_num, by have := HLT2.out; omega, by rw [HA2.out], Lib.hid (hH.out.trans zaa)⟩
        | false =>
         have HA2 : Hid (anyF y x (j + 1) = sb) := Lib.hid (by rw [HAS.out, Bool.false_or])
         clear HAS
         go_upto_region 18 with fail
         refine qaa 13 135 [false, false, false, false, false, false, false, false, false, false, false, false, false] zad zad rfl ?_
         simp only [List.take_succ_cons, List.take_zero, List.drop_succ_cons, List.drop_zero]
         repeat (refine Lex.step rfl ?_; intro K hK; unfold StepG; go_simp; (first | refine hK _ ?_ | ((with_reducible refine ⟨_, fun d os => (ret1 (SM2.out _ (hH.out.trans zaa))), ?_⟩); go_simp; refine hK _ ?_)); clear hK K)
         refine Lex.nil fun WW hE => ?_
         obtain ⟨dd, oo, rfl⟩ := hE
         unfold FillH
         go_wp2_with fail
         go_roundw
         case measure => have := HLT2.out; simp [intOf]; omega
         case rel => exact ⟨j + 1, by go_num, by have := HLT2.out; omega, by rw [HA2.out], Lib.hid (hH.out.trans zaa)⟩
       case neg =>
        have hj : m = j := by omega
        subst hj
        clear hlt hjm
        have hA : anyF y x m = !(yc == tc') := by unfold anyF; rw [List.take_of_length_le (by have := HM.out; omega)]; exact HSS.out
        rw [hA]
        clear hA
        have e0 := qab (HC.out 0 _ rfl) (HX3.out.trans hH.out)
        have e1 := qab (HC.out 1 _ rfl) (HX3.out.trans hH.out)
        have e2 := qab (HC.out 2 _ rfl) (HX3.out.trans hH.out)
        have e3 := qab (HC.out 3 _ rfl) (HX3.out.trans hH.out)
        have e4 := qab (HC.out 4 _ rfl) (HX3.out.trans hH.out)
        have e5 := qab (HC.out 5 _ rfl) (HX3.out.trans hH.out)
        simp only [Nat.add_zero] at e0
        have g0 := qab B0.out.1 (HX3.out.trans hH.out)
        have g1 := qab B0.out.2.1 (HX3.out.trans hH.out)
        have g2 := qab B0.out.2.2.1 (HX3.out.trans hH.out)
        have g3 := qab B0.out.2.2.2.1 (HX3.out.trans hH.out)
        have g4 := qab B0.out.2.2.2.2.1 (HX3.out.trans hH.out)
        have g5 := qab B0.out.2.2.2.2.2 (HX3.out.trans hH.out)
        have hlb := World.block_lt_of_cell? _ _ e0
        have hlg := World.block_lt_of_cell? _ _ g0
        by_cases hyt : yc = tc'
        · have hb : (yc == tc') = true := by simp [hyt]
          rw [hb, Bool.not_true]
          clear hyt
          go_upto_region 19 with fail
          go_region
          go_wp2_with fail
          go_roundw
          case measure => have := HLT.out; simp [intOf]; omega
          case rel => exact ⟨i + 1, by go_num, by have := HLT.out; omega, Lib.hid (hH.out.trans zaa)⟩
        · have hb : (yc == tc') = false := by simpa using hyt
          rw [hb, Bool.not_false]
          clear hyt
          go_upto_region 19 with fail
          go_region
          go_wp2_with fail
          go_roundw
          case measure => have := HLT.out; simp [intOf]; omega
          case rel => exact ⟨i + 1, by go_num, by have := HLT.out; omega, Lib.hid (hH.out.trans zaa)⟩
     case neg =>
      have hi : n = i := by omega
      subst hi
      clear hlt hin
      have g0 := qab B0.out.1 (HX3.out.trans hH.out)
      have g1 := qab B0.out.2.1 (HX3.out.trans hH.out)
      have g2 := qab B0.out.2.2.1 (HX3.out.trans hH.out)
      have g3 := qab B0.out.2.2.2.1 (HX3.out.trans hH.out)
      have g4 := qab B0.out.2.2.2.2.1 (HX3.out.trans hH.out)
      have g5 := qab B0.out.2.2.2.2.2 (HX3.out.trans hH.out)
      have hlg := World.block_lt_of_cell? _ _ g0
      go_upto_region 23 with (first
       | (go_at_call 17; (with_reducible refine (NT.out _ (HX3.out.trans (hH.out.trans zaa))).mono ?_); rintro e' W4 ⟨v4, rfl, r4, x4⟩; have R4 := Lib.hid r4; have X4 : Hid (Ext W3 W4) := Lib.hid (hH.out.trans (Ext.trans zaa x4)); obtain ⟨p4, c4, hv4, -, -, -⟩ := r4.1; subst hv4; clear r4 x4)
       | (go_at_call 18; (with_reducible refine (DR.out _ _ _ (HX3.out.trans (X4.out.trans zaa)) (R1.out.ext (X4.out.trans zaa)) (R4.out.ext zaa)).mono ?_); rintro e' W5 ⟨v5, rfl, r5, x5⟩))
      have X5 : Hid (Ext W3 W5) := Lib.hid (X4.out.trans (Ext.trans zaa x5))
      obtain ⟨p5, c5, hv5, -, -, hr5⟩ := r5.inn.2
      obtain ⟨n5, hn5⟩ : ∃ n, ys.length = n := ⟨_, rfl⟩
      rw [hn5] at hv5 hysl
      subst hv5
      have HN5 := Lib.hid hn5
      have HR5 := Lib.hid hr5
      have R5 := Lib.hid r5.inn
      clear hn5 hr5 r5 x5 g0 g1 g2 g3 g4 g5 hlg hH
      go_wp2_with fail
      go_loopw [18] (fun ii wr => ∃ k : Nat, ii = .int .i64 (k : Int) ∧ k ≤ n5 ∧ Hid (Ext W5 wr)) (fun ii _ => n5 - (intOf ii).toNat)
      case atStart => exact ⟨0, rfl, Nat.zero_le _, Lib.hid zaa⟩
      case round =>
       obtain ⟨k, rfl, hkm, hH⟩ := hrel
       by_cases hlt : k < n5
       case pos =>
        obtain ⟨y, hy⟩ : ∃ y, ys[k]? = some y := ⟨_, List.getElem?_eq_getElem (by have := HN5.out; omega)⟩
        have hym := List.mem_of_getElem? hy
        obtain ⟨yc, yt, y1, z1, l1', y2, z2, l2', ys', yg, hV, hL, hyc, -⟩ := tx_row y (R5.out.1 y hym)
        have hne : (yc == tc') = false := by have := DL3.out y hym; rw [hyc] at this; simpa using this
        obtain ⟨b, off, rfl, hc⟩ := HR5.out k y hy
        rw [hL] at hc
        have f0 := qab (hc 0 _ rfl) hH.out
        simp only [Nat.add_zero] at f0
        have g0 := qab B0.out.1 (HX3.out.trans (X5.out.trans hH.out))
        have hlb := World.block_lt_of_cell? _ _ f0
        have hlg := World.block_lt_of_cell? _ _ g0
        have HLT := Lib.hid hlt
        clear hy hym hV hL hyc hc
        go_upto_region 26 with fail
        go_region
        go_wp2_with fail
        go_roundw
        case measure => have := HLT.out; simp [intOf]; omega
        case rel => exact ⟨k + 1, by go_num, by have := HLT.out; omega, Lib.hid (hH.out.trans zaa)⟩
       case neg =>
        have hk : n5 = k := by omega
        subst hk
        clear hlt hkm
        go_wp2_with (first
         | (go_at_call 12; (with_reducible refine (CK.out _ _ (HX3.out.trans (X5.out.trans (hH.out.trans zaa))) (R1.out.ext (X5.out.trans (hH.out.trans zaa)))).mono ?_); rintro e' _ ⟨rfl, d2, os2, rfl⟩)
         | (go_at_call 15; (with_reducible refine (AW.out _ (XH2.out.trans (HX3.out.trans (X5.out.trans (hH.out.trans zaa))))).mono ?_); rintro e' _ ⟨rfl, d3, os3, rfl⟩))
        go_ret
        exact ⟨rfl, XH2.out.trans (HX3.out.trans (X5.out.trans (hH.out.trans zaa)))⟩
end Go.Proofs.YtpnabjopfpdkhaaGreatDoor
