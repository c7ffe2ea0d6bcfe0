/- The document's parser whole: blocks, Tokens. -/
import Derived.Test.YtoaaklcbcbjaiaaRar13
import Derived.Test.YtoaaklcbcbjaiaaPar8
import Derived.RegionTactic
set_option linter.unusedSimpArgs false
set_option linter.unusedVariables false
namespace Go.Proofs.Ytoaaklcbcbjaiaa
open Go.RowKit
attribute [go_sem] more_more Array.size_append

theorem rblocks_any (b lb lo cap : Nat) (L : Toks) : ∀ D d : Nat, d + D = 17 → RDp b lb lo cap L 33 (d : Int) (blockD L D)
  | 0, d, hd => by
    have e : d = 17 := by omega
    subst e
    exact rblock_deep
  | D + 1, d, hd => by
    have hb := rblocks_any b lb lo cap L D (d + 1) (by omega)
    have he := (rexprs_any b lb lo cap L (D + 1) d (by omega)).1
    have ec : ((d + 1 : Nat) : Int) = (d : Int) + 1 := by omega
    have fe := (Fwd.exprD L (D + 1)).1
    have fb := Fwd.braced L (Fwd.blockD L D)
    intro nv m N w hs r hr
    refine rblock_any hs d (by omega) (stmtP L (exprP L (D + 1)) (bracedP L (blockD L D))) (fun nv m N w hs hbg r hr => rstmt_any hs hbg d (by omega) _ _ he (hb.cast ec) r hr)
      (fun m n v m1 ns hbg h => stmt_yes fe fb hbg h) (fun m n hbg => stmt_none hbg) r ?_
    have := block_link (stmtP L (exprP L (D + 1)) (bracedP L (blockD L D))) (fun m n v m1 ns h => stmt_ok fe fb h) (L.length + 1) [] [] m N.length (fun x hx => by simp at hx)
    refine Eq.trans ?_ (this.symm.trans hr)
    generalize blockR (stmtP L (exprP L (D + 1)) (bracedP L (blockD L D))) (L.length + 1) [] [] m N.length = X
    cases X <;> rfl
/-- how many of the first tokens are ends -/
def zeros (L : Toks) : Nat → Nat
  | 0 => 0
  | j + 1 => zeros L j + (if (tk L j).1.k = 0 then 1 else 0)
theorem zeros_le (L : Toks) : ∀ j, zeros L j ≤ j
  | 0 => Nat.le_refl _
  | j + 1 => by have := zeros_le L j; rw [zeros]; split <;> omega
theorem zeros_none (L : Toks) : ∀ n, zeros L n = 0 ↔ ∀ j, j < n → (tk L j).1.k ≠ 0
  | 0 => by simp [zeros]
  | n + 1 => by
    have ih := zeros_none L n
    rw [zeros]
    constructor
    · intro h j hj
      have h1 : zeros L n = 0 := by omega
      rcases Nat.lt_or_ge j n with h2 | h2
      · exact ih.1 h1 j h2
      · have : j = n := by omega
        subst this
        intro e; rw [if_pos e] at h; omega
    · intro h
      rw [ih.2 (fun j hj => h j (by omega)), if_neg (h n (by omega))]
theorem zeros_ends {L : Toks} {n : Nat} (hn : L.length = n + 1) (h1 : zeros L (n + 1) = 1) (h2 : (tk L n).1.k = 0) : ∀ j, j < L.length → okAt L j = true := by
  rw [zeros, if_pos h2] at h1
  have h0 := (zeros_none L n).1 (by omega)
  intro j hj
  unfold okAt
  rw [hn]
  by_cases h : j = n
  · subst h; simp [h2]
  · have := h0 j (by omega)
    have e1 : ((tk L j).1.k == 0) = false := by simpa using this
    have e2 : decide (j + 1 = n + 1) = false := by simp; omega
    rw [e1, e2]; rfl
theorem zeros_not {L : Toks} {n : Nat} (hn : L.length = n + 1) (h : zeros L (n + 1) ≠ 1 ∨ (tk L n).1.k ≠ 0) : parseF L = .error (1, 0) := by
  have he : ¬ endsOk L = true := by
    intro he
    unfold endsOk at he
    rw [Bool.and_eq_true, List.all_eq_true] at he
    have h1 : ∀ j, j < n + 1 → ((tk L j).1.k == 0) = decide (j + 1 = n + 1) := fun j hj => by
      have := he.2 j (by simp; omega)
      rw [hn] at this
      simpa using this
    have hl : (tk L n).1.k = 0 := by have := h1 n (by omega); simpa using this
    rcases h with h | h
    · apply h
      rw [zeros, if_pos hl, (zeros_none L n).2 (fun j hj e => ?_)]
      have := h1 j (by omega)
      rw [e] at this
      simp at this
      omega
    · exact h hl
  unfold parseF
  rw [if_neg he]

set_option maxHeartbeats 4000000 in
set_option maxRecDepth 20000 in
theorem rtokens_none (p : Option Addr) (c : Nat) (w : World) : Calls Try.prog 17 #[.slice p 0 c] w (ParsePost w (.error (1, 0))) := by
  go_enter Try.func17, Try.ntmps17
  go_wp2_with fail
  go_loopg [5, 6] (0) (fun g x y wr => x = .int .i64 0 ∧ y = .int .i64 0 ∧ wr = w.alloc (.cells #[.slice none 0 0, .int .i64 0] 24 (0, 0)))
  case atStart => exact ⟨rfl, rfl, rfl⟩
  case round =>
    obtain ⟨rfl, rfl, rfl⟩ := hrel
    go_wp2_with fail
    exact bodyPost_ret (v := .tuple #[.agg #[.slice none 0 0, .int .i64 0], .int .i64 1, .int .i64 0]) (by simp [results, Try.results17, go_sem]) rfl ⟨rfl, by repeat (first | exact Ext.refl _ | apply Ext.alloc | apply Ext.more)⟩

set_option maxHeartbeats 4000000 in
set_option maxRecDepth 20000 in
theorem rtokens_any (L : Toks) (lb lo cap : Nat) (h0 : 0 < L.length) (hf : L.length ≤ 5000) (w : World) (ht : ToksAt lb lo L w) (r : Except (Int × Int) (List Nd × Int)) (hr : parseF L = r) :
    Calls Try.prog 17 #[.slice (some ⟨lb, lo, none⟩) L.length cap] w (ParsePost w r) := by
  have hlb := ht.lt h0
  have HT := Lib.hid ht
  have HR := Lib.hid hr
  obtain ⟨n, hn⟩ : ∃ n, L.length = n + 1 := ⟨L.length - 1, by omega⟩
  have hl0 : 0 < (L.length : Int) := by omega
  have hl1 : (L.length : Int) ≤ 5000 := by omega
  have HN := Lib.hid hn
  clear ht hr hn
  go_enter Try.func17, Try.ntmps17
  go_wp2_with fail
  go_loopw [5, 6] (fun x y wr => ∃ j : Nat, y = .int .i64 (j : Int) ∧ j ≤ L.length ∧ x = .int .i64 (zeros L j : Int) ∧ wr = w.alloc (.cells #[.slice none 0 0, .int .i64 0] 24 (0, 0))) (fun _ y _ => L.length - (intOf y).toNat)
  case atStart => exact ⟨0, rfl, Nat.zero_le _, rfl, rfl⟩
  case round =>
    obtain ⟨j, rfl, hj, rfl, rfl⟩ := hrel
    have hz := zeros_le L j
    obtain ⟨zj, hzj⟩ : ∃ zj, zeros L j = zj := ⟨_, rfl⟩
    by_cases hlt : j < L.length
    · obtain ⟨t0, t1, t2, t3⟩ := HT.out.of_block (w' := w.alloc (.cells #[.slice none 0 0, .int .i64 0] 24 (0, 0))) (((Ext.refl _).alloc _).below.block lb hlb) j hlt
      have hlt2 : (j : Int) < (L.length : Int) := by omega
      have hj0 : 0 ≤ (j : Int) := by omega
      have hzs : zeros L (j + 1) = zj + (if (tk L j).1.k = 0 then 1 else 0) := by rw [zeros, hzj]
      have HZ := Lib.hid hzs
      have HLT := Lib.hid hlt
      rw [hzj] at hz ⊢
      have hzi : (zj : Int) ≤ (j : Int) := by omega
      have hlb2 : lb < w.heap.size := hlb
      obtain ⟨⟨⟨k, ts, i⟩, a⟩, htt⟩ : ∃ tt, tk L j = tt := ⟨_, rfl⟩
      rw [htt] at t0 HZ
      dsimp only at t0 HZ
      clear hzj hzs htt t1 t2 t3
      cases q1 : (k == 0)
      · have hk : ¬ k = 0 := by simpa using q1
        go_wp2_with fail
        go_roundw
        case rel => exact ⟨j + 1, by go_num, by have := HLT.out; omega, by rw [HZ.out, if_neg hk]; rfl, by first | rfl | trivial⟩
        case measure => have := HLT.out; simp [intOf]; omega
      · have hk : k = 0 := by simpa using q1
        go_wp2_with fail
        go_roundw
        case rel => exact ⟨j + 1, by go_num, by have := HLT.out; omega, by rw [HZ.out, if_pos hk]; go_num, by first | rfl | trivial⟩
        case measure => have := HLT.out; simp [intOf]; omega
    · have hje : j = n + 1 := by have := HN.out; omega
      subst hje
      have hnl : ((n : Int) + 1) = (L.length : Int) := by have := HN.out; omega
      have hz9 : ((L.length : Int) == 0) = false := beq_eq_false_iff_ne.2 (by omega)
      by_cases hone : zj = 1
      rotate_left
      · have RR := Lib.hid (HR.out.symm.trans (zeros_not HN.out (Or.inl (by rw [hzj]; exact hone))))
        rw [hzj]
        have q1 : ((zj : Int) != 1) = true := by simp; omega
        clear hzj hz hone hj
        have hnlt : ¬ ((((n + 1 : Nat)) : Int) < (L.length : Int)) := by omega
        go_wp2_with fail
        have := RR.out
        subst this
        exact bodyPost_ret (v := .tuple #[.agg #[.slice none 0 0, .int .i64 0], .int .i64 1, .int .i64 0]) (by simp [results, Try.results17, go_sem]) rfl ⟨rfl, by repeat (first | exact Ext.refl _ | apply Ext.alloc | apply Ext.more)⟩
      obtain ⟨t0, t1, t2, t3⟩ := HT.out.of_block (w' := w.alloc (.cells #[.slice none 0 0, .int .i64 0] 24 (0, 0))) (((Ext.refl _).alloc _).below.block lb hlb) n (by have := HN.out; omega)
      clear t1 t2 t3
      rw [hzj, hone]
      have hq : ((L.length : Int) - 1).toNat = n := by omega
      have hq1 : ((L.length : Int) - 1) < (L.length : Int) := by omega
      have hq2 : 0 ≤ ((L.length : Int) - 1) := by omega
      have hnlt : ¬ ((((n + 1 : Nat)) : Int) < (L.length : Int)) := by omega
      by_cases hk0 : (tk L n).1.k = 0
      rotate_left
      · have RR := Lib.hid (HR.out.symm.trans (zeros_not HN.out (Or.inr hk0)))
        have q1 : ((tk L n).1.k != 0) = true := by simpa using hk0
        clear hzj hz hone hj hk0 hlt
        go_wp2_with fail
        have := RR.out
        subst this
        exact bodyPost_ret (v := .tuple #[.agg #[.slice none 0 0, .int .i64 0], .int .i64 1, .int .i64 0]) (by simp [results, Try.results17, go_sem]) rfl ⟨rfl, by repeat (first | exact Ext.refl _ | apply Ext.alloc | apply Ext.more)⟩
      obtain ⟨hE, hP⟩ := ends_yes h0 hf (zeros_ends HN.out (by rw [hzj]; exact hone) hk0)
      have HE := Lib.hid hE
      have RR := Lib.hid (hP.symm.trans HR.out)
      rw [hk0] at t0
      clear hzj hz hone hj hk0 hE hP hlt
      go_wp2_with fail
      go_at_call 33
      obtain ⟨P0, hP0⟩ : ∃ P0 : Obj, P0 = (.cells #[.slice none 0 0, .int .i64 0] 24 (0, 0)) := ⟨_, rfl⟩
      have X2 : Ext w ((w.alloc (.cells #[.slice none 0 0, .int .i64 0] 24 (0, 0))).alloc (.cells #[.slice (some ⟨lb, lo, none⟩) L.length cap, .int .i64 0, .slice none 0 0, .int .i64 0, .int .i64 0] 75 (0, 0))) := ((Ext.refl _).alloc _).alloc _
      have LP : Loc (w.heap.size + 1) (.slice none 0 0) w.heap.size (.cells #[.slice none 0 0, .int .i64 0] 24 (0, 0)) ((w.alloc (.cells #[.slice none 0 0, .int .i64 0] 24 (0, 0))).alloc (.cells #[.slice (some ⟨lb, lo, none⟩) L.length cap, .int .i64 0, .slice none 0 0, .int .i64 0, .int .i64 0] 75 (0, 0))) :=
        ⟨(((Ext.refl _).alloc _).below.block _ (by simp)).trans (heap_alloc_new _ _), by omega, by simp [Value.ownBlock]⟩
      have S0 : Rt (w.heap.size + 1) lb lo cap (.slice none 0 0) L 0 [] 0 0 ((w.alloc (.cells #[.slice none 0 0, .int .i64 0] 24 (0, 0))).alloc (.cells #[.slice (some ⟨lb, lo, none⟩) L.length cap, .int .i64 0, .slice none 0 0, .int .i64 0, .int .i64 0] 75 (0, 0))) :=
        ⟨HE.out, by have := heap_alloc_new (w.alloc (.cells #[.slice none 0 0, .int .i64 0] 24 (0, 0))) (.cells #[.slice (some ⟨lb, lo, none⟩) L.length cap, .int .i64 0, .slice none 0 0, .int .i64 0, .int .i64 0] 75 (0, 0)); rwa [World.size_alloc] at this, HT.out.of_block (X2.below.block lb hlb), World.ownsRow_nil _ _ _ _, by omega, h0, by simp⟩
      obtain ⟨W1, hW1⟩ : ∃ W1, ((w.alloc (.cells #[.slice none 0 0, .int .i64 0] 24 (0, 0))).alloc (.cells #[.slice (some ⟨lb, lo, none⟩) L.length cap, .int .i64 0, .slice none 0 0, .int .i64 0, .int .i64 0] 75 (0, 0))) = W1 := ⟨_, rfl⟩
      rw [hW1] at LP S0 X2
      rw [hW1]
      clear hW1 t0 hP0
      have LP := Lib.hid LP
      have X2 := Lib.hid X2
      obtain ⟨r1, h1⟩ : ∃ r1, blockD L 16 0 0 = r1 := ⟨_, rfl⟩
      refine ((rblocks_any (w.heap.size + 1) lb lo cap L 16 1 rfl).cast (z' := 1) rfl _ _ _ _ S0 r1 h1).mono ?_
      clear S0
      rcases r1 with ⟨c1, a1⟩ | ⟨fv, m1, ns1⟩
      · have R2 : RowKit.Hid (.error (c1, a1) = r) := Lib.hid (by rw [← RR.out]; unfold progP; rw [pbind_err h1])
        clear h1 RR
        rintro e w1 ⟨hc, ⟨v, rfl, yq, rfl⟩, nv1, mE, NE, hs, hk⟩
        have XK := Lib.hid (ext_kp X2.out hk (by omega) rfl)
        have q1 : (c1 == 0) = false := by simpa using hc
        have q2 : (c1 != 0) = true := by simpa using hc
        have HS := Lib.hid hs
        have LP1 := LP.out.kp hk
        obtain ⟨p0, p1, y0, y1, lp⟩ := LP1.two
        obtain ⟨c0, c1', c2, c3, c4, f1, f2, f3, f4, hb⟩ := hs.facts
        clear LP1 hk hs hc c0 c1' c2 f1 f2 f3 f4
        go_wp2_with fail
        refine wp_region_grow 19 87 [false, false, false, false, false, false, false, false, false, false, false, false, false, false, false, false, false, false, false] (by kernel_rfl) (by kernel_rfl) rfl ?_
        simp only [List.take_succ_cons, List.take_zero, List.drop_succ_cons, List.drop_zero]
        repeat (refine Lex.step rfl ?_; intro K hK; unfold StepG; go_simp; (first
            | refine hK _ ?_); clear hK K)
        refine Lex.nil fun WW hE => ?_
        obtain ⟨dd, oo, rfl⟩ := hE
        unfold FillH
        go_wp2_with fail
        rw [ends_normal]
        go_wp2_with fail
        go_region
        go_wp2_with fail
        have := R2.out
        subst this
        refine bodyPost_ret (v := .tuple #[.agg #[.slice none 0 0, .int .i64 0], .int .i64 c1, .int .i64 a1]) (by simp [results, Try.results17, go_sem, p0, p1, y0, y1, lp]) rfl ⟨rfl, ?_⟩
        repeat (first | (with_reducible exact XK.out) | (with_reducible apply Ext.more) | (with_reducible refine Ext.setCell ?_ (by dsimp only; omega) _) | (with_reducible apply Ext.drew))
      · rintro e w1 ⟨he, nv1, hs, hk, _⟩
        unfold intV at he
        subst he
        have hs := hs.cast (List.nil_append _)
        have XK := Lib.hid (ext_kp X2.out hk (by omega) rfl)
        have LP1 := LP.out.kp hk
        obtain ⟨p0, p1, y0, y1, lp⟩ := LP1.two
        obtain ⟨c0, c1', c2, c3, c4, f1, f2, f3, f4, hb⟩ := hs.facts
        obtain ⟨t0, t1, t2, t3, hlb3⟩ := hs.tokFacts
        have hmi : (m1 : Int) < (L.length : Int) := by have := hs.pos; omega
        have hm0 : 0 ≤ (m1 : Int) := by omega
        have HS := Lib.hid hs
        have HK := Lib.hid hk
        clear LP1 hk hs t1 t2 t3
        by_cases hk0 : (tk L m1).1.k = 0
        · have R2 : RowKit.Hid (.ok (ns1, fv) = r) := Lib.hid (by
            rw [← RR.out]
            unfold progP
            rw [pbind_ok h1, pbind_ok (v := (tk L m1).1) (m1 := m1 + 1) (ns := []) (by unfold ofP; rw [if_pos hk0])]
            simp [pok, prep])
          rw [hk0] at t0
          obtain ⟨len, cc, pp, rfl, hlen⟩ := rnv_form HS.out
          clear h1 RR hk0 f1 f2 f3 f4 hlen
          go_wp2_with fail
          refine wp_region_grow 19 87 [false, false, false, false, false, false, false, false, false, false, false, false, false, false, false, false, false, false, false] (by kernel_rfl) (by kernel_rfl) rfl ?_
          simp only [List.take_succ_cons, List.take_zero, List.drop_succ_cons, List.drop_zero]
          repeat (refine Lex.step rfl ?_; intro K hK; unfold StepG; go_simp; (first
              | refine hK _ ?_); clear hK K)
          refine Lex.nil fun WW hE => ?_
          obtain ⟨dd, oo, rfl⟩ := hE
          unfold FillH
          go_wp2_with fail
          rw [ends_normal]
          go_wp2_with fail
          have := R2.out
          subst this
          refine bodyPost_ret (v := .tuple #[.agg #[.slice pp len cc, .int .i64 fv], .int .i64 0, .int .i64 0]) (by simp [results, Try.results17, go_sem, p0, p1, y0, y1, lp]) rfl ⟨.slice pp len cc, rfl, ?_, ?_⟩
          · refine World.ownsRow.mono (base := w.heap.size + 1 + 1) ?_ (by omega)
            repeat (first | (with_reducible exact HS.out.row) | (with_reducible apply own_more) | (with_reducible refine ownsRow_setCell_below ?_ (by dsimp only; omega) _))
          · repeat (first | (with_reducible exact XK.out) | (with_reducible apply Ext.more) | (with_reducible refine Ext.setCell ?_ (by dsimp only; omega) _) | (with_reducible apply Ext.drew))
        · have R2 : RowKit.Hid (.error (3, (tk L m1).2) = r) := Lib.hid (by rw [← RR.out]; unfold progP; rw [pbind_ok h1, pbind_err (e := (3, (tk L m1).2)) (by unfold ofP; rw [if_neg hk0])]; rfl)
          have q1 : ((tk L m1).1.k != 0) = true := by simpa using hk0
          have FL := Lib.hid (fun w2 (hx : Ext w1 w2) => rfail_st (HS.out.ext hx) 3 (by decide))
          clear h1 RR hk0 f1 f2 f3 f4 c4
          go_wp2_with fail
          refine wp_region_grow 19 87 [false, false, false, false, false, false, false, false, false, false, false, false, false, false, false, false, false, false, false] (by kernel_rfl) (by kernel_rfl) rfl ?_
          simp only [List.take_succ_cons, List.take_zero, List.drop_succ_cons, List.drop_zero]
          repeat (refine Lex.step rfl ?_; intro K hK; unfold StepG; go_simp; (first
              | refine hK _ ?_); clear hK K)
          refine Lex.nil fun WW hE => ?_
          obtain ⟨dd, oo, rfl⟩ := hE
          unfold FillH
          go_wp2_with fail
          rw [ends_normal]
          go_wp2_with ((go_at_call 34; (with_reducible refine (FL.out _ (by repeat (first | exact Ext.refl _ | apply Ext.alloc | apply Ext.more))).mono ?_); rintro e wF ⟨rfl, hsf, hkf⟩; have HSF := Lib.hid hsf; have HKF := Lib.hid (HK.out.trans (((Kp.refl _ _ _).ext (by repeat (first | exact Ext.refl _ | apply Ext.alloc | apply Ext.more))).trans hkf)); obtain ⟨k0, k1, k2, k3, k4, j1, j2, j3, j4, kb1⟩ := hsf.facts; clear hsf hkf k0 k1 k2 j1 j2 j3 j4; clear p0 p1 y0 y1 lp; obtain ⟨p0, p1, y0, y1, lp⟩ := (LP.out.kp HKF.out).two))
          have XF := Lib.hid (ext_kp X2.out HKF.out (by omega) rfl)
          go_region
          go_wp2_with fail
          have := R2.out
          subst this
          refine bodyPost_ret (v := .tuple #[.agg #[.slice none 0 0, .int .i64 0], .int .i64 3, .int .i64 (tk L m1).2]) (by simp [results, Try.results17, go_sem, p0, p1, y0, y1, lp]) rfl ⟨rfl, ?_⟩
          repeat (first | (with_reducible exact XF.out) | (with_reducible apply Ext.more) | (with_reducible refine Ext.setCell ?_ (by dsimp only; omega) _) | (with_reducible apply Ext.drew))
end Go.Proofs.Ytoaaklcbcbjaiaa
