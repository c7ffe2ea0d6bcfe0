/- The parser's small methods. -/
import Derived.Test.YtoaaklcbcbjaiaaPar1
import Derived.Test.YtoaaklcbcbjaiaaLex2
import Derived.Test.YtoaaklcbcbjaiaaGrow2
import Derived.LoopTactic
import Derived.Deep.LoopGhost
import Derived.Lib.SmallJoins
set_option linter.unusedSimpArgs false
set_option linter.unusedVariables false
namespace Go.Proofs.Ytoaaklcbcbjaiaa
open Go.RowKit
attribute [go_sem] more_more Array.size_append

set_option maxHeartbeats 1000000 in
theorem tok_any {b lb lo cap : Nat} {nv : Value} {L : Toks} {m : Nat} {N : List Nd} {w : World} (h : St b lb lo cap nv L m N w) :
    Calls Try.prog 43 #[.pointer (some ⟨b, 0, none⟩)] w fun e w' => e = .returned (tokV (tk L m).1 (tk L m).2) ∧ Ext w w' := by
  obtain ⟨c0, c1, c2, c3, f1, f2, f3, hb⟩ := h.facts
  obtain ⟨t0, t1, t2, t3, hlb⟩ := h.tokFacts
  have hp : (m : Int) < (L.length : Int) := by have := h.pos; omega
  have hp0 : 0 ≤ (m : Int) := by omega
  obtain ⟨⟨⟨k, s, i⟩, a⟩, htt⟩ : ∃ tt, tk L m = tt := ⟨_, rfl⟩
  rw [htt] at t0 t1 t2 t3 ⊢
  unfold tokV
  clear htt h c2 c3 f1 f2 f3
  go_enter Try.func43, Try.ntmps43
  go_wp2_with fail
  refine wp_region_grow 10 13 [false, false, false, false, false, false, false, false, false, false] (by kernel_rfl) (by kernel_rfl) rfl ?_
  simp only [List.take_succ_cons, List.take_zero, List.drop_succ_cons, List.drop_zero]
  repeat (refine Lex.step rfl ?_; intro K hK; unfold StepG; go_simp; (first
      | refine hK _ ?_); clear hK K)
  refine Lex.nil fun WW hE => ?_
  obtain ⟨dd, oo, rfl⟩ := hE
  unfold FillH
  go_wp2_with fail
  rw [ends_normal]
  go_wp2_with fail
  exact bodyPost_ret (v := .agg #[.int .i64 k, .int .i64 a, .string s, .int .i64 i]) (by simp [results, Try.results43, go_sem]) rfl ⟨rfl, by repeat (first | exact Ext.refl _ | apply Ext.alloc | apply Ext.more)⟩

theorem isP_eq {L : Toks} {m : Nat} {t : Tok} {a : Int} (ht : tk L m = (t, a)) (s : ByteArray) (b : Bool) (hw : wordB s = b) : isP L s m = (t.k == (if b = true then 5 else 4) && t.s.toList == s.toList) := by
  unfold isP; rw [ht, hw]

set_option maxHeartbeats 1000000 in
theorem is_any {b lb lo cap : Nat} {nv : Value} {L : Toks} {m : Nat} {N : List Nd} {w : World} (h : St b lb lo cap nv L m N w) (s : ByteArray) :
    Calls Try.prog 111 #[.pointer (some ⟨b, 0, none⟩), .string s] w fun e w' => e = .returned (.bool (isP L s m)) ∧ Ext w w' := by
  have TK : RowKit.Hid (∀ w1, Ext w w1 → Calls Try.prog 43 #[.pointer (some ⟨b, 0, none⟩)] w1 fun e w' => e = .returned (tokV (tk L m).1 (tk L m).2) ∧ Ext w1 w') := Lib.hid fun w1 hx => tok_any (h.ext hx)
  obtain ⟨⟨⟨k, ts, i⟩, a⟩, htt⟩ : ∃ tt, tk L m = tt := ⟨_, rfl⟩
  have W := Lib.hid (word_any s)
  cases hw : wordB s
  all_goals
    rw [hw] at W
    rw [isP_eq htt s _ hw]
    rw [htt] at TK
    unfold tokV at TK
    clear htt hw h
    dsimp only at TK ⊢
  · by_cases hk : (k == 4) = true
    · rw [if_neg (by simp), hk]
      go_enter Try.func111, Try.ntmps111
      go_wp2_with (first
        | (go_at_call 102; refine (W.out _).mono ?_; rintro e _ ⟨rfl, d, os, rfl⟩)
        | (go_at_call 43; refine (TK.out _ (by repeat (first | exact Ext.refl _ | apply Ext.alloc | apply Ext.more))).mono ?_; rintro e _ ⟨rfl, d2, os2, rfl⟩))
      go_ret
      refine ⟨ret_bool ?_, by repeat (first | exact Ext.refl _ | apply Ext.alloc | apply Ext.more)⟩
      simp
    · have hk2 : (k == 4) = false := by simpa using hk
      clear hk
      rw [if_neg (by simp), hk2]
      go_enter Try.func111, Try.ntmps111
      go_wp2_with (first
        | (go_at_call 102; refine (W.out _).mono ?_; rintro e _ ⟨rfl, d, os, rfl⟩)
        | (go_at_call 43; refine (TK.out _ (by repeat (first | exact Ext.refl _ | apply Ext.alloc | apply Ext.more))).mono ?_; rintro e _ ⟨rfl, d2, os2, rfl⟩))
      go_ret
      refine ⟨ret_bool ?_, by repeat (first | exact Ext.refl _ | apply Ext.alloc | apply Ext.more)⟩
      simp
  · by_cases hk : (k == 5) = true
    · rw [if_pos rfl, hk]
      go_enter Try.func111, Try.ntmps111
      go_wp2_with (first
        | (go_at_call 102; refine (W.out _).mono ?_; rintro e _ ⟨rfl, d, os, rfl⟩)
        | (go_at_call 43; refine (TK.out _ (by repeat (first | exact Ext.refl _ | apply Ext.alloc | apply Ext.more))).mono ?_; rintro e _ ⟨rfl, d2, os2, rfl⟩))
      go_ret
      refine ⟨ret_bool ?_, by repeat (first | exact Ext.refl _ | apply Ext.alloc | apply Ext.more)⟩
      simp
    · have hk2 : (k == 5) = false := by simpa using hk
      clear hk
      rw [if_pos rfl, hk2]
      go_enter Try.func111, Try.ntmps111
      go_wp2_with (first
        | (go_at_call 102; refine (W.out _).mono ?_; rintro e _ ⟨rfl, d, os, rfl⟩)
        | (go_at_call 43; refine (TK.out _ (by repeat (first | exact Ext.refl _ | apply Ext.alloc | apply Ext.more))).mono ?_; rintro e _ ⟨rfl, d2, os2, rfl⟩))
      go_ret
      refine ⟨ret_bool ?_, by repeat (first | exact Ext.refl _ | apply Ext.alloc | apply Ext.more)⟩
      simp

set_option maxHeartbeats 1000000 in
theorem takes_no {b lb lo cap : Nat} {nv : Value} {L : Toks} {m : Nat} {N : List Nd} {w : World} (h : St b lb lo cap nv L m N w) (s : ByteArray) (hn : isP L s m = false) :
    Calls Try.prog 93 #[.pointer (some ⟨b, 0, none⟩), .string s] w fun e w' => e = .returned (.bool false) ∧ Ext w w' := by
  have I := Lib.hid (is_any h s)
  rw [hn] at I
  clear hn h
  go_enter Try.func93, Try.ntmps93
  go_wp2_with (go_at_call 111; refine I.out.mono ?_; rintro e _ ⟨rfl, d, os, rfl⟩)
  go_ret
  exact ⟨rfl, by repeat (first | exact Ext.refl _ | apply Ext.alloc | apply Ext.more)⟩

set_option maxHeartbeats 1000000 in
theorem takes_yes {b lb lo cap : Nat} {nv : Value} {L : Toks} {m : Nat} {N : List Nd} {w : World} (h : St b lb lo cap nv L m N w) (s : ByteArray) (hn : isP L s m = true) :
    Calls Try.prog 93 #[.pointer (some ⟨b, 0, none⟩), .string s] w fun e w' => e = .returned (.bool true) ∧ ∃ w1, Ext w w1 ∧ w' = w1.setCell ⟨b, 1, none⟩ (.int .i64 ((m : Int) + 1)) := by
  have I := Lib.hid (is_any h s)
  rw [hn] at I
  have hm : (m : Int) ≤ 5000 := by have := h.ends.few; have := h.pos; omega
  have hm0 : 0 ≤ (m : Int) := by omega
  obtain ⟨c0, c1, c2, c3, f1, f2, f3, hb⟩ := h.facts
  clear hn h c0 c2 c3 f2 f3
  go_enter Try.func93, Try.ntmps93
  go_wp2_with (go_at_call 111; refine I.out.mono ?_; rintro e _ ⟨rfl, d, os, rfl⟩)
  go_ret
  exact ⟨rfl, more w d os, by repeat (first | exact Ext.refl _ | apply Ext.alloc | apply Ext.more), by rw [more_setCell _ _ _ _ _ _ hb]⟩

theorem fld_at (k a : Int) (s : ByteArray) (i : Int) (w : World) : (Instr.field 57 (.agg #[.int .i64 k, .int .i64 a, .string s, .int .i64 i]) 1).run Try.prog w = .ok (.int .i64 a) w := by kernel_rfl
theorem fld_s (k a : Int) (s : ByteArray) (i : Int) (w : World) : (Instr.field 57 (.agg #[.int .i64 k, .int .i64 a, .string s, .int .i64 i]) 2).run Try.prog w = .ok (.string s) w := by kernel_rfl
theorem fld_i (k a : Int) (s : ByteArray) (i : Int) (w : World) : (Instr.field 57 (.agg #[.int .i64 k, .int .i64 a, .string s, .int .i64 i]) 3).run Try.prog w = .ok (.int .i64 i) w := by kernel_rfl
attribute [go_sem] fld_at fld_s fld_i

set_option maxHeartbeats 1000000 in
theorem fail_any {b lb lo cap : Nat} {nv : Value} {L : Toks} {m : Nat} {N : List Nd} {w : World} (h : St b lb lo cap nv L m N w) (c : Int) :
    Calls Try.prog 44 #[.pointer (some ⟨b, 0, none⟩), .int .i64 c] w fun e w' => e = noV c (tk L m).2 ∧ Ext w w' := by
  have TK : RowKit.Hid (∀ w1, Ext w w1 → Calls Try.prog 43 #[.pointer (some ⟨b, 0, none⟩)] w1 fun e w' => e = .returned (tokV (tk L m).1 (tk L m).2) ∧ Ext w1 w') := Lib.hid fun w1 hx => tok_any (h.ext hx)
  obtain ⟨⟨⟨k, ts, i⟩, a⟩, htt⟩ : ∃ tt, tk L m = tt := ⟨_, rfl⟩
  rw [htt] at TK ⊢
  unfold tokV at TK
  dsimp only at TK ⊢
  clear htt h
  go_enter Try.func44, Try.ntmps44
  go_wp2_with (go_at_call 43; refine (TK.out _ (by repeat (first | exact Ext.refl _ | apply Ext.alloc | apply Ext.more))).mono ?_; rintro e _ ⟨rfl, d2, os2, rfl⟩)
  exact ⟨rfl, rfl, by repeat (first | exact Ext.refl _ | apply Ext.alloc | apply Ext.more)⟩

theorem PPost.err {α : Type} {V : α → Value} {b lb lo cap : Nat} {nv nv' : Value} {L : Toks} {m : Nat} {N : List Nd} {w w' : World} {c a : Int} {e : Ending} (he : e = noV c a) (hk : Kp b nv nv' w w') : PPost V b lb lo cap nv L m N w (.error (c, a)) e w' := ⟨he, nv', hk⟩
theorem PPost.res {α : Type} {V : α → Value} {b lb lo cap : Nat} {nv nv' : Value} {L : Toks} {m m' : Nat} {N ns : List Nd} {w w' : World} {v : α} {e : Ending} (he : e = .returned (V v)) (hs : St b lb lo cap nv' L m' (N ++ ns) w') (hk : Kp b nv nv' w w') (hm : m ≤ m') :
    PPost V b lb lo cap nv L m N w (.ok (v, m', ns)) e w' := ⟨he, nv', hs, hk, hm⟩

set_option maxHeartbeats 1000000 in
theorem deep_any {b lb lo cap : Nat} {nv : Value} {L : Toks} {m : Nat} {N : List Nd} {w : World} (h : St b lb lo cap nv L m N w) (d : Nat) (hd : d ≤ 17) (r : PR Unit) (hr : deepP L d m N.length = r) :
    Calls Try.prog 41 #[.pointer (some ⟨b, 0, none⟩), .int .i64 (d : Int)] w (PPost unitV b lb lo cap nv L m N w r) := by
  subst hr
  have FL : RowKit.Hid (∀ (c : Int) w1, Ext w w1 → Calls Try.prog 44 #[.pointer (some ⟨b, 0, none⟩), .int .i64 c] w1 fun e w' => e = noV c (tk L m).2 ∧ Ext w1 w') := Lib.hid fun c w1 hx => fail_any (h.ext hx) c
  by_cases h16 : 16 < d
  · unfold deepP
    rw [if_pos h16]
    have h17 : (16 : Int) < (d : Int) := by omega
    refine Calls.mono (R := fun e w' => e = noV 14 (tk L m).2 ∧ Ext w w') ?_ fun e w' ⟨he, hx⟩ => PPost.err he ((Kp.refl b nv w).ext hx)
    clear h h16
    go_enter Try.func41, Try.ntmps41
    go_wp2_with (go_at_call 44; refine (FL.out _ _ (by repeat (first | exact Ext.refl _ | apply Ext.alloc | apply Ext.more))).mono ?_; rintro e _ ⟨he, d3, os3, rfl⟩; unfold noV at he; subst he)
    exact ⟨rfl, rfl, by repeat (first | exact Ext.refl _ | apply Ext.alloc | apply Ext.more)⟩
  · unfold deepP
    rw [if_neg h16]
    have h17 : (d : Int) ≤ 16 := by omega
    refine Calls.mono (R := fun e w' => e = .returned (.tuple #[]) ∧ Ext w w') ?_ fun e w' ⟨he, hx⟩ => PPost.res he (by simpa using h.ext hx) ((Kp.refl b nv w).ext hx) (Nat.le_refl _)
    clear h h16
    go_enter Try.func41, Try.ntmps41
    go_wp2_with (go_at_call 44; refine (FL.out _ _ (by repeat (first | exact Ext.refl _ | apply Ext.alloc | apply Ext.more))).mono ?_; rintro e _ ⟨he, d3, os3, rfl⟩; unfold noV at he; subst he)
    go_end0
    exact ⟨rfl, by repeat (first | exact Ext.refl _ | apply Ext.alloc | apply Ext.more)⟩

set_option maxHeartbeats 1000000 in
theorem of_any {b lb lo cap : Nat} {nv : Value} {L : Toks} {m : Nat} {N : List Nd} {w : World} (h : St b lb lo cap nv L m N w) (k0 : Int) (h0 : k0 ≠ 0) (r : PR Tok) (hr : ofP L k0 m N.length = r) :
    Calls Try.prog 32 #[.pointer (some ⟨b, 0, none⟩), .int .i64 k0] w (PPost (fun t => tokV t (tk L m).2) b lb lo cap nv L m N w r) := by
  subst hr
  have TK : RowKit.Hid (∀ w1, Ext w w1 → Calls Try.prog 43 #[.pointer (some ⟨b, 0, none⟩)] w1 fun e w' => e = .returned (tokV (tk L m).1 (tk L m).2) ∧ Ext w1 w') := Lib.hid fun w1 hx => tok_any (h.ext hx)
  have FL : RowKit.Hid (∀ (c : Int) w1, Ext w w1 → Calls Try.prog 44 #[.pointer (some ⟨b, 0, none⟩), .int .i64 c] w1 fun e w' => e = noV c (tk L m).2 ∧ Ext w1 w') := Lib.hid fun c w1 hx => fail_any (h.ext hx) c
  have hm : (m : Int) ≤ 5000 := by have := h.ends.few; have := h.pos; omega
  have hm0 : 0 ≤ (m : Int) := by omega
  have hnx : (tk L m).1.k = k0 → m + 1 < L.length := fun e => h.next (by rw [e]; exact h0)
  have H := Lib.hid h
  obtain ⟨c0, c1, c2, c3, f1, f2, f3, hb⟩ := h.facts
  clear h c0 c2 c3 f2 f3
  obtain ⟨⟨⟨k, ts, i⟩, a⟩, htt⟩ : ∃ tt, tk L m = tt := ⟨_, rfl⟩
  unfold ofP
  rw [htt] at TK FL hnx ⊢
  unfold tokV at TK
  unfold tokV
  dsimp only at TK FL hnx ⊢
  clear htt
  by_cases hk : k = k0
  · rw [if_pos hk]
    have hlt := hnx hk
    subst hk
    refine Calls.mono (R := fun e w' => e = .returned (.agg #[.int .i64 k, .int .i64 a, .string ts, .int .i64 i]) ∧ ∃ w1 w2, Ext w w1 ∧ w2 = w1.setCell ⟨b, 1, none⟩ (.int .i64 ((m : Int) + 1)) ∧ Ext w2 w') ?_
      fun e w' ⟨he, w1, w2, hx, hw, hx2⟩ => PPost.res he (by rw [List.append_nil]; exact (hw ▸ (H.out.ext hx).setAt (m + 1) _ (by omega) hlt).ext hx2) ((hw ▸ ((Kp.refl b nv w).ext hx).setB 1 _).ext hx2) (Nat.le_succ _)
    clear hnx
    have hlt := Lib.hid hlt
    have hkk : (k != k) = false := by simp
    go_enter Try.func32, Try.ntmps32
    go_wp2_with (first | (go_at_call 43; refine (TK.out _ (by repeat (first | exact Ext.refl _ | apply Ext.alloc | apply Ext.more))).mono ?_; rintro e _ ⟨rfl, d2, os2, rfl⟩) | (go_at_call 44; refine (FL.out _ _ (by repeat (first | exact Ext.refl _ | apply Ext.alloc | apply Ext.more))).mono ?_; rintro e _ ⟨he, d3, os3, rfl⟩; unfold noV at he; subst he))
    exact bodyPost_ret (v := .agg #[.int .i64 k, .int .i64 a, .string ts, .int .i64 i]) (by simp [results, Try.results32, go_sem]) rfl ⟨rfl, _, _, Ext.refl _, rfl, by repeat (first | exact Ext.refl _ | apply Ext.alloc | apply Ext.more)⟩
  · rw [if_neg hk]
    have hkk : (k != k0) = true := by simpa using hk
    refine Calls.mono (R := fun e w' => e = noV 3 a ∧ Ext w w') ?_ fun e w' ⟨he, hx⟩ => PPost.err he ((Kp.refl b nv w).ext hx)
    clear hnx hk
    go_enter Try.func32, Try.ntmps32
    go_wp2_with (first | (go_at_call 43; refine (TK.out _ (by repeat (first | exact Ext.refl _ | apply Ext.alloc | apply Ext.more))).mono ?_; rintro e _ ⟨rfl, d2, os2, rfl⟩) | (go_at_call 44; refine (FL.out _ _ (by repeat (first | exact Ext.refl _ | apply Ext.alloc | apply Ext.more))).mono ?_; rintro e _ ⟨he, d3, os3, rfl⟩; unfold noV at he; subst he))
    exact ⟨rfl, rfl, by repeat (first | exact Ext.refl _ | apply Ext.alloc | apply Ext.more)⟩

theorem ndInfo : (Try.prog.info? 52).map (fun i => (i.zero, i.size, i.bytes)) = some (some (.agg #[.int .i64 0, .int .i64 0, .int .i64 0, .int .i64 0, .int .i64 0, .int .i64 0, .string ⟨#[]⟩, .string ⟨#[]⟩]), 8, 80) := by kernel_rfl
theorem nv_form {b lb lo cap : Nat} {nv : Value} {L : Toks} {m : Nat} {N : List Nd} {w : World} (h : St b lb lo cap nv L m N w) : ∃ len c p, nv = .slice p len c ∧ len = N.length := by
  rcases Go.Joins.ownsRow_forms h.row with ⟨rfl, h0⟩ | ⟨g1, c, rfl⟩
  · exact ⟨_, _, _, rfl, h0.symm⟩
  · exact ⟨_, _, _, rfl, rfl⟩
theorem news_splitP {w : World} {N d1 d2 : Nat} {os1 os2 : Array Obj} {cs : Array Value} {t : TypeId} (hN : N = w.heap.size + os1.size) :
    ∀ j u, cs.toList[j]? = some u → (more ((more w d1 os1).alloc (.cells cs t)) d2 os2).cell? ((⟨N, 0, none⟩ : Addr).add j) = some u := by
  intro j u h
  have hN' : N = (more w d1 os1).heap.size := by rw [more_size]; exact hN
  subst hN'
  rw [Addr.add_lit, more_cell _ _ _ _ _ (by simp)]
  simp only [World.cell?, heap_alloc_new]
  simpa using h

set_option maxHeartbeats 2000000 in
set_option maxRecDepth 20000 in
theorem lay_any {b lb lo cap : Nat} {nv : Value} {L : Toks} {m : Nat} {N : List Nd} {w : World} (h : St b lb lo cap nv L m N w) (zk za zb zc zx zi : Int) (zs zt : ByteArray) (r : PR Int) (hr : layP L ⟨zk, za, zb, zc, zx, zi, zs, zt⟩ m N.length = r) :
    Calls Try.prog 68 #[.pointer (some ⟨b, 0, none⟩), .agg #[.int .i64 zk, .int .i64 za, .int .i64 zb, .int .i64 zc, .int .i64 zx, .int .i64 zi, .string zs, .string zt]] w (PPost intV b lb lo cap nv L m N w r) := by
  subst hr
  have FL : RowKit.Hid (∀ (c : Int) w1, Ext w w1 → Calls Try.prog 44 #[.pointer (some ⟨b, 0, none⟩), .int .i64 c] w1 fun e w' => e = noV c (tk L m).2 ∧ Ext w1 w') := Lib.hid fun c w1 hx => fail_any (h.ext hx) c
  obtain ⟨len, c, p, rfl, hlen⟩ := nv_form h
  have hcnt := h.cnt
  subst hlen
  have H := Lib.hid h
  obtain ⟨c0, c1, c2, c3, f1, f2, f3, hb⟩ := h.facts
  unfold layP
  by_cases h5 : N.length = 512
  · rw [if_pos h5]
    have q5 : ((N.length : Int) == 512) = true := by rw [h5]; rfl
    refine Calls.mono (R := fun e w' => e = noV 5 (tk L m).2 ∧ Ext w w') ?_ fun e w' ⟨he, hx⟩ => PPost.err he ((Kp.refl b _ w).ext hx)
    clear h h5 c0 c1 c3 f1 f3
    go_enter Try.func68, Try.ntmps68
    go_wp2_with (go_at_call 44; refine (FL.out _ _ (by repeat (first | exact Ext.refl _ | apply Ext.alloc | apply Ext.more))).mono ?_; rintro e _ ⟨he, d3, os3, rfl⟩; unfold noV at he; subst he)
    exact ⟨rfl, rfl, by repeat (first | exact Ext.refl _ | apply Ext.alloc | apply Ext.more)⟩
  · rw [if_neg h5]
    have q5 : ((N.length : Int) == 512) = false := by simp; omega
    have h512 : N.length < 512 := by omega
    have H5 := Lib.hid h512
    have hmx : (N.length : Int) ≤ 511 := by omega
    obtain ⟨i0, hi, hz0, hz1, hz2⟩ := info_parts ndInfo
    clear h h5 c0 c1 c3 f1 f3 h512 hcnt FL
    go_enter Try.func68, Try.ntmps68
    go_wp2_with fail
    refine wp_region_grow 8 33 [true, false, false, false, false, false, false, false] (by kernel_rfl) (by kernel_rfl) rfl ?_
    simp only [List.take_succ_cons, List.take_zero, List.drop_succ_cons, List.drop_zero]
    refine Lex.stepP rfl rfl ?_; intro K hK; go_simp; refine hK _ ?_; clear hK K
    iterate 6 (refine Lex.step rfl ?_; intro K hK; unfold StepG; go_simp; refine hK _ ?_; clear hK K)
    refine Lex.sliceLit 21 (.cells #[.int .i64 zk, .int .i64 za, .int .i64 zb, .int .i64 zc, .int .i64 zx, .int .i64 zi, .string zs, .string zt] 52) 1 1 rfl rfl (fun d os => ?_) ?_
    · unfold StepG
      go_simp
      exact ⟨(Ext.refl _).alloc _, NewSl.of_alloc _ _ _ _ _ _ _ (by simp [more_size])⟩
    refine Lex.nil fun WW hE => ?_
    intro u hu
    obtain ⟨d1, os1, d2, os2, rfl, rfl⟩ := hu.split hE
    clear hu hE
    go_simp
    unfold FillH
    go_wp2_with (at_builtin; refine wpList_append_own_at _ rfl _ _ 22 rfl (b + 1) 52 i0 (.agg #[.int .i64 0, .int .i64 0, .int .i64 0, .int .i64 0, .int .i64 0, .int .i64 0, .string ⟨#[]⟩, .string ⟨#[]⟩]) 8 80 Try.underlying22 hi hz0 hz1 hz2 rfl (by decide) (.slice p N.length c) N.length (ndCells N) rfl ?c0 ⟨_, 0, none⟩ 1 1 [.int .i64 zk, .int .i64 za, .int .i64 zb, .int .i64 zc, .int .i64 zx, .int .i64 zi, .string zs, .string zt] rfl rfl ?c1 ?c2 ?c3 ?c4 ?c5 ?_)
    case c0 => repeat (first | (with_reducible exact H.out.row) | (with_reducible apply own_more) | (with_reducible refine World.ownsRow.alloc ?_ _))
    case c1 => exact news_splitP (by simp [more_size])
    case c2 => intro u hu; simp at hu; rcases hu with rfl | rfl | rfl | rfl | rfl | rfl | rfl | rfl <;> rfl
    case c3 => unfold maxLen; omega
    case c4 => omega
    case c5 => simp [more_size]; omega
    intro v' w1 hown' hgrow _ hblk
    have HS : RowKit.Hid (St b lb lo cap v' L m (N ++ [⟨zk, za, zb, zc, zx, zi, zs, zt⟩]) (w1.setCell ⟨b, 2, none⟩ v')) := Lib.hid (St.push (by repeat (first | (with_reducible exact H.out) | (with_reducible apply St.alloc) | (with_reducible apply St.more))) hown' hgrow H5.out)
    have HK : RowKit.Hid (Kp b (.slice p N.length c) v' w (w1.setCell ⟨b, 2, none⟩ v')) := Lib.hid (Kp.push (by repeat (first | (with_reducible exact Kp.refl _ _ _) | (with_reducible apply Kp.alloc) | (with_reducible apply Kp.more))) hgrow (by simp only [more_size, World.size_alloc]; exact hblk))
    obtain ⟨hc2, hb1, hb2⟩ := St.grownFacts (by repeat (first | (with_reducible exact H.out) | (with_reducible apply St.alloc) | (with_reducible apply St.more))) hgrow
    have hb3 : ∃ g cap1, v' = .slice (some ⟨g, 0, none⟩) (N.length + 1) cap1 := by obtain ⟨g1, cap1, rfl, _, _⟩ := hown'.form (by omega); exact ⟨_, _, rfl⟩
    obtain ⟨g1, cap1, rfl⟩ := hb3
    clear hown' hgrow hblk
    go_wp2_with fail
    first | rw [ends_normal] | skip
    go_wp2_with fail
    go_ret
    exact PPost.res (by first | rfl | (show Ending.returned (.int .i64 _) = _; exact ret_int (by omega))) HS.out HK.out (Nat.le_refl _)

set_option maxHeartbeats 1000000 in
theorem node_any (k : Int) (w : World) : Calls Try.prog 65 #[.int .i64 k] w fun e w' => e = .returned (.agg #[.int .i64 k, .int .i64 (-1), .int .i64 (-1), .int .i64 (-1), .int .i64 (-1), .int .i64 0, .string ⟨#[]⟩, .string ⟨#[]⟩]) ∧ Ext w w' := by
  go_enter Try.func65, Try.ntmps65
  go_wp2_with fail
  exact bodyPost_ret (v := .agg #[.int .i64 k, .int .i64 (-1), .int .i64 (-1), .int .i64 (-1), .int .i64 (-1), .int .i64 0, .string ⟨#[]⟩, .string ⟨#[]⟩]) (by simp [results, Try.results65, go_sem]) rfl ⟨rfl, by repeat (first | exact Ext.refl _ | apply Ext.alloc | apply Ext.more)⟩

theorem isP_ne {L : Toks} {m : Nat} {s : ByteArray} (h : isP L s m = true) : (tk L m).1.k ≠ 0 := by
  unfold isP at h
  intro e
  rw [e] at h
  split at h <;> simp at h

/-- what the walk reads of a node of one's own -/
theorem Loc.node {b : Nat} {nv : Value} {k : Nat} {w : World} {v0 v1 v2 v3 v4 v5 v6 v7 : Value} (h : Loc b nv k (.cells #[v0, v1, v2, v3, v4, v5, v6, v7] 52 (0, 0)) w) :
    w.cell? ⟨k, 0, none⟩ = some v0 ∧ w.cell? ⟨k, 1, none⟩ = some v1 ∧ w.cell? ⟨k, 2, none⟩ = some v2 ∧ w.cell? ⟨k, 3, none⟩ = some v3 ∧ w.cell? ⟨k, 4, none⟩ = some v4 ∧ w.cell? ⟨k, 5, none⟩ = some v5 ∧ w.cell? ⟨k, 6, none⟩ = some v6 ∧ w.cell? ⟨k, 7, none⟩ = some v7 ∧
    w.frozen? ⟨k, 0, none⟩ = false ∧ w.frozen? ⟨k, 1, none⟩ = false ∧ w.frozen? ⟨k, 2, none⟩ = false ∧ w.frozen? ⟨k, 3, none⟩ = false ∧ w.frozen? ⟨k, 5, none⟩ = false ∧ w.frozen? ⟨k, 6, none⟩ = false ∧ w.frozen? ⟨k, 7, none⟩ = false ∧ k < w.heap.size := by
  have := h.is
  refine ⟨?_, ?_, ?_, ?_, ?_, ?_, ?_, ?_, ?_, ?_, ?_, ?_, ?_, ?_, ?_, h.lt⟩ <;> simp [World.cell?, World.frozen?, this]

theorem takes_any {b lb lo cap : Nat} {nv : Value} {L : Toks} {m : Nat} {N : List Nd} {w : World} (h : St b lb lo cap nv L m N w) (s : ByteArray) (r : PR Bool) (hr : takesP L s m N.length = r) :
    Calls Try.prog 93 #[.pointer (some ⟨b, 0, none⟩), .string s] w (PPost (fun x => .bool x) b lb lo cap nv L m N w r) := by
  subst hr
  unfold takesP
  by_cases hp : isP L s m = true
  · rw [if_pos hp]
    refine (takes_yes h s hp).mono fun e w' ⟨he, w1, hx, hw⟩ => ?_
    subst hw
    exact PPost.res he (by rw [List.append_nil]; exact (h.ext hx).setAt (m + 1) _ (by omega) (h.next (isP_ne hp))) (((Kp.refl b nv w).ext hx).setB 1 _) (Nat.le_succ _)
  · rw [if_neg hp]
    refine (takes_no h s (by simpa using hp)).mono fun e w' ⟨he, hx⟩ => ?_
    exact PPost.res he (by rw [List.append_nil]; exact h.ext hx) ((Kp.refl b nv w).ext hx) (Nat.le_refl _)

theorem mustP_yes {L : Toks} {s : ByteArray} {r : List ByteArray} {m n : Nat} (h : isP L s m = true) : mustP L (s :: r) m n = mustP L r (m + 1) n := by
  rw [mustP, pbind_ok (v := ()) (m1 := m + 1) (ns := []) (by unfold must1; rw [if_pos h]), prep_nil]; rfl
theorem mustP_no {L : Toks} {s : ByteArray} {r : List ByteArray} {m n : Nat} (h : isP L s m = false) : mustP L (s :: r) m n = .error (3, (tk L m).2) := by
  rw [mustP]; exact pbind_err (by unfold must1; rw [h]; rfl)
theorem drop_cons {α : Type} (ss : List α) (j : Nat) (d : α) (h : j < ss.length) : ss.drop j = ss.getD j d :: ss.drop (j + 1) := by
  rw [List.drop_eq_getElem_cons h]; simp [List.getD, List.getElem?_eq_getElem h]
/-- a row of texts of one's own -/
def strs (ss : List ByteArray) : Obj := .cells (ss.map Value.string).toArray 9 (0, 0)
theorem Loc.str {b : Nat} {nv : Value} {g : Nat} {ss : List ByteArray} {w : World} (h : Loc b nv g (strs ss) w) (j : Nat) (hj : j < ss.length) : w.cell? ⟨g, j, none⟩ = some (.string (ss.getD j ⟨#[]⟩)) := by
  have := h.is
  unfold strs at this
  simp [World.cell?, this, List.getD, List.getElem?_eq_getElem hj]

set_option maxHeartbeats 2000000 in
theorem must_any {b lb lo cap : Nat} {nv : Value} {L : Toks} {m : Nat} {N : List Nd} {w : World} (h : St b lb lo cap nv L m N w) (ss : List ByteArray) (g c : Nat) (hg : Loc b nv g (strs ss) w) (hss : ss.length ≤ 100) (r : PR Unit) (hr : mustP L ss m N.length = r) :
    Calls Try.prog 94 #[.pointer (some ⟨b, 0, none⟩), .slice (some ⟨g, 0, none⟩) ss.length c] w (PPost unitV b lb lo cap nv L m N w r) := by
  have H := Lib.hid h
  have G := Lib.hid hg
  have R := Lib.hid hr
  have hsz : (ss.length : Int) ≤ 100 := by omega
  clear h hg hr
  go_enter Try.func94, Try.ntmps94
  go_wp2_with fail
  go_loopw [8] (fun i wr => ∃ j : Nat, i = .int .i64 (j : Int) ∧ j ≤ ss.length ∧ St b lb lo cap nv L (m + j) N wr ∧ Kp b nv nv w wr ∧ mustP L (ss.drop j) (m + j) N.length = r) (fun i _ => ss.length - (intOf i).toNat)
  case atStart => exact ⟨0, rfl, Nat.zero_le _, H.out, Kp.refl _ _ _, R.out⟩
  case round =>
    obtain ⟨j, rfl, hj, hst, hkp, hr⟩ := hrel
    by_cases hlt : j < ss.length
    · have hlt2 : (j : Int) < (ss.length : Int) := by omega
      have hj0 : 0 ≤ (j : Int) := by omega
      have hcell := ((G.out.kp hkp).str j hlt)
      rw [drop_cons ss j ⟨#[]⟩ hlt] at hr
      obtain ⟨s, hs⟩ : ∃ s, ss.getD j ⟨#[]⟩ = s := ⟨_, rfl⟩
      rw [hs] at hcell hr
      have HS := Lib.hid hst
      have HK := Lib.hid hkp
      cases hp : isP L s (m + j)
      · rw [mustP_no hp] at hr
        subst hr
        have T := Lib.hid (takes_no hst s hp)
        have FL := fun c (w1 : World) (hx : Ext wr w1) => fail_any (hst.ext hx) c
        have FL := Lib.hid FL
        clear hst hkp hlt hs hp R
        go_wp2_with (first
          | (go_at_call 93; refine T.out.mono ?_; rintro e _ ⟨rfl, d, os, rfl⟩)
          | (go_at_call 44; refine (FL.out _ _ (by repeat (first | exact Ext.refl _ | apply Ext.alloc | apply Ext.more))).mono ?_; rintro e _ ⟨he, d3, os3, rfl⟩; unfold noV at he; subst he))
        exact ⟨rfl, PPost.err rfl (HK.out.ext (by repeat (first | exact Ext.refl _ | apply Ext.alloc | apply Ext.more)))⟩
      · rw [mustP_yes hp] at hr
        have R := Lib.hid hr
        have T := Lib.hid (takes_yes hst s hp)
        have NX := Lib.hid (hst.next (isP_ne hp))
        clear hst hkp hlt hs hp hr
        go_wp2_with (go_at_call 93; refine T.out.mono ?_; rintro e _ ⟨rfl, w1, hx, rfl⟩; have HX := Lib.hid hx; clear hx)
        go_roundw
        case rel => exact ⟨j + 1, by go_num, by omega, by rw [← Nat.add_assoc]; exact (HS.out.ext HX.out).setAt (m + j + 1) _ (by omega) NX.out, (HK.out.ext HX.out).setB 1 _, by rw [← Nat.add_assoc]; exact R.out⟩
        case measure => simp [intOf]; omega
    · have hge : (ss.length : Int) ≤ (j : Int) := by omega
      have e : ss.drop j = [] := List.drop_eq_nil_of_le (by omega)
      rw [e, mustP] at hr
      have R2 := Lib.hid hr
      have HS := Lib.hid hst
      have HK := Lib.hid hkp
      clear hr e hst hkp
      go_wp2_with fail
      go_end0
      have := R2.out
      subst this
      exact PPost.res rfl (by rw [List.append_nil]; exact HS.out) HK.out (Nat.le_add_right _ _)

def optV : Option ByteArray → Value
  | none => .tuple #[.string ⟨#[]⟩, .bool false]
  | some s => .tuple #[.string s, .bool true]
def findP (L : Toks) (m : Nat) (ss : List ByteArray) : PR (Option ByteArray) := match ss.find? (fun s => isP L s m) with
  | none => .ok (none, m, [])
  | some s => .ok (some s, m + 1, [])
theorem findP_yes {L : Toks} {s : ByteArray} {r : List ByteArray} {m : Nat} (h : isP L s m = true) : findP L m (s :: r) = .ok (some s, m + 1, []) := by
  unfold findP; rw [List.find?_cons]; simp [h]
theorem findP_no {L : Toks} {s : ByteArray} {r : List ByteArray} {m : Nat} (h : isP L s m = false) : findP L m (s :: r) = findP L m r := by
  unfold findP; rw [List.find?_cons]; simp [h]

set_option maxHeartbeats 2000000 in
theorem oneOf_any {b lb lo cap : Nat} {nv : Value} {L : Toks} {m : Nat} {N : List Nd} {w : World} (h : St b lb lo cap nv L m N w) (ss : List ByteArray) (g c : Nat) (hg : Loc b nv g (strs ss) w) (hss : ss.length ≤ 100) (r : PR (Option ByteArray)) (hr : oneOfP L ss m N.length = r) :
    Calls Try.prog 118 #[.pointer (some ⟨b, 0, none⟩), .slice (some ⟨g, 0, none⟩) ss.length c] w (PPost optV b lb lo cap nv L m N w r) := by
  have H := Lib.hid h
  have G := Lib.hid hg
  have hr2 : findP L m ss = r := hr
  have R := Lib.hid hr2
  have hsz : (ss.length : Int) ≤ 100 := by omega
  clear h hg hr hr2
  go_enter Try.func118, Try.ntmps118
  go_wp2_with fail
  go_loopw [10] (fun i wr => ∃ j : Nat, i = .int .i64 (j : Int) ∧ j ≤ ss.length ∧ St b lb lo cap nv L m N wr ∧ Kp b nv nv w wr ∧ findP L m (ss.drop j) = r) (fun i _ => ss.length - (intOf i).toNat)
  case atStart => exact ⟨0, rfl, Nat.zero_le _, H.out, Kp.refl _ _ _, R.out⟩
  case round =>
    obtain ⟨j, rfl, hj, hst, hkp, hr⟩ := hrel
    by_cases hlt : j < ss.length
    · have hlt2 : (j : Int) < (ss.length : Int) := by omega
      have hj0 : 0 ≤ (j : Int) := by omega
      have hcell := ((G.out.kp hkp).str j hlt)
      rw [drop_cons ss j ⟨#[]⟩ hlt] at hr
      obtain ⟨s, hs⟩ : ∃ s, ss.getD j ⟨#[]⟩ = s := ⟨_, rfl⟩
      rw [hs] at hcell hr
      have HS := Lib.hid hst
      have HK := Lib.hid hkp
      cases hp : isP L s m
      · rw [findP_no hp] at hr
        have R2 := Lib.hid hr
        have T := Lib.hid (takes_no hst s hp)
        clear hst hkp hlt hs hp R hr
        go_wp2_with (go_at_call 93; refine T.out.mono ?_; rintro e _ ⟨rfl, d, os, rfl⟩)
        go_roundw
        case rel => exact ⟨j + 1, by go_num, by omega, HS.out.more _ _, HK.out.more _ _, R2.out⟩
        case measure => simp [intOf]; omega
      · rw [findP_yes hp] at hr
        have R2 := Lib.hid hr
        have T := Lib.hid (takes_yes hst s hp)
        have NX := Lib.hid (hst.next (isP_ne hp))
        clear hst hkp hlt hs hp hr R
        go_wp2_with (go_at_call 93; refine T.out.mono ?_; rintro e _ ⟨rfl, w1, hx, rfl⟩; have HX := Lib.hid hx; clear hx)
        go_ret2
        have := R2.out
        subst this
        exact PPost.res rfl (by rw [List.append_nil]; exact (HS.out.ext HX.out).setAt (m + 1) _ (by omega) NX.out) ((HK.out.ext HX.out).setB 1 _) (Nat.le_succ _)
    · have hge : (ss.length : Int) ≤ (j : Int) := by omega
      have e : ss.drop j = [] := List.drop_eq_nil_of_le (by omega)
      rw [e] at hr
      have R2 := Lib.hid hr
      have HS := Lib.hid hst
      have HK := Lib.hid hkp
      clear hr e hst hkp
      go_wp2_with fail
      go_ret2
      have := R2.out
      subst this
      exact PPost.res rfl (by rw [List.append_nil]; exact HS.out) HK.out (Nat.le_refl _)

set_option maxHeartbeats 2000000 in
theorem turns_any {b lb lo cap : Nat} {nv : Value} {L : Toks} {m : Nat} {N : List Nd} {w : World} (h : St b lb lo cap nv L m N w) (r : PR Int) (hr : turnsP L m N.length = r) :
    Calls Try.prog 66 #[.pointer (some ⟨b, 0, none⟩)] w (PPost intV b lb lo cap nv L m N w r) := by
  have TK : RowKit.Hid (∀ w1, Ext w w1 → Calls Try.prog 43 #[.pointer (some ⟨b, 0, none⟩)] w1 fun e w' => e = .returned (tokV (tk L m).1 (tk L m).2) ∧ Ext w1 w') := Lib.hid fun w1 hx => tok_any (h.ext hx)
  have FL : RowKit.Hid (∀ (c : Int) w1, Ext w w1 → Calls Try.prog 44 #[.pointer (some ⟨b, 0, none⟩), .int .i64 c] w1 fun e w' => e = noV c (tk L m).2 ∧ Ext w1 w') := Lib.hid fun c w1 hx => fail_any (h.ext hx) c
  have OF : RowKit.Hid (∀ w1, Ext w w1 → Calls Try.prog 32 #[.pointer (some ⟨b, 0, none⟩), .int .i64 2] w1 (PPost (fun t => tokV t (tk L m).2) b lb lo cap nv L m N w1 (ofP L 2 m N.length))) := Lib.hid fun w1 hx => of_any (h.ext hx) 2 (by decide) _ rfl
  have H := Lib.hid h
  obtain ⟨⟨⟨k, ts, i⟩, a⟩, htt⟩ : ∃ tt, tk L m = tt := ⟨_, rfl⟩
  unfold turnsP pbind at hr
  unfold ofP at OF hr
  rw [htt] at TK FL OF hr
  unfold tokV at TK OF
  dsimp only at TK FL hr OF
  clear htt h
  by_cases hk : k = 2
  · subst hk
    by_cases hi : 64 < i
    · rw [if_pos ⟨rfl, hi⟩] at hr
      subst hr
      go_enter Try.func66, Try.ntmps66
      go_wp2_with (first | (go_at_call 43; refine (TK.out _ (by repeat (first | exact Ext.refl _ | apply Ext.alloc | apply Ext.more))).mono ?_; rintro e _ ⟨rfl, d2, os2, rfl⟩) | (go_at_call 44; refine (FL.out _ _ (by repeat (first | exact Ext.refl _ | apply Ext.alloc | apply Ext.more))).mono ?_; rintro e _ ⟨he, d3, os3, rfl⟩; unfold noV at he; subst he))
      exact ⟨rfl, PPost.err rfl ((Kp.refl b nv w).ext (by repeat (first | exact Ext.refl _ | apply Ext.alloc | apply Ext.more)))⟩
    · rw [if_neg (by omega), if_pos rfl] at hr
      rw [if_pos rfl] at OF
      subst hr
      have hi2 : i ≤ 64 := by omega
      clear hi
      go_enter Try.func66, Try.ntmps66
      go_wp2_with (first | (go_at_call 43; refine (TK.out _ (by repeat (first | exact Ext.refl _ | apply Ext.alloc | apply Ext.more))).mono ?_; rintro e _ ⟨rfl, d2, os2, rfl⟩) | (go_at_call 44; refine (FL.out _ _ (by repeat (first | exact Ext.refl _ | apply Ext.alloc | apply Ext.more))).mono ?_; rintro e _ ⟨he, d3, os3, rfl⟩; unfold noV at he; subst he) | (go_at_call 32; refine (OF.out _ (by repeat (first | exact Ext.refl _ | apply Ext.alloc | apply Ext.more))).mono ?_; rintro e w1 ⟨rfl, nv1, hs1, hk1, _⟩; have HS1 := Lib.hid hs1; have HK1 := Lib.hid hk1; clear hs1 hk1))
      go_ret
      exact PPost.res rfl HS1.out (((Kp.refl b nv w).ext (by repeat (first | exact Ext.refl _ | apply Ext.alloc | apply Ext.more))).trans HK1.out) (Nat.le_succ _)
  · rw [if_neg (by omega), if_neg hk] at hr
    rw [if_neg hk] at OF
    subst hr
    have hk2 : (k == 2) = false := by simpa using hk
    clear hk
    go_enter Try.func66, Try.ntmps66
    go_wp2_with (first | (go_at_call 43; refine (TK.out _ (by repeat (first | exact Ext.refl _ | apply Ext.alloc | apply Ext.more))).mono ?_; rintro e _ ⟨rfl, d2, os2, rfl⟩) | (go_at_call 44; refine (FL.out _ _ (by repeat (first | exact Ext.refl _ | apply Ext.alloc | apply Ext.more))).mono ?_; rintro e _ ⟨he, d3, os3, rfl⟩; unfold noV at he; subst he) | (go_at_call 32; refine (OF.out _ (by repeat (first | exact Ext.refl _ | apply Ext.alloc | apply Ext.more))).mono ?_; rintro e w1 ⟨he, nv1, hk1⟩; have HK1 := Lib.hid hk1; clear hk1; unfold noV at he; subst he))
    exact ⟨rfl, PPost.err rfl (((Kp.refl b nv w).ext (by repeat (first | exact Ext.refl _ | apply Ext.alloc | apply Ext.more))).trans HK1.out)⟩
end Go.Proofs.Ytoaaklcbcbjaiaa
