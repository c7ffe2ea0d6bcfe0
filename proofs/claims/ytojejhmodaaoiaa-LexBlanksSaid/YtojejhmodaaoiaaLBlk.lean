/- LexBlanks: blanks and remarks more between tokens change nothing but their places; tokens stand in order. No condition. -/
import Derived.Test.YtojejhmodaaoiaaLexA
import Derived.Test.YtojejhmodaaoiaaLexB
import Derived.Test.YtojejhmodaaoiaaRow
import Derived.Test.YtojejhmodaaoiaaRows
import Derived.OpenShut
import Derived.LoopTactic
import Derived.Outline
import Derived.IntWalk
set_option linter.unusedSimpArgs false
set_option linter.unusedVariables false
namespace Go.Proofs.Ytojejhmodaaoiaa
open Go.RowKit

def BlkPost (w : World) (e : Ending) (w' : World) : Prop := e = .returned (.bool true) ∧ Ext w w'

set_option maxHeartbeats 2000000 in
set_option maxRecDepth 20000 in
theorem blk_err (s t : ByteArray) (hst : (600 < s.size ∧ s.extract 0 600 = t) ∨ (s.size ≤ 600 ∧ s = t)) (er : Int) (he : er ≠ 0) (p : Int)
    (HT : RowKit.Hid (∀ w, Calls Try.prog 8 #[.string t] w fun e w' => e = .returned (.tuple #[.slice none 0 0, .int .i64 er, .int .i64 p]) ∧ Ext w w')) (w : World) :
    Calls Try.prog 4 #[.string s] w (BlkPost w) := by
  have he1 : (er == 0) = false := by simpa using he
  have he2 : (er != 0) = true := by simpa using he
  clear he
  rcases hst with ⟨h1, rfl⟩ | ⟨h1, rfl⟩
  all_goals
    go_enter Try.func4, Try.ntmps4
    go_wp2_with (first
      | (go_at_call 8; (with_reducible refine (HT.out _).mono ?_); rintro e _ ⟨rfl, d, os, rfl⟩)
      | (go_at_call 7; refine (awake_any _).mono ?_; rintro e _ ⟨rfl, d, os, rfl⟩))
    go_ret
    exact ⟨rfl, by repeat (first | exact Ext.refl _ | apply Ext.alloc | apply Ext.more)⟩

def TokPost1 (l : List (Tok × Nat)) (n : Nat) (w : World) (e : Ending) (w' : World) : Prop :=
  ∃ g cap, e = .returned (.tuple #[.slice (some ⟨g, 0, none⟩) n cap, .int .i64 0, .int .i64 0]) ∧ n ≤ cap ∧ w'.ownsRow w.heap.size 28 4 (.slice (some ⟨g, 0, none⟩) n cap) n (tokCells l) ∧ Ext w w'
theorem last_cells {w : World} {base g cap m n : Nat} {l : List (Tok × Nat)} {k : Nat} (h : w.ownsRow base 28 4 (.slice (some ⟨g, 0, none⟩) m cap) m (tokCells l)) (hl : l[k]? = some (tok0, n)) :
    w.cell? ⟨g, k * 4, none⟩ = some (.int .i64 0) ∧ w.cell? ⟨g, k * 4 + 1, none⟩ = some (.int .i64 (n : Int)) ∧ w.cell? ⟨g, k * 4 + 2, none⟩ = some (.string ⟨#[]⟩) ∧ w.cell? ⟨g, k * 4 + 3, none⟩ = some (.int .i64 0) := by
  obtain ⟨h0, h1, h2, h3⟩ := cells_get l k tok0 n hl
  exact ⟨tok_cell h _ _ h0, tok_cell h _ _ h1, tok_cell h _ _ h2, tok_cell h _ _ h3⟩
theorem ext_piece (s : ByteArray) (p : List UInt8) (a : Nat) (h : (s.data.toList.drop a).take p.length = p) : s.extract a (a + p.length) = ⟨p.toArray⟩ := by rw [extract_take, h]
theorem ba_app3 (A p : List UInt8) : (⟨A.toArray⟩ : ByteArray) ++ ((⟨#[32, 35, 32, 97, 32, 114, 101, 109, 97, 114, 107, 32, 10, 9]⟩ : ByteArray) ++ ⟨p.toArray⟩) = ⟨(A ++ (rem ++ p)).toArray⟩ := by
  apply ByteArray.ext
  simp [rem]

set_option maxHeartbeats 4000000 in
set_option maxRecDepth 20000 in
theorem blk_big (s t : ByteArray) (hst : (600 < s.size ∧ s.extract 0 600 = t) ∨ (s.size ≤ 600 ∧ s = t)) (l : List (Tok × Nat)) (ps : List (Tok × List UInt8)) (m : Nat) (hm : ps.length = m) (hlm : m ≤ 600) (ht6 : t.size ≤ 600)
    (HT : RowKit.Hid (∀ w, Calls Try.prog 8 #[.string t] w (TokPost1 l (m + 1) w)))
    (HLAST : RowKit.Hid (l[m]? = some (tok0, t.size))) (hwl : (wideOf ps).length ≤ 9000)
    (HJ : RowKit.Hid (∀ j, j < m → ∃ tk p a u, ps[j]? = some (tk, p) ∧ l[j]? = some (tk, a) ∧ l[j + 1]? = some (u, a + p.length) ∧ a + p.length ≤ t.size ∧ 0 < p.length ∧ (t.data.toList.drop a).take p.length = p)) (hbig : 4096 < (wideOf ps).length)
    (HT2 : RowKit.Hid (∀ w, Calls Try.prog 8 #[.string ⟨(wideOf ps).toArray⟩] w fun e w' => e = .returned (.tuple #[.slice none 0 0, .int .i64 5, .int .i64 4096]) ∧ Ext w w')) (w : World) :
    Calls Try.prog 4 #[.string s] w (BlkPost w) := by
  have hm1 : (m : Int) ≤ 600 := by omega
  rcases hst with ⟨h1, ht⟩ | ⟨h1, rfl⟩
  · have h2 : (600 : Int) < s.size := by omega
    go_enter Try.func4, Try.ntmps4
    go_wp2_with (go_at_call 8; (with_reducible refine (HT.out _).mono ?_); rintro e w1 ⟨g, cap, rfl, hcap, hown, hx⟩; have HOWN := Lib.hid hown; have HX := Lib.hid hx; have hgs := (hown.lt g rfl).2; obtain ⟨c0, c1, c2, c3⟩ := last_cells hown HLAST.out; clear hown hx)
    clear c0 c1 c2 c3
    go_loopw [6, 7] (fun wd ii wr => ∃ (k d : Nat) (os : Array Obj), ii = .int .i64 (k : Int) ∧ k ≤ m ∧ wd = .string ⟨(wideOf (ps.take k)).toArray⟩ ∧ wr = more w1 d os) (fun _ ii _ => m - (intOf ii).toNat)
    case atStart => exact ⟨0, w1.drawn, #[], rfl, by omega, rfl, by simp [more]⟩
    case round =>
      obtain ⟨k, d0, os0, rfl, hk, rfl, rfl⟩ := hrel
      by_cases hlt : k < m
      · obtain ⟨tk, p, a, u, j1, j2, j3, j4, j5, j6⟩ := HJ.out k hlt
        have hex := ext_piece t p a j6
        have hst := wide_take ps k tk p j1
        have hal := wide_take_len ps k
        obtain ⟨A, hA⟩ : ∃ A, wideOf (ps.take k) = A := ⟨_, rfl⟩
        rw [hA] at hst hal ⊢
        have HST := Lib.hid hst
        obtain ⟨q, hq⟩ : ∃ q, p.length = q := ⟨_, rfl⟩
        rw [hq] at j3 j4 j5 hex
        have ca := tok_cell HOWN.out _ _ (cells_get l k tk a j2).2.1
        have cb := tok_cell HOWN.out _ _ (cells_get l (k + 1) u (a + q) j3).2.1
        have hps : (⟨p.toArray⟩ : ByteArray).size = q := by rw [← hq]; rfl
        have hA9 : A.length ≤ 9000 := by omega
        have k1 : (0 : Int) ≤ a := by omega
        have k2 : ((a : Int) + q ≤ t.size) := by omega
        have k3 : (a : Int) < a + q := by omega
        have k4 : (q : Int) ≤ 600 := by omega
        have hkm : (k : Int) < m := by omega
        have hk5 : (k : Int) < m + 1 := by omega
        clear j1 j2 j3 j4 j5 j6 hst hal hA hq
        have k6 : (0 : Int) ≤ (a : Int) + q := by omega
        have k7 : (a : Int) ≤ (a : Int) + q := by omega
        have hw4 : ((a : Int) + q).toNat = a + q := by omega
        have hw5 : (9223372036854775807 < 14 + q) = False := by simp; omega
        have hw6 : (9223372036854775807 < A.length + (14 + q)) = False := by simp; omega
        have hw1 : IntKind.i64.wrap ((k : Int) + 1) = (k : Int) + 1 := IntWalk.i64_in _ (by omega)
        have hw2 : (0 : Int) ≤ (k : Int) + 1 := by omega
        have hw3 : ((k : Int) + 1).toNat = k + 1 := by omega
        go_wp2_with fail
        refine wp_region_grow 31 169 [false, false, false, false, false, false, false, false, false, false, false, false, false, false, false, false, false, false, false, false, false, false, false, false, false, false, false, false, false, false, false] (by kernel_rfl) (by kernel_rfl) rfl ?_
        simp only [List.take_succ_cons, List.take_zero, List.drop_succ_cons, List.drop_zero]
        repeat (refine Lex.step rfl ?_; intro K hK; unfold StepG; go_simp; (first
            | refine hK _ ?_); clear hK K)
        refine Lex.nil fun WW hE => ?_
        obtain ⟨dd, oo, rfl⟩ := hE
        unfold FillH
        go_wp2_with fail
        rw [ends_normal]
        go_wp2_with fail
        refine wp_region_grow 17 169 [false, false, false, false, false, false, false, false, false, false, false, false, false, false, false, false, false] (by kernel_rfl) (by kernel_rfl) rfl ?_
        simp only [List.take_succ_cons, List.take_zero, List.drop_succ_cons, List.drop_zero]
        repeat (refine Lex.step rfl ?_; intro K hK; unfold StepG; go_simp; (first
            | refine hK _ ?_); clear hK K)
        refine Lex.nil fun WW hE => ?_
        obtain ⟨dd, oo, rfl⟩ := hE
        unfold FillH
        go_wp2_with fail
        rw [ends_normal]
        clear hw1 hw2 hw3 hw4 hw5 hw6
        go_wp2_with fail
        go_roundw
        case rel =>
          refine ⟨k + 1, _, _, by go_num, by omega, ?_, rfl⟩
          rw [HST.out]
          exact congrArg Value.string (ba_app3 A p)
        case measure => simp [intOf]; omega
      · have hkm : k = m := by omega
        subst hkm
        have hall : ps.take k = ps := List.take_of_length_le (by omega)
        rw [hall]
        have hwb : (⟨(wideOf ps).toArray⟩ : ByteArray).size = (wideOf ps).length := rfl
        obtain ⟨WL, hWL⟩ : ∃ WL, (wideOf ps).length = WL := ⟨_, rfl⟩
        rw [hWL] at hwb hbig
        have hbz : (4096 : Int) < WL := by omega
        clear hWL hwl hall
        go_wp2_with (first
          | (go_at_call 8; (with_reducible refine (HT2.out _).mono ?_); rintro e _ ⟨rfl, d, os, rfl⟩)
          | (go_at_call 7; refine (awake_any _).mono ?_; rintro e _ ⟨rfl, d, os, rfl⟩))
        go_ret
        exact ⟨rfl, (HX.out.more _ _).trans (by repeat (first | exact Ext.refl _ | apply Ext.alloc | apply Ext.more))⟩
  · have h2 : (s.size : Int) ≤ 600 := by omega
    go_enter Try.func4, Try.ntmps4
    go_wp2_with (go_at_call 8; (with_reducible refine (HT.out _).mono ?_); rintro e w1 ⟨g, cap, rfl, hcap, hown, hx⟩; have HOWN := Lib.hid hown; have HX := Lib.hid hx; have hgs := (hown.lt g rfl).2; obtain ⟨c0, c1, c2, c3⟩ := last_cells hown HLAST.out; clear hown hx)
    clear c0 c1 c2 c3
    go_loopw [6, 7] (fun wd ii wr => ∃ (k d : Nat) (os : Array Obj), ii = .int .i64 (k : Int) ∧ k ≤ m ∧ wd = .string ⟨(wideOf (ps.take k)).toArray⟩ ∧ wr = more w1 d os) (fun _ ii _ => m - (intOf ii).toNat)
    case atStart => exact ⟨0, w1.drawn, #[], rfl, by omega, rfl, by simp [more]⟩
    case round =>
      obtain ⟨k, d0, os0, rfl, hk, rfl, rfl⟩ := hrel
      by_cases hlt : k < m
      · obtain ⟨tk, p, a, u, j1, j2, j3, j4, j5, j6⟩ := HJ.out k hlt
        have hex := ext_piece s p a j6
        have hst := wide_take ps k tk p j1
        have hal := wide_take_len ps k
        obtain ⟨A, hA⟩ : ∃ A, wideOf (ps.take k) = A := ⟨_, rfl⟩
        rw [hA] at hst hal ⊢
        have HST := Lib.hid hst
        obtain ⟨q, hq⟩ : ∃ q, p.length = q := ⟨_, rfl⟩
        rw [hq] at j3 j4 j5 hex
        have ca := tok_cell HOWN.out _ _ (cells_get l k tk a j2).2.1
        have cb := tok_cell HOWN.out _ _ (cells_get l (k + 1) u (a + q) j3).2.1
        have hps : (⟨p.toArray⟩ : ByteArray).size = q := by rw [← hq]; rfl
        have hA9 : A.length ≤ 9000 := by omega
        have k1 : (0 : Int) ≤ a := by omega
        have k2 : ((a : Int) + q ≤ s.size) := by omega
        have k3 : (a : Int) < a + q := by omega
        have k4 : (q : Int) ≤ 600 := by omega
        have hkm : (k : Int) < m := by omega
        have hk5 : (k : Int) < m + 1 := by omega
        clear j1 j2 j3 j4 j5 j6 hst hal hA hq
        have k6 : (0 : Int) ≤ (a : Int) + q := by omega
        have k7 : (a : Int) ≤ (a : Int) + q := by omega
        have hw4 : ((a : Int) + q).toNat = a + q := by omega
        have hw5 : (9223372036854775807 < 14 + q) = False := by simp; omega
        have hw6 : (9223372036854775807 < A.length + (14 + q)) = False := by simp; omega
        have hw1 : IntKind.i64.wrap ((k : Int) + 1) = (k : Int) + 1 := IntWalk.i64_in _ (by omega)
        have hw2 : (0 : Int) ≤ (k : Int) + 1 := by omega
        have hw3 : ((k : Int) + 1).toNat = k + 1 := by omega
        go_wp2_with fail
        refine wp_region_grow 31 169 [false, false, false, false, false, false, false, false, false, false, false, false, false, false, false, false, false, false, false, false, false, false, false, false, false, false, false, false, false, false, false] (by kernel_rfl) (by kernel_rfl) rfl ?_
        simp only [List.take_succ_cons, List.take_zero, List.drop_succ_cons, List.drop_zero]
        repeat (refine Lex.step rfl ?_; intro K hK; unfold StepG; go_simp; (first
            | refine hK _ ?_); clear hK K)
        refine Lex.nil fun WW hE => ?_
        obtain ⟨dd, oo, rfl⟩ := hE
        unfold FillH
        go_wp2_with fail
        rw [ends_normal]
        go_wp2_with fail
        refine wp_region_grow 17 169 [false, false, false, false, false, false, false, false, false, false, false, false, false, false, false, false, false] (by kernel_rfl) (by kernel_rfl) rfl ?_
        simp only [List.take_succ_cons, List.take_zero, List.drop_succ_cons, List.drop_zero]
        repeat (refine Lex.step rfl ?_; intro K hK; unfold StepG; go_simp; (first
            | refine hK _ ?_); clear hK K)
        refine Lex.nil fun WW hE => ?_
        obtain ⟨dd, oo, rfl⟩ := hE
        unfold FillH
        go_wp2_with fail
        rw [ends_normal]
        clear hw1 hw2 hw3 hw4 hw5 hw6
        go_wp2_with fail
        go_roundw
        case rel =>
          refine ⟨k + 1, _, _, by go_num, by omega, ?_, rfl⟩
          rw [HST.out]
          exact congrArg Value.string (ba_app3 A p)
        case measure => simp [intOf]; omega
      · have hkm : k = m := by omega
        subst hkm
        have hall : ps.take k = ps := List.take_of_length_le (by omega)
        rw [hall]
        have hwb : (⟨(wideOf ps).toArray⟩ : ByteArray).size = (wideOf ps).length := rfl
        obtain ⟨WL, hWL⟩ : ∃ WL, (wideOf ps).length = WL := ⟨_, rfl⟩
        rw [hWL] at hwb hbig
        have hbz : (4096 : Int) < WL := by omega
        clear hWL hwl hall
        go_wp2_with (first
          | (go_at_call 8; (with_reducible refine (HT2.out _).mono ?_); rintro e _ ⟨rfl, d, os, rfl⟩)
          | (go_at_call 7; refine (awake_any _).mono ?_; rintro e _ ⟨rfl, d, os, rfl⟩))
        go_ret
        exact ⟨rfl, (HX.out.more _ _).trans (by repeat (first | exact Ext.refl _ | apply Ext.alloc | apply Ext.more))⟩

set_option maxHeartbeats 4000000 in
set_option maxRecDepth 20000 in
theorem blk_fit (s t : ByteArray) (hst : (600 < s.size ∧ s.extract 0 600 = t) ∨ (s.size ≤ 600 ∧ s = t)) (l l2 : List (Tok × Nat)) (ps : List (Tok × List UInt8)) (m : Nat) (hm : ps.length = m) (hlm : m ≤ 600) (ht6 : t.size ≤ 600)
    (HT : RowKit.Hid (∀ w, Calls Try.prog 8 #[.string t] w (TokPost1 l (m + 1) w)))
    (HLAST : RowKit.Hid (l[m]? = some (tok0, t.size))) (hwl : (wideOf ps).length ≤ 9000)
    (HJ : RowKit.Hid (∀ j, j < m → ∃ tk p a u, ps[j]? = some (tk, p) ∧ l[j]? = some (tk, a) ∧ l[j + 1]? = some (u, a + p.length) ∧ a + p.length ≤ t.size ∧ 0 < p.length ∧ (t.data.toList.drop a).take p.length = p))
    (HT2 : RowKit.Hid (∀ w, Calls Try.prog 8 #[.string ⟨(wideOf ps).toArray⟩] w (TokPost1 l2 (m + 1) w))) (HL : RowKit.Hid (∀ j, j < m + 1 → ∃ tk a, l[j]? = some (tk, a))) (HM : RowKit.Hid (∀ (j : Nat) (tk : Tok) (a : Nat), l[j]? = some (tk, a) → ∃ b : Nat, l2[j]? = some (tk, b))) (w : World) :
    Calls Try.prog 4 #[.string s] w (BlkPost w) := by
  have hm1 : (m : Int) ≤ 600 := by omega
  rcases hst with ⟨h1, ht⟩ | ⟨h1, rfl⟩
  · have h2 : (600 : Int) < s.size := by omega
    go_enter Try.func4, Try.ntmps4
    go_wp2_with (go_at_call 8; (with_reducible refine (HT.out _).mono ?_); rintro e w1 ⟨g, cap, rfl, hcap, hown, hx⟩; have HOWN := Lib.hid hown; have HX := Lib.hid hx; have hgs := (hown.lt g rfl).2; obtain ⟨c0, c1, c2, c3⟩ := last_cells hown HLAST.out; clear hown hx)
    clear c0 c1 c2 c3
    go_loopw [6, 7] (fun wd ii wr => ∃ (k d : Nat) (os : Array Obj), ii = .int .i64 (k : Int) ∧ k ≤ m ∧ wd = .string ⟨(wideOf (ps.take k)).toArray⟩ ∧ wr = more w1 d os) (fun _ ii _ => m - (intOf ii).toNat)
    case atStart => exact ⟨0, w1.drawn, #[], rfl, by omega, rfl, by simp [more]⟩
    case round =>
      obtain ⟨k, d0, os0, rfl, hk, rfl, rfl⟩ := hrel
      by_cases hlt : k < m
      · obtain ⟨tk, p, a, u, j1, j2, j3, j4, j5, j6⟩ := HJ.out k hlt
        have hex := ext_piece t p a j6
        have hst := wide_take ps k tk p j1
        have hal := wide_take_len ps k
        obtain ⟨A, hA⟩ : ∃ A, wideOf (ps.take k) = A := ⟨_, rfl⟩
        rw [hA] at hst hal ⊢
        have HST := Lib.hid hst
        obtain ⟨q, hq⟩ : ∃ q, p.length = q := ⟨_, rfl⟩
        rw [hq] at j3 j4 j5 hex
        have ca := tok_cell HOWN.out _ _ (cells_get l k tk a j2).2.1
        have cb := tok_cell HOWN.out _ _ (cells_get l (k + 1) u (a + q) j3).2.1
        have hps : (⟨p.toArray⟩ : ByteArray).size = q := by rw [← hq]; rfl
        have hA9 : A.length ≤ 9000 := by omega
        have k1 : (0 : Int) ≤ a := by omega
        have k2 : ((a : Int) + q ≤ t.size) := by omega
        have k3 : (a : Int) < a + q := by omega
        have k4 : (q : Int) ≤ 600 := by omega
        have hkm : (k : Int) < m := by omega
        have hk5 : (k : Int) < m + 1 := by omega
        clear j1 j2 j3 j4 j5 j6 hst hal hA hq
        have k6 : (0 : Int) ≤ (a : Int) + q := by omega
        have k7 : (a : Int) ≤ (a : Int) + q := by omega
        have hw4 : ((a : Int) + q).toNat = a + q := by omega
        have hw5 : (9223372036854775807 < 14 + q) = False := by simp; omega
        have hw6 : (9223372036854775807 < A.length + (14 + q)) = False := by simp; omega
        have hw1 : IntKind.i64.wrap ((k : Int) + 1) = (k : Int) + 1 := IntWalk.i64_in _ (by omega)
        have hw2 : (0 : Int) ≤ (k : Int) + 1 := by omega
        have hw3 : ((k : Int) + 1).toNat = k + 1 := by omega
        go_wp2_with fail
        refine wp_region_grow 31 169 [false, false, false, false, false, false, false, false, false, false, false, false, false, false, false, false, false, false, false, false, false, false, false, false, false, false, false, false, false, false, false] (by kernel_rfl) (by kernel_rfl) rfl ?_
        simp only [List.take_succ_cons, List.take_zero, List.drop_succ_cons, List.drop_zero]
        repeat (refine Lex.step rfl ?_; intro K hK; unfold StepG; go_simp; (first
            | refine hK _ ?_); clear hK K)
        refine Lex.nil fun WW hE => ?_
        obtain ⟨dd, oo, rfl⟩ := hE
        unfold FillH
        go_wp2_with fail
        rw [ends_normal]
        go_wp2_with fail
        refine wp_region_grow 17 169 [false, false, false, false, false, false, false, false, false, false, false, false, false, false, false, false, false] (by kernel_rfl) (by kernel_rfl) rfl ?_
        simp only [List.take_succ_cons, List.take_zero, List.drop_succ_cons, List.drop_zero]
        repeat (refine Lex.step rfl ?_; intro K hK; unfold StepG; go_simp; (first
            | refine hK _ ?_); clear hK K)
        refine Lex.nil fun WW hE => ?_
        obtain ⟨dd, oo, rfl⟩ := hE
        unfold FillH
        go_wp2_with fail
        rw [ends_normal]
        clear hw1 hw2 hw3 hw4 hw5 hw6
        go_wp2_with fail
        go_roundw
        case rel =>
          refine ⟨k + 1, _, _, by go_num, by omega, ?_, rfl⟩
          rw [HST.out]
          exact congrArg Value.string (ba_app3 A p)
        case measure => simp [intOf]; omega
      · have hkm : k = m := by omega
        subst hkm
        have hall : ps.take k = ps := List.take_of_length_le (by omega)
        rw [hall]
        clear hall hwl
        go_wp2_with (go_at_call 8; (with_reducible refine (HT2.out _).mono ?_); rintro e w2 ⟨g2, cap2, rfl, hcap2, hown2, hx2⟩; have HOWN2 := Lib.hid hown2; have HX2 := Lib.hid hx2; have hgs2 := (hown2.lt g2 rfl).2; have HOWN3 := Lib.hid (own_ext (own_more HOWN.out d0 os0) hx2); clear hown2 hx2)
        go_loopw [11] (fun ii wr => ∃ (k' d : Nat) (os : Array Obj), ii = .int .i64 (k' : Int) ∧ k' ≤ k + 1 ∧ wr = more w2 d os) (fun ii _ => k + 1 - (intOf ii).toNat)
        case atStart => exact ⟨0, w2.drawn, #[], rfl, by omega, by simp [more]⟩
        case round =>
          obtain ⟨k', d3, os3, rfl, hk', rfl⟩ := hrel
          by_cases hlt : k' < k + 1
          · obtain ⟨tk, a, hl⟩ : ∃ tk a, l[k']? = some (tk, a) := HL.out k' hlt
            obtain ⟨b, hm2⟩ := HM.out k' tk a hl
            obtain ⟨a0, a1, a2, a3⟩ := cells_get l k' tk a hl
            obtain ⟨b0, b1, b2, b3⟩ := cells_get l2 k' tk b hm2
            have ca0 := tok_cell HOWN3.out _ _ a0
            have ca2 := tok_cell HOWN3.out _ _ a2
            have ca3 := tok_cell HOWN3.out _ _ a3
            have cb0 := tok_cell HOWN2.out _ _ b0
            have cb2 := tok_cell HOWN2.out _ _ b2
            have cb3 := tok_cell HOWN2.out _ _ b3
            have hgs3 := (HOWN3.out.lt g rfl).2
            have hk2 : (k' : Int) < k + 1 := by omega
            clear a0 a1 a2 a3 b0 b1 b2 b3 hl hm2
            go_wp2_with fail
            refine wp_region_grow 37 169 [false, false, false, false, false, false, false, false, false, false, false, false, false, false, false, false, false, false, false, false, false, false, false, false, false, false, false, false, false, false, false, false, false, false, false, false, false] (by kernel_rfl) (by kernel_rfl) rfl ?_
            simp only [List.take_succ_cons, List.take_zero, List.drop_succ_cons, List.drop_zero]
            repeat (refine Lex.step rfl ?_; intro K hK; unfold StepG; go_simp; (first
                | refine hK _ ?_); clear hK K)
            refine Lex.nil fun WW hE => ?_
            obtain ⟨dd, oo, rfl⟩ := hE
            unfold FillH
            go_wp2_with fail
            rw [ends_normal]
            go_wp2_with fail
            go_roundw
            case rel => exact ⟨k' + 1, _, _, by go_num, by omega, rfl⟩
            case measure => simp [intOf]; omega
          · have hkm : k' = k + 1 := by omega
            subst hkm
            go_wp2_with (go_at_call 7; refine (awake_any _).mono ?_; rintro e _ ⟨rfl, d, os, rfl⟩)
            go_ret
            exact ⟨rfl, ((HX.out.more _ _).trans HX2.out).trans (by repeat (first | exact Ext.refl _ | apply Ext.alloc | apply Ext.more))⟩
  · have h2 : (s.size : Int) ≤ 600 := by omega
    go_enter Try.func4, Try.ntmps4
    go_wp2_with (go_at_call 8; (with_reducible refine (HT.out _).mono ?_); rintro e w1 ⟨g, cap, rfl, hcap, hown, hx⟩; have HOWN := Lib.hid hown; have HX := Lib.hid hx; have hgs := (hown.lt g rfl).2; obtain ⟨c0, c1, c2, c3⟩ := last_cells hown HLAST.out; clear hown hx)
    clear c0 c1 c2 c3
    go_loopw [6, 7] (fun wd ii wr => ∃ (k d : Nat) (os : Array Obj), ii = .int .i64 (k : Int) ∧ k ≤ m ∧ wd = .string ⟨(wideOf (ps.take k)).toArray⟩ ∧ wr = more w1 d os) (fun _ ii _ => m - (intOf ii).toNat)
    case atStart => exact ⟨0, w1.drawn, #[], rfl, by omega, rfl, by simp [more]⟩
    case round =>
      obtain ⟨k, d0, os0, rfl, hk, rfl, rfl⟩ := hrel
      by_cases hlt : k < m
      · obtain ⟨tk, p, a, u, j1, j2, j3, j4, j5, j6⟩ := HJ.out k hlt
        have hex := ext_piece s p a j6
        have hst := wide_take ps k tk p j1
        have hal := wide_take_len ps k
        obtain ⟨A, hA⟩ : ∃ A, wideOf (ps.take k) = A := ⟨_, rfl⟩
        rw [hA] at hst hal ⊢
        have HST := Lib.hid hst
        obtain ⟨q, hq⟩ : ∃ q, p.length = q := ⟨_, rfl⟩
        rw [hq] at j3 j4 j5 hex
        have ca := tok_cell HOWN.out _ _ (cells_get l k tk a j2).2.1
        have cb := tok_cell HOWN.out _ _ (cells_get l (k + 1) u (a + q) j3).2.1
        have hps : (⟨p.toArray⟩ : ByteArray).size = q := by rw [← hq]; rfl
        have hA9 : A.length ≤ 9000 := by omega
        have k1 : (0 : Int) ≤ a := by omega
        have k2 : ((a : Int) + q ≤ s.size) := by omega
        have k3 : (a : Int) < a + q := by omega
        have k4 : (q : Int) ≤ 600 := by omega
        have hkm : (k : Int) < m := by omega
        have hk5 : (k : Int) < m + 1 := by omega
        clear j1 j2 j3 j4 j5 j6 hst hal hA hq
        have k6 : (0 : Int) ≤ (a : Int) + q := by omega
        have k7 : (a : Int) ≤ (a : Int) + q := by omega
        have hw4 : ((a : Int) + q).toNat = a + q := by omega
        have hw5 : (9223372036854775807 < 14 + q) = False := by simp; omega
        have hw6 : (9223372036854775807 < A.length + (14 + q)) = False := by simp; omega
        have hw1 : IntKind.i64.wrap ((k : Int) + 1) = (k : Int) + 1 := IntWalk.i64_in _ (by omega)
        have hw2 : (0 : Int) ≤ (k : Int) + 1 := by omega
        have hw3 : ((k : Int) + 1).toNat = k + 1 := by omega
        go_wp2_with fail
        refine wp_region_grow 31 169 [false, false, false, false, false, false, false, false, false, false, false, false, false, false, false, false, false, false, false, false, false, false, false, false, false, false, false, false, false, false, false] (by kernel_rfl) (by kernel_rfl) rfl ?_
        simp only [List.take_succ_cons, List.take_zero, List.drop_succ_cons, List.drop_zero]
        repeat (refine Lex.step rfl ?_; intro K hK; unfold StepG; go_simp; (first
            | refine hK _ ?_); clear hK K)
        refine Lex.nil fun WW hE => ?_
        obtain ⟨dd, oo, rfl⟩ := hE
        unfold FillH
        go_wp2_with fail
        rw [ends_normal]
        go_wp2_with fail
        refine wp_region_grow 17 169 [false, false, false, false, false, false, false, false, false, false, false, false, false, false, false, false, false] (by kernel_rfl) (by kernel_rfl) rfl ?_
        simp only [List.take_succ_cons, List.take_zero, List.drop_succ_cons, List.drop_zero]
        repeat (refine Lex.step rfl ?_; intro K hK; unfold StepG; go_simp; (first
            | refine hK _ ?_); clear hK K)
        refine Lex.nil fun WW hE => ?_
        obtain ⟨dd, oo, rfl⟩ := hE
        unfold FillH
        go_wp2_with fail
        rw [ends_normal]
        clear hw1 hw2 hw3 hw4 hw5 hw6
        go_wp2_with fail
        go_roundw
        case rel =>
          refine ⟨k + 1, _, _, by go_num, by omega, ?_, rfl⟩
          rw [HST.out]
          exact congrArg Value.string (ba_app3 A p)
        case measure => simp [intOf]; omega
      · have hkm : k = m := by omega
        subst hkm
        have hall : ps.take k = ps := List.take_of_length_le (by omega)
        rw [hall]
        clear hall hwl
        go_wp2_with (go_at_call 8; (with_reducible refine (HT2.out _).mono ?_); rintro e w2 ⟨g2, cap2, rfl, hcap2, hown2, hx2⟩; have HOWN2 := Lib.hid hown2; have HX2 := Lib.hid hx2; have hgs2 := (hown2.lt g2 rfl).2; have HOWN3 := Lib.hid (own_ext (own_more HOWN.out d0 os0) hx2); clear hown2 hx2)
        go_loopw [11] (fun ii wr => ∃ (k' d : Nat) (os : Array Obj), ii = .int .i64 (k' : Int) ∧ k' ≤ k + 1 ∧ wr = more w2 d os) (fun ii _ => k + 1 - (intOf ii).toNat)
        case atStart => exact ⟨0, w2.drawn, #[], rfl, by omega, by simp [more]⟩
        case round =>
          obtain ⟨k', d3, os3, rfl, hk', rfl⟩ := hrel
          by_cases hlt : k' < k + 1
          · obtain ⟨tk, a, hl⟩ : ∃ tk a, l[k']? = some (tk, a) := HL.out k' hlt
            obtain ⟨b, hm2⟩ := HM.out k' tk a hl
            obtain ⟨a0, a1, a2, a3⟩ := cells_get l k' tk a hl
            obtain ⟨b0, b1, b2, b3⟩ := cells_get l2 k' tk b hm2
            have ca0 := tok_cell HOWN3.out _ _ a0
            have ca2 := tok_cell HOWN3.out _ _ a2
            have ca3 := tok_cell HOWN3.out _ _ a3
            have cb0 := tok_cell HOWN2.out _ _ b0
            have cb2 := tok_cell HOWN2.out _ _ b2
            have cb3 := tok_cell HOWN2.out _ _ b3
            have hgs3 := (HOWN3.out.lt g rfl).2
            have hk2 : (k' : Int) < k + 1 := by omega
            clear a0 a1 a2 a3 b0 b1 b2 b3 hl hm2
            go_wp2_with fail
            refine wp_region_grow 37 169 [false, false, false, false, false, false, false, false, false, false, false, false, false, false, false, false, false, false, false, false, false, false, false, false, false, false, false, false, false, false, false, false, false, false, false, false, false] (by kernel_rfl) (by kernel_rfl) rfl ?_
            simp only [List.take_succ_cons, List.take_zero, List.drop_succ_cons, List.drop_zero]
            repeat (refine Lex.step rfl ?_; intro K hK; unfold StepG; go_simp; (first
                | refine hK _ ?_); clear hK K)
            refine Lex.nil fun WW hE => ?_
            obtain ⟨dd, oo, rfl⟩ := hE
            unfold FillH
            go_wp2_with fail
            rw [ends_normal]
            go_wp2_with fail
            go_roundw
            case rel => exact ⟨k' + 1, _, _, by go_num, by omega, rfl⟩
            case measure => simp [intOf]; omega
          · have hkm : k' = k + 1 := by omega
            subst hkm
            go_wp2_with (go_at_call 7; refine (awake_any _).mono ?_; rintro e _ ⟨rfl, d, os, rfl⟩)
            go_ret
            exact ⟨rfl, ((HX.out.more _ _).trans HX2.out).trans (by repeat (first | exact Ext.refl _ | apply Ext.alloc | apply Ext.more))⟩


theorem tok1_any (t : ByteArray) (l : List (Tok × Nat)) (x n : Nat) (h : lexF t.data.toList = (l, 0, x)) (hn : l.length = n) (w : World) : Calls Try.prog 8 #[.string t] w (TokPost1 l n w) := by
  subst hn
  refine (tokens_any t _ h w).mono ?_
  rintro e w' (⟨_, g, cap, rfl, ho, hx⟩ | ⟨h, _⟩)
  · exact ⟨g, cap, rfl, tok_cap ho, ho, hx⟩
  · exact absurd rfl h

theorem tok_err (t : ByteArray) (l : List (Tok × Nat)) (er : Int) (x : Nat) (h : lexF t.data.toList = (l, er, x)) (he : er ≠ 0) (w : World) : Calls Try.prog 8 #[.string t] w fun e w' => e = .returned (.tuple #[.slice none 0 0, .int .i64 er, .int .i64 (x : Int)]) ∧ Ext w w' := by
  refine (tokens_any t _ h w).mono ?_
  rintro e w' (⟨h, _⟩ | ⟨_, h, hx⟩)
  · exact absurd h he
  · exact ⟨h, hx⟩

theorem blanks_walk (s : ByteArray) (w : World) : Calls Try.prog 4 #[.string s] w fun e w' => e = .returned (.bool true) ∧ Ext w w' := by
  obtain ⟨t, hst, ht⟩ : ∃ t, ((600 < s.size ∧ s.extract 0 600 = t) ∨ (s.size ≤ 600 ∧ s = t)) ∧ t.size ≤ 600 := by
    rcases Nat.lt_or_ge 600 s.size with h | h
    · exact ⟨_, Or.inl ⟨h, rfl⟩, by simp; omega⟩
    · exact ⟨s, Or.inr ⟨h, rfl⟩, h⟩
  have htl : t.data.toList.length = t.size := by simp
  obtain ⟨l, er, x, hlex⟩ : ∃ l er x, lexF t.data.toList = (l, er, x) := ⟨_, _, _, rfl⟩
  by_cases he : er = 0
  · subst he
    obtain ⟨ps, h1, h2, h3, h4, h5⟩ := blanks_law t.data.toList (by omega) l x hlex
    rw [htl] at h2 h4
    have hps : ps.length ≤ 600 := by
      rcases Nat.eq_zero_or_pos ps.length with h | h
      · omega
      · obtain ⟨ps2, g1, g2, g3⟩ := lex_pcs t.data.toList (t.data.toList.length + 1) 0 [] l x (by omega) (by omega) (by simp) (by unfold lexF at hlex; rw [if_neg (by omega)] at hlex; exact hlex)
        have hl := pcs_len g1
        rw [List.length_drop] at hl
        have : l.length = ps2.length + 1 := by rw [g2]; simp [posOf_length]
        omega
    by_cases hbig : 4096 < (wideOf ps).length
    · refine blk_big s t hst l ps _ rfl hps ht (Lib.hid fun w => tok1_any t l x _ hlex h1 w) (Lib.hid h2) h3 (Lib.hid h4) hbig (Lib.hid fun w => tok_err _ [] 5 4096 ?_ (by decide) w) w
      unfold lexF
      exact if_pos hbig
    · obtain ⟨l2, g1, g2, g3⟩ := h5 (by omega)
      refine blk_fit s t hst l l2 ps _ rfl hps ht (Lib.hid fun w => tok1_any t l x _ hlex h1 w) (Lib.hid h2) h3 (Lib.hid h4) (Lib.hid fun w => tok1_any _ l2 0 _ g1 g2 w) (Lib.hid fun j hj => ?_) (Lib.hid g3) w
      exact ⟨_, _, List.getElem?_eq_getElem (by omega)⟩
  · exact blk_err s t hst er he x (Lib.hid fun w => tok_err t l er x hlex he w) w

namespace LexBlanksRow
/-! ### The row -/
section
open Go.ChangeShapes Go.WideShapes Go.ChangeAt Go.RowKit Go.Joins
open Go.ChangeMaps (open_string shut_string)
theorem own : ownKnob Try.prog.godebug = none := by kernel_rfl
theorem laid : laidOutB Try.prog = true := by kernel_rfl

set_option maxRecDepth 100000 in
theorem lifted (os : Os) (started : os.Started) (H : Type) (enc : TypeId × Value → H) :
    ReturnsInHanded {} Try.checked os 4 .any (Rows.lexBlanksSpec.pre6 enc Try.prog Try.f4 Rows.lexBlanksRow.domain false) (Rows.lexBlanksSpec.post enc Try.prog Try.f4 false true false false) := by
  refine returnsInHanded_of_change_sized (C := Try.checked) own started (by kernel_rfl) Try.func4
    (ChangeSpec.witness6 (enc := enc) (C := Try.checked) false ⟨#[], #[.string ⟨#[]⟩], []⟩ 8 (by kernel_rfl) (by kernel_rfl) (by kernel_rfl) (by kernel_rfl)) ?_
  intro W base args ds gs before hval0 hW hcnd hsz0 _
  have hval : ∀ (j : Nat) t v, Try.f4.params[j]? = some t → args[j]? = some v → Value.okWide Try.prog W .any base t v := hval0
  have hW' := hW
  obtain ⟨p, q, hA0, hV, rfl, hfz, hnd⟩ := hW
  have hA : DataW.TrodAll enc Try.prog W 0 (fun _ => true) true Try.f4.params.toList args.toList ds p := hA0
  have hAk := hA
  have hpr : Try.f4.params.toList.all (fun t => Try.prog.readableRec t && decide (t < Try.prog.types.size)) = true := by kernel_rfl
  have hlt := hA.lt
  obtain ⟨rfl, rfl⟩ := trodVars_none hV
  have hsz : (DataW.weightsEach Try.prog (Try.f4.params.toList ++ []) (ds ++ [])).all (· ≤ reachBytes) = true := hsz0
  rw [Try.params4] at hA hval hsz
  simp only [List.append_nil] at hsz
  obtain ⟨v0, vs0, d0, ds0, p0, q0, hargs, rfl, rfl, h0, r0⟩ := trodAll_cons hA
  obtain ⟨rfl, rfl, rfl⟩ := trodAll_nil r0
  obtain rfl : args = #[v0] := by cases args; simp_all
  obtain ⟨s, rfl, rfl, rfl, ws⟩ := open_string Try.underlying9 (hval 0 9 v0 rfl rfl) h0
  have ss : s.size ≤ 140737488351232 := by
    have h := sized_string hsz (j := 0) rfl rfl
    have e : reachBytes = 140737488351232 := by decide
    rw [e] at h
    simpa using h
  clear hA0 hval0 hsz0
  refine (blanks_walk s W).mono fun e W' ⟨he, hx⟩ => ?_
  subst he
  exact ⟨_, rfl, _, _, _, [], _, [], hW', trodAll_mk1 (shut_bool Try.underlying4 _), trodAll_below laid hx.below hpr hAk hlt, rfl, hx.below.frame _, fun h => by cases h⟩

theorem proved : Rows.LexBlanksSaid :=
  OpenClaim.holds_of_wide 4 Try.f4 rfl rfl rfl rfl rfl rfl rfl ⟨rfl, rfl, rfl, rfl, rfl⟩ rfl rfl rfl rfl rfl (by kernel_rfl) Try.func4 (by kernel_rfl)
    (of_decide_eq_true (by kernel_rfl)) (by unfold Func.isWrapper; first | (rw [if_pos (by decide +kernel)]; kernel_rfl) | (rw [if_neg (by decide +kernel)]; exact ⟨rfl, rfl⟩))
    (fun os started H enc _ => lifted os started H enc)
end
#print axioms proved
end LexBlanksRow
end Go.Proofs.Ytojejhmodaaoiaa
