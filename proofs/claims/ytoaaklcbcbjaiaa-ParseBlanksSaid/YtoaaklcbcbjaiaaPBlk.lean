/- ParseBlanks: blanks and remarks between tokens change no node. No condition. -/
import Derived.Test.YtoaaklcbcbjaiaaLexC
import Derived.Test.YtoaaklcbcbjaiaaParC
import Derived.Test.YtoaaklcbcbjaiaaR16b
import Derived.Test.YtoaaklcbcbjaiaaRSame
import Derived.Test.YtoaaklcbcbjaiaaParO2
import Derived.Test.YtoaaklcbcbjaiaaRow
import Derived.Test.YtoaaklcbcbjaiaaRows
import Derived.OpenShut
import Derived.IntWalk
set_option linter.unusedSimpArgs false
set_option linter.unusedVariables false
namespace Go.Proofs.Ytoaaklcbcbjaiaa
open Go.RowKit
attribute [go_sem] more_more Array.size_append
theorem tokc {w : World} {base g cap n : Nat} {l : List (Tok × Nat)} (h : w.ownsRow base 57 4 (.slice (some ⟨g, 0, none⟩) n cap) n (tokCells l)) (j : Nat) (u : Value) (hj : (tokCells l)[j]? = some u) : w.cell? ⟨g, j, none⟩ = some u := by
  have := h.cells (g := g) rfl j u hj
  rwa [Addr.add_lit, Nat.zero_add] at this
theorem ba_app4 (A p : List UInt8) : (⟨A.toArray⟩ : ByteArray) ++ ((⟨#[9, 35, 33, 10]⟩ : ByteArray) ++ ⟨p.toArray⟩) = ⟨(A ++ (rem ++ p)).toArray⟩ := by
  apply ByteArray.ext
  simp [rem]
set_option maxHeartbeats 2000000 in
theorem pblk_lexerr (s b : ByteArray) (FW : RowKit.Hid (∀ w, Calls Try.prog 19 #[.string s] w fun e w' => e = .returned (.string b) ∧ Ext w w')) (r : List (Tok × Nat) × Int × Nat) (hr : r.2.1 ≠ 0) (HT : RowKit.Hid (∀ w, Calls Try.prog 25 #[.string b] w (TokPost16 w r))) (w : World) : Calls Try.prog 8 #[.string s] w fun e w' => e = .returned (.bool true) ∧ Ext w w' := by
  obtain ⟨l, ec, ea⟩ := r
  have q : (ec != 0) = true := by simpa using hr
  have HR := Lib.hid hr
  clear hr
  go_enter Try.func8, Try.ntmps8
  go_wp2_with (first
    | ((go_at_call 19; (with_reducible refine (FW.out _).mono ?_); rintro e _ ⟨rfl, d0, os0, rfl⟩))
    | ((go_at_call 25; (with_reducible refine (HT.out _).mono ?_); rintro e w1 (⟨h2, _⟩ | ⟨_, he, d1, os1, rfl⟩); exact absurd h2 HR.out; dsimp only at he; subst he))
    | ((go_at_call 15; (with_reducible refine (awake_any _).mono ?_); rintro e _ ⟨rfl, d9, os9, rfl⟩)))
  go_ret
  exact ⟨rfl, by repeat (first | exact Ext.refl _ | apply Ext.alloc | apply Ext.more)⟩
set_option maxHeartbeats 2000000 in
theorem pblk_big (s b : ByteArray) (FW : RowKit.Hid (∀ w, Calls Try.prog 19 #[.string s] w fun e w' => e = .returned (.string b) ∧ Ext w w')) (hb : 700 < (b.size : Int)) (r : List (Tok × Nat) × Int × Nat) (hr : r.2.1 = 0) (HT : RowKit.Hid (∀ w, Calls Try.prog 25 #[.string b] w (TokPost16 w r))) (w : World) : Calls Try.prog 8 #[.string s] w fun e w' => e = .returned (.bool true) ∧ Ext w w' := by
  have HR := Lib.hid hr
  clear hr
  go_enter Try.func8, Try.ntmps8
  go_wp2_with (first
    | ((go_at_call 19; (with_reducible refine (FW.out _).mono ?_); rintro e _ ⟨rfl, d0, os0, rfl⟩))
    | ((go_at_call 25; (with_reducible refine (HT.out _).mono ?_); rintro e w1 (⟨_, g, cap, he, hown, d1, os1, rfl⟩ | ⟨h2, _⟩); rotate_left; exact absurd HR.out h2; subst he; clear hown))
    | ((go_at_call 15; (with_reducible refine (awake_any _).mono ?_); rintro e _ ⟨rfl, d9, os9, rfl⟩)))
  go_ret
  exact ⟨rfl, by repeat (first | exact Ext.refl _ | apply Ext.alloc | apply Ext.more)⟩

set_option maxHeartbeats 4000000 in
set_option maxRecDepth 20000 in
theorem pblk_err (s b : ByteArray) (FW : RowKit.Hid (∀ w, Calls Try.prog 19 #[.string s] w fun e w' => e = .returned (.string b) ∧ Ext w w')) (hb7 : (b.size : Int) ≤ 700) (l : List (Tok × Nat)) (ps : List (Tok × List UInt8)) (m : Nat) (hm : ps.length = m) (hlm : m ≤ 700) (hll : l.length = m + 1)
    (HT : RowKit.Hid (∀ w, Calls Try.prog 25 #[.string b] w (TokPost16 w (l, 0, 0)))) (hwl : (wideOf ps).length ≤ 3500)
    (HJ : RowKit.Hid (∀ j, j < m → ∃ tk p a u, ps[j]? = some (tk, p) ∧ l[j]? = some (tk, a) ∧ l[j + 1]? = some (u, a + p.length) ∧ a + p.length ≤ b.size ∧ 0 < p.length ∧ (b.data.toList.drop a).take p.length = p))
    (ec ea eb : Int) (P1 : RowKit.Hid (∀ w1, Calls Try.prog 20 #[.string b] w1 (ParsePost w1 (.error (ec, ea))))) (P2 : RowKit.Hid (∀ w1, Calls Try.prog 20 #[.string (⟨(wideOf ps).toArray⟩ : ByteArray)] w1 (ParsePost w1 (.error (ec, eb))))) (w : World) :
    Calls Try.prog 8 #[.string s] w fun e w' => e = .returned (.bool true) ∧ Ext w w' := by
  have hm1 : (m : Int) ≤ 700 := by omega
  go_enter Try.func8, Try.ntmps8
  go_wp2_with (first
    | ((go_at_call 19; (with_reducible refine (FW.out _).mono ?_); rintro e _ ⟨rfl, d0, os0, rfl⟩))
    | ((go_at_call 25; (with_reducible refine (HT.out _).mono ?_); rintro e w1 (⟨_, g, cap, he, hown, hx⟩ | ⟨h2, _⟩); rotate_left; exact absurd rfl h2; dsimp only at he hown; rw [hll] at he hown; subst he; have HOWN := Lib.hid hown; have hgs := (hown.lt g rfl).2; have HX := Lib.hid (((Ext.refl w).more d0 os0).trans hx); clear hown hx)))
  go_loopw [6, 7] (fun wd ii wr => ∃ (k d : Nat) (os : Array Obj), ii = .int .i64 (k : Int) ∧ k ≤ m ∧ wd = .string ⟨(wideOf (ps.take k)).toArray⟩ ∧ wr = more w1 d os) (fun _ ii _ => m - (intOf ii).toNat)
  case atStart => exact ⟨0, w1.drawn, #[], rfl, by omega, rfl, by simp [more]⟩
  case round =>
    obtain ⟨k, dl, osl, rfl, hk, rfl, rfl⟩ := hrel
    by_cases hlt : k < m
    · obtain ⟨tk, p, a, u, j1, j2, j3, j4, j5, j6⟩ := HJ.out k hlt
      have hex : b.extract a (a + p.length) = ⟨p.toArray⟩ := by rw [extract_take, j6]
      have hst := wide_take ps k tk p j1
      have hal := wide_take_len ps k
      obtain ⟨A, hA⟩ : ∃ A, wideOf (ps.take k) = A := ⟨_, rfl⟩
      rw [hA] at hst hal ⊢
      have HST := Lib.hid hst
      obtain ⟨q, hq⟩ : ∃ q, p.length = q := ⟨_, rfl⟩
      rw [hq] at j3 j4 j5 hex
      have ca := tokc HOWN.out _ _ (cells_get l k tk a j2).2.1
      have cb := tokc HOWN.out _ _ (cells_get l (k + 1) u (a + q) j3).2.1
      have hps : (⟨p.toArray⟩ : ByteArray).size = q := by rw [← hq]; rfl
      have hA9 : A.length ≤ 3500 := by omega
      have k1 : (0 : Int) ≤ a := by omega
      have k2 : ((a : Int) + q ≤ b.size) := by omega
      have k3 : (a : Int) < a + q := by omega
      have k4 : (q : Int) ≤ 700 := by omega
      have hkm : (k : Int) < m := by omega
      have hk5 : (k : Int) < m + 1 := by omega
      have HLT := Lib.hid hlt
      clear j1 j2 j3 j4 j5 j6 hst hal hA hq hlt
      have k6 : (0 : Int) ≤ (a : Int) + q := by omega
      have k7 : (a : Int) ≤ (a : Int) + q := by omega
      have hw4 : ((a : Int) + q).toNat = a + q := by omega
      have hw5 : (9223372036854775807 < 4 + q) = False := by simp; omega
      have hw6 : (9223372036854775807 < A.length + (4 + q)) = False := by simp; omega
      have hw1 : IntKind.i64.wrap ((k : Int) + 1) = (k : Int) + 1 := IntWalk.i64_in _ (by omega)
      have hw2 : (0 : Int) ≤ (k : Int) + 1 := by omega
      have hw3 : ((k : Int) + 1).toNat = k + 1 := by omega
      go_wp2_with fail
      refine wp_region_grow 17 85 [false, false, false, false, false, false, false, false, false, false, false, false, false, false, false, false, false] (by kernel_rfl) (by kernel_rfl) rfl ?_
      simp only [List.take_succ_cons, List.take_zero, List.drop_succ_cons, List.drop_zero]
      repeat (refine Lex.step rfl ?_; intro K hK; unfold StepG; go_simp; (first
          | refine hK _ ?_); clear hK K)
      refine Lex.nil fun WW hE => ?_
      obtain ⟨dd, oo, rfl⟩ := hE
      unfold FillH
      go_wp2_with fail
      rw [ends_normal]
      clear hw1 hw2 hw3 hw4 hw5 hw6
      go_wp2_with fail
      go_roundw
      case rel =>
        refine ⟨k + 1, _, _, by go_num, by have := HLT.out; omega, ?_, rfl⟩
        rw [HST.out]
        exact congrArg Value.string (ba_app4 A p)
      case measure => have := HLT.out; simp [intOf]; omega
    · have hkm : k = m := by omega
      subst hkm
      have hall : ps.take k = ps := List.take_of_length_le (by omega)
      rw [hall]
      have hwb : (⟨(wideOf ps).toArray⟩ : ByteArray).size = (wideOf ps).length := rfl
      have hwi : ((wideOf ps).length : Int) ≤ 3500 := by omega
      clear hall hlt
      go_wp2_with (first
          | ((go_at_call 20; (with_reducible refine (P1.out _).mono ?_); rintro e _ ⟨rfl, d3, os3, rfl⟩))
          | ((go_at_call 20; (with_reducible refine (P2.out _).mono ?_); rintro e _ ⟨rfl, d4, os4, rfl⟩))
          | ((go_at_call 18; (with_reducible refine (same_any [] _ _ 0 0 _ _ (World.ownsRow_nil _ _ _ _) (World.ownsRow_nil _ _ _ _) (by decide)).mono ?_); rintro e _ ⟨rfl, d5, os5, rfl⟩))
          | ((go_at_call 15; (with_reducible refine (awake_any _).mono ?_); rintro e _ ⟨rfl, d9, os9, rfl⟩)))
      go_ret
      exact ⟨rfl, HX.out.trans (by repeat (first | exact Ext.refl _ | apply Ext.alloc | apply Ext.more))⟩

set_option maxHeartbeats 4000000 in
set_option maxRecDepth 20000 in
theorem pblk_ok (s b : ByteArray) (FW : RowKit.Hid (∀ w, Calls Try.prog 19 #[.string s] w fun e w' => e = .returned (.string b) ∧ Ext w w')) (hb7 : (b.size : Int) ≤ 700) (l : List (Tok × Nat)) (ps : List (Tok × List UInt8)) (m : Nat) (hm : ps.length = m) (hlm : m ≤ 700) (hll : l.length = m + 1)
    (HT : RowKit.Hid (∀ w, Calls Try.prog 25 #[.string b] w (TokPost16 w (l, 0, 0)))) (hwl : (wideOf ps).length ≤ 3500)
    (HJ : RowKit.Hid (∀ j, j < m → ∃ tk p a u, ps[j]? = some (tk, p) ∧ l[j]? = some (tk, a) ∧ l[j + 1]? = some (u, a + p.length) ∧ a + p.length ≤ b.size ∧ 0 < p.length ∧ (b.data.toList.drop a).take p.length = p))
    (ns : List Nd) (fi : Int) (HNL : RowKit.Hid (ns.length ≤ 512)) (P1 : RowKit.Hid (∀ w1, Calls Try.prog 20 #[.string b] w1 (ParsePost w1 (.ok (ns, fi))))) (P2 : RowKit.Hid (∀ w1, Calls Try.prog 20 #[.string (⟨(wideOf ps).toArray⟩ : ByteArray)] w1 (ParsePost w1 (.ok (ns, fi))))) (w : World) :
    Calls Try.prog 8 #[.string s] w fun e w' => e = .returned (.bool true) ∧ Ext w w' := by
  have hm1 : (m : Int) ≤ 700 := by omega
  go_enter Try.func8, Try.ntmps8
  go_wp2_with (first
    | ((go_at_call 19; (with_reducible refine (FW.out _).mono ?_); rintro e _ ⟨rfl, d0, os0, rfl⟩))
    | ((go_at_call 25; (with_reducible refine (HT.out _).mono ?_); rintro e w1 (⟨_, g, cap, he, hown, hx⟩ | ⟨h2, _⟩); rotate_left; exact absurd rfl h2; dsimp only at he hown; rw [hll] at he hown; subst he; have HOWN := Lib.hid hown; have hgs := (hown.lt g rfl).2; have HX := Lib.hid (((Ext.refl w).more d0 os0).trans hx); clear hown hx)))
  go_loopw [6, 7] (fun wd ii wr => ∃ (k d : Nat) (os : Array Obj), ii = .int .i64 (k : Int) ∧ k ≤ m ∧ wd = .string ⟨(wideOf (ps.take k)).toArray⟩ ∧ wr = more w1 d os) (fun _ ii _ => m - (intOf ii).toNat)
  case atStart => exact ⟨0, w1.drawn, #[], rfl, by omega, rfl, by simp [more]⟩
  case round =>
    obtain ⟨k, dl, osl, rfl, hk, rfl, rfl⟩ := hrel
    by_cases hlt : k < m
    · obtain ⟨tk, p, a, u, j1, j2, j3, j4, j5, j6⟩ := HJ.out k hlt
      have hex : b.extract a (a + p.length) = ⟨p.toArray⟩ := by rw [extract_take, j6]
      have hst := wide_take ps k tk p j1
      have hal := wide_take_len ps k
      obtain ⟨A, hA⟩ : ∃ A, wideOf (ps.take k) = A := ⟨_, rfl⟩
      rw [hA] at hst hal ⊢
      have HST := Lib.hid hst
      obtain ⟨q, hq⟩ : ∃ q, p.length = q := ⟨_, rfl⟩
      rw [hq] at j3 j4 j5 hex
      have ca := tokc HOWN.out _ _ (cells_get l k tk a j2).2.1
      have cb := tokc HOWN.out _ _ (cells_get l (k + 1) u (a + q) j3).2.1
      have hps : (⟨p.toArray⟩ : ByteArray).size = q := by rw [← hq]; rfl
      have hA9 : A.length ≤ 3500 := by omega
      have k1 : (0 : Int) ≤ a := by omega
      have k2 : ((a : Int) + q ≤ b.size) := by omega
      have k3 : (a : Int) < a + q := by omega
      have k4 : (q : Int) ≤ 700 := by omega
      have hkm : (k : Int) < m := by omega
      have hk5 : (k : Int) < m + 1 := by omega
      have HLT := Lib.hid hlt
      clear j1 j2 j3 j4 j5 j6 hst hal hA hq hlt
      have k6 : (0 : Int) ≤ (a : Int) + q := by omega
      have k7 : (a : Int) ≤ (a : Int) + q := by omega
      have hw4 : ((a : Int) + q).toNat = a + q := by omega
      have hw5 : (9223372036854775807 < 4 + q) = False := by simp; omega
      have hw6 : (9223372036854775807 < A.length + (4 + q)) = False := by simp; omega
      have hw1 : IntKind.i64.wrap ((k : Int) + 1) = (k : Int) + 1 := IntWalk.i64_in _ (by omega)
      have hw2 : (0 : Int) ≤ (k : Int) + 1 := by omega
      have hw3 : ((k : Int) + 1).toNat = k + 1 := by omega
      go_wp2_with fail
      refine wp_region_grow 17 85 [false, false, false, false, false, false, false, false, false, false, false, false, false, false, false, false, false] (by kernel_rfl) (by kernel_rfl) rfl ?_
      simp only [List.take_succ_cons, List.take_zero, List.drop_succ_cons, List.drop_zero]
      repeat (refine Lex.step rfl ?_; intro K hK; unfold StepG; go_simp; (first
          | refine hK _ ?_); clear hK K)
      refine Lex.nil fun WW hE => ?_
      obtain ⟨dd, oo, rfl⟩ := hE
      unfold FillH
      go_wp2_with fail
      rw [ends_normal]
      clear hw1 hw2 hw3 hw4 hw5 hw6
      go_wp2_with fail
      go_roundw
      case rel =>
        refine ⟨k + 1, _, _, by go_num, by have := HLT.out; omega, ?_, rfl⟩
        rw [HST.out]
        exact congrArg Value.string (ba_app4 A p)
      case measure => have := HLT.out; simp [intOf]; omega
    · have hkm : k = m := by omega
      subst hkm
      have hall : ps.take k = ps := List.take_of_length_le (by omega)
      rw [hall]
      have hwb : (⟨(wideOf ps).toArray⟩ : ByteArray).size = (wideOf ps).length := rfl
      have hwi : ((wideOf ps).length : Int) ≤ 3500 := by omega
      clear hall hlt
      go_wp2_with (first
          | ((go_at_call 20; (with_reducible refine (P1.out _).mono ?_); rintro e _ ⟨nv1, he, hrow, d3, os3, rfl⟩; obtain ⟨p1, c1, rfl⟩ := row_formO hrow; subst he; have HR1 := Lib.hid (hrow.mono (Nat.zero_le _)); clear hrow; try rw [more_more] at HR1))
          | ((go_at_call 20; (with_reducible refine (P2.out _).mono ?_); rintro e _ ⟨nv2, he, hrow, d4, os4, rfl⟩; obtain ⟨p2, c2, rfl⟩ := row_formO hrow; subst he; have HR2 := Lib.hid (hrow.mono (Nat.zero_le _)); clear hrow))
          | ((go_at_call 18; (with_reducible refine (same_any ns _ _ 0 0 _ _ (by repeat (first | (with_reducible exact HR1.out) | (with_reducible apply own_more) | (with_reducible refine World.ownsRow.alloc ?_ _))) (by repeat (first | (with_reducible exact HR2.out) | (with_reducible apply own_more) | (with_reducible refine World.ownsRow.alloc ?_ _))) HNL.out).mono ?_); rintro e _ ⟨rfl, d5, os5, rfl⟩))
          | ((go_at_call 15; (with_reducible refine (awake_any _).mono ?_); rintro e _ ⟨rfl, d9, os9, rfl⟩)))
      go_ret
      exact ⟨rfl, HX.out.trans (by repeat (first | exact Ext.refl _ | apply Ext.alloc | apply Ext.more))⟩

set_option maxHeartbeats 2000000 in
theorem pblk_walk (w : World) (s : ByteArray) : Calls Try.prog 8 #[.string s] w fun e w' => e = .returned (.bool true) ∧ Ext w w' := by
  obtain ⟨b, hb⟩ : ∃ b, fewB s = b := ⟨_, rfl⟩
  have FW := Lib.hid (fun w => few_any s w)
  rw [hb] at FW
  obtain ⟨l, e, x, hl⟩ : ∃ l e x, lexF b.data.toList = (l, e, x) := ⟨_, _, _, rfl⟩
  have HT := Lib.hid (tok16 b _ hl)
  by_cases he : e = 0
  rotate_left
  · exact pblk_lexerr s b FW _ he HT w
  subst he
  by_cases h7 : 700 < b.size
  · exact pblk_big s b FW (by omega) _ rfl HT w
  have hlen : b.data.toList.length = b.size := by simp
  obtain ⟨ps, h1, h2, h3, h4, h5, mm, h6, h8⟩ := blanks_law b.data.toList (by omega) l x hl
  have hs1 : sourceF b.data.toList = parseF (toksOf l) := by unfold sourceF; rw [hl]; rfl
  have hs2 : sourceF (⟨(wideOf ps).toArray⟩ : ByteArray).data.toList = parseF (toksOf mm) := by
    have e : (⟨(wideOf ps).toArray⟩ : ByteArray).data.toList = wideOf ps := rfl
    unfold sourceF; rw [e, h6]; rfl
  have hal : SameRes (parseF (toksOf l)) (parseF (toksOf mm)) := parse_alike (Alike.of_map (by
    have e : ∀ l : List (Tok × Nat), (toksOf l).map Prod.fst = l.map Prod.fst := fun l => by simp [toksOf]
    rw [e, e, h8]))
  have hx0 : TokPost16 = TokPost16 := rfl
  have HT0 : RowKit.Hid (∀ w, Calls Try.prog 25 #[.string b] w (TokPost16 w (l, 0, 0))) := Lib.hid (fun w1 => (HT.out w1).mono fun e' w' h => by
    rcases h with ⟨_, h⟩ | ⟨h, _⟩
    · exact Or.inl ⟨rfl, h⟩
    · exact absurd rfl h)
  rw [hlen] at h5
  have HJ := Lib.hid h5
  rcases r1 : parseF (toksOf l) with ⟨ec, ea⟩ | ⟨ns, fi⟩
  · rcases r2 : parseF (toksOf mm) with ⟨ec2, ea2⟩ | ⟨ns2, fi2⟩
    · rw [r1, r2] at hal
      have hal : ec = ec2 := hal
      subst hal
      exact pblk_err s b FW (by omega) l ps _ rfl h4 h1 HT0 h3 HJ ec ea ea2 (Lib.hid (source_any b _ (hs1.trans r1))) (Lib.hid (source_any _ _ (hs2.trans r2))) w
    · rw [r1, r2] at hal; exact hal.elim
  · rcases r2 : parseF (toksOf mm) with ⟨ec2, ea2⟩ | ⟨ns2, fi2⟩
    · rw [r1, r2] at hal; exact hal.elim
    · rw [r1, r2] at hal
      have hal : (ns, fi) = (ns2, fi2) := hal
      simp only [Prod.mk.injEq] at hal
      obtain ⟨rfl, rfl⟩ := hal
      exact pblk_ok s b FW (by omega) l ps _ rfl h4 h1 HT0 h3 HJ ns fi (Lib.hid (order_law _ ns fi r1).2.2.2.2.2) (Lib.hid (source_any b _ (hs1.trans r1))) (Lib.hid (source_any _ _ (hs2.trans r2))) w

namespace ParseBlanksRow

/-! ### The row -/
section
open Go.ChangeShapes Go.WideShapes Go.ChangeAt Go.RowKit Go.Joins
open Go.ChangeMaps (open_string shut_string)
theorem own : ownKnob Try.prog.godebug = none := by kernel_rfl
theorem laid : laidOutB Try.prog = true := by kernel_rfl

set_option maxRecDepth 100000 in
theorem lifted (os : Os) (started : os.Started) (H : Type) (enc : TypeId × Value → H) :
    ReturnsInHanded {} Try.checked os 8 .any (Rows.parseBlanksSpec.pre6 enc Try.prog Try.f8 Rows.parseBlanksRow.domain false) (Rows.parseBlanksSpec.post enc Try.prog Try.f8 false true false false) := by
  refine returnsInHanded_of_change_sized (C := Try.checked) own started (by kernel_rfl) Try.func8
    (ChangeSpec.witness6 (enc := enc) (C := Try.checked) false ⟨#[], #[.string ⟨#[]⟩], []⟩ 8 (by kernel_rfl) (by kernel_rfl) (by kernel_rfl) (by kernel_rfl)) ?_
  intro W base args ds gs before hval0 hW hcnd hsz0 _
  have hval : ∀ (j : Nat) t v, Try.f8.params[j]? = some t → args[j]? = some v → Value.okWide Try.prog W .any base t v := hval0
  have hW' := hW
  obtain ⟨p, q, hA0, hV, rfl, hfz, hnd⟩ := hW
  have hA : DataW.TrodAll enc Try.prog W 0 (fun _ => true) true Try.f8.params.toList args.toList ds p := hA0
  have hAk := hA
  have hpr : Try.f8.params.toList.all (fun t => Try.prog.readableRec t && decide (t < Try.prog.types.size)) = true := by kernel_rfl
  have hlt := hA.lt
  obtain ⟨rfl, rfl⟩ := trodVars_none hV
  have hsz : (DataW.weightsEach Try.prog (Try.f8.params.toList ++ []) (ds ++ [])).all (· ≤ reachBytes) = true := hsz0
  rw [Try.params8] at hA hval hsz
  simp only [List.append_nil] at hsz
  obtain ⟨v0, vs0, d0, ds0, p0, q0, hargs, rfl, rfl, h0, r0⟩ := trodAll_cons hA
  obtain ⟨rfl, rfl, rfl⟩ := trodAll_nil r0
  obtain rfl : args = #[v0] := by cases args; simp_all
  obtain ⟨s, rfl, rfl, rfl, ws⟩ := open_string Try.underlying9 (hval 0 9 v0 rfl rfl) h0
  have ss : s.size ≤ 140737488351232 := by
    have h := sized_string hsz (j := 0) rfl rfl
    have e : reachBytes = 140737488351232 := by decide
    rw [e] at h
    simpa using h
  clear hA0 hval0 hsz0
  refine (pblk_walk W s).mono fun e W' ⟨he, hx⟩ => ?_
  subst he
  exact ⟨_, rfl, _, _, _, [], _, [], hW', trodAll_mk1 (shut_bool Try.underlying4 _), trodAll_below laid hx.below hpr hAk hlt, rfl, hx.below.frame _, fun h => by cases h⟩

theorem proved : Rows.ParseBlanksSaid :=
  OpenClaim.holds_of_wide 8 Try.f8 rfl rfl rfl rfl rfl rfl rfl ⟨rfl, rfl, rfl, rfl, rfl⟩ rfl rfl rfl rfl rfl (by kernel_rfl) Try.func8 (by kernel_rfl)
    (of_decide_eq_true (by kernel_rfl)) (by unfold Func.isWrapper; first | (rw [if_pos (by decide +kernel)]; kernel_rfl) | (rw [if_neg (by decide +kernel)]; exact ⟨rfl, rfl⟩))
    (fun os started H enc _ => lifted os started H enc)
end
#print axioms proved
end ParseBlanksRow
end Go.Proofs.Ytoaaklcbcbjaiaa
