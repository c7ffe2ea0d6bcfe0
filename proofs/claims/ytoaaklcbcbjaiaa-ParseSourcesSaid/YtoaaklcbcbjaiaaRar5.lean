/- begins, level, more, one, expr of the document's parser. -/
import Derived.Test.YtoaaklcbcbjaiaaRar4
import Derived.Test.YtoaaklcbcbjaiaaPar5
import Derived.Test.YtoaaklcbcbjaiaaParF
set_option linter.unusedSimpArgs false
set_option linter.unusedVariables false
namespace Go.Proofs.Ytoaaklcbcbjaiaa
open Go.RowKit
attribute [go_sem] more_more Array.size_append

def nine : List ByteArray := [⟨#[108, 101, 116]⟩, ⟨#[115, 101, 116]⟩, ⟨#[112, 117, 116]⟩, ⟨#[100, 101, 108, 101, 116, 101]⟩, ⟨#[97, 98, 111, 114, 116]⟩, ⟨#[114, 101, 116, 117, 114, 110]⟩, ⟨#[105, 102]⟩, ⟨#[102, 111, 114]⟩, ⟨#[114, 101, 112, 101, 97, 116]⟩]
def beginsB (L : Toks) (m : Nat) : Bool := (tk L m).1.k == 5 && nine.any fun s => (tk L m).1.s.toList == s.toList
theorem nine_snoc (t : ByteArray) (j : Nat) (h : j < nine.length) : (nine.take (j + 1)).any (fun s => t.toList == s.toList) = ((nine.take j).any (fun s => t.toList == s.toList) || t.toList == (nine.getD j ⟨#[]⟩).toList) := by
  have e : nine.take (j + 1) = nine.take j ++ [nine.getD j ⟨#[]⟩] := by
    rw [List.take_succ_eq_append_getElem h]
    congr 2
    simp [List.getD, List.getElem?_eq_getElem h]
  rw [e, List.any_append]
  simp
theorem nine_done (t : ByteArray) (j : Nat) (h : j < nine.length) (he : (t.toList == (nine.getD j ⟨#[]⟩).toList) = true) : nine.any (fun s => t.toList == s.toList) = true := by
  rw [List.any_eq_true]
  refine ⟨nine.getD j ⟨#[]⟩, ?_, he⟩
  simp [List.getD, List.getElem?_eq_getElem h]

set_option maxHeartbeats 4000000 in
set_option maxRecDepth 20000 in
theorem begins_any {b lb lo cap : Nat} {nv : Value} {L : Toks} {m : Nat} {N : List Nd} {w : World} (h : Rt b lb lo cap nv L m N 0 0 w) :
    Calls Try.prog 45 #[.pointer (some ⟨b, 0, none⟩)] w fun e w' => e = .returned (.bool (beginsB L m)) ∧ Ext w w' := by
  have H := Lib.hid h
  have G := Lib.hid (h.loc (strs nine))
  have hp : (m : Int) < (L.length : Int) := by have := h.pos; omega
  have hp0 : 0 ≤ (m : Int) := by omega
  have hnl : nine.length = 9 := rfl
  obtain ⟨⟨⟨k, ts, i⟩, a⟩, htt⟩ : ∃ tt, tk L m = tt := ⟨_, rfl⟩
  have HT := Lib.hid htt
  unfold beginsB
  rw [htt]
  dsimp only
  clear htt h
  obtain ⟨B, hB⟩ : ∃ B, (k == 5 && nine.any fun s => ts.toList == s.toList) = B := ⟨_, rfl⟩
  rw [hB]
  have HB := Lib.hid hB
  clear hB
  go_enter Try.func45, Try.ntmps45
  go_wp2_with fail
  go_loopw [7] (fun i wr => ∃ j : Nat, i = .int .i64 (j : Int) ∧ j ≤ 9 ∧ Ext (w.alloc (strs nine)) wr ∧ ((k == 5) = true → (nine.take j).any (fun s => ts.toList == s.toList) = false)) (fun i _ => 9 - (intOf i).toNat)
  case atStart => exact ⟨0, rfl, Nat.zero_le _, Ext.refl _, fun _ => rfl⟩
  case round =>
    obtain ⟨j, rfl, hj, hx, hno⟩ := hrel
    have HX := Lib.hid hx
    have HNO := Lib.hid hno
    by_cases hlt : j < 9
    · have hlt2 : (j : Int) < 9 := by omega
      have hj0 : 0 ≤ (j : Int) := by omega
      have hcell := ((G.out.ext hx).str j (by rw [hnl]; exact hlt))
      have H1 := (H.out.alloc (strs nine)).ext hx
      obtain ⟨c0, c1, c2, c3, c4, f1, f2, f3, f4, hb⟩ := H1.facts
      obtain ⟨t0, t1, t2, t3, hlb⟩ := H1.tokFacts
      rw [HT.out] at t0 t1 t2 t3
      dsimp only at t0 t1 t2 t3
      obtain ⟨s, hs⟩ : ∃ s, nine.getD j ⟨#[]⟩ = s := ⟨_, rfl⟩
      rw [hs] at hcell
      have HS := Lib.hid hs
      have HLT := Lib.hid hlt
      clear hx hno hlt hs H1 c2 c3 c4 f1 f2 f3 f4 t1 t3
      cases hk : (k == 5)
      · 
        go_wp2_with fail
        refine wp_region_grow 25 39 [false, false, false, false, false, false, false, false, false, false, false, false, false, false, false, false, false, false, false, false, false, false, false, false, false] (by kernel_rfl) (by kernel_rfl) rfl ?_
        simp only [List.take_succ_cons, List.take_zero, List.drop_succ_cons, List.drop_zero]
        repeat (refine Lex.step rfl ?_; intro K hK; unfold StepG; go_simp; (first
            | refine hK _ ?_); clear hK K)
        refine Lex.nil fun WW hE => ?_
        obtain ⟨dd, oo, rfl⟩ := hE
        unfold FillH
        go_wp2_with fail
        rw [ends_normal]
        go_wp2_with fail
        go_roundw
        case rel => exact ⟨j + 1, by go_num, by have := HLT.out; omega, HX.out.more _ _, fun h => by simp at h⟩
        case measure => have := HLT.out; simp [intOf]; omega
      · cases hq : (ts.toList == s.toList)
        · 
          go_wp2_with fail
          refine wp_region_grow 25 39 [false, false, false, false, false, false, false, false, false, false, false, false, false, false, false, false, false, false, false, false, false, false, false, false, false] (by kernel_rfl) (by kernel_rfl) rfl ?_
          simp only [List.take_succ_cons, List.take_zero, List.drop_succ_cons, List.drop_zero]
          repeat (refine Lex.step rfl ?_; intro K hK; unfold StepG; go_simp; (first
              | refine hK _ ?_); clear hK K)
          refine Lex.nil fun WW hE => ?_
          obtain ⟨dd, oo, rfl⟩ := hE
          unfold FillH
          go_wp2_with fail
          rw [ends_normal]
          go_wp2_with fail
          go_roundw
          case rel => exact ⟨j + 1, by go_num, by have := HLT.out; omega, HX.out.more _ _, fun h => by rw [nine_snoc _ _ (by rw [hnl]; exact HLT.out), HS.out, HNO.out hk]; simpa using hq⟩
          case measure => have := HLT.out; simp [intOf]; omega
        · have RR : RowKit.Hid (true = B) := Lib.hid (by rw [← HB.out, hk, nine_done ts j (by rw [hnl]; exact HLT.out) (by rw [HS.out]; exact hq)]; rfl)
          go_wp2_with fail
          refine wp_region_grow 25 39 [false, false, false, false, false, false, false, false, false, false, false, false, false, false, false, false, false, false, false, false, false, false, false, false, false] (by kernel_rfl) (by kernel_rfl) rfl ?_
          simp only [List.take_succ_cons, List.take_zero, List.drop_succ_cons, List.drop_zero]
          repeat (refine Lex.step rfl ?_; intro K hK; unfold StepG; go_simp; (first
              | refine hK _ ?_); clear hK K)
          refine Lex.nil fun WW hE => ?_
          obtain ⟨dd, oo, rfl⟩ := hE
          unfold FillH
          go_wp2_with fail
          rw [ends_normal]
          go_wp2_with fail
          go_ret
          exact ⟨ret_bool RR.out, ((Ext.refl _).alloc _).trans (HX.out.more _ _)⟩
    · have hge : (9 : Int) ≤ (j : Int) := by omega
      have RR : RowKit.Hid (false = B) := Lib.hid (by
        rw [← HB.out]
        cases hk : (k == 5)
        · rfl
        · have e : nine.take j = nine := List.take_of_length_le (by rw [hnl]; omega)
          have := hno hk
          rw [e] at this
          rw [this]; rfl)
      clear hx hno hlt
      go_wp2_with fail
      go_ret
      exact ⟨ret_bool RR.out, ((Ext.refl _).alloc _).trans HX.out⟩
end Go.Proofs.Ytoaaklcbcbjaiaa
