/- The contracts of the lexer's blank, name and number. -/
import Derived.Test.YtoaaklcbcbjaiaaLex2
set_option linter.unusedSimpArgs false
set_option linter.unusedVariables false
namespace Go.Proofs.Ytoaaklcbcbjaiaa
open Go.RowKit

/-- how many bytes stand ahead of the next token; true: in a remark -/
def skipL : Bool → List UInt8 → Nat
  | _, [] => 0
  | true, c :: l => if c.toNat = 10 then skipL false l + 1 else skipL true l + 1
  | false, c :: l => if c.toNat = 32 ∨ c.toNat = 9 ∨ c.toNat = 10 then skipL false l + 1 else if c.toNat = 35 then skipL true l + 1 else 0
theorem skipL_le : ∀ (q : Bool) (l : List UInt8), skipL q l ≤ l.length
  | _, [] => by simp [skipL]
  | true, c :: l => by have h1 := skipL_le false l; have h2 := skipL_le true l; simp only [skipL, List.length_cons]; split <;> omega
  | false, c :: l => by have h1 := skipL_le false l; have h2 := skipL_le true l; simp only [skipL, List.length_cons]; repeat' split
                        all_goals omega
theorem skipL_true : ∀ l : List UInt8, skipL true l = spanN noNl l + skipL false (l.drop (spanN noNl l))
  | [] => by simp [skipL, spanN]
  | c :: l => by
    have ih := skipL_true l
    by_cases h : c.toNat = 10
    · have e : noNl (c.toNat : Int) = false := by simp [noNl, h]
      rw [show spanN noNl (c :: l) = 0 from by rw [spanN, e]; rfl]
      simp [skipL, h]
    · have e : noNl (c.toNat : Int) = true := by simp [noNl]; omega
      rw [spanN, if_pos e]
      simp [skipL, h]
      omega
theorem skip_mark (l : List UInt8) (u : UInt8) (h : u.toNat = 35) : skipL false (u :: l) = spanN noNl (u :: l) + skipL false ((u :: l).drop (spanN noNl (u :: l))) := by
  have e : noNl (u.toNat : Int) = true := by simp [noNl]; omega
  have := skipL_true l
  rw [spanN, if_pos e]
  simp [skipL, h]
  omega

set_option maxHeartbeats 1000000 in
set_option maxRecDepth 20000 in
theorem blank_any (b : Nat) (s : ByteArray) (k n : Nat) (lv : Value) (w : World) (h : LexAt b s k lv w) (hk : k ≤ s.size) (hs : s.size ≤ maxLen) (hn : skipL false (s.data.toList.drop k) = n) :
    Calls Try.prog 77 #[.pointer (some ⟨b, 0, none⟩)] w fun e w' => e = .returned (.tuple #[]) ∧ LexAt b s (k + n) lv w' ∧ w.grownBy w' (some b) := by
  have hmx := hs
  unfold maxLen at hs
  have HN := Lib.hid hn
  have HL := Lib.hid h
  clear hn h
  go_enter Try.func77, Try.ntmps77
  go_wp2_with fail
  go_loopg [] (s.size - k) (fun g wr => ∃ m, k ≤ m ∧ m ≤ s.size ∧ g = s.size - m ∧ m + skipL false (s.data.toList.drop m) = k + n ∧ LexAt b s m lv wr ∧ w.grownBy wr (some b))
  case atStart => exact ⟨k, by omega, by omega, by omega, by have := HN.out; omega, HL.out, grown_refl _ _⟩
  case round =>
    obtain ⟨m, hkm, hms, hgk, hsp, hL, hg⟩ := hrel
    have HLL := Lib.hid hL
    have HG := Lib.hid hg
    have HGK := Lib.hid hgk
    obtain ⟨c0, c1, c2, f1, f2⟩ := hL.cells
    have hb := hL.lt
    clear hL hg hgk HN HL
    by_cases hlt : m < s.size
    · have hml : m < s.data.toList.length := by simpa using hlt
      have hd : s.data.toList.drop m = s[m]'hlt :: s.data.toList.drop (m + 1) := List.drop_eq_getElem_cons hml
      have h256 := (s[m]'hlt).toNat_lt
      by_cases q1 : ((s[m]'hlt).toNat : Int) = 32 ∨ ((s[m]'hlt).toNat : Int) = 9 ∨ ((s[m]'hlt).toNat : Int) = 10
      · rw [hd] at hsp
        rw [skipL, if_pos (by omega)] at hsp
        have HS := Lib.hid hsp
        clear hsp hd h256 hml
        rcases q1 with q1 | q1 | q1
        all_goals
          go_wp2_with fail
          refine wp_region_grow 9 36 [false, false, false, false, false, false, false, false, false] (by kernel_rfl) (by kernel_rfl) rfl ?_
          simp only [List.take_succ_cons, List.take_zero, List.drop_succ_cons, List.drop_zero]
          repeat (refine Lex.step rfl ?_; intro K hK; unfold StepG; go_simp; (first
              | refine hK _ ?_); clear hK K)
          refine Lex.nil fun WW hE => ?_
          obtain ⟨dd, oo, rfl⟩ := hE
          unfold FillH
          go_wp2_with fail
          rw [ends_normal]
          go_wp2_with fail
          refine wp_region_grow 8 36 [false, false, false, false, false, false, false, false] (by kernel_rfl) (by kernel_rfl) rfl ?_
          simp only [List.take_succ_cons, List.take_zero, List.drop_succ_cons, List.drop_zero]
          repeat (refine Lex.step rfl ?_; intro K hK; unfold StepG; go_simp; (first
              | refine hK _ ?_); clear hK K)
          refine Lex.nil fun WW hE => ?_
          obtain ⟨dd, oo, rfl⟩ := hE
          unfold FillH
          go_wp2_with fail
          rw [ends_normal]
          go_wp2_with fail
          go_roundg (gk - 1)
          case measure => have := HGK.out; omega
          case rel => exact ⟨m + 1, by omega, by omega, by have := HGK.out; omega, by have := HS.out; omega, ((HLL.out.set (m + 1) _ (by omega)).more _ _), grown_ext (grown_set HG.out _ _) (Ext.more (Ext.refl _) _ _)⟩
      · by_cases q2 : ((s[m]'hlt).toNat : Int) = 35
        · have hsk := skip_mark (s.data.toList.drop (m + 1)) (s[m]'hlt) (by omega)
          rw [← hd] at hsk
          obtain ⟨n1, hn1⟩ : ∃ n1, spanN noNl (s.data.toList.drop m) = n1 := ⟨_, rfl⟩
          rw [hn1, List.drop_drop] at hsk
          have hle : n1 ≤ s.size - m := by rw [← hn1]; have := spanN_le noNl (s.data.toList.drop m); simp at this; omega
          have hn0 : 1 ≤ n1 := by rw [← hn1, hd, spanN, if_pos (by simp [noNl]; omega)]; omega
          have HS := Lib.hid hsp
          have HK := Lib.hid hsk
          have HN1 := Lib.hid hn1
          clear hsp hsk hn1 hd h256 hml q1
          go_wp2_with fail
          refine wp_region_grow 9 36 [false, false, false, false, false, false, false, false, false] (by kernel_rfl) (by kernel_rfl) rfl ?_
          simp only [List.take_succ_cons, List.take_zero, List.drop_succ_cons, List.drop_zero]
          repeat (refine Lex.step rfl ?_; intro K hK; unfold StepG; go_simp; (first
              | refine hK _ ?_); clear hK K)
          refine Lex.nil fun WW hE => ?_
          obtain ⟨dd, oo, rfl⟩ := hE
          unfold FillH
          go_wp2_with fail
          rw [ends_normal]
          go_wp2_with fail
          refine wp_region_grow 8 36 [false, false, false, false, false, false, false, false] (by kernel_rfl) (by kernel_rfl) rfl ?_
          simp only [List.take_succ_cons, List.take_zero, List.drop_succ_cons, List.drop_zero]
          repeat (refine Lex.step rfl ?_; intro K hK; unfold StepG; go_simp; (first
              | refine hK _ ?_); clear hK K)
          refine Lex.nil fun WW hE => ?_
          obtain ⟨dd, oo, rfl⟩ := hE
          unfold FillH
          go_wp2_with fail
          rw [ends_normal]
          go_wp2_with (go_at_call 98; refine (while_nonl b s m n1 lv _ (HLL.out.more _ _) hms hmx HN1.out).mono ?_; rintro e w1 ⟨rfl, hL1, hg1⟩)
          go_roundg (s.size - (m + n1))
          case measure => have := HGK.out; omega
          case rel => exact ⟨m + n1, by omega, by omega, rfl, by have h1 := HS.out; have h2 := HK.out; omega, hL1, grown_trans (grown_ext HG.out (by repeat (first | exact Ext.refl _ | apply Ext.alloc | apply Ext.more))) hg1⟩
        · have p1 : (((s[m]'hlt).toNat : Int) == 32) = false := by simp; omega
          have p2 : (((s[m]'hlt).toNat : Int) == 9) = false := by simp; omega
          have p3 : (((s[m]'hlt).toNat : Int) == 10) = false := by simp; omega
          have p4 : (((s[m]'hlt).toNat : Int) == 35) = false := by simp; omega
          rw [hd, skipL, if_neg (by omega), if_neg (by omega)] at hsp
          have HMN := Lib.hid (show m = k + n by omega)
          clear hsp hd h256 hml q1 q2 HGK
          go_wp2_with fail
          refine wp_region_grow 9 36 [false, false, false, false, false, false, false, false, false] (by kernel_rfl) (by kernel_rfl) rfl ?_
          simp only [List.take_succ_cons, List.take_zero, List.drop_succ_cons, List.drop_zero]
          repeat (refine Lex.step rfl ?_; intro K hK; unfold StepG; go_simp; (first
              | refine hK _ ?_); clear hK K)
          refine Lex.nil fun WW hE => ?_
          obtain ⟨dd, oo, rfl⟩ := hE
          unfold FillH
          go_wp2_with fail
          rw [ends_normal]
          go_wp2_with fail
          refine wp_region_grow 8 36 [false, false, false, false, false, false, false, false] (by kernel_rfl) (by kernel_rfl) rfl ?_
          simp only [List.take_succ_cons, List.take_zero, List.drop_succ_cons, List.drop_zero]
          repeat (refine Lex.step rfl ?_; intro K hK; unfold StepG; go_simp; (first
              | refine hK _ ?_); clear hK K)
          refine Lex.nil fun WW hE => ?_
          obtain ⟨dd, oo, rfl⟩ := hE
          unfold FillH
          go_wp2_with fail
          rw [ends_normal]
          go_wp2_with fail
          refine bodyPost_ret (v := .tuple #[]) (by simp [results, Try.results77, go_sem]) rfl ?_
          refine ⟨rfl, ?_, ?_⟩
          · rw [← HMN.out]; exact HLL.out.more _ _
          · exact grown_ext HG.out (by repeat (first | exact Ext.refl _ | apply Ext.alloc | apply Ext.more))
    · have hme : m = s.size := by omega
      have hnil : s.data.toList.drop m = [] := by apply List.drop_eq_nil_of_le; simp; omega
      rw [hnil] at hsp
      simp only [skipL] at hsp
      have HMN := Lib.hid (show s.size = k + n by omega)
      clear hsp hnil hms HGK
      subst hme
      go_wp2_with fail
      refine wp_region_grow 9 36 [false, false, false, false, false, false, false, false, false] (by kernel_rfl) (by kernel_rfl) rfl ?_
      simp only [List.take_succ_cons, List.take_zero, List.drop_succ_cons, List.drop_zero]
      repeat (refine Lex.step rfl ?_; intro K hK; unfold StepG; go_simp; (first
          | refine hK _ ?_); clear hK K)
      refine Lex.nil fun WW hE => ?_
      obtain ⟨dd, oo, rfl⟩ := hE
      unfold FillH
      go_wp2_with fail
      rw [ends_normal]
      go_wp2_with fail
      go_end0
      refine ⟨rfl, ?_, ?_⟩
      · rw [← HMN.out]; exact HLL.out.more _ _
      · exact grown_ext HG.out (by repeat (first | exact Ext.refl _ | apply Ext.alloc | apply Ext.more))
end Go.Proofs.Ytoaaklcbcbjaiaa
