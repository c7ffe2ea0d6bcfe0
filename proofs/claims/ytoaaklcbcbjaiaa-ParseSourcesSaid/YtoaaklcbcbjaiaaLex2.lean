/- The contracts of lex's words, Word and blank. -/
import Derived.Test.YtoaaklcbcbjaiaaBld
import Derived.Deep.WholeRow
import Derived.Laws.Tables
import Derived.Laws.Rows
set_option linter.unusedSimpArgs false
set_option linter.unusedVariables false
namespace Go.Proofs.Ytoaaklcbcbjaiaa
open Go.RowKit

/-- the words, as they stand in the array -/
def wordL : List ByteArray := [⟨#[97, 98, 111, 114, 116]⟩, ⟨#[97, 110, 100]⟩, ⟨#[100, 101, 108, 101, 116, 101]⟩, ⟨#[101, 108, 115, 101]⟩, ⟨#[102, 97, 108, 115, 101]⟩, ⟨#[102, 111, 114]⟩, ⟨#[103, 101, 116]⟩, ⟨#[104, 97, 115]⟩, ⟨#[105, 102]⟩, ⟨#[105, 110]⟩, ⟨#[108, 101, 110]⟩, ⟨#[108, 101, 116]⟩, ⟨#[110, 105, 108]⟩, ⟨#[110, 111, 116]⟩, ⟨#[111, 114]⟩, ⟨#[112, 117, 116]⟩, ⟨#[114, 101, 112, 101, 97, 116]⟩, ⟨#[114, 101, 116, 117, 114, 110]⟩, ⟨#[115, 99, 97, 110]⟩, ⟨#[115, 101, 116]⟩, ⟨#[115, 104, 111, 119]⟩]
def wordV : Value := .agg (wordL.map Value.string).toArray
/-- is it a word? -/
def wordB (s : ByteArray) : Bool := wordL.any (fun x => s.toList == x.toList) || s.toList == ((⟨#[116, 114, 117, 101]⟩ : ByteArray)).toList

theorem Ext.setRow {a w : World} (h : Ext a w) {g : Nat} (hg : a.heap.size ≤ g) (cs : Array Value) : Ext a (w.setRow g cs) := by
  have hb := h.below
  refine Ext.of_below ⟨hb.os, hb.tape, hb.output, ?_, fun k hk => ?_⟩
  · have := hb.size
    simp; omega
  · rw [setRow_other w g k _ (by omega)]; exact hb.block k hk

set_option maxHeartbeats 1000000 in
set_option maxRecDepth 20000 in
theorem words_any (w : World) : Calls Try.prog 123 #[] w fun e w' => e = .returned wordV ∧ Ext w w' := by
  go_enter Try.func123, Try.ntmps123
  go_wp2_with (first
    | (refine wpList_build rfl _ _ rfl (by kernel_rfl) ?_; generalize hA : (Program.built _ _ _).getD #[] = A; have hA2 : A = (wordL.map Value.string).toArray := (by rw [← hA]; kernel_rfl); clear hA; have HA := Lib.hid hA2; clear hA2)
    | (refine wpList_store_row rfl _ _ _ rfl w.heap.size _ rfl rfl 140 _ (heap_alloc_new _ _) ?h1 ?h2 ?h3 ?_))
  case h1 => rw [HA.out]; kernel_rfl
  case h2 => rw [HA.out]; rfl
  case h3 => rw [HA.out]; simp [wordL, Value.oneCell']
  have hs : A.size = 21 := by rw [HA.out]; rfl
  have hld := fun Z : Array Value => run_loadVar_row (P := Try.prog) _ w.heap.size 140 140 A (0, 0) _ (setRow_heap _ _ _ A _ _ (heap_alloc_new w (.cells Z 140))) Try.underlying140 rfl (by rw [hs]; kernel_rfl)
  have hV : wordV = .agg A := by rw [HA.out]; rfl
  rw [hV]
  refine bodyPost_ret (v := .agg A) ?_ rfl ⟨rfl, (Ext.setRow ((Ext.refl _).alloc _) (Nat.le_refl _) _)⟩
  unfold results
  rw [Try.results123]
  simp [asAddr, Act.put, hld]

theorem word_index (k : Nat) (hk : k < 21) (w : World) : (Instr.index 140 wordV (.int .i64 (k : Int))).run Try.prog w = .ok (.string (wordL.getD k ⟨#[]⟩)) w := by
  have h : k = 0 ∨ k = 1 ∨ k = 2 ∨ k = 3 ∨ k = 4 ∨ k = 5 ∨ k = 6 ∨ k = 7 ∨ k = 8 ∨ k = 9 ∨ k = 10 ∨ k = 11 ∨ k = 12 ∨ k = 13 ∨ k = 14 ∨ k = 15 ∨ k = 16 ∨ k = 17 ∨ k = 18 ∨ k = 19 ∨ k = 20 := by omega
  rcases h with rfl | rfl | rfl | rfl | rfl | rfl | rfl | rfl | rfl | rfl | rfl | rfl | rfl | rfl | rfl | rfl | rfl | rfl | rfl | rfl | rfl
  all_goals
    clear hk
    show (Instr.index _ _ _).run _ _ = _
    kernel_rfl

theorem any_snoc (s : ByteArray) (k : Nat) (hk : k < 21) : (wordL.take (k + 1)).any (fun x => s.toList == x.toList) = ((wordL.take k).any (fun x => s.toList == x.toList) || s.toList == (wordL.getD k ⟨#[]⟩).toList) := by
  have hl : k < wordL.length := hk
  have h : wordL.take (k + 1) = wordL.take k ++ [wordL.getD k ⟨#[]⟩] := by
    rw [List.take_succ_eq_append_getElem hl]
    congr 2
    simp [List.getD, List.getElem?_eq_getElem hl]
  rw [h, List.any_append]
  simp
theorem any_done (s : ByteArray) (k : Nat) (hk : k < 21) (h : s.toList == (wordL.getD k ⟨#[]⟩).toList) : wordB s = true := by
  have hl : k < wordL.length := hk
  have : wordL.any (fun x => s.toList == x.toList) = true := List.any_eq_true.2 ⟨wordL.getD k ⟨#[]⟩, by simp [List.getD, List.getElem?_eq_getElem hl], h⟩
  simp [wordB, this]
theorem any_none (s : ByteArray) (h : (wordL.take 21).any (fun x => s.toList == x.toList) = false) : wordB s = (s.toList == (⟨#[116, 114, 117, 101]⟩ : ByteArray).toList) := by
  have e : wordL.take 21 = wordL := rfl
  rw [e] at h
  simp only [wordB, h, Bool.false_or]

set_option maxHeartbeats 1000000 in
set_option maxRecDepth 20000 in
theorem word_any (s : ByteArray) (w : World) : Calls Try.prog 102 #[.string s] w fun e w' => e = .returned (.bool (wordB s)) ∧ Ext w w' := by
  obtain ⟨V, hV⟩ : ∃ V, wordV = V := ⟨_, rfl⟩
  have HW := Lib.hid words_any
  have HI := Lib.hid word_index
  rw [hV] at HW HI
  clear hV
  go_enter Try.func102, Try.ntmps102
  go_wp2_with (go_at_call 123; refine (HW.out _).mono ?_; rintro e _ ⟨rfl, d, os, rfl⟩)
  go_loop [6] (fun ii => ∃ k : Nat, ii = .int .i64 k ∧ k ≤ 21 ∧ (wordL.take k).any (fun x => s.toList == x.toList) = false) (fun ii => 21 - (intOf ii).toNat)
  case atStart => exact ⟨0, rfl, by omega, rfl⟩
  case round =>
    obtain ⟨k, rfl, hk, hn⟩ := hrel
    have HN := Lib.hid hn
    clear hn
    by_cases hlt : k < 21
    · have hi := HI.out k hlt
      have hd := Lib.hid (any_done s k hlt)
      have hs := Lib.hid (any_snoc s k hlt)
      generalize wordL.getD k ⟨#[]⟩ = x at hi hd hs
      clear HI
      cases hq : s.toList == x.toList
      · go_wp2
        go_round
        case rel =>
          refine ⟨k + 1, by go_num, by omega, ?_⟩
          rw [hs.out, HN.out, hq]; rfl
        case measure => simp [intOf]; omega
      · have hd' := Lib.hid (hd.out hq)
        go_wp2
        go_ret
        exact ⟨ret_bool hd'.out.symm, by repeat (first | exact Ext.refl _ | apply Ext.alloc | apply Ext.more)⟩
    · have hk21 : k = 21 := by omega
      subst hk21
      have hd' := Lib.hid (any_none s HN.out)
      clear HI
      go_wp2
      go_ret
      exact ⟨ret_bool (by rw [hd'.out]; first | rfl | (simp [Lib.toList_data]; done)), by repeat (first | exact Ext.refl _ | apply Ext.alloc | apply Ext.more)⟩
end Go.Proofs.Ytoaaklcbcbjaiaa
