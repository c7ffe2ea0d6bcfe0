/- The contract of the lexer's next. -/
import Derived.Test.YtoaaklcbcbjaiaaLex5
import Derived.Test.YtoaaklcbcbjaiaaLex6
set_option linter.unusedSimpArgs false
set_option linter.unusedVariables false
namespace Go.Proofs.Ytoaaklcbcbjaiaa
open Go.RowKit

set_option maxHeartbeats 2000000 in
set_option maxRecDepth 20000 in
theorem next_end (b : Nat) (s : ByteArray) (k n : Nat) (lv : Value) (hk : k ≤ s.size) (hs : s.size ≤ maxLen) (hn : skipL false (s.data.toList.drop k) = n) (hlt : k + n = s.size) (w : World) (h : LexAt b s k lv w) :
    Calls Try.prog 47 #[.pointer (some ⟨b, 0, none⟩)] w fun e' w' => e' = .returned (.tuple #[tokV tok0 0, .int .i64 0, .bool false]) ∧ Ext (w.setCell ⟨b, 1, none⟩ (.int .i64 ((k + n : Nat) : Int))) w' := by
  have HL := Lib.hid h
  have C := Lib.hid (blank_x b s k n lv hk hs hn)
  have hb := h.lt
  obtain ⟨c0, c1, c2, f1, f2⟩ := h.cells
  unfold maxLen at hs
  clear h hn
  have hle : (((k : Int) + n) == (s.size : Int)) = true := by simp; omega
  unfold tokV tok0
  go_enter Try.func47, Try.ntmps47
  go_wp2_with (go_at_call 77; refine (C.out _ (by repeat (first | (with_reducible exact HL.out) | (with_reducible apply LexAt.alloc) | (with_reducible apply LexAt.more)))).mono ?_; rintro e _ ⟨rfl, d, os, rfl⟩)
  refine wp_region_grow 9 62 [false, false, false, false, false, false, false, false, false] (by kernel_rfl) (by kernel_rfl) rfl ?_
  simp only [List.take_succ_cons, List.take_zero, List.drop_succ_cons, List.drop_zero]
  repeat (refine Lex.step rfl ?_; intro K hK; unfold StepG; go_simp; (first
      | refine hK _ ?_); clear hK K)
  refine Lex.nil fun WW hE => ?_
  obtain ⟨dd, oo, rfl⟩ := hE
  unfold FillH
  go_wp2_with fail
  rw [ends_normal]
  go_wp2_with fail
  refine bodyPost_ret (v := .tuple #[.agg #[.int .i64 0, .int .i64 0, .string ⟨#[]⟩, .int .i64 0], .int .i64 0, .bool false]) (by simp [results, Try.results47, go_sem]) rfl ?_
  refine ⟨rfl, ?_⟩
  rw [hlt]
  repeat (first | exact Ext.refl _ | apply Ext.alloc | apply Ext.more)

/-- what a token's function hands back: the token, the error, and how far it has gone -/
def TakePost (b K : Nat) (r : Tok) (e : Int) (w : World) (e' : Ending) (w' : World) : Prop :=
  e' = .returned (.tuple #[.agg #[.int .i64 r.k, .int .i64 0, .string r.s, .int .i64 r.i], .int .i64 e]) ∧ ∃ k' : Nat, (e = 0 → k' = K) ∧ Ext (w.setCell ⟨b, 1, none⟩ (.int .i64 (k' : Int))) w'
def NextPost (b A K : Nat) (r : Tok) (e : Int) (w : World) (e' : Ending) (w' : World) : Prop :=
  e' = .returned (.tuple #[.agg #[.int .i64 r.k, .int .i64 (A : Int), .string r.s, .int .i64 r.i], .int .i64 e, .bool true]) ∧ ∃ k' : Nat, (e = 0 → k' = K) ∧ Ext (w.setCell ⟨b, 1, none⟩ (.int .i64 (k' : Int))) w'

set_option maxHeartbeats 2000000 in
set_option maxRecDepth 20000 in
theorem next_name (b : Nat) (s : ByteArray) (k n : Nat) (lv : Value) (hk : k ≤ s.size) (hs : s.size ≤ maxLen) (hn : skipL false (s.data.toList.drop k) = n) (hlt : k + n < s.size) (hc : letterB ((s[k + n]'hlt).toNat : Int) = true) (K : Nat) (r : Tok) (e : Int)
    (T : RowKit.Hid (∀ w, LexAt b s (k + n) lv w → Calls Try.prog 80 #[.pointer (some ⟨b, 0, none⟩)] w (TakePost b K r e w))) (w : World) (h : LexAt b s k lv w) :
    Calls Try.prog 47 #[.pointer (some ⟨b, 0, none⟩)] w (NextPost b (k + n) K r e w) := by
  have HL := Lib.hid h
  have C := Lib.hid (blank_x b s k n lv hk hs hn)
  have hb := h.lt
  obtain ⟨c0, c1, c2, f1, f2⟩ := h.cells
  unfold maxLen at hs
  clear h hn
  have hle : (((k : Int) + n) == (s.size : Int)) = false := by simp; omega
  have h256 := (s[k + n]'hlt).toNat_lt
  have le := letter_any ((s[k + n]'hlt).toNat : Int) (by omega) (by omega)
  rw [hc] at le
  have LE := Lib.hid le
  clear le hc
  clear h256
  have hz : ((k : Int) + n < s.size) := by omega
  go_enter Try.func47, Try.ntmps47
  go_wp2_with (go_at_call 77; refine (C.out _ (by repeat (first | (with_reducible exact HL.out) | (with_reducible apply LexAt.alloc) | (with_reducible apply LexAt.more)))).mono ?_; rintro e _ ⟨rfl, d, os, rfl⟩)
  refine wp_region_grow 9 62 [false, false, false, false, false, false, false, false, false] (by kernel_rfl) (by kernel_rfl) rfl ?_
  simp only [List.take_succ_cons, List.take_zero, List.drop_succ_cons, List.drop_zero]
  repeat (refine Lex.step rfl ?_; intro K hK; unfold StepG; go_simp; (first
      | refine hK _ ?_); clear hK K)
  refine Lex.nil fun WW hE => ?_
  obtain ⟨dd, oo, rfl⟩ := hE
  unfold FillH
  go_wp2_with fail
  rw [ends_normal]
  go_wp2_with fail
  refine wp_region_grow 8 62 [false, false, false, false, false, false, false, false] (by kernel_rfl) (by kernel_rfl) rfl ?_
  simp only [List.take_succ_cons, List.take_zero, List.drop_succ_cons, List.drop_zero]
  repeat (refine Lex.step rfl ?_; intro K hK; unfold StepG; go_simp; (first
      | refine hK _ ?_); clear hK K)
  refine Lex.nil fun WW hE => ?_
  obtain ⟨dd, oo, rfl⟩ := hE
  unfold FillH
  go_wp2_with (go_at_call 79; refine (LE.out _).mono ?_; rintro e _ ⟨rfl, rfl⟩)
  first | rw [ends_normal] | skip
  go_wp2_with (go_at_call 79; refine (LE.out _).mono ?_; rintro e _ ⟨rfl, rfl⟩)
  refine (T.out _ (by repeat (first | (with_reducible apply LexAt.more) | (with_reducible apply LexAt.alloc) | ((with_reducible refine LexAt.set HL.out _ _ ?_); omega)))).mono ?_
  rintro e _ ⟨rfl, k2, hk2, d3, os3, rfl⟩
  have HK2 := Lib.hid hk2
  clear hk2
  go_wp2_with fail
  refine bodyPost_ret (v := .tuple #[.agg #[.int .i64 r.k, .int .i64 ((k : Int) + n), .string r.s, .int .i64 r.i], .int .i64 e, .bool true]) (by simp [results, Try.results47, go_sem]) rfl ?_
  exact ⟨rfl, k2, HK2.out, by repeat (first | exact Ext.refl _ | apply Ext.alloc | apply Ext.more)⟩

set_option maxHeartbeats 2000000 in
set_option maxRecDepth 20000 in
theorem next_number (b : Nat) (s : ByteArray) (k n : Nat) (lv : Value) (hk : k ≤ s.size) (hs : s.size ≤ maxLen) (hn : skipL false (s.data.toList.drop k) = n) (hlt : k + n < s.size) (hc : letterB ((s[k + n]'hlt).toNat : Int) = false) (hd : digitB ((s[k + n]'hlt).toNat : Int) = true) (K : Nat) (r : Tok) (e : Int)
    (T : RowKit.Hid (∀ w, LexAt b s (k + n) lv w → Calls Try.prog 82 #[.pointer (some ⟨b, 0, none⟩)] w (TakePost b K r e w))) (w : World) (h : LexAt b s k lv w) :
    Calls Try.prog 47 #[.pointer (some ⟨b, 0, none⟩)] w (NextPost b (k + n) K r e w) := by
  have HL := Lib.hid h
  have C := Lib.hid (blank_x b s k n lv hk hs hn)
  have hb := h.lt
  obtain ⟨c0, c1, c2, f1, f2⟩ := h.cells
  unfold maxLen at hs
  clear h hn
  have hle : (((k : Int) + n) == (s.size : Int)) = false := by simp; omega
  have h256 := (s[k + n]'hlt).toNat_lt
  have le := letter_any ((s[k + n]'hlt).toNat : Int) (by omega) (by omega)
  rw [hc] at le
  have LE := Lib.hid le
  clear le hc
  have de := digit_any ((s[k + n]'hlt).toNat : Int) (by omega) (by omega)
  rw [hd] at de
  have DE := Lib.hid de
  clear de hd
  clear h256
  have hz : ((k : Int) + n < s.size) := by omega
  go_enter Try.func47, Try.ntmps47
  go_wp2_with (go_at_call 77; refine (C.out _ (by repeat (first | (with_reducible exact HL.out) | (with_reducible apply LexAt.alloc) | (with_reducible apply LexAt.more)))).mono ?_; rintro e _ ⟨rfl, d, os, rfl⟩)
  refine wp_region_grow 9 62 [false, false, false, false, false, false, false, false, false] (by kernel_rfl) (by kernel_rfl) rfl ?_
  simp only [List.take_succ_cons, List.take_zero, List.drop_succ_cons, List.drop_zero]
  repeat (refine Lex.step rfl ?_; intro K hK; unfold StepG; go_simp; (first
      | refine hK _ ?_); clear hK K)
  refine Lex.nil fun WW hE => ?_
  obtain ⟨dd, oo, rfl⟩ := hE
  unfold FillH
  go_wp2_with fail
  rw [ends_normal]
  go_wp2_with fail
  refine wp_region_grow 8 62 [false, false, false, false, false, false, false, false] (by kernel_rfl) (by kernel_rfl) rfl ?_
  simp only [List.take_succ_cons, List.take_zero, List.drop_succ_cons, List.drop_zero]
  repeat (refine Lex.step rfl ?_; intro K hK; unfold StepG; go_simp; (first
      | refine hK _ ?_); clear hK K)
  refine Lex.nil fun WW hE => ?_
  obtain ⟨dd, oo, rfl⟩ := hE
  unfold FillH
  go_wp2_with (first
    | (go_at_call 79; refine (LE.out _).mono ?_; rintro e _ ⟨rfl, rfl⟩)
    | (go_at_call 81; refine (DE.out _).mono ?_; rintro e _ ⟨rfl, rfl⟩))
  first | rw [ends_normal] | skip
  go_wp2_with (first
    | (go_at_call 79; refine (LE.out _).mono ?_; rintro e _ ⟨rfl, rfl⟩)
    | (go_at_call 81; refine (DE.out _).mono ?_; rintro e _ ⟨rfl, rfl⟩))
  refine (T.out _ (by repeat (first | (with_reducible apply LexAt.more) | (with_reducible apply LexAt.alloc) | ((with_reducible refine LexAt.set HL.out _ _ ?_); omega)))).mono ?_
  rintro e _ ⟨rfl, k2, hk2, d3, os3, rfl⟩
  have HK2 := Lib.hid hk2
  clear hk2
  go_wp2_with fail
  refine bodyPost_ret (v := .tuple #[.agg #[.int .i64 r.k, .int .i64 ((k : Int) + n), .string r.s, .int .i64 r.i], .int .i64 e, .bool true]) (by simp [results, Try.results47, go_sem]) rfl ?_
  exact ⟨rfl, k2, HK2.out, by repeat (first | exact Ext.refl _ | apply Ext.alloc | apply Ext.more)⟩

set_option maxHeartbeats 2000000 in
set_option maxRecDepth 20000 in
theorem next_text (b : Nat) (s : ByteArray) (k n : Nat) (lv : Value) (hk : k ≤ s.size) (hs : s.size ≤ maxLen) (hn : skipL false (s.data.toList.drop k) = n) (hlt : k + n < s.size) (hc : letterB ((s[k + n]'hlt).toNat : Int) = false) (hd : digitB ((s[k + n]'hlt).toNat : Int) = false) (hq : (((s[k + n]'hlt).toNat : Int) == 34) = true) (K : Nat) (r : Tok) (e : Int)
    (T : RowKit.Hid (∀ w, LexAt b s (k + n) lv w → Calls Try.prog 83 #[.pointer (some ⟨b, 0, none⟩)] w (TakePost b K r e w))) (w : World) (h : LexAt b s k lv w) :
    Calls Try.prog 47 #[.pointer (some ⟨b, 0, none⟩)] w (NextPost b (k + n) K r e w) := by
  have HL := Lib.hid h
  have C := Lib.hid (blank_x b s k n lv hk hs hn)
  have hb := h.lt
  obtain ⟨c0, c1, c2, f1, f2⟩ := h.cells
  unfold maxLen at hs
  clear h hn
  have hle : (((k : Int) + n) == (s.size : Int)) = false := by simp; omega
  have h256 := (s[k + n]'hlt).toNat_lt
  have le := letter_any ((s[k + n]'hlt).toNat : Int) (by omega) (by omega)
  rw [hc] at le
  have LE := Lib.hid le
  clear le hc
  have de := digit_any ((s[k + n]'hlt).toNat : Int) (by omega) (by omega)
  rw [hd] at de
  have DE := Lib.hid de
  clear de hd
  clear h256
  have hz : ((k : Int) + n < s.size) := by omega
  go_enter Try.func47, Try.ntmps47
  go_wp2_with (go_at_call 77; refine (C.out _ (by repeat (first | (with_reducible exact HL.out) | (with_reducible apply LexAt.alloc) | (with_reducible apply LexAt.more)))).mono ?_; rintro e _ ⟨rfl, d, os, rfl⟩)
  refine wp_region_grow 9 62 [false, false, false, false, false, false, false, false, false] (by kernel_rfl) (by kernel_rfl) rfl ?_
  simp only [List.take_succ_cons, List.take_zero, List.drop_succ_cons, List.drop_zero]
  repeat (refine Lex.step rfl ?_; intro K hK; unfold StepG; go_simp; (first
      | refine hK _ ?_); clear hK K)
  refine Lex.nil fun WW hE => ?_
  obtain ⟨dd, oo, rfl⟩ := hE
  unfold FillH
  go_wp2_with fail
  rw [ends_normal]
  go_wp2_with fail
  refine wp_region_grow 8 62 [false, false, false, false, false, false, false, false] (by kernel_rfl) (by kernel_rfl) rfl ?_
  simp only [List.take_succ_cons, List.take_zero, List.drop_succ_cons, List.drop_zero]
  repeat (refine Lex.step rfl ?_; intro K hK; unfold StepG; go_simp; (first
      | refine hK _ ?_); clear hK K)
  refine Lex.nil fun WW hE => ?_
  obtain ⟨dd, oo, rfl⟩ := hE
  unfold FillH
  go_wp2_with (first
    | (go_at_call 79; refine (LE.out _).mono ?_; rintro e _ ⟨rfl, rfl⟩)
    | (go_at_call 81; refine (DE.out _).mono ?_; rintro e _ ⟨rfl, rfl⟩))
  first | rw [ends_normal] | skip
  go_wp2_with (first
    | (go_at_call 79; refine (LE.out _).mono ?_; rintro e _ ⟨rfl, rfl⟩)
    | (go_at_call 81; refine (DE.out _).mono ?_; rintro e _ ⟨rfl, rfl⟩))
  refine (T.out _ (by repeat (first | (with_reducible apply LexAt.more) | (with_reducible apply LexAt.alloc) | ((with_reducible refine LexAt.set HL.out _ _ ?_); omega)))).mono ?_
  rintro e _ ⟨rfl, k2, hk2, d3, os3, rfl⟩
  have HK2 := Lib.hid hk2
  clear hk2
  go_wp2_with fail
  refine bodyPost_ret (v := .tuple #[.agg #[.int .i64 r.k, .int .i64 ((k : Int) + n), .string r.s, .int .i64 r.i], .int .i64 e, .bool true]) (by simp [results, Try.results47, go_sem]) rfl ?_
  exact ⟨rfl, k2, HK2.out, by repeat (first | exact Ext.refl _ | apply Ext.alloc | apply Ext.more)⟩

set_option maxHeartbeats 2000000 in
set_option maxRecDepth 20000 in
theorem next_sign (b : Nat) (s : ByteArray) (k n : Nat) (lv : Value) (hk : k ≤ s.size) (hs : s.size ≤ maxLen) (hn : skipL false (s.data.toList.drop k) = n) (hlt : k + n < s.size) (hc : letterB ((s[k + n]'hlt).toNat : Int) = false) (hd : digitB ((s[k + n]'hlt).toNat : Int) = false) (hq : (((s[k + n]'hlt).toNat : Int) == 34) = false) (K : Nat) (r : Tok) (e : Int)
    (T : RowKit.Hid (∀ w, LexAt b s (k + n) lv w → Calls Try.prog 78 #[.pointer (some ⟨b, 0, none⟩)] w (TakePost b K r e w))) (w : World) (h : LexAt b s k lv w) :
    Calls Try.prog 47 #[.pointer (some ⟨b, 0, none⟩)] w (NextPost b (k + n) K r e w) := by
  have HL := Lib.hid h
  have C := Lib.hid (blank_x b s k n lv hk hs hn)
  have hb := h.lt
  obtain ⟨c0, c1, c2, f1, f2⟩ := h.cells
  unfold maxLen at hs
  clear h hn
  have hle : (((k : Int) + n) == (s.size : Int)) = false := by simp; omega
  have h256 := (s[k + n]'hlt).toNat_lt
  have le := letter_any ((s[k + n]'hlt).toNat : Int) (by omega) (by omega)
  rw [hc] at le
  have LE := Lib.hid le
  clear le hc
  have de := digit_any ((s[k + n]'hlt).toNat : Int) (by omega) (by omega)
  rw [hd] at de
  have DE := Lib.hid de
  clear de hd
  clear h256
  have hz : ((k : Int) + n < s.size) := by omega
  go_enter Try.func47, Try.ntmps47
  go_wp2_with (go_at_call 77; refine (C.out _ (by repeat (first | (with_reducible exact HL.out) | (with_reducible apply LexAt.alloc) | (with_reducible apply LexAt.more)))).mono ?_; rintro e _ ⟨rfl, d, os, rfl⟩)
  refine wp_region_grow 9 62 [false, false, false, false, false, false, false, false, false] (by kernel_rfl) (by kernel_rfl) rfl ?_
  simp only [List.take_succ_cons, List.take_zero, List.drop_succ_cons, List.drop_zero]
  repeat (refine Lex.step rfl ?_; intro K hK; unfold StepG; go_simp; (first
      | refine hK _ ?_); clear hK K)
  refine Lex.nil fun WW hE => ?_
  obtain ⟨dd, oo, rfl⟩ := hE
  unfold FillH
  go_wp2_with fail
  rw [ends_normal]
  go_wp2_with fail
  refine wp_region_grow 8 62 [false, false, false, false, false, false, false, false] (by kernel_rfl) (by kernel_rfl) rfl ?_
  simp only [List.take_succ_cons, List.take_zero, List.drop_succ_cons, List.drop_zero]
  repeat (refine Lex.step rfl ?_; intro K hK; unfold StepG; go_simp; (first
      | refine hK _ ?_); clear hK K)
  refine Lex.nil fun WW hE => ?_
  obtain ⟨dd, oo, rfl⟩ := hE
  unfold FillH
  go_wp2_with (first
    | (go_at_call 79; refine (LE.out _).mono ?_; rintro e _ ⟨rfl, rfl⟩)
    | (go_at_call 81; refine (DE.out _).mono ?_; rintro e _ ⟨rfl, rfl⟩))
  first | rw [ends_normal] | skip
  go_wp2_with (first
    | (go_at_call 79; refine (LE.out _).mono ?_; rintro e _ ⟨rfl, rfl⟩)
    | (go_at_call 81; refine (DE.out _).mono ?_; rintro e _ ⟨rfl, rfl⟩))
  refine (T.out _ (by repeat (first | (with_reducible apply LexAt.more) | (with_reducible apply LexAt.alloc) | ((with_reducible refine LexAt.set HL.out _ _ ?_); omega)))).mono ?_
  rintro e _ ⟨rfl, k2, hk2, d3, os3, rfl⟩
  have HK2 := Lib.hid hk2
  clear hk2
  go_wp2_with fail
  refine bodyPost_ret (v := .tuple #[.agg #[.int .i64 r.k, .int .i64 ((k : Int) + n), .string r.s, .int .i64 r.i], .int .i64 e, .bool true]) (by simp [results, Try.results47, go_sem]) rfl ?_
  exact ⟨rfl, k2, HK2.out, by repeat (first | exact Ext.refl _ | apply Ext.alloc | apply Ext.more)⟩
end Go.Proofs.Ytoaaklcbcbjaiaa
