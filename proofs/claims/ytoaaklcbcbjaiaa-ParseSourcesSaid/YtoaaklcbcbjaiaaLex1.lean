/- The lexer's small functions: letter, digit, escape, the closures; 'while' over any of them. -/
import Derived.Test.YtoaaklcbcbjaiaaVoc2
import Derived.Test.YtoaaklcbcbjaiaaGrow
import Derived.Test.YtoaaklcbcbjaiaaChecked
import Derived.LoopTactic
import Derived.Deep.LoopGhost
import Derived.Outline
set_option linter.unusedSimpArgs false
set_option linter.unusedVariables false
namespace Go.Proofs.Ytoaaklcbcbjaiaa
open Go.RowKit

theorem ret1 {P : Program} {f : FuncId} {args : Array Value} {v : Value} {W : World} (h : Calls P f args W fun e w' => e = .returned v ∧ Ext W w') :
    Calls P f args W (RetG W fun x _ => x = v) := h.mono fun e w' ⟨he, hx⟩ => ⟨v, he, hx, rfl⟩
theorem ret1s {P : Program} {f : FuncId} {args : Array Value} {v : Value} {W : World} (h : Calls P f args W fun e w' => e = .returned v ∧ W = w') :
    Calls P f args W (RetG W fun x _ => x = v) := h.mono fun e w' ⟨he, hx⟩ => ⟨v, he, hx ▸ Ext.refl _, rfl⟩
attribute [go_sem] more_more Array.size_append
theorem ret_bool {a b : Bool} (h : a = b) : Ending.returned (.bool a) = .returned (.bool b) := by rw [h]
theorem ret_int {k : IntKind} {a b : Int} (h : a = b) : Ending.returned (.int k a) = .returned (.int k b) := by rw [h]

def letterB (c : Int) : Bool := decide ((97 ≤ c ∧ c ≤ 122) ∨ c = 95)
def digitB (c : Int) : Bool := decide (48 ≤ c ∧ c ≤ 57)
def noNl (c : Int) : Bool := decide (¬ c = 10)
def nameB (c : Int) : Bool := letterB c || digitB c
def escZ (c : Int) : Int := if c = 34 ∨ c = 92 then c else if c = 110 then 10 else 0

/-- the lexer's block -/
def LexAt (b : Nat) (s : ByteArray) (k : Nat) (lv : Value) (w : World) : Prop := w.heap[b]? = some (.cells #[.string s, .int .i64 (k : Int), lv] 88 (0, 0))
theorem LexAt.lt {b : Nat} {s : ByteArray} {k : Nat} {lv : Value} {w : World} (h : LexAt b s k lv w) : b < w.heap.size := by
  rcases Nat.lt_or_ge b w.heap.size with h' | h'
  · exact h'
  · unfold LexAt at h; rw [Array.getElem?_eq_none h'] at h; cases h
theorem LexAt.cells {b : Nat} {s : ByteArray} {k : Nat} {lv : Value} {w : World} (h : LexAt b s k lv w) :
    w.cell? ⟨b, 0, none⟩ = some (.string s) ∧ w.cell? ⟨b, 1, none⟩ = some (.int .i64 (k : Int)) ∧ w.cell? ⟨b, 2, none⟩ = some lv ∧ w.frozen? ⟨b, 1, none⟩ = false ∧ w.frozen? ⟨b, 2, none⟩ = false := by
  unfold LexAt at h
  simp [World.cell?, World.frozen?, h]
theorem LexAt.more {b : Nat} {s : ByteArray} {k : Nat} {lv : Value} {w : World} (h : LexAt b s k lv w) (d : Nat) (os : Array Obj) : LexAt b s k lv (more w d os) := by
  unfold LexAt; rw [more_heap _ _ _ _ h.lt]; exact h
theorem LexAt.set {b : Nat} {s : ByteArray} {k : Nat} {lv : Value} {w : World} (h : LexAt b s k lv w) (k' : Nat) (z : Int) (hz : z = k') : LexAt b s k' lv (w.setCell ⟨b, 1, none⟩ (.int .i64 z)) := by
  subst hz
  unfold LexAt at h ⊢
  simp [World.setCell, Array.getElem?_modify, h]
theorem grown_set {w0 w : World} {b : Nat} (h : w0.grownBy w (some b)) (i : Nat) (v : Value) : w0.grownBy (w.setCell ⟨b, i, none⟩ v) (some b) := by
  obtain ⟨h1, h2, h3, h4, h5⟩ := h
  refine ⟨h1, h2, h3, by simpa [World.setCell] using h4, fun k hk hne => ?_⟩
  rw [← h5 k hk hne]
  exact Below.heap_setCell _ _ _ _ (fun e => hne (by simp [e]))
theorem grown_refl (w : World) (row : Option Nat) : w.grownBy w row := ⟨rfl, rfl, rfl, Nat.le_refl _, fun _ _ _ => rfl⟩
theorem grown_ext {w0 w w' : World} {row : Option Nat} (h : w0.grownBy w row) (hx : Ext w w') : w0.grownBy w' row := by
  obtain ⟨d, os, rfl⟩ := hx
  obtain ⟨h1, h2, h3, h4, h5⟩ := h
  refine ⟨h1, h2, h3, by rw [more_size]; omega, fun k hk hne => ?_⟩
  rw [more_heap _ _ _ _ (by omega)]
  exact h5 k hk hne
theorem grown_trans {a b c : World} {row : Option Nat} (h : a.grownBy b row) (k : b.grownBy c row) : a.grownBy c row := by
  obtain ⟨h1, h2, h3, h4, h5⟩ := h
  obtain ⟨k1, k2, k3, k4, k5⟩ := k
  refine ⟨k1.trans h1, k2.trans h2, k3.trans h3, by omega, fun j hj hne => ?_⟩
  rw [k5 j (by omega) hne, h5 j hj hne]

/-- how many bytes are such -/
def spanN (p : Int → Bool) : List UInt8 → Nat
  | [] => 0
  | c :: l => if p (c.toNat : Int) then spanN p l + 1 else 0
theorem spanN_le (p : Int → Bool) : ∀ l, spanN p l ≤ l.length
  | [] => by simp [spanN]
  | c :: l => by have := spanN_le p l; simp only [spanN, List.length_cons]; split <;> omega

set_option maxHeartbeats 400000 in
theorem letter_any (c : Int) (h0 : 0 ≤ c) (h1 : c < 256) (w : World) :
    Calls Try.prog 79 #[.int .u8 c] w fun e w' => e = .returned (.bool (letterB c)) ∧ w = w' := by
  go_enter Try.func79, Try.ntmps79
  go_wp2
  all_goals
    go_ret
    refine ⟨ret_bool (by first | (rw [Bool.eq_iff_iff]; simp [letterB]; omega) | (simp [letterB]; omega)), rfl⟩

set_option maxHeartbeats 400000 in
theorem digit_any (c : Int) (h0 : 0 ≤ c) (h1 : c < 256) (w : World) :
    Calls Try.prog 81 #[.int .u8 c] w fun e w' => e = .returned (.bool (digitB c)) ∧ w = w' := by
  go_enter Try.func81, Try.ntmps81
  go_wp2
  all_goals
    go_ret
    refine ⟨ret_bool (by first | (rw [Bool.eq_iff_iff]; simp [digitB]; omega) | (simp [digitB]; omega)), rfl⟩

set_option maxHeartbeats 400000 in
theorem nonl_any (c : Int) (h0 : 0 ≤ c) (h1 : c < 256) (w : World) :
    Calls Try.prog 99 #[.int .u8 c] w fun e w' => e = .returned (.bool (noNl c)) ∧ w = w' := by
  go_enter Try.func99, Try.ntmps99
  go_wp2
  all_goals
    go_ret
    refine ⟨ret_bool (by first | (rw [Bool.eq_iff_iff]; simp [noNl]; done) | (rw [Bool.eq_iff_iff]; simp [noNl]; omega)), rfl⟩

set_option maxHeartbeats 400000 in
theorem esc_any (c : Int) (h0 : 0 ≤ c) (h1 : c < 256) (w : World) :
    Calls Try.prog 106 #[.int .u8 c] w fun e w' => e = .returned (.int .u8 (escZ c)) ∧ w = w' := by
  go_enter Try.func106, Try.ntmps106
  go_wp2
  all_goals
    go_ret
    refine ⟨ret_int ?_, rfl⟩
    unfold escZ
    simp only [beq_iff_eq, beq_eq_false_iff_ne, ne_eq] at *
    repeat' split
    all_goals omega

set_option maxHeartbeats 400000 in
theorem name1_any (c : Int) (h0 : 0 ≤ c) (h1 : c < 256) (w : World) :
    Calls Try.prog 101 #[.int .u8 c] w fun e w' => e = .returned (.bool (nameB c)) ∧ w = w' := by
  have C1 := Lib.hid (letter_any c h0 h1)
  have C2 := Lib.hid (digit_any c h0 h1)
  obtain ⟨p, hp⟩ : ∃ p, letterB c = p := ⟨_, rfl⟩
  obtain ⟨q, hq⟩ : ∃ q, digitB c = q := ⟨_, rfl⟩
  have hn : nameB c = (p || q) := by unfold nameB; rw [hp, hq]
  rw [hp] at C1
  rw [hq] at C2
  rw [hn]
  clear hp hq hn
  cases p
  all_goals
    go_enter Try.func101, Try.ntmps101
    go_wp2_with (first
      | (go_at_call 79; refine (C1.out _).mono ?_; rintro e _ ⟨rfl, rfl⟩)
      | (go_at_call 81; refine (C2.out _).mono ?_; rintro e _ ⟨rfl, rfl⟩))
    go_ret
    exact ⟨rfl, rfl⟩

set_option maxHeartbeats 1000000 in
set_option maxRecDepth 20000 in
theorem while_digit (b : Nat) (s : ByteArray) (k n : Nat) (lv : Value) (w : World) (h : LexAt b s k lv w) (hk : k ≤ s.size) (hs : s.size ≤ maxLen) (hn : spanN digitB (s.data.toList.drop k) = n) :
    Calls Try.prog 98 #[.pointer (some ⟨b, 0, none⟩), .func (.func 81) #[] #[]] w fun e w' => e = .returned (.string (s.extract k (k + n))) ∧ LexAt b s (k + n) lv w' ∧ w.grownBy w' (some b) := by
  unfold maxLen at hs
  have HN := Lib.hid hn
  have HL := Lib.hid h
  obtain ⟨c0, c1, c2, f1, f2⟩ := h.cells
  have hb := h.lt
  clear hn h
  go_enter Try.func98, Try.ntmps98
  go_wp2_with fail
  clear c0 c1 c2 f1 f2 hb
  go_loopg [] n (fun g wr => ∃ m, k ≤ m ∧ m ≤ s.size ∧ m + g = k + n ∧ spanN digitB (s.data.toList.drop m) = g ∧ LexAt b s m lv wr ∧ w.grownBy wr (some b))
  case atStart => exact ⟨k, by omega, by omega, by omega, HN.out, HL.out, grown_refl _ _⟩
  case round =>
    obtain ⟨m, hkm, hms, hj, hsp, hL, hg⟩ := hrel
    have HLL := Lib.hid hL
    have HG := Lib.hid hg
    have HJ := Lib.hid hj
    obtain ⟨c0, c1, c2, f1, f2⟩ := hL.cells
    have hb := hL.lt
    clear hL hg hj HN HL
    by_cases hlt : m < s.size
    · have hml : m < s.data.toList.length := by simpa using hlt
      have hd : s.data.toList.drop m = s[m]'hlt :: s.data.toList.drop (m + 1) := List.drop_eq_getElem_cons hml
      rw [hd] at hsp
      unfold spanN at hsp
      have h256 := (s[m]'hlt).toNat_lt
      have CC := Lib.hid (digit_any ((s[m]'hlt).toNat : Int) (by omega) (by omega))
      by_cases hp : digitB ((s[m]'hlt).toNat : Int) = true
      · rw [if_pos hp] at hsp
        rw [hp] at CC
        have HS := Lib.hid hsp
        clear hsp hd hp h256 hml
        go_wp2_with fail
        refine wp_region_grow 21 50 [false, false, false, false, false, false, false, false, false, false, false, false, false, false, false, false, false, false, false, false, false] (by kernel_rfl) (by kernel_rfl) rfl ?_
        simp only [List.take_succ_cons, List.take_zero, List.drop_succ_cons, List.drop_zero]
        repeat (refine Lex.step rfl ?_; intro K hK; unfold StepG; go_simp; (first
            | refine hK _ ?_); clear hK K)
        refine Lex.nil fun WW hE => ?_
        obtain ⟨dd, oo, rfl⟩ := hE
        unfold FillH
        go_wp2_with (go_at_call 81; refine (CC.out _).mono ?_; rintro e _ ⟨rfl, rfl⟩)
        rw [ends_normal]
        go_wp2_with fail
        go_roundg (gk - 1)
        case measure => have := HS.out; omega
        case rel =>
          have h1 := HS.out
          refine ⟨m + 1, by omega, by omega, by have := HJ.out; omega, by omega, ((HLL.out.set (m + 1) _ (by omega)).more _ _), grown_ext (grown_set HG.out _ _) (Ext.more (Ext.refl _) _ _)⟩
      · have hpf : digitB ((s[m]'hlt).toNat : Int) = false := by simpa using hp
        rw [if_neg hp] at hsp
        rw [hpf] at CC
        subst hsp
        have HMN := Lib.hid (show m = k + n by have := HJ.out; omega)
        clear hd hp hpf h256 hml HJ
        go_wp2_with fail
        refine wp_region_grow 21 50 [false, false, false, false, false, false, false, false, false, false, false, false, false, false, false, false, false, false, false, false, false] (by kernel_rfl) (by kernel_rfl) rfl ?_
        simp only [List.take_succ_cons, List.take_zero, List.drop_succ_cons, List.drop_zero]
        repeat (refine Lex.step rfl ?_; intro K hK; unfold StepG; go_simp; (first
            | refine hK _ ?_); clear hK K)
        refine Lex.nil fun WW hE => ?_
        obtain ⟨dd, oo, rfl⟩ := hE
        unfold FillH
        go_wp2_with (go_at_call 81; refine (CC.out _).mono ?_; rintro e _ ⟨rfl, rfl⟩)
        rw [ends_normal]
        go_wp2_with fail
        refine wp_region_grow 9 50 [false, false, false, false, false, false, false, false, false] (by kernel_rfl) (by kernel_rfl) rfl ?_
        simp only [List.take_succ_cons, List.take_zero, List.drop_succ_cons, List.drop_zero]
        repeat (refine Lex.step rfl ?_; intro K hK; unfold StepG; go_simp; (first
            | refine hK _ ?_); clear hK K)
        refine Lex.nil fun WW hE => ?_
        obtain ⟨dd, oo, rfl⟩ := hE
        unfold FillH
        go_wp2_with fail
        rw [ends_normal]
        go_wp2_with fail
        go_ret
        refine ⟨?_, ?_, ?_⟩
        · rw [← HMN.out]; rfl
        · rw [← HMN.out]; exact HLL.out.more _ _
        · exact grown_ext HG.out (by repeat (first | exact Ext.refl _ | apply Ext.more))
    · have hme : m = s.size := by omega
      have hnil : s.data.toList.drop m = [] := by apply List.drop_eq_nil_of_le; simp; omega
      rw [hnil] at hsp
      simp only [spanN] at hsp
      subst hsp
      have HMN := Lib.hid (show s.size = k + n by have := HJ.out; omega)
      clear hnil hms HJ
      subst hme
      go_wp2_with fail
      refine wp_region_grow 21 50 [false, false, false, false, false, false, false, false, false, false, false, false, false, false, false, false, false, false, false, false, false] (by kernel_rfl) (by kernel_rfl) rfl ?_
      simp only [List.take_succ_cons, List.take_zero, List.drop_succ_cons, List.drop_zero]
      repeat (refine Lex.step rfl ?_; intro K hK; unfold StepG; go_simp; (first
          | refine hK _ ?_); clear hK K)
      refine Lex.nil fun WW hE => ?_
      obtain ⟨dd, oo, rfl⟩ := hE
      unfold FillH
      go_wp2_with fail
      rw [ends_normal]
      go_wp2_with fail
      refine wp_region_grow 9 50 [false, false, false, false, false, false, false, false, false] (by kernel_rfl) (by kernel_rfl) rfl ?_
      simp only [List.take_succ_cons, List.take_zero, List.drop_succ_cons, List.drop_zero]
      repeat (refine Lex.step rfl ?_; intro K hK; unfold StepG; go_simp; (first
          | refine hK _ ?_); clear hK K)
      refine Lex.nil fun WW hE => ?_
      obtain ⟨dd, oo, rfl⟩ := hE
      unfold FillH
      go_wp2_with fail
      rw [ends_normal]
      go_wp2_with fail
      go_ret
      refine ⟨?_, ?_, ?_⟩
      · rw [← HMN.out]; rfl
      · rw [← HMN.out]; exact HLL.out.more _ _
      · exact grown_ext HG.out (by repeat (first | exact Ext.refl _ | apply Ext.more))

set_option maxHeartbeats 1000000 in
set_option maxRecDepth 20000 in
theorem while_nonl (b : Nat) (s : ByteArray) (k n : Nat) (lv : Value) (w : World) (h : LexAt b s k lv w) (hk : k ≤ s.size) (hs : s.size ≤ maxLen) (hn : spanN noNl (s.data.toList.drop k) = n) :
    Calls Try.prog 98 #[.pointer (some ⟨b, 0, none⟩), .func (.func 99) #[] #[]] w fun e w' => e = .returned (.string (s.extract k (k + n))) ∧ LexAt b s (k + n) lv w' ∧ w.grownBy w' (some b) := by
  unfold maxLen at hs
  have HN := Lib.hid hn
  have HL := Lib.hid h
  obtain ⟨c0, c1, c2, f1, f2⟩ := h.cells
  have hb := h.lt
  clear hn h
  go_enter Try.func98, Try.ntmps98
  go_wp2_with fail
  clear c0 c1 c2 f1 f2 hb
  go_loopg [] n (fun g wr => ∃ m, k ≤ m ∧ m ≤ s.size ∧ m + g = k + n ∧ spanN noNl (s.data.toList.drop m) = g ∧ LexAt b s m lv wr ∧ w.grownBy wr (some b))
  case atStart => exact ⟨k, by omega, by omega, by omega, HN.out, HL.out, grown_refl _ _⟩
  case round =>
    obtain ⟨m, hkm, hms, hj, hsp, hL, hg⟩ := hrel
    have HLL := Lib.hid hL
    have HG := Lib.hid hg
    have HJ := Lib.hid hj
    obtain ⟨c0, c1, c2, f1, f2⟩ := hL.cells
    have hb := hL.lt
    clear hL hg hj HN HL
    by_cases hlt : m < s.size
    · have hml : m < s.data.toList.length := by simpa using hlt
      have hd : s.data.toList.drop m = s[m]'hlt :: s.data.toList.drop (m + 1) := List.drop_eq_getElem_cons hml
      rw [hd] at hsp
      unfold spanN at hsp
      have h256 := (s[m]'hlt).toNat_lt
      have CC := Lib.hid (nonl_any ((s[m]'hlt).toNat : Int) (by omega) (by omega))
      by_cases hp : noNl ((s[m]'hlt).toNat : Int) = true
      · rw [if_pos hp] at hsp
        rw [hp] at CC
        have HS := Lib.hid hsp
        clear hsp hd hp h256 hml
        go_wp2_with fail
        refine wp_region_grow 21 50 [false, false, false, false, false, false, false, false, false, false, false, false, false, false, false, false, false, false, false, false, false] (by kernel_rfl) (by kernel_rfl) rfl ?_
        simp only [List.take_succ_cons, List.take_zero, List.drop_succ_cons, List.drop_zero]
        repeat (refine Lex.step rfl ?_; intro K hK; unfold StepG; go_simp; (first
            | refine hK _ ?_); clear hK K)
        refine Lex.nil fun WW hE => ?_
        obtain ⟨dd, oo, rfl⟩ := hE
        unfold FillH
        go_wp2_with (go_at_call 99; refine (CC.out _).mono ?_; rintro e _ ⟨rfl, rfl⟩)
        rw [ends_normal]
        go_wp2_with fail
        go_roundg (gk - 1)
        case measure => have := HS.out; omega
        case rel =>
          have h1 := HS.out
          refine ⟨m + 1, by omega, by omega, by have := HJ.out; omega, by omega, ((HLL.out.set (m + 1) _ (by omega)).more _ _), grown_ext (grown_set HG.out _ _) (Ext.more (Ext.refl _) _ _)⟩
      · have hpf : noNl ((s[m]'hlt).toNat : Int) = false := by simpa using hp
        rw [if_neg hp] at hsp
        rw [hpf] at CC
        subst hsp
        have HMN := Lib.hid (show m = k + n by have := HJ.out; omega)
        clear hd hp hpf h256 hml HJ
        go_wp2_with fail
        refine wp_region_grow 21 50 [false, false, false, false, false, false, false, false, false, false, false, false, false, false, false, false, false, false, false, false, false] (by kernel_rfl) (by kernel_rfl) rfl ?_
        simp only [List.take_succ_cons, List.take_zero, List.drop_succ_cons, List.drop_zero]
        repeat (refine Lex.step rfl ?_; intro K hK; unfold StepG; go_simp; (first
            | refine hK _ ?_); clear hK K)
        refine Lex.nil fun WW hE => ?_
        obtain ⟨dd, oo, rfl⟩ := hE
        unfold FillH
        go_wp2_with (go_at_call 99; refine (CC.out _).mono ?_; rintro e _ ⟨rfl, rfl⟩)
        rw [ends_normal]
        go_wp2_with fail
        refine wp_region_grow 9 50 [false, false, false, false, false, false, false, false, false] (by kernel_rfl) (by kernel_rfl) rfl ?_
        simp only [List.take_succ_cons, List.take_zero, List.drop_succ_cons, List.drop_zero]
        repeat (refine Lex.step rfl ?_; intro K hK; unfold StepG; go_simp; (first
            | refine hK _ ?_); clear hK K)
        refine Lex.nil fun WW hE => ?_
        obtain ⟨dd, oo, rfl⟩ := hE
        unfold FillH
        go_wp2_with fail
        rw [ends_normal]
        go_wp2_with fail
        go_ret
        refine ⟨?_, ?_, ?_⟩
        · rw [← HMN.out]; rfl
        · rw [← HMN.out]; exact HLL.out.more _ _
        · exact grown_ext HG.out (by repeat (first | exact Ext.refl _ | apply Ext.more))
    · have hme : m = s.size := by omega
      have hnil : s.data.toList.drop m = [] := by apply List.drop_eq_nil_of_le; simp; omega
      rw [hnil] at hsp
      simp only [spanN] at hsp
      subst hsp
      have HMN := Lib.hid (show s.size = k + n by have := HJ.out; omega)
      clear hnil hms HJ
      subst hme
      go_wp2_with fail
      refine wp_region_grow 21 50 [false, false, false, false, false, false, false, false, false, false, false, false, false, false, false, false, false, false, false, false, false] (by kernel_rfl) (by kernel_rfl) rfl ?_
      simp only [List.take_succ_cons, List.take_zero, List.drop_succ_cons, List.drop_zero]
      repeat (refine Lex.step rfl ?_; intro K hK; unfold StepG; go_simp; (first
          | refine hK _ ?_); clear hK K)
      refine Lex.nil fun WW hE => ?_
      obtain ⟨dd, oo, rfl⟩ := hE
      unfold FillH
      go_wp2_with fail
      rw [ends_normal]
      go_wp2_with fail
      refine wp_region_grow 9 50 [false, false, false, false, false, false, false, false, false] (by kernel_rfl) (by kernel_rfl) rfl ?_
      simp only [List.take_succ_cons, List.take_zero, List.drop_succ_cons, List.drop_zero]
      repeat (refine Lex.step rfl ?_; intro K hK; unfold StepG; go_simp; (first
          | refine hK _ ?_); clear hK K)
      refine Lex.nil fun WW hE => ?_
      obtain ⟨dd, oo, rfl⟩ := hE
      unfold FillH
      go_wp2_with fail
      rw [ends_normal]
      go_wp2_with fail
      go_ret
      refine ⟨?_, ?_, ?_⟩
      · rw [← HMN.out]; rfl
      · rw [← HMN.out]; exact HLL.out.more _ _
      · exact grown_ext HG.out (by repeat (first | exact Ext.refl _ | apply Ext.more))

set_option maxHeartbeats 1000000 in
set_option maxRecDepth 20000 in
theorem while_name (b : Nat) (s : ByteArray) (k n : Nat) (lv : Value) (w : World) (h : LexAt b s k lv w) (hk : k ≤ s.size) (hs : s.size ≤ maxLen) (hn : spanN nameB (s.data.toList.drop k) = n) :
    Calls Try.prog 98 #[.pointer (some ⟨b, 0, none⟩), .func (.func 101) #[] #[]] w fun e w' => e = .returned (.string (s.extract k (k + n))) ∧ LexAt b s (k + n) lv w' ∧ w.grownBy w' (some b) := by
  unfold maxLen at hs
  have HN := Lib.hid hn
  have HL := Lib.hid h
  obtain ⟨c0, c1, c2, f1, f2⟩ := h.cells
  have hb := h.lt
  clear hn h
  go_enter Try.func98, Try.ntmps98
  go_wp2_with fail
  clear c0 c1 c2 f1 f2 hb
  go_loopg [] n (fun g wr => ∃ m, k ≤ m ∧ m ≤ s.size ∧ m + g = k + n ∧ spanN nameB (s.data.toList.drop m) = g ∧ LexAt b s m lv wr ∧ w.grownBy wr (some b))
  case atStart => exact ⟨k, by omega, by omega, by omega, HN.out, HL.out, grown_refl _ _⟩
  case round =>
    obtain ⟨m, hkm, hms, hj, hsp, hL, hg⟩ := hrel
    have HLL := Lib.hid hL
    have HG := Lib.hid hg
    have HJ := Lib.hid hj
    obtain ⟨c0, c1, c2, f1, f2⟩ := hL.cells
    have hb := hL.lt
    clear hL hg hj HN HL
    by_cases hlt : m < s.size
    · have hml : m < s.data.toList.length := by simpa using hlt
      have hd : s.data.toList.drop m = s[m]'hlt :: s.data.toList.drop (m + 1) := List.drop_eq_getElem_cons hml
      rw [hd] at hsp
      unfold spanN at hsp
      have h256 := (s[m]'hlt).toNat_lt
      have CC := Lib.hid (name1_any ((s[m]'hlt).toNat : Int) (by omega) (by omega))
      by_cases hp : nameB ((s[m]'hlt).toNat : Int) = true
      · rw [if_pos hp] at hsp
        rw [hp] at CC
        have HS := Lib.hid hsp
        clear hsp hd hp h256 hml
        go_wp2_with fail
        refine wp_region_grow 21 50 [false, false, false, false, false, false, false, false, false, false, false, false, false, false, false, false, false, false, false, false, false] (by kernel_rfl) (by kernel_rfl) rfl ?_
        simp only [List.take_succ_cons, List.take_zero, List.drop_succ_cons, List.drop_zero]
        repeat (refine Lex.step rfl ?_; intro K hK; unfold StepG; go_simp; (first
            | refine hK _ ?_); clear hK K)
        refine Lex.nil fun WW hE => ?_
        obtain ⟨dd, oo, rfl⟩ := hE
        unfold FillH
        go_wp2_with (go_at_call 101; refine (CC.out _).mono ?_; rintro e _ ⟨rfl, rfl⟩)
        rw [ends_normal]
        go_wp2_with fail
        go_roundg (gk - 1)
        case measure => have := HS.out; omega
        case rel =>
          have h1 := HS.out
          refine ⟨m + 1, by omega, by omega, by have := HJ.out; omega, by omega, ((HLL.out.set (m + 1) _ (by omega)).more _ _), grown_ext (grown_set HG.out _ _) (Ext.more (Ext.refl _) _ _)⟩
      · have hpf : nameB ((s[m]'hlt).toNat : Int) = false := by simpa using hp
        rw [if_neg hp] at hsp
        rw [hpf] at CC
        subst hsp
        have HMN := Lib.hid (show m = k + n by have := HJ.out; omega)
        clear hd hp hpf h256 hml HJ
        go_wp2_with fail
        refine wp_region_grow 21 50 [false, false, false, false, false, false, false, false, false, false, false, false, false, false, false, false, false, false, false, false, false] (by kernel_rfl) (by kernel_rfl) rfl ?_
        simp only [List.take_succ_cons, List.take_zero, List.drop_succ_cons, List.drop_zero]
        repeat (refine Lex.step rfl ?_; intro K hK; unfold StepG; go_simp; (first
            | refine hK _ ?_); clear hK K)
        refine Lex.nil fun WW hE => ?_
        obtain ⟨dd, oo, rfl⟩ := hE
        unfold FillH
        go_wp2_with (go_at_call 101; refine (CC.out _).mono ?_; rintro e _ ⟨rfl, rfl⟩)
        rw [ends_normal]
        go_wp2_with fail
        refine wp_region_grow 9 50 [false, false, false, false, false, false, false, false, false] (by kernel_rfl) (by kernel_rfl) rfl ?_
        simp only [List.take_succ_cons, List.take_zero, List.drop_succ_cons, List.drop_zero]
        repeat (refine Lex.step rfl ?_; intro K hK; unfold StepG; go_simp; (first
            | refine hK _ ?_); clear hK K)
        refine Lex.nil fun WW hE => ?_
        obtain ⟨dd, oo, rfl⟩ := hE
        unfold FillH
        go_wp2_with fail
        rw [ends_normal]
        go_wp2_with fail
        go_ret
        refine ⟨?_, ?_, ?_⟩
        · rw [← HMN.out]; rfl
        · rw [← HMN.out]; exact HLL.out.more _ _
        · exact grown_ext HG.out (by repeat (first | exact Ext.refl _ | apply Ext.more))
    · have hme : m = s.size := by omega
      have hnil : s.data.toList.drop m = [] := by apply List.drop_eq_nil_of_le; simp; omega
      rw [hnil] at hsp
      simp only [spanN] at hsp
      subst hsp
      have HMN := Lib.hid (show s.size = k + n by have := HJ.out; omega)
      clear hnil hms HJ
      subst hme
      go_wp2_with fail
      refine wp_region_grow 21 50 [false, false, false, false, false, false, false, false, false, false, false, false, false, false, false, false, false, false, false, false, false] (by kernel_rfl) (by kernel_rfl) rfl ?_
      simp only [List.take_succ_cons, List.take_zero, List.drop_succ_cons, List.drop_zero]
      repeat (refine Lex.step rfl ?_; intro K hK; unfold StepG; go_simp; (first
          | refine hK _ ?_); clear hK K)
      refine Lex.nil fun WW hE => ?_
      obtain ⟨dd, oo, rfl⟩ := hE
      unfold FillH
      go_wp2_with fail
      rw [ends_normal]
      go_wp2_with fail
      refine wp_region_grow 9 50 [false, false, false, false, false, false, false, false, false] (by kernel_rfl) (by kernel_rfl) rfl ?_
      simp only [List.take_succ_cons, List.take_zero, List.drop_succ_cons, List.drop_zero]
      repeat (refine Lex.step rfl ?_; intro K hK; unfold StepG; go_simp; (first
          | refine hK _ ?_); clear hK K)
      refine Lex.nil fun WW hE => ?_
      obtain ⟨dd, oo, rfl⟩ := hE
      unfold FillH
      go_wp2_with fail
      rw [ends_normal]
      go_wp2_with fail
      go_ret
      refine ⟨?_, ?_, ?_⟩
      · rw [← HMN.out]; rfl
      · rw [← HMN.out]; exact HLL.out.more _ _
      · exact grown_ext HG.out (by repeat (first | exact Ext.refl _ | apply Ext.more))
end Go.Proofs.Ytoaaklcbcbjaiaa
