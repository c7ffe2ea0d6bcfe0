/- The contracts of the lexer's name and number. -/
import Derived.Test.YtoaaklcbcbjaiaaLex3
import Derived.Outline
set_option linter.unusedSimpArgs false
set_option linter.unusedVariables false
namespace Go.Proofs.Ytoaaklcbcbjaiaa
open Go.RowKit

/-- a token but for its place -/
structure Tok where
  k : Int
  s : ByteArray
  i : Int
def tokV (t : Tok) (at' : Int) : Value := .agg #[.int .i64 t.k, .int .i64 at', .string t.s, .int .i64 t.i]
def tok0 : Tok := ⟨0, ⟨#[]⟩, 0⟩
def nameF (t : ByteArray) : Tok × Int := if wordB t = true then (⟨5, t, 0⟩, 0) else if 16 < t.size then (tok0, 5) else (⟨1, t, 0⟩, 0)
def numG : Int → List UInt8 → Option Int
  | v, [] => if 9223372036854775807 < v then none else some v
  | v, c :: l => if 922337203685477580 < v then none else numG (10 * v + ((c.toNat : Int) - 48)) l

theorem LexAt.alloc {b : Nat} {s : ByteArray} {k : Nat} {lv : Value} {w : World} (h : LexAt b s k lv w) (o : Obj) : LexAt b s k lv (w.alloc o) := by
  unfold LexAt; rw [Lib.alloc_old w o b h.lt]; exact h
theorem LexAt.other {b : Nat} {s : ByteArray} {k : Nat} {lv : Value} {w : World} (h : LexAt b s k lv w) {p : Addr} (hp : p.block ≠ b) (v : Value) : LexAt b s k lv (w.setCell p v) := by
  unfold LexAt
  rw [Below.heap_setCell _ _ _ _ (fun e => hp e.symm)]; exact h
/-- the lexer has gone on, no more: the world written out -/
theorem lex_form {b : Nat} {s : ByteArray} {k k' : Nat} {lv : Value} {w w' : World} (h : LexAt b s k lv w) (h' : LexAt b s k' lv w') (hg : w.grownBy w' (some b)) : Ext (w.setCell ⟨b, 1, none⟩ (.int .i64 (k' : Int))) w' := by
  obtain ⟨h1, h2, h3, h4, h5⟩ := hg
  have hsz : (w.setCell ⟨b, 1, none⟩ (.int .i64 (k' : Int))).heap.size = w.heap.size := by simp [World.setCell]
  have hS := h.set k' (k' : Int) rfl
  refine Ext.of_below ⟨h1, h2, h3, by rw [hsz]; exact h4, fun j hj => ?_⟩
  rw [hsz] at hj
  by_cases hjb : j = b
  · subst hjb
    unfold LexAt at h' hS
    rw [h', hS]
  · rw [h5 j hj (by simpa using hjb), Below.heap_setCell _ _ _ _ (fun e => hjb e)]
theorem setCell_twice (w : World) (b i : Nat) (v v' : Value) : (w.setCell ⟨b, i, none⟩ v).setCell ⟨b, i, none⟩ v' = w.setCell ⟨b, i, none⟩ v' := by
  unfold World.setCell
  congr 1
  apply Array.ext_getElem?
  intro k
  simp only [Array.getElem?_modify]
  by_cases hk : b = k
  · subst hk
    cases w.heap[b]? with
    | none => simp
    | some o => cases o <;> simp
  · simp [hk]
theorem skipped_no : Go.yielded.match_1 (fun _ => Option Bool) (some undef) (fun b => some b) (fun _ => none) = none := rfl
attribute [go_sem] setCell_twice skipped_no

theorem while_name_x (b : Nat) (s t : ByteArray) (k n : Nat) (lv : Value) (hk : k ≤ s.size) (hs : s.size ≤ maxLen) (hn : spanN nameB (s.data.toList.drop k) = n) (ht : s.extract k (k + n) = t) (w : World) (h : LexAt b s k lv w) :
    Calls Try.prog 98 #[.pointer (some ⟨b, 0, none⟩), .func (.func 101) #[] #[]] w fun e w' => e = .returned (.string t) ∧ Ext (w.setCell ⟨b, 1, none⟩ (.int .i64 ((k + n : Nat) : Int))) w' := by
  subst ht
  exact (while_name b s k n lv w h hk hs hn).mono fun e w' ⟨he, hL, hg⟩ => ⟨he, lex_form h hL hg⟩
theorem while_digit_x (b : Nat) (s t : ByteArray) (k n : Nat) (lv : Value) (hk : k ≤ s.size) (hs : s.size ≤ maxLen) (hn : spanN digitB (s.data.toList.drop k) = n) (ht : s.extract k (k + n) = t) (w : World) (h : LexAt b s k lv w) :
    Calls Try.prog 98 #[.pointer (some ⟨b, 0, none⟩), .func (.func 81) #[] #[]] w fun e w' => e = .returned (.string t) ∧ Ext (w.setCell ⟨b, 1, none⟩ (.int .i64 ((k + n : Nat) : Int))) w' := by
  subst ht
  exact (while_digit b s k n lv w h hk hs hn).mono fun e w' ⟨he, hL, hg⟩ => ⟨he, lex_form h hL hg⟩
theorem blank_x (b : Nat) (s : ByteArray) (k n : Nat) (lv : Value) (hk : k ≤ s.size) (hs : s.size ≤ maxLen) (hn : skipL false (s.data.toList.drop k) = n) (w : World) (h : LexAt b s k lv w) :
    Calls Try.prog 77 #[.pointer (some ⟨b, 0, none⟩)] w fun e w' => e = .returned (.tuple #[]) ∧ Ext (w.setCell ⟨b, 1, none⟩ (.int .i64 ((k + n : Nat) : Int))) w' :=
  (blank_any b s k n lv w h hk hs hn).mono fun e w' ⟨he, hL, hg⟩ => ⟨he, lex_form h hL hg⟩

set_option maxHeartbeats 1000000 in
set_option maxRecDepth 20000 in
theorem name_any (b : Nat) (s t : ByteArray) (k n : Nat) (lv : Value) (hk : k ≤ s.size) (hs : s.size ≤ maxLen) (hn : spanN nameB (s.data.toList.drop k) = n) (ht : s.extract k (k + n) = t) (r : Tok) (e : Int) (hr : nameF t = (r, e)) (w : World) (h : LexAt b s k lv w) :
    Calls Try.prog 80 #[.pointer (some ⟨b, 0, none⟩)] w fun e' w' => e' = .returned (.tuple #[tokV r 0, .int .i64 e]) ∧ Ext (w.setCell ⟨b, 1, none⟩ (.int .i64 ((k + n : Nat) : Int))) w' := by
  have HL := Lib.hid h
  have C := Lib.hid (while_name_x b s t k n lv hk hs hn ht)
  have W := Lib.hid (fun w => word_any t w)
  have hb := h.lt
  have hsz : t.size ≤ s.size := by rw [← ht]; simp; omega
  unfold maxLen at hs
  unfold nameF at hr
  unfold tokV tok0 at *
  clear h hn ht
  cases hq : wordB t
  · rw [hq] at W hr
    rw [if_neg (by simp)] at hr
    by_cases h16 : 16 < t.size
    · rw [if_pos h16] at hr
      simp only [Prod.mk.injEq] at hr
      obtain ⟨rfl, rfl⟩ := hr
      clear hq
      go_enter Try.func80, Try.ntmps80
      go_wp2_with (first
        | (go_at_call 98; refine (C.out _ (by repeat (first | exact HL.out | apply LexAt.alloc | apply LexAt.more | (refine LexAt.set ?_ _ _ (by first | rfl | omega))))).mono ?_; rintro e _ ⟨rfl, d, os, rfl⟩)
        | (go_at_call 102; refine (W.out _).mono ?_; rintro e _ ⟨rfl, d, os, rfl⟩))
      refine bodyPost_ret (v := .tuple #[.agg #[.int .i64 0, .int .i64 0, .string ⟨#[]⟩, .int .i64 0], .int .i64 5]) (by simp [results, Try.results80, go_sem]) rfl ?_
      exact ⟨rfl, by repeat (first | exact Ext.refl _ | apply Ext.alloc | apply Ext.more)⟩
    · rw [if_neg h16] at hr
      simp only [Prod.mk.injEq] at hr
      obtain ⟨rfl, rfl⟩ := hr
      clear hq
      go_enter Try.func80, Try.ntmps80
      go_wp2_with (first
        | (go_at_call 98; refine (C.out _ (by repeat (first | exact HL.out | apply LexAt.alloc | apply LexAt.more | (refine LexAt.set ?_ _ _ (by first | rfl | omega))))).mono ?_; rintro e _ ⟨rfl, d, os, rfl⟩)
        | (go_at_call 102; refine (W.out _).mono ?_; rintro e _ ⟨rfl, d, os, rfl⟩))
      refine bodyPost_ret (v := .tuple #[.agg #[.int .i64 1, .int .i64 0, .string t, .int .i64 0], .int .i64 0]) (by simp [results, Try.results80, go_sem]) rfl ?_
      exact ⟨rfl, by repeat (first | exact Ext.refl _ | apply Ext.alloc | apply Ext.more)⟩
  · rw [hq] at W hr
    rw [if_pos rfl] at hr
    simp only [Prod.mk.injEq] at hr
    obtain ⟨rfl, rfl⟩ := hr
    clear hq
    go_enter Try.func80, Try.ntmps80
    go_wp2_with (first
      | (go_at_call 98; refine (C.out _ (by repeat (first | exact HL.out | apply LexAt.alloc | apply LexAt.more | (refine LexAt.set ?_ _ _ (by first | rfl | omega))))).mono ?_; rintro e _ ⟨rfl, d, os, rfl⟩)
      | (go_at_call 102; refine (W.out _).mono ?_; rintro e _ ⟨rfl, d, os, rfl⟩))
    refine bodyPost_ret (v := .tuple #[.agg #[.int .i64 5, .int .i64 0, .string t, .int .i64 0], .int .i64 0]) (by simp [results, Try.results80, go_sem]) rfl ?_
    exact ⟨rfl, by repeat (first | exact Ext.refl _ | apply Ext.alloc | apply Ext.more)⟩

theorem span_all (p : Int → Bool) : ∀ (l : List UInt8) (j : Nat) (u : UInt8), (l.take (spanN p l))[j]? = some u → p (u.toNat : Int) = true
  | [], j, u, h => by simp [spanN] at h
  | c :: l, j, u, h => by
    by_cases hc : p (c.toNat : Int) = true
    · rw [spanN, if_pos hc] at h
      cases j with
      | zero => simp at h; subst h; exact hc
      | succ j => exact span_all p l j u (by simpa using h)
    · rw [spanN, if_neg hc] at h
      simp at h

def numE : Option Int → Tok × Int
  | none => (tok0, 8)
  | some v => (⟨2, ⟨#[]⟩, v⟩, 0)
def numF (t : ByteArray) : Tok × Int := numE (numG 0 t.data.toList)

set_option maxHeartbeats 2000000 in
set_option maxRecDepth 20000 in
theorem number_ok (b : Nat) (s t : ByteArray) (k n : Nat) (lv : Value) (hk : k ≤ s.size) (hs : s.size ≤ maxLen) (hkn : k + n ≤ s.size) (hn : spanN digitB (s.data.toList.drop k) = n) (ht : s.extract k (k + n) = t) (htn : t.size = n)
    (hA : n ≤ 1 ∨ (1 < n ∧ ∃ h : 0 < t.size, ¬ ((t[0]'h).toNat : Int) = 48)) (hB : k + n = s.size ∨ ∃ h : k + n < s.size, letterB ((s[k + n]'h).toNat : Int) = false)
    (hd : ∀ (j : Nat) (h : j < t.size), 48 ≤ ((t[j]'h).toNat : Int) ∧ ((t[j]'h).toNat : Int) ≤ 57) (r : Tok) (e : Int) (hr : numF t = (r, e)) (w : World) (h : LexAt b s k lv w) :
    Calls Try.prog 82 #[.pointer (some ⟨b, 0, none⟩)] w fun e' w' => e' = .returned (.tuple #[tokV r 0, .int .i64 e]) ∧ Ext (w.setCell ⟨b, 1, none⟩ (.int .i64 ((k + n : Nat) : Int))) w' := by
  have HL := Lib.hid h
  have C := Lib.hid (while_digit_x b s t k n lv hk hs hn ht)
  have hb := h.lt
  obtain ⟨c0, c1, c2, f1, f2⟩ := h.cells
  unfold maxLen at hs
  have HR := Lib.hid hr
  have HTN := Lib.hid htn
  have HD := Lib.hid hd
  unfold tokV
  clear h hn ht hr hd
  obtain ⟨R, hR⟩ : ∃ R, numG 0 t.data.toList = R := ⟨_, rfl⟩
  have HR2 := Lib.hid (show numE R = (r, e) from by rw [← hR]; exact HR.out)
  have HRR := Lib.hid hR
  clear HR hR
  have hts : t.size ≤ 9223372036854775807 := by omega
  rcases hA with hA | ⟨hA, hA0, hA1⟩
  · have hA2 : (1 < (t.size : Int)) = False := by simp; omega
    clear hA htn
    rcases hB with hB | ⟨hB, hB2⟩
    · have hB3 : ((k : Int) + n < s.size) = False := by simp; omega
      clear hB
      go_enter Try.func82, Try.ntmps82
      go_wp2_with (go_at_call 98; refine (C.out _ (by repeat (first | exact HL.out | apply LexAt.alloc | apply LexAt.more | (refine LexAt.set ?_ _ _ (by first | rfl | omega))))).mono ?_; rintro e _ ⟨rfl, d, os, rfl⟩)
      refine wp_region_grow 28 65 [false, false, false, false, false, false, false, false, false, false, false, false, false, false, false, false, false, false, false, false, false, false, false, false, false, false, false, false] (by kernel_rfl) (by kernel_rfl) rfl ?_
      simp only [List.take_succ_cons, List.take_zero, List.drop_succ_cons, List.drop_zero]
      repeat (refine Lex.step rfl ?_; intro K hK; unfold StepG; go_simp; (first
          | refine hK _ ?_); clear hK K)
      refine Lex.nil fun WW hE => ?_
      obtain ⟨dd, oo, rfl⟩ := hE
      unfold FillH
      go_wp2_with fail
      rw [ends_normal]
      go_wp2_with fail
      go_loop [5, 44] (fun vv ii => ∃ (i : Nat) (V : Int), i ≤ t.size ∧ ii = .int .i64 i ∧ vv = .int .u64 V ∧ 0 ≤ V ∧ V ≤ 9223372036854775809 ∧ numG V (t.data.toList.drop i) = R) (fun _ ii => t.size - (intOf ii).toNat)
      case atStart => exact ⟨0, 0, by omega, rfl, rfl, by omega, by omega, HRR.out⟩
      case round =>
        obtain ⟨i, V, hi, rfl, rfl, hV0, hV1, hG⟩ := hrel
        clear HRR
        by_cases hlt : i < t.size
        · have hml : i < t.data.toList.length := by simpa using hlt
          have hdd : t.data.toList.drop i = t[i]'hlt :: t.data.toList.drop (i + 1) := List.drop_eq_getElem_cons hml
          rw [hdd] at hG
          unfold numG at hG
          obtain ⟨hd1, hd2⟩ := HD.out i hlt
          clear hdd hml
          by_cases hbig : 922337203685477580 < V
          · rw [if_pos hbig] at hG
            subst hG
            have h := HR2.out
            simp only [numE, Prod.mk.injEq, tok0] at h
            obtain ⟨rfl, rfl⟩ := h
            clear HR2
            go_wp2
            refine bodyPost_ret (v := .tuple #[.agg #[.int .i64 0, .int .i64 0, .string ⟨#[]⟩, .int .i64 0], .int .i64 8]) (by simp [results, Try.results82, go_sem]) rfl ?_
            exact ⟨rfl, by repeat (first | exact Ext.refl _ | apply Ext.alloc | apply Ext.more)⟩
          · rw [if_neg hbig] at hG
            have HGG := Lib.hid hG
            have hz1 : 10 * V + (((t[i]'hlt).toNat : Int) - 48) ≤ 9223372036854775809 := by omega
            have hz0 : 0 ≤ 10 * V + (((t[i]'hlt).toNat : Int) - 48) := by omega
            clear hG
            go_wp2
            go_round
            case rel => exact ⟨i + 1, 10 * V + (((t[i]'hlt).toNat : Int) - 48), by omega, by go_num, by first | rfl | go_num, by omega, by omega, HGG.out⟩
            case measure => simp [intOf] <;> omega
        · have hie : i = t.size := by omega
          have hnil : t.data.toList.drop i = [] := by apply List.drop_eq_nil_of_le; simp; omega
          rw [hnil] at hG
          unfold numG at hG
          clear hnil
          by_cases hbig : 9223372036854775807 < V
          · rw [if_pos hbig] at hG
            subst hG
            have h := HR2.out
            simp only [numE, Prod.mk.injEq, tok0] at h
            obtain ⟨rfl, rfl⟩ := h
            clear HR2
            subst hie
            go_wp2
            refine bodyPost_ret (v := .tuple #[.agg #[.int .i64 0, .int .i64 0, .string ⟨#[]⟩, .int .i64 0], .int .i64 8]) (by simp [results, Try.results82, go_sem]) rfl ?_
            exact ⟨rfl, by repeat (first | exact Ext.refl _ | apply Ext.alloc | apply Ext.more)⟩
          · rw [if_neg hbig] at hG
            subst hG
            have h := HR2.out
            simp only [numE, Prod.mk.injEq] at h
            obtain ⟨rfl, rfl⟩ := h
            clear HR2
            subst hie
            go_wp2
            refine bodyPost_ret (v := .tuple #[.agg #[.int .i64 2, .int .i64 0, .string ⟨#[]⟩, .int .i64 V], .int .i64 0]) (by simp [results, Try.results82, go_sem]) rfl ?_
            exact ⟨rfl, by repeat (first | exact Ext.refl _ | apply Ext.alloc | apply Ext.more)⟩
    · have hB3 : ((k : Int) + n < s.size) = True := by simp; omega
      have h256 := (s[k + n]'hB).toNat_lt
      have le := letter_any ((s[k + n]'hB).toNat : Int) (by omega) (by omega)
      rw [hB2] at le
      have LE := Lib.hid le
      clear le h256 hB2
      go_enter Try.func82, Try.ntmps82
      go_wp2_with (go_at_call 98; refine (C.out _ (by repeat (first | exact HL.out | apply LexAt.alloc | apply LexAt.more | (refine LexAt.set ?_ _ _ (by first | rfl | omega))))).mono ?_; rintro e _ ⟨rfl, d, os, rfl⟩)
      refine wp_region_grow 28 65 [false, false, false, false, false, false, false, false, false, false, false, false, false, false, false, false, false, false, false, false, false, false, false, false, false, false, false, false] (by kernel_rfl) (by kernel_rfl) rfl ?_
      simp only [List.take_succ_cons, List.take_zero, List.drop_succ_cons, List.drop_zero]
      repeat (refine Lex.step rfl ?_; intro K hK; unfold StepG; go_simp; (first
          | refine hK _ ?_); clear hK K)
      refine Lex.nil fun WW hE => ?_
      obtain ⟨dd, oo, rfl⟩ := hE
      unfold FillH
      go_wp2_with (go_at_call 79; refine (LE.out _).mono ?_; rintro e _ ⟨rfl, rfl⟩)
      rw [ends_normal]
      go_wp2_with fail
      go_loop [5, 44] (fun vv ii => ∃ (i : Nat) (V : Int), i ≤ t.size ∧ ii = .int .i64 i ∧ vv = .int .u64 V ∧ 0 ≤ V ∧ V ≤ 9223372036854775809 ∧ numG V (t.data.toList.drop i) = R) (fun _ ii => t.size - (intOf ii).toNat)
      case atStart => exact ⟨0, 0, by omega, rfl, rfl, by omega, by omega, HRR.out⟩
      case round =>
        obtain ⟨i, V, hi, rfl, rfl, hV0, hV1, hG⟩ := hrel
        clear HRR
        by_cases hlt : i < t.size
        · have hml : i < t.data.toList.length := by simpa using hlt
          have hdd : t.data.toList.drop i = t[i]'hlt :: t.data.toList.drop (i + 1) := List.drop_eq_getElem_cons hml
          rw [hdd] at hG
          unfold numG at hG
          obtain ⟨hd1, hd2⟩ := HD.out i hlt
          clear hdd hml
          by_cases hbig : 922337203685477580 < V
          · rw [if_pos hbig] at hG
            subst hG
            have h := HR2.out
            simp only [numE, Prod.mk.injEq, tok0] at h
            obtain ⟨rfl, rfl⟩ := h
            clear HR2
            go_wp2
            refine bodyPost_ret (v := .tuple #[.agg #[.int .i64 0, .int .i64 0, .string ⟨#[]⟩, .int .i64 0], .int .i64 8]) (by simp [results, Try.results82, go_sem]) rfl ?_
            exact ⟨rfl, by repeat (first | exact Ext.refl _ | apply Ext.alloc | apply Ext.more)⟩
          · rw [if_neg hbig] at hG
            have HGG := Lib.hid hG
            have hz1 : 10 * V + (((t[i]'hlt).toNat : Int) - 48) ≤ 9223372036854775809 := by omega
            have hz0 : 0 ≤ 10 * V + (((t[i]'hlt).toNat : Int) - 48) := by omega
            clear hG
            go_wp2
            go_round
            case rel => exact ⟨i + 1, 10 * V + (((t[i]'hlt).toNat : Int) - 48), by omega, by go_num, by first | rfl | go_num, by omega, by omega, HGG.out⟩
            case measure => simp [intOf] <;> omega
        · have hie : i = t.size := by omega
          have hnil : t.data.toList.drop i = [] := by apply List.drop_eq_nil_of_le; simp; omega
          rw [hnil] at hG
          unfold numG at hG
          clear hnil
          by_cases hbig : 9223372036854775807 < V
          · rw [if_pos hbig] at hG
            subst hG
            have h := HR2.out
            simp only [numE, Prod.mk.injEq, tok0] at h
            obtain ⟨rfl, rfl⟩ := h
            clear HR2
            subst hie
            go_wp2
            refine bodyPost_ret (v := .tuple #[.agg #[.int .i64 0, .int .i64 0, .string ⟨#[]⟩, .int .i64 0], .int .i64 8]) (by simp [results, Try.results82, go_sem]) rfl ?_
            exact ⟨rfl, by repeat (first | exact Ext.refl _ | apply Ext.alloc | apply Ext.more)⟩
          · rw [if_neg hbig] at hG
            subst hG
            have h := HR2.out
            simp only [numE, Prod.mk.injEq] at h
            obtain ⟨rfl, rfl⟩ := h
            clear HR2
            subst hie
            go_wp2
            refine bodyPost_ret (v := .tuple #[.agg #[.int .i64 2, .int .i64 0, .string ⟨#[]⟩, .int .i64 V], .int .i64 0]) (by simp [results, Try.results82, go_sem]) rfl ?_
            exact ⟨rfl, by repeat (first | exact Ext.refl _ | apply Ext.alloc | apply Ext.more)⟩
  · have hA2 : (1 < (t.size : Int)) = True := by simp; omega
    have hA3 : (((t[0]'hA0).toNat : Int) == 48) = false := by simpa using hA1
    clear hA htn hA1
    rcases hB with hB | ⟨hB, hB2⟩
    · have hB3 : ((k : Int) + n < s.size) = False := by simp; omega
      clear hB
      go_enter Try.func82, Try.ntmps82
      go_wp2_with (go_at_call 98; refine (C.out _ (by repeat (first | exact HL.out | apply LexAt.alloc | apply LexAt.more | (refine LexAt.set ?_ _ _ (by first | rfl | omega))))).mono ?_; rintro e _ ⟨rfl, d, os, rfl⟩)
      refine wp_region_grow 28 65 [false, false, false, false, false, false, false, false, false, false, false, false, false, false, false, false, false, false, false, false, false, false, false, false, false, false, false, false] (by kernel_rfl) (by kernel_rfl) rfl ?_
      simp only [List.take_succ_cons, List.take_zero, List.drop_succ_cons, List.drop_zero]
      repeat (refine Lex.step rfl ?_; intro K hK; unfold StepG; go_simp; (first
          | refine hK _ ?_); clear hK K)
      refine Lex.nil fun WW hE => ?_
      obtain ⟨dd, oo, rfl⟩ := hE
      unfold FillH
      go_wp2_with fail
      rw [ends_normal]
      go_wp2_with fail
      go_loop [5, 44] (fun vv ii => ∃ (i : Nat) (V : Int), i ≤ t.size ∧ ii = .int .i64 i ∧ vv = .int .u64 V ∧ 0 ≤ V ∧ V ≤ 9223372036854775809 ∧ numG V (t.data.toList.drop i) = R) (fun _ ii => t.size - (intOf ii).toNat)
      case atStart => exact ⟨0, 0, by omega, rfl, rfl, by omega, by omega, HRR.out⟩
      case round =>
        obtain ⟨i, V, hi, rfl, rfl, hV0, hV1, hG⟩ := hrel
        clear HRR
        by_cases hlt : i < t.size
        · have hml : i < t.data.toList.length := by simpa using hlt
          have hdd : t.data.toList.drop i = t[i]'hlt :: t.data.toList.drop (i + 1) := List.drop_eq_getElem_cons hml
          rw [hdd] at hG
          unfold numG at hG
          obtain ⟨hd1, hd2⟩ := HD.out i hlt
          clear hdd hml
          by_cases hbig : 922337203685477580 < V
          · rw [if_pos hbig] at hG
            subst hG
            have h := HR2.out
            simp only [numE, Prod.mk.injEq, tok0] at h
            obtain ⟨rfl, rfl⟩ := h
            clear HR2
            go_wp2
            refine bodyPost_ret (v := .tuple #[.agg #[.int .i64 0, .int .i64 0, .string ⟨#[]⟩, .int .i64 0], .int .i64 8]) (by simp [results, Try.results82, go_sem]) rfl ?_
            exact ⟨rfl, by repeat (first | exact Ext.refl _ | apply Ext.alloc | apply Ext.more)⟩
          · rw [if_neg hbig] at hG
            have HGG := Lib.hid hG
            have hz1 : 10 * V + (((t[i]'hlt).toNat : Int) - 48) ≤ 9223372036854775809 := by omega
            have hz0 : 0 ≤ 10 * V + (((t[i]'hlt).toNat : Int) - 48) := by omega
            clear hG
            go_wp2
            go_round
            case rel => exact ⟨i + 1, 10 * V + (((t[i]'hlt).toNat : Int) - 48), by omega, by go_num, by first | rfl | go_num, by omega, by omega, HGG.out⟩
            case measure => simp [intOf] <;> omega
        · have hie : i = t.size := by omega
          have hnil : t.data.toList.drop i = [] := by apply List.drop_eq_nil_of_le; simp; omega
          rw [hnil] at hG
          unfold numG at hG
          clear hnil
          by_cases hbig : 9223372036854775807 < V
          · rw [if_pos hbig] at hG
            subst hG
            have h := HR2.out
            simp only [numE, Prod.mk.injEq, tok0] at h
            obtain ⟨rfl, rfl⟩ := h
            clear HR2
            subst hie
            go_wp2
            refine bodyPost_ret (v := .tuple #[.agg #[.int .i64 0, .int .i64 0, .string ⟨#[]⟩, .int .i64 0], .int .i64 8]) (by simp [results, Try.results82, go_sem]) rfl ?_
            exact ⟨rfl, by repeat (first | exact Ext.refl _ | apply Ext.alloc | apply Ext.more)⟩
          · rw [if_neg hbig] at hG
            subst hG
            have h := HR2.out
            simp only [numE, Prod.mk.injEq] at h
            obtain ⟨rfl, rfl⟩ := h
            clear HR2
            subst hie
            go_wp2
            refine bodyPost_ret (v := .tuple #[.agg #[.int .i64 2, .int .i64 0, .string ⟨#[]⟩, .int .i64 V], .int .i64 0]) (by simp [results, Try.results82, go_sem]) rfl ?_
            exact ⟨rfl, by repeat (first | exact Ext.refl _ | apply Ext.alloc | apply Ext.more)⟩
    · have hB3 : ((k : Int) + n < s.size) = True := by simp; omega
      have h256 := (s[k + n]'hB).toNat_lt
      have le := letter_any ((s[k + n]'hB).toNat : Int) (by omega) (by omega)
      rw [hB2] at le
      have LE := Lib.hid le
      clear le h256 hB2
      go_enter Try.func82, Try.ntmps82
      go_wp2_with (go_at_call 98; refine (C.out _ (by repeat (first | exact HL.out | apply LexAt.alloc | apply LexAt.more | (refine LexAt.set ?_ _ _ (by first | rfl | omega))))).mono ?_; rintro e _ ⟨rfl, d, os, rfl⟩)
      refine wp_region_grow 28 65 [false, false, false, false, false, false, false, false, false, false, false, false, false, false, false, false, false, false, false, false, false, false, false, false, false, false, false, false] (by kernel_rfl) (by kernel_rfl) rfl ?_
      simp only [List.take_succ_cons, List.take_zero, List.drop_succ_cons, List.drop_zero]
      repeat (refine Lex.step rfl ?_; intro K hK; unfold StepG; go_simp; (first
          | refine hK _ ?_); clear hK K)
      refine Lex.nil fun WW hE => ?_
      obtain ⟨dd, oo, rfl⟩ := hE
      unfold FillH
      go_wp2_with (go_at_call 79; refine (LE.out _).mono ?_; rintro e _ ⟨rfl, rfl⟩)
      rw [ends_normal]
      go_wp2_with fail
      go_loop [5, 44] (fun vv ii => ∃ (i : Nat) (V : Int), i ≤ t.size ∧ ii = .int .i64 i ∧ vv = .int .u64 V ∧ 0 ≤ V ∧ V ≤ 9223372036854775809 ∧ numG V (t.data.toList.drop i) = R) (fun _ ii => t.size - (intOf ii).toNat)
      case atStart => exact ⟨0, 0, by omega, rfl, rfl, by omega, by omega, HRR.out⟩
      case round =>
        obtain ⟨i, V, hi, rfl, rfl, hV0, hV1, hG⟩ := hrel
        clear HRR
        by_cases hlt : i < t.size
        · have hml : i < t.data.toList.length := by simpa using hlt
          have hdd : t.data.toList.drop i = t[i]'hlt :: t.data.toList.drop (i + 1) := List.drop_eq_getElem_cons hml
          rw [hdd] at hG
          unfold numG at hG
          obtain ⟨hd1, hd2⟩ := HD.out i hlt
          clear hdd hml
          by_cases hbig : 922337203685477580 < V
          · rw [if_pos hbig] at hG
            subst hG
            have h := HR2.out
            simp only [numE, Prod.mk.injEq, tok0] at h
            obtain ⟨rfl, rfl⟩ := h
            clear HR2
            go_wp2
            refine bodyPost_ret (v := .tuple #[.agg #[.int .i64 0, .int .i64 0, .string ⟨#[]⟩, .int .i64 0], .int .i64 8]) (by simp [results, Try.results82, go_sem]) rfl ?_
            exact ⟨rfl, by repeat (first | exact Ext.refl _ | apply Ext.alloc | apply Ext.more)⟩
          · rw [if_neg hbig] at hG
            have HGG := Lib.hid hG
            have hz1 : 10 * V + (((t[i]'hlt).toNat : Int) - 48) ≤ 9223372036854775809 := by omega
            have hz0 : 0 ≤ 10 * V + (((t[i]'hlt).toNat : Int) - 48) := by omega
            clear hG
            go_wp2
            go_round
            case rel => exact ⟨i + 1, 10 * V + (((t[i]'hlt).toNat : Int) - 48), by omega, by go_num, by first | rfl | go_num, by omega, by omega, HGG.out⟩
            case measure => simp [intOf] <;> omega
        · have hie : i = t.size := by omega
          have hnil : t.data.toList.drop i = [] := by apply List.drop_eq_nil_of_le; simp; omega
          rw [hnil] at hG
          unfold numG at hG
          clear hnil
          by_cases hbig : 9223372036854775807 < V
          · rw [if_pos hbig] at hG
            subst hG
            have h := HR2.out
            simp only [numE, Prod.mk.injEq, tok0] at h
            obtain ⟨rfl, rfl⟩ := h
            clear HR2
            subst hie
            go_wp2
            refine bodyPost_ret (v := .tuple #[.agg #[.int .i64 0, .int .i64 0, .string ⟨#[]⟩, .int .i64 0], .int .i64 8]) (by simp [results, Try.results82, go_sem]) rfl ?_
            exact ⟨rfl, by repeat (first | exact Ext.refl _ | apply Ext.alloc | apply Ext.more)⟩
          · rw [if_neg hbig] at hG
            subst hG
            have h := HR2.out
            simp only [numE, Prod.mk.injEq] at h
            obtain ⟨rfl, rfl⟩ := h
            clear HR2
            subst hie
            go_wp2
            refine bodyPost_ret (v := .tuple #[.agg #[.int .i64 2, .int .i64 0, .string ⟨#[]⟩, .int .i64 V], .int .i64 0]) (by simp [results, Try.results82, go_sem]) rfl ?_
            exact ⟨rfl, by repeat (first | exact Ext.refl _ | apply Ext.alloc | apply Ext.more)⟩

set_option maxHeartbeats 2000000 in
set_option maxRecDepth 20000 in
theorem number_err (b : Nat) (s t : ByteArray) (k n : Nat) (lv : Value) (hk : k ≤ s.size) (hs : s.size ≤ maxLen) (hkn : k + n ≤ s.size) (hn : spanN digitB (s.data.toList.drop k) = n) (ht : s.extract k (k + n) = t) (htn : t.size = n)
    (hA : (1 < n ∧ ∃ h : 0 < t.size, ((t[0]'h).toNat : Int) = 48) ∨ ((n ≤ 1 ∨ (1 < n ∧ ∃ h : 0 < t.size, ¬ ((t[0]'h).toNat : Int) = 48)) ∧ ∃ h : k + n < s.size, letterB ((s[k + n]'h).toNat : Int) = true))
    (w : World) (h : LexAt b s k lv w) :
    Calls Try.prog 82 #[.pointer (some ⟨b, 0, none⟩)] w fun e' w' => e' = .returned (.tuple #[tokV tok0 0, .int .i64 3]) ∧ Ext (w.setCell ⟨b, 1, none⟩ (.int .i64 ((k + n : Nat) : Int))) w' := by
  have HL := Lib.hid h
  have C := Lib.hid (while_digit_x b s t k n lv hk hs hn ht)
  have hb := h.lt
  obtain ⟨c0, c1, c2, f1, f2⟩ := h.cells
  unfold maxLen at hs
  have HTN := Lib.hid htn
  unfold tokV tok0
  clear h hn ht
  have hts : t.size ≤ 9223372036854775807 := by omega
  rcases hA with ⟨hA, hA0, hA1⟩ | ⟨hA, hB, hB2⟩
  · have hA2 : (1 < (t.size : Int)) = True := by simp; omega
    have hA3 : (((t[0]'hA0).toNat : Int) == 48) = true := by simpa using hA1
    clear hA htn hA1
    go_enter Try.func82, Try.ntmps82
    go_wp2_with (go_at_call 98; refine (C.out _ (by repeat (first | exact HL.out | apply LexAt.alloc | apply LexAt.more | (refine LexAt.set ?_ _ _ (by first | rfl | omega))))).mono ?_; rintro e _ ⟨rfl, d, os, rfl⟩)
    refine wp_region_grow 28 65 [false, false, false, false, false, false, false, false, false, false, false, false, false, false, false, false, false, false, false, false, false, false, false, false, false, false, false, false] (by kernel_rfl) (by kernel_rfl) rfl ?_
    simp only [List.take_succ_cons, List.take_zero, List.drop_succ_cons, List.drop_zero]
    repeat (refine Lex.step rfl ?_; intro K hK; unfold StepG; go_simp; (first
        | refine hK _ ?_); clear hK K)
    refine Lex.nil fun WW hE => ?_
    obtain ⟨dd, oo, rfl⟩ := hE
    unfold FillH
    go_wp2_with fail
    rw [ends_normal]
    go_wp2_with fail
    refine bodyPost_ret (v := .tuple #[.agg #[.int .i64 0, .int .i64 0, .string ⟨#[]⟩, .int .i64 0], .int .i64 3]) (by simp [results, Try.results82, go_sem]) rfl ?_
    exact ⟨rfl, by repeat (first | exact Ext.refl _ | apply Ext.alloc | apply Ext.more)⟩
  · have hB3 : ((k : Int) + n < s.size) = True := by simp; omega
    have h256 := (s[k + n]'hB).toNat_lt
    have le := letter_any ((s[k + n]'hB).toNat : Int) (by omega) (by omega)
    rw [hB2] at le
    have LE := Lib.hid le
    clear le h256 hB2
    rcases hA with hA | ⟨hA, hA0, hA1⟩
    · have hA2 : (1 < (t.size : Int)) = False := by simp; omega
      clear hA htn
      go_enter Try.func82, Try.ntmps82
      go_wp2_with (go_at_call 98; refine (C.out _ (by repeat (first | exact HL.out | apply LexAt.alloc | apply LexAt.more | (refine LexAt.set ?_ _ _ (by first | rfl | omega))))).mono ?_; rintro e _ ⟨rfl, d, os, rfl⟩)
      refine wp_region_grow 28 65 [false, false, false, false, false, false, false, false, false, false, false, false, false, false, false, false, false, false, false, false, false, false, false, false, false, false, false, false] (by kernel_rfl) (by kernel_rfl) rfl ?_
      simp only [List.take_succ_cons, List.take_zero, List.drop_succ_cons, List.drop_zero]
      repeat (refine Lex.step rfl ?_; intro K hK; unfold StepG; go_simp; (first
          | refine hK _ ?_); clear hK K)
      refine Lex.nil fun WW hE => ?_
      obtain ⟨dd, oo, rfl⟩ := hE
      unfold FillH
      go_wp2_with (go_at_call 79; refine (LE.out _).mono ?_; rintro e _ ⟨rfl, rfl⟩)
      rw [ends_normal]
      go_wp2_with fail
      refine bodyPost_ret (v := .tuple #[.agg #[.int .i64 0, .int .i64 0, .string ⟨#[]⟩, .int .i64 0], .int .i64 3]) (by simp [results, Try.results82, go_sem]) rfl ?_
      exact ⟨rfl, by repeat (first | exact Ext.refl _ | apply Ext.alloc | apply Ext.more)⟩
    · have hA2 : (1 < (t.size : Int)) = True := by simp; omega
      have hA3 : (((t[0]'hA0).toNat : Int) == 48) = false := by simpa using hA1
      clear hA htn hA1
      go_enter Try.func82, Try.ntmps82
      go_wp2_with (go_at_call 98; refine (C.out _ (by repeat (first | exact HL.out | apply LexAt.alloc | apply LexAt.more | (refine LexAt.set ?_ _ _ (by first | rfl | omega))))).mono ?_; rintro e _ ⟨rfl, d, os, rfl⟩)
      refine wp_region_grow 28 65 [false, false, false, false, false, false, false, false, false, false, false, false, false, false, false, false, false, false, false, false, false, false, false, false, false, false, false, false] (by kernel_rfl) (by kernel_rfl) rfl ?_
      simp only [List.take_succ_cons, List.take_zero, List.drop_succ_cons, List.drop_zero]
      repeat (refine Lex.step rfl ?_; intro K hK; unfold StepG; go_simp; (first
          | refine hK _ ?_); clear hK K)
      refine Lex.nil fun WW hE => ?_
      obtain ⟨dd, oo, rfl⟩ := hE
      unfold FillH
      go_wp2_with (go_at_call 79; refine (LE.out _).mono ?_; rintro e _ ⟨rfl, rfl⟩)
      rw [ends_normal]
      go_wp2_with fail
      refine bodyPost_ret (v := .tuple #[.agg #[.int .i64 0, .int .i64 0, .string ⟨#[]⟩, .int .i64 0], .int .i64 3]) (by simp [results, Try.results82, go_sem]) rfl ?_
      exact ⟨rfl, by repeat (first | exact Ext.refl _ | apply Ext.alloc | apply Ext.more)⟩
end Go.Proofs.Ytoaaklcbcbjaiaa
