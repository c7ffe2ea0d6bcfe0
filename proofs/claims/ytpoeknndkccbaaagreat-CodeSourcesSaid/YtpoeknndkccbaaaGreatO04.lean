/- Lemmas. -/
import Derived.Test.YtpoeknndkccbaaaGreatO03
import Derived.Outline
import Derived.Deep.OwnRows
import Derived.Lib.SmallJoins
set_option linter.unusedSimpArgs false
set_option linter.unusedVariables false
set_option maxHeartbeats 2000000
set_option maxRecDepth 20000
namespace Go.Proofs.YtpoeknndkccbaaaGreat
open Go.RowKit
variable {b k : Nat} {s : ByteArray} {lv : Value} {w : World}
structure Tok where
 k : Int
 s : ByteArray
 i : Int
def tokV (t : Tok) (at' : Int) : Value := .agg #[.int .i64 t.k, .int .i64 at', .string t.s, .int .i64 t.i]
def tok0 : Tok := ⟨0, ⟨#[]⟩, 0⟩
def nameF (t : ByteArray) : Tok × Int := if wordB t = true then (⟨5, t, 0⟩, 0) else if 16 < t.size then (tok0, 5) else (⟨1, t, 0⟩, 0)
def numG : Int → List UInt8 → Option Int
 | v, [] => if 9223372036854775807 < v then none else some v
 | v, c :: l => if 922337203685477580 < v then none else numG (10 * v + ((c.toNat : Int) - 48)) l
theorem LexAt.alloc (h : LexAt b s k lv w) (o : Obj) : LexAt b s k lv (w.alloc o) := by
 unfold LexAt; rw [Lib.alloc_old w o b h.lt]; exact h
theorem LexAt.other (h : LexAt b s k lv w) {p : Addr} (hp : p.block ≠ b) (v : Value) : LexAt b s k lv (w.setCell p v) := by
 unfold LexAt
 rw [Below.heap_setCell _ _ _ _ (fun e => hp e.symm)]; exact h
theorem lex_form {k' : Nat} {w' : World} (h : LexAt b s k lv w) (h' : LexAt b s k' lv w') (hg : w.grownBy w' (some b)) : Ext (w.setCell ⟨b, 1, none⟩ (.int .i64 (k' : Int))) w' := by
 obtain ⟨h1, h2, h3, h4, h5⟩ := hg
 have hsz : (w.setCell ⟨b, 1, none⟩ (.int .i64 (k' : Int))).heap.size = w.heap.size := by simp [World.setCell]
 have hS := h.set k' (k' : Int) rfl
 refine Ext.of_below ⟨h1, h2, h3, by rw [hsz]; exact h4, fun j hj => ?_⟩
 rw [hsz] at hj
 by_cases hjb : j = b
 · subst hjb
   unfold LexAt at h' hS
   rw [h', hS]
 · rw [h5 j hj (by simpa using hjb), Below.heap_setCell _ _ _ _ (fun e => hjb e)]
theorem qfb (w : World) (b i : Nat) (v v' : Value) : (w.setCell ⟨b, i, none⟩ v).setCell ⟨b, i, none⟩ v' = w.setCell ⟨b, i, none⟩ v' := by
 unfold World.setCell
 congr 1
 apply Array.ext_getElem?
 intro k
 simp only [Array.getElem?_modify]
 by_cases hk : b = k
 · subst hk
   cases w.heap[b]? with
   | none => simp
   | some o => cases o <;> simp
 · simp [hk]
theorem skipped_no : Go.yielded.match_1 (fun _ => Option Bool) (some undef) (fun b => some b) (fun _ => none) = none := rfl
attribute [go_sem] qfb skipped_no
theorem while_name_x (b : Nat) (s t : ByteArray) (k n : Nat) (lv : Value) (hk : k ≤ s.size) (hs : s.size ≤ maxLen) (hn : spanN nameB (s.data.toList.drop k) = n) (ht : s.extract k (k + n) = t) (w : World) (h : LexAt b s k lv w) :
  Calls Tryz.prog 99 #[.pointer (some ⟨b, 0, none⟩), .func (.func 102) #[] #[]] w fun e w' => e = .returned (.string t) ∧ Ext (w.setCell ⟨b, 1, none⟩ (.int .i64 ((k + n : Nat) : Int))) w' := by
 subst ht
 exact (while_name b s k n lv w h hk hs hn).mono fun e w' ⟨he, hL, hg⟩ => ⟨he, lex_form h hL hg⟩
theorem qcL (b : Nat) (s t : ByteArray) (k n : Nat) (lv : Value) (hk : k ≤ s.size) (hs : s.size ≤ maxLen) (hn : spanN qaj (s.data.toList.drop k) = n) (ht : s.extract k (k + n) = t) (w : World) (h : LexAt b s k lv w) :
  Calls Tryz.prog 99 #[.pointer (some ⟨b, 0, none⟩), .func (.func 73) #[] #[]] w fun e w' => e = .returned (.string t) ∧ Ext (w.setCell ⟨b, 1, none⟩ (.int .i64 ((k + n : Nat) : Int))) w' := by
 subst ht
 exact (while_digit b s k n lv w h hk hs hn).mono fun e w' ⟨he, hL, hg⟩ => ⟨he, lex_form h hL hg⟩
theorem qeq (b : Nat) (s : ByteArray) (k n : Nat) (lv : Value) (hk : k ≤ s.size) (hs : s.size ≤ maxLen) (hn : skipL false (s.data.toList.drop k) = n) (w : World) (h : LexAt b s k lv w) :
  Calls Tryz.prog 69 #[.pointer (some ⟨b, 0, none⟩)] w fun e w' => e = .returned (.tuple #[]) ∧ Ext (w.setCell ⟨b, 1, none⟩ (.int .i64 ((k + n : Nat) : Int))) w' :=
 (blank_any b s k n lv w h hk hs hn).mono fun e w' ⟨he, hL, hg⟩ => ⟨he, lex_form h hL hg⟩
theorem name_any (b : Nat) (s t : ByteArray) (k n : Nat) (lv : Value) (hk : k ≤ s.size) (hs : s.size ≤ maxLen) (hn : spanN nameB (s.data.toList.drop k) = n) (ht : s.extract k (k + n) = t) (r : Tok) (e : Int) (hr : nameF t = (r, e)) (w : World) (h : LexAt b s k lv w) :
  Calls Tryz.prog 72 #[.pointer (some ⟨b, 0, none⟩)] w fun e' w' => e' = .returned (.tuple #[tokV r 0, .int .i64 e]) ∧ Ext (w.setCell ⟨b, 1, none⟩ (.int .i64 ((k + n : Nat) : Int))) w' := by
 have HL := Lib.hid h
 have C := Lib.hid (while_name_x b s t k n lv hk hs hn ht)
 have W := Lib.hid (fun w => word_any t w)
 have hb := h.lt
 have hsz : t.size ≤ s.size := by rw [← ht]; simp; omega
 unfold maxLen at hs
 unfold nameF at hr
 unfold tokV tok0 at *
 clear h hn ht
 cases hq : wordB t
 · rw [hq] at W hr
   rw [if_neg zan] at hr
   by_cases h16 : 16 < t.size
   · rw [if_pos h16] at hr
     simp only [Prod.mk.injEq] at hr
     obtain ⟨rfl, rfl⟩ := hr
     clear hq
     go_enter Tryz.func72, Tryz.ntmps72
     go_wp2_with (first
      | (go_at_call 99; refine (C.out _ zas).mono ?_; rintro e _ ⟨rfl, d, os, rfl⟩)
      | (go_at_call 103; refine (W.out _).mono ?_; rintro e _ ⟨rfl, d, os, rfl⟩))
     refine bodyPost_ret (v := .tuple #[.agg #[.int .i64 0, .int .i64 0, .string ⟨#[]⟩, .int .i64 0], .int .i64 5]) (by simp [results, Tryz.results72, go_sem]) rfl ?_
     exact ⟨rfl, zac⟩
   · rw [if_neg h16] at hr
     simp only [Prod.mk.injEq] at hr
     obtain ⟨rfl, rfl⟩ := hr
     clear hq
     go_enter Tryz.func72, Tryz.ntmps72
     go_wp2_with (first
      | (go_at_call 99; refine (C.out _ zas).mono ?_; rintro e _ ⟨rfl, d, os, rfl⟩)
      | (go_at_call 103; refine (W.out _).mono ?_; rintro e _ ⟨rfl, d, os, rfl⟩))
     refine bodyPost_ret (v := .tuple #[.agg #[.int .i64 1, .int .i64 0, .string t, .int .i64 0], .int .i64 0]) (by simp [results, Tryz.results72, go_sem]) rfl ?_
     exact ⟨rfl, zac⟩
 · rw [hq] at W hr
   rw [if_pos rfl] at hr
   simp only [Prod.mk.injEq] at hr
   obtain ⟨rfl, rfl⟩ := hr
   clear hq
   go_enter Tryz.func72, Tryz.ntmps72
   go_wp2_with (first
    | (go_at_call 99; refine (C.out _ zas).mono ?_; rintro e _ ⟨rfl, d, os, rfl⟩)
    | (go_at_call 103; refine (W.out _).mono ?_; rintro e _ ⟨rfl, d, os, rfl⟩))
   refine bodyPost_ret (v := .tuple #[.agg #[.int .i64 5, .int .i64 0, .string t, .int .i64 0], .int .i64 0]) (by simp [results, Tryz.results72, go_sem]) rfl ?_
   exact ⟨rfl, zac⟩
theorem span_all (p : Int → Bool) : ∀ (l : List UInt8) (j : Nat) (u : UInt8), (l.take (spanN p l))[j]? = some u → p (u.toNat : Int) = true
 | [], j, u, h => by simp [spanN] at h
 | c :: l, j, u, h => by
  by_cases hc : p (c.toNat : Int) = true
  · rw [spanN, if_pos hc] at h
    cases j with
    | zero => simp at h; subst h; exact hc
    | succ j => exact span_all p l j u (by simpa using h)
  · rw [spanN, if_neg hc] at h
    simp at h
def numE : Option Int → Tok × Int
 | none => (tok0, 8)
 | some v => (⟨2, ⟨#[]⟩, v⟩, 0)
def numF (t : ByteArray) : Tok × Int := numE (numG 0 t.data.toList)
theorem number_ok (b : Nat) (s t : ByteArray) (k n : Nat) (lv : Value) (hk : k ≤ s.size) (hs : s.size ≤ maxLen) (hkn : k + n ≤ s.size) (hn : spanN qaj (s.data.toList.drop k) = n) (ht : s.extract k (k + n) = t) (htn : t.size = n)
  (hA : n ≤ 1 ∨ (1 < n ∧ ∃ h : 0 < t.size, ¬ ((t[0]'h).toNat : Int) = 48)) (hB : k + n = s.size ∨ ∃ h : k + n < s.size, qat ((s[k + n]'h).toNat : Int) = false)
  (hd : ∀ (j : Nat) (h : j < t.size), 48 ≤ ((t[j]'h).toNat : Int) ∧ ((t[j]'h).toNat : Int) ≤ 57) (r : Tok) (e : Int) (hr : numF t = (r, e)) (w : World) (h : LexAt b s k lv w) :
  Calls Tryz.prog 74 #[.pointer (some ⟨b, 0, none⟩)] w fun e' w' => e' = .returned (.tuple #[tokV r 0, .int .i64 e]) ∧ Ext (w.setCell ⟨b, 1, none⟩ (.int .i64 ((k + n : Nat) : Int))) w' := by
 have HL := Lib.hid h
 have C := Lib.hid (qcL b s t k n lv hk hs hn ht)
 have hb := h.lt
 obtain ⟨c0, c1, c2, f1, f2⟩ := h.cells
 unfold maxLen at hs
 have HR := Lib.hid hr
 have HTN := Lib.hid htn
 have HD := Lib.hid hd
 unfold tokV
 clear h hn ht hr hd
 obtain ⟨R, hR⟩ : ∃ R, numG 0 t.data.toList = R := ⟨_, rfl⟩
 have HR2 := Lib.hid (show numE R = (r, e) from by rw [← hR]; exact HR.out)
 have HRR := Lib.hid hR
 clear HR hR
 have hts : t.size ≤ 9223372036854775807 := by omega
 rcases hA with hA | ⟨hA, hA0, hA1⟩
 · have hA2 : (1 < (t.size : Int)) = False := by simp; omega
   clear hA htn
   rcases hB with hB | ⟨hB, hB2⟩
   · have hB3 : ((k : Int) + n < s.size) = False := by simp; omega
     clear hB
     go_enter Tryz.func74, Tryz.ntmps74
     go_wp2_with (go_at_call 99; refine (C.out _ zas).mono ?_; rintro e _ ⟨rfl, d, os, rfl⟩)
     refine yai ⟨?_⟩
     refine yac ?_
     repeat (refine Lex.step rfl ?_; intro K hK; unfold StepG; go_simp; (first
       | refine hK _ ?_); clear hK K)
     refine yaa ?_; intro dd oo
     go_wp2_with fail
     rw [ends_normal]
     go_wp2_with fail
     go_loop [5, 44] (fun vv ii => ∃ (i : Nat) (V : Int), i ≤ t.size ∧ ii = .int .i64 i ∧ vv = .int .u64 V ∧ 0 ≤ V ∧ V ≤ 9223372036854775809 ∧ numG V (t.data.toList.drop i) = R) (fun _ ii => t.size - (intOf ii).toNat)
     case atStart => exact ⟨0, 0, by omega, rfl, rfl, by omega, by omega, HRR.out⟩
     case round =>
      obtain ⟨i, V, hi, rfl, rfl, hV0, hV1, hG⟩ := hrel
      clear HRR
      by_cases hlt : i < t.size
      · have hml : i < t.data.toList.length := by simpa using hlt
        have hdd : t.data.toList.drop i = t[i]'hlt :: t.data.toList.drop (i + 1) := List.drop_eq_getElem_cons hml
        rw [hdd] at hG
        unfold numG at hG
        obtain ⟨hd1, hd2⟩ := HD.out i hlt
        clear hdd hml
        by_cases hbig : 922337203685477580 < V
        · rw [if_pos hbig] at hG
          subst hG
          have h := HR2.out
          simp only [numE, Prod.mk.injEq, tok0] at h
          obtain ⟨rfl, rfl⟩ := h
          clear HR2
          go_wp2
          refine yau ⟨?_⟩
          exact ⟨rfl, zac⟩
        · rw [if_neg hbig] at hG
          have HGG := Lib.hid hG
          have hz1 : 10 * V + (((t[i]'hlt).toNat : Int) - 48) ≤ 9223372036854775809 := by omega
          have hz0 : 0 ≤ 10 * V + (((t[i]'hlt).toNat : Int) - 48) := by omega
          clear hG
          go_wp2
          go_round
          case rel => exact ⟨i + 1, 10 * V + (((t[i]'hlt).toNat : Int) - 48), by omega, by go_num, by first | rfl | go_num, by omega, by omega, HGG.out⟩
          case measure => simp [intOf] <;> omega
      · have hie : i = t.size := by omega
        have hnil : t.data.toList.drop i = [] := by apply List.drop_eq_nil_of_le; simp; omega
        rw [hnil] at hG
        unfold numG at hG
        clear hnil
        by_cases hbig : 9223372036854775807 < V
        · rw [if_pos hbig] at hG
          subst hG
          have h := HR2.out
          simp only [numE, Prod.mk.injEq, tok0] at h
          obtain ⟨rfl, rfl⟩ := h
          clear HR2
          subst hie
          go_wp2
          refine yau ⟨?_⟩
          exact ⟨rfl, zac⟩
        · rw [if_neg hbig] at hG
          subst hG
          have h := HR2.out
          simp only [numE, Prod.mk.injEq] at h
          obtain ⟨rfl, rfl⟩ := h
          clear HR2
          subst hie
          go_wp2
          refine ycl ⟨?_⟩
          exact ⟨rfl, zac⟩
   · have hB3 : ((k : Int) + n < s.size) = True := by simp; omega
     have h256 := (s[k + n]'hB).toNat_lt
     have le := qaY ((s[k + n]'hB).toNat : Int) zae zae
     rw [hB2] at le
     have LE := Lib.hid le
     clear le h256 hB2
     go_enter Tryz.func74, Tryz.ntmps74
     go_wp2_with (go_at_call 99; refine (C.out _ zas).mono ?_; rintro e _ ⟨rfl, d, os, rfl⟩)
     refine yai ⟨?_⟩
     refine yac ?_
     repeat (refine Lex.step rfl ?_; intro K hK; unfold StepG; go_simp; (first
       | refine hK _ ?_); clear hK K)
     refine yaa ?_; intro dd oo
     go_wp2_with (go_at_call 71; refine (LE.out _).mono ?_; rintro e _ ⟨rfl, rfl⟩)
     rw [ends_normal]
     go_wp2_with fail
     go_loop [5, 44] (fun vv ii => ∃ (i : Nat) (V : Int), i ≤ t.size ∧ ii = .int .i64 i ∧ vv = .int .u64 V ∧ 0 ≤ V ∧ V ≤ 9223372036854775809 ∧ numG V (t.data.toList.drop i) = R) (fun _ ii => t.size - (intOf ii).toNat)
     case atStart => exact ⟨0, 0, by omega, rfl, rfl, by omega, by omega, HRR.out⟩
     case round =>
      obtain ⟨i, V, hi, rfl, rfl, hV0, hV1, hG⟩ := hrel
      clear HRR
      by_cases hlt : i < t.size
      · have hml : i < t.data.toList.length := by simpa using hlt
        have hdd : t.data.toList.drop i = t[i]'hlt :: t.data.toList.drop (i + 1) := List.drop_eq_getElem_cons hml
        rw [hdd] at hG
        unfold numG at hG
        obtain ⟨hd1, hd2⟩ := HD.out i hlt
        clear hdd hml
        by_cases hbig : 922337203685477580 < V
        · rw [if_pos hbig] at hG
          subst hG
          have h := HR2.out
          simp only [numE, Prod.mk.injEq, tok0] at h
          obtain ⟨rfl, rfl⟩ := h
          clear HR2
          go_wp2
          refine yau ⟨?_⟩
          exact ⟨rfl, zac⟩
        · rw [if_neg hbig] at hG
          have HGG := Lib.hid hG
          have hz1 : 10 * V + (((t[i]'hlt).toNat : Int) - 48) ≤ 9223372036854775809 := by omega
          have hz0 : 0 ≤ 10 * V + (((t[i]'hlt).toNat : Int) - 48) := by omega
          clear hG
          go_wp2
          go_round
          case rel => exact ⟨i + 1, 10 * V + (((t[i]'hlt).toNat : Int) - 48), by omega, by go_num, by first | rfl | go_num, by omega, by omega, HGG.out⟩
          case measure => simp [intOf] <;> omega
      · have hie : i = t.size := by omega
        have hnil : t.data.toList.drop i = [] := by apply List.drop_eq_nil_of_le; simp; omega
        rw [hnil] at hG
        unfold numG at hG
        clear hnil
        by_cases hbig : 9223372036854775807 < V
        · rw [if_pos hbig] at hG
          subst hG
          have h := HR2.out
          simp only [numE, Prod.mk.injEq, tok0] at h
          obtain ⟨rfl, rfl⟩ := h
          clear HR2
          subst hie
          go_wp2
          refine yau ⟨?_⟩
          exact ⟨rfl, zac⟩
        · rw [if_neg hbig] at hG
          subst hG
          have h := HR2.out
          simp only [numE, Prod.mk.injEq] at h
          obtain ⟨rfl, rfl⟩ := h
          clear HR2
          subst hie
          go_wp2
          refine ycl ⟨?_⟩
          exact ⟨rfl, zac⟩
 · have hA2 : (1 < (t.size : Int)) = True := by simp; omega
   have hA3 : (((t[0]'hA0).toNat : Int) == 48) = false := by simpa using hA1
   clear hA htn hA1
   rcases hB with hB | ⟨hB, hB2⟩
   · have hB3 : ((k : Int) + n < s.size) = False := by simp; omega
     clear hB
     go_enter Tryz.func74, Tryz.ntmps74
     go_wp2_with (go_at_call 99; refine (C.out _ zas).mono ?_; rintro e _ ⟨rfl, d, os, rfl⟩)
     refine yai ⟨?_⟩
     refine yac ?_
     repeat (refine Lex.step rfl ?_; intro K hK; unfold StepG; go_simp; (first
       | refine hK _ ?_); clear hK K)
     refine yaa ?_; intro dd oo
     go_wp2_with fail
     rw [ends_normal]
     go_wp2_with fail
     go_loop [5, 44] (fun vv ii => ∃ (i : Nat) (V : Int), i ≤ t.size ∧ ii = .int .i64 i ∧ vv = .int .u64 V ∧ 0 ≤ V ∧ V ≤ 9223372036854775809 ∧ numG V (t.data.toList.drop i) = R) (fun _ ii => t.size - (intOf ii).toNat)
     case atStart => exact ⟨0, 0, by omega, rfl, rfl, by omega, by omega, HRR.out⟩
     case round =>
      obtain ⟨i, V, hi, rfl, rfl, hV0, hV1, hG⟩ := hrel
      clear HRR
      by_cases hlt : i < t.size
      · have hml : i < t.data.toList.length := by simpa using hlt
        have hdd : t.data.toList.drop i = t[i]'hlt :: t.data.toList.drop (i + 1) := List.drop_eq_getElem_cons hml
        rw [hdd] at hG
        unfold numG at hG
        obtain ⟨hd1, hd2⟩ := HD.out i hlt
        clear hdd hml
        by_cases hbig : 922337203685477580 < V
        · rw [if_pos hbig] at hG
          subst hG
          have h := HR2.out
          simp only [numE, Prod.mk.injEq, tok0] at h
          obtain ⟨rfl, rfl⟩ := h
          clear HR2
          go_wp2
          refine yau ⟨?_⟩
          exact ⟨rfl, zac⟩
        · rw [if_neg hbig] at hG
          have HGG := Lib.hid hG
          have hz1 : 10 * V + (((t[i]'hlt).toNat : Int) - 48) ≤ 9223372036854775809 := by omega
          have hz0 : 0 ≤ 10 * V + (((t[i]'hlt).toNat : Int) - 48) := by omega
          clear hG
          go_wp2
          go_round
          case rel => exact ⟨i + 1, 10 * V + (((t[i]'hlt).toNat : Int) - 48), by omega, by go_num, by first | rfl | go_num, by omega, by omega, HGG.out⟩
          case measure => simp [intOf] <;> omega
      · have hie : i = t.size := by omega
        have hnil : t.data.toList.drop i = [] := by apply List.drop_eq_nil_of_le; simp; omega
        rw [hnil] at hG
        unfold numG at hG
        clear hnil
        by_cases hbig : 9223372036854775807 < V
        · rw [if_pos hbig] at hG
          subst hG
          have h := HR2.out
          simp only [numE, Prod.mk.injEq, tok0] at h
          obtain ⟨rfl, rfl⟩ := h
          clear HR2
          subst hie
          go_wp2
          refine yau ⟨?_⟩
          exact ⟨rfl, zac⟩
        · rw [if_neg hbig] at hG
          subst hG
          have h := HR2.out
          simp only [numE, Prod.mk.injEq] at h
          obtain ⟨rfl, rfl⟩ := h
          clear HR2
          subst hie
          go_wp2
          refine ycl ⟨?_⟩
          exact ⟨rfl, zac⟩
   · have hB3 : ((k : Int) + n < s.size) = True := by simp; omega
     have h256 := (s[k + n]'hB).toNat_lt
     have le := qaY ((s[k + n]'hB).toNat : Int) zae zae
     rw [hB2] at le
     have LE := Lib.hid le
     clear le h256 hB2
     go_enter Tryz.func74, Tryz.ntmps74
     go_wp2_with (go_at_call 99; refine (C.out _ zas).mono ?_; rintro e _ ⟨rfl, d, os, rfl⟩)
     refine yai ⟨?_⟩
     refine yac ?_
     repeat (refine Lex.step rfl ?_; intro K hK; unfold StepG; go_simp; (first
       | refine hK _ ?_); clear hK K)
     refine yaa ?_; intro dd oo
     go_wp2_with (go_at_call 71; refine (LE.out _).mono ?_; rintro e _ ⟨rfl, rfl⟩)
     rw [ends_normal]
     go_wp2_with fail
     go_loop [5, 44] (fun vv ii => ∃ (i : Nat) (V : Int), i ≤ t.size ∧ ii = .int .i64 i ∧ vv = .int .u64 V ∧ 0 ≤ V ∧ V ≤ 9223372036854775809 ∧ numG V (t.data.toList.drop i) = R) (fun _ ii => t.size - (intOf ii).toNat)
     case atStart => exact ⟨0, 0, by omega, rfl, rfl, by omega, by omega, HRR.out⟩
     case round =>
      obtain ⟨i, V, hi, rfl, rfl, hV0, hV1, hG⟩ := hrel
      clear HRR
      by_cases hlt : i < t.size
      · have hml : i < t.data.toList.length := by simpa using hlt
        have hdd : t.data.toList.drop i = t[i]'hlt :: t.data.toList.drop (i + 1) := List.drop_eq_getElem_cons hml
        rw [hdd] at hG
        unfold numG at hG
        obtain ⟨hd1, hd2⟩ := HD.out i hlt
        clear hdd hml
        by_cases hbig : 922337203685477580 < V
        · rw [if_pos hbig] at hG
          subst hG
          have h := HR2.out
          simp only [numE, Prod.mk.injEq, tok0] at h
          obtain ⟨rfl, rfl⟩ := h
          clear HR2
          go_wp2
          refine yau ⟨?_⟩
          exact ⟨rfl, zac⟩
        · rw [if_neg hbig] at hG
          have HGG := Lib.hid hG
          have hz1 : 10 * V + (((t[i]'hlt).toNat : Int) - 48) ≤ 9223372036854775809 := by omega
          have hz0 : 0 ≤ 10 * V + (((t[i]'hlt).toNat : Int) - 48) := by omega
          clear hG
          go_wp2
          go_round
          case rel => exact ⟨i + 1, 10 * V + (((t[i]'hlt).toNat : Int) - 48), by omega, by go_num, by first | rfl | go_num, by omega, by omega, HGG.out⟩
          case measure => simp [intOf] <;> omega
      · have hie : i = t.size := by omega
        have hnil : t.data.toList.drop i = [] := by apply List.drop_eq_nil_of_le; simp; omega
        rw [hnil] at hG
        unfold numG at hG
        clear hnil
        by_cases hbig : 9223372036854775807 < V
        · rw [if_pos hbig] at hG
          subst hG
          have h := HR2.out
          simp only [numE, Prod.mk.injEq, tok0] at h
          obtain ⟨rfl, rfl⟩ := h
          clear HR2
          subst hie
          go_wp2
          refine yau ⟨?_⟩
          exact ⟨rfl, zac⟩
        · rw [if_neg hbig] at hG
          subst hG
          have h := HR2.out
          simp only [numE, Prod.mk.injEq] at h
          obtain ⟨rfl, rfl⟩ := h
          clear HR2
          subst hie
          go_wp2
          refine ycl ⟨?_⟩
          exact ⟨rfl, zac⟩
theorem number_err (b : Nat) (s t : ByteArray) (k n : Nat) (lv : Value) (hk : k ≤ s.size) (hs : s.size ≤ maxLen) (hkn : k + n ≤ s.size) (hn : spanN qaj (s.data.toList.drop k) = n) (ht : s.extract k (k + n) = t) (htn : t.size = n)
  (hA : (1 < n ∧ ∃ h : 0 < t.size, ((t[0]'h).toNat : Int) = 48) ∨ ((n ≤ 1 ∨ (1 < n ∧ ∃ h : 0 < t.size, ¬ ((t[0]'h).toNat : Int) = 48)) ∧ ∃ h : k + n < s.size, qat ((s[k + n]'h).toNat : Int) = true))
  (w : World) (h : LexAt b s k lv w) :
  Calls Tryz.prog 74 #[.pointer (some ⟨b, 0, none⟩)] w fun e' w' => e' = .returned (.tuple #[tokV tok0 0, .int .i64 3]) ∧ Ext (w.setCell ⟨b, 1, none⟩ (.int .i64 ((k + n : Nat) : Int))) w' := by
 have HL := Lib.hid h
 have C := Lib.hid (qcL b s t k n lv hk hs hn ht)
 have hb := h.lt
 obtain ⟨c0, c1, c2, f1, f2⟩ := h.cells
 unfold maxLen at hs
 have HTN := Lib.hid htn
 unfold tokV tok0
 clear h hn ht
 have hts : t.size ≤ 9223372036854775807 := by omega
 rcases hA with ⟨hA, hA0, hA1⟩ | ⟨hA, hB, hB2⟩
 · have hA2 : (1 < (t.size : Int)) = True := by simp; omega
   have hA3 : (((t[0]'hA0).toNat : Int) == 48) = true := by simpa using hA1
   clear hA htn hA1
   go_enter Tryz.func74, Tryz.ntmps74
   go_wp2_with (go_at_call 99; refine (C.out _ zas).mono ?_; rintro e _ ⟨rfl, d, os, rfl⟩)
   refine yai ⟨?_⟩
   refine yac ?_
   repeat (refine Lex.step rfl ?_; intro K hK; unfold StepG; go_simp; (first
     | refine hK _ ?_); clear hK K)
   refine yaa ?_; intro dd oo
   go_wp2_with fail
   rw [ends_normal]
   go_wp2_with fail
   refine bodyPost_ret (v := .tuple #[.agg #[.int .i64 0, .int .i64 0, .string ⟨#[]⟩, .int .i64 0], .int .i64 3]) zaz rfl ?_
   exact ⟨rfl, zac⟩
 · have hB3 : ((k : Int) + n < s.size) = True := by simp; omega
   have h256 := (s[k + n]'hB).toNat_lt
   have le := qaY ((s[k + n]'hB).toNat : Int) zae zae
   rw [hB2] at le
   have LE := Lib.hid le
   clear le h256 hB2
   rcases hA with hA | ⟨hA, hA0, hA1⟩
   · have hA2 : (1 < (t.size : Int)) = False := by simp; omega
     clear hA htn
     go_enter Tryz.func74, Tryz.ntmps74
     go_wp2_with (go_at_call 99; refine (C.out _ zas).mono ?_; rintro e _ ⟨rfl, d, os, rfl⟩)
     refine yai ⟨?_⟩
     refine yac ?_
     repeat (refine Lex.step rfl ?_; intro K hK; unfold StepG; go_simp; (first
       | refine hK _ ?_); clear hK K)
     refine yaa ?_; intro dd oo
     go_wp2_with (go_at_call 71; refine (LE.out _).mono ?_; rintro e _ ⟨rfl, rfl⟩)
     rw [ends_normal]
     go_wp2_with fail
     refine bodyPost_ret (v := .tuple #[.agg #[.int .i64 0, .int .i64 0, .string ⟨#[]⟩, .int .i64 0], .int .i64 3]) zaz rfl ?_
     exact ⟨rfl, zac⟩
   · have hA2 : (1 < (t.size : Int)) = True := by simp; omega
     have hA3 : (((t[0]'hA0).toNat : Int) == 48) = false := by simpa using hA1
     clear hA htn hA1
     go_enter Tryz.func74, Tryz.ntmps74
     go_wp2_with (go_at_call 99; refine (C.out _ zas).mono ?_; rintro e _ ⟨rfl, d, os, rfl⟩)
     refine yai ⟨?_⟩
     refine yac ?_
     repeat (refine Lex.step rfl ?_; intro K hK; unfold StepG; go_simp; (first
       | refine hK _ ?_); clear hK K)
     refine yaa ?_; intro dd oo
     go_wp2_with (go_at_call 71; refine (LE.out _).mono ?_; rintro e _ ⟨rfl, rfl⟩)
     rw [ends_normal]
     go_wp2_with fail
     refine bodyPost_ret (v := .tuple #[.agg #[.int .i64 0, .int .i64 0, .string ⟨#[]⟩, .int .i64 0], .int .i64 3]) zaz rfl ?_
     exact ⟨rfl, zac⟩
end Go.Proofs.YtpoeknndkccbaaaGreat

namespace Go.Proofs.YtpoeknndkccbaaaGreat
open Go.RowKit
structure Nd where
 k : Int
 a : Int
 b : Int
 c : Int
 x : Int
 i : Int
 s : ByteArray
 t : ByteArray
def nd (k : Int) : Nd := ⟨k, -1, -1, -1, -1, 0, ⟨#[]⟩, ⟨#[]⟩⟩
def ndL (z : Nd) : List Value := [.int .i64 z.k, .int .i64 z.a, .int .i64 z.b, .int .i64 z.c, .int .i64 z.x, .int .i64 z.i, .string z.s, .string z.t]
def qac (l : List Nd) : List Value := l.flatMap ndL
theorem qcA (l m : List Nd) : qac (l ++ m) = qac l ++ qac m := by simp [qac]
theorem ndCells_one (l : List Nd) : ∀ u ∈ qac l, u.oneCell' = true := by
 intro u hu
 simp only [qac, List.mem_flatMap] at hu
 obtain ⟨t, _, h⟩ := hu
 simp [ndL] at h
 rcases h with rfl | rfl | rfl | rfl | rfl | rfl | rfl | rfl <;> rfl
abbrev Toks := List (Tok × Int)
def tkL (t : Tok × Int) : List Value := [.int .i64 t.1.k, .int .i64 t.2, .string t.1.s, .int .i64 t.1.i]
def qbu (l : Toks) : List Value := l.flatMap tkL
def tk (L : Toks) (m : Nat) : Tok × Int := L.getD m (tok0, 0)
theorem qdQ : ∀ (l : Toks) (j : Nat), j < l.length →
  (qbu l)[j * 4]? = some (.int .i64 (tk l j).1.k) ∧ (qbu l)[j * 4 + 1]? = some (.int .i64 (tk l j).2) ∧ (qbu l)[j * 4 + 2]? = some (.string (tk l j).1.s) ∧ (qbu l)[j * 4 + 3]? = some (.int .i64 (tk l j).1.i)
 | [], j, h => by simp at h
 | t :: l, 0, _ => ⟨rfl, rfl, rfl, rfl⟩
 | t :: l, j + 1, h => by
  have := qdQ l j (by simpa using h)
  have e : ∀ r, (qbu (t :: l))[(j + 1) * 4 + r]? = (qbu l)[j * 4 + r]? := by
   intro r
   have h1 : qbu (t :: l) = tkL t ++ qbu l := rfl
   rw [h1, List.getElem?_append_right (by simp [tkL]; omega)]
   congr 1
   simp [tkL]; omega
  have e2 : tk (t :: l) (j + 1) = tk l j := rfl
  rw [e2, e 1, e 2, e 3, ← Nat.add_zero ((j + 1) * 4), e 0]
  simpa using this
abbrev PR (α : Type) := Except (Int × Int) (α × Nat × List Nd)
abbrev PM (α : Type) := Nat → Nat → PR α
def prep {α : Type} (ns : List Nd) : PR α → PR α
 | .error e => .error e
 | .ok (v, m, ns') => .ok (v, m, ns ++ ns')
def pok {α : Type} (v : α) : PM α := fun m _ => .ok (v, m, [])
def pbind {α β : Type} (p : PM α) (f : α → PM β) : PM β := fun m n => match p m n with
 | .error e => .error e
 | .ok (v, m1, ns) => prep ns (f v m1 (n + ns.length))
theorem qap {α β : Type} {p : PM α} {f : α → PM β} {m n : Nat} {e : Int × Int} (h : p m n = .error e) : pbind p f m n = .error e := by
 unfold pbind; rw [h]
theorem qah {α β : Type} {p : PM α} {f : α → PM β} {m n : Nat} {v : α} {m1 : Nat} {ns : List Nd} (h : p m n = .ok (v, m1, ns)) : pbind p f m n = prep ns (f v m1 (n + ns.length)) := by
 unfold pbind; rw [h]
theorem qaG {α : Type} (r : PR α) : prep [] r = r := by
 cases r with
 | error e => rfl
 | ok v => obtain ⟨v, m, ns⟩ := v; rfl
theorem qbN {α : Type} (a b : List Nd) (r : PR α) : prep a (prep b r) = prep (a ++ b) r := by
 cases r with
 | error e => rfl
 | ok v => obtain ⟨v, m, ns⟩ := v; simp [prep]
section
variable (L : Toks)
def pno {α : Type} (e : Int) : PM α := fun m _ => .error (e, (tk L m).2)
def isP (s : ByteArray) (m : Nat) : Bool := (tk L m).1.k == (if wordB s = true then 5 else 4) && ((tk L m).1.s).toList == s.toList
def takesP (s : ByteArray) : PM Bool := fun m _ => if isP L s m = true then .ok (true, m + 1, []) else .ok (false, m, [])
def must1 (s : ByteArray) : PM Unit := fun m _ => if isP L s m = true then .ok ((), m + 1, []) else .error (3, (tk L m).2)
def mustP : List ByteArray → PM Unit
 | [] => pok ()
 | s :: r => pbind (must1 L s) fun _ => mustP r
def ofP (k : Int) : PM Tok := fun m _ => if (tk L m).1.k = k then .ok ((tk L m).1, m + 1, []) else .error (3, (tk L m).2)
def layP (z : Nd) : PM Int := fun m n => if n = 512 then .error (5, (tk L m).2) else .ok ((n : Int), m, [z])
def deepP (d : Nat) : PM Unit := fun m _ => if 16 < d then .error (14, (tk L m).2) else .ok ((), m, [])
def skipP : PM Unit := fun m _ => .ok ((), m + 1, [])
def qbv : PM Int := fun m n => if (tk L m).1.k = 2 ∧ 64 < (tk L m).1.i then .error (8, (tk L m).2) else pbind (ofP L 2) (fun t => pok t.i) m n
def qaM (ss : List ByteArray) : PM (Option ByteArray) := fun m _ => match ss.find? (fun s => isP L s m) with
 | none => .ok (none, m, [])
 | some s => .ok (some s, m + 1, [])
def twoNd (a b : Int) (s : ByteArray) : Nd := { nd 11 with a := a, b := b, s := s }
def qaB (cl : PM Int) (ss : List ByteArray) : Nat → Int → PM Int
 | 0, a => pok a
 | g + 1, a => pbind (qaM L ss) fun o => match o with
  | none => pok a
  | some s => pbind cl fun b => pbind (layP L (twoNd a b s)) fun a' => qaB cl ss g a'
def twoP (cl : PM Int) (ss : List ByteArray) : PM Int := pbind cl fun a => qaB L cl ss (L.length + 1) a
def qcl : List ByteArray := [⟨#[42]⟩, ⟨#[47]⟩, ⟨#[37]⟩]
def ssSum : List ByteArray := [⟨#[43]⟩, ⟨#[45]⟩]
def qdB : List ByteArray := [⟨#[46, 46]⟩]
def ssIs : List ByteArray := [⟨#[61, 61]⟩, ⟨#[33, 61]⟩, ⟨#[60]⟩, ⟨#[60, 61]⟩, ⟨#[62]⟩, ⟨#[62, 61]⟩]
def ssAnd : List ByteArray := [⟨#[97, 110, 100]⟩]
def ssOr : List ByteArray := [⟨#[111, 114]⟩]
def timesP (one : PM Int) : PM Int := twoP L one qcl
def sumP (one : PM Int) : PM Int := twoP L (timesP L one) ssSum
def joinP (one : PM Int) : PM Int := twoP L (sumP L one) qdB
def compP (one : PM Int) : PM Int := pbind (joinP L one) fun a => pbind (qaM L ssIs) fun o => match o with
  | none => pok a
  | some s => pbind (joinP L one) fun b => layP L (twoNd a b s)
def andP (one : PM Int) : PM Int := twoP L (compP L one) ssAnd
def orP (one : PM Int) : PM Int := twoP L (andP L one) ssOr
def sIs (x : ByteArray) (l : List UInt8) : Bool := x.toList == l
def callF (s : ByteArray) : Int :=
 if sIs s [103, 101, 116] = true then 5 else if sIs s [104, 97, 115] = true then 6 else if sIs s [108, 101, 110] = true then 7 else if sIs s [115, 104, 111, 119] = true then 8 else -1
def qaU (k : Int) (d : Nat) (o1 : PM Int) : PM Int := pbind (deepP L (d + 1)) fun _ => pbind o1 fun a => layP L { nd k with a := a }
def qbl (d : Nat) (e1 o1 : PM Int) : PM Int := fun m n =>
 if isP L ⟨#[45]⟩ m = true then pbind (skipP) (fun _ => qaU L 10 d o1) m n
 else if isP L ⟨#[40]⟩ m = true then pbind (skipP) (fun _ => pbind e1 fun a => pbind (mustP L [⟨#[41]⟩]) fun _ => pok a) m n
 else pno L 3 m n
def qbk (d : Nat) (e1 o1 : PM Int) : PM Int := fun m n =>
 if callF (tk L m).1.s = -1 then
  if isP L ⟨#[110, 111, 116]⟩ m = true then pbind (skipP) (fun _ => qaU L 9 d o1) m n
  else if isP L ⟨#[110, 105, 108]⟩ m = true then pbind (skipP) (fun _ => layP L (nd 0)) m n
  else if sIs (tk L m).1.s [116, 114, 117, 101] = true then pbind (skipP) (fun _ => layP L { nd 1 with i := 1 }) m n
  else if sIs (tk L m).1.s [102, 97, 108, 115, 101] = true then pbind (skipP) (fun _ => layP L (nd 1)) m n
  else pno L 3 m n
 else pbind (skipP) (fun _ => pbind (mustP L [⟨#[40]⟩]) fun _ => pbind e1 fun a => pbind (mustP L [⟨#[41]⟩]) fun _ => layP L { nd (callF (tk L m).1.s) with a := a }) m n
def oneP (d : Nat) (e1 o1 : PM Int) : PM Int := fun m n =>
 if (tk L m).1.k = 2 then pbind (skipP) (fun _ => layP L { nd 2 with i := (tk L m).1.i }) m n
 else if (tk L m).1.k = 3 then pbind (skipP) (fun _ => layP L { nd 3 with s := (tk L m).1.s }) m n
 else if (tk L m).1.k = 1 then pbind (skipP) (fun _ => layP L { nd 4 with s := (tk L m).1.s }) m n
 else if (tk L m).1.k = 4 then qbl L d e1 o1 m n
 else if (tk L m).1.k = 5 then qbk L d e1 o1 m n
 else pno L 3 m n
def exprD : Nat → PM Int × PM Int
 | 0 => (pno L 14, pno L 14)
 | D + 1 => (orP L (oneP L (16 - D) (exprD D).1 (exprD D).2), oneP L (16 - D) (exprD D).1 (exprD D).2)
def exprP (D : Nat) : PM Int := (exprD L D).1
def setNext (ns : List Nd) (j : Nat) (v : Int) : List Nd := ns.modify j fun z => { z with x := v }
def qak (st : PM Int) : Nat → Int → Int → List Nd → Nat → Nat → PR Int
 | 0, first, _, acc, m, _ => .ok (first, m, acc)
 | g + 1, first, last, acc, m, n => match st m (n + acc.length) with
  | .error e => .error e
  | .ok (i, m1, ns) =>
   if i = -1 then .ok (first, m1, acc ++ ns)
   else if first = -1 then qak st g i i (acc ++ ns) m1 n
   else qak st g first i (setNext (acc ++ ns) (last.toNat - n) i) m1 n
def qaz (bl : PM Int) : PM Int := pbind (mustP L [⟨#[123]⟩]) fun _ => pbind bl fun n => pbind (mustP L [⟨#[125]⟩]) fun _ => pok n
def qbq (k : Int) (ex : PM Int) : PM Int := pbind (skipP) fun _ => pbind (ofP L 1) fun t => pbind (mustP L [⟨#[61]⟩]) fun _ => pbind ex fun a => pbind (mustP L [⟨#[59]⟩]) fun _ => layP L { nd k with s := t.s, a := a }
def putP (ex : PM Int) : PM Int := pbind (skipP) fun _ => pbind ex fun a => pbind (mustP L [⟨#[44]⟩]) fun _ => pbind ex fun b => pbind (mustP L [⟨#[59]⟩]) fun _ => layP L { nd 22 with a := a, b := b }
def qay (k : Int) (ex : PM Int) : PM Int := pbind (skipP) fun _ => pbind ex fun a => pbind (mustP L [⟨#[59]⟩]) fun _ => layP L { nd k with a := a }
def whenP (ex br : PM Int) : PM Int := pbind (skipP) fun _ => pbind ex fun a => pbind br fun b => pbind (takesP L ⟨#[101, 108, 115, 101]⟩) fun e =>
 if e = true then pbind br fun c => layP L { nd 24 with a := a, b := b, i := 1, c := c } else layP L { nd 24 with a := a, b := b }
def eachP (ex br : PM Int) : PM Int := pbind (skipP) fun _ => pbind (ofP L 1) fun s => pbind (mustP L [⟨#[44]⟩]) fun _ => pbind (ofP L 1) fun t =>
 pbind (mustP L [⟨#[105, 110]⟩, ⟨#[115, 99, 97, 110]⟩, ⟨#[40]⟩]) fun _ => pbind ex fun a => pbind (mustP L [⟨#[44]⟩]) fun _ => pbind (qbv L) fun i => pbind (mustP L [⟨#[41]⟩]) fun _ =>
 pbind br fun b => layP L { nd 25 with s := s.s, t := t.s, a := a, i := i, b := b }
def qdt (br : PM Int) : PM Int := pbind (skipP) fun _ => pbind (qbv L) fun i => pbind br fun b => layP L { nd 26 with i := i, b := b }
def stmtP (ex br : PM Int) : PM Int := fun m n =>
 if ¬ (tk L m).1.k = 5 then pok (-1) m n
 else if sIs (tk L m).1.s [108, 101, 116] = true then qbq L 20 ex m n
 else if sIs (tk L m).1.s [115, 101, 116] = true then qbq L 21 ex m n
 else if sIs (tk L m).1.s [112, 117, 116] = true then putP L ex m n
 else if sIs (tk L m).1.s [100, 101, 108, 101, 116, 101] = true then qay L 23 ex m n
 else if sIs (tk L m).1.s [97, 98, 111, 114, 116] = true then qay L 27 ex m n
 else if sIs (tk L m).1.s [114, 101, 116, 117, 114, 110] = true then qay L 28 ex m n
 else if sIs (tk L m).1.s [105, 102] = true then whenP L ex br m n
 else if sIs (tk L m).1.s [102, 111, 114] = true then eachP L ex br m n
 else if sIs (tk L m).1.s [114, 101, 112, 101, 97, 116] = true then qdt L br m n
 else pok (-1) m n
def blockD : Nat → PM Int
 | 0 => pno L 14
 | D + 1 => fun m n => qak (stmtP L (exprP L (D + 1)) (qaz L (blockD D))) (L.length + 1) (-1) (-1) [] m n
def progP : Except (Int × Int) (List Nd × Int) := match pbind (blockD L 16) (fun f => pbind (ofP L 0) fun _ => pok f) 0 0 with
 | .error e => .error e
 | .ok (f, _, ns) => .ok (ns, f)
def qdv : Bool := L ≠ [] && (List.range L.length).all fun j => ((tk L j).1.k == 0) == decide (j + 1 = L.length)
def qcg : Except (Int × Int) (List Nd × Int) := if qdv L = true then progP L else .error (1, 0)
end
end Go.Proofs.YtpoeknndkccbaaaGreat

namespace Go.Proofs.YtpoeknndkccbaaaGreat
open Go.RowKit
variable {a b cap k lb lo m n x y z : Nat} {L : Toks} {w w1 w2 : World} {nv nv1 : Value} {N : List Nd}
theorem ltP1 (h : a < n) : (a < n + x) = True := by simp; omega
theorem ltP2 (h : a < n) : (a < n + x + y) = True := by simp; omega
theorem ltP3 (h : a < n) : (a < n + x + y + z) = True := by simp; omega
theorem ltP4 {u : Nat} (h : a < n) : (a < n + x + y + z + u) = True := by simp; omega
theorem ltP5 {u v : Nat} (h : a < n) : (a < n + x + y + z + u + v) = True := by simp; omega
attribute [go_sem] ltP1 ltP2 ltP3 ltP4 ltP5
def ToksAt (lb lo : Nat) (L : Toks) (w : World) : Prop := ∀ j, j < L.length →
 w.cell? ⟨lb, lo + j * 4, none⟩ = some (.int .i64 (tk L j).1.k) ∧ w.cell? ⟨lb, lo + j * 4 + 1, none⟩ = some (.int .i64 (tk L j).2) ∧
 w.cell? ⟨lb, lo + j * 4 + 2, none⟩ = some (.string (tk L j).1.s) ∧ w.cell? ⟨lb, lo + j * 4 + 3, none⟩ = some (.int .i64 (tk L j).1.i)
theorem ToksAt.lt (h : ToksAt lb lo L w) (hl : 0 < L.length) : lb < w.heap.size :=
 World.block_lt_of_cell? w _ (h 0 hl).1
theorem ToksAt.of_block {w' : World} (h : ToksAt lb lo L w) (e : w'.heap[lb]? = w.heap[lb]?) : ToksAt lb lo L w' := by
 intro j hj
 obtain ⟨h1, h2, h3, h4⟩ := h j hj
 exact ⟨(World.cell?_of_block e).trans h1, (World.cell?_of_block e).trans h2, (World.cell?_of_block e).trans h3, (World.cell?_of_block e).trans h4⟩
structure Ends (L : Toks) : Prop where
 pos : 0 < L.length
 few : L.length ≤ 5000
 at_ : ∀ j, j < L.length → ((tk L j).1.k = 0 ↔ j + 1 = L.length)
structure St (b lb lo cap : Nat) (nv : Value) (L : Toks) (m : Nat) (N : List Nd) (w : World) : Prop where
 ends : Ends L
 blk : w.heap[b]? = some (.cells #[.slice (some ⟨lb, lo, none⟩) L.length cap, .int .i64 (m : Int), nv, .int .i64 0] 107 (0, 0))
 toks : ToksAt lb lo L w
 row : w.ownsRow (b + 1) 42 8 nv N.length (qac N)
 low : lb < b
 pos : m < L.length
 cnt : N.length ≤ 512
theorem St.lt (h : St b lb lo cap nv L m N w) : b < w.heap.size :=
 (Array.getElem?_eq_some_iff.1 h.blk).1
structure Loc (b : Nat) (nv : Value) (k : Nat) (o : Obj) (w : World) : Prop where
 is : w.heap[k]? = some o
 ne : k ≠ b
 nr : nv.ownBlock ≠ some k
theorem Loc.lt {o : Obj} (h : Loc b nv k o w) : k < w.heap.size :=
 (Array.getElem?_eq_some_iff.1 h.is).1
structure Kp (b : Nat) (nv nv' : Value) (w w' : World) : Prop where
 os : w'.os = w.os
 tape : w'.tape = w.tape
 output : w'.output = w.output
 size : w.heap.size ≤ w'.heap.size
 block : ∀ k, k < w.heap.size → k ≠ b → nv.ownBlock ≠ some k → w'.heap[k]? = w.heap[k]?
 row : nv'.ownBlock = nv.ownBlock ∨ ∀ k, nv'.ownBlock = some k → w.heap.size ≤ k
theorem Kp.refl (b : Nat) (nv : Value) (w : World) : Kp b nv nv w w := ⟨rfl, rfl, rfl, Nat.le_refl _, fun _ _ _ _ => rfl, Or.inl rfl⟩
theorem Kp.trans {nv2 : Value} (h : Kp b nv nv1 w w1) (k : Kp b nv1 nv2 w1 w2) : Kp b nv nv2 w w2 := by
 refine ⟨k.os.trans h.os, k.tape.trans h.tape, k.output.trans h.output, Nat.le_trans h.size k.size, fun j hj hb hn => ?_, ?_⟩
 · have hn1 : nv1.ownBlock ≠ some j := by
     rcases h.row with e | e
     · rw [e]; exact hn
     · intro e2; have := e j e2; omega
   rw [k.block j (Nat.lt_of_lt_of_le hj h.size) hb hn1, h.block j hj hb hn]
 · rcases k.row with e | e
   · rcases h.row with e1 | e1
     · exact Or.inl (e.trans e1)
     · exact Or.inr (fun j hj => e1 j (by rw [← e]; exact hj))
   · exact Or.inr (fun j hj => Nat.le_trans h.size (e j hj))
theorem Kp.ext (h : Kp b nv nv1 w w1) (hx : Ext w1 w2) : Kp b nv nv1 w w2 := by
 refine h.trans ?_
 have hb := hx.below
 exact ⟨hb.os, hb.tape, hb.output, hb.size, fun k hk _ _ => hb.block k hk, Or.inl rfl⟩
theorem Kp.alloc (h : Kp b nv nv1 w w1) (o : Obj) : Kp b nv nv1 w (w1.alloc o) := h.ext ((Ext.refl _).alloc o)
theorem Kp.more (h : Kp b nv nv1 w w1) (d : Nat) (os : Array Obj) : Kp b nv nv1 w (more w1 d os) := h.ext ((Ext.refl _).more d os)
theorem heap_set_other (w : World) (k i j : Nat) (v : Value) (h : j ≠ k) : (w.setCell ⟨k, i, none⟩ v).heap[j]? = w.heap[j]? := by
 simp [World.setCell, Array.getElem?_modify, Ne.symm h]
theorem Kp.setNew (h : Kp b nv nv1 w w1) {k : Nat} (hk : w.heap.size ≤ k) (i : Nat) (v : Value) : Kp b nv nv1 w (w1.setCell ⟨k, i, none⟩ v) :=
 ⟨h.os, h.tape, h.output, by simpa [World.setCell] using h.size, fun j hj hb hn => by rw [heap_set_other _ _ _ _ _ zae]; exact h.block j hj hb hn, h.row⟩
theorem Kp.setB (h : Kp b nv nv1 w w1) (i : Nat) (v : Value) : Kp b nv nv1 w (w1.setCell ⟨b, i, none⟩ v) :=
 ⟨h.os, h.tape, h.output, by simpa [World.setCell] using h.size, fun j hj hb hn => by rw [heap_set_other _ _ _ _ _ hb]; exact h.block j hj hb hn, h.row⟩
theorem Loc.kp {o : Obj} (h : Loc b nv k o w) (hk : Kp b nv nv1 w w1) : Loc b nv1 k o w1 := by
 refine ⟨(hk.block k h.lt h.ne h.nr).trans h.is, h.ne, ?_⟩
 rcases hk.row with e | e
 · rw [e]; exact h.nr
 · intro e2; have := e k e2; have := h.lt; omega
theorem Loc.ext {o : Obj} (h : Loc b nv k o w) (hx : Ext w w1) : Loc b nv k o w1 := h.kp ((Kp.refl b nv w).ext hx)
theorem Loc.set {cs : Array Value} {t : TypeId} (h : Loc b nv k (.cells cs t (0, 0)) w) (i : Nat) (v : Value) : Loc b nv k (.cells (cs.setIfInBounds i v) t (0, 0)) (w.setCell ⟨k, i, none⟩ v) := by
 refine ⟨?_, h.ne, h.nr⟩
 have := h.is
 simp [World.setCell, Array.getElem?_modify, this]
theorem St.ext (h : St b lb lo cap nv L m N w) (hx : Ext w w1) : St b lb lo cap nv L m N w1 := by
 have hb := hx.below
 refine ⟨h.ends, (hb.block b h.lt).trans h.blk, h.toks.of_block (hb.block lb (Nat.lt_trans h.low h.lt)), own_ext h.row hx, h.low, h.pos, h.cnt⟩
theorem St.alloc (h : St b lb lo cap nv L m N w) (o : Obj) : St b lb lo cap nv L m N (w.alloc o) := h.ext ((Ext.refl _).alloc o)
theorem St.more (h : St b lb lo cap nv L m N w) (d : Nat) (os : Array Obj) : St b lb lo cap nv L m N (more w d os) := h.ext ((Ext.refl _).more d os)
theorem Loc.more {o : Obj} (h : Loc b nv k o w) (d : Nat) (os : Array Obj) : Loc b nv k o (YtpoeknndkccbaaaGreat.more w d os) := h.ext ((Ext.refl _).more d os)
theorem Loc.alloc {o : Obj} (h : Loc b nv k o w) (o' : Obj) : Loc b nv k o (w.alloc o') := h.ext ((Ext.refl _).alloc o')
theorem St.rowNe (h : St b lb lo cap nv L m N w) {k : Nat} (hk : w.heap.size ≤ k) : nv.ownBlock ≠ some k := by
 intro e; have := (h.row.lt k e).2; omega
theorem St.loc (h : St b lb lo cap nv L m N w) (o : Obj) : Loc b nv w.heap.size o (w.alloc o) :=
 ⟨heap_alloc_new _ _, by have := h.lt; omega, h.rowNe (Nat.le_refl _)⟩
theorem St.setLoc (h : St b lb lo cap nv L m N w) {k : Nat} {o : Obj} (hk : Loc b nv k o w) (hl : lb ≠ k) (i : Nat) (v : Value) :
  St b lb lo cap nv L m N (w.setCell ⟨k, i, none⟩ v) := by
 refine ⟨h.ends, by rw [heap_set_other _ _ _ _ _ hk.ne.symm]; exact h.blk, h.toks.of_block (heap_set_other _ _ _ _ _ hl), ?_, h.low, h.pos, h.cnt⟩
 refine h.row.kept (row := some k) ⟨rfl, rfl, rfl, by simp [World.setCell], fun j hj hn => heap_set_other _ _ _ _ _ (fun e => hn (by rw [e]))⟩ (Or.inr hk.nr)
theorem St.setAt (h : St b lb lo cap nv L m N w) (m' : Nat) (z : Int) (hz : z = m') (hm : m' < L.length) : St b lb lo cap nv L m' N (w.setCell ⟨b, 1, none⟩ (.int .i64 z)) := by
 subst hz
 refine ⟨h.ends, ?_, h.toks.of_block (heap_set_other _ _ _ _ _ (by have := h.low; omega)), ?_, h.low, hm, h.cnt⟩
 · simp [World.setCell, Array.getElem?_modify, h.blk]
 · refine h.row.kept (row := some b) ⟨rfl, rfl, rfl, by simp [World.setCell], fun j hj hn => heap_set_other _ _ _ _ _ (fun e => hn (by rw [e]))⟩ (Or.inr fun e => ?_)
   have := (h.row.lt b e).1; omega
theorem ownBlock_kept {row : Option Nat} (hg : w.grownBy w1 row) (hk : k < w.heap.size) (hn : row ≠ some k) : w1.heap[k]? = w.heap[k]? := hg.block k hk (fun e => hn e.symm)
theorem St.push {v' : Value} (h : St b lb lo cap nv L m N w) {z : Nd} (hown : w1.ownsRow (b + 1) 42 8 v' (N.length + 1) (qac N ++ ndL z)) (hg : w.grownBy w1 nv.ownBlock) (hn : N.length < 512) :
  St b lb lo cap v' L m (N ++ [z]) (w1.setCell ⟨b, 2, none⟩ v') := by
 have hb : nv.ownBlock ≠ some b := fun e => by have := (h.row.lt b e).1; omega
 have hl : nv.ownBlock ≠ some lb := fun e => by have := (h.row.lt lb e).1; have := h.low; omega
 have e1 : w1.heap[b]? = w.heap[b]? := ownBlock_kept hg h.lt hb
 have e2 : w1.heap[lb]? = w.heap[lb]? := ownBlock_kept hg (Nat.lt_trans h.low h.lt) hl
 refine ⟨h.ends, ?_, (h.toks.of_block e2).of_block (heap_set_other _ _ _ _ _ (by have := h.low; omega)), ?_, h.low, h.pos, by simp; omega⟩
 · have := h.blk
   simp [World.setCell, Array.getElem?_modify, e1, this]
 · have hc : qac (N ++ [z]) = qac N ++ ndL z := by rw [qcA]; simp [qac]
   rw [hc, List.length_append]
   refine hown.kept (row := some b) ⟨rfl, rfl, rfl, by simp [World.setCell], fun j hj hn => heap_set_other _ _ _ _ _ (fun e => hn (by rw [e]))⟩ (Or.inr fun e => ?_)
   have := (hown.lt b e).1; omega
theorem St.grownFacts (h : St b lb lo cap nv L m N w) (hg : w.grownBy w1 nv.ownBlock) :
  w1.cell? ⟨b, 2, none⟩ = some nv ∧ w1.frozen? ⟨b, 2, none⟩ = false ∧ b < w1.heap.size := by
 have hb : nv.ownBlock ≠ some b := fun e => by have := (h.row.lt b e).1; omega
 have e1 : w1.heap[b]? = w.heap[b]? := ownBlock_kept hg h.lt hb
 have := h.blk
 refine ⟨?_, ?_, Nat.lt_of_lt_of_le h.lt hg.size⟩ <;> simp [World.cell?, World.frozen?, e1, this]
theorem Kp.push {v' : Value} (h : Kp b nv nv1 w w1) (hg : w1.grownBy w2 nv1.ownBlock) (hb : v'.ownBlock = nv1.ownBlock ∨ v'.ownBlock = some w1.heap.size) : Kp b nv v' w (w2.setCell ⟨b, 2, none⟩ v') := by
 refine h.trans (Kp.setB ⟨hg.os, hg.tape, hg.output, hg.size, fun k hk _ hn => ownBlock_kept hg hk hn, ?_⟩ 2 _)
 rcases hb with e | e
 · exact Or.inl e
 · exact Or.inr fun k hk => by rw [e] at hk; simp at hk; omega
theorem St.facts (h : St b lb lo cap nv L m N w) :
  w.cell? ⟨b, 0, none⟩ = some (.slice (some ⟨lb, lo, none⟩) L.length cap) ∧ w.cell? ⟨b, 1, none⟩ = some (.int .i64 (m : Int)) ∧ w.cell? ⟨b, 2, none⟩ = some nv ∧ w.cell? ⟨b, 3, none⟩ = some (.int .i64 0) ∧
  w.frozen? ⟨b, 1, none⟩ = false ∧ w.frozen? ⟨b, 2, none⟩ = false ∧ w.frozen? ⟨b, 3, none⟩ = false ∧ b < w.heap.size := by
 have := h.blk
 refine ⟨?_, ?_, ?_, ?_, ?_, ?_, ?_, h.lt⟩ <;> simp [World.cell?, World.frozen?, this]
theorem St.tokFacts (h : St b lb lo cap nv L m N w) :
  w.cell? ⟨lb, lo + m * 4, none⟩ = some (.int .i64 (tk L m).1.k) ∧ w.cell? ⟨lb, lo + m * 4 + 1, none⟩ = some (.int .i64 (tk L m).2) ∧
  w.cell? ⟨lb, lo + m * 4 + 2, none⟩ = some (.string (tk L m).1.s) ∧ w.cell? ⟨lb, lo + m * 4 + 3, none⟩ = some (.int .i64 (tk L m).1.i) ∧ lb < w.heap.size :=
 ⟨(h.toks m h.pos).1, (h.toks m h.pos).2.1, (h.toks m h.pos).2.2.1, (h.toks m h.pos).2.2.2, Nat.lt_trans h.low h.lt⟩
theorem St.next (h : St b lb lo cap nv L m N w) (hk : (tk L m).1.k ≠ 0) : m + 1 < L.length := by
 have h1 := h.ends.at_ m h.pos
 have h2 := h.pos
 rcases Nat.lt_or_ge (m + 1) L.length with h3 | h3
 · exact h3
 · exact absurd (h1.2 zae) hk
def noV (c a : Int) : Ending := .panicked [{ v := .iface 104 (.agg #[.int .i64 c, .int .i64 a]), recovered := false }]
def PPost {α : Type} (V : α → Value) (b lb lo cap : Nat) (nv : Value) (L : Toks) (m : Nat) (N : List Nd) (w : World) (r : PR α) (e : Ending) (w' : World) : Prop :=
 match r with
 | .error (c, a) => e = noV c a ∧ ∃ nv', Kp b nv nv' w w'
 | .ok (v, m', ns) => e = .returned (V v) ∧ ∃ nv', St b lb lo cap nv' L m' (N ++ ns) w' ∧ Kp b nv nv' w w' ∧ m ≤ m'
def unitV : Unit → Value := fun _ => .tuple #[]
def intV : Int → Value := fun z => .int .i64 z
end Go.Proofs.YtpoeknndkccbaaaGreat

namespace Go.Proofs.YtpoeknndkccbaaaGreat
open Go.RowKit
variable {w : World} {base n : Nat}
attribute [go_sem] more_more Array.size_append
theorem qes : ∀ (l : List Nd) (j : Nat) (z : Nd), l[j]? = some z → (qac l)[j * 8 + 0]? = some (.int .i64 z.k) ∧ (qac l)[j * 8 + 1]? = some (.int .i64 z.a) ∧ (qac l)[j * 8 + 2]? = some (.int .i64 z.b) ∧ (qac l)[j * 8 + 3]? = some (.int .i64 z.c) ∧ (qac l)[j * 8 + 4]? = some (.int .i64 z.x) ∧ (qac l)[j * 8 + 5]? = some (.int .i64 z.i) ∧ (qac l)[j * 8 + 6]? = some (.string z.s) ∧ (qac l)[j * 8 + 7]? = some (.string z.t)
 | [], j, z, h => by simp at h
 | y :: l, 0, z, h => by
  simp at h
  subst h
  exact ⟨rfl, rfl, rfl, rfl, rfl, rfl, rfl, rfl⟩
 | y :: l, j + 1, z, h => by
  have := qes l j z (by simpa using h)
  have e : ∀ r, (qac (y :: l))[(j + 1) * 8 + r]? = (qac l)[j * 8 + r]? := by
   intro r
   have h1 : qac (y :: l) = ndL y ++ qac l := rfl
   rw [h1, List.getElem?_append_right (by simp [ndL]; omega)]
   congr 1
   simp [ndL]; omega
  rw [e 0, e 1, e 2, e 3, e 4, e 5, e 6, e 7]
  exact this
theorem qae {e : TypeId} {size : Nat} {v : Value} {xs : List Value} (h : w.ownsRow base e size v n xs) : ∃ p c, v = .slice p n c := by
 rcases Go.Joins.ownsRow_forms h with ⟨rfl, h0⟩ | ⟨g1, c, rfl⟩
 · exact ⟨none, 0, by rw [h0]⟩
 · exact ⟨_, _, rfl⟩
theorem qag {w' : World} {e : TypeId} {size : Nat} {v : Value} {xs : List Value} (h : w.ownsRow base e size v n xs) (hb : ∀ k, v.ownBlock = some k → k < w.heap.size → w'.heap[k]? = w.heap[k]?) : w'.ownsRow base e size v n xs := by
 obtain ⟨h1, h2⟩ := h
 refine ⟨h1, ?_⟩
 rcases h2 with h2 | ⟨g, cap, cur, rfl, hg, hh, r⟩
 · exact Or.inl h2
 · exact Or.inr ⟨g, cap, cur, rfl, hg, (hb g rfl (Array.getElem?_eq_some_iff.1 hh).1).trans hh, r⟩
theorem ndInfo : (Tryz.prog.info? 42).map (fun i => (i.zero, i.size, i.bytes)) = some (some (.agg #[.int .i64 0, .int .i64 0, .int .i64 0, .int .i64 0, .int .i64 0, .int .i64 0, .string ⟨#[]⟩, .string ⟨#[]⟩]), 8, 80) := by kernel_rfl
theorem intInfo : (Tryz.prog.info? 3).map (fun i => (i.zero, i.size, i.bytes)) = some (some (.int .i64 0), 1, 8) := by kernel_rfl
theorem nd_at {g cap : Nat} {ns : List Nd} (h : w.ownsRow base 42 8 (.slice (some ⟨g, 0, none⟩) n cap) n (qac ns)) {j : Nat} {z : Nd} (hj : ns[j]? = some z) :
  w.cell? ⟨g, j * 8, none⟩ = some (.int .i64 z.k) ∧ w.cell? ⟨g, j * 8 + 1, none⟩ = some (.int .i64 z.a) ∧ w.cell? ⟨g, j * 8 + 2, none⟩ = some (.int .i64 z.b) ∧ w.cell? ⟨g, j * 8 + 3, none⟩ = some (.int .i64 z.c) ∧ w.cell? ⟨g, j * 8 + 4, none⟩ = some (.int .i64 z.x) ∧ w.cell? ⟨g, j * 8 + 5, none⟩ = some (.int .i64 z.i) ∧ w.cell? ⟨g, j * 8 + 6, none⟩ = some (.string z.s) ∧ w.cell? ⟨g, j * 8 + 7, none⟩ = some (.string z.t) := by
 have hc := h.cells (g := g) rfl
 obtain ⟨h0, h1, h2, h3, h4, h5, h6, h7⟩ := qes ns j z hj
 have e : ∀ i v, (qac ns)[i]? = some v → w.cell? ⟨g, i, none⟩ = some v := fun i v hi => by
  have := hc i v hi
  rwa [Addr.add_lit, Nat.zero_add] at this
 exact ⟨e _ _ h0, e _ _ h1, e _ _ h2, e _ _ h3, e _ _ h4, e _ _ h5, e _ _ h6, e _ _ h7⟩
end Go.Proofs.YtpoeknndkccbaaaGreat

namespace Go.Proofs.YtpoeknndkccbaaaGreat
open Go.RowKit
def twoL : List ByteArray := [⟨#[61, 61]⟩, ⟨#[33, 61]⟩, ⟨#[60, 61]⟩, ⟨#[62, 61]⟩, ⟨#[46, 46]⟩]
def twoV : Value := .agg (twoL.map Value.string).toArray
def singles : ByteArray := ⟨#[40, 41, 123, 125, 44, 59, 61, 60, 62, 43, 45, 42, 47, 37]⟩
def signF (l : List UInt8) : Tok × Nat × Int :=
 match twoL.find? (fun p => Lib.hasPrefix l p.data.toList) with
 | some p => (⟨4, p, 0⟩, 2, 0)
 | none => (match l with
  | [] => (tok0, 0, 3)
  | c :: _ => if singles.data.toList.contains c = true then (⟨4, ⟨#[c]⟩, 0⟩, 1, 0) else (tok0, 0, 3))
theorem two_index (k : Nat) (hk : k < 5) (w : World) : (Instr.index 149 twoV (.int .i64 (k : Int))).run Tryz.prog w = .ok (.string (twoL.getD k ⟨#[]⟩)) w := by
 have h : k = 0 ∨ k = 1 ∨ k = 2 ∨ k = 3 ∨ k = 4 := by omega
 rcases h with rfl | rfl | rfl | rfl | rfl
 all_goals
  clear hk
  show (Instr.index _ _ _).run _ _ = _
  kernel_rfl
theorem lex_same {b : Nat} {s : ByteArray} {k : Nat} {lv : Value} {w : World} (h : LexAt b s k lv w) : w.setCell ⟨b, 1, none⟩ (.int .i64 (k : Int)) = w := by
 have h2 := h.set k (k : Int) rfl
 have e : (w.setCell ⟨b, 1, none⟩ (.int .i64 (k : Int))).heap = w.heap := by
  apply Array.ext_getElem?
  intro j
  by_cases hj : b = j
  · subst hj
    unfold LexAt at h h2
    rw [h, h2]
  · exact Below.heap_setCell _ _ _ _ (fun e => hj e.symm)
 unfold World.setCell at e ⊢
 simp only at e
 rw [e]
theorem first_byte (t : ByteArray) (h : 0 < t.size) : t.extract 0 1 = ⟨#[t[0]]⟩ := by
 apply ByteArray.ext
 apply Array.ext'
 have hl : 0 < t.data.toList.length := by simpa using h
 have e1 : (t.extract 0 1).data.toList = t.data.toList.take 1 := by simp [List.extract_eq_take_drop]
 rw [e1]
 have h2 := List.drop_eq_getElem_cons hl
 rw [List.drop_zero] at h2
 rw [h2]; rfl
theorem qcQ (u : UInt8) (j : Nat) (h : j < 14) (e : (u.toNat : Int) = ((singles[j]'h).toNat : Int)) : u = singles[j]'h := UInt8.toNat_inj.1 zae
theorem qda (u : UInt8) (j : Nat) (h : j < 14) (e : ¬ (u.toNat : Int) = ((singles[j]'h).toNat : Int)) : ¬ u = singles[j]'h := fun e' => e (by rw [e'])
theorem qep (u : UInt8) (j : Nat) (h : j < 14) (e : u = singles[j]'h) : singles.data.toList.contains u = true := by
 have hl : j < singles.data.toList.length := h
 rw [List.contains_iff_mem, e]
 exact List.getElem_mem hl
theorem single_step (u : UInt8) (j : Nat) (h : j < 14) (hf : (singles.data.toList.take j).contains u = false) (e : ¬ u = singles[j]'h) : (singles.data.toList.take (j + 1)).contains u = false := by
 have hl : j < singles.data.toList.length := h
 rw [List.take_succ_eq_append_getElem hl, List.contains_eq_mem] at *
 simp only [List.mem_append, List.mem_singleton, decide_eq_false_iff_not, not_or] at *
 exact ⟨hf, e⟩
theorem find_none (l : List UInt8) (k : Nat) (hk : k < 5) (h : (twoL.take k).find? (fun p => Lib.hasPrefix l p.data.toList) = none) (hn : Lib.hasPrefix l (twoL.getD k ⟨#[]⟩).data.toList = false) : (twoL.take (k + 1)).find? (fun p => Lib.hasPrefix l p.data.toList) = none := by
 have hl : k < twoL.length := hk
 have e : twoL.take (k + 1) = twoL.take k ++ [twoL.getD k ⟨#[]⟩] := by
  rw [List.take_succ_eq_append_getElem hl]
  congr 2
  simp [List.getD, List.getElem?_eq_getElem hl]
 rw [e, List.find?_append, h]
 simp only [Option.none_or, List.find?_cons, hn, List.find?_nil]
theorem find_some (l : List UInt8) (k : Nat) (hk : k < 5) (h : (twoL.take k).find? (fun p => Lib.hasPrefix l p.data.toList) = none) (hn : Lib.hasPrefix l (twoL.getD k ⟨#[]⟩).data.toList = true) : twoL.find? (fun p => Lib.hasPrefix l p.data.toList) = some (twoL.getD k ⟨#[]⟩) := by
 have hl : k < twoL.length := hk
 have e : twoL = twoL.take k ++ (twoL.getD k ⟨#[]⟩ :: twoL.drop (k + 1)) := by
  have h1 := List.take_append_drop k twoL
  rw [List.drop_eq_getElem_cons hl] at h1
  have h2 : twoL.getD k ⟨#[]⟩ = twoL[k] := by simp [List.getD, List.getElem?_eq_getElem hl]
  rw [h2]; exact h1.symm
 rw [e, List.find?_append, h]
 simp only [Option.none_or, List.find?_cons]
 rw [← e, hn]
theorem sign_any (b : Nat) (s t : ByteArray) (k n : Nat) (lv : Value) (hk : k < s.size) (hs : (s.size : Int) ≤ 4611686018427387904) (ht : s.extract k s.size = t) (h0 : 0 < t.size) (r : Tok) (e : Int) (hr : signF t.data.toList = (r, n, e)) (w : World) (h : LexAt b s k lv w) :
  Calls Tryz.prog 70 #[.pointer (some ⟨b, 0, none⟩)] w fun e' w' => e' = .returned (.tuple #[tokV r 0, .int .i64 e]) ∧ Ext (w.setCell ⟨b, 1, none⟩ (.int .i64 ((k + n : Nat) : Int))) w' := by
 have HL := Lib.hid h
 have hb := h.lt
 obtain ⟨c0, c1, c2, f1, f2⟩ := h.cells
 have hk2 : (k : Int) ≤ 9223372036854775800 := by omega
 have hs3 : s.size ≤ maxLen := by unfold maxLen; omega
 unfold maxLen at hs3
 clear hs
 unfold tokV
 have HR := Lib.hid hr
 obtain ⟨V, hV⟩ : ∃ V, twoV = V := ⟨_, rfl⟩
 have hV2 : (Value.agg #[.string ⟨#[61, 61]⟩, .string ⟨#[33, 61]⟩, .string ⟨#[60, 61]⟩, .string ⟨#[62, 61]⟩, .string ⟨#[46, 46]⟩]) = V := by rw [← hV]; rfl
 have HI := Lib.hid two_index
 rw [hV] at HI
 clear h hr hV
 go_enter Tryz.func70, Tryz.ntmps70
 go_wp2_with fail
 refine qaa 8 54 [false, false, false, false, false, false, false, false] zad zad rfl ?_
 refine yac ?_
 repeat (refine Lex.step rfl ?_; intro K hK; unfold StepG; go_simp; (first
   | refine hK _ ?_); clear hK K)
 refine yaa ?_; intro dd oo
 go_wp2_with fail
 rw [ends_normal]
 go_wp2_with fail
 clear hV2 ht
 go_loop [18] (fun ii => ∃ j : Nat, ii = .int .i64 j ∧ j ≤ 5 ∧ (twoL.take j).find? (fun p => Lib.hasPrefix t.data.toList p.data.toList) = none) (fun ii => 5 - (intOf ii).toNat)
 case atStart => exact ⟨0, rfl, by omega, rfl⟩
 case round =>
  obtain ⟨j, rfl, hj, hf⟩ := hrel
  have HF := Lib.hid hf
  clear hf
  by_cases hlt : j < 5
  · have hi := HI.out j hlt
    have hno := Lib.hid (find_none t.data.toList j hlt HF.out)
    have hso := Lib.hid (find_some t.data.toList j hlt HF.out)
    generalize twoL.getD j ⟨#[]⟩ = x at hi hno hso
    cases hq : Lib.hasPrefix t.data.toList x.data.toList
    · clear HR
      go_wp2_with (go_at_call 101; refine (Tryz.strings_HasPrefix _ _ _).mono ?_; rintro e _ ⟨rfl, rfl⟩)
      go_round
      case rel => exact ⟨j + 1, by go_num, by omega, hno.out hq⟩
      case measure => simp [intOf] <;> omega
    · have h1 := HR.out
      unfold signF at h1
      rw [hso.out hq] at h1
      simp only [Prod.mk.injEq] at h1
      obtain ⟨rfl, rfl, rfl⟩ := h1
      clear HR
      go_wp2_with (go_at_call 101; refine (Tryz.strings_HasPrefix _ _ _).mono ?_; rintro e _ ⟨rfl, rfl⟩)
      refine bodyPost_ret (v := .tuple #[.agg #[.int .i64 4, .int .i64 0, .string x, .int .i64 0], .int .i64 0]) (by simp [results, Tryz.results70, go_sem]) rfl ?_
      exact ⟨rfl, zac⟩
  · have hj5 : j = 5 := by omega
    subst hj5
    have hfn : twoL.find? (fun p => Lib.hasPrefix t.data.toList p.data.toList) = none := HF.out
    have h1 := HR.out
    unfold signF at h1
    rw [hfn] at h1
    have hct : t.data.toList = t[0] :: t.data.toList.drop 1 := by
     have hl' : 0 < t.data.toList.length := by simpa using h0
     have := List.drop_eq_getElem_cons hl'
     rw [List.drop_zero] at this
     exact this
    rw [hct] at h1
    dsimp only at h1
    have H1 := Lib.hid h1
    obtain ⟨u, hu⟩ : ∃ u, t[0] = u := ⟨_, rfl⟩
    clear HR hfn HF HI h1 hct
    rw [hu] at H1
    cases hct : singles.data.toList.contains u
    · have h1 := H1.out
      rw [hct] at h1
      rw [if_neg zan] at h1
      simp only [Prod.mk.injEq] at h1
      obtain ⟨rfl, rfl, rfl⟩ := h1
      have HC := Lib.hid hct
      clear H1 hct
      go_wp2
      go_loopw [34] (fun ii wr => ∃ (j : Nat) (d : Nat) (os : Array Obj), ii = .int .i64 j ∧ j ≤ 14 ∧ (singles.data.toList.take j).contains u = false ∧ wr = more (w.alloc (.cells #[.int .i64 0, .int .i64 0, .string ⟨#[]⟩, .int .i64 0] 100)) d os) (fun ii _ => 14 - (intOf ii).toNat)
      case atStart => exact ⟨0, _, _, rfl, by omega, rfl, rfl⟩
      case round =>
       obtain ⟨j, d, os, rfl, hj, hf, rfl⟩ := hrel
       have HF := Lib.hid hf
       clear hf
       by_cases hlt : j < 14
       · go_wp2_with fail
         refine qaa 4 54 [false, false, false, false] zad zad rfl ?_
         refine yac ?_
         repeat (refine Lex.step rfl ?_; intro K hK; unfold StepG; go_simp; (first
           | refine hK _ ?_); clear hK K)
         refine yaa ?_; intro dd oo
         go_wp2_with fail
         rw [ends_normal]
         go_wp2_with fail
         · rename_i hqt
           have hq := qcQ u j hlt (by simp only [beq_iff_eq] at hqt; exact hqt)
           exact absurd (qep u j hlt hq) (by rw [HC.out]; simp)
         · rename_i hqt
           have hq := qda u j hlt (by simp only [beq_eq_false_iff_ne, ne_eq] at hqt; exact hqt)
           go_roundw
           case rel => exact ⟨j + 1, _, _, by go_num, by omega, single_step u j hlt HF.out hq, rfl⟩
           case measure => simp [intOf] <;> omega
       · have hj14 : j = 14 := by omega
         subst hj14
         go_wp2
         refine bodyPost_ret (v := .tuple #[.agg #[.int .i64 0, .int .i64 0, .string ⟨#[]⟩, .int .i64 0], .int .i64 3]) (by simp [results, Tryz.results70, go_sem]) rfl ?_
         refine ⟨rfl, ?_⟩
         rw [Nat.add_zero, lex_same HL.out]
         repeat (first | exact Ext.refl _ | apply Ext.alloc | apply Ext.more)
    · have h1 := H1.out
      rw [hct] at h1
      rw [if_pos rfl] at h1
      simp only [Prod.mk.injEq] at h1
      obtain ⟨rfl, rfl, rfl⟩ := h1
      have HC := Lib.hid hct
      have hx : t.extract 0 1 = ⟨#[u]⟩ := by rw [← hu]; exact first_byte t h0
      clear H1 hct
      go_wp2
      go_loopw [34] (fun ii wr => ∃ (j : Nat) (d : Nat) (os : Array Obj), ii = .int .i64 j ∧ j ≤ 14 ∧ (singles.data.toList.take j).contains u = false ∧ wr = more (w.alloc (.cells #[.int .i64 0, .int .i64 0, .string ⟨#[]⟩, .int .i64 0] 100)) d os) (fun ii _ => 14 - (intOf ii).toNat)
      case atStart => exact ⟨0, _, _, rfl, by omega, rfl, rfl⟩
      case round =>
       obtain ⟨j, d, os, rfl, hj, hf, rfl⟩ := hrel
       have HF := Lib.hid hf
       clear hf
       by_cases hlt : j < 14
       · go_wp2_with fail
         refine qaa 4 54 [false, false, false, false] zad zad rfl ?_
         refine yac ?_
         repeat (refine Lex.step rfl ?_; intro K hK; unfold StepG; go_simp; (first
           | refine hK _ ?_); clear hK K)
         refine yaa ?_; intro dd oo
         go_wp2_with fail
         rw [ends_normal]
         go_wp2_with fail
         · rename_i hqt
           have hq := qcQ u j hlt (by simp only [beq_iff_eq] at hqt; exact hqt)
           refine bodyPost_ret (v := .tuple #[.agg #[.int .i64 4, .int .i64 0, .string ⟨#[u]⟩, .int .i64 0], .int .i64 0]) (by simp [results, Tryz.results70, hx, go_sem]) rfl ?_
           exact ⟨rfl, zac⟩
         · rename_i hqt
           have hq := qda u j hlt (by simp only [beq_eq_false_iff_ne, ne_eq] at hqt; exact hqt)
           go_roundw
           case rel => exact ⟨j + 1, _, _, by go_num, by omega, single_step u j hlt HF.out hq, rfl⟩
           case measure => simp [intOf] <;> omega
       · have hj14 : j = 14 := by omega
         subst hj14
         exact absurd HC.out (by rw [show singles.data.toList = singles.data.toList.take 14 from rfl, HF.out]; simp)
end Go.Proofs.YtpoeknndkccbaaaGreat
