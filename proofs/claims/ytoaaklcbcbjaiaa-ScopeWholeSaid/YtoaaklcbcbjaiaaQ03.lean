/- Lemmas for the claim (texts Lex2, Lex3, Lex4, ParP, Grow2, Par1, Par2, Par3, Par4, Par5, Par6, ParF, what its proof uses of them). -/
import Derived.Test.YtoaaklcbcbjaiaaQ02
import Derived.Deep.WholeRow
import Derived.Laws.Tables
import Derived.Laws.Rows
import Derived.Outline
import Derived.LoopTactic
import Derived.Deep.LoopGhost
import Derived.Lib.SmallJoins
import Derived.Laws.EntriesVeiled
set_option linter.unusedSimpArgs false
set_option linter.unusedVariables false
namespace Go.Proofs.Ytoaaklcbcbjaiaa
open Go.RowKit
/-- the words, as they stand in the array -/
def wordL : List ByteArray := [⟨#[97, 98, 111, 114, 116]⟩, ⟨#[97, 110, 100]⟩, ⟨#[100, 101, 108, 101, 116, 101]⟩, ⟨#[101, 108, 115, 101]⟩, ⟨#[102, 97, 108, 115, 101]⟩, ⟨#[102, 111, 114]⟩, ⟨#[103, 101, 116]⟩, ⟨#[104, 97, 115]⟩, ⟨#[105, 102]⟩, ⟨#[105, 110]⟩, ⟨#[108, 101, 110]⟩, ⟨#[108, 101, 116]⟩, ⟨#[110, 105, 108]⟩, ⟨#[110, 111, 116]⟩, ⟨#[111, 114]⟩, ⟨#[112, 117, 116]⟩, ⟨#[114, 101, 112, 101, 97, 116]⟩, ⟨#[114, 101, 116, 117, 114, 110]⟩, ⟨#[115, 99, 97, 110]⟩, ⟨#[115, 101, 116]⟩, ⟨#[115, 104, 111, 119]⟩]
def wordV : Value := .agg (wordL.map Value.string).toArray
/-- is it a word? -/
def wordB (s : ByteArray) : Bool := wordL.any (fun x => s.toList == x.toList) || s.toList == ((⟨#[116, 114, 117, 101]⟩ : ByteArray)).toList
theorem Ext.setRow {a w : World} (h : Ext a w) {g : Nat} (hg : a.heap.size ≤ g) (cs : Array Value) : Ext a (w.setRow g cs) := by
  have hb := h.below
  refine Ext.of_below ⟨hb.os, hb.tape, hb.output, ?_, fun k hk => ?_⟩
  · have := hb.size
    simp; omega
  · rw [setRow_other w g k _ (by omega)]; exact hb.block k hk
set_option maxHeartbeats 1000000 in
set_option maxRecDepth 20000 in
theorem words_any (w : World) : Calls Try.prog 123 #[] w fun e w' => e = .returned wordV ∧ Ext w w' := by
  go_enter Try.func123, Try.ntmps123
  go_wp2_with (first
    | (refine wpList_build rfl _ _ rfl (by kernel_rfl) ?_; generalize hA : (Program.built _ _ _).getD #[] = A; have hA2 : A = (wordL.map Value.string).toArray := (by rw [← hA]; kernel_rfl); clear hA; have HA := Lib.hid hA2; clear hA2)
    | (refine wpList_store_row rfl _ _ _ rfl w.heap.size _ rfl rfl 140 _ (heap_alloc_new _ _) ?h1 ?h2 ?h3 ?_))
  case h1 => rw [HA.out]; kernel_rfl
  case h2 => rw [HA.out]; rfl
  case h3 => rw [HA.out]; simp [wordL, Value.oneCell']
  have hs : A.size = 21 := by rw [HA.out]; rfl
  have hld := fun Z : Array Value => run_loadVar_row (P := Try.prog) _ w.heap.size 140 140 A (0, 0) _ (setRow_heap _ _ _ A _ _ (heap_alloc_new w (.cells Z 140))) Try.underlying140 rfl (by rw [hs]; kernel_rfl)
  have hV : wordV = .agg A := by rw [HA.out]; rfl
  rw [hV]
  refine bodyPost_ret (v := .agg A) ?_ rfl ⟨rfl, (Ext.setRow ((Ext.refl _).alloc _) (Nat.le_refl _) _)⟩
  unfold results
  rw [Try.results123]
  simp [asAddr, Act.put, hld]
theorem word_index (k : Nat) (hk : k < 21) (w : World) : (Instr.index 140 wordV (.int .i64 (k : Int))).run Try.prog w = .ok (.string (wordL.getD k ⟨#[]⟩)) w := by
  have h : k = 0 ∨ k = 1 ∨ k = 2 ∨ k = 3 ∨ k = 4 ∨ k = 5 ∨ k = 6 ∨ k = 7 ∨ k = 8 ∨ k = 9 ∨ k = 10 ∨ k = 11 ∨ k = 12 ∨ k = 13 ∨ k = 14 ∨ k = 15 ∨ k = 16 ∨ k = 17 ∨ k = 18 ∨ k = 19 ∨ k = 20 := by omega
  rcases h with rfl | rfl | rfl | rfl | rfl | rfl | rfl | rfl | rfl | rfl | rfl | rfl | rfl | rfl | rfl | rfl | rfl | rfl | rfl | rfl | rfl
  all_goals
    clear hk
    show (Instr.index _ _ _).run _ _ = _
    kernel_rfl
theorem any_snoc (s : ByteArray) (k : Nat) (hk : k < 21) : (wordL.take (k + 1)).any (fun x => s.toList == x.toList) = ((wordL.take k).any (fun x => s.toList == x.toList) || s.toList == (wordL.getD k ⟨#[]⟩).toList) := by
  have hl : k < wordL.length := hk
  have h : wordL.take (k + 1) = wordL.take k ++ [wordL.getD k ⟨#[]⟩] := by
    rw [List.take_succ_eq_append_getElem hl]
    congr 2
    simp [List.getD, List.getElem?_eq_getElem hl]
  rw [h, List.any_append]
  simp
theorem any_done (s : ByteArray) (k : Nat) (hk : k < 21) (h : s.toList == (wordL.getD k ⟨#[]⟩).toList) : wordB s = true := by
  have hl : k < wordL.length := hk
  have : wordL.any (fun x => s.toList == x.toList) = true := List.any_eq_true.2 ⟨wordL.getD k ⟨#[]⟩, by simp [List.getD, List.getElem?_eq_getElem hl], h⟩
  simp [wordB, this]
theorem any_none (s : ByteArray) (h : (wordL.take 21).any (fun x => s.toList == x.toList) = false) : wordB s = (s.toList == (⟨#[116, 114, 117, 101]⟩ : ByteArray).toList) := by
  have e : wordL.take 21 = wordL := rfl
  rw [e] at h
  simp only [wordB, h, Bool.false_or]
set_option maxHeartbeats 1000000 in
set_option maxRecDepth 20000 in
theorem word_any (s : ByteArray) (w : World) : Calls Try.prog 102 #[.string s] w fun e w' => e = .returned (.bool (wordB s)) ∧ Ext w w' := by
  obtain ⟨V, hV⟩ : ∃ V, wordV = V := ⟨_, rfl⟩
  have HW := Lib.hid words_any
  have HI := Lib.hid word_index
  rw [hV] at HW HI
  clear hV
  go_enter Try.func102, Try.ntmps102
  go_wp2_with (go_at_call 123; refine (HW.out _).mono ?_; rintro e _ ⟨rfl, d, os, rfl⟩)
  go_loop [6] (fun ii => ∃ k : Nat, ii = .int .i64 k ∧ k ≤ 21 ∧ (wordL.take k).any (fun x => s.toList == x.toList) = false) (fun ii => 21 - (intOf ii).toNat)
  case atStart => exact ⟨0, rfl, by omega, rfl⟩
  case round =>
    obtain ⟨k, rfl, hk, hn⟩ := hrel
    have HN := Lib.hid hn
    clear hn
    by_cases hlt : k < 21
    · have hi := HI.out k hlt
      have hd := Lib.hid (any_done s k hlt)
      have hs := Lib.hid (any_snoc s k hlt)
      generalize wordL.getD k ⟨#[]⟩ = x at hi hd hs
      clear HI
      cases hq : s.toList == x.toList
      · go_wp2
        go_round
        case rel =>
          refine ⟨k + 1, by go_num, by omega, ?_⟩
          rw [hs.out, HN.out, hq]; rfl
        case measure => simp [intOf]; omega
      · have hd' := Lib.hid (hd.out hq)
        go_wp2
        go_ret
        exact ⟨ret_bool hd'.out.symm, by repeat (first | exact Ext.refl _ | apply Ext.alloc | apply Ext.more)⟩
    · have hk21 : k = 21 := by omega
      subst hk21
      have hd' := Lib.hid (any_none s HN.out)
      clear HI
      go_wp2
      go_ret
      exact ⟨ret_bool (by rw [hd'.out]; first | rfl | (simp [Lib.toList_data]; done)), by repeat (first | exact Ext.refl _ | apply Ext.alloc | apply Ext.more)⟩
end Go.Proofs.Ytoaaklcbcbjaiaa

namespace Go.Proofs.Ytoaaklcbcbjaiaa
open Go.RowKit
/-- how many bytes stand ahead of the next token; true: in a remark -/
def skipL : Bool → List UInt8 → Nat
  | _, [] => 0
  | true, c :: l => if c.toNat = 10 then skipL false l + 1 else skipL true l + 1
  | false, c :: l => if c.toNat = 32 ∨ c.toNat = 9 ∨ c.toNat = 10 then skipL false l + 1 else if c.toNat = 35 then skipL true l + 1 else 0
theorem skipL_le : ∀ (q : Bool) (l : List UInt8), skipL q l ≤ l.length
  | _, [] => by simp [skipL]
  | true, c :: l => by have h1 := skipL_le false l; have h2 := skipL_le true l; simp only [skipL, List.length_cons]; split <;> omega
  | false, c :: l => by have h1 := skipL_le false l; have h2 := skipL_le true l; simp only [skipL, List.length_cons]; repeat' split
                        all_goals omega
theorem skipL_true : ∀ l : List UInt8, skipL true l = spanN noNl l + skipL false (l.drop (spanN noNl l))
  | [] => by simp [skipL, spanN]
  | c :: l => by
    have ih := skipL_true l
    by_cases h : c.toNat = 10
    · have e : noNl (c.toNat : Int) = false := by simp [noNl, h]
      rw [show spanN noNl (c :: l) = 0 from by rw [spanN, e]; rfl]
      simp [skipL, h]
    · have e : noNl (c.toNat : Int) = true := by simp [noNl]; omega
      rw [spanN, if_pos e]
      simp [skipL, h]
      omega
theorem skip_mark (l : List UInt8) (u : UInt8) (h : u.toNat = 35) : skipL false (u :: l) = spanN noNl (u :: l) + skipL false ((u :: l).drop (spanN noNl (u :: l))) := by
  have e : noNl (u.toNat : Int) = true := by simp [noNl]; omega
  have := skipL_true l
  rw [spanN, if_pos e]
  simp [skipL, h]
  omega
set_option maxHeartbeats 1000000 in
set_option maxRecDepth 20000 in
theorem blank_any (b : Nat) (s : ByteArray) (k n : Nat) (lv : Value) (w : World) (h : LexAt b s k lv w) (hk : k ≤ s.size) (hs : s.size ≤ maxLen) (hn : skipL false (s.data.toList.drop k) = n) :
    Calls Try.prog 77 #[.pointer (some ⟨b, 0, none⟩)] w fun e w' => e = .returned (.tuple #[]) ∧ LexAt b s (k + n) lv w' ∧ w.grownBy w' (some b) := by
  have hmx := hs
  unfold maxLen at hs
  have HN := Lib.hid hn
  have HL := Lib.hid h
  clear hn h
  go_enter Try.func77, Try.ntmps77
  go_wp2_with fail
  go_loopg [] (s.size - k) (fun g wr => ∃ m, k ≤ m ∧ m ≤ s.size ∧ g = s.size - m ∧ m + skipL false (s.data.toList.drop m) = k + n ∧ LexAt b s m lv wr ∧ w.grownBy wr (some b))
  case atStart => exact ⟨k, by omega, by omega, by omega, by have := HN.out; omega, HL.out, grown_refl _ _⟩
  case round =>
    obtain ⟨m, hkm, hms, hgk, hsp, hL, hg⟩ := hrel
    have HLL := Lib.hid hL
    have HG := Lib.hid hg
    have HGK := Lib.hid hgk
    obtain ⟨c0, c1, c2, f1, f2⟩ := hL.cells
    have hb := hL.lt
    clear hL hg hgk HN HL
    by_cases hlt : m < s.size
    · have hml : m < s.data.toList.length := by simpa using hlt
      have hd : s.data.toList.drop m = s[m]'hlt :: s.data.toList.drop (m + 1) := List.drop_eq_getElem_cons hml
      have h256 := (s[m]'hlt).toNat_lt
      by_cases q1 : ((s[m]'hlt).toNat : Int) = 32 ∨ ((s[m]'hlt).toNat : Int) = 9 ∨ ((s[m]'hlt).toNat : Int) = 10
      · rw [hd] at hsp
        rw [skipL, if_pos (by omega)] at hsp
        have HS := Lib.hid hsp
        clear hsp hd h256 hml
        rcases q1 with q1 | q1 | q1
        all_goals
          go_wp2_with fail
          refine wp_region_grow 9 36 [false, false, false, false, false, false, false, false, false] (by kernel_rfl) (by kernel_rfl) rfl ?_
          simp only [List.take_succ_cons, List.take_zero, List.drop_succ_cons, List.drop_zero]
          repeat (refine Lex.step rfl ?_; intro K hK; unfold StepG; go_simp; (first
              | refine hK _ ?_); clear hK K)
          refine Lex.nil fun WW hE => ?_
          obtain ⟨dd, oo, rfl⟩ := hE
          unfold FillH
          go_wp2_with fail
          rw [ends_normal]
          go_wp2_with fail
          refine wp_region_grow 8 36 [false, false, false, false, false, false, false, false] (by kernel_rfl) (by kernel_rfl) rfl ?_
          simp only [List.take_succ_cons, List.take_zero, List.drop_succ_cons, List.drop_zero]
          repeat (refine Lex.step rfl ?_; intro K hK; unfold StepG; go_simp; (first
              | refine hK _ ?_); clear hK K)
          refine Lex.nil fun WW hE => ?_
          obtain ⟨dd, oo, rfl⟩ := hE
          unfold FillH
          go_wp2_with fail
          rw [ends_normal]
          go_wp2_with fail
          go_roundg (gk - 1)
          case measure => have := HGK.out; omega
          case rel => exact ⟨m + 1, by omega, by omega, by have := HGK.out; omega, by have := HS.out; omega, ((HLL.out.set (m + 1) _ (by omega)).more _ _), grown_ext (grown_set HG.out _ _) (Ext.more (Ext.refl _) _ _)⟩
      · by_cases q2 : ((s[m]'hlt).toNat : Int) = 35
        · have hsk := skip_mark (s.data.toList.drop (m + 1)) (s[m]'hlt) (by omega)
          rw [← hd] at hsk
          obtain ⟨n1, hn1⟩ : ∃ n1, spanN noNl (s.data.toList.drop m) = n1 := ⟨_, rfl⟩
          rw [hn1, List.drop_drop] at hsk
          have hle : n1 ≤ s.size - m := by rw [← hn1]; have := spanN_le noNl (s.data.toList.drop m); simp at this; omega
          have hn0 : 1 ≤ n1 := by rw [← hn1, hd, spanN, if_pos (by simp [noNl]; omega)]; omega
          have HS := Lib.hid hsp
          have HK := Lib.hid hsk
          have HN1 := Lib.hid hn1
          clear hsp hsk hn1 hd h256 hml q1
          go_wp2_with fail
          refine wp_region_grow 9 36 [false, false, false, false, false, false, false, false, false] (by kernel_rfl) (by kernel_rfl) rfl ?_
          simp only [List.take_succ_cons, List.take_zero, List.drop_succ_cons, List.drop_zero]
          repeat (refine Lex.step rfl ?_; intro K hK; unfold StepG; go_simp; (first
              | refine hK _ ?_); clear hK K)
          refine Lex.nil fun WW hE => ?_
          obtain ⟨dd, oo, rfl⟩ := hE
          unfold FillH
          go_wp2_with fail
          rw [ends_normal]
          go_wp2_with fail
          refine wp_region_grow 8 36 [false, false, false, false, false, false, false, false] (by kernel_rfl) (by kernel_rfl) rfl ?_
          simp only [List.take_succ_cons, List.take_zero, List.drop_succ_cons, List.drop_zero]
          repeat (refine Lex.step rfl ?_; intro K hK; unfold StepG; go_simp; (first
              | refine hK _ ?_); clear hK K)
          refine Lex.nil fun WW hE => ?_
          obtain ⟨dd, oo, rfl⟩ := hE
          unfold FillH
          go_wp2_with fail
          rw [ends_normal]
          go_wp2_with (go_at_call 98; refine (while_nonl b s m n1 lv _ (HLL.out.more _ _) hms hmx HN1.out).mono ?_; rintro e w1 ⟨rfl, hL1, hg1⟩)
          go_roundg (s.size - (m + n1))
          case measure => have := HGK.out; omega
          case rel => exact ⟨m + n1, by omega, by omega, rfl, by have h1 := HS.out; have h2 := HK.out; omega, hL1, grown_trans (grown_ext HG.out (by repeat (first | exact Ext.refl _ | apply Ext.alloc | apply Ext.more))) hg1⟩
        · have p1 : (((s[m]'hlt).toNat : Int) == 32) = false := by simp; omega
          have p2 : (((s[m]'hlt).toNat : Int) == 9) = false := by simp; omega
          have p3 : (((s[m]'hlt).toNat : Int) == 10) = false := by simp; omega
          have p4 : (((s[m]'hlt).toNat : Int) == 35) = false := by simp; omega
          rw [hd, skipL, if_neg (by omega), if_neg (by omega)] at hsp
          have HMN := Lib.hid (show m = k + n by omega)
          clear hsp hd h256 hml q1 q2 HGK
          go_wp2_with fail
          refine wp_region_grow 9 36 [false, false, false, false, false, false, false, false, false] (by kernel_rfl) (by kernel_rfl) rfl ?_
          simp only [List.take_succ_cons, List.take_zero, List.drop_succ_cons, List.drop_zero]
          repeat (refine Lex.step rfl ?_; intro K hK; unfold StepG; go_simp; (first
              | refine hK _ ?_); clear hK K)
          refine Lex.nil fun WW hE => ?_
          obtain ⟨dd, oo, rfl⟩ := hE
          unfold FillH
          go_wp2_with fail
          rw [ends_normal]
          go_wp2_with fail
          refine wp_region_grow 8 36 [false, false, false, false, false, false, false, false] (by kernel_rfl) (by kernel_rfl) rfl ?_
          simp only [List.take_succ_cons, List.take_zero, List.drop_succ_cons, List.drop_zero]
          repeat (refine Lex.step rfl ?_; intro K hK; unfold StepG; go_simp; (first
              | refine hK _ ?_); clear hK K)
          refine Lex.nil fun WW hE => ?_
          obtain ⟨dd, oo, rfl⟩ := hE
          unfold FillH
          go_wp2_with fail
          rw [ends_normal]
          go_wp2_with fail
          refine bodyPost_ret (v := .tuple #[]) (by simp [results, Try.results77, go_sem]) rfl ?_
          refine ⟨rfl, ?_, ?_⟩
          · rw [← HMN.out]; exact HLL.out.more _ _
          · exact grown_ext HG.out (by repeat (first | exact Ext.refl _ | apply Ext.alloc | apply Ext.more))
    · have hme : m = s.size := by omega
      have hnil : s.data.toList.drop m = [] := by apply List.drop_eq_nil_of_le; simp; omega
      rw [hnil] at hsp
      simp only [skipL] at hsp
      have HMN := Lib.hid (show s.size = k + n by omega)
      clear hsp hnil hms HGK
      subst hme
      go_wp2_with fail
      refine wp_region_grow 9 36 [false, false, false, false, false, false, false, false, false] (by kernel_rfl) (by kernel_rfl) rfl ?_
      simp only [List.take_succ_cons, List.take_zero, List.drop_succ_cons, List.drop_zero]
      repeat (refine Lex.step rfl ?_; intro K hK; unfold StepG; go_simp; (first
          | refine hK _ ?_); clear hK K)
      refine Lex.nil fun WW hE => ?_
      obtain ⟨dd, oo, rfl⟩ := hE
      unfold FillH
      go_wp2_with fail
      rw [ends_normal]
      go_wp2_with fail
      go_end0
      refine ⟨rfl, ?_, ?_⟩
      · rw [← HMN.out]; exact HLL.out.more _ _
      · exact grown_ext HG.out (by repeat (first | exact Ext.refl _ | apply Ext.alloc | apply Ext.more))
end Go.Proofs.Ytoaaklcbcbjaiaa

namespace Go.Proofs.Ytoaaklcbcbjaiaa
open Go.RowKit
/-- a token but for its place -/
structure Tok where
  k : Int
  s : ByteArray
  i : Int
def tokV (t : Tok) (at' : Int) : Value := .agg #[.int .i64 t.k, .int .i64 at', .string t.s, .int .i64 t.i]
def tok0 : Tok := ⟨0, ⟨#[]⟩, 0⟩
def nameF (t : ByteArray) : Tok × Int := if wordB t = true then (⟨5, t, 0⟩, 0) else if 16 < t.size then (tok0, 5) else (⟨1, t, 0⟩, 0)
def numG : Int → List UInt8 → Option Int
  | v, [] => if 9223372036854775807 < v then none else some v
  | v, c :: l => if 922337203685477580 < v then none else numG (10 * v + ((c.toNat : Int) - 48)) l
theorem LexAt.alloc {b : Nat} {s : ByteArray} {k : Nat} {lv : Value} {w : World} (h : LexAt b s k lv w) (o : Obj) : LexAt b s k lv (w.alloc o) := by
  unfold LexAt; rw [Lib.alloc_old w o b h.lt]; exact h
theorem LexAt.other {b : Nat} {s : ByteArray} {k : Nat} {lv : Value} {w : World} (h : LexAt b s k lv w) {p : Addr} (hp : p.block ≠ b) (v : Value) : LexAt b s k lv (w.setCell p v) := by
  unfold LexAt
  rw [Below.heap_setCell _ _ _ _ (fun e => hp e.symm)]; exact h
/-- the lexer has gone on, no more: the world written out -/
theorem lex_form {b : Nat} {s : ByteArray} {k k' : Nat} {lv : Value} {w w' : World} (h : LexAt b s k lv w) (h' : LexAt b s k' lv w') (hg : w.grownBy w' (some b)) : Ext (w.setCell ⟨b, 1, none⟩ (.int .i64 (k' : Int))) w' := by
  obtain ⟨h1, h2, h3, h4, h5⟩ := hg
  have hsz : (w.setCell ⟨b, 1, none⟩ (.int .i64 (k' : Int))).heap.size = w.heap.size := by simp [World.setCell]
  have hS := h.set k' (k' : Int) rfl
  refine Ext.of_below ⟨h1, h2, h3, by rw [hsz]; exact h4, fun j hj => ?_⟩
  rw [hsz] at hj
  by_cases hjb : j = b
  · subst hjb
    unfold LexAt at h' hS
    rw [h', hS]
  · rw [h5 j hj (by simpa using hjb), Below.heap_setCell _ _ _ _ (fun e => hjb e)]
theorem setCell_twice (w : World) (b i : Nat) (v v' : Value) : (w.setCell ⟨b, i, none⟩ v).setCell ⟨b, i, none⟩ v' = w.setCell ⟨b, i, none⟩ v' := by
  unfold World.setCell
  congr 1
  apply Array.ext_getElem?
  intro k
  simp only [Array.getElem?_modify]
  by_cases hk : b = k
  · subst hk
    cases w.heap[b]? with
    | none => simp
    | some o => cases o <;> simp
  · simp [hk]
theorem skipped_no : Go.yielded.match_1 (fun _ => Option Bool) (some undef) (fun b => some b) (fun _ => none) = none := rfl
attribute [go_sem] setCell_twice skipped_no
theorem while_name_x (b : Nat) (s t : ByteArray) (k n : Nat) (lv : Value) (hk : k ≤ s.size) (hs : s.size ≤ maxLen) (hn : spanN nameB (s.data.toList.drop k) = n) (ht : s.extract k (k + n) = t) (w : World) (h : LexAt b s k lv w) :
    Calls Try.prog 98 #[.pointer (some ⟨b, 0, none⟩), .func (.func 101) #[] #[]] w fun e w' => e = .returned (.string t) ∧ Ext (w.setCell ⟨b, 1, none⟩ (.int .i64 ((k + n : Nat) : Int))) w' := by
  subst ht
  exact (while_name b s k n lv w h hk hs hn).mono fun e w' ⟨he, hL, hg⟩ => ⟨he, lex_form h hL hg⟩
theorem while_digit_x (b : Nat) (s t : ByteArray) (k n : Nat) (lv : Value) (hk : k ≤ s.size) (hs : s.size ≤ maxLen) (hn : spanN digitB (s.data.toList.drop k) = n) (ht : s.extract k (k + n) = t) (w : World) (h : LexAt b s k lv w) :
    Calls Try.prog 98 #[.pointer (some ⟨b, 0, none⟩), .func (.func 81) #[] #[]] w fun e w' => e = .returned (.string t) ∧ Ext (w.setCell ⟨b, 1, none⟩ (.int .i64 ((k + n : Nat) : Int))) w' := by
  subst ht
  exact (while_digit b s k n lv w h hk hs hn).mono fun e w' ⟨he, hL, hg⟩ => ⟨he, lex_form h hL hg⟩
theorem blank_x (b : Nat) (s : ByteArray) (k n : Nat) (lv : Value) (hk : k ≤ s.size) (hs : s.size ≤ maxLen) (hn : skipL false (s.data.toList.drop k) = n) (w : World) (h : LexAt b s k lv w) :
    Calls Try.prog 77 #[.pointer (some ⟨b, 0, none⟩)] w fun e w' => e = .returned (.tuple #[]) ∧ Ext (w.setCell ⟨b, 1, none⟩ (.int .i64 ((k + n : Nat) : Int))) w' :=
  (blank_any b s k n lv w h hk hs hn).mono fun e w' ⟨he, hL, hg⟩ => ⟨he, lex_form h hL hg⟩
set_option maxHeartbeats 1000000 in
set_option maxRecDepth 20000 in
theorem name_any (b : Nat) (s t : ByteArray) (k n : Nat) (lv : Value) (hk : k ≤ s.size) (hs : s.size ≤ maxLen) (hn : spanN nameB (s.data.toList.drop k) = n) (ht : s.extract k (k + n) = t) (r : Tok) (e : Int) (hr : nameF t = (r, e)) (w : World) (h : LexAt b s k lv w) :
    Calls Try.prog 80 #[.pointer (some ⟨b, 0, none⟩)] w fun e' w' => e' = .returned (.tuple #[tokV r 0, .int .i64 e]) ∧ Ext (w.setCell ⟨b, 1, none⟩ (.int .i64 ((k + n : Nat) : Int))) w' := by
  have HL := Lib.hid h
  have C := Lib.hid (while_name_x b s t k n lv hk hs hn ht)
  have W := Lib.hid (fun w => word_any t w)
  have hb := h.lt
  have hsz : t.size ≤ s.size := by rw [← ht]; simp; omega
  unfold maxLen at hs
  unfold nameF at hr
  unfold tokV tok0 at *
  clear h hn ht
  cases hq : wordB t
  · rw [hq] at W hr
    rw [if_neg (by simp)] at hr
    by_cases h16 : 16 < t.size
    · rw [if_pos h16] at hr
      simp only [Prod.mk.injEq] at hr
      obtain ⟨rfl, rfl⟩ := hr
      clear hq
      go_enter Try.func80, Try.ntmps80
      go_wp2_with (first
        | (go_at_call 98; refine (C.out _ (by repeat (first | exact HL.out | apply LexAt.alloc | apply LexAt.more | (refine LexAt.set ?_ _ _ (by first | rfl | omega))))).mono ?_; rintro e _ ⟨rfl, d, os, rfl⟩)
        | (go_at_call 102; refine (W.out _).mono ?_; rintro e _ ⟨rfl, d, os, rfl⟩))
      refine bodyPost_ret (v := .tuple #[.agg #[.int .i64 0, .int .i64 0, .string ⟨#[]⟩, .int .i64 0], .int .i64 5]) (by simp [results, Try.results80, go_sem]) rfl ?_
      exact ⟨rfl, by repeat (first | exact Ext.refl _ | apply Ext.alloc | apply Ext.more)⟩
    · rw [if_neg h16] at hr
      simp only [Prod.mk.injEq] at hr
      obtain ⟨rfl, rfl⟩ := hr
      clear hq
      go_enter Try.func80, Try.ntmps80
      go_wp2_with (first
        | (go_at_call 98; refine (C.out _ (by repeat (first | exact HL.out | apply LexAt.alloc | apply LexAt.more | (refine LexAt.set ?_ _ _ (by first | rfl | omega))))).mono ?_; rintro e _ ⟨rfl, d, os, rfl⟩)
        | (go_at_call 102; refine (W.out _).mono ?_; rintro e _ ⟨rfl, d, os, rfl⟩))
      refine bodyPost_ret (v := .tuple #[.agg #[.int .i64 1, .int .i64 0, .string t, .int .i64 0], .int .i64 0]) (by simp [results, Try.results80, go_sem]) rfl ?_
      exact ⟨rfl, by repeat (first | exact Ext.refl _ | apply Ext.alloc | apply Ext.more)⟩
  · rw [hq] at W hr
    rw [if_pos rfl] at hr
    simp only [Prod.mk.injEq] at hr
    obtain ⟨rfl, rfl⟩ := hr
    clear hq
    go_enter Try.func80, Try.ntmps80
    go_wp2_with (first
      | (go_at_call 98; refine (C.out _ (by repeat (first | exact HL.out | apply LexAt.alloc | apply LexAt.more | (refine LexAt.set ?_ _ _ (by first | rfl | omega))))).mono ?_; rintro e _ ⟨rfl, d, os, rfl⟩)
      | (go_at_call 102; refine (W.out _).mono ?_; rintro e _ ⟨rfl, d, os, rfl⟩))
    refine bodyPost_ret (v := .tuple #[.agg #[.int .i64 5, .int .i64 0, .string t, .int .i64 0], .int .i64 0]) (by simp [results, Try.results80, go_sem]) rfl ?_
    exact ⟨rfl, by repeat (first | exact Ext.refl _ | apply Ext.alloc | apply Ext.more)⟩
theorem span_all (p : Int → Bool) : ∀ (l : List UInt8) (j : Nat) (u : UInt8), (l.take (spanN p l))[j]? = some u → p (u.toNat : Int) = true
  | [], j, u, h => by simp [spanN] at h
  | c :: l, j, u, h => by
    by_cases hc : p (c.toNat : Int) = true
    · rw [spanN, if_pos hc] at h
      cases j with
      | zero => simp at h; subst h; exact hc
      | succ j => exact span_all p l j u (by simpa using h)
    · rw [spanN, if_neg hc] at h
      simp at h
def numE : Option Int → Tok × Int
  | none => (tok0, 8)
  | some v => (⟨2, ⟨#[]⟩, v⟩, 0)
def numF (t : ByteArray) : Tok × Int := numE (numG 0 t.data.toList)
set_option maxHeartbeats 2000000 in
set_option maxRecDepth 20000 in
theorem number_ok (b : Nat) (s t : ByteArray) (k n : Nat) (lv : Value) (hk : k ≤ s.size) (hs : s.size ≤ maxLen) (hkn : k + n ≤ s.size) (hn : spanN digitB (s.data.toList.drop k) = n) (ht : s.extract k (k + n) = t) (htn : t.size = n)
    (hA : n ≤ 1 ∨ (1 < n ∧ ∃ h : 0 < t.size, ¬ ((t[0]'h).toNat : Int) = 48)) (hB : k + n = s.size ∨ ∃ h : k + n < s.size, letterB ((s[k + n]'h).toNat : Int) = false)
    (hd : ∀ (j : Nat) (h : j < t.size), 48 ≤ ((t[j]'h).toNat : Int) ∧ ((t[j]'h).toNat : Int) ≤ 57) (r : Tok) (e : Int) (hr : numF t = (r, e)) (w : World) (h : LexAt b s k lv w) :
    Calls Try.prog 82 #[.pointer (some ⟨b, 0, none⟩)] w fun e' w' => e' = .returned (.tuple #[tokV r 0, .int .i64 e]) ∧ Ext (w.setCell ⟨b, 1, none⟩ (.int .i64 ((k + n : Nat) : Int))) w' := by
  have HL := Lib.hid h
  have C := Lib.hid (while_digit_x b s t k n lv hk hs hn ht)
  have hb := h.lt
  obtain ⟨c0, c1, c2, f1, f2⟩ := h.cells
  unfold maxLen at hs
  have HR := Lib.hid hr
  have HTN := Lib.hid htn
  have HD := Lib.hid hd
  unfold tokV
  clear h hn ht hr hd
  obtain ⟨R, hR⟩ : ∃ R, numG 0 t.data.toList = R := ⟨_, rfl⟩
  have HR2 := Lib.hid (show numE R = (r, e) from by rw [← hR]; exact HR.out)
  have HRR := Lib.hid hR
  clear HR hR
  have hts : t.size ≤ 9223372036854775807 := by omega
  rcases hA with hA | ⟨hA, hA0, hA1⟩
  · have hA2 : (1 < (t.size : Int)) = False := by simp; omega
    clear hA htn
    rcases hB with hB | ⟨hB, hB2⟩
    · have hB3 : ((k : Int) + n < s.size) = False := by simp; omega
      clear hB
      go_enter Try.func82, Try.ntmps82
      go_wp2_with (go_at_call 98; refine (C.out _ (by repeat (first | exact HL.out | apply LexAt.alloc | apply LexAt.more | (refine LexAt.set ?_ _ _ (by first | rfl | omega))))).mono ?_; rintro e _ ⟨rfl, d, os, rfl⟩)
      refine wp_region_grow 28 65 [false, false, false, false, false, false, false, false, false, false, false, false, false, false, false, false, false, false, false, false, false, false, false, false, false, false, false, false] (by kernel_rfl) (by kernel_rfl) rfl ?_
      simp only [List.take_succ_cons, List.take_zero, List.drop_succ_cons, List.drop_zero]
      repeat (refine Lex.step rfl ?_; intro K hK; unfold StepG; go_simp; (first
          | refine hK _ ?_); clear hK K)
      refine Lex.nil fun WW hE => ?_
      obtain ⟨dd, oo, rfl⟩ := hE
      unfold FillH
      go_wp2_with fail
      rw [ends_normal]
      go_wp2_with fail
      go_loop [5, 44] (fun vv ii => ∃ (i : Nat) (V : Int), i ≤ t.size ∧ ii = .int .i64 i ∧ vv = .int .u64 V ∧ 0 ≤ V ∧ V ≤ 9223372036854775809 ∧ numG V (t.data.toList.drop i) = R) (fun _ ii => t.size - (intOf ii).toNat)
      case atStart => exact ⟨0, 0, by omega, rfl, rfl, by omega, by omega, HRR.out⟩
      case round =>
        obtain ⟨i, V, hi, rfl, rfl, hV0, hV1, hG⟩ := hrel
        clear HRR
        by_cases hlt : i < t.size
        · have hml : i < t.data.toList.length := by simpa using hlt
          have hdd : t.data.toList.drop i = t[i]'hlt :: t.data.toList.drop (i + 1) := List.drop_eq_getElem_cons hml
          rw [hdd] at hG
          unfold numG at hG
          obtain ⟨hd1, hd2⟩ := HD.out i hlt
          clear hdd hml
          by_cases hbig : 922337203685477580 < V
          · rw [if_pos hbig] at hG
            subst hG
            have h := HR2.out
            simp only [numE, Prod.mk.injEq, tok0] at h
            obtain ⟨rfl, rfl⟩ := h
            clear HR2
            go_wp2
            refine bodyPost_ret (v := .tuple #[.agg #[.int .i64 0, .int .i64 0, .string ⟨#[]⟩, .int .i64 0], .int .i64 8]) (by simp [results, Try.results82, go_sem]) rfl ?_
            exact ⟨rfl, by repeat (first | exact Ext.refl _ | apply Ext.alloc | apply Ext.more)⟩
          · rw [if_neg hbig] at hG
            have HGG := Lib.hid hG
            have hz1 : 10 * V + (((t[i]'hlt).toNat : Int) - 48) ≤ 9223372036854775809 := by omega
            have hz0 : 0 ≤ 10 * V + (((t[i]'hlt).toNat : Int) - 48) := by omega
            clear hG
            go_wp2
            go_round
            case rel => exact ⟨i + 1, 10 * V + (((t[i]'hlt).toNat : Int) - 48), by omega, by go_num, by first | rfl | go_num, by omega, by omega, HGG.out⟩
            case measure => simp [intOf] <;> omega
        · have hie : i = t.size := by omega
          have hnil : t.data.toList.drop i = [] := by apply List.drop_eq_nil_of_le; simp; omega
          rw [hnil] at hG
          unfold numG at hG
          clear hnil
          by_cases hbig : 9223372036854775807 < V
          · rw [if_pos hbig] at hG
            subst hG
            have h := HR2.out
            simp only [numE, Prod.mk.injEq, tok0] at h
            obtain ⟨rfl, rfl⟩ := h
            clear HR2
            subst hie
            go_wp2
            refine bodyPost_ret (v := .tuple #[.agg #[.int .i64 0, .int .i64 0, .string ⟨#[]⟩, .int .i64 0], .int .i64 8]) (by simp [results, Try.results82, go_sem]) rfl ?_
            exact ⟨rfl, by repeat (first | exact Ext.refl _ | apply Ext.alloc | apply Ext.more)⟩
          · rw [if_neg hbig] at hG
            subst hG
            have h := HR2.out
            simp only [numE, Prod.mk.injEq] at h
            obtain ⟨rfl, rfl⟩ := h
            clear HR2
            subst hie
            go_wp2
            refine bodyPost_ret (v := .tuple #[.agg #[.int .i64 2, .int .i64 0, .string ⟨#[]⟩, .int .i64 V], .int .i64 0]) (by simp [results, Try.results82, go_sem]) rfl ?_
            exact ⟨rfl, by repeat (first | exact Ext.refl _ | apply Ext.alloc | apply Ext.more)⟩
    · have hB3 : ((k : Int) + n < s.size) = True := by simp; omega
      have h256 := (s[k + n]'hB).toNat_lt
      have le := letter_any ((s[k + n]'hB).toNat : Int) (by omega) (by omega)
      rw [hB2] at le
      have LE := Lib.hid le
      clear le h256 hB2
      go_enter Try.func82, Try.ntmps82
      go_wp2_with (go_at_call 98; refine (C.out _ (by repeat (first | exact HL.out | apply LexAt.alloc | apply LexAt.more | (refine LexAt.set ?_ _ _ (by first | rfl | omega))))).mono ?_; rintro e _ ⟨rfl, d, os, rfl⟩)
      refine wp_region_grow 28 65 [false, false, false, false, false, false, false, false, false, false, false, false, false, false, false, false, false, false, false, false, false, false, false, false, false, false, false, false] (by kernel_rfl) (by kernel_rfl) rfl ?_
      simp only [List.take_succ_cons, List.take_zero, List.drop_succ_cons, List.drop_zero]
      repeat (refine Lex.step rfl ?_; intro K hK; unfold StepG; go_simp; (first
          | refine hK _ ?_); clear hK K)
      refine Lex.nil fun WW hE => ?_
      obtain ⟨dd, oo, rfl⟩ := hE
      unfold FillH
      go_wp2_with (go_at_call 79; refine (LE.out _).mono ?_; rintro e _ ⟨rfl, rfl⟩)
      rw [ends_normal]
      go_wp2_with fail
      go_loop [5, 44] (fun vv ii => ∃ (i : Nat) (V : Int), i ≤ t.size ∧ ii = .int .i64 i ∧ vv = .int .u64 V ∧ 0 ≤ V ∧ V ≤ 9223372036854775809 ∧ numG V (t.data.toList.drop i) = R) (fun _ ii => t.size - (intOf ii).toNat)
      case atStart => exact ⟨0, 0, by omega, rfl, rfl, by omega, by omega, HRR.out⟩
      case round =>
        obtain ⟨i, V, hi, rfl, rfl, hV0, hV1, hG⟩ := hrel
        clear HRR
        by_cases hlt : i < t.size
        · have hml : i < t.data.toList.length := by simpa using hlt
          have hdd : t.data.toList.drop i = t[i]'hlt :: t.data.toList.drop (i + 1) := List.drop_eq_getElem_cons hml
          rw [hdd] at hG
          unfold numG at hG
          obtain ⟨hd1, hd2⟩ := HD.out i hlt
          clear hdd hml
          by_cases hbig : 922337203685477580 < V
          · rw [if_pos hbig] at hG
            subst hG
            have h := HR2.out
            simp only [numE, Prod.mk.injEq, tok0] at h
            obtain ⟨rfl, rfl⟩ := h
            clear HR2
            go_wp2
            refine bodyPost_ret (v := .tuple #[.agg #[.int .i64 0, .int .i64 0, .string ⟨#[]⟩, .int .i64 0], .int .i64 8]) (by simp [results, Try.results82, go_sem]) rfl ?_
            exact ⟨rfl, by repeat (first | exact Ext.refl _ | apply Ext.alloc | apply Ext.more)⟩
          · rw [if_neg hbig] at hG
            have HGG := Lib.hid hG
            have hz1 : 10 * V + (((t[i]'hlt).toNat : Int) - 48) ≤ 9223372036854775809 := by omega
            have hz0 : 0 ≤ 10 * V + (((t[i]'hlt).toNat : Int) - 48) := by omega
            clear hG
            go_wp2
            go_round
            case rel => exact ⟨i + 1, 10 * V + (((t[i]'hlt).toNat : Int) - 48), by omega, by go_num, by first | rfl | go_num, by omega, by omega, HGG.out⟩
            case measure => simp [intOf] <;> omega
        · have hie : i = t.size := by omega
          have hnil : t.data.toList.drop i = [] := by apply List.drop_eq_nil_of_le; simp; omega
          rw [hnil] at hG
          unfold numG at hG
          clear hnil
          by_cases hbig : 9223372036854775807 < V
          · rw [if_pos hbig] at hG
            subst hG
            have h := HR2.out
            simp only [numE, Prod.mk.injEq, tok0] at h
            obtain ⟨rfl, rfl⟩ := h
            clear HR2
            subst hie
            go_wp2
            refine bodyPost_ret (v := .tuple #[.agg #[.int .i64 0, .int .i64 0, .string ⟨#[]⟩, .int .i64 0], .int .i64 8]) (by simp [results, Try.results82, go_sem]) rfl ?_
            exact ⟨rfl, by repeat (first | exact Ext.refl _ | apply Ext.alloc | apply Ext.more)⟩
          · rw [if_neg hbig] at hG
            subst hG
            have h := HR2.out
            simp only [numE, Prod.mk.injEq] at h
            obtain ⟨rfl, rfl⟩ := h
            clear HR2
            subst hie
            go_wp2
            refine bodyPost_ret (v := .tuple #[.agg #[.int .i64 2, .int .i64 0, .string ⟨#[]⟩, .int .i64 V], .int .i64 0]) (by simp [results, Try.results82, go_sem]) rfl ?_
            exact ⟨rfl, by repeat (first | exact Ext.refl _ | apply Ext.alloc | apply Ext.more)⟩
  · have hA2 : (1 < (t.size : Int)) = True := by simp; omega
    have hA3 : (((t[0]'hA0).toNat : Int) == 48) = false := by simpa using hA1
    clear hA htn hA1
    rcases hB with hB | ⟨hB, hB2⟩
    · have hB3 : ((k : Int) + n < s.size) = False := by simp; omega
      clear hB
      go_enter Try.func82, Try.ntmps82
      go_wp2_with (go_at_call 98; refine (C.out _ (by repeat (first | exact HL.out | apply LexAt.alloc | apply LexAt.more | (refine LexAt.set ?_ _ _ (by first | rfl | omega))))).mono ?_; rintro e _ ⟨rfl, d, os, rfl⟩)
      refine wp_region_grow 28 65 [false, false, false, false, false, false, false, false, false, false, false, false, false, false, false, false, false, false, false, false, false, false, false, false, false, false, false, false] (by kernel_rfl) (by kernel_rfl) rfl ?_
      simp only [List.take_succ_cons, List.take_zero, List.drop_succ_cons, List.drop_zero]
      repeat (refine Lex.step rfl ?_; intro K hK; unfold StepG; go_simp; (first
          | refine hK _ ?_); clear hK K)
      refine Lex.nil fun WW hE => ?_
      obtain ⟨dd, oo, rfl⟩ := hE
      unfold FillH
      go_wp2_with fail
      rw [ends_normal]
      go_wp2_with fail
      go_loop [5, 44] (fun vv ii => ∃ (i : Nat) (V : Int), i ≤ t.size ∧ ii = .int .i64 i ∧ vv = .int .u64 V ∧ 0 ≤ V ∧ V ≤ 9223372036854775809 ∧ numG V (t.data.toList.drop i) = R) (fun _ ii => t.size - (intOf ii).toNat)
      case atStart => exact ⟨0, 0, by omega, rfl, rfl, by omega, by omega, HRR.out⟩
      case round =>
        obtain ⟨i, V, hi, rfl, rfl, hV0, hV1, hG⟩ := hrel
        clear HRR
        by_cases hlt : i < t.size
        · have hml : i < t.data.toList.length := by simpa using hlt
          have hdd : t.data.toList.drop i = t[i]'hlt :: t.data.toList.drop (i + 1) := List.drop_eq_getElem_cons hml
          rw [hdd] at hG
          unfold numG at hG
          obtain ⟨hd1, hd2⟩ := HD.out i hlt
          clear hdd hml
          by_cases hbig : 922337203685477580 < V
          · rw [if_pos hbig] at hG
            subst hG
            have h := HR2.out
            simp only [numE, Prod.mk.injEq, tok0] at h
            obtain ⟨rfl, rfl⟩ := h
            clear HR2
            go_wp2
            refine bodyPost_ret (v := .tuple #[.agg #[.int .i64 0, .int .i64 0, .string ⟨#[]⟩, .int .i64 0], .int .i64 8]) (by simp [results, Try.results82, go_sem]) rfl ?_
            exact ⟨rfl, by repeat (first | exact Ext.refl _ | apply Ext.alloc | apply Ext.more)⟩
          · rw [if_neg hbig] at hG
            have HGG := Lib.hid hG
            have hz1 : 10 * V + (((t[i]'hlt).toNat : Int) - 48) ≤ 9223372036854775809 := by omega
            have hz0 : 0 ≤ 10 * V + (((t[i]'hlt).toNat : Int) - 48) := by omega
            clear hG
            go_wp2
            go_round
            case rel => exact ⟨i + 1, 10 * V + (((t[i]'hlt).toNat : Int) - 48), by omega, by go_num, by first | rfl | go_num, by omega, by omega, HGG.out⟩
            case measure => simp [intOf] <;> omega
        · have hie : i = t.size := by omega
          have hnil : t.data.toList.drop i = [] := by apply List.drop_eq_nil_of_le; simp; omega
          rw [hnil] at hG
          unfold numG at hG
          clear hnil
          by_cases hbig : 9223372036854775807 < V
          · rw [if_pos hbig] at hG
            subst hG
            have h := HR2.out
            simp only [numE, Prod.mk.injEq, tok0] at h
            obtain ⟨rfl, rfl⟩ := h
            clear HR2
            subst hie
            go_wp2
            refine bodyPost_ret (v := .tuple #[.agg #[.int .i64 0, .int .i64 0, .string ⟨#[]⟩, .int .i64 0], .int .i64 8]) (by simp [results, Try.results82, go_sem]) rfl ?_
            exact ⟨rfl, by repeat (first | exact Ext.refl _ | apply Ext.alloc | apply Ext.more)⟩
          · rw [if_neg hbig] at hG
            subst hG
            have h := HR2.out
            simp only [numE, Prod.mk.injEq] at h
            obtain ⟨rfl, rfl⟩ := h
            clear HR2
            subst hie
            go_wp2
            refine bodyPost_ret (v := .tuple #[.agg #[.int .i64 2, .int .i64 0, .string ⟨#[]⟩, .int .i64 V], .int .i64 0]) (by simp [results, Try.results82, go_sem]) rfl ?_
            exact ⟨rfl, by repeat (first | exact Ext.refl _ | apply Ext.alloc | apply Ext.more)⟩
    · have hB3 : ((k : Int) + n < s.size) = True := by simp; omega
      have h256 := (s[k + n]'hB).toNat_lt
      have le := letter_any ((s[k + n]'hB).toNat : Int) (by omega) (by omega)
      rw [hB2] at le
      have LE := Lib.hid le
      clear le h256 hB2
      go_enter Try.func82, Try.ntmps82
      go_wp2_with (go_at_call 98; refine (C.out _ (by repeat (first | exact HL.out | apply LexAt.alloc | apply LexAt.more | (refine LexAt.set ?_ _ _ (by first | rfl | omega))))).mono ?_; rintro e _ ⟨rfl, d, os, rfl⟩)
      refine wp_region_grow 28 65 [false, false, false, false, false, false, false, false, false, false, false, false, false, false, false, false, false, false, false, false, false, false, false, false, false, false, false, false] (by kernel_rfl) (by kernel_rfl) rfl ?_
      simp only [List.take_succ_cons, List.take_zero, List.drop_succ_cons, List.drop_zero]
      repeat (refine Lex.step rfl ?_; intro K hK; unfold StepG; go_simp; (first
          | refine hK _ ?_); clear hK K)
      refine Lex.nil fun WW hE => ?_
      obtain ⟨dd, oo, rfl⟩ := hE
      unfold FillH
      go_wp2_with (go_at_call 79; refine (LE.out _).mono ?_; rintro e _ ⟨rfl, rfl⟩)
      rw [ends_normal]
      go_wp2_with fail
      go_loop [5, 44] (fun vv ii => ∃ (i : Nat) (V : Int), i ≤ t.size ∧ ii = .int .i64 i ∧ vv = .int .u64 V ∧ 0 ≤ V ∧ V ≤ 9223372036854775809 ∧ numG V (t.data.toList.drop i) = R) (fun _ ii => t.size - (intOf ii).toNat)
      case atStart => exact ⟨0, 0, by omega, rfl, rfl, by omega, by omega, HRR.out⟩
      case round =>
        obtain ⟨i, V, hi, rfl, rfl, hV0, hV1, hG⟩ := hrel
        clear HRR
        by_cases hlt : i < t.size
        · have hml : i < t.data.toList.length := by simpa using hlt
          have hdd : t.data.toList.drop i = t[i]'hlt :: t.data.toList.drop (i + 1) := List.drop_eq_getElem_cons hml
          rw [hdd] at hG
          unfold numG at hG
          obtain ⟨hd1, hd2⟩ := HD.out i hlt
          clear hdd hml
          by_cases hbig : 922337203685477580 < V
          · rw [if_pos hbig] at hG
            subst hG
            have h := HR2.out
            simp only [numE, Prod.mk.injEq, tok0] at h
            obtain ⟨rfl, rfl⟩ := h
            clear HR2
            go_wp2
            refine bodyPost_ret (v := .tuple #[.agg #[.int .i64 0, .int .i64 0, .string ⟨#[]⟩, .int .i64 0], .int .i64 8]) (by simp [results, Try.results82, go_sem]) rfl ?_
            exact ⟨rfl, by repeat (first | exact Ext.refl _ | apply Ext.alloc | apply Ext.more)⟩
          · rw [if_neg hbig] at hG
            have HGG := Lib.hid hG
            have hz1 : 10 * V + (((t[i]'hlt).toNat : Int) - 48) ≤ 9223372036854775809 := by omega
            have hz0 : 0 ≤ 10 * V + (((t[i]'hlt).toNat : Int) - 48) := by omega
            clear hG
            go_wp2
            go_round
            case rel => exact ⟨i + 1, 10 * V + (((t[i]'hlt).toNat : Int) - 48), by omega, by go_num, by first | rfl | go_num, by omega, by omega, HGG.out⟩
            case measure => simp [intOf] <;> omega
        · have hie : i = t.size := by omega
          have hnil : t.data.toList.drop i = [] := by apply List.drop_eq_nil_of_le; simp; omega
          rw [hnil] at hG
          unfold numG at hG
          clear hnil
          by_cases hbig : 9223372036854775807 < V
          · rw [if_pos hbig] at hG
            subst hG
            have h := HR2.out
            simp only [numE, Prod.mk.injEq, tok0] at h
            obtain ⟨rfl, rfl⟩ := h
            clear HR2
            subst hie
            go_wp2
            refine bodyPost_ret (v := .tuple #[.agg #[.int .i64 0, .int .i64 0, .string ⟨#[]⟩, .int .i64 0], .int .i64 8]) (by simp [results, Try.results82, go_sem]) rfl ?_
            exact ⟨rfl, by repeat (first | exact Ext.refl _ | apply Ext.alloc | apply Ext.more)⟩
          · rw [if_neg hbig] at hG
            subst hG
            have h := HR2.out
            simp only [numE, Prod.mk.injEq] at h
            obtain ⟨rfl, rfl⟩ := h
            clear HR2
            subst hie
            go_wp2
            refine bodyPost_ret (v := .tuple #[.agg #[.int .i64 2, .int .i64 0, .string ⟨#[]⟩, .int .i64 V], .int .i64 0]) (by simp [results, Try.results82, go_sem]) rfl ?_
            exact ⟨rfl, by repeat (first | exact Ext.refl _ | apply Ext.alloc | apply Ext.more)⟩
set_option maxHeartbeats 2000000 in
set_option maxRecDepth 20000 in
theorem number_err (b : Nat) (s t : ByteArray) (k n : Nat) (lv : Value) (hk : k ≤ s.size) (hs : s.size ≤ maxLen) (hkn : k + n ≤ s.size) (hn : spanN digitB (s.data.toList.drop k) = n) (ht : s.extract k (k + n) = t) (htn : t.size = n)
    (hA : (1 < n ∧ ∃ h : 0 < t.size, ((t[0]'h).toNat : Int) = 48) ∨ ((n ≤ 1 ∨ (1 < n ∧ ∃ h : 0 < t.size, ¬ ((t[0]'h).toNat : Int) = 48)) ∧ ∃ h : k + n < s.size, letterB ((s[k + n]'h).toNat : Int) = true))
    (w : World) (h : LexAt b s k lv w) :
    Calls Try.prog 82 #[.pointer (some ⟨b, 0, none⟩)] w fun e' w' => e' = .returned (.tuple #[tokV tok0 0, .int .i64 3]) ∧ Ext (w.setCell ⟨b, 1, none⟩ (.int .i64 ((k + n : Nat) : Int))) w' := by
  have HL := Lib.hid h
  have C := Lib.hid (while_digit_x b s t k n lv hk hs hn ht)
  have hb := h.lt
  obtain ⟨c0, c1, c2, f1, f2⟩ := h.cells
  unfold maxLen at hs
  have HTN := Lib.hid htn
  unfold tokV tok0
  clear h hn ht
  have hts : t.size ≤ 9223372036854775807 := by omega
  rcases hA with ⟨hA, hA0, hA1⟩ | ⟨hA, hB, hB2⟩
  · have hA2 : (1 < (t.size : Int)) = True := by simp; omega
    have hA3 : (((t[0]'hA0).toNat : Int) == 48) = true := by simpa using hA1
    clear hA htn hA1
    go_enter Try.func82, Try.ntmps82
    go_wp2_with (go_at_call 98; refine (C.out _ (by repeat (first | exact HL.out | apply LexAt.alloc | apply LexAt.more | (refine LexAt.set ?_ _ _ (by first | rfl | omega))))).mono ?_; rintro e _ ⟨rfl, d, os, rfl⟩)
    refine wp_region_grow 28 65 [false, false, false, false, false, false, false, false, false, false, false, false, false, false, false, false, false, false, false, false, false, false, false, false, false, false, false, false] (by kernel_rfl) (by kernel_rfl) rfl ?_
    simp only [List.take_succ_cons, List.take_zero, List.drop_succ_cons, List.drop_zero]
    repeat (refine Lex.step rfl ?_; intro K hK; unfold StepG; go_simp; (first
        | refine hK _ ?_); clear hK K)
    refine Lex.nil fun WW hE => ?_
    obtain ⟨dd, oo, rfl⟩ := hE
    unfold FillH
    go_wp2_with fail
    rw [ends_normal]
    go_wp2_with fail
    refine bodyPost_ret (v := .tuple #[.agg #[.int .i64 0, .int .i64 0, .string ⟨#[]⟩, .int .i64 0], .int .i64 3]) (by simp [results, Try.results82, go_sem]) rfl ?_
    exact ⟨rfl, by repeat (first | exact Ext.refl _ | apply Ext.alloc | apply Ext.more)⟩
  · have hB3 : ((k : Int) + n < s.size) = True := by simp; omega
    have h256 := (s[k + n]'hB).toNat_lt
    have le := letter_any ((s[k + n]'hB).toNat : Int) (by omega) (by omega)
    rw [hB2] at le
    have LE := Lib.hid le
    clear le h256 hB2
    rcases hA with hA | ⟨hA, hA0, hA1⟩
    · have hA2 : (1 < (t.size : Int)) = False := by simp; omega
      clear hA htn
      go_enter Try.func82, Try.ntmps82
      go_wp2_with (go_at_call 98; refine (C.out _ (by repeat (first | exact HL.out | apply LexAt.alloc | apply LexAt.more | (refine LexAt.set ?_ _ _ (by first | rfl | omega))))).mono ?_; rintro e _ ⟨rfl, d, os, rfl⟩)
      refine wp_region_grow 28 65 [false, false, false, false, false, false, false, false, false, false, false, false, false, false, false, false, false, false, false, false, false, false, false, false, false, false, false, false] (by kernel_rfl) (by kernel_rfl) rfl ?_
      simp only [List.take_succ_cons, List.take_zero, List.drop_succ_cons, List.drop_zero]
      repeat (refine Lex.step rfl ?_; intro K hK; unfold StepG; go_simp; (first
          | refine hK _ ?_); clear hK K)
      refine Lex.nil fun WW hE => ?_
      obtain ⟨dd, oo, rfl⟩ := hE
      unfold FillH
      go_wp2_with (go_at_call 79; refine (LE.out _).mono ?_; rintro e _ ⟨rfl, rfl⟩)
      rw [ends_normal]
      go_wp2_with fail
      refine bodyPost_ret (v := .tuple #[.agg #[.int .i64 0, .int .i64 0, .string ⟨#[]⟩, .int .i64 0], .int .i64 3]) (by simp [results, Try.results82, go_sem]) rfl ?_
      exact ⟨rfl, by repeat (first | exact Ext.refl _ | apply Ext.alloc | apply Ext.more)⟩
    · have hA2 : (1 < (t.size : Int)) = True := by simp; omega
      have hA3 : (((t[0]'hA0).toNat : Int) == 48) = false := by simpa using hA1
      clear hA htn hA1
      go_enter Try.func82, Try.ntmps82
      go_wp2_with (go_at_call 98; refine (C.out _ (by repeat (first | exact HL.out | apply LexAt.alloc | apply LexAt.more | (refine LexAt.set ?_ _ _ (by first | rfl | omega))))).mono ?_; rintro e _ ⟨rfl, d, os, rfl⟩)
      refine wp_region_grow 28 65 [false, false, false, false, false, false, false, false, false, false, false, false, false, false, false, false, false, false, false, false, false, false, false, false, false, false, false, false] (by kernel_rfl) (by kernel_rfl) rfl ?_
      simp only [List.take_succ_cons, List.take_zero, List.drop_succ_cons, List.drop_zero]
      repeat (refine Lex.step rfl ?_; intro K hK; unfold StepG; go_simp; (first
          | refine hK _ ?_); clear hK K)
      refine Lex.nil fun WW hE => ?_
      obtain ⟨dd, oo, rfl⟩ := hE
      unfold FillH
      go_wp2_with (go_at_call 79; refine (LE.out _).mono ?_; rintro e _ ⟨rfl, rfl⟩)
      rw [ends_normal]
      go_wp2_with fail
      refine bodyPost_ret (v := .tuple #[.agg #[.int .i64 0, .int .i64 0, .string ⟨#[]⟩, .int .i64 0], .int .i64 3]) (by simp [results, Try.results82, go_sem]) rfl ?_
      exact ⟨rfl, by repeat (first | exact Ext.refl _ | apply Ext.alloc | apply Ext.more)⟩
end Go.Proofs.Ytoaaklcbcbjaiaa

namespace Go.Proofs.Ytoaaklcbcbjaiaa
open Go.RowKit
/-- a node -/
structure Nd where
  k : Int
  a : Int
  b : Int
  c : Int
  x : Int
  i : Int
  s : ByteArray
  t : ByteArray
def nd (k : Int) : Nd := ⟨k, -1, -1, -1, -1, 0, ⟨#[]⟩, ⟨#[]⟩⟩
def ndL (z : Nd) : List Value := [.int .i64 z.k, .int .i64 z.a, .int .i64 z.b, .int .i64 z.c, .int .i64 z.x, .int .i64 z.i, .string z.s, .string z.t]
def ndCells (l : List Nd) : List Value := l.flatMap ndL
theorem ndCells_append (l m : List Nd) : ndCells (l ++ m) = ndCells l ++ ndCells m := by simp [ndCells]
/-- tokens with their places -/
abbrev Toks := List (Tok × Int)
def tkL (t : Tok × Int) : List Value := [.int .i64 t.1.k, .int .i64 t.2, .string t.1.s, .int .i64 t.1.i]
def tkCells (l : Toks) : List Value := l.flatMap tkL
def tk (L : Toks) (m : Nat) : Tok × Int := L.getD m (tok0, 0)
theorem tkCells_get : ∀ (l : Toks) (j : Nat), j < l.length →
    (tkCells l)[j * 4]? = some (.int .i64 (tk l j).1.k) ∧ (tkCells l)[j * 4 + 1]? = some (.int .i64 (tk l j).2) ∧ (tkCells l)[j * 4 + 2]? = some (.string (tk l j).1.s) ∧ (tkCells l)[j * 4 + 3]? = some (.int .i64 (tk l j).1.i)
  | [], j, h => by simp at h
  | t :: l, 0, _ => ⟨rfl, rfl, rfl, rfl⟩
  | t :: l, j + 1, h => by
    have := tkCells_get l j (by simpa using h)
    have e : ∀ r, (tkCells (t :: l))[(j + 1) * 4 + r]? = (tkCells l)[j * 4 + r]? := by
      intro r
      have h1 : tkCells (t :: l) = tkL t ++ tkCells l := rfl
      rw [h1, List.getElem?_append_right (by simp [tkL]; omega)]
      congr 1
      simp [tkL]; omega
    have e2 : tk (t :: l) (j + 1) = tk l j := rfl
    rw [e2, e 1, e 2, e 3, ← Nat.add_zero ((j + 1) * 4), e 0]
    simpa using this
/-- what a way through tokens comes to: the error and its place, or a value, how far is read, and the nodes that are new -/
abbrev PR (α : Type) := Except (Int × Int) (α × Nat × List Nd)
/-- a way through tokens: from a place on, behind so many nodes -/
abbrev PM (α : Type) := Nat → Nat → PR α
def prep {α : Type} (ns : List Nd) : PR α → PR α
  | .error e => .error e
  | .ok (v, m, ns') => .ok (v, m, ns ++ ns')
def pok {α : Type} (v : α) : PM α := fun m _ => .ok (v, m, [])
def pbind {α β : Type} (p : PM α) (f : α → PM β) : PM β := fun m n => match p m n with
  | .error e => .error e
  | .ok (v, m1, ns) => prep ns (f v m1 (n + ns.length))
theorem pbind_err {α β : Type} {p : PM α} {f : α → PM β} {m n : Nat} {e : Int × Int} (h : p m n = .error e) : pbind p f m n = .error e := by
  unfold pbind; rw [h]
theorem pbind_ok {α β : Type} {p : PM α} {f : α → PM β} {m n : Nat} {v : α} {m1 : Nat} {ns : List Nd} (h : p m n = .ok (v, m1, ns)) : pbind p f m n = prep ns (f v m1 (n + ns.length)) := by
  unfold pbind; rw [h]
theorem prep_nil {α : Type} (r : PR α) : prep [] r = r := by
  cases r with
  | error e => rfl
  | ok v => obtain ⟨v, m, ns⟩ := v; rfl
theorem prep_prep {α : Type} (a b : List Nd) (r : PR α) : prep a (prep b r) = prep (a ++ b) r := by
  cases r with
  | error e => rfl
  | ok v => obtain ⟨v, m, ns⟩ := v; simp [prep]
section
variable (L : Toks)
def pno {α : Type} (e : Int) : PM α := fun m _ => .error (e, (tk L m).2)
/-- does a sign or a word stand there? -/
def isP (s : ByteArray) (m : Nat) : Bool := (tk L m).1.k == (if wordB s = true then 5 else 4) && ((tk L m).1.s).toList == s.toList
def takesP (s : ByteArray) : PM Bool := fun m _ => if isP L s m = true then .ok (true, m + 1, []) else .ok (false, m, [])
def must1 (s : ByteArray) : PM Unit := fun m _ => if isP L s m = true then .ok ((), m + 1, []) else .error (3, (tk L m).2)
def mustP : List ByteArray → PM Unit
  | [] => pok ()
  | s :: r => pbind (must1 L s) fun _ => mustP r
def ofP (k : Int) : PM Tok := fun m _ => if (tk L m).1.k = k then .ok ((tk L m).1, m + 1, []) else .error (3, (tk L m).2)
def layP (z : Nd) : PM Int := fun m n => if n = 512 then .error (5, (tk L m).2) else .ok ((n : Int), m, [z])
def deepP (d : Nat) : PM Unit := fun m _ => if 16 < d then .error (14, (tk L m).2) else .ok ((), m, [])
def skipP : PM Unit := fun m _ => .ok ((), m + 1, [])
def turnsP : PM Int := fun m n => if (tk L m).1.k = 2 ∧ 64 < (tk L m).1.i then .error (8, (tk L m).2) else pbind (ofP L 2) (fun t => pok t.i) m n
def oneOfP (ss : List ByteArray) : PM (Option ByteArray) := fun m _ => match ss.find? (fun s => isP L s m) with
  | none => .ok (none, m, [])
  | some s => .ok (some s, m + 1, [])
def twoNd (a b : Int) (s : ByteArray) : Nd := { nd 11 with a := a, b := b, s := s }
/-- what binds from the left by some signs -/
def twoLoop (cl : PM Int) (ss : List ByteArray) : Nat → Int → PM Int
  | 0, a => pok a
  | g + 1, a => pbind (oneOfP L ss) fun o => match o with
    | none => pok a
    | some s => pbind cl fun b => pbind (layP L (twoNd a b s)) fun a' => twoLoop cl ss g a'
def twoP (cl : PM Int) (ss : List ByteArray) : PM Int := pbind cl fun a => twoLoop L cl ss (L.length + 1) a
def ssTimes : List ByteArray := [⟨#[42]⟩, ⟨#[47]⟩, ⟨#[37]⟩]
def ssSum : List ByteArray := [⟨#[43]⟩, ⟨#[45]⟩]
def ssJoin : List ByteArray := [⟨#[46, 46]⟩]
def ssIs : List ByteArray := [⟨#[61, 61]⟩, ⟨#[33, 61]⟩, ⟨#[60]⟩, ⟨#[60, 61]⟩, ⟨#[62]⟩, ⟨#[62, 61]⟩]
def ssAnd : List ByteArray := [⟨#[97, 110, 100]⟩]
def ssOr : List ByteArray := [⟨#[111, 114]⟩]
def timesP (one : PM Int) : PM Int := twoP L one ssTimes
def sumP (one : PM Int) : PM Int := twoP L (timesP L one) ssSum
def joinP (one : PM Int) : PM Int := twoP L (sumP L one) ssJoin
def compP (one : PM Int) : PM Int := pbind (joinP L one) fun a => pbind (oneOfP L ssIs) fun o => match o with
    | none => pok a
    | some s => pbind (joinP L one) fun b => layP L (twoNd a b s)
def andP (one : PM Int) : PM Int := twoP L (compP L one) ssAnd
def orP (one : PM Int) : PM Int := twoP L (andP L one) ssOr
def sIs (x : ByteArray) (l : List UInt8) : Bool := x.toList == l
/-- the kind of a node that a word calls -/
def callF (s : ByteArray) : Int :=
  if sIs s [103, 101, 116] = true then 5 else if sIs s [104, 97, 115] = true then 6 else if sIs s [108, 101, 110] = true then 7 else if sIs s [115, 104, 111, 119] = true then 8 else -1
def withinP (k : Int) (d : Nat) (o1 : PM Int) : PM Int := pbind (deepP L (d + 1)) fun _ => pbind o1 fun a => layP L { nd k with a := a }
def signedP (d : Nat) (e1 o1 : PM Int) : PM Int := fun m n =>
  if isP L ⟨#[45]⟩ m = true then pbind (skipP) (fun _ => withinP L 10 d o1) m n
  else if isP L ⟨#[40]⟩ m = true then pbind (skipP) (fun _ => pbind e1 fun a => pbind (mustP L [⟨#[41]⟩]) fun _ => pok a) m n
  else pno L 3 m n
def wordedP (d : Nat) (e1 o1 : PM Int) : PM Int := fun m n =>
  if callF (tk L m).1.s = -1 then
    if isP L ⟨#[110, 111, 116]⟩ m = true then pbind (skipP) (fun _ => withinP L 9 d o1) m n
    else if isP L ⟨#[110, 105, 108]⟩ m = true then pbind (skipP) (fun _ => layP L (nd 0)) m n
    else if sIs (tk L m).1.s [116, 114, 117, 101] = true then pbind (skipP) (fun _ => layP L { nd 1 with i := 1 }) m n
    else if sIs (tk L m).1.s [102, 97, 108, 115, 101] = true then pbind (skipP) (fun _ => layP L (nd 1)) m n
    else pno L 3 m n
  else pbind (skipP) (fun _ => pbind (mustP L [⟨#[40]⟩]) fun _ => pbind e1 fun a => pbind (mustP L [⟨#[41]⟩]) fun _ => layP L { nd (callF (tk L m).1.s) with a := a }) m n
/-- what binds closest -/
def oneP (d : Nat) (e1 o1 : PM Int) : PM Int := fun m n =>
  if (tk L m).1.k = 2 then pbind (skipP) (fun _ => layP L { nd 2 with i := (tk L m).1.i }) m n
  else if (tk L m).1.k = 3 then pbind (skipP) (fun _ => layP L { nd 3 with s := (tk L m).1.s }) m n
  else if (tk L m).1.k = 1 then pbind (skipP) (fun _ => layP L { nd 4 with s := (tk L m).1.s }) m n
  else if (tk L m).1.k = 4 then signedP L d e1 o1 m n
  else if (tk L m).1.k = 5 then wordedP L d e1 o1 m n
  else pno L 3 m n
/-- an expr, and what binds closest, so many places above the deepest -/
def exprD : Nat → PM Int × PM Int
  | 0 => (pno L 14, pno L 14)
  | D + 1 => (orP L (oneP L (16 - D) (exprD D).1 (exprD D).2), oneP L (16 - D) (exprD D).1 (exprD D).2)
def exprP (D : Nat) : PM Int := (exprD L D).1
def setNext (ns : List Nd) (j : Nat) (v : Int) : List Nd := ns.modify j fun z => { z with x := v }
/-- statements, one behind the other -/
def blockLoop (st : PM Int) : Nat → Int → Int → List Nd → Nat → Nat → PR Int
  | 0, first, _, acc, m, _ => .ok (first, m, acc)
  | g + 1, first, last, acc, m, n => match st m (n + acc.length) with
    | .error e => .error e
    | .ok (i, m1, ns) =>
      if i = -1 then .ok (first, m1, acc ++ ns)
      else if first = -1 then blockLoop st g i i (acc ++ ns) m1 n
      else blockLoop st g first i (setNext (acc ++ ns) (last.toNat - n) i) m1 n
def bracedP (bl : PM Int) : PM Int := pbind (mustP L [⟨#[123]⟩]) fun _ => pbind bl fun n => pbind (mustP L [⟨#[125]⟩]) fun _ => pok n
def namesP (k : Int) (ex : PM Int) : PM Int := pbind (skipP) fun _ => pbind (ofP L 1) fun t => pbind (mustP L [⟨#[61]⟩]) fun _ => pbind ex fun a => pbind (mustP L [⟨#[59]⟩]) fun _ => layP L { nd k with s := t.s, a := a }
def putP (ex : PM Int) : PM Int := pbind (skipP) fun _ => pbind ex fun a => pbind (mustP L [⟨#[44]⟩]) fun _ => pbind ex fun b => pbind (mustP L [⟨#[59]⟩]) fun _ => layP L { nd 22 with a := a, b := b }
def simpleP (k : Int) (ex : PM Int) : PM Int := pbind (skipP) fun _ => pbind ex fun a => pbind (mustP L [⟨#[59]⟩]) fun _ => layP L { nd k with a := a }
def whenP (ex br : PM Int) : PM Int := pbind (skipP) fun _ => pbind ex fun a => pbind br fun b => pbind (takesP L ⟨#[101, 108, 115, 101]⟩) fun e =>
  if e = true then pbind br fun c => layP L { nd 24 with a := a, b := b, i := 1, c := c } else layP L { nd 24 with a := a, b := b }
def eachP (ex br : PM Int) : PM Int := pbind (skipP) fun _ => pbind (ofP L 1) fun s => pbind (mustP L [⟨#[44]⟩]) fun _ => pbind (ofP L 1) fun t =>
  pbind (mustP L [⟨#[105, 110]⟩, ⟨#[115, 99, 97, 110]⟩, ⟨#[40]⟩]) fun _ => pbind ex fun a => pbind (mustP L [⟨#[44]⟩]) fun _ => pbind (turnsP L) fun i => pbind (mustP L [⟨#[41]⟩]) fun _ =>
  pbind br fun b => layP L { nd 25 with s := s.s, t := t.s, a := a, i := i, b := b }
def repeatP (br : PM Int) : PM Int := pbind (skipP) fun _ => pbind (turnsP L) fun i => pbind br fun b => layP L { nd 26 with i := i, b := b }
/-- a statement; -1: none comes next -/
def stmtP (ex br : PM Int) : PM Int := fun m n =>
  if ¬ (tk L m).1.k = 5 then pok (-1) m n
  else if sIs (tk L m).1.s [108, 101, 116] = true then namesP L 20 ex m n
  else if sIs (tk L m).1.s [115, 101, 116] = true then namesP L 21 ex m n
  else if sIs (tk L m).1.s [112, 117, 116] = true then putP L ex m n
  else if sIs (tk L m).1.s [100, 101, 108, 101, 116, 101] = true then simpleP L 23 ex m n
  else if sIs (tk L m).1.s [97, 98, 111, 114, 116] = true then simpleP L 27 ex m n
  else if sIs (tk L m).1.s [114, 101, 116, 117, 114, 110] = true then simpleP L 28 ex m n
  else if sIs (tk L m).1.s [105, 102] = true then whenP L ex br m n
  else if sIs (tk L m).1.s [102, 111, 114] = true then eachP L ex br m n
  else if sIs (tk L m).1.s [114, 101, 112, 101, 97, 116] = true then repeatP L br m n
  else pok (-1) m n
/-- a block so many places above the deepest -/
def blockD : Nat → PM Int
  | 0 => pno L 14
  | D + 1 => fun m n => blockLoop (stmtP L (exprP L (D + 1)) (bracedP L (blockD D))) (L.length + 1) (-1) (-1) [] m n
/-- the program of tokens: its nodes and the first, or the error and its place -/
def progP : Except (Int × Int) (List Nd × Int) := match pbind (blockD L 16) (fun f => pbind (ofP L 0) fun _ => pok f) 0 0 with
  | .error e => .error e
  | .ok (f, _, ns) => .ok (ns, f)
/-- the tokens end where they end, and nowhere else -/
def endsOk : Bool := L ≠ [] && (List.range L.length).all fun j => ((tk L j).1.k == 0) == decide (j + 1 = L.length)
def parseF : Except (Int × Int) (List Nd × Int) := if endsOk L = true then progP L else .error (1, 0)
end
end Go.Proofs.Ytoaaklcbcbjaiaa

namespace Go.Proofs.Ytoaaklcbcbjaiaa
open Go.RowKit
section
variable {P : Program} {ops : Array Oper}
/-- a slice over a new block: a hole of which this is known -/
def NewSl (w0 : World) (o : Obj) (n c : Nat) : Fact := fun v W => ∃ g, v = .slice (some ⟨g, 0, none⟩) n c ∧ w0.heap.size ≤ g ∧ W.heap[g]? = some o
theorem NewSl.upc (w0 : World) (o : Obj) (n c : Nat) : Upc (NewSl w0 o n c) := by
  rintro v W W' ⟨d, os, rfl⟩ ⟨g, hv, hg, hh⟩
  have hlt : g < W.heap.size := by
    rcases Nat.lt_or_ge g W.heap.size with h | h
    · exact h
    · rw [Array.getElem?_eq_none h] at hh; cases hh
  exact ⟨g, hv, hg, by rw [more_heap _ _ _ _ hlt]; exact hh⟩
theorem NewSl.of_alloc (w0 : World) (d : Nat) (os : Array Obj) (o : Obj) (n c m : Nat) (hm : m = (more w0 d os).heap.size) : NewSl w0 o n c (.slice (some ⟨m, 0, none⟩) n c) ((more w0 d os).alloc o) := by
  subst hm
  exact ⟨_, rfl, by simp [more_size], heap_alloc_new _ _⟩
theorem Lex.sliceLit {w0 : World} {fin : Act → List (Tmp × Fact) → Prop} {o : Oper} {fl : List Bool} {rest : List Oper} {a : Act} {H : List (Tmp × Fact)} (t : Tmp) (ob : Obj) (n c : Nat) (ht : o.dst = some t) (hl : looks ops o H = [])
    (h : ∀ d os, StepG P ops o a (more w0 d os) (NewSl w0 ob n c)) (k : Lex P ops w0 fin fl rest a ((t, NewSl w0 ob n c) :: H)) : Lex P ops w0 fin (false :: fl) (o :: rest) a H :=
  Lex.gap t _ ht (NewSl.upc w0 ob n c) hl h k
/-- the world written out about that block -/
theorem NewSl.split {w0 : World} {o : Obj} {n c : Nat} {v : Value} {W : World} (h : NewSl w0 o n c v W) (hx : Ext w0 W) :
    ∃ d1 os1 d2 os2, W = more ((more w0 d1 os1).alloc o) d2 os2 ∧ v = .slice (some ⟨w0.heap.size + os1.size, 0, none⟩) n c := by
  obtain ⟨g, rfl, hg, hh⟩ := h
  obtain ⟨d1, os1, d2, os2, hw, hv⟩ := NewBlk.split (w0 := w0) (o := o) (v := .pointer (some ⟨g, 0, none⟩)) ⟨g, rfl, hg, hh⟩ hx
  simp only [Value.pointer.injEq, Option.some.injEq, Addr.mk.injEq, and_true] at hv
  exact ⟨d1, os1, d2, os2, hw, by rw [hv]⟩
end
end Go.Proofs.Ytoaaklcbcbjaiaa

namespace Go.Proofs.Ytoaaklcbcbjaiaa
open Go.RowKit
theorem ltP1 {a n x : Nat} (h : a < n) : (a < n + x) = True := by simp; omega
theorem ltP2 {a n x y : Nat} (h : a < n) : (a < n + x + y) = True := by simp; omega
theorem ltP3 {a n x y z : Nat} (h : a < n) : (a < n + x + y + z) = True := by simp; omega
theorem ltP4 {a n x y z u : Nat} (h : a < n) : (a < n + x + y + z + u) = True := by simp; omega
theorem ltP5 {a n x y z u v : Nat} (h : a < n) : (a < n + x + y + z + u + v) = True := by simp; omega
attribute [go_sem] ltP1 ltP2 ltP3 ltP4 ltP5
/-- tokens lie at an address -/
def ToksAt (lb lo : Nat) (L : Toks) (w : World) : Prop := ∀ j, j < L.length →
  w.cell? ⟨lb, lo + j * 4, none⟩ = some (.int .i64 (tk L j).1.k) ∧ w.cell? ⟨lb, lo + j * 4 + 1, none⟩ = some (.int .i64 (tk L j).2) ∧
  w.cell? ⟨lb, lo + j * 4 + 2, none⟩ = some (.string (tk L j).1.s) ∧ w.cell? ⟨lb, lo + j * 4 + 3, none⟩ = some (.int .i64 (tk L j).1.i)
theorem ToksAt.lt {lb lo : Nat} {L : Toks} {w : World} (h : ToksAt lb lo L w) (hl : 0 < L.length) : lb < w.heap.size :=
  World.block_lt_of_cell? w _ (h 0 hl).1
theorem ToksAt.of_block {lb lo : Nat} {L : Toks} {w w' : World} (h : ToksAt lb lo L w) (e : w'.heap[lb]? = w.heap[lb]?) : ToksAt lb lo L w' := by
  intro j hj
  obtain ⟨h1, h2, h3, h4⟩ := h j hj
  exact ⟨(World.cell?_of_block e).trans h1, (World.cell?_of_block e).trans h2, (World.cell?_of_block e).trans h3, (World.cell?_of_block e).trans h4⟩
/-- tokens that end where they end, and nowhere else -/
structure Ends (L : Toks) : Prop where
  pos : 0 < L.length
  few : L.length ≤ 5000
  at_ : ∀ j, j < L.length → ((tk L j).1.k = 0 ↔ j + 1 = L.length)
/-- a block of one's own that the parser does not touch -/
structure Loc (b : Nat) (nv : Value) (k : Nat) (o : Obj) (w : World) : Prop where
  is : w.heap[k]? = some o
  ne : k ≠ b
  nr : nv.ownBlock ≠ some k
theorem Loc.lt {b : Nat} {nv : Value} {k : Nat} {o : Obj} {w : World} (h : Loc b nv k o w) : k < w.heap.size :=
  (Array.getElem?_eq_some_iff.1 h.is).1
/-- nothing changed but the parser's block and its row of nodes -/
structure Kp (b : Nat) (nv nv' : Value) (w w' : World) : Prop where
  os : w'.os = w.os
  tape : w'.tape = w.tape
  output : w'.output = w.output
  size : w.heap.size ≤ w'.heap.size
  block : ∀ k, k < w.heap.size → k ≠ b → nv.ownBlock ≠ some k → w'.heap[k]? = w.heap[k]?
  row : nv'.ownBlock = nv.ownBlock ∨ ∀ k, nv'.ownBlock = some k → w.heap.size ≤ k
theorem Kp.refl (b : Nat) (nv : Value) (w : World) : Kp b nv nv w w := ⟨rfl, rfl, rfl, Nat.le_refl _, fun _ _ _ _ => rfl, Or.inl rfl⟩
theorem Kp.trans {b : Nat} {nv nv1 nv2 : Value} {w w1 w2 : World} (h : Kp b nv nv1 w w1) (k : Kp b nv1 nv2 w1 w2) : Kp b nv nv2 w w2 := by
  refine ⟨k.os.trans h.os, k.tape.trans h.tape, k.output.trans h.output, Nat.le_trans h.size k.size, fun j hj hb hn => ?_, ?_⟩
  · have hn1 : nv1.ownBlock ≠ some j := by
      rcases h.row with e | e
      · rw [e]; exact hn
      · intro e2; have := e j e2; omega
    rw [k.block j (Nat.lt_of_lt_of_le hj h.size) hb hn1, h.block j hj hb hn]
  · rcases k.row with e | e
    · rcases h.row with e1 | e1
      · exact Or.inl (e.trans e1)
      · exact Or.inr (fun j hj => e1 j (by rw [← e]; exact hj))
    · exact Or.inr (fun j hj => Nat.le_trans h.size (e j hj))
theorem Kp.ext {b : Nat} {nv nv1 : Value} {w w1 w2 : World} (h : Kp b nv nv1 w w1) (hx : Ext w1 w2) : Kp b nv nv1 w w2 := by
  refine h.trans ?_
  have hb := hx.below
  exact ⟨hb.os, hb.tape, hb.output, hb.size, fun k hk _ _ => hb.block k hk, Or.inl rfl⟩
theorem Kp.alloc {b : Nat} {nv nv1 : Value} {w w1 : World} (h : Kp b nv nv1 w w1) (o : Obj) : Kp b nv nv1 w (w1.alloc o) := h.ext ((Ext.refl _).alloc o)
theorem Kp.more {b : Nat} {nv nv1 : Value} {w w1 : World} (h : Kp b nv nv1 w w1) (d : Nat) (os : Array Obj) : Kp b nv nv1 w (more w1 d os) := h.ext ((Ext.refl _).more d os)
theorem heap_set_other (w : World) (k i j : Nat) (v : Value) (h : j ≠ k) : (w.setCell ⟨k, i, none⟩ v).heap[j]? = w.heap[j]? := by
  simp [World.setCell, Array.getElem?_modify, Ne.symm h]
theorem Kp.setNew {b : Nat} {nv nv1 : Value} {w w1 : World} (h : Kp b nv nv1 w w1) {k : Nat} (hk : w.heap.size ≤ k) (i : Nat) (v : Value) : Kp b nv nv1 w (w1.setCell ⟨k, i, none⟩ v) :=
  ⟨h.os, h.tape, h.output, by simpa [World.setCell] using h.size, fun j hj hb hn => by rw [heap_set_other _ _ _ _ _ (by omega)]; exact h.block j hj hb hn, h.row⟩
theorem Kp.setB {b : Nat} {nv nv1 : Value} {w w1 : World} (h : Kp b nv nv1 w w1) (i : Nat) (v : Value) : Kp b nv nv1 w (w1.setCell ⟨b, i, none⟩ v) :=
  ⟨h.os, h.tape, h.output, by simpa [World.setCell] using h.size, fun j hj hb hn => by rw [heap_set_other _ _ _ _ _ hb]; exact h.block j hj hb hn, h.row⟩
theorem Loc.kp {b : Nat} {nv nv1 : Value} {w w1 : World} {k : Nat} {o : Obj} (h : Loc b nv k o w) (hk : Kp b nv nv1 w w1) : Loc b nv1 k o w1 := by
  refine ⟨(hk.block k h.lt h.ne h.nr).trans h.is, h.ne, ?_⟩
  rcases hk.row with e | e
  · rw [e]; exact h.nr
  · intro e2; have := e k e2; have := h.lt; omega
theorem Loc.ext {b : Nat} {nv : Value} {w w1 : World} {k : Nat} {o : Obj} (h : Loc b nv k o w) (hx : Ext w w1) : Loc b nv k o w1 := h.kp ((Kp.refl b nv w).ext hx)
theorem Loc.set {b : Nat} {nv : Value} {w : World} {k : Nat} {cs : Array Value} {t : TypeId} (h : Loc b nv k (.cells cs t (0, 0)) w) (i : Nat) (v : Value) : Loc b nv k (.cells (cs.setIfInBounds i v) t (0, 0)) (w.setCell ⟨k, i, none⟩ v) := by
  refine ⟨?_, h.ne, h.nr⟩
  have := h.is
  simp [World.setCell, Array.getElem?_modify, this]
theorem Loc.more {b : Nat} {nv : Value} {w : World} {k : Nat} {o : Obj} (h : Loc b nv k o w) (d : Nat) (os : Array Obj) : Loc b nv k o (Ytoaaklcbcbjaiaa.more w d os) := h.ext ((Ext.refl _).more d os)
theorem Loc.alloc {b : Nat} {nv : Value} {w : World} {k : Nat} {o : Obj} (h : Loc b nv k o w) (o' : Obj) : Loc b nv k o (w.alloc o') := h.ext ((Ext.refl _).alloc o')
theorem ownBlock_kept {w w1 : World} {row : Option Nat} {k : Nat} (hg : w.grownBy w1 row) (hk : k < w.heap.size) (hn : row ≠ some k) : w1.heap[k]? = w.heap[k]? := hg.block k hk (fun e => hn e.symm)
theorem Kp.push {b : Nat} {nv nv1 v' : Value} {w w1 w2 : World} (h : Kp b nv nv1 w w1) (hg : w1.grownBy w2 nv1.ownBlock) (hb : v'.ownBlock = nv1.ownBlock ∨ v'.ownBlock = some w1.heap.size) : Kp b nv v' w (w2.setCell ⟨b, 2, none⟩ v') := by
  refine h.trans (Kp.setB ⟨hg.os, hg.tape, hg.output, hg.size, fun k hk _ hn => ownBlock_kept hg hk hn, ?_⟩ 2 _)
  rcases hb with e | e
  · exact Or.inl e
  · exact Or.inr fun k hk => by rw [e] at hk; simp at hk; omega
def unitV : Unit → Value := fun _ => .tuple #[]
def intV : Int → Value := fun z => .int .i64 z
end Go.Proofs.Ytoaaklcbcbjaiaa

namespace Go.Proofs.Ytoaaklcbcbjaiaa
open Go.RowKit
attribute [go_sem] more_more Array.size_append
theorem isP_eq {L : Toks} {m : Nat} {t : Tok} {a : Int} (ht : tk L m = (t, a)) (s : ByteArray) (b : Bool) (hw : wordB s = b) : isP L s m = (t.k == (if b = true then 5 else 4) && t.s.toList == s.toList) := by
  unfold isP; rw [ht, hw]
theorem fld_at (k a : Int) (s : ByteArray) (i : Int) (w : World) : (Instr.field 57 (.agg #[.int .i64 k, .int .i64 a, .string s, .int .i64 i]) 1).run Try.prog w = .ok (.int .i64 a) w := by kernel_rfl
theorem fld_s (k a : Int) (s : ByteArray) (i : Int) (w : World) : (Instr.field 57 (.agg #[.int .i64 k, .int .i64 a, .string s, .int .i64 i]) 2).run Try.prog w = .ok (.string s) w := by kernel_rfl
theorem fld_i (k a : Int) (s : ByteArray) (i : Int) (w : World) : (Instr.field 57 (.agg #[.int .i64 k, .int .i64 a, .string s, .int .i64 i]) 3).run Try.prog w = .ok (.int .i64 i) w := by kernel_rfl
attribute [go_sem] fld_at fld_s fld_i
theorem ndInfo : (Try.prog.info? 52).map (fun i => (i.zero, i.size, i.bytes)) = some (some (.agg #[.int .i64 0, .int .i64 0, .int .i64 0, .int .i64 0, .int .i64 0, .int .i64 0, .string ⟨#[]⟩, .string ⟨#[]⟩]), 8, 80) := by kernel_rfl
theorem news_splitP {w : World} {N d1 d2 : Nat} {os1 os2 : Array Obj} {cs : Array Value} {t : TypeId} (hN : N = w.heap.size + os1.size) :
    ∀ j u, cs.toList[j]? = some u → (more ((more w d1 os1).alloc (.cells cs t)) d2 os2).cell? ((⟨N, 0, none⟩ : Addr).add j) = some u := by
  intro j u h
  have hN' : N = (more w d1 os1).heap.size := by rw [more_size]; exact hN
  subst hN'
  rw [Addr.add_lit, more_cell _ _ _ _ _ (by simp)]
  simp only [World.cell?, heap_alloc_new]
  simpa using h
theorem isP_ne {L : Toks} {m : Nat} {s : ByteArray} (h : isP L s m = true) : (tk L m).1.k ≠ 0 := by
  unfold isP at h
  intro e
  rw [e] at h
  split at h <;> simp at h
/-- what the walk reads of a node of one's own -/
theorem Loc.node {b : Nat} {nv : Value} {k : Nat} {w : World} {v0 v1 v2 v3 v4 v5 v6 v7 : Value} (h : Loc b nv k (.cells #[v0, v1, v2, v3, v4, v5, v6, v7] 52 (0, 0)) w) :
    w.cell? ⟨k, 0, none⟩ = some v0 ∧ w.cell? ⟨k, 1, none⟩ = some v1 ∧ w.cell? ⟨k, 2, none⟩ = some v2 ∧ w.cell? ⟨k, 3, none⟩ = some v3 ∧ w.cell? ⟨k, 4, none⟩ = some v4 ∧ w.cell? ⟨k, 5, none⟩ = some v5 ∧ w.cell? ⟨k, 6, none⟩ = some v6 ∧ w.cell? ⟨k, 7, none⟩ = some v7 ∧
    w.frozen? ⟨k, 0, none⟩ = false ∧ w.frozen? ⟨k, 1, none⟩ = false ∧ w.frozen? ⟨k, 2, none⟩ = false ∧ w.frozen? ⟨k, 3, none⟩ = false ∧ w.frozen? ⟨k, 5, none⟩ = false ∧ w.frozen? ⟨k, 6, none⟩ = false ∧ w.frozen? ⟨k, 7, none⟩ = false ∧ k < w.heap.size := by
  have := h.is
  refine ⟨?_, ?_, ?_, ?_, ?_, ?_, ?_, ?_, ?_, ?_, ?_, ?_, ?_, ?_, ?_, h.lt⟩ <;> simp [World.cell?, World.frozen?, this]
theorem mustP_yes {L : Toks} {s : ByteArray} {r : List ByteArray} {m n : Nat} (h : isP L s m = true) : mustP L (s :: r) m n = mustP L r (m + 1) n := by
  rw [mustP, pbind_ok (v := ()) (m1 := m + 1) (ns := []) (by unfold must1; rw [if_pos h]), prep_nil]; rfl
theorem mustP_no {L : Toks} {s : ByteArray} {r : List ByteArray} {m n : Nat} (h : isP L s m = false) : mustP L (s :: r) m n = .error (3, (tk L m).2) := by
  rw [mustP]; exact pbind_err (by unfold must1; rw [h]; rfl)
theorem drop_cons {α : Type} (ss : List α) (j : Nat) (d : α) (h : j < ss.length) : ss.drop j = ss.getD j d :: ss.drop (j + 1) := by
  rw [List.drop_eq_getElem_cons h]; simp [List.getD, List.getElem?_eq_getElem h]
/-- a row of texts of one's own -/
def strs (ss : List ByteArray) : Obj := .cells (ss.map Value.string).toArray 9 (0, 0)
theorem Loc.str {b : Nat} {nv : Value} {g : Nat} {ss : List ByteArray} {w : World} (h : Loc b nv g (strs ss) w) (j : Nat) (hj : j < ss.length) : w.cell? ⟨g, j, none⟩ = some (.string (ss.getD j ⟨#[]⟩)) := by
  have := h.is
  unfold strs at this
  simp [World.cell?, this, List.getD, List.getElem?_eq_getElem hj]
def optV : Option ByteArray → Value
  | none => .tuple #[.string ⟨#[]⟩, .bool false]
  | some s => .tuple #[.string s, .bool true]
def findP (L : Toks) (m : Nat) (ss : List ByteArray) : PR (Option ByteArray) := match ss.find? (fun s => isP L s m) with
  | none => .ok (none, m, [])
  | some s => .ok (some s, m + 1, [])
theorem findP_yes {L : Toks} {s : ByteArray} {r : List ByteArray} {m : Nat} (h : isP L s m = true) : findP L m (s :: r) = .ok (some s, m + 1, []) := by
  unfold findP; rw [List.find?_cons]; simp [h]
theorem findP_no {L : Toks} {s : ByteArray} {r : List ByteArray} {m : Nat} (h : isP L s m = false) : findP L m (s :: r) = findP L m r := by
  unfold findP; rw [List.find?_cons]; simp [h]
end Go.Proofs.Ytoaaklcbcbjaiaa

namespace Go.Proofs.Ytoaaklcbcbjaiaa
open Go.RowKit
attribute [go_sem] more_more Array.size_append
theorem twoL_none {L : Toks} {cl : PM Int} {ss : List ByteArray} {g : Nat} {a : Int} {m n : Nat} (h1 : oneOfP L ss m n = .ok (none, m, [])) : twoLoop L cl ss (g + 1) a m n = .ok (a, m, []) := by
  rw [twoLoop, pbind_ok h1, prep_nil]; rfl
theorem twoL_err {L : Toks} {cl : PM Int} {ss : List ByteArray} {g : Nat} {a : Int} {m n : Nat} {s : ByteArray} {m1 : Nat} {e : Int × Int} (h1 : oneOfP L ss m n = .ok (some s, m1, [])) (h2 : cl m1 n = .error e) : twoLoop L cl ss (g + 1) a m n = .error e := by
  rw [twoLoop, pbind_ok h1, prep_nil]
  exact pbind_err h2
theorem twoL_lay {L : Toks} {cl : PM Int} {ss : List ByteArray} {g : Nat} {a c : Int} {m n : Nat} {s : ByteArray} {m1 m2 : Nat} {ns : List Nd} {e : Int × Int} (h1 : oneOfP L ss m n = .ok (some s, m1, [])) (h2 : cl m1 n = .ok (c, m2, ns)) (h3 : layP L (twoNd a c s) m2 (n + ns.length) = .error e) : twoLoop L cl ss (g + 1) a m n = .error e := by
  rw [twoLoop, pbind_ok h1, prep_nil]
  dsimp only [List.length_nil, Nat.add_zero]
  rw [pbind_ok h2, pbind_err h3]
  rfl
theorem twoL_ok {L : Toks} {cl : PM Int} {ss : List ByteArray} {g : Nat} {a c a1 : Int} {m n : Nat} {s : ByteArray} {m1 m2 m3 : Nat} {ns ns2 : List Nd} (h1 : oneOfP L ss m n = .ok (some s, m1, [])) (h2 : cl m1 n = .ok (c, m2, ns)) (h3 : layP L (twoNd a c s) m2 (n + ns.length) = .ok (a1, m3, ns2)) : twoLoop L cl ss (g + 1) a m n = prep (ns ++ ns2) (twoLoop L cl ss g a1 m3 (n + (ns ++ ns2).length)) := by
  rw [twoLoop, pbind_ok h1, prep_nil]
  dsimp only [List.length_nil, Nat.add_zero]
  rw [pbind_ok h2, pbind_ok h3, prep_prep, List.length_append, Nat.add_assoc]
def thenR {α β : Type} (r : PR α) (f : α → Nat → List Nd → PR β) : PR β := match r with
  | .error e => .error e
  | .ok (v, m, ns) => f v m ns
theorem oneOf_cases (L : Toks) (ss : List ByteArray) (m n : Nat) : oneOfP L ss m n = .ok (none, m, []) ∨ ∃ s, oneOfP L ss m n = .ok (some s, m + 1, []) := by
  unfold oneOfP
  cases ss.find? fun s => isP L s m with
  | none => exact Or.inl rfl
  | some s => exact Or.inr ⟨s, rfl⟩
end Go.Proofs.Ytoaaklcbcbjaiaa

namespace Go.Proofs.Ytoaaklcbcbjaiaa
open Go.RowKit
attribute [go_sem] more_more Array.size_append
theorem mk_func (fn : Fn) (first cap : Array Value) (w : World) : (Instr.makeFunc fn first cap).run Try.prog w = .ok (.func fn first cap) w := rfl
attribute [go_sem] mk_func
end Go.Proofs.Ytoaaklcbcbjaiaa

namespace Go.Proofs.Ytoaaklcbcbjaiaa
open Go.RowKit
attribute [go_sem] more_more Array.size_append
theorem start_hr {α : Type} {p : PM α} {m : Nat} {N : List Nd} {r : PR α} (hr : p m N.length = r) : prep [] (p m (N.length + ([] : List Nd).length)) = r := by rw [prep_nil]; exact hr
theorem step_get {α β : Type} {NS : List Nd} {p : PM α} {f : α → PM β} {m n : Nat} {r : PR β} (hr : prep NS (pbind p f m n) = r) : ∃ r1, p m n = r1 := ⟨_, rfl⟩
theorem step_fin {α : Type} {NS : List Nd} {p : PM α} {m n : Nat} {r : PR α} (hr : prep NS (p m n) = r) : ∃ r1, p m n = r1 := ⟨_, rfl⟩
theorem step_err {α β : Type} {NS : List Nd} {p : PM α} {f : α → PM β} {m n : Nat} {r : PR β} {c a : Int} (hr : prep NS (pbind p f m n) = r) (h : p m n = .error (c, a)) : .error (c, a) = r := by
  rw [pbind_err h] at hr; exact hr
theorem step_ok {α β : Type} {N NS ns : List Nd} {p : PM α} {f : α → PM β} {m m1 : Nat} {v : α} {r : PR β} (hr : prep NS (pbind p f m (N.length + NS.length)) = r) (h : p m (N.length + NS.length) = .ok (v, m1, ns)) :
    prep (NS ++ ns) (f v m1 (N.length + (NS ++ ns).length)) = r := by
  rw [pbind_ok h, prep_prep] at hr
  rw [List.length_append, ← Nat.add_assoc]; exact hr
theorem fin_err {α : Type} {NS : List Nd} {p : PM α} {m n : Nat} {r : PR α} {c a : Int} (hr : prep NS (p m n) = r) (h : p m n = .error (c, a)) : .error (c, a) = r := by
  rw [h] at hr; exact hr
theorem fin_ok {α : Type} {NS ns : List Nd} {p : PM α} {m m1 n : Nat} {v : α} {r : PR α} (hr : prep NS (p m n) = r) (h : p m n = .ok (v, m1, ns)) : .ok (v, m1, NS ++ ns) = r := by
  rw [h] at hr; exact hr
theorem must1_yes {L : Toks} {s : ByteArray} {m n : Nat} (h : isP L s m = true) : mustP L [s] m n = .ok ((), m + 1, []) := by rw [mustP_yes h]; rfl
end Go.Proofs.Ytoaaklcbcbjaiaa

namespace Go.Proofs.Ytoaaklcbcbjaiaa
open Go.RowKit
attribute [go_sem] more_more Array.size_append
theorem ite_t {α : Type} {NS : List Nd} {p q : PM α} {m n : Nat} {r : PR α} (h : prep NS ((if true = true then p else q) m n) = r) : prep NS (p m n) = r := h
theorem ite_f {α : Type} {NS : List Nd} {p q : PM α} {m n : Nat} {r : PR α} (h : prep NS ((if false = true then p else q) m n) = r) : prep NS (q m n) = r := h
end Go.Proofs.Ytoaaklcbcbjaiaa

namespace Go.Proofs.Ytoaaklcbcbjaiaa
open Go.RowKit
def Fwd {α : Type} (p : PM α) : Prop := ∀ m n v m1 ns, p m n = .ok (v, m1, ns) → m ≤ m1
def Lays (p : PM Int) : Prop := ∀ m n v m1 ns, p m n = .ok (v, m1, ns) → v + 1 = (n : Int) + ns.length ∧ 0 < ns.length
theorem prep_inv {α : Type} {ns : List Nd} {r : PR α} {v : α} {m : Nat} {l : List Nd} (h : prep ns r = .ok (v, m, l)) : ∃ l1, r = .ok (v, m, l1) ∧ l = ns ++ l1 := by
  cases r with
  | error e => simp [prep] at h
  | ok x => obtain ⟨v', m', l'⟩ := x; simp only [prep, Except.ok.injEq, Prod.mk.injEq] at h; obtain ⟨rfl, rfl, rfl⟩ := h; exact ⟨_, rfl, rfl⟩
theorem pbind_inv {α β : Type} {p : PM α} {f : α → PM β} {m n : Nat} {v : β} {m2 : Nat} {l : List Nd} (h : pbind p f m n = .ok (v, m2, l)) :
    ∃ a m1 l1 l2, p m n = .ok (a, m1, l1) ∧ f a m1 (n + l1.length) = .ok (v, m2, l2) ∧ l = l1 ++ l2 := by
  unfold pbind at h
  cases hp : p m n with
  | error e => rw [hp] at h; simp at h
  | ok x =>
    obtain ⟨a, m1, l1⟩ := x
    rw [hp] at h
    obtain ⟨l2, h1, h2⟩ := prep_inv h
    exact ⟨a, m1, l1, l2, rfl, h1, h2⟩
theorem Fwd.bind {α β : Type} {p : PM α} {f : α → PM β} (hp : Fwd p) (hf : ∀ a, Fwd (f a)) : Fwd (pbind p f) := by
  intro m n v m1 ns h
  obtain ⟨a, m2, l1, l2, h1, h2, _⟩ := pbind_inv h
  exact Nat.le_trans (hp _ _ _ _ _ h1) (hf a _ _ _ _ _ h2)
theorem Lays.bind {α : Type} {p : PM α} {f : α → PM Int} (hf : ∀ a, Lays (f a)) : Lays (pbind p f) := by
  intro m n v m1 ns h
  obtain ⟨a, m2, l1, l2, h1, h2, rfl⟩ := pbind_inv h
  have := hf a _ _ _ _ _ h2
  simp only [List.length_append]
  omega
theorem Fwd.ok {α : Type} (v : α) : Fwd (pok v) := by
  intro m n v m1 ns h; simp [pok] at h; omega
theorem Fwd.no {α : Type} (L : Toks) (e : Int) : Fwd (pno (α := α) L e) := by intro m n v m1 ns h; simp [pno] at h
section
variable (L : Toks)
theorem Fwd.skip : Fwd skipP := by intro m n v m1 ns h; simp [skipP] at h; omega
theorem Fwd.lay (z : Nd) : Fwd (layP L z) := by
  intro m n v m1 ns h; unfold layP at h; split at h
  · simp at h
  · simp at h; omega
theorem Lays.lay (z : Nd) : Lays (layP L z) := by
  intro m n v m1 ns h; unfold layP at h; split at h
  · simp at h
  · simp at h; obtain ⟨rfl, _, rfl⟩ := h; simp
theorem Fwd.deep (d : Nat) : Fwd (deepP L d) := by
  intro m n v m1 ns h; unfold deepP at h; split at h
  · simp at h
  · simp at h; omega
theorem Fwd.takes (s : ByteArray) : Fwd (takesP L s) := by
  intro m n v m1 ns h; unfold takesP at h; split at h <;> simp at h <;> omega
theorem Fwd.must1 (s : ByteArray) : Fwd (must1 L s) := by
  intro m n v m1 ns h; unfold Go.Proofs.Ytoaaklcbcbjaiaa.must1 at h; split at h <;> simp at h <;> omega
theorem Fwd.must : ∀ ss, Fwd (mustP L ss)
  | [] => Fwd.ok ()
  | s :: r => by rw [mustP]; exact Fwd.bind (Fwd.must1 L s) fun _ => Fwd.must r
theorem Fwd.of (k : Int) : Fwd (ofP L k) := by
  intro m n v m1 ns h; unfold ofP at h; split at h <;> simp at h <;> omega
theorem Fwd.oneOf (ss : List ByteArray) : Fwd (oneOfP L ss) := by
  intro m n v m1 ns h; unfold oneOfP at h; split at h <;> simp at h <;> omega
theorem Fwd.turns : Fwd (turnsP L) := by
  have h2 : Fwd (pbind (ofP L 2) (fun t => pok t.i)) := Fwd.bind (Fwd.of L 2) fun t => Fwd.ok _
  intro m n v m1 ns h; unfold turnsP at h; split at h
  · simp at h
  · exact h2 _ _ _ _ _ h
end
theorem strict {α : Type} {f : Unit → PM α} (hf : ∀ a, Fwd (f a)) {m n : Nat} {v : α} {m1 : Nat} {ns : List Nd} (h : pbind skipP f m n = .ok (v, m1, ns)) : m < m1 := by
  obtain ⟨a, m2, l1, l2, h1, h2, _⟩ := pbind_inv h
  have := hf a _ _ _ _ _ h2
  simp [skipP] at h1
  omega
/-- goes on by a token at least, and lays a node last -/
def Strong (p : PM Int) : Prop := (∀ m n v m1 ns, p m n = .ok (v, m1, ns) → m < m1) ∧ Lays p
theorem Strong.of {f : Unit → PM Int} (hf : ∀ a, Fwd (f a)) (hl : ∀ a, Lays (f a)) : Strong (pbind skipP f) := ⟨fun _ _ _ _ _ h => strict hf h, Lays.bind hl⟩
section
variable {L : Toks} {ex br : PM Int}
theorem strong_names (k : Int) (he : Fwd ex) : Strong (namesP L k ex) :=
  Strong.of (fun _ => Fwd.bind (Fwd.of L 1) fun _ => Fwd.bind (Fwd.must L _) fun _ => Fwd.bind he fun _ => Fwd.bind (Fwd.must L _) fun _ => Fwd.lay L _)
    (fun _ => Lays.bind fun _ => Lays.bind fun _ => Lays.bind fun _ => Lays.bind fun _ => Lays.lay L _)
theorem strong_put (he : Fwd ex) : Strong (putP L ex) :=
  Strong.of (fun _ => Fwd.bind he fun _ => Fwd.bind (Fwd.must L _) fun _ => Fwd.bind he fun _ => Fwd.bind (Fwd.must L _) fun _ => Fwd.lay L _)
    (fun _ => Lays.bind fun _ => Lays.bind fun _ => Lays.bind fun _ => Lays.bind fun _ => Lays.lay L _)
theorem strong_simple (k : Int) (he : Fwd ex) : Strong (simpleP L k ex) :=
  Strong.of (fun _ => Fwd.bind he fun _ => Fwd.bind (Fwd.must L _) fun _ => Fwd.lay L _) (fun _ => Lays.bind fun _ => Lays.bind fun _ => Lays.lay L _)
theorem strong_when (he : Fwd ex) (hb : Fwd br) : Strong (whenP L ex br) := by
  refine Strong.of (fun _ => Fwd.bind he fun _ => Fwd.bind hb fun _ => Fwd.bind (Fwd.takes L _) fun e => ?_) (fun _ => Lays.bind fun _ => Lays.bind fun _ => Lays.bind fun e => ?_)
  · cases e
    · exact Fwd.lay L _
    · exact Fwd.bind hb fun _ => Fwd.lay L _
  · cases e
    · exact Lays.lay L _
    · exact Lays.bind fun _ => Lays.lay L _
theorem strong_each (he : Fwd ex) (hb : Fwd br) : Strong (eachP L ex br) :=
  Strong.of (fun _ => Fwd.bind (Fwd.of L 1) fun _ => Fwd.bind (Fwd.must L _) fun _ => Fwd.bind (Fwd.of L 1) fun _ => Fwd.bind (Fwd.must L _) fun _ => Fwd.bind he fun _ => Fwd.bind (Fwd.must L _) fun _ => Fwd.bind (Fwd.turns L) fun _ => Fwd.bind (Fwd.must L _) fun _ => Fwd.bind hb fun _ => Fwd.lay L _)
    (fun _ => Lays.bind fun _ => Lays.bind fun _ => Lays.bind fun _ => Lays.bind fun _ => Lays.bind fun _ => Lays.bind fun _ => Lays.bind fun _ => Lays.bind fun _ => Lays.bind fun _ => Lays.lay L _)
theorem strong_repeat (hb : Fwd br) : Strong (repeatP L br) :=
  Strong.of (fun _ => Fwd.bind (Fwd.turns L) fun _ => Fwd.bind hb fun _ => Fwd.lay L _) (fun _ => Lays.bind fun _ => Lays.bind fun _ => Lays.lay L _)
/-- what a statement hands back: none, with nothing done; or the place of its node, the last one -/
theorem stmt_ok (he : Fwd ex) (hb : Fwd br) {m n : Nat} {v : Int} {m1 : Nat} {ns : List Nd} (h : stmtP L ex br m n = .ok (v, m1, ns)) :
    (v = -1 ∧ m1 = m ∧ ns = []) ∨ (m < m1 ∧ v + 1 = (n : Int) + ns.length ∧ 0 < ns.length) := by
  have st : ∀ {p : PM Int}, Strong p → p m n = .ok (v, m1, ns) → m < m1 ∧ v + 1 = (n : Int) + ns.length ∧ 0 < ns.length := fun hs h => ⟨hs.1 _ _ _ _ _ h, hs.2 _ _ _ _ _ h⟩
  have no : pok (-1) m n = .ok (v, m1, ns) → v = -1 ∧ m1 = m ∧ ns = [] := fun h => by simp [pok] at h; exact ⟨h.1.symm, h.2.1.symm, h.2.2⟩
  unfold stmtP at h
  split at h
  · exact Or.inl (no h)
  split at h
  · exact Or.inr (st (strong_names _ he) h)
  split at h
  · exact Or.inr (st (strong_names _ he) h)
  split at h
  · exact Or.inr (st (strong_put he) h)
  split at h
  · exact Or.inr (st (strong_simple _ he) h)
  split at h
  · exact Or.inr (st (strong_simple _ he) h)
  split at h
  · exact Or.inr (st (strong_simple _ he) h)
  split at h
  · exact Or.inr (st (strong_when he hb) h)
  split at h
  · exact Or.inr (st (strong_each he hb) h)
  split at h
  · exact Or.inr (st (strong_repeat hb) h)
  · exact Or.inl (no h)
theorem Fwd.stmt (he : Fwd ex) (hb : Fwd br) : Fwd (stmtP L ex br) := by
  intro m n v m1 ns h
  rcases stmt_ok he hb h with ⟨_, rfl, _⟩ | ⟨h1, _⟩
  · exact Nat.le_refl _
  · omega
end
section
variable (L : Toks)
theorem Fwd.two {cl : PM Int} (hc : Fwd cl) (ss : List ByteArray) : ∀ g a, Fwd (twoLoop L cl ss g a)
  | 0, a => Fwd.ok a
  | g + 1, a => by
    rw [twoLoop]
    refine Fwd.bind (Fwd.oneOf L ss) fun o => ?_
    cases o with
    | none => exact Fwd.ok a
    | some s => exact Fwd.bind hc fun b => Fwd.bind (Fwd.lay L _) fun a' => Fwd.two hc ss g a'
theorem Fwd.twoP {cl : PM Int} (hc : Fwd cl) (ss : List ByteArray) : Fwd (twoP L cl ss) := Fwd.bind hc fun a => Fwd.two L hc ss _ a
theorem Fwd.comp {o : PM Int} (ho : Fwd o) : Fwd (compP L o) := by
  have hj : Fwd (joinP L o) := Fwd.twoP L (Fwd.twoP L (Fwd.twoP L ho _) _) _
  refine Fwd.bind hj fun a => Fwd.bind (Fwd.oneOf L _) fun o => ?_
  cases o with
  | none => exact Fwd.ok a
  | some s => exact Fwd.bind hj fun b => Fwd.lay L _
theorem Fwd.or {o : PM Int} (ho : Fwd o) : Fwd (orP L o) := Fwd.twoP L (Fwd.twoP L (Fwd.comp L ho) _) _
theorem Fwd.within (k : Int) (d : Nat) {o1 : PM Int} (ho : Fwd o1) : Fwd (withinP L k d o1) := Fwd.bind (Fwd.deep L _) fun _ => Fwd.bind ho fun _ => Fwd.lay L _
theorem Fwd.one (d : Nat) {e1 o1 : PM Int} (he : Fwd e1) (ho : Fwd o1) : Fwd (oneP L d e1 o1) := by
  have sk : ∀ {p : PM Int}, Fwd p → Fwd (pbind skipP fun _ => p) := fun hp => Fwd.bind Fwd.skip fun _ => hp
  have hs : Fwd (signedP L d e1 o1) := by
    intro m n v m1 ns h
    unfold signedP at h
    split at h
    · exact sk (Fwd.within L _ d ho) _ _ _ _ _ h
    split at h
    · exact sk (Fwd.bind he fun _ => Fwd.bind (Fwd.must L _) fun _ => Fwd.ok _) _ _ _ _ _ h
    · exact Fwd.no L _ _ _ _ _ _ h
  have hw : Fwd (wordedP L d e1 o1) := by
    intro m n v m1 ns h
    unfold wordedP at h
    split at h
    · split at h
      · exact sk (Fwd.within L _ d ho) _ _ _ _ _ h
      split at h
      · exact sk (Fwd.lay L _) _ _ _ _ _ h
      split at h
      · exact sk (Fwd.lay L _) _ _ _ _ _ h
      split at h
      · exact sk (Fwd.lay L _) _ _ _ _ _ h
      · exact Fwd.no L _ _ _ _ _ _ h
    · exact Fwd.bind Fwd.skip (fun _ => Fwd.bind (Fwd.must L _) fun _ => Fwd.bind he fun _ => Fwd.bind (Fwd.must L _) fun _ => Fwd.lay L _) _ _ _ _ _ h
  intro m n v m1 ns h
  unfold oneP at h
  split at h
  · exact sk (Fwd.lay L _) _ _ _ _ _ h
  split at h
  · exact sk (Fwd.lay L _) _ _ _ _ _ h
  split at h
  · exact sk (Fwd.lay L _) _ _ _ _ _ h
  split at h
  · exact hs _ _ _ _ _ h
  split at h
  · exact hw _ _ _ _ _ h
  · exact Fwd.no L _ _ _ _ _ _ h
theorem Fwd.exprD : ∀ D, Fwd (exprD L D).1 ∧ Fwd (exprD L D).2
  | 0 => ⟨Fwd.no L _, Fwd.no L _⟩
  | D + 1 => by
    have := Fwd.exprD D
    have ho := Fwd.one L (16 - D) this.1 this.2
    exact ⟨Fwd.or L ho, ho⟩
theorem Fwd.braced {b : PM Int} (hb : Fwd b) : Fwd (bracedP L b) := Fwd.bind (Fwd.must L _) fun _ => Fwd.bind hb fun _ => Fwd.bind (Fwd.must L _) fun _ => Fwd.ok _
theorem Fwd.loop {st : PM Int} (hs : Fwd st) : ∀ g fi la acc m n v m1 ns, blockLoop st g fi la acc m n = .ok (v, m1, ns) → m ≤ m1
  | 0, fi, la, acc, m, n, v, m1, ns, h => by simp [blockLoop] at h; omega
  | g + 1, fi, la, acc, m, n, v, m1, ns, h => by
    rw [blockLoop] at h
    cases hst : st m (n + acc.length) with
    | error e => rw [hst] at h; simp at h
    | ok x =>
      obtain ⟨i, m2, ns2⟩ := x
      rw [hst] at h
      dsimp only at h
      have h1 := hs _ _ _ _ _ hst
      split at h
      · simp at h; omega
      split at h
      · exact Nat.le_trans h1 (Fwd.loop hs g _ _ _ _ _ _ _ _ h)
      · exact Nat.le_trans h1 (Fwd.loop hs g _ _ _ _ _ _ _ _ h)
theorem Fwd.blockD : ∀ D, Fwd (blockD L D)
  | 0 => Fwd.no L _
  | D + 1 => fun m n v m1 ns h => Fwd.loop (Fwd.stmt (Fwd.exprD L (D + 1)).1 (Fwd.braced L (Fwd.blockD D))) _ _ _ _ _ _ _ _ _ h
end
end Go.Proofs.Ytoaaklcbcbjaiaa
