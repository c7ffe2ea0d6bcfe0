/- ValueTexts: what is joined, how long a text is, the other one of yes and no, and what is shown, of any values, are the document's, or refused with its error. The row lists strconv's and math/bits' tables. -/
import Derived.Test.YtoaaklcbcbjaiaaDoorTxt2
import Derived.Test.YtoaaklcbcbjaiaaDoorTxtR
import Derived.Test.YtoaaklcbcbjaiaaDoorTie
import Derived.Test.YtoaaklcbcbjaiaaDoorCards
set_option linter.unusedSimpArgs false
set_option linter.unusedVariables false
namespace Go.Proofs.YtoaaklcbcbjaiaaDoor
open Go.RowKit

theorem may_ways {k i : Int} {s : ByteArray} (h : mayB k i s = true) : (k = 0 ∧ i = 0) ∨ (k = 1 ∧ i = 0) ∨ (k = 1 ∧ i = 1) ∨ k = 2 ∨ (k = 3 ∧ i = 0) := by
  simp [mayB] at h
  omega
theorem few_size (s : ByteArray) : (fewS s).size ≤ 200 := by
  unfold fewS
  split
  · simp; omega
  · omega
theorem is_same (k i : Int) (s : ByteArray) (e : Int) (w : World) : Calls Tryd.prog 14 #[.agg #[.int .i64 k, .int .i64 i, .string s], .int .i64 e, .agg #[.int .i64 k, .int .i64 i, .string s], .int .i64 e] w fun r w' => r = .returned (.bool true) ∧ Ext w w' := by
  have h := is_any k i s e k i s e w
  have e1 : (eqV k i s k i s && e == e) = true := by simp [eqV]
  rwa [e1] at h

theorem w_nil  (sa s : ByteArray) (k' i' : Int) (sb s' : ByteArray) (hs : s.size ≤ 200) (hs' : s'.size ≤ 200) (w : World) (PB : Nat) (hP : Pow10 PB w) (hpg : PB ≤ w.heap.size) (h : mayB 0 0 s = true)
    (FA : ∀ w, Calls Tryd.prog 4 #[.agg #[.int .i64 0, .int .i64 0, .string sa]] w fun e w' => e = .returned (.agg #[.int .i64 0, .int .i64 0, .string s]) ∧ Ext w w') (FB : ∀ w, Calls Tryd.prog 4 #[.agg #[.int .i64 k', .int .i64 i', .string sb]] w fun e w' => e = .returned (.agg #[.int .i64 k', .int .i64 i', .string s']) ∧ Ext w w') :
    Calls Tryd.prog 3 #[.agg #[.int .i64 0, .int .i64 0, .string sa], .agg #[.int .i64 k', .int .i64 i', .string sb]] w fun e w' => e = .returned (.bool true) ∧ Ext w w' := by
  have hz : (9223372036854775807 < s.size + s'.size) = False := by simp; omega
  cases hb : mayB k' i' s'
  · exact vt_nil_b1 sa s k' i' sb s' hz w (Lib.hid fun w => FA w) (Lib.hid fun w => FB w) (Lib.hid fun w => join_bad2 0 0 s k' i' s' h hb w) (Lib.hid fun w => length_err 0 0 s 10 (by decide) (Lib.hid fun w => of_other 0 0 s 3 h rfl w) w) (Lib.hid fun w => not_err 0 0 s 10 (by decide) (Lib.hid fun w => of_other 0 0 s 1 h rfl w) w) (Lib.hid (fun w => show_nil 0 s w h)) (Lib.hid fun w => (by have := rmay_any 0 0 s w; rw [h] at this; exact this)) (Lib.hid fun w => rshow_nil 0 s w) (Lib.hid fun w => (by have := rmay_any k' i' s' w; rw [hb] at this; exact this)) (Lib.hid fun w => is_same 0 0 ⟨#[]⟩ 1 w)
  · exact vt_nil_b2 sa s k' i' sb s' hz w (Lib.hid fun w => FA w) (Lib.hid fun w => FB w) (Lib.hid fun w => join_kind1 0 0 s k' i' s' h hb rfl w) (Lib.hid fun w => length_err 0 0 s 10 (by decide) (Lib.hid fun w => of_other 0 0 s 3 h rfl w) w) (Lib.hid fun w => not_err 0 0 s 10 (by decide) (Lib.hid fun w => of_other 0 0 s 1 h rfl w) w) (Lib.hid (fun w => show_nil 0 s w h)) (Lib.hid fun w => (by have := rmay_any 0 0 s w; rw [h] at this; exact this)) (Lib.hid fun w => rshow_nil 0 s w) (Lib.hid fun w => (by have := rmay_any k' i' s' w; rw [hb] at this; exact this)) (Lib.hid fun w => is_same 0 0 ⟨#[]⟩ 10 w)

theorem w_no  (sa s : ByteArray) (k' i' : Int) (sb s' : ByteArray) (hs : s.size ≤ 200) (hs' : s'.size ≤ 200) (w : World) (PB : Nat) (hP : Pow10 PB w) (hpg : PB ≤ w.heap.size) (h : mayB 1 0 s = true)
    (FA : ∀ w, Calls Tryd.prog 4 #[.agg #[.int .i64 1, .int .i64 0, .string sa]] w fun e w' => e = .returned (.agg #[.int .i64 1, .int .i64 0, .string s]) ∧ Ext w w') (FB : ∀ w, Calls Tryd.prog 4 #[.agg #[.int .i64 k', .int .i64 i', .string sb]] w fun e w' => e = .returned (.agg #[.int .i64 k', .int .i64 i', .string s']) ∧ Ext w w') :
    Calls Tryd.prog 3 #[.agg #[.int .i64 1, .int .i64 0, .string sa], .agg #[.int .i64 k', .int .i64 i', .string sb]] w fun e w' => e = .returned (.bool true) ∧ Ext w w' := by
  have hz : (9223372036854775807 < s.size + s'.size) = False := by simp; omega
  cases hb : mayB k' i' s'
  · exact vt_no_b1 sa s k' i' sb s' hz w (Lib.hid fun w => FA w) (Lib.hid fun w => FB w) (Lib.hid fun w => join_bad2 1 0 s k' i' s' h hb w) (Lib.hid fun w => length_err 1 0 s 10 (by decide) (Lib.hid fun w => of_other 1 0 s 3 h rfl w) w) (Lib.hid fun w => not_ok 0 s true rfl (Lib.hid fun w => of_same 1 0 s h w) w) (Lib.hid (fun w => show_false s w h)) (Lib.hid fun w => (by have := rmay_any 1 0 s w; rw [h] at this; exact this)) (Lib.hid fun w => rshow_false s w) (Lib.hid fun w => (by have := rmay_any k' i' s' w; rw [hb] at this; exact this)) (Lib.hid fun w => is_same 0 0 ⟨#[]⟩ 1 w)
  · exact vt_no_b2 sa s k' i' sb s' hz w (Lib.hid fun w => FA w) (Lib.hid fun w => FB w) (Lib.hid fun w => join_kind1 1 0 s k' i' s' h hb rfl w) (Lib.hid fun w => length_err 1 0 s 10 (by decide) (Lib.hid fun w => of_other 1 0 s 3 h rfl w) w) (Lib.hid fun w => not_ok 0 s true rfl (Lib.hid fun w => of_same 1 0 s h w) w) (Lib.hid (fun w => show_false s w h)) (Lib.hid fun w => (by have := rmay_any 1 0 s w; rw [h] at this; exact this)) (Lib.hid fun w => rshow_false s w) (Lib.hid fun w => (by have := rmay_any k' i' s' w; rw [hb] at this; exact this)) (Lib.hid fun w => is_same 0 0 ⟨#[]⟩ 10 w)

theorem w_yes  (sa s : ByteArray) (k' i' : Int) (sb s' : ByteArray) (hs : s.size ≤ 200) (hs' : s'.size ≤ 200) (w : World) (PB : Nat) (hP : Pow10 PB w) (hpg : PB ≤ w.heap.size) (h : mayB 1 1 s = true)
    (FA : ∀ w, Calls Tryd.prog 4 #[.agg #[.int .i64 1, .int .i64 1, .string sa]] w fun e w' => e = .returned (.agg #[.int .i64 1, .int .i64 1, .string s]) ∧ Ext w w') (FB : ∀ w, Calls Tryd.prog 4 #[.agg #[.int .i64 k', .int .i64 i', .string sb]] w fun e w' => e = .returned (.agg #[.int .i64 k', .int .i64 i', .string s']) ∧ Ext w w') :
    Calls Tryd.prog 3 #[.agg #[.int .i64 1, .int .i64 1, .string sa], .agg #[.int .i64 k', .int .i64 i', .string sb]] w fun e w' => e = .returned (.bool true) ∧ Ext w w' := by
  have hz : (9223372036854775807 < s.size + s'.size) = False := by simp; omega
  cases hb : mayB k' i' s'
  · exact vt_yes_b1 sa s k' i' sb s' hz w (Lib.hid fun w => FA w) (Lib.hid fun w => FB w) (Lib.hid fun w => join_bad2 1 1 s k' i' s' h hb w) (Lib.hid fun w => length_err 1 1 s 10 (by decide) (Lib.hid fun w => of_other 1 1 s 3 h rfl w) w) (Lib.hid fun w => not_ok 1 s false rfl (Lib.hid fun w => of_same 1 1 s h w) w) (Lib.hid (fun w => show_true s w h)) (Lib.hid fun w => (by have := rmay_any 1 1 s w; rw [h] at this; exact this)) (Lib.hid fun w => rshow_true s w) (Lib.hid fun w => (by have := rmay_any k' i' s' w; rw [hb] at this; exact this)) (Lib.hid fun w => is_same 0 0 ⟨#[]⟩ 1 w)
  · exact vt_yes_b2 sa s k' i' sb s' hz w (Lib.hid fun w => FA w) (Lib.hid fun w => FB w) (Lib.hid fun w => join_kind1 1 1 s k' i' s' h hb rfl w) (Lib.hid fun w => length_err 1 1 s 10 (by decide) (Lib.hid fun w => of_other 1 1 s 3 h rfl w) w) (Lib.hid fun w => not_ok 1 s false rfl (Lib.hid fun w => of_same 1 1 s h w) w) (Lib.hid (fun w => show_true s w h)) (Lib.hid fun w => (by have := rmay_any 1 1 s w; rw [h] at this; exact this)) (Lib.hid fun w => rshow_true s w) (Lib.hid fun w => (by have := rmay_any k' i' s' w; rw [hb] at this; exact this)) (Lib.hid fun w => is_same 0 0 ⟨#[]⟩ 10 w)

theorem w_int (i : Int) (hi : In64 i) (sa s : ByteArray) (k' i' : Int) (sb s' : ByteArray) (hs : s.size ≤ 200) (hs' : s'.size ≤ 200) (w : World) (PB : Nat) (hP : Pow10 PB w) (hpg : PB ≤ w.heap.size) (h : mayB 2 i s = true)
    (FA : ∀ w, Calls Tryd.prog 4 #[.agg #[.int .i64 2, .int .i64 i, .string sa]] w fun e w' => e = .returned (.agg #[.int .i64 2, .int .i64 i, .string s]) ∧ Ext w w') (FB : ∀ w, Calls Tryd.prog 4 #[.agg #[.int .i64 k', .int .i64 i', .string sb]] w fun e w' => e = .returned (.agg #[.int .i64 k', .int .i64 i', .string s']) ∧ Ext w w') :
    Calls Tryd.prog 3 #[.agg #[.int .i64 2, .int .i64 i, .string sa], .agg #[.int .i64 k', .int .i64 i', .string sb]] w fun e w' => e = .returned (.bool true) ∧ Ext w w' := by
  have hz : (9223372036854775807 < s.size + s'.size) = False := by simp; omega
  cases hb : mayB k' i' s'
  · exact vt_int_b1 i sa s k' i' sb s' hz PB w (Lib.hid fun w => FA w) (Lib.hid fun w => FB w) (Lib.hid fun w => join_bad2 2 i s k' i' s' h hb w) (Lib.hid fun w => length_err 2 i s 10 (by decide) (Lib.hid fun w => of_other 2 i s 3 h rfl w) w) (Lib.hid fun w => not_err 2 i s 10 (by decide) (Lib.hid fun w => of_other 2 i s 1 h rfl w) w) (Lib.hid (fun w hp hb2 => show_int i s hi.1 hi.2 w h PB hp hb2)) (Lib.hid fun w => (by have := rmay_any 2 i s w; rw [h] at this; exact this)) (Lib.hid hP) hpg (Lib.hid fun w => rshow_int i s hi w) (Lib.hid fun w => (by have := rmay_any k' i' s' w; rw [hb] at this; exact this)) (Lib.hid fun w => is_same 0 0 ⟨#[]⟩ 1 w)
  · exact vt_int_b2 i sa s k' i' sb s' hz PB w (Lib.hid fun w => FA w) (Lib.hid fun w => FB w) (Lib.hid fun w => join_kind1 2 i s k' i' s' h hb rfl w) (Lib.hid fun w => length_err 2 i s 10 (by decide) (Lib.hid fun w => of_other 2 i s 3 h rfl w) w) (Lib.hid fun w => not_err 2 i s 10 (by decide) (Lib.hid fun w => of_other 2 i s 1 h rfl w) w) (Lib.hid (fun w hp hb2 => show_int i s hi.1 hi.2 w h PB hp hb2)) (Lib.hid fun w => (by have := rmay_any 2 i s w; rw [h] at this; exact this)) (Lib.hid hP) hpg (Lib.hid fun w => rshow_int i s hi w) (Lib.hid fun w => (by have := rmay_any k' i' s' w; rw [hb] at this; exact this)) (Lib.hid fun w => is_same 0 0 ⟨#[]⟩ 10 w)

theorem w_text  (sa s : ByteArray) (k' i' : Int) (sb s' : ByteArray) (hs : s.size ≤ 200) (hs' : s'.size ≤ 200) (w : World) (PB : Nat) (hP : Pow10 PB w) (hpg : PB ≤ w.heap.size) (h : mayB 3 0 s = true)
    (FA : ∀ w, Calls Tryd.prog 4 #[.agg #[.int .i64 3, .int .i64 0, .string sa]] w fun e w' => e = .returned (.agg #[.int .i64 3, .int .i64 0, .string s]) ∧ Ext w w') (FB : ∀ w, Calls Tryd.prog 4 #[.agg #[.int .i64 k', .int .i64 i', .string sb]] w fun e w' => e = .returned (.agg #[.int .i64 k', .int .i64 i', .string s']) ∧ Ext w w') :
    Calls Tryd.prog 3 #[.agg #[.int .i64 3, .int .i64 0, .string sa], .agg #[.int .i64 k', .int .i64 i', .string sb]] w fun e w' => e = .returned (.bool true) ∧ Ext w w' := by
  have hz : (9223372036854775807 < s.size + s'.size) = False := by simp; omega
  cases hb : mayB k' i' s'
  · exact vt_text_b1 sa s k' i' sb s' hz w (Lib.hid fun w => FA w) (Lib.hid fun w => FB w) (Lib.hid fun w => join_bad2 3 0 s k' i' s' h hb w) (Lib.hid fun w => length_ok 0 s (Lib.hid fun w => of_same 3 0 s h w) w) (Lib.hid fun w => not_err 3 0 s 10 (by decide) (Lib.hid fun w => of_other 3 0 s 1 h rfl w) w) (Lib.hid (fun w => show_text s w h)) (Lib.hid fun w => (by have := rmay_any 3 0 s w; rw [h] at this; exact this)) (Lib.hid fun w => rshow_text 0 s w) (Lib.hid fun w => (by have := rmay_any k' i' s' w; rw [hb] at this; exact this)) (Lib.hid fun w => is_same 0 0 ⟨#[]⟩ 1 w)
  · cases hk : (k' == 3)
    · exact vt_text_b2 sa s k' i' sb s' hz (by simpa using hk) hk w (Lib.hid fun w => FA w) (Lib.hid fun w => FB w) (Lib.hid fun w => join_kind2 3 0 s k' i' s' h hb rfl hk w) (Lib.hid fun w => length_ok 0 s (Lib.hid fun w => of_same 3 0 s h w) w) (Lib.hid fun w => not_err 3 0 s 10 (by decide) (Lib.hid fun w => of_other 3 0 s 1 h rfl w) w) (Lib.hid (fun w => show_text s w h)) (Lib.hid fun w => (by have := rmay_any 3 0 s w; rw [h] at this; exact this)) (Lib.hid fun w => rshow_text 0 s w) (Lib.hid fun w => (by have := rmay_any k' i' s' w; rw [hb] at this; exact this)) (Lib.hid fun w => is_same 0 0 ⟨#[]⟩ 10 w)
    · have hk3 : k' = 3 := by simpa using hk
      subst hk3
      rcases Nat.lt_or_ge 64 (s.size + s'.size) with h64 | h64
      · exact vt_text_b3 sa s 3 i' sb s' hz (by omega) (by omega) (by omega) w (Lib.hid fun w => FA w) (Lib.hid fun w => FB w) (Lib.hid fun w => join_full 3 0 s 3 i' s' h hb rfl rfl (by rw [ByteArray.size_append]; omega) (by omega) w) (Lib.hid fun w => length_ok 0 s (Lib.hid fun w => of_same 3 0 s h w) w) (Lib.hid fun w => not_err 3 0 s 10 (by decide) (Lib.hid fun w => of_other 3 0 s 1 h rfl w) w) (Lib.hid (fun w => show_text s w h)) (Lib.hid fun w => (by have := rmay_any 3 0 s w; rw [h] at this; exact this)) (Lib.hid fun w => rshow_text 0 s w) (Lib.hid fun w => (by have := rmay_any 3 i' s' w; rw [hb] at this; exact this)) (Lib.hid fun w => is_same 0 0 ⟨#[]⟩ 5 w)
      · exact vt_text_b4 sa s 3 i' sb s' hz (by omega) w (Lib.hid fun w => FA w) (Lib.hid fun w => FB w) (Lib.hid fun w => join_ok 3 0 s 3 i' s' h hb rfl rfl (by rw [ByteArray.size_append]; omega) (by omega) w) (Lib.hid fun w => length_ok 0 s (Lib.hid fun w => of_same 3 0 s h w) w) (Lib.hid fun w => not_err 3 0 s 10 (by decide) (Lib.hid fun w => of_other 3 0 s 1 h rfl w) w) (Lib.hid (fun w => show_text s w h)) (Lib.hid fun w => (by have := rmay_any 3 0 s w; rw [h] at this; exact this)) (Lib.hid fun w => rshow_text 0 s w) (Lib.hid fun w => (by have := rmay_any 3 i' s' w; rw [hb] at this; exact this)) (Lib.hid fun w => is_same 3 0 (s ++ s') 0 w)

theorem vt_walk (k i : Int) (sa : ByteArray) (k' i' : Int) (sb : ByteArray) (hi : In64 i) (w : World) (PB : Nat) (hP : Pow10 PB w) (hpg : PB ≤ w.heap.size) :
    Calls Tryd.prog 3 #[.agg #[.int .i64 k, .int .i64 i, .string sa], .agg #[.int .i64 k', .int .i64 i', .string sb]] w fun e w' => e = .returned (.bool true) ∧ Ext w w' := by
  have FB := fun w => few_any k' i' sb w
  have hs := few_size sa
  have hs' := few_size sb
  cases h : mayB k i (fewS sa)
  · exact vt_bad k i sa (fewS sa) k' i' sb (fewS sb) w (Lib.hid fun w => few_any k i sa w) (Lib.hid FB) (Lib.hid fun w => join_bad1 k i _ k' i' _ h w) (Lib.hid fun w => length_err k i _ 1 (by decide) (Lib.hid fun w => of_bad k i _ 3 h w) w) (Lib.hid fun w => not_err k i _ 1 (by decide) (Lib.hid fun w => of_bad k i _ 1 h w) w) (Lib.hid fun w => show_bad k i _ h w) (Lib.hid fun w => (by have := rmay_any k i (fewS sa) w; rw [h] at this; exact this))
  · rcases may_ways h with ⟨rfl, rfl⟩ | ⟨rfl, rfl⟩ | ⟨rfl, rfl⟩ | rfl | ⟨rfl, rfl⟩
    · exact w_nil sa _ k' i' sb _ hs hs' w PB hP hpg h (fun w => few_any 0 0 sa w) FB
    · exact w_no sa _ k' i' sb _ hs hs' w PB hP hpg h (fun w => few_any 1 0 sa w) FB
    · exact w_yes sa _ k' i' sb _ hs hs' w PB hP hpg h (fun w => few_any 1 1 sa w) FB
    · exact w_int i hi sa _ k' i' sb _ hs hs' w PB hP hpg h (fun w => few_any 2 i sa w) FB
    · exact w_text sa _ k' i' sb _ hs hs' w PB hP hpg h (fun w => few_any 3 0 sa w) FB

theorem in64_of {n : Int} (h : (Lit.int .i64 n).wf = true) : In64 n := by
  unfold In64; simp only [Lit.wf, Bool.and_eq_true, decide_eq_true_eq] at h; exact h

namespace ValueTextsRow
/-! ### The row, and the card -/
section
open Go.ChangeShapes Go.WideShapes Go.ChangeAt Go.RowKit Go.Joins
open Go.ChangeMaps (open_string shut_string)
theorem own : ownKnob Tryd.prog.godebug = none := by kernel_rfl
theorem laid : laidOutB Tryd.prog = true := by kernel_rfl
theorem valueCells : Tryd.prog.cellsOf 23 = 3 := by kernel_rfl

set_option maxRecDepth 100000 in
theorem lifted (os : Os) (started : os.Started) (H : Type) (enc : TypeId × Value → H) :
    ReturnsInHanded {} Tryd.checked os 3 .any (fun w args => (Rows.valueTextsSpec.pre enc Tryd.prog Tryd.f3 Rows.valueTextsRow.domain false w args ∧ laidMetH Tryd.prog Rows.valueTextsRow.laid w) ∧ sizedMet enc Tryd.prog Tryd.f3 (OpenSpec.ofChange Rows.valueTextsSpec) false w args) (Rows.valueTextsSpec.post enc Tryd.prog Tryd.f3 false true false false) := by
  refine returnsInHanded_of_change_and (C := Tryd.checked) (X := fun w _ => laidMetH Tryd.prog Rows.valueTextsRow.laid w) (fun _ _ _ hh h => h.of_heap hh) own started (by kernel_rfl) Tryd.func3
    (ChangeSpec.witness_shaped (enc := enc) (C := Tryd.checked) (os := os) (X := fun w _ => laidMetH Tryd.prog Rows.valueTextsRow.laid w) false (World.doorLaid Tryd.prog 24 os) #[.agg #[.int .i64 0, .int .i64 0, .string ⟨#[]⟩], .agg #[.int .i64 0, .int .i64 0, .string ⟨#[]⟩]] 8 rfl (World.shaped_of_RefB (by kernel_rfl) (by kernel_rfl)) (by kernel_rfl) (by kernel_rfl) (by kernel_rfl) (door_met os _)) ?_
  intro W base args ds gs before hval0 hW hcnd hsz0 hL _
  have hval : ∀ (j : Nat) t v, Tryd.f3.params[j]? = some t → args[j]? = some v → Value.okWide Tryd.prog W .any base t v := hval0
  have hW' := hW
  obtain ⟨p, q, hA0, hV, rfl, hfz, hnd⟩ := hW
  have hA : DataW.TrodAll enc Tryd.prog W 0 (fun _ => true) true Tryd.f3.params.toList args.toList ds p := hA0
  have hAk := hA
  have hpr : Tryd.f3.params.toList.all (fun t => Tryd.prog.readableRec t && decide (t < Tryd.prog.types.size)) = true := by kernel_rfl
  have hlt := hA.lt
  obtain ⟨rfl, rfl⟩ := trodVars_none hV
  have hsz : (DataW.weightsEach Tryd.prog (Tryd.f3.params.toList ++ []) (ds ++ [])).all (· ≤ reachBytes) = true := hsz0
  rw [Tryd.params3] at hA hval hsz
  simp only [List.append_nil] at hsz
  obtain ⟨v0, vs0, d0, ds0, p0, q0, hargs, rfl, rfl, h0, r0⟩ := trodAll_cons hA
  obtain ⟨v1, vs1, d1, ds1, p1, q1, rfl, rfl, rfl, h1, r1⟩ := trodAll_cons r0
  obtain ⟨rfl, rfl, rfl⟩ := trodAll_nil r1
  obtain rfl : args = #[v0, v1] := by cases args; simp_all
  obtain ⟨c00, c01, c02, y00, y01, y02, m0, rfl, rfl, rfl, hy00, hy01, hy02⟩ := open_agg3 Tryd.underlying23 (by kernel_rfl) valueCells (hval 0 23 v0 rfl rfl) h0
  obtain ⟨a_k, e00, rfl, wa_k⟩ := DataW.trod_int Tryd.underlying3 hy00
  obtain ⟨a_i, e01, rfl, wa_i⟩ := DataW.trod_int Tryd.underlying2 hy01
  obtain ⟨a_s, e02, rfl, wa_s⟩ := DataW.trod_string Tryd.underlying9 hy02
  simp at e00 e01 e02
  subst e00 e01 e02
  obtain ⟨c10, c11, c12, y10, y11, y12, m1, rfl, rfl, rfl, hy10, hy11, hy12⟩ := open_agg3 Tryd.underlying23 (by kernel_rfl) valueCells (hval 1 23 v1 rfl rfl) h1
  obtain ⟨b_k, e10, rfl, wb_k⟩ := DataW.trod_int Tryd.underlying3 hy10
  obtain ⟨b_i, e11, rfl, wb_i⟩ := DataW.trod_int Tryd.underlying2 hy11
  obtain ⟨b_s, e12, rfl, wb_s⟩ := DataW.trod_string Tryd.underlying9 hy12
  simp at e10 e11 e12
  subst e10 e11 e12
  clear hA0 hval0 hsz0
  refine (vt_walk a_k a_i a_s b_k b_i b_s (in64_of wa_i) W W.heap.size (of_laid hL) (Nat.le_refl _)).mono fun e W' ⟨he, hx⟩ => ?_
  subst he
  exact ⟨_, rfl, _, _, _, [], _, [], hW', trodAll_mk1 (shut_bool Tryd.underlying4 _), trodAll_below laid hx.below hpr hAk hlt, rfl, hx.below.frame _, fun h => by cases h⟩

theorem row_proved : Rows.ValueTextsSaid :=
  OpenClaim.holds_of_wide 3 Tryd.f3 rfl rfl rfl rfl rfl rfl rfl ⟨rfl, rfl, rfl, rfl, rfl⟩ rfl rfl rfl rfl rfl (by kernel_rfl) Tryd.func3 (by kernel_rfl)
    (of_decide_eq_true (by kernel_rfl)) (by unfold Func.isWrapper; first | (rw [if_pos (by decide +kernel)]; kernel_rfl) | (rw [if_neg (by decide +kernel)]; exact ⟨rfl, rfl⟩))
    (fun os started H enc _ => lifted os started H enc)
theorem proved : Rows.ValueTextsCardSaid :=
  Claim7.holds_tied_plain_at .later [] Rows.valueTextsCard.laidKinds true Rows.valueTextsCard.stood.harness Rows.valueTextsCard.stood.looks
    row_proved (fun _ h => by cases h) (by kernel_rfl) (fun _ h => by cases h) valueTexts_row_tie rfl ⟨rfl, rfl⟩ (by kernel_rfl) rfl
    (fun f fn hf hfn => by
      obtain rfl : f = 3 := Option.some.inj ((show Tryd.prog.funcNamed "plenum/plenumlaw07.ValueTexts" = some 3 by kernel_rfl).symm.trans hf) |>.symm
      obtain rfl : fn = Tryd.f3 := (Option.some.inj (Tryd.func3.symm.trans hfn)).symm
      exact ⟨by kernel_rfl, fun j t ht => by
        rw [Tryd.params3] at ht
        have key : ∀ t ∈ Tryd.f3.params.toList, Tryd.prog.wantsStandIn t = false := by decide +kernel
        exact key t (by rw [Tryd.params3]; exact List.mem_of_getElem? (by simpa using ht))⟩) (by kernel_rfl)
end
#print axioms proved
end ValueTextsRow
end Go.Proofs.YtoaaklcbcbjaiaaDoor
