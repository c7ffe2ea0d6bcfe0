/- chapter 02: few, awake. -/
import Derived.Test.YtojejhmodaaoiaaDoorTm2
set_option linter.unusedSimpArgs false
set_option linter.unusedVariables false
namespace Go.Proofs.YtojejhmodaaoiaaDoor
open Go.RowKit

/-- what is left of a call on a table, as far as a law needs it -/
def TabPost (B bt bm : Nat) (l : List ByteArray) (v : Value) (w : World) (e : Ending) (w' : World) : Prop := e = .returned v ∧ (∃ tv, TabAt B bt bm tv l w') ∧ Below B w w'
theorem OfPost.tab {B bt bm : Nat} {tv : Value} {l : List ByteArray} {n : Nat} {er : Int} {r : List ByteArray × Nat × Int} {w w' : World} {e : Ending} {tl : List ByteArray} (h : OfPost B bt bm tv r w e w') (ht : TabAt B bt bm tv tl w) (hr : r = (l, n, er)) :
    TabPost B bt bm l (.tuple #[.int .i64 (n : Int), .int .i64 er]) w e w' := by
  subst hr
  obtain ⟨he, tv', h1, h2, _⟩ := h
  have hc := ht.cells
  obtain ⟨a1, a2, _, _, _, a6, _⟩ := ht
  exact ⟨he, ⟨tv', h1⟩, h2.below a1 a2 (fun k hk => (a6.lt k hk).1) (by omega)⟩
theorem of_r {B bt bm : Nat} {tv : Value} {l l' : List ByteArray} {s : ByteArray} {n : Nat} {er : Int} (hs : s.size ≤ maxLen) (hr : ofF l s = (l', n, er)) (w : World) (h : TabAt B bt bm tv l w) :
    Calls Tryd.prog 7 #[.pointer (some ⟨bt, 0, none⟩), .string s] w (TabPost B bt bm l' (.tuple #[.int .i64 (n : Int), .int .i64 er]) w) :=
  (of_any B bt bm tv l s hs w h).mono fun e w' hp => hp.tab h hr
theorem list_r {B bt bm : Nat} {tv : Value} {l l' : List ByteArray} {v : Value} {zs : List Int} {n : Nat} {er : Int} (hl : zs.length ≤ 60) (h64 : In64L zs) (hr : ofF l ⟨(digF zs).toArray⟩ = (l', n, er)) (w : World) (hc : IntsAt w v zs) (PB : Nat) (hP : Pow10 PB w) (hpg : PB ≤ w.heap.size) (h : TabAt B bt bm tv l w) :
    Calls Tryd.prog 11 #[.pointer (some ⟨bt, 0, none⟩), v] w (TabPost B bt bm l' (.tuple #[.int .i64 (n : Int), .int .i64 er]) w) :=
  (list_any B bt bm tv l v zs hl h64 w hc PB hP hpg h).mono fun e w' hp => hp.tab h hr

set_option maxHeartbeats 1000000 in
theorem text_none (B bt bm : Nat) (tv : Value) (l : List ByteArray) (n : Int) (hn : n < 1 ∨ (l.length : Int) < n) (w : World) (h : TabAt B bt bm tv l w) :
    Calls Tryd.prog 8 #[.pointer (some ⟨bt, 0, none⟩), .int .i64 n] w fun e w' => e = .returned (.tuple #[.string ⟨#[]⟩, .int .i64 6]) ∧ w = w' := by
  obtain ⟨c0, c1, f0, f1, hb, hb2⟩ := h.cells
  obtain ⟨p, cap, rfl, hp, hcap⟩ := h.form
  by_cases h1 : n < 1
  · clear hn hp
    go_enter Tryd.func8, Tryd.ntmps8
    go_wp2_with fail
    go_ret2
    exact ⟨rfl, rfl⟩
  · have h2 : (l.length : Int) < n := hn.resolve_left h1
    have h1' : 1 ≤ n := by omega
    clear hn hp h1
    go_enter Tryd.func8, Tryd.ntmps8
    go_wp2_with fail
    go_ret2
    exact ⟨rfl, rfl⟩

theorem few_any (v : Value) (l : List Int) (w : World) (h : IntsAt w v l) : ∃ v', IntsAt w v' (l.take 60) ∧ Calls Tryd.prog 10 #[v] w fun e w' => e = .returned v' ∧ w = w' := by
  rcases h with ⟨p, cap, rfl, rfl⟩ | ⟨b, off, cap, rfl, h1, h2⟩
  · have : Calls Tryd.prog 10 #[.slice p 0 cap] w fun e w' => e = .returned (.slice p 0 cap) ∧ w = w' := by
      go_enter Tryd.func10, Tryd.ntmps10
      go_wp2_with fail
      go_ret
      exact ⟨rfl, rfl⟩
    exact ⟨_, Or.inl ⟨p, cap, rfl, rfl⟩, this⟩
  · obtain ⟨n, hn⟩ : ∃ n, l.length = n := ⟨_, rfl⟩
    rw [hn] at h1 ⊢
    have HH := Lib.hid h2
    by_cases h60 : 60 < n
    · have h60' : (60 : Int) < n := by omega
      have h60c : (60 : Int) ≤ cap := by omega
      have HN := Lib.hid hn
      clear h2 hn
      have : Calls Tryd.prog 10 #[.slice (some ⟨b, off, none⟩) n cap] w fun e w' => e = .returned (.slice (some ⟨b, off, none⟩) 60 cap) ∧ w = w' := by
        go_enter Tryd.func10, Tryd.ntmps10
        go_wp2_with fail
        go_ret
        exact ⟨rfl, rfl⟩
      refine ⟨_, Or.inr ⟨b, off, cap, ?_, ?_, ?_⟩, this⟩
      · have : (l.take 60).length = 60 := by rw [List.length_take, HN.out]; omega
        rw [this]
      · rw [List.length_take]; omega
      · intro j u hj
        refine HH.out j u ?_
        rw [List.getElem?_take] at hj
        split at hj
        · exact hj
        · simp at hj
    · have h60' : (n : Int) ≤ 60 := by omega
      have HN := Lib.hid hn
      clear h2 hn
      have : Calls Tryd.prog 10 #[.slice (some ⟨b, off, none⟩) n cap] w fun e w' => e = .returned (.slice (some ⟨b, off, none⟩) n cap) ∧ w = w' := by
        go_enter Tryd.func10, Tryd.ntmps10
        go_wp2_with fail
        go_ret
        exact ⟨rfl, rfl⟩
      have ht : l.take 60 = l := List.take_of_length_le (by have := HN.out; omega)
      refine ⟨_, ?_, this⟩
      rw [ht]
      exact Or.inr ⟨b, off, cap, by rw [HN.out], by have := HN.out; omega, HH.out⟩

theorem dig12 : (⟨(digF [1, -2]).toArray⟩ : ByteArray) = ⟨#[49, 44, 45, 50, 44]⟩ := by
  have e1 : Lib.itoa 1 = [49] := by unfold Lib.itoa; rw [if_neg (by decide)]; rw [Lib.decDigits_one (by decide)]; rfl
  have e2 : Lib.itoa (-2) = [45, 50] := by unfold Lib.itoa; rw [if_pos (by decide)]; rw [Lib.decDigits_one (by decide)]; rfl
  simp [digF, e1, e2]
theorem ints12 (w : World) : IntsAt (w.alloc (.cells #[.int .i64 1, .int .i64 (-2)] 3)) (.slice (some ⟨w.heap.size, 0, none⟩) 2 2) [1, -2] := by
  refine Or.inr ⟨w.heap.size, 0, 2, rfl, Nat.le_refl _, fun j u hj => ?_⟩
  match j, hj with
  | 0, hj => simp at hj; subst hj; simp only [World.cell?, Nat.zero_add, heap_alloc_new]; rfl
  | 1, hj => simp at hj; subst hj; simp only [World.cell?, Nat.zero_add, heap_alloc_new]; rfl
  | j + 2, hj => simp at hj

def aA : ByteArray := ⟨#[97]⟩
def aB : ByteArray := ⟨#[98]⟩
def aC : ByteArray := ⟨#[99]⟩
def aL : ByteArray := ⟨#[49, 44, 45, 50, 44]⟩
theorem x1 : ofF [] aA = ([aA], 1, 0) := by kernel_rfl
theorem x2 : ofF [aA] aB = ([aA, aB], 2, 0) := by kernel_rfl
theorem x3 : ofF [aA, aB] aA = ([aA, aB], 1, 0) := by kernel_rfl
theorem x4 : idxF [aA, aB] aC = 0 := by kernel_rfl
theorem x5 : ofF [aA, aB] ⟨(digF [1, -2]).toArray⟩ = ([aA, aB, aL], 3, 0) := by rw [dig12]; kernel_rfl
theorem x6 : ofF [aA, aB, aL] aL = ([aA, aB, aL], 3, 0) := by kernel_rfl
theorem has_c (B bt bm : Nat) (tv : Value) (w : World) (h : TabAt B bt bm tv [aA, aB] w) :
    Calls Tryd.prog 13 #[.pointer (some ⟨bt, 0, none⟩), .string ⟨#[99]⟩] w fun e w' => e = .returned (.tuple #[.int .i64 0, .bool false]) ∧ w = w' := by
  have := has_any B bt bm tv [aA, aB] aC (by decide) w h
  rw [x4] at this
  exact this

set_option maxHeartbeats 4000000 in
set_option maxRecDepth 20000 in
theorem awake_any (PB : Nat) (w : World) (hP : Pow10 PB w) (hpg : PB ≤ w.heap.size) : Calls Tryd.prog 9 #[] w fun e w' => e = .returned (.bool true) ∧ Ext w w' := by
  have HP := Lib.hid hP
  clear hP
  go_enter Tryd.func9, Tryd.ntmps9
  go_wp2_with (go_at_call 6; refine (new_any _).mono ?_; rintro e w1 ⟨rfl, hT1, hx1⟩; have T1 := Lib.hid hT1; have X1 := Lib.hid hx1.below; clear hT1 hx1)
  refine (of_r (B := w.heap.size) (bm := w.heap.size) (by decide) x1 _ T1.out).mono ?_
  rintro e w2 ⟨rfl, ⟨tv2, hT⟩, hx⟩; have T2 := Lib.hid hT; have X2 := Lib.hid (X1.out.trans hx); clear hT hx
  go_wp2_with fail
  refine (of_r (B := w.heap.size) (bm := w.heap.size) (by decide) x2 _ T2.out).mono ?_
  rintro e w3 ⟨rfl, ⟨tv3, hT⟩, hx⟩; have T3 := Lib.hid hT; have X3 := Lib.hid (X2.out.trans hx); clear hT hx
  go_wp2_with fail
  refine (of_r (B := w.heap.size) (bm := w.heap.size) (by decide) x3 _ T3.out).mono ?_
  rintro e w4 ⟨rfl, ⟨tv4, hT⟩, hx⟩; have T4 := Lib.hid hT; have X4 := Lib.hid (X3.out.trans hx); clear hT hx
  go_wp2_with fail
  refine (has_c w.heap.size _ w.heap.size tv4 _ T4.out).mono ?_
  rintro e _ ⟨rfl, rfl⟩
  go_wp2_with fail
  refine (text_ok w.heap.size _ w.heap.size tv4 [aA, aB] 1 ⟨#[98]⟩ rfl _ T4.out).mono ?_
  rintro e _ ⟨rfl, rfl⟩
  go_wp2_with fail
  refine (text_none w.heap.size _ w.heap.size tv4 [aA, aB] 3 (Or.inr (by decide)) _ T4.out).mono ?_
  rintro e _ ⟨rfl, rfl⟩
  go_wp2_with fail
  refine (list_r (B := w.heap.size) (bm := w.heap.size) (zs := [1, -2]) (by decide) (by intro u hu; simp at hu; rcases hu with rfl | rfl <;> decide) x5 _ (ints12 w4) PB ((HP.out.below X4.out hpg).below ((Below.refl w4.heap.size w4).alloc (Nat.le_refl _) _) (by have := X4.out.size; omega)) (by have := X4.out.size; simp; omega) (T4.out.ext ((Ext.refl _).alloc _))).mono ?_
  rintro e w5 ⟨rfl, ⟨tv5, hT⟩, hx⟩; have T5 := Lib.hid hT; have X5 := Lib.hid ((X4.out.alloc (by have := X4.out.size; omega) _).trans hx); clear hT hx
  go_wp2_with fail
  refine (of_r (B := w.heap.size) (bm := w.heap.size) (by decide) x6 _ T5.out).mono ?_
  rintro e w6 ⟨rfl, ⟨tv6, hT⟩, hx⟩; have T6 := Lib.hid hT; have X6 := Lib.hid (X5.out.trans hx); clear hT hx
  go_wp2_with fail
  go_ret
  exact ⟨by first | rfl | trivial | decide, Ext.of_below X6.out⟩
end Go.Proofs.YtojejhmodaaoiaaDoor
