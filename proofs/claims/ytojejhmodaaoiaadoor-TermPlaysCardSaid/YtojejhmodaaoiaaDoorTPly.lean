/- TermPlays: whatever is asked of a table, and of its clones, each answer is the document's. The row lists strconv's and math/bits' tables. -/
import Derived.Test.YtojejhmodaaoiaaDoorTmA
import Derived.Test.YtojejhmodaaoiaaDoorTm3
import Derived.Test.YtojejhmodaaoiaaDoorTie
import Derived.Test.YtojejhmodaaoiaaDoorCards
set_option linter.unusedSimpArgs false
set_option linter.unusedVariables false
namespace Go.Proofs.YtojejhmodaaoiaaDoor
open Go.RowKit

attribute [go_sem] more_more Array.size_append
/-- what is asked, in a block of the call's own -/
def ABlk (N : Nat) (a : Act) (w : World) : Prop := w.heap[N]? = some (.cells #[.int .i64 a.d, .int .i64 a.n, .string a.s, a.v] 38 (0, 0))
theorem ABlk.cells {N : Nat} {a : Act} {w : World} (h : ABlk N a w) : w.cell? ⟨N, 0, none⟩ = some (.int .i64 a.d) ∧ w.cell? ⟨N, 1, none⟩ = some (.int .i64 a.n) ∧ w.cell? ⟨N, 2, none⟩ = some (.string a.s) ∧ w.cell? ⟨N, 3, none⟩ = some a.v ∧ N < w.heap.size := by
  unfold ABlk at h
  exact ⟨by simp [World.cell?, h], by simp [World.cell?, h], by simp [World.cell?, h], by simp [World.cell?, h], (Array.getElem?_eq_some_iff.1 h).1⟩
def Frame1 (w w' : World) (N : Nat) : Prop := ∀ o, w.heap[N]? = some o → w'.heap[N]? = some o
theorem of_b {B bt bm : Nat} {tv lv : Value} {l l' : List ByteArray} {s : ByteArray} {n : Nat} {er : Int} (hs : s.size ≤ maxLen) (hr : ofF l s = (l', n, er)) (w : World) (h : Both B bt bm tv lv l w) (N : Nat) (h1 : N ≠ bt) (h2 : N ≠ bm) (h3 : tv.ownBlock ≠ some N) :
    Calls Tryd.prog 7 #[.pointer (some ⟨bt, 0, none⟩), .string s] w fun e w' => e = .returned (.tuple #[.int .i64 (n : Int), .int .i64 er]) ∧ (∃ tv', Mid B bt bm tv' lv l l' w') ∧ Below B w w' ∧ Frame1 w w' N := by
  refine (of_any B bt bm tv l s hs w h.1).mono fun e w' hp => ?_
  rw [hr] at hp
  obtain ⟨a, b, c⟩ := mid_of h hp
  obtain ⟨_, tv', _, k2, _⟩ := hp
  refine ⟨a, b, c, fun o ho => ?_⟩
  rw [k2.2.2.2.2 N (Array.getElem?_eq_some_iff.1 ho).1 h1 h2 h3]; exact ho
theorem rof_b {B bt bm : Nat} {tv lv : Value} {l l' : List ByteArray} {s : ByteArray} {n : Nat} {er : Int} (hl : l.length ≤ 1000) (hr : ofF l s = (l', n, er)) (w : World) (h : Mid B bt bm tv lv l l' w) (N : Nat) (h1 : lv.ownBlock ≠ some N) (hBw : B ≤ w.heap.size) :
    Calls Tryd.prog 12 #[lv, .string s] w fun e w' => (∃ lv', e = .returned (.tuple #[lv', .int .i64 (n : Int), .int .i64 er]) ∧ Both B bt bm tv lv' l' w') ∧ Below B w w' ∧ Frame1 w w' N := by
  refine (rof_any B lv l s w hl h.2.1 hBw).mono fun e w' hp => ?_
  rw [hr] at hp
  obtain ⟨a, b⟩ := both_of h hp
  obtain ⟨lv', _, _, k2, _⟩ := hp
  obtain ⟨g1, g2, g3, g4, g5⟩ := k2
  exact ⟨a, b, fun o ho => by rw [g5 N (Array.getElem?_eq_some_iff.1 ho).1 (fun e => h1 e.symm)]; exact ho⟩
theorem both_lens {B bt bm : Nat} {tv lv : Value} {l : List ByteArray} {w : World} (h : Both B bt bm tv lv l w) : ∃ p c, lv = .slice p l.length c := own_slice h.2.1
theorem ints_form {w : World} {v : Value} {l : List Int} (h : IntsAt w v l) : ∃ p c, v = .slice p l.length c := by
  rcases h with ⟨p, cap, rfl, rfl⟩ | ⟨b, off, cap, rfl, _, _⟩
  · exact ⟨p, cap, rfl⟩
  · exact ⟨_, cap, rfl⟩
theorem tab_other {B' B bt' bm' bt bm : Nat} {tv' : Value} {l : List ByteArray} {row : Option Nat} {w w' : World} (h : TabAt B' bt' bm' tv' l w) (hk : TabKept bt bm row w w') (h1 : bt < B') (h2 : bm < B') (h3 : ∀ k, row = some k → k < B') (hB : B ≤ B') : TabAt B bt' bm' tv' l w' := by
  have hc := h.cells
  obtain ⟨a1, a2, a3, a4, ⟨D, ⟨es, clock, m1, m2⟩, a6⟩, a7, a8, a9, a10, a11⟩ := h
  have hk' := hk
  obtain ⟨k1, k2, k3, k4, k5⟩ := hk
  have key : ∀ k, B' ≤ k → k < w.heap.size → w'.heap[k]? = w.heap[k]? := fun k hk1 hk2 => k5 k hk2 (by omega) (by omega) (fun e => by have := h3 k e; omega)
  refine ⟨by omega, by omega, a3, by rw [key bt' a1 hc.2.2.2.2.1]; exact a4, ⟨D, ⟨es, clock, by rw [key bm' a2 hc.2.2.2.2.2]; exact m1, m2⟩, a6⟩, ?_, a8, a9, a10, a11⟩
  obtain ⟨hl, h5⟩ := a7
  refine ⟨hl, ?_⟩
  rcases h5 with h0 | ⟨g, cap, cur, hv, hb, hh, r⟩
  · exact Or.inl h0
  · exact Or.inr ⟨g, cap, cur, hv, by omega, by rw [key g hb (Array.getElem?_eq_some_iff.1 hh).1]; exact hh, r⟩
theorem own_empty {w : World} {base : Nat} {t : TypeId} (hb : base ≤ w.heap.size) : (w.alloc (.cells #[] t)).ownsRow base t 1 (.slice (some ⟨w.heap.size, 0, none⟩) 0 0) 0 [] :=
  ⟨rfl, .inr ⟨w.heap.size, 0, #[], rfl, hb, heap_alloc_new w _, Nat.le_refl _, by unfold maxLen; omega, rfl, rfl⟩⟩
theorem src_texts {w : World} {B : Nat} {v : Value} {l : List ByteArray} (h : w.ownsRow B 9 1 v l.length (l.map Value.string)) : Src Tryd.prog 1 22 v l.length (l.map Value.string) w := by
  have h1 : ∀ u ∈ l.map Value.string, u.oneCell' = true := fun u hu => by obtain ⟨s, _, rfl⟩ := List.mem_map.1 hu; rfl
  rcases h.2 with ⟨rfl, h0⟩ | ⟨g, cap, cur, rfl, _⟩
  · have : l = [] := List.length_eq_zero_iff.1 h0
    subst this
    exact Src.ofNil _ Tryd.underlying22 0
  · exact src_own Tryd.underlying22 h h1
theorem intInfo : (Tryd.prog.info? 3).map (fun i => (i.zero, i.size, i.bytes)) = some (some (.int .i64 0), 1, 8) := by kernel_rfl
theorem ints_below {w w' : World} {v : Value} {l : List Int} (h : IntsAt w v l) (hb : Below w.heap.size w w') : IntsAt w' v l := by
  rcases h with h | ⟨b, off, cap, h0, h1, h2⟩
  · exact Or.inl h
  · refine Or.inr ⟨b, off, cap, h0, h1, fun j u hj => ?_⟩
    have hc := h2 j u hj
    rw [hb.cell (p := ⟨b, off + j, none⟩) (rcell_lt hc)]
    exact hc
theorem src_ints {w : World} {v : Value} {l : List Int} (h : IntsAt w v l) : Src Tryd.prog 1 32 v l.length (l.map (Value.int .i64)) w := by
  have h1 : ∀ u ∈ l.map (Value.int .i64), u.oneCell' = true := fun u hu => by obtain ⟨s, _, rfl⟩ := List.mem_map.1 hu; rfl
  rcases h with ⟨p, cap, rfl, rfl⟩ | ⟨b, off, cap, rfl, _, h2⟩
  · cases p with
    | none => exact Src.ofNil _ Tryd.underlying32 cap
    | some a => exact Src.ofSlice _ Tryd.underlying32 a 0 cap [] rfl (fun j u hj => by simp at hj) (fun u hu => by cases hu)
  · refine Src.ofSlice _ Tryd.underlying32 ⟨b, off, none⟩ _ cap _ (by simp) (fun j u hj => ?_) h1
    simp only [List.getElem?_map, Option.map_eq_some_iff] at hj
    obtain ⟨z, hz, rfl⟩ := hj
    rw [Addr.add_lit]
    exact h2 j z hz
theorem ints_own {w : World} {B : Nat} {v : Value} {l : List Int} (h : w.ownsRow B 3 1 v l.length (l.map (Value.int .i64))) : IntsAt w v l := by
  rcases h.2 with ⟨rfl, h0⟩ | ⟨g, cap, cur, rfl, _, _, hc, _⟩
  · exact Or.inl ⟨none, 0, rfl, List.length_eq_zero_iff.1 h0⟩
  · refine Or.inr ⟨g, 0, cap, rfl, hc, fun j u hj => ?_⟩
    have := h.cells (g := g) rfl j (.int .i64 u) (by simp [hj])
    rw [Addr.add_lit] at this
    exact this
theorem list_b {B bt bm : Nat} {tv lv v : Value} {l l' : List ByteArray} {zs : List Int} {n : Nat} {er : Int} (hl : zs.length ≤ 60) (h64 : In64L zs) (hr : ofF l ⟨(digF zs).toArray⟩ = (l', n, er)) (w : World) (hc : IntsAt w v zs) (PB : Nat) (hP : Pow10 PB w) (hpg : PB ≤ w.heap.size) (h : Both B bt bm tv lv l w) (N : Nat) (h1 : N ≠ bt) (h2 : N ≠ bm) (h3 : tv.ownBlock ≠ some N) :
    Calls Tryd.prog 11 #[.pointer (some ⟨bt, 0, none⟩), v] w fun e w' => e = .returned (.tuple #[.int .i64 (n : Int), .int .i64 er]) ∧ (∃ tv', Mid B bt bm tv' lv l l' w') ∧ Below B w w' ∧ Frame1 w w' N := by
  refine (list_any B bt bm tv l v zs hl h64 w hc PB hP hpg h.1).mono fun e w' hp => ?_
  rw [hr] at hp
  obtain ⟨a, b, c⟩ := mid_of h hp
  obtain ⟨_, tv', _, k2, _⟩ := hp
  refine ⟨a, b, c, fun o ho => ?_⟩
  rw [k2.2.2.2.2 N (Array.getElem?_eq_some_iff.1 ho).1 h1 h2 h3]; exact ho
theorem ofF_len (l : List ByteArray) (s : ByteArray) : (ofF l s).1.length ≤ l.length + 1 := by
  unfold ofF
  (repeat' split) <;> simp

set_option maxHeartbeats 8000000 in
set_option maxRecDepth 20000 in
theorem tp_core (p : Option Addr) (n cap : Nat) (acts : List Act) (w : World) (hn : acts.length = n) (hc : ∀ j a, acts[j]? = some a → ∃ b off, p = some ⟨b, off, none⟩ ∧ ActAt w b (off + j * 4) a) (PB : Nat) (hP : Pow10 PB w) (hpg : PB ≤ w.heap.size) :
    Calls Tryd.prog 5 #[.slice p n cap] w fun e w' => e = .returned (.bool true) ∧ Ext w w' := by
  have HP := Lib.hid hP
  have HN := Lib.hid hn
  have HC := Lib.hid hc
  clear hP hn hc
  go_enter Tryd.func5, Tryd.ntmps5
  go_wp2_with (go_at_call 6; refine (new_any _).mono ?_; rintro e w1 ⟨rfl, hT1, hx1⟩; have T1 := Lib.hid hT1; have X1 := Lib.hid hx1.below; clear hT1 hx1)
  go_loopw [3, 4, 5] (fun tvv lv ii wr => ∃ (k bt bm : Nat) (tv : Value) (tl : List ByteArray), tvv = .pointer (some ⟨bt, 0, none⟩) ∧ ii = .int .i64 (k : Int) ∧ k ≤ n ∧ k ≤ 80 ∧ tl.length ≤ k ∧ Both w.heap.size bt bm tv lv tl wr ∧ Below w.heap.size w wr) (fun _ _ ii _ => n - (intOf ii).toNat)
  case atStart => exact ⟨0, _, _, _, [], rfl, rfl, Nat.zero_le _, Nat.zero_le _, Nat.le_refl _, ⟨T1.out, World.ownsRow_nil _ _ _ _, by simp [Value.ownBlock], by simp [Value.ownBlock], Or.inl rfl⟩, X1.out⟩
  case round =>
    obtain ⟨k, bt, bm, tv, tl, rfl, rfl, hk, hk80, htl, hB, hX⟩ := hrel
    have BO := Lib.hid hB
    have X := Lib.hid hX
    have HTL := Lib.hid htl
    obtain ⟨lp, lc, rfl⟩ := both_lens hB
    clear hB hX htl T1 X1
    by_cases hlt : k < n ∧ k < 80
    · obtain ⟨hlt1, hlt2⟩ := hlt
      have hlt3 : (k : Int) < n := by omega
      have hlt4 : (k : Int) < 80 := by omega
      obtain ⟨a, ha⟩ : ∃ a, acts[k]? = some a := ⟨_, List.getElem?_eq_getElem (by have := HN.out; omega)⟩
      obtain ⟨b1, o1, rfl, q0, q1, q2, q3, qi, q6, qs, qn0, qn1⟩ := HC.out k a ha
      have hb1 := rcell_lt q0
      have r0 : wr.cell? ⟨b1, o1 + k * 4, none⟩ = some (.int .i64 a.d) := by rw [X.out.cell (p := ⟨b1, o1 + k * 4, none⟩) hb1]; exact q0
      have r1 : wr.cell? ⟨b1, o1 + k * 4 + 1, none⟩ = some (.int .i64 a.n) := by rw [X.out.cell (p := ⟨b1, o1 + k * 4 + 1, none⟩) hb1]; exact q1
      have r2 : wr.cell? ⟨b1, o1 + k * 4 + 2, none⟩ = some (.string a.s) := by rw [X.out.cell (p := ⟨b1, o1 + k * 4 + 2, none⟩) hb1]; exact q2
      have r3 : wr.cell? ⟨b1, o1 + k * 4 + 3, none⟩ = some a.v := by rw [X.out.cell (p := ⟨b1, o1 + k * 4 + 3, none⟩) hb1]; exact q3
      have QI := Lib.hid qi
      have Q6 := Lib.hid q6
      have QS := Lib.hid qs
      have QN := Lib.hid (And.intro qn0 qn1)
      clear q0 q1 q2 q3 qi q6 qs qn0 qn1 ha
      obtain ⟨xd, xn, xs, xv, xl⟩ := a
      dsimp only at r0 r1 r2 r3 QI Q6 QS QN
      obtain ⟨xp, xc, rfl⟩ := ints_form QI.out
      have hne : wr.heap.size ≠ bt ∧ wr.heap.size ≠ bm ∧ tv.ownBlock ≠ some wr.heap.size ∧ (Value.slice lp tl.length lc).ownBlock ≠ some wr.heap.size := by
        obtain ⟨ht, ho, _⟩ := BO.out
        have hc := ht.cells
        obtain ⟨_, _, _, _, _, h6, _⟩ := ht
        exact ⟨by omega, by omega, fun e => by have := (h6.lt _ e).2; omega, fun e => by have := (ho.lt _ e).2; omega⟩
      have HNE := Lib.hid hne
      clear hne
      by_cases hd0 : xd = 0 ∨ xd = 1
      · rcases hd0 with rfl | rfl
        · obtain ⟨l2, m, er, hr⟩ : ∃ l2 m er, ofF tl xs = (l2, m, er) := ⟨_, _, _, rfl⟩
          have hl2 : l2.length ≤ tl.length + 1 := by have := ofF_len tl xs; rw [hr] at this; exact this
          have HRR := Lib.hid hr
          have HL2 := Lib.hid hl2
          clear hr hl2
          go_wp2_with fail
          refine (of_b QS.out HRR.out _ (BO.out.ext ((Ext.refl _).alloc _)) wr.heap.size HNE.out.1 HNE.out.2.1 HNE.out.2.2.1).mono ?_
          rintro e w2 ⟨rfl, ⟨tv2, hM⟩, hx2, hf2⟩
          have A2 : ABlk wr.heap.size ⟨0, xn, xs, .slice xp xl.length xc, xl⟩ w2 := hf2 _ (heap_alloc_new wr _)
          have AA2 := Lib.hid A2
          obtain ⟨c0, c1, c2, c3, cN⟩ := A2.cells
          have M2 := Lib.hid hM
          have X2 := Lib.hid ((X.out.alloc X.out.size _).trans hx2)
          clear hM hx2 hf2 A2
          go_wp2_with fail
          refine (rof_b (by have := HTL.out; omega) HRR.out _ M2.out wr.heap.size HNE.out.2.2.2 (X2.out.size)).mono ?_
          rintro e w3 ⟨⟨lv3, rfl, hB3⟩, hx3, hf3⟩
          clear c0 c1 c2 c3 cN
          obtain ⟨lp3, lc3, rfl⟩ := both_lens hB3
          have B3 := Lib.hid hB3
          have X3 := Lib.hid (X2.out.trans hx3)
          clear hB3 hx3 hf3
          go_wp2_with (go_at_call 17; refine (count_any _ bt bm tv2 l2 _ B3.out.1).mono ?_; rintro e _ ⟨rfl, rfl⟩)
          go_roundw
          case rel => exact ⟨k + 1, bt, bm, tv2, l2, rfl, by go_num, by omega, by omega, by have := HL2.out; have := HTL.out; omega, B3.out, X3.out⟩
          case measure => simp [intOf]; omega
        · obtain ⟨l2, m, er, hr⟩ : ∃ l2 m er, ofF tl xs = (l2, m, er) := ⟨_, _, _, rfl⟩
          have hl2 : l2.length ≤ tl.length + 1 := by have := ofF_len tl xs; rw [hr] at this; exact this
          have HRR := Lib.hid hr
          have HL2 := Lib.hid hl2
          clear hr hl2
          go_wp2_with fail
          refine (of_b QS.out HRR.out _ (BO.out.ext ((Ext.refl _).alloc _)) wr.heap.size HNE.out.1 HNE.out.2.1 HNE.out.2.2.1).mono ?_
          rintro e w2 ⟨rfl, ⟨tv2, hM⟩, hx2, hf2⟩
          have A2 : ABlk wr.heap.size ⟨1, xn, xs, .slice xp xl.length xc, xl⟩ w2 := hf2 _ (heap_alloc_new wr _)
          have AA2 := Lib.hid A2
          obtain ⟨c0, c1, c2, c3, cN⟩ := A2.cells
          have M2 := Lib.hid hM
          have X2 := Lib.hid ((X.out.alloc X.out.size _).trans hx2)
          clear hM hx2 hf2 A2
          go_wp2_with fail
          refine (rof_b (by have := HTL.out; omega) HRR.out _ M2.out wr.heap.size HNE.out.2.2.2 (X2.out.size)).mono ?_
          rintro e w3 ⟨⟨lv3, rfl, hB3⟩, hx3, hf3⟩
          clear c0 c1 c2 c3 cN
          obtain ⟨lp3, lc3, rfl⟩ := both_lens hB3
          have B3 := Lib.hid hB3
          have X3 := Lib.hid (X2.out.trans hx3)
          clear hB3 hx3 hf3
          go_wp2_with (go_at_call 17; refine (count_any _ bt bm tv2 l2 _ B3.out.1).mono ?_; rintro e _ ⟨rfl, rfl⟩)
          go_roundw
          case rel => exact ⟨k + 1, bt, bm, tv2, l2, rfl, by go_num, by omega, by omega, by have := HL2.out; have := HTL.out; omega, B3.out, X3.out⟩
          case measure => simp [intOf]; omega
      by_cases hd2 : xd = 2
      · subst hd2
        have BW := Lib.hid (BO.out.ext ((Ext.refl wr).alloc (.cells #[.int .i64 2, .int .i64 xn, .string xs, .slice xp xl.length xc] 38)))
        have HH := Lib.hid (has_any _ bt bm tv tl xs QS.out _ BW.out.1)
        obtain ⟨p', c', e1, _, hcells⟩ := own_texts BW.out.2.1
        simp only [Value.slice.injEq] at e1
        obtain ⟨rfl, _, rfl⟩ := e1
        have RH := Lib.hid (rhas_core _ _ lc tl xs _ rfl hcells (by have := HTL.out; omega))
        clear hcells
        obtain ⟨m, hm⟩ : ∃ m, idxF tl xs = m := ⟨_, rfl⟩
        rw [hm] at HH RH
        clear hm hd0
        by_cases hm0 : m = 0
        · subst hm0
          have e0 : decide ((0 : Nat) ≠ 0) = false := rfl
          rw [e0] at HH
          clear e0
          go_wp2_with (first
            | (go_at_call 13; refine HH.out.mono ?_; rintro e _ ⟨rfl, rfl⟩)
            | (go_at_call 14; refine RH.out.mono ?_; rintro e _ ⟨rfl, rfl⟩)
            | (go_at_call 17; refine (count_any _ bt bm tv tl _ BW.out.1).mono ?_; rintro e _ ⟨rfl, rfl⟩))
          go_roundw
          case rel => exact ⟨k + 1, bt, bm, tv, tl, rfl, by go_num, by omega, by omega, by have := HTL.out; omega, BW.out, (X.out.alloc X.out.size _)⟩
          case measure => simp [intOf]; omega
        · have e0 : decide (m ≠ 0) = true := by simpa using hm0
          have e1 : (0 : Int) < m := by omega
          have e2 : decide (0 < m) = true := by simp; omega
          rw [e0] at HH
          clear e0 hm0
          go_wp2_with (first
            | (go_at_call 13; refine HH.out.mono ?_; rintro e _ ⟨rfl, rfl⟩)
            | (go_at_call 14; refine RH.out.mono ?_; rintro e _ ⟨rfl, rfl⟩)
            | (go_at_call 17; refine (count_any _ bt bm tv tl _ BW.out.1).mono ?_; rintro e _ ⟨rfl, rfl⟩))
          go_roundw
          case rel => exact ⟨k + 1, bt, bm, tv, tl, rfl, by go_num, by omega, by omega, by have := HTL.out; omega, BW.out, (X.out.alloc X.out.size _)⟩
          case measure => simp [intOf]; omega
      by_cases hd3 : xd = 3
      · subst hd3
        have BW := Lib.hid (BO.out.ext ((Ext.refl wr).alloc (.cells #[.int .i64 3, .int .i64 xn, .string xs, .slice xp xl.length xc] 38)))
        have htl8 : (tl.length : Int) ≤ 80 := by have := HTL.out; omega
        clear hd0 hd2
        by_cases hin : 1 ≤ xn ∧ xn ≤ tl.length
        · obtain ⟨j, hj⟩ : ∃ j : Nat, xn = (j : Int) + 1 := ⟨(xn - 1).toNat, by omega⟩
          subst hj
          obtain ⟨u, hu⟩ : ∃ u, tl[j]? = some u := ⟨_, List.getElem?_eq_getElem (by omega)⟩
          have HT := Lib.hid (text_ok _ bt bm tv tl j u hu _ BW.out.1)
          obtain ⟨p', c', e1, _, hcells⟩ := own_texts BW.out.2.1
          simp only [Value.slice.injEq] at e1
          obtain ⟨rfl, _, rfl⟩ := e1
          obtain ⟨gb, go, rfl, cu⟩ := hcells j u hu
          have k1 : (j : Int) < tl.length := by omega
          have k2 : (0 : Int) ≤ j := by omega
          have k3 : (j : Int) + 1 ≤ tl.length := by omega
          clear hin hu hcells
          go_wp2_with (first
            | (go_at_call 8; refine HT.out.mono ?_; rintro e _ ⟨rfl, rfl⟩)
            | (go_at_call 17; refine (count_any _ bt bm tv tl _ BW.out.1).mono ?_; rintro e _ ⟨rfl, rfl⟩))
          go_roundw
          case rel => exact ⟨k + 1, bt, bm, tv, tl, rfl, by go_num, by omega, by omega, by have := HTL.out; omega, BW.out, (X.out.alloc X.out.size _)⟩
          case measure => simp [intOf]; omega
        · have HT := Lib.hid (text_none _ bt bm tv tl xn (by omega) _ BW.out.1)
          by_cases h1 : xn < 1
          · clear hin
            go_wp2_with (first
              | (go_at_call 8; refine HT.out.mono ?_; rintro e _ ⟨rfl, rfl⟩)
              | (go_at_call 17; refine (count_any _ bt bm tv tl _ BW.out.1).mono ?_; rintro e _ ⟨rfl, rfl⟩))
            go_roundw
            case rel => exact ⟨k + 1, bt, bm, tv, tl, rfl, by go_num, by omega, by omega, by have := HTL.out; omega, BW.out, (X.out.alloc X.out.size _)⟩
            case measure => simp [intOf]; omega
          · have h2 : (tl.length : Int) < xn := by omega
            have h3 : 1 ≤ xn := by omega
            clear hin h1
            go_wp2_with (first
              | (go_at_call 8; refine HT.out.mono ?_; rintro e _ ⟨rfl, rfl⟩)
              | (go_at_call 17; refine (count_any _ bt bm tv tl _ BW.out.1).mono ?_; rintro e _ ⟨rfl, rfl⟩))
            go_roundw
            case rel => exact ⟨k + 1, bt, bm, tv, tl, rfl, by go_num, by omega, by omega, by have := HTL.out; omega, BW.out, (X.out.alloc X.out.size _)⟩
            case measure => simp [intOf]; omega
      by_cases hd4 : xd = 4
      · subst hd4
        clear hd0 hd2 hd3
        have BW := Lib.hid (BO.out.ext ((Ext.refl wr).alloc (.cells #[.int .i64 4, .int .i64 xn, .string xs, .slice xp xl.length xc] 38)))
        have XW := Lib.hid (X.out.alloc X.out.size (.cells #[.int .i64 4, .int .i64 xn, .string xs, .slice xp xl.length xc] 38))
        obtain ⟨zs, hzs⟩ : ∃ zs, xl.take 60 = zs := ⟨_, rfl⟩
        have hz60 : zs.length ≤ 60 := by rw [← hzs]; exact List.length_take_le _ _
        have HZ64 : RowKit.Hid (In64L zs) := Lib.hid (hzs ▸ Q6.out.take 60)
        obtain ⟨l2, m, er, hr⟩ : ∃ l2 m er, ofF tl ⟨(digF zs).toArray⟩ = (l2, m, er) := ⟨_, _, _, rfl⟩
        have hl2 : l2.length ≤ tl.length + 1 := by have := ofF_len tl ⟨(digF zs).toArray⟩; rw [hr] at this; exact this
        have HRR := Lib.hid hr
        have HL2 := Lib.hid hl2
        have HZ60 := Lib.hid hz60
        have HZS := Lib.hid hzs
        clear hr hl2 hzs hz60
        go_wp2_with fail
        obtain ⟨v1, i1, g1⟩ := few_any (.slice xp xl.length xc) xl ((wr.alloc (.cells #[.int .i64 4, .int .i64 xn, .string xs, .slice xp xl.length xc] 38)).alloc (.cells #[] 3)) (ints_below QI.out (XW.out.alloc XW.out.size _))
        rw [HZS.out] at i1
        refine g1.mono ?_
        rintro e _ ⟨rfl, rfl⟩
        obtain ⟨p1, c1', rfl⟩ := ints_form i1
        have I1 := Lib.hid i1
        clear i1 g1
        obtain ⟨i0, hi, hz0, hz1, hz2⟩ := info_parts intInfo
        go_wp2_with (at_builtin; refine wpList_append_src _ rfl _ _ 32 32 rfl w.heap.size 3 i0 (.int .i64 0) 1 8 Tryd.underlying32 hi hz0 hz1 hz2 rfl (by decide) (.slice (some ⟨wr.heap.size + 1, 0, none⟩) 0 0) 0 [] rfl (by have h := own_empty (w := wr.alloc (.cells #[.int .i64 4, .int .i64 xn, .string xs, .slice xp xl.length xc] 38)) (t := 3) XW.out.size; simpa using h) (.slice p1 zs.length c1') zs.length (zs.map (Value.int .i64)) rfl (src_ints I1.out) ?c3 ?c4 ?c5 ?_)
        case c3 => have := HZ60.out; unfold maxLen; omega
        case c4 => have := HZ60.out; omega
        case c5 => have := X.out.size; (try simp); omega
        intro v' w2 hown' hgrow hblk
        (try simp only [Nat.zero_add, List.nil_append] at hown')
        obtain ⟨vp, vc, rfl⟩ := own_slice hown'
        have hne1 : some (wr.heap.size + 1) ≠ some bt ∧ some (wr.heap.size + 1) ≠ some bm ∧ (tv.ownBlock = none ∨ tv.ownBlock ≠ some (wr.heap.size + 1)) ∧ ((Value.slice lp tl.length lc).ownBlock = none ∨ (Value.slice lp tl.length lc).ownBlock ≠ some (wr.heap.size + 1)) := by
          obtain ⟨ht, ho, _⟩ := BO.out
          have hc := ht.cells
          obtain ⟨_, _, _, _, _, h6, _⟩ := ht
          exact ⟨by simp; omega, by simp; omega, Or.inr (fun e => by have := (h6.lt _ e).2; omega), Or.inr (fun e => by have := (ho.lt _ e).2; omega)⟩
        have hBa := BW.out.ext ((Ext.refl _).alloc (.cells #[] 3))
        have B2 := Lib.hid (show Both w.heap.size bt bm tv (.slice lp tl.length lc) tl w2 from ⟨tab_grown hBa.1 hgrow hne1.1 hne1.2.1 hne1.2.2.1, hBa.2.1.kept hgrow hne1.2.2.2, hBa.2.2⟩)
        have A2 : ABlk wr.heap.size ⟨4, xn, xs, .slice xp xl.length xc, xl⟩ w2 := blk_grown (show _ = _ from by rw [Lib.alloc_old _ _ _ (by simp)]; exact heap_alloc_new wr _) hgrow (by simp [Value.ownBlock])
        have AA2 := Lib.hid A2
        have X2 := Lib.hid ((XW.out.alloc XW.out.size (.cells #[] 3)).grown hgrow (by have := X.out.size; simp; omega) (fun g hg => by simp [Value.ownBlock] at hg; have := X.out.size; omega))
        have O2 := Lib.hid (ints_own hown')
        clear hown' hgrow hblk hne1 hBa A2
        go_wp2_with fail
        have hpw := HP.out.below X2.out hpg
        refine (list_b HZ60.out HZ64.out HRR.out _ O2.out PB hpw (Nat.le_trans hpg X2.out.size) B2.out wr.heap.size HNE.out.1 HNE.out.2.1 HNE.out.2.2.1).mono ?_
        rintro e w3 ⟨rfl, ⟨tv3, hM⟩, hx3, hf3⟩
        have A3 := hf3 _ AA2.out
        obtain ⟨c0, c1, c2, c3, cN⟩ := ABlk.cells A3
        have M3 := Lib.hid hM
        have X3 := Lib.hid (X2.out.trans hx3)
        clear hM hx3 hf3 hpw A3
        go_wp2_with fail
        obtain ⟨v2, i2, g2⟩ := few_any (.slice xp xl.length xc) xl w3 (ints_below QI.out X3.out)
        rw [HZS.out] at i2
        refine g2.mono ?_
        rintro e _ ⟨rfl, rfl⟩
        have I2 := Lib.hid i2
        clear i2 g2
        go_wp2_with fail
        refine (rdigs_any v2 zs _ HZ60.out HZ64.out I2.out).mono ?_
        rintro e _ ⟨rfl, rfl⟩
        go_wp2_with fail
        refine (rof_b (by have := HTL.out; omega) HRR.out _ M3.out wr.heap.size HNE.out.2.2.2 (X3.out.size)).mono ?_
        rintro e w4 ⟨⟨lv4, rfl, hB4⟩, hx4, hf4⟩
        clear c0 c1 c2 c3 cN
        obtain ⟨lp4, lc4, rfl⟩ := both_lens hB4
        have B4 := Lib.hid hB4
        have X4 := Lib.hid (X3.out.trans hx4)
        clear hB4 hx4 hf4
        go_wp2_with (go_at_call 17; refine (count_any _ bt bm tv3 l2 _ B4.out.1).mono ?_; rintro e _ ⟨rfl, rfl⟩)
        go_roundw
        case rel => exact ⟨k + 1, bt, bm, tv3, l2, rfl, by go_num, by omega, by omega, by have := HL2.out; have := HTL.out; omega, B4.out, X4.out⟩
        case measure => simp [intOf]; omega
      · have e0 : (xd == 0) = false := by simp; omega
        have e1 : (xd == 1) = false := by simp; omega
        have e2 : (xd == 2) = false := by simp; omega
        have e3 : (xd == 3) = false := by simp; omega
        have e4 : (xd == 4) = false := by simp; omega
        clear hd0 hd2 hd3 hd4
        have BW := Lib.hid (BO.out.ext ((Ext.refl wr).alloc (.cells #[.int .i64 xd, .int .i64 xn, .string xs, .slice xp xl.length xc] 38)))
        have XW := Lib.hid (X.out.alloc X.out.size (.cells #[.int .i64 xd, .int .i64 xn, .string xs, .slice xp xl.length xc] 38))
        go_wp2_with fail
        refine (clone_any _ bt bm tv tl _ BW.out.1).mono ?_
        rintro e w2 ⟨bt', bm', tv', rfl, hT', hx⟩
        have A2 : ABlk wr.heap.size ⟨xd, xn, xs, .slice xp xl.length xc, xl⟩ w2 := by
          obtain ⟨d, os, rfl⟩ := hx
          exact heap_more (heap_alloc_new wr _) d os
        obtain ⟨c0, c1, c2, c3, cN⟩ := A2.cells
        have B2 := Lib.hid (BW.out.ext hx)
        have T2 := Lib.hid hT'
        have X2 := Lib.hid (XW.out.trans (hx.below.mono XW.out.size))
        have hold : bt < wr.heap.size ∧ bm < wr.heap.size ∧ ∀ g, tv.ownBlock = some g → g < wr.heap.size := by
          obtain ⟨ht, _⟩ := BO.out
          have hc := ht.cells
          obtain ⟨_, _, _, _, _, h6, _⟩ := ht
          exact ⟨hc.2.2.2.2.1, hc.2.2.2.2.2, fun g hg => (h6.lt g hg).2⟩
        have HOLD := Lib.hid hold
        clear hT' hx A2 hold
        go_wp2_with fail
        refine (of_any _ bt bm tv tl xs QS.out w2 B2.out.1).mono ?_
        rintro e w3 ⟨rfl, tv3, k1, k2, k3⟩
        have hsW : wr.heap.size + 1 ≤ w2.heap.size := by omega
        have LV3 := Lib.hid (own_tabkept B2.out.2.1 k2 B2.out.2.2.1 B2.out.2.2.2.1 B2.out.2.2.2.2)
        have T3 := Lib.hid (tab_other (B := w.heap.size) T2.out k2 (by have := HOLD.out.1; (try simp); omega) (by have := HOLD.out.2.1; (try simp); omega) (fun g hg => by have := HOLD.out.2.2 g hg; (try simp); omega) (by have := X.out.size; (try simp); omega))
        have X3 := Lib.hid (X2.out.trans (k2.below B2.out.1.1 B2.out.1.2.1 (fun g hg => (B2.out.1.2.2.2.2.2.1.lt g hg).1) X2.out.size))
        clear k1 k2 k3 c0 c1 c2 c3 cN hsW
        obtain ⟨i0, hi, hz0, hz1, hz2⟩ := info_parts strInfo
        go_wp2_with (at_builtin; refine wpList_append_src _ rfl _ _ 22 22 rfl w.heap.size 9 i0 (.string ⟨#[]⟩) 1 16 Tryd.underlying22 hi hz0 hz1 hz2 rfl (by decide) (.slice (some ⟨w3.heap.size, 0, none⟩) 0 0) 0 [] rfl (own_empty X3.out.size) (.slice lp tl.length lc) tl.length (tl.map Value.string) rfl (src_texts (LV3.out.alloc _)) ?c3 ?c4 ?c5 ?_)
        case c3 => have := HTL.out; unfold maxLen; omega
        case c4 => have := HTL.out; omega
        case c5 => have := X3.out.size; (try simp); omega
        intro v' w4 hown' hgrow hblk
        (try simp only [Nat.zero_add, List.nil_append] at hown')
        obtain ⟨vp, vc, rfl⟩ := own_slice hown'
        have hT4 : TabAt w.heap.size bt' bm' tv' tl w4 := tab_grown (T3.out.ext ((Ext.refl _).alloc _)) hgrow (by have := T3.out.cells; simp [Value.ownBlock]; omega) (by have := T3.out.cells; simp [Value.ownBlock]; omega) (by
          cases hv : tv'.ownBlock with
          | none => exact Or.inl rfl
          | some g =>
            right
            have := (T3.out.2.2.2.2.2.1.lt g hv).2
            simp [Value.ownBlock]; omega)
        have hS : Sep bt' bm' tv' (.slice vp tl.length vc) := by
          have hc := T3.out.cells
          have key : ∀ g, (Value.slice vp tl.length vc).ownBlock = some g → w3.heap.size ≤ g := by
            intro g hg
            rcases hblk with h | h
            · rw [h] at hg; simp [Value.ownBlock] at hg; omega
            · rw [h] at hg; simp at hg; omega
          refine ⟨fun e => ?_, fun e => ?_, ?_⟩
          · have := key _ e; omega
          · have := key _ e; omega
          · cases hv : (Value.slice vp tl.length vc).ownBlock with
            | none => exact Or.inl rfl
            | some g =>
              right
              intro e
              have h1 := key _ hv
              have h2 := (T3.out.2.2.2.2.2.1.lt g e.symm).2
              omega
        have B4 := Lib.hid (show Both w.heap.size bt' bm' tv' (.slice vp tl.length vc) tl w4 from ⟨hT4, hown', hS⟩)
        have X4 := Lib.hid ((X3.out.alloc X3.out.size _).grown hgrow (by have := X3.out.size; simp; omega) (fun g hg => by simp [Value.ownBlock] at hg; have := X3.out.size; omega))
        clear hown' hgrow hblk hT4 hS
        go_wp2_with (go_at_call 17; refine (count_any _ bt' bm' tv' tl _ B4.out.1).mono ?_; rintro e _ ⟨rfl, rfl⟩)
        go_roundw
        case rel => exact ⟨k + 1, bt', bm', tv', tl, rfl, by go_num, by omega, by omega, by have := HTL.out; omega, B4.out, X4.out⟩
        case measure => simp [intOf]; omega
    · by_cases hkn : k < n
      · have h80 : 80 = k := by omega
        subst h80
        have hn1 : (80 : Int) < n := by omega
        clear hlt
        have hsz := X.out.size
        go_wp2_with (go_at_call 9; refine (awake_any PB _ (HP.out.below X.out hpg) (by omega)).mono ?_; rintro e _ ⟨rfl, d, os, rfl⟩)
        go_ret
        exact ⟨rfl, (Ext.of_below X.out).trans (by repeat (first | exact Ext.refl _ | apply Ext.alloc | apply Ext.more))⟩
      · have hkk : n = k := by omega
        subst hkk
        clear hlt
        have hsz := X.out.size
        go_wp2_with (go_at_call 9; refine (awake_any PB _ (HP.out.below X.out hpg) (by omega)).mono ?_; rintro e _ ⟨rfl, d, os, rfl⟩)
        go_ret
        exact ⟨rfl, (Ext.of_below X.out).trans (by repeat (first | exact Ext.refl _ | apply Ext.alloc | apply Ext.more))⟩


theorem tp_walk (v : Value) (acts : List Act) (w : World) (h : ActsAt w v acts) (PB : Nat) (hP : Pow10 PB w) (hpg : PB ≤ w.heap.size) :
    Calls Tryd.prog 5 #[v] w fun e w' => e = .returned (.bool true) ∧ Ext w w' := by
  rcases h with ⟨p, cap, rfl, rfl⟩ | ⟨b, off, cap, rfl, _, h2⟩
  · exact tp_core p 0 cap [] w rfl (fun j a hj => by simp at hj) PB hP hpg
  · exact tp_core _ _ cap acts w rfl (fun j a hj => ⟨b, off, rfl, h2 j a hj⟩) PB hP hpg

namespace TermPlaysRow
/-! ### The row, and the card -/
section
open Go.ChangeShapes Go.WideShapes Go.ChangeAt Go.RowKit Go.Joins
open Go.ChangeMaps (open_string shut_string)
theorem own : ownKnob Tryd.prog.godebug = none := by kernel_rfl
theorem laid : laidOutB Tryd.prog = true := by kernel_rfl

set_option maxRecDepth 100000 in
theorem lifted (os : Os) (started : os.Started) (H : Type) (enc : TypeId × Value → H) :
    ReturnsInHanded {} Tryd.checked os 5 .any (fun w args => (Rows.termPlaysSpec.pre enc Tryd.prog Tryd.f5 Rows.termPlaysRow.domain false w args ∧ laidMetH Tryd.prog Rows.termPlaysRow.laid w) ∧ sizedMet enc Tryd.prog Tryd.f5 (OpenSpec.ofChange Rows.termPlaysSpec) false w args) (Rows.termPlaysSpec.post enc Tryd.prog Tryd.f5 false true false false) := by
  refine returnsInHanded_of_change_and (C := Tryd.checked) (X := fun w _ => laidMetH Tryd.prog Rows.termPlaysRow.laid w) (fun _ _ _ hh h => h.of_heap hh) own started (by kernel_rfl) Tryd.func5
    (ChangeSpec.witness_shaped (enc := enc) (C := Tryd.checked) (os := os) (X := fun w _ => laidMetH Tryd.prog Rows.termPlaysRow.laid w) false (World.doorLaid Tryd.prog 24 os) #[.slice none 0 0] 8 rfl (World.shaped_of_RefB (by kernel_rfl) (by kernel_rfl)) (by kernel_rfl) (by kernel_rfl) (by kernel_rfl) (door_met os _)) ?_
  intro W base args ds gs before hval0 hW hcnd hsz0 hL _
  have hval : ∀ (j : Nat) t v, Tryd.f5.params[j]? = some t → args[j]? = some v → Value.okWide Tryd.prog W .any base t v := hval0
  have hW' := hW
  obtain ⟨p, q, hA0, hV, rfl, hfz, hnd⟩ := hW
  have hA : DataW.TrodAll enc Tryd.prog W 0 (fun _ => true) true Tryd.f5.params.toList args.toList ds p := hA0
  have hAk := hA
  have hpr : Tryd.f5.params.toList.all (fun t => Tryd.prog.readableRec t && decide (t < Tryd.prog.types.size)) = true := by kernel_rfl
  have hlt := hA.lt
  obtain ⟨rfl, rfl⟩ := trodVars_none hV
  have hsz : (DataW.weightsEach Tryd.prog (Tryd.f5.params.toList ++ []) (ds ++ [])).all (· ≤ reachBytes) = true := hsz0
  rw [Tryd.params5] at hA hval hsz
  simp only [List.append_nil] at hsz
  obtain ⟨v0, vs0, d0, ds0, p0, q0, hargs, rfl, rfl, h0, r0⟩ := trodAll_cons hA
  obtain ⟨rfl, rfl, rfl⟩ := trodAll_nil r0
  obtain rfl : args = #[v0] := by cases args; simp_all
  obtain ⟨acts_l, hacts⟩ := open_actsR (hval 0 36 v0 rfl rfl) h0
  clear hA0 hval0 hsz0
  refine (tp_walk v0 acts_l W hacts W.heap.size (of_laid hL) (Nat.le_refl _)).mono fun e W' ⟨he, hx⟩ => ?_
  subst he
  exact ⟨_, rfl, _, _, _, [], _, [], hW', trodAll_mk1 (shut_bool Tryd.underlying4 _), trodAll_below laid hx.below hpr hAk hlt, rfl, hx.below.frame _, fun h => by cases h⟩

theorem row_proved : Rows.TermPlaysSaid :=
  OpenClaim.holds_of_wide 5 Tryd.f5 rfl rfl rfl rfl rfl rfl rfl ⟨rfl, rfl, rfl, rfl, rfl⟩ rfl rfl rfl rfl rfl (by kernel_rfl) Tryd.func5 (by kernel_rfl)
    (of_decide_eq_true (by kernel_rfl)) (by unfold Func.isWrapper; first | (rw [if_pos (by decide +kernel)]; kernel_rfl) | (rw [if_neg (by decide +kernel)]; exact ⟨rfl, rfl⟩))
    (fun os started H enc _ => lifted os started H enc)
theorem proved : Rows.TermPlaysCardSaid :=
  Claim7.holds_tied_plain_at .later [] Rows.termPlaysCard.laidKinds true Rows.termPlaysCard.stood.harness Rows.termPlaysCard.stood.looks
    row_proved (fun _ h => by cases h) (by kernel_rfl) (fun _ h => by cases h) termPlays_row_tie rfl ⟨rfl, rfl⟩ (by kernel_rfl) rfl
    (fun f fn hf hfn => by
      obtain rfl : f = 5 := Option.some.inj ((show Tryd.prog.funcNamed "plenum/plenumlaw02.TermPlays" = some 5 by kernel_rfl).symm.trans hf) |>.symm
      obtain rfl : fn = Tryd.f5 := (Option.some.inj (Tryd.func5.symm.trans hfn)).symm
      exact ⟨by kernel_rfl, fun j t ht => by
        rw [Tryd.params5] at ht
        have key : ∀ t ∈ Tryd.f5.params.toList, Tryd.prog.wantsStandIn t = false := by decide +kernel
        exact key t (by rw [Tryd.params5]; exact List.mem_of_getElem? (by simpa using ht))⟩) (by kernel_rfl)
end
#print axioms proved
end TermPlaysRow
end Go.Proofs.YtojejhmodaaoiaaDoor
