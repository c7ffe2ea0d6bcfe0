/- Lemmas for the claim (texts Nm5, Nm6, Nm7, Nm8, Nm9, NmA, NmB, NmC, NmD, what its proof uses of them). -/
import Derived.Test.YtpchohjkelopoaaGreatDoorR14
set_option linter.unusedSimpArgs false
set_option linter.unusedVariables false
set_option maxRecDepth 20000
namespace Go.Proofs.YtpchohjkelopoaaGreatDoor
open Go.RowKit
attribute [go_sem] more_more Array.size_append
theorem numsF_len : ∀ (n : Nat) (l : List UInt8) (xs : List Int), l.length ≤ n → numsF l = some xs → xs.length ≤ l.length
  | n, [], xs, _, h => by rw [numsF_nil] at h; cases h; exact Nat.le_refl _
  | 0, c :: t, xs, hn, _ => by simp at hn
  | n + 1, c :: t, xs, hn, h => by
    cases hs : splitC (c :: t) with
    | none => rw [numsF_nosplit (by simp) hs] at h; cases h
    | some p =>
      obtain ⟨a, b⟩ := p
      have hl := congrArg List.length (splitC_some _ _ _ hs).1
      simp only [List.length_append, List.length_cons] at hl hn
      rw [numsF_split hs] at h
      cases ha : wordOk a with
      | none => rw [ha] at h; cases h
      | some z =>
        rw [ha] at h
        simp only [Option.map_eq_some_iff] at h
        obtain ⟨zs, h1, rfl⟩ := h
        have := numsF_len n b zs (by omega) h1
        simp only [List.length_cons]
        omega
/-- the texts of numbers of the table -/
def textsF (l : List ByteArray) : List Int → Option (List ByteArray)
  | [] => some []
  | n :: ns => match textF l n with
    | none => none
    | some s => (textsF l ns).map fun ts => s :: ts
theorem textsF_no {l : List ByteArray} {xs : List Int} {k : Nat} {n : Int} (h : xs[k]? = some n) (ht : textF l n = none) : textsF l (xs.drop k) = none := by
  rw [List.drop_eq_getElem?_toList_append, h]
  simp [textsF, ht]
theorem textsF_yes {l : List ByteArray} {xs : List Int} {k : Nat} {n : Int} {s : ByteArray} (h : xs[k]? = some n) (ht : textF l n = some s) : textsF l (xs.drop k) = (textsF l (xs.drop (k + 1))).map fun ts => s :: ts := by
  rw [List.drop_eq_getElem?_toList_append, h]
  simp [textsF, ht]
def chunksR (z : Int) : Option (List ByteArray) → Option (Int × List ByteArray) × Int
  | none => (none, 6)
  | some ts => (some (z, ts), 0)
/-- a leaf's version and its chunks' texts, or the error -/
def rchunksF (l : List ByteArray) (n : Int) : Option (Int × List ByteArray) × Int := match textF l n with
  | none => (none, 6)
  | some s => match numsF s.data.toList with
    | none => (none, 3)
    | some [] => (none, 3)
    | some (z :: xs) => if 0 ≤ z ∧ z ≤ 2147483647 ∧ aboveF xs = true then chunksR z (textsF l xs) else (none, 3)
/-- what root.Chunks hands back -/
def RChunksPost (w w' : World) (e : Ending) (r : Option (Int × List ByteArray) × Int) : Prop := match r.1 with
  | none => e = .returned (.tuple #[.int .i64 0, .slice none 0 0, .int .i64 r.2]) ∧ Ext w w'
  | some x => ∃ v, e = .returned (.tuple #[.int .i64 x.1, v, .int .i64 r.2]) ∧ w'.ownsRow w.heap.size 9 1 v x.2.length (x.2.map Value.string) ∧ Ext w w'
set_option maxHeartbeats 1000000 in
/-- the refusals ahead of the texts -/
theorem chunks_refuse (B bt bm : Nat) (tv : Value) (l : List ByteArray) (n : Int) (s : ByteArray) (w : World) (ht : textF l n = some s) (h : TabAt B bt bm tv l w) (hsz : ∀ s ∈ l, s.size ≤ 1000000) (EB PB : Nat) (hE : ErrsAt EB w) (hEB : EB ≤ w.heap.size) (hP : Pow10 PB w) (hPB : PB ≤ w.heap.size)
    (hn : numsF s.data.toList = none ∨ numsF s.data.toList = some []) :
    Calls Tryz.prog 44 #[.pointer (some ⟨bt, 0, none⟩), .int .i64 n] w fun e w' => RChunksPost w w' e (none, 3) := by
  have HT := Lib.hid (ttext_any B bt bm tv l n w h)
  rw [ht] at HT
  simp only [ttextE] at HT
  have hss := hsz s (textF_mem ht)
  rcases hn with hn | hn
  · have NC := Lib.hid (numbers_any s hss EB PB w hE hEB hP hPB _ hn)
    clear ht hE hP hn hsz h
    go_enter Tryz.func44, Tryz.ntmps44
    go_wp2_with (first
      | (go_at_call 41; refine HT.out.mono ?_; rintro e _ ⟨rfl, rfl⟩)
      | (go_at_call 70; refine NC.out.mono ?_; rintro e w1 ⟨rfl, hx⟩; have HX := Lib.hid hx; clear hx))
    go_ret3
    exact ⟨rfl, HX.out⟩
  · have NC := Lib.hid (numbers_any s hss EB PB w hE hEB hP hPB _ hn)
    clear ht hE hP hn hsz h
    go_enter Tryz.func44, Tryz.ntmps44
    go_wp2_with (first
      | (go_at_call 41; refine HT.out.mono ?_; rintro e _ ⟨rfl, rfl⟩)
      | (go_at_call 70; refine NC.out.mono ?_; rintro e w1 ⟨v, rfl, hown, h64, hx⟩; obtain ⟨p, cap, rfl, hcap, hg⟩ := own_form hown; have HX := Lib.hid hx; clear hown h64 hx hg))
    go_ret3
    exact ⟨rfl, HX.out⟩
set_option maxHeartbeats 1000000 in
theorem chunks_none (B bt bm : Nat) (tv : Value) (l : List ByteArray) (n : Int) (w : World) (ht : textF l n = none) (h : TabAt B bt bm tv l w) :
    Calls Tryz.prog 44 #[.pointer (some ⟨bt, 0, none⟩), .int .i64 n] w fun e w' => RChunksPost w w' e (none, 6) := by
  have HT := Lib.hid (ttext_any B bt bm tv l n w h)
  rw [ht] at HT
  simp only [ttextE] at HT
  clear ht h
  go_enter Tryz.func44, Tryz.ntmps44
  go_wp2_with (go_at_call 41; refine HT.out.mono ?_; rintro e _ ⟨rfl, rfl⟩)
  go_ret3
  exact ⟨rfl, Ext.refl _⟩
/-- the row that root.numbers hands back, read: its first number and the others -/
theorem nums_row {w w1 : World} {e : Ending} {z : Int} {xs : List Int} {m : Nat} (hm : xs.length = m) (h : NumsPost w w1 e (some (z :: xs))) :
    ∃ g cap, e = .returned (.tuple #[.slice (some ⟨g, 0, none⟩) (m + 1) cap, .bool true]) ∧ w1.cell? ⟨g, 0, none⟩ = some (.int .i64 z) ∧ g < w1.heap.size ∧ m + 1 ≤ cap ∧ cap ≤ 9223372036854775807 ∧
      Hid (w1.ownsRow w.heap.size 3 1 (.slice (some ⟨g, 0, none⟩) (m + 1) cap) (m + 1) (cellsI (z :: xs))) ∧ Hid (∀ (j : Nat) (u : Int), xs[j]? = some u → w1.cell? ⟨g, 1 + j, none⟩ = some (.int .i64 u)) ∧ Hid (Ext w w1) := by
  obtain ⟨v, rfl, hown, _, hx⟩ := h
  rw [show (z :: xs).length = m + 1 by simp [hm]] at hown
  rcases hown.2 with ⟨_, h0⟩ | ⟨g, cap, cur, rfl, _, hh, hc, hcm, _⟩
  · omega
  · have hat := fun (j : Nat) (u : Value) (hj : (cellsI (z :: xs))[j]? = some u) => hown.cells (g := g) rfl j u hj
    refine ⟨g, cap, rfl, ?_, (Array.getElem?_eq_some_iff.1 hh).1, hc, by unfold maxLen at hcm; omega, hown, fun j u hj => ?_, hx⟩
    · have := hat 0 (.int .i64 z) rfl
      rw [Addr.add_lit] at this
      exact this
    · have := hat (1 + j) (.int .i64 u) (by rw [Nat.add_comm]; simp [cellsI, hj])
      rw [Addr.add_lit, Nat.zero_add] at this
      exact this
theorem above_tail {w1 : World} {g cap m : Nat} {xs : List Int} (hm : xs.length = m) (hcap : m + 1 ≤ cap) (hcm : cap ≤ 9223372036854775807) (HA : ∀ (j : Nat) (u : Int), xs[j]? = some u → w1.cell? ⟨g, 1 + j, none⟩ = some (.int .i64 u)) :
    Calls Tryz.prog 71 #[.slice (if cap = 1 then some ⟨g, 0, none⟩ else some ⟨g, 1, none⟩) m (cap - 1)] w1 fun e w' => e = .returned (.bool (aboveF xs)) ∧ w1 = w' :=
  above_core _ m (cap - 1) xs w1 hm (by omega) fun j u hj => ⟨g, 1, by
    have := (List.getElem?_eq_some_iff.1 hj).1
    rw [if_neg (by omega)], HA j u hj⟩
set_option maxHeartbeats 1000000 in
theorem chunks_bad (B bt bm : Nat) (tv : Value) (l : List ByteArray) (n : Int) (s : ByteArray) (z : Int) (xs : List Int) (w : World) (ht : textF l n = some s) (h : TabAt B bt bm tv l w) (hsz : ∀ s ∈ l, s.size ≤ 1000000) (EB PB : Nat) (hE : ErrsAt EB w) (hEB : EB ≤ w.heap.size) (hP : Pow10 PB w) (hPB : PB ≤ w.heap.size)
    (hn : numsF s.data.toList = some (z :: xs)) (hbad : ¬ (0 ≤ z ∧ z ≤ 2147483647 ∧ aboveF xs = true)) :
    Calls Tryz.prog 44 #[.pointer (some ⟨bt, 0, none⟩), .int .i64 n] w fun e w' => RChunksPost w w' e (none, 3) := by
  have HT := Lib.hid (ttext_any B bt bm tv l n w h)
  rw [ht] at HT
  simp only [ttextE] at HT
  have hss := hsz s (textF_mem ht)
  have NC := Lib.hid (numbers_any s hss EB PB w hE hEB hP hPB _ hn)
  obtain ⟨m, hm⟩ : ∃ m, xs.length = m := ⟨_, rfl⟩
  by_cases hz0 : z < 0
  · clear ht hE hP hn hsz h hbad
    go_enter Tryz.func44, Tryz.ntmps44
    go_wp2_with (first
      | (go_at_call 41; refine HT.out.mono ?_; rintro e _ ⟨rfl, rfl⟩)
      | (go_at_call 70; refine NC.out.mono ?_; intro e w1 hp; obtain ⟨g, cap, rfl, c0, hb1, hcap, hcm, HO, HA, HX⟩ := nums_row hm hp; clear hp))
    go_ret3
    exact ⟨rfl, HX.out⟩
  by_cases hz1 : 2147483647 < z
  · clear ht hE hP hn hsz h hbad
    go_enter Tryz.func44, Tryz.ntmps44
    go_wp2_with (first
      | (go_at_call 41; refine HT.out.mono ?_; rintro e _ ⟨rfl, rfl⟩)
      | (go_at_call 70; refine NC.out.mono ?_; intro e w1 hp; obtain ⟨g, cap, rfl, c0, hb1, hcap, hcm, HO, HA, HX⟩ := nums_row hm hp; clear hp))
    go_ret3
    exact ⟨rfl, HX.out⟩
  have ha : aboveF xs = false := by
    cases h1 : aboveF xs with
    | false => rfl
    | true => exact absurd ⟨by omega, by omega, h1⟩ hbad
  clear ht hE hP hn hsz h hbad
  go_enter Tryz.func44, Tryz.ntmps44
  go_wp2_with (first
    | (go_at_call 41; refine HT.out.mono ?_; rintro e _ ⟨rfl, rfl⟩)
    | (go_at_call 70; refine NC.out.mono ?_; intro e w1 hp; obtain ⟨g, cap, rfl, c0, hb1, hcap, hcm, HO, HA, HX⟩ := nums_row hm hp; clear hp)
    | (go_at_call 71; refine (above_tail hm hcap hcm HA.out).mono ?_; rintro e _ ⟨rfl, rfl⟩; rw [ha]))
  all_goals (go_ret3; exact ⟨rfl, HX.out⟩)
theorem cell_ext {w w' : World} {a : Addr} {v : Value} (h : w.cell? a = some v) (hx : Ext w w') : w'.cell? a = some v := by
  obtain ⟨d, os, rfl⟩ := hx
  have hb := rcell_lt h
  have := (Ext.more (Ext.refl w) d os).below.block a.block hb
  unfold World.cell? at h ⊢
  rw [this]
  exact h
set_option maxHeartbeats 1000000 in
theorem chunks_good (B bt bm : Nat) (tv : Value) (l : List ByteArray) (n : Int) (s : ByteArray) (z : Int) (xs : List Int) (w : World) (ht : textF l n = some s) (h : TabAt B bt bm tv l w) (hsz : ∀ s ∈ l, s.size ≤ 1000000) (EB PB : Nat) (hE : ErrsAt EB w) (hEB : EB ≤ w.heap.size) (hP : Pow10 PB w) (hPB : PB ≤ w.heap.size)
    (hn : numsF s.data.toList = some (z :: xs)) (hz0 : 0 ≤ z) (hz1 : z ≤ 2147483647) (ha : aboveF xs = true) (q : Option (List ByteArray)) (hq : textsF l xs = q) :
    Calls Tryz.prog 44 #[.pointer (some ⟨bt, 0, none⟩), .int .i64 n] w fun e w' => RChunksPost w w' e (chunksR z q) := by
  obtain ⟨i1, hi1, hy0, hy1, hy2⟩ := info_parts strInfo
  have HT := Lib.hid (ttext_any B bt bm tv l n w h)
  have HB := Lib.hid h
  rw [ht] at HT
  simp only [ttextE] at HT
  have hss := hsz s (textF_mem ht)
  have NC := Lib.hid (numbers_any s hss EB PB w hE hEB hP hPB _ hn)
  obtain ⟨m, hm⟩ : ∃ m, xs.length = m := ⟨_, rfl⟩
  have HM := Lib.hid hm
  have hm6 : m ≤ 1000000 := by
    have := numsF_len _ _ _ (Nat.le_refl _) hn
    rw [ba_len, List.length_cons] at this
    omega
  have HQ := Lib.hid hq
  have hd0 : (((m : Nat) : Int) + 1 == 0) = false := by rw [beq_eq_false_iff_ne]; omega
  have hd1 : decide (z < 0) = false := by rw [decide_eq_false_iff_not]; omega
  have hd2 : decide (2147483647 < z) = false := by rw [decide_eq_false_iff_not]; omega
  clear ht hE hP hn hsz h hss
  clear hq
  go_enter Tryz.func44, Tryz.ntmps44
  go_wp2_with (first
    | (go_at_call 41; refine HT.out.mono ?_; rintro e _ ⟨rfl, rfl⟩)
    | (go_at_call 70; refine NC.out.mono ?_; intro e w1 hp; obtain ⟨g, cap, rfl, c0, hb1, hcap, hcm, HO, HA, HX⟩ := nums_row hm hp; clear hp)
    | (go_at_call 71; refine (above_tail hm hcap hcm HA.out).mono ?_; rintro e _ ⟨rfl, rfl⟩; rw [ha]; generalize hp : (if cap = 1 then (some ⟨g, 0, none⟩ : Option Addr) else some ⟨g, 1, none⟩) = p))
  have hpp : Hid (0 < m → p = some ⟨g, 1, none⟩) := Lib.hid fun h0 => by rw [← hp, if_neg (by omega)]
  clear hp NC HT
  all_goals
    go_loopw [11, 58] (fun out ii wr => ∃ (k : Nat) (ts : List ByteArray), ii = .int .i64 (k : Int) ∧ k ≤ m ∧ Hid (wr.ownsRow w1.heap.size 9 1 out k (ts.map Value.string) ∧ ts.length = k ∧ Ext w1 wr ∧ (textsF l (xs.drop k)).map (ts ++ ·) = q)) (fun _ ii _ => m - (intOf ii).toNat)
    case atStart => exact ⟨0, [], rfl, Nat.zero_le _, Lib.hid ⟨World.ownsRow_nil _ _ _ _, rfl, Ext.refl _, by rw [List.drop_zero, HQ.out]; cases q <;> simp⟩⟩
    case round =>
      obtain ⟨k, ts, rfl, hk, hH⟩ := hrel
      have HEX : Hid (Ext w1 wr) := Lib.hid hH.out.2.2.1
      have hbr : g < wr.heap.size := by have := HEX.out.size; omega
      by_cases hlt : k < m
      · have hpe := hpp.out (by omega)
        subst hpe
        obtain ⟨u, hu⟩ : ∃ u, xs[k]? = some u := ⟨_, List.getElem?_eq_getElem (by have := HM.out; omega)⟩
        have cu := cell_ext (HA.out k u hu) HEX.out
        have hlt3 : (k : Int) < m := by omega
        have TC := Lib.hid (ttext_any B bt bm tv l u wr (HB.out.ext (HX.out.trans HEX.out)))
        cases htx : textF l u with
        | none =>
          have hre : q = none := by have := hH.out.2.2.2; rw [textsF_no hu htx] at this; simpa using this.symm
          subst hre
          rw [htx] at TC
          simp only [ttextE] at TC
          clear hu htx
          go_wp2_with (go_at_call 41; refine TC.out.mono ?_; rintro e _ ⟨rfl, rfl⟩)
          go_ret3
          exact ⟨rfl, HX.out.trans HEX.out⟩
        | some t =>
          have HST := Lib.hid (textsF_yes hu htx)
          rw [htx] at TC
          simp only [ttextE] at TC
          clear hu htx
          go_wp2_with (first
            | (go_at_call 41; refine TC.out.mono ?_; rintro e _ ⟨rfl, rfl⟩)
            | (at_builtin; refine Hid.out ?_))
          refine Lib.hid ?_
          refine wpList_append_own_at _ rfl _ _ 22 rfl w1.heap.size 9 i1 (.string ⟨#[]⟩) 1 16 Tryz.underlying22 hi1 hy0 hy1 hy2 rfl (by decide) _ k (ts.map Value.string) rfl (hH.out.1.alloc _) ⟨wr.heap.size, 0, none⟩ 1 1 [.string t] rfl rfl ?c1 ?c2 ?c3 ?c4 ?c5 ?_
          case c1 => exact cell_one_new _ _ _
          case c2 => first | rfl | (intro u hu; simp at hu; subst hu; rfl)
          case c3 => unfold maxLen; omega
          case c4 => omega
          case c5 => have h1 := HEX.out.size; simp; omega
          intro v4 w4 hown4 hgrow4 _ _
          have HX4 : Hid (Ext w1 w4) := Lib.hid (Ext.grown (HEX.out.alloc _) hgrow4 (fun k hk => (hH.out.1.lt k hk).1))
          have HO4 := Lib.hid hown4
          clear hown4 hgrow4
          go_wp2_with fail
          go_roundw
          case rel =>
            refine ⟨k + 1, ts ++ [t], by go_num, by omega, Lib.hid ⟨?_, ?_, HX4.out, ?_⟩⟩
            · rw [show (ts ++ [t]).map Value.string = ts.map Value.string ++ [.string t] by simp]; exact HO4.out
            · simp [hH.out.2.1]
            · have h1 := hH.out.2.2.2
              rw [HST.out] at h1
              rw [← h1]
              simp only [Option.map_map]
              congr 1
              funext q
              simp
          case measure => simp [intOf]; omega
      · have hks : m = k := by omega
        subst hks
        have hre : q = some ts := by have := hH.out.2.2.2; rw [List.drop_of_length_le (by have := HM.out; omega)] at this; simpa [textsF] using this.symm
        subst hre
        have c0r := cell_ext c0 HEX.out
        have HTL := Lib.hid hH.out.2.1
        go_wp2_with fail
        go_ret3
        refine ⟨_, rfl, ?_, HX.out.trans HEX.out⟩
        rw [HTL.out]
        exact hH.out.1.mono HX.out.size
/-- root.Chunks = rchunksF -/
theorem rootchunks_any (B bt bm : Nat) (tv : Value) (l : List ByteArray) (n : Int) (w : World) (h : TabAt B bt bm tv l w) (hsz : ∀ s ∈ l, s.size ≤ 1000000) (EB PB : Nat) (hE : ErrsAt EB w) (hEB : EB ≤ w.heap.size) (hP : Pow10 PB w) (hPB : PB ≤ w.heap.size) :
    Calls Tryz.prog 44 #[.pointer (some ⟨bt, 0, none⟩), .int .i64 n] w fun e w' => RChunksPost w w' e (rchunksF l n) := by
  unfold rchunksF
  cases ht : textF l n with
  | none => exact chunks_none B bt bm tv l n w ht h
  | some s =>
    simp only
    cases hn : numsF s.data.toList with
    | none => exact chunks_refuse B bt bm tv l n s w ht h hsz EB PB hE hEB hP hPB (Or.inl hn)
    | some x =>
      cases x with
      | nil => exact chunks_refuse B bt bm tv l n s w ht h hsz EB PB hE hEB hP hPB (Or.inr hn)
      | cons z xs =>
        simp only
        by_cases hg : 0 ≤ z ∧ z ≤ 2147483647 ∧ aboveF xs = true
        · rw [if_pos hg]
          exact chunks_good B bt bm tv l n s z xs w ht h hsz EB PB hE hEB hP hPB hn hg.1 hg.2.1 hg.2.2 _ rfl
        · rw [if_neg hg]
          exact chunks_bad B bt bm tv l n s z xs w ht h hsz EB PB hE hEB hP hPB hn hg
end Go.Proofs.YtpchohjkelopoaaGreatDoor

set_option maxRecDepth 20000
namespace Go.Proofs.YtpchohjkelopoaaGreatDoor
open Go.RowKit
/-- one digit of the scan -/
def scanC (c : UInt8) (n : Int) : Option Int :=
  if (c.toNat : Int) - 48 < 0 ∨ 9 < (c.toNat : Int) - 48 ∨ n < -922337203685477580 ∨ (n = -922337203685477580 ∧ 8 < (c.toNat : Int) - 48) then none else some (10 * n - ((c.toNat : Int) - 48))
/-- the scan of digits -/
def scanF : List UInt8 → Int → Option Int
  | [], n => some n
  | c :: t, n => match scanC c n with
    | none => none
    | some m => scanF t m
theorem scanF_append : ∀ (a b : List UInt8) (n : Int), scanF (a ++ b) n = (scanF a n).bind (scanF b)
  | [], b, n => rfl
  | c :: t, b, n => by
    simp only [List.cons_append, scanF]
    cases scanC c n with
    | none => rfl
    | some m => exact scanF_append t b m
theorem dig_nat (d : Nat) (hd : d < 10) : (UInt8.ofNat (48 + d)).toNat = 48 + d := by
  rw [UInt8.toNat_ofNat']
  omega
theorem scanC_dig (d : Nat) (hd : d < 10) (n : Int) (h : 922337203685477580 * 10 + 8 ≥ 10 * (-n) + d) : scanC (UInt8.ofNat (48 + d)) n = some (10 * n - d) := by
  unfold scanC
  rw [dig_nat d hd]
  rw [if_neg (by omega)]
  congr 1
  omega
theorem scan_digs : ∀ (k m : Nat), m < 10 ^ (k + 1) → m ≤ 9223372036854775808 → scanF (Lib.decDigits m) 0 = some (-(m : Int))
  | 0, m, h, _ => by
    have h9 : m < 10 := by simpa using h
    rw [Lib.decDigits_one h9]
    simp only [scanF]
    rw [scanC_dig m h9 0 (by omega)]
    simp
  | k + 1, m, h, hm => by
    by_cases h9 : m < 10
    · rw [Lib.decDigits_one h9]
      simp only [scanF]
      rw [scanC_dig m h9 0 (by omega)]
      simp
    · rw [dec_big h9, scanF_append, scan_digs k (m / 10) (by rw [Nat.pow_succ] at h; omega) (by omega)]
      simp only [Option.bind_some, scanF]
      rw [scanC_dig (m % 10) (by omega) _ (by omega)]
      simp only [Option.some.injEq]
      omega
/-- ref12.number's answer -/
def numR (l : List UInt8) : Option Int :=
  if l.length < 1 ∨ 20 < l.length then none
  else match l with
    | [] => none
    | c :: t =>
      if c = 45 then (if t = [] then none else match scanF t 0 with
        | none => none
        | some n => if Lib.itoa n = l then some n else none)
      else match scanF l 0 with
        | none => none
        | some n => if n = -9223372036854775808 then none else if Lib.itoa (-n) = l then some (-n) else none
end Go.Proofs.YtpchohjkelopoaaGreatDoor

set_option maxRecDepth 20000
namespace Go.Proofs.YtpchohjkelopoaaGreatDoor
open Go.RowKit
theorem parse_append : ∀ (a b : List UInt8) (u v : Nat), Lib.parseUint10 u a = .ok v → Lib.parseUint10 u (a ++ b) = Lib.parseUint10 v b
  | [], b, u, v, h => by simp only [Lib.parseUint10, Lib.NumEnd.ok.injEq] at h; subst h; rfl
  | c :: t, b, u, v, h => by
    simp only [Lib.parseUint10] at h
    simp only [List.cons_append, Lib.parseUint10]
    split at h
    · next h1 =>
      rw [if_pos h1]
      split at h
      · cases h
      · next h2 =>
        rw [if_neg h2]
        split at h
        · cases h
        · next h3 =>
          rw [if_neg h3]
          exact parse_append t b _ v h
    · cases h
theorem parse_dig (d : Nat) (hd : d < 10) (u : Nat) (h1 : u < 1844674407370955162) (h2 : u * 10 + d < 18446744073709551616) : Lib.parseUint10 u [UInt8.ofNat (48 + d)] = .ok (u * 10 + d) := by
  simp only [Lib.parseUint10]
  rw [dig_nat d hd, if_pos (by omega), if_neg (by omega), if_neg (by omega)]
  congr 1
  omega
theorem parse_digs : ∀ (k m : Nat), m < 10 ^ (k + 1) → m ≤ 9223372036854775808 → Lib.parseUint10 0 (Lib.decDigits m) = .ok m
  | 0, m, h, _ => by
    have h9 : m < 10 := by simpa using h
    rw [Lib.decDigits_one h9, parse_dig m h9 0 (by omega) (by omega)]
    simp
  | k + 1, m, h, hm => by
    by_cases h9 : m < 10
    · rw [Lib.decDigits_one h9, parse_dig m h9 0 (by omega) (by omega)]
      simp
    · rw [dec_big h9, parse_append _ _ _ _ (parse_digs k (m / 10) (by rw [Nat.pow_succ] at h; omega) (by omega)), parse_dig _ (by omega) _ (by omega) (by omega)]
      congr 1
      omega
theorem dig_nonempty (m : Nat) : Lib.decDigits m ≠ [] := by
  by_cases h9 : m < 10
  · rw [Lib.decDigits_one h9]; simp
  · rw [dec_big h9]; simp
theorem dig_head {m : Nat} (hm : m ≤ 9223372036854775808) {c : UInt8} {t : List UInt8} (h : Lib.decDigits m = c :: t) : 48 ≤ c.toNat ∧ c.toNat ≤ 57 := by
  have h1 := parse_digs 18 m (by omega) hm
  rw [h] at h1
  simp only [Lib.parseUint10] at h1
  split at h1
  · next h2 => exact h2
  · cases h1
theorem atoi_itoa (z : Int) (h0 : -9223372036854775808 ≤ z) (h1 : z ≤ 9223372036854775807) : Lib.atoiAll (Lib.itoa z) = .ok z := by
  unfold Lib.itoa
  by_cases hz : z < 0
  · rw [if_pos hz]
    have hp : Lib.parseMag (Lib.decDigits z.natAbs) = .ok z.natAbs := by
      unfold Lib.parseMag
      rw [if_neg (dig_nonempty _), parse_digs 18 z.natAbs (by omega) (by omega)]
    have h45 : (45 : UInt8).toNat = 45 := rfl
    unfold Lib.atoiAll
    simp only [h45, or_true, if_true, hp]
    rw [if_neg (by simp), if_neg (by omega)]
    congr 1
    omega
  · rw [if_neg hz]
    have hp : Lib.parseMag (Lib.decDigits z.toNat) = .ok z.toNat := by
      unfold Lib.parseMag
      rw [if_neg (dig_nonempty _), parse_digs 18 z.toNat (by omega) (by omega)]
    cases hd : Lib.decDigits z.toNat with
    | nil => exact absurd hd (dig_nonempty _)
    | cons c t =>
      have hc := dig_head (by omega) hd
      rw [hd] at hp
      unfold Lib.atoiAll
      have n1 : ¬ (c.toNat = 43) := by omega
      have n2 : ¬ (c.toNat = 45) := by omega
      simp only [n1, n2, or_self, if_false]
      rw [hp]
      simp only
      rw [if_neg (by omega), if_neg (by simp)]
      congr 1
      omega
theorem wordOk_iff (l : List UInt8) (z : Int) : wordOk l = some z ↔ Lib.itoa z = l ∧ -9223372036854775808 ≤ z ∧ z ≤ 9223372036854775807 := by
  constructor
  · intro h
    unfold wordOk at h
    split at h
    · next z' h' =>
      split at h
      · next h2 =>
        simp only [Option.some.injEq] at h
        subst h
        exact ⟨h2, atoi_64 h'⟩
      · cases h
    · cases h
  · rintro ⟨rfl, h0, h1⟩
    unfold wordOk
    rw [atoi_itoa z h0 h1]
    simp
theorem scanC_bound {c : UInt8} {n m : Int} (h : scanC c n = some m) (h0 : -9223372036854775808 ≤ n) (h1 : n ≤ 0) : -9223372036854775808 ≤ m ∧ m ≤ 0 := by
  unfold scanC at h
  split at h
  · cases h
  · simp only [Option.some.injEq] at h
    omega
theorem scan_bound : ∀ (l : List UInt8) (n m : Int), scanF l n = some m → -9223372036854775808 ≤ n → n ≤ 0 → -9223372036854775808 ≤ m ∧ m ≤ 0
  | [], n, m, h, h0, h1 => by simp only [scanF, Option.some.injEq] at h; omega
  | c :: t, n, m, h, h0, h1 => by
    simp only [scanF] at h
    split at h
    · cases h
    · next k hk =>
      have := scanC_bound hk h0 h1
      exact scan_bound t k m h this.1 this.2
theorem numR_iff (l : List UInt8) (z : Int) : numR l = some z ↔ Lib.itoa z = l ∧ -9223372036854775808 ≤ z ∧ z ≤ 9223372036854775807 := by
  constructor
  · intro h
    unfold numR at h
    split at h
    · cases h
    · split at h
      · cases h
      · split at h
        · split at h
          · cases h
          · split at h
            · cases h
            · next n hn =>
              have hb := scan_bound _ _ _ hn (by omega) (by omega)
              split at h
              · next h2 =>
                simp only [Option.some.injEq] at h
                subst h
                exact ⟨h2, by omega, by omega⟩
              · cases h
        · split at h
          · cases h
          · next n hn =>
            have hb := scan_bound _ _ _ hn (by omega) (by omega)
            split at h
            · cases h
            · next h3 =>
              split at h
              · next h2 =>
                simp only [Option.some.injEq] at h
                subst h
                exact ⟨h2, by omega, by omega⟩
              · cases h
  · rintro ⟨rfl, h0, h1⟩
    unfold numR
    by_cases hz : z < 0
    · have hi : Lib.itoa z = 45 :: Lib.decDigits z.natAbs := by unfold Lib.itoa; rw [if_pos hz]
      have hl := dig_lt 18 z.natAbs (by omega)
      rw [hi]
      rw [if_neg (by simp; omega)]
      simp only
      rw [if_pos trivial, if_neg (dig_nonempty _), scan_digs 18 _ (by omega) (by omega)]
      simp only
      rw [show -(z.natAbs : Int) = z by omega, hi, if_pos rfl]
    · have hi : Lib.itoa z = Lib.decDigits z.toNat := by unfold Lib.itoa; rw [if_neg hz]
      cases hd : Lib.decDigits z.toNat with
      | nil => exact absurd hd (dig_nonempty _)
      | cons c t =>
        have hc := dig_head (by omega) hd
        have hne : ¬ (c = 45) := by rintro rfl; simp at hc
        have hl := dig_lt 18 z.toNat (by omega)
        rw [hd] at hl
        simp only [List.length_cons] at hl
        rw [hi, hd]
        rw [if_neg (by simp; omega)]
        simp only
        rw [if_neg hne, ← hd, scan_digs 18 _ (by omega) (by omega)]
        simp only
        rw [if_neg (by omega), show -(-(z.toNat : Int)) = z by omega, hi, if_pos rfl]
/-- the two ways come to one -/
theorem numR_eq (l : List UInt8) : numR l = wordOk l := by
  apply Option.ext
  intro z
  rw [numR_iff, wordOk_iff]
end Go.Proofs.YtpchohjkelopoaaGreatDoor

set_option maxRecDepth 20000
namespace Go.Proofs.YtpchohjkelopoaaGreatDoor
open Go.RowKit
/-- what ref12.number hands back -/
def NumPost (e : Ending) : Option Int → Prop
  | none => ∃ n : Int, e = .returned (.tuple #[.int .i64 n, .bool false])
  | some n => e = .returned (.tuple #[.int .i64 n, .bool true])
theorem numR_size {l : List UInt8} (h : l.length < 1 ∨ 20 < l.length) : numR l = none := by unfold numR; rw [if_pos h]
set_option maxHeartbeats 1000000 in
theorem rnumber_size (s : ByteArray) (h : s.size < 1 ∨ 20 < s.size) (w : World) :
    Calls Tryz.prog 102 #[.string s] w fun e w' => NumPost e (numR s.data.toList) ∧ Ext w w' := by
  rw [numR_size (by rw [ba_len]; exact h)]
  by_cases h1 : s.size < 1
  · have hq : (s.size : Int) < 1 := by omega
    clear h
    go_enter Tryz.func102, Tryz.ntmps102
    go_wp2_with fail
    go_ret2
    exact ⟨⟨_, rfl⟩, Ext.refl _⟩
  · have h2 := h.resolve_left h1
    have hq : ¬ ((s.size : Int) < 1) := by omega
    have hq2 : (20 : Int) < s.size := by omega
    clear h
    go_enter Tryz.func102, Tryz.ntmps102
    go_wp2_with fail
    go_ret2
    exact ⟨⟨_, rfl⟩, Ext.refl _⟩
theorem ints_one (w : World) (z : Int) : IntsAt (w.alloc (.cells #[.int .i64 z] 3)) (.slice (some ⟨w.heap.size, 0, none⟩) 1 1) [z] := by
  refine Or.inr ⟨w.heap.size, 0, 1, rfl, Nat.le_refl _, fun j u hj => ?_⟩
  match j, hj with
  | 0, hj =>
    simp at hj
    subst hj
    simp
theorem app_comma (s : ByteArray) : (s ++ ⟨#[44]⟩ : ByteArray).toList = s.data.toList ++ [44] := by
  rw [Lib.toList_data]
  simp
theorem ba_at {s : ByteArray} {k : Nat} (h : k < s.size) : s.data.toList[k]? = some (s[k]'h) := by
  simp [ByteArray.getElem_eq_getElem_data]
theorem scan_at {s : ByteArray} {k : Nat} (h : k < s.size) (n : Int) : scanF (s.data.toList.drop k) n = match scanC (s[k]'h) n with | none => none | some m => scanF (s.data.toList.drop (k + 1)) m := by
  rw [List.drop_eq_getElem?_toList_append, ba_at h]
  rfl
set_option maxHeartbeats 1000000 in
theorem rnumber_pos (s : ByteArray) (h1 : 0 < s.size) (h2 : s.size ≤ 20) (hc : ¬ (s[0]'h1) = 45) (q : Option Int) (hq0 : scanF s.data.toList 0 = q) (r : Option Int) (hr0 : q = none → r = none) (hr1 : ∀ n, q = some n → r = if n = -9223372036854775808 then none else if Lib.itoa (-n) = s.data.toList then some (-n) else none) (w : World) :
    Calls Tryz.prog 102 #[.string s] w fun e w' => NumPost e r ∧ Ext w w' := by
  have hq : ¬ ((s.size : Int) < 1) := by omega
  have hq2 : ¬ ((20 : Int) < s.size) := by omega
  have HR0 := Lib.hid hr0
  have HR1 := Lib.hid hr1
  clear hr0 hr1
  have hb0 : (((s[0]'h1).toNat : Int) == 45) = false := by
    rw [beq_eq_false_iff_ne]
    intro h
    exact hc (UInt8.toNat_inj.1 (by rw [show (45 : UInt8).toNat = 45 from rfl]; omega))
  have hb1 : ((0 : Int) == s.size) = false := by rw [beq_eq_false_iff_ne]; omega
  have HQ := Lib.hid hq0
  clear hc hq0
  go_enter Tryz.func102, Tryz.ntmps102
  go_wp2_with fail
  go_loopw [5, 6] (fun nv iv wr => ∃ (k : Nat) (n : Int), nv = .int .i64 n ∧ iv = .int .i64 (k : Int) ∧ k ≤ s.size ∧ -9223372036854775808 ≤ n ∧ n ≤ 0 ∧ Hid (scanF (s.data.toList.drop k) n = q) ∧ w = wr) (fun _ iv _ => s.size - (intOf iv).toNat)
  case atStart => exact ⟨0, 0, rfl, rfl, Nat.zero_le _, by omega, by omega, Lib.hid (by rw [List.drop_zero]; exact HQ.out), rfl⟩
  case round =>
    obtain ⟨k, n, rfl, rfl, hk, hn0, hn1, hH, rfl⟩ := hrel
    by_cases hlt : k < s.size
    · have hlt3 : (k : Int) < s.size := by omega
      have hu := (s[k]'hlt).toNat_lt
      go_wp2_with fail
      all_goals first
        | (go_ret2
           have hn : scanC (s[k]'hlt) n = none := by unfold scanC; rw [if_pos (by omega)]
           have hqn : q = none := by have := hH.out; rw [scan_at hlt, hn] at this; exact this.symm
           rw [HR0.out hqn]
           exact ⟨⟨_, rfl⟩, Ext.refl _⟩)
        | (have hn : scanC (s[k]'hlt) n = some (10 * n - (((s[k]'hlt).toNat : Int) - 48)) := by unfold scanC; rw [if_neg (by omega)]
           refine ⟨⟨k + 1, 10 * n - (((s[k]'hlt).toNat : Int) - 48), ?_, by go_num, by omega, by omega, by omega, Lib.hid ?_, trivial⟩, by simp [intOf]; omega⟩
           · congr 1 <;> omega
           · have := hH.out; rw [scan_at hlt, hn] at this; exact this)
    · have hks : s.size = k := by omega
      have hqn : q = some n := by
        have := hH.out
        rw [List.drop_of_length_le (by rw [ba_len]; omega)] at this
        exact this.symm
      have hrr := HR1.out n hqn
      by_cases hmin : n = -9223372036854775808
      · rw [if_pos hmin] at hrr
        subst hrr
        have HKS := Lib.hid hks
        go_wp2_with fail
        go_ret2
        exact ⟨⟨_, rfl⟩, Ext.refl _⟩
      · rw [if_neg hmin] at hrr
        have DC := Lib.hid fun (W : World) => rdigs_any _ [-n] _ (by simp) (fun u hu => by simp at hu; subst hu; exact ⟨by omega, by omega⟩) (ints_one W (-n))
        by_cases hit : Lib.itoa (-n) = s.data.toList
        · rw [if_pos hit] at hrr
          subst hrr
          go_wp2_with (go_at_call 66; refine (DC.out _).mono ?_; rintro e _ ⟨rfl, rfl⟩)
          have hcm : (digF [-n] == (s ++ ⟨#[44]⟩).toList) = true := by rw [beq_iff_eq, app_comma, ← hit]; simp [digF]
          rw [hcm]
          go_ret2
          exact ⟨rfl, (Ext.refl _).alloc _⟩
        · rw [if_neg hit] at hrr
          subst hrr
          go_wp2_with (go_at_call 66; refine (DC.out _).mono ?_; rintro e _ ⟨rfl, rfl⟩)
          have hcm : (digF [-n] == (s ++ ⟨#[44]⟩).toList) = false := by
            rw [beq_eq_false_iff_ne, app_comma]
            intro h
            exact hit (by simpa [digF] using h)
          rw [hcm]
          go_ret2
          exact ⟨⟨_, rfl⟩, (Ext.refl _).alloc _⟩
end Go.Proofs.YtpchohjkelopoaaGreatDoor

set_option maxRecDepth 20000
namespace Go.Proofs.YtpchohjkelopoaaGreatDoor
open Go.RowKit
set_option maxHeartbeats 1000000 in
theorem rnumber_neg (s : ByteArray) (h1 : 0 < s.size) (h3 : 1 < s.size) (h2 : s.size ≤ 20) (hc : (s[0]'h1) = 45) (q : Option Int) (hq0 : scanF (s.data.toList.drop 1) 0 = q) (r : Option Int) (hr0 : q = none → r = none) (hr1 : ∀ n, q = some n → r = if Lib.itoa n = s.data.toList then some n else none) (w : World) :
    Calls Tryz.prog 102 #[.string s] w fun e w' => NumPost e r ∧ Ext w w' := by
  have hq : ¬ ((s.size : Int) < 1) := by omega
  have hq2 : ¬ ((20 : Int) < s.size) := by omega
  have HR0 := Lib.hid hr0
  have HR1 := Lib.hid hr1
  clear hr0 hr1
  have hb0 : (((s[0]'h1).toNat : Int) == 45) = true := by rw [hc]; rfl
  have hb1 : ((1 : Int) == s.size) = false := by rw [beq_eq_false_iff_ne]; omega
  have HQ := Lib.hid hq0
  clear hc hq0
  go_enter Tryz.func102, Tryz.ntmps102
  go_wp2_with fail
  go_loopw [5, 6] (fun nv iv wr => ∃ (k : Nat) (n : Int), nv = .int .i64 n ∧ iv = .int .i64 (k : Int) ∧ k ≤ s.size ∧ -9223372036854775808 ≤ n ∧ n ≤ 0 ∧ Hid (scanF (s.data.toList.drop k) n = q) ∧ w = wr) (fun _ iv _ => s.size - (intOf iv).toNat)
  case atStart => exact ⟨1, 0, rfl, rfl, by omega, by omega, by omega, Lib.hid HQ.out, rfl⟩
  case round =>
    obtain ⟨k, n, rfl, rfl, hk, hn0, hn1, hH, rfl⟩ := hrel
    by_cases hlt : k < s.size
    · have hlt3 : (k : Int) < s.size := by omega
      have hu := (s[k]'hlt).toNat_lt
      go_wp2_with fail
      all_goals first
        | (go_ret2
           have hn : scanC (s[k]'hlt) n = none := by unfold scanC; rw [if_pos (by omega)]
           have hqn : q = none := by have := hH.out; rw [scan_at hlt, hn] at this; exact this.symm
           rw [HR0.out hqn]
           exact ⟨⟨_, rfl⟩, Ext.refl _⟩)
        | (have hn : scanC (s[k]'hlt) n = some (10 * n - (((s[k]'hlt).toNat : Int) - 48)) := by unfold scanC; rw [if_neg (by omega)]
           refine ⟨⟨k + 1, 10 * n - (((s[k]'hlt).toNat : Int) - 48), ?_, by go_num, by omega, by omega, by omega, Lib.hid ?_, trivial⟩, by simp [intOf]; omega⟩
           · congr 1 <;> omega
           · have := hH.out; rw [scan_at hlt, hn] at this; exact this)
    · have hks : s.size = k := by omega
      have hqn : q = some n := by
        have := hH.out
        rw [List.drop_of_length_le (by rw [ba_len]; omega)] at this
        exact this.symm
      have hrr := HR1.out n hqn
      have htr : True := trivial
      · have DC := Lib.hid fun (W : World) => rdigs_any _ [n] _ (by simp) (fun u hu => by simp at hu; subst hu; exact ⟨by omega, by omega⟩) (ints_one W n)
        by_cases hit : Lib.itoa n = s.data.toList
        · rw [if_pos hit] at hrr
          subst hrr
          go_wp2_with (go_at_call 66; refine (DC.out _).mono ?_; rintro e _ ⟨rfl, rfl⟩)
          have hcm : (digF [n] == (s ++ ⟨#[44]⟩).toList) = true := by rw [beq_iff_eq, app_comma, ← hit]; simp [digF]
          rw [hcm]
          go_ret2
          exact ⟨rfl, (Ext.refl _).alloc _⟩
        · rw [if_neg hit] at hrr
          subst hrr
          go_wp2_with (go_at_call 66; refine (DC.out _).mono ?_; rintro e _ ⟨rfl, rfl⟩)
          have hcm : (digF [n] == (s ++ ⟨#[44]⟩).toList) = false := by
            rw [beq_eq_false_iff_ne, app_comma]
            intro h
            exact hit (by simpa [digF] using h)
          rw [hcm]
          go_ret2
          exact ⟨⟨_, rfl⟩, (Ext.refl _).alloc _⟩
end Go.Proofs.YtpchohjkelopoaaGreatDoor

set_option maxRecDepth 20000
namespace Go.Proofs.YtpchohjkelopoaaGreatDoor
open Go.RowKit
set_option maxHeartbeats 1000000 in
theorem rnumber_sign (s : ByteArray) (h1 : 0 < s.size) (h3 : s.size = 1) (hc : (s[0]'h1) = 45) (w : World) :
    Calls Tryz.prog 102 #[.string s] w fun e w' => NumPost e none ∧ Ext w w' := by
  have hq : ¬ ((s.size : Int) < 1) := by omega
  have hq2 : ¬ ((20 : Int) < s.size) := by omega
  have hb0 : (((s[0]'h1).toNat : Int) == 45) = true := by rw [hc]; rfl
  have hb1 : ((1 : Int) == s.size) = true := by rw [beq_iff_eq]; omega
  clear hc
  go_enter Tryz.func102, Tryz.ntmps102
  go_wp2_with fail
  go_ret2
  exact ⟨⟨_, rfl⟩, Ext.refl _⟩
theorem rnumber_any (s : ByteArray) (w : World) :
    Calls Tryz.prog 102 #[.string s] w fun e w' => NumPost e (wordOk s.data.toList) ∧ Ext w w' := by
  rw [← numR_eq]
  by_cases hz : s.size < 1 ∨ 20 < s.size
  · exact rnumber_size s hz w
  have h1 : 0 < s.size := by omega
  obtain ⟨c, t, hs⟩ : ∃ c t, s.data.toList = c :: t := by
    cases hl : s.data.toList with
    | nil => have := ba_len s; rw [hl] at this; simp at this; omega
    | cons c t => exact ⟨c, t, rfl⟩
  have hlen : t.length + 1 = s.size := by rw [← ba_len, hs]; simp
  have hc0 : (s[0]'h1) = c := by
    have := ba_at h1
    rw [hs] at this
    simpa using this.symm
  have hnz : ¬ ((c :: t).length < 1 ∨ 20 < (c :: t).length) := by simp; omega
  by_cases hc : c = 45
  · by_cases ht : t = []
    · have : numR s.data.toList = none := by rw [hs]; unfold numR; rw [if_neg hnz]; simp only; rw [if_pos hc, if_pos ht]
      rw [this]
      exact rnumber_sign s h1 (by rw [← hlen, ht]; rfl) (by rw [hc0, hc]) w
    · have h3 : 1 < s.size := by
        cases t with
        | nil => exact absurd rfl ht
        | cons a b => simp at hlen; omega
      have hr : numR s.data.toList = match scanF t 0 with | none => none | some n => if Lib.itoa n = c :: t then some n else none := by rw [hs]; unfold numR; rw [if_neg hnz]; simp only; rw [if_pos hc, if_neg ht]; try (cases scanF t 0 <;> rfl)
      refine rnumber_neg s h1 h3 (by omega) (by rw [hc0, hc]) _ rfl _ (fun h => ?_) (fun n h => ?_) w
      · rw [hs] at h; rw [hr]; simp at h; rw [h]
      · rw [hs] at h; rw [hr]; simp at h; rw [h, hs]
  · have hr : numR s.data.toList = match scanF (c :: t) 0 with | none => none | some n => if n = -9223372036854775808 then none else if Lib.itoa (-n) = c :: t then some (-n) else none := by rw [hs]; unfold numR; rw [if_neg hnz]; simp only; rw [if_neg hc]; try (cases scanF (c :: t) 0 <;> rfl)
    refine rnumber_pos s h1 (by omega) (by rw [hc0]; exact hc) _ rfl _ (fun h => ?_) (fun n h => ?_) w
    · rw [hs] at h; rw [hr, h]
    · rw [hs] at h; rw [hr, h, hs]
end Go.Proofs.YtpchohjkelopoaaGreatDoor

set_option maxRecDepth 20000
namespace Go.Proofs.YtpchohjkelopoaaGreatDoor
open Go.RowKit
theorem splitC_at : ∀ (a b : List UInt8), (∀ c ∈ a, c ≠ 44) → splitC (a ++ 44 :: b) = some (a, b)
  | [], b, _ => by simp [splitC]
  | d :: t, b, h => by
    have h1 : ¬ d = 44 := h d (by simp)
    simp only [List.cons_append, splitC]
    rw [if_neg h1, splitC_at t b (fun c hc => h c (by simp [hc]))]
    rfl
theorem splitC_no : ∀ (a : List UInt8), (∀ c ∈ a, c ≠ 44) → splitC a = none
  | [], _ => rfl
  | d :: t, h => by
    have h1 : ¬ d = 44 := h d (by simp)
    simp only [splitC]
    rw [if_neg h1, splitC_no t (fun c hc => h c (by simp [hc]))]
    rfl
/-- at a comma: what stands from 'a' to 'k' is a word -/
theorem split_here {l : List UInt8} {a k : Nat} (hak : a ≤ k) (hk : l[k]? = some 44) (h : ∀ (j : Nat) (c : UInt8), a ≤ j → j < k → l[j]? = some c → c ≠ 44) : splitC (l.drop a) = some ((l.drop a).take (k - a), l.drop (k + 1)) := by
  have hlt := (List.getElem?_eq_some_iff.1 hk).1
  have e1 : l.drop a = (l.drop a).take (k - a) ++ 44 :: l.drop (k + 1) := by
    conv => lhs; rw [← List.take_append_drop (k - a) (l.drop a)]
    congr 1
    rw [List.drop_drop, show a + (k - a) = k by omega, List.drop_eq_getElem?_toList_append, hk]
    rfl
  conv => lhs; rw [e1]
  refine splitC_at _ _ fun c hc => ?_
  obtain ⟨j, hj⟩ := List.getElem?_of_mem hc
  rw [List.getElem?_take] at hj
  split at hj
  · rw [List.getElem?_drop] at hj
    exact h (a + j) c (by omega) (by omega) hj
  · cases hj
theorem split_none {l : List UInt8} {a : Nat} (h : ∀ (j : Nat) (c : UInt8), a ≤ j → l[j]? = some c → c ≠ 44) : splitC (l.drop a) = none := by
  refine splitC_no _ fun c hc => ?_
  obtain ⟨j, hj⟩ := List.getElem?_of_mem hc
  rw [List.getElem?_drop] at hj
  exact h (a + j) c (by omega) hj
end Go.Proofs.YtpchohjkelopoaaGreatDoor

set_option maxRecDepth 20000
namespace Go.Proofs.YtpchohjkelopoaaGreatDoor
open Go.RowKit
attribute [go_sem] more_more Array.size_append
/-- what ref12.List hands back -/
def RListPost (w w' : World) (e : Ending) (r : Option (List Int)) : Prop := match r with
  | none => (∃ v, e = .returned (.tuple #[v, .bool false])) ∧ Ext w w'
  | some l => ∃ v, e = .returned (.tuple #[v, .bool true]) ∧ w'.ownsRow w.heap.size 3 1 v l.length (cellsI l) ∧ In64L l ∧ Ext w w'
theorem wordOk_64 {a : List UInt8} {z : Int} (hat : wordOk a = some z) : -9223372036854775808 ≤ z ∧ z ≤ 9223372036854775807 := by
  unfold wordOk at hat
  split at hat
  · next z' h' =>
    split at hat
    · simp at hat; subst hat; exact atoi_64 h'
    · cases hat
  · cases hat
set_option maxHeartbeats 1000000 in
theorem rlist_any (s : ByteArray) (hm : s.size ≤ 1000000) (w : World) (r : Option (List Int)) (hr : numsF s.data.toList = r) :
    Calls Tryz.prog 73 #[.string s] w fun e w' => RListPost w w' e r := by
  obtain ⟨i1, hi1, hy0, hy1, hy2⟩ := info_parts intInfo
  have HR := Lib.hid hr
  clear hr
  go_enter Tryz.func73, Tryz.ntmps73
  go_wp2_with fail
  go_loopw [4, 5, 6] (fun out fv iv wr => ∃ (a k n : Nat) (ns : List Int), fv = .int .i64 (a : Int) ∧ iv = .int .i64 (k : Int) ∧ a ≤ k ∧ k ≤ s.size ∧ n ≤ a ∧ Hid (wr.ownsRow w.heap.size 3 1 out n (cellsI ns) ∧ ns.length = n ∧ In64L ns ∧ Ext w wr ∧ (numsF (s.data.toList.drop a)).map (ns ++ ·) = r ∧ ∀ (j : Nat) (c : UInt8), a ≤ j → j < k → s.data.toList[j]? = some c → c ≠ 44)) (fun _ _ iv _ => s.size - (intOf iv).toNat)
  case atStart => exact ⟨0, 0, 0, [], rfl, rfl, Nat.le_refl _, Nat.zero_le _, Nat.le_refl _, Lib.hid ⟨World.ownsRow_nil _ _ _ _, rfl, fun u hu => by simp at hu, Ext.refl _, by rw [List.drop_zero, HR.out]; cases r <;> simp, fun j c _ h => by omega⟩⟩
  case round =>
    obtain ⟨a, k, n, ns, rfl, rfl, hak, hk, hna, hH⟩ := hrel
    have HEX : Hid (Ext w wr) := Lib.hid hH.out.2.2.2.1
    have haI : (0 : Int) ≤ (a : Int) := by omega
    have hakI : (a : Int) ≤ (k : Int) := by omega
    have hkI : (k : Int) ≤ (s.size : Int) := by omega
    by_cases hlt : k < s.size
    · have hltI : (k : Int) < (s.size : Int) := by omega
      have hu := (s[k]'hlt).toNat_lt
      have hget : s.data.toList[k]? = some (s[k]'hlt) := by
        rw [List.getElem?_eq_getElem (by simpa using hlt)]; rfl
      by_cases hc : (s[k]'hlt) = 44
      · have hb : (((s[k]'hlt).toNat : Int) != 44) = false := by rw [hc]; rfl
        rw [hc] at hget
        have hsp := split_here hak hget hH.out.2.2.2.2.2
        obtain ⟨sx, hsx⟩ : ∃ x : ByteArray, s.extract a k = x := ⟨_, rfl⟩
        have hsl : sx.data.toList = (s.data.toList.drop a).take (k - a) := by rw [← hsx, toList_extract]
        have hst := numsF_split hsp
        rw [← hsl] at hst
        have NC := Lib.hid fun W => rnumber_any sx W
        have HST := Lib.hid hst
        clear hst hsp hsl hget hc
        cases hat : wordOk sx.data.toList with
        | none =>
          have hre : r = none := by have := hH.out.2.2.2.2.1; rw [HST.out, hat] at this; simpa using this.symm
          subst hre
          rw [hat] at NC
          clear hat
          go_wp2_with (go_at_call 102; refine (NC.out _).mono ?_; rintro e _ ⟨⟨z, rfl⟩, d1, os1, rfl⟩)
          go_ret2
          exact ⟨⟨_, rfl⟩, (by repeat (first | exact HEX.out | apply Ext.alloc | apply Ext.more | apply Ext.drewN))⟩
        | some z =>
          have HZ := Lib.hid (wordOk_64 hat)
          have HAT := Lib.hid hat
          rw [hat] at NC
          clear hat
          go_wp2_with (first
            | (go_at_call 102; refine (NC.out _).mono ?_; rintro e _ ⟨rfl, d1, os1, rfl⟩)
            | (at_builtin; refine Hid.out ?_))
          refine Lib.hid ?_
          have hw0 := own_more hH.out.1 d1 os1
          refine wpList_append_own_at _ rfl _ _ 53 rfl w.heap.size 3 i1 (.int .i64 0) 1 8 Tryz.underlying53 hi1 hy0 hy1 hy2 rfl (by decide) _ n (cellsI ns) rfl (hw0.alloc _) ⟨wr.heap.size + os1.size, 0, none⟩ 1 1 [.int .i64 z] rfl rfl ?c1 ?c2 ?c3 ?c4 ?c5 ?_
          case c1 => exact news_at (by simp [more_size])
          case c2 => first | rfl | (intro u hu; simp at hu; subst hu; rfl)
          case c3 => unfold maxLen; omega
          case c4 => omega
          case c5 => have h1 := HEX.out.size; simp [more_size]; omega
          intro v4 w4 hown4 hgrow4 _ _
          have HX4 : Hid (Ext w w4) := Lib.hid (Ext.grown ((by repeat (first | exact HEX.out | apply Ext.alloc | apply Ext.more | apply Ext.drewN)) : Ext w _) hgrow4 (fun k hk => (hw0.lt k hk).1))
          have HO4 := Lib.hid hown4
          clear hown4 hgrow4 hw0
          go_wp2_with fail
          go_roundw
          case rel =>
            refine ⟨k + 1, k + 1, n + 1, ns ++ [z], by go_num, by go_num, Nat.le_refl _, by omega, by omega, Lib.hid ⟨?_, ?_, ?_, HX4.out, ?_, fun j c h1 h2 => by omega⟩⟩
            · rw [show cellsI (ns ++ [z]) = cellsI ns ++ [.int .i64 z] by simp [cellsI]]; exact HO4.out
            · simp [hH.out.2.1]
            · intro u hu
              rcases List.mem_append.1 hu with h | h
              · exact hH.out.2.2.1 u h
              · simp at h; subst h; exact ⟨HZ.out.1, HZ.out.2⟩
            · have h1 := hH.out.2.2.2.2.1
              rw [HST.out, HAT.out] at h1
              rw [← h1]
              simp only [Option.map_map]
              congr 1
              funext q
              simp
          case measure => simp [intOf]; omega
      · have hb : (((s[k]'hlt).toNat : Int) != 44) = true := by
          rw [bne_iff_ne]; intro h; apply hc; apply UInt8.toNat_inj.1; have : ((44 : UInt8).toNat) = 44 := rfl; omega
        go_wp2_with fail
        go_roundw
        case rel =>
          refine ⟨a, k + 1, n, ns, rfl, by go_num, by omega, by omega, hna, Lib.hid ⟨hH.out.1, hH.out.2.1, hH.out.2.2.1, hH.out.2.2.2.1, hH.out.2.2.2.2.1, fun j c h1 h2 h3 => ?_⟩⟩
          by_cases hj : j < k
          · exact hH.out.2.2.2.2.2 j c h1 hj h3
          · have : j = k := by omega
            subst this
            rw [hget] at h3
            simp at h3
            rw [← h3]; exact hc
        case measure => simp [intOf]; omega
    · have hks : k = s.size := by omega
      have hnl : ¬ ((k : Int) < (s.size : Int)) := by omega
      by_cases ha : a = s.size
      · have hre : r = some ns := by have := hH.out.2.2.2.2.1; rw [ha, List.drop_of_length_le (by rw [ba_len]; omega), numsF_nil] at this; simpa using this.symm
        subst hre
        have hq : ((a : Int) == (s.size : Int)) = true := by rw [beq_iff_eq]; omega
        have HNL := Lib.hid hH.out.2.1
        clear hks ha
        go_wp2_with fail
        go_ret2
        refine ⟨_, rfl, ?_, hH.out.2.2.1, HEX.out⟩
        rw [HNL.out]
        exact hH.out.1
      · have hre : r = none := by
          have := hH.out.2.2.2.2.1
          rw [numsF_nosplit (by intro h; have := congrArg List.length h; rw [List.length_drop, ba_len] at this; simp at this; omega) (split_none fun j c h1 h2 => hH.out.2.2.2.2.2 j c h1 (by have := (List.getElem?_eq_some_iff.1 h2).1; rw [ba_len] at this; omega) h2)] at this
          simpa using this.symm
        subst hre
        have hq : ((a : Int) == (s.size : Int)) = false := by rw [beq_eq_false_iff_ne]; omega
        clear hks ha
        go_wp2_with fail
        go_ret2
        exact ⟨⟨_, rfl⟩, HEX.out⟩
end Go.Proofs.YtpchohjkelopoaaGreatDoor

set_option maxRecDepth 20000
namespace Go.Proofs.YtpchohjkelopoaaGreatDoor
open Go.RowKit
attribute [go_sem] more_more Array.size_append
/-- a row of numbers, read -/
theorem ints_row {w1 : World} {base n : Nat} {v : Value} {x : List Int} (hn : x.length = n) (h0 : 0 < n) (hown : w1.ownsRow base 3 1 v n (cellsI x)) :
    ∃ g cap, v = .slice (some ⟨g, 0, none⟩) n cap ∧ g < w1.heap.size ∧ n ≤ cap ∧ cap ≤ 9223372036854775807 ∧ Hid (∀ (j : Nat) (u : Int), x[j]? = some u → w1.cell? ⟨g, j, none⟩ = some (.int .i64 u)) := by
  rcases hown.2 with ⟨_, h1⟩ | ⟨g, cap, cur, rfl, _, hh, hc, hcm, _⟩
  · omega
  · have hat := fun (j : Nat) (u : Value) (hj : (cellsI x)[j]? = some u) => hown.cells (g := g) rfl j u hj
    refine ⟨g, cap, rfl, (Array.getElem?_eq_some_iff.1 hh).1, hc, by unfold maxLen at hcm; omega, fun j u hj => ?_⟩
    have := hat j (.int .i64 u) (by simp [cellsI, hj])
    rw [Addr.add_lit, Nat.zero_add] at this
    exact this
set_option maxHeartbeats 1000000 in
/-- ref12.Leaves = leavesF -/
theorem rleaves_any (B : Nat) (lv : Value) (l : List ByteArray) (root : Int) (w : World) (h : w.ownsRow B 9 1 lv l.length (l.map Value.string)) (hll : l.length ≤ 1000000000) (hsz : ∀ s ∈ l, s.size ≤ 1000000) (r : Option (List Int) × Int) (hr : leavesF l root = r) :
    Calls Tryz.prog 43 #[lv, .int .i64 root] w fun e w' => LeavesPost w w' e r := by
  have HT := Lib.hid (r12text_any h hll root)
  obtain ⟨p, cap, rfl, _, _⟩ := own_texts h
  clear h
  cases ht : textF l root with
  | none =>
    have hre := leavesF_none ht
    rw [hr] at hre
    subst hre
    rw [ht] at HT
    simp only [textE] at HT
    clear hr ht
    go_enter Tryz.func43, Tryz.ntmps43
    go_wp2_with (go_at_call 72; refine HT.out.mono ?_; rintro e _ ⟨rfl, rfl⟩)
    go_ret2
    exact ⟨rfl, Ext.refl _⟩
  | some s =>
    rw [ht] at HT
    simp only [textE] at HT
    have hss := hsz s (textF_mem ht)
    cases hn : numsF s.data.toList with
    | none =>
      have hre := leavesF_no ht hn
      rw [hr] at hre
      subst hre
      have NC := Lib.hid (rlist_any s hss w _ hn)
      clear hr ht hn hsz
      go_enter Tryz.func43, Tryz.ntmps43
      go_wp2_with (first
        | (go_at_call 72; refine HT.out.mono ?_; rintro e _ ⟨rfl, rfl⟩)
        | (go_at_call 73; refine NC.out.mono ?_; rintro e w1 ⟨⟨v, rfl⟩, hx⟩; have HX := Lib.hid hx; clear hx))
      go_ret2
      exact ⟨rfl, HX.out⟩
    | some x =>
      have hre := leavesF_some ht hn
      rw [hr] at hre
      have NC := Lib.hid (rlist_any s hss w _ hn)
      clear hr ht hn hsz
      by_cases hl : x.length = 16
      · have HL := Lib.hid hl
        have HRE := Lib.hid hre
        clear hre
        go_enter Tryz.func43, Tryz.ntmps43
        go_wp2_with (first
          | (go_at_call 72; refine HT.out.mono ?_; rintro e _ ⟨rfl, rfl⟩)
          | (go_at_call 73; refine NC.out.mono ?_; rintro e w1 ⟨v, rfl, hown, h64, hx⟩; rw [hl] at hown; obtain ⟨g, cap2, rfl, hgl, hc16, hcm, HA⟩ := ints_row hl (by omega) hown; have HO := Lib.hid hown; have H64 := Lib.hid h64; have HX := Lib.hid hx; clear hown h64 hx))
        go_loopw [10] (fun ii wr => ∃ (k : Nat), ii = .int .i64 (k : Int) ∧ k ≤ 16 ∧ Hid (∀ (j : Nat) (u : Int), j < k → x[j]? = some u → 1 ≤ u) ∧ w1 = wr) (fun ii _ => 16 - (intOf ii).toNat)
        case atStart => exact ⟨0, rfl, Nat.zero_le _, Lib.hid fun j u h => by omega, rfl⟩
        case round =>
          obtain ⟨k, rfl, hk, hb, rfl⟩ := hrel
          by_cases hlt : k < 16
          · obtain ⟨u, hu⟩ : ∃ u, x[k]? = some u := ⟨_, List.getElem?_eq_getElem (by have := HL.out; omega)⟩
            have cu := HA.out k u hu
            have hlt3 : (k : Int) < 16 := by omega
            have HU := Lib.hid hu
            by_cases h1 : u ≤ 0
            · have hre2 : r = (none, 3) := by
                rw [HRE.out, if_neg (fun q => by have := aboveF_no hu (by omega); rw [this] at q; cases q.2)]
              subst hre2
              clear hu
              go_wp2_with fail
              go_ret2
              exact ⟨rfl, HX.out⟩
            · have h1' : 0 < u := by omega
              clear hu h1
              go_wp2_with fail
              go_roundw
              case rel =>
                refine ⟨k + 1, by go_num, by omega, Lib.hid ?_, by trivial⟩
                intro j v hj hv
                by_cases hjk : j = k
                · subst hjk
                  rw [HU.out] at hv
                  simp at hv
                  omega
                · exact hb.out j v (by omega) hv
              case measure => simp [intOf]; omega
          · have hks : k = 16 := by omega
            subst hks
            have ha := aboveF_all (l := x) fun j u hj => hb.out j u (by have := (List.getElem?_eq_some_iff.1 hj).1; have := HL.out; omega) hj
            have hre2 : r = (some x, 0) := by rw [HRE.out, if_pos ⟨HL.out, ha⟩]
            subst hre2
            clear ha
            go_wp2_with fail
            go_ret2
            exact ⟨_, rfl, by rw [HL.out]; exact HO.out, H64.out, HX.out⟩
      · rw [if_neg (fun q => hl q.1)] at hre
        subst hre
        have hl2 : ¬ ((x.length : Int) = 16) := by omega
        go_enter Tryz.func43, Tryz.ntmps43
        go_wp2_with (first
          | (go_at_call 72; refine HT.out.mono ?_; rintro e _ ⟨rfl, rfl⟩)
          | (go_at_call 73; refine NC.out.mono ?_; rintro e w1 ⟨v, rfl, hown, h64, hx⟩; obtain ⟨p, cap, rfl, hcap, hg⟩ := own_form hown; have HX := Lib.hid hx; clear hown h64 hx hg))
        go_ret2
        exact ⟨rfl, HX.out⟩
end Go.Proofs.YtpchohjkelopoaaGreatDoor
