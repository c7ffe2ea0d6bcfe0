/- Lemmas for the claim (texts Nm2, Nm3, Nm4, Nm5, NmC, NmD, NmE, Bk1, Fw1, Fw2, Tb1, what its proof uses of them). -/
import Derived.Test.YtpchohjkelopoaaDoorU11
import Derived.Lib.ConvBytes
import Derived.Laws.CopyOwn
import Derived.Great.BuildSlice
set_option linter.unusedSimpArgs false
set_option linter.unusedVariables false
set_option maxRecDepth 20000
namespace Go.Proofs.YtpchohjkelopoaaDoor
open Go.RowKit
/-- are numbers above nothing? -/
def aboveF (l : List Int) : Bool := l.all fun n => decide (1 ≤ n)
theorem aboveF_no {l : List Int} {u : Int} {k : Nat} (h : l[k]? = some u) (hu : u < 1) : aboveF l = false := by
  unfold aboveF
  rw [List.all_eq_false]
  exact ⟨u, List.mem_of_getElem? h, by simp; omega⟩
theorem aboveF_all {l : List Int} (h : ∀ (j : Nat) (u : Int), l[j]? = some u → 1 ≤ u) : aboveF l = true := by
  unfold aboveF
  rw [List.all_eq_true]
  intro u hu
  obtain ⟨j, hj⟩ := List.getElem?_of_mem hu
  simpa using h j u hj
set_option maxHeartbeats 1000000 in
theorem above_core (p : Option Addr) (n cap : Nat) (l : List Int) (w : World) (hn : l.length = n) (hl : n ≤ 9223372036854775807) (hc : ∀ j u, l[j]? = some u → ∃ b off, p = some ⟨b, off, none⟩ ∧ w.cell? ⟨b, off + j, none⟩ = some (.int .i64 u)) :
    Calls Tryd.prog 18 #[.slice p n cap] w fun e w' => e = .returned (.bool (aboveF l)) ∧ w = w' := by
  have HN := Lib.hid hn
  have HC := Lib.hid hc
  have hn7 : (n : Int) ≤ 9223372036854775807 := by omega
  clear hn hc hl
  go_enter Tryd.func18, Tryd.ntmps18
  go_wp2_with fail
  go_loopw [7] (fun ii wr => ∃ (k : Nat), ii = .int .i64 (k : Int) ∧ k ≤ n ∧ Hid (∀ j u, j < k → l[j]? = some u → 1 ≤ u) ∧ w = wr) (fun ii _ => n - (intOf ii).toNat)
  case atStart => exact ⟨0, rfl, Nat.zero_le _, Lib.hid fun j u h => by omega, rfl⟩
  case round =>
    obtain ⟨k, rfl, hk, hb, rfl⟩ := hrel
    by_cases hlt : k < n
    · obtain ⟨u, hu⟩ : ∃ u, l[k]? = some u := ⟨_, List.getElem?_eq_getElem (by have := HN.out; omega)⟩
      obtain ⟨b1, o1, rfl, cu⟩ := HC.out k u hu
      have hb1 := rcell_lt cu
      have hlt3 : (k : Int) < n := by omega
      have HU := Lib.hid hu
      by_cases h1 : u < 1
      · have HA := Lib.hid (aboveF_no hu h1)
        clear hu
        go_wp2_with fail
        go_ret
        rw [HA.out]
        exact ⟨rfl, rfl⟩
      · clear hu
        go_wp2_with fail
        go_roundw
        case rel =>
          refine ⟨k + 1, by go_num, by omega, Lib.hid ?_, by trivial⟩
          intro j v hj hv
          by_cases hjk : j = k
          · subst hjk
            rw [HU.out] at hv
            simp at hv
            omega
          · exact hb.out j v (by omega) hv
        case measure => simp [intOf]; omega
    · have hks : n = k := by omega
      subst hks
      have HA := Lib.hid (aboveF_all (l := l) fun j u hj => hb.out j u (by have := (List.getElem?_eq_some_iff.1 hj).1; have := HN.out; omega) hj)
      go_wp2_with fail
      go_ret
      rw [HA.out]
      exact ⟨rfl, rfl⟩
theorem above_any (v : Value) (l : List Int) (w : World) (hl : l.length ≤ 9223372036854775807) (h : IntsAt w v l) : Calls Tryd.prog 18 #[v] w fun e w' => e = .returned (.bool (aboveF l)) ∧ w = w' := by
  rcases h with ⟨p, cap, rfl, rfl⟩ | ⟨b, off, cap, rfl, h1, h2⟩
  · exact above_core p 0 cap [] w rfl (by omega) (fun j u hj => by simp at hj)
  · exact above_core _ _ cap l w rfl hl (fun j u hj => ⟨b, off, rfl, h2 j u hj⟩)
end Go.Proofs.YtpchohjkelopoaaDoor

set_option maxRecDepth 20000
namespace Go.Proofs.YtpchohjkelopoaaDoor
open Go.RowKit
/-- a laid text by its number -/
def textF (l : List ByteArray) (n : Int) : Option ByteArray := if n < 1 then none else l[(n - 1).toNat]?
/-- ref12.text = textF -/
def textE : Option ByteArray → Ending
  | none => .returned (.tuple #[.string ⟨#[]⟩, .bool false])
  | some s => .returned (.tuple #[.string s, .bool true])
/-- term.Text = textF -/
def ttextE : Option ByteArray → Ending
  | none => .returned (.tuple #[.string ⟨#[]⟩, .int .i64 6])
  | some s => .returned (.tuple #[.string s, .int .i64 0])
theorem ttext_any (B bt bm : Nat) (tv : Value) (l : List ByteArray) (n : Int) (w : World) (h : TabAt B bt bm tv l w) :
    Calls Tryd.prog 16 #[.pointer (some ⟨bt, 0, none⟩), .int .i64 n] w fun e w' => e = ttextE (textF l n) ∧ w = w' := by
  unfold textF
  by_cases h1 : n < 1
  · rw [if_pos h1]
    exact text_none B bt bm tv l n (Or.inl h1) w h
  · rw [if_neg h1]
    cases hs : l[(n - 1).toNat]? with
    | none =>
      rw [List.getElem?_eq_none_iff] at hs
      exact text_none B bt bm tv l n (Or.inr (by omega)) w h
    | some s =>
      have := ttext_ok B bt bm tv l (n - 1).toNat s hs w h
      rw [show (((n - 1).toNat : Nat) : Int) + 1 = n by omega] at this
      exact this
end Go.Proofs.YtpchohjkelopoaaDoor

set_option maxRecDepth 20000
namespace Go.Proofs.YtpchohjkelopoaaDoor
open Go.RowKit
/-- the leaves' terms of a root: the list and the error -/
def leavesF (l : List ByteArray) (root : Int) : Option (List Int) × Int := match textF l root with
  | none => (none, 6)
  | some s => match numsF s.data.toList with
    | none => (none, 3)
    | some x => if x.length = 16 ∧ aboveF x = true then (some x, 0) else (none, 3)
theorem leavesF_none {l : List ByteArray} {root : Int} (h : textF l root = none) : leavesF l root = (none, 6) := by unfold leavesF; rw [h]
theorem leavesF_no {l : List ByteArray} {root : Int} {s : ByteArray} (h : textF l root = some s) (h2 : numsF s.data.toList = none) : leavesF l root = (none, 3) := by unfold leavesF; rw [h]; simp only [h2]
theorem leavesF_some {l : List ByteArray} {root : Int} {s : ByteArray} {x : List Int} (h : textF l root = some s) (h2 : numsF s.data.toList = some x) : leavesF l root = if x.length = 16 ∧ aboveF x = true then (some x, 0) else (none, 3) := by unfold leavesF; rw [h]; simp only [h2]
theorem textF_mem {l : List ByteArray} {n : Int} {s : ByteArray} (h : textF l n = some s) : s ∈ l := by
  unfold textF at h
  split at h
  · cases h
  · exact List.mem_of_getElem? h
/-- what root.Leaves hands back -/
def LeavesPost (w w' : World) (e : Ending) (r : Option (List Int) × Int) : Prop := match r.1 with
  | none => e = .returned (.tuple #[.slice none 0 0, .int .i64 r.2]) ∧ Ext w w'
  | some x => ∃ v, e = .returned (.tuple #[v, .int .i64 r.2]) ∧ w'.ownsRow w.heap.size 3 1 v x.length (cellsI x) ∧ In64L x ∧ Ext w w'
set_option maxHeartbeats 1000000 in
theorem leaves_any (B bt bm : Nat) (tv : Value) (l : List ByteArray) (root : Int) (w : World) (h : TabAt B bt bm tv l w) (hsz : ∀ s ∈ l, s.size ≤ 1000000) (EB PB : Nat) (hE : ErrsAt EB w) (hEB : EB ≤ w.heap.size) (hP : Pow10 PB w) (hPB : PB ≤ w.heap.size) (r : Option (List Int) × Int) (hr : leavesF l root = r) :
    Calls Tryd.prog 9 #[.pointer (some ⟨bt, 0, none⟩), .int .i64 root] w fun e w' => LeavesPost w w' e r := by
  have HT := Lib.hid (ttext_any B bt bm tv l root w h)
  clear h
  cases ht : textF l root with
  | none =>
    have hre := leavesF_none ht
    rw [hr] at hre
    subst hre
    rw [ht] at HT
    simp only [ttextE] at HT
    clear hr ht hE hP
    go_enter Tryd.func9, Tryd.ntmps9
    go_wp2_with (go_at_call 16; refine HT.out.mono ?_; rintro e _ ⟨rfl, rfl⟩)
    go_ret2
    exact ⟨rfl, Ext.refl _⟩
  | some s =>
    rw [ht] at HT
    simp only [ttextE] at HT
    have hss := hsz s (textF_mem ht)
    cases hn : numsF s.data.toList with
    | none =>
      have hre := leavesF_no ht hn
      rw [hr] at hre
      subst hre
      have NC := Lib.hid (numbers_any s hss EB PB w hE hEB hP hPB _ hn)
      clear hr ht hE hP hn hsz
      go_enter Tryd.func9, Tryd.ntmps9
      go_wp2_with (first
        | (go_at_call 16; refine HT.out.mono ?_; rintro e _ ⟨rfl, rfl⟩)
        | (go_at_call 17; refine NC.out.mono ?_; rintro e w1 ⟨rfl, hx⟩; have HX := Lib.hid hx; clear hx))
      go_ret2
      exact ⟨rfl, HX.out⟩
    | some x =>
      have hre := leavesF_some ht hn
      rw [hr] at hre
      have NC := Lib.hid (numbers_any s hss EB PB w hE hEB hP hPB _ hn)
      clear hr ht hE hP hn hsz
      by_cases hl : x.length = 16
      · cases ha : aboveF x with
        | true =>
          rw [if_pos ⟨hl, ha⟩] at hre
          subst hre
          go_enter Tryd.func9, Tryd.ntmps9
          go_wp2_with (first
            | (go_at_call 16; refine HT.out.mono ?_; rintro e _ ⟨rfl, rfl⟩)
            | (go_at_call 17; refine NC.out.mono ?_; rintro e w1 ⟨v, rfl, hown, h64, hx⟩; obtain ⟨p, cap, rfl, hcap, hg⟩ := own_form hown; rw [hl] at hown ⊢; have HO := Lib.hid hown; have H64 := Lib.hid h64; have HX := Lib.hid hx; have AC := Lib.hid (above_any _ x w1 (by omega) (ints_own (by rw [hl]; exact hown))); rw [ha] at AC; clear hown h64 hx hg)
            | (go_at_call 18; refine AC.out.mono ?_; rintro e _ ⟨rfl, rfl⟩))
          go_ret2
          exact ⟨_, rfl, by rw [hl]; exact HO.out, H64.out, HX.out⟩
        | false =>
          rw [if_neg (by rw [ha]; simp)] at hre
          subst hre
          go_enter Tryd.func9, Tryd.ntmps9
          go_wp2_with (first
            | (go_at_call 16; refine HT.out.mono ?_; rintro e _ ⟨rfl, rfl⟩)
            | (go_at_call 17; refine NC.out.mono ?_; rintro e w1 ⟨v, rfl, hown, h64, hx⟩; obtain ⟨p, cap, rfl, hcap, hg⟩ := own_form hown; have HX := Lib.hid hx; have AC := Lib.hid (above_any _ x w1 (by omega) (ints_own hown)); rw [ha] at AC; rw [hl] at AC ⊢; clear hown h64 hx hg)
            | (go_at_call 18; refine AC.out.mono ?_; rintro e _ ⟨rfl, rfl⟩))
          go_ret2
          exact ⟨rfl, HX.out⟩
      · rw [if_neg (fun q => hl q.1)] at hre
        subst hre
        have hl2 : ¬ ((x.length : Int) = 16) := by omega
        go_enter Tryd.func9, Tryd.ntmps9
        go_wp2_with (first
          | (go_at_call 16; refine HT.out.mono ?_; rintro e _ ⟨rfl, rfl⟩)
          | (go_at_call 17; refine NC.out.mono ?_; rintro e w1 ⟨v, rfl, hown, h64, hx⟩; obtain ⟨p, cap, rfl, hcap, hg⟩ := own_form hown; have HX := Lib.hid hx; clear hown h64 hx hg))
        go_ret2
        exact ⟨rfl, HX.out⟩
end Go.Proofs.YtpchohjkelopoaaDoor

set_option maxRecDepth 20000
namespace Go.Proofs.YtpchohjkelopoaaDoor
open Go.RowKit
attribute [go_sem] more_more Array.size_append
theorem numsF_len : ∀ (n : Nat) (l : List UInt8) (xs : List Int), l.length ≤ n → numsF l = some xs → xs.length ≤ l.length
  | n, [], xs, _, h => by rw [numsF_nil] at h; cases h; exact Nat.le_refl _
  | 0, c :: t, xs, hn, _ => by simp at hn
  | n + 1, c :: t, xs, hn, h => by
    cases hs : splitC (c :: t) with
    | none => rw [numsF_nosplit (by simp) hs] at h; cases h
    | some p =>
      obtain ⟨a, b⟩ := p
      have hl := congrArg List.length (splitC_some _ _ _ hs).1
      simp only [List.length_append, List.length_cons] at hl hn
      rw [numsF_split hs] at h
      cases ha : wordOk a with
      | none => rw [ha] at h; cases h
      | some z =>
        rw [ha] at h
        simp only [Option.map_eq_some_iff] at h
        obtain ⟨zs, h1, rfl⟩ := h
        have := numsF_len n b zs (by omega) h1
        simp only [List.length_cons]
        omega
/-- the texts of numbers of the table -/
def textsF (l : List ByteArray) : List Int → Option (List ByteArray)
  | [] => some []
  | n :: ns => match textF l n with
    | none => none
    | some s => (textsF l ns).map fun ts => s :: ts
theorem textsF_no {l : List ByteArray} {xs : List Int} {k : Nat} {n : Int} (h : xs[k]? = some n) (ht : textF l n = none) : textsF l (xs.drop k) = none := by
  rw [List.drop_eq_getElem?_toList_append, h]
  simp [textsF, ht]
theorem textsF_yes {l : List ByteArray} {xs : List Int} {k : Nat} {n : Int} {s : ByteArray} (h : xs[k]? = some n) (ht : textF l n = some s) : textsF l (xs.drop k) = (textsF l (xs.drop (k + 1))).map fun ts => s :: ts := by
  rw [List.drop_eq_getElem?_toList_append, h]
  simp [textsF, ht]
def chunksR (z : Int) : Option (List ByteArray) → Option (Int × List ByteArray) × Int
  | none => (none, 6)
  | some ts => (some (z, ts), 0)
/-- a leaf's version and its chunks' texts, or the error -/
def rchunksF (l : List ByteArray) (n : Int) : Option (Int × List ByteArray) × Int := match textF l n with
  | none => (none, 6)
  | some s => match numsF s.data.toList with
    | none => (none, 3)
    | some [] => (none, 3)
    | some (z :: xs) => if 0 ≤ z ∧ z ≤ 2147483647 ∧ aboveF xs = true then chunksR z (textsF l xs) else (none, 3)
/-- what root.Chunks hands back -/
def RChunksPost (w w' : World) (e : Ending) (r : Option (Int × List ByteArray) × Int) : Prop := match r.1 with
  | none => e = .returned (.tuple #[.int .i64 0, .slice none 0 0, .int .i64 r.2]) ∧ Ext w w'
  | some x => ∃ v, e = .returned (.tuple #[.int .i64 x.1, v, .int .i64 r.2]) ∧ w'.ownsRow w.heap.size 9 1 v x.2.length (x.2.map Value.string) ∧ Ext w w'
set_option maxHeartbeats 1000000 in
/-- the refusals ahead of the texts -/
theorem chunks_refuse (B bt bm : Nat) (tv : Value) (l : List ByteArray) (n : Int) (s : ByteArray) (w : World) (ht : textF l n = some s) (h : TabAt B bt bm tv l w) (hsz : ∀ s ∈ l, s.size ≤ 1000000) (EB PB : Nat) (hE : ErrsAt EB w) (hEB : EB ≤ w.heap.size) (hP : Pow10 PB w) (hPB : PB ≤ w.heap.size)
    (hn : numsF s.data.toList = none ∨ numsF s.data.toList = some []) :
    Calls Tryd.prog 14 #[.pointer (some ⟨bt, 0, none⟩), .int .i64 n] w fun e w' => RChunksPost w w' e (none, 3) := by
  have HT := Lib.hid (ttext_any B bt bm tv l n w h)
  rw [ht] at HT
  simp only [ttextE] at HT
  have hss := hsz s (textF_mem ht)
  rcases hn with hn | hn
  · have NC := Lib.hid (numbers_any s hss EB PB w hE hEB hP hPB _ hn)
    clear ht hE hP hn hsz h
    go_enter Tryd.func14, Tryd.ntmps14
    go_wp2_with (first
      | (go_at_call 16; refine HT.out.mono ?_; rintro e _ ⟨rfl, rfl⟩)
      | (go_at_call 17; refine NC.out.mono ?_; rintro e w1 ⟨rfl, hx⟩; have HX := Lib.hid hx; clear hx))
    go_ret3
    exact ⟨rfl, HX.out⟩
  · have NC := Lib.hid (numbers_any s hss EB PB w hE hEB hP hPB _ hn)
    clear ht hE hP hn hsz h
    go_enter Tryd.func14, Tryd.ntmps14
    go_wp2_with (first
      | (go_at_call 16; refine HT.out.mono ?_; rintro e _ ⟨rfl, rfl⟩)
      | (go_at_call 17; refine NC.out.mono ?_; rintro e w1 ⟨v, rfl, hown, h64, hx⟩; obtain ⟨p, cap, rfl, hcap, hg⟩ := own_form hown; have HX := Lib.hid hx; clear hown h64 hx hg))
    go_ret3
    exact ⟨rfl, HX.out⟩
set_option maxHeartbeats 1000000 in
theorem chunks_none (B bt bm : Nat) (tv : Value) (l : List ByteArray) (n : Int) (w : World) (ht : textF l n = none) (h : TabAt B bt bm tv l w) :
    Calls Tryd.prog 14 #[.pointer (some ⟨bt, 0, none⟩), .int .i64 n] w fun e w' => RChunksPost w w' e (none, 6) := by
  have HT := Lib.hid (ttext_any B bt bm tv l n w h)
  rw [ht] at HT
  simp only [ttextE] at HT
  clear ht h
  go_enter Tryd.func14, Tryd.ntmps14
  go_wp2_with (go_at_call 16; refine HT.out.mono ?_; rintro e _ ⟨rfl, rfl⟩)
  go_ret3
  exact ⟨rfl, Ext.refl _⟩
/-- the row that root.numbers hands back, read: its first number and the others -/
theorem nums_row {w w1 : World} {e : Ending} {z : Int} {xs : List Int} {m : Nat} (hm : xs.length = m) (h : NumsPost w w1 e (some (z :: xs))) :
    ∃ g cap, e = .returned (.tuple #[.slice (some ⟨g, 0, none⟩) (m + 1) cap, .bool true]) ∧ w1.cell? ⟨g, 0, none⟩ = some (.int .i64 z) ∧ g < w1.heap.size ∧ m + 1 ≤ cap ∧ cap ≤ 9223372036854775807 ∧
      Hid (w1.ownsRow w.heap.size 3 1 (.slice (some ⟨g, 0, none⟩) (m + 1) cap) (m + 1) (cellsI (z :: xs))) ∧ Hid (∀ (j : Nat) (u : Int), xs[j]? = some u → w1.cell? ⟨g, 1 + j, none⟩ = some (.int .i64 u)) ∧ Hid (Ext w w1) := by
  obtain ⟨v, rfl, hown, _, hx⟩ := h
  rw [show (z :: xs).length = m + 1 by simp [hm]] at hown
  rcases hown.2 with ⟨_, h0⟩ | ⟨g, cap, cur, rfl, _, hh, hc, hcm, _⟩
  · omega
  · have hat := fun (j : Nat) (u : Value) (hj : (cellsI (z :: xs))[j]? = some u) => hown.cells (g := g) rfl j u hj
    refine ⟨g, cap, rfl, ?_, (Array.getElem?_eq_some_iff.1 hh).1, hc, by unfold maxLen at hcm; omega, hown, fun j u hj => ?_, hx⟩
    · have := hat 0 (.int .i64 z) rfl
      rw [Addr.add_lit] at this
      exact this
    · have := hat (1 + j) (.int .i64 u) (by rw [Nat.add_comm]; simp [cellsI, hj])
      rw [Addr.add_lit, Nat.zero_add] at this
      exact this
theorem above_tail {w1 : World} {g cap m : Nat} {xs : List Int} (hm : xs.length = m) (hcap : m + 1 ≤ cap) (hcm : cap ≤ 9223372036854775807) (HA : ∀ (j : Nat) (u : Int), xs[j]? = some u → w1.cell? ⟨g, 1 + j, none⟩ = some (.int .i64 u)) :
    Calls Tryd.prog 18 #[.slice (if cap = 1 then some ⟨g, 0, none⟩ else some ⟨g, 1, none⟩) m (cap - 1)] w1 fun e w' => e = .returned (.bool (aboveF xs)) ∧ w1 = w' :=
  above_core _ m (cap - 1) xs w1 hm (by omega) fun j u hj => ⟨g, 1, by
    have := (List.getElem?_eq_some_iff.1 hj).1
    rw [if_neg (by omega)], HA j u hj⟩
set_option maxHeartbeats 1000000 in
theorem chunks_bad (B bt bm : Nat) (tv : Value) (l : List ByteArray) (n : Int) (s : ByteArray) (z : Int) (xs : List Int) (w : World) (ht : textF l n = some s) (h : TabAt B bt bm tv l w) (hsz : ∀ s ∈ l, s.size ≤ 1000000) (EB PB : Nat) (hE : ErrsAt EB w) (hEB : EB ≤ w.heap.size) (hP : Pow10 PB w) (hPB : PB ≤ w.heap.size)
    (hn : numsF s.data.toList = some (z :: xs)) (hbad : ¬ (0 ≤ z ∧ z ≤ 2147483647 ∧ aboveF xs = true)) :
    Calls Tryd.prog 14 #[.pointer (some ⟨bt, 0, none⟩), .int .i64 n] w fun e w' => RChunksPost w w' e (none, 3) := by
  have HT := Lib.hid (ttext_any B bt bm tv l n w h)
  rw [ht] at HT
  simp only [ttextE] at HT
  have hss := hsz s (textF_mem ht)
  have NC := Lib.hid (numbers_any s hss EB PB w hE hEB hP hPB _ hn)
  obtain ⟨m, hm⟩ : ∃ m, xs.length = m := ⟨_, rfl⟩
  by_cases hz0 : z < 0
  · clear ht hE hP hn hsz h hbad
    go_enter Tryd.func14, Tryd.ntmps14
    go_wp2_with (first
      | (go_at_call 16; refine HT.out.mono ?_; rintro e _ ⟨rfl, rfl⟩)
      | (go_at_call 17; refine NC.out.mono ?_; intro e w1 hp; obtain ⟨g, cap, rfl, c0, hb1, hcap, hcm, HO, HA, HX⟩ := nums_row hm hp; clear hp))
    go_ret3
    exact ⟨rfl, HX.out⟩
  by_cases hz1 : 2147483647 < z
  · clear ht hE hP hn hsz h hbad
    go_enter Tryd.func14, Tryd.ntmps14
    go_wp2_with (first
      | (go_at_call 16; refine HT.out.mono ?_; rintro e _ ⟨rfl, rfl⟩)
      | (go_at_call 17; refine NC.out.mono ?_; intro e w1 hp; obtain ⟨g, cap, rfl, c0, hb1, hcap, hcm, HO, HA, HX⟩ := nums_row hm hp; clear hp))
    go_ret3
    exact ⟨rfl, HX.out⟩
  have ha : aboveF xs = false := by
    cases h1 : aboveF xs with
    | false => rfl
    | true => exact absurd ⟨by omega, by omega, h1⟩ hbad
  clear ht hE hP hn hsz h hbad
  go_enter Tryd.func14, Tryd.ntmps14
  go_wp2_with (first
    | (go_at_call 16; refine HT.out.mono ?_; rintro e _ ⟨rfl, rfl⟩)
    | (go_at_call 17; refine NC.out.mono ?_; intro e w1 hp; obtain ⟨g, cap, rfl, c0, hb1, hcap, hcm, HO, HA, HX⟩ := nums_row hm hp; clear hp)
    | (go_at_call 18; refine (above_tail hm hcap hcm HA.out).mono ?_; rintro e _ ⟨rfl, rfl⟩; rw [ha]))
  all_goals (go_ret3; exact ⟨rfl, HX.out⟩)
theorem cell_ext {w w' : World} {a : Addr} {v : Value} (h : w.cell? a = some v) (hx : Ext w w') : w'.cell? a = some v := by
  obtain ⟨d, os, rfl⟩ := hx
  have hb := rcell_lt h
  have := (Ext.more (Ext.refl w) d os).below.block a.block hb
  unfold World.cell? at h ⊢
  rw [this]
  exact h
set_option maxHeartbeats 1000000 in
theorem chunks_good (B bt bm : Nat) (tv : Value) (l : List ByteArray) (n : Int) (s : ByteArray) (z : Int) (xs : List Int) (w : World) (ht : textF l n = some s) (h : TabAt B bt bm tv l w) (hsz : ∀ s ∈ l, s.size ≤ 1000000) (EB PB : Nat) (hE : ErrsAt EB w) (hEB : EB ≤ w.heap.size) (hP : Pow10 PB w) (hPB : PB ≤ w.heap.size)
    (hn : numsF s.data.toList = some (z :: xs)) (hz0 : 0 ≤ z) (hz1 : z ≤ 2147483647) (ha : aboveF xs = true) (q : Option (List ByteArray)) (hq : textsF l xs = q) :
    Calls Tryd.prog 14 #[.pointer (some ⟨bt, 0, none⟩), .int .i64 n] w fun e w' => RChunksPost w w' e (chunksR z q) := by
  obtain ⟨i1, hi1, hy0, hy1, hy2⟩ := info_parts strInfo
  have HT := Lib.hid (ttext_any B bt bm tv l n w h)
  have HB := Lib.hid h
  rw [ht] at HT
  simp only [ttextE] at HT
  have hss := hsz s (textF_mem ht)
  have NC := Lib.hid (numbers_any s hss EB PB w hE hEB hP hPB _ hn)
  obtain ⟨m, hm⟩ : ∃ m, xs.length = m := ⟨_, rfl⟩
  have HM := Lib.hid hm
  have hm6 : m ≤ 1000000 := by
    have := numsF_len _ _ _ (Nat.le_refl _) hn
    rw [ba_len, List.length_cons] at this
    omega
  have HQ := Lib.hid hq
  have hd0 : (((m : Nat) : Int) + 1 == 0) = false := by rw [beq_eq_false_iff_ne]; omega
  have hd1 : decide (z < 0) = false := by rw [decide_eq_false_iff_not]; omega
  have hd2 : decide (2147483647 < z) = false := by rw [decide_eq_false_iff_not]; omega
  clear ht hE hP hn hsz h hss
  clear hq
  go_enter Tryd.func14, Tryd.ntmps14
  go_wp2_with (first
    | (go_at_call 16; refine HT.out.mono ?_; rintro e _ ⟨rfl, rfl⟩)
    | (go_at_call 17; refine NC.out.mono ?_; intro e w1 hp; obtain ⟨g, cap, rfl, c0, hb1, hcap, hcm, HO, HA, HX⟩ := nums_row hm hp; clear hp)
    | (go_at_call 18; refine (above_tail hm hcap hcm HA.out).mono ?_; rintro e _ ⟨rfl, rfl⟩; rw [ha]; generalize hp : (if cap = 1 then (some ⟨g, 0, none⟩ : Option Addr) else some ⟨g, 1, none⟩) = p))
  have hpp : Hid (0 < m → p = some ⟨g, 1, none⟩) := Lib.hid fun h0 => by rw [← hp, if_neg (by omega)]
  clear hp NC HT
  all_goals
    go_loopw [11, 58] (fun out ii wr => ∃ (k : Nat) (ts : List ByteArray), ii = .int .i64 (k : Int) ∧ k ≤ m ∧ Hid (wr.ownsRow w1.heap.size 9 1 out k (ts.map Value.string) ∧ ts.length = k ∧ Ext w1 wr ∧ (textsF l (xs.drop k)).map (ts ++ ·) = q)) (fun _ ii _ => m - (intOf ii).toNat)
    case atStart => exact ⟨0, [], rfl, Nat.zero_le _, Lib.hid ⟨World.ownsRow_nil _ _ _ _, rfl, Ext.refl _, by rw [List.drop_zero, HQ.out]; cases q <;> simp⟩⟩
    case round =>
      obtain ⟨k, ts, rfl, hk, hH⟩ := hrel
      have HEX : Hid (Ext w1 wr) := Lib.hid hH.out.2.2.1
      have hbr : g < wr.heap.size := by have := HEX.out.size; omega
      by_cases hlt : k < m
      · have hpe := hpp.out (by omega)
        subst hpe
        obtain ⟨u, hu⟩ : ∃ u, xs[k]? = some u := ⟨_, List.getElem?_eq_getElem (by have := HM.out; omega)⟩
        have cu := cell_ext (HA.out k u hu) HEX.out
        have hlt3 : (k : Int) < m := by omega
        have TC := Lib.hid (ttext_any B bt bm tv l u wr (HB.out.ext (HX.out.trans HEX.out)))
        cases htx : textF l u with
        | none =>
          have hre : q = none := by have := hH.out.2.2.2; rw [textsF_no hu htx] at this; simpa using this.symm
          subst hre
          rw [htx] at TC
          simp only [ttextE] at TC
          clear hu htx
          go_wp2_with (go_at_call 16; refine TC.out.mono ?_; rintro e _ ⟨rfl, rfl⟩)
          go_ret3
          exact ⟨rfl, HX.out.trans HEX.out⟩
        | some t =>
          have HST := Lib.hid (textsF_yes hu htx)
          rw [htx] at TC
          simp only [ttextE] at TC
          clear hu htx
          go_wp2_with (first
            | (go_at_call 16; refine TC.out.mono ?_; rintro e _ ⟨rfl, rfl⟩)
            | (at_builtin; refine Hid.out ?_))
          refine Lib.hid ?_
          refine wpList_append_own_at _ rfl _ _ 31 rfl w1.heap.size 9 i1 (.string ⟨#[]⟩) 1 16 Tryd.underlying31 hi1 hy0 hy1 hy2 rfl (by decide) _ k (ts.map Value.string) rfl (hH.out.1.alloc _) ⟨wr.heap.size, 0, none⟩ 1 1 [.string t] rfl rfl ?c1 ?c2 ?c3 ?c4 ?c5 ?_
          case c1 => exact cell_one_new _ _ _
          case c2 => first | rfl | (intro u hu; simp at hu; subst hu; rfl)
          case c3 => unfold maxLen; omega
          case c4 => omega
          case c5 => have h1 := HEX.out.size; simp; omega
          intro v4 w4 hown4 hgrow4 _ _
          have HX4 : Hid (Ext w1 w4) := Lib.hid (Ext.grown (HEX.out.alloc _) hgrow4 (fun k hk => (hH.out.1.lt k hk).1))
          have HO4 := Lib.hid hown4
          clear hown4 hgrow4
          go_wp2_with fail
          go_roundw
          case rel =>
            refine ⟨k + 1, ts ++ [t], by go_num, by omega, Lib.hid ⟨?_, ?_, HX4.out, ?_⟩⟩
            · rw [show (ts ++ [t]).map Value.string = ts.map Value.string ++ [.string t] by simp]; exact HO4.out
            · simp [hH.out.2.1]
            · have h1 := hH.out.2.2.2
              rw [HST.out] at h1
              rw [← h1]
              simp only [Option.map_map]
              congr 1
              funext q
              simp
          case measure => simp [intOf]; omega
      · have hks : m = k := by omega
        subst hks
        have hre : q = some ts := by have := hH.out.2.2.2; rw [List.drop_of_length_le (by have := HM.out; omega)] at this; simpa [textsF] using this.symm
        subst hre
        have c0r := cell_ext c0 HEX.out
        have HTL := Lib.hid hH.out.2.1
        go_wp2_with fail
        go_ret3
        refine ⟨_, rfl, ?_, HX.out.trans HEX.out⟩
        rw [HTL.out]
        exact hH.out.1.mono HX.out.size
/-- root.Chunks = rchunksF -/
theorem rootchunks_any (B bt bm : Nat) (tv : Value) (l : List ByteArray) (n : Int) (w : World) (h : TabAt B bt bm tv l w) (hsz : ∀ s ∈ l, s.size ≤ 1000000) (EB PB : Nat) (hE : ErrsAt EB w) (hEB : EB ≤ w.heap.size) (hP : Pow10 PB w) (hPB : PB ≤ w.heap.size) :
    Calls Tryd.prog 14 #[.pointer (some ⟨bt, 0, none⟩), .int .i64 n] w fun e w' => RChunksPost w w' e (rchunksF l n) := by
  unfold rchunksF
  cases ht : textF l n with
  | none => exact chunks_none B bt bm tv l n w ht h
  | some s =>
    simp only
    cases hn : numsF s.data.toList with
    | none => exact chunks_refuse B bt bm tv l n s w ht h hsz EB PB hE hEB hP hPB (Or.inl hn)
    | some x =>
      cases x with
      | nil => exact chunks_refuse B bt bm tv l n s w ht h hsz EB PB hE hEB hP hPB (Or.inr hn)
      | cons z xs =>
        simp only
        by_cases hg : 0 ≤ z ∧ z ≤ 2147483647 ∧ aboveF xs = true
        · rw [if_pos hg]
          exact chunks_good B bt bm tv l n s z xs w ht h hsz EB PB hE hEB hP hPB hn hg.1 hg.2.1 hg.2.2 _ rfl
        · rw [if_neg hg]
          exact chunks_bad B bt bm tv l n s z xs w ht h hsz EB PB hE hEB hP hPB hn hg
end Go.Proofs.YtpchohjkelopoaaDoor

set_option maxRecDepth 20000
namespace Go.Proofs.YtpchohjkelopoaaDoor
open Go.RowKit
attribute [go_sem] more_more Array.size_append
end Go.Proofs.YtpchohjkelopoaaDoor

set_option maxRecDepth 20000
namespace Go.Proofs.YtpchohjkelopoaaDoor
open Go.RowKit
attribute [go_sem] more_more Array.size_append
/-- a row of numbers, read -/
theorem ints_row {w1 : World} {base n : Nat} {v : Value} {x : List Int} (hn : x.length = n) (h0 : 0 < n) (hown : w1.ownsRow base 3 1 v n (cellsI x)) :
    ∃ g cap, v = .slice (some ⟨g, 0, none⟩) n cap ∧ g < w1.heap.size ∧ n ≤ cap ∧ cap ≤ 9223372036854775807 ∧ Hid (∀ (j : Nat) (u : Int), x[j]? = some u → w1.cell? ⟨g, j, none⟩ = some (.int .i64 u)) := by
  rcases hown.2 with ⟨_, h1⟩ | ⟨g, cap, cur, rfl, _, hh, hc, hcm, _⟩
  · omega
  · have hat := fun (j : Nat) (u : Value) (hj : (cellsI x)[j]? = some u) => hown.cells (g := g) rfl j u hj
    refine ⟨g, cap, rfl, (Array.getElem?_eq_some_iff.1 hh).1, hc, by unfold maxLen at hcm; omega, fun j u hj => ?_⟩
    have := hat j (.int .i64 u) (by simp [cellsI, hj])
    rw [Addr.add_lit, Nat.zero_add] at this
    exact this
end Go.Proofs.YtpchohjkelopoaaDoor

set_option maxRecDepth 20000
namespace Go.Proofs.YtpchohjkelopoaaDoor
open Go.RowKit
attribute [go_sem] more_more Array.size_append
end Go.Proofs.YtpchohjkelopoaaDoor

set_option maxRecDepth 20000
namespace Go.Proofs.YtpchohjkelopoaaDoor
open Go.RowKit
attribute [go_sem] more_more Array.size_append
theorem rchunksF_err {l : List ByteArray} {n : Int} : match rchunksF l n with | (none, e) => e = 3 ∨ e = 6 | (some _, e) => e = 0 := by
  unfold rchunksF
  cases textF l n with
  | none => simp
  | some s =>
    simp only
    cases numsF s.data.toList with
    | none => simp
    | some x =>
      cases x with
      | nil => simp
      | cons z xs =>
        simp only
        by_cases hg : 0 ≤ z ∧ z ≤ 2147483647 ∧ aboveF xs = true
        · rw [if_pos hg]
          cases textsF l xs <;> simp [chunksR]
        · rw [if_neg hg]; simp
theorem leavesF_err {l : List ByteArray} {n : Int} : match leavesF l n with | (none, e) => e = 3 ∨ e = 6 | (some x, e) => e = 0 ∧ x.length = 16 := by
  unfold leavesF
  cases textF l n with
  | none => simp
  | some s =>
    simp only
    cases numsF s.data.toList with
    | none => simp
    | some x =>
      simp only
      by_cases hg : x.length = 16 ∧ aboveF x = true
      · rw [if_pos hg]; exact ⟨rfl, hg.1⟩
      · rw [if_neg hg]; simp
theorem textsF_mem : ∀ {l : List ByteArray} {xs : List Int} {ts : List ByteArray}, textsF l xs = some ts → ts.length = xs.length ∧ ∀ t ∈ ts, t ∈ l
  | l, [], ts, h => by simp [textsF] at h; subst h; simp
  | l, x :: xs, ts, h => by
    unfold textsF at h
    cases hx : textF l x with
    | none => rw [hx] at h; cases h
    | some t =>
      rw [hx] at h
      simp only [Option.map_eq_some_iff] at h
      obtain ⟨u, h1, rfl⟩ := h
      obtain ⟨i1, i2⟩ := textsF_mem h1
      refine ⟨by simp [i1], fun v hv => ?_⟩
      rcases List.mem_cons.1 hv with rfl | hv
      · exact textF_mem hx
      · exact i2 v hv
theorem rchunksF_len {l : List ByteArray} {n : Int} {z : Int} {ts : List ByteArray} {e : Int} {M : Nat} (hsz : ∀ s ∈ l, s.size ≤ M) (h : rchunksF l n = (some (z, ts), e)) : ts.length ≤ M ∧ (∀ t ∈ ts, t.size ≤ M) ∧ 0 ≤ z ∧ z ≤ 2147483647 := by
  unfold rchunksF at h
  cases ht : textF l n with
  | none => rw [ht] at h; cases h
  | some s =>
    rw [ht] at h
    simp only at h
    cases hn : numsF s.data.toList with
    | none => rw [hn] at h; cases h
    | some x =>
      rw [hn] at h
      cases x with
      | nil => cases h
      | cons y xs =>
        simp only at h
        by_cases hg : 0 ≤ y ∧ y ≤ 2147483647 ∧ aboveF xs = true
        · rw [if_pos hg] at h
          cases hq : textsF l xs with
          | none => rw [hq] at h; cases h
          | some us =>
            rw [hq] at h
            simp only [chunksR, Prod.mk.injEq, Option.some.injEq] at h
            obtain ⟨⟨rfl, rfl⟩, _⟩ := h
            obtain ⟨i1, i2⟩ := textsF_mem hq
            have h1 := numsF_len _ _ _ (Nat.le_refl _) hn
            have h2 := hsz s (textF_mem ht)
            rw [ba_len, List.length_cons] at h1
            exact ⟨by omega, fun t ht => hsz t (i2 t ht), hg.1, hg.2.1⟩
        · rw [if_neg hg] at h; cases h
def txt (s : ByteArray) : List UInt8 := s.data.toList
/-- a leaf of a table -/
def bkStep (l : List ByteArray) (n : Int) : Option (Int × List It) × Int := match rchunksF l n with
  | (none, e) => (none, e)
  | (some x, _) => if (leafOfF (x.2.map txt)).2.1 ≠ 0 then (none, 3) else (some (x.1, (leafOfF (x.2.map txt)).1), 0)
/-- the leaves of a table, one behind the other -/
def bkF (l : List ByteArray) : List Int → Option (List (Int × List It)) × Int
  | [] => (some [], 0)
  | n :: ns => match bkStep l n with
    | (none, e) => (none, e)
    | (some p, _) => match bkF l ns with
      | (none, e) => (none, e)
      | (some ps, _) => (some (p :: ps), 0)
def preB (ps : List (Int × List It)) : Option (List (Int × List It)) × Int → Option (List (Int × List It)) × Int
  | (none, e) => (none, e)
  | (some qs, _) => (some (ps ++ qs), 0)
theorem bkF_err0 (l : List ByteArray) : ∀ ns, (bkF l ns).1 ≠ none → (bkF l ns).2 = 0
  | [], _ => rfl
  | n :: ns, h => by
    unfold bkF at h ⊢
    split
    · next h1 => rw [h1] at h; simp at h
    · next h1 =>
      rw [h1] at h
      simp only at h
      split
      · next h2 => rw [h2] at h; simp at h
      · rfl
theorem preB_nil (l : List ByteArray) (ns : List Int) : preB [] (bkF l ns) = bkF l ns := by
  have := bkF_err0 l ns
  cases h : bkF l ns with
  | mk a b =>
    rw [h] at this
    cases a with
    | none => rfl
    | some q => simp at this; subst this; simp [preB]
theorem preB_no {l : List ByteArray} {ps : List (Int × List It)} {n : Int} {ns : List Int} {e : Int} (h : bkStep l n = (none, e)) : preB ps (bkF l (n :: ns)) = (none, e) := by
  unfold bkF; rw [h]; rfl
theorem preB_yes {l : List ByteArray} {ps : List (Int × List It)} {n : Int} {ns : List Int} {e : Int} {p : Int × List It} (h : bkStep l n = (some p, e)) : preB ps (bkF l (n :: ns)) = preB (ps ++ [p]) (bkF l ns) := by
  conv => lhs; unfold bkF
  rw [h]
  simp only
  cases hq : bkF l ns with
  | mk a b => cases a <;> simp [preB]
theorem bkStep_no {l : List ByteArray} {n : Int} {e : Int} (h : rchunksF l n = (none, e)) : bkStep l n = (none, e) := by unfold bkStep; rw [h]
theorem bkStep_bad {l : List ByteArray} {n : Int} {x : Int × List ByteArray} {e : Int} (h : rchunksF l n = (some x, e)) (h2 : (leafOfF (x.2.map txt)).2.1 ≠ 0) : bkStep l n = (none, 3) := by unfold bkStep; rw [h]; simp only; rw [if_pos h2]
theorem bkStep_yes {l : List ByteArray} {n : Int} {x : Int × List ByteArray} {e : Int} (h : rchunksF l n = (some x, e)) (h2 : (leafOfF (x.2.map txt)).2.1 = 0) : bkStep l n = (some (x.1, (leafOfF (x.2.map txt)).1), 0) := by unfold bkStep; rw [h]; simp only; rw [if_neg (by simpa using h2)]
def tOf (ps : List (Int × List It)) : Nat → List It := fun j => match ps[j]? with | some p => p.2 | none => []
def vOf (ps : List (Int × List It)) : Nat → Int := fun j => match ps[j]? with | some p => p.1 | none => 0
/-- the trunk of a root, and the error -/
def backF (l : List ByteArray) (n : Int) : (Nat → List It) × (Nat → Int) × Int := match leavesF l n with
  | (none, e) => (tOf [], vOf [], e)
  | (some xs, _) => match bkF l xs with
    | (none, e) => (tOf [], vOf [], e)
    | (some ps, _) => if trunkB (tOf ps) (vOf ps) = true then (tOf ps, vOf ps, 0) else (tOf [], vOf [], 1)
def upd {α : Type} (f : Nat → α) (k : Nat) (x : α) : Nat → α := fun j => if j = k then x else f j
theorem tOf_snoc {ps : List (Int × List It)} {k : Nat} (hk : ps.length = k) (p : Int × List It) : tOf (ps ++ [p]) = upd (tOf ps) k p.2 := by
  funext j
  unfold tOf upd
  by_cases h : j = k
  · rw [if_pos h, h, ← hk]; simp
  · rw [if_neg h]
    by_cases h2 : j < k
    · rw [List.getElem?_append_left (by omega)]
    · have e1 : (ps ++ [p])[j]? = none := List.getElem?_eq_none (by simp; omega)
      have e2 : ps[j]? = none := List.getElem?_eq_none (by omega)
      simp only [e1, e2]
theorem vOf_snoc {ps : List (Int × List It)} {k : Nat} (hk : ps.length = k) (p : Int × List It) : vOf (ps ++ [p]) = upd (vOf ps) k p.1 := by
  funext j
  unfold vOf upd
  by_cases h : j = k
  · rw [if_pos h, h, ← hk]; simp
  · rw [if_neg h]
    by_cases h2 : j < k
    · rw [List.getElem?_append_left (by omega)]
    · have e1 : (ps ++ [p])[j]? = none := List.getElem?_eq_none (by simp; omega)
      have e2 : ps[j]? = none := List.getElem?_eq_none (by omega)
      simp only [e1, e2]
/-- nothing -/
def nilV : Nat → Value := fun _ => .slice none 0 0
def zeroV : Nat → Int := fun _ => 0
theorem vOf_nil : vOf [] = zeroV := by funext j; simp [vOf, zeroV]
theorem tOf_nil : tOf [] = fun _ => [] := by funext j; simp [tOf]
theorem lvs_nil (w : World) (bs : Nat → Nat) : LvsAt w bs nilV (tOf []) := fun k hk => by rw [tOf_nil]; exact LfAt.nil _ _
theorem lvty_nil (w : World) (bs : Nat → Nat) : LvTy w bs (tOf []) := fun k hk h => by rw [tOf_nil] at h; simp at h
theorem trC_set (v : Nat → Value) (V : Nat → Int) (k : Nat) (hk : k < 16) (x : Value) : (trC v V).setIfInBounds k x = trC (upd v k x) V := by
  match k, hk with
  | 0, _ => rfl
  | 1, _ => rfl
  | 2, _ => rfl
  | 3, _ => rfl
  | 4, _ => rfl
  | 5, _ => rfl
  | 6, _ => rfl
  | 7, _ => rfl
  | 8, _ => rfl
  | 9, _ => rfl
  | 10, _ => rfl
  | 11, _ => rfl
  | 12, _ => rfl
  | 13, _ => rfl
  | 14, _ => rfl
  | 15, _ => rfl
  | k + 16, h => exact absurd h (by omega)
theorem trC_setV (v : Nat → Value) (V : Nat → Int) (k : Nat) (hk : k < 16) (z : Int) : (trC v V).setIfInBounds (16 + k) (.int .i64 z) = trC v (upd V k z) := by
  match k, hk with
  | 0, _ => rfl
  | 1, _ => rfl
  | 2, _ => rfl
  | 3, _ => rfl
  | 4, _ => rfl
  | 5, _ => rfl
  | 6, _ => rfl
  | 7, _ => rfl
  | 8, _ => rfl
  | 9, _ => rfl
  | 10, _ => rfl
  | 11, _ => rfl
  | 12, _ => rfl
  | 13, _ => rfl
  | 14, _ => rfl
  | 15, _ => rfl
  | k + 16, h => exact absurd h (by omega)
theorem TrBlk.setLeaf {w : World} {N : Nat} {v : Nat → Value} {V : Nat → Int} (h : TrBlk w N v V) (k : Nat) (hk : k < 16) (x : Value) : TrBlk (w.setCell ⟨N, k, none⟩ x) N (upd v k x) V := by
  unfold TrBlk at h ⊢
  rw [← trC_set v V k hk x]
  simp [World.setCell, Array.getElem?_modify, h]
theorem TrBlk.setVer {w : World} {N : Nat} {v : Nat → Value} {V : Nat → Int} (h : TrBlk w N v V) (k : Nat) (hk : k < 16) (z : Int) : TrBlk (w.setCell ⟨N, 16 + k, none⟩ (.int .i64 z)) N v (upd V k z) := by
  unfold TrBlk at h ⊢
  rw [← trC_setV v V k hk z]
  simp [World.setCell, Array.getElem?_modify, h]
theorem TrBlk.frozen {w : World} {N : Nat} {v : Nat → Value} {V : Nat → Int} (h : TrBlk w N v V) (j : Nat) : w.frozen? ⟨N, j, none⟩ = false := by
  unfold TrBlk at h
  simp [World.frozen?, h]
theorem TrBlk.other {w : World} {N : Nat} {v : Nat → Value} {V : Nat → Int} (h : TrBlk w N v V) {M i : Nat} (hne : N ≠ M) (x : Value) : TrBlk (w.setCell ⟨M, i, none⟩ x) N v V := by
  unfold TrBlk at h ⊢
  rw [Go.Deep.blk_setCell_other _ _ _ _ hne]; exact h
theorem LvsAt.other {w : World} {bs : Nat → Nat} {v : Nat → Value} {T : Nat → List It} (h : LvsAt w bs v T) (hy : LvTy w bs T) {M i : Nat} {v2 : Nat → Value} {V2 : Nat → Int} (hM : TrBlk w M v2 V2) (x : Value) : LvsAt (w.setCell ⟨M, i, none⟩ x) bs v T ∧ LvTy (w.setCell ⟨M, i, none⟩ x) bs T := by
  have hne : ∀ k, k < 16 → 0 < (T k).length → bs k ≠ M := fun k hk hl e => by
    obtain ⟨cur, fz, hc⟩ := hy k hk hl
    unfold TrBlk at hM
    rw [e, hM] at hc
    simp at hc
  refine ⟨fun k hk => (h k hk).of_block fun hl => Go.Deep.blk_setCell_other _ _ _ _ (hne k hk hl), fun k hk hl => ?_⟩
  obtain ⟨cur, fz, hc⟩ := hy k hk hl
  exact ⟨cur, fz, by rw [Go.Deep.blk_setCell_other _ _ _ _ (hne k hk hl)]; exact hc⟩
theorem LvTy.ext {w w' : World} {bs : Nat → Nat} {T : Nat → List It} (h : LvTy w bs T) (hx : Ext w w') : LvTy w' bs T := fun k hk hl => by
  obtain ⟨cur, fz, hc⟩ := h k hk hl
  exact ⟨cur, fz, by rw [hx.below.block _ (lt_of_heap hc)]; exact hc⟩
theorem LvsAt.upd {w : World} {bs : Nat → Nat} {v : Nat → Value} {T : Nat → List It} (h : LvsAt w bs v T) (hy : LvTy w bs T) {k b : Nat} {x : Value} {l : List It} (hx : LfAt w b x l) (hty : 0 < l.length → ∃ cur fz, w.heap[b]? = some (.cells cur 79 fz)) :
    LvsAt w (upd bs k b) (upd v k x) (YtpchohjkelopoaaDoor.upd T k l) ∧ LvTy w (YtpchohjkelopoaaDoor.upd bs k b) (YtpchohjkelopoaaDoor.upd T k l) := by
  constructor
  · intro j hj
    unfold YtpchohjkelopoaaDoor.upd
    by_cases e : j = k
    · rw [if_pos e, if_pos e, if_pos e]; exact hx
    · rw [if_neg e, if_neg e, if_neg e]; exact h j hj
  · intro j hj hl
    unfold YtpchohjkelopoaaDoor.upd at hl ⊢
    by_cases e : j = k
    · rw [if_pos e] at hl ⊢; exact hty hl
    · rw [if_neg e] at hl ⊢; exact hy j hj hl
/-- a row of items of the call's own is a leaf -/
theorem own_lf {w : World} {base n : Nat} {v : Value} {l : List It} (h : w.ownsRow base 79 5 v n (itCells l)) (hn : l.length = n) (ho : ∀ x ∈ l, ItOk x) : ∃ b, LfAt w b v l ∧ (0 < l.length → ∃ cur fz, w.heap[b]? = some (.cells cur 79 fz)) ∧ (0 < l.length → base ≤ b) := by
  rcases h.2 with ⟨rfl, h0⟩ | ⟨g, cap, cur, rfl, hb, hh, hc, hcm, _⟩
  · have hl : l = [] := List.eq_nil_of_length_eq_zero (by omega)
    subst hl
    exact ⟨0, LfAt.nil _ _, fun q => by simp at q, fun q => by simp at q⟩
  · subst hn
    refine ⟨g, ⟨ho, _, cap, rfl, hc, fun _ => ⟨0, rfl, fun j x hj => ?_⟩⟩, fun _ => ⟨cur, _, hh⟩, fun _ => hb⟩
    obtain ⟨g0, g1, g2, g3, g4⟩ := itCells_get l j x hj
    have h0 := h.cells (g := g) rfl _ _ g0
    have h1 := h.cells (g := g) rfl _ _ g1
    have h2 := h.cells (g := g) rfl _ _ g2
    have h3 := h.cells (g := g) rfl _ _ g3
    have h4 := h.cells (g := g) rfl _ _ g4
    simp only [Addr.add_lit, Nat.zero_add, Nat.add_zero] at h0 h1 h2 h3 h4 ⊢
    exact ⟨h0, h1, h2, h3, h4⟩
/-- '[]byte(s)': the block that it makes -/
def bytesObj (w : World) (s : ByteArray) : Obj := .cells (Lib.bytesCells w 5 s) 5 ((Lib.bytesCells w 5 s).size, (Lib.bytesCells w 5 s).size + 1)
theorem bytes_more (w : World) (s : ByteArray) : Lib.bytesWorld w 5 s = more w (w.drawn + 1) #[bytesObj w s] := by
  have hx := bytesWorld_ext w 5 s
  obtain ⟨d, os, h⟩ := hx
  have hs := Lib.bytesWorld_size w 5 s
  have hd : (Lib.bytesWorld w 5 s).drawn = w.drawn + 1 := by
    unfold Lib.bytesWorld World.freeze
    split <;> rfl
  have hn := Lib.bytesWorld_at_new w 5 s
  rw [h] at hs hd hn ⊢
  rw [more_drawn] at hd
  rw [more_size] at hs
  subst hd
  have h1 : os.size = 1 := by omega
  have h2 : os[0]? = some (bytesObj w s) := by
    simp only [more, Array.getElem?_append] at hn
    unfold bytesObj
    simpa using hn
  have h3 : os = #[bytesObj w s] := by
    apply Array.ext_getElem?
    intro k
    cases k with
    | zero => rw [h2]; rfl
    | succ k => rw [Array.getElem?_eq_none (by omega)]; rw [Array.getElem?_eq_none (by simp)]
  rw [h3]
theorem conv_bytes (s : ByteArray) (W : World) : (convert 9 52 (.string s)).run Tryd.prog W = .ok (.slice (some ⟨W.heap.size, 0, none⟩) s.size (grownCap W s.size 0 5)) (more W (W.drawn + 1) #[bytesObj W s]) := by
  rw [← bytes_more]
  exact Lib.run_convert_string_bytes W 9 52 5 s Tryd.underlying9 Tryd.underlying52 Tryd.underlying5
theorem SlB.conv (w : World) (s : ByteArray) {base : Nat} (hb : base ≤ w.heap.size) (hcap : s.size ≤ grownCap w s.size 0 5) : SlB base (more w (w.drawn + 1) #[bytesObj w s]) (.slice (some ⟨w.heap.size, 0, none⟩) s.size (grownCap w s.size 0 5)) (txt s) := by
  have hl : (txt s).length = s.size := ba_len s
  refine ⟨w.heap.size, 0, _, by rw [hl], by rw [hl]; exact hcap, hb, fun j u hj => ?_, _, _, by rw [← bytes_more]; exact Lib.bytesWorld_at_new w 5 s⟩
  have hlt := (List.getElem?_eq_some_iff.1 hj).1
  rw [hl] at hlt
  rw [← bytes_more, Nat.zero_add, Lib.bytesWorld_cell w 5 s j hlt]
  have : s.data.toList.getD j 0 = u := by
    rw [List.getD_eq_getElem?_getD]
    unfold txt at hj
    rw [hj]; rfl
  rw [this]
theorem results_cell_slot {fn : Func} {p q : Tmp} {ty : TypeId} (h : fn.results = #[.cell p ty, .tmp q]) (tmps : Array Value) (w : World) (a : Addr) (r : Value)
    (hp : tmps.getD p undef = .pointer (some a)) (hl : (loadVar ty a).run Tryd.prog w = .ok r w) (x : Value) (hx : tmps.getD q undef = x) :
    (results fn tmps).run Tryd.prog w = .ok (.tuple #[r, x]) w := by
  have hp' : tmps[p]?.getD undef = .pointer (some a) := by simpa using hp
  have hx' : tmps[q]?.getD undef = x := by simpa using hx
  simp [results, h, hp', hx', asAddr, hl]
theorem tr_load {w : World} {N : Nat} {v : Nat → Value} {V : Nat → Int} (h : TrBlk w N v V) : (loadVar 40 ⟨N, 0, none⟩).run Tryd.prog w = .ok (.agg (trC v V)) w :=
  run_loadVar_row w N 40 40 (trC v V) (0, 0) _ h Tryd.underlying40 rfl (by kernel_rfl)
theorem Ext.setRow {a w : World} (h : Ext a w) {g : Nat} (hg : a.heap.size ≤ g) (cs : Array Value) : Ext a (w.setRow g cs) := Ext.of_below (Go.below_setRow h.below hg cs)
theorem TrBlk.setRow {w : World} {N : Nat} {v : Nat → Value} {V : Nat → Int} (h : TrBlk w N v V) (v' : Nat → Value) (V' : Nat → Int) : TrBlk (w.setRow N (trC v' V')) N v' V' := setRow_heap w N _ _ _ _ h
theorem trC_one (v : Nat → Value) (V : Nat → Int) (h : ∀ k, k < 16 → (v k).oneCell' = true) : (trC v V).all (·.oneCell') = true := by
  rw [Array.all_eq_true']
  intro x hx
  simp only [trC, Array.mem_def, List.mem_cons, List.not_mem_nil, or_false] at hx
  rcases hx with rfl | rfl | rfl | rfl | rfl | rfl | rfl | rfl | rfl | rfl | rfl | rfl | rfl | rfl | rfl | rfl | rfl | rfl | rfl | rfl | rfl | rfl | rfl | rfl | rfl | rfl | rfl | rfl | rfl | rfl | rfl | rfl
  all_goals first | (exact h _ (by decide)) | rfl
end Go.Proofs.YtpchohjkelopoaaDoor

set_option maxRecDepth 20000
namespace Go.Proofs.YtpchohjkelopoaaDoor
open Go.RowKit
attribute [go_sem] more_more Array.size_append
end Go.Proofs.YtpchohjkelopoaaDoor

set_option maxRecDepth 20000
namespace Go.Proofs.YtpchohjkelopoaaDoor
open Go.RowKit
attribute [go_sem] more_more Array.size_append
/-- the first leaves of a trunk -/
def LvsTo (k : Nat) (w : World) (bs : Nat → Nat) (v : Nat → Value) (T : Nat → List It) : Prop := ∀ j, j < k → LfAt w (bs j) (v j) (T j) ∧ (0 < (T j).length → ∃ cur fz, w.heap[bs j]? = some (.cells cur 79 fz))
theorem LvsTo.otherRow {k : Nat} {w : World} {bs : Nat → Nat} {v : Nat → Value} {T : Nat → List It} (h : LvsTo k w bs v T) {M : Nat} {v2 : Nat → Value} {V2 : Nat → Int} (hM : TrBlk w M v2 V2) (x : Array Value) : LvsTo k (w.setRow M x) bs v T := fun j hj => by
  have hne : 0 < (T j).length → bs j ≠ M := fun hl e => by
    obtain ⟨cur, fz, hc⟩ := (h j hj).2 hl
    unfold TrBlk at hM
    rw [e, hM] at hc
    simp at hc
  refine ⟨(h j hj).1.of_block fun hl => setRow_other _ _ _ _ (hne hl), fun hl => ?_⟩
  obtain ⟨cur, fz, hc⟩ := (h j hj).2 hl
  exact ⟨cur, fz, by rw [setRow_other _ _ _ _ (hne hl)]; exact hc⟩
theorem LvsTo.all {w : World} {bs : Nat → Nat} {v : Nat → Value} {T : Nat → List It} (h : LvsTo 16 w bs v T) : LvsAt w bs v T ∧ LvTy w bs T := ⟨fun k hk => (h k hk).1, fun k hk hl => (h k hk).2 hl⟩
theorem LvsAt.one {w : World} {bs : Nat → Nat} {v : Nat → Value} {T : Nat → List It} (h : LvsAt w bs v T) : ∀ k, k < 16 → (v k).oneCell' = true := fun k hk => by
  obtain ⟨_, p, cap, e, _⟩ := h k hk
  rw [e]; rfl
theorem own_sl {w : World} {base n size : Nat} {v : Value} {e : TypeId} {xs : List Value} (h : w.ownsRow base e size v n xs) : ∃ p c, v = .slice p n c := by
  rcases Go.Joins.ownsRow_forms h with ⟨rfl, h0⟩ | ⟨g1, c, rfl⟩
  · exact ⟨none, 0, by rw [h0]⟩
  · exact ⟨_, _, rfl⟩
end Go.Proofs.YtpchohjkelopoaaDoor

set_option maxRecDepth 20000
namespace Go.Proofs.YtpchohjkelopoaaDoor
open Go.RowKit
attribute [go_sem] more_more Array.size_append
end Go.Proofs.YtpchohjkelopoaaDoor
