/- Lemmas for the claim (texts NmE, Bk1, Fw1, Fw2, what its proof uses of them). -/
import Derived.Test.YtpchohjkelopoaaGreatDoorR15
import Derived.Lib.ConvBytes
import Derived.Laws.CopyOwn
import Derived.Great.BuildSlice
set_option linter.unusedSimpArgs false
set_option linter.unusedVariables false
set_option maxRecDepth 20000
namespace Go.Proofs.YtpchohjkelopoaaGreatDoor
open Go.RowKit
attribute [go_sem] more_more Array.size_append
set_option maxHeartbeats 1000000 in
theorem rchunks_none (B : Nat) (lv : Value) (l : List ByteArray) (n : Int) (w : World) (ht : textF l n = none) (h : w.ownsRow B 9 1 lv l.length (l.map Value.string)) (hll : l.length ≤ 1000000000) :
    Calls Tryz.prog 45 #[lv, .int .i64 n] w fun e w' => RChunksPost w w' e (none, 6) := by
  have HT := Lib.hid (r12text_any h hll n)
  obtain ⟨p, cap, rfl, _, _⟩ := own_texts h
  rw [ht] at HT
  simp only [textE] at HT
  clear ht h
  go_enter Tryz.func45, Tryz.ntmps45
  go_wp2_with (go_at_call 72; refine HT.out.mono ?_; rintro e _ ⟨rfl, rfl⟩)
  go_ret3
  exact ⟨rfl, Ext.refl _⟩
set_option maxHeartbeats 1000000 in
theorem rchunks_refuse (B : Nat) (lv : Value) (l : List ByteArray) (n : Int) (s : ByteArray) (w : World) (ht : textF l n = some s) (h : w.ownsRow B 9 1 lv l.length (l.map Value.string)) (hll : l.length ≤ 1000000000) (hsz : ∀ s ∈ l, s.size ≤ 1000000)
    (hn : numsF s.data.toList = none ∨ numsF s.data.toList = some []) :
    Calls Tryz.prog 45 #[lv, .int .i64 n] w fun e w' => RChunksPost w w' e (none, 3) := by
  have HT := Lib.hid (r12text_any h hll n)
  obtain ⟨p, cap, rfl, _, _⟩ := own_texts h
  rw [ht] at HT
  simp only [textE] at HT
  have hss := hsz s (textF_mem ht)
  rcases hn with hn | hn
  · have NC := Lib.hid (rlist_any s hss w _ hn)
    clear ht hn hsz h
    go_enter Tryz.func45, Tryz.ntmps45
    go_wp2_with (first
      | (go_at_call 72; refine HT.out.mono ?_; rintro e _ ⟨rfl, rfl⟩)
      | (go_at_call 73; refine NC.out.mono ?_; rintro e w1 ⟨⟨v, rfl⟩, hx⟩; have HX := Lib.hid hx; clear hx))
    go_ret3
    exact ⟨rfl, HX.out⟩
  · have NC := Lib.hid (rlist_any s hss w _ hn)
    clear ht hn hsz h
    go_enter Tryz.func45, Tryz.ntmps45
    go_wp2_with (first
      | (go_at_call 72; refine HT.out.mono ?_; rintro e _ ⟨rfl, rfl⟩)
      | (go_at_call 73; refine NC.out.mono ?_; rintro e w1 ⟨v, rfl, hown, h64, hx⟩; obtain ⟨p, cap, rfl, hcap, hg⟩ := own_form hown; have HX := Lib.hid hx; clear hown h64 hx hg))
    go_ret3
    exact ⟨rfl, HX.out⟩
set_option maxHeartbeats 1000000 in
theorem rchunks_bad0 (B : Nat) (lv : Value) (l : List ByteArray) (n : Int) (s : ByteArray) (z : Int) (xs : List Int) (w : World) (ht : textF l n = some s) (h : w.ownsRow B 9 1 lv l.length (l.map Value.string)) (hll : l.length ≤ 1000000000) (hsz : ∀ s ∈ l, s.size ≤ 1000000)
    (hn : numsF s.data.toList = some (z :: xs)) (hbad : z < 0 ∨ 2147483647 < z) :
    Calls Tryz.prog 45 #[lv, .int .i64 n] w fun e w' => RChunksPost w w' e (none, 3) := by
  have HT := Lib.hid (r12text_any h hll n)
  obtain ⟨p, cap, rfl, _, _⟩ := own_texts h
  rw [ht] at HT
  simp only [textE] at HT
  have hss := hsz s (textF_mem ht)
  have NC := Lib.hid (rlist_any s hss w _ hn)
  obtain ⟨m, hm⟩ : ∃ m, xs.length = m := ⟨_, rfl⟩
  have hd0 : decide (((m : Nat) : Int) + 1 < 1) = false := by rw [decide_eq_false_iff_not]; omega
  rcases hbad with hz0 | hz0
  · have hd1 : decide (z < 0) = true := by rw [decide_eq_true_eq]; exact hz0
    clear ht hn hsz h
    go_enter Tryz.func45, Tryz.ntmps45
    go_wp2_with (first
      | (go_at_call 72; refine HT.out.mono ?_; rintro e _ ⟨rfl, rfl⟩)
      | (go_at_call 73; refine NC.out.mono ?_; intro e w1 hp; obtain ⟨g, cap, rfl, c0, hb1, hcap, hcm, HO, HA, HX⟩ := nums_row hm hp; clear hp))
    go_ret3
    exact ⟨rfl, HX.out⟩
  · have hd1 : decide (z < 0) = false := by rw [decide_eq_false_iff_not]; omega
    have hd2 : decide (2147483647 < z) = true := by rw [decide_eq_true_eq]; exact hz0
    clear ht hn hsz h
    go_enter Tryz.func45, Tryz.ntmps45
    go_wp2_with (first
      | (go_at_call 72; refine HT.out.mono ?_; rintro e _ ⟨rfl, rfl⟩)
      | (go_at_call 73; refine NC.out.mono ?_; intro e w1 hp; obtain ⟨g, cap, rfl, c0, hb1, hcap, hcm, HO, HA, HX⟩ := nums_row hm hp; clear hp))
    go_ret3
    exact ⟨rfl, HX.out⟩
set_option maxHeartbeats 2000000 in
theorem rchunks_good (B : Nat) (lv : Value) (l : List ByteArray) (n : Int) (s : ByteArray) (z : Int) (xs : List Int) (w : World) (ht : textF l n = some s) (h : w.ownsRow B 9 1 lv l.length (l.map Value.string)) (hll : l.length ≤ 1000000000) (hsz : ∀ s ∈ l, s.size ≤ 1000000)
    (hn : numsF s.data.toList = some (z :: xs)) (hz0 : 0 ≤ z) (hz1 : z ≤ 2147483647) (q : Option (List ByteArray)) (hq : textsF l xs = q) (r : Option (Int × List ByteArray) × Int) (hr : (if aboveF xs = true then chunksR z q else (none, 3)) = r) :
    Calls Tryz.prog 45 #[lv, .int .i64 n] w fun e w' => RChunksPost w w' e r := by
  obtain ⟨i1, hi1, hy0, hy1, hy2⟩ := info_parts strInfo
  have HT := Lib.hid (r12text_any h hll n)
  have HB := Lib.hid h
  rw [ht] at HT
  simp only [textE] at HT
  have hss := hsz s (textF_mem ht)
  have NC := Lib.hid (rlist_any s hss w _ hn)
  obtain ⟨m, hm⟩ : ∃ m, xs.length = m := ⟨_, rfl⟩
  have HM := Lib.hid hm
  have hm6 : m ≤ 1000000 := by
    have := numsF_len _ _ _ (Nat.le_refl _) hn
    rw [ba_len, List.length_cons] at this
    omega
  have HQ := Lib.hid hq
  have HR := Lib.hid hr
  have hd0 : decide (((m : Nat) : Int) + 1 < 1) = false := by rw [decide_eq_false_iff_not]; omega
  have hd1 : decide (z < 0) = false := by rw [decide_eq_false_iff_not]; omega
  have hd2 : decide (2147483647 < z) = false := by rw [decide_eq_false_iff_not]; omega
  obtain ⟨p, capl, rfl, _, _⟩ := own_texts h
  clear ht hn hsz h hss hr
  clear hq
  go_enter Tryz.func45, Tryz.ntmps45
  go_wp2_with (first
    | (go_at_call 72; refine HT.out.mono ?_; rintro e _ ⟨rfl, rfl⟩)
    | (go_at_call 73; refine NC.out.mono ?_; intro e w1 hp; obtain ⟨g, cap, rfl, c0, hb1, hcap, hcm, HO, HA, HX⟩ := nums_row hm hp; clear hp))
  go_loopw [11] (fun ii wr => ∃ (k : Nat), ii = .int .i64 (k : Int) ∧ 1 ≤ k ∧ k ≤ m + 1 ∧ Hid (∀ (j : Nat) (u : Int), j + 1 < k → xs[j]? = some u → 1 ≤ u) ∧ w1 = wr) (fun ii _ => m + 1 - (intOf ii).toNat)
  case atStart => exact ⟨1, rfl, Nat.le_refl _, by omega, Lib.hid fun j u h => by omega, rfl⟩
  case round =>
    obtain ⟨k, rfl, hk1, hk, hb, rfl⟩ := hrel
    have hk0I : (0 : Int) ≤ (k : Int) := by omega
    by_cases hlt : k < m + 1
    · obtain ⟨u, hu⟩ : ∃ u, xs[k - 1]? = some u := ⟨_, List.getElem?_eq_getElem (by have := HM.out; omega)⟩
      have cu := HA.out (k - 1) u hu
      rw [show 1 + (k - 1) = k by omega] at cu
      have hlt3 : (k : Int) < (m : Int) + 1 := by omega
      have HU := Lib.hid hu
      by_cases h1 : u ≤ 0
      · have hre2 : r = (none, 3) := by
          rw [← HR.out, if_neg (by rw [aboveF_no hu (by omega)]; simp)]
        subst hre2
        clear hu
        go_wp2_with fail
        go_ret3
        exact ⟨rfl, HX.out⟩
      · have h1' : 0 < u := by omega
        clear hu h1
        go_wp2_with fail
        go_roundw
        case rel =>
          refine ⟨k + 1, by go_num, by omega, by omega, Lib.hid ?_, by trivial⟩
          intro j v hj hv
          by_cases hjk : j = k - 1
          · subst hjk
            rw [HU.out] at hv
            simp at hv
            omega
          · exact hb.out j v (by omega) hv
        case measure => simp [intOf]; omega
    · have hks : k = m + 1 := by omega
      have ha := aboveF_all (l := xs) fun j u hj => hb.out j u (by have := (List.getElem?_eq_some_iff.1 hj).1; have := HM.out; omega) hj
      have hre2 : r = chunksR z q := by rw [← HR.out, if_pos ha]
      subst hre2
      have hnl : ¬ ((k : Int) < (m : Int) + 1) := by omega
      clear ha hks
      go_wp2_with fail
      go_loopw [12, 13] (fun out ii wr => ∃ (k : Nat) (ts : List ByteArray), ii = .int .i64 ((k : Int) + 1) ∧ k ≤ m ∧ Hid (wr.ownsRow w1.heap.size 9 1 out k (ts.map Value.string) ∧ ts.length = k ∧ Ext w1 wr ∧ (textsF l (xs.drop k)).map (ts ++ ·) = q)) (fun _ ii _ => m + 1 - (intOf ii).toNat)
      case atStart => exact ⟨0, [], rfl, Nat.zero_le _, Lib.hid ⟨World.ownsRow_nil _ _ _ _, rfl, Ext.refl _, by rw [List.drop_zero, HQ.out]; cases q <;> simp⟩⟩
      case round =>
        obtain ⟨k, ts, rfl, hk, hH⟩ := hrel
        have HEX : Hid (Ext w1 wr) := Lib.hid hH.out.2.2.1
        have hbr : g < wr.heap.size := by have := HEX.out.size; omega
        by_cases hlt : k < m
        · obtain ⟨u, hu⟩ : ∃ u, xs[k]? = some u := ⟨_, List.getElem?_eq_getElem (by have := HM.out; omega)⟩
          have cu := cell_ext (HA.out k u hu) HEX.out
          rw [Nat.add_comm] at cu
          have hlt3 : (k : Int) < m := by omega
          have hlt4 : (k : Int) + 1 < (m : Int) + 1 := by omega
          have h0k : (0 : Int) ≤ (k : Int) + 1 := by omega
          have TC := Lib.hid (r12text_any (own_ext HB.out (HX.out.trans HEX.out)) hll u)
          cases htx : textF l u with
          | none =>
            have hre : q = none := by have := hH.out.2.2.2; rw [textsF_no hu htx] at this; simpa using this.symm
            subst hre
            rw [htx] at TC
            simp only [textE] at TC
            clear hu htx
            go_wp2_with (go_at_call 72; refine TC.out.mono ?_; rintro e _ ⟨rfl, rfl⟩)
            go_ret3
            exact ⟨rfl, HX.out.trans HEX.out⟩
          | some t =>
            have HST := Lib.hid (textsF_yes hu htx)
            rw [htx] at TC
            simp only [textE] at TC
            clear hu htx
            go_wp2_with (first
              | (go_at_call 72; refine TC.out.mono ?_; rintro e _ ⟨rfl, rfl⟩)
              | (at_builtin; refine Hid.out ?_))
            refine Lib.hid ?_
            refine wpList_append_own_at _ rfl _ _ 22 rfl w1.heap.size 9 i1 (.string ⟨#[]⟩) 1 16 Tryz.underlying22 hi1 hy0 hy1 hy2 rfl (by decide) _ k (ts.map Value.string) rfl (hH.out.1.alloc _) ⟨wr.heap.size, 0, none⟩ 1 1 [.string t] rfl rfl ?c1 ?c2 ?c3 ?c4 ?c5 ?_
            case c1 => exact cell_one_new _ _ _
            case c2 => first | rfl | (intro u hu; simp at hu; subst hu; rfl)
            case c3 => unfold maxLen; omega
            case c4 => omega
            case c5 => have h1 := HEX.out.size; simp; omega
            intro v4 w4 hown4 hgrow4 _ _
            have HX4 : Hid (Ext w1 w4) := Lib.hid (Ext.grown (HEX.out.alloc _) hgrow4 (fun k hk => (hH.out.1.lt k hk).1))
            have HO4 := Lib.hid hown4
            clear hown4 hgrow4
            go_wp2_with fail
            go_roundw
            case rel =>
              refine ⟨k + 1, ts ++ [t], by go_num, by omega, Lib.hid ⟨?_, ?_, HX4.out, ?_⟩⟩
              · rw [show (ts ++ [t]).map Value.string = ts.map Value.string ++ [.string t] by simp]; exact HO4.out
              · simp [hH.out.2.1]
              · have h1 := hH.out.2.2.2
                rw [HST.out] at h1
                rw [← h1]
                simp only [Option.map_map]
                congr 1
                funext q
                simp
            case measure => simp [intOf]; omega
        · have hks : m = k := by omega
          subst hks
          have hre : q = some ts := by have := hH.out.2.2.2; rw [List.drop_of_length_le (by have := HM.out; omega)] at this; simpa [textsF] using this.symm
          subst hre
          have c0r := cell_ext c0 HEX.out
          have HTL := Lib.hid hH.out.2.1
          go_wp2_with fail
          go_ret3
          refine ⟨_, rfl, ?_, HX.out.trans HEX.out⟩
          rw [HTL.out]
          exact hH.out.1.mono HX.out.size
/-- ref12.Chunks = rchunksF -/
theorem drchunks_any (B : Nat) (lv : Value) (l : List ByteArray) (n : Int) (w : World) (h : w.ownsRow B 9 1 lv l.length (l.map Value.string)) (hll : l.length ≤ 1000000000) (hsz : ∀ s ∈ l, s.size ≤ 1000000) :
    Calls Tryz.prog 45 #[lv, .int .i64 n] w fun e w' => RChunksPost w w' e (rchunksF l n) := by
  unfold rchunksF
  cases ht : textF l n with
  | none => exact rchunks_none B lv l n w ht h hll
  | some s =>
    simp only
    cases hn : numsF s.data.toList with
    | none => exact rchunks_refuse B lv l n s w ht h hll hsz (Or.inl hn)
    | some x =>
      cases x with
      | nil => exact rchunks_refuse B lv l n s w ht h hll hsz (Or.inr hn)
      | cons z xs =>
        simp only
        by_cases hz : z < 0 ∨ 2147483647 < z
        · rw [if_neg (by omega)]
          exact rchunks_bad0 B lv l n s z xs w ht h hll hsz hn hz
        · refine rchunks_good B lv l n s z xs w ht h hll hsz hn (by omega) (by omega) _ rfl _ ?_
          by_cases ha : aboveF xs = true
          · rw [if_pos ha, if_pos ⟨by omega, by omega, ha⟩]
          · rw [if_neg ha, if_neg (fun q => ha q.2.2)]
end Go.Proofs.YtpchohjkelopoaaGreatDoor

set_option maxRecDepth 20000
namespace Go.Proofs.YtpchohjkelopoaaGreatDoor
open Go.RowKit
attribute [go_sem] more_more Array.size_append
theorem rchunksF_err {l : List ByteArray} {n : Int} : match rchunksF l n with | (none, e) => e = 3 ∨ e = 6 | (some _, e) => e = 0 := by
  unfold rchunksF
  cases textF l n with
  | none => simp
  | some s =>
    simp only
    cases numsF s.data.toList with
    | none => simp
    | some x =>
      cases x with
      | nil => simp
      | cons z xs =>
        simp only
        by_cases hg : 0 ≤ z ∧ z ≤ 2147483647 ∧ aboveF xs = true
        · rw [if_pos hg]
          cases textsF l xs <;> simp [chunksR]
        · rw [if_neg hg]; simp
theorem leavesF_err {l : List ByteArray} {n : Int} : match leavesF l n with | (none, e) => e = 3 ∨ e = 6 | (some x, e) => e = 0 ∧ x.length = 16 := by
  unfold leavesF
  cases textF l n with
  | none => simp
  | some s =>
    simp only
    cases numsF s.data.toList with
    | none => simp
    | some x =>
      simp only
      by_cases hg : x.length = 16 ∧ aboveF x = true
      · rw [if_pos hg]; exact ⟨rfl, hg.1⟩
      · rw [if_neg hg]; simp
theorem textsF_mem : ∀ {l : List ByteArray} {xs : List Int} {ts : List ByteArray}, textsF l xs = some ts → ts.length = xs.length ∧ ∀ t ∈ ts, t ∈ l
  | l, [], ts, h => by simp [textsF] at h; subst h; simp
  | l, x :: xs, ts, h => by
    unfold textsF at h
    cases hx : textF l x with
    | none => rw [hx] at h; cases h
    | some t =>
      rw [hx] at h
      simp only [Option.map_eq_some_iff] at h
      obtain ⟨u, h1, rfl⟩ := h
      obtain ⟨i1, i2⟩ := textsF_mem h1
      refine ⟨by simp [i1], fun v hv => ?_⟩
      rcases List.mem_cons.1 hv with rfl | hv
      · exact textF_mem hx
      · exact i2 v hv
theorem rchunksF_len {l : List ByteArray} {n : Int} {z : Int} {ts : List ByteArray} {e : Int} {M : Nat} (hsz : ∀ s ∈ l, s.size ≤ M) (h : rchunksF l n = (some (z, ts), e)) : ts.length ≤ M ∧ (∀ t ∈ ts, t.size ≤ M) ∧ 0 ≤ z ∧ z ≤ 2147483647 := by
  unfold rchunksF at h
  cases ht : textF l n with
  | none => rw [ht] at h; cases h
  | some s =>
    rw [ht] at h
    simp only at h
    cases hn : numsF s.data.toList with
    | none => rw [hn] at h; cases h
    | some x =>
      rw [hn] at h
      cases x with
      | nil => cases h
      | cons y xs =>
        simp only at h
        by_cases hg : 0 ≤ y ∧ y ≤ 2147483647 ∧ aboveF xs = true
        · rw [if_pos hg] at h
          cases hq : textsF l xs with
          | none => rw [hq] at h; cases h
          | some us =>
            rw [hq] at h
            simp only [chunksR, Prod.mk.injEq, Option.some.injEq] at h
            obtain ⟨⟨rfl, rfl⟩, _⟩ := h
            obtain ⟨i1, i2⟩ := textsF_mem hq
            have h1 := numsF_len _ _ _ (Nat.le_refl _) hn
            have h2 := hsz s (textF_mem ht)
            rw [ba_len, List.length_cons] at h1
            exact ⟨by omega, fun t ht => hsz t (i2 t ht), hg.1, hg.2.1⟩
        · rw [if_neg hg] at h; cases h
def txt (s : ByteArray) : List UInt8 := s.data.toList
/-- a leaf of a table -/
def bkStep (l : List ByteArray) (n : Int) : Option (Int × List It) × Int := match rchunksF l n with
  | (none, e) => (none, e)
  | (some x, _) => if (leafOfF (x.2.map txt)).2.1 ≠ 0 then (none, 3) else (some (x.1, (leafOfF (x.2.map txt)).1), 0)
/-- the leaves of a table, one behind the other -/
def bkF (l : List ByteArray) : List Int → Option (List (Int × List It)) × Int
  | [] => (some [], 0)
  | n :: ns => match bkStep l n with
    | (none, e) => (none, e)
    | (some p, _) => match bkF l ns with
      | (none, e) => (none, e)
      | (some ps, _) => (some (p :: ps), 0)
def preB (ps : List (Int × List It)) : Option (List (Int × List It)) × Int → Option (List (Int × List It)) × Int
  | (none, e) => (none, e)
  | (some qs, _) => (some (ps ++ qs), 0)
theorem bkF_err0 (l : List ByteArray) : ∀ ns, (bkF l ns).1 ≠ none → (bkF l ns).2 = 0
  | [], _ => rfl
  | n :: ns, h => by
    unfold bkF at h ⊢
    split
    · next h1 => rw [h1] at h; simp at h
    · next h1 =>
      rw [h1] at h
      simp only at h
      split
      · next h2 => rw [h2] at h; simp at h
      · rfl
theorem preB_nil (l : List ByteArray) (ns : List Int) : preB [] (bkF l ns) = bkF l ns := by
  have := bkF_err0 l ns
  cases h : bkF l ns with
  | mk a b =>
    rw [h] at this
    cases a with
    | none => rfl
    | some q => simp at this; subst this; simp [preB]
theorem preB_no {l : List ByteArray} {ps : List (Int × List It)} {n : Int} {ns : List Int} {e : Int} (h : bkStep l n = (none, e)) : preB ps (bkF l (n :: ns)) = (none, e) := by
  unfold bkF; rw [h]; rfl
theorem preB_yes {l : List ByteArray} {ps : List (Int × List It)} {n : Int} {ns : List Int} {e : Int} {p : Int × List It} (h : bkStep l n = (some p, e)) : preB ps (bkF l (n :: ns)) = preB (ps ++ [p]) (bkF l ns) := by
  conv => lhs; unfold bkF
  rw [h]
  simp only
  cases hq : bkF l ns with
  | mk a b => cases a <;> simp [preB]
theorem bkStep_no {l : List ByteArray} {n : Int} {e : Int} (h : rchunksF l n = (none, e)) : bkStep l n = (none, e) := by unfold bkStep; rw [h]
theorem bkStep_bad {l : List ByteArray} {n : Int} {x : Int × List ByteArray} {e : Int} (h : rchunksF l n = (some x, e)) (h2 : (leafOfF (x.2.map txt)).2.1 ≠ 0) : bkStep l n = (none, 3) := by unfold bkStep; rw [h]; simp only; rw [if_pos h2]
theorem bkStep_yes {l : List ByteArray} {n : Int} {x : Int × List ByteArray} {e : Int} (h : rchunksF l n = (some x, e)) (h2 : (leafOfF (x.2.map txt)).2.1 = 0) : bkStep l n = (some (x.1, (leafOfF (x.2.map txt)).1), 0) := by unfold bkStep; rw [h]; simp only; rw [if_neg (by simpa using h2)]
def tOf (ps : List (Int × List It)) : Nat → List It := fun j => match ps[j]? with | some p => p.2 | none => []
def vOf (ps : List (Int × List It)) : Nat → Int := fun j => match ps[j]? with | some p => p.1 | none => 0
/-- the trunk of a root, and the error -/
def backF (l : List ByteArray) (n : Int) : (Nat → List It) × (Nat → Int) × Int := match leavesF l n with
  | (none, e) => (tOf [], vOf [], e)
  | (some xs, _) => match bkF l xs with
    | (none, e) => (tOf [], vOf [], e)
    | (some ps, _) => if trunkB (tOf ps) (vOf ps) = true then (tOf ps, vOf ps, 0) else (tOf [], vOf [], 1)
def upd {α : Type} (f : Nat → α) (k : Nat) (x : α) : Nat → α := fun j => if j = k then x else f j
theorem tOf_snoc {ps : List (Int × List It)} {k : Nat} (hk : ps.length = k) (p : Int × List It) : tOf (ps ++ [p]) = upd (tOf ps) k p.2 := by
  funext j
  unfold tOf upd
  by_cases h : j = k
  · rw [if_pos h, h, ← hk]; simp
  · rw [if_neg h]
    by_cases h2 : j < k
    · rw [List.getElem?_append_left (by omega)]
    · have e1 : (ps ++ [p])[j]? = none := List.getElem?_eq_none (by simp; omega)
      have e2 : ps[j]? = none := List.getElem?_eq_none (by omega)
      simp only [e1, e2]
theorem vOf_snoc {ps : List (Int × List It)} {k : Nat} (hk : ps.length = k) (p : Int × List It) : vOf (ps ++ [p]) = upd (vOf ps) k p.1 := by
  funext j
  unfold vOf upd
  by_cases h : j = k
  · rw [if_pos h, h, ← hk]; simp
  · rw [if_neg h]
    by_cases h2 : j < k
    · rw [List.getElem?_append_left (by omega)]
    · have e1 : (ps ++ [p])[j]? = none := List.getElem?_eq_none (by simp; omega)
      have e2 : ps[j]? = none := List.getElem?_eq_none (by omega)
      simp only [e1, e2]
/-- nothing -/
def nilV : Nat → Value := fun _ => .slice none 0 0
def zeroV : Nat → Int := fun _ => 0
theorem vOf_nil : vOf [] = zeroV := by funext j; simp [vOf, zeroV]
theorem tOf_nil : tOf [] = fun _ => [] := by funext j; simp [tOf]
theorem lvs_nil (w : World) (bs : Nat → Nat) : LvsAt w bs nilV (tOf []) := fun k hk => by rw [tOf_nil]; exact LfAt.nil _ _
theorem lvty_nil (w : World) (bs : Nat → Nat) : LvTy w bs (tOf []) := fun k hk h => by rw [tOf_nil] at h; simp at h
theorem trC_set (v : Nat → Value) (V : Nat → Int) (k : Nat) (hk : k < 16) (x : Value) : (trC v V).setIfInBounds k x = trC (upd v k x) V := by
  match k, hk with
  | 0, _ => rfl
  | 1, _ => rfl
  | 2, _ => rfl
  | 3, _ => rfl
  | 4, _ => rfl
  | 5, _ => rfl
  | 6, _ => rfl
  | 7, _ => rfl
  | 8, _ => rfl
  | 9, _ => rfl
  | 10, _ => rfl
  | 11, _ => rfl
  | 12, _ => rfl
  | 13, _ => rfl
  | 14, _ => rfl
  | 15, _ => rfl
  | k + 16, h => exact absurd h (by omega)
theorem trC_setV (v : Nat → Value) (V : Nat → Int) (k : Nat) (hk : k < 16) (z : Int) : (trC v V).setIfInBounds (16 + k) (.int .i64 z) = trC v (upd V k z) := by
  match k, hk with
  | 0, _ => rfl
  | 1, _ => rfl
  | 2, _ => rfl
  | 3, _ => rfl
  | 4, _ => rfl
  | 5, _ => rfl
  | 6, _ => rfl
  | 7, _ => rfl
  | 8, _ => rfl
  | 9, _ => rfl
  | 10, _ => rfl
  | 11, _ => rfl
  | 12, _ => rfl
  | 13, _ => rfl
  | 14, _ => rfl
  | 15, _ => rfl
  | k + 16, h => exact absurd h (by omega)
theorem TrBlk.setLeaf {w : World} {N : Nat} {v : Nat → Value} {V : Nat → Int} (h : TrBlk w N v V) (k : Nat) (hk : k < 16) (x : Value) : TrBlk (w.setCell ⟨N, k, none⟩ x) N (upd v k x) V := by
  unfold TrBlk at h ⊢
  rw [← trC_set v V k hk x]
  simp [World.setCell, Array.getElem?_modify, h]
theorem TrBlk.setVer {w : World} {N : Nat} {v : Nat → Value} {V : Nat → Int} (h : TrBlk w N v V) (k : Nat) (hk : k < 16) (z : Int) : TrBlk (w.setCell ⟨N, 16 + k, none⟩ (.int .i64 z)) N v (upd V k z) := by
  unfold TrBlk at h ⊢
  rw [← trC_setV v V k hk z]
  simp [World.setCell, Array.getElem?_modify, h]
theorem TrBlk.frozen {w : World} {N : Nat} {v : Nat → Value} {V : Nat → Int} (h : TrBlk w N v V) (j : Nat) : w.frozen? ⟨N, j, none⟩ = false := by
  unfold TrBlk at h
  simp [World.frozen?, h]
theorem TrBlk.other {w : World} {N : Nat} {v : Nat → Value} {V : Nat → Int} (h : TrBlk w N v V) {M i : Nat} (hne : N ≠ M) (x : Value) : TrBlk (w.setCell ⟨M, i, none⟩ x) N v V := by
  unfold TrBlk at h ⊢
  rw [Go.Deep.blk_setCell_other _ _ _ _ hne]; exact h
theorem LvsAt.other {w : World} {bs : Nat → Nat} {v : Nat → Value} {T : Nat → List It} (h : LvsAt w bs v T) (hy : LvTy w bs T) {M i : Nat} {v2 : Nat → Value} {V2 : Nat → Int} (hM : TrBlk w M v2 V2) (x : Value) : LvsAt (w.setCell ⟨M, i, none⟩ x) bs v T ∧ LvTy (w.setCell ⟨M, i, none⟩ x) bs T := by
  have hne : ∀ k, k < 16 → 0 < (T k).length → bs k ≠ M := fun k hk hl e => by
    obtain ⟨cur, fz, hc⟩ := hy k hk hl
    unfold TrBlk at hM
    rw [e, hM] at hc
    simp at hc
  refine ⟨fun k hk => (h k hk).of_block fun hl => Go.Deep.blk_setCell_other _ _ _ _ (hne k hk hl), fun k hk hl => ?_⟩
  obtain ⟨cur, fz, hc⟩ := hy k hk hl
  exact ⟨cur, fz, by rw [Go.Deep.blk_setCell_other _ _ _ _ (hne k hk hl)]; exact hc⟩
theorem LvTy.ext {w w' : World} {bs : Nat → Nat} {T : Nat → List It} (h : LvTy w bs T) (hx : Ext w w') : LvTy w' bs T := fun k hk hl => by
  obtain ⟨cur, fz, hc⟩ := h k hk hl
  exact ⟨cur, fz, by rw [hx.below.block _ (lt_of_heap hc)]; exact hc⟩
theorem LvsAt.upd {w : World} {bs : Nat → Nat} {v : Nat → Value} {T : Nat → List It} (h : LvsAt w bs v T) (hy : LvTy w bs T) {k b : Nat} {x : Value} {l : List It} (hx : LfAt w b x l) (hty : 0 < l.length → ∃ cur fz, w.heap[b]? = some (.cells cur 152 fz)) :
    LvsAt w (upd bs k b) (upd v k x) (YtpchohjkelopoaaGreatDoor.upd T k l) ∧ LvTy w (YtpchohjkelopoaaGreatDoor.upd bs k b) (YtpchohjkelopoaaGreatDoor.upd T k l) := by
  constructor
  · intro j hj
    unfold YtpchohjkelopoaaGreatDoor.upd
    by_cases e : j = k
    · rw [if_pos e, if_pos e, if_pos e]; exact hx
    · rw [if_neg e, if_neg e, if_neg e]; exact h j hj
  · intro j hj hl
    unfold YtpchohjkelopoaaGreatDoor.upd at hl ⊢
    by_cases e : j = k
    · rw [if_pos e] at hl ⊢; exact hty hl
    · rw [if_neg e] at hl ⊢; exact hy j hj hl
/-- a row of items of the call's own is a leaf -/
theorem own_lf {w : World} {base n : Nat} {v : Value} {l : List It} (h : w.ownsRow base 152 5 v n (itCells l)) (hn : l.length = n) (ho : ∀ x ∈ l, ItOk x) : ∃ b, LfAt w b v l ∧ (0 < l.length → ∃ cur fz, w.heap[b]? = some (.cells cur 152 fz)) ∧ (0 < l.length → base ≤ b) := by
  rcases h.2 with ⟨rfl, h0⟩ | ⟨g, cap, cur, rfl, hb, hh, hc, hcm, _⟩
  · have hl : l = [] := List.eq_nil_of_length_eq_zero (by omega)
    subst hl
    exact ⟨0, LfAt.nil _ _, fun q => by simp at q, fun q => by simp at q⟩
  · subst hn
    refine ⟨g, ⟨ho, _, cap, rfl, hc, fun _ => ⟨0, rfl, fun j x hj => ?_⟩⟩, fun _ => ⟨cur, _, hh⟩, fun _ => hb⟩
    obtain ⟨g0, g1, g2, g3, g4⟩ := itCells_get l j x hj
    have h0 := h.cells (g := g) rfl _ _ g0
    have h1 := h.cells (g := g) rfl _ _ g1
    have h2 := h.cells (g := g) rfl _ _ g2
    have h3 := h.cells (g := g) rfl _ _ g3
    have h4 := h.cells (g := g) rfl _ _ g4
    simp only [Addr.add_lit, Nat.zero_add, Nat.add_zero] at h0 h1 h2 h3 h4 ⊢
    exact ⟨h0, h1, h2, h3, h4⟩
/-- '[]byte(s)': the block that it makes -/
def bytesObj (w : World) (s : ByteArray) : Obj := .cells (Lib.bytesCells w 5 s) 5 ((Lib.bytesCells w 5 s).size, (Lib.bytesCells w 5 s).size + 1)
theorem bytes_more (w : World) (s : ByteArray) : Lib.bytesWorld w 5 s = more w (w.drawn + 1) #[bytesObj w s] := by
  have hx := bytesWorld_ext w 5 s
  obtain ⟨d, os, h⟩ := hx
  have hs := Lib.bytesWorld_size w 5 s
  have hd : (Lib.bytesWorld w 5 s).drawn = w.drawn + 1 := by
    unfold Lib.bytesWorld World.freeze
    split <;> rfl
  have hn := Lib.bytesWorld_at_new w 5 s
  rw [h] at hs hd hn ⊢
  rw [more_drawn] at hd
  rw [more_size] at hs
  subst hd
  have h1 : os.size = 1 := by omega
  have h2 : os[0]? = some (bytesObj w s) := by
    simp only [more, Array.getElem?_append] at hn
    unfold bytesObj
    simpa using hn
  have h3 : os = #[bytesObj w s] := by
    apply Array.ext_getElem?
    intro k
    cases k with
    | zero => rw [h2]; rfl
    | succ k => rw [Array.getElem?_eq_none (by omega)]; rw [Array.getElem?_eq_none (by simp)]
  rw [h3]
theorem conv_bytes (s : ByteArray) (W : World) : (convert 9 135 (.string s)).run Tryz.prog W = .ok (.slice (some ⟨W.heap.size, 0, none⟩) s.size (grownCap W s.size 0 5)) (more W (W.drawn + 1) #[bytesObj W s]) := by
  rw [← bytes_more]
  exact Lib.run_convert_string_bytes W 9 135 5 s Tryz.underlying9 Tryz.underlying135 Tryz.underlying5
theorem SlB.conv (w : World) (s : ByteArray) {base : Nat} (hb : base ≤ w.heap.size) (hcap : s.size ≤ grownCap w s.size 0 5) : SlB base (more w (w.drawn + 1) #[bytesObj w s]) (.slice (some ⟨w.heap.size, 0, none⟩) s.size (grownCap w s.size 0 5)) (txt s) := by
  have hl : (txt s).length = s.size := ba_len s
  refine ⟨w.heap.size, 0, _, by rw [hl], by rw [hl]; exact hcap, hb, fun j u hj => ?_, _, _, by rw [← bytes_more]; exact Lib.bytesWorld_at_new w 5 s⟩
  have hlt := (List.getElem?_eq_some_iff.1 hj).1
  rw [hl] at hlt
  rw [← bytes_more, Nat.zero_add, Lib.bytesWorld_cell w 5 s j hlt]
  have : s.data.toList.getD j 0 = u := by
    rw [List.getD_eq_getElem?_getD]
    unfold txt at hj
    rw [hj]; rfl
  rw [this]
theorem results_cell_slot {fn : Func} {p q : Tmp} {ty : TypeId} (h : fn.results = #[.cell p ty, .tmp q]) (tmps : Array Value) (w : World) (a : Addr) (r : Value)
    (hp : tmps.getD p undef = .pointer (some a)) (hl : (loadVar ty a).run Tryz.prog w = .ok r w) (x : Value) (hx : tmps.getD q undef = x) :
    (results fn tmps).run Tryz.prog w = .ok (.tuple #[r, x]) w := by
  have hp' : tmps[p]?.getD undef = .pointer (some a) := by simpa using hp
  have hx' : tmps[q]?.getD undef = x := by simpa using hx
  simp [results, h, hp', hx', asAddr, hl]
theorem results_cell {fn : Func} {p : Tmp} {ty : TypeId} (h : fn.results = #[.cell p ty]) (tmps : Array Value) (w : World) (a : Addr) (r : Value)
    (hp : tmps.getD p undef = .pointer (some a)) (hl : (loadVar ty a).run Tryz.prog w = .ok r w) :
    (results fn tmps).run Tryz.prog w = .ok r w := by
  have hp' : tmps[p]?.getD undef = .pointer (some a) := by simpa using hp
  simp [results, h, hp', asAddr, hl]
theorem tr_load {w : World} {N : Nat} {v : Nat → Value} {V : Nat → Int} (h : TrBlk w N v V) : (loadVar 29 ⟨N, 0, none⟩).run Tryz.prog w = .ok (.agg (trC v V)) w :=
  run_loadVar_row w N 29 29 (trC v V) (0, 0) _ h Tryz.underlying29 rfl (by kernel_rfl)
theorem Ext.setRow {a w : World} (h : Ext a w) {g : Nat} (hg : a.heap.size ≤ g) (cs : Array Value) : Ext a (w.setRow g cs) := Ext.of_below (Go.below_setRow h.below hg cs)
theorem TrBlk.setRow {w : World} {N : Nat} {v : Nat → Value} {V : Nat → Int} (h : TrBlk w N v V) (v' : Nat → Value) (V' : Nat → Int) : TrBlk (w.setRow N (trC v' V')) N v' V' := setRow_heap w N _ _ _ _ h
theorem trC_one (v : Nat → Value) (V : Nat → Int) (h : ∀ k, k < 16 → (v k).oneCell' = true) : (trC v V).all (·.oneCell') = true := by
  rw [Array.all_eq_true']
  intro x hx
  simp only [trC, Array.mem_def, List.mem_cons, List.not_mem_nil, or_false] at hx
  rcases hx with rfl | rfl | rfl | rfl | rfl | rfl | rfl | rfl | rfl | rfl | rfl | rfl | rfl | rfl | rfl | rfl | rfl | rfl | rfl | rfl | rfl | rfl | rfl | rfl | rfl | rfl | rfl | rfl | rfl | rfl | rfl | rfl
  all_goals first | (exact h _ (by decide)) | rfl
end Go.Proofs.YtpchohjkelopoaaGreatDoor

set_option maxRecDepth 20000
namespace Go.Proofs.YtpchohjkelopoaaGreatDoor
open Go.RowKit
attribute [go_sem] more_more Array.size_append
/-- an item that came in -/
structure ItIn (x : It) : Prop where
  k : x.k.size ≤ 140737488351232
  vs : x.vs.size ≤ 140737488351232
  vk : In64I x.vk
  vi : In64I x.vi
  ver : In64I x.ver
/-- a leaf that came in -/
def LfIn (w : World) (b : Nat) (v : Value) (l : List It) : Prop :=
  (∀ x ∈ l, ItIn x) ∧ l.length ≤ 140737488351232 ∧ ∃ p cap, v = .slice p l.length cap ∧ l.length ≤ cap ∧ (0 < l.length → ∃ off, p = some ⟨b, off, none⟩ ∧ ItsAt w b off l)
theorem LfIn.ext {w w' : World} {b : Nat} {v : Value} {l : List It} (h : LfIn w b v l) (hx : Ext w w') : LfIn w' b v l := by
  obtain ⟨h0, h00, p, cap, h1, h2, h3⟩ := h
  exact ⟨h0, h00, p, cap, h1, h2, fun hl => by obtain ⟨off, e, hi⟩ := h3 hl; exact ⟨off, e, hi.ext hx⟩⟩
def cutS (n : Nat) (s : ByteArray) : ByteArray := if n < s.size then s.extract 0 n else s
theorem cutS_le (n : Nat) (s : ByteArray) : (cutS n s).size ≤ n := by
  unfold cutS
  split
  · simp; omega
  · omega
def oneF (x : It) : It := ⟨cutS 60 x.k, x.vk, x.vi, cutS 200 x.vs, x.ver⟩
theorem oneF_ok {x : It} (h : ItIn x) : ItOk (oneF x) := ⟨Nat.le_trans (cutS_le 60 _) (by decide), Nat.le_trans (cutS_le 200 _) (by decide), h.vk, h.vi, h.ver⟩
def fewF (l : List It) : List It := (l.take 66).map oneF
theorem fewF_ok {l : List It} (h : ∀ x ∈ l, ItIn x) : ∀ x ∈ fewF l, ItOk x := by
  intro x hx
  unfold fewF at hx
  obtain ⟨y, hy, rfl⟩ := List.mem_map.1 hx
  exact oneF_ok (h y (List.mem_of_mem_take hy))
theorem fewF_len (l : List It) : (fewF l).length ≤ 66 := by unfold fewF; simp; omega
set_option maxHeartbeats 1000000 in
theorem short_any (s : ByteArray) (hm : s.size ≤ 140737488351232) (w : World) : Calls Tryz.prog 104 #[.string s] w fun e w' => e = .returned (.string (cutS 60 s)) ∧ w = w' := by
  unfold cutS
  by_cases h : 60 < s.size
  · have hI : (60 : Int) < s.size := by omega
    have hI2 : (60 : Int) ≤ s.size := by omega
    rw [if_pos h]
    go_enter Tryz.func104, Tryz.ntmps104
    go_wp2_with fail
    go_ret
    exact ⟨rfl, rfl⟩
  · have hI : ¬ ((60 : Int) < s.size) := by omega
    rw [if_neg h]
    go_enter Tryz.func104, Tryz.ntmps104
    go_wp2_with fail
    go_ret
    exact ⟨rfl, rfl⟩
set_option maxHeartbeats 1000000 in
theorem one_any (x : It) (hx : ItIn x) (w : World) : Calls Tryz.prog 76 #[itV x] w fun e w' => e = .returned (itV (oneF x)) ∧ Ext w w' := by
  have SC := Lib.hid fun W => short_any x.k hx.k W
  have hm := hx.vs
  unfold oneF
  obtain ⟨xk, xvk, xvi, xvs, xver⟩ := x
  dsimp only at SC hm ⊢
  unfold itV
  obtain ⟨ck, hck⟩ : ∃ ck, cutS 60 xk = ck := ⟨_, rfl⟩
  rw [hck] at SC
  dsimp only
  rw [hck]
  clear hck hx
  unfold cutS
  by_cases h : 200 < xvs.size
  · have hI : (200 : Int) < xvs.size := by omega
    have hI2 : (200 : Int) ≤ xvs.size := by omega
    rw [if_pos h]
    go_enter Tryz.func76, Tryz.ntmps76
    go_wp2_with (go_at_call 104; refine (SC.out _).mono ?_; rintro e _ ⟨rfl, rfl⟩)
    refine bodyPost_ret (v := .agg #[.string ck, .int .i64 xvk, .int .i64 xvi, .string (xvs.extract 0 200), .int .i64 xver]) (by simp [results, Tryz.results76, go_sem]) rfl ⟨rfl, ?_⟩
    exact ((Ext.refl _).alloc _).alloc _
  · have hI : ¬ ((200 : Int) < xvs.size) := by omega
    rw [if_neg h]
    go_enter Tryz.func76, Tryz.ntmps76
    go_wp2_with (go_at_call 104; refine (SC.out _).mono ?_; rintro e _ ⟨rfl, rfl⟩)
    refine bodyPost_ret (v := .agg #[.string ck, .int .i64 xvk, .int .i64 xvi, .string xvs, .int .i64 xver]) (by simp [results, Tryz.results76, go_sem]) rfl ⟨rfl, ?_⟩
    exact ((Ext.refl _).alloc _).alloc _
set_option maxHeartbeats 2000000 in
theorem items_core {w0 : World} (b : Nat) (p : Option Addr) (n cap : Nat) (l : List It) (hn : l.length = n) (h0 : ∀ x ∈ l, ItIn x) (hm : n ≤ 140737488351232) (hcap : n ≤ cap) (hp : 0 < n → ∃ off, p = some ⟨b, off, none⟩ ∧ ItsAt w0 b off l) (n' : Nat) (hn' : n' = min n 66) (w : World) (hw : w0 = w) :
    Calls Tryz.prog 49 #[.slice p n cap] w fun e w' => ∃ v', e = .returned v' ∧ w'.ownsRow w.heap.size 152 5 v' n' (itCells (fewF l)) ∧ Ext w w' := by
  subst hw
  obtain ⟨i1, hi1, hy0, hy1, hy2⟩ := info_parts itInfo
  have HN := Lib.hid hn
  have HO := Lib.hid h0
  have HP := Lib.hid hp
  have HN' := Lib.hid hn'
  have hn66 : n' ≤ 66 := by omega
  have hnn : n' ≤ n := by omega
  have hnI : (n' : Int) ≤ 66 := by omega
  clear hn h0 hp
  have key : ∀ (_ : True), True := fun _ => trivial
  by_cases h66 : 66 < n
  · have hI : (66 : Int) < n := by omega
    have hI2 : (66 : Int) ≤ cap := by omega
    obtain rfl : n' = 66 := by omega
    clear hn' key
    go_enter Tryz.func49, Tryz.ntmps49
    go_wp2_with fail
    go_loopw [3, 4] (fun out ii wr => ∃ (k : Nat), ii = .int .i64 (k : Int) ∧ k ≤ 66 ∧ Hid (wr.ownsRow w0.heap.size 152 5 out k (itCells ((l.map oneF).take k)) ∧ Ext w0 wr)) (fun _ ii _ => 66 - (intOf ii).toNat)
    case atStart => exact ⟨0, rfl, Nat.zero_le _, Lib.hid ⟨World.ownsRow_nil _ _ _ _, Ext.refl _⟩⟩
    case round =>
      obtain ⟨k, rfl, hk, hH⟩ := hrel
      have HEX := Lib.hid hH.out.2
      by_cases hlt : k < 66
      · obtain ⟨x, hx⟩ := get_at HN.out (show k < n by omega)
        obtain ⟨off, rfl, hi⟩ := HP.out (by omega)
        obtain ⟨a0, a1, a2, a3, a4⟩ := (hi.ext HEX.out) k x hx
        have hg := rcell_lt a0
        have hxi := HO.out x (List.mem_of_getElem? hx)
        have OC := Lib.hid fun W => one_any x hxi W
        unfold itV at OC
        have hkI : (k : Int) < 66 := by omega
        have hk0 : (0 : Int) ≤ (k : Int) := by omega
        have HX := Lib.hid hx
        clear hx hi hxi
        go_wp2_with (first
          | (go_at_call 76; refine (OC.out _).mono ?_; rintro e _ ⟨rfl, d1, os1, rfl⟩)
          | (at_builtin; refine wpList_append_own_at _ rfl _ _ 26 rfl w0.heap.size 152 i1 (.agg #[.string ⟨#[]⟩, .int .i64 0, .int .i64 0, .string ⟨#[]⟩, .int .i64 0]) 5 56 Tryz.underlying26 hi1 hy0 hy1 hy2 rfl (by decide) _ k (itCells ((l.map oneF).take k)) rfl ((own_more hH.out.1 d1 os1).alloc _) ⟨wr.heap.size + os1.size, 0, none⟩ 1 1 (itL (oneF x)) rfl rfl ?c1 ?c2 ?c3 ?c4 ?c5 ?_))
        case c1 => exact news_it (by simp [more_size])
        case c2 => intro u hu; simp [itL] at hu; rcases hu with rfl | rfl | rfl | rfl | rfl <;> rfl
        case c3 => unfold maxLen; omega
        case c4 => omega
        case c5 => have := HEX.out.size; simp [more_size]; omega
        intro v' w1 hown' hgrow' _ _
        have HX1 : Hid (Ext w0 w1) := Lib.hid (((HEX.out.more d1 os1).alloc _).grown hgrow' (fun k hk => (hH.out.1.lt k hk).1))
        have HO1 := Lib.hid hown'
        clear hown' hgrow'
        go_wp2_with fail
        go_roundw
        case rel =>
          refine ⟨k + 1, by go_num, by omega, Lib.hid ⟨?_, HX1.out⟩⟩
          rw [show (l.map oneF).take (k + 1) = (l.map oneF).take k ++ [oneF x] by rw [List.take_add_one]; simp [HX.out], itCells_snoc]
          exact HO1.out
        case measure => simp [intOf]; omega
      · have hks : k = 66 := by omega
        subst hks
        have HFF := Lib.hid (show fewF l = (l.map oneF).take 66 by
          unfold fewF
          rw [List.map_take])
        go_wp2_with fail
        go_ret
        refine ⟨_, rfl, ?_, HEX.out⟩
        rw [HFF.out]
        exact hH.out.1
  · have hI : ¬ ((66 : Int) < n) := by omega
    obtain rfl : n' = n := by omega
    clear hn' key
    go_enter Tryz.func49, Tryz.ntmps49
    go_wp2_with fail
    go_loopw [3, 4] (fun out ii wr => ∃ (k : Nat), ii = .int .i64 (k : Int) ∧ k ≤ n' ∧ Hid (wr.ownsRow w0.heap.size 152 5 out k (itCells ((l.map oneF).take k)) ∧ Ext w0 wr)) (fun _ ii _ => n' - (intOf ii).toNat)
    case atStart => exact ⟨0, rfl, Nat.zero_le _, Lib.hid ⟨World.ownsRow_nil _ _ _ _, Ext.refl _⟩⟩
    case round =>
      obtain ⟨k, rfl, hk, hH⟩ := hrel
      have HEX := Lib.hid hH.out.2
      by_cases hlt : k < n'
      · obtain ⟨x, hx⟩ := get_at HN.out (show k < n' by omega)
        obtain ⟨off, rfl, hi⟩ := HP.out (by omega)
        obtain ⟨a0, a1, a2, a3, a4⟩ := (hi.ext HEX.out) k x hx
        have hg := rcell_lt a0
        have hxi := HO.out x (List.mem_of_getElem? hx)
        have OC := Lib.hid fun W => one_any x hxi W
        unfold itV at OC
        have hkI : (k : Int) < (n' : Int) := by omega
        have hk0 : (0 : Int) ≤ (k : Int) := by omega
        have HX := Lib.hid hx
        clear hx hi hxi
        go_wp2_with (first
          | (go_at_call 76; refine (OC.out _).mono ?_; rintro e _ ⟨rfl, d1, os1, rfl⟩)
          | (at_builtin; refine wpList_append_own_at _ rfl _ _ 26 rfl w0.heap.size 152 i1 (.agg #[.string ⟨#[]⟩, .int .i64 0, .int .i64 0, .string ⟨#[]⟩, .int .i64 0]) 5 56 Tryz.underlying26 hi1 hy0 hy1 hy2 rfl (by decide) _ k (itCells ((l.map oneF).take k)) rfl ((own_more hH.out.1 d1 os1).alloc _) ⟨wr.heap.size + os1.size, 0, none⟩ 1 1 (itL (oneF x)) rfl rfl ?c1 ?c2 ?c3 ?c4 ?c5 ?_))
        case c1 => exact news_it (by simp [more_size])
        case c2 => intro u hu; simp [itL] at hu; rcases hu with rfl | rfl | rfl | rfl | rfl <;> rfl
        case c3 => unfold maxLen; omega
        case c4 => omega
        case c5 => have := HEX.out.size; simp [more_size]; omega
        intro v' w1 hown' hgrow' _ _
        have HX1 : Hid (Ext w0 w1) := Lib.hid (((HEX.out.more d1 os1).alloc _).grown hgrow' (fun k hk => (hH.out.1.lt k hk).1))
        have HO1 := Lib.hid hown'
        clear hown' hgrow'
        go_wp2_with fail
        go_roundw
        case rel =>
          refine ⟨k + 1, by go_num, by omega, Lib.hid ⟨?_, HX1.out⟩⟩
          rw [show (l.map oneF).take (k + 1) = (l.map oneF).take k ++ [oneF x] by rw [List.take_add_one]; simp [HX.out], itCells_snoc]
          exact HO1.out
        case measure => simp [intOf]; omega
      · have hks : k = n' := by omega
        subst hks
        have HFF := Lib.hid (show fewF l = (l.map oneF).take k by
          unfold fewF
          rw [List.take_of_length_le (by have := HN.out; omega), List.take_of_length_le (by have := HN.out; simp; omega)])
        go_wp2_with fail
        go_ret
        refine ⟨_, rfl, ?_, HEX.out⟩
        rw [HFF.out]
        exact hH.out.1
theorem items_any (b : Nat) (v : Value) (l : List It) (w : World) (h : LfIn w b v l) : Calls Tryz.prog 49 #[v] w fun e w' => ∃ v', e = .returned v' ∧ w'.ownsRow w.heap.size 152 5 v' (fewF l).length (itCells (fewF l)) ∧ Ext w w' := by
  obtain ⟨h0, hm, p, cap, rfl, hcap, hp⟩ := h
  exact items_core b p l.length cap l rfl h0 hm hcap hp _ (by unfold fewF; simp; omega) w rfl
end Go.Proofs.YtpchohjkelopoaaGreatDoor

set_option maxRecDepth 20000
namespace Go.Proofs.YtpchohjkelopoaaGreatDoor
open Go.RowKit
attribute [go_sem] more_more Array.size_append
/-- the first leaves of a trunk -/
def LvsTo (k : Nat) (w : World) (bs : Nat → Nat) (v : Nat → Value) (T : Nat → List It) : Prop := ∀ j, j < k → LfAt w (bs j) (v j) (T j) ∧ (0 < (T j).length → ∃ cur fz, w.heap[bs j]? = some (.cells cur 152 fz))
theorem LvsTo.ext {k : Nat} {w w' : World} {bs : Nat → Nat} {v : Nat → Value} {T : Nat → List It} (h : LvsTo k w bs v T) (hx : Ext w w') : LvsTo k w' bs v T := fun j hj => ⟨(h j hj).1.ext hx, fun hl => by
  obtain ⟨cur, fz, hc⟩ := (h j hj).2 hl
  exact ⟨cur, fz, by rw [hx.below.block _ (lt_of_heap hc)]; exact hc⟩⟩
theorem LvsTo.other {k : Nat} {w : World} {bs : Nat → Nat} {v : Nat → Value} {T : Nat → List It} (h : LvsTo k w bs v T) {M i : Nat} {v2 : Nat → Value} {V2 : Nat → Int} (hM : TrBlk w M v2 V2) (x : Value) : LvsTo k (w.setCell ⟨M, i, none⟩ x) bs v T := fun j hj => by
  have hne : 0 < (T j).length → bs j ≠ M := fun hl e => by
    obtain ⟨cur, fz, hc⟩ := (h j hj).2 hl
    unfold TrBlk at hM
    rw [e, hM] at hc
    simp at hc
  refine ⟨(h j hj).1.of_block fun hl => Go.Deep.blk_setCell_other _ _ _ _ (hne hl), fun hl => ?_⟩
  obtain ⟨cur, fz, hc⟩ := (h j hj).2 hl
  exact ⟨cur, fz, by rw [Go.Deep.blk_setCell_other _ _ _ _ (hne hl)]; exact hc⟩
theorem LvsTo.otherRow {k : Nat} {w : World} {bs : Nat → Nat} {v : Nat → Value} {T : Nat → List It} (h : LvsTo k w bs v T) {M : Nat} {v2 : Nat → Value} {V2 : Nat → Int} (hM : TrBlk w M v2 V2) (x : Array Value) : LvsTo k (w.setRow M x) bs v T := fun j hj => by
  have hne : 0 < (T j).length → bs j ≠ M := fun hl e => by
    obtain ⟨cur, fz, hc⟩ := (h j hj).2 hl
    unfold TrBlk at hM
    rw [e, hM] at hc
    simp at hc
  refine ⟨(h j hj).1.of_block fun hl => setRow_other _ _ _ _ (hne hl), fun hl => ?_⟩
  obtain ⟨cur, fz, hc⟩ := (h j hj).2 hl
  exact ⟨cur, fz, by rw [setRow_other _ _ _ _ (hne hl)]; exact hc⟩
theorem LvsTo.snoc {k b : Nat} {w : World} {bs : Nat → Nat} {v : Nat → Value} {T : Nat → List It} {x : Value} (h : LvsTo k w bs v T) (h1 : LfAt w b x (T k)) (h2 : 0 < (T k).length → ∃ cur fz, w.heap[b]? = some (.cells cur 152 fz)) : LvsTo (k + 1) w (upd bs k b) (upd v k x) T := fun j hj => by
  unfold upd
  by_cases e : j = k
  · rw [if_pos e, if_pos e, e]; exact ⟨h1, h2⟩
  · rw [if_neg e, if_neg e]; exact h j (by omega)
theorem LvsTo.all {w : World} {bs : Nat → Nat} {v : Nat → Value} {T : Nat → List It} (h : LvsTo 16 w bs v T) : LvsAt w bs v T ∧ LvTy w bs T := ⟨fun k hk => (h k hk).1, fun k hk hl => (h k hk).2 hl⟩
theorem LvsAt.one {w : World} {bs : Nat → Nat} {v : Nat → Value} {T : Nat → List It} (h : LvsAt w bs v T) : ∀ k, k < 16 → (v k).oneCell' = true := fun k hk => by
  obtain ⟨_, p, cap, e, _⟩ := h k hk
  rw [e]; rfl
theorem own_sl {w : World} {base n size : Nat} {v : Value} {e : TypeId} {xs : List Value} (h : w.ownsRow base e size v n xs) : ∃ p c, v = .slice p n c := by
  rcases Go.Joins.ownsRow_forms h with ⟨rfl, h0⟩ | ⟨g1, c, rfl⟩
  · exact ⟨none, 0, by rw [h0]⟩
  · exact ⟨_, _, rfl⟩
/-- what a contract says of a trunk that it hands back -/
def TrunkPost (w w' : World) (e : Ending) (T : Nat → List It) (V : Nat → Int) : Prop :=
  ∃ bs v, e = .returned (.agg (trC v V)) ∧ LvsAt w' bs v T ∧ LvTy w' bs T ∧ Ext w w'
set_option maxHeartbeats 4000000 in
theorem few_any (bs : Nat → Nat) (v : Nat → Value) (T : Nat → List It) (V : Nat → Int) (w : World) (h : ∀ k, k < 16 → LfIn w (bs k) (v k) (T k)) :
    Calls Tryz.prog 8 #[.agg (trC v V)] w fun e w' => TrunkPost w w' e (fun k => fewF (T k)) V := by
  have HL := Lib.hid h
  clear h
  unfold trC
  go_enter Tryz.func8, Tryz.ntmps8
  go_wp2_with fail
  obtain ⟨N, hN⟩ : ∃ N, w.heap.size = N := ⟨_, rfl⟩
  have HN := Lib.hid hN
  go_loopw [3] (fun ii wr => ∃ (k : Nat) (bs' : Nat → Nat) (v' : Nat → Value), ii = .int .i64 (k : Int) ∧ k ≤ 16 ∧ Hid (TrBlk wr N v' V ∧ TrBlk wr (N + 1) nilV zeroV ∧ LvsTo k wr bs' v' (fun k => fewF (T k)) ∧ (∀ j, k ≤ j → v' j = v j) ∧ Ext w wr)) (fun ii _ => 16 - (intOf ii).toNat)
  case atStart =>
    refine ⟨0, bs, v, rfl, Nat.zero_le _, Lib.hid ⟨?_, ?_, fun j hj => absurd hj (Nat.not_lt_zero j), fun j _ => rfl, ((Ext.refl _).alloc _).alloc _⟩⟩
    · unfold TrBlk
      rw [← hN]
      exact (heap_alloc_old _ _ (by simp)).trans (heap_alloc_new w _)
    · unfold TrBlk
      rw [← hN]
      have := heap_alloc_new (w.alloc (.cells (trC v V) 29)) (.cells (trC nilV zeroV) 29)
      rw [World.size_alloc] at this
      exact this
  case round =>
    obtain ⟨k, bs', v', rfl, hk16, hH⟩ := hrel
    have HEX := Lib.hid hH.out.2.2.2.2
    rw [hN]
    have hNw : N < wr.heap.size := lt_of_heap hH.out.1
    by_cases hk : k < 16
    · have IC := Lib.hid fun (W : World) (hx : Ext w W) => items_any (bs k) (v k) (T k) W ((HL.out k hk).ext hx)
      have hcl := hH.out.1.leaf k hk
      rw [hH.out.2.2.2.1 k (Nat.le_refl _)] at hcl
      have hfz := hH.out.1.frozen k
      have hkI : (k : Int) < 16 := by omega
      have hk0 : (0 : Int) ≤ (k : Int) := by omega
      clear hN
      go_wp2_with (go_at_call 49; refine (IC.out _ HEX.out).mono ?_; rintro e w1 ⟨lv, rfl, hown, hx⟩; obtain ⟨p1, c1, rfl⟩ := own_sl hown; have HO := Lib.hid (own_lf hown rfl (fewF_ok (HL.out k hk).1)); have HX := Lib.hid hx; obtain ⟨d1, os1, rfl⟩ := hx; clear hown)
      go_roundw
      case rel =>
        obtain ⟨b1, h1, h2, _⟩ := HO.out
        have hb1 := hH.out.1.ext HX.out
        refine ⟨k + 1, upd bs' k b1, upd v' k (.slice p1 (fewF (T k)).length c1), by go_num, by omega, Lib.hid ⟨?_, ?_, ?_, ?_, ?_⟩⟩
        · exact (more_setCell _ _ _ _ _ _ hNw) ▸ hb1.setLeaf k hk _
        · exact (more_setCell _ _ _ _ _ _ hNw) ▸ (hH.out.2.1.ext HX.out).other (by omega) _
        · exact (more_setCell _ _ _ _ _ _ hNw) ▸ (((hH.out.2.2.1.ext HX.out).snoc (T := fun k => fewF (T k)) h1 h2).other hb1 _)
        · intro j hj
          unfold upd
          rw [if_neg (by omega)]
          exact hH.out.2.2.2.1 j (by omega)
        · exact (more_setCell _ _ _ _ _ _ hNw) ▸ (HEX.out.trans HX.out).setCell (by rw [HN.out]; exact Nat.le_refl _) _
      case measure => simp [intOf]; omega
    · have hkn : k = 16 := by omega
      subst hkn
      have HLA := Lib.hid hH.out.2.2.1.all
      have hb2 : N + 1 < wr.heap.size := lt_of_heap hH.out.2.1
      clear hN
      go_wp2_with (first
        | (refine wpList_load_row rfl 29 _ rfl N rfl 29 (trC v' V) (0, 0) _ hH.out.1 Tryz.underlying29 rfl (by kernel_rfl) ?_)
        | (refine wpList_store_rowTo rfl 29 _ _ rfl rfl (N + 1) (trC v' V) rfl rfl 29 (trC nilV zeroV) hH.out.2.1 (by kernel_rfl) rfl (trC_one v' V HLA.out.1.one) ?_))
      refine bodyPost_ret (v := .agg (trC v' V)) (results_cell rfl _ _ ⟨N + 1, 0, none⟩ _ rfl (tr_load (hH.out.2.1.setRow v' V))) rfl ⟨bs', v', rfl, ?_, ?_, HEX.out.setRow (by rw [HN.out]; omega) _⟩
      · exact (hH.out.2.2.1.otherRow hH.out.2.1 _).all.1
      · exact (hH.out.2.2.1.otherRow hH.out.2.1 _).all.2
end Go.Proofs.YtpchohjkelopoaaGreatDoor
