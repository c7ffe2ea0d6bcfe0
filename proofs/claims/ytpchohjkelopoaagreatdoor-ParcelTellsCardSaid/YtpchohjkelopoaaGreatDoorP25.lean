/- Lemmas for the claim (texts PT0, what its proof uses of them). -/
import Derived.Test.YtpchohjkelopoaaGreatDoorP24
set_option linter.unusedSimpArgs false
set_option linter.unusedVariables false
set_option maxRecDepth 20000
namespace Go.Proofs.YtpchohjkelopoaaGreatDoor
open Go.RowKit
attribute [go_sem] more_more Array.size_append
theorem strs_nil (w : World) : StrsAt w (.slice none 0 0) [] := Or.inl ⟨none, 0, rfl, rfl⟩
theorem own_strsAt {w : World} {base : Nat} {v : Value} {l : List ByteArray} (h : w.ownsRow base 9 1 v l.length (l.map Value.string)) : StrsAt w v l := by
  obtain ⟨p, cap, rfl, hc, hh⟩ := own_texts h
  rcases Nat.eq_zero_or_pos l.length with h0 | h0
  · obtain rfl := List.length_eq_zero_iff.1 h0
    exact Or.inl ⟨p, cap, rfl, rfl⟩
  · obtain ⟨s, hs⟩ : ∃ s, l[0]? = some s := ⟨_, List.getElem?_eq_getElem h0⟩
    obtain ⟨b, off, rfl, _⟩ := hh 0 s hs
    refine Or.inr ⟨b, off, cap, rfl, hc, fun j u hj => ?_⟩
    obtain ⟨b', off', e, c1⟩ := hh j u hj
    simp only [Option.some.injEq, Addr.mk.injEq, and_true] at e
    obtain ⟨rfl, rfl⟩ := e
    exact c1
/-- texts that lie apart from a table and from the document's list -/
def RS (bt bm : Nat) (tv lv cv : Value) : Prop := cv.ownBlock ≠ some bt ∧ cv.ownBlock ≠ some bm ∧ (cv.ownBlock = none ∨ cv.ownBlock ≠ tv.ownBlock) ∧ (cv.ownBlock = none ∨ cv.ownBlock ≠ lv.ownBlock)
theorem apart_new {w : World} {base n : Nat} {v tv tv' : Value} {xs : List Value} (h : w.ownsRow base 9 1 v n xs) (h3 : v.ownBlock = none ∨ v.ownBlock ≠ tv.ownBlock) (k3 : tv'.ownBlock = tv.ownBlock ∨ ∃ k, tv'.ownBlock = some k ∧ w.heap.size ≤ k) : v.ownBlock = none ∨ v.ownBlock ≠ tv'.ownBlock := by
  cases hl : v.ownBlock with
  | none => exact Or.inl rfl
  | some g =>
    right
    rcases k3 with k3 | ⟨k, k3, k4⟩
    · rw [k3, ← hl]
      rcases h3 with h3 | h3
      · rw [hl] at h3; cases h3
      · exact h3
    · rw [k3]
      intro e
      have := own_block_lt h hl
      simp at e
      omega
theorem mid_row {B bt bm : Nat} {tv tv' lv cv : Value} {l l' : List ByteArray} {w w' : World} {base n : Nat} {xs : List Value} (h : Both B bt bm tv lv l w) (hR : w.ownsRow base 9 1 cv n xs) (hs : RS bt bm tv lv cv) (ht : TabAt B bt bm tv' l' w') (hst : TabStep bt bm tv w tv' w') :
    Mid B bt bm tv' lv l l' w' ∧ RS bt bm tv' lv cv ∧ w'.ownsRow base 9 1 cv n xs ∧ Below B w w' ∧ Kept w w' := by
  obtain ⟨h0, ho, h1, h2, h3⟩ := h
  obtain ⟨s1, s2, s3, s4⟩ := hs
  exact ⟨⟨ht, own_tabkept ho hst.1 h1 h2 h3, h1, h2, apart_new ho h3 hst.2⟩, ⟨s1, s2, apart_new hR s3 hst.2, s4⟩, own_tabkept (own_mono hR (Nat.zero_le _)) hst.1 s1 s2 s3 |> fun q => own_block hR (fun k hk => by
    obtain ⟨k1, k2, k3, k4, k5⟩ := hst.1
    exact k5 k (own_block_lt hR hk) (fun e => s1 (by rw [hk, e])) (fun e => s2 (by rw [hk, e])) (fun e => by
      rcases s3 with s3 | s3
      · rw [hk] at s3; cases s3
      · exact s3 (by rw [hk, e]))), hst.below h0, Kept.tab h0 hst.1⟩
theorem list_row {B bt bm : Nat} {tv lv lv' cv : Value} {l l' : List ByteArray} {w w' : World} {base n : Nat} {xs : List Value} (h : Mid B bt bm tv lv l l' w) (hR : w.ownsRow base 9 1 cv n xs) (hs : RS bt bm tv lv cv) (ho : w'.ownsRow B 9 1 lv' l'.length (l'.map Value.string)) (hg : w.grownBy w' lv.ownBlock) (hk : lv'.ownBlock = lv.ownBlock ∨ ∃ k, lv'.ownBlock = some k ∧ w.heap.size ≤ k) :
    Both B bt bm tv lv' l' w' ∧ RS bt bm tv lv' cv ∧ w'.ownsRow base 9 1 cv n xs ∧ Below B w w' ∧ Kept w w' := by
  obtain ⟨q1, q2, q3⟩ := both_step h ho hg hk
  obtain ⟨s1, s2, s3, s4⟩ := hs
  exact ⟨q1, ⟨s1, s2, s3, apart_new hR s4 hk⟩, own_block hR (fun k hk2 => hg.block k (own_block_lt hR hk2) (fun e => by
    rcases s4 with s4 | s4
    · rw [hk2] at s4; cases s4
    · exact s4 (by rw [hk2, e]))), q2, q3⟩
/-- texts laid behind a table and a list lie apart from them -/
theorem rs_new {B bt bm : Nat} {tv lv cv : Value} {l l' : List ByteArray} {w w2 : World} {base n : Nat} {xs : List Value} (h : Mid B bt bm tv lv l l' w) (hr : w2.ownsRow base 9 1 cv n xs) (hb : w.heap.size ≤ base) : RS bt bm tv lv cv := by
  obtain ⟨r1, r2, r3⟩ := row_sep h.1 hr hb
  refine ⟨r1, r2, r3, ?_⟩
  cases hv : cv.ownBlock with
  | none => exact Or.inl rfl
  | some k =>
    refine Or.inr fun e => ?_
    have q1 := (hr.lt _ hv).1
    have q2 := own_block_lt h.2.1 e.symm
    omega
/-- what Cut says of a store that may be: the bucket, the version, the chunks, the error -/
def cutR (T : Nat → List It) (V : Nat → Int) (bk : Int) : Int × Int × List ByteArray × Int := if bk < 0 ∨ 15 < bk then (0, 0, [], 4) else (bk, V bk.toNat, bas (chunksF (T bk.toNat)), 0)
theorem cut15_any (bs : Nat → Nat) (v : Nat → Value) (T : Nat → List It) (V : Nat → Int) (a b c bk : Int) (SB : Nat) (w : World) (hS : SignsAt SB w) (hSB : SB ≤ w.heap.size) (h : LvsAt w bs v T) (hyes : storeB T V a b c = true) (r : Int × Int × List ByteArray × Int) (hr : cutR T V bk = r) :
    Calls Tryz.prog 26 #[.agg (stC v V a b c), .int .i64 bk] w fun e w' => ∃ p cap, e = .returned (.tuple #[.agg #[.int .i64 r.1, .int .i64 r.2.1, .slice p r.2.2.1.length cap], .int .i64 r.2.2.2]) ∧ w'.ownsRow w.heap.size 9 1 (.slice p r.2.2.1.length cap) r.2.2.1.length (r.2.2.1.map Value.string) ∧ Ext w w' := by
  subst hr
  unfold cutR
  by_cases hb : bk < 0 ∨ 15 < bk
  · rw [if_pos hb]
    exact (cut15_no2 bs v T V a b c bk SB w hS hSB h hyes hb).mono fun e w' ⟨h1, h2⟩ => ⟨none, 0, h1, World.ownsRow_nil _ _ _ _, h2⟩
  · rw [if_neg hb]
    obtain ⟨k, rfl⟩ : ∃ k : Nat, bk = (k : Int) := ⟨bk.toNat, by omega⟩
    rw [Int.toNat_natCast]
    exact (cut15_ok bs v T V a b c k (by omega) SB w hS hSB h hyes).mono fun e w' ⟨cv, h1, h2, h3⟩ => by
      obtain ⟨p, cap, rfl⟩ := own_sl h2
      exact ⟨p, cap, h1, h2, h3⟩
theorem rs_nil (bt bm : Nat) (tv lv : Value) : RS bt bm tv lv (.slice none 0 0) := ⟨by simp [Value.ownBlock], by simp [Value.ownBlock], Or.inl rfl, Or.inl rfl⟩
theorem mid_le {B bt bm : Nat} {tv lv : Value} {l l' : List ByteArray} {w : World} (h : Mid B bt bm tv lv l l' w) : B ≤ w.heap.size := by
  have h1 := h.1.cells
  obtain ⟨⟨a1, _⟩, _⟩ := h
  omega
theorem pnum_r (B bt bm : Nat) (tv : Value) (l : List ByteArray) (a b c : Int) (L : Nat → Int) (PB : Nat) (w : World) (hT : TabAt B bt bm tv l w) (hP : Pow10 PB w) (hPB : PB ≤ w.heap.size) (h64 : In64L (mfL a b c L)) (r : List ByteArray × Nat × Int) (hr : ofF l ⟨(digF (mfL a b c L)).toArray⟩ = r) :
    Calls Tryz.prog 29 #[.pointer (some ⟨bt, 0, none⟩), .agg (mfC a b c L)] w (OfPost B bt bm tv r w) := by
  subst hr; exact pnum_any B bt bm tv l a b c L PB w hT hP hPB h64
theorem rnum_r (B : Nat) (lv : Value) (l : List ByteArray) (a b c : Int) (L : Nat → Int) (w : World) (hll : l.length ≤ 1000) (hown : w.ownsRow B 9 1 lv l.length (l.map Value.string)) (hBw : B ≤ w.heap.size) (h64 : In64L (mfL a b c L)) (r : List ByteArray × Nat × Int) (hr : ofF l ⟨(digF (mfL a b c L)).toArray⟩ = r) :
    Calls Tryz.prog 30 #[lv, .agg (mfC a b c L)] w (ROfPost B lv r w) := by
  subst hr; exact rnum15_any B lv l a b c L w hll hown hBw h64
def PcFact (k ver : Int) (cs : List ByteArray) : Fact := fun v W => ∃ p cap, v = .agg #[.int .i64 k, .int .i64 ver, .slice p cs.length cap] ∧ StrsAt W (.slice p cs.length cap) cs
theorem PcFact.upc (k ver : Int) (cs : List ByteArray) : Upc (PcFact k ver cs) := fun v W W' hx ⟨p, c, h1, h2⟩ => ⟨p, c, h1, h2.ext hx⟩
theorem lnum_le {l : List ByteArray} {n : Nat} {items : List It} {ver : Int} (h : LfNum l n items ver) : n ≤ l.length := by
  rw [← h.2.1]; exact idxF_le _ _
theorem store_trunk {T : Nat → List It} {V : Nat → Int} {a b c : Int} (h : storeB T V a b c = true) : trunkB T V = true := by
  rw [storeB_eq] at h
  simp only [Bool.and_eq_true] at h
  exact h.1.1.1.1.1.1
end Go.Proofs.YtpchohjkelopoaaGreatDoor
