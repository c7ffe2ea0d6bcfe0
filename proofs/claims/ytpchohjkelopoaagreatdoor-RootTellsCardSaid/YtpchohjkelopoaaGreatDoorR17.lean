/- Lemmas for the claim (texts Tb1, Bk2, Bk3, what its proof uses of them). -/
import Derived.Test.YtpchohjkelopoaaGreatDoorR16
set_option linter.unusedSimpArgs false
set_option linter.unusedVariables false
set_option maxRecDepth 20000
namespace Go.Proofs.YtpchohjkelopoaaGreatDoor
open Go.RowKit
attribute [go_sem] more_more Array.size_append
theorem own_tabkept {B bt bm : Nat} {row : Option Nat} {w w' : World} {v : Value} {n : Nat} {xs : List Value} (h : w.ownsRow B 9 1 v n xs) (hk : TabKept bt bm row w w') (h1 : v.ownBlock ≠ some bt) (h2 : v.ownBlock ≠ some bm) (h3 : v.ownBlock = none ∨ v.ownBlock ≠ row) : w'.ownsRow B 9 1 v n xs := by
  obtain ⟨k1, k2, k3, k4, k5⟩ := hk
  obtain ⟨hl, h5⟩ := h
  refine ⟨hl, ?_⟩
  rcases h5 with h0 | ⟨g, cap, cur, hv, hb, hh, r⟩
  · exact Or.inl h0
  · refine Or.inr ⟨g, cap, cur, hv, hb, ?_, r⟩
    have hg : v.ownBlock = some g := by rw [hv]; rfl
    rw [k5 g (Array.getElem?_eq_some_iff.1 hh).1 (fun e => h1 (by rw [hg, e])) (fun e => h2 (by rw [hg, e])) (fun e => by
      rcases h3 with h3 | h3
      · rw [hg] at h3; cases h3
      · exact h3 (by rw [hg, e]))]
    exact hh
/-- the document's list lies apart from the table -/
def Sep (bt bm : Nat) (tv lv : Value) : Prop := lv.ownBlock ≠ some bt ∧ lv.ownBlock ≠ some bm ∧ (lv.ownBlock = none ∨ lv.ownBlock ≠ tv.ownBlock)
/-- a table, and the document's list, of the call's own -/
def Both (B bt bm : Nat) (tv lv : Value) (l : List ByteArray) (w : World) : Prop :=
  TabAt B bt bm tv l w ∧ w.ownsRow B 9 1 lv l.length (l.map Value.string) ∧ Sep bt bm tv lv
theorem Both.ext {B bt bm : Nat} {tv lv : Value} {l : List ByteArray} {w w' : World} (h : Both B bt bm tv lv l w) (hx : Ext w w') : Both B bt bm tv lv l w' := ⟨h.1.ext hx, own_ext h.2.1 hx, h.2.2⟩
theorem own_block_lt {w : World} {B : Nat} {v : Value} {n : Nat} {xs : List Value} {e : TypeId} {k g : Nat} (h : w.ownsRow B e k v n xs) (hg : v.ownBlock = some g) : g < w.heap.size := (h.lt g hg).2
/-- the state while one asks both for one text: behind the program's Of, ahead of the document's -/
def Mid (B bt bm : Nat) (tv lv : Value) (l l' : List ByteArray) (w : World) : Prop :=
  TabAt B bt bm tv l' w ∧ w.ownsRow B 9 1 lv l.length (l.map Value.string) ∧ Sep bt bm tv lv
theorem Mid.ext {B bt bm : Nat} {tv lv : Value} {l l' : List ByteArray} {w w' : World} (h : Mid B bt bm tv lv l l' w) (hx : Ext w w') : Mid B bt bm tv lv l l' w' := ⟨h.1.ext hx, own_ext h.2.1 hx, h.2.2⟩
theorem mid_of {B bt bm : Nat} {tv lv : Value} {l : List ByteArray} {r : List ByteArray × Nat × Int} {w w' : World} {e : Ending} (h : Both B bt bm tv lv l w) (hp : OfPost B bt bm tv r w e w') :
    e = .returned (.tuple #[.int .i64 (r.2.1 : Int), .int .i64 r.2.2]) ∧ (∃ tv', Mid B bt bm tv' lv l r.1 w') ∧ Below B w w' := by
  obtain ⟨ht, ho, h1, h2, h3⟩ := h
  obtain ⟨he, tv', k1, k2, k3⟩ := hp
  have hc := ht.cells
  have ht' := ht
  obtain ⟨a1, a2, _, _, _, a6, _⟩ := ht'
  refine ⟨he, ⟨tv', k1, own_tabkept ho k2 h1 h2 h3, h1, h2, ?_⟩, k2.below a1 a2 (fun k hk => (a6.lt k hk).1) (by omega)⟩
  cases hl : lv.ownBlock with
  | none => exact Or.inl rfl
  | some g =>
    right
    rcases k3 with k3 | ⟨k, k3, k4⟩
    · rw [k3, ← hl]
      rcases h3 with h3 | h3
      · rw [hl] at h3; cases h3
      · exact h3
    · rw [k3]
      intro e
      have := own_block_lt ho hl
      simp at e
      omega
theorem both_of {B bt bm : Nat} {tv lv : Value} {l l' : List ByteArray} {n : Nat} {er : Int} {w w' : World} {e : Ending} (h : Mid B bt bm tv lv l l' w) (hp : ROfPost B lv (l', n, er) w e w') :
    (∃ lv', e = .returned (.tuple #[lv', .int .i64 (n : Int), .int .i64 er]) ∧ Both B bt bm tv lv' l' w') ∧ Below B w w' := by
  obtain ⟨ht, ho, h1, h2, h3⟩ := h
  obtain ⟨lv', he, k1, k2, k3⟩ := hp
  have hc := ht.cells
  have hT : TabAt B bt bm tv l' w' := tab_grown ht k2 (fun k hk => ⟨fun e => h1 (by rw [hk, e]), fun e => h2 (by rw [hk, e]), fun e => by
    rcases h3 with h3 | h3
    · rw [h3] at hk; cases hk
    · exact h3 (by rw [hk, e])⟩)
  have ht' := ht
  obtain ⟨a1, a2, _, _, _, a6, _⟩ := ht'
  refine ⟨⟨lv', he, hT, k1, ?_⟩, ?_⟩
  · rcases k3 with k3 | ⟨k, k3, k4⟩
    · exact ⟨by rw [k3]; exact h1, by rw [k3]; exact h2, by rw [k3]; exact h3⟩
    · refine ⟨by rw [k3]; intro e; simp at e; omega, by rw [k3]; intro e; simp at e; omega, Or.inr ?_⟩
      rw [k3]
      intro e
      have := (a6.lt k e.symm).2
      omega
  · obtain ⟨g1, g2, g3, g4, g5⟩ := k2
    refine ⟨g1, g2, g3, g4, fun k hk => g5 k (by omega) (fun e => ?_)⟩
    have := (ho.lt k e.symm).1
    omega
/-- texts that came in -/
def StrsAt (w : World) (v : Value) (l : List ByteArray) : Prop :=
  (∃ p cap, v = .slice p 0 cap ∧ l = []) ∨ ∃ b off cap, v = .slice (some ⟨b, off, none⟩) l.length cap ∧ l.length ≤ cap ∧ ∀ j u, l[j]? = some u → w.cell? ⟨b, off + j, none⟩ = some (.string u)
/-- the table of texts -/
def tabG (l : List ByteArray) (ts : List ByteArray) : List ByteArray := ts.foldl (fun l s => (ofF l (cutS 600 s)).1) l
def tabF (M : Nat) (ts : List ByteArray) : List ByteArray := tabG [] (ts.take M)
theorem tabG_snoc (l ts : List ByteArray) (s : ByteArray) : tabG l (ts ++ [s]) = (ofF (tabG l ts) (cutS 600 s)).1 := by unfold tabG; rw [List.foldl_append]; rfl
theorem ofF_mem {l : List ByteArray} {s x : ByteArray} (h : x ∈ (ofF l s).1) : x ∈ l ∨ x = s := by
  unfold ofF at h
  (repeat' split at h) <;> first | exact Or.inl h | (simp only [List.mem_append, List.mem_singleton] at h; exact h)
theorem tabG_len : ∀ (ts l : List ByteArray), (tabG l ts).length ≤ l.length + ts.length
  | [], l => by simp [tabG]
  | s :: ts, l => by
    have h1 := ofF_len l (cutS 600 s)
    have h2 := tabG_len ts (ofF l (cutS 600 s)).1
    have e : tabG l (s :: ts) = tabG (ofF l (cutS 600 s)).1 ts := rfl
    rw [e]
    simp only [List.length_cons]
    omega
theorem tabG_sz : ∀ (ts l : List ByteArray), (∀ x ∈ l, x.size ≤ 600) → ∀ x ∈ tabG l ts, x.size ≤ 600
  | [], l, h => by simpa [tabG] using h
  | s :: ts, l, h => by
    have e : tabG l (s :: ts) = tabG (ofF l (cutS 600 s)).1 ts := rfl
    rw [e]
    refine tabG_sz ts _ fun x hx => ?_
    rcases ofF_mem hx with h1 | rfl
    · exact h x h1
    · exact cutS_le 600 s
theorem tabF_len (M : Nat) (ts : List ByteArray) : (tabF M ts).length ≤ M := by
  have := tabG_len (ts.take M) []
  unfold tabF
  simp at this ⊢
  omega
theorem tabF_sz (M : Nat) (ts : List ByteArray) : ∀ x ∈ tabF M ts, x.size ≤ 600 := tabG_sz _ [] (by simp)
/-- what table hands back -/
def TablePost (M : Nat) (ts : List ByteArray) (w : World) (e : Ending) (w' : World) : Prop :=
  ∃ bt bm tv lv, e = .returned (.tuple #[.pointer (some ⟨bt, 0, none⟩), lv]) ∧ Both w.heap.size bt bm tv lv (tabF M ts) w' ∧ Below w.heap.size w w'
theorem cell_below {w w' : World} {B : Nat} {b o : Nat} {v : Value} (h : w.cell? ⟨b, o, none⟩ = some v) (hb : Below B w w') (hB : B = w.heap.size) : w'.cell? ⟨b, o, none⟩ = some v := by
  have h1 := World.block_lt_of_cell? _ _ h
  rw [hb.cell (p := ⟨b, o, none⟩) (by rw [hB]; exact h1)]; exact h
set_option maxHeartbeats 1000000 in
theorem table12_any (v : Value) (ts : List ByteArray) (w : World) (h : StrsAt w v ts) (hs : ∀ s ∈ ts, s.size ≤ 140737488351232) :
    Calls Tryz.prog 33 #[v] w (TablePost 60 ts w) := by
  have NC := Lib.hid (new_any w)
  obtain ⟨n, hn⟩ : ∃ n, ts.length = n := ⟨_, rfl⟩
  have hform : ∃ p cap, v = .slice p n cap ∧ Hid (∀ j u, ts[j]? = some u → ∃ b off, p = some ⟨b, off, none⟩ ∧ w.cell? ⟨b, off + j, none⟩ = some (.string u)) := by
    rcases h with ⟨p, cap, rfl, rfl⟩ | ⟨b, off, cap, rfl, h1, h2⟩
    · simp at hn; subst hn; exact ⟨p, cap, rfl, fun j u hj => by simp at hj⟩
    · exact ⟨_, cap, by rw [hn], fun j u hj => ⟨b, off, rfl, h2 j u hj⟩⟩
  obtain ⟨p, cap, rfl, HC⟩ := hform
  have HN := Lib.hid hn
  have HS := Lib.hid hs
  clear hn hs h
  go_enter Tryz.func33, Tryz.ntmps33
  go_wp2_with (go_at_call 24; refine NC.out.mono ?_; rintro e w1 ⟨rfl, hT, hx⟩; have HT := Lib.hid hT; have HX := Lib.hid hx; clear hT hx)
  go_loopw [5, 6] (fun lv ii wr => ∃ (k : Nat) (tv : Value) (tl : List ByteArray), ii = .int .i64 (k : Int) ∧ k ≤ 60 ∧ k ≤ n ∧ Hid (tl = tabG [] (ts.take k) ∧ tl.length ≤ k ∧ Both w.heap.size (w.heap.size + 1) w.heap.size tv lv tl wr ∧ Below w.heap.size w wr)) (fun _ ii _ => 60 - (intOf ii).toNat)
  case atStart => exact ⟨0, .slice none 0 0, [], rfl, Nat.zero_le _, Nat.zero_le _, Lib.hid ⟨rfl, by simp, ⟨HT.out, World.ownsRow_nil _ _ _ _, by simp [Value.ownBlock], by simp [Value.ownBlock], Or.inl (by simp [Value.ownBlock])⟩, HX.out.below⟩⟩
  case round =>
    obtain ⟨k, tv, tl, rfl, hk60, hkn, hH⟩ := hrel
    obtain ⟨lv, hlv⟩ : ∃ x, x = u5 := ⟨_, rfl⟩
    subst hlv
    have hkI60 : (k : Int) ≤ 60 := by omega
    by_cases hlt : k < n
    · have hltI : (k : Int) < n := by omega
      by_cases h60 : k < 60
      · have hlt60 : (k : Int) < 60 := by omega
        have hk0 : (0 : Int) ≤ (k : Int) := by omega
        obtain ⟨s, hsx⟩ : ∃ s, ts[k]? = some s := ⟨_, List.getElem?_eq_getElem (by have := HN.out; omega)⟩
        obtain ⟨b, off, rfl, c0⟩ := HC.out k s hsx
        have c1 := cell_below c0 hH.out.2.2.2 rfl
        have hb1 := World.block_lt_of_cell? _ _ c1
        have hss := HS.out s (List.mem_of_getElem? hsx)
        have hsn : tabG [] (ts.take (k + 1)) = (ofF tl (cutS 600 s)).1 := by
          rw [List.take_add_one, hsx, show (some s).toList = [s] from rfl, tabG_snoc, ← hH.out.1]
        have HSN := Lib.hid hsn
        have HLEN := Lib.hid (ofF_len tl (cutS 600 s))
        obtain ⟨sc, hsc⟩ : ∃ sc, cutS 600 s = sc := ⟨_, rfl⟩
        have hscm : sc.size ≤ maxLen := by rw [← hsc]; have := cutS_le 600 s; unfold maxLen; omega
        obtain ⟨ro, hro⟩ : ∃ ro, ofF tl sc = ro := ⟨_, rfl⟩
        rw [hsc, hro] at HSN HLEN
        have OC := Lib.hid ((of_any _ _ _ tv tl sc hscm wr hH.out.2.2.1.1).mono fun e w' hp => mid_of hH.out.2.2.1 hp)
        have RC := Lib.hid fun (W : World) (tv' : Value) (hM : Mid w.heap.size (w.heap.size + 1) w.heap.size tv' lv tl ro.1 W) (hb : Below w.heap.size wr W) => (rof_any w.heap.size lv tl sc W (by have := hH.out.2.1; omega) hM.2.1 (Nat.le_trans hH.out.2.2.2.size hb.size)).mono fun e w' hp => both_of (l' := ro.1) (n := ro.2.1) (er := ro.2.2) hM (by rw [hro] at hp; exact hp)
        rw [hro] at OC
        have hal : ∀ (P : Prop) (h1 : P), P := fun _ h => h
        clear hsx hsn hro c0 hal
        by_cases hbig : 600 < s.size
        · have hI : (600 : Int) < s.size := by omega
          have hI2 : (600 : Int) ≤ s.size := by omega
          have hcut : s.extract 0 600 = sc := by rw [← hsc]; unfold cutS; rw [if_pos hbig]
          clear hsc
          go_wp2_with (first
            | (go_at_call 50; refine OC.out.mono ?_; rintro e w2 ⟨rfl, ⟨tv', hM⟩, hb2⟩; have HM := Lib.hid hM; have HB2 := Lib.hid hb2; clear hM hb2)
            | (go_at_call 51; refine (RC.out _ _ HM.out HB2.out).mono ?_; rintro e w3 ⟨⟨lv', rfl, hB⟩, hb3⟩; have HB := Lib.hid hB; have HB3 := Lib.hid hb3; clear hB hb3))
          go_roundw
          case rel => exact ⟨k + 1, _, ro.1, by go_num, by omega, by omega, Lib.hid ⟨HSN.out.symm, by have := hH.out.2.1; have := HLEN.out; omega, HB.out, (hH.out.2.2.2.trans HB2.out).trans HB3.out⟩⟩
          case measure => simp [intOf]; omega
        · have hI : ¬ ((600 : Int) < s.size) := by omega
          obtain rfl : s = sc := by rw [← hsc]; unfold cutS; rw [if_neg hbig]
          clear hsc
          go_wp2_with (first
            | (go_at_call 50; refine OC.out.mono ?_; rintro e w2 ⟨rfl, ⟨tv', hM⟩, hb2⟩; have HM := Lib.hid hM; have HB2 := Lib.hid hb2; clear hM hb2)
            | (go_at_call 51; refine (RC.out _ _ HM.out HB2.out).mono ?_; rintro e w3 ⟨⟨lv', rfl, hB⟩, hb3⟩; have HB := Lib.hid hB; have HB3 := Lib.hid hb3; clear hB hb3))
          go_roundw
          case rel => exact ⟨k + 1, _, ro.1, by go_num, by omega, by omega, Lib.hid ⟨HSN.out.symm, by have := hH.out.2.1; have := HLEN.out; omega, HB.out, (hH.out.2.2.2.trans HB2.out).trans HB3.out⟩⟩
          case measure => simp [intOf]; omega
      · have hk : k = 60 := by omega
        subst hk
        go_wp2_with fail
        go_ret2
        exact ⟨_, _, _, _, rfl, by have := hH.out.2.2.1; rw [hH.out.1] at this; exact this, hH.out.2.2.2⟩
    · have hk : k = n := by omega
      have hnl : ¬ ((k : Int) < (n : Int)) := by omega
      have hte : tl = tabF 60 ts := by
        rw [hH.out.1]
        unfold tabF
        rw [List.take_of_length_le (by have := HN.out; omega), List.take_of_length_le (by have := HN.out; omega)]
      subst hte
      clear hk
      go_wp2_with fail
      go_ret2
      exact ⟨_, _, _, _, rfl, hH.out.2.2.1, hH.out.2.2.2⟩
end Go.Proofs.YtpchohjkelopoaaGreatDoor

set_option maxRecDepth 20000
namespace Go.Proofs.YtpchohjkelopoaaGreatDoor
open Go.RowKit
attribute [go_sem] more_more Array.size_append
/-- what Back hands back -/
def BackPost (w w' : World) (e : Ending) (r : (Nat → List It) × (Nat → Int) × Int) : Prop :=
  ∃ bs v, e = .returned (.tuple #[.agg (trC v r.2.1), .int .i64 r.2.2]) ∧ LvsAt w' bs v r.1 ∧ LvTy w' bs r.1 ∧ Ext w w'
theorem BackPost.none {w w' : World} {er : Int} (hx : Ext w w') : BackPost w w' (.returned (.tuple #[.agg (trC nilV zeroV), .int .i64 er])) (tOf [], vOf [], er) :=
  ⟨fun _ => 0, nilV, by rw [vOf_nil], lvs_nil _ _, lvty_nil _ _, hx⟩
def backQ : Option (List (Int × List It)) × Int → (Nat → List It) × (Nat → Int) × Int
  | (none, e) => (tOf [], vOf [], e)
  | (some ps, _) => if trunkB (tOf ps) (vOf ps) = true then (tOf ps, vOf ps, 0) else (tOf [], vOf [], 1)
theorem backF_yes {l : List ByteArray} {n e : Int} {xs : List Int} (h : leavesF l n = (some xs, e)) : backF l n = backQ (bkF l xs) := by
  unfold backF; rw [h]; simp only
  cases bkF l xs with
  | mk a b => cases a <;> rfl
theorem backF_no {l : List ByteArray} {n e : Int} (h : leavesF l n = (none, e)) : backF l n = (tOf [], vOf [], e) := by unfold backF; rw [h]
theorem nil_one : ∀ k, k < 16 → (nilV k).oneCell' = true := fun _ _ => rfl
theorem bysInfo' : (Tryz.prog.info? 135).map (fun i => (i.zero, i.size, i.bytes)) = some (some (.slice none 0 0), 1, 24) := by kernel_rfl
theorem LvsAt.otherRow {w : World} {bs : Nat → Nat} {v : Nat → Value} {T : Nat → List It} (h : LvsAt w bs v T) (hy : LvTy w bs T) {M : Nat} {v2 : Nat → Value} {V2 : Nat → Int} (hM : TrBlk w M v2 V2) (x : Array Value) : LvsAt (w.setRow M x) bs v T ∧ LvTy (w.setRow M x) bs T := by
  have h1 : LvsTo 16 w bs v T := fun j hj => ⟨h j hj, hy j hj⟩
  exact (h1.otherRow hM x).all
set_option maxHeartbeats 1000000 in
theorem back_no (B bt bm : Nat) (tv : Value) (l : List ByteArray) (n : Int) (w : World) (h : TabAt B bt bm tv l w) (hsz : ∀ s ∈ l, s.size ≤ 100000) (EB PB : Nat) (hE : ErrsAt EB w) (hEB : EB ≤ w.heap.size) (hP : Pow10 PB w) (hPB : PB ≤ w.heap.size)
    (er : Int) (hl : leavesF l n = (none, er)) :
    Calls Tryz.prog 46 #[.pointer (some ⟨bt, 0, none⟩), .int .i64 n] w fun e w' => BackPost w w' e (tOf [], vOf [], er) := by
  have LC := Lib.hid fun (W : World) (hx : Ext w W) => leaves_any B bt bm tv l n W (h.ext hx) (fun s hs => Nat.le_trans (hsz s hs) (by decide)) EB PB (hE.below hx.below hEB) (Nat.le_trans hEB hx.size) (hP.below hx.below hPB) (Nat.le_trans hPB hx.size) _ hl
  have he := leavesF_err (l := l) (n := n)
  rw [hl] at he
  have hne : (er != 0) = true := by rw [bne_iff_ne]; omega
  clear h hsz hE hP hl he
  go_enter Tryz.func46, Tryz.ntmps46
  go_wp2_with (first
    | (go_at_call 42; refine (LC.out _ ((Ext.refl w).alloc _)).mono ?_; rintro e _ ⟨rfl, d1, os1, rfl⟩; have HRB : TrBlk (more (w.alloc (.cells (trC nilV zeroV) 29)) d1 os1) w.heap.size nilV zeroV := by unfold TrBlk; rw [more_heap _ _ _ _ (by simp)]; exact heap_alloc_new w _)
    | (refine wpList_buildTo rfl 29 #[] rfl _ rfl (trC nilV zeroV) (by kernel_rfl) ?_)
    | (refine wpList_store_rowTo rfl 29 _ _ rfl rfl w.heap.size (trC nilV zeroV) rfl rfl 29 (trC nilV zeroV) HRB (by kernel_rfl) rfl (trC_one _ _ nil_one) ?_))
  refine bodyPost_ret (v := .tuple #[.agg (trC nilV zeroV), .int .i64 er]) (results_cell_slot rfl _ _ ⟨w.heap.size, 0, none⟩ _ rfl (tr_load (HRB.setRow nilV zeroV)) _ rfl) rfl (BackPost.none ?_)
  exact (((Ext.refl w).alloc _).more _ _).setRow (Nat.le_refl _) _
set_option maxHeartbeats 2000000 in
theorem back_yes (B bt bm : Nat) (tv : Value) (l : List ByteArray) (n : Int) (w : World) (h : TabAt B bt bm tv l w) (hsz : ∀ s ∈ l, s.size ≤ 100000) (SB EB PB : Nat) (hS : SignsAt SB w) (hSB : SB ≤ w.heap.size) (hE : ErrsAt EB w) (hEB : EB ≤ w.heap.size) (hP : Pow10 PB w) (hPB : PB ≤ w.heap.size)
    (xs : List Int) (hl : leavesF l n = (some xs, 0)) (q : Option (List (Int × List It)) × Int) (hq : bkF l xs = q) (r : (Nat → List It) × (Nat → Int) × Int)
    (hr : r = backQ q) :
    Calls Tryz.prog 46 #[.pointer (some ⟨bt, 0, none⟩), .int .i64 n] w fun e w' => BackPost w w' e r := by
  obtain ⟨i1, hi1, hy0, hy1, hy2⟩ := info_parts bysInfo'
  have LC := Lib.hid fun (W : World) (hx : Ext w W) => leaves_any B bt bm tv l n W (h.ext hx) (fun s hs => Nat.le_trans (hsz s hs) (by decide)) EB PB (hE.below hx.below hEB) (Nat.le_trans hEB hx.size) (hP.below hx.below hPB) (Nat.le_trans hPB hx.size) _ hl
  have CC := Lib.hid fun (u : Int) (W : World) (hx : Ext w W) => rootchunks_any B bt bm tv l u W (h.ext hx) (fun s hs => Nat.le_trans (hsz s hs) (by decide)) EB PB (hE.below hx.below hEB) (Nat.le_trans hEB hx.size) (hP.below hx.below hPB) (Nat.le_trans hPB hx.size)
  have he := leavesF_err (l := l) (n := n)
  rw [hl] at he
  have H16 := Lib.hid he.2
  have HSZ := Lib.hid hsz
  have HS := Lib.hid hS
  have HQ := Lib.hid hq
  have HR := Lib.hid hr
  clear h hsz hE hP hl he hS hq hr
  go_enter Tryz.func46, Tryz.ntmps46
  go_wp2_with (go_at_call 42; refine (LC.out _ ((Ext.refl w).alloc _)).mono ?_; rintro e w1 ⟨v, rfl, hown, h64, hx⟩; rw [H16.out] at hown; obtain ⟨g, cap, rfl, hgl, hc16, hcm, HA⟩ := ints_row H16.out (by omega) hown; have HX := Lib.hid (((Ext.refl w).alloc _).trans hx); have HRB : Hid (TrBlk w1 w.heap.size nilV zeroV) := Lib.hid (by have h1 : TrBlk (w.alloc (.cells (trC nilV zeroV) 29)) w.heap.size nilV zeroV := heap_alloc_new w _; exact h1.ext hx); clear hown h64 hx)
  obtain ⟨R, hR⟩ : ∃ R, w.heap.size = R := ⟨_, rfl⟩
  obtain ⟨O, hO⟩ : ∃ O, w1.heap.size = O := ⟨_, rfl⟩
  have HR0 := Lib.hid hR
  have HO0 := Lib.hid hO
  rw [hR] at HRB
  go_loopw [31] (fun ii wr => ∃ (k : Nat) (ps : List (Int × List It)) (bs : Nat → Nat) (v : Nat → Value), ii = .int .i64 (k : Int) ∧ k ≤ 16 ∧ Hid (ps.length = k ∧ preB ps (bkF l (xs.drop k)) = q ∧ TrBlk wr R nilV zeroV ∧ TrBlk wr O v (vOf ps) ∧ LvsAt wr bs v (tOf ps) ∧ LvTy wr bs (tOf ps) ∧ (∀ (j : Nat) (u : Int), xs[j]? = some u → wr.cell? ⟨g, j, none⟩ = some (.int .i64 u)) ∧ g ≠ O ∧ R ≠ O ∧ Ext w wr)) (fun ii _ => 16 - (intOf ii).toNat)
  case atStart =>
    have hx0 := (Ext.refl w1).alloc (.cells (trC nilV zeroV) 29)
    refine ⟨0, [], fun _ => 0, nilV, rfl, Nat.zero_le _, Lib.hid ⟨rfl, by rw [List.drop_zero, preB_nil]; exact HQ.out, HRB.out.ext hx0, ?_, lvs_nil _ _, lvty_nil _ _, fun j u hj => cell_ext (HA.out j u hj) hx0, by omega, by have := lt_of_heap HRB.out; omega, HX.out.alloc _⟩⟩
    rw [vOf_nil, ← hO]
    exact heap_alloc_new w1 _
  case round =>
    obtain ⟨k, ps, bs, v, rfl, hk16, hH⟩ := hrel
    obtain ⟨W0, rfl⟩ : ∃ W0, W0 = wr := ⟨_, rfl⟩
    have HEX := Lib.hid hH.out.2.2.2.2.2.2.2.2.2
    have hRw : R < W0.heap.size := lt_of_heap hH.out.2.2.1
    have hOw : O < W0.heap.size := lt_of_heap hH.out.2.2.2.1
    rw [hR, hO]
    clear hR hO
    by_cases hk : k < 16
    · obtain ⟨u, hu⟩ : ∃ u, xs[k]? = some u := ⟨_, List.getElem?_eq_getElem (by have := H16.out; omega)⟩
      have cu := hH.out.2.2.2.2.2.2.1 k u hu
      have hgw := World.block_lt_of_cell? _ _ cu
      have hkI : (k : Int) < 16 := by omega
      have hk0 : (0 : Int) ≤ (k : Int) := by omega
      have hdr : xs.drop k = u :: xs.drop (k + 1) := by
        rw [List.drop_eq_getElem?_toList_append, hu]; rfl
      have HQK := Lib.hid hH.out.2.1
      rw [hdr] at HQK
      clear hdr hu
      have RC := Lib.hid (CC.out u W0 HEX.out)
      obtain ⟨rc, hrc⟩ : ∃ rc, rchunksF l u = rc := ⟨_, rfl⟩
      have hre := rchunksF_err (l := l) (n := u)
      rw [hrc] at RC hre
      have HRC := Lib.hid hrc
      clear hrc
      obtain ⟨rc1, er⟩ := rc
      cases rc1 with
      | none =>
        have hne : (er != 0) = true := by rw [bne_iff_ne]; dsimp only at hre; omega
        have hqq := HQK.out
        rw [preB_no (bkStep_no HRC.out)] at hqq
        have HRE := Lib.hid (show r = (tOf [], vOf [], er) by rw [HR.out, ← hqq]; rfl)
        clear hqq hre
        go_wp2_with (first
          | (go_at_call 44; refine RC.out.mono ?_; rintro e _ ⟨rfl, d1, os1, rfl⟩; have HB2 : TrBlk (more W0 d1 os1) R nilV zeroV := hH.out.2.2.1.ext ((Ext.refl _).more _ _))
          | (refine wpList_buildTo rfl 29 #[] rfl _ rfl (trC nilV zeroV) (by kernel_rfl) ?_)
          | (refine wpList_store_rowTo rfl 29 _ _ rfl rfl R (trC nilV zeroV) rfl rfl 29 (trC nilV zeroV) HB2 (by kernel_rfl) rfl (trC_one _ _ nil_one) ?_))
        rw [HRE.out]
        refine bodyPost_ret (v := .tuple #[.agg (trC nilV zeroV), .int .i64 er]) (results_cell_slot rfl _ _ ⟨R, 0, none⟩ _ rfl (tr_load (HB2.setRow nilV zeroV)) _ rfl) rfl (BackPost.none ?_)
        exact (HEX.out.more _ _).setRow (by rw [HR0.out]; exact Nat.le_refl _) _
      | some x =>
        obtain ⟨z, ts⟩ := x
        obtain rfl : er = 0 := hre
        obtain ⟨hlm, htsz, hz0, hz1⟩ := rchunksF_len HSZ.out HRC.out
        obtain ⟨m, hm⟩ : ∃ m, ts.length = m := ⟨_, rfl⟩
        have HM := Lib.hid hm
        have HTS := Lib.hid htsz
        have hm5 : m ≤ 100000 := by omega
        clear htsz hlm hm
        go_wp2_with (go_at_call 44; refine RC.out.mono ?_; rintro e w2 ⟨tvv, rfl, hown, hx⟩; have HX2 := Lib.hid hx; obtain ⟨p2, c2, rfl, hc2, hcell⟩ := own_texts hown; rw [HM.out] at hc2 ⊢; have HCL := Lib.hid hcell; clear hown hx hcell)
        go_loopw [14, 49] (fun cv ii wr => ∃ (i : Nat) (vs : List Value), ii = .int .i64 (i : Int) ∧ i ≤ m ∧ Hid (wr.ownsRow w2.heap.size 135 1 cv i vs ∧ Bys w2.heap.size wr vs ((ts.take i).map txt) ∧ Ext w2 wr)) (fun _ ii _ => m - (intOf ii).toNat)
        case atStart => exact ⟨0, [], rfl, Nat.zero_le _, Lib.hid ⟨World.ownsRow_nil _ _ _ _, Bys.nil _ _, Ext.refl _⟩⟩
        case round =>
          obtain ⟨i, vs, rfl, him, hI⟩ := hrel
          have HEX3 := Lib.hid hI.out.2.2
          by_cases hlt : i < m
          · obtain ⟨s, hs⟩ : ∃ s, ts[i]? = some s := ⟨_, List.getElem?_eq_getElem (by have := HM.out; omega)⟩
            obtain ⟨b3, o3, rfl, c3⟩ := HCL.out i s hs
            have c3' := cell_ext c3 HEX3.out
            have hb3 := World.block_lt_of_cell? _ _ c3'
            have hiI : (i : Int) < m := by omega
            have hi0 : (0 : Int) ≤ (i : Int) := by omega
            have hss := HTS.out s (List.mem_of_getElem? hs)
            have hcv := conv_bytes s
            have HSN := Lib.hid (show (ts.take (i + 1)).map txt = (ts.take i).map txt ++ [txt s] by rw [List.take_add_one, hs]; simp)
            obtain ⟨gc, hgc⟩ : ∃ gc, grownCap wr s.size 0 5 = gc := ⟨_, rfl⟩
            obtain ⟨ob, hob⟩ : ∃ ob, bytesObj wr s = ob := ⟨_, rfl⟩
            have hcv2 : (convert 9 135 (.string s)).run Tryz.prog wr = .ok (.slice (some ⟨wr.heap.size, 0, none⟩) s.size gc) (more wr (wr.drawn + 1) #[ob]) := by rw [hcv wr, hgc, hob]
            have HSL : Hid (SlB w2.heap.size (more wr (wr.drawn + 1) #[ob]) (.slice (some ⟨wr.heap.size, 0, none⟩) s.size gc) (txt s)) := Lib.hid (by rw [← hgc, ← hob]; exact SlB.conv wr s HEX3.out.size (grownCap_ge _ _ _ _))
            clear hs c3 hcv hgc hob
            go_wp2_with (at_builtin; refine Hid.out ?_)
            refine Lib.hid ?_
            have hw0 := own_more hI.out.1 (wr.drawn + 1) #[ob]
            refine wpList_append_own_at _ rfl _ _ 133 rfl w2.heap.size 135 i1 (.slice none 0 0) 1 24 Tryz.underlying133 hi1 hy0 hy1 hy2 rfl (by decide) _ i vs rfl (hw0.alloc _) ⟨wr.heap.size + 1, 0, none⟩ 1 1 [.slice (some ⟨wr.heap.size, 0, none⟩) s.size gc] rfl rfl ?c1 ?c2 ?c3 ?c4 ?c5 ?_
            case c1 => exact news_at (by simp [more_size])
            case c2 => first | rfl | (intro u hu; simp at hu; subst hu; rfl)
            case c3 => unfold maxLen; omega
            case c4 => omega
            case c5 => have h1 := HEX3.out.size; simp [more_size]; omega
            intro v4 w4 hown4 hgrow4 _ _
            have HX4 : Hid (Ext w2 w4) := Lib.hid (Ext.grown ((by repeat (first | exact HEX3.out | apply Ext.alloc | apply Ext.more | apply Ext.drewN)) : Ext w2 _) hgrow4 (fun k hk => (hw0.lt k hk).1))
            have HO4 := Lib.hid hown4
            have HB4 : Hid (Bys w2.heap.size w4 (vs ++ [.slice (some ⟨wr.heap.size, 0, none⟩) s.size gc]) ((ts.take (i + 1)).map txt)) := Lib.hid (by
              rw [HSN.out]
              exact Bys.grown (((hI.out.2.1.ext ((Ext.refl wr).more _ _)).snoc HSL.out).ext ((Ext.refl _).alloc _)) hgrow4 (hw0.alloc _) (by decide))
            clear hown4 hgrow4 hw0 hcv2
            go_wp2_with fail
            go_roundw
            case rel => exact ⟨i + 1, _, by go_num, by omega, Lib.hid ⟨HO4.out, HB4.out, HX4.out⟩⟩
            case measure => simp [intOf]; omega
          · have hin : i = m := by omega
            have hnl : ¬ ((i : Int) < (m : Int)) := by omega
            have htk : (ts.take i).map txt = ts.map txt := by rw [List.take_of_length_le (by have := HM.out; omega)]
            have hlen : i = (ts.map txt).length := by have := HM.out; simp; omega
            have hx3 := (HEX.out.trans HX2.out).trans HEX3.out
            have LC2 := Lib.hid (lof_any _ (ts.map txt) vs w2.heap.size SB wr (HS.out.ext hx3 hSB) (Nat.le_trans hSB hx3.size) (by rw [← hlen]; exact hI.out.1) (by rw [← htk]; exact hI.out.2.1) (by rw [← hlen]; omega) (by intro c hc; obtain ⟨s, hs, rfl⟩ := List.mem_map.1 hc; have := HTS.out s hs; unfold txt; rw [ba_len]; omega) _ rfl)
            obtain ⟨rl, hrl⟩ : ∃ rl, leafOfF (ts.map txt) = rl := ⟨_, rfl⟩
            rw [hrl] at LC2
            have HRL := Lib.hid hrl
            have HX3 := Lib.hid hx3
            clear htk hlen hx3 hrl hin
            obtain ⟨li, el, pl⟩ := rl
            by_cases hel : el = 0
            · subst hel
              have HLI : Hid (∀ w', LeafPost wr w' (.returned (.tuple #[.slice none 0 0, .int .i64 0, .int .i64 0])) (li, 0, pl) → True) := Lib.hid fun _ _ => trivial
              have hTB := hH.out.2.2.2.1.ext (HX2.out.trans HEX3.out)
              have HST := Lib.hid (bkStep_yes HRC.out (by rw [HRL.out]))
              rw [HRL.out] at HST
              have hqq := HQK.out
              rw [preB_yes HST.out] at hqq
              have HQQ := Lib.hid hqq
              clear hqq
              go_wp2_with (go_at_call 74; refine LC2.out.mono ?_; rintro e w4 ⟨lv, rfl, hok, _, hx4⟩; dsimp only at hok ⊢; obtain ⟨hown, hio⟩ := hok rfl; obtain ⟨pp, cc, rfl⟩ := own_sl hown; have HLF := Lib.hid (own_lf hown rfl hio); have HX4 := Lib.hid hx4; have hTB4 := hTB.ext hx4; have c40 := hTB4.leaf k hk; have c41 := hTB4.ver k hk; have f40 := hTB4.frozen k; have f41 := hTB4.frozen (16 + k); have hOw4 := lt_of_heap hTB4; have HTB4 := Lib.hid hTB4; clear hown hio hok hx4 hTB4)
              go_roundw
              case rel =>
                obtain ⟨b1, h1, h2, _⟩ := HLF.out
                have hx24 := (HX2.out.trans HEX3.out).trans HX4.out
                have hb5 := HTB4.out.setLeaf k hk (.slice pp li.length cc)
                have hb6 := hb5.setVer k hk z
                obtain ⟨e1, e2⟩ := (hH.out.2.2.2.2.1.ext hx24).upd (hH.out.2.2.2.2.2.1.ext hx24) (k := k) h1 h2
                obtain ⟨e3, e4⟩ := e1.other e2 (i := k) HTB4.out (.slice pp li.length cc)
                obtain ⟨e5, e6⟩ := e3.other e4 (i := 16 + k) hb5 (.int .i64 z)
                refine ⟨k + 1, ps ++ [(z, li)], upd bs k b1, upd v k (.slice pp li.length cc), by go_num, by omega, Lib.hid ⟨by simp [hH.out.1], HQQ.out, ?_, ?_, ?_, ?_, ?_, hH.out.2.2.2.2.2.2.2.1, hH.out.2.2.2.2.2.2.2.2.1, ?_⟩⟩
                · exact ((hH.out.2.2.1.ext hx24).other hH.out.2.2.2.2.2.2.2.2.1 _).other hH.out.2.2.2.2.2.2.2.2.1 _
                · rw [vOf_snoc hH.out.1]; exact hb6
                · rw [tOf_snoc hH.out.1]; exact e5
                · rw [tOf_snoc hH.out.1]; exact e6
                · intro j u' hj
                  have h1 := cell_ext (hH.out.2.2.2.2.2.2.1 j u' hj) hx24
                  have hne := hH.out.2.2.2.2.2.2.2.1
                  unfold World.cell? at h1 ⊢
                  rw [Go.Deep.blk_setCell_other _ _ _ _ hne, Go.Deep.blk_setCell_other _ _ _ _ hne]
                  exact h1
                · exact ((HEX.out.trans hx24).setCell (by have := HX.out.size; rw [HO0.out] at this; exact this) _).setCell (by have := HX.out.size; rw [HO0.out] at this; exact this) _
              case measure => simp [intOf]; omega
            · have hne : (el != 0) = true := by rw [bne_iff_ne]; exact hel
              have hqq := HQK.out
              rw [preB_no (bkStep_bad HRC.out (by rw [HRL.out]; exact hel))] at hqq
              have HRE := Lib.hid (show r = (tOf [], vOf [], 3) by rw [HR.out, ← hqq]; rfl)
              have HEL := Lib.hid hel
              clear hqq hel
              go_wp2_with (first
                | (go_at_call 74; refine LC2.out.mono ?_; rintro e w4 ⟨lv, rfl, _, hbad, hx4⟩; obtain rfl := hbad HEL.out; have HX4 := Lib.hid hx4; have HB2 := hH.out.2.2.1.ext ((HX2.out.trans HEX3.out).trans hx4); clear hx4 hbad)
                | (refine wpList_buildTo rfl 29 #[] rfl _ rfl (trC nilV zeroV) (by kernel_rfl) ?_)
                | (refine wpList_store_rowTo rfl 29 _ _ rfl rfl R (trC nilV zeroV) rfl rfl 29 (trC nilV zeroV) HB2 (by kernel_rfl) rfl (trC_one _ _ nil_one) ?_))
              rw [HRE.out]
              refine bodyPost_ret (v := .tuple #[.agg (trC nilV zeroV), .int .i64 3]) (results_cell_slot rfl _ _ ⟨R, 0, none⟩ _ rfl (tr_load (HB2.setRow nilV zeroV)) _ rfl) rfl (BackPost.none ?_)
              exact (HX3.out.trans HX4.out).setRow (by rw [HR0.out]; exact Nat.le_refl _) _
    · have hkn : k = 16 := by omega
      subst hkn
      have hqq := hH.out.2.1
      rw [List.drop_of_length_le (by rw [H16.out]; exact Nat.le_refl _)] at hqq
      have hr2 := HR.out
      rw [← hqq] at hr2
      simp only [bkF, preB, backQ, List.append_nil] at hr2
      have TM := Lib.hid fun (W : World) (hx : Ext W0 W) => tmay_any bs v (tOf ps) (vOf ps) SB W (HS.out.ext (HEX.out.trans hx) hSB) (Nat.le_trans hSB (HEX.out.trans hx).size) (hH.out.2.2.2.2.1.ext hx)
      have HBO := Lib.hid hH.out.2.2.2.1
      cases htb : trunkB (tOf ps) (vOf ps) with
      | true =>
        rw [htb] at TM hr2
        have HRE := Lib.hid (show r = (tOf ps, vOf ps, 0) by simpa using hr2)
        clear hr2 hqq htb
        go_wp2_with (first
          | (refine wpList_load_row rfl 29 _ rfl O rfl 29 (trC v (vOf ps)) (0, 0) _ HBO.out Tryz.underlying29 rfl (by kernel_rfl) ?_)
          | (go_at_call 52; refine (TM.out _ (Ext.refl _)).mono ?_; rintro e _ ⟨rfl, hx⟩; have HX9 := Lib.hid hx; have HB9 := HBO.out.ext hx; have HB2 := hH.out.2.2.1.ext hx; obtain ⟨d1, os1, rfl⟩ := hx)
          | (refine wpList_load_row rfl 29 _ rfl O rfl 29 (trC v (vOf ps)) (0, 0) _ HB9 Tryz.underlying29 rfl (by kernel_rfl) ?_)
          | (refine wpList_store_rowTo rfl 29 _ _ rfl rfl R (trC v (vOf ps)) rfl rfl 29 (trC nilV zeroV) HB2 (by kernel_rfl) rfl (trC_one _ _ hH.out.2.2.2.2.1.one) ?_))
        rw [HRE.out]
        refine bodyPost_ret (v := .tuple #[.agg (trC v (vOf ps)), .int .i64 0]) (results_cell_slot rfl _ _ ⟨R, 0, none⟩ _ rfl (tr_load (HB2.setRow v (vOf ps))) _ rfl) rfl ⟨bs, v, rfl, ?_, ?_, (HEX.out.more _ _).setRow (by rw [HR0.out]; exact Nat.le_refl _) _⟩
        · exact (LvsAt.otherRow (hH.out.2.2.2.2.1.ext HX9.out) (hH.out.2.2.2.2.2.1.ext HX9.out) HB2 _).1
        · exact (LvsAt.otherRow (hH.out.2.2.2.2.1.ext HX9.out) (hH.out.2.2.2.2.2.1.ext HX9.out) HB2 _).2
      | false =>
        rw [htb] at TM hr2
        have HRE := Lib.hid (show r = (tOf [], vOf [], 1) by simpa using hr2)
        clear hr2 hqq htb
        go_wp2_with (first
          | (refine wpList_load_row rfl 29 _ rfl O rfl 29 (trC v (vOf ps)) (0, 0) _ HBO.out Tryz.underlying29 rfl (by kernel_rfl) ?_)
          | (go_at_call 52; refine (TM.out _ (Ext.refl _)).mono ?_; rintro e _ ⟨rfl, hx⟩; have HX9 := Lib.hid hx; have HB9 := HBO.out.ext hx; have HB2 := hH.out.2.2.1.ext hx; obtain ⟨d1, os1, rfl⟩ := hx)
          | (refine wpList_buildTo rfl 29 #[] rfl _ rfl (trC nilV zeroV) (by kernel_rfl) ?_)
          | (refine wpList_store_rowTo rfl 29 _ _ rfl rfl R (trC nilV zeroV) rfl rfl 29 (trC nilV zeroV) HB2 (by kernel_rfl) rfl (trC_one _ _ nil_one) ?_))
        rw [HRE.out]
        refine bodyPost_ret (v := .tuple #[.agg (trC nilV zeroV), .int .i64 1]) (results_cell_slot rfl _ _ ⟨R, 0, none⟩ _ rfl (tr_load (HB2.setRow nilV zeroV)) _ rfl) rfl (BackPost.none ?_)
        exact (HEX.out.more _ _).setRow (by rw [HR0.out]; exact Nat.le_refl _) _
/-- root.Back = backF -/
theorem back_any (B bt bm : Nat) (tv : Value) (l : List ByteArray) (n : Int) (w : World) (h : TabAt B bt bm tv l w) (hsz : ∀ s ∈ l, s.size ≤ 100000) (SB EB PB : Nat) (hS : SignsAt SB w) (hSB : SB ≤ w.heap.size) (hE : ErrsAt EB w) (hEB : EB ≤ w.heap.size) (hP : Pow10 PB w) (hPB : PB ≤ w.heap.size) :
    Calls Tryz.prog 46 #[.pointer (some ⟨bt, 0, none⟩), .int .i64 n] w fun e w' => BackPost w w' e (backF l n) := by
  have he := leavesF_err (l := l) (n := n)
  cases hl : leavesF l n with
  | mk a er =>
    rw [hl] at he
    cases a with
    | none => rw [backF_no hl]; exact back_no B bt bm tv l n w h hsz EB PB hE hEB hP hPB er hl
    | some xs =>
      obtain rfl : er = 0 := he.1
      refine back_yes B bt bm tv l n w h hsz SB EB PB hS hSB hE hEB hP hPB xs hl _ rfl _ ?_
      exact backF_yes hl
end Go.Proofs.YtpchohjkelopoaaGreatDoor

set_option maxRecDepth 20000
namespace Go.Proofs.YtpchohjkelopoaaGreatDoor
open Go.RowKit
attribute [go_sem] more_more Array.size_append
theorem tOf_len {ps : List (Int × List It)} (h : ∀ p ∈ ps, p.2.length ≤ 9223372036854775807) : ∀ k, k < 16 → (tOf ps k).length ≤ 9223372036854775807 := fun k _ => by
  unfold tOf
  cases hp : ps[k]? with
  | none => simp
  | some p => exact h p (List.mem_of_getElem? hp)
theorem own_maxl {w : World} {base n size : Nat} {v : Value} {e : TypeId} {xs : List Value} (h : w.ownsRow base e size v n xs) : n ≤ 9223372036854775807 := by
  rcases h.2 with ⟨_, h0⟩ | ⟨g, cap, cur, _, _, _, hc, hcm, _⟩
  · omega
  · unfold maxLen at hcm; omega
theorem txt_map (ts : List ByteArray) : (ts.map txt).map strC = ts.map Value.string := by simp [txt, strC]
set_option maxHeartbeats 1000000 in
theorem dback_no (B : Nat) (lv : Value) (l : List ByteArray) (n : Int) (w : World) (h : w.ownsRow B 9 1 lv l.length (l.map Value.string)) (hll : l.length ≤ 1000000000) (hsz : ∀ s ∈ l, s.size ≤ 100000)
    (er : Int) (hl : leavesF l n = (none, er)) :
    Calls Tryz.prog 47 #[lv, .int .i64 n] w fun e w' => BackPost w w' e (tOf [], vOf [], er) := by
  have LC := Lib.hid fun (W : World) (hx : Ext w W) => rleaves_any B lv l n W (own_ext h hx) hll (fun s hs => Nat.le_trans (hsz s hs) (by decide)) _ hl
  have he := leavesF_err (l := l) (n := n)
  rw [hl] at he
  have hne : (er != 0) = true := by rw [bne_iff_ne]; omega
  obtain ⟨pl, cl, rfl, _, _⟩ := own_texts h
  clear h hsz hl he
  go_enter Tryz.func47, Tryz.ntmps47
  go_wp2_with (first
    | (go_at_call 43; refine (LC.out _ ((Ext.refl w).alloc _)).mono ?_; rintro e _ ⟨rfl, d1, os1, rfl⟩; have HRB : TrBlk (more (w.alloc (.cells (trC nilV zeroV) 29)) d1 os1) w.heap.size nilV zeroV := by unfold TrBlk; rw [more_heap _ _ _ _ (by simp)]; exact heap_alloc_new w _)
    | (refine wpList_buildTo rfl 29 #[] rfl _ rfl (trC nilV zeroV) (by kernel_rfl) ?_)
    | (refine wpList_store_rowTo rfl 29 _ _ rfl rfl w.heap.size (trC nilV zeroV) rfl rfl 29 (trC nilV zeroV) HRB (by kernel_rfl) rfl (trC_one _ _ nil_one) ?_))
  refine bodyPost_ret (v := .tuple #[.agg (trC nilV zeroV), .int .i64 er]) (results_cell_slot rfl _ _ ⟨w.heap.size, 0, none⟩ _ rfl (tr_load (HRB.setRow nilV zeroV)) _ rfl) rfl (BackPost.none ?_)
  exact (((Ext.refl w).alloc _).more _ _).setRow (Nat.le_refl _) _
set_option maxHeartbeats 2000000 in
theorem dback_yes (B : Nat) (lv : Value) (l : List ByteArray) (n : Int) (w : World) (h : w.ownsRow B 9 1 lv l.length (l.map Value.string)) (hll : l.length ≤ 1000000000) (hsz : ∀ s ∈ l, s.size ≤ 100000)
    (xs : List Int) (hl : leavesF l n = (some xs, 0)) (q : Option (List (Int × List It)) × Int) (hq : bkF l xs = q) (r : (Nat → List It) × (Nat → Int) × Int)
    (hr : r = backQ q) :
    Calls Tryz.prog 47 #[lv, .int .i64 n] w fun e w' => BackPost w w' e r := by
  obtain ⟨i1, hi1, hy0, hy1, hy2⟩ := info_parts bysInfo'
  have LC := Lib.hid fun (W : World) (hx : Ext w W) => rleaves_any B lv l n W (own_ext h hx) hll (fun s hs => Nat.le_trans (hsz s hs) (by decide)) _ hl
  have CC := Lib.hid fun (u : Int) (W : World) (hx : Ext w W) => drchunks_any B lv l u W (own_ext h hx) hll (fun s hs => Nat.le_trans (hsz s hs) (by decide))
  have he := leavesF_err (l := l) (n := n)
  rw [hl] at he
  have H16 := Lib.hid he.2
  have HSZ := Lib.hid hsz
  have HQ := Lib.hid hq
  have HR := Lib.hid hr
  obtain ⟨pl, cl, rfl, _, _⟩ := own_texts h
  clear h hsz hl he hq hr
  go_enter Tryz.func47, Tryz.ntmps47
  go_wp2_with (first
    | (go_at_call 43; refine (LC.out _ ((Ext.refl w).alloc _)).mono ?_; rintro e w1 ⟨v, rfl, hown, h64, hx⟩; rw [H16.out] at hown; obtain ⟨g, cap, rfl, hgl, hc16, hcm, HA⟩ := ints_row H16.out (by omega) hown; have HX := Lib.hid (((Ext.refl w).alloc _).trans hx); have HRB : Hid (TrBlk w1 w.heap.size nilV zeroV) := Lib.hid (by have h1 : TrBlk (w.alloc (.cells (trC nilV zeroV) 29)) w.heap.size nilV zeroV := heap_alloc_new w _; exact h1.ext hx); clear hown h64 hx)
    | (refine wpList_buildTo rfl 29 #[] rfl _ rfl (trC nilV zeroV) (by kernel_rfl) ?_)
    | (refine wpList_store_rowTo rfl 29 _ _ rfl rfl w1.heap.size (trC nilV zeroV) rfl rfl 29 (trC nilV zeroV) (heap_alloc_new w1 _) (by kernel_rfl) rfl (trC_one _ _ nil_one) ?_))
  obtain ⟨R, hR⟩ : ∃ R, w.heap.size = R := ⟨_, rfl⟩
  obtain ⟨O, hO⟩ : ∃ O, w1.heap.size = O := ⟨_, rfl⟩
  have HR0 := Lib.hid hR
  have HO0 := Lib.hid hO
  rw [hR] at HRB
  go_loopw [9] (fun ii wr => ∃ (k : Nat) (ps : List (Int × List It)) (bs : Nat → Nat) (v : Nat → Value), ii = .int .i64 (k : Int) ∧ k ≤ 16 ∧ Hid (ps.length = k ∧ preB ps (bkF l (xs.drop k)) = q ∧ TrBlk wr R nilV zeroV ∧ TrBlk wr O v (vOf ps) ∧ LvsAt wr bs v (tOf ps) ∧ LvTy wr bs (tOf ps) ∧ (∀ (j : Nat) (u : Int), xs[j]? = some u → wr.cell? ⟨g, j, none⟩ = some (.int .i64 u)) ∧ g ≠ O ∧ R ≠ O ∧ Ext w wr) ∧ Hid (∀ p ∈ ps, p.2.length ≤ 9223372036854775807)) (fun ii _ => 16 - (intOf ii).toNat)
  case atStart =>
    have hx0 := ((Ext.refl w1).alloc (.cells (trC nilV zeroV) 29)).setRow (g := w1.heap.size) (Nat.le_refl _) (trC nilV zeroV)
    refine ⟨0, [], fun _ => 0, nilV, rfl, Nat.zero_le _, Lib.hid ⟨rfl, by rw [List.drop_zero, preB_nil]; exact HQ.out, HRB.out.ext hx0, ?_, lvs_nil _ _, lvty_nil _ _, fun j u hj => cell_ext (HA.out j u hj) hx0, by omega, by have := lt_of_heap HRB.out; omega, HX.out.trans hx0⟩, Lib.hid (by simp)⟩
    rw [vOf_nil, ← hO]
    have h1 : TrBlk (w1.alloc (.cells (trC nilV zeroV) 29)) w1.heap.size nilV zeroV := heap_alloc_new w1 _
    exact h1.setRow nilV zeroV
  case round =>
    obtain ⟨k, ps, bs, v, rfl, hk16, hH, hPL⟩ := hrel
    obtain ⟨W0, rfl⟩ : ∃ W0, W0 = wr := ⟨_, rfl⟩
    have HEX := Lib.hid hH.out.2.2.2.2.2.2.2.2.2
    have hRw : R < W0.heap.size := lt_of_heap hH.out.2.2.1
    have hOw : O < W0.heap.size := lt_of_heap hH.out.2.2.2.1
    rw [hR, hO]
    clear hR hO
    by_cases hk : k < 16
    · obtain ⟨u, hu⟩ : ∃ u, xs[k]? = some u := ⟨_, List.getElem?_eq_getElem (by have := H16.out; omega)⟩
      have cu := hH.out.2.2.2.2.2.2.1 k u hu
      have hgw := World.block_lt_of_cell? _ _ cu
      have hkI : (k : Int) < 16 := by omega
      have hk0 : (0 : Int) ≤ (k : Int) := by omega
      have hdr : xs.drop k = u :: xs.drop (k + 1) := by
        rw [List.drop_eq_getElem?_toList_append, hu]; rfl
      have HQK := Lib.hid hH.out.2.1
      rw [hdr] at HQK
      clear hdr hu
      have RC := Lib.hid (CC.out u W0 HEX.out)
      obtain ⟨rc, hrc⟩ : ∃ rc, rchunksF l u = rc := ⟨_, rfl⟩
      have hre := rchunksF_err (l := l) (n := u)
      rw [hrc] at RC hre
      have HRC := Lib.hid hrc
      clear hrc
      obtain ⟨rc1, er⟩ := rc
      cases rc1 with
      | none =>
        have hne : (er != 0) = true := by rw [bne_iff_ne]; dsimp only at hre; omega
        have hqq := HQK.out
        rw [preB_no (bkStep_no HRC.out)] at hqq
        have HRE := Lib.hid (show r = (tOf [], vOf [], er) by rw [HR.out, ← hqq]; rfl)
        clear hqq hre
        go_wp2_with (first
          | (go_at_call 45; refine RC.out.mono ?_; rintro e _ ⟨rfl, d1, os1, rfl⟩; have HB2 : TrBlk (more W0 d1 os1) R nilV zeroV := hH.out.2.2.1.ext ((Ext.refl _).more _ _))
          | (refine wpList_buildTo rfl 29 #[] rfl _ rfl (trC nilV zeroV) (by kernel_rfl) ?_)
          | (refine wpList_store_rowTo rfl 29 _ _ rfl rfl R (trC nilV zeroV) rfl rfl 29 (trC nilV zeroV) HB2 (by kernel_rfl) rfl (trC_one _ _ nil_one) ?_))
        rw [HRE.out]
        refine bodyPost_ret (v := .tuple #[.agg (trC nilV zeroV), .int .i64 er]) (results_cell_slot rfl _ _ ⟨R, 0, none⟩ _ rfl (tr_load (HB2.setRow nilV zeroV)) _ rfl) rfl (BackPost.none ?_)
        exact (HEX.out.more _ _).setRow (by rw [HR0.out]; exact Nat.le_refl _) _
      | some x =>
        obtain ⟨z, ts⟩ := x
        obtain rfl : er = 0 := hre
        obtain ⟨hlm, htsz, hz0, hz1⟩ := rchunksF_len HSZ.out HRC.out
        obtain ⟨m, hm⟩ : ∃ m, ts.length = m := ⟨_, rfl⟩
        have HM := Lib.hid hm
        have HTS := Lib.hid htsz
        have hm5 : m ≤ 100000 := by omega
        clear htsz hlm hm
        go_wp2_with (go_at_call 45; refine RC.out.mono ?_; rintro e w2 ⟨tvv, rfl, hown, hx⟩; have HX2 := Lib.hid hx; have HOWN : Hid (w2.ownsRow W0.heap.size 9 1 tvv (ts.map txt).length ((ts.map txt).map strC)) := Lib.hid (by have := hown; rw [← txt_map] at this; simpa using this); obtain ⟨p2, c2, rfl⟩ := own_sl hown; clear hown hx)
        have hx3 := HEX.out.trans HX2.out
        have LC2 := Lib.hid (rlof_any _ (ts.map txt) _ w2 HOWN.out (by have := HM.out; simp; omega) (by intro c hc; obtain ⟨s, hs, rfl⟩ := List.mem_map.1 hc; have := HTS.out s hs; unfold txt; rw [ba_len]; omega) _ rfl)
        obtain ⟨rl, hrl⟩ : ∃ rl, leafOfF (ts.map txt) = rl := ⟨_, rfl⟩
        rw [hrl] at LC2
        have HRL := Lib.hid hrl
        have HX3 := Lib.hid hx3
        clear hx3 hrl
        obtain ⟨li, el, pl⟩ := rl
        by_cases hel : el = 0
        · subst hel
          have HLI : Hid (∀ w', LeafPost w2 w' (.returned (.tuple #[.slice none 0 0, .int .i64 0, .int .i64 0])) (li, 0, pl) → True) := Lib.hid fun _ _ => trivial
          have hTB := hH.out.2.2.2.1.ext HX2.out
          have HST := Lib.hid (bkStep_yes HRC.out (by rw [HRL.out]))
          rw [HRL.out] at HST
          have hqq := HQK.out
          rw [preB_yes HST.out] at hqq
          have HQQ := Lib.hid hqq
          clear hqq
          go_wp2_with (go_at_call 59; refine LC2.out.mono ?_; rintro e w4 ⟨lv, rfl, hok, _, hx4⟩; dsimp only at hok ⊢; obtain ⟨hown, hio⟩ := hok rfl; obtain ⟨pp, cc, rfl⟩ := own_sl hown; have HLF := Lib.hid (own_lf hown rfl hio); have HLM : Hid (li.length ≤ 9223372036854775807) := Lib.hid (own_maxl hown); have HX4 := Lib.hid hx4; have hTB4 := hTB.ext hx4; have c40 := hTB4.leaf k hk; have c41 := hTB4.ver k hk; have f40 := hTB4.frozen k; have f41 := hTB4.frozen (16 + k); have hOw4 := lt_of_heap hTB4; have HTB4 := Lib.hid hTB4; clear hown hio hok hx4 hTB4)
          go_roundw
          case rel =>
            obtain ⟨b1, h1, h2, _⟩ := HLF.out
            have hx24 := HX2.out.trans HX4.out
            have hb5 := HTB4.out.setLeaf k hk (.slice pp li.length cc)
            have hb6 := hb5.setVer k hk z
            obtain ⟨e1, e2⟩ := (hH.out.2.2.2.2.1.ext hx24).upd (hH.out.2.2.2.2.2.1.ext hx24) (k := k) h1 h2
            obtain ⟨e3, e4⟩ := e1.other e2 (i := k) HTB4.out (.slice pp li.length cc)
            obtain ⟨e5, e6⟩ := e3.other e4 (i := 16 + k) hb5 (.int .i64 z)
            refine ⟨k + 1, ps ++ [(z, li)], upd bs k b1, upd v k (.slice pp li.length cc), by go_num, by omega, Lib.hid ⟨by simp [hH.out.1], HQQ.out, ?_, ?_, ?_, ?_, ?_, hH.out.2.2.2.2.2.2.2.1, hH.out.2.2.2.2.2.2.2.2.1, ?_⟩, Lib.hid ?_⟩
            · exact ((hH.out.2.2.1.ext hx24).other hH.out.2.2.2.2.2.2.2.2.1 _).other hH.out.2.2.2.2.2.2.2.2.1 _
            · rw [vOf_snoc hH.out.1]; exact hb6
            · rw [tOf_snoc hH.out.1]; exact e5
            · rw [tOf_snoc hH.out.1]; exact e6
            · intro j u' hj
              have h1 := cell_ext (hH.out.2.2.2.2.2.2.1 j u' hj) hx24
              have hne := hH.out.2.2.2.2.2.2.2.1
              unfold World.cell? at h1 ⊢
              rw [Go.Deep.blk_setCell_other _ _ _ _ hne, Go.Deep.blk_setCell_other _ _ _ _ hne]
              exact h1
            · exact ((HEX.out.trans hx24).setCell (by have := HX.out.size; rw [HO0.out] at this; exact this) _).setCell (by have := HX.out.size; rw [HO0.out] at this; exact this) _
            · intro p hp
              rcases List.mem_append.1 hp with h | h
              · exact hPL.out p h
              · simp at h; subst h; exact HLM.out
          case measure => simp [intOf]; omega
        · have hne : (el != 0) = true := by rw [bne_iff_ne]; exact hel
          have hqq := HQK.out
          rw [preB_no (bkStep_bad HRC.out (by rw [HRL.out]; exact hel))] at hqq
          have HRE := Lib.hid (show r = (tOf [], vOf [], 3) by rw [HR.out, ← hqq]; rfl)
          have HEL := Lib.hid hel
          clear hqq hel
          go_wp2_with (first
            | (go_at_call 59; refine LC2.out.mono ?_; rintro e w4 ⟨lv, rfl, _, hbad, hx4⟩; obtain rfl := hbad HEL.out; have HX4 := Lib.hid hx4; have HB2 := hH.out.2.2.1.ext (HX2.out.trans hx4); clear hx4 hbad)
            | (refine wpList_buildTo rfl 29 #[] rfl _ rfl (trC nilV zeroV) (by kernel_rfl) ?_)
            | (refine wpList_store_rowTo rfl 29 _ _ rfl rfl R (trC nilV zeroV) rfl rfl 29 (trC nilV zeroV) HB2 (by kernel_rfl) rfl (trC_one _ _ nil_one) ?_))
          rw [HRE.out]
          refine bodyPost_ret (v := .tuple #[.agg (trC nilV zeroV), .int .i64 3]) (results_cell_slot rfl _ _ ⟨R, 0, none⟩ _ rfl (tr_load (HB2.setRow nilV zeroV)) _ rfl) rfl (BackPost.none ?_)
          exact (HX3.out.trans HX4.out).setRow (by rw [HR0.out]; exact Nat.le_refl _) _
    · have hkn : k = 16 := by omega
      subst hkn
      have hqq := hH.out.2.1
      rw [List.drop_of_length_le (by rw [H16.out]; exact Nat.le_refl _)] at hqq
      have hr2 := HR.out
      rw [← hqq] at hr2
      simp only [bkF, preB, backQ, List.append_nil] at hr2
      have TM := Lib.hid fun (W : World) (hx : Ext W0 W) => rtmay_any bs v (tOf ps) (vOf ps) W (tOf_len hPL.out) (hH.out.2.2.2.2.1.ext hx)
      have HBO := Lib.hid hH.out.2.2.2.1
      cases htb : trunkB (tOf ps) (vOf ps) with
      | true =>
        rw [htb] at TM hr2
        have HRE := Lib.hid (show r = (tOf ps, vOf ps, 0) by simpa using hr2)
        clear hr2 hqq htb
        go_wp2_with (first
          | (refine wpList_load_row rfl 29 _ rfl O rfl 29 (trC v (vOf ps)) (0, 0) _ HBO.out Tryz.underlying29 rfl (by kernel_rfl) ?_)
          | (go_at_call 11; refine (TM.out _ (Ext.refl _)).mono ?_; rintro e _ ⟨rfl, hx⟩; have HX9 := Lib.hid hx; have HB9 := HBO.out.ext hx; have HB2 := hH.out.2.2.1.ext hx; obtain ⟨d1, os1, rfl⟩ := hx)
          | (refine wpList_load_row rfl 29 _ rfl O rfl 29 (trC v (vOf ps)) (0, 0) _ HB9 Tryz.underlying29 rfl (by kernel_rfl) ?_)
          | (refine wpList_store_rowTo rfl 29 _ _ rfl rfl R (trC v (vOf ps)) rfl rfl 29 (trC nilV zeroV) HB2 (by kernel_rfl) rfl (trC_one _ _ hH.out.2.2.2.2.1.one) ?_))
        rw [HRE.out]
        refine bodyPost_ret (v := .tuple #[.agg (trC v (vOf ps)), .int .i64 0]) (results_cell_slot rfl _ _ ⟨R, 0, none⟩ _ rfl (tr_load (HB2.setRow v (vOf ps))) _ rfl) rfl ⟨bs, v, rfl, ?_, ?_, (HEX.out.more _ _).setRow (by rw [HR0.out]; exact Nat.le_refl _) _⟩
        · exact (LvsAt.otherRow (hH.out.2.2.2.2.1.ext HX9.out) (hH.out.2.2.2.2.2.1.ext HX9.out) HB2 _).1
        · exact (LvsAt.otherRow (hH.out.2.2.2.2.1.ext HX9.out) (hH.out.2.2.2.2.2.1.ext HX9.out) HB2 _).2
      | false =>
        rw [htb] at TM hr2
        have HRE := Lib.hid (show r = (tOf [], vOf [], 1) by simpa using hr2)
        clear hr2 hqq htb
        go_wp2_with (first
          | (refine wpList_load_row rfl 29 _ rfl O rfl 29 (trC v (vOf ps)) (0, 0) _ HBO.out Tryz.underlying29 rfl (by kernel_rfl) ?_)
          | (go_at_call 11; refine (TM.out _ (Ext.refl _)).mono ?_; rintro e _ ⟨rfl, hx⟩; have HX9 := Lib.hid hx; have HB9 := HBO.out.ext hx; have HB2 := hH.out.2.2.1.ext hx; obtain ⟨d1, os1, rfl⟩ := hx)
          | (refine wpList_buildTo rfl 29 #[] rfl _ rfl (trC nilV zeroV) (by kernel_rfl) ?_)
          | (refine wpList_store_rowTo rfl 29 _ _ rfl rfl R (trC nilV zeroV) rfl rfl 29 (trC nilV zeroV) HB2 (by kernel_rfl) rfl (trC_one _ _ nil_one) ?_))
        rw [HRE.out]
        refine bodyPost_ret (v := .tuple #[.agg (trC nilV zeroV), .int .i64 1]) (results_cell_slot rfl _ _ ⟨R, 0, none⟩ _ rfl (tr_load (HB2.setRow nilV zeroV)) _ rfl) rfl (BackPost.none ?_)
        exact (HEX.out.more _ _).setRow (by rw [HR0.out]; exact Nat.le_refl _) _
/-- ref12.Back = backF -/
theorem dback_any (B : Nat) (lv : Value) (l : List ByteArray) (n : Int) (w : World) (h : w.ownsRow B 9 1 lv l.length (l.map Value.string)) (hll : l.length ≤ 1000000000) (hsz : ∀ s ∈ l, s.size ≤ 100000) :
    Calls Tryz.prog 47 #[lv, .int .i64 n] w fun e w' => BackPost w w' e (backF l n) := by
  have he := leavesF_err (l := l) (n := n)
  cases hl : leavesF l n with
  | mk a er =>
    rw [hl] at he
    cases a with
    | none => rw [backF_no hl]; exact dback_no B lv l n w h hll hsz er hl
    | some xs =>
      obtain rfl : er = 0 := he.1
      refine dback_yes B lv l n w h hll hsz xs hl _ rfl _ ?_
      exact backF_yes hl
end Go.Proofs.YtpchohjkelopoaaGreatDoor
