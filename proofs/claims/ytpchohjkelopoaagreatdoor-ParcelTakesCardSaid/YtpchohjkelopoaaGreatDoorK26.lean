/- Lemmas for the claim (texts PaAw, what its proof uses of them). -/
import Derived.Test.YtpchohjkelopoaaGreatDoorK17
import Derived.Test.YtpchohjkelopoaaGreatDoorK22
import Derived.Test.YtpchohjkelopoaaGreatDoorK25
import Derived.Deep.DeepCutAuto
set_option linter.unusedSimpArgs false
set_option linter.unusedVariables false
set_option maxRecDepth 20000
namespace Go.Proofs.YtpchohjkelopoaaGreatDoor
open Go.RowKit
attribute [go_sem] more_more Array.size_append
/-- the laid tables that a parcel's functions ask -/
structure Env15 (B0 : Nat) (w : World) : Prop where
  size : B0 ≤ w.heap.size
  signs : SignsAt B0 w
  pow : Pow10 B0 w
theorem Env15.ext {B0 : Nat} {w w' : World} (h : Env15 B0 w) (hx : Ext w w') : Env15 B0 w' := ⟨Nat.le_trans h.size hx.size, h.signs.ext hx h.size, h.pow.below hx.below h.size⟩
theorem StBlk.kept {w w' : World} {N : Nat} {v : Nat → Value} {V : Nat → Int} {a b c : Int} (h : StBlk w N v V a b c) (hk : Kept w w') : StBlk w' N v V a b c := by
  unfold StBlk at h ⊢
  rw [hk N _ _ _ h (by decide) (by decide)]; exact h
theorem MfBlk.kept {w w' : World} {N : Nat} {a b c : Int} {L : Nat → Int} (h : MfBlk w N a b c L) (hk : Kept w w') : MfBlk w' N a b c L := by
  unfold MfBlk at h ⊢
  rw [hk N _ _ _ h (by decide) (by decide)]; exact h
theorem CrBlk.kept {w w' : World} {N : Nat} {a b c : Int} {L : Nat → Int} {g : Nat → Bool} {v : Nat → Value} {V : Nat → Int} (h : CrBlk w N a b c L g v V) (hk : Kept w w') : CrBlk w' N a b c L g v V := by
  unfold CrBlk at h ⊢
  rw [hk N _ _ _ h (by decide) (by decide)]; exact h
theorem PcBlk.kept {w w' : World} {M : Nat} {bk ver : Int} {cv : Value} (h : PcBlk w M bk ver cv) (hk : Kept w w') : PcBlk w' M bk ver cv := h.block (hk M _ _ _ h (by decide) (by decide))
theorem PcBlk.ext {w w' : World} {M : Nat} {bk ver : Int} {cv : Value} (h : PcBlk w M bk ver cv) (hx : Ext w w') : PcBlk w' M bk ver cv := h.block (hx.below.block _ (lt_of_heap h))
/-- as Kept, but for parcels -/
def Kept15 (w w' : World) : Prop := ∀ (k : Nat) (cur : Array Value) (T : TypeId) (fz : Nat × Nat), w.heap[k]? = some (.cells cur T fz) → T ≠ 132 → T ≠ 9 → T ≠ 50 → w'.heap[k]? = w.heap[k]?
theorem kept15_set {w : World} {M i : Nat} {x : Value} {bk ver : Int} {cv : Value} (h : PcBlk w M bk ver cv) : Kept15 w (w.setCell ⟨M, i, none⟩ x) := fun k cur T fz hb _ _ h3 => Go.Deep.blk_setCell_other _ _ _ _ (fun e => by
  rw [e] at hb
  have := hb.symm.trans h
  simp at this
  exact h3 this.2.1)
theorem StBlk.kept15 {w w' : World} {N : Nat} {v : Nat → Value} {V : Nat → Int} {a b c : Int} (h : StBlk w N v V a b c) (hk : Kept15 w w') : StBlk w' N v V a b c := by
  unfold StBlk at h ⊢
  rw [hk N _ _ _ h (by decide) (by decide) (by decide)]; exact h
theorem CrBlk.kept15 {w w' : World} {N : Nat} {a b c : Int} {L : Nat → Int} {g : Nat → Bool} {v : Nat → Value} {V : Nat → Int} (h : CrBlk w N a b c L g v V) (hk : Kept15 w w') : CrBlk w' N a b c L g v V := by
  unfold CrBlk at h ⊢
  rw [hk N _ _ _ h (by decide) (by decide) (by decide)]; exact h
theorem LvTy.kept15 {w w' : World} {bs : Nat → Nat} {T : Nat → List It} (h : LvTy w bs T) (hk : Kept15 w w') : LvTy w' bs T := fun k hk16 hl => by
  obtain ⟨cur, fz, hc⟩ := h k hk16 hl
  exact ⟨cur, fz, by rw [hk _ _ _ _ hc (by decide) (by decide) (by decide)]; exact hc⟩
theorem LvsAt.kept15 {w w' : World} {bs : Nat → Nat} {v : Nat → Value} {T : Nat → List It} (h : LvsAt w bs v T) (hy : LvTy w bs T) (hk : Kept15 w w') : LvsAt w' bs v T := fun k hk16 => (h k hk16).of_block fun hl => by
  obtain ⟨cur, fz, hc⟩ := hy k hk16 hl
  exact hk _ _ _ _ hc (by decide) (by decide) (by decide)
theorem own_kept15 {w w' : World} {base size n : Nat} {v : Value} {e : TypeId} {xs : List Value} (h : w.ownsRow base e size v n xs) (hk : Kept15 w w') (h1 : e ≠ 132) (h2 : e ≠ 9) (h3 : e ≠ 50) : w'.ownsRow base e size v n xs :=
  own_block h fun k hb => by
    obtain ⟨cur, hc⟩ := own_type h hb
    exact hk _ _ _ _ hc h1 h2 h3
theorem PcBlk.setVer {w : World} {M : Nat} {bk ver : Int} {cv : Value} (h : PcBlk w M bk ver cv) (z : Int) : PcBlk (w.setCell ⟨M, 1, none⟩ (.int .i64 z)) M bk z cv := by
  unfold PcBlk at h ⊢
  simp [World.setCell, Array.getElem?_modify, h]
theorem tab_lt {B bt bm : Nat} {tv : Value} {l : List ByteArray} {w : World} (h : TabAt B bt bm tv l w) : bt < w.heap.size ∧ bm < w.heap.size ∧ ∀ k, tv.ownBlock = some k → k < w.heap.size := by
  obtain ⟨_, _, _, a4, ⟨D, a5, _⟩, a7, _⟩ := h
  obtain ⟨es, clock, hm, _⟩ := a5
  exact ⟨lt_of_heap a4, lt_of_heap hm, fun k hk => (a7.lt k hk).2⟩
/-- texts laid behind a table are not the table's -/
theorem row_sep {B bt bm : Nat} {tv : Value} {l : List ByteArray} {w w2 : World} (h : TabAt B bt bm tv l w) {base n : Nat} {v : Value} {xs : List Value} (hr : w2.ownsRow base 9 1 v n xs) (hb : w.heap.size ≤ base) : v.ownBlock ≠ some bt ∧ v.ownBlock ≠ some bm ∧ (v.ownBlock = none ∨ v.ownBlock ≠ tv.ownBlock) := by
  obtain ⟨h1, h2, h3⟩ := tab_lt h
  refine ⟨fun e => ?_, fun e => ?_, ?_⟩
  · have := (hr.lt _ e).1; omega
  · have := (hr.lt _ e).1; omega
  · cases hv : v.ownBlock with
    | none => exact Or.inl rfl
    | some k =>
      refine Or.inr fun e => ?_
      have q1 := (hr.lt _ hv).1
      have q2 := h3 k e.symm
      omega
theorem bas_small {l : List It} (ho : ∀ x ∈ l, ItOk x) (hl : leafB l = true) : (bas (chunksF l)).length ≤ 100000 ∧ ∀ s ∈ bas (chunksF l), s.size ≤ 100000 := by
  have h64 := (leafB_may hl).1
  refine ⟨by unfold bas chunksF; simp; omega, fun s hs => ?_⟩
  unfold bas at hs
  obtain ⟨d, hd, rfl⟩ := List.mem_map.1 hs
  obtain ⟨j, hj⟩ := List.getElem?_of_mem hd
  obtain ⟨_, rfl⟩ := chunks_at hj
  have := chunk_len l ho (leafB_may hl).2 (8 * j) 8
  rw [ba_size]
  unfold chunkN
  simp only [List.length_cons]
  omega
theorem stC_congr {v : Nat → Value} {V V' : Nat → Int} (h : ∀ k, k < 16 → V k = V' k) (a b c : Int) : stC v V a b c = stC v V' a b c := by
  unfold stC
  rw [h 0 (by omega), h 1 (by omega), h 2 (by omega), h 3 (by omega), h 4 (by omega), h 5 (by omega), h 6 (by omega), h 7 (by omega), h 8 (by omega), h 9 (by omega), h 10 (by omega), h 11 (by omega), h 12 (by omega), h 13 (by omega), h 14 (by omega), h 15 (by omega)]
theorem lvs_congr {w : World} {bs : Nat → Nat} {v : Nat → Value} {T T' : Nat → List It} (h : LvsAt w bs v T) (e : ∀ k, k < 16 → T k = T' k) : LvsAt w bs v T' := fun k hk => by rw [← e k hk]; exact h k hk
theorem cut_aw (bs : Nat → Nat) (v : Nat → Value) (SB : Nat) (w : World) (hS : SignsAt SB w) (hSB : SB ≤ w.heap.size) (h : LvsAt w bs v awT) :
    Calls Tryz.prog 26 #[.agg (stC v awV 1 9 9), .int .i64 1] w fun e w' => ∃ cv, e = .returned (.tuple #[.agg #[.int .i64 1, .int .i64 1, cv], .int .i64 0]) ∧ w'.ownsRow w.heap.size 9 1 cv (bas (chunksF (awT 1))).length ((bas (chunksF (awT 1))).map Value.string) ∧ Ext w w' :=
  cut15_ok bs v awT awV 1 9 9 1 (by omega) SB w hS hSB h aw_store
theorem aw_own : Own awT awV := ⟨fun k hk x hx => by
  by_cases e : k = 1
  · subst e
    rw [awT_1] at hx
    simp at hx; subst hx; exact xa_ok
  · rw [awT_ne e] at hx; simp at hx, aw_fits⟩
theorem nil_own : Own (tOf []) zeroV := ⟨fun k hk x hx => by rw [tOf_nil] at hx; simp at hx, trunk_fits nil_trunk⟩
theorem needK_one {g : Nat → Bool} (h1 : g 1 = false) (h : ∀ k, k < 16 → k ≠ 1 → g k = true) : needK g 16 = [1] := by
  unfold needK
  have e : (List.range 16).filter (fun j => !g j) = (List.range 16).filter (fun j => j == 1) := List.filter_congr fun j hj => by
    by_cases e : j = 1
    · subst e; rw [h1]; rfl
    · rw [h j (by simpa using hj) e]; simp [e]
  rw [e]; rfl
/-- behind a step of a table: what lies there, and that the memory has only grown -/
theorem tab_step {B bt bm : Nat} {tv tv' : Value} {l l' : List ByteArray} {w0 w w' : World} (hx : Ext w0 w) (hB : w0.heap.size ≤ B) (h : TabAt B bt bm tv l w) (ht : TabAt B bt bm tv' l' w') (hs : TabStep bt bm tv w tv' w') : Ext w0 w' ∧ Kept w w' :=
  ⟨Ext.of_below (hx.below.trans ((hs.below h).mono hB)), Kept.tab h hs.1⟩
set_option maxHeartbeats 16000000 in
theorem awake15_any (B0 : Nat) (w : World) (he : Env15 B0 w) : Calls Tryz.prog 13 #[] w fun e w' => e = .returned (.bool true) ∧ Ext w w' := by
  have HE := Lib.hid he
  have IC := Lib.hid fun (W : World) => rint_any 1 W
  have TK := Lib.hid fun (E : Nat) (W : World) (h : EdBlk W E) => rtake13_a E W h
  have NC := Lib.hid fun (W : World) => new_any W
  obtain ⟨r1, hr1⟩ : ∃ r1, maniF [] awT awV 1 9 9 = r1 := ⟨_, rfl⟩
  have hm1 := mani_way aw_own (l := []) (by decide) 1 9 9
  rw [hr1] at hm1
  obtain ⟨l3, ⟨ma, mb, mc, mL⟩, e3⟩ := r1
  dsimp only at hm1
  obtain ⟨rfl, hl3, rfl, rfl, rfl, hm1⟩ := hm1
  simp only [List.length_nil, Nat.zero_add] at hl3
  have HR1 := Lib.hid hr1
  obtain ⟨r2, hr2⟩ : ∃ r2, beginF l3 ⟨1, 9, 9, mL⟩ (tOf []) zeroV = r2 := ⟨_, rfl⟩
  have hm2 := begin_way (m := ⟨1, 9, 9, mL⟩) aw_own nil_own (l := l3) (by omega) hm1
  have hg2 := fun k hk => begin_got (m := ⟨1, 9, 9, mL⟩) aw_own nil_own (l := l3) (by omega) hm1 k hk
  rw [hr2] at hm2 hg2
  obtain ⟨l4, ⟨cm, cg, cT, cV⟩, e4⟩ := r2
  dsimp only at hm2 hg2
  obtain ⟨rfl, hl4, rfl, hW2⟩ := hm2
  have HR2 := Lib.hid hr2
  have hg1 : cg 1 = false := by
    cases h : cg 1 with
    | false => rfl
    | true =>
      have := ((hg2 1 (by omega)).1 h).1
      rw [tOf_nil, awT_1] at this
      cases this
  have hgn : ∀ k, k < 16 → k ≠ 1 → cg k = true := fun k hk hne => (hg2 k hk).2 ⟨by rw [tOf_nil, awT_ne hne], by rw [awV_ne hne]; rfl⟩
  have HND := Lib.hid (needK_one hg1 hgn)
  obtain ⟨r3, hr3⟩ : ∃ r3, takeF l4 ⟨⟨1, 9, 9, mL⟩, cg, cT, cV⟩ 1 1 (bas (chunksF (awT 1))) = r3 := ⟨_, rfl⟩
  have ho3 := take_own hW2 aw_own (by omega) 1 (by omega)
  have hw3 := take_way hW2 aw_own 1 1 (bas (chunksF (awT 1)))
  rw [show awV 1 = 1 from rfl, show ((1 : Nat) : Int) = 1 from rfl, hr3] at ho3
  rw [hr3] at hw3
  obtain ⟨l5, ⟨dm, dg, dT, dV⟩, e5⟩ := r3
  dsimp only at ho3 hw3
  rcases ho3 with ⟨_, h⟩ | ⟨rfl, hd1⟩
  · rw [hg1] at h; cases h
  obtain ⟨hW2b, hl5, hw3⟩ := hw3
  obtain ⟨hW3, rfl, hmono⟩ := hw3 rfl
  have HR3 := Lib.hid hr3
  have hdg : ∀ k, k < 16 → dg k = true := fun k hk => by
    by_cases e : k = 1
    · subst e; exact hd1
    · exact hmono k (hgn k hk e)
  obtain ⟨hnd, hdone, hdT⟩ := done_way hW3 hdg 1 9 9 aw_store
  dsimp only at hnd hdone hdT
  have HDN := Lib.hid hdone
  have HN3 := Lib.hid hnd
  have HDT := Lib.hid hdT
  have hf := take_forged hW2b aw_own (by omega) 1 (by omega) hg1 2 (by decide) (by decide) (by decide)
  rw [show ((1 : Nat) : Int) = 1 from rfl] at hf
  have HFG := Lib.hid hf
  clear he hr1 hm1 hr2 hg2 hW2 hg1 hgn hr3 hd1 hW2b hw3 hW3 hmono hdg hnd hdone hdT hf
  go_enter Tryz.func13, Tryz.ntmps13
  go_upto_region 2 with (first
    | (refine wpList_buildTo rfl 56 _ rfl _ rfl (stC nilV zeroV 0 9 9) (by kernel_rfl) ?_)
    | (go_at_call 55; refine (IC.out _).mono ?_; rintro e w0 ⟨rfl, hx⟩; have HX0 := Lib.hid hx; clear hx)
    | (refine wpList_buildTo rfl 118 _ rfl _ rfl (edC) (by kernel_rfl) ?_)
    | (go_at_call 54; refine (TK.out w0.heap.size _ (heap_alloc_new w0 _)).mono ?_; rintro e w1 ⟨v', rfl, hown, hx⟩; obtain ⟨pv, cv, hvv⟩ := own_sl hown; subst hvv; have HX1 := Lib.hid ((HX0.out.alloc _).trans hx); have HO1 := Lib.hid (own_mono hown (HX0.out.alloc _).size); clear hx hown)
    | (refine wpList_store_rowTo rfl 56 _ _ rfl rfl (w1.heap.size) (stC (upd nilV 1 (.slice pv 1 cv)) (upd zeroV 1 1) 1 9 9) rfl rfl 56 (stC nilV zeroV 0 0 0) (heap_alloc_new w1 _) (by kernel_rfl) rfl (stC_one _ _ _ _ _ (by intro k hk; unfold upd; split <;> rfl)) ?_))
  obtain ⟨W1, hW1⟩ : ∃ W1, (w1.alloc (.cells (stC nilV zeroV 0 0 0) 56)).setRow w1.heap.size (stC (upd nilV 1 (.slice pv 1 cv)) (upd zeroV 1 1) 1 9 9) = W1 := ⟨_, rfl⟩
  show Code.wp _ _ _ _ ((w1.alloc (.cells (stC nilV zeroV 0 0 0) 56)).setRow w1.heap.size (stC (upd nilV 1 (.slice pv 1 cv)) (upd zeroV 1 1) 1 9 9))
  rw [hW1]
  have frW1 := fresh_row w1 (stC nilV zeroV 0 0 0) (stC (upd nilV 1 (.slice pv 1 cv)) (upd zeroV 1 1) 1 9 9) 56
  rw [hW1] at frW1
  clear hW1
  obtain ⟨b1, o1, o2, _⟩ := own_lf (own_ext HO1.out frW1.2) rfl (by intro x hx; simp at hx; subst hx; exact xa_ok)
  have hlv1 : LvsAt W1 (upd (fun _ => 0) 1 b1) (upd nilV 1 (.slice pv 1 cv)) awT ∧ LvTy W1 (upd (fun _ => 0) 1 b1) awT := LvsAt.upd (lvs_nil W1 _) (lvty_nil W1 _) o1 o2
  obtain ⟨v1, hv1⟩ : ∃ v1, upd nilV 1 (.slice pv 1 cv) = v1 := ⟨_, rfl⟩
  obtain ⟨bs1, hbs1⟩ : ∃ bs1, upd (fun _ => 0) 1 b1 = bs1 := ⟨_, rfl⟩
  rw [hv1, hbs1] at hlv1
  have hs1 : StBlk W1 w1.heap.size v1 awV 1 9 9 := by rw [← hv1]; exact frW1.1
  obtain ⟨M1, hM1⟩ : ∃ M1, w1.heap.size = M1 := ⟨_, rfl⟩
  rw [hM1] at hs1 ⊢
  rw [show (upd nilV 1 (.slice pv 1 cv)) = v1 from hv1]
  have HS1 := Lib.hid hs1
  have HL1 := Lib.hid hlv1
  have HXa := Lib.hid (HX1.out.trans frW1.2)
  have HB0 : Hid (B0 ≤ W1.heap.size) := Lib.hid (Nat.le_trans HE.out.size HXa.out.size)
  have HwB := Lib.hid HXa.out.size
  clear frW1 o1 o2 hlv1 hs1 hM1 hv1 hbs1 HO1
  go_upto_region 6 with (first
    | (go_at_call 24; refine (NC.out W1).mono ?_; rintro e w2 ⟨rfl, hT, hx⟩; have HT2 := Lib.hid hT; have HS2 := Lib.hid (HS1.out.ext hx); have HL2 := Lib.hid (And.intro (HL1.out.1.ext hx) (HL1.out.2.ext hx)); have HX2 := Lib.hid (HXa.out.trans hx); clear hT hx)
    | (refine wpList_load_row rfl 56 _ rfl (M1) rfl 56 (stC v1 awV 1 9 9) (0, 0) _ (HS2.out) Tryz.underlying56 rfl (by kernel_rfl) ?_)
    | (go_at_call 25; refine (pof_any _ _ _ _ [] bs1 v1 awT awV 1 9 9 B0 B0 w2 HT2.out (HE.out.ext HX2.out).signs HB0.out (HE.out.ext HX2.out).pow HB0.out HL2.out.1 HL2.out.2 aw_store (by decide) _ HR1.out).mono ?_; rintro e w3 ⟨tv3, rfl, hT3, hS3⟩; obtain ⟨hx3, hk3⟩ := tab_step HX2.out HwB.out HT2.out hT3 hS3; have HT3 := Lib.hid hT3; have HX3 := Lib.hid hx3; have HS3 := Lib.hid (HS2.out.kept hk3); have HL3 := Lib.hid (And.intro (HL2.out.1.kept HL2.out.2 hk3) (HL2.out.2.kept hk3)); clear hT3 hS3 hx3 hk3)
    | (refine wpList_store_rowTo rfl 25 _ _ rfl rfl (w3.heap.size) (mfC 1 9 9 mL) rfl rfl 25 (mfC 0 0 0 zeroV) (heap_alloc_new w3 _) (by kernel_rfl) rfl (mfC_one _ _ _ _) ?_))
  obtain ⟨W3, hW3⟩ : ∃ W3, (w3.alloc (.cells (mfC 0 0 0 zeroV) 25)).setRow w3.heap.size (mfC 1 9 9 mL) = W3 := ⟨_, rfl⟩
  show Code.wp _ _ _ _ ((w3.alloc (.cells (mfC 0 0 0 zeroV) 25)).setRow w3.heap.size (mfC 1 9 9 mL))
  rw [hW3]
  have frW3 := fresh_row w3 (mfC 0 0 0 zeroV) (mfC 1 9 9 mL) 25
  rw [hW3] at frW3
  clear hW3
  obtain ⟨M3, hM3⟩ : ∃ M3, w3.heap.size = M3 := ⟨_, rfl⟩
  have hgeM3 : w3.heap.size ≤ M3 := Nat.le_of_eq hM3
  rw [hM3] at frW3 ⊢
  have HFW3 : Hid (MfBlk W3 M3 1 9 9 mL) := Lib.hid frW3.1
  have HSW3 := Lib.hid (HS3.out.ext frW3.2)
  have HLW3 := Lib.hid (And.intro (HL3.out.1.ext frW3.2) (HL3.out.2.ext frW3.2))
  have HTW3 := Lib.hid (HT3.out.ext frW3.2)
  have HXW3 := Lib.hid (HX3.out.trans frW3.2)
  clear frW3 hM3
  go_upto_region 7 with (first
    | (refine wpList_load_row rfl 25 _ rfl (M3) rfl 25 (mfC 1 9 9 mL) (0, 0) _ (HFW3.out) Tryz.underlying25 rfl (by kernel_rfl) ?_)
    | (refine wpList_buildTo rfl 29 _ rfl _ rfl (trC nilV zeroV) (by kernel_rfl) ?_)
    | (go_at_call 10; refine (pbegin_any _ _ _ _ l3 1 9 9 mL (fun _ => 0) nilV (tOf []) zeroV B0 B0 W3 HTW3.out (HE.out.ext HXW3.out).signs HB0.out (HE.out.ext HXW3.out).pow HB0.out (lvs_nil _ _) (lvty_nil _ _) nil_trunk (by omega) _ HR2.out).mono ?_; rintro e w4 ⟨tv4, bs4, v4, rfl, hT4, hS4, hc4, hy4⟩; obtain ⟨hx4, hk4⟩ := tab_step HXW3.out HwB.out HTW3.out hT4 hS4; have HT4 := Lib.hid hT4; have HX4 := Lib.hid hx4; have HC4 : Hid (LvsAt w4 bs4 v4 cT ∧ LvTy w4 bs4 cT) := Lib.hid (And.intro hc4 hy4); have HS4 := Lib.hid (HSW3.out.kept hk4); have HF4 := Lib.hid (HFW3.out.kept hk4); have HL4 := Lib.hid (And.intro (HLW3.out.1.kept HLW3.out.2 hk4) (HLW3.out.2.kept hk4)); clear hT4 hS4 hx4 hk4 hc4 hy4)
    | (refine wpList_store_rowTo rfl 39 _ _ rfl rfl (w4.heap.size) (crC 1 9 9 mL cg v4 cV) rfl rfl 39 (Tryz.zeroCells39) (heap_alloc_new w4 _) (by kernel_rfl) rfl (crC_one _ _ _ _ _ _ _ HC4.out.1.one) ?_))
  obtain ⟨W4, hW4⟩ : ∃ W4, (w4.alloc (.cells (Tryz.zeroCells39) 39)).setRow w4.heap.size (crC 1 9 9 mL cg v4 cV) = W4 := ⟨_, rfl⟩
  show Code.wp _ _ _ _ ((w4.alloc (.cells (Tryz.zeroCells39) 39)).setRow w4.heap.size (crC 1 9 9 mL cg v4 cV))
  rw [hW4]
  have frW4 := fresh_row w4 (Tryz.zeroCells39) (crC 1 9 9 mL cg v4 cV) 39
  rw [hW4] at frW4
  clear hW4
  obtain ⟨M4, hM4⟩ : ∃ M4, w4.heap.size = M4 := ⟨_, rfl⟩
  have hgeM4 : w4.heap.size ≤ M4 := Nat.le_of_eq hM4
  rw [hM4] at frW4 ⊢
  have HKW4 : Hid (CrBlk W4 M4 1 9 9 mL cg v4 cV) := Lib.hid frW4.1
  have HSW4 := Lib.hid (HS4.out.ext frW4.2)
  have HLW4 := Lib.hid (And.intro (HL4.out.1.ext frW4.2) (HL4.out.2.ext frW4.2))
  have HCW4 := Lib.hid (And.intro (HC4.out.1.ext frW4.2) (HC4.out.2.ext frW4.2))
  have HTW4 := Lib.hid (HT4.out.ext frW4.2)
  have HXW4 := Lib.hid (HX4.out.trans frW4.2)
  clear frW4 hM4
  go_upto_region 8 with (first
    | (refine wpList_load_row rfl 39 _ rfl (M4) rfl 39 (crC 1 9 9 mL cg v4 cV) (0, 0) _ (HKW4.out) Tryz.underlying39 rfl (by kernel_rfl) ?_)
    | (go_at_call 18; refine (need_any _ _ _ _ _ _ _ W4).mono ?_; rintro e w5 ⟨nv, rfl, hown, hx⟩; rw [HND.out] at hown; obtain ⟨pn, cn, hvv⟩ := own_sl hown; subst hvv; have HN5 := Lib.hid hown; have HS5 := Lib.hid (HSW4.out.ext hx); have HK5 := Lib.hid (HKW4.out.ext hx); have HL5 := Lib.hid (And.intro (HLW4.out.1.ext hx) (HLW4.out.2.ext hx)); have HC5 := Lib.hid (And.intro (HCW4.out.1.ext hx) (HCW4.out.2.ext hx)); have HT5 := Lib.hid (HTW4.out.ext hx); have HX5 := Lib.hid (HXW4.out.trans hx); clear hx hown))
  go_upto_region 9 with (first
    | (refine wpList_load_row rfl 56 _ rfl (M1) rfl 56 (stC v1 awV 1 9 9) (0, 0) _ (HS5.out) Tryz.underlying56 rfl (by kernel_rfl) ?_)
    | (go_at_call 26; refine (cut_aw bs1 v1 B0 w5 (HE.out.ext HX5.out).signs (HE.out.ext HX5.out).size HL5.out.1).mono ?_; rintro e w6 ⟨cv6, rfl, hown, hx⟩; have HSP := Lib.hid (row_sep HT5.out hown (Nat.le_refl _)); obtain ⟨pc, cc, hvv⟩ := own_sl hown; subst hvv; have HR6 := Lib.hid hown; have HS6 := Lib.hid (HS5.out.ext hx); have HK6 := Lib.hid (HK5.out.ext hx); have HL6 := Lib.hid (And.intro (HL5.out.1.ext hx) (HL5.out.2.ext hx)); have HC6 := Lib.hid (And.intro (HC5.out.1.ext hx) (HC5.out.2.ext hx)); have HN6 := Lib.hid (own_ext HN5.out hx); have HT6 := Lib.hid (HT5.out.ext hx); have HX6 := Lib.hid (HX5.out.trans hx); clear hx hown))
  obtain ⟨W6, hW6⟩ : ∃ W6, w6.alloc (.cells #[.int .i64 1, .int .i64 1, .slice pc (bas (chunksF (awT 1))).length cc] 50) = W6 := ⟨_, rfl⟩
  show Code.wp _ _ _ _ (w6.alloc (.cells #[.int .i64 1, .int .i64 1, .slice pc (bas (chunksF (awT 1))).length cc] 50))
  rw [hW6]
  have hx6 : Ext w6 W6 := by rw [← hW6]; exact (Ext.refl w6).alloc _
  have hp6 : PcBlk W6 w6.heap.size 1 1 (.slice pc (bas (chunksF (awT 1))).length cc) := by rw [← hW6]; exact heap_alloc_new w6 _
  obtain ⟨M6, hM6⟩ : ∃ M6, w6.heap.size = M6 := ⟨_, rfl⟩
  have hge6 : w.heap.size ≤ M6 := by rw [← hM6]; exact HX6.out.size
  rw [hM6] at hp6 ⊢
  have HPW6 := Lib.hid hp6
  have HSW6 := Lib.hid (HS6.out.ext hx6)
  have HKW6 := Lib.hid (HK6.out.ext hx6)
  have HLW6 := Lib.hid (And.intro (HL6.out.1.ext hx6) (HL6.out.2.ext hx6))
  have HCW6 := Lib.hid (And.intro (HC6.out.1.ext hx6) (HC6.out.2.ext hx6))
  have HNW6 := Lib.hid (own_ext HN6.out hx6)
  have HRW6 := Lib.hid (own_ext HR6.out hx6)
  have HTW6 := Lib.hid (HT6.out.ext hx6)
  have HXW6 := Lib.hid (HX6.out.trans hx6)
  obtain ⟨p0, p1, p2, _, _, _, hpw⟩ := hp6.cell
  have HSM := Lib.hid (bas_small (aw_own.ok 1 (by omega)) (aw_own.leaf 1 (by omega)).1)
  clear hx6 hp6 hW6 hM6
  go_upto_region 10 with (first
    | (refine wpList_load_row rfl 39 _ rfl (M4) rfl 39 (crC 1 9 9 mL cg v4 cV) (0, 0) _ (HKW6.out) Tryz.underlying39 rfl (by kernel_rfl) ?_)
    | (go_at_call 15; refine (ptake_any _ _ _ _ l4 1 9 9 mL cg bs4 v4 cT cV 1 1 _ _ (bas (chunksF (awT 1))) B0 B0 W6 HTW6.out (HE.out.ext HXW6.out).signs HB0.out (HE.out.ext HXW6.out).pow HB0.out HCW6.out.1 HCW6.out.2 HRW6.out HSM.out.1 HSM.out.2 (by omega) _ HR3.out).mono ?_; rintro e w7 ⟨tv7, bs7, v7, rfl, hT7, hS7, hc7, hy7⟩; obtain ⟨hx7, hk7⟩ := tab_step HXW6.out HwB.out HTW6.out hT7 hS7; have HT7 := Lib.hid hT7; have HX7 := Lib.hid hx7; have HD7 : Hid (LvsAt w7 bs7 v7 dT ∧ LvTy w7 bs7 dT) := Lib.hid (And.intro hc7 hy7); have HR7 := Lib.hid (own_tabkept (own_mono HRW6.out (Nat.zero_le _)) hS7.1 HSP.out.1 HSP.out.2.1 HSP.out.2.2); have HS7 := Lib.hid (HSW6.out.kept hk7); have HK7 := Lib.hid (HKW6.out.kept hk7); have HP7 := Lib.hid (HPW6.out.kept hk7); have HL7 := Lib.hid (And.intro (HLW6.out.1.kept HLW6.out.2 hk7) (HLW6.out.2.kept hk7)); have HC7 := Lib.hid (And.intro (HCW6.out.1.kept HCW6.out.2 hk7) (HCW6.out.2.kept hk7)); have HN7 := Lib.hid (own_kept HNW6.out hk7 (by decide) (by decide)); clear hT7 hS7 hx7 hk7 hc7 hy7 p0 p1 p2 hpw)
    | (refine wpList_store_rowTo rfl 39 _ _ rfl rfl (w7.heap.size) (crC 1 9 9 mL dg v7 dV) rfl rfl 39 (Tryz.zeroCells39) (heap_alloc_new w7 _) (by kernel_rfl) rfl (crC_one _ _ _ _ _ _ _ HD7.out.1.one) ?_))
  obtain ⟨W7, hW7⟩ : ∃ W7, (w7.alloc (.cells (Tryz.zeroCells39) 39)).setRow w7.heap.size (crC 1 9 9 mL dg v7 dV) = W7 := ⟨_, rfl⟩
  show Code.wp _ _ _ _ ((w7.alloc (.cells (Tryz.zeroCells39) 39)).setRow w7.heap.size (crC 1 9 9 mL dg v7 dV))
  rw [hW7]
  have frW7 := fresh_row w7 (Tryz.zeroCells39) (crC 1 9 9 mL dg v7 dV) 39
  rw [hW7] at frW7
  clear hW7
  obtain ⟨M7, hM7⟩ : ∃ M7, w7.heap.size = M7 := ⟨_, rfl⟩
  have hgeM7 : w7.heap.size ≤ M7 := Nat.le_of_eq hM7
  rw [hM7] at frW7 ⊢
  have HGW7 : Hid (CrBlk W7 M7 1 9 9 mL dg v7 dV) := Lib.hid frW7.1
  have HSW7 := Lib.hid (HS7.out.ext frW7.2)
  have HKW7 := Lib.hid (HK7.out.ext frW7.2)
  have HPW7 := Lib.hid (HP7.out.ext frW7.2)
  have HLW7 := Lib.hid (And.intro (HL7.out.1.ext frW7.2) (HL7.out.2.ext frW7.2))
  have HCW7 := Lib.hid (And.intro (HC7.out.1.ext frW7.2) (HC7.out.2.ext frW7.2))
  have HDW7 := Lib.hid (And.intro (HD7.out.1.ext frW7.2) (HD7.out.2.ext frW7.2))
  have HNW7 := Lib.hid (own_ext HN7.out frW7.2)
  have HRW7 := Lib.hid (own_ext HR7.out frW7.2)
  have HTW7 := Lib.hid (HT7.out.ext frW7.2)
  have HXW7 := Lib.hid (HX7.out.trans frW7.2)
  clear frW7 hM7
  go_upto_region 11 with (first
    | (refine wpList_load_row rfl 39 _ rfl (M7) rfl 39 (crC 1 9 9 mL dg v7 dV) (0, 0) _ (HGW7.out) Tryz.underlying39 rfl (by kernel_rfl) ?_)
    | (go_at_call 19; refine (done_any 1 9 9 mL dg bs7 v7 dT dV B0 W7 (HE.out.ext HXW7.out).signs (HE.out.ext HXW7.out).size HDW7.out.1 HDW7.out.2 _ HDN.out).mono ?_; rintro e w8 ⟨bs8, v8, rfl, hz8, hy8, hx8⟩; have HZ8 : Hid (LvsAt w8 bs8 v8 dT ∧ LvTy w8 bs8 dT) := Lib.hid (And.intro hz8 hy8); have HS8 := Lib.hid (HSW7.out.ext hx8); have HK8 := Lib.hid (HKW7.out.ext hx8); have HP8 := Lib.hid (HPW7.out.ext hx8); have HG8 := Lib.hid (HGW7.out.ext hx8); have HL8 := Lib.hid (And.intro (HLW7.out.1.ext hx8) (HLW7.out.2.ext hx8)); have HC8 := Lib.hid (And.intro (HCW7.out.1.ext hx8) (HCW7.out.2.ext hx8)); have HD8 := Lib.hid (And.intro (HDW7.out.1.ext hx8) (HDW7.out.2.ext hx8)); have HN8 := Lib.hid (own_ext HNW7.out hx8); have HR8 := Lib.hid (own_ext HRW7.out hx8); have HT8 := Lib.hid (HTW7.out.ext hx8); have HX8 := Lib.hid (HXW7.out.trans hx8); clear hz8 hy8 hx8)
    | (refine wpList_store_rowTo rfl 56 _ _ rfl rfl (w8.heap.size) (stC v8 dV 1 9 9) rfl rfl 56 (stC nilV zeroV 0 0 0) (heap_alloc_new w8 _) (by kernel_rfl) rfl (stC_one _ _ _ _ _ HZ8.out.1.one) ?_))
  obtain ⟨W8, hW8⟩ : ∃ W8, (w8.alloc (.cells (stC nilV zeroV 0 0 0) 56)).setRow w8.heap.size (stC v8 dV 1 9 9) = W8 := ⟨_, rfl⟩
  show Code.wp _ _ _ _ ((w8.alloc (.cells (stC nilV zeroV 0 0 0) 56)).setRow w8.heap.size (stC v8 dV 1 9 9))
  rw [hW8]
  have frW8 := fresh_row w8 (stC nilV zeroV 0 0 0) (stC v8 dV 1 9 9) 56
  rw [hW8] at frW8
  clear hW8
  obtain ⟨M8, hM8⟩ : ∃ M8, w8.heap.size = M8 := ⟨_, rfl⟩
  have hgeM8 : w8.heap.size ≤ M8 := Nat.le_of_eq hM8
  rw [hM8] at frW8 ⊢
  have HYW8 : Hid (StBlk W8 M8 v8 dV 1 9 9) := Lib.hid frW8.1
  have HSW8 := Lib.hid (HS8.out.ext frW8.2)
  have HKW8 := Lib.hid (HK8.out.ext frW8.2)
  have HPW8 := Lib.hid (HP8.out.ext frW8.2)
  have HGW8 := Lib.hid (HG8.out.ext frW8.2)
  have HLW8 := Lib.hid (And.intro (HL8.out.1.ext frW8.2) (HL8.out.2.ext frW8.2))
  have HCW8 := Lib.hid (And.intro (HC8.out.1.ext frW8.2) (HC8.out.2.ext frW8.2))
  have HDW8 := Lib.hid (And.intro (HD8.out.1.ext frW8.2) (HD8.out.2.ext frW8.2))
  have HZW8 := Lib.hid (And.intro (HZ8.out.1.ext frW8.2) (HZ8.out.2.ext frW8.2))
  have HNW8 := Lib.hid (own_ext HN8.out frW8.2)
  have HRW8 := Lib.hid (own_ext HR8.out frW8.2)
  have HTW8 := Lib.hid (HT8.out.ext frW8.2)
  have HXW8 := Lib.hid (HX8.out.trans frW8.2)
  clear frW8 hM8
  obtain ⟨_, p1, _, _, f1, _, hpw⟩ := HPW8.out.cell
  have hk9 := kept15_set (i := 1) (x := .int .i64 2) HPW8.out
  have HS9 := Lib.hid (HSW8.out.kept15 hk9)
  have HK9 := Lib.hid (HKW8.out.kept15 hk9)
  have HG9 := Lib.hid (HGW8.out.kept15 hk9)
  have HY9 := Lib.hid (HYW8.out.kept15 hk9)
  have HL9 := Lib.hid (And.intro (HLW8.out.1.kept15 HLW8.out.2 hk9) (HLW8.out.2.kept15 hk9))
  have HC9 := Lib.hid (And.intro (HCW8.out.1.kept15 HCW8.out.2 hk9) (HCW8.out.2.kept15 hk9))
  have HD9 := Lib.hid (And.intro (HDW8.out.1.kept15 HDW8.out.2 hk9) (HDW8.out.2.kept15 hk9))
  have HZ9 := Lib.hid (And.intro (HZW8.out.1.kept15 HZW8.out.2 hk9) (HZW8.out.2.kept15 hk9))
  have HN9 := Lib.hid (own_kept15 HNW8.out hk9 (by decide) (by decide) (by decide))
  have HT9 := Lib.hid (tab_grown HTW8.out (grown_cellw W8 M6 1 (.int .i64 2)) (fun k hk => by obtain rfl := Option.some.inj hk; exact tab_other HTW8.out HPW8.out (by decide) (by decide)))
  have HX9 := Lib.hid (HXW8.out.setCell (p := ⟨M6, 1, none⟩) hge6 (.int .i64 2))
  have HR9 := Lib.hid (own_afterC HRW8.out HPW8.out (by decide) (i := 1) (.int .i64 2))
  have HP9 := Lib.hid (HPW8.out.setVer 2)
  clear hk9
  go_upto_region 12 with fail
  obtain ⟨W9, hW9⟩ : ∃ W9, W8.setCell ⟨M6, 1, none⟩ (.int .i64 2) = W9 := ⟨_, rfl⟩
  show Code.wp _ _ _ _ (W8.setCell ⟨M6, 1, none⟩ (.int .i64 2))
  rw [hW9]
  rw [hW9] at HS9 HK9 HG9 HY9 HL9 HC9 HD9 HZ9 HN9 HT9 HX9 HR9 HP9
  clear hW9 p1 f1 hpw
  obtain ⟨p0, p1, p2, _, _, _, hpw⟩ := HP9.out.cell
  obtain ⟨l6, hl6⟩ : ∃ l6, takeF l5 ⟨⟨1, 9, 9, mL⟩, cg, cT, cV⟩ 1 2 (bas (chunksF (awT 1))) = (l6, Cr.none, 19) := ⟨_, Prod.ext rfl HFG.out⟩
  have HL6 := Lib.hid hl6
  clear hl6
  go_upto_region 13 with (first
    | (refine wpList_load_row rfl 39 _ rfl (M4) rfl 39 (crC 1 9 9 mL cg v4 cV) (0, 0) _ (HK9.out) Tryz.underlying39 rfl (by kernel_rfl) ?_)
    | (go_at_call 15; refine (ptake_any _ _ _ _ l5 1 9 9 mL cg bs4 v4 cT cV 1 2 _ _ (bas (chunksF (awT 1))) B0 B0 W9 HT9.out (HE.out.ext HX9.out).signs HB0.out (HE.out.ext HX9.out).pow HB0.out HC9.out.1 HC9.out.2 HR9.out HSM.out.1 HSM.out.2 (by omega) _ HL6.out).mono ?_; rintro e w10 ⟨tv10, bs10, v10, rfl, hT10, hS10, hc10, hy10⟩; obtain ⟨hx10, hk10⟩ := tab_step HX9.out HwB.out HT9.out hT10 hS10; have HX10 := Lib.hid hx10; have HQ10 := Lib.hid hc10.one; have HS10 := Lib.hid (HS9.out.kept hk10); have HG10 := Lib.hid (HG9.out.kept hk10); have HY10 := Lib.hid (HY9.out.kept hk10); have HL10 := Lib.hid (And.intro (HL9.out.1.kept HL9.out.2 hk10) (HL9.out.2.kept hk10)); have HD10 := Lib.hid (And.intro (HD9.out.1.kept HD9.out.2 hk10) (HD9.out.2.kept hk10)); have HZ10 := Lib.hid (And.intro (HZ9.out.1.kept HZ9.out.2 hk10) (HZ9.out.2.kept hk10)); have HN10 := Lib.hid (own_kept HN9.out hk10 (by decide) (by decide)); clear hT10 hS10 hx10 hk10 hc10 hy10 p0 p1 p2 hpw)
    | (refine wpList_store_rowTo rfl 39 _ _ rfl rfl (w10.heap.size) (crC 0 0 0 zeroV noG v10 zeroV) rfl rfl 39 (Tryz.zeroCells39) (heap_alloc_new w10 _) (by kernel_rfl) rfl (crC_one _ _ _ _ _ _ _ HQ10.out) ?_))
  obtain ⟨W10, hW10⟩ : ∃ W10, (w10.alloc (.cells (Tryz.zeroCells39) 39)).setRow w10.heap.size (crC 0 0 0 zeroV noG v10 zeroV) = W10 := ⟨_, rfl⟩
  show Code.wp _ _ _ _ ((w10.alloc (.cells (Tryz.zeroCells39) 39)).setRow w10.heap.size (crC 0 0 0 zeroV noG v10 zeroV))
  rw [hW10]
  have frW10 := fresh_row w10 (Tryz.zeroCells39) (crC 0 0 0 zeroV noG v10 zeroV) 39
  rw [hW10] at frW10
  clear hW10
  obtain ⟨M10, hM10⟩ : ∃ M10, w10.heap.size = M10 := ⟨_, rfl⟩
  have hgeM10 : w10.heap.size ≤ M10 := Nat.le_of_eq hM10
  rw [hM10] at frW10 ⊢
  have HJW10 : Hid (CrBlk W10 M10 0 0 0 zeroV noG v10 zeroV) := Lib.hid frW10.1
  have HSW10 := Lib.hid (HS10.out.ext frW10.2)
  have HGW10 := Lib.hid (HG10.out.ext frW10.2)
  have HYW10 := Lib.hid (HY10.out.ext frW10.2)
  have HLW10 := Lib.hid (And.intro (HL10.out.1.ext frW10.2) (HL10.out.2.ext frW10.2))
  have HDW10 := Lib.hid (And.intro (HD10.out.1.ext frW10.2) (HD10.out.2.ext frW10.2))
  have HZW10 := Lib.hid (And.intro (HZ10.out.1.ext frW10.2) (HZ10.out.2.ext frW10.2))
  have HNW10 := Lib.hid (own_ext HN10.out frW10.2)
  have HXW10 := Lib.hid (HX10.out.trans frW10.2)
  clear frW10 hM10
  have heq : stC v8 dV 1 9 9 = stC v8 awV 1 9 9 := stC_congr (fun k hk => (HDT.out k hk).2) 1 9 9
  have SMC := Lib.hid fun (W : World) (hx : Ext W10 W) => (show Calls Tryz.prog 21 #[.agg (stC v8 dV 1 9 9), .agg (stC v1 awV 1 9 9)] W fun e w' => e = .returned (.bool true) ∧ Ext W w' from by rw [heq]; exact rsame13_any 1 9 9 bs8 bs1 v8 v1 awT awV W (lvs_congr (HZW10.out.1.ext hx) (fun k hk => (HDT.out k hk).1)) (HLW10.out.1.ext hx) (fun k hk => by have := (leafB_may (aw_own.leaf k hk).1).1; omega))
  obtain ⟨gN, capN, e, hgl, _, _, HA⟩ := ints_row (x := [1]) (n := 1) rfl (by omega) HNW10.out
  simp only [Value.slice.injEq] at e
  obtain ⟨rfl, _, rfl⟩ := e
  have c0 := HA.out 0 1 rfl
  clear heq
  go_wp2_with (first
    | (refine wpList_load_rowG rfl 39 _ rfl (M7) rfl 39 (crC 1 9 9 mL dg v7 dV) (0, 0) _ (HGW10.out) Tryz.underlying39 rfl (by kernel_rfl) ?_)
    | (go_at_call 18; refine (need_any _ _ _ _ _ _ _ W10).mono ?_; rintro e w11 ⟨nv, rfl, hown, hx⟩; rw [HN3.out] at hown; obtain ⟨pm, cm, hvv⟩ := own_sl hown; subst hvv; have HX11 := Lib.hid hx; have HG11 := Lib.hid (HGW10.out.ext hx); have HY11 := Lib.hid (HYW10.out.ext hx); have HS11 := Lib.hid (HSW10.out.ext hx); clear hx hown)
    | (refine wpList_load_rowG rfl 56 _ rfl (M8) rfl 56 (stC v8 dV 1 9 9) (0, 0) _ (HY11.out) Tryz.underlying56 rfl (by kernel_rfl) ?_)
    | (refine wpList_load_rowG rfl 56 _ rfl (M1) rfl 56 (stC v1 awV 1 9 9) (0, 0) _ (HS11.out) Tryz.underlying56 rfl (by kernel_rfl) ?_)
    | (go_at_call 21; refine (SMC.out w11 HX11.out).mono ?_; rintro e w12 ⟨rfl, hx⟩; have HX12 := Lib.hid (HX11.out.trans hx); clear hx))
  go_ret
  exact ⟨rfl, HXW10.out.trans HX12.out⟩
end Go.Proofs.YtpchohjkelopoaaGreatDoor
