/- Lemmas for the claim (texts PaK, PaL, PaR, PaM, what its proof uses of them). -/
import Derived.Test.YtpchohjkelopoaaGreatDoorK20
set_option linter.unusedSimpArgs false
set_option linter.unusedVariables false
set_option maxRecDepth 20000
namespace Go.Proofs.YtpchohjkelopoaaGreatDoor
open Go.RowKit
attribute [go_sem] more_more Array.size_append
theorem step_append_src {P : Program} {ops : Array Oper} {o : Oper} {a : Act} {w : World} {K : Act → World → Prop} {Q : Exit → Act → World → Prop} {E : Prop} (hgd : o.guard = none) (s x : Operand) (t tx : TypeId)
    (ho : o.op = .call { callee := .builtin .append, args := #[s, x], argTypes := #[t, tx] })
    (base : Nat) (e : TypeId) (i : TypeInfo) (z : Value) (size bytes : Nat) (ht : P.underlying t = some (.slice e)) (hi : P.info? e = some i) (hz : i.zero = some z)
    (hsize : i.size = size) (hby : i.bytes = bytes) (hzs : z.cells.size = size) (hsz : 0 < size)
    (v : Value) (n : Nat) (xs : List Value) (hs : a.eval s = v) (hown : w.ownsRow base e size v n xs)
    (xv : Value) (m : Nat) (news : List Value) (hx : a.eval x = xv) (hsrc : Src P size tx xv m news w)
    (h63 : n + m ≤ maxLen) (hbytes : (n + m) * bytes ≤ 140737488355328) (hbase : base ≤ w.heap.size)
    (h : ∀ v' w', w'.ownsRow base e size v' (n + m) (xs ++ news) → w.grownBy w' v.ownBlock → (v'.ownBlock = v.ownBlock ∨ v'.ownBlock = some w.heap.size) → K (a.put o.dst v') w') :
    if Region.wanted o (yielded ops a.tmps) = true then Oper.wp P o a w K Q else E := by
  rw [if_pos (by simp [Region.wanted, hgd])]
  obtain ⟨v', w', hr, h2, h3, h4⟩ := run_append_own_src (P := P) w base t tx o.type e i z size bytes ht hi hz hsize hby hzs hsz v n xs hown xv m news hsrc h63 hbytes hbase
  unfold Oper.wp execOp
  simp only [ho, resolve, invoke, builtin, Sem.run_bind, Sem.run_pure, Result.andThen_ok, List.map_toArray, List.map_cons, List.map_nil, hs, hx, hr]
  exact h v' w' h2 h3 h4
theorem LvsAt.keep {w w' : World} {bs : Nat → Nat} {v : Nat → Value} {T : Nat → List It} (h : LvsAt w bs v T) (hy : LvTy w bs T) (hk : ∀ (g : Nat) (cur : Array Value) (fz : Nat × Nat), w.heap[g]? = some (Obj.cells cur 152 fz) → w'.heap[g]? = w.heap[g]?) : LvsAt w' bs v T ∧ LvTy w' bs T := by
  refine ⟨fun j hj => (h j hj).of_block fun hl => ?_, fun j hj hl => ?_⟩
  · obtain ⟨cur, fz, hc⟩ := hy j hj hl; exact hk _ _ _ hc
  · obtain ⟨cur, fz, hc⟩ := hy j hj hl; exact ⟨cur, fz, (hk _ _ _ hc).trans hc⟩
theorem cell_keep {w : World} {M i : Nat} {x : Value} {cur0 : Array Value} {t : TypeId} {fz0 : Nat × Nat} (hM : w.heap[M]? = some (.cells cur0 t fz0)) {t2 : TypeId} (ht : t ≠ t2) : ∀ (g : Nat) (cur : Array Value) (fz : Nat × Nat), w.heap[g]? = some (Obj.cells cur t2 fz) → (w.setCell ⟨M, i, none⟩ x).heap[g]? = w.heap[g]? := fun g cur fz hg =>
  Go.Deep.blk_setCell_other _ _ _ _ (fun e => by rw [e, hM] at hg; simp at hg; exact ht hg.2.1)
/-- what came, by the leaves' terms -/
def gotG (ns : List Int) (L : Nat → Int) : Nat → Bool := fun j => match ns[j]? with | some z => z == L j | none => false
def haveT (g : Nat → Bool) (T : Nat → List It) : Nat → List It := fun j => if g j then T j else []
def haveV (g : Nat → Bool) (V : Nat → Int) : Nat → Int := fun j => if g j then V j else 0
theorem gotG_nil (L : Nat → Int) : gotG [] L = noG := by funext j; simp [gotG, noG]
theorem gotG_out {ns : List Int} {L : Nat → Int} {k : Nat} (hk : ns.length ≤ k) : gotG ns L k = false := by unfold gotG; rw [List.getElem?_eq_none hk]
theorem gotG_snoc {ns : List Int} {L : Nat → Int} {k : Nat} (hk : ns.length = k) (z : Int) : gotG (ns ++ [z]) L = upd (gotG ns L) k (z == L k) := by
  funext j
  unfold gotG upd
  by_cases h : j = k
  · rw [if_pos h, h, ← hk]; simp
  · rw [if_neg h]
    by_cases h2 : j < k
    · rw [List.getElem?_append_left (by omega)]
    · have e1 : (ns ++ [z])[j]? = none := List.getElem?_eq_none (by simp; omega)
      have e2 : ns[j]? = none := List.getElem?_eq_none (by omega)
      simp only [e1, e2]
theorem upd_same {α : Type} {f : Nat → α} {k : Nat} {x : α} (h : f k = x) : upd f k x = f := by
  funext j; unfold upd; split
  · next e => rw [e, h]
  · rfl
theorem haveT_upd (g : Nat → Bool) (T : Nat → List It) (k : Nat) : haveT (upd g k true) T = upd (haveT g T) k (T k) := by
  funext j; unfold haveT upd; by_cases e : j = k
  · simp [e]
  · simp [e]
theorem haveV_upd (g : Nat → Bool) (V : Nat → Int) (k : Nat) : haveV (upd g k true) V = upd (haveV g V) k (V k) := by
  funext j; unfold haveV upd; by_cases e : j = k
  · simp [e]
  · simp [e]
theorem haveT_no (T : Nat → List It) : haveT noG T = tOf [] := by rw [tOf_nil]; rfl
theorem haveV_no (V : Nat → Int) : haveV noG V = zeroV := rfl
/-- a crate -/
structure Cr where
  m : Mf
  g : Nat → Bool
  T : Nat → List It
  V : Nat → Int
def Cr.cells (x : Cr) (v : Nat → Value) : Array Value := crC x.m.a x.m.b x.m.c x.m.L x.g v x.V
def Cr.none : Cr := ⟨Mf.none, noG, tOf [], zeroV⟩
/-- what Begin hands back -/
def beginF (l : List ByteArray) (m : Mf) (T : Nat → List It) (V : Nat → Int) : List ByteArray × Cr × Int :=
  if (leavesT T V (List.range 16) l).2.2 ≠ 0 then ((leavesT T V (List.range 16) l).1, Cr.none, (leavesT T V (List.range 16) l).2.2)
  else ((leavesT T V (List.range 16) l).1, ⟨m, gotG (leavesT T V (List.range 16) l).2.1 m.L, haveT (gotG (leavesT T V (List.range 16) l).2.1 m.L) T, haveV (gotG (leavesT T V (List.range 16) l).2.1 m.L) V⟩, 0)
def CratePost (B bt bm : Nat) (tv : Value) (r : List ByteArray × Cr × Int) (w : World) (e : Ending) (w' : World) : Prop :=
  ∃ tv' bs v, e = .returned (.tuple #[.agg (r.2.1.cells v), .int .i64 r.2.2]) ∧ TabAt B bt bm tv' r.1 w' ∧ TabStep bt bm tv w tv' w' ∧ LvsAt w' bs v r.2.1.T ∧ LvTy w' bs r.2.1.T
theorem three_boxes {w : World} {xs ys : Array Value} {t t' : TypeId} (o : Obj) : (((w.alloc (.cells xs t)).alloc (.cells ys t')).alloc o).heap[w.heap.size]? = some (.cells xs t (0, 0)) ∧ (((w.alloc (.cells xs t)).alloc (.cells ys t')).alloc o).heap[w.heap.size + 1]? = some (.cells ys t' (0, 0)) ∧ (((w.alloc (.cells xs t)).alloc (.cells ys t')).alloc o).heap[w.heap.size + 1 + 1]? = some o := by
  refine ⟨(heap_alloc_old _ _ (by simp; omega)).trans two_boxes.1, (heap_alloc_old _ _ (by simp)).trans two_boxes.2, ?_⟩
  have := heap_alloc_new ((w.alloc (.cells xs t)).alloc (.cells ys t')) o
  rw [World.size_alloc, World.size_alloc] at this
  exact this
theorem zcr_one : (crC 0 0 0 zeroV noG nilV zeroV).all (·.oneCell') = true := by kernel_rfl
set_option maxHeartbeats 4000000 in
theorem pbegin_no (bt : Nat) (a b c : Int) (L : Nat → Int) (bs : Nat → Nat) (v : Nat → Value) (T : Nat → List It) (V : Nat → Int) (SB : Nat) (w : World) (hS : SignsAt SB w) (hSB : SB ≤ w.heap.size) (h : LvsAt w bs v T) (hno : trunkB T V = false) :
    Calls Tryz.prog 10 #[.agg (mfC a b c L), .agg (trC v V), .pointer (some ⟨bt, 0, none⟩)] w fun e w' => e = .returned (.tuple #[.agg (Cr.none.cells nilV), .int .i64 1]) ∧ Ext w w' := by
  have TM := Lib.hid fun (W : World) (hx : Ext w W) => tmay_any bs v T V SB W (hS.ext hx hSB) (Nat.le_trans hSB hx.size) (h.ext hx)
  rw [hno] at TM
  have HD : ∀ (o3 : Obj) (w1 : World), Ext (((w.alloc (.cells (mfC a b c L) 25)).alloc (.cells (trC v V) 29)).alloc o3) w1 → MfBlk w1 w.heap.size a b c L ∧ TrBlk w1 (w.heap.size + 1) v V ∧ (o3 = .cells (crC 0 0 0 zeroV noG nilV zeroV) 39 → CrBlk w1 (w.heap.size + 1 + 1) 0 0 0 zeroV noG nilV zeroV) := fun o3 w1 hx => ⟨(hx.below.block _ (lt_of_heap (three_boxes o3).1)).trans (three_boxes o3).1, (hx.below.block _ (lt_of_heap (three_boxes o3).2.1)).trans (three_boxes o3).2.1, fun e => (hx.below.block _ (lt_of_heap (three_boxes o3).2.2)).trans (by rw [← e]; exact (three_boxes o3).2.2)⟩
  have HD := Lib.hid HD
  have key : ∀ (W : World) (o3 : Obj), W = (((w.alloc (.cells (mfC a b c L) 25)).alloc (.cells (trC v V) 29)).alloc o3) → W.heap[w.heap.size + 1]? = some (.cells (trC v V) 29 (0, 0)) := fun W o3 e => by rw [e]; exact (HD.out _ _ (Ext.refl _)).2.1
  have KEY := Lib.hid key
  clear key
  clear h hno hS
  go_enter Tryz.func10, Tryz.ntmps10
  go_wp2_with (first
    | (refine wpList_load_row rfl 29 _ rfl (w.heap.size + 1) rfl 29 (trC v V) (0, 0) _ (KEY.out _ _ rfl) Tryz.underlying29 rfl (by kernel_rfl) ?_)
    | (go_at_call 52; refine (TM.out _ (by repeat (first | exact Ext.refl _ | apply Ext.alloc | apply Ext.more | apply Ext.drewN))).mono ?_; rintro e w1 ⟨rfl, hx⟩; have HX := Lib.hid (((((Ext.refl w).alloc _).alloc _).alloc _).trans hx); have HB := Lib.hid ((HD.out _ _ hx).2.2 (by kernel_rfl)); clear hx)
    | (refine wpList_buildTo rfl 39 #[] rfl _ rfl (crC 0 0 0 zeroV noG nilV zeroV) (by kernel_rfl) ?_)
    | (refine wpList_store_rowTo rfl 39 _ _ rfl rfl (w.heap.size + 1 + 1) (crC 0 0 0 zeroV noG nilV zeroV) rfl rfl 39 (crC 0 0 0 zeroV noG nilV zeroV) (HB.out) (by kernel_rfl) rfl (zcr_one) ?_))
  exact bodyPost_ret (results_cell_slot (p := 6) (q := 7) (ty := 39) rfl _ _ ⟨w.heap.size + 1 + 1, 0, none⟩ _ rfl (cr_load (HB.out.setRow 0 0 0 zeroV noG nilV zeroV)) _ rfl) rfl ⟨rfl, HX.out.setRow (Nat.le_add_right _ _) _⟩
set_option maxHeartbeats 8000000 in
theorem pbegin_any (B bt bm : Nat) (tv : Value) (l : List ByteArray) (a b c : Int) (L : Nat → Int) (bs : Nat → Nat) (v : Nat → Value) (T : Nat → List It) (V : Nat → Int) (SB PB : Nat) (w : World) (hT : TabAt B bt bm tv l w) (hS : SignsAt SB w) (hSB : SB ≤ B) (hP : Pow10 PB w) (hPB : PB ≤ B)
    (h : LvsAt w bs v T) (hy : LvTy w bs T) (hyes : trunkB T V = true) (hll : l.length ≤ 800) (r : List ByteArray × Cr × Int) (hr : beginF l ⟨a, b, c, L⟩ T V = r) :
    Calls Tryz.prog 10 #[.agg (mfC a b c L), .agg (trC v V), .pointer (some ⟨bt, 0, none⟩)] w (CratePost B bt bm tv r w) := by
  have hBw : B ≤ w.heap.size := by have h1 := hT.cells; obtain ⟨a1, _⟩ := hT; omega
  have TM := Lib.hid fun (W : World) (hx : Ext w W) => tmay_any bs v T V SB W (hS.ext hx (Nat.le_trans hSB hBw)) (Nat.le_trans (Nat.le_trans hSB hBw) hx.size) (h.ext hx)
  rw [hyes] at TM
  obtain ⟨q, hq⟩ : ∃ q, leavesT T V (List.range 16) l = q := ⟨_, rfl⟩
  unfold beginF at hr
  rw [hq] at hr
  obtain ⟨i1, hi1, hy0, hy1, hy2⟩ := info_parts itInfo
  have HQ := Lib.hid hq
  have HR := Lib.hid hr
  have HT := Lib.hid hT
  have HS := Lib.hid hS
  have HP := Lib.hid hP
  have HL := Lib.hid h
  have HY := Lib.hid hy
  have HYES := Lib.hid hyes
  have HD : ∀ (o3 : Obj) (w1 : World), Ext (((w.alloc (.cells (mfC a b c L) 25)).alloc (.cells (trC v V) 29)).alloc o3) w1 → MfBlk w1 w.heap.size a b c L ∧ TrBlk w1 (w.heap.size + 1) v V ∧ (o3 = .cells (crC 0 0 0 zeroV noG nilV zeroV) 39 → CrBlk w1 (w.heap.size + 1 + 1) 0 0 0 zeroV noG nilV zeroV) := fun o3 w1 hx => ⟨(hx.below.block _ (lt_of_heap (three_boxes o3).1)).trans (three_boxes o3).1, (hx.below.block _ (lt_of_heap (three_boxes o3).2.1)).trans (three_boxes o3).2.1, fun e => (hx.below.block _ (lt_of_heap (three_boxes o3).2.2)).trans (by rw [← e]; exact (three_boxes o3).2.2)⟩
  have HD := Lib.hid HD
  have key : ∀ (W : World) (o3 : Obj), W = (((w.alloc (.cells (mfC a b c L) 25)).alloc (.cells (trC v V) 29)).alloc o3) → W.heap[w.heap.size + 1]? = some (.cells (trC v V) 29 (0, 0)) := fun W o3 e => by rw [e]; exact (HD.out _ _ (Ext.refl _)).2.1
  have KEY := Lib.hid key
  clear key
  clear h hy hyes hq hr hT hS hP
  go_enter Tryz.func10, Tryz.ntmps10
  go_wp2_with (first
    | (refine wpList_load_row rfl 29 _ rfl (w.heap.size + 1) rfl 29 (trC v V) (0, 0) _ (KEY.out _ _ rfl) Tryz.underlying29 rfl (by kernel_rfl) ?_)
    | (go_at_call 52; refine (TM.out _ (by repeat (first | exact Ext.refl _ | apply Ext.alloc | apply Ext.more | apply Ext.drewN))).mono ?_; rintro e w1 ⟨rfl, hx⟩; have HX := Lib.hid (((((Ext.refl w).alloc _).alloc _).alloc _).trans hx); obtain ⟨h1, h2, h3⟩ := HD.out _ _ hx; have h3 := h3 (by kernel_rfl); have HA := Lib.hid h1; have HB := Lib.hid h2; have HC := Lib.hid h3; have hwz := lt_of_heap h3; clear hx h1 h2 h3)
    | (refine wpList_load_row rfl 25 _ rfl (w.heap.size) rfl 25 (mfC a b c L) (0, 0) _ (HA.out) Tryz.underlying25 rfl (by kernel_rfl) ?_)
    | (refine wpList_buildTo rfl 39 _ rfl _ rfl (crC a b c L noG nilV zeroV) (by kernel_rfl) ?_)
    | (refine wpList_store_rowTo rfl 39 _ _ rfl rfl (w1.heap.size) (crC a b c L noG nilV zeroV) rfl rfl 39 (crC 0 0 0 zeroV noG nilV zeroV) (heap_alloc_new w1 _) (by kernel_rfl) rfl (crC_one _ _ _ _ _ _ _ nil_one) ?_)
    | (refine wpList_load_part rfl 27 _ rfl (w.heap.size + 1) 0 rfl 29 (trC v V) (lvL v) (0, 0) _ ((HB.out.ext (((Ext.refl w1).alloc _).setRow (Nat.le_refl _) _))) Tryz.underlying27 rfl (by kernel_rfl) (lvL_get v V) ?_))
  obtain ⟨N, hN⟩ : ∃ N, w.heap.size = N := ⟨_, rfl⟩
  obtain ⟨M, hM⟩ : ∃ M, w1.heap.size = M := ⟨_, rfl⟩
  have HN := Lib.hid hN
  have hNM : N + 1 + 1 < M := by omega
  rw [hN] at HA HB HC
  go_loopw [21] (fun ii wr => ∃ (k : Nat) (lk : List ByteArray) (tvk : Value) (ns : List Int) (bsk : Nat → Nat) (vk : Nat → Value), ii = .int .i64 (k : Int) ∧ k ≤ 16 ∧ Hid (TabAt B bt bm tvk lk wr ∧ TabStep bt bm tv w tvk wr ∧ (MfBlk wr N a b c L ∧ TrBlk wr (N + 1) v V ∧ CrBlk wr (N + 1 + 1) 0 0 0 zeroV noG nilV zeroV ∧ CrBlk wr M a b c L (gotG ns L) vk (haveV (gotG ns L) V)) ∧ (LvsAt wr bsk vk (haveT (gotG ns L) T) ∧ LvTy wr bsk (haveT (gotG ns L) T)) ∧ ns.length = k ∧ (∀ z ∈ ns, 0 ≤ z ∧ z ≤ 1000) ∧ lk.length ≤ l.length + 9 * k ∧ preT ns (leavesT T V ((List.range 16).drop k) lk) = q)) (fun ii _ => 16 - (intOf ii).toNat)
  case atStart =>
    have hx1 := (Ext.refl w1).alloc (.cells (crC 0 0 0 zeroV noG nilV zeroV) 39)
    have hx2 := hx1.setRow (g := w1.heap.size) (Nat.le_refl _) (crC a b c L noG nilV zeroV)
    have hm := CrBlk.setRow (heap_alloc_new w1 (.cells (crC 0 0 0 zeroV noG nilV zeroV) 39)) a b c L noG nilV zeroV
    refine ⟨0, l, tv, [], fun _ => 0, nilV, rfl, Nat.zero_le _, Lib.hid ⟨HT.out.ext (HX.out.trans hx2), (TabStep.refl bt bm tv w).ext (HX.out.trans hx2), ⟨HA.out.ext hx2, HB.out.ext hx2, HC.out.ext hx2, ?_⟩, ?_, rfl, by simp, by omega, by rw [List.drop_zero, ← preL_nil]; exact HQ.out⟩⟩
    · rw [gotG_nil, haveV_no, ← hM]; exact hm
    · rw [gotG_nil, haveT_no]; exact ⟨lvs_nil _ _, lvty_nil _ _⟩
  case round =>
    obtain ⟨k, lk, tvk, ns, bsk, vk, rfl, hk16, hH⟩ := hrel
    rw [hN, hM]
    clear hN hM
    have hbl := hH.out.2.1.below HT.out
    have hkI2 : (k : Int) ≤ 16 := by omega
    obtain ⟨hA, hB, hC, hD⟩ := hH.out.2.2.1
    have HA3 := Lib.hid hA
    have HB3 := Lib.hid hB
    have HC3 := Lib.hid hC
    have HD3 := Lib.hid hD
    clear hA hB hC hD
    by_cases hk : k < 16
    · have hcv := HB3.out.ver k hk
      have hNw : N + 1 < wr.heap.size := lt_of_heap HB3.out
      have hix := fun W => idx_lv v k hk W
      have hkI : (k : Int) < 16 := by omega
      have hk0 : (0 : Int) ≤ (k : Int) := by omega
      obtain ⟨ro, hro⟩ : ∃ ro, leafT lk (T k) (V k) = ro := ⟨_, rfl⟩
      obtain ⟨fl, f0, f1⟩ := fits_parts (trunk_fits HYES.out k hk)
      have LC := Lib.hid (rleaf_any B bt bm tvk lk (bs k) (v k) (T k) (V k) SB PB wr hH.out.1 (HS.out.below hbl hSB) hSB (HP.out.below hbl hPB) hPB (lf_tab HT.out hH.out.2.1.1 HL.out HY.out hk) fl f0 f1 ro hro)
      have hbd := leafT_len lk (T k) (V k) (leafB_may fl).1
      have H64 := Lib.hid (leafB_may fl).1
      rw [hro] at hbd
      have HRO := Lib.hid hro
      have HBD := Lib.hid hbd
      obtain ⟨l3, n3, e3⟩ := ro
      dsimp only at hbd
      have hn3 : (n3 : Int) ≤ 1000 := by have := hH.out.2.2.2.2.2.2.1; omega
      clear hro hbd fl f0 f1 hbl
      by_cases he : e3 = 0
      case neg =>
        have he' : (e3 != 0) = true := by simpa using he
        have hre : r = (l3, Cr.none, e3) := by
          have h1 := hH.out.2.2.2.2.2.2.2
          rw [drop_range k hk, preL_err (by rw [HRO.out]; exact he), HRO.out] at h1
          have h2 := HR.out
          rw [← h1] at h2
          simp only [ne_eq, he, not_false_eq_true, if_true] at h2
          exact h2.symm
        have HRE := Lib.hid hre
        clear he hre
        go_wp2_with (first
    | (go_at_call 34; refine (LC.out).mono ?_; rintro e w3 ⟨rfl, tv3, ht3, hk3, ho3⟩; have H3 := Lib.hid (And.intro ht3 (And.intro hk3 ho3)); have HKT := Lib.hid (fun (g : Nat) (cur : Array Value) (ty : TypeId) (fz : Nat × Nat) (hb : wr.heap[g]? = some (.cells cur ty fz)) (h1 : ty ≠ 132) (h2 : ty ≠ 9) => (kept_ty hH.out.1 hk3 hb h1 h2).trans hb); have HB4 : Hid (CrBlk w3 (N + 1 + 1) 0 0 0 zeroV noG nilV zeroV) := Lib.hid (HKT.out _ _ _ _ HC3.out (by decide) (by decide)); clear ht3 hk3 ho3)
    | (refine wpList_buildTo rfl 39 #[] rfl _ rfl (crC 0 0 0 zeroV noG nilV zeroV) (by kernel_rfl) ?_)
    | (refine wpList_store_rowTo rfl 39 _ _ rfl rfl (N + 1 + 1) (crC 0 0 0 zeroV noG nilV zeroV) rfl rfl 39 (crC 0 0 0 zeroV noG nilV zeroV) (HB4.out) (by kernel_rfl) rfl (zcr_one) ?_))
        rw [HRE.out]
        have hta := tab_after H3.out.1 (hH.out.2.1.trans ⟨H3.out.2.1, H3.out.2.2⟩) (grown_row w3 (N + 1 + 1) (crC 0 0 0 zeroV noG nilV zeroV)) (by rw [HN.out]; omega) HB4.out (by decide) (by decide)
        exact bodyPost_ret (results_cell_slot (p := 6) (q := 7) (ty := 39) rfl _ _ ⟨N + 1 + 1, 0, none⟩ _ rfl (cr_load (HB4.out.setRow 0 0 0 zeroV noG nilV zeroV)) _ rfl) rfl ⟨tv3, fun _ => 0, nilV, rfl, hta.1, hta.2, lvs_nil _ _, lvty_nil _ _⟩
      subst he
      have hgo : gotG ns L k = false := gotG_out (by rw [hH.out.2.2.2.2.1]; exact Nat.le_refl _)
      have HGO := Lib.hid hgo
      clear hgo
      by_cases heq : (n3 : Int) = L k
      case neg =>
        have HEQ := Lib.hid (show ((n3 : Int) == L k) = false by simpa using heq)
        go_wp2_with (first
    | (go_at_call 34; refine (LC.out).mono ?_; rintro e w3 ⟨rfl, tv3, ht3, hk3, ho3⟩; have H3 := Lib.hid (And.intro ht3 (And.intro hk3 ho3)); have HKT := Lib.hid (fun (g : Nat) (cur : Array Value) (ty : TypeId) (fz : Nat × Nat) (hb : wr.heap[g]? = some (.cells cur ty fz)) (h1 : ty ≠ 132) (h2 : ty ≠ 9) => (kept_ty hH.out.1 hk3 hb h1 h2).trans hb); have HD4 : Hid (CrBlk w3 M a b c L (gotG ns L) vk (haveV (gotG ns L) V)) := Lib.hid (HKT.out _ _ _ _ HD3.out (by decide) (by decide)); have hc4 := (HD4.out.cell (19 + k)).trans (crC_getG _ _ _ _ _ _ _ k hk); have hf4 := HD4.out.frozen (19 + k); have hMw := lt_of_heap HD4.out; have hA4 : MfBlk w3 N a b c L := HKT.out _ _ _ _ HA3.out (by decide) (by decide); have hcL := (hA4.cell (3 + k)).trans (mfC_get a b c L k hk); have hNw3 := lt_of_heap hA4; clear hA4 ht3 hk3 ho3))
        go_roundw
        case rel =>
          have hst := hH.out.2.1.trans ⟨H3.out.2.1, H3.out.2.2⟩
          have hlv := LvsAt.keep hH.out.2.2.2.1.1 hH.out.2.2.2.1.2 (fun g cur fz hg => kept_ty hH.out.1 H3.out.2.1 hg (by decide) (by decide))
          refine ⟨k + 1, l3, tv3, ns ++ [(n3 : Int)], bsk, vk, by go_num, by omega, Lib.hid ⟨H3.out.1, hst, ⟨HKT.out _ _ _ _ HA3.out (by decide) (by decide), HKT.out _ _ _ _ HB3.out (by decide) (by decide), HKT.out _ _ _ _ HC3.out (by decide) (by decide), ?_⟩, ?_, by simp [hH.out.2.2.2.2.1], ?_, ?_, ?_⟩⟩
          · rw [gotG_snoc hH.out.2.2.2.2.1, HEQ.out, upd_same HGO.out]; exact HKT.out _ _ _ _ HD3.out (by decide) (by decide)
          · rw [gotG_snoc hH.out.2.2.2.2.1, HEQ.out, upd_same HGO.out]; exact hlv
          · intro z hz
            rcases List.mem_append.1 hz with h | h
            · exact hH.out.2.2.2.2.2.1 z h
            · simp at h; subst h; omega
          · have h1 := hH.out.2.2.2.2.2.2.1
            have h2 := HBD.out.1
            (try dsimp only at h2)
            omega
          · have h1 := hH.out.2.2.2.2.2.2.2
            rw [drop_range k hk, preL_step (by rw [HRO.out]), HRO.out] at h1
            exact h1
        case measure => simp [intOf]; omega
      have HEQ := Lib.hid (show ((n3 : Int) == L k) = true by simpa using heq)
      go_wp2_with (first
    | (go_at_call 34; refine (LC.out).mono ?_; rintro e w3 ⟨rfl, tv3, ht3, hk3, ho3⟩; have H3 := Lib.hid (And.intro ht3 (And.intro hk3 ho3)); have HKT := Lib.hid (fun (g : Nat) (cur : Array Value) (ty : TypeId) (fz : Nat × Nat) (hb : wr.heap[g]? = some (.cells cur ty fz)) (h1 : ty ≠ 132) (h2 : ty ≠ 9) => (kept_ty hH.out.1 hk3 hb h1 h2).trans hb); have HD4 : Hid (CrBlk w3 M a b c L (gotG ns L) vk (haveV (gotG ns L) V)) := Lib.hid (HKT.out _ _ _ _ HD3.out (by decide) (by decide)); have hc4 := (HD4.out.cell (19 + k)).trans (crC_getG _ _ _ _ _ _ _ k hk); have hf4 := HD4.out.frozen (19 + k); have hMw := lt_of_heap HD4.out; have hA4 : MfBlk w3 N a b c L := HKT.out _ _ _ _ HA3.out (by decide) (by decide); have hcL := (hA4.cell (3 + k)).trans (mfC_get a b c L k hk); have hNw3 := lt_of_heap hA4; clear hA4 ht3 hk3 ho3))
      have hlf := HL.out k hk
      have hsrc0 := lf_tab HT.out (TabStep.trans hH.out.2.1 ⟨H3.out.2.1, H3.out.2.2⟩).1 HL.out HY.out hk
      have H1A : MfBlk (w3.setCell ⟨M, 19 + k, none⟩ (.bool true)) N a b c L := MfBlk.other (HKT.out _ _ _ _ HA3.out (by decide) (by decide)) (show N ≠ M by omega) _
      have H1B : TrBlk (w3.setCell ⟨M, 19 + k, none⟩ (.bool true)) (N + 1) v V := TrBlk.other (HKT.out _ _ _ _ HB3.out (by decide) (by decide)) (show N + 1 ≠ M by omega) _
      have H1C : CrBlk (w3.setCell ⟨M, 19 + k, none⟩ (.bool true)) (N + 1 + 1) 0 0 0 zeroV noG nilV zeroV := CrBlk.other (HKT.out _ _ _ _ HC3.out (by decide) (by decide)) (show N + 1 + 1 ≠ M by omega) _
      have H1D : CrBlk (w3.setCell ⟨M, 19 + k, none⟩ (.bool true)) M a b c L (upd (gotG ns L) k true) vk (haveV (gotG ns L) V) := HD4.out.setG k hk true
      have hck := cell_keep (i := 19 + k) (x := .bool true) HD4.out (t2 := 152) (by decide)
      have hsrc1 : LfAt (w3.setCell ⟨M, 19 + k, none⟩ (.bool true)) (bs k) (v k) (T k) := hsrc0.of_block (fun hl => by
        obtain ⟨cur, fz, hc⟩ := HY.out k hk hl
        exact hck _ cur fz ((kept_ty HT.out (TabStep.trans hH.out.2.1 ⟨H3.out.2.1, H3.out.2.2⟩).1 hc (by decide) (by decide)).trans hc))
      have hlv3 := LvsAt.keep hH.out.2.2.2.1.1 hH.out.2.2.2.1.2 (fun g cur fz hg => kept_ty hH.out.1 H3.out.2.1 hg (by decide) (by decide))
      have hlv4 := LvsAt.keep hlv3.1 hlv3.2 hck
      have hta := tab_after H3.out.1 (hH.out.2.1.trans ⟨H3.out.2.1, H3.out.2.2⟩) (grown_cellw w3 M (19 + k) (.bool true)) (by rw [HN.out]; omega) HD4.out (by decide) (by decide)
      obtain ⟨W1, hW1⟩ : ∃ W1, w3.setCell ⟨M, 19 + k, none⟩ (.bool true) = W1 := ⟨_, rfl⟩
      rw [hW1] at H1A H1B H1C H1D hsrc1 hlv4 hta ⊢
      have HA5 := Lib.hid H1A
      have HB5 := Lib.hid H1B
      have HC5 := Lib.hid H1C
      have HD5 := Lib.hid H1D
      have HLV5 := Lib.hid hlv4
      have HTA5 := Lib.hid hta
      have hsr := hsrc1
      have p0 := H1B.ver k hk
      have hMw := lt_of_heap H1D
      have hNw1 := lt_of_heap H1B
      have hit := hlf.1
      obtain ⟨pk, ck, hvk⟩ : ∃ p cap, v k = .slice p (T k).length cap := by obtain ⟨_, p, cap, e, _⟩ := hlf; exact ⟨p, cap, e⟩
      have h64 := H64.out
      have hlen1 : (T k).length ≤ 64 := h64
      rw [hvk] at hsr
      clear hck hsrc0 hsrc1 hlv3 hlv4 hta H1A H1B H1C H1D hW1 hlf hf4 hc4 h64 hcv hix
      have HIT := Lib.hid hit
      have HSR := Lib.hid hsr
      clear hit hsr
      have HSRC := Lib.hid fun (W : World) (hx : Ext W1 W) => lf_src (LfAt.ext HSR.out hx)
      go_region_held_law (fun w' => w'.cell? ⟨N + 1, 16 + k, none⟩ = some (.int .i64 (V k))) (first
          | exact m0
          | (unfold World.cell?; rw [Go.Deep.blk_setCell_other _ _ _ _ (show N + 1 ≠ M by omega)]; exact m0)
          | (unfold World.cell?; rw [Go.Deep.blk_setCell_other _ _ _ _ (show N + 1 ≠ M by omega), Go.Deep.blk_setCell_other _ _ _ _ (show N + 1 ≠ M by omega)]; exact m0)
          | exact cell_ext p0 (by repeat (first | exact Ext.refl _ | apply Ext.alloc | apply Ext.drew)))
        ((refine step_append_src rfl _ _ 26 26 rfl (N + 1) 152 i1 (.agg #[.string ⟨#[]⟩, .int .i64 0, .int .i64 0, .string ⟨#[]⟩, .int .i64 0]) 5 56 Tryz.underlying26 hi1 hy0 hy1 hy2 rfl (by decide) (.slice none 0 0) 0 [] rfl (World.ownsRow_nil _ _ _ _) _ (T k).length (itCells (T k)) rfl (HSRC.out _ (by repeat (first | exact Ext.refl _ | apply Ext.alloc | apply Ext.drew))) (by unfold maxLen; omega) (by omega) (by simp <;> omega) ?_; intro v4 w4 hown4 hgrow4 hb4; have hx4 : Ext W1 w4 := Ext.grown (by repeat (first | exact Ext.refl _ | apply Ext.alloc | apply Ext.drew)) hgrow4 (fun q hq => by cases hq); have m0 := cell_ext p0 hx4; obtain ⟨p4, c4, hv4⟩ := own_sl hown4; subst hv4; have c35 := (HD5.out.ext hx4).cellLeaf k hk; have c51 := (HD5.out.ext hx4).cellVer k hk; have f35 := (HD5.out.ext hx4).frozen (35 + k); have f51 := (HD5.out.ext hx4).frozen (51 + k); have hM4 := lt_of_heap (HD5.out.ext hx4)))
      have hD6 := HD5.out.ext hx4
      have hD7 := hD6.setLeaf k hk (.slice p4 (0 + (T k).length) c4)
      have hD8 := hD7.setVer k hk (V k)
      have t1 := tab_after (HTA5.out.1.ext hx4) (HTA5.out.2.ext hx4) (grown_cellw w4 M (35 + k) (.slice p4 (0 + (T k).length) c4)) (by rw [HN.out]; omega) hD6 (by decide) (by decide)
      have t2 := tab_after t1.1 t1.2 (grown_cellw _ M (51 + k) (.int .i64 (V k))) (by rw [HN.out]; omega) hD7 (by decide) (by decide)
      obtain ⟨b1, o1, o2, _⟩ := own_lf (n := (T k).length) (l := T k) (by simpa using hown4) rfl HIT.out
      obtain ⟨e1, e2⟩ := LvsAt.upd (HLV5.out.1.ext hx4) (HLV5.out.2.ext hx4) (k := k) o1 o2
      obtain ⟨e3, e4⟩ := LvsAt.keep e1 e2 (cell_keep (i := 35 + k) (x := .slice p4 (0 + (T k).length) c4) hD6 (by decide))
      obtain ⟨e5, e6⟩ := LvsAt.keep e3 e4 (cell_keep (i := 51 + k) (x := .int .i64 (V k)) hD7 (by decide))
      have hA8 := ((HA5.out.ext hx4).other (i := 35 + k) (show N ≠ M by omega) (.slice p4 (0 + (T k).length) c4)).other (i := 51 + k) (show N ≠ M by omega) (.int .i64 (V k))
      have hB8 := ((HB5.out.ext hx4).other (i := 35 + k) (show N + 1 ≠ M by omega) (.slice p4 (0 + (T k).length) c4)).other (i := 51 + k) (show N + 1 ≠ M by omega) (.int .i64 (V k))
      have hC8 := ((HC5.out.ext hx4).other (i := 35 + k) (show N + 1 + 1 ≠ M by omega) (.slice p4 (0 + (T k).length) c4)).other (i := 51 + k) (show N + 1 + 1 ≠ M by omega) (.int .i64 (V k))
      simp only [Nat.zero_add] at hA8 hB8 hC8 hD8 t2 e5 e6
      have H8 := Lib.hid (And.intro hA8 (And.intro hB8 (And.intro hC8 hD8)))
      have HT8 := Lib.hid t2
      have HL8 := Lib.hid (And.intro e5 e6)
      clear hD6 hD7 hD8 t1 t2 o1 o2 e1 e2 e3 e4 e5 e6 hA8 hB8 hC8 m0 c35 c51 f35 f51 hown4 hgrow4 hb4
      go_wp2_with fail
      go_roundw
      case rel =>
        refine ⟨k + 1, l3, tv3, ns ++ [(n3 : Int)], upd bsk k b1, upd vk k (.slice p4 (T k).length c4), by go_num, by omega, Lib.hid ⟨HT8.out.1, HT8.out.2, ⟨H8.out.1, H8.out.2.1, H8.out.2.2.1, ?_⟩, ?_, by simp [hH.out.2.2.2.2.1], ?_, ?_, ?_⟩⟩
        · rw [gotG_snoc hH.out.2.2.2.2.1, HEQ.out, haveV_upd]; exact H8.out.2.2.2
        · rw [gotG_snoc hH.out.2.2.2.2.1, HEQ.out, haveT_upd]; exact HL8.out
        · intro z hz
          rcases List.mem_append.1 hz with h | h
          · exact hH.out.2.2.2.2.2.1 z h
          · simp at h; subst h; omega
        · have h1 := hH.out.2.2.2.2.2.2.1
          have h2 := HBD.out.1
          (try dsimp only at h2)
          omega
        · have h1 := hH.out.2.2.2.2.2.2.2
          rw [drop_range k hk, preL_step (by rw [HRO.out]), HRO.out] at h1
          exact h1
      case measure => simp [intOf]; omega
    have hkn : k = 16 := by omega
    have hqq : q = (lk, ns, 0) := by
      have h1 := hH.out.2.2.2.2.2.2.2
      rw [hkn] at h1
      rw [← h1, show (List.range 16).drop 16 = [] from rfl]
      simp [leavesT, preT]
    have hr2 := HR.out
    rw [hqq] at hr2
    simp only [ne_eq, not_true_eq_false, if_false] at hr2
    have HR2 := Lib.hid hr2
    clear hqq hr2 hbl
    subst hkn
    go_wp2_with (first
    | (refine wpList_load_row rfl 39 _ rfl (M) rfl 39 (crC a b c L (gotG ns L) vk (haveV (gotG ns L) V)) (0, 0) _ (HD3.out) Tryz.underlying39 rfl (by kernel_rfl) ?_)
    | (refine wpList_store_rowTo rfl 39 _ _ rfl rfl (N + 1 + 1) (crC a b c L (gotG ns L) vk (haveV (gotG ns L) V)) rfl rfl 39 (crC 0 0 0 zeroV noG nilV zeroV) (HC3.out) (by kernel_rfl) rfl (crC_one _ _ _ _ _ _ _ hH.out.2.2.2.1.1.one) ?_))
    rw [← HR2.out]
    have hta := tab_after hH.out.1 hH.out.2.1 (grown_row wr (N + 1 + 1) (crC a b c L (gotG ns L) vk (haveV (gotG ns L) V))) (by rw [HN.out]; omega) HC3.out (by decide) (by decide)
    obtain ⟨e1, e2⟩ := LvsAt.rowT hH.out.2.2.2.1.1 hH.out.2.2.2.1.2 HC3.out (by decide) (crC a b c L (gotG ns L) vk (haveV (gotG ns L) V))
    exact bodyPost_ret (results_cell_slot (p := 6) (q := 7) (ty := 39) rfl _ _ ⟨N + 1 + 1, 0, none⟩ _ rfl (cr_load (HC3.out.setRow a b c L (gotG ns L) vk (haveV (gotG ns L) V))) _ rfl) rfl ⟨tvk, bsk, vk, rfl, hta.1, hta.2, e1, e2⟩
end Go.Proofs.YtpchohjkelopoaaGreatDoor

set_option maxRecDepth 20000
namespace Go.Proofs.YtpchohjkelopoaaGreatDoor
open Go.RowKit
attribute [go_sem] more_more Array.size_append
theorem row_range {w : World} {N : Nat} {cs : Array Value} {t : TypeId} {fr : Nat × Nat} (h : w.heap[N]? = some (.cells cs t fr)) : w.rangeAt N 0 cs.toList := by
  have := World.rangeAt_of_block (w := w) h 0 cs.size
  simpa using this
/-- a block of 16 numbers -/
def AvBlk (w : World) (N : Nat) (L : Nat → Int) : Prop := w.heap[N]? = some (.cells (lsC L) 23 (0, 0))
theorem lsC_set (L : Nat → Int) (k : Nat) (hk : k < 16) (z : Int) : (lsC L).setIfInBounds k (.int .i64 z) = lsC (upd L k z) := by
  match k, hk with
  | 0, _ => rfl
  | 1, _ => rfl
  | 2, _ => rfl
  | 3, _ => rfl
  | 4, _ => rfl
  | 5, _ => rfl
  | 6, _ => rfl
  | 7, _ => rfl
  | 8, _ => rfl
  | 9, _ => rfl
  | 10, _ => rfl
  | 11, _ => rfl
  | 12, _ => rfl
  | 13, _ => rfl
  | 14, _ => rfl
  | 15, _ => rfl
  | k + 16, h => exact absurd h (by omega)
theorem AvBlk.ext {w w' : World} {N : Nat} {L : Nat → Int} (h : AvBlk w N L) (hx : Ext w w') : AvBlk w' N L := by
  unfold AvBlk at h ⊢
  rw [hx.below.block N (lt_of_heap h)]; exact h
theorem AvBlk.cell {w : World} {N : Nat} {L : Nat → Int} (h : AvBlk w N L) (k : Nat) (hk : k < 16) : w.cell? ⟨N, k, none⟩ = some (.int .i64 (L k)) := (cell_of_row w N k _ _ _ h).trans (lsC_get L k hk)
theorem AvBlk.frozen {w : World} {N : Nat} {L : Nat → Int} (h : AvBlk w N L) (j : Nat) : w.frozen? ⟨N, j, none⟩ = false := by
  unfold AvBlk at h
  simp [World.frozen?, h]
theorem AvBlk.set {w : World} {N : Nat} {L : Nat → Int} (h : AvBlk w N L) (k : Nat) (hk : k < 16) (z : Int) : AvBlk (w.setCell ⟨N, k, none⟩ (.int .i64 z)) N (upd L k z) := by
  unfold AvBlk at h ⊢
  rw [← lsC_set L k hk z]
  simp [World.setCell, Array.getElem?_modify, h]
theorem AvBlk.other {w : World} {N M i : Nat} {L : Nat → Int} (h : AvBlk w N L) (hne : N ≠ M) (x : Value) : AvBlk (w.setCell ⟨M, i, none⟩ x) N L := by
  unfold AvBlk at h ⊢
  rw [Go.Deep.blk_setCell_other _ _ _ _ hne]; exact h
theorem AvBlk.setRow {w : World} {N : Nat} {L : Nat → Int} (h : AvBlk w N L) (L' : Nat → Int) : AvBlk (w.setRow N (lsC L')) N L' := setRow_heap w N _ _ _ _ h
theorem av_load {w : World} {N : Nat} {L : Nat → Int} (h : AvBlk w N L) : (loadVar 23 ⟨N, 0, none⟩).run Tryz.prog w = .ok (.agg (lsC L)) w :=
  run_loadVar_row w N 23 23 (lsC L) (0, 0) _ h Tryz.underlying23 rfl (by kernel_rfl)
theorem ls_all (L : Nat → Int) : (lsC L).all (·.oneCell') = true := by kernel_rfl
/-- a row of texts stays behind a write into a block of another type -/
theorem own_afterC {w : World} {B n size : Nat} {v : Value} {xs : List Value} (h : w.ownsRow B 9 size v n xs) {M i : Nat} {cur : Array Value} {t : TypeId} {fz : Nat × Nat} (hM : w.heap[M]? = some (.cells cur t fz)) (ht : t ≠ 9) (x : Value) : (w.setCell ⟨M, i, none⟩ x).ownsRow B 9 size v n xs :=
  own_block h (fun q hq => Go.Deep.blk_setCell_other _ _ _ _ (fun e => by
    obtain ⟨cur2, hc⟩ := own_type h hq
    rw [e, hM] at hc; simp at hc; exact ht hc.2.1))
theorem own_afterR {w : World} {B n size : Nat} {v : Value} {xs : List Value} (h : w.ownsRow B 9 size v n xs) {M : Nat} {cur : Array Value} {t : TypeId} {fz : Nat × Nat} (hM : w.heap[M]? = some (.cells cur t fz)) (ht : t ≠ 9) (x : Array Value) : (w.setRow M x).ownsRow B 9 size v n xs :=
  own_block h (fun q hq => setRow_other _ _ _ _ (fun e => by
    obtain ⟨cur2, hc⟩ := own_type h hq
    rw [e, hM] at hc; simp at hc; exact ht hc.2.1))
def RLeavesPost (B : Nat) (lv : Value) (r : List ByteArray × List Int × Int) (w : World) (e : Ending) (w' : World) : Prop :=
  ∃ v', e = .returned (.tuple #[v', .agg (lsC (nsF r.2.1)), .int .i64 r.2.2]) ∧ w'.ownsRow B 9 1 v' r.1.length (r.1.map Value.string) ∧ w.grownBy w' lv.ownBlock ∧ (v'.ownBlock = lv.ownBlock ∨ ∃ k, v'.ownBlock = some k ∧ w.heap.size ≤ k)
theorem results_slot_cell_slot {fn : Func} {p q r : Tmp} {ty : TypeId} (h : fn.results = #[.tmp r, .cell p ty, .tmp q]) (tmps : Array Value) (w : World) (a : Addr) (x0 : Value)
    (hp : tmps.getD p undef = .pointer (some a)) (hl : (loadVar ty a).run Tryz.prog w = .ok x0 w) (x y : Value) (hx : tmps.getD q undef = x) (hy : tmps.getD r undef = y) :
    (results fn tmps).run Tryz.prog w = .ok (.tuple #[y, x0, x]) w := by
  have hp' : tmps[p]?.getD undef = .pointer (some a) := by simpa using hp
  have hx' : tmps[q]?.getD undef = x := by simpa using hx
  have hy' : tmps[r]?.getD undef = y := by simpa using hy
  simp [results, h, hp', hx', hy', asAddr, hl]
set_option maxHeartbeats 4000000 in
theorem rleaves15_any (B : Nat) (lv : Value) (l : List ByteArray) (bs : Nat → Nat) (v : Nat → Value) (T : Nat → List It) (V : Nat → Int) (w : World) (hBw : B ≤ w.heap.size) (hown : w.ownsRow B 9 1 lv l.length (l.map Value.string)) (hll : l.length ≤ 700)
    (h : LvsAt w bs v T) (hy : LvTy w bs T) (hyes : trunkB T V = true) (q : List ByteArray × List Int × Int) (hq : leavesT T V (List.range 16) l = q) :
    Calls Tryz.prog 56 #[lv, .agg (trC v V)] w (RLeavesPost B lv q w) := by
  have HQ := Lib.hid hq
  have HOWN := Lib.hid hown
  have HL := Lib.hid h
  have HY := Lib.hid hy
  have HYES := Lib.hid hyes
  have HD : ∀ (o3 : Obj) (W : World), W = (((w.alloc (.cells (trC v V) 29)).alloc (.cells (lsC zeroV) 23)).alloc o3) → TrBlk W w.heap.size v V ∧ AvBlk W (w.heap.size + 1) zeroV ∧ W.heap[w.heap.size + 1 + 1]? = some o3 ∧ Ext w W := fun o3 W e => by
    rw [e]; exact ⟨(three_boxes o3).1, (three_boxes o3).2.1, (three_boxes o3).2.2, ((((Ext.refl w).alloc _).alloc _).alloc _)⟩
  clear h hy hyes hq hown
  go_enter Tryz.func56, Tryz.ntmps56
  go_wp2_with fail
  obtain ⟨N, hN⟩ : ∃ N, w.heap.size = N := ⟨_, rfl⟩
  have HN := Lib.hid hN
  rw [hN] at HD
  go_loopw [0, 8] (fun lw ii wr => ∃ (k : Nat) (lk : List ByteArray) (ns : List Int), ii = .int .i64 (k : Int) ∧ k ≤ 16 ∧ Hid (wr.ownsRow B 9 1 lw lk.length (lk.map Value.string) ∧ w.grownBy wr lv.ownBlock ∧ (lw.ownBlock = lv.ownBlock ∨ ∃ k, lw.ownBlock = some k ∧ w.heap.size ≤ k) ∧ (TrBlk wr N v V ∧ AvBlk wr (N + 1) zeroV ∧ AvBlk wr (N + 1 + 1) (nsF ns)) ∧ ns.length = k ∧ (∀ z ∈ ns, 0 ≤ z ∧ z ≤ 1000) ∧ lk.length ≤ l.length + 9 * k ∧ preT ns (leavesT T V ((List.range 16).drop k) lk) = q)) (fun _ ii _ => 16 - (intOf ii).toNat)
  case atStart =>
    obtain ⟨h1, h2, h3, h4⟩ := HD _ _ rfl
    exact ⟨0, l, [], rfl, Nat.zero_le _, Lib.hid ⟨own_ext HOWN.out h4, rstep_ext h4, Or.inl rfl, ⟨h1, h2, by rw [nsF_nil]; exact h3⟩, rfl, by simp, by omega, by rw [List.drop_zero, ← preL_nil]; exact HQ.out⟩⟩
  case round =>
    obtain ⟨k, lk, ns, rfl, hk16, hH⟩ := hrel
    rw [hN]
    clear hN HD
    obtain ⟨lw, hlw⟩ : ∃ x, x = u0 := ⟨_, rfl⟩
    subst hlw
    have hkI2 : (k : Int) ≤ 16 := by omega
    obtain ⟨hA, hB, hC⟩ := hH.out.2.2.2.1
    have HA := Lib.hid hA
    have HB := Lib.hid hB
    have HC := Lib.hid hC
    clear hA hB hC
    by_cases hk : k < 16
    · have hcv := HA.out.ver k hk
      have hcl := HA.out.leaf k hk
      have hNw : N < wr.heap.size := lt_of_heap HA.out
      have hkI : (k : Int) < 16 := by omega
      have hk0 : (0 : Int) ≤ (k : Int) := by omega
      obtain ⟨ro, hro⟩ : ∃ ro, leafT lk (T k) (V k) = ro := ⟨_, rfl⟩
      obtain ⟨fl, f0, f1⟩ := fits_parts (trunk_fits HYES.out k hk)
      have hlf : LfAt wr (bs k) (v k) (T k) := (HL.out k hk).of_block (fun hl => by obtain ⟨cur, fz, hc⟩ := HY.out k hk hl; exact blk_str HOWN.out hH.out.2.1 hc (by decide))
      have LC := Lib.hid fun (W : World) (hx : Ext wr W) => drleaf_any B lw lk (bs k) (v k) (T k) (V k) W (Nat.le_trans (Nat.le_trans hBw hH.out.2.1.size) hx.size) (own_ext hH.out.1 hx) (by have := hH.out.2.2.2.2.2.2.1; omega) (hlf.ext hx) fl f0 f1 ro hro
      have hbd := leafT_len lk (T k) (V k) (leafB_may fl).1
      rw [hro] at hbd
      have HRO := Lib.hid hro
      have HBD := Lib.hid hbd
      obtain ⟨l3, n3, e3⟩ := ro
      dsimp only at hbd
      have hn3 : (n3 : Int) ≤ 1000 := by have := hH.out.2.2.2.2.2.2.1; omega
      have hone := (HL.out.one k hk)
      clear hro hbd fl f0 f1 hlf
      go_wp2_with fail
      go_region_held_law (fun w' => w'.cell? ⟨N, k, none⟩ = some (v k) ∧ w'.cell? ⟨N, 16 + k, none⟩ = some (.int .i64 (V k))) (first
          | exact ⟨m0, m1⟩
          | exact ⟨cell_ext hcl (by repeat (first | exact Ext.refl _ | apply Ext.alloc | apply Ext.drew)), cell_ext hcv (by repeat (first | exact Ext.refl _ | apply Ext.alloc | apply Ext.drew))⟩)
        ((go_at_call 36; refine (LC.out _ (Ext.refl wr).drew).mono ?_; rintro e w3 ⟨v3, rfl, ho3, hg3, hk3⟩; have hb3 : TrBlk w3 N v V := (blk_str (own_ext hH.out.1 (Ext.refl wr).drew) hg3 (HA.out.ext (Ext.refl wr).drew) (by decide)).trans (HA.out.ext (Ext.refl wr).drew); have m0 := hb3.leaf k hk; have m1 := hb3.ver k hk))
      have H3 := Lib.hid (And.intro ho3 (And.intro (rstep_trans (v := lw) (v1 := lw) (rstep_ext (Ext.refl wr).drew) (Or.inl rfl) hg3) (rstep_own (w := wr) (v := lw) (Ext.refl wr).drew.size (Or.inl rfl) hk3)))
      have HKT := Lib.hid (fun (g : Nat) (cur : Array Value) (ty : TypeId) (fz : Nat × Nat) (hb : wr.heap[g]? = some (.cells cur ty fz)) (h1 : ty ≠ 9) => (blk_str hH.out.1 H3.out.2.1 hb h1).trans hb)
      have HA3 : Hid (TrBlk w3 N v V) := Lib.hid hb3
      have HB3 : Hid (AvBlk w3 (N + 1) zeroV) := Lib.hid (HKT.out _ _ _ _ HB.out (by decide))
      have HC3 : Hid (AvBlk w3 (N + 1 + 1) (nsF ns)) := Lib.hid (HKT.out _ _ _ _ HC.out (by decide))
      have c3 := HC3.out.cell k hk
      have f3 := HC3.out.frozen k
      have hw3 := lt_of_heap HC3.out
      clear ho3 hg3 hk3 hb3 m0 m1 hcv hcl
      by_cases he : e3 = 0
      case neg =>
        have he' : (e3 != 0) = true := by simpa using he
        have hre : q = (l3, [], e3) := by
          have h1 := hH.out.2.2.2.2.2.2.2
          rw [drop_range k hk, preL_err (by rw [HRO.out]; exact he), HRO.out] at h1
          exact h1.symm
        have HRE := Lib.hid hre
        clear he hre c3 f3
        go_wp2_with (first
    | (refine wpList_buildTo rfl 23 #[] rfl _ rfl (lsC zeroV) (by kernel_rfl) ?_)
    | (refine wpList_store_rowTo rfl 23 _ _ rfl rfl (N + 1) (lsC zeroV) rfl rfl 23 (lsC zeroV) (HB3.out) (by kernel_rfl) rfl (ls_all _) ?_))
        rw [HRE.out]
        have hst := rstep_new (rstep_trans hH.out.2.1 hH.out.2.2.1 H3.out.2.1) (grown_row w3 (N + 1) (lsC zeroV)) (fun k hk => by obtain rfl := Option.some.inj hk; rw [HN.out]; exact Nat.le_succ _)
        exact bodyPost_ret (results_slot_cell_slot (p := 5) (q := 6) (r := 4) (ty := 23) rfl _ _ ⟨N + 1, 0, none⟩ _ rfl (av_load (HB3.out.setRow zeroV)) _ _ rfl rfl) rfl ⟨v3, by rw [nsF_nil]; rfl, own_afterR H3.out.1 HB3.out (by decide) _, hst, rstep_own hH.out.2.1.size hH.out.2.2.1 H3.out.2.2⟩
      subst he
      go_wp2_with fail
      go_roundw
      case rel =>
        have hst := rstep_new (rstep_trans hH.out.2.1 hH.out.2.2.1 H3.out.2.1) (grown_cellw w3 (N + 1 + 1) k (.int .i64 (n3 : Int))) (fun k hk => by obtain rfl := Option.some.inj hk; rw [HN.out]; omega)
        refine ⟨k + 1, l3, ns ++ [(n3 : Int)], by go_num, by omega, Lib.hid ⟨own_afterC H3.out.1 HC3.out (by decide) _, hst, by rw [← HN.out]; exact rstep_own hH.out.2.1.size hH.out.2.2.1 H3.out.2.2, ⟨?_, HB3.out.other (by omega) _, ?_⟩, by simp [hH.out.2.2.2.2.1], ?_, ?_, ?_⟩⟩
        · exact TrBlk.other HA3.out (show N ≠ N + 1 + 1 by omega) _
        · rw [nsF_snoc hH.out.2.2.2.2.1]; exact HC3.out.set k hk _
        · intro z hz
          rcases List.mem_append.1 hz with h | h
          · exact hH.out.2.2.2.2.2.1 z h
          · simp at h; subst h; omega
        · have h1 := hH.out.2.2.2.2.2.2.1
          have h2 := HBD.out.1
          (try dsimp only at h2)
          omega
        · have h1 := hH.out.2.2.2.2.2.2.2
          rw [drop_range k hk, preL_step (by rw [HRO.out]), HRO.out] at h1
          exact h1
      case measure => simp [intOf]; omega
    have hkn : k = 16 := by omega
    have hqq : q = (lk, ns, 0) := by
      have h1 := hH.out.2.2.2.2.2.2.2
      rw [hkn] at h1
      rw [← h1, show (List.range 16).drop 16 = [] from rfl]
      simp [leavesT, preT]
    have HQQ := Lib.hid hqq
    clear hqq
    subst hkn
    have HRG := Lib.hid fun (d : Nat) (os : Array Obj) => row_range (HC.out.ext ((Ext.refl wr).more d os))
    go_wp2_with fail
    refine wp_region_grow 3 41 [false, false, false] (by kernel_rfl) (by kernel_rfl) rfl ?_
    simp only [List.take_succ_cons, List.take_zero, List.drop_succ_cons, List.drop_zero]
    repeat (refine Lex.step rfl ?_; intro K hK; (first
      | (refine ⟨.agg (lsC (nsF ns)), fun d os => stepG_load_mid (by rfl) 23 _ rfl (N + 1 + 1) 0 rfl (lsC (nsF ns)).toList _ (HRG.out d os) Tryz.underlying23 rfl (by kernel_rfl) _ rfl, ?_⟩; go_simp; refine hK _ ?_)
      | (unfold StepG; go_simp; refine hK _ ?_)); clear hK K)
    refine Lex.nil fun WW hE => ?_
    obtain ⟨dd, oo, rfl⟩ := hE
    unfold FillH
    go_wp2_with (first
    | (refine wpList_store_rowTo rfl 23 _ _ rfl rfl (N + 1) (lsC (nsF ns)) rfl rfl 23 (lsC zeroV) ((HB.out.ext ((Ext.refl wr).more dd oo))) (by kernel_rfl) rfl (ls_all _) ?_))
    rw [ends_normal]
    go_wp2_with fail
    have hB4 := HB.out.ext ((Ext.refl wr).more dd oo)
    have hst := rstep_new (rstep_new hH.out.2.1 (rstep_ext (row := none) ((Ext.refl wr).more dd oo)) (fun k h => by cases h)) (grown_row _ (N + 1) (lsC (nsF ns))) (fun k hk => by obtain rfl := Option.some.inj hk; rw [HN.out]; exact Nat.le_succ _)
    rw [HQQ.out]
    exact bodyPost_ret (results_slot_cell_slot (p := 5) (q := 6) (r := 4) (ty := 23) rfl _ _ ⟨N + 1, 0, none⟩ _ rfl (av_load (hB4.setRow (nsF ns))) _ _ rfl rfl) rfl ⟨lw, rfl, own_afterR (own_ext hH.out.1 ((Ext.refl wr).more dd oo)) hB4 (by decide) _, hst, hH.out.2.2.1⟩
end Go.Proofs.YtpchohjkelopoaaGreatDoor

set_option maxRecDepth 20000
namespace Go.Proofs.YtpchohjkelopoaaGreatDoor
open Go.RowKit
attribute [go_sem] more_more Array.size_append
/-- a block that holds an item -/
def ItBlk (w : World) (N : Nat) (x : It) : Prop := w.heap[N]? = some (.cells #[.string x.k, .int .i64 x.vk, .int .i64 x.vi, .string x.vs, .int .i64 x.ver] 152 (0, 0))
theorem ItBlk.ext {w w' : World} {N : Nat} {x : It} (h : ItBlk w N x) (hx : Ext w w') : ItBlk w' N x := by
  unfold ItBlk at h ⊢
  rw [hx.below.block _ (lt_of_heap h)]; exact h
theorem ItBlk.cells {w : World} {N : Nat} {x : It} (h : ItBlk w N x) : w.cell? ⟨N, 0, none⟩ = some (.string x.k) ∧ w.cell? ⟨N, 1, none⟩ = some (.int .i64 x.vk) ∧ w.cell? ⟨N, 2, none⟩ = some (.int .i64 x.vi) ∧ w.cell? ⟨N, 3, none⟩ = some (.string x.vs) ∧ w.cell? ⟨N, 4, none⟩ = some (.int .i64 x.ver) :=
  ⟨cell_of_row w N 0 _ _ _ h, cell_of_row w N 1 _ _ _ h, cell_of_row w N 2 _ _ _ h, cell_of_row w N 3 _ _ _ h, cell_of_row w N 4 _ _ _ h⟩
theorem ItBlk.other {w : World} {N M i : Nat} {x : It} (h : ItBlk w N x) (hne : N ≠ M) (y : Value) : ItBlk (w.setCell ⟨M, i, none⟩ y) N x := by
  unfold ItBlk at h ⊢
  rw [Go.Deep.blk_setCell_other _ _ _ _ hne]; exact h
theorem own_otherC {w : World} {B n size : Nat} {e : TypeId} {v : Value} {xs : List Value} (h : w.ownsRow B e size v n xs) {M i : Nat} {cur : Array Value} {t : TypeId} {fz : Nat × Nat} (hM : w.heap[M]? = some (.cells cur t fz)) (ht : t ≠ e) (x : Value) : (w.setCell ⟨M, i, none⟩ x).ownsRow B e size v n xs :=
  own_block h (fun q hq => Go.Deep.blk_setCell_other _ _ _ _ (fun e1 => by
    obtain ⟨cur2, hc⟩ := own_type h hq
    rw [e1, hM] at hc; simp at hc; exact ht hc.2.1))
theorem own_otherR {w : World} {B n size : Nat} {e : TypeId} {v : Value} {xs : List Value} (h : w.ownsRow B e size v n xs) {M : Nat} {cur : Array Value} {t : TypeId} {fz : Nat × Nat} (hM : w.heap[M]? = some (.cells cur t fz)) (ht : t ≠ e) (x : Array Value) : (w.setRow M x).ownsRow B e size v n xs :=
  own_block h (fun q hq => setRow_other _ _ _ _ (fun e1 => by
    obtain ⟨cur2, hc⟩ := own_type h hq
    rw [e1, hM] at hc; simp at hc; exact ht hc.2.1))
def ItFact (base : Nat) (x : It) : Fact := fun v W => ∃ p c, v = .slice p 1 c ∧ W.ownsRow base 152 5 v 1 (itCells [x])
theorem ItFact.upc (base : Nat) (x : It) : Upc (ItFact base x) := fun v W W' hx ⟨p, c, h1, h2⟩ => ⟨p, c, h1, own_ext h2 hx⟩
set_option maxHeartbeats 8000000 in
theorem rput_nil (x : It) (k : Nat) (hk : k < 16) (hv : 0 ≤ x.ver) (hB : ∀ W, Calls Tryz.prog 109 #[.string x.k] W fun e w' => e = .returned (.int .i64 (k : Int)) ∧ Ext W w') (w : World) :
    Calls Tryz.prog 82 #[.agg (trC nilV zeroV), itV x] w fun e w' => ∃ v', e = .returned (.tuple #[.agg (trC (upd nilV k v') (upd zeroV k x.ver)), .int .i64 0]) ∧ w'.ownsRow w.heap.size 152 5 v' 1 (itCells [x]) ∧ Ext w w' := by
  have HD : ∀ (W : World), W = (((w.alloc (.cells (trC nilV zeroV) 29)).alloc (.cells #[.string x.k, .int .i64 x.vk, .int .i64 x.vi, .string x.vs, .int .i64 x.ver] 152)).alloc (.cells (trC nilV zeroV) 29)) → TrBlk W w.heap.size nilV zeroV ∧ ItBlk W (w.heap.size + 1) x ∧ TrBlk W (w.heap.size + 1 + 1) nilV zeroV ∧ Ext w W := fun W e => by
    rw [e]; exact ⟨(three_boxes _).1, (three_boxes _).2.1, (three_boxes _).2.2, ((((Ext.refl w).alloc _).alloc _).alloc _)⟩
  obtain ⟨e1, e2, e3, e4⟩ := HD _ rfl
  have E1 := Lib.hid e1
  have E2 := Lib.hid e2
  have E3 := Lib.hid e3
  have E4 := Lib.hid e4
  obtain ⟨a0, a1, a2, a3, a4⟩ := e2.cells
  have hN1 := lt_of_heap e1
  have hN2 := lt_of_heap e2
  have hv' : (x.ver < 0) = False := eq_false (by omega)
  have hkI : (k : Int) < 16 := by omega
  have hk0 : (0 : Int) ≤ (k : Int) := by omega
  have BC := Lib.hid hB
  clear e1 e2 e3 e4 HD hB
  unfold itV
  go_enter Tryz.func82, Tryz.ntmps82
  go_upto_region 2 with (go_at_call 109; refine (BC.out _).mono ?_; rintro e w1 ⟨rfl, hx⟩; have E11 := Lib.hid (E1.out.ext hx); have E21 := Lib.hid (E2.out.ext hx); have E31 := Lib.hid (E3.out.ext hx); have E41 := Lib.hid (E4.out.trans hx); have cv1 : w1.cell? ⟨w.heap.size, 16 + k, none⟩ = some (.int .i64 0) := E11.out.ver k hk; have cl1 : w1.cell? ⟨w.heap.size, k, none⟩ = some (.slice none 0 0) := E11.out.leaf k hk; obtain ⟨b0, b1, b2, b3, b4⟩ := E21.out.cells; have hM1 := lt_of_heap E11.out; have hM2 := lt_of_heap E21.out; clear hx)
  go_region
  go_upto_region 7 with (first
    | (refine wpList_load_row rfl 29 _ rfl (w.heap.size) rfl 29 (trC nilV zeroV) (0, 0) _ (E11.out) Tryz.underlying29 rfl (by kernel_rfl) ?_)
    | (go_at_call 108; refine (rget_nil _ _).mono ?_; rintro e w2 ⟨rfl, hx⟩; have E12 := Lib.hid (E11.out.ext hx); have E22 := Lib.hid (E21.out.ext hx); have E32 := Lib.hid (E31.out.ext hx); have E42 := Lib.hid (E41.out.trans hx); have cl2 : w2.cell? ⟨w.heap.size, k, none⟩ = some (.slice none 0 0) := E12.out.leaf k hk; have hO1 := lt_of_heap E12.out; have hO2 := lt_of_heap E22.out; clear hx))
  have E17 := Lib.hid (E12.out.ext ((Ext.refl w2).alloc (.cells #[.string ⟨#[]⟩, .int .i64 0, .int .i64 0, .string ⟨#[]⟩, .int .i64 0] 152)))
  have E27 := Lib.hid (E22.out.ext ((Ext.refl w2).alloc (.cells #[.string ⟨#[]⟩, .int .i64 0, .int .i64 0, .string ⟨#[]⟩, .int .i64 0] 152)))
  have E37 := Lib.hid (E32.out.ext ((Ext.refl w2).alloc (.cells #[.string ⟨#[]⟩, .int .i64 0, .int .i64 0, .string ⟨#[]⟩, .int .i64 0] 152)))
  have E47 := Lib.hid (E42.out.alloc (.cells #[.string ⟨#[]⟩, .int .i64 0, .int .i64 0, .string ⟨#[]⟩, .int .i64 0] 152))
  show Code.wp _ _ _ _ (w2.alloc (.cells #[.string ⟨#[]⟩, .int .i64 0, .int .i64 0, .string ⟨#[]⟩, .int .i64 0] 152))
  obtain ⟨W7, hW7⟩ : ∃ W7, w2.alloc (.cells #[.string ⟨#[]⟩, .int .i64 0, .int .i64 0, .string ⟨#[]⟩, .int .i64 0] 152) = W7 := ⟨_, rfl⟩
  rw [hW7] at E17 E27 E37 E47 ⊢
  clear hW7 cl1 cl2 cv1 a0 a1 a2 a3 a4 b0 b1 b2 b3 b4 hM1 hM2 hO1 hO2 hN1 hN2
  have cl7 : W7.cell? ⟨w.heap.size, k, none⟩ = some (.slice none 0 0) := E17.out.leaf k hk
  have HRG := Lib.hid fun (d : Nat) (os : Array Obj) => row_range (E27.out.ext ((Ext.refl W7).more d os))
  have hP1 := lt_of_heap E17.out
  have hP2 := lt_of_heap E27.out
  have CTL := Lib.hid fun (d : Nat) (os : Array Obj) => (rwith_nil x none 0 (more W7 d os)).mono fun e w' ⟨v', h1, h2, h3⟩ => (⟨v', h1, h3, let ⟨p, c, hp⟩ := own_sl h2; ⟨p, c, hp, own_mono h2 (Nat.le_trans E47.out.size ((Ext.refl W7).more d os).size)⟩⟩ : RetG (more W7 d os) (ItFact w.heap.size x) e w')
  unfold itV at CTL
  go_wp2_with fail
  refine wp_region_grow 8 53 [false, false, false, false, false, false, false, false] (by kernel_rfl) (by kernel_rfl) rfl ?_
  simp only [List.take_succ_cons, List.take_zero, List.drop_succ_cons, List.drop_zero]
  refine Lex.step rfl ?_; intro K hK; unfold StepG; go_simp; refine hK _ ?_; clear hK K
  refine Lex.step rfl ?_; intro K hK; unfold StepG; go_simp; refine hK _ ?_; clear hK K
  refine Lex.step rfl ?_; intro K hK; unfold StepG; go_simp; refine hK _ ?_; clear hK K
  refine Lex.step rfl ?_; intro K hK; unfold StepG; go_simp; refine hK _ ?_; clear hK K
  refine Lex.step rfl ?_; intro K hK; unfold StepG; go_simp; refine hK _ ?_; clear hK K
  refine Lex.step rfl ?_; intro K hK; (refine ⟨.agg (#[.string x.k, .int .i64 x.vk, .int .i64 x.vi, .string x.vs, .int .i64 x.ver]), fun d os => stepG_load_mid (by rfl) 152 _ rfl (w.heap.size + 1) 0 rfl (#[.string x.k, .int .i64 x.vk, .int .i64 x.vi, .string x.vs, .int .i64 x.ver]).toList _ (HRG.out d os) Tryz.underlying152 rfl (by kernel_rfl) _ rfl, ?_⟩; go_simp; refine hK _ ?_); clear hK K
  refine Lex.gap 44 (ItFact w.heap.size x) rfl (ItFact.upc _ _) rfl (fun d os => ?_) ?_
  · unfold StepG
    go_simp
    exact CTL.out d os
  refine Lex.step rfl ?_; intro K hK; unfold StepG; go_simp; refine hK _ ?_; clear hK K
  refine Lex.nil fun WW hE => ?_
  obtain ⟨dd, oo, rfl⟩ := hE
  unfold FillH
  rintro _ ⟨pv, cv, rfl, hown⟩
  unfold FillH
  have hxm := (Ext.refl W7).more dd oo
  have E15 := Lib.hid (E17.out.ext hxm)
  have n0 : (more W7 dd oo).cell? ⟨w.heap.size, k, none⟩ = some (.slice none 0 0) := E15.out.leaf k hk
  have f0 := E15.out.frozen k
  have g0 := lt_of_heap E15.out
  have E25 := Lib.hid (E27.out.ext hxm)
  have E35 := Lib.hid (E37.out.ext hxm)
  have E45 := Lib.hid (E47.out.trans hxm)
  have HO5 := Lib.hid hown
  clear hxm hown cl7
  obtain ⟨W8, hW8⟩ : ∃ W8, more W7 dd oo = W8 := ⟨_, rfl⟩
  rw [hW8] at E15 n0 f0 g0 E25 E35 E45 HO5 ⊢
  clear hW8
  go_wp2_with fail
  rw [ends_normal]
  have e19 := E15.out.setLeaf k hk (.slice pv 1 cv)
  have e29 := E25.out.other (i := k) (show w.heap.size + 1 ≠ w.heap.size by omega) (.slice pv 1 cv)
  have e39 := E35.out.other (i := k) (show w.heap.size + 1 + 1 ≠ w.heap.size by omega) (.slice pv 1 cv)
  have e49 := E45.out.setCell (p := ⟨w.heap.size, k, none⟩) (Nat.le_refl _) (.slice pv 1 cv)
  have ho9 := own_otherC HO5.out E15.out (by decide) (i := k) (.slice pv 1 cv)
  obtain ⟨W9, hW9⟩ : ∃ W9, W8.setCell ⟨w.heap.size, k, none⟩ (.slice pv 1 cv) = W9 := ⟨_, rfl⟩
  rw [hW9] at e19 e29 e39 e49 ho9 ⊢
  have f9 := e19.frozen (16 + k)
  have c9 := e19.ver k hk
  obtain ⟨_, _, _, _, d4⟩ := e29.cells
  have g9 := lt_of_heap e19
  have h9 := lt_of_heap e29
  have E19 := Lib.hid (e19.setVer k hk x.ver)
  have E39 := Lib.hid (e39.other (i := 16 + k) (show w.heap.size + 1 + 1 ≠ w.heap.size by omega) (.int .i64 x.ver))
  have E49 := Lib.hid ((e49.setCell (p := ⟨w.heap.size, 16 + k, none⟩) (Nat.le_refl _) (.int .i64 x.ver)).setRow (g := w.heap.size + 1 + 1) (by omega) (trC (upd nilV k (.slice pv 1 cv)) (upd zeroV k x.ver)))
  have HO9 := Lib.hid (own_otherR (own_otherC ho9 e19 (by decide) (i := 16 + k) (.int .i64 x.ver)) E39.out (by decide) (trC (upd nilV k (.slice pv 1 cv)) (upd zeroV k x.ver)))
  clear e19 e29 e39 e49 ho9 hW9 n0 f0 g0
  go_wp2_with (first
    | (refine wpList_load_row rfl 29 _ rfl (w.heap.size) rfl 29 (trC (upd nilV k (.slice pv 1 cv)) (upd zeroV k x.ver)) (0, 0) _ (E19.out) Tryz.underlying29 rfl (by kernel_rfl) ?_)
    | (refine wpList_store_rowTo rfl 29 _ _ rfl rfl (w.heap.size + 1 + 1) (trC (upd nilV k (.slice pv 1 cv)) (upd zeroV k x.ver)) rfl rfl 29 (trC nilV zeroV) (E39.out) (by kernel_rfl) rfl (trC_one _ _ (by intro j hj; unfold upd; split <;> rfl)) ?_))
  exact bodyPost_ret (results_cell_slot (p := 4) (q := 5) (ty := 29) rfl _ _ ⟨w.heap.size + 1 + 1, 0, none⟩ _ rfl (tr_load (E39.out.setRow _ _)) _ rfl) rfl ⟨.slice pv 1 cv, rfl, HO9.out, E49.out⟩
end Go.Proofs.YtpchohjkelopoaaGreatDoor

set_option maxRecDepth 20000
namespace Go.Proofs.YtpchohjkelopoaaGreatDoor
open Go.RowKit
attribute [go_sem] more_more Array.size_append
end Go.Proofs.YtpchohjkelopoaaGreatDoor
