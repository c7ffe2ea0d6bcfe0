/- Lemmas for the claim (texts Tr1, Sm1, what its proof uses of them). -/
import Derived.Test.YtpchohjkelopoaaGreatDoorK09
set_option linter.unusedSimpArgs false
set_option linter.unusedVariables false
set_option maxRecDepth 20000
namespace Go.Proofs.YtpchohjkelopoaaGreatDoor
open Go.RowKit
attribute [go_sem] more_more Array.size_append
/-- a trunk's cells -/
def trC (v : Nat → Value) (V : Nat → Int) : Array Value := #[v 0, v 1, v 2, v 3, v 4, v 5, v 6, v 7, v 8, v 9, v 10, v 11, v 12, v 13, v 14, v 15, .int .i64 (V 0), .int .i64 (V 1), .int .i64 (V 2), .int .i64 (V 3), .int .i64 (V 4), .int .i64 (V 5), .int .i64 (V 6), .int .i64 (V 7), .int .i64 (V 8), .int .i64 (V 9), .int .i64 (V 10), .int .i64 (V 11), .int .i64 (V 12), .int .i64 (V 13), .int .i64 (V 14), .int .i64 (V 15)]
theorem trC_leaf (v : Nat → Value) (V : Nat → Int) (k : Nat) (hk : k < 16) : (trC v V)[k]? = some (v k) := by
  match k, hk with
  | 0, _ => rfl
  | 1, _ => rfl
  | 2, _ => rfl
  | 3, _ => rfl
  | 4, _ => rfl
  | 5, _ => rfl
  | 6, _ => rfl
  | 7, _ => rfl
  | 8, _ => rfl
  | 9, _ => rfl
  | 10, _ => rfl
  | 11, _ => rfl
  | 12, _ => rfl
  | 13, _ => rfl
  | 14, _ => rfl
  | 15, _ => rfl
  | k + 16, h => exact absurd h (by omega)
theorem trC_ver (v : Nat → Value) (V : Nat → Int) (k : Nat) (hk : k < 16) : (trC v V)[16 + k]? = some (.int .i64 (V k)) := by
  match k, hk with
  | 0, _ => rfl
  | 1, _ => rfl
  | 2, _ => rfl
  | 3, _ => rfl
  | 4, _ => rfl
  | 5, _ => rfl
  | 6, _ => rfl
  | 7, _ => rfl
  | 8, _ => rfl
  | 9, _ => rfl
  | 10, _ => rfl
  | 11, _ => rfl
  | 12, _ => rfl
  | 13, _ => rfl
  | 14, _ => rfl
  | 15, _ => rfl
  | k + 16, h => exact absurd h (by omega)
theorem idx_leaf (v : Nat → Value) (k : Nat) (hk : k < 16) (W : World) : (Instr.index 27 (.agg #[v 0, v 1, v 2, v 3, v 4, v 5, v 6, v 7, v 8, v 9, v 10, v 11, v 12, v 13, v 14, v 15]) (.int .i64 (k : Int))).run Tryz.prog W = .ok (v k) W := by
  match k, hk with
  | 0, _ => exact (fun W => by kernel_rfl : ∀ W : World, (Instr.index 27 (.agg #[v 0, v 1, v 2, v 3, v 4, v 5, v 6, v 7, v 8, v 9, v 10, v 11, v 12, v 13, v 14, v 15]) (.int .i64 0)).run Tryz.prog W = .ok (v 0) W) W
  | 1, _ => exact (fun W => by kernel_rfl : ∀ W : World, (Instr.index 27 (.agg #[v 0, v 1, v 2, v 3, v 4, v 5, v 6, v 7, v 8, v 9, v 10, v 11, v 12, v 13, v 14, v 15]) (.int .i64 1)).run Tryz.prog W = .ok (v 1) W) W
  | 2, _ => exact (fun W => by kernel_rfl : ∀ W : World, (Instr.index 27 (.agg #[v 0, v 1, v 2, v 3, v 4, v 5, v 6, v 7, v 8, v 9, v 10, v 11, v 12, v 13, v 14, v 15]) (.int .i64 2)).run Tryz.prog W = .ok (v 2) W) W
  | 3, _ => exact (fun W => by kernel_rfl : ∀ W : World, (Instr.index 27 (.agg #[v 0, v 1, v 2, v 3, v 4, v 5, v 6, v 7, v 8, v 9, v 10, v 11, v 12, v 13, v 14, v 15]) (.int .i64 3)).run Tryz.prog W = .ok (v 3) W) W
  | 4, _ => exact (fun W => by kernel_rfl : ∀ W : World, (Instr.index 27 (.agg #[v 0, v 1, v 2, v 3, v 4, v 5, v 6, v 7, v 8, v 9, v 10, v 11, v 12, v 13, v 14, v 15]) (.int .i64 4)).run Tryz.prog W = .ok (v 4) W) W
  | 5, _ => exact (fun W => by kernel_rfl : ∀ W : World, (Instr.index 27 (.agg #[v 0, v 1, v 2, v 3, v 4, v 5, v 6, v 7, v 8, v 9, v 10, v 11, v 12, v 13, v 14, v 15]) (.int .i64 5)).run Tryz.prog W = .ok (v 5) W) W
  | 6, _ => exact (fun W => by kernel_rfl : ∀ W : World, (Instr.index 27 (.agg #[v 0, v 1, v 2, v 3, v 4, v 5, v 6, v 7, v 8, v 9, v 10, v 11, v 12, v 13, v 14, v 15]) (.int .i64 6)).run Tryz.prog W = .ok (v 6) W) W
  | 7, _ => exact (fun W => by kernel_rfl : ∀ W : World, (Instr.index 27 (.agg #[v 0, v 1, v 2, v 3, v 4, v 5, v 6, v 7, v 8, v 9, v 10, v 11, v 12, v 13, v 14, v 15]) (.int .i64 7)).run Tryz.prog W = .ok (v 7) W) W
  | 8, _ => exact (fun W => by kernel_rfl : ∀ W : World, (Instr.index 27 (.agg #[v 0, v 1, v 2, v 3, v 4, v 5, v 6, v 7, v 8, v 9, v 10, v 11, v 12, v 13, v 14, v 15]) (.int .i64 8)).run Tryz.prog W = .ok (v 8) W) W
  | 9, _ => exact (fun W => by kernel_rfl : ∀ W : World, (Instr.index 27 (.agg #[v 0, v 1, v 2, v 3, v 4, v 5, v 6, v 7, v 8, v 9, v 10, v 11, v 12, v 13, v 14, v 15]) (.int .i64 9)).run Tryz.prog W = .ok (v 9) W) W
  | 10, _ => exact (fun W => by kernel_rfl : ∀ W : World, (Instr.index 27 (.agg #[v 0, v 1, v 2, v 3, v 4, v 5, v 6, v 7, v 8, v 9, v 10, v 11, v 12, v 13, v 14, v 15]) (.int .i64 10)).run Tryz.prog W = .ok (v 10) W) W
  | 11, _ => exact (fun W => by kernel_rfl : ∀ W : World, (Instr.index 27 (.agg #[v 0, v 1, v 2, v 3, v 4, v 5, v 6, v 7, v 8, v 9, v 10, v 11, v 12, v 13, v 14, v 15]) (.int .i64 11)).run Tryz.prog W = .ok (v 11) W) W
  | 12, _ => exact (fun W => by kernel_rfl : ∀ W : World, (Instr.index 27 (.agg #[v 0, v 1, v 2, v 3, v 4, v 5, v 6, v 7, v 8, v 9, v 10, v 11, v 12, v 13, v 14, v 15]) (.int .i64 12)).run Tryz.prog W = .ok (v 12) W) W
  | 13, _ => exact (fun W => by kernel_rfl : ∀ W : World, (Instr.index 27 (.agg #[v 0, v 1, v 2, v 3, v 4, v 5, v 6, v 7, v 8, v 9, v 10, v 11, v 12, v 13, v 14, v 15]) (.int .i64 13)).run Tryz.prog W = .ok (v 13) W) W
  | 14, _ => exact (fun W => by kernel_rfl : ∀ W : World, (Instr.index 27 (.agg #[v 0, v 1, v 2, v 3, v 4, v 5, v 6, v 7, v 8, v 9, v 10, v 11, v 12, v 13, v 14, v 15]) (.int .i64 14)).run Tryz.prog W = .ok (v 14) W) W
  | 15, _ => exact (fun W => by kernel_rfl : ∀ W : World, (Instr.index 27 (.agg #[v 0, v 1, v 2, v 3, v 4, v 5, v 6, v 7, v 8, v 9, v 10, v 11, v 12, v 13, v 14, v 15]) (.int .i64 15)).run Tryz.prog W = .ok (v 15) W) W
  | k + 16, h => exact absurd h (by omega)
/-- a trunk's block -/
def TrBlk (w : World) (N : Nat) (v : Nat → Value) (V : Nat → Int) : Prop := w.heap[N]? = some (.cells (trC v V) 29 (0, 0))
theorem TrBlk.ext {w w' : World} {N : Nat} {v : Nat → Value} {V : Nat → Int} (h : TrBlk w N v V) (hx : Ext w w') : TrBlk w' N v V := by
  unfold TrBlk at h ⊢
  rw [hx.below.block N (lt_of_heap h)]; exact h
theorem TrBlk.leaf {w : World} {N : Nat} {v : Nat → Value} {V : Nat → Int} (h : TrBlk w N v V) (k : Nat) (hk : k < 16) : w.cell? ⟨N, k, none⟩ = some (v k) := by
  unfold TrBlk at h
  simp only [World.cell?, h]
  exact trC_leaf v V k hk
theorem TrBlk.ver {w : World} {N : Nat} {v : Nat → Value} {V : Nat → Int} (h : TrBlk w N v V) (k : Nat) (hk : k < 16) : w.cell? ⟨N, 16 + k, none⟩ = some (.int .i64 (V k)) := by
  unfold TrBlk at h
  simp only [World.cell?, h]
  exact trC_ver v V k hk
/-- the leaves of a trunk -/
def LvsAt (w : World) (bs : Nat → Nat) (v : Nat → Value) (T : Nat → List It) : Prop := ∀ k, k < 16 → LfAt w (bs k) (v k) (T k)
theorem LvsAt.ext {w w' : World} {bs : Nat → Nat} {v : Nat → Value} {T : Nat → List It} (h : LvsAt w bs v T) (hx : Ext w w') : LvsAt w' bs v T := fun k hk => (h k hk).ext hx
theorem fits_leaf {b : Int} {l : List It} {ver : Int} (h : leafB l = false) : fitsB b l ver = false := by unfold fitsB; simp [h]
theorem fits_neg {b : Int} {l : List It} {ver : Int} (h : decide (0 ≤ ver) = false) : fitsB b l ver = false := by unfold fitsB; rw [h]; simp
theorem fits_big {b : Int} {l : List It} {ver : Int} (h : decide (ver ≤ 2147483647) = false) : fitsB b l ver = false := by unfold fitsB; rw [h]; simp
def okI (b ver : Int) (x : It) : Bool := bucketF x.k == b && decide (x.ver ≤ ver)
theorem fits_item {b : Int} {l : List It} {ver : Int} {k : Nat} {x : It} (hx : l[k]? = some x) (h : okI b ver x = false) : fitsB b l ver = false := by
  have : (l.all fun x => bucketF x.k == b && decide (x.ver ≤ ver)) = false := by
    rw [Bool.eq_false_iff]
    intro q
    have := List.all_eq_true.1 q x (List.mem_of_getElem? hx)
    unfold okI at h
    rw [h] at this; cases this
  unfold fitsB; rw [this]; simp
theorem fits_yes {b : Int} {l : List It} {ver : Int} (h1 : leafB l = true) (h2 : decide (0 ≤ ver) = true) (h3 : decide (ver ≤ 2147483647) = true) (h4 : ∀ k x, k < l.length → l[k]? = some x → okI b ver x = true) : fitsB b l ver = true := by
  have : (l.all fun x => bucketF x.k == b && decide (x.ver ≤ ver)) = true := by
    rw [List.all_eq_true]
    intro x hx
    obtain ⟨k, hk⟩ := List.getElem?_of_mem hx
    exact h4 k x (List.getElem?_eq_some_iff.1 hk).1 hk
  unfold fitsB; rw [h1, h2, h3, this]; rfl
set_option maxHeartbeats 4000000 in
theorem mayleaf_any (b : Nat) (bk : Int) (v : Value) (l : List It) (ver : Int) (B : Nat) (w : World) (hS : SignsAt B w) (hB : B ≤ w.heap.size) (h : LfAt w b v l) :
    Calls Tryz.prog 78 #[.int .i64 bk, v, .int .i64 ver] w fun e w' => e = .returned (.bool (fitsB bk l ver)) ∧ Ext w w' := by
  have LC := Lib.hid (lcheck_any b v l B w hS hB h)
  obtain ⟨ho, p, cap, rfl, hcap, hp⟩ := h
  obtain ⟨n, hn⟩ : ∃ n, l.length = n := ⟨_, rfl⟩
  rw [hn] at hcap hp LC ⊢
  have HN := Lib.hid hn
  have HO := Lib.hid ho
  have HP := Lib.hid hp
  have HS := Lib.hid hS
  clear hp ho hn hS
  obtain ⟨lf, hlf⟩ : ∃ lf, leafF l = lf := ⟨_, rfl⟩
  obtain ⟨e1, p1⟩ := lf
  rw [hlf] at LC
  dsimp only at LC
  have hlb : leafB l = (e1 == 0) := by unfold leafB; rw [hlf]
  have HLB := Lib.hid hlb
  clear hlf hlb
  by_cases q1 : e1 = 0
  case neg =>
    rw [fits_leaf (by rw [HLB.out]; simpa using q1)]
    have q1' : (e1 != 0) = true := by simpa using q1
    clear q1
    go_enter Tryz.func78, Tryz.ntmps78
    go_wp2_with (go_at_call 68; refine (LC.out).mono ?_; rintro e _ ⟨rfl, d1, os1, rfl⟩)
    go_ret
    exact ⟨rfl, (by repeat (first | exact Ext.refl _ | apply Ext.alloc | apply Ext.more | apply Ext.drewN))⟩
  subst q1
  cases h2 : decide (0 ≤ ver) with
  | false =>
    rw [fits_neg h2]
    have h2' : ver < 0 := by have := of_decide_eq_false h2; omega
    go_enter Tryz.func78, Tryz.ntmps78
    go_wp2_with (go_at_call 68; refine (LC.out).mono ?_; rintro e _ ⟨rfl, d1, os1, rfl⟩)
    go_ret
    exact ⟨rfl, (by repeat (first | exact Ext.refl _ | apply Ext.alloc | apply Ext.more | apply Ext.drewN))⟩
  | true =>
    have h2' : ¬ ver < 0 := by have := of_decide_eq_true h2; omega
    cases h3 : decide (ver ≤ 2147483647) with
    | false =>
      rw [fits_big h3]
      have h3' : (2147483647 < ver) = True := eq_true (by have := of_decide_eq_false h3; omega)
      clear h3
      go_enter Tryz.func78, Tryz.ntmps78
      go_wp2_with (go_at_call 68; refine (LC.out).mono ?_; rintro e _ ⟨rfl, d1, os1, rfl⟩)
      go_ret
      exact ⟨rfl, (by repeat (first | exact Ext.refl _ | apply Ext.alloc | apply Ext.more | apply Ext.drewN))⟩
    | true =>
      have h3' : (2147483647 < ver) = False := eq_false (by have := of_decide_eq_true h3; omega)
      have H2 := Lib.hid h2
      have H3 := Lib.hid h3
      have hl64 := (leafB_may (show leafB l = true by rw [HLB.out]; rfl)).1
      rw [HN.out] at hl64
      have hn64 : (n : Int) ≤ 64 := by omega
      clear h2 h3 hl64
      obtain ⟨r, hr⟩ : ∃ r, fitsB bk l ver = r := ⟨_, rfl⟩
      rw [hr]
      have HR := Lib.hid hr
      clear hr
      go_enter Tryz.func78, Tryz.ntmps78
      go_wp2_with (go_at_call 68; refine (LC.out).mono ?_; rintro e _ ⟨rfl, d1, os1, rfl⟩)
      go_loopw [28] (fun ii wr => ∃ k : Nat, ii = .int .i64 (k : Int) ∧ k ≤ n ∧ Hid (∀ j x, j < k → l[j]? = some x → okI bk ver x = true) ∧ Ext w wr) (fun ii _ => n - (intOf ii).toNat)
      case atStart => exact ⟨0, rfl, Nat.zero_le _, Lib.hid (fun j x h => absurd h (Nat.not_lt_zero j)), (by repeat (first | exact Ext.refl _ | apply Ext.alloc | apply Ext.more | apply Ext.drewN))⟩
      case round =>
        obtain ⟨k, rfl, hk, hall, d, os, rfl⟩ := hrel
        by_cases hkl : k < n
        · obtain ⟨x, hx⟩ := get_at HN.out hkl
          obtain ⟨off, rfl, hits⟩ := HP.out (by omega)
          obtain ⟨c0, c1, c2, c3, c4⟩ := hits k x hx
          have hbs : b < w.heap.size := hits.lt (by have := HN.out; omega)
          have HOX := Lib.hid (HO.out x (List.mem_of_getElem? hx))
          have HX := Lib.hid hx
          clear hx hits
          obtain ⟨bx, hbx⟩ : ∃ bx, bucketF x.k = bx := ⟨_, rfl⟩
          have HBK := Lib.hid hbx
          cases hq : (bx == bk) with
          | false =>
            have hq' : (bx != bk) = true := by simpa using hq
            have hre : r = false := by rw [← HR.out]; exact fits_item HX.out (show okI bk ver x = false by unfold okI; rw [HBK.out, hq]; rfl)
            subst hre
            clear hbx hq
            go_wp2_with (go_at_call 105; refine (bucket_any _ (small_max HOX.out.k) B _ (HS.out.ext (by repeat (first | exact Ext.refl _ | apply Ext.alloc | apply Ext.more | apply Ext.drewN)) hB) (Nat.le_trans hB (Ext.size (by repeat (first | exact Ext.refl _ | apply Ext.alloc | apply Ext.more | apply Ext.drewN))))).mono ?_; rw [HBK.out]; rintro e _ ⟨rfl, d2, os2, rfl⟩)
            go_ret
            exact ⟨rfl, (by repeat (first | exact Ext.refl _ | apply Ext.alloc | apply Ext.more | apply Ext.drewN))⟩
          | true =>
            have hq' : (bx != bk) = false := by simpa using hq
            have HQ := Lib.hid hq
            clear hq
            by_cases hv : x.ver ≤ ver
            · have hv' : ¬ ver < x.ver := by omega
              have HOKX : Hid (okI bk ver x = true) := Lib.hid (by unfold okI; rw [HBK.out, HQ.out, decide_eq_true hv]; rfl)
              clear hbx hv
              go_wp2_with (go_at_call 105; refine (bucket_any _ (small_max HOX.out.k) B _ (HS.out.ext (by repeat (first | exact Ext.refl _ | apply Ext.alloc | apply Ext.more | apply Ext.drewN)) hB) (Nat.le_trans hB (Ext.size (by repeat (first | exact Ext.refl _ | apply Ext.alloc | apply Ext.more | apply Ext.drewN))))).mono ?_; rw [HBK.out]; rintro e _ ⟨rfl, d2, os2, rfl⟩)
              go_roundw
              case rel => exact ⟨k + 1, by go_num, by omega, Lib.hid (fun j y hj hy => by
                by_cases hjk : j < k
                · exact hall.out j y hjk hy
                · have : j = k := by omega
                  subst this
                  rw [HX.out] at hy
                  obtain rfl := Option.some.inj hy
                  exact HOKX.out), (by repeat (first | exact Ext.refl _ | apply Ext.alloc | apply Ext.more | apply Ext.drewN))⟩
              case measure => simp [intOf]; omega
            · have hv' : ver < x.ver := by omega
              have hre : r = false := by rw [← HR.out]; exact fits_item HX.out (show okI bk ver x = false by unfold okI; rw [HBK.out, HQ.out, decide_eq_false hv]; rfl)
              subst hre
              clear hbx hv
              go_wp2_with (go_at_call 105; refine (bucket_any _ (small_max HOX.out.k) B _ (HS.out.ext (by repeat (first | exact Ext.refl _ | apply Ext.alloc | apply Ext.more | apply Ext.drewN)) hB) (Nat.le_trans hB (Ext.size (by repeat (first | exact Ext.refl _ | apply Ext.alloc | apply Ext.more | apply Ext.drewN))))).mono ?_; rw [HBK.out]; rintro e _ ⟨rfl, d2, os2, rfl⟩)
              go_ret
              exact ⟨rfl, (by repeat (first | exact Ext.refl _ | apply Ext.alloc | apply Ext.more | apply Ext.drewN))⟩
        have hkn : k = n := by omega
        have hre : r = true := by rw [← HR.out]; exact fits_yes (show leafB l = true by rw [HLB.out]; rfl) H2.out H3.out (fun j x hj hx => hall.out j x (by have := HN.out; omega) hx)
        subst hre
        go_wp2_with fail
        go_ret
        exact ⟨rfl, (by repeat (first | exact Ext.refl _ | apply Ext.alloc | apply Ext.more | apply Ext.drewN))⟩
set_option maxHeartbeats 4000000 in
theorem rfits_any (b : Nat) (bk : Int) (v : Value) (l : List It) (ver : Int) (hbk : 0 ≤ bk) (w : World) (h : LfAt w b v l) (hlen : l.length ≤ 9223372036854775807) :
    Calls Tryz.prog 53 #[.int .i64 bk, v, .int .i64 ver] w fun e w' => e = .returned (.bool (fitsB bk l ver)) ∧ Ext w w' := by
  have LC := Lib.hid (fun (W : World) (hx : Ext w W) => rlis_any b v l W (h.ext hx))
  obtain ⟨ho, p, cap, rfl, hcap, hp⟩ := h
  obtain ⟨n, hn⟩ : ∃ n, l.length = n := ⟨_, rfl⟩
  rw [hn] at hcap hp LC hlen ⊢
  have HN := Lib.hid hn
  have HO := Lib.hid ho
  have HP := Lib.hid hp
  clear hp ho hn
  obtain ⟨lb, hlb⟩ : ∃ lb, leafB l = lb := ⟨_, rfl⟩
  have HLB := Lib.hid hlb
  clear hlb
  obtain ⟨r, hr⟩ : ∃ r, fitsB bk l ver = r := ⟨_, rfl⟩
  rw [hr]
  have HR := Lib.hid hr
  clear hr
  go_enter Tryz.func53, Tryz.ntmps53
  go_wp2_with fail
  go_loopw [7] (fun ii wr => ∃ k : Nat, ii = .int .i64 (k : Int) ∧ k ≤ n ∧ Hid (∀ j x, j < k → l[j]? = some x → okI bk ver x = true) ∧ Ext w wr) (fun ii _ => n - (intOf ii).toNat)
  case atStart => exact ⟨0, rfl, Nat.zero_le _, Lib.hid (fun j x h => absurd h (Nat.not_lt_zero j)), Ext.refl _⟩
  case round =>
    obtain ⟨k, rfl, hk, hall, d, os, rfl⟩ := hrel
    by_cases hkl : k < n
    · obtain ⟨x, hx⟩ := get_at HN.out hkl
      obtain ⟨off, rfl, hits⟩ := HP.out (by omega)
      obtain ⟨c0, c1, c2, c3, c4⟩ := hits k x hx
      have hbs : b < w.heap.size := hits.lt (by have := HN.out; omega)
      have HOX := Lib.hid (HO.out x (List.mem_of_getElem? hx))
      have HX := Lib.hid hx
      clear hx hits
      cases hky : keyB x.k with
      | false =>
        have HKY := Lib.hid hky
        have hre : r = false := by
          rw [← HR.out]
          refine fits_item HX.out ?_
          unfold okI
          rw [bucket_no HKY.out]
          have : ((-1 : Int) == bk) = false := by rw [beq_eq_false_iff_ne]; omega
          rw [this]; rfl
        subst hre
        clear hky
        go_wp2_with (go_at_call 79; refine (rkis_any _ (small_max HOX.out.k) _).mono ?_; rw [HKY.out]; rintro e _ ⟨rfl, d2, os2, rfl⟩)
        go_ret
        exact ⟨rfl, (by repeat (first | exact Ext.refl _ | apply Ext.alloc | apply Ext.more | apply Ext.drewN))⟩
      | true =>
        have HKY := Lib.hid hky
        have hsp := keyB_pos hky
        have hbe := bucket_yes hsp hky
        have hcc0 : (0 : Int) ≤ ((x.k[0]).toNat : Int) := by omega
        have hcc1 : ((x.k[0]).toNat : Int) < 256 := by have := (x.k[0]).toNat_lt; omega
        clear hky
        cases hq : (((x.k[0]).toNat : Int) % 16 == bk) with
        | false =>
          have hq' : (((x.k[0]).toNat : Int) % 16 != bk) = true := by simpa using hq
          have hre : r = false := by
            rw [← HR.out]
            refine fits_item HX.out ?_
            unfold okI
            rw [hbe, hq]; rfl
          subst hre
          clear hq hbe
          go_wp2_with (go_at_call 79; refine (rkis_any _ (small_max HOX.out.k) _).mono ?_; rw [HKY.out]; rintro e _ ⟨rfl, d2, os2, rfl⟩)
          go_ret
          exact ⟨rfl, (by repeat (first | exact Ext.refl _ | apply Ext.alloc | apply Ext.more | apply Ext.drewN))⟩
        | true =>
          have hq' : (((x.k[0]).toNat : Int) % 16 != bk) = false := by simpa using hq
          have HQ := Lib.hid hq
          have HBE := Lib.hid hbe
          clear hq hbe
          by_cases hv : x.ver ≤ ver
          · have hv' : ¬ ver < x.ver := by omega
            have HOKX : Hid (okI bk ver x = true) := Lib.hid (by unfold okI; rw [HBE.out, HQ.out, decide_eq_true hv]; rfl)
            clear hv
            go_wp2_with (go_at_call 79; refine (rkis_any _ (small_max HOX.out.k) _).mono ?_; rw [HKY.out]; rintro e _ ⟨rfl, d2, os2, rfl⟩)
            go_roundw
            case rel => exact ⟨k + 1, by go_num, by omega, Lib.hid (fun j y hj hy => by
              by_cases hjk : j < k
              · exact hall.out j y hjk hy
              · have : j = k := by omega
                subst this
                rw [HX.out] at hy
                obtain rfl := Option.some.inj hy
                exact HOKX.out), (by repeat (first | exact Ext.refl _ | apply Ext.alloc | apply Ext.more | apply Ext.drewN))⟩
            case measure => simp [intOf]; omega
          · have hv' : ver < x.ver := by omega
            have hre : r = false := by rw [← HR.out]; exact fits_item HX.out (show okI bk ver x = false by unfold okI; rw [HBE.out, HQ.out, decide_eq_false hv]; rfl)
            subst hre
            clear hv
            go_wp2_with (go_at_call 79; refine (rkis_any _ (small_max HOX.out.k) _).mono ?_; rw [HKY.out]; rintro e _ ⟨rfl, d2, os2, rfl⟩)
            go_ret
            exact ⟨rfl, (by repeat (first | exact Ext.refl _ | apply Ext.alloc | apply Ext.more | apply Ext.drewN))⟩
    have hkn : k = n := by omega
    cases hlb : lb with
    | false =>
      rw [hlb] at HLB
      have hre : r = false := by rw [← HR.out]; exact fits_leaf HLB.out
      subst hre
      go_wp2_with (go_at_call 35; refine (LC.out _ (by repeat (first | exact Ext.refl _ | apply Ext.alloc | apply Ext.more | apply Ext.drewN))).mono ?_; rw [HLB.out]; rintro e _ ⟨rfl, d1, os1, rfl⟩)
      go_ret
      exact ⟨rfl, (by repeat (first | exact Ext.refl _ | apply Ext.alloc | apply Ext.more | apply Ext.drewN))⟩
    | true =>
      rw [hlb] at HLB
      cases h2 : decide (0 ≤ ver) with
      | false =>
        have hre : r = false := by rw [← HR.out]; exact fits_neg h2
        subst hre
        go_wp2_with (go_at_call 35; refine (LC.out _ (by repeat (first | exact Ext.refl _ | apply Ext.alloc | apply Ext.more | apply Ext.drewN))).mono ?_; rw [HLB.out]; rintro e _ ⟨rfl, d1, os1, rfl⟩)
        go_ret
        exact ⟨rfl, (by repeat (first | exact Ext.refl _ | apply Ext.alloc | apply Ext.more | apply Ext.drewN))⟩
      | true =>
        cases h3 : decide (ver ≤ 2147483647) with
        | false =>
          have hre : r = false := by rw [← HR.out]; exact fits_big h3
          subst hre
          have h3' : (ver ≤ 2147483647) = False := eq_false (of_decide_eq_false h3)
          clear h3
          go_wp2_with (go_at_call 35; refine (LC.out _ (by repeat (first | exact Ext.refl _ | apply Ext.alloc | apply Ext.more | apply Ext.drewN))).mono ?_; rw [HLB.out]; rintro e _ ⟨rfl, d1, os1, rfl⟩)
          go_ret
          exact ⟨rfl, (by repeat (first | exact Ext.refl _ | apply Ext.alloc | apply Ext.more | apply Ext.drewN))⟩
        | true =>
          have hre : r = true := by rw [← HR.out]; exact fits_yes HLB.out h2 h3 (fun j x hj hx => hall.out j x (by have := HN.out; omega) hx)
          subst hre
          have h3' : (ver ≤ 2147483647) = True := eq_true (of_decide_eq_true h3)
          clear h3
          go_wp2_with (go_at_call 35; refine (LC.out _ (by repeat (first | exact Ext.refl _ | apply Ext.alloc | apply Ext.more | apply Ext.drewN))).mono ?_; rw [HLB.out]; rintro e _ ⟨rfl, d1, os1, rfl⟩)
          go_ret
          exact ⟨rfl, (by repeat (first | exact Ext.refl _ | apply Ext.alloc | apply Ext.more | apply Ext.drewN))⟩
theorem trunk_no {T : Nat → List It} {V : Nat → Int} {k : Nat} (hk : k < 16) (h : fitsB (k : Int) (T k) (V k) = false) : trunkB T V = false := by
  unfold trunkB
  rw [Bool.eq_false_iff]
  intro q
  have := List.all_eq_true.1 q k (List.mem_range.2 hk)
  rw [h] at this; cases this
theorem trunk_yes {T : Nat → List It} {V : Nat → Int} (h : ∀ j : Nat, j < 16 → fitsB (j : Int) (T j) (V j) = true) : trunkB T V = true := by
  unfold trunkB
  exact List.all_eq_true.2 fun j hj => h j (List.mem_range.1 hj)
set_option maxHeartbeats 4000000 in
theorem tmay_any (bs : Nat → Nat) (v : Nat → Value) (T : Nat → List It) (V : Nat → Int) (B : Nat) (w : World) (hS : SignsAt B w) (hB : B ≤ w.heap.size) (h : LvsAt w bs v T) :
    Calls Tryz.prog 52 #[.agg (trC v V)] w fun e w' => e = .returned (.bool (trunkB T V)) ∧ Ext w w' := by
  have HL := Lib.hid h
  have HS := Lib.hid hS
  clear hS
  obtain ⟨r, hr⟩ : ∃ r, trunkB T V = r := ⟨_, rfl⟩
  rw [hr]
  have HR := Lib.hid hr
  clear h hr
  unfold trC
  go_enter Tryz.func52, Tryz.ntmps52
  go_wp2_with fail
  obtain ⟨N, hN⟩ : ∃ N, w.heap.size = N := ⟨_, rfl⟩
  go_loopw [7] (fun ii wr => ∃ k : Nat, ii = .int .i64 (k : Int) ∧ k ≤ 16 ∧ Hid (∀ j : Nat, j < k → fitsB (j : Int) (T j) (V j) = true) ∧ Hid (TrBlk wr N v V) ∧ Ext w wr) (fun ii _ => 16 - (intOf ii).toNat)
  case atStart => exact ⟨0, rfl, Nat.zero_le _, Lib.hid (fun j h => absurd h (Nat.not_lt_zero j)), Lib.hid (by unfold TrBlk; rw [← hN]; exact heap_alloc_new w _), (Ext.refl _).alloc _⟩
  case round =>
    obtain ⟨k, rfl, hk16, hall, hblk, hext⟩ := hrel
    have HEX := Lib.hid hext
    clear hext
    by_cases hk : k < 16
    · have FC := Lib.hid fun (W : World) (hx : Ext w W) => mayleaf_any (bs k) (k : Int) (v k) (T k) (V k) B W (HS.out.ext hx hB) (Nat.le_trans hB hx.size) ((HL.out k hk).ext hx)
      have hcv := hblk.out.ver k hk
      have hcl := hblk.out.leaf k hk
      have hNw : N < wr.heap.size := lt_of_heap hblk.out
      have hix := fun W => idx_leaf v k hk W
      have hkI : (k : Int) < 16 := by omega
      have hk0 : (0 : Int) ≤ (k : Int) := by omega
      rw [hN]
      cases hf : fitsB (k : Int) (T k) (V k) with
      | false =>
        have HF := Lib.hid hf
        have hre : r = false := by rw [← HR.out]; exact trunk_no hk hf
        subst hre
        clear hf
        go_wp2_with (go_at_call 78; refine (FC.out _ (by repeat (first | exact HEX.out | apply Ext.alloc | apply Ext.more | apply Ext.drewN))).mono ?_; rw [HF.out]; rintro e _ ⟨rfl, d2, os2, rfl⟩)
        go_ret
        exact ⟨rfl, (by repeat (first | exact HEX.out | apply Ext.alloc | apply Ext.more | apply Ext.drewN))⟩
      | true =>
        have HF := Lib.hid hf
        clear hf
        go_wp2_with (go_at_call 78; refine (FC.out _ (by repeat (first | exact HEX.out | apply Ext.alloc | apply Ext.more | apply Ext.drewN))).mono ?_; rw [HF.out]; rintro e _ ⟨rfl, d2, os2, rfl⟩)
        go_roundw
        case rel =>
          refine ⟨k + 1, by go_num, by omega, Lib.hid (fun j hj => ?_), Lib.hid (hblk.out.ext (by repeat (first | exact Ext.refl _ | apply Ext.alloc | apply Ext.more | apply Ext.drewN))), (by repeat (first | exact HEX.out | apply Ext.alloc | apply Ext.more | apply Ext.drewN))⟩
          by_cases hjk : j < k
          · exact hall.out j hjk
          · have : j = k := by omega
            subst this; exact HF.out
        case measure => simp [intOf]; omega
    have hkn : k = 16 := by omega
    subst hkn
    have hre : r = true := by rw [← HR.out]; exact trunk_yes hall.out
    subst hre
    go_wp2_with fail
    go_ret
    exact ⟨rfl, (by repeat (first | exact HEX.out | apply Ext.alloc | apply Ext.more | apply Ext.drewN))⟩
set_option maxHeartbeats 4000000 in
theorem rtmay_any (bs : Nat → Nat) (v : Nat → Value) (T : Nat → List It) (V : Nat → Int) (w : World) (hlen : ∀ k, k < 16 → (T k).length ≤ 9223372036854775807) (h : LvsAt w bs v T) :
    Calls Tryz.prog 11 #[.agg (trC v V)] w fun e w' => e = .returned (.bool (trunkB T V)) ∧ Ext w w' := by
  have HL := Lib.hid h
  have HLN := Lib.hid hlen
  clear hlen
  obtain ⟨r, hr⟩ : ∃ r, trunkB T V = r := ⟨_, rfl⟩
  rw [hr]
  have HR := Lib.hid hr
  clear h hr
  unfold trC
  go_enter Tryz.func11, Tryz.ntmps11
  go_wp2_with fail
  obtain ⟨N, hN⟩ : ∃ N, w.heap.size = N := ⟨_, rfl⟩
  go_loopw [3] (fun ii wr => ∃ k : Nat, ii = .int .i64 (k : Int) ∧ k ≤ 16 ∧ Hid (∀ j : Nat, j < k → fitsB (j : Int) (T j) (V j) = true) ∧ Hid (TrBlk wr N v V) ∧ Ext w wr) (fun ii _ => 16 - (intOf ii).toNat)
  case atStart => exact ⟨0, rfl, Nat.zero_le _, Lib.hid (fun j h => absurd h (Nat.not_lt_zero j)), Lib.hid (by unfold TrBlk; rw [← hN]; exact heap_alloc_new w _), (Ext.refl _).alloc _⟩
  case round =>
    obtain ⟨k, rfl, hk16, hall, hblk, hext⟩ := hrel
    have HEX := Lib.hid hext
    clear hext
    by_cases hk : k < 16
    · have FC := Lib.hid fun (W : World) (hx : Ext w W) => rfits_any (bs k) (k : Int) (v k) (T k) (V k) (by omega) W ((HL.out k hk).ext hx) (HLN.out k hk)
      have hcv := hblk.out.ver k hk
      have hcl := hblk.out.leaf k hk
      have hNw : N < wr.heap.size := lt_of_heap hblk.out
      have hix := fun W => idx_leaf v k hk W
      have hkI : (k : Int) < 16 := by omega
      have hk0 : (0 : Int) ≤ (k : Int) := by omega
      rw [hN]
      cases hf : fitsB (k : Int) (T k) (V k) with
      | false =>
        have HF := Lib.hid hf
        have hre : r = false := by rw [← HR.out]; exact trunk_no hk hf
        subst hre
        clear hf
        go_wp2_with fail
        refine wp_region_grow 9 19 [false, false, false, false, false, false, false, false, false] (by kernel_rfl) (by kernel_rfl) rfl ?_
        simp only [List.take_succ_cons, List.take_zero, List.drop_succ_cons, List.drop_zero]
        repeat (refine Lex.step rfl ?_; intro K hK; unfold StepG; go_simp; (first
            | refine hK _ ?_); clear hK K)
        refine Lex.nil fun WW hE => ?_
        obtain ⟨dd, oo, rfl⟩ := hE
        unfold FillH
        go_wp2_with (go_at_call 53; refine (FC.out _ (by repeat (first | exact HEX.out | apply Ext.alloc | apply Ext.more | apply Ext.drewN))).mono ?_; rw [HF.out]; rintro e _ ⟨rfl, d2, os2, rfl⟩)
        rw [ends_normal]
        go_wp2_with fail
        go_ret
        exact ⟨rfl, (by repeat (first | exact HEX.out | apply Ext.alloc | apply Ext.more | apply Ext.drewN))⟩
      | true =>
        have HF := Lib.hid hf
        clear hf
        go_wp2_with fail
        refine wp_region_grow 9 19 [false, false, false, false, false, false, false, false, false] (by kernel_rfl) (by kernel_rfl) rfl ?_
        simp only [List.take_succ_cons, List.take_zero, List.drop_succ_cons, List.drop_zero]
        repeat (refine Lex.step rfl ?_; intro K hK; unfold StepG; go_simp; (first
            | refine hK _ ?_); clear hK K)
        refine Lex.nil fun WW hE => ?_
        obtain ⟨dd, oo, rfl⟩ := hE
        unfold FillH
        go_wp2_with (go_at_call 53; refine (FC.out _ (by repeat (first | exact HEX.out | apply Ext.alloc | apply Ext.more | apply Ext.drewN))).mono ?_; rw [HF.out]; rintro e _ ⟨rfl, d2, os2, rfl⟩)
        rw [ends_normal]
        go_wp2_with fail
        go_roundw
        case rel =>
          refine ⟨k + 1, by go_num, by omega, Lib.hid (fun j hj => ?_), Lib.hid (hblk.out.ext (by repeat (first | exact Ext.refl _ | apply Ext.alloc | apply Ext.more | apply Ext.drewN))), (by repeat (first | exact HEX.out | apply Ext.alloc | apply Ext.more | apply Ext.drewN))⟩
          by_cases hjk : j < k
          · exact hall.out j hjk
          · have : j = k := by omega
            subst this; exact HF.out
        case measure => simp [intOf]; omega
    have hkn : k = 16 := by omega
    subst hkn
    have hre : r = true := by rw [← HR.out]; exact trunk_yes hall.out
    subst hre
    go_wp2_with fail
    go_ret
    exact ⟨rfl, (by repeat (first | exact HEX.out | apply Ext.alloc | apply Ext.more | apply Ext.drewN))⟩
end Go.Proofs.YtpchohjkelopoaaGreatDoor

set_option maxRecDepth 20000
namespace Go.Proofs.YtpchohjkelopoaaGreatDoor
open Go.RowKit
attribute [go_sem] more_more Array.size_append
set_option maxHeartbeats 2000000 in
theorem lsame_any (b b' : Nat) (v v' : Value) (l : List It) (w : World) (h : LfAt w b v l) (h' : LfAt w b' v' l) (hlen : l.length ≤ 9223372036854775807) :
    Calls Tryz.prog 75 #[v, v'] w fun e w' => e = .returned (.bool true) ∧ Ext w w' := by
  obtain ⟨ho, p, cap, rfl, hcap, hp⟩ := h
  obtain ⟨_, p', cap', rfl, hcap', hp'⟩ := h'
  obtain ⟨n, hn⟩ : ∃ n, l.length = n := ⟨_, rfl⟩
  rw [hn] at hp hp' hcap hcap' hlen ⊢
  have hnI : (n : Int) ≤ 9223372036854775807 := by omega
  have HN := Lib.hid hn
  have HP := Lib.hid hp
  have HP' := Lib.hid hp'
  clear hp hp' hn ho
  go_enter Tryz.func75, Tryz.ntmps75
  go_wp2_with fail
  go_loopw [5] (fun ii wr => ∃ k : Nat, ii = .int .i64 (k : Int) ∧ k ≤ n ∧ Ext w wr) (fun ii _ => n - (intOf ii).toNat)
  case atStart => exact ⟨0, rfl, Nat.zero_le _, Ext.refl _⟩
  case round =>
    obtain ⟨k, rfl, hk, hext⟩ := hrel
    have HEX := Lib.hid hext
    clear hext
    by_cases hlt : k < n
    · obtain ⟨x, hx⟩ := get_at HN.out hlt
      obtain ⟨off, rfl, hi⟩ := HP.out (by omega)
      obtain ⟨off', rfl, hi'⟩ := HP'.out (by omega)
      obtain ⟨a0, a1, a2, a3, a4⟩ := (hi.ext HEX.out) k x hx
      obtain ⟨b0, b1, b2, b3, b4⟩ := (hi'.ext HEX.out) k x hx
      have hg := World.block_lt_of_cell? _ _ a0
      have hg' := World.block_lt_of_cell? _ _ b0
      have hkI : (k : Int) < (n : Int) := by omega
      have hk0 : (0 : Int) ≤ (k : Int) := by omega
      have HLT := Lib.hid hlt
      obtain ⟨xk, xvk, xvi, xvs, xver⟩ := x
      dsimp only at a0 a1 a2 a3 a4 b0 b1 b2 b3 b4 hg hg'
      clear hx hlt hi hi'
      go_wp2_with fail
      refine wp_region_grow 8 26 [false, false, false, false, false, false, false, false] (by kernel_rfl) (by kernel_rfl) rfl ?_
      simp only [List.take_succ_cons, List.take_zero, List.drop_succ_cons, List.drop_zero]
      repeat (refine Lex.step rfl ?_; intro K hK; unfold StepG; go_simp; (first
          | refine hK _ ?_); clear hK K)
      refine Lex.nil fun WW hE => ?_
      obtain ⟨dd, oo, rfl⟩ := hE
      unfold FillH
      go_wp2_with fail
      rw [ends_normal]
      go_wp2_with fail
      go_roundw
      case rel => exact ⟨k + 1, by go_num, by have := HLT.out; omega, by repeat (first | exact HEX.out | apply Ext.alloc | apply Ext.more | apply Ext.drewN)⟩
      case measure => have := HLT.out; simp [intOf]; omega
    · have hje : k = n := by omega
      subst hje
      clear hlt
      go_wp2_with fail
      go_ret
      exact ⟨rfl, HEX.out⟩
set_option maxHeartbeats 4000000 in
theorem tsame_any (bs bs' : Nat → Nat) (v v' : Nat → Value) (T : Nat → List It) (V : Nat → Int) (w : World) (h : LvsAt w bs v T) (h' : LvsAt w bs' v' T) (hlen : ∀ k, k < 16 → (T k).length ≤ 9223372036854775807) :
    Calls Tryz.prog 48 #[.agg (trC v V), .agg (trC v' V)] w fun e w' => e = .returned (.bool true) ∧ Ext w w' := by
  have HL := Lib.hid h
  have HL' := Lib.hid h'
  have HLEN := Lib.hid hlen
  clear h h' hlen
  unfold trC
  go_enter Tryz.func48, Tryz.ntmps48
  go_wp2_with fail
  obtain ⟨N, hN⟩ : ∃ N, w.heap.size = N := ⟨_, rfl⟩
  go_loopw [5] (fun ii wr => ∃ k : Nat, ii = .int .i64 (k : Int) ∧ k ≤ 16 ∧ Hid (TrBlk wr N v V) ∧ Hid (TrBlk wr (N + 1) v' V) ∧ Ext w wr) (fun ii _ => 16 - (intOf ii).toNat)
  case atStart =>
    refine ⟨0, rfl, Nat.zero_le _, Lib.hid ?_, Lib.hid ?_, ((Ext.refl _).alloc _).alloc _⟩
    · unfold TrBlk
      rw [← hN]
      exact (heap_alloc_old _ _ (by simp)).trans (heap_alloc_new w _)
    · unfold TrBlk
      rw [← hN]
      have := heap_alloc_new (w.alloc (.cells (trC v V) 29)) (.cells (trC v' V) 29)
      rw [World.size_alloc] at this
      exact this
  case round =>
    obtain ⟨k, rfl, hk16, hblk, hblk', hext⟩ := hrel
    have HEX := Lib.hid hext
    clear hext
    by_cases hk : k < 16
    · have FC := Lib.hid fun (W : World) (hx : Ext w W) => lsame_any (bs k) (bs' k) (v k) (v' k) (T k) W ((HL.out k hk).ext hx) ((HL'.out k hk).ext hx) (HLEN.out k hk)
      have hcv := hblk.out.ver k hk
      have hcl := hblk.out.leaf k hk
      have hcv' := hblk'.out.ver k hk
      have hcl' := hblk'.out.leaf k hk
      have hNw : N < wr.heap.size := lt_of_heap hblk.out
      have hNw' : N + 1 < wr.heap.size := lt_of_heap hblk'.out
      have hkI : (k : Int) < 16 := by omega
      have hk0 : (0 : Int) ≤ (k : Int) := by omega
      rw [hN]
      go_wp2_with fail
      refine wp_region_grow 18 31 [false, false, false, false, false, false, false, false, false, false, false, false, false, false, false, false, false, false] (by kernel_rfl) (by kernel_rfl) rfl ?_
      simp only [List.take_succ_cons, List.take_zero, List.drop_succ_cons, List.drop_zero]
      repeat (refine Lex.step rfl ?_; intro K hK; unfold StepG; go_simp; (first
          | refine hK _ ?_); clear hK K)
      refine Lex.nil fun WW hE => ?_
      obtain ⟨dd, oo, rfl⟩ := hE
      unfold FillH
      go_wp2_with (go_at_call 75; refine (FC.out _ (by repeat (first | exact HEX.out | apply Ext.alloc | apply Ext.more | apply Ext.drewN))).mono ?_; rintro e _ ⟨rfl, d2, os2, rfl⟩)
      rw [ends_normal]
      go_wp2_with fail
      go_roundw
      case rel =>
        exact ⟨k + 1, by go_num, by omega, Lib.hid (hblk.out.ext (by repeat (first | exact Ext.refl _ | apply Ext.alloc | apply Ext.more | apply Ext.drewN))), Lib.hid (hblk'.out.ext (by repeat (first | exact Ext.refl _ | apply Ext.alloc | apply Ext.more | apply Ext.drewN))), (by repeat (first | exact HEX.out | apply Ext.alloc | apply Ext.more | apply Ext.drewN))⟩
      case measure => simp [intOf]; omega
    have hkn : k = 16 := by omega
    subst hkn
    go_wp2_with fail
    go_ret
    exact ⟨rfl, HEX.out⟩
end Go.Proofs.YtpchohjkelopoaaGreatDoor
