/- Lemmas for the claim (texts PaL, PaR, PaS, PaM, what its proof uses of them). -/
import Derived.Test.YtpchohjkelopoaaGreatDoorP18
set_option linter.unusedSimpArgs false
set_option linter.unusedVariables false
set_option maxRecDepth 20000
namespace Go.Proofs.YtpchohjkelopoaaGreatDoor
open Go.RowKit
attribute [go_sem] more_more Array.size_append
theorem row_range {w : World} {N : Nat} {cs : Array Value} {t : TypeId} {fr : Nat × Nat} (h : w.heap[N]? = some (.cells cs t fr)) : w.rangeAt N 0 cs.toList := by
  have := World.rangeAt_of_block (w := w) h 0 cs.size
  simpa using this
/-- a block of 16 numbers -/
def AvBlk (w : World) (N : Nat) (L : Nat → Int) : Prop := w.heap[N]? = some (.cells (lsC L) 23 (0, 0))
theorem lsC_set (L : Nat → Int) (k : Nat) (hk : k < 16) (z : Int) : (lsC L).setIfInBounds k (.int .i64 z) = lsC (upd L k z) := by
  match k, hk with
  | 0, _ => rfl
  | 1, _ => rfl
  | 2, _ => rfl
  | 3, _ => rfl
  | 4, _ => rfl
  | 5, _ => rfl
  | 6, _ => rfl
  | 7, _ => rfl
  | 8, _ => rfl
  | 9, _ => rfl
  | 10, _ => rfl
  | 11, _ => rfl
  | 12, _ => rfl
  | 13, _ => rfl
  | 14, _ => rfl
  | 15, _ => rfl
  | k + 16, h => exact absurd h (by omega)
theorem AvBlk.ext {w w' : World} {N : Nat} {L : Nat → Int} (h : AvBlk w N L) (hx : Ext w w') : AvBlk w' N L := by
  unfold AvBlk at h ⊢
  rw [hx.below.block N (lt_of_heap h)]; exact h
theorem AvBlk.cell {w : World} {N : Nat} {L : Nat → Int} (h : AvBlk w N L) (k : Nat) (hk : k < 16) : w.cell? ⟨N, k, none⟩ = some (.int .i64 (L k)) := (cell_of_row w N k _ _ _ h).trans (lsC_get L k hk)
theorem AvBlk.frozen {w : World} {N : Nat} {L : Nat → Int} (h : AvBlk w N L) (j : Nat) : w.frozen? ⟨N, j, none⟩ = false := by
  unfold AvBlk at h
  simp [World.frozen?, h]
theorem AvBlk.set {w : World} {N : Nat} {L : Nat → Int} (h : AvBlk w N L) (k : Nat) (hk : k < 16) (z : Int) : AvBlk (w.setCell ⟨N, k, none⟩ (.int .i64 z)) N (upd L k z) := by
  unfold AvBlk at h ⊢
  rw [← lsC_set L k hk z]
  simp [World.setCell, Array.getElem?_modify, h]
theorem AvBlk.other {w : World} {N M i : Nat} {L : Nat → Int} (h : AvBlk w N L) (hne : N ≠ M) (x : Value) : AvBlk (w.setCell ⟨M, i, none⟩ x) N L := by
  unfold AvBlk at h ⊢
  rw [Go.Deep.blk_setCell_other _ _ _ _ hne]; exact h
theorem AvBlk.setRow {w : World} {N : Nat} {L : Nat → Int} (h : AvBlk w N L) (L' : Nat → Int) : AvBlk (w.setRow N (lsC L')) N L' := setRow_heap w N _ _ _ _ h
theorem av_load {w : World} {N : Nat} {L : Nat → Int} (h : AvBlk w N L) : (loadVar 23 ⟨N, 0, none⟩).run Tryz.prog w = .ok (.agg (lsC L)) w :=
  run_loadVar_row w N 23 23 (lsC L) (0, 0) _ h Tryz.underlying23 rfl (by kernel_rfl)
theorem ls_all (L : Nat → Int) : (lsC L).all (·.oneCell') = true := by kernel_rfl
/-- a row of texts stays behind a write into a block of another type -/
theorem own_afterC {w : World} {B n size : Nat} {v : Value} {xs : List Value} (h : w.ownsRow B 9 size v n xs) {M i : Nat} {cur : Array Value} {t : TypeId} {fz : Nat × Nat} (hM : w.heap[M]? = some (.cells cur t fz)) (ht : t ≠ 9) (x : Value) : (w.setCell ⟨M, i, none⟩ x).ownsRow B 9 size v n xs :=
  own_block h (fun q hq => Go.Deep.blk_setCell_other _ _ _ _ (fun e => by
    obtain ⟨cur2, hc⟩ := own_type h hq
    rw [e, hM] at hc; simp at hc; exact ht hc.2.1))
theorem own_afterR {w : World} {B n size : Nat} {v : Value} {xs : List Value} (h : w.ownsRow B 9 size v n xs) {M : Nat} {cur : Array Value} {t : TypeId} {fz : Nat × Nat} (hM : w.heap[M]? = some (.cells cur t fz)) (ht : t ≠ 9) (x : Array Value) : (w.setRow M x).ownsRow B 9 size v n xs :=
  own_block h (fun q hq => setRow_other _ _ _ _ (fun e => by
    obtain ⟨cur2, hc⟩ := own_type h hq
    rw [e, hM] at hc; simp at hc; exact ht hc.2.1))
def RLeavesPost (B : Nat) (lv : Value) (r : List ByteArray × List Int × Int) (w : World) (e : Ending) (w' : World) : Prop :=
  ∃ v', e = .returned (.tuple #[v', .agg (lsC (nsF r.2.1)), .int .i64 r.2.2]) ∧ w'.ownsRow B 9 1 v' r.1.length (r.1.map Value.string) ∧ w.grownBy w' lv.ownBlock ∧ (v'.ownBlock = lv.ownBlock ∨ ∃ k, v'.ownBlock = some k ∧ w.heap.size ≤ k)
theorem results_slot_cell_slot {fn : Func} {p q r : Tmp} {ty : TypeId} (h : fn.results = #[.tmp r, .cell p ty, .tmp q]) (tmps : Array Value) (w : World) (a : Addr) (x0 : Value)
    (hp : tmps.getD p undef = .pointer (some a)) (hl : (loadVar ty a).run Tryz.prog w = .ok x0 w) (x y : Value) (hx : tmps.getD q undef = x) (hy : tmps.getD r undef = y) :
    (results fn tmps).run Tryz.prog w = .ok (.tuple #[y, x0, x]) w := by
  have hp' : tmps[p]?.getD undef = .pointer (some a) := by simpa using hp
  have hx' : tmps[q]?.getD undef = x := by simpa using hx
  have hy' : tmps[r]?.getD undef = y := by simpa using hy
  simp [results, h, hp', hx', hy', asAddr, hl]
set_option maxHeartbeats 4000000 in
theorem rleaves15_any (B : Nat) (lv : Value) (l : List ByteArray) (bs : Nat → Nat) (v : Nat → Value) (T : Nat → List It) (V : Nat → Int) (w : World) (hBw : B ≤ w.heap.size) (hown : w.ownsRow B 9 1 lv l.length (l.map Value.string)) (hll : l.length ≤ 700)
    (h : LvsAt w bs v T) (hy : LvTy w bs T) (hyes : trunkB T V = true) (q : List ByteArray × List Int × Int) (hq : leavesT T V (List.range 16) l = q) :
    Calls Tryz.prog 56 #[lv, .agg (trC v V)] w (RLeavesPost B lv q w) := by
  have HQ := Lib.hid hq
  have HOWN := Lib.hid hown
  have HL := Lib.hid h
  have HY := Lib.hid hy
  have HYES := Lib.hid hyes
  have HD : ∀ (o3 : Obj) (W : World), W = (((w.alloc (.cells (trC v V) 29)).alloc (.cells (lsC zeroV) 23)).alloc o3) → TrBlk W w.heap.size v V ∧ AvBlk W (w.heap.size + 1) zeroV ∧ W.heap[w.heap.size + 1 + 1]? = some o3 ∧ Ext w W := fun o3 W e => by
    rw [e]; exact ⟨(three_boxes o3).1, (three_boxes o3).2.1, (three_boxes o3).2.2, ((((Ext.refl w).alloc _).alloc _).alloc _)⟩
  clear h hy hyes hq hown
  go_enter Tryz.func56, Tryz.ntmps56
  go_wp2_with fail
  obtain ⟨N, hN⟩ : ∃ N, w.heap.size = N := ⟨_, rfl⟩
  have HN := Lib.hid hN
  rw [hN] at HD
  go_loopw [0, 8] (fun lw ii wr => ∃ (k : Nat) (lk : List ByteArray) (ns : List Int), ii = .int .i64 (k : Int) ∧ k ≤ 16 ∧ Hid (wr.ownsRow B 9 1 lw lk.length (lk.map Value.string) ∧ w.grownBy wr lv.ownBlock ∧ (lw.ownBlock = lv.ownBlock ∨ ∃ k, lw.ownBlock = some k ∧ w.heap.size ≤ k) ∧ (TrBlk wr N v V ∧ AvBlk wr (N + 1) zeroV ∧ AvBlk wr (N + 1 + 1) (nsF ns)) ∧ ns.length = k ∧ (∀ z ∈ ns, 0 ≤ z ∧ z ≤ 1000) ∧ lk.length ≤ l.length + 9 * k ∧ preT ns (leavesT T V ((List.range 16).drop k) lk) = q)) (fun _ ii _ => 16 - (intOf ii).toNat)
  case atStart =>
    obtain ⟨h1, h2, h3, h4⟩ := HD _ _ rfl
    exact ⟨0, l, [], rfl, Nat.zero_le _, Lib.hid ⟨own_ext HOWN.out h4, rstep_ext h4, Or.inl rfl, ⟨h1, h2, by rw [nsF_nil]; exact h3⟩, rfl, by simp, by omega, by rw [List.drop_zero, ← preL_nil]; exact HQ.out⟩⟩
  case round =>
    obtain ⟨k, lk, ns, rfl, hk16, hH⟩ := hrel
    rw [hN]
    clear hN HD
    obtain ⟨lw, hlw⟩ : ∃ x, x = u0 := ⟨_, rfl⟩
    subst hlw
    have hkI2 : (k : Int) ≤ 16 := by omega
    obtain ⟨hA, hB, hC⟩ := hH.out.2.2.2.1
    have HA := Lib.hid hA
    have HB := Lib.hid hB
    have HC := Lib.hid hC
    clear hA hB hC
    by_cases hk : k < 16
    · have hcv := HA.out.ver k hk
      have hcl := HA.out.leaf k hk
      have hNw : N < wr.heap.size := lt_of_heap HA.out
      have hkI : (k : Int) < 16 := by omega
      have hk0 : (0 : Int) ≤ (k : Int) := by omega
      obtain ⟨ro, hro⟩ : ∃ ro, leafT lk (T k) (V k) = ro := ⟨_, rfl⟩
      obtain ⟨fl, f0, f1⟩ := fits_parts (trunk_fits HYES.out k hk)
      have hlf : LfAt wr (bs k) (v k) (T k) := (HL.out k hk).of_block (fun hl => by obtain ⟨cur, fz, hc⟩ := HY.out k hk hl; exact blk_str HOWN.out hH.out.2.1 hc (by decide))
      have LC := Lib.hid fun (W : World) (hx : Ext wr W) => drleaf_any B lw lk (bs k) (v k) (T k) (V k) W (Nat.le_trans (Nat.le_trans hBw hH.out.2.1.size) hx.size) (own_ext hH.out.1 hx) (by have := hH.out.2.2.2.2.2.2.1; omega) (hlf.ext hx) fl f0 f1 ro hro
      have hbd := leafT_len lk (T k) (V k) (leafB_may fl).1
      rw [hro] at hbd
      have HRO := Lib.hid hro
      have HBD := Lib.hid hbd
      obtain ⟨l3, n3, e3⟩ := ro
      dsimp only at hbd
      have hn3 : (n3 : Int) ≤ 1000 := by have := hH.out.2.2.2.2.2.2.1; omega
      have hone := (HL.out.one k hk)
      clear hro hbd fl f0 f1 hlf
      go_wp2_with fail
      go_region_held_law (fun w' => w'.cell? ⟨N, k, none⟩ = some (v k) ∧ w'.cell? ⟨N, 16 + k, none⟩ = some (.int .i64 (V k))) (first
          | exact ⟨m0, m1⟩
          | exact ⟨cell_ext hcl (by repeat (first | exact Ext.refl _ | apply Ext.alloc | apply Ext.drew)), cell_ext hcv (by repeat (first | exact Ext.refl _ | apply Ext.alloc | apply Ext.drew))⟩)
        ((go_at_call 36; refine (LC.out _ (Ext.refl wr).drew).mono ?_; rintro e w3 ⟨v3, rfl, ho3, hg3, hk3⟩; have hb3 : TrBlk w3 N v V := (blk_str (own_ext hH.out.1 (Ext.refl wr).drew) hg3 (HA.out.ext (Ext.refl wr).drew) (by decide)).trans (HA.out.ext (Ext.refl wr).drew); have m0 := hb3.leaf k hk; have m1 := hb3.ver k hk))
      have H3 := Lib.hid (And.intro ho3 (And.intro (rstep_trans (v := lw) (v1 := lw) (rstep_ext (Ext.refl wr).drew) (Or.inl rfl) hg3) (rstep_own (w := wr) (v := lw) (Ext.refl wr).drew.size (Or.inl rfl) hk3)))
      have HKT := Lib.hid (fun (g : Nat) (cur : Array Value) (ty : TypeId) (fz : Nat × Nat) (hb : wr.heap[g]? = some (.cells cur ty fz)) (h1 : ty ≠ 9) => (blk_str hH.out.1 H3.out.2.1 hb h1).trans hb)
      have HA3 : Hid (TrBlk w3 N v V) := Lib.hid hb3
      have HB3 : Hid (AvBlk w3 (N + 1) zeroV) := Lib.hid (HKT.out _ _ _ _ HB.out (by decide))
      have HC3 : Hid (AvBlk w3 (N + 1 + 1) (nsF ns)) := Lib.hid (HKT.out _ _ _ _ HC.out (by decide))
      have c3 := HC3.out.cell k hk
      have f3 := HC3.out.frozen k
      have hw3 := lt_of_heap HC3.out
      clear ho3 hg3 hk3 hb3 m0 m1 hcv hcl
      by_cases he : e3 = 0
      case neg =>
        have he' : (e3 != 0) = true := by simpa using he
        have hre : q = (l3, [], e3) := by
          have h1 := hH.out.2.2.2.2.2.2.2
          rw [drop_range k hk, preL_err (by rw [HRO.out]; exact he), HRO.out] at h1
          exact h1.symm
        have HRE := Lib.hid hre
        clear he hre c3 f3
        go_wp2_with (first
    | (refine wpList_buildTo rfl 23 #[] rfl _ rfl (lsC zeroV) (by kernel_rfl) ?_)
    | (refine wpList_store_rowTo rfl 23 _ _ rfl rfl (N + 1) (lsC zeroV) rfl rfl 23 (lsC zeroV) (HB3.out) (by kernel_rfl) rfl (ls_all _) ?_))
        rw [HRE.out]
        have hst := rstep_new (rstep_trans hH.out.2.1 hH.out.2.2.1 H3.out.2.1) (grown_row w3 (N + 1) (lsC zeroV)) (fun k hk => by obtain rfl := Option.some.inj hk; rw [HN.out]; exact Nat.le_succ _)
        exact bodyPost_ret (results_slot_cell_slot (p := 5) (q := 6) (r := 4) (ty := 23) rfl _ _ ⟨N + 1, 0, none⟩ _ rfl (av_load (HB3.out.setRow zeroV)) _ _ rfl rfl) rfl ⟨v3, by rw [nsF_nil]; rfl, own_afterR H3.out.1 HB3.out (by decide) _, hst, rstep_own hH.out.2.1.size hH.out.2.2.1 H3.out.2.2⟩
      subst he
      go_wp2_with fail
      go_roundw
      case rel =>
        have hst := rstep_new (rstep_trans hH.out.2.1 hH.out.2.2.1 H3.out.2.1) (grown_cellw w3 (N + 1 + 1) k (.int .i64 (n3 : Int))) (fun k hk => by obtain rfl := Option.some.inj hk; rw [HN.out]; omega)
        refine ⟨k + 1, l3, ns ++ [(n3 : Int)], by go_num, by omega, Lib.hid ⟨own_afterC H3.out.1 HC3.out (by decide) _, hst, by rw [← HN.out]; exact rstep_own hH.out.2.1.size hH.out.2.2.1 H3.out.2.2, ⟨?_, HB3.out.other (by omega) _, ?_⟩, by simp [hH.out.2.2.2.2.1], ?_, ?_, ?_⟩⟩
        · exact TrBlk.other HA3.out (show N ≠ N + 1 + 1 by omega) _
        · rw [nsF_snoc hH.out.2.2.2.2.1]; exact HC3.out.set k hk _
        · intro z hz
          rcases List.mem_append.1 hz with h | h
          · exact hH.out.2.2.2.2.2.1 z h
          · simp at h; subst h; omega
        · have h1 := hH.out.2.2.2.2.2.2.1
          have h2 := HBD.out.1
          (try dsimp only at h2)
          omega
        · have h1 := hH.out.2.2.2.2.2.2.2
          rw [drop_range k hk, preL_step (by rw [HRO.out]), HRO.out] at h1
          exact h1
      case measure => simp [intOf]; omega
    have hkn : k = 16 := by omega
    have hqq : q = (lk, ns, 0) := by
      have h1 := hH.out.2.2.2.2.2.2.2
      rw [hkn] at h1
      rw [← h1, show (List.range 16).drop 16 = [] from rfl]
      simp [leavesT, preT]
    have HQQ := Lib.hid hqq
    clear hqq
    subst hkn
    have HRG := Lib.hid fun (d : Nat) (os : Array Obj) => row_range (HC.out.ext ((Ext.refl wr).more d os))
    go_wp2_with fail
    refine wp_region_grow 3 41 [false, false, false] (by kernel_rfl) (by kernel_rfl) rfl ?_
    simp only [List.take_succ_cons, List.take_zero, List.drop_succ_cons, List.drop_zero]
    repeat (refine Lex.step rfl ?_; intro K hK; (first
      | (refine ⟨.agg (lsC (nsF ns)), fun d os => stepG_load_mid (by rfl) 23 _ rfl (N + 1 + 1) 0 rfl (lsC (nsF ns)).toList _ (HRG.out d os) Tryz.underlying23 rfl (by kernel_rfl) _ rfl, ?_⟩; go_simp; refine hK _ ?_)
      | (unfold StepG; go_simp; refine hK _ ?_)); clear hK K)
    refine Lex.nil fun WW hE => ?_
    obtain ⟨dd, oo, rfl⟩ := hE
    unfold FillH
    go_wp2_with (first
    | (refine wpList_store_rowTo rfl 23 _ _ rfl rfl (N + 1) (lsC (nsF ns)) rfl rfl 23 (lsC zeroV) ((HB.out.ext ((Ext.refl wr).more dd oo))) (by kernel_rfl) rfl (ls_all _) ?_))
    rw [ends_normal]
    go_wp2_with fail
    have hB4 := HB.out.ext ((Ext.refl wr).more dd oo)
    have hst := rstep_new (rstep_new hH.out.2.1 (rstep_ext (row := none) ((Ext.refl wr).more dd oo)) (fun k h => by cases h)) (grown_row _ (N + 1) (lsC (nsF ns))) (fun k hk => by obtain rfl := Option.some.inj hk; rw [HN.out]; exact Nat.le_succ _)
    rw [HQQ.out]
    exact bodyPost_ret (results_slot_cell_slot (p := 5) (q := 6) (r := 4) (ty := 23) rfl _ _ ⟨N + 1, 0, none⟩ _ rfl (av_load (hB4.setRow (nsF ns))) _ _ rfl rfl) rfl ⟨lw, rfl, own_afterR (own_ext hH.out.1 ((Ext.refl wr).more dd oo)) hB4 (by decide) _, hst, hH.out.2.2.1⟩
end Go.Proofs.YtpchohjkelopoaaGreatDoor

set_option maxRecDepth 20000
namespace Go.Proofs.YtpchohjkelopoaaGreatDoor
open Go.RowKit
attribute [go_sem] more_more Array.size_append
/-- a block that holds an item -/
def ItBlk (w : World) (N : Nat) (x : It) : Prop := w.heap[N]? = some (.cells #[.string x.k, .int .i64 x.vk, .int .i64 x.vi, .string x.vs, .int .i64 x.ver] 152 (0, 0))
theorem ItBlk.ext {w w' : World} {N : Nat} {x : It} (h : ItBlk w N x) (hx : Ext w w') : ItBlk w' N x := by
  unfold ItBlk at h ⊢
  rw [hx.below.block _ (lt_of_heap h)]; exact h
theorem ItBlk.cells {w : World} {N : Nat} {x : It} (h : ItBlk w N x) : w.cell? ⟨N, 0, none⟩ = some (.string x.k) ∧ w.cell? ⟨N, 1, none⟩ = some (.int .i64 x.vk) ∧ w.cell? ⟨N, 2, none⟩ = some (.int .i64 x.vi) ∧ w.cell? ⟨N, 3, none⟩ = some (.string x.vs) ∧ w.cell? ⟨N, 4, none⟩ = some (.int .i64 x.ver) :=
  ⟨cell_of_row w N 0 _ _ _ h, cell_of_row w N 1 _ _ _ h, cell_of_row w N 2 _ _ _ h, cell_of_row w N 3 _ _ _ h, cell_of_row w N 4 _ _ _ h⟩
theorem ItBlk.other {w : World} {N M i : Nat} {x : It} (h : ItBlk w N x) (hne : N ≠ M) (y : Value) : ItBlk (w.setCell ⟨M, i, none⟩ y) N x := by
  unfold ItBlk at h ⊢
  rw [Go.Deep.blk_setCell_other _ _ _ _ hne]; exact h
theorem own_otherC {w : World} {B n size : Nat} {e : TypeId} {v : Value} {xs : List Value} (h : w.ownsRow B e size v n xs) {M i : Nat} {cur : Array Value} {t : TypeId} {fz : Nat × Nat} (hM : w.heap[M]? = some (.cells cur t fz)) (ht : t ≠ e) (x : Value) : (w.setCell ⟨M, i, none⟩ x).ownsRow B e size v n xs :=
  own_block h (fun q hq => Go.Deep.blk_setCell_other _ _ _ _ (fun e1 => by
    obtain ⟨cur2, hc⟩ := own_type h hq
    rw [e1, hM] at hc; simp at hc; exact ht hc.2.1))
theorem own_otherR {w : World} {B n size : Nat} {e : TypeId} {v : Value} {xs : List Value} (h : w.ownsRow B e size v n xs) {M : Nat} {cur : Array Value} {t : TypeId} {fz : Nat × Nat} (hM : w.heap[M]? = some (.cells cur t fz)) (ht : t ≠ e) (x : Array Value) : (w.setRow M x).ownsRow B e size v n xs :=
  own_block h (fun q hq => setRow_other _ _ _ _ (fun e1 => by
    obtain ⟨cur2, hc⟩ := own_type h hq
    rw [e1, hM] at hc; simp at hc; exact ht hc.2.1))
def ItFact (base : Nat) (x : It) : Fact := fun v W => ∃ p c, v = .slice p 1 c ∧ W.ownsRow base 152 5 v 1 (itCells [x])
theorem ItFact.upc (base : Nat) (x : It) : Upc (ItFact base x) := fun v W W' hx ⟨p, c, h1, h2⟩ => ⟨p, c, h1, own_ext h2 hx⟩
set_option maxHeartbeats 8000000 in
theorem rput_nil (x : It) (k : Nat) (hk : k < 16) (hv : 0 ≤ x.ver) (hB : ∀ W, Calls Tryz.prog 109 #[.string x.k] W fun e w' => e = .returned (.int .i64 (k : Int)) ∧ Ext W w') (w : World) :
    Calls Tryz.prog 82 #[.agg (trC nilV zeroV), itV x] w fun e w' => ∃ v', e = .returned (.tuple #[.agg (trC (upd nilV k v') (upd zeroV k x.ver)), .int .i64 0]) ∧ w'.ownsRow w.heap.size 152 5 v' 1 (itCells [x]) ∧ Ext w w' := by
  have HD : ∀ (W : World), W = (((w.alloc (.cells (trC nilV zeroV) 29)).alloc (.cells #[.string x.k, .int .i64 x.vk, .int .i64 x.vi, .string x.vs, .int .i64 x.ver] 152)).alloc (.cells (trC nilV zeroV) 29)) → TrBlk W w.heap.size nilV zeroV ∧ ItBlk W (w.heap.size + 1) x ∧ TrBlk W (w.heap.size + 1 + 1) nilV zeroV ∧ Ext w W := fun W e => by
    rw [e]; exact ⟨(three_boxes _).1, (three_boxes _).2.1, (three_boxes _).2.2, ((((Ext.refl w).alloc _).alloc _).alloc _)⟩
  obtain ⟨e1, e2, e3, e4⟩ := HD _ rfl
  have E1 := Lib.hid e1
  have E2 := Lib.hid e2
  have E3 := Lib.hid e3
  have E4 := Lib.hid e4
  obtain ⟨a0, a1, a2, a3, a4⟩ := e2.cells
  have hN1 := lt_of_heap e1
  have hN2 := lt_of_heap e2
  have hv' : (x.ver < 0) = False := eq_false (by omega)
  have hkI : (k : Int) < 16 := by omega
  have hk0 : (0 : Int) ≤ (k : Int) := by omega
  have BC := Lib.hid hB
  clear e1 e2 e3 e4 HD hB
  unfold itV
  go_enter Tryz.func82, Tryz.ntmps82
  go_upto_region 2 with (go_at_call 109; refine (BC.out _).mono ?_; rintro e w1 ⟨rfl, hx⟩; have E11 := Lib.hid (E1.out.ext hx); have E21 := Lib.hid (E2.out.ext hx); have E31 := Lib.hid (E3.out.ext hx); have E41 := Lib.hid (E4.out.trans hx); have cv1 : w1.cell? ⟨w.heap.size, 16 + k, none⟩ = some (.int .i64 0) := E11.out.ver k hk; have cl1 : w1.cell? ⟨w.heap.size, k, none⟩ = some (.slice none 0 0) := E11.out.leaf k hk; obtain ⟨b0, b1, b2, b3, b4⟩ := E21.out.cells; have hM1 := lt_of_heap E11.out; have hM2 := lt_of_heap E21.out; clear hx)
  go_region
  go_upto_region 7 with (first
    | (refine wpList_load_row rfl 29 _ rfl (w.heap.size) rfl 29 (trC nilV zeroV) (0, 0) _ (E11.out) Tryz.underlying29 rfl (by kernel_rfl) ?_)
    | (go_at_call 108; refine (rget_nil _ _).mono ?_; rintro e w2 ⟨rfl, hx⟩; have E12 := Lib.hid (E11.out.ext hx); have E22 := Lib.hid (E21.out.ext hx); have E32 := Lib.hid (E31.out.ext hx); have E42 := Lib.hid (E41.out.trans hx); have cl2 : w2.cell? ⟨w.heap.size, k, none⟩ = some (.slice none 0 0) := E12.out.leaf k hk; have hO1 := lt_of_heap E12.out; have hO2 := lt_of_heap E22.out; clear hx))
  have E17 := Lib.hid (E12.out.ext ((Ext.refl w2).alloc (.cells #[.string ⟨#[]⟩, .int .i64 0, .int .i64 0, .string ⟨#[]⟩, .int .i64 0] 152)))
  have E27 := Lib.hid (E22.out.ext ((Ext.refl w2).alloc (.cells #[.string ⟨#[]⟩, .int .i64 0, .int .i64 0, .string ⟨#[]⟩, .int .i64 0] 152)))
  have E37 := Lib.hid (E32.out.ext ((Ext.refl w2).alloc (.cells #[.string ⟨#[]⟩, .int .i64 0, .int .i64 0, .string ⟨#[]⟩, .int .i64 0] 152)))
  have E47 := Lib.hid (E42.out.alloc (.cells #[.string ⟨#[]⟩, .int .i64 0, .int .i64 0, .string ⟨#[]⟩, .int .i64 0] 152))
  show Code.wp _ _ _ _ (w2.alloc (.cells #[.string ⟨#[]⟩, .int .i64 0, .int .i64 0, .string ⟨#[]⟩, .int .i64 0] 152))
  obtain ⟨W7, hW7⟩ : ∃ W7, w2.alloc (.cells #[.string ⟨#[]⟩, .int .i64 0, .int .i64 0, .string ⟨#[]⟩, .int .i64 0] 152) = W7 := ⟨_, rfl⟩
  rw [hW7] at E17 E27 E37 E47 ⊢
  clear hW7 cl1 cl2 cv1 a0 a1 a2 a3 a4 b0 b1 b2 b3 b4 hM1 hM2 hO1 hO2 hN1 hN2
  have cl7 : W7.cell? ⟨w.heap.size, k, none⟩ = some (.slice none 0 0) := E17.out.leaf k hk
  have HRG := Lib.hid fun (d : Nat) (os : Array Obj) => row_range (E27.out.ext ((Ext.refl W7).more d os))
  have hP1 := lt_of_heap E17.out
  have hP2 := lt_of_heap E27.out
  have CTL := Lib.hid fun (d : Nat) (os : Array Obj) => (rwith_nil x none 0 (more W7 d os)).mono fun e w' ⟨v', h1, h2, h3⟩ => (⟨v', h1, h3, let ⟨p, c, hp⟩ := own_sl h2; ⟨p, c, hp, own_mono h2 (Nat.le_trans E47.out.size ((Ext.refl W7).more d os).size)⟩⟩ : RetG (more W7 d os) (ItFact w.heap.size x) e w')
  unfold itV at CTL
  go_wp2_with fail
  refine wp_region_grow 8 53 [false, false, false, false, false, false, false, false] (by kernel_rfl) (by kernel_rfl) rfl ?_
  simp only [List.take_succ_cons, List.take_zero, List.drop_succ_cons, List.drop_zero]
  refine Lex.step rfl ?_; intro K hK; unfold StepG; go_simp; refine hK _ ?_; clear hK K
  refine Lex.step rfl ?_; intro K hK; unfold StepG; go_simp; refine hK _ ?_; clear hK K
  refine Lex.step rfl ?_; intro K hK; unfold StepG; go_simp; refine hK _ ?_; clear hK K
  refine Lex.step rfl ?_; intro K hK; unfold StepG; go_simp; refine hK _ ?_; clear hK K
  refine Lex.step rfl ?_; intro K hK; unfold StepG; go_simp; refine hK _ ?_; clear hK K
  refine Lex.step rfl ?_; intro K hK; (refine ⟨.agg (#[.string x.k, .int .i64 x.vk, .int .i64 x.vi, .string x.vs, .int .i64 x.ver]), fun d os => stepG_load_mid (by rfl) 152 _ rfl (w.heap.size + 1) 0 rfl (#[.string x.k, .int .i64 x.vk, .int .i64 x.vi, .string x.vs, .int .i64 x.ver]).toList _ (HRG.out d os) Tryz.underlying152 rfl (by kernel_rfl) _ rfl, ?_⟩; go_simp; refine hK _ ?_); clear hK K
  refine Lex.gap 44 (ItFact w.heap.size x) rfl (ItFact.upc _ _) rfl (fun d os => ?_) ?_
  · unfold StepG
    go_simp
    exact CTL.out d os
  refine Lex.step rfl ?_; intro K hK; unfold StepG; go_simp; refine hK _ ?_; clear hK K
  refine Lex.nil fun WW hE => ?_
  obtain ⟨dd, oo, rfl⟩ := hE
  unfold FillH
  rintro _ ⟨pv, cv, rfl, hown⟩
  unfold FillH
  have hxm := (Ext.refl W7).more dd oo
  have E15 := Lib.hid (E17.out.ext hxm)
  have n0 : (more W7 dd oo).cell? ⟨w.heap.size, k, none⟩ = some (.slice none 0 0) := E15.out.leaf k hk
  have f0 := E15.out.frozen k
  have g0 := lt_of_heap E15.out
  have E25 := Lib.hid (E27.out.ext hxm)
  have E35 := Lib.hid (E37.out.ext hxm)
  have E45 := Lib.hid (E47.out.trans hxm)
  have HO5 := Lib.hid hown
  clear hxm hown cl7
  obtain ⟨W8, hW8⟩ : ∃ W8, more W7 dd oo = W8 := ⟨_, rfl⟩
  rw [hW8] at E15 n0 f0 g0 E25 E35 E45 HO5 ⊢
  clear hW8
  go_wp2_with fail
  rw [ends_normal]
  have e19 := E15.out.setLeaf k hk (.slice pv 1 cv)
  have e29 := E25.out.other (i := k) (show w.heap.size + 1 ≠ w.heap.size by omega) (.slice pv 1 cv)
  have e39 := E35.out.other (i := k) (show w.heap.size + 1 + 1 ≠ w.heap.size by omega) (.slice pv 1 cv)
  have e49 := E45.out.setCell (p := ⟨w.heap.size, k, none⟩) (Nat.le_refl _) (.slice pv 1 cv)
  have ho9 := own_otherC HO5.out E15.out (by decide) (i := k) (.slice pv 1 cv)
  obtain ⟨W9, hW9⟩ : ∃ W9, W8.setCell ⟨w.heap.size, k, none⟩ (.slice pv 1 cv) = W9 := ⟨_, rfl⟩
  rw [hW9] at e19 e29 e39 e49 ho9 ⊢
  have f9 := e19.frozen (16 + k)
  have c9 := e19.ver k hk
  obtain ⟨_, _, _, _, d4⟩ := e29.cells
  have g9 := lt_of_heap e19
  have h9 := lt_of_heap e29
  have E19 := Lib.hid (e19.setVer k hk x.ver)
  have E39 := Lib.hid (e39.other (i := 16 + k) (show w.heap.size + 1 + 1 ≠ w.heap.size by omega) (.int .i64 x.ver))
  have E49 := Lib.hid ((e49.setCell (p := ⟨w.heap.size, 16 + k, none⟩) (Nat.le_refl _) (.int .i64 x.ver)).setRow (g := w.heap.size + 1 + 1) (by omega) (trC (upd nilV k (.slice pv 1 cv)) (upd zeroV k x.ver)))
  have HO9 := Lib.hid (own_otherR (own_otherC ho9 e19 (by decide) (i := 16 + k) (.int .i64 x.ver)) E39.out (by decide) (trC (upd nilV k (.slice pv 1 cv)) (upd zeroV k x.ver)))
  clear e19 e29 e39 e49 ho9 hW9 n0 f0 g0
  go_wp2_with (first
    | (refine wpList_load_row rfl 29 _ rfl (w.heap.size) rfl 29 (trC (upd nilV k (.slice pv 1 cv)) (upd zeroV k x.ver)) (0, 0) _ (E19.out) Tryz.underlying29 rfl (by kernel_rfl) ?_)
    | (refine wpList_store_rowTo rfl 29 _ _ rfl rfl (w.heap.size + 1 + 1) (trC (upd nilV k (.slice pv 1 cv)) (upd zeroV k x.ver)) rfl rfl 29 (trC nilV zeroV) (E39.out) (by kernel_rfl) rfl (trC_one _ _ (by intro j hj; unfold upd; split <;> rfl)) ?_))
  exact bodyPost_ret (results_cell_slot (p := 4) (q := 5) (ty := 29) rfl _ _ ⟨w.heap.size + 1 + 1, 0, none⟩ _ rfl (tr_load (E39.out.setRow _ _)) _ rfl) rfl ⟨.slice pv 1 cv, rfl, HO9.out, E49.out⟩
end Go.Proofs.YtpchohjkelopoaaGreatDoor

set_option maxRecDepth 20000
namespace Go.Proofs.YtpchohjkelopoaaGreatDoor
open Go.RowKit
attribute [go_sem] more_more Array.size_append
/-- the chapter's item, and its edit -/
def xa : It := ⟨⟨#[97]⟩, 2, 1, ⟨#[]⟩, 1⟩
def edC : Array Value := #[.string ⟨#[97]⟩, .int .i64 2, .int .i64 1, .string ⟨#[]⟩]
theorem redit_a (w : World) : Calls Tryz.prog 80 #[.agg #[.string ⟨#[97]⟩, .int .i64 2, .int .i64 1, .string ⟨#[]⟩]] w fun e w' => e = .returned (.bool true) ∧ Ext w w' := by
  have KC := Lib.hid fun W => rkis_any ⟨#[97]⟩ (by decide) W
  have MC := Lib.hid fun W => rmay_any 2 1 ⟨#[]⟩ W
  have k0 : keyB ⟨#[97]⟩ = true := by decide +kernel
  have m0 : mayB 2 1 ⟨#[]⟩ = true := by decide +kernel
  rw [k0] at KC
  rw [m0] at MC
  clear k0 m0
  have HX0 := Lib.hid ((Ext.refl w).alloc (.cells #[.string ⟨#[97]⟩, .int .i64 2, .int .i64 1, .string ⟨#[]⟩] 118))
  have hb := heap_alloc_new w (.cells #[.string ⟨#[97]⟩, .int .i64 2, .int .i64 1, .string ⟨#[]⟩] 118)
  have HB := Lib.hid hb
  clear hb
  go_enter Tryz.func80, Tryz.ntmps80
  go_wp2_with (first
    | (go_at_call 79; refine (KC.out _).mono ?_; rintro e w1 ⟨rfl, hx⟩; have HX1 := Lib.hid (HX0.out.trans hx); have hb1 : w1.heap[w.heap.size]? = _ := (hx.below.block _ (lt_of_heap HB.out)).trans HB.out; have b1 := cell_of_row w1 w.heap.size 1 _ _ _ hb1; have b2 := cell_of_row w1 w.heap.size 2 _ _ _ hb1; have b3 := cell_of_row w1 w.heap.size 3 _ _ _ hb1; have hl := lt_of_heap hb1; clear hx hb1)
    | (go_at_call 107; refine (MC.out _).mono ?_; rintro e w2 ⟨rfl, hx⟩; have HX2 := Lib.hid (HX1.out.trans hx); clear hx))
  go_ret
  exact ⟨rfl, HX2.out⟩
/-- the store of the chapter's example -/
def awT : Nat → List It := upd (tOf []) 1 [xa]
def awV : Nat → Int := upd zeroV 1 1
theorem awT_1 : awT 1 = [xa] := rfl
theorem awT_ne {k : Nat} (h : k ≠ 1) : awT k = [] := by unfold awT; rw [tOf_nil]; simp [upd, h]
theorem awV_ne {k : Nat} (h : k ≠ 1) : awV k = 0 := by unfold awV; simp [upd, h, zeroV]
theorem xa_enc : encB 2 1 ⟨#[]⟩ = [2, 2] := by
  have e : encB 2 1 ⟨#[]⟩ = 2 :: putB (zigZ 1).toNat := by simp [encB]
  rw [e]
  have z : (zigZ 1).toNat = 2 := by decide
  rw [z, putB, if_pos (by omega)]
  rfl
theorem xa_ok : ItOk xa := ⟨by decide, by decide, ⟨by decide, by decide⟩, ⟨by decide, by decide⟩, ⟨by decide, by decide⟩⟩
theorem aw_fits : ∀ k : Nat, k < 16 → fitsB (k : Int) (awT k) (awV k) = true := fun k hk => by
  by_cases e : k = 1
  · subst e; decide +kernel
  · rw [awT_ne e, awV_ne e]; rfl
theorem aw_trunk : trunkB awT awV = true := trunk_yes aw_fits
theorem aw_wt : ∀ n, wtK awT n = if 1 < n then 3 else 0
  | 0 => rfl
  | n + 1 => by
    unfold wtK
    rw [aw_wt n]
    by_cases e : n = 1
    · subst e
      rw [awT_1]
      have : wtL [xa] = 3 := by
        simp only [wtL, wtI, xa]
        rw [xa_enc]; rfl
      rw [this]; rfl
    · rw [awT_ne e]
      have : wtL [] = 0 := rfl
      rw [this]
      by_cases h : 1 < n
      · rw [if_pos h, if_pos (by omega)]
      · rw [if_neg h, if_neg (by omega)]
theorem aw_ct : ctK awT 16 = 1 := by decide +kernel
theorem aw_vers : versB awV 1 = true := by decide +kernel
theorem aw_store : storeB awT awV 1 9 9 = true := by
  rw [storeB_eq, aw_trunk, aw_vers, aw_ct, aw_wt]
  decide
theorem StBlk.frozen {w : World} {N : Nat} {v : Nat → Value} {V : Nat → Int} {a b c : Int} (h : StBlk w N v V a b c) (j : Nat) : w.frozen? ⟨N, j, none⟩ = false := by
  unfold StBlk at h
  simp [World.frozen?, h]
theorem StBlk.setA {w : World} {N : Nat} {v : Nat → Value} {V : Nat → Int} {a b c : Int} (h : StBlk w N v V a b c) (z : Int) : StBlk (w.setCell ⟨N, 32, none⟩ (.int .i64 z)) N v V z b c := by
  unfold StBlk at h ⊢
  simp [World.setCell, Array.getElem?_modify, h, stC]
theorem StBlk.other {w : World} {N M i : Nat} {v : Nat → Value} {V : Nat → Int} {a b c : Int} (h : StBlk w N v V a b c) (hne : N ≠ M) (x : Value) : StBlk (w.setCell ⟨M, i, none⟩ x) N v V a b c := by
  unfold StBlk at h ⊢
  rw [Go.Deep.blk_setCell_other _ _ _ _ hne]; exact h
theorem putC_st2 (v v' : Nat → Value) (V V' : Nat → Int) (a b c : Int) : putC (stC v V a b c) 0 (trC v' V').toList = stC v' V' a b c := by kernel_rfl
theorem fresh_row (w : World) (C C' : Array Value) (t : TypeId) : ((w.alloc (.cells C t)).setRow w.heap.size C').heap[w.heap.size]? = some (.cells C' t (0, 0)) ∧ Ext w ((w.alloc (.cells C t)).setRow w.heap.size C') :=
  ⟨setRow_heap _ _ _ _ _ _ (heap_alloc_new w _), ((Ext.refl w).alloc _).setRow (Nat.le_refl _) _⟩
theorem aw0_store : storeB (tOf []) zeroV 0 9 9 = true := by decide +kernel
theorem results_cell_slot_slot {fn : Func} {p q r : Tmp} {ty : TypeId} (h : fn.results = #[.cell p ty, .tmp q, .tmp r]) (tmps : Array Value) (w : World) (a : Addr) (x0 : Value)
    (hp : tmps.getD p undef = .pointer (some a)) (hl : (loadVar ty a).run Tryz.prog w = .ok x0 w) (x y : Value) (hx : tmps.getD q undef = x) (hy : tmps.getD r undef = y) :
    (results fn tmps).run Tryz.prog w = .ok (.tuple #[x0, x, y]) w := by
  have hp' : tmps[p]?.getD undef = .pointer (some a) := by simpa using hp
  have hx' : tmps[q]?.getD undef = x := by simpa using hx
  have hy' : tmps[r]?.getD undef = y := by simpa using hy
  simp [results, h, hp', hx', hy', asAddr, hl]
/-- the edit's block -/
def EdBlk (w : World) (E : Nat) : Prop := w.heap[E]? = some (.cells edC 118 (0, 0))
theorem EdBlk.ext {w w' : World} {E : Nat} (h : EdBlk w E) (hx : Ext w w') : EdBlk w' E := by
  unfold EdBlk at h ⊢
  rw [hx.below.block _ (lt_of_heap h)]; exact h
theorem EdBlk.cells {w : World} {E : Nat} (h : EdBlk w E) : w.cell? ⟨E, 0, none⟩ = some (.string ⟨#[97]⟩) ∧ w.cell? ⟨E, 1, none⟩ = some (.int .i64 2) ∧ w.cell? ⟨E, 2, none⟩ = some (.int .i64 1) ∧ w.cell? ⟨E, 3, none⟩ = some (.string ⟨#[]⟩) ∧ E < w.heap.size :=
  ⟨cell_of_row w E 0 _ _ _ h, cell_of_row w E 1 _ _ _ h, cell_of_row w E 2 _ _ _ h, cell_of_row w E 3 _ _ _ h, lt_of_heap h⟩
set_option maxHeartbeats 16000000 in
theorem rtake13_a (E : Nat) (w : World) (hE : EdBlk w E) :
    Calls Tryz.prog 54 #[.agg (stC nilV zeroV 0 9 9), .slice (some ⟨E, 0, none⟩) 1 1] w fun e w' => ∃ v', e = .returned (.tuple #[.agg (stC (upd nilV 1 v') (upd zeroV 1 1) 1 9 9), .int .i64 0, .int .i64 0]) ∧ w'.ownsRow w.heap.size 152 5 v' 1 (itCells [xa]) ∧ Ext w w' := by
  have HD : ∀ (W : World), W = ((w.alloc (.cells (stC nilV zeroV 0 9 9) 56)).alloc (.cells (stC nilV zeroV 0 0 0) 56)) → StBlk W w.heap.size nilV zeroV 0 9 9 ∧ StBlk W (w.heap.size + 1) nilV zeroV 0 0 0 ∧ Ext w W := fun W e => by
    rw [e]; exact ⟨two_boxes.1, two_boxes.2, (((Ext.refl w).alloc _).alloc _)⟩
  obtain ⟨e1, e2, e4⟩ := HD _ rfl
  have E1 := Lib.hid e1
  have E2 := Lib.hid e2
  have E4 := Lib.hid e4
  have HE := Lib.hid hE
  have MC := Lib.hid fun (W : World) => srmay_any (fun _ => 0) nilV (tOf []) zeroV 0 9 9 W (by intro k hk; rw [tOf_nil]; simp) (lvs_nil _ _)
  rw [aw0_store] at MC
  clear e1 e2 e4 HD hE
  go_enter Tryz.func54, Tryz.ntmps54
  go_wp2_with (first
    | (refine wpList_load_row rfl 56 _ rfl (w.heap.size) rfl 56 (stC nilV zeroV 0 9 9) (0, 0) _ (E1.out) Tryz.underlying56 rfl (by kernel_rfl) ?_)
    | (go_at_call 23; refine (MC.out _).mono ?_; rintro e w1 ⟨rfl, hx⟩; have E11 := Lib.hid (E1.out.ext hx); have E21 := Lib.hid (E2.out.ext hx); have E41 := Lib.hid (E4.out.trans hx); obtain ⟨t32, t33, t34⟩ := E11.out.tail; have hgN := lt_of_heap E11.out; have f32 := E11.out.frozen 32; have HE1 := Lib.hid (HE.out.ext E41.out); clear hx))
  have EC := Lib.hid fun (W : World) => redit_a W
  obtain ⟨N, hN⟩ : ∃ N, w.heap.size = N := ⟨_, rfl⟩
  have hNw : w.heap.size ≤ N := Nat.le_of_eq hN
  rw [hN] at E11 E21 t32 t33 t34 hgN f32 ⊢
  have HN := Lib.hid hN
  clear hN E1 E2 E4 t33 t34 t32 f32 hgN
  go_loopw [7] (fun ii wr => ∃ j : Nat, ii = .int .i64 (j : Int) ∧ j ≤ 1 ∧ Hid (Ext w1 wr)) (fun ii _ => 1 - (intOf ii).toNat)
  case atStart => exact ⟨0, rfl, Nat.zero_le _, Lib.hid (Ext.refl _)⟩
  case round =>
    obtain ⟨j, rfl, hj, hH⟩ := hrel
    by_cases hlt : j < 1
    · obtain rfl : j = 0 := by omega
      obtain ⟨d0, d1, d2, d3, hEw⟩ := (HE1.out.ext hH.out).cells
      clear hlt hj
      go_wp2_with (go_at_call 80; refine (EC.out _).mono ?_; rintro e w2 ⟨rfl, hx⟩; have HX2 := Lib.hid (hH.out.trans hx); clear hx)
      go_roundw
      case rel => exact ⟨1, by go_num, Nat.le_refl _, HX2⟩
      case measure => simp [intOf]
    have hj1 : (j : Int) = 1 := by omega
    rw [hj1]
    clear hlt hj hj1
    have e12 := E11.out.ext hH.out
    obtain ⟨t32, t33, t34⟩ := e12.tail
    have hgN := lt_of_heap e12
    have f32 := e12.frozen 32
    have E12 := Lib.hid (e12.setA 1)
    have E22 := Lib.hid (StBlk.other (E21.out.ext hH.out) (show N + 1 ≠ N by omega) (i := 32) (.int .i64 1))
    have E42 := Lib.hid ((E41.out.trans hH.out).setCell (p := ⟨N, 32, none⟩) hNw (.int .i64 1))
    have HE2 := Lib.hid (HE.out.ext E42.out)
    clear e12
    go_wp2_with fail
    obtain ⟨W2, hW2⟩ : ∃ W2, wr.setCell ⟨N, 32, none⟩ (.int .i64 1) = W2 := ⟨_, rfl⟩
    rw [hW2] at E12 E22 E42 HE2 ⊢
    clear hW2 t32 t33 t34 hgN f32
    go_loopw [8] (fun ii wr => ∃ j : Nat, ii = .int .i64 (j : Int) ∧ j ≤ 1 ∧ Hid (Ext w wr ∧ StBlk wr (N + 1) nilV zeroV 0 0 0 ∧ (j = 0 → StBlk wr N nilV zeroV 1 9 9) ∧ (j = 1 → ∃ p c, StBlk wr N (upd nilV 1 (.slice p 1 c)) (upd zeroV 1 1) 1 9 9 ∧ wr.ownsRow w.heap.size 152 5 (.slice p 1 c) 1 (itCells [xa])))) (fun ii _ => 1 - (intOf ii).toNat)
    case atStart => exact ⟨0, rfl, Nat.zero_le _, Lib.hid ⟨E42.out, E22.out, fun _ => E12.out, fun h => by cases h⟩⟩
    case round =>
      obtain ⟨j, rfl, hj, hH⟩ := hrel
      by_cases hlt : j < 1
      · obtain rfl : j = 0 := by omega
        have e13 := hH.out.2.2.1 rfl
        obtain ⟨t32, t33, t34⟩ := e13.tail
        have hgN := lt_of_heap e13
        have hed := HE.out.ext hH.out.1
        obtain ⟨d0, d1, d2, d3, hEw⟩ := hed.cells
        have E13 := Lib.hid e13
        clear hlt hj e13 hed
        have HM := heap_alloc_new wr (.cells edC 118)
        have hx4 := (Ext.refl wr).alloc (.cells edC 118)
        go_upto_region 17 with fail
        obtain ⟨W4, hW4⟩ : ∃ W4, wr.alloc (.cells edC 118) = W4 := ⟨_, rfl⟩
        show Code.wp _ _ _ _ (wr.alloc (.cells edC 118))
        obtain ⟨M, hM⟩ : ∃ M, wr.heap.size = M := ⟨_, rfl⟩
        rw [hM] at HM ⊢
        rw [hW4] at HM hx4 ⊢
        have E14 := Lib.hid (E13.out.ext hx4)
        have E24 := Lib.hid (StBlk.ext hH.out.2.1 hx4)
        have E44 := Lib.hid (hH.out.1.trans hx4)
        obtain ⟨t32, t33, t34⟩ := E14.out.tail
        have hgN := lt_of_heap E14.out
        obtain ⟨d0, d1, d2, d3, hEw⟩ := EdBlk.cells HM
        clear HM hx4 hW4 hM
        go_upto_region 18 with (first
          | (refine wpList_load_sub rfl 29 _ rfl (N) 0 rfl 56 (stC nilV zeroV 1 9 9) (trC nilV zeroV) (0, 0) _ (E14.out) Tryz.underlying29 rfl (by kernel_rfl) (stC_tr nilV zeroV 1 9 9) ?_)
          | (refine wpList_buildTo rfl 152 _ rfl _ rfl (#[.string ⟨#[97]⟩, .int .i64 2, .int .i64 1, .string ⟨#[]⟩, .int .i64 1]) (by kernel_rfl) ?_)
          | (go_at_call 82; refine (rput_nil xa 1 (by omega) (by decide) (fun W => rbucket_a W) W4).mono ?_; rintro e w5 ⟨v', rfl, hown, hx⟩; obtain ⟨p, c, hvv⟩ := own_sl hown; subst hvv; have E15 := Lib.hid (E14.out.ext hx); have E25 := Lib.hid (E24.out.ext hx); have E45 := Lib.hid (E44.out.trans hx); have HO5 := Lib.hid (own_mono hown E44.out.size); clear hx hown)
          | (refine wpList_store_rowTo rfl 29 _ _ rfl rfl (w5.heap.size) (trC (upd nilV 1 (.slice p 1 c)) (upd zeroV 1 1)) rfl rfl 29 (trC nilV zeroV) (heap_alloc_new w5 _) (by kernel_rfl) rfl (trC_one _ _ (by intro j hj; unfold upd; split <;> rfl)) ?_))
        have fr := fresh_row w5 (trC nilV zeroV) (trC (upd nilV 1 (.slice p 1 c)) (upd zeroV 1 1)) 29
        obtain ⟨W6, hW6⟩ : ∃ W6, (w5.alloc (.cells (trC nilV zeroV) 29)).setRow w5.heap.size (trC (upd nilV 1 (.slice p 1 c)) (upd zeroV 1 1)) = W6 := ⟨_, rfl⟩
        show Code.wp _ _ _ _ ((w5.alloc (.cells (trC nilV zeroV) 29)).setRow w5.heap.size (trC (upd nilV 1 (.slice p 1 c)) (upd zeroV 1 1)))
        rw [hW6] at fr ⊢
        obtain ⟨M5, hM5⟩ : ∃ M5, w5.heap.size = M5 := ⟨_, rfl⟩
        rw [hM5] at fr ⊢
        have F6 := Lib.hid fr.1
        have E16 := Lib.hid (E15.out.ext fr.2)
        have E26 := Lib.hid (E25.out.ext fr.2)
        have E46 := Lib.hid (E45.out.trans fr.2)
        have HO6 := Lib.hid (own_ext HO5.out fr.2)
        clear fr hW6 hM5
        go_wp2_with (first
          | (refine wpList_load_row rfl 29 _ rfl (M5) rfl 29 (trC (upd nilV 1 (.slice p 1 c)) (upd zeroV 1 1)) (0, 0) _ (F6.out) Tryz.underlying29 rfl (by kernel_rfl) ?_)
          | (refine wpList_store_part rfl 29 _ _ rfl (N) 0 (trC (upd nilV 1 (.slice p 1 c)) (upd zeroV 1 1)) (stC nilV zeroV 1 9 9) (stC (upd nilV 1 (.slice p 1 c)) (upd zeroV 1 1) 1 9 9) _ _ rfl rfl (E16.out) (st_there E16.out) (by kernel_rfl) (trC_one _ _ (by intro j hj; unfold upd; split <;> rfl)) (putC_st2 _ _ _ _ _ _ _) ?_))
        go_roundw
        case rel => exact ⟨1, by go_num, Nat.le_refl _, Lib.hid ⟨E46.out.setRow hNw _, StBlk.otherRow E26.out (Nat.succ_ne_self _) _, (fun h => by cases h), fun _ => ⟨p, c, StBlk.setT E16.out, own_otherR HO6.out E16.out (by decide) _⟩⟩⟩
        case measure => simp [intOf]
      have hj1 : (j : Int) = 1 := by omega
      obtain ⟨p, c, e13, ho3⟩ := hH.out.2.2.2 (by omega)
      have hx3 := hH.out.1
      have e23 := hH.out.2.1
      rw [hj1]
      clear hlt hj hj1 hH
      obtain ⟨t32, t33, t34⟩ := e13.tail
      have hgN := lt_of_heap e13
      have E13 := Lib.hid e13
      have E23 := Lib.hid e23
      have E43 := Lib.hid hx3
      have HO3 := Lib.hid ho3
      clear e13 e23 hx3 ho3
      obtain ⟨b1, o1, o2, _⟩ := own_lf HO3.out rfl (by intro x hx; simp at hx; subst hx; exact xa_ok)
      have hlv : LvsAt wr (upd (fun _ => 0) 1 b1) (upd nilV 1 (.slice p 1 c)) awT := (LvsAt.upd (lvs_nil wr _) (lvty_nil wr _) o1 o2).1
      have HRG := Lib.hid fun (d : Nat) (os : Array Obj) => st_range (E13.out.ext ((Ext.refl wr).more d os))
      have WTC : Hid (∀ (W : World), Ext wr W → Calls Tryz.prog 62 #[.agg (trC (upd nilV 1 (.slice p 1 c)) (upd zeroV 1 1))] W fun e w' => e = .returned (.int .i64 3) ∧ Ext W w') := Lib.hid fun W hx => by
        have := rweight_any _ _ awT awV W (hlv.ext hx) aw_trunk
        rw [aw_wt] at this
        exact this
      have CTL := Lib.hid fun (d : Nat) (os : Array Obj) => (rall_any _ _ awT awV (more wr d os) (hlv.ext ((Ext.refl _).more _ _)) aw_trunk).mono fun e w' ⟨v', h1, h2, h3⟩ => (⟨v', h1, h3, by rw [aw_ct] at h2; exact own_sl h2⟩ : RetG (more wr d os) (SlFact0 1) e w')
      clear hlv o1 o2
      go_wp2_with fail
      refine wp_region_grow 13 108 [false, false, false, false, false, false, false, false, false, false, false, false, false] (by kernel_rfl) (by kernel_rfl) rfl ?_
      simp only [List.take_succ_cons, List.take_zero, List.drop_succ_cons, List.drop_zero]
      refine Lex.step rfl ?_; intro K hK; unfold StepG; go_simp; refine hK _ ?_; clear hK K
      refine Lex.step rfl ?_; intro K hK; (refine ⟨.agg (trC (upd nilV 1 (.slice p 1 c)) (upd zeroV 1 1)), fun d os => stepG_load_mid (by rfl) 29 _ rfl N 0 rfl (trC (upd nilV 1 (.slice p 1 c)) (upd zeroV 1 1)).toList _ (HRG.out d os) Tryz.underlying29 rfl (by kernel_rfl) _ rfl, ?_⟩; go_simp; refine hK _ ?_); clear hK K
      refine Lex.step rfl ?_; intro K hK; unfold StepG; go_simp; with_reducible refine ⟨_, fun d os => (ret1 (WTC.out _ ((Ext.refl _).more _ _))), ?_⟩; go_simp; refine hK _ ?_; clear hK K
      refine Lex.step rfl ?_; intro K hK; unfold StepG; go_simp; refine hK _ ?_; clear hK K
      refine Lex.step rfl ?_; intro K hK; unfold StepG; go_simp; refine hK _ ?_; clear hK K
      refine Lex.step rfl ?_; intro K hK; unfold StepG; go_simp; refine hK _ ?_; clear hK K
      refine Lex.step rfl ?_; intro K hK; unfold StepG; go_simp; refine hK _ ?_; clear hK K
      refine Lex.step rfl ?_; intro K hK; unfold StepG; go_simp; refine hK _ ?_; clear hK K
      refine Lex.step rfl ?_; intro K hK; (refine ⟨.agg (trC (upd nilV 1 (.slice p 1 c)) (upd zeroV 1 1)), fun d os => stepG_load_mid (by rfl) 29 _ rfl N 0 rfl (trC (upd nilV 1 (.slice p 1 c)) (upd zeroV 1 1)).toList _ (HRG.out d os) Tryz.underlying29 rfl (by kernel_rfl) _ rfl, ?_⟩; go_simp; refine hK _ ?_); clear hK K
      refine Lex.gap 98 (SlFact0 1) rfl (SlFact0.upc _) rfl (fun d os => ?_) ?_
      · unfold StepG
        go_simp
        exact CTL.out d os
      refine Lex.go1 (.int .i64 1) 98 _ rfl (fun u d os hu => ?_) ?_
      · obtain ⟨g1, cap1, rfl⟩ := hu
        unfold StepG
        go_simp
      refine Lex.step rfl ?_; intro K hK; unfold StepG; go_simp; refine hK _ ?_; clear hK K
      refine Lex.step rfl ?_; intro K hK; unfold StepG; go_simp; refine hK _ ?_; clear hK K
      refine Lex.nil fun WW hE => ?_
      obtain ⟨dd, oo, rfl⟩ := hE
      unfold FillH
      rintro _ ⟨g1, cap1, rfl⟩
      unfold FillH
      go_wp2_with fail
      rw [ends_normal]
      have hxm := (Ext.refl wr).more dd oo
      have E14 := Lib.hid (E13.out.ext hxm)
      have E24 := Lib.hid (E23.out.ext hxm)
      have E44 := Lib.hid ((E43.out.trans hxm).setRow (g := N + 1) (by omega) (stC (upd nilV 1 (.slice p 1 c)) (upd zeroV 1 1) 1 9 9))
      have HO4 := Lib.hid (own_otherR (own_ext HO3.out hxm) E24.out (by decide) (stC (upd nilV 1 (.slice p 1 c)) (upd zeroV 1 1) 1 9 9))
      clear hxm
      obtain ⟨W8, hW8⟩ : ∃ W8, more wr dd oo = W8 := ⟨_, rfl⟩
      rw [hW8] at E14 E24 E44 HO4 ⊢
      clear hW8
      go_wp2_with (first
        | (refine wpList_load_row rfl 56 _ rfl (N) rfl 56 (stC (upd nilV 1 (.slice p 1 c)) (upd zeroV 1 1) 1 9 9) (0, 0) _ (E14.out) Tryz.underlying56 rfl (by kernel_rfl) ?_)
        | (refine wpList_store_rowTo rfl 56 _ _ rfl rfl (N + 1) (stC (upd nilV 1 (.slice p 1 c)) (upd zeroV 1 1) 1 9 9) rfl rfl 56 (stC nilV zeroV 0 0 0) (E24.out) (by kernel_rfl) rfl (stC_one _ _ _ _ _ (by intro j hj; unfold upd; split <;> rfl)) ?_))
      exact bodyPost_ret (results_cell_slot_slot (p := 4) (q := 5) (r := 6) (ty := 56) rfl _ _ ⟨N + 1, 0, none⟩ _ rfl (st_loadS (StBlk.setT E24.out)) _ _ rfl rfl) rfl ⟨.slice p 1 c, rfl, HO4.out, E44.out⟩
end Go.Proofs.YtpchohjkelopoaaGreatDoor

set_option maxRecDepth 20000
namespace Go.Proofs.YtpchohjkelopoaaGreatDoor
open Go.RowKit
attribute [go_sem] more_more Array.size_append
theorem stepG_build {P : Program} {ops : Array Oper} {o : Oper} {a : Act} {W : World} (hw : Region.wanted o (yielded ops a.tmps) = true) (t : TypeId) (parts : Array (Nat × Operand)) (ho : o.op = .build t parts) (cells : Array Value) (hf : P.built t (parts.map fun (i, x) => (i, a.eval x)).toList = some cells) (v : Value) (hv : v = .agg cells) : StepG P ops o a W (fun x _ => x = v) := by
  unfold StepG
  rw [if_pos hw]
  unfold execOp
  simp only [ho, Sem.run_bind, run_build W t _ cells hf, Result.andThen_ok]
  exact ⟨Ext.refl _, hv.symm⟩
/-- a result in a slot, one in a block, one in a slot -/
def RManiPost (B : Nat) (lv : Value) (r : List ByteArray × Mf × Int) (w : World) (e : Ending) (w' : World) : Prop :=
  ∃ v', e = .returned (.tuple #[v', .agg r.2.1.cells, .int .i64 r.2.2]) ∧ w'.ownsRow B 9 1 v' r.1.length (r.1.map Value.string) ∧ w.grownBy w' lv.ownBlock ∧ (v'.ownBlock = lv.ownBlock ∨ ∃ k, v'.ownBlock = some k ∧ w.heap.size ≤ k)
set_option maxHeartbeats 4000000 in
theorem rof15_any (B : Nat) (lv : Value) (l : List ByteArray) (bs : Nat → Nat) (v : Nat → Value) (T : Nat → List It) (V : Nat → Int) (a b c : Int) (w : World) (hBw : B ≤ w.heap.size) (hown : w.ownsRow B 9 1 lv l.length (l.map Value.string)) (hll : l.length ≤ 700)
    (h : LvsAt w bs v T) (hy : LvTy w bs T) (hyes : trunkB T V = true) (r : List ByteArray × Mf × Int) (hr : maniF l T V a b c = r) :
    Calls Tryz.prog 28 #[lv, .agg (stC v V a b c)] w (RManiPost B lv r w) := by
  obtain ⟨q, hq⟩ : ∃ q, leavesT T V (List.range 16) l = q := ⟨_, rfl⟩
  have LV := Lib.hid fun (W : World) (hx : Ext w W) => rleaves15_any B lv l bs v T V W (Nat.le_trans hBw hx.size) (own_ext hown hx) hll (h.ext hx) (hy.ext hx) hyes q hq
  unfold maniF at hr
  rw [hq] at hr
  have HR := Lib.hid hr
  have HOWN := Lib.hid hown
  have q1 : StBlk ((w.alloc (.cells (stC v V a b c) 56)).alloc (.cells (mfC 0 0 0 zeroV) 25)) w.heap.size v V a b c := two_boxes.1
  have q2 : MfBlk ((w.alloc (.cells (stC v V a b c) 56)).alloc (.cells (mfC 0 0 0 zeroV) 25)) (w.heap.size + 1) 0 0 0 zeroV := two_boxes.2
  have Q1 := Lib.hid q1
  have Q2 := Lib.hid q2
  clear h hy hyes hr hown q1 q2 hq
  obtain ⟨l3, ns, e3⟩ := q
  go_enter Tryz.func28, Tryz.ntmps28
  by_cases he : e3 = 0
  case neg =>
    have he' : (e3 != 0) = true := by simpa using he
    have HRE := Lib.hid (show r = (l3, Mf.none, e3) by have := HR.out; simpa [he] using this.symm)
    clear he
    go_wp2_with (first
    | (refine wpList_load_sub rfl 29 _ rfl (w.heap.size) 0 rfl 56 (stC v V a b c) (trC v V) (0, 0) _ (Q1.out) Tryz.underlying29 rfl (by kernel_rfl) (stC_tr v V a b c) ?_)
    | (go_at_call 56; refine (LV.out _ (by repeat (first | exact Ext.refl _ | apply Ext.alloc | apply Ext.more | apply Ext.drewN))).mono ?_; rintro e w3 ⟨v3, rfl, ho3, hg3, hk3⟩; have H3 := Lib.hid (And.intro ho3 (And.intro hg3 hk3)); have HKT := Lib.hid (fun (g : Nat) (cur : Array Value) (ty : TypeId) (fz : Nat × Nat) (hb : _ = some (.cells cur ty fz)) (h1 : ty ≠ 9) => (blk_str (own_ext HOWN.out (((Ext.refl w).alloc _).alloc _)) hg3 (k := g) hb h1).trans hb); have HX0 := Lib.hid (((Ext.refl w).alloc (.cells (stC v V a b c) 56)).alloc (.cells (mfC 0 0 0 zeroV) 25)); have HA3 : Hid (StBlk w3 w.heap.size v V a b c) := Lib.hid (HKT.out _ _ _ _ Q1.out (by decide)); have HB3 : Hid (MfBlk w3 (w.heap.size + 1) 0 0 0 zeroV) := Lib.hid (HKT.out _ _ _ _ Q2.out (by decide)); have hwz := lt_of_heap HB3.out; have HV4 : Hid (AvBlk ((w3.alloc (.cells #[.int .i64 0, .int .i64 0, .int .i64 0, .int .i64 0, .int .i64 0, .int .i64 0, .int .i64 0, .int .i64 0, .int .i64 0, .int .i64 0, .int .i64 0, .int .i64 0, .int .i64 0, .int .i64 0, .int .i64 0, .int .i64 0] 23)).setRow w3.heap.size (lsC (nsF ns))) w3.heap.size (nsF ns)) := Lib.hid (AvBlk.setRow (show AvBlk (w3.alloc (.cells #[.int .i64 0, .int .i64 0, .int .i64 0, .int .i64 0, .int .i64 0, .int .i64 0, .int .i64 0, .int .i64 0, .int .i64 0, .int .i64 0, .int .i64 0, .int .i64 0, .int .i64 0, .int .i64 0, .int .i64 0, .int .i64 0] 23)) w3.heap.size zeroV from heap_alloc_new w3 _) (nsF ns)); have hxa := (Ext.refl w3).alloc (.cells #[.int .i64 0, .int .i64 0, .int .i64 0, .int .i64 0, .int .i64 0, .int .i64 0, .int .i64 0, .int .i64 0, .int .i64 0, .int .i64 0, .int .i64 0, .int .i64 0, .int .i64 0, .int .i64 0, .int .i64 0, .int .i64 0] 23); have HA4 : Hid (StBlk ((w3.alloc (.cells #[.int .i64 0, .int .i64 0, .int .i64 0, .int .i64 0, .int .i64 0, .int .i64 0, .int .i64 0, .int .i64 0, .int .i64 0, .int .i64 0, .int .i64 0, .int .i64 0, .int .i64 0, .int .i64 0, .int .i64 0, .int .i64 0] 23)).setRow w3.heap.size (lsC (nsF ns))) w.heap.size v V a b c) := Lib.hid (StBlk.otherRow (HA3.out.ext hxa) (show w.heap.size ≠ w3.heap.size by omega) _); have HB4 : Hid (MfBlk ((w3.alloc (.cells #[.int .i64 0, .int .i64 0, .int .i64 0, .int .i64 0, .int .i64 0, .int .i64 0, .int .i64 0, .int .i64 0, .int .i64 0, .int .i64 0, .int .i64 0, .int .i64 0, .int .i64 0, .int .i64 0, .int .i64 0, .int .i64 0] 23)).setRow w3.heap.size (lsC (nsF ns))) (w.heap.size + 1) 0 0 0 zeroV) := Lib.hid (MfBlk.otherRow (HB3.out.ext hxa) (show w.heap.size + 1 ≠ w3.heap.size by omega) _); have HO4 : Hid (((w3.alloc (.cells #[.int .i64 0, .int .i64 0, .int .i64 0, .int .i64 0, .int .i64 0, .int .i64 0, .int .i64 0, .int .i64 0, .int .i64 0, .int .i64 0, .int .i64 0, .int .i64 0, .int .i64 0, .int .i64 0, .int .i64 0, .int .i64 0] 23)).setRow w3.heap.size (lsC (nsF ns))).ownsRow B 9 1 v3 l3.length (l3.map Value.string)) := Lib.hid (own_afterR (own_ext ho3 hxa) (heap_alloc_new w3 _) (by decide) _); have HG4 : Hid (w.grownBy ((w3.alloc (.cells #[.int .i64 0, .int .i64 0, .int .i64 0, .int .i64 0, .int .i64 0, .int .i64 0, .int .i64 0, .int .i64 0, .int .i64 0, .int .i64 0, .int .i64 0, .int .i64 0, .int .i64 0, .int .i64 0, .int .i64 0, .int .i64 0] 23)).setRow w3.heap.size (lsC (nsF ns))) lv.ownBlock) := Lib.hid (rstep_new (rstep_new (rstep_trans (v := lv) (v1 := lv) (rstep_ext HX0.out) (Or.inl rfl) hg3) (rstep_ext (row := none) hxa) (fun k h => by cases h)) (grown_row _ w3.heap.size _) (fun k hk => by (obtain rfl := Option.some.inj hk); omega)); have HK4 : Hid (v3.ownBlock = lv.ownBlock ∨ ∃ k, v3.ownBlock = some k ∧ w.heap.size ≤ k) := Lib.hid (rstep_own (w := w) (v := lv) HX0.out.size (Or.inl rfl) hk3); clear ho3 hg3 hk3 hxa)
    | (refine wpList_store_rowTo rfl 23 _ _ rfl rfl (w3.heap.size) (lsC (nsF ns)) rfl rfl 23 (lsC zeroV) (heap_alloc_new w3 _) (by kernel_rfl) rfl (ls_all _) ?_)
    | (refine wpList_buildTo rfl 25 #[] rfl _ rfl (mfC 0 0 0 zeroV) (by kernel_rfl) ?_)
    | (refine wpList_store_rowTo rfl 25 _ _ rfl rfl (w.heap.size + 1) (mfC 0 0 0 zeroV) rfl rfl 25 (mfC 0 0 0 zeroV) (HB4.out) (by kernel_rfl) rfl (mfC_one _ _ _ _) ?_))
    rw [HRE.out]
    have hst := rstep_new HG4.out (grown_row _ (w.heap.size + 1) (mfC 0 0 0 zeroV)) (fun k hk => by obtain rfl := Option.some.inj hk; exact Nat.le_succ _)
    exact bodyPost_ret (results_slot_cell_slot (p := 5) (q := 6) (r := 4) (ty := 25) rfl _ _ ⟨w.heap.size + 1, 0, none⟩ _ rfl (mf_load (HB4.out.setRow 0 0 0 zeroV)) _ _ rfl rfl) rfl ⟨v3, rfl, own_afterR HO4.out HB4.out (by decide) _, hst, HK4.out⟩
  subst he
  have HRE := Lib.hid (show r = (l3, ⟨a, b, c, nsF ns⟩, 0) by have := HR.out; simpa using this.symm)
  go_wp2_with (first
    | (refine wpList_load_sub rfl 29 _ rfl (w.heap.size) 0 rfl 56 (stC v V a b c) (trC v V) (0, 0) _ (Q1.out) Tryz.underlying29 rfl (by kernel_rfl) (stC_tr v V a b c) ?_)
    | (go_at_call 56; refine (LV.out _ (by repeat (first | exact Ext.refl _ | apply Ext.alloc | apply Ext.more | apply Ext.drewN))).mono ?_; rintro e w3 ⟨v3, rfl, ho3, hg3, hk3⟩; have H3 := Lib.hid (And.intro ho3 (And.intro hg3 hk3)); have HKT := Lib.hid (fun (g : Nat) (cur : Array Value) (ty : TypeId) (fz : Nat × Nat) (hb : _ = some (.cells cur ty fz)) (h1 : ty ≠ 9) => (blk_str (own_ext HOWN.out (((Ext.refl w).alloc _).alloc _)) hg3 (k := g) hb h1).trans hb); have HX0 := Lib.hid (((Ext.refl w).alloc (.cells (stC v V a b c) 56)).alloc (.cells (mfC 0 0 0 zeroV) 25)); have HA3 : Hid (StBlk w3 w.heap.size v V a b c) := Lib.hid (HKT.out _ _ _ _ Q1.out (by decide)); have HB3 : Hid (MfBlk w3 (w.heap.size + 1) 0 0 0 zeroV) := Lib.hid (HKT.out _ _ _ _ Q2.out (by decide)); have hwz := lt_of_heap HB3.out; have HV4 : Hid (AvBlk ((w3.alloc (.cells #[.int .i64 0, .int .i64 0, .int .i64 0, .int .i64 0, .int .i64 0, .int .i64 0, .int .i64 0, .int .i64 0, .int .i64 0, .int .i64 0, .int .i64 0, .int .i64 0, .int .i64 0, .int .i64 0, .int .i64 0, .int .i64 0] 23)).setRow w3.heap.size (lsC (nsF ns))) w3.heap.size (nsF ns)) := Lib.hid (AvBlk.setRow (show AvBlk (w3.alloc (.cells #[.int .i64 0, .int .i64 0, .int .i64 0, .int .i64 0, .int .i64 0, .int .i64 0, .int .i64 0, .int .i64 0, .int .i64 0, .int .i64 0, .int .i64 0, .int .i64 0, .int .i64 0, .int .i64 0, .int .i64 0, .int .i64 0] 23)) w3.heap.size zeroV from heap_alloc_new w3 _) (nsF ns)); have hxa := (Ext.refl w3).alloc (.cells #[.int .i64 0, .int .i64 0, .int .i64 0, .int .i64 0, .int .i64 0, .int .i64 0, .int .i64 0, .int .i64 0, .int .i64 0, .int .i64 0, .int .i64 0, .int .i64 0, .int .i64 0, .int .i64 0, .int .i64 0, .int .i64 0] 23); have HA4 : Hid (StBlk ((w3.alloc (.cells #[.int .i64 0, .int .i64 0, .int .i64 0, .int .i64 0, .int .i64 0, .int .i64 0, .int .i64 0, .int .i64 0, .int .i64 0, .int .i64 0, .int .i64 0, .int .i64 0, .int .i64 0, .int .i64 0, .int .i64 0, .int .i64 0] 23)).setRow w3.heap.size (lsC (nsF ns))) w.heap.size v V a b c) := Lib.hid (StBlk.otherRow (HA3.out.ext hxa) (show w.heap.size ≠ w3.heap.size by omega) _); have HB4 : Hid (MfBlk ((w3.alloc (.cells #[.int .i64 0, .int .i64 0, .int .i64 0, .int .i64 0, .int .i64 0, .int .i64 0, .int .i64 0, .int .i64 0, .int .i64 0, .int .i64 0, .int .i64 0, .int .i64 0, .int .i64 0, .int .i64 0, .int .i64 0, .int .i64 0] 23)).setRow w3.heap.size (lsC (nsF ns))) (w.heap.size + 1) 0 0 0 zeroV) := Lib.hid (MfBlk.otherRow (HB3.out.ext hxa) (show w.heap.size + 1 ≠ w3.heap.size by omega) _); have HO4 : Hid (((w3.alloc (.cells #[.int .i64 0, .int .i64 0, .int .i64 0, .int .i64 0, .int .i64 0, .int .i64 0, .int .i64 0, .int .i64 0, .int .i64 0, .int .i64 0, .int .i64 0, .int .i64 0, .int .i64 0, .int .i64 0, .int .i64 0, .int .i64 0] 23)).setRow w3.heap.size (lsC (nsF ns))).ownsRow B 9 1 v3 l3.length (l3.map Value.string)) := Lib.hid (own_afterR (own_ext ho3 hxa) (heap_alloc_new w3 _) (by decide) _); have HG4 : Hid (w.grownBy ((w3.alloc (.cells #[.int .i64 0, .int .i64 0, .int .i64 0, .int .i64 0, .int .i64 0, .int .i64 0, .int .i64 0, .int .i64 0, .int .i64 0, .int .i64 0, .int .i64 0, .int .i64 0, .int .i64 0, .int .i64 0, .int .i64 0, .int .i64 0] 23)).setRow w3.heap.size (lsC (nsF ns))) lv.ownBlock) := Lib.hid (rstep_new (rstep_new (rstep_trans (v := lv) (v1 := lv) (rstep_ext HX0.out) (Or.inl rfl) hg3) (rstep_ext (row := none) hxa) (fun k h => by cases h)) (grown_row _ w3.heap.size _) (fun k hk => by (obtain rfl := Option.some.inj hk); omega)); have HK4 : Hid (v3.ownBlock = lv.ownBlock ∨ ∃ k, v3.ownBlock = some k ∧ w.heap.size ≤ k) := Lib.hid (rstep_own (w := w) (v := lv) HX0.out.size (Or.inl rfl) hk3); clear ho3 hg3 hk3 hxa)
    | (refine wpList_store_rowTo rfl 23 _ _ rfl rfl (w3.heap.size) (lsC (nsF ns)) rfl rfl 23 (lsC zeroV) (heap_alloc_new w3 _) (by kernel_rfl) rfl (ls_all _) ?_))
  obtain ⟨M, hM⟩ : ∃ M, w3.heap.size = M := ⟨_, rfl⟩
  obtain ⟨N, hN⟩ : ∃ N, w.heap.size = N := ⟨_, rfl⟩
  obtain ⟨W4, hW4⟩ : ∃ W4, (w3.alloc (.cells #[.int .i64 0, .int .i64 0, .int .i64 0, .int .i64 0, .int .i64 0, .int .i64 0, .int .i64 0, .int .i64 0, .int .i64 0, .int .i64 0, .int .i64 0, .int .i64 0, .int .i64 0, .int .i64 0, .int .i64 0, .int .i64 0] 23)).setRow w3.heap.size (lsC (nsF ns)) = W4 := ⟨_, rfl⟩
  rw [hW4] at HA4 HB4 HV4 HO4 HG4
  rw [hM] at HV4
  rw [hN] at HA4 HB4
  rw [hW4, hM, hN]
  obtain ⟨ca, cb, cc⟩ := HA4.out.tail
  have hNw := lt_of_heap HA4.out
  have HN := Lib.hid hN
  have HRG := Lib.hid fun (d : Nat) (os : Array Obj) => row_range (HV4.out.ext ((Ext.refl W4).more d os))
  clear hW4 hM hN
  refine wp_region_grow 10 32 [false, false, false, false, false, false, false, false, false, false] (by kernel_rfl) (by kernel_rfl) rfl ?_
  simp only [List.take_succ_cons, List.take_zero, List.drop_succ_cons, List.drop_zero]
  repeat (refine Lex.step rfl ?_; intro K hK; (first
      | (refine ⟨.agg (lsC (nsF ns)), fun d os => stepG_load_mid (by rfl) 23 _ rfl (M) 0 rfl (lsC (nsF ns)).toList _ (HRG.out d os) Tryz.underlying23 rfl (by kernel_rfl) _ rfl, ?_⟩; go_simp; refine hK _ ?_)
      | (refine ⟨.agg (mfC a b c (nsF ns)), fun d os => stepG_build (by rfl) 25 _ rfl (mfC a b c (nsF ns)) (by kernel_rfl) _ rfl, ?_⟩; go_simp; refine hK _ ?_)
      | (unfold StepG; go_simp; refine hK _ ?_)); clear hK K)
  refine Lex.nil fun WW hE => ?_
  obtain ⟨dd, oo, rfl⟩ := hE
  unfold FillH
  go_wp2_with (first
    | (refine wpList_store_rowTo rfl 25 _ _ rfl rfl (N + 1) (mfC a b c (nsF ns)) rfl rfl 25 (mfC 0 0 0 zeroV) ((HB4.out.ext ((Ext.refl W4).more dd oo))) (by kernel_rfl) rfl (mfC_one _ _ _ _) ?_))
  rw [ends_normal]
  go_wp2_with fail
  have hB5 := HB4.out.ext ((Ext.refl W4).more dd oo)
  have hst := rstep_new (rstep_new HG4.out (rstep_ext (row := none) ((Ext.refl W4).more dd oo)) (fun k h => by cases h)) (grown_row _ (N + 1) (mfC a b c (nsF ns))) (fun k hk => by obtain rfl := Option.some.inj hk; rw [HN.out]; exact Nat.le_succ _)
  rw [HRE.out]
  exact bodyPost_ret (results_slot_cell_slot (p := 5) (q := 6) (r := 4) (ty := 25) rfl _ _ ⟨N + 1, 0, none⟩ _ rfl (mf_load (hB5.setRow a b c (nsF ns))) _ _ rfl rfl) rfl ⟨v3, rfl, own_afterR (own_ext HO4.out ((Ext.refl W4).more dd oo)) hB5 (by decide) _, hst, HK4.out⟩
end Go.Proofs.YtpchohjkelopoaaGreatDoor
