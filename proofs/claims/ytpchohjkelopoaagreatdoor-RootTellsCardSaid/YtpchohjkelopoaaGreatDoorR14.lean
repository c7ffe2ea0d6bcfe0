/- Lemmas for the claim (texts Ro3, Nm1, Nm2, Nm3, Nm4, what its proof uses of them). -/
import Derived.Test.YtpchohjkelopoaaGreatDoorR13
import Derived.BigRegion
import Derived.Deep.RegionWith
import Derived.WalkMore
import Derived.Lib.SmallJoins
set_option linter.unusedSimpArgs false
set_option linter.unusedVariables false
set_option maxRecDepth 20000
namespace Go.Proofs.YtpchohjkelopoaaGreatDoor
open Go.RowKit
attribute [go_sem] more_more Array.size_append
/-- what the document's Of of a trunk hands back -/
def RRootPost (B : Nat) (lv : Value) (r : List ByteArray × Nat × List Int × Int) (w : World) (e : Ending) (w' : World) : Prop :=
  ∃ v' nv, e = .returned (.tuple #[v', .int .i64 (r.2.1 : Int), nv, .int .i64 r.2.2.2]) ∧ w'.ownsRow B 9 1 v' r.1.length (r.1.map Value.string) ∧ w'.ownsRow w.heap.size 3 1 nv r.2.2.1.length (cellsI r.2.2.1) ∧ w.grownBy w' lv.ownBlock ∧ (v'.ownBlock = lv.ownBlock ∨ ∃ k, v'.ownBlock = some k ∧ w.heap.size ≤ k)
theorem blk_str {w w' : World} {B n size : Nat} {v : Value} {xs : List Value} (h : w.ownsRow B 9 size v n xs) (hg : w.grownBy w' v.ownBlock) {k : Nat} {cur : Array Value} {T : TypeId} {fz : Nat × Nat} (hb : w.heap[k]? = some (.cells cur T fz)) (hT : T ≠ 9) : w'.heap[k]? = w.heap[k]? :=
  hg.block k (lt_of_heap hb) (fun q => by
    obtain ⟨cur2, hc2⟩ := own_type h q.symm
    rw [hb] at hc2; simp at hc2
    exact hT hc2.2.1)
theorem rstep_own {w w1 : World} {v v1 v2 : Value} (hs : w.heap.size ≤ w1.heap.size) (ho : v1.ownBlock = v.ownBlock ∨ ∃ k, v1.ownBlock = some k ∧ w.heap.size ≤ k) (k : v2.ownBlock = v1.ownBlock ∨ ∃ k, v2.ownBlock = some k ∧ w1.heap.size ≤ k) : v2.ownBlock = v.ownBlock ∨ ∃ k, v2.ownBlock = some k ∧ w.heap.size ≤ k := by
  rcases k with a | ⟨k, a, b⟩
  · rcases ho with c | ⟨k, c, d⟩
    · exact Or.inl (a.trans c)
    · exact Or.inr ⟨k, a.trans c, d⟩
  · exact Or.inr ⟨k, a, by omega⟩
set_option maxHeartbeats 1000000 in
theorem drof_root (B : Nat) (lv : Value) (l : List ByteArray) (bs : Nat → Nat) (v : Nat → Value) (T : Nat → List It) (V : Nat → Int) (w : World) (hBw : B ≤ w.heap.size) (hown : w.ownsRow B 9 1 lv l.length (l.map Value.string)) (hll : l.length ≤ 700)
    (h : LvsAt w bs v T) (hy : LvTy w bs T) (hyes : trunkB T V = true) (r : List ByteArray × Nat × List Int × Int) (hr : rootT l T V = r) :
    Calls Tryz.prog 39 #[lv, .agg (trC v V)] w (RRootPost B lv r w) := by
  obtain ⟨q, hq⟩ : ∃ q, leavesT T V (List.range 16) l = q := ⟨_, rfl⟩
  unfold rootT at hr
  rw [hq] at hr
  obtain ⟨i1, hi1, hy0, hy1, hy2⟩ := info_parts intInfo
  have HQ := Lib.hid hq
  have HR := Lib.hid hr
  have HOWN := Lib.hid hown
  have HL := Lib.hid h
  have HY := Lib.hid hy
  have HYES := Lib.hid hyes
  clear h hy hyes hq hr hown
  go_enter Tryz.func39, Tryz.ntmps39
  go_wp2_with fail
  obtain ⟨N, hN⟩ : ∃ N, w.heap.size = N := ⟨_, rfl⟩
  have HN := Lib.hid hN
  go_loopw [0, 8, 9] (fun lw av ii wr => ∃ (k : Nat) (lk : List ByteArray) (ns : List Int), ii = .int .i64 (k : Int) ∧ k ≤ 16 ∧ Hid (wr.ownsRow B 9 1 lw lk.length (lk.map Value.string) ∧ w.grownBy wr lv.ownBlock ∧ (lw.ownBlock = lv.ownBlock ∨ ∃ k, lw.ownBlock = some k ∧ w.heap.size ≤ k) ∧ TrBlk wr N v V ∧ wr.ownsRow w.heap.size 3 1 av k (cellsI ns) ∧ ns.length = k ∧ (∀ z ∈ ns, 0 ≤ z ∧ z ≤ 1000) ∧ lk.length ≤ l.length + 9 * k ∧ preT ns (leavesT T V ((List.range 16).drop k) lk) = q)) (fun _ _ ii _ => 16 - (intOf ii).toNat)
  case atStart =>
    have hx0 := (Ext.refl w).alloc (.cells (trC v V) 29)
    have hb0 : TrBlk (w.alloc (.cells (trC v V) 29)) N v V := by unfold TrBlk; rw [← hN]; exact heap_alloc_new w _
    exact ⟨0, l, [], rfl, Nat.zero_le _, Lib.hid ⟨own_ext HOWN.out hx0, rstep_ext hx0, Or.inl rfl, hb0, World.ownsRow_nil _ _ _ _, rfl, by simp, by omega, by rw [List.drop_zero, ← preL_nil]; exact HQ.out⟩⟩
  case round =>
    obtain ⟨k, lk, ns, rfl, hk16, hH⟩ := hrel
    rw [hN]
    clear hN
    obtain ⟨lw, hlw⟩ : ∃ x, x = u0 := ⟨_, rfl⟩
    subst hlw
    have hkI2 : (k : Int) ≤ 16 := by omega
    by_cases hk : k < 16
    · have hcv := hH.out.2.2.2.1.ver k hk
      have hcl := hH.out.2.2.2.1.leaf k hk
      have hNw : N < wr.heap.size := lt_of_heap hH.out.2.2.2.1
      have hkI : (k : Int) < 16 := by omega
      have hk0 : (0 : Int) ≤ (k : Int) := by omega
      obtain ⟨ro, hro⟩ : ∃ ro, leafT lk (T k) (V k) = ro := ⟨_, rfl⟩
      obtain ⟨fl, f0, f1⟩ := fits_parts (trunk_fits HYES.out k hk)
      have hlf : LfAt wr (bs k) (v k) (T k) := (HL.out k hk).of_block (fun hl => by obtain ⟨cur, fz, hc⟩ := HY.out k hk hl; exact blk_str HOWN.out hH.out.2.1 hc (by decide))
      have LC := Lib.hid fun (W : World) (hx : Ext wr W) => drleaf_any B lw lk (bs k) (v k) (T k) (V k) W (Nat.le_trans (Nat.le_trans hBw hH.out.2.1.size) hx.size) (own_ext hH.out.1 hx) (by have := hH.out.2.2.2.2.2.2.2.1; omega) (hlf.ext hx) fl f0 f1 ro hro
      have hbd := leafT_len lk (T k) (V k) (leafB_may fl).1
      rw [hro] at hbd
      have HRO := Lib.hid hro
      have HBD := Lib.hid hbd
      obtain ⟨l3, n3, e3⟩ := ro
      dsimp only at hbd
      have hn3 : (n3 : Int) ≤ 1000 := by have := hH.out.2.2.2.2.2.2.2.1; omega
      clear hro hbd fl f0 f1 hlf
      by_cases he : e3 = 0
      case neg =>
        have he' : (e3 != 0) = true := by simpa using he
        have hre : r = (l3, 0, [], e3) := by
          have h1 := hH.out.2.2.2.2.2.2.2.2
          rw [drop_range k hk, preL_err (by rw [HRO.out]; exact he), HRO.out] at h1
          have h2 := HR.out
          rw [← h1] at h2
          simp only [ne_eq, he, not_false_eq_true, if_true] at h2
          exact h2.symm
        have HRE := Lib.hid hre
        clear he hre
        go_wp2_with fail
        go_region_with (go_at_call 36; refine (LC.out _ (Ext.refl wr).drew).mono ?_; rintro e w3 ⟨v3, rfl, ho3, hg3, hk3⟩; have H3 := Lib.hid (And.intro ho3 (And.intro (rstep_trans (v := lw) (v1 := lw) (rstep_ext (Ext.refl wr).drew) (Or.inl rfl) hg3) (rstep_own (w := wr) (v := lw) (Ext.refl wr).drew.size (Or.inl rfl) hk3))); clear ho3 hg3 hk3)
        · go_wp2_with fail
          rw [HRE.out]
          refine bodyPost_ret (v := .tuple #[v3, .int .i64 0, .slice none 0 0, .int .i64 e3]) (by simp [results, Tryz.results39, go_sem]) rfl ⟨v3, _, rfl, H3.out.1, World.ownsRow_nil _ _ _ _, rstep_trans hH.out.2.1 hH.out.2.2.1 H3.out.2.1, rstep_own hH.out.2.1.size hH.out.2.2.1 H3.out.2.2⟩
        · go_wp2_with fail
          rw [HRE.out]
          refine bodyPost_ret (v := .tuple #[v3, .int .i64 0, .slice none 0 0, .int .i64 e3]) (by simp [results, Tryz.results39, go_sem]) rfl ⟨v3, _, rfl, H3.out.1, World.ownsRow_nil _ _ _ _, rstep_trans hH.out.2.1 hH.out.2.2.1 H3.out.2.1, rstep_own hH.out.2.1.size hH.out.2.2.1 H3.out.2.2⟩
      subst he
      go_wp2_with fail
      go_region_with (go_at_call 36; refine (LC.out _ (Ext.refl wr).drew).mono ?_; rintro e w3 ⟨v3, rfl, ho3, hg3, hk3⟩; have H3 := Lib.hid (And.intro ho3 (And.intro (rstep_trans (v := lw) (v1 := lw) (rstep_ext (Ext.refl wr).drew) (Or.inl rfl) hg3) (rstep_own (w := wr) (v := lw) (Ext.refl wr).drew.size (Or.inl rfl) hk3))); clear ho3 hg3 hk3)
      · go_wp2_with (at_builtin; refine wpList_append_own_at _ rfl _ _ 53 rfl w.heap.size 3 i1 (.int .i64 0) 1 8 Tryz.underlying53 hi1 hy0 hy1 hy2 rfl (by decide) _ k _ rfl ((own_block hH.out.2.2.2.2.1 (fun k hk => by
          obtain ⟨cur, hcu⟩ := own_type hH.out.2.2.2.2.1 hk
          exact blk_str hH.out.1 H3.out.2.1 hcu (by decide))).alloc _) ⟨w3.heap.size, 0, none⟩ 1 1 [.int .i64 (n3 : Int)] rfl rfl ?c1a ?c2a ?c3a ?c4a ?c5a ?_)
        case c1a => exact cell_one_new _ _ _
        case c2a => first | rfl | (intro u hu; simp at hu; subst hu; rfl)
        case c3a => unfold maxLen; omega
        case c4a => omega
        case c5a => have h1 := hH.out.2.1.size; have h2 := H3.out.2.1.size; simp; omega
        intro v4 w4 hown4 hgrow4 _ _
        have HAW := own_block hH.out.2.2.2.2.1 (fun k hk => by
          obtain ⟨cur, hcu⟩ := own_type hH.out.2.2.2.2.1 hk
          exact blk_str hH.out.1 H3.out.2.1 hcu (by decide))
        have hax := (Ext.refl w3).alloc (.cells #[.int .i64 (n3 : Int)] 3)
        have hal := HAW.alloc (.cells #[.int .i64 (n3 : Int)] 3)
        have hlst : w4.ownsRow B 9 1 v3 l3.length (l3.map Value.string) := own_block (own_ext H3.out.1 hax) (fun k hk => by
          obtain ⟨cur, hcu⟩ := own_type (own_ext H3.out.1 hax) hk
          refine hgrow4.block k (lt_of_heap hcu) (fun q => ?_)
          obtain ⟨cur2, hcu2⟩ := own_type hal q.symm
          rw [hcu] at hcu2; simp at hcu2)
        have hgw := rstep_trans hH.out.2.1 hH.out.2.2.1 H3.out.2.1
        have hgw4 := rstep_new (rstep_new hgw (rstep_ext (row := none) hax) (fun k h => by cases h)) hgrow4 (fun k hk => (HAW.lt k hk).1)
        have hos := rstep_own hH.out.2.1.size hH.out.2.2.1 H3.out.2.2
        have hb3 : TrBlk w3 N v V := by unfold TrBlk; rw [blk_str hH.out.1 H3.out.2.1 hH.out.2.2.2.1 (by decide)]; exact hH.out.2.2.2.1
        have hb3a := hb3.ext hax
        have hb4 : TrBlk w4 N v V := by
          unfold TrBlk
          rw [hgrow4.block N (lt_of_heap hb3a) (fun q => by
            obtain ⟨cur2, hcu2⟩ := own_type hal q.symm
            unfold TrBlk at hb3a
            rw [hb3a] at hcu2; simp at hcu2)]
          exact hb3a
        have HALL := Lib.hid (And.intro hlst (And.intro hgw4 (And.intro hos (And.intro hb4 hown4))))
        clear HAW hax hal hlst hgw hgw4 hos hb3 hb3a hb4 hown4 hgrow4
        go_wp2_with fail
        go_roundw
        case rel =>
          refine ⟨k + 1, l3, ns ++ [(n3 : Int)], by go_num, by omega, Lib.hid ⟨HALL.out.1, HALL.out.2.1, by rw [← HN.out]; exact HALL.out.2.2.1, HALL.out.2.2.2.1, ?_, by simp [hH.out.2.2.2.2.2.1], ?_, ?_, ?_⟩⟩
          · rw [cellsI_snoc, ← HN.out]
            exact HALL.out.2.2.2.2
          · intro z hz
            rcases List.mem_append.1 hz with h | h
            · exact hH.out.2.2.2.2.2.2.1 z h
            · simp at h; subst h; omega
          · have h1 := hH.out.2.2.2.2.2.2.2.1
            have h2 := HBD.out.1
            (try dsimp only at h2)
            omega
          · have h1 := hH.out.2.2.2.2.2.2.2.2
            rw [drop_range k hk, preL_step (by rw [HRO.out]), HRO.out] at h1
            exact h1
        case measure => simp [intOf]; omega
      · go_wp2_with (at_builtin; refine wpList_append_own_at _ rfl _ _ 53 rfl w.heap.size 3 i1 (.int .i64 0) 1 8 Tryz.underlying53 hi1 hy0 hy1 hy2 rfl (by decide) _ k _ rfl ((own_block hH.out.2.2.2.2.1 (fun k hk => by
          obtain ⟨cur, hcu⟩ := own_type hH.out.2.2.2.2.1 hk
          exact blk_str hH.out.1 H3.out.2.1 hcu (by decide))).alloc _) ⟨w3.heap.size, 0, none⟩ 1 1 [.int .i64 (n3 : Int)] rfl rfl ?c1b ?c2b ?c3b ?c4b ?c5b ?_)
        case c1b => exact cell_one_new _ _ _
        case c2b => first | rfl | (intro u hu; simp at hu; subst hu; rfl)
        case c3b => unfold maxLen; omega
        case c4b => omega
        case c5b => have h1 := hH.out.2.1.size; have h2 := H3.out.2.1.size; simp; omega
        intro v4 w4 hown4 hgrow4 _ _
        have HAW := own_block hH.out.2.2.2.2.1 (fun k hk => by
          obtain ⟨cur, hcu⟩ := own_type hH.out.2.2.2.2.1 hk
          exact blk_str hH.out.1 H3.out.2.1 hcu (by decide))
        have hax := (Ext.refl w3).alloc (.cells #[.int .i64 (n3 : Int)] 3)
        have hal := HAW.alloc (.cells #[.int .i64 (n3 : Int)] 3)
        have hlst : w4.ownsRow B 9 1 v3 l3.length (l3.map Value.string) := own_block (own_ext H3.out.1 hax) (fun k hk => by
          obtain ⟨cur, hcu⟩ := own_type (own_ext H3.out.1 hax) hk
          refine hgrow4.block k (lt_of_heap hcu) (fun q => ?_)
          obtain ⟨cur2, hcu2⟩ := own_type hal q.symm
          rw [hcu] at hcu2; simp at hcu2)
        have hgw := rstep_trans hH.out.2.1 hH.out.2.2.1 H3.out.2.1
        have hgw4 := rstep_new (rstep_new hgw (rstep_ext (row := none) hax) (fun k h => by cases h)) hgrow4 (fun k hk => (HAW.lt k hk).1)
        have hos := rstep_own hH.out.2.1.size hH.out.2.2.1 H3.out.2.2
        have hb3 : TrBlk w3 N v V := by unfold TrBlk; rw [blk_str hH.out.1 H3.out.2.1 hH.out.2.2.2.1 (by decide)]; exact hH.out.2.2.2.1
        have hb3a := hb3.ext hax
        have hb4 : TrBlk w4 N v V := by
          unfold TrBlk
          rw [hgrow4.block N (lt_of_heap hb3a) (fun q => by
            obtain ⟨cur2, hcu2⟩ := own_type hal q.symm
            unfold TrBlk at hb3a
            rw [hb3a] at hcu2; simp at hcu2)]
          exact hb3a
        have HALL := Lib.hid (And.intro hlst (And.intro hgw4 (And.intro hos (And.intro hb4 hown4))))
        clear HAW hax hal hlst hgw hgw4 hos hb3 hb3a hb4 hown4 hgrow4
        go_wp2_with fail
        go_roundw
        case rel =>
          refine ⟨k + 1, l3, ns ++ [(n3 : Int)], by go_num, by omega, Lib.hid ⟨HALL.out.1, HALL.out.2.1, by rw [← HN.out]; exact HALL.out.2.2.1, HALL.out.2.2.2.1, ?_, by simp [hH.out.2.2.2.2.2.1], ?_, ?_, ?_⟩⟩
          · rw [cellsI_snoc, ← HN.out]
            exact HALL.out.2.2.2.2
          · intro z hz
            rcases List.mem_append.1 hz with h | h
            · exact hH.out.2.2.2.2.2.2.1 z h
            · simp at h; subst h; omega
          · have h1 := hH.out.2.2.2.2.2.2.2.1
            have h2 := HBD.out.1
            (try dsimp only at h2)
            omega
          · have h1 := hH.out.2.2.2.2.2.2.2.2
            rw [drop_range k hk, preL_step (by rw [HRO.out]), HRO.out] at h1
            exact h1
        case measure => simp [intOf]; omega
    have hkn : k = 16 := by omega
    have hqq : q = (lk, ns, 0) := by
      have h1 := hH.out.2.2.2.2.2.2.2.2
      rw [hkn] at h1
      rw [← h1, show (List.range 16).drop 16 = [] from rfl]
      simp [leavesT, preT]
    have hr2 := HR.out
    rw [hqq] at hr2
    simp only [ne_eq, not_true_eq_false, if_false] at hr2
    have hIA := hH.out.2.2.2.2.1
    have hnl := hH.out.2.2.2.2.2.1
    rw [← hnl] at hIA
    have h64L : In64L ns := by
      intro u hu
      have := hH.out.2.2.2.2.2.2.1 u hu; omega
    obtain ⟨pa, capa, hpa, _, _⟩ := own_form hIA
    have DG := Lib.hid (rdigs_any _ ns wr (by omega) h64L (ints_own hIA))
    obtain ⟨s, hs⟩ : ∃ s : ByteArray, (⟨(digF ns).toArray⟩ : ByteArray) = s := ⟨_, rfl⟩
    rw [hs] at DG hr2
    have hBr : B ≤ wr.heap.size := Nat.le_trans hBw hH.out.2.1.size
    have OC := Lib.hid (rof_any B lw lk s wr (by have := hH.out.2.2.2.2.2.2.2.1; omega) hH.out.1 hBr)
    obtain ⟨ro, hro⟩ : ∃ ro, ofF lk s = ro := ⟨_, rfl⟩
    rw [hro] at OC hr2
    obtain ⟨l3, n3, e3⟩ := ro
    have HNL := Lib.hid hnl
    have HR2 := Lib.hid hr2
    rw [hnl] at hpa
    have HPA := Lib.hid hpa
    clear hqq hr2 hIA h64L hs hro hnl hpa
    subst hkn
    obtain rfl := HPA.out
    by_cases he : e3 = 0
    · subst he
      have hre : r = (l3, n3, ns, 0) := by have := HR2.out; simpa using this.symm
      have HRE := Lib.hid hre
      clear hre
      go_wp2_with (first
        | (go_at_call 66; refine (DG.out).mono ?_; rintro e w3 ⟨rfl, rfl⟩)
        | (go_at_call 51; refine (OC.out).mono ?_; rintro e w3 ⟨v3, rfl, ho3, hg3, hk3⟩; have H3 := Lib.hid (And.intro ho3 (And.intro hg3 hk3)); clear ho3 hg3 hk3))
      rw [HRE.out]
      refine bodyPost_ret (v := .tuple #[v3, .int .i64 (n3 : Int), .slice pa 16 capa, .int .i64 0]) (by simp [results, Tryz.results39, go_sem]) rfl ⟨v3, _, rfl, H3.out.1, ?_, rstep_trans hH.out.2.1 hH.out.2.2.1 H3.out.2.1, rstep_own hH.out.2.1.size hH.out.2.2.1 H3.out.2.2⟩
      dsimp only
      rw [HNL.out]
      exact own_block hH.out.2.2.2.2.1 (fun k hk => by
        obtain ⟨cur, hcu⟩ := own_type hH.out.2.2.2.2.1 hk
        exact blk_str hH.out.1 H3.out.2.1 hcu (by decide))
    · have he' : (e3 != 0) = true := by simpa using he
      have hre : r = (l3, 0, [], e3) := by have := HR2.out; simpa [he] using this.symm
      have HRE := Lib.hid hre
      clear hre he
      go_wp2_with (first
        | (go_at_call 66; refine (DG.out).mono ?_; rintro e w3 ⟨rfl, rfl⟩)
        | (go_at_call 51; refine (OC.out).mono ?_; rintro e w3 ⟨v3, rfl, ho3, hg3, hk3⟩; have H3 := Lib.hid (And.intro ho3 (And.intro hg3 hk3)); clear ho3 hg3 hk3))
      rw [HRE.out]
      refine bodyPost_ret (v := .tuple #[v3, .int .i64 0, .slice none 0 0, .int .i64 e3]) (by simp [results, Tryz.results39, go_sem]) rfl ⟨v3, _, rfl, H3.out.1, World.ownsRow_nil _ _ _ _, rstep_trans hH.out.2.1 hH.out.2.2.1 H3.out.2.1, rstep_own hH.out.2.1.size hH.out.2.2.1 H3.out.2.2⟩
end Go.Proofs.YtpchohjkelopoaaGreatDoor

set_option maxRecDepth 20000
namespace Go.Proofs.YtpchohjkelopoaaGreatDoor
open Go.RowKit
attribute [go_sem] more_more Array.size_append
/-- a text at its first comma -/
def splitC : List UInt8 → Option (List UInt8 × List UInt8)
  | [] => none
  | c :: t => if c = 44 then some ([], t) else (splitC t).map fun p => (c :: p.1, p.2)
theorem splitC_none : ∀ (l : List UInt8), splitC l = none → ∀ c ∈ l, c ≠ 44
  | [], _, c, hc => by simp at hc
  | d :: t, h, c, hc => by
    unfold splitC at h
    split at h
    · cases h
    · next h1 =>
      simp only [Option.map_eq_none_iff] at h
      rcases List.mem_cons.1 hc with rfl | hc
      · exact h1
      · exact splitC_none t h c hc
theorem splitC_some : ∀ (l a b : List UInt8), splitC l = some (a, b) → l = a ++ 44 :: b ∧ ∀ c ∈ a, c ≠ 44
  | [], a, b, h => by simp [splitC] at h
  | d :: t, a, b, h => by
    unfold splitC at h
    split at h
    · next h1 => simp at h; obtain ⟨rfl, rfl⟩ := h; subst h1; simp
    · next h1 =>
      simp only [Option.map_eq_some_iff] at h
      obtain ⟨⟨p, q⟩, hp, he⟩ := h
      simp only [Prod.mk.injEq] at he
      obtain ⟨rfl, rfl⟩ := he
      obtain ⟨i1, i2⟩ := splitC_some t p q hp
      refine ⟨by rw [i1]; rfl, fun c hc => ?_⟩
      rcases List.mem_cons.1 hc with rfl | hc
      · exact h1
      · exact i2 c hc
set_option maxHeartbeats 1000000 in
theorem slcut_no (s : ByteArray) (h : Lib.indexByte s.data.toList 44 = -1) (w : World) : Calls Tryz.prog 127 #[.string s, .string ⟨#[44]⟩] w fun e w' => e = .returned (.tuple #[.string s, .string ⟨#[]⟩, .bool false]) ∧ Ext w w' := by
  have IC := Lib.hid fun (w : World) => Tryz.stringslite_Index_one s 44 w
  rw [h] at IC
  clear h
  go_enter Tryz.func127, Tryz.ntmps127
  go_wp2_with (go_at_call 139; refine (IC.out _).mono ?_; rintro e w1 ⟨rfl, rfl⟩)
  go_ret3
  exact ⟨rfl, (by repeat (first | exact Ext.refl _ | apply Ext.alloc | apply Ext.more | apply Ext.drewN | apply Ext.drew))⟩
set_option maxHeartbeats 1000000 in
theorem slcut_yes (s : ByteArray) (k : Nat) (hk : k < s.size) (hm : s.size ≤ 9223372036854775800) (h : Lib.indexByte s.data.toList 44 = (k : Int)) (w : World) : Calls Tryz.prog 127 #[.string s, .string ⟨#[44]⟩] w fun e w' => e = .returned (.tuple #[.string (s.extract 0 k), .string (s.extract (k + 1) s.size), .bool true]) ∧ Ext w w' := by
  have IC := Lib.hid fun (w : World) => Tryz.stringslite_Index_one s 44 w
  rw [h] at IC
  have hk0 : (0 : Int) ≤ (k : Int) := by omega
  have hk1 : (k : Int) ≤ (s.size : Int) := by omega
  have hk2 : (k : Int) + 1 ≤ (s.size : Int) := by omega
  have hk3 : (0 : Int) ≤ (k : Int) + 1 := by omega
  have hw1 : IntKind.i64.wrap ((k : Int) + 1) = (k : Int) + 1 := IntWalk.i64_in _ (by omega)
  have hw2 : ((k : Int) + 1).toNat = k + 1 := by omega
  clear h
  go_enter Tryz.func127, Tryz.ntmps127
  go_wp2_with (go_at_call 139; refine (IC.out _).mono ?_; rintro e w1 ⟨rfl, rfl⟩)
  refine wp_region_grow 10 23 [false, false, false, false, false, false, false, false, false, false] (by kernel_rfl) (by kernel_rfl) rfl ?_
  simp only [List.take_succ_cons, List.take_zero, List.drop_succ_cons, List.drop_zero]
  repeat (refine Lex.step rfl ?_; intro K hK; unfold StepG; go_simp; (first
      | refine hK _ ?_); clear hK K)
  refine Lex.nil fun WW hE => ?_
  obtain ⟨dd, oo, rfl⟩ := hE
  unfold FillH
  go_wp2_with fail
  rw [ends_normal]
  go_wp2_with fail
  go_ret3
  exact ⟨rfl, (by repeat (first | exact Ext.refl _ | apply Ext.alloc | apply Ext.more | apply Ext.drewN | apply Ext.drew))⟩
theorem idx_split : ∀ (l : List UInt8), (splitC l = none → Lib.indexByte l 44 = -1) ∧ ∀ a b, splitC l = some (a, b) → Lib.indexByte l 44 = (a.length : Int)
  | [] => ⟨fun _ => rfl, fun a b h => by simp [splitC] at h⟩
  | c :: t => by
    obtain ⟨h1, h2⟩ := idx_split t
    constructor
    · intro h
      unfold splitC at h
      split at h
      · cases h
      · next hc =>
        simp only [Option.map_eq_none_iff] at h
        unfold Lib.indexByte
        have : (c == (44 : UInt8)) = false := by simpa using hc
        rw [this, h1 h]; simp
    · intro a b h
      unfold splitC at h
      split at h
      · next hc =>
        simp only [Option.some.injEq, Prod.mk.injEq] at h
        obtain ⟨rfl, rfl⟩ := h
        unfold Lib.indexByte
        have : (c == (44 : UInt8)) = true := by simpa using hc
        rw [this]; simp
      · next hc =>
        simp only [Option.map_eq_some_iff] at h
        obtain ⟨⟨p, q⟩, hp, he⟩ := h
        simp only [Prod.mk.injEq] at he
        obtain ⟨rfl, rfl⟩ := he
        unfold Lib.indexByte
        have : (c == (44 : UInt8)) = false := by simpa using hc
        have h3 := h2 p q hp
        rw [this, h3]
        have h4 : ((p.length : Int) == -1) = false := by rw [beq_eq_false_iff_ne]; omega
        rw [h4]; simp
set_option maxHeartbeats 1000000 in
theorem scut_no (s : ByteArray) (h : splitC s.data.toList = none) (w : World) : Calls Tryz.prog 99 #[.string s, .string ⟨#[44]⟩] w fun e w' => e = .returned (.tuple #[.string s, .string ⟨#[]⟩, .bool false]) ∧ Ext w w' := by
  have IC := Lib.hid fun (w : World) => slcut_no s ((idx_split _).1 h) w
  clear h
  go_enter Tryz.func99, Tryz.ntmps99
  go_wp2_with (go_at_call 127; refine (IC.out _).mono ?_; rintro e _ ⟨rfl, d1, os1, rfl⟩)
  go_ret3
  exact ⟨rfl, (by repeat (first | exact Ext.refl _ | apply Ext.alloc | apply Ext.more | apply Ext.drewN | apply Ext.drew))⟩
set_option maxHeartbeats 1000000 in
theorem scut_yes (s : ByteArray) (a b : List UInt8) (hm : s.size ≤ 9223372036854775800) (h : splitC s.data.toList = some (a, b)) (w : World) : Calls Tryz.prog 99 #[.string s, .string ⟨#[44]⟩] w fun e w' => e = .returned (.tuple #[.string ⟨a.toArray⟩, .string ⟨b.toArray⟩, .bool true]) ∧ Ext w w' := by
  obtain ⟨h1, _⟩ := splitC_some _ _ _ h
  have hl : a.length < s.size := by have := congrArg List.length h1; rw [ba_len] at this; simp at this; omega
  have ea : (⟨a.toArray⟩ : ByteArray) = s.extract 0 a.length := by
    apply ByteArray.ext; apply Array.toList_inj.1
    rw [toList_extract, h1]; simp
  have eb : (⟨b.toArray⟩ : ByteArray) = s.extract (a.length + 1) s.size := by
    apply ByteArray.ext; apply Array.toList_inj.1
    rw [ex_tail, h1]; simp
  have IC := Lib.hid fun (w : World) => slcut_yes s a.length hl hm ((idx_split _).2 a b h) w
  rw [ea, eb]
  clear h h1 ea eb
  go_enter Tryz.func99, Tryz.ntmps99
  go_wp2_with (go_at_call 127; refine (IC.out _).mono ?_; rintro e _ ⟨rfl, d1, os1, rfl⟩)
  go_ret3
  exact ⟨rfl, (by repeat (first | exact Ext.refl _ | apply Ext.alloc | apply Ext.more | apply Ext.drewN | apply Ext.drew))⟩
/-- the number whose digits these are -/
def wordOk (w : List UInt8) : Option Int := match Lib.atoiAll w with
  | .ok z => if Lib.itoa z = w then some z else none
  | _ => none
def numsN : Nat → List UInt8 → Option (List Int)
  | 0, l => if l = [] then some [] else none
  | n + 1, l => if l = [] then some [] else match splitC l with
    | none => none
    | some (w, r) => match wordOk w with
      | none => none
      | some z => (numsN n r).map fun zs => z :: zs
/-- the list of a text -/
def numsF (l : List UInt8) : Option (List Int) := numsN l.length l
theorem numsN_more : ∀ (n m : Nat) (l : List UInt8), l.length ≤ n → l.length ≤ m → numsN n l = numsN m l
  | 0, 0, l, _, _ => rfl
  | 0, m + 1, l, h, _ => by
    have : l = [] := List.eq_nil_of_length_eq_zero (by omega)
    subst this; simp [numsN]
  | n + 1, 0, l, _, h => by
    have : l = [] := List.eq_nil_of_length_eq_zero (by omega)
    subst this; simp [numsN]
  | n + 1, m + 1, l, h1, h2 => by
    unfold numsN
    split
    · rfl
    · cases hs : splitC l with
      | none => rfl
      | some p =>
        obtain ⟨w, r⟩ := p
        have := congrArg List.length (splitC_some _ _ _ hs).1
        simp at this
        dsimp only
        rw [numsN_more n m r (by omega) (by omega)]
theorem numsF_nil : numsF [] = some [] := rfl
theorem numsF_nosplit {l : List UInt8} (h0 : l ≠ []) (h : splitC l = none) : numsF l = none := by
  unfold numsF
  cases l with
  | nil => exact absurd rfl h0
  | cons c t => simp only [List.length_cons]; unfold numsN; rw [if_neg h0, h]
theorem numsF_split {l w r : List UInt8} (h : splitC l = some (w, r)) : numsF l = match wordOk w with | none => none | some z => (numsF r).map fun zs => z :: zs := by
  have hl := congrArg List.length (splitC_some _ _ _ h).1
  simp at hl
  unfold numsF
  cases l with
  | nil => simp [splitC] at h
  | cons c t =>
    simp only [List.length_cons] at hl ⊢
    conv => lhs; unfold numsN
    rw [if_neg (by simp), h]
    dsimp only
    rw [numsN_more t.length r.length r (by omega) (Nat.le_refl _)]
/-- the errors' variables hold errors -/
def ErrsAt (B : Nat) (w : World) : Prop := 2 < B ∧ (∃ te pe, w.cell? ⟨1, 0, none⟩ = some (.iface te pe)) ∧ (∃ te pe, w.cell? ⟨2, 0, none⟩ = some (.iface te pe))
theorem ErrsAt.below {B B' : Nat} {w w' : World} (h : ErrsAt B w) (hb : Below B' w w') (hB : B ≤ B') : ErrsAt B w' := by
  obtain ⟨h0, ⟨t1, p1, h1⟩, t2, p2, h2⟩ := h
  exact ⟨h0, ⟨t1, p1, (hb.cell (p := ⟨1, 0, none⟩) (show 1 < B' by omega)).trans h1⟩, t2, p2, (hb.cell (p := ⟨2, 0, none⟩) (show 2 < B' by omega)).trans h2⟩
theorem bytesWorld_ext (w : World) (e : TypeId) (t : ByteArray) : Ext w (Lib.bytesWorld w e t) :=
  Ext.of_below (Go.Joins.below_bytesWorld _ w e t (Nat.le_refl _))
theorem atoi_ok (s : ByteArray) (hm : s.size ≤ 281474976710656) (z : Int) (h : Lib.atoiAll s.data.toList = .ok z) (w : World) :
    Calls Tryz.prog 100 #[.string s] w fun e w' => e = .returned (.tuple #[.int .i64 z, .nilIface]) ∧ Ext w w' :=
  (Tryz.strconv_Atoi_ok s (by omega) z h w).mono fun e w' ⟨he, hw⟩ => ⟨he, by
    rcases hw with rfl | ⟨t, rfl⟩
    · exact Ext.refl _
    · exact bytesWorld_ext w _ t⟩
theorem atoi_no (s : ByteArray) (hm : s.size ≤ 281474976710656) (h : ∀ z, Lib.atoiAll s.data.toList ≠ .ok z) (B : Nat) (w : World) (hE : ErrsAt B w) :
    Calls Tryz.prog 100 #[.string s] w fun e w' => ∃ z te pe, e = .returned (.tuple #[.int .i64 z, .iface te pe]) ∧ Ext w w' := by
  obtain ⟨_, ⟨t1, p1, h1⟩, t2, p2, h2⟩ := hE
  cases hq : Lib.atoiAll s.data.toList with
  | ok z => exact absurd hq (h z)
  | range => exact (Tryz.strconv_Atoi_range s hm hq _ w h2 (Or.inr ⟨_, _, rfl⟩)).mono fun e w' ⟨N, he, _, _, hb⟩ => ⟨_, _, _, he, Ext.of_below hb⟩
  | _ => exact (Tryz.strconv_Atoi_syntax s hm hq _ w h1 (Or.inr ⟨_, _, rfl⟩)).mono fun e w' ⟨N, he, _, _, hb⟩ => ⟨_, _, _, he, Ext.of_below hb⟩
theorem atoi_64 {l : List UInt8} {z : Int} (h : Lib.atoiAll l = .ok z) : -9223372036854775808 ≤ z ∧ z ≤ 9223372036854775807 := by
  unfold Lib.atoiAll at h
  cases l with
  | nil => simp at h
  | cons c r =>
    dsimp only at h
    split at h
    · cases h
    · cases h
    · split at h
      · cases h
      · split at h
        · cases h
        · simp only [Lib.NumEnd.ok.injEq] at h
          subst h
          split <;> omega
/-- what root.numbers hands back -/
def NumsPost (w w' : World) (e : Ending) (r : Option (List Int)) : Prop := match r with
  | none => e = .returned (.tuple #[.slice none 0 0, .bool false]) ∧ Ext w w'
  | some l => ∃ v, e = .returned (.tuple #[v, .bool true]) ∧ w'.ownsRow w.heap.size 3 1 v l.length (cellsI l) ∧ In64L l ∧ Ext w w'
set_option maxHeartbeats 1000000 in
theorem numbers_any (s0 : ByteArray) (hm : s0.size ≤ 1000000) (EB PB : Nat) (w : World) (hE : ErrsAt EB w) (hEB : EB ≤ w.heap.size) (hP : Pow10 PB w) (hPB : PB ≤ w.heap.size) (r : Option (List Int)) (hr : numsF s0.data.toList = r) :
    Calls Tryz.prog 70 #[.string s0] w fun e w' => NumsPost w w' e r := by
  obtain ⟨i1, hi1, hy0, hy1, hy2⟩ := info_parts intInfo
  have HR := Lib.hid hr
  have HE := Lib.hid hE
  have HP := Lib.hid hP
  clear hr hE hP
  go_enter Tryz.func70, Tryz.ntmps70
  go_wp2_with fail
  go_step3
  go_wp2_with fail
  go_step3
  go_wp2_with fail
  go_loopw [0, 4] (fun sv out wr => ∃ (s : ByteArray) (k : Nat) (ns : List Int), sv = .string s ∧ s.size + k ≤ s0.size ∧ Hid (wr.ownsRow w.heap.size 3 1 out k (cellsI ns) ∧ ns.length = k ∧ In64L ns ∧ Ext w wr ∧ (numsF s.data.toList).map (ns ++ ·) = r)) (fun sv _ _ => match sv with | .string s => s.size | _ => 0)
  case atStart => exact ⟨s0, 0, [], rfl, Nat.le_refl _, Lib.hid ⟨World.ownsRow_nil _ _ _ _, rfl, fun u hu => by simp at hu, Ext.refl _, by rw [HR.out]; cases r <;> simp⟩⟩
  case round =>
    obtain ⟨s, k, ns, rfl, hsk, hH⟩ := hrel
    have HEX : Hid (Ext w wr) := Lib.hid hH.out.2.2.2.1
    by_cases hz : s.size = 0
    · have hq : s.toList.isEmpty = true := by rw [empty_size, beq_iff_eq]; omega
      have hnil : s.data.toList = [] := List.eq_nil_of_length_eq_zero (by rw [ba_len]; omega)
      have hre : r = some ns := by have := hH.out.2.2.2.2; rw [hnil, numsF_nil] at this; simpa using this.symm
      have HRE := Lib.hid hre
      have HNL := Lib.hid hH.out.2.1
      clear hnil hre
      go_wp2_with fail
      rw [Exit.noGoto_ret]
      go_ret2
      rw [HRE.out]
      refine ⟨_, rfl, ?_, hH.out.2.2.1, HEX.out⟩
      rw [HNL.out]
      exact hH.out.1
    have hq : s.toList.isEmpty = false := by rw [empty_size, beq_eq_false_iff_ne]; omega
    have hne : s.data.toList ≠ [] := fun h => hz (by rw [← ba_len, h]; rfl)
    cases hsp : splitC s.data.toList with
    | none =>
      have hre : r = none := by have := hH.out.2.2.2.2; rw [numsF_nosplit hne hsp] at this; simpa using this.symm
      subst hre
      have CC := Lib.hid fun W => scut_no s hsp W
      clear hsp hne
      go_wp2_with (go_at_call 99; refine (CC.out _).mono ?_; rintro e _ ⟨rfl, d1, os1, rfl⟩)
      rw [Exit.noGoto_ret]
      go_ret2
      exact ⟨rfl, (by repeat (first | exact HEX.out | apply Ext.alloc | apply Ext.more | apply Ext.drewN))⟩
    | some p =>
      obtain ⟨a, b⟩ := p
      have hab := congrArg List.length (splitC_some _ _ _ hsp).1
      rw [ba_len] at hab
      simp only [List.length_append, List.length_cons] at hab
      have CC := Lib.hid fun W => scut_yes s a b (by omega) hsp W
      have hst := numsF_split hsp
      have HST := Lib.hid hst
      obtain ⟨sa, hsa⟩ : ∃ x : ByteArray, (⟨a.toArray⟩ : ByteArray) = x := ⟨_, rfl⟩
      obtain ⟨sb, hsb⟩ : ∃ x : ByteArray, (⟨b.toArray⟩ : ByteArray) = x := ⟨_, rfl⟩
      have hza : sa.data.toList = a := by rw [← hsa]
      have hzb : sb.data.toList = b := by rw [← hsb]
      have hsza : sa.size = a.length := by rw [← ba_len, hza]
      have hszb : sb.size = b.length := by rw [← ba_len, hzb]
      rw [hsa, hsb] at CC
      have HZB := Lib.hid hzb
      clear hsp hne hst hsa hsb
      cases hat : wordOk a with
      | none =>
        have hre : r = none := by have := hH.out.2.2.2.2; rw [HST.out, hat] at this; simpa using this.symm
        subst hre
        by_cases hok : ∃ z, Lib.atoiAll a = .ok z
        · obtain ⟨z, hz1⟩ := hok
          have hnz : ¬ Lib.itoa z = a := by
            intro h
            unfold wordOk at hat
            rw [hz1] at hat
            simp [h] at hat
          have AC := Lib.hid fun W => atoi_ok sa (by omega) z (by rw [hza]; exact hz1) W
          obtain ⟨z0, z1⟩ := atoi_64 hz1
          have IC := Lib.hid (Tryz.strconv_Itoa z z0 z1)
          have hcmp : ((⟨(Lib.itoa z).toArray⟩ : ByteArray).toList == sa.toList) = false := by
            rw [beq_eq_false_iff_ne, Lib.toList_data, Lib.toList_data, hza]; exact hnz
          obtain ⟨st, hst⟩ : ∃ x : ByteArray, (⟨(Lib.itoa z).toArray⟩ : ByteArray) = x := ⟨_, rfl⟩
          rw [hst] at hcmp IC
          clear hst hat hz1 hnz hza hzb hsza hszb hab z0 z1
          go_wp2_with (first
            | (go_at_call 99; refine (CC.out _).mono ?_; rintro e _ ⟨rfl, d1, os1, rfl⟩)
            | (go_at_call 100; refine (AC.out _).mono ?_; rintro e _ ⟨rfl, d2, os2, rfl⟩)
            | (go_at_call 101; refine (IC.out _ (HP.out.below (Ext.below (by repeat (first | exact HEX.out | apply Ext.alloc | apply Ext.more | apply Ext.drewN))) hPB).2).mono ?_; rintro e w2 ⟨rfl, kk, oo, hw2⟩; have HX2 := Lib.hid (ext_grow hw2); clear hw2))
          rw [Exit.noGoto_ret]
          go_ret2
          exact ⟨rfl, Ext.trans (by repeat (first | exact HEX.out | apply Ext.alloc | apply Ext.more | apply Ext.drewN)) HX2.out⟩
        · have AC := Lib.hid fun (W : World) (hx : Ext w W) => atoi_no sa (by omega) (fun z h => hok ⟨z, by rw [← hza]; exact h⟩) EB W (HE.out.below hx.below hEB)
          clear hat hok hza hzb hsza hszb hab
          go_wp2_with (first
            | (go_at_call 99; refine (CC.out _).mono ?_; rintro e _ ⟨rfl, d1, os1, rfl⟩)
            | (go_at_call 100; refine (AC.out _ (by repeat (first | exact HEX.out | apply Ext.alloc | apply Ext.more | apply Ext.drewN))).mono ?_; rintro e _ ⟨z, te, pe, rfl, d2, os2, rfl⟩))
          rw [Exit.noGoto_ret]
          go_ret2
          exact ⟨rfl, (by repeat (first | exact HEX.out | apply Ext.alloc | apply Ext.more | apply Ext.drewN))⟩
      | some z =>
        have hz1 : Lib.atoiAll a = .ok z ∧ Lib.itoa z = a := by
          unfold wordOk at hat
          split at hat
          · next z' h' =>
            split at hat
            · next h2 => simp at hat; subst hat; exact ⟨h', h2⟩
            · cases hat
          · cases hat
        have AC := Lib.hid fun W => atoi_ok sa (by omega) z (by rw [hza]; exact hz1.1) W
        obtain ⟨z0, z1⟩ := atoi_64 hz1.1
        have IC := Lib.hid (Tryz.strconv_Itoa z z0 z1)
        have hcmp : ((⟨(Lib.itoa z).toArray⟩ : ByteArray).toList == sa.toList) = true := by
          rw [beq_iff_eq, Lib.toList_data, Lib.toList_data, hza]; exact hz1.2
        obtain ⟨st, hst⟩ : ∃ x : ByteArray, (⟨(Lib.itoa z).toArray⟩ : ByteArray) = x := ⟨_, rfl⟩
        rw [hst] at hcmp IC
        have hsbk : sb.size + (k + 1) ≤ s0.size := by omega
        have hsbl : sb.size < s.size := by omega
        have HZ := Lib.hid (And.intro z0 z1)
        have HAT := Lib.hid hat
        clear hst hat hz1 hza hzb hsza hszb hab z0 z1
        go_wp2_with (first
          | (go_at_call 99; refine (CC.out _).mono ?_; rintro e _ ⟨rfl, d1, os1, rfl⟩)
          | (go_at_call 100; refine (AC.out _).mono ?_; rintro e _ ⟨rfl, d2, os2, rfl⟩)
          | (go_at_call 101; refine (IC.out _ (HP.out.below (Ext.below (by repeat (first | exact HEX.out | apply Ext.alloc | apply Ext.more | apply Ext.drewN))) hPB).2).mono ?_; rintro e w2 ⟨rfl, kk, oo, hw2⟩; have HX2 := Lib.hid (ext_grow hw2); clear hw2)
          | (at_builtin; refine Hid.out ?_))
        refine Lib.hid ?_
        have hw0 := own_ext (own_more hH.out.1 d2 (os1 ++ os2)) HX2.out
        refine wpList_append_own_at _ rfl _ _ 53 rfl w.heap.size 3 i1 (.int .i64 0) 1 8 Tryz.underlying53 hi1 hy0 hy1 hy2 rfl (by decide) _ k (cellsI ns) rfl (hw0.alloc _) ⟨w2.heap.size, 0, none⟩ 1 1 [.int .i64 z] rfl rfl ?c1 ?c2 ?c3 ?c4 ?c5 ?_
        case c1 => exact cell_one_new _ _ _
        case c2 => first | rfl | (intro u hu; simp at hu; subst hu; rfl)
        case c3 => unfold maxLen; omega
        case c4 => omega
        case c5 => have h1 := HEX.out.size; have h2 := HX2.out.size; simp [more_size] at h2 ⊢; omega
        intro v4 w4 hown4 hgrow4 _ _
        have HX4 : Hid (Ext w w4) := Lib.hid (Ext.grown (((by repeat (first | exact HEX.out | apply Ext.alloc | apply Ext.more | apply Ext.drewN)) : Ext w _).trans HX2.out |>.alloc _) hgrow4 (fun k hk => (hw0.lt k hk).1))
        have HO4 := Lib.hid hown4
        clear hown4 hgrow4 hw0
        go_wp2_with fail
        go_roundw
        case rel =>
          refine ⟨sb, k + 1, ns ++ [z], rfl, by omega, Lib.hid ⟨?_, ?_, ?_, HX4.out, ?_⟩⟩
          · rw [show cellsI (ns ++ [z]) = cellsI ns ++ [.int .i64 z] by simp [cellsI]]; exact HO4.out
          · simp [hH.out.2.1]
          · intro u hu
            rcases List.mem_append.1 hu with h | h
            · exact hH.out.2.2.1 u h
            · simp at h; subst h; exact ⟨HZ.out.1, HZ.out.2⟩
          · have h1 := hH.out.2.2.2.2
            rw [HST.out, HAT.out] at h1
            rw [HZB.out, ← h1]
            simp only [Option.map_map]
            congr 1
            funext q
            simp
        case measure => exact hsbl
end Go.Proofs.YtpchohjkelopoaaGreatDoor

set_option maxRecDepth 20000
namespace Go.Proofs.YtpchohjkelopoaaGreatDoor
open Go.RowKit
/-- are numbers above nothing? -/
def aboveF (l : List Int) : Bool := l.all fun n => decide (1 ≤ n)
theorem aboveF_no {l : List Int} {u : Int} {k : Nat} (h : l[k]? = some u) (hu : u < 1) : aboveF l = false := by
  unfold aboveF
  rw [List.all_eq_false]
  exact ⟨u, List.mem_of_getElem? h, by simp; omega⟩
theorem aboveF_all {l : List Int} (h : ∀ (j : Nat) (u : Int), l[j]? = some u → 1 ≤ u) : aboveF l = true := by
  unfold aboveF
  rw [List.all_eq_true]
  intro u hu
  obtain ⟨j, hj⟩ := List.getElem?_of_mem hu
  simpa using h j u hj
set_option maxHeartbeats 1000000 in
theorem above_core (p : Option Addr) (n cap : Nat) (l : List Int) (w : World) (hn : l.length = n) (hl : n ≤ 9223372036854775807) (hc : ∀ j u, l[j]? = some u → ∃ b off, p = some ⟨b, off, none⟩ ∧ w.cell? ⟨b, off + j, none⟩ = some (.int .i64 u)) :
    Calls Tryz.prog 71 #[.slice p n cap] w fun e w' => e = .returned (.bool (aboveF l)) ∧ w = w' := by
  have HN := Lib.hid hn
  have HC := Lib.hid hc
  have hn7 : (n : Int) ≤ 9223372036854775807 := by omega
  clear hn hc hl
  go_enter Tryz.func71, Tryz.ntmps71
  go_wp2_with fail
  go_loopw [7] (fun ii wr => ∃ (k : Nat), ii = .int .i64 (k : Int) ∧ k ≤ n ∧ Hid (∀ j u, j < k → l[j]? = some u → 1 ≤ u) ∧ w = wr) (fun ii _ => n - (intOf ii).toNat)
  case atStart => exact ⟨0, rfl, Nat.zero_le _, Lib.hid fun j u h => by omega, rfl⟩
  case round =>
    obtain ⟨k, rfl, hk, hb, rfl⟩ := hrel
    by_cases hlt : k < n
    · obtain ⟨u, hu⟩ : ∃ u, l[k]? = some u := ⟨_, List.getElem?_eq_getElem (by have := HN.out; omega)⟩
      obtain ⟨b1, o1, rfl, cu⟩ := HC.out k u hu
      have hb1 := rcell_lt cu
      have hlt3 : (k : Int) < n := by omega
      have HU := Lib.hid hu
      by_cases h1 : u < 1
      · have HA := Lib.hid (aboveF_no hu h1)
        clear hu
        go_wp2_with fail
        go_ret
        rw [HA.out]
        exact ⟨rfl, rfl⟩
      · clear hu
        go_wp2_with fail
        go_roundw
        case rel =>
          refine ⟨k + 1, by go_num, by omega, Lib.hid ?_, by trivial⟩
          intro j v hj hv
          by_cases hjk : j = k
          · subst hjk
            rw [HU.out] at hv
            simp at hv
            omega
          · exact hb.out j v (by omega) hv
        case measure => simp [intOf]; omega
    · have hks : n = k := by omega
      subst hks
      have HA := Lib.hid (aboveF_all (l := l) fun j u hj => hb.out j u (by have := (List.getElem?_eq_some_iff.1 hj).1; have := HN.out; omega) hj)
      go_wp2_with fail
      go_ret
      rw [HA.out]
      exact ⟨rfl, rfl⟩
theorem above_any (v : Value) (l : List Int) (w : World) (hl : l.length ≤ 9223372036854775807) (h : IntsAt w v l) : Calls Tryz.prog 71 #[v] w fun e w' => e = .returned (.bool (aboveF l)) ∧ w = w' := by
  rcases h with ⟨p, cap, rfl, rfl⟩ | ⟨b, off, cap, rfl, h1, h2⟩
  · exact above_core p 0 cap [] w rfl (by omega) (fun j u hj => by simp at hj)
  · exact above_core _ _ cap l w rfl hl (fun j u hj => ⟨b, off, rfl, h2 j u hj⟩)
end Go.Proofs.YtpchohjkelopoaaGreatDoor

set_option maxRecDepth 20000
namespace Go.Proofs.YtpchohjkelopoaaGreatDoor
open Go.RowKit
/-- a laid text by its number -/
def textF (l : List ByteArray) (n : Int) : Option ByteArray := if n < 1 then none else l[(n - 1).toNat]?
set_option maxHeartbeats 1000000 in
theorem rtext_ok (p : Option Addr) (cap : Nat) (l : List ByteArray) (n : Nat) (s : ByteArray) (w : World) (hl : l.length ≤ 1000000000) (hs : l[n]? = some s) (hc : ∀ j u, l[j]? = some u → ∃ b off, p = some ⟨b, off, none⟩ ∧ w.cell? ⟨b, off + j, none⟩ = some (.string u)) :
    Calls Tryz.prog 72 #[.slice p l.length cap, .int .i64 ((n : Int) + 1)] w fun e w' => e = .returned (.tuple #[.string s, .bool true]) ∧ w = w' := by
  obtain ⟨b1, o1, rfl, cu⟩ := hc n s hs
  have hb1 := rcell_lt cu
  have hlt := (List.getElem?_eq_some_iff.1 hs).1
  have q1 : (n : Int) < (l.length : Int) := by omega
  clear hc hs
  go_enter Tryz.func72, Tryz.ntmps72
  go_wp2_with fail
  go_ret2
  exact ⟨rfl, rfl⟩
set_option maxHeartbeats 1000000 in
theorem rtext_no (p : Option Addr) (k cap : Nat) (n : Int) (w : World) (hl : k ≤ 1000000000) (h : n < 1 ∨ (k : Int) < n) :
    Calls Tryz.prog 72 #[.slice p k cap, .int .i64 n] w fun e w' => e = .returned (.tuple #[.string ⟨#[]⟩, .bool false]) ∧ w = w' := by
  by_cases h1 : n < 1
  · clear h
    go_enter Tryz.func72, Tryz.ntmps72
    go_wp2_with fail
    go_ret2
    exact ⟨rfl, rfl⟩
  · have h2 : (k : Int) < n := h.resolve_left h1
    have h1' : 1 ≤ n := by omega
    clear h h1
    go_enter Tryz.func72, Tryz.ntmps72
    go_wp2_with fail
    go_ret2
    exact ⟨rfl, rfl⟩
/-- ref12.text = textF -/
def textE : Option ByteArray → Ending
  | none => .returned (.tuple #[.string ⟨#[]⟩, .bool false])
  | some s => .returned (.tuple #[.string s, .bool true])
theorem r12text_any {w : World} {B : Nat} {v : Value} {l : List ByteArray} (h : w.ownsRow B 9 1 v l.length (l.map Value.string)) (hl : l.length ≤ 1000000000) (n : Int) :
    Calls Tryz.prog 72 #[v, .int .i64 n] w fun e w' => e = textE (textF l n) ∧ w = w' := by
  obtain ⟨p, cap, rfl, _, hc⟩ := own_texts h
  unfold textF
  by_cases h1 : n < 1
  · rw [if_pos h1]
    exact rtext_no p _ cap n w hl (Or.inl h1)
  · rw [if_neg h1]
    cases hs : l[(n - 1).toNat]? with
    | none =>
      rw [List.getElem?_eq_none_iff] at hs
      exact rtext_no p _ cap n w hl (Or.inr (by omega))
    | some s =>
      have := rtext_ok p cap l (n - 1).toNat s w hl hs hc
      rw [show (((n - 1).toNat : Nat) : Int) + 1 = n by omega] at this
      exact this
/-- term.Text = textF -/
def ttextE : Option ByteArray → Ending
  | none => .returned (.tuple #[.string ⟨#[]⟩, .int .i64 6])
  | some s => .returned (.tuple #[.string s, .int .i64 0])
theorem ttext_any (B bt bm : Nat) (tv : Value) (l : List ByteArray) (n : Int) (w : World) (h : TabAt B bt bm tv l w) :
    Calls Tryz.prog 41 #[.pointer (some ⟨bt, 0, none⟩), .int .i64 n] w fun e w' => e = ttextE (textF l n) ∧ w = w' := by
  unfold textF
  by_cases h1 : n < 1
  · rw [if_pos h1]
    exact text_none B bt bm tv l n (Or.inl h1) w h
  · rw [if_neg h1]
    cases hs : l[(n - 1).toNat]? with
    | none =>
      rw [List.getElem?_eq_none_iff] at hs
      exact text_none B bt bm tv l n (Or.inr (by omega)) w h
    | some s =>
      have := ttext_ok B bt bm tv l (n - 1).toNat s hs w h
      rw [show (((n - 1).toNat : Nat) : Int) + 1 = n by omega] at this
      exact this
end Go.Proofs.YtpchohjkelopoaaGreatDoor

set_option maxRecDepth 20000
namespace Go.Proofs.YtpchohjkelopoaaGreatDoor
open Go.RowKit
/-- the leaves' terms of a root: the list and the error -/
def leavesF (l : List ByteArray) (root : Int) : Option (List Int) × Int := match textF l root with
  | none => (none, 6)
  | some s => match numsF s.data.toList with
    | none => (none, 3)
    | some x => if x.length = 16 ∧ aboveF x = true then (some x, 0) else (none, 3)
theorem leavesF_none {l : List ByteArray} {root : Int} (h : textF l root = none) : leavesF l root = (none, 6) := by unfold leavesF; rw [h]
theorem leavesF_no {l : List ByteArray} {root : Int} {s : ByteArray} (h : textF l root = some s) (h2 : numsF s.data.toList = none) : leavesF l root = (none, 3) := by unfold leavesF; rw [h]; simp only [h2]
theorem leavesF_some {l : List ByteArray} {root : Int} {s : ByteArray} {x : List Int} (h : textF l root = some s) (h2 : numsF s.data.toList = some x) : leavesF l root = if x.length = 16 ∧ aboveF x = true then (some x, 0) else (none, 3) := by unfold leavesF; rw [h]; simp only [h2]
theorem textF_mem {l : List ByteArray} {n : Int} {s : ByteArray} (h : textF l n = some s) : s ∈ l := by
  unfold textF at h
  split at h
  · cases h
  · exact List.mem_of_getElem? h
/-- what root.Leaves hands back -/
def LeavesPost (w w' : World) (e : Ending) (r : Option (List Int) × Int) : Prop := match r.1 with
  | none => e = .returned (.tuple #[.slice none 0 0, .int .i64 r.2]) ∧ Ext w w'
  | some x => ∃ v, e = .returned (.tuple #[v, .int .i64 r.2]) ∧ w'.ownsRow w.heap.size 3 1 v x.length (cellsI x) ∧ In64L x ∧ Ext w w'
set_option maxHeartbeats 1000000 in
theorem leaves_any (B bt bm : Nat) (tv : Value) (l : List ByteArray) (root : Int) (w : World) (h : TabAt B bt bm tv l w) (hsz : ∀ s ∈ l, s.size ≤ 1000000) (EB PB : Nat) (hE : ErrsAt EB w) (hEB : EB ≤ w.heap.size) (hP : Pow10 PB w) (hPB : PB ≤ w.heap.size) (r : Option (List Int) × Int) (hr : leavesF l root = r) :
    Calls Tryz.prog 42 #[.pointer (some ⟨bt, 0, none⟩), .int .i64 root] w fun e w' => LeavesPost w w' e r := by
  have HT := Lib.hid (ttext_any B bt bm tv l root w h)
  clear h
  cases ht : textF l root with
  | none =>
    have hre := leavesF_none ht
    rw [hr] at hre
    subst hre
    rw [ht] at HT
    simp only [ttextE] at HT
    clear hr ht hE hP
    go_enter Tryz.func42, Tryz.ntmps42
    go_wp2_with (go_at_call 41; refine HT.out.mono ?_; rintro e _ ⟨rfl, rfl⟩)
    go_ret2
    exact ⟨rfl, Ext.refl _⟩
  | some s =>
    rw [ht] at HT
    simp only [ttextE] at HT
    have hss := hsz s (textF_mem ht)
    cases hn : numsF s.data.toList with
    | none =>
      have hre := leavesF_no ht hn
      rw [hr] at hre
      subst hre
      have NC := Lib.hid (numbers_any s hss EB PB w hE hEB hP hPB _ hn)
      clear hr ht hE hP hn hsz
      go_enter Tryz.func42, Tryz.ntmps42
      go_wp2_with (first
        | (go_at_call 41; refine HT.out.mono ?_; rintro e _ ⟨rfl, rfl⟩)
        | (go_at_call 70; refine NC.out.mono ?_; rintro e w1 ⟨rfl, hx⟩; have HX := Lib.hid hx; clear hx))
      go_ret2
      exact ⟨rfl, HX.out⟩
    | some x =>
      have hre := leavesF_some ht hn
      rw [hr] at hre
      have NC := Lib.hid (numbers_any s hss EB PB w hE hEB hP hPB _ hn)
      clear hr ht hE hP hn hsz
      by_cases hl : x.length = 16
      · cases ha : aboveF x with
        | true =>
          rw [if_pos ⟨hl, ha⟩] at hre
          subst hre
          go_enter Tryz.func42, Tryz.ntmps42
          go_wp2_with (first
            | (go_at_call 41; refine HT.out.mono ?_; rintro e _ ⟨rfl, rfl⟩)
            | (go_at_call 70; refine NC.out.mono ?_; rintro e w1 ⟨v, rfl, hown, h64, hx⟩; obtain ⟨p, cap, rfl, hcap, hg⟩ := own_form hown; rw [hl] at hown ⊢; have HO := Lib.hid hown; have H64 := Lib.hid h64; have HX := Lib.hid hx; have AC := Lib.hid (above_any _ x w1 (by omega) (ints_own (by rw [hl]; exact hown))); rw [ha] at AC; clear hown h64 hx hg)
            | (go_at_call 71; refine AC.out.mono ?_; rintro e _ ⟨rfl, rfl⟩))
          go_ret2
          exact ⟨_, rfl, by rw [hl]; exact HO.out, H64.out, HX.out⟩
        | false =>
          rw [if_neg (by rw [ha]; simp)] at hre
          subst hre
          go_enter Tryz.func42, Tryz.ntmps42
          go_wp2_with (first
            | (go_at_call 41; refine HT.out.mono ?_; rintro e _ ⟨rfl, rfl⟩)
            | (go_at_call 70; refine NC.out.mono ?_; rintro e w1 ⟨v, rfl, hown, h64, hx⟩; obtain ⟨p, cap, rfl, hcap, hg⟩ := own_form hown; have HX := Lib.hid hx; have AC := Lib.hid (above_any _ x w1 (by omega) (ints_own hown)); rw [ha] at AC; rw [hl] at AC ⊢; clear hown h64 hx hg)
            | (go_at_call 71; refine AC.out.mono ?_; rintro e _ ⟨rfl, rfl⟩))
          go_ret2
          exact ⟨rfl, HX.out⟩
      · rw [if_neg (fun q => hl q.1)] at hre
        subst hre
        have hl2 : ¬ ((x.length : Int) = 16) := by omega
        go_enter Tryz.func42, Tryz.ntmps42
        go_wp2_with (first
          | (go_at_call 41; refine HT.out.mono ?_; rintro e _ ⟨rfl, rfl⟩)
          | (go_at_call 70; refine NC.out.mono ?_; rintro e w1 ⟨v, rfl, hown, h64, hx⟩; obtain ⟨p, cap, rfl, hcap, hg⟩ := own_form hown; have HX := Lib.hid hx; clear hown h64 hx hg))
        go_ret2
        exact ⟨rfl, HX.out⟩
end Go.Proofs.YtpchohjkelopoaaGreatDoor
