/- Lemmas for the claim (texts Aw1, RRd, RmR, what its proof uses of them). -/
import Derived.Test.YtpchohjkelopoaaGreatDoorR09
import Derived.Test.YtpchohjkelopoaaGreatDoorR17
import Derived.Test.YtpchohjkelopoaaGreatDoorRows
import Derived.Deep.Strs
import Derived.Stop.LaidErr
import Derived.Stop.Joined
import Derived.LaidMore
import Derived.Lib.LaidTab
import Derived.LaidLaws
import Derived.ChangeSame
import Derived.ChangeVars
import Derived.JoinedOf
import Derived.RowKitTokens
import Derived.OpenShut
set_option linter.unusedSimpArgs false
set_option linter.unusedVariables false
set_option maxRecDepth 20000
namespace Go.Proofs.YtpchohjkelopoaaGreatDoor
open Go.RowKit
attribute [go_sem] more_more Array.size_append
set_option maxHeartbeats 1000000 in
theorem same12_core (p p' : Option Addr) (n cap cap' : Nat) (l : List Int) (w : World) (hn : l.length = n) (hm : n ≤ 9223372036854775807) (h : ∀ j u, l[j]? = some u → ∃ b off, p = some ⟨b, off, none⟩ ∧ w.cell? ⟨b, off + j, none⟩ = some (.int .i64 u)) (h' : ∀ j u, l[j]? = some u → ∃ b off, p' = some ⟨b, off, none⟩ ∧ w.cell? ⟨b, off + j, none⟩ = some (.int .i64 u)) :
    Calls Tryz.prog 40 #[.slice p n cap, .slice p' n cap'] w fun e w' => e = .returned (.bool true) ∧ Ext w w' := by
  have HN := Lib.hid hn
  have HP := Lib.hid h
  have HP' := Lib.hid h'
  have hnI : (n : Int) ≤ 9223372036854775807 := by omega
  clear h h' hn
  go_enter Tryz.func40, Tryz.ntmps40
  go_wp2_with fail
  go_loopw [5] (fun ii wr => ∃ k : Nat, ii = .int .i64 (k : Int) ∧ k ≤ n ∧ Ext w wr) (fun ii _ => n - (intOf ii).toNat)
  case atStart => exact ⟨0, rfl, Nat.zero_le _, Ext.refl _⟩
  case round =>
    obtain ⟨k, rfl, hk, hext⟩ := hrel
    have HEX := Lib.hid hext
    clear hext
    by_cases hlt : k < n
    · obtain ⟨u, hu⟩ : ∃ u, l[k]? = some u := ⟨_, List.getElem?_eq_getElem (by have := HN.out; omega)⟩
      obtain ⟨b, off, rfl, c0⟩ := HP.out k u hu
      obtain ⟨b', off', rfl, c1⟩ := HP'.out k u hu
      have a0 := cell_ext c0 HEX.out
      have a1 := cell_ext c1 HEX.out
      have hg := World.block_lt_of_cell? _ _ a0
      have hg' := World.block_lt_of_cell? _ _ a1
      have hkI : (k : Int) < (n : Int) := by omega
      have hk0 : (0 : Int) ≤ (k : Int) := by omega
      have HLT := Lib.hid hlt
      clear hu hlt c0 c1
      go_wp2_with fail
      refine wp_region_grow 8 26 [false, false, false, false, false, false, false, false] (by kernel_rfl) (by kernel_rfl) rfl ?_
      simp only [List.take_succ_cons, List.take_zero, List.drop_succ_cons, List.drop_zero]
      repeat (refine Lex.step rfl ?_; intro K hK; unfold StepG; go_simp; (first
          | refine hK _ ?_); clear hK K)
      refine Lex.nil fun WW hE => ?_
      obtain ⟨dd, oo, rfl⟩ := hE
      unfold FillH
      go_wp2_with fail
      rw [ends_normal]
      go_wp2_with fail
      go_roundw
      case rel => exact ⟨k + 1, by go_num, by have := HLT.out; omega, by repeat (first | exact HEX.out | apply Ext.alloc | apply Ext.more | apply Ext.drewN)⟩
      case measure => have := HLT.out; simp [intOf]; omega
    · have hje : k = n := by omega
      subst hje
      clear hlt
      go_wp2_with fail
      go_ret
      exact ⟨rfl, HEX.out⟩
theorem ints_form {w : World} {v : Value} {l : List Int} (h : IntsAt w v l) : ∃ p cap, v = .slice p l.length cap ∧ ∀ j u, l[j]? = some u → ∃ b off, p = some ⟨b, off, none⟩ ∧ w.cell? ⟨b, off + j, none⟩ = some (.int .i64 u) := by
  rcases h with ⟨p, cap, rfl, rfl⟩ | ⟨b, off, cap, rfl, _, h⟩
  · exact ⟨p, cap, rfl, fun j u hj => by simp at hj⟩
  · exact ⟨_, cap, rfl, fun j u hj => ⟨b, off, rfl, h j u hj⟩⟩
theorem same12_any (v v' : Value) (l : List Int) (w : World) (hm : l.length ≤ 9223372036854775807) (h : IntsAt w v l) (h' : IntsAt w v' l) :
    Calls Tryz.prog 40 #[v, v'] w fun e w' => e = .returned (.bool true) ∧ Ext w w' := by
  obtain ⟨p, cap, rfl, hp⟩ := ints_form h
  obtain ⟨p', cap', rfl, hp'⟩ := ints_form h'
  exact same12_core p p' _ cap cap' l w rfl hm hp hp'
theorem wpList_load_rowG {P : Program} {ops : Array Oper} {rest : List Oper} {o : Oper} {a : Act} {w : World} {Q : Exit → Act → World → Prop} (hw : Region.wanted o (yielded ops a.tmps) = true) (ty : TypeId) (x : Operand) (ho : o.op = .load ty x)
    (g : Nat) (hx : a.eval x = .pointer (some ⟨g, 0, none⟩)) (t : TypeId) (cs : Array Value) (fr : Nat × Nat) (d : TypeDesc) (hg : w.heap[g]? = some (.cells cs t fr))
    (hu : P.underlying ty = some d) (hd : (match d with | .struct _ | .array _ _ => true | _ => false) = true) (hi : (P.info? ty).map (·.size) = some cs.size)
    (h : wpList P ops Q rest (a.put o.dst (.agg cs)) w) : wpList P ops Q (o :: rest) a w := by
  unfold wpList
  rw [if_pos hw]
  exact Or.inl (wp_load_row ty x ho g hx t cs fr d hg hu hd hi h)
/-! ### the examples -/
def aw2 : List ByteArray := [⟨#[48, 44]⟩, ⟨#[49,44,49,44,49,44,49,44,49,44,49,44,49,44,49,44,49,44,49,44,49,44,49,44,49,44,49,44,49,44,49,44]⟩]
theorem aw_root : rootT [] (tOf []) zeroV = (aw2, 2, List.replicate 16 1, 0) := by
  rw [tOf_nil]; unfold aw2; decide +kernel
theorem aw_leaves2 : leavesF aw2 2 = (some (List.replicate 16 1), 0) := by unfold aw2; decide +kernel
theorem aw_leaves1 : leavesF aw2 1 = (none, 3) := by unfold aw2; decide +kernel
theorem aw_chunks1 : rchunksF aw2 1 = (some (0, []), 0) := by unfold aw2; decide +kernel
theorem bkF_rep {l : List ByteArray} {n : Int} {p : Int × List It} (h : bkStep l n = (some p, 0)) : ∀ k, bkF l (List.replicate k n) = (some (List.replicate k p), 0)
  | 0 => rfl
  | k + 1 => by
    rw [List.replicate_succ, List.replicate_succ]
    unfold bkF
    rw [h, bkF_rep h k]
theorem leafOf_nil : leafOfF [] = ([], 0, 0) := by
  rw [leafOfF_ok (L := []) (n := 0) rfl (fun j d h => by omega)]
  rw [if_neg (by decide)]
  rfl
theorem aw_step : bkStep aw2 1 = (some (0, []), 0) := by
  have h : (leafOfF (([] : List ByteArray).map txt)).2.1 = 0 := by rw [List.map_nil, leafOf_nil]
  rw [bkStep_yes aw_chunks1 h]
  rw [List.map_nil, leafOf_nil]
theorem aw_back : backF aw2 2 = (tOf (List.replicate 16 (0, [])), vOf (List.replicate 16 (0, [])), 0) := by
  rw [backF_yes aw_leaves2, bkF_rep aw_step]
  unfold backQ
  simp only
  rw [if_pos (by decide +kernel)]
theorem aw_t : tOf (List.replicate 16 (0, [])) = tOf [] := by
  rw [tOf_nil]
  funext j
  unfold tOf
  rw [List.getElem?_replicate]
  split <;> rename_i h
  · split at h
    · simp at h; rw [← h]
    · cases h
  · rfl
theorem aw_v (v : Nat → Value) : trC v (vOf (List.replicate 16 (0, []))) = trC v zeroV := rfl
theorem nil_trunk : trunkB (tOf []) zeroV = true := by decide +kernel
set_option maxHeartbeats 2000000 in
theorem awake12_any (B0 : Nat) (w : World) (h0 : B0 ≤ w.heap.size) (hS : SignsAt B0 w) (hE : ErrsAt B0 w) (hP : Pow10 B0 w) :
    Calls Tryz.prog 38 #[] w fun e w' => e = .returned (.bool true) ∧ Below w.heap.size w w' := by
  have NC := Lib.hid (new_any w)
  have HS := Lib.hid hS
  have HE := Lib.hid hE
  have HP := Lib.hid hP
  clear hS hE hP
  go_enter Tryz.func38, Tryz.ntmps38
  go_wp2_with (first
    | (go_at_call 24; refine NC.out.mono ?_; rintro e w1 ⟨rfl, hT, hx⟩; have HX := Lib.hid hx; have RC := Lib.hid (rof_root _ _ _ _ [] (fun _ => 0) nilV (tOf []) zeroV B0 B0 w1 hT (HS.out.ext hx h0) h0 (HP.out.below hx.below h0) h0 (lvs_nil _ _) (lvty_nil _ _) nil_trunk (by decide) _ aw_root); have HT := Lib.hid hT; clear hT hx)
    | (refine wpList_buildTo rfl 29 #[] rfl _ rfl (trC nilV zeroV) (by kernel_rfl) ?_)
    | (go_at_call 37; refine RC.out.mono ?_; rintro e w2 ⟨lv, tv2, rfl, hown, hT2, hst⟩; have hb2 := HX.out.below.trans (hst.below HT.out); obtain ⟨g, cap, rfl, hgl, hc16, hcm, HA⟩ := ints_row (n := 16) rfl (by omega) hown; have h02 := Nat.le_trans h0 hb2.size; have BC := Lib.hid (back_any _ _ _ _ aw2 2 w2 hT2 (by decide) B0 B0 B0 (HS.out.below hb2 h0) h02 (HE.out.below hb2 h0) h02 (HP.out.below hb2 h0) h02); rw [aw_back] at BC; have LC := Lib.hid fun (W : World) (hx : Ext w2 W) => leaves_any _ _ _ _ aw2 1 W (hT2.ext hx) (by decide) B0 B0 (HE.out.below (hb2.trans (hx.below.mono hb2.size)) h0) (Nat.le_trans h02 hx.size) (HP.out.below (hb2.trans (hx.below.mono hb2.size)) h0) (Nat.le_trans h02 hx.size) _ aw_leaves1; have HB2 := Lib.hid hb2; clear hown hT2 hst hb2)
    | (go_at_call 46; refine BC.out.mono ?_; rintro e w3 ⟨bs, v, rfl, hl, hy, hx⟩; dsimp only; rw [aw_v v]; rw [aw_t] at hl; have HL3 := Lib.hid hl; have HX3 := Lib.hid hx; clear hl hy hx)
    | (refine wpList_store_rowTo rfl 29 _ _ rfl rfl w3.heap.size (trC v zeroV) rfl rfl 29 (trC nilV zeroV) (heap_alloc_new w3 _) (by kernel_rfl) rfl (trC_one _ _ HL3.out.one) ?_)
    | (go_at_call 42; have hx34 : Ext w2 ((w3.alloc (.cells (trC nilV zeroV) 29)).setRow w3.heap.size (trC v zeroV)) := (HX3.out.alloc _).setRow HX3.out.size _; have h4 : TrBlk ((w3.alloc (.cells (trC nilV zeroV) 29)).setRow w3.heap.size (trC v zeroV)) w3.heap.size v zeroV := TrBlk.setRow (v := nilV) (V := zeroV) (heap_alloc_new w3 _) v zeroV; have hx33 : Ext w3 ((w3.alloc (.cells (trC nilV zeroV) 29)).setRow w3.heap.size (trC v zeroV)) := ((Ext.refl w3).alloc _).setRow (Nat.le_refl _) _; refine (LC.out _ hx34).mono ?_; rintro e w5 ⟨rfl, hx5⟩; have HX5 := Lib.hid (hx34.trans hx5); have HB5 := Lib.hid (h4.ext hx5); have c0 := cell_ext (HA.out 0 1 rfl) HX5.out; have c15 := cell_ext (HA.out 15 1 rfl) HX5.out; have hg5 := World.block_lt_of_cell? _ _ c0; have SC := Lib.hid (tsame_any bs (fun _ => 0) v nilV (tOf []) zeroV w5 (HL3.out.ext (hx33.trans hx5)) (lvs_nil _ _) (fun k _ => by rw [tOf_nil]; simp)); clear hx34 h4 hx33 hx5)
    | (refine wpList_load_rowG rfl 29 _ rfl w3.heap.size rfl 29 (trC v zeroV) (0, 0) _ HB5.out Tryz.underlying29 rfl (by kernel_rfl) ?_)
    | (go_at_call 48; refine SC.out.mono ?_; rintro e w6 ⟨rfl, hx6⟩; have HX6 := Lib.hid hx6; clear hx6))
  go_ret
  exact ⟨rfl, HB2.out.trans ((HX5.out.trans HX6.out).below.mono HB2.out.size)⟩
end Go.Proofs.YtpchohjkelopoaaGreatDoor

set_option maxRecDepth 20000
namespace Go.Proofs.YtpchohjkelopoaaGreatDoor
open Go.RowKit
attribute [go_sem] more_more Array.size_append
/-- the laid tables, and errors -/
structure Env (B0 : Nat) (w : World) : Prop where
  size : B0 ≤ w.heap.size
  signs : SignsAt B0 w
  errs : ErrsAt B0 w
  pow : Pow10 B0 w
theorem Env.ext {B0 : Nat} {w w' : World} (h : Env B0 w) (hx : Ext w w') : Env B0 w' := ⟨Nat.le_trans h.size hx.size, h.signs.ext hx h.size, h.errs.below hx.below h.size, h.pow.below hx.below h.size⟩
theorem IntsAt.ext' {w w' : World} {v : Value} {l : List Int} (h : IntsAt w v l) (hx : Ext w w') : IntsAt w' v l := by
  rcases h with h | ⟨b, off, cap, h1, h2, h3⟩
  · exact Or.inl h
  · exact Or.inr ⟨b, off, cap, h1, h2, fun j u hj => cell_ext (h3 j u hj) hx⟩
theorem LeavesPost.uni {w w' : World} {e : Ending} {r : Option (List Int) × Int} (h : LeavesPost w w' e r) : ∃ v, e = .returned (.tuple #[v, .int .i64 r.2]) ∧ IntsAt w' v (r.1.getD []) ∧ Ext w w' := by
  obtain ⟨r1, er⟩ := r
  cases r1 with
  | none => obtain ⟨h1, h2⟩ := h; exact ⟨_, h1, Or.inl ⟨none, 0, rfl, rfl⟩, h2⟩
  | some x => obtain ⟨v, h1, h2, _, h3⟩ := h; exact ⟨v, h1, ints_own h2, h3⟩
def TextsIn (w : World) (p : Option Addr) (l : List ByteArray) : Prop := ∀ j u, l[j]? = some u → ∃ b off, p = some ⟨b, off, none⟩ ∧ w.cell? ⟨b, off + j, none⟩ = some (.string u)
theorem TextsIn.ext {w w' : World} {p : Option Addr} {l : List ByteArray} (h : TextsIn w p l) (hx : Ext w w') : TextsIn w' p l := fun j u hj => by
  obtain ⟨b, off, e, hc⟩ := h j u hj
  exact ⟨b, off, e, cell_ext hc hx⟩
theorem RChunksPost.uni {w w' : World} {e : Ending} {r : Option (Int × List ByteArray) × Int} (h : RChunksPost w w' e r) : ∃ p cap, e = .returned (.tuple #[.int .i64 (r.1.getD (0, [])).1, .slice p (r.1.getD (0, [])).2.length cap, .int .i64 r.2]) ∧ TextsIn w' p (r.1.getD (0, [])).2 ∧ (r.1.getD (0, [])).2.length ≤ 9223372036854775807 ∧ Ext w w' := by
  obtain ⟨r1, er⟩ := r
  cases r1 with
  | none => obtain ⟨h1, h2⟩ := h; exact ⟨_, _, h1, fun j u hj => by simp at hj, by simp, h2⟩
  | some x =>
    obtain ⟨v, h1, h2, h3⟩ := h
    have hm := own_maxl h2
    obtain ⟨p, cap, rfl, _, hc⟩ := own_texts h2
    exact ⟨p, cap, h1, hc, hm, h3⟩
theorem leavesF_len (l : List ByteArray) (n : Int) : ((leavesF l n).1.getD []).length ≤ 9223372036854775807 := by
  have := leavesF_err (l := l) (n := n)
  revert this
  cases leavesF l n with
  | mk a b => cases a with
    | none => intro _; simp
    | some x => intro h; simp at h ⊢; omega
theorem backF_len (l : List ByteArray) (n : Int) : ∀ k, k < 16 → ((backF l n).1 k).length ≤ 9223372036854775807 := by
  intro k hk
  unfold backF
  split
  · rw [tOf_nil]; simp
  · split
    · rw [tOf_nil]; simp
    · split
      · next h =>
        have := (leafB_may (fits_parts (trunk_fits h k hk)).1).1
        exact Nat.le_trans this (by decide)
      · rw [tOf_nil]; simp
set_option maxHeartbeats 4000000 in
theorem rootreads_walk (B0 : Nat) (v : Value) (ts : List ByteArray) (n : Int) (w : World) (hv : StrsAt w v ts) (hs : ∀ s ∈ ts, s.size ≤ 140737488351232) (he : Env B0 w) :
    Calls Tryz.prog 7 #[v, .int .i64 n] w fun e w' => e = .returned (.bool true) ∧ Ext w w' := by
  have TC := Lib.hid (table12_any v ts w hv hs)
  have hformv : ∃ p n cap, v = .slice p n cap := by
    rcases hv with ⟨p, cap, rfl, _⟩ | ⟨b, off, cap, rfl, _⟩
    · exact ⟨_, _, _, rfl⟩
    · exact ⟨_, _, _, rfl⟩
  obtain ⟨p0, n0, c0, rfl⟩ := hformv
  have HE := Lib.hid he
  obtain ⟨l, hl⟩ : ∃ l, tabF 60 ts = l := ⟨_, rfl⟩
  have hsz : ∀ s ∈ l, s.size ≤ 600 := by rw [← hl]; exact tabF_sz 60 ts
  have hln : l.length ≤ 60 := by rw [← hl]; exact tabF_len 60 ts
  have HSZ := Lib.hid hsz
  unfold TablePost at TC
  rw [hl] at TC
  obtain ⟨R1, hR1⟩ : ∃ r, leavesF l n = r := ⟨_, rfl⟩
  obtain ⟨R2, hR2⟩ : ∃ r, rchunksF l n = r := ⟨_, rfl⟩
  obtain ⟨R3, hR3⟩ : ∃ r, backF l n = r := ⟨_, rfl⟩
  have hl1 := leavesF_len l n
  have hl3 := backF_len l n
  rw [hR1] at hl1
  rw [hR3] at hl3
  have HR := Lib.hid (And.intro hR1 (And.intro hR2 hR3))
  obtain ⟨r1a, r1e⟩ := R1
  obtain ⟨r2a, r2e⟩ := R2
  obtain ⟨T3, V3, r3e⟩ := R3
  have HL3 := Lib.hid hl3
  have HL1 := Lib.hid hl1
  clear hv hs he hl hsz hR1 hR2 hR3 hl1 hl3
  obtain ⟨x1, hx1⟩ : ∃ x1, r1a.getD [] = x1 := ⟨_, rfl⟩
  obtain ⟨x2, hx2⟩ : ∃ x2, (r2a.getD (0, [])).2 = x2 := ⟨_, rfl⟩
  obtain ⟨z2, hz2⟩ : ∃ z2, (r2a.getD (0, [])).1 = z2 := ⟨_, rfl⟩
  have HX := Lib.hid (And.intro hx1 (And.intro hx2 hz2))
  clear hx1 hx2 hz2
  obtain ⟨m2, hm2⟩ : ∃ m2, x2.length = m2 := ⟨_, rfl⟩
  have HM2 := Lib.hid hm2
  clear hm2
  go_enter Tryz.func7, Tryz.ntmps7
  go_wp2_with (first
    | (go_at_call 33; refine TC.out.mono ?_; rintro e w1 ⟨bt, bm, tv, lv, rfl, hB, hb⟩; have HX1 := Lib.hid (Ext.of_below hb); have hE1 := HE.out.ext HX1.out; have HE1 := Lib.hid hE1; have hs6 : ∀ s ∈ l, s.size ≤ 1000000 := fun s hs => Nat.le_trans (HSZ.out s hs) (by decide); have hs5 : ∀ s ∈ l, s.size ≤ 100000 := fun s hs => Nat.le_trans (HSZ.out s hs) (by decide); have hl9 : l.length ≤ 1000000000 := (by omega); have LC := Lib.hid fun (W : World) (hx : Ext w1 W) => (leaves_any _ _ _ _ l n W (hB.1.ext hx) hs6 B0 B0 (hE1.ext hx).errs (hE1.ext hx).size (hE1.ext hx).pow (hE1.ext hx).size _ HR.out.1).mono fun e w' h => LeavesPost.uni h; have LR := Lib.hid fun (W : World) (hx : Ext w1 W) => (rleaves_any _ lv l n W (own_ext hB.2.1 hx) hl9 hs6 _ HR.out.1).mono fun e w' h => LeavesPost.uni h; have CC := Lib.hid fun (W : World) (hx : Ext w1 W) => (rootchunks_any _ _ _ _ l n W (hB.1.ext hx) hs6 B0 B0 (hE1.ext hx).errs (hE1.ext hx).size (hE1.ext hx).pow (hE1.ext hx).size).mono fun e w' h => RChunksPost.uni h; have CR := Lib.hid fun (W : World) (hx : Ext w1 W) => (drchunks_any _ lv l n W (own_ext hB.2.1 hx) hl9 hs6).mono fun e w' h => RChunksPost.uni h; rw [HR.out.2.1] at CC CR; have BC := Lib.hid fun (W : World) (hx : Ext w1 W) => back_any _ _ _ _ l n W (hB.1.ext hx) hs5 B0 B0 B0 (hE1.ext hx).signs (hE1.ext hx).size (hE1.ext hx).errs (hE1.ext hx).size (hE1.ext hx).pow (hE1.ext hx).size; have BR := Lib.hid fun (W : World) (hx : Ext w1 W) => dback_any _ lv l n W (own_ext hB.2.1 hx) hl9 hs5; rw [HR.out.2.2] at BC BR; have NC := Lib.hid fun (W : World) (hx : Ext w1 W) => count_any _ _ _ _ l W (hB.1.ext hx); obtain ⟨pl, cl, rfl, _, _⟩ := own_texts hB.2.1; dsimp only at LC LR CC CR; rw [HX.out.1] at LC LR; rw [HX.out.2.1, HX.out.2.2] at CC CR; rw [HM2.out] at CC CR; clear hB hb hE1 hs6 hs5 hl9)
    | (go_at_call 42; refine (LC.out _ (Ext.refl _)).mono ?_; rintro e w2 ⟨av, rfl, ha, hx⟩; have HA := Lib.hid ha; have HX2 := Lib.hid hx; clear ha hx)
    | (go_at_call 43; refine (LR.out _ HX2.out).mono ?_; rintro e w3 ⟨bv, rfl, hb, hx⟩; have HA3 := Lib.hid (HA.out.ext' hx); have HB3 := Lib.hid hb; have HX3 := Lib.hid (HX2.out.trans hx); clear hb hx)
    | (go_at_call 44; refine (CC.out _ HX3.out).mono ?_; rintro e w4 ⟨pc, cc, rfl, hc, hm, hx⟩; have HC4 := Lib.hid hc; have HM4 := hm; have HX34 := Lib.hid hx; clear hc hx hm)
    | (go_at_call 45; refine (CR.out _ (HX3.out.trans HX34.out)).mono ?_; rintro e w5 ⟨pd, cd, rfl, hd, _, hx⟩; have HD5 := Lib.hid hd; have HC5 := Lib.hid (HC4.out.ext hx); have HX35 := Lib.hid (HX34.out.trans hx); clear hd hx)
    | (go_at_call 46; refine (BC.out _ (HX3.out.trans HX35.out)).mono ?_; rintro e w6 ⟨bs6, v6, rfl, h6, _, hx⟩; have H6 := Lib.hid h6; have HX56 := Lib.hid hx; clear h6 hx)
    | (refine wpList_store_rowTo rfl 29 _ _ rfl rfl w6.heap.size (trC v6 V3) rfl rfl 29 (trC nilV zeroV) (heap_alloc_new w6 _) (by kernel_rfl) rfl (trC_one _ _ H6.out.one) ?_)
    | (go_at_call 47; have hx67 : Ext w6 ((w6.alloc (.cells (trC nilV zeroV) 29)).setRow w6.heap.size (trC v6 V3)) := ((Ext.refl w6).alloc _).setRow (Nat.le_refl _) _; have h67 : TrBlk ((w6.alloc (.cells (trC nilV zeroV) 29)).setRow w6.heap.size (trC v6 V3)) w6.heap.size v6 V3 := TrBlk.setRow (v := nilV) (V := zeroV) (heap_alloc_new w6 _) v6 V3; refine (BR.out _ (((HX3.out.trans HX35.out).trans HX56.out).trans hx67)).mono ?_; rintro e w7 ⟨bs7, v7, rfl, h7, _, hx⟩; have H7 := Lib.hid h7; have HX67 := Lib.hid (hx67.trans hx); have HT7 := Lib.hid (h67.ext hx); clear h7 hx hx67 h67)
    | (refine wpList_store_rowTo rfl 29 _ _ rfl rfl w7.heap.size (trC v7 V3) rfl rfl 29 (trC nilV zeroV) (heap_alloc_new w7 _) (by kernel_rfl) rfl (trC_one _ _ H7.out.one) ?_)
    | (go_at_call 40; have hx78 : Ext w7 ((w7.alloc (.cells (trC nilV zeroV) 29)).setRow w7.heap.size (trC v7 V3)) := ((Ext.refl w7).alloc _).setRow (Nat.le_refl _) _; have h78 : TrBlk ((w7.alloc (.cells (trC nilV zeroV) 29)).setRow w7.heap.size (trC v7 V3)) w7.heap.size v7 V3 := TrBlk.setRow (v := nilV) (V := zeroV) (heap_alloc_new w7 _) v7 V3; have hx38 := ((HX35.out.trans HX56.out).trans HX67.out).trans hx78; refine (same12_any _ _ _ _ HL1.out (by rw [HX.out.1]; exact HA3.out.ext' hx38) (by rw [HX.out.1]; exact HB3.out.ext' hx38)).mono ?_; rintro e w8 ⟨rfl, hx⟩; have HX78 := Lib.hid (hx78.trans hx); have HT8 := Lib.hid (h78.ext hx); have HT7' := Lib.hid (HT7.out.ext (hx78.trans hx)); clear hx78 h78 hx38 hx)
    | (refine wpList_load_rowG rfl 29 _ rfl w6.heap.size rfl 29 (trC v6 V3) (0, 0) _ HT7'.out Tryz.underlying29 rfl (by kernel_rfl) ?_)
    | (refine wpList_load_rowG rfl 29 _ rfl w7.heap.size rfl 29 (trC v7 V3) (0, 0) _ HT8.out Tryz.underlying29 rfl (by kernel_rfl) ?_)
    | (go_at_call 48; refine (tsame_any bs6 bs7 v6 v7 T3 V3 w8 (H6.out.ext (HX67.out.trans HX78.out)) (H7.out.ext HX78.out) HL3.out).mono ?_; rintro e w9 ⟨rfl, hx⟩; have HX59 := Lib.hid (((HX56.out.trans HX67.out).trans HX78.out).trans hx); have HX9 := Lib.hid ((HX3.out.trans HX35.out).trans HX59.out); have HC9 := Lib.hid (HC5.out.ext HX59.out); have HD9 := Lib.hid (HD5.out.ext HX59.out); clear hx))
  have hmI : (m2 : Int) ≤ 9223372036854775807 := by omega
  go_loopw [21] (fun ii wr => ∃ k : Nat, ii = .int .i64 (k : Int) ∧ k ≤ m2 ∧ Ext w9 wr) (fun ii _ => m2 - (intOf ii).toNat)
  case atStart => exact ⟨0, rfl, Nat.zero_le _, Ext.refl _⟩
  case round =>
    obtain ⟨k, rfl, hk, hext⟩ := hrel
    have HEX := Lib.hid hext
    clear hext
    by_cases hlt : k < m2
    · obtain ⟨u, hu⟩ : ∃ u, x2[k]? = some u := ⟨_, List.getElem?_eq_getElem (by have := HM2.out; omega)⟩
      obtain ⟨b, off, rfl, c1⟩ := HC9.out k u hu
      obtain ⟨b', off', rfl, c2⟩ := HD9.out k u hu
      have a1 := cell_ext c1 HEX.out
      have a2 := cell_ext c2 HEX.out
      have hg := World.block_lt_of_cell? _ _ a1
      have hg' := World.block_lt_of_cell? _ _ a2
      have hkI : (k : Int) < (m2 : Int) := by omega
      have hk0 : (0 : Int) ≤ (k : Int) := by omega
      have HLT := Lib.hid hlt
      clear hu hlt c1 c2
      go_wp2_with fail
      refine wp_region_grow 8 127 [false, false, false, false, false, false, false, false] (by kernel_rfl) (by kernel_rfl) rfl ?_
      simp only [List.take_succ_cons, List.take_zero, List.drop_succ_cons, List.drop_zero]
      repeat (refine Lex.step rfl ?_; intro K hK; unfold StepG; go_simp; (first
          | refine hK _ ?_); clear hK K)
      refine Lex.nil fun WW hE => ?_
      obtain ⟨dd, oo, rfl⟩ := hE
      unfold FillH
      go_wp2_with fail
      rw [ends_normal]
      go_wp2_with fail
      go_roundw
      case rel => exact ⟨k + 1, by go_num, by have := HLT.out; omega, by repeat (first | exact HEX.out | apply Ext.alloc | apply Ext.more | apply Ext.drewN)⟩
      case measure => have := HLT.out; simp [intOf]; omega
    · have hje : k = m2 := by omega
      subst hje
      have hx1 := HX9.out.trans HEX.out
      have NC1 := Lib.hid (NC.out _ hx1)
      have he1 := HE1.out.ext hx1
      have AC := Lib.hid (awake12_any B0 wr he1.size he1.signs he1.errs he1.pow)
      have HXE := Lib.hid ((HX1.out.trans hx1))
      clear hx1 he1 hlt
      go_wp2_with (first
        | (go_at_call 31; refine NC1.out.mono ?_; rintro e _ ⟨rfl, rfl⟩)
        | (go_at_call 38; refine AC.out.mono ?_; rintro e wz ⟨rfl, hbz⟩; have HBZ := Lib.hid (Ext.of_below hbz); clear hbz))
      go_ret
      exact ⟨rfl, HXE.out.trans HBZ.out⟩
end Go.Proofs.YtpchohjkelopoaaGreatDoor

set_option maxRecDepth 100000
namespace Go.Proofs.YtpchohjkelopoaaGreatDoor
open Go.RowKit
open Go.ChangeShapes Go.WideShapes Go.ChangeAt Go.Joins
theorem strCells1 : Tryz.prog.cellsOf 9 = 1 := by kernel_rfl
theorem weightsAll_mem {H : Type} {P : Program} {e : TypeId} {d : DataW H} {n : Nat} (hn : n ∈ d.weights P e) : ∀ (ds : List (DataW H)), d ∈ ds → n ∈ DataW.weightsAll P e ds
  | [], h => by simp at h
  | x :: ds, h => by
    simp only [DataW.weightsAll, List.mem_append]
    rcases List.mem_cons.1 h with rfl | h
    · exact Or.inl hn
    · exact Or.inr (weightsAll_mem hn ds h)
theorem open_strsR {H : Type} {enc : TypeId × Value → H} {W : World} {base : Nat} {t : TypeId} (ht : Tryz.prog.underlying t = some (.slice 9)) {ts : List TypeId} {ds : List (DataW H)} {j : Nat} {v : Value} {d : DataW H} {p : List MemPlace}
    (hval : Value.okWide Tryz.prog W .any base t v) (hd : DataW.Trod enc Tryz.prog W 0 (fun _ => true) true t v d p) (hs : (DataW.weightsEach Tryz.prog ts ds).all (· ≤ reachBytes) = true) (htj : ts[j]? = some t) (hdj : ds[j]? = some d) :
    ∃ l, StrsAt W v l ∧ ∀ s ∈ l, s.size ≤ 140737488351232 := by
  obtain ⟨a1, len, cap, rfl⟩ := okWide_slice ht hval
  obtain ⟨fuel, hf⟩ := hd
  rcases Deep.open_strs ht Tryz.underlying9 strCells1 hf with ⟨hcs, hx⟩ | ⟨a, len', cap', m, Sx, hcs, _, hl, hm, hmm, hx, hcell⟩
  · simp [Value.cells] at hcs
    obtain ⟨rfl, rfl, rfl⟩ := hcs
    exact ⟨[], Or.inl ⟨none, 0, rfl, rfl⟩, fun u hu => by simp at hu⟩
  · simp [Value.cells] at hcs
    obtain ⟨rfl, rfl, rfl⟩ := hcs
    simp only [if_true] at hmm
    subst hmm
    simp only [Prod.mk.injEq] at hx
    obtain ⟨rfl, rfl⟩ := hx
    rcases Nat.eq_zero_or_pos len with h0 | h0
    · subst h0
      exact ⟨[], Or.inl ⟨some a, m, rfl, rfl⟩, fun u hu => by simp at hu⟩
    · obtain ⟨ab, ao, spot⟩ := a
      have hspot : spot = none := by simpa [Addr.add] using World.cell?_spot (hcell 0 (by omega)).1
      subst hspot
      refine ⟨(List.range len).map Sx, Or.inr ⟨ab, ao, m, by simp, by simpa using hl, fun i u hi => ?_⟩, fun s hs2 => ?_⟩
      · simp only [List.getElem?_map, Option.map_eq_some_iff] at hi
        obtain ⟨z, hz, rfl⟩ := hi
        obtain ⟨hz1, hz2⟩ := List.getElem?_eq_some_iff.1 hz
        simp at hz1 hz2
        subst hz2
        have := (hcell i (by omega)).1
        rw [Addr.add_lit] at this
        exact this
      · obtain ⟨i, hi, rfl⟩ := List.mem_map.1 hs2
        have hmem := List.all_eq_true.1 hs _ (DataW.weights_mem_each htj hdj ((Sx i).data.toList.length) (by
          simp only [DataW.weights, ht, List.mem_cons, List.mem_append]
          refine Or.inr (Or.inl (weightsAll_mem (d := .lit (.string (Sx i).data.toList)) (by simp [DataW.weights]) _ ?_))
          exact List.mem_map.2 ⟨i, hi, rfl⟩))
        have e : reachBytes = 140737488351232 := by decide
        rw [e] at hmem
        simpa using hmem
theorem star : "*" ++ "errors.errorString" = "*errors.errorString" := by decide
theorem errRow (u : TypeId) (h : Tryz.prog.typeName? 3 u = some "*errors.errorString") : u = 254 :=
  typeName_ptr_named (nm := "errors.errorString") (by rw [star]; kernel_rfl) (by kernel_rfl) (by decide) u (by rw [star]; exact h)
theorem laid_err {n : String} {text : List UInt8} {r : List (String × DataW Unit)} {W : World} {g : Nat} (h : laidMet Tryz.prog ((n, .iface "*errors.errorString" (.ptr (.agg [.lit (.string text)]))) :: r) W)
    (hg : Tryz.prog.globalNamed n = some g) (ht : (Tryz.prog.globals[g]?).map (·.type) = some 174) : ∃ te pe, W.cell? ⟨g, 0, none⟩ = some (.iface te pe) := by
  obtain ⟨a, s, hv, _⟩ := laid_sentinel h hg ht Tryz.underlying174 errRow Tryz.underlying254 Tryz.underlying256 rfl rfl Tryz.underlying9 (by kernel_rfl) (by kernel_rfl)
  exact ⟨_, _, by simpa using World.var?_cell hg hv 0⟩
/-- the laid table of powers -/
theorem pow_of {r : List (String × DataW Unit)} {W : World} (h3 : laidMet Tryz.prog (("internal/strconv.uint64pow10", Rows.laid_internal_strconv_uint64pow10) :: r) W) : Pow10 W.heap.size W := by
  have hg : Tryz.prog.globalNamed "internal/strconv.uint64pow10" = some 4 := by kernel_rfl
  have hgt : (Tryz.prog.globals[4]?).map (·.type) = some 258 := by kernel_rfl
  have t := Lib.tabIs_of_head (k := .u64) (zs := Lib.pow10Tab) hg hgt Tryz.underlying258 Tryz.underlying191 (by kernel_rfl) (by kernel_rfl) h3
  refine ⟨⟨4, hg, ?_⟩, t⟩
  unfold Lib.TabIs World.var? at t
  rw [hg] at t
  simp only [Option.bind_some] at t
  rcases Nat.lt_or_ge 4 W.heap.size with h | h
  · exact h
  · rw [Array.getElem?_eq_none h] at t; cases t
/-- the laid table of signs -/
theorem signs_of {r : List (String × DataW Unit)} {W : World} (h : laidMet Tryz.prog (("plenum/key.signs", Rows.laid_plenum_key_signs) :: r) W) : SignsAt W.heap.size W := by
  have hg : Tryz.prog.globalNamed "plenum/key.signs" = some 3 := by kernel_rfl
  have hgt : (Tryz.prog.globals[3]?).map (·.type) = some 249 := by kernel_rfl
  have t := Lib.tabIs_of_head (k := .u64) (zs := [288195191779622912, 576460745860972544]) hg hgt Tryz.underlying249 Tryz.underlying191 (by kernel_rfl) (by kernel_rfl) h
  have c0 := t.cell hg 0 (by decide)
  have c1 := t.cell hg 1 (by decide)
  exact ⟨World.block_lt_of_cell? _ _ c0, c0, c1⟩
/-- what the condition gives -/
theorem env_of_laid {W : World} (h : laidMetH Tryz.prog Rows.rootReadsRow.laid W) : Env W.heap.size W := by
  rw [MakeChecks.laidMetH_plain _ _ _ (by kernel_rfl)] at h
  have h3 := laidMet.tail (laidMet.tail h)
  have h4 := laidMet.tail h3
  have h5 := laidMet.tail h4
  have h6 := laidMet.tail h5
  obtain ⟨t2, p2, c2⟩ := laid_err (g := 2) h4 (by kernel_rfl) (by kernel_rfl)
  obtain ⟨t1, p1, c1⟩ := laid_err (g := 1) h5 (by kernel_rfl) (by kernel_rfl)
  exact ⟨Nat.le_refl _, signs_of h6, ⟨World.block_lt_of_cell? _ _ c2, ⟨t1, p1, c1⟩, ⟨t2, p2, c2⟩⟩, pow_of h3⟩
theorem door_met (os : Os) (args : Array Value) : laidMetH Tryz.prog Rows.rootReadsRow.laid ((World.doorLaid Tryz.prog 67 os).forCall (fun _ _ => 0) ⟨#[], args, []⟩).memory :=
  laidMetH_of_parts3 (fuel := 8) (laidMet_of_run' 8 (by kernel_rfl) (by kernel_rfl)) (by kernel_rfl) (by kernel_rfl)
end Go.Proofs.YtpchohjkelopoaaGreatDoor
