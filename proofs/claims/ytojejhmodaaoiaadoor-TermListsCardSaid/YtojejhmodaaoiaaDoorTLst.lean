/- TermLists: two lists have one number just if they are the same. The row lists strconv's and math/bits' tables. -/
import Derived.Test.YtojejhmodaaoiaaDoorTmR
import Derived.Test.YtojejhmodaaoiaaDoorTie
import Derived.Test.YtojejhmodaaoiaaDoorCards
set_option linter.unusedSimpArgs false
set_option linter.unusedVariables false
namespace Go.Proofs.YtojejhmodaaoiaaDoor
open Go.RowKit

attribute [go_sem] more_more Array.size_append
theorem IntsAt.form {w : World} {v : Value} {l : List Int} (h : IntsAt w v l) : ∃ p cap, v = .slice p l.length cap ∧ l.length ≤ cap ∧ ∀ j u, l[j]? = some u → ∃ b off, p = some ⟨b, off, none⟩ ∧ w.cell? ⟨b, off + j, none⟩ = some (.int .i64 u) := by
  rcases h with ⟨p, cap, rfl, rfl⟩ | ⟨b, off, cap, rfl, h1, h2⟩
  · exact ⟨p, cap, rfl, Nat.zero_le _, fun j u hj => by simp at hj⟩
  · exact ⟨_, cap, rfl, h1, fun j u hj => ⟨b, off, rfl, h2 j u hj⟩⟩
theorem cell_lt {w : World} {a : Addr} {v : Value} (h : w.cell? a = some v) : a.block < w.heap.size := by
  rcases Nat.lt_or_ge a.block w.heap.size with h' | h'
  · exact h'
  · simp [World.cell?, Array.getElem?_eq_none h'] at h
theorem IntsAt.below {w w' : World} {v : Value} {l : List Int} (h : IntsAt w v l) (hb : Below w.heap.size w w') : IntsAt w' v l := by
  rcases h with h | ⟨b, off, cap, h0, h1, h2⟩
  · exact Or.inl h
  · refine Or.inr ⟨b, off, cap, h0, h1, fun j u hj => ?_⟩
    have hc := h2 j u hj
    rw [hb.cell (p := ⟨b, off + j, none⟩) (cell_lt hc)]
    exact hc
theorem take_eq_snoc (l m : List Int) (k : Nat) (u v : Int) (h1 : l[k]? = some u) (h2 : m[k]? = some v) : (l.take (k + 1) = m.take (k + 1)) = (l.take k = m.take k ∧ u = v) := by
  rw [List.take_add_one, List.take_add_one, h1, h2]
  simp only [Option.toList_some, eq_iff_iff]
  have hl : (l.take k).length = (m.take k).length := by
    have a := (List.getElem?_eq_some_iff.1 h1).1
    have b := (List.getElem?_eq_some_iff.1 h2).1
    simp; omega
  constructor
  · intro h
    have := List.append_inj h hl
    exact ⟨this.1, by simpa using this.2⟩
  · rintro ⟨h3, rfl⟩
    rw [h3]

set_option maxHeartbeats 4000000 in
set_option maxRecDepth 20000 in
theorem tl_core (p1 p2 q1 q2 : Option Addr) (x1 x2 y1 y2 n1 n2 c1 c2 : Nat) (l1 l2 : List Int) (hn1 : l1.length = n1) (hn2 : l2.length = n2) (hl1 : n1 ≤ 60) (hl2 : n2 ≤ 60) (h64a : In64L l1) (h64b : In64L l2) (w : World)
    (F1 : RowKit.Hid (Calls Tryd.prog 10 #[.slice q1 x1 y1] w fun e w' => e = .returned (.slice p1 n1 c1) ∧ w = w')) (F2 : RowKit.Hid (Calls Tryd.prog 10 #[.slice q2 x2 y2] w fun e w' => e = .returned (.slice p2 n2 c2) ∧ w = w'))
    (h1 : IntsAt w (.slice p1 n1 c1) l1) (h2 : IntsAt w (.slice p2 n2 c2) l2) (sm : Bool) (hsm : sm = decide (l1 = l2)) (PB : Nat) (hP : Pow10 PB w) (hpg : PB ≤ w.heap.size) :
    Calls Tryd.prog 4 #[.slice q1 x1 y1, .slice q2 x2 y2] w fun e w' => e = .returned (.bool true) ∧ Ext w w' := by
  have HP := Lib.hid hP
  have H1 := Lib.hid h1
  have H2 := Lib.hid h2
  have HA := Lib.hid h64a
  have HB := Lib.hid h64b
  have HN1 := Lib.hid hn1
  have HN2 := Lib.hid hn2
  have HSM := Lib.hid hsm
  obtain ⟨y, l', hy, hr2⟩ : ∃ (y : Nat) (l' : List ByteArray), y = (if sm then 1 else 2) ∧ ofF [⟨(digF l1).toArray⟩] ⟨(digF l2).toArray⟩ = (l', y, 0) := by
    by_cases e : l1 = l2
    · exact ⟨1, _, by rw [hsm]; simp [e], (of_two _ _).2.1 (by rw [e])⟩
    · exact ⟨2, _, by rw [hsm]; simp [e], (of_two _ _).2.2 (fun h => e (dig_ba _ _ h))⟩
  have HR1 := Lib.hid ((of_two ⟨(digF l1).toArray⟩ ⟨(digF l2).toArray⟩).1)
  have HR2 := Lib.hid hr2
  have hl1' : (n1 : Int) ≤ 60 := by omega
  have hl2' : (n2 : Int) ≤ 60 := by omega
  have HY := Lib.hid hy
  clear hP h1 h2 h64a h64b hn1 hn2 hsm hy hr2
  go_enter Tryd.func4, Tryd.ntmps4
  go_wp2_with (first
    | (go_at_call 10; (with_reducible refine F1.out.mono ?_); rintro e _ ⟨rfl, rfl⟩)
    | (go_at_call 10; (with_reducible refine F2.out.mono ?_); rintro e _ ⟨rfl, rfl⟩)
    | (go_at_call 6; refine (new_any _).mono ?_; rintro e w1 ⟨rfl, hT1, hx1⟩; have T1 := Lib.hid hT1; have X1 := Lib.hid hx1.below; clear hT1 hx1))
  refine (list_r (B := w.heap.size) (bm := w.heap.size) (by rw [HN1.out]; exact hl1) HA.out HR1.out _ (H1.out.below X1.out) PB (HP.out.below X1.out hpg) (by have := X1.out.size; omega) T1.out).mono ?_
  rintro e w2 ⟨rfl, ⟨tv2, hT⟩, hx⟩; have T2 := Lib.hid hT; have X2 := Lib.hid (X1.out.trans hx); clear hT hx
  go_wp2_with fail
  refine (list_r (B := w.heap.size) (bm := w.heap.size) (by rw [HN2.out]; exact hl2) HB.out HR2.out _ (H2.out.below X2.out) PB (HP.out.below X2.out hpg) (by have := X2.out.size; omega) T2.out).mono ?_
  rintro e w3 ⟨rfl, ⟨tv3, hT⟩, hx⟩; have X3 := Lib.hid (X2.out.trans hx); clear hT hx
  go_wp2_with fail
  clear F1 F2 T1 T2 X1 X2
  go_loopw [10, 11] (fun sv ii wr => ∃ (k : Nat) (b : Bool) (d : Nat) (os : Array Obj), ii = .int .i64 (k : Int) ∧ sv = .bool b ∧ k ≤ n1 ∧ b = decide (n1 = n2 ∧ l1.take k = l2.take k) ∧ wr = more w3 d os) (fun _ ii _ => n1 - (intOf ii).toNat)
  case atStart => exact ⟨0, decide (n1 = n2), w3.drawn, #[], rfl, by first | rfl | exact congrArg Value.bool (by rw [Bool.eq_iff_iff]; simp; omega) | (rw [Bool.eq_iff_iff]; simp; omega), Nat.zero_le _, by simp, by simp [more]⟩
  case round =>
    obtain ⟨k, b, d0, os0, rfl, rfl, hk, hb, rfl⟩ := hrel
    have HB2 := Lib.hid hb
    clear hb
    cases b
    · have hsf : sm = false := by
        rw [HSM.out]
        have := HB2.out
        rcases Nat.decEq n1 n2 with hne | he
        · simp; intro e; apply hne; rw [← HN1.out, ← HN2.out, e]
        · simp only [he, true_and] at this
          have h3 := of_decide_eq_false this.symm
          simp; intro e; exact h3 (by rw [e])
      subst hsf
      have hy2 : y = 2 := HY.out
      subst hy2
      have HPW := Lib.hid (HP.out.below X3.out hpg)
      have hsz3 := X3.out.size
      go_wp2_with (go_at_call 9; refine (awake_any PB _ (HPW.out.below ((Ext.refl _).more _ _).below (by omega)) (by rw [more_size]; omega)).mono ?_; rintro e _ ⟨rfl, d, os, rfl⟩)
      all_goals go_ret
      all_goals exact ⟨rfl, (Ext.of_below X3.out).trans (by repeat (first | exact Ext.refl _ | apply Ext.alloc | apply Ext.more))⟩
    · by_cases hlt : k < n1
      · have hb2 : n1 = n2 ∧ l1.take k = l2.take k := of_decide_eq_true HB2.out.symm
        obtain ⟨hnn, htk⟩ := hb2
        obtain ⟨u1, hu1⟩ : ∃ u, l1[k]? = some u := ⟨_, List.getElem?_eq_getElem (by have := HN1.out; omega)⟩
        obtain ⟨u2, hu2⟩ : ∃ u, l2[k]? = some u := ⟨_, List.getElem?_eq_getElem (by have := HN2.out; omega)⟩
        have HS := Lib.hid (take_eq_snoc l1 l2 k u1 u2 hu1 hu2)
        obtain ⟨p1', c1', e1, _, g1⟩ := (H1.out.below X3.out).form
        obtain ⟨p2', c2', e2, _, g2⟩ := (H2.out.below X3.out).form
        obtain ⟨b1, o1, rfl, ca⟩ := g1 k u1 hu1
        obtain ⟨b2, o2, rfl, cb⟩ := g2 k u2 hu2
        simp only [Value.slice.injEq] at e1 e2
        obtain ⟨rfl, e1a, e1b⟩ := e1
        obtain ⟨rfl, e2a, e2b⟩ := e2
        clear e1a e1b e2a e2b
        have hcb1 := cell_lt ca
        have hcb2 := cell_lt cb
        have HTK := Lib.hid (And.intro hnn htk)
        have hlt2 : (k : Int) < n1 := by omega
        have hlt3 : (k : Int) < n2 := by omega
        clear hu1 hu2 g1 g2 hnn htk
        go_wp2_with fail
        refine wp_region_grow 10 70 [false, false, false, false, false, false, false, false, false, false] (by kernel_rfl) (by kernel_rfl) rfl ?_
        simp only [List.take_succ_cons, List.take_zero, List.drop_succ_cons, List.drop_zero]
        repeat (refine Lex.step rfl ?_; intro K hK; unfold StepG; go_simp; (first
            | refine hK _ ?_); clear hK K)
        refine Lex.nil fun WW hE => ?_
        obtain ⟨dd, oo, rfl⟩ := hE
        unfold FillH
        go_wp2_with fail
        rw [ends_normal]
        go_wp2_with fail
        go_roundw
        case rel =>
          refine ⟨k + 1, (u1 == u2), _, _, by go_num, by first | rfl | trivial, by omega, ?_, rfl⟩
          have hs := HS.out
          obtain ⟨hnn, htk⟩ := HTK.out
          have key : (n1 = n2 ∧ l1.take (k + 1) = l2.take (k + 1)) ↔ u1 = u2 := by rw [hs]; exact ⟨fun h => h.2.2, fun h => ⟨hnn, htk, h⟩⟩
          rw [Bool.eq_iff_iff]
          simp only [beq_iff_eq, decide_eq_true_eq]
          exact key.symm
        case measure => simp [intOf]; omega
      · have hkn : k = n1 := by omega
        have hb2 : n1 = n2 ∧ l1.take k = l2.take k := of_decide_eq_true HB2.out.symm
        have hst : sm = true := by
          rw [HSM.out]
          obtain ⟨hnn, htk⟩ := hb2
          rw [List.take_of_length_le (by rw [HN1.out]; omega), List.take_of_length_le (by rw [HN2.out]; omega)] at htk
          simp [htk]
        subst hst
        have hy2 : y = 1 := HY.out
        subst hy2
        subst hkn
        clear hb2
        have HPW := Lib.hid (HP.out.below X3.out hpg)
        have hsz3 := X3.out.size
        go_wp2_with (go_at_call 9; refine (awake_any PB _ (HPW.out.below ((Ext.refl _).more _ _).below (by omega)) (by rw [more_size]; omega)).mono ?_; rintro e _ ⟨rfl, d, os, rfl⟩)
        all_goals go_ret
        all_goals exact ⟨rfl, (Ext.of_below X3.out).trans (by repeat (first | exact Ext.refl _ | apply Ext.alloc | apply Ext.more))⟩

theorem tl_walk (va vb : Value) (la lb : List Int) (w : World) (ha : IntsAt w va la) (hb : IntsAt w vb lb) (h64a : In64L la) (h64b : In64L lb) (PB : Nat) (hP : Pow10 PB w) (hpg : PB ≤ w.heap.size) :
    Calls Tryd.prog 4 #[va, vb] w fun e w' => e = .returned (.bool true) ∧ Ext w w' := by
  obtain ⟨v1, i1, f1⟩ := few_any va la w ha
  obtain ⟨v2, i2, f2⟩ := few_any vb lb w hb
  obtain ⟨q1, y1, rfl, _, _⟩ := ha.form
  obtain ⟨q2, y2, rfl, _, _⟩ := hb.form
  obtain ⟨p1, c1, rfl, _, _⟩ := i1.form
  obtain ⟨p2, c2, rfl, _, _⟩ := i2.form
  exact tl_core p1 p2 q1 q2 _ _ _ _ _ _ c1 c2 (la.take 60) (lb.take 60) rfl rfl (List.length_take_le _ _) (List.length_take_le _ _) (h64a.take 60) (h64b.take 60) w (Lib.hid f1) (Lib.hid f2) i1 i2 _ rfl PB hP hpg

namespace TermListsRow
/-! ### The row, and the card -/
section
open Go.ChangeShapes Go.WideShapes Go.ChangeAt Go.RowKit Go.Joins
open Go.ChangeMaps (open_string shut_string)
theorem own : ownKnob Tryd.prog.godebug = none := by kernel_rfl
theorem laid : laidOutB Tryd.prog = true := by kernel_rfl

set_option maxRecDepth 100000 in
theorem lifted (os : Os) (started : os.Started) (H : Type) (enc : TypeId × Value → H) :
    ReturnsInHanded {} Tryd.checked os 4 .any (fun w args => (Rows.termListsSpec.pre enc Tryd.prog Tryd.f4 Rows.termListsRow.domain false w args ∧ laidMetH Tryd.prog Rows.termListsRow.laid w) ∧ sizedMet enc Tryd.prog Tryd.f4 (OpenSpec.ofChange Rows.termListsSpec) false w args) (Rows.termListsSpec.post enc Tryd.prog Tryd.f4 false true false false) := by
  refine returnsInHanded_of_change_and (C := Tryd.checked) (X := fun w _ => laidMetH Tryd.prog Rows.termListsRow.laid w) (fun _ _ _ hh h => h.of_heap hh) own started (by kernel_rfl) Tryd.func4
    (ChangeSpec.witness_shaped (enc := enc) (C := Tryd.checked) (os := os) (X := fun w _ => laidMetH Tryd.prog Rows.termListsRow.laid w) false (World.doorLaid Tryd.prog 24 os) #[.slice none 0 0, .slice none 0 0] 8 rfl (World.shaped_of_RefB (by kernel_rfl) (by kernel_rfl)) (by kernel_rfl) (by kernel_rfl) (by kernel_rfl) (door_met os _)) ?_
  intro W base args ds gs before hval0 hW hcnd hsz0 hL _
  have hval : ∀ (j : Nat) t v, Tryd.f4.params[j]? = some t → args[j]? = some v → Value.okWide Tryd.prog W .any base t v := hval0
  have hW' := hW
  obtain ⟨p, q, hA0, hV, rfl, hfz, hnd⟩ := hW
  have hA : DataW.TrodAll enc Tryd.prog W 0 (fun _ => true) true Tryd.f4.params.toList args.toList ds p := hA0
  have hAk := hA
  have hpr : Tryd.f4.params.toList.all (fun t => Tryd.prog.readableRec t && decide (t < Tryd.prog.types.size)) = true := by kernel_rfl
  have hlt := hA.lt
  obtain ⟨rfl, rfl⟩ := trodVars_none hV
  have hsz : (DataW.weightsEach Tryd.prog (Tryd.f4.params.toList ++ []) (ds ++ [])).all (· ≤ reachBytes) = true := hsz0
  rw [Tryd.params4] at hA hval hsz
  simp only [List.append_nil] at hsz
  obtain ⟨v0, vs0, d0, ds0, p0, q0, hargs, rfl, rfl, h0, r0⟩ := trodAll_cons hA
  obtain ⟨v1, vs1, d1, ds1, p1, q1, rfl, rfl, rfl, h1, r1⟩ := trodAll_cons r0
  obtain ⟨rfl, rfl, rfl⟩ := trodAll_nil r1
  obtain rfl : args = #[v0, v1] := by cases args; simp_all
  obtain ⟨a_l, ha, h64a⟩ := open_intsR Tryd.underlying32 (hval 0 32 v0 rfl rfl) h0
  obtain ⟨b_l, hb, h64b⟩ := open_intsR Tryd.underlying32 (hval 1 32 v1 rfl rfl) h1
  clear hA0 hval0 hsz0
  refine (tl_walk v0 v1 a_l b_l W ha hb h64a h64b W.heap.size (of_laid hL) (Nat.le_refl _)).mono fun e W' ⟨he, hx⟩ => ?_
  subst he
  exact ⟨_, rfl, _, _, _, [], _, [], hW', trodAll_mk1 (shut_bool Tryd.underlying4 _), trodAll_below laid hx.below hpr hAk hlt, rfl, hx.below.frame _, fun h => by cases h⟩

theorem row_proved : Rows.TermListsSaid :=
  OpenClaim.holds_of_wide 4 Tryd.f4 rfl rfl rfl rfl rfl rfl rfl ⟨rfl, rfl, rfl, rfl, rfl⟩ rfl rfl rfl rfl rfl (by kernel_rfl) Tryd.func4 (by kernel_rfl)
    (of_decide_eq_true (by kernel_rfl)) (by unfold Func.isWrapper; first | (rw [if_pos (by decide +kernel)]; kernel_rfl) | (rw [if_neg (by decide +kernel)]; exact ⟨rfl, rfl⟩))
    (fun os started H enc _ => lifted os started H enc)
theorem proved : Rows.TermListsCardSaid :=
  Claim7.holds_tied_plain_at .later [] Rows.termListsCard.laidKinds true Rows.termListsCard.stood.harness true
    row_proved (fun _ h => by cases h) (by kernel_rfl) (fun _ h => by cases h) termLists_row_tie rfl ⟨rfl, rfl⟩ (by kernel_rfl) rfl
    (fun f fn hf hfn => by
      obtain rfl : f = 4 := Option.some.inj ((show Tryd.prog.funcNamed "plenum/plenumlaw02.TermLists" = some 4 by kernel_rfl).symm.trans hf) |>.symm
      obtain rfl : fn = Tryd.f4 := (Option.some.inj (Tryd.func4.symm.trans hfn)).symm
      exact ⟨by kernel_rfl, fun j t ht => by
        rw [Tryd.params4] at ht
        have key : ∀ t ∈ Tryd.f4.params.toList, Tryd.prog.wantsStandIn t = false := by decide +kernel
        exact key t (by rw [Tryd.params4]; exact List.mem_of_getElem? (by simpa using ht))⟩) (by kernel_rfl)
end
#print axioms proved
end TermListsRow
end Go.Proofs.YtojejhmodaaoiaaDoor
