/- ParseTokens: whatever tokens there are, they are the document's program, node by node, or refused with its error, at its place. No condition. -/
import Derived.Test.YtoaaklcbcbjaiaaRSame
import Derived.Test.YtoaaklcbcbjaiaaPSrc
import Derived.Test.YtoaaklcbcbjaiaaParO2
import Derived.Test.YtoaaklcbcbjaiaaRow
import Derived.Test.YtoaaklcbcbjaiaaRows
import Derived.OpenShut
import Derived.Deep.Slices
import Derived.Deep.Fields
set_option linter.unusedSimpArgs false
set_option linter.unusedVariables false
namespace Go.Proofs.Ytoaaklcbcbjaiaa
open Go.RowKit
attribute [go_sem] more_more Array.size_append
open Go.ChangeShapes Go.WideShapes Go.ChangeAt Go.Joins

/-- tokens that came in -/
def TksAt (w : World) (v : Value) (L : Toks) : Prop := (∃ p cap, v = .slice p 0 cap ∧ L = []) ∨ ∃ b off cap, v = .slice (some ⟨b, off, none⟩) L.length cap ∧ L.length ≤ cap ∧ ToksAt b off L w
theorem tokenCells : Try.prog.cellsOf 57 = 4 := by kernel_rfl
theorem tokenFields : ∃ f0 f1 f2 f3 : Field, Try.prog.underlying 57 = some (.struct #[f0, f1, f2, f3]) ∧ f0.type = 3 ∧ f1.type = 3 ∧ f2.type = 9 ∧ f3.type = 2 ∧ Deep.oneCellFields Try.prog #[f0, f1, f2, f3] = true := ⟨_, _, _, _, Try.underlying57, rfl, rfl, rfl, rfl, by kernel_rfl⟩
theorem list_of {α : Type} (len : Nat) (P : Nat → α → Prop) (h : ∀ i, i < len → ∃ a, P i a) : ∃ l : List α, l.length = len ∧ ∀ j a, l[j]? = some a → P j a := by
  induction len with
  | zero => exact ⟨[], rfl, fun j a hj => by simp at hj⟩
  | succ n ih =>
    obtain ⟨l, hl, hp⟩ := ih (fun i hi => h i (by omega))
    obtain ⟨a, ha⟩ := h n (by omega)
    refine ⟨l ++ [a], by simp [hl], fun j b hj => ?_⟩
    rcases Nat.lt_or_ge j l.length with hlt | hge
    · rw [List.getElem?_append_left hlt] at hj
      exact hp j b hj
    · rw [List.getElem?_append_right hge] at hj
      have hz : j - l.length = 0 := by
        rcases Nat.eq_zero_or_pos (j - l.length) with hz | hz
        · exact hz
        · rw [List.getElem?_eq_none (by simp; omega)] at hj; cases hj
      rw [hz] at hj
      simp at hj
      subst hj
      have : j = n := by omega
      subst this
      exact ha
set_option maxRecDepth 100000 in
theorem open_toksR {H : Type} {enc : TypeId × Value → H} {W : World} {base : Nat} {v : Value} {d : DataW H} {p : List MemPlace} (hval : Value.okWide Try.prog W .any base 39 v)
    (hd : DataW.Trod enc Try.prog W 0 (fun _ => true) true 39 v d p) : ∃ l, TksAt W v l := by
  obtain ⟨a1, len, cap, rfl⟩ := okWide_slice Try.underlying39 hval
  obtain ⟨fuel, hf⟩ := hd
  rcases Deep.open_slice Try.underlying39 hf with ⟨hcs, hx⟩ | ⟨a, len', cap', m, n, D, Pl, hcs, hb, hl, hm, hmm, hx, hi⟩
  · simp [Value.cells] at hcs
    obtain ⟨rfl, rfl, rfl⟩ := hcs
    exact ⟨[], Or.inl ⟨none, 0, rfl, rfl⟩⟩
  · simp [Value.cells] at hcs
    obtain ⟨rfl, rfl, rfl⟩ := hcs
    simp only [if_true] at hmm
    subst hmm
    rcases Nat.eq_zero_or_pos len with h0 | h0
    · subst h0
      exact ⟨[], Or.inl ⟨some a, m, rfl, rfl⟩⟩
    obtain ⟨f0, f1, f2, f3, hst, ty0, ty1, ty2, ty3, hone⟩ := tokenFields
    have key : ∀ i, i < m → ∃ x : Tok × Int, W.cell? (a.add (i * 4)) = some (.int .i64 x.1.k) ∧ W.cell? (a.add (i * 4 + 1)) = some (.int .i64 x.2) ∧ W.cell? (a.add (i * 4 + 2)) = some (.string x.1.s) ∧ W.cell? (a.add (i * 4 + 3)) = some (.int .i64 x.1.i) := by
      intro i him
      obtain ⟨cs', hc, ht'⟩ := hi i him
      rw [tokenCells] at hc
      obtain ⟨ys, n', hn', hy, hlen, hyl, hf'⟩ := DataW.trod_struct hst ht'
      obtain ⟨_, hcl, hat⟩ := World.cells?_some hc
      match cs', hcl, hf', hat with
      | [x0, x1, x2, x3], _, hf', hat =>
        obtain ⟨o0, k0⟩ := Deep.hone_of hone 0 f0 rfl
        obtain ⟨o1, k1⟩ := Deep.hone_of hone 1 f1 rfl
        obtain ⟨o2, k2⟩ := Deep.hone_of hone 2 f2 rfl
        obtain ⟨o3, k3⟩ := Deep.hone_of hone 3 f3 rfl
        have g0 := hf' 0 f0 rfl
        have g1 := hf' 1 f1 rfl
        have g2 := hf' 2 f2 rfl
        have g3 := hf' 3 f3 rfl
        rw [o0, k0, ty0] at g0
        rw [o1, k1, ty1] at g1
        rw [o2, k2, ty2] at g2
        rw [o3, k3, ty3] at g3
        match ys, hyl with
        | [y0, y1, y2, y3], _ =>
          obtain ⟨z0, e0, _, _⟩ := DataW.trod_int Try.underlying3 g0
          obtain ⟨z1, e1, _, _⟩ := DataW.trod_int Try.underlying3 g1
          obtain ⟨z2, e2, _, _⟩ := DataW.trod_string Try.underlying9 g2
          obtain ⟨z3, e3, _, _⟩ := DataW.trod_int Try.underlying2 g3
          simp at e0 e1 e2 e3
          subst e0 e1 e2 e3
          have b0 := hat 0 (by omega)
          have b1 := hat 1 (by omega)
          have b2 := hat 2 (by omega)
          have b3 := hat 3 (by omega)
          rw [Deep.add_add] at b0 b1 b2 b3
          exact ⟨(⟨z0, z2, z3⟩, z1), by simpa using b0, by simpa using b1, by simpa using b2, by simpa using b3⟩
    obtain ⟨ab, ao, spot⟩ := a
    have hspot : spot = none := by
      obtain ⟨x, hx0, _⟩ := key 0 (by omega)
      simpa [Addr.add] using World.cell?_spot hx0
    subst hspot
    obtain ⟨l, hlen, hp⟩ := list_of len (fun i (x : Tok × Int) => W.cell? ((⟨ab, ao, none⟩ : Addr).add (i * 4)) = some (.int .i64 x.1.k) ∧ W.cell? ((⟨ab, ao, none⟩ : Addr).add (i * 4 + 1)) = some (.int .i64 x.2) ∧ W.cell? ((⟨ab, ao, none⟩ : Addr).add (i * 4 + 2)) = some (.string x.1.s) ∧ W.cell? ((⟨ab, ao, none⟩ : Addr).add (i * 4 + 3)) = some (.int .i64 x.1.i)) (fun i hi => key i (by omega))
    refine ⟨l, Or.inr ⟨ab, ao, m, by rw [hlen], by omega, fun j hj => ?_⟩⟩
    have hx := hp j (tk l j) (by unfold tk; rw [List.getD_eq_getElem?_getD, List.getElem?_eq_getElem hj]; rfl)
    simp only [Addr.add_lit] at hx
    exact ⟨hx.1, by rw [Nat.add_assoc]; exact hx.2.1, by rw [Nat.add_assoc]; exact hx.2.2.1, by rw [Nat.add_assoc]; exact hx.2.2.2⟩
theorem ToksAt.take {lb lo : Nat} {L : Toks} {w : World} (h : ToksAt lb lo L w) (n : Nat) : ToksAt lb lo (L.take n) w := by
  intro j hj
  rw [List.length_take] at hj
  have e : tk (L.take n) j = tk L j := by
    unfold tk
    rw [List.getD_eq_getElem?_getD, List.getD_eq_getElem?_getD, List.getElem?_take, if_pos (by omega)]
  rw [e]
  exact h j (by omega)
theorem row_form {w : World} {base : Nat} {e : TypeId} {size : Nat} {v : Value} {n : Nat} {xs : List Value} (h : w.ownsRow base e size v n xs) : ∃ p c, v = .slice p n c := by
  rcases Go.Joins.ownsRow_forms h with ⟨rfl, h0⟩ | ⟨g1, c, rfl⟩
  · exact ⟨none, 0, by rw [h0]⟩
  · exact ⟨_, _, rfl⟩
theorem parse_few {L : Toks} {ns : List Nd} {fi : Int} (h : parseF L = .ok (ns, fi)) : ns.length ≤ 512 := (order_law L ns fi h).2.2.2.2.2

set_option maxHeartbeats 4000000 in
set_option maxRecDepth 20000 in
theorem ptok_few_err (p : Option Addr) (n c : Nat) (hn : (n : Int) ≤ 700) (ec ea : Int) (w : World)
    (PT : RowKit.Hid (∀ w1, Ext w w1 → Calls Try.prog 16 #[.slice p n c] w1 (ParsePost w1 (.error (ec, ea))))) (RT : RowKit.Hid (∀ w1, Ext w w1 → Calls Try.prog 17 #[.slice p n c] w1 (ParsePost w1 (.error (ec, ea))))) :
    Calls Try.prog 5 #[.slice p n c] w fun e w' => e = .returned (.bool true) ∧ Ext w w' := by
  go_enter Try.func5, Try.ntmps5
  go_wp2_with (first
    | ((go_at_call 16; (with_reducible refine (PT.out _ (by repeat (first | exact Ext.refl _ | apply Ext.alloc | apply Ext.more))).mono ?_); rintro e _ ⟨rfl, d1, os1, rfl⟩))
    | ((go_at_call 17; (with_reducible refine (RT.out _ (by repeat (first | exact Ext.refl _ | apply Ext.alloc | apply Ext.more))).mono ?_); rintro e _ ⟨rfl, d2, os2, rfl⟩))
    | ((go_at_call 18; (with_reducible refine (same_any [] _ _ 0 0 _ _ (World.ownsRow_nil _ _ _ _) (World.ownsRow_nil _ _ _ _) (by decide)).mono ?_); rintro e _ ⟨rfl, d3, os3, rfl⟩))
    | ((go_at_call 15; (with_reducible refine (awake_any _).mono ?_); rintro e _ ⟨rfl, d4, os4, rfl⟩)))
  go_ret
  exact ⟨rfl, by repeat (first | exact Ext.refl _ | apply Ext.alloc | apply Ext.more)⟩

set_option maxHeartbeats 4000000 in
set_option maxRecDepth 20000 in
theorem ptok_few_ok (p : Option Addr) (n c : Nat) (hn : (n : Int) ≤ 700) (ns : List Nd) (fi : Int) (hnl : ns.length ≤ 512) (w : World)
    (PT : RowKit.Hid (∀ w1, Ext w w1 → Calls Try.prog 16 #[.slice p n c] w1 (ParsePost w1 (.ok (ns, fi))))) (RT : RowKit.Hid (∀ w1, Ext w w1 → Calls Try.prog 17 #[.slice p n c] w1 (ParsePost w1 (.ok (ns, fi))))) :
    Calls Try.prog 5 #[.slice p n c] w fun e w' => e = .returned (.bool true) ∧ Ext w w' := by
  have HNL := Lib.hid hnl
  clear hnl
  go_enter Try.func5, Try.ntmps5
  go_wp2_with (first
    | ((go_at_call 16; (with_reducible refine (PT.out _ (by repeat (first | exact Ext.refl _ | apply Ext.alloc | apply Ext.more))).mono ?_); rintro e _ ⟨nv1, he, hrow, d1, os1, rfl⟩; obtain ⟨p1, c1, rfl⟩ := row_form hrow; subst he; have HR1 := Lib.hid (hrow.mono (Nat.zero_le _)); clear hrow))
    | ((go_at_call 17; (with_reducible refine (RT.out _ (by repeat (first | exact Ext.refl _ | apply Ext.alloc | apply Ext.more))).mono ?_); rintro e _ ⟨nv2, he, hrow, d2, os2, rfl⟩; obtain ⟨p2, c2, rfl⟩ := row_form hrow; subst he; have HR2 := Lib.hid (hrow.mono (Nat.zero_le _)); clear hrow))
    | ((go_at_call 18; (with_reducible refine (same_any ns _ _ 0 0 _ _ (by repeat (first | (with_reducible exact HR1.out) | (with_reducible apply own_more) | (with_reducible refine World.ownsRow.alloc ?_ _))) (by repeat (first | (with_reducible exact HR2.out) | (with_reducible apply own_more) | (with_reducible refine World.ownsRow.alloc ?_ _))) HNL.out).mono ?_); rintro e _ ⟨rfl, d3, os3, rfl⟩))
    | ((go_at_call 15; (with_reducible refine (awake_any _).mono ?_); rintro e _ ⟨rfl, d4, os4, rfl⟩)))
  go_ret
  exact ⟨rfl, by repeat (first | exact Ext.refl _ | apply Ext.alloc | apply Ext.more)⟩

set_option maxHeartbeats 4000000 in
set_option maxRecDepth 20000 in
theorem ptok_many_err (b off n c : Nat) (hn : 700 < (n : Int)) (hc : 700 ≤ (c : Int)) (ec ea : Int) (w : World)
    (PT : RowKit.Hid (∀ w1, Ext w w1 → Calls Try.prog 16 #[.slice (some ⟨b, off, none⟩) 700 c] w1 (ParsePost w1 (.error (ec, ea))))) (RT : RowKit.Hid (∀ w1, Ext w w1 → Calls Try.prog 17 #[.slice (some ⟨b, off, none⟩) 700 c] w1 (ParsePost w1 (.error (ec, ea))))) :
    Calls Try.prog 5 #[.slice (some ⟨b, off, none⟩) n c] w fun e w' => e = .returned (.bool true) ∧ Ext w w' := by
  go_enter Try.func5, Try.ntmps5
  go_wp2_with (first
    | ((go_at_call 16; (with_reducible refine (PT.out _ (by repeat (first | exact Ext.refl _ | apply Ext.alloc | apply Ext.more))).mono ?_); rintro e _ ⟨rfl, d1, os1, rfl⟩))
    | ((go_at_call 17; (with_reducible refine (RT.out _ (by repeat (first | exact Ext.refl _ | apply Ext.alloc | apply Ext.more))).mono ?_); rintro e _ ⟨rfl, d2, os2, rfl⟩))
    | ((go_at_call 18; (with_reducible refine (same_any [] _ _ 0 0 _ _ (World.ownsRow_nil _ _ _ _) (World.ownsRow_nil _ _ _ _) (by decide)).mono ?_); rintro e _ ⟨rfl, d3, os3, rfl⟩))
    | ((go_at_call 15; (with_reducible refine (awake_any _).mono ?_); rintro e _ ⟨rfl, d4, os4, rfl⟩)))
  go_ret
  exact ⟨rfl, by repeat (first | exact Ext.refl _ | apply Ext.alloc | apply Ext.more)⟩

set_option maxHeartbeats 4000000 in
set_option maxRecDepth 20000 in
theorem ptok_many_ok (b off n c : Nat) (hn : 700 < (n : Int)) (hc : 700 ≤ (c : Int)) (ns : List Nd) (fi : Int) (hnl : ns.length ≤ 512) (w : World)
    (PT : RowKit.Hid (∀ w1, Ext w w1 → Calls Try.prog 16 #[.slice (some ⟨b, off, none⟩) 700 c] w1 (ParsePost w1 (.ok (ns, fi))))) (RT : RowKit.Hid (∀ w1, Ext w w1 → Calls Try.prog 17 #[.slice (some ⟨b, off, none⟩) 700 c] w1 (ParsePost w1 (.ok (ns, fi))))) :
    Calls Try.prog 5 #[.slice (some ⟨b, off, none⟩) n c] w fun e w' => e = .returned (.bool true) ∧ Ext w w' := by
  have HNL := Lib.hid hnl
  clear hnl
  go_enter Try.func5, Try.ntmps5
  go_wp2_with (first
    | ((go_at_call 16; (with_reducible refine (PT.out _ (by repeat (first | exact Ext.refl _ | apply Ext.alloc | apply Ext.more))).mono ?_); rintro e _ ⟨nv1, he, hrow, d1, os1, rfl⟩; obtain ⟨p1, c1, rfl⟩ := row_form hrow; subst he; have HR1 := Lib.hid (hrow.mono (Nat.zero_le _)); clear hrow))
    | ((go_at_call 17; (with_reducible refine (RT.out _ (by repeat (first | exact Ext.refl _ | apply Ext.alloc | apply Ext.more))).mono ?_); rintro e _ ⟨nv2, he, hrow, d2, os2, rfl⟩; obtain ⟨p2, c2, rfl⟩ := row_form hrow; subst he; have HR2 := Lib.hid (hrow.mono (Nat.zero_le _)); clear hrow))
    | ((go_at_call 18; (with_reducible refine (same_any ns _ _ 0 0 _ _ (by repeat (first | (with_reducible exact HR1.out) | (with_reducible apply own_more) | (with_reducible refine World.ownsRow.alloc ?_ _))) (by repeat (first | (with_reducible exact HR2.out) | (with_reducible apply own_more) | (with_reducible refine World.ownsRow.alloc ?_ _))) HNL.out).mono ?_); rintro e _ ⟨rfl, d3, os3, rfl⟩))
    | ((go_at_call 15; (with_reducible refine (awake_any _).mono ?_); rintro e _ ⟨rfl, d4, os4, rfl⟩)))
  go_ret
  exact ⟨rfl, by repeat (first | exact Ext.refl _ | apply Ext.alloc | apply Ext.more)⟩

theorem ptok_walk (w : World) (v : Value) (L : Toks) (h : TksAt w v L) : Calls Try.prog 5 #[v] w fun e w' => e = .returned (.bool true) ∧ Ext w w' := by
  rcases h with ⟨p, cap, rfl, rfl⟩ | ⟨b, off, cap, rfl, hc, ht⟩
  · exact ptok_few_err p 0 cap (by decide) 1 0 w (Lib.hid fun w1 _ => parse_none p cap w1) (Lib.hid fun w1 _ => rtokens_none p cap w1)
  rcases Nat.eq_zero_or_pos L.length with h0 | h0
  · rw [h0]
    exact ptok_few_err _ 0 cap (by decide) 1 0 w (Lib.hid fun w1 _ => parse_none _ cap w1) (Lib.hid fun w1 _ => rtokens_none _ cap w1)
  rcases Nat.lt_or_ge 700 L.length with hl | hl
  · have hlen : (L.take 700).length = 700 := by rw [List.length_take]; omega
    have T := fun w1 (hx : Ext w w1) => ((ht.take 700).of_block (hx.below.block b (ht.lt h0)))
    have PT := fun w1 hx r hr => parse_any (L.take 700) b off cap (by omega) (by omega) w1 (T w1 hx) r hr
    have RT := fun w1 hx r hr => rtokens_any (L.take 700) b off cap (by omega) (by omega) w1 (T w1 hx) r hr
    rw [hlen] at PT RT
    rcases hr : parseF (L.take 700) with ⟨ec, ea⟩ | ⟨ns, fi⟩
    · exact ptok_many_err b off L.length cap (by omega) (by omega) ec ea w (Lib.hid fun w1 hx => PT w1 hx _ hr) (Lib.hid fun w1 hx => RT w1 hx _ hr)
    · exact ptok_many_ok b off L.length cap (by omega) (by omega) ns fi (parse_few hr) w (Lib.hid fun w1 hx => PT w1 hx _ hr) (Lib.hid fun w1 hx => RT w1 hx _ hr)
  · have T := fun w1 (hx : Ext w w1) => (ht.of_block (hx.below.block b (ht.lt h0)))
    rcases hr : parseF L with ⟨ec, ea⟩ | ⟨ns, fi⟩
    · exact ptok_few_err _ L.length cap (by omega) ec ea w (Lib.hid fun w1 hx => parse_any L b off cap h0 (by omega) w1 (T w1 hx) _ hr) (Lib.hid fun w1 hx => rtokens_any L b off cap h0 (by omega) w1 (T w1 hx) _ hr)
    · exact ptok_few_ok _ L.length cap (by omega) ns fi (parse_few hr) w (Lib.hid fun w1 hx => parse_any L b off cap h0 (by omega) w1 (T w1 hx) _ hr) (Lib.hid fun w1 hx => rtokens_any L b off cap h0 (by omega) w1 (T w1 hx) _ hr)

namespace ParseTokensRow

/-! ### The row -/
section
open Go.ChangeShapes Go.WideShapes Go.ChangeAt Go.RowKit Go.Joins
open Go.ChangeMaps (open_string shut_string)
theorem own : ownKnob Try.prog.godebug = none := by kernel_rfl
theorem laid : laidOutB Try.prog = true := by kernel_rfl

set_option maxRecDepth 100000 in
theorem lifted (os : Os) (started : os.Started) (H : Type) (enc : TypeId × Value → H) :
    ReturnsInHanded {} Try.checked os 5 .any (Rows.parseTokensSpec.pre6 enc Try.prog Try.f5 Rows.parseTokensRow.domain false) (Rows.parseTokensSpec.post enc Try.prog Try.f5 false true false false) := by
  refine returnsInHanded_of_change_sized (C := Try.checked) own started (by kernel_rfl) Try.func5
    (ChangeSpec.witness6 (enc := enc) (C := Try.checked) false ⟨#[], #[.slice none 0 0], []⟩ 8 (by kernel_rfl) (by kernel_rfl) (by kernel_rfl) (by kernel_rfl)) ?_
  intro W base args ds gs before hval0 hW hcnd hsz0 _
  have hval : ∀ (j : Nat) t v, Try.f5.params[j]? = some t → args[j]? = some v → Value.okWide Try.prog W .any base t v := hval0
  have hW' := hW
  obtain ⟨p, q, hA0, hV, rfl, hfz, hnd⟩ := hW
  have hA : DataW.TrodAll enc Try.prog W 0 (fun _ => true) true Try.f5.params.toList args.toList ds p := hA0
  have hAk := hA
  have hpr : Try.f5.params.toList.all (fun t => Try.prog.readableRec t && decide (t < Try.prog.types.size)) = true := by kernel_rfl
  have hlt := hA.lt
  obtain ⟨rfl, rfl⟩ := trodVars_none hV
  have hsz : (DataW.weightsEach Try.prog (Try.f5.params.toList ++ []) (ds ++ [])).all (· ≤ reachBytes) = true := hsz0
  rw [Try.params5] at hA hval hsz
  simp only [List.append_nil] at hsz
  obtain ⟨v0, vs0, d0, ds0, p0, q0, hargs, rfl, rfl, h0, r0⟩ := trodAll_cons hA
  obtain ⟨rfl, rfl, rfl⟩ := trodAll_nil r0
  obtain rfl : args = #[v0] := by cases args; simp_all
  obtain ⟨l_l, hl⟩ := open_toksR (hval 0 39 v0 rfl rfl) h0
  clear hA0 hval0 hsz0
  refine (ptok_walk W v0 l_l hl).mono fun e W' ⟨he, hx⟩ => ?_
  subst he
  exact ⟨_, rfl, _, _, _, [], _, [], hW', trodAll_mk1 (shut_bool Try.underlying4 _), trodAll_below laid hx.below hpr hAk hlt, rfl, hx.below.frame _, fun h => by cases h⟩

theorem proved : Rows.ParseTokensSaid :=
  OpenClaim.holds_of_wide 5 Try.f5 rfl rfl rfl rfl rfl rfl rfl ⟨rfl, rfl, rfl, rfl, rfl⟩ rfl rfl rfl rfl rfl (by kernel_rfl) Try.func5 (by kernel_rfl)
    (of_decide_eq_true (by kernel_rfl)) (by unfold Func.isWrapper; first | (rw [if_pos (by decide +kernel)]; kernel_rfl) | (rw [if_neg (by decide +kernel)]; exact ⟨rfl, rfl⟩))
    (fun os started H enc _ => lifted os started H enc)
end
#print axioms proved
end ParseTokensRow
end Go.Proofs.Ytoaaklcbcbjaiaa
