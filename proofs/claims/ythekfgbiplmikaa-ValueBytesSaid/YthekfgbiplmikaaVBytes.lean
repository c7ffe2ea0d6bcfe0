/-
  Proved here: 'Rows.ValueBytesSaid': for every value a and all bytes b the law plenumlaw07.ValueBytes returns true.
  Conditions: none.
-/
import Derived.Test.YthekfgbiplmikaaCut5
import Derived.Test.YthekfgbiplmikaaVal3
import Derived.Lib.SmallJoins
import Derived.OpenShut
set_option linter.unusedSimpArgs false
set_option linter.unusedVariables false
namespace Go.Proofs.Ythekfgbiplmikaa
open Go.RowKit

theorem in64_of {n : Int} (h : (Lit.int .i64 n).wf = true) : In64 n := by
  unfold In64; simp only [Lit.wf, Bool.and_eq_true, decide_eq_true_eq] at h; exact h
theorem conv_none {P : Program} (w : World) (src dst e : TypeId) (hs : P.underlying src = some (.slice e)) (he : P.underlying e = some (.int .u8)) (hd : P.underlying dst = some .string) : (convert src dst (.slice none 0 0)).run P w = .ok (.string ⟨#[]⟩) w := by
  rw [run_convert_bytes_string w src dst e none 0 0 hs he hd]; rfl
theorem conv_empty {P : Program} (w : World) (src dst e : TypeId) (p : Option Addr) (cap : Nat) (hs : P.underlying src = some (.slice e)) (he : P.underlying e = some (.int .u8)) (hd : P.underlying dst = some .string) : (convert src dst (.slice p 0 cap)).run P w = .ok (.string ⟨#[]⟩) w := by
  rw [run_convert_bytes_string w src dst e p 0 cap hs he hd]; cases p <;> rfl

set_option maxHeartbeats 2000000 in
set_option maxRecDepth 20000 in
theorem vbytes_core (k i : Int) (s : ByteArray) (p : Option Addr) (len cap m : Nat) (t : ByteArray) (v : Val) (n : Nat) (e : Int) (w : World) (hm : (m = len ∧ len ≤ 400) ∨ (m = 400 ∧ 400 < len)) (hcap : len ≤ cap)
    (Cv : RowKit.Hid (∀ w', Ext w w' → Calls Try.prog 33 #[.slice p m cap] w' fun r w'' => r = .returned (.tuple #[.agg #[.int .i64 v.k, .int .i64 v.i, .string v.s], .int .i64 (n : Int), .int .i64 e]) ∧ Ext w' w''))
    (Sv : RowKit.Hid (∀ w', Ext w w' → (convert 45 9 (.slice p m cap)).run Try.prog w' = .ok (.string t) w'))
    (Cr : RowKit.Hid (∀ w', Calls Try.prog 34 #[.string t] w' fun r w'' => r = .returned (.tuple #[.agg #[.int .i64 v.k, .int .i64 v.i, .string v.s], .int .i64 (n : Int), .int .i64 e]) ∧ Ext w' w'')) (hi : In64 i) :
    Calls Try.prog 8 #[.agg #[.int .i64 k, .int .i64 i, .string s], .slice p len cap] w fun r w' => r = .returned (.bool true) ∧ Ext w w' := by
  have m1 := fun w => rmay_any k i (fewS s) w
  by_cases h1 : mayB k i (fewS s) = true
  · rw [h1] at m1
    have M1 := Lib.hid m1
    have E1 := Lib.hid fun w => enc_any k i (fewS s) h1 hi.1 hi.2 w
    have E2 := Lib.hid fun w => renc_any k i (fewS s) h1 hi.1 hi.2 w
    clear m1 h1 hi
    rcases hm with ⟨rfl, hm⟩ | ⟨rfl, hm⟩
    all_goals
      go_enter Try.func8, Try.ntmps8
      go_wp2_with (first
        | (go_at_call 10; refine (few_any _ _ _ _).mono ?_; rintro e _ ⟨rfl, d, os, rfl⟩)
        | (go_at_call 15; refine (M1.out _).mono ?_; rintro e _ ⟨rfl, d, os, rfl⟩)
        | (go_at_call 32; refine (E2.out _).mono ?_; rintro e _ ⟨rfl, d, os, rfl⟩)
        | (go_at_call 33; refine (Cv.out _ (by repeat (first | exact Ext.refl _ | apply Ext.alloc | apply Ext.more))).mono ?_; rintro e _ ⟨rfl, d, os, rfl⟩))
      rw [Sv.out _ (by repeat (first | exact Ext.refl _ | apply Ext.alloc | apply Ext.more))]
      go_wp2_with (first
        | (go_at_call 34; refine (Cr.out _).mono ?_; rintro e _ ⟨rfl, d, os, rfl⟩)
        | (go_at_call 35; refine (E1.out _).mono ?_; rintro e _ ⟨g, cp, rfl, hown, d, os, rfl⟩; have hcv := conv_own (P := Try.prog) (src := 45) (dst := 9) Try.underlying45 Try.underlying5 Try.underlying9 hown; clear hown)
        | (go_at_call 14; refine (awake_any _).mono ?_; rintro e _ ⟨rfl, d, os, rfl⟩))
      go_ret
      exact ⟨rfl, by repeat (first | exact Ext.refl _ | apply Ext.alloc | apply Ext.more)⟩
  · have h1 : mayB k i (fewS s) = false := by simpa using h1
    rw [h1] at m1
    have M1 := Lib.hid m1
    have E1 := Lib.hid fun w => enc_no k i (fewS s) h1 w
    have hcv := fun w => conv_none (P := Try.prog) w 45 9 5 Try.underlying45 Try.underlying5 Try.underlying9
    clear m1 h1 hi
    rcases hm with ⟨rfl, hm⟩ | ⟨rfl, hm⟩
    all_goals
      go_enter Try.func8, Try.ntmps8
      go_wp2_with (first
        | (go_at_call 10; refine (few_any _ _ _ _).mono ?_; rintro e _ ⟨rfl, d, os, rfl⟩)
        | (go_at_call 15; refine (M1.out _).mono ?_; rintro e _ ⟨rfl, d, os, rfl⟩)
       
        | (go_at_call 33; refine (Cv.out _ (by repeat (first | exact Ext.refl _ | apply Ext.alloc | apply Ext.more))).mono ?_; rintro e _ ⟨rfl, d, os, rfl⟩))
      rw [Sv.out _ (by repeat (first | exact Ext.refl _ | apply Ext.alloc | apply Ext.more))]
      go_wp2_with (first
        | (go_at_call 34; refine (Cr.out _).mono ?_; rintro e _ ⟨rfl, d, os, rfl⟩)
        | (go_at_call 35; refine (E1.out _).mono ?_; rintro e _ ⟨rfl, d, os, rfl⟩)
        | (go_at_call 14; refine (awake_any _).mono ?_; rintro e _ ⟨rfl, d, os, rfl⟩))
      go_ret
      exact ⟨rfl, by repeat (first | exact Ext.refl _ | apply Ext.alloc | apply Ext.more)⟩

theorem vbytes_some (k i : Int) (s : ByteArray) (b off cap : Nat) (l : List UInt8) (hcap : l.length ≤ cap) (hi : In64 i) (w : World) (hb : BytesAt w b off l) :
    Calls Try.prog 8 #[.agg #[.int .i64 k, .int .i64 i, .string s], .slice (some ⟨b, off, none⟩) l.length cap] w fun r w' => r = .returned (.bool true) ∧ Ext w w' := by
  have hl : (l.take 400).length = min 400 l.length := List.length_take
  have hB := hb.take 400
  obtain ⟨v, n, e, hr⟩ : ∃ v n e, valC (l.take 400) = (v, n, e) := ⟨_, _, _, rfl⟩
  have hr2 : valC (⟨(l.take 400).toArray⟩ : ByteArray).data.toList = (v, n, e) := by simpa using hr
  refine vbytes_core k i s (some ⟨b, off, none⟩) l.length cap (l.take 400).length ⟨(l.take 400).toArray⟩ v n e w (by omega) hcap
    (Lib.hid fun w' hx => vc_any w' b off cap (l.take 400) (by omega) (by omega) (hB.ext hx) v n e hr)
    (Lib.hid fun w' hx => conv_at Try.underlying45 Try.underlying5 Try.underlying9 (hB.ext hx) _ rfl)
    (Lib.hid fun w' => rc_any w' ⟨(l.take 400).toArray⟩ (by rw [ba_size]; omega) v n e hr2) hi

theorem vbytes_none (k i : Int) (s : ByteArray) (p : Option Addr) (cap : Nat) (hi : In64 i) (w : World) :
    Calls Try.prog 8 #[.agg #[.int .i64 k, .int .i64 i, .string s], .slice p 0 cap] w fun r w' => r = .returned (.bool true) ∧ Ext w w' :=
  vbytes_core k i s p 0 cap 0 ⟨#[]⟩ ⟨0, 0, ⟨#[]⟩⟩ 0 2 w (.inl ⟨rfl, by omega⟩) (Nat.zero_le _)
    (Lib.hid fun w' hx => vc_nil w' p cap)
    (Lib.hid fun w' hx => conv_empty (P := Try.prog) w' 45 9 5 p cap Try.underlying45 Try.underlying5 Try.underlying9)
    (Lib.hid fun w' => rc_nil w') hi

theorem vbytes_walk (k i : Int) (s : ByteArray) (hi : In64 i) (v : Value) (l : List UInt8) (w : World) (h : RowB w v l) :
    Calls Try.prog 8 #[.agg #[.int .i64 k, .int .i64 i, .string s], v] w fun r w' => r = .returned (.bool true) ∧ Ext w w' := by
  rcases h with ⟨p, cap, rfl, _, rfl⟩ | ⟨b, off, cap, rfl, h1, _, h2⟩
  · exact vbytes_none k i s p cap hi w
  · exact vbytes_some k i s b off cap l h1 hi w h2

namespace ValueBytesRow
/-! ### The row -/
section
open Go.ChangeShapes Go.WideShapes Go.ChangeAt Go.RowKit Go.Joins
open Go.ChangeMaps (open_string shut_string)
theorem own : ownKnob Try.prog.godebug = none := by kernel_rfl
theorem laid : laidOutB Try.prog = true := by kernel_rfl
theorem u8cells : Try.prog.cellsOf 5 = 1 := by kernel_rfl
theorem u8bytes : Try.prog.bytesOf 5 = 1 := by kernel_rfl
theorem valueCells : Try.prog.cellsOf 23 = 3 := by kernel_rfl

set_option maxRecDepth 100000 in
theorem lifted (os : Os) (started : os.Started) (H : Type) (enc : TypeId × Value → H) :
    ReturnsInHanded {} Try.checked os 8 .any (Rows.valueBytesSpec.pre6 enc Try.prog Try.f8 Rows.valueBytesRow.domain false) (Rows.valueBytesSpec.post enc Try.prog Try.f8 false true false false) := by
  refine returnsInHanded_of_change_sized (C := Try.checked) own started (by kernel_rfl) Try.func8
    (ChangeSpec.witness6 (enc := enc) (C := Try.checked) false ⟨#[], #[.agg #[.int .i64 0, .int .i64 0, .string ⟨#[]⟩], .slice none 0 0], []⟩ 8 (by kernel_rfl) (by kernel_rfl) (by kernel_rfl) (by kernel_rfl)) ?_
  intro W base args ds gs before hval0 hW hcnd hsz0 _
  have hval : ∀ (j : Nat) t v, Try.f8.params[j]? = some t → args[j]? = some v → Value.okWide Try.prog W .any base t v := hval0
  have hW' := hW
  obtain ⟨p, q, hA0, hV, rfl, hfz, hnd⟩ := hW
  have hA : DataW.TrodAll enc Try.prog W 0 (fun _ => true) true Try.f8.params.toList args.toList ds p := hA0
  have hAk := hA
  have hpr : Try.f8.params.toList.all (fun t => Try.prog.readableRec t && decide (t < Try.prog.types.size)) = true := by kernel_rfl
  have hlt := hA.lt
  obtain ⟨rfl, rfl⟩ := trodVars_none hV
  have hsz : (DataW.weightsEach Try.prog (Try.f8.params.toList ++ []) (ds ++ [])).all (· ≤ reachBytes) = true := hsz0
  rw [Try.params8] at hA hval hsz
  simp only [List.append_nil] at hsz
  obtain ⟨v0, vs0, d0, ds0, p0, q0, hargs, rfl, rfl, h0, r0⟩ := trodAll_cons hA
  obtain ⟨v1, vs1, d1, ds1, p1, q1, rfl, rfl, rfl, h1, r1⟩ := trodAll_cons r0
  obtain ⟨rfl, rfl, rfl⟩ := trodAll_nil r1
  obtain rfl : args = #[v0, v1] := by cases args; simp_all
  obtain ⟨c00, c01, c02, y00, y01, y02, m0, rfl, rfl, rfl, hy00, hy01, hy02⟩ := open_agg3 Try.underlying23 (by kernel_rfl) valueCells (hval 0 23 v0 rfl rfl) h0
  obtain ⟨a_k, e00, rfl, wa_k⟩ := DataW.trod_int Try.underlying3 hy00
  obtain ⟨a_i, e01, rfl, wa_i⟩ := DataW.trod_int Try.underlying2 hy01
  obtain ⟨a_s, e02, rfl, wa_s⟩ := DataW.trod_string Try.underlying9 hy02
  simp at e00 e01 e02
  subst e00 e01 e02
  obtain ⟨b_l, hb⟩ := open_bytesR Try.underlying45 Try.underlying5 u8cells u8bytes (hval 1 45 v1 rfl rfl) h1 hsz (j := 1) rfl rfl
  clear hA0 hval0 hsz0
  refine (vbytes_walk a_k a_i a_s (in64_of wa_i) v1 b_l W hb).mono fun e W' ⟨he, hx⟩ => ?_
  subst he
  exact ⟨_, rfl, _, _, _, [], _, [], hW', trodAll_mk1 (shut_bool Try.underlying4 _), trodAll_below laid hx.below hpr hAk hlt, rfl, hx.below.frame _, fun h => by cases h⟩

theorem proved : Rows.ValueBytesSaid :=
  OpenClaim.holds_of_wide 8 Try.f8 rfl rfl rfl rfl rfl rfl rfl ⟨rfl, rfl, rfl, rfl, rfl⟩ rfl rfl rfl rfl rfl (by kernel_rfl) Try.func8 (by kernel_rfl)
    (of_decide_eq_true (by kernel_rfl)) (by unfold Func.isWrapper; first | (rw [if_pos (by decide +kernel)]; kernel_rfl) | (rw [if_neg (by decide +kernel)]; exact ⟨rfl, rfl⟩))
    (fun os started H enc _ => lifted os started H enc)
end
#print axioms proved
end ValueBytesRow
end Go.Proofs.Ythekfgbiplmikaa
