/- Lemmas for the claim (texts Enc1, CutP, Cut1, what its proof uses of them). -/
import Derived.Test.YtpchohjkelopoaaGreatDoorK01
import Derived.LoopTactic
import Derived.Laws.BitsAllLaws
import Derived.WalkMore
import Derived.Deep.LoopGhost
set_option linter.unusedSimpArgs false
set_option linter.unusedVariables false
set_option maxRecDepth 20000
namespace Go.Proofs.YtpchohjkelopoaaGreatDoor
open Go.RowKit
/-- a number's bytes -/
def putB (v : Nat) : List UInt8 := if v < 128 then [UInt8.ofNat v] else UInt8.ofNat (v % 128 + 128) :: putB (v / 128)
termination_by v
decreasing_by omega
theorem u8info : (Tryz.prog.info? 5).map (fun i => (i.zero, i.size, i.bytes)) = some (some (.int .u8 0), 1, 1) := by kernel_rfl
theorem or128_fin : ∀ n : Fin 256, bits BinOp.or IntKind.u8 (n.val : Int) 128 = (n.val : Int) % 128 + 128 := by decide +kernel
theorem or128 (v : Int) (h : 0 ≤ v) : bits BinOp.or IntKind.u8 (v % 256) 128 = v % 128 + 128 := by
  have h1 := or128_fin ⟨(v % 256).toNat, by omega⟩
  have e : (((v % 256).toNat : Nat) : Int) = v % 256 := by omega
  simp only [e] at h1
  rw [h1]; omega
theorem putB_len : ∀ (n : Nat) (v : Nat), v < 128 ^ (n + 1) → (putB v).length ≤ n + 1 := by
  intro n
  induction n with
  | zero => intro v h; rw [putB, if_pos (by omega)]; simp
  | succ n ih =>
    intro v h
    rw [putB]
    split
    · simp
    · have := ih (v / 128) (by rw [Nat.pow_succ] at h; omega)
      simp; omega
theorem putB_pos (v : Nat) : 0 < (putB v).length := by rw [putB]; split <;> simp
/-- what a contract says of bytes that it hands back: a row of the call's own -/
def OwnB (w w' : World) (e : Ending) (l : List UInt8) : Prop :=
  ∃ g cap, e = .returned (.slice (some ⟨g, 0, none⟩) l.length cap) ∧ w'.ownsRow w.heap.size 5 1 (.slice (some ⟨g, 0, none⟩) l.length cap) l.length (cellsB l) ∧ Ext w w'
theorem OwnB.mk' {w w' : World} {v : Value} {l : List UInt8} (hl : 0 < l.length) (h : w'.ownsRow w.heap.size 5 1 v l.length (cellsB l)) (hx : Ext w w') : OwnB w w' (.returned v) l := by
  obtain ⟨g, cap, rfl, _, _⟩ := h.form hl
  exact ⟨g, cap, rfl, h, hx⟩
theorem own_lit {w : World} {base : Nat} {t : TypeId} (x : Value) (hb : base ≤ w.heap.size) : (w.alloc (.cells #[x] t)).ownsRow base t 1 (.slice (some ⟨w.heap.size, 0, none⟩) 1 1) 1 [x] :=
  ⟨rfl, .inr ⟨w.heap.size, 1, #[x], rfl, hb, heap_alloc_new w _, Nat.le_refl _, by unfold maxLen; omega, rfl, rfl⟩⟩
set_option maxHeartbeats 400000 in
theorem put_any (v0 : Int) (h0 : 0 ≤ v0) (h1 : v0 ≤ 18446744073709551615) (w : World) :
    Calls Tryz.prog 121 #[.int .u64 v0] w fun e w' => OwnB w w' e (putB v0.toNat) := by
  obtain ⟨i0, hi, hz0, hz1, hz2⟩ := info_parts u8info
  go_enter Tryz.func121, Tryz.ntmps121
  go_wp2_with fail
  go_loopw [0, 3] (fun vv out wr => ∃ (v : Int) (k : Nat) (done : List UInt8), 0 ≤ v ∧ v ≤ 18446744073709551615 ∧ vv = .int .u64 v ∧ k = done.length ∧ done ++ putB v.toNat = putB v0.toNat ∧ wr.ownsRow w.heap.size 5 1 out k (cellsB done) ∧ Ext w wr) (fun vv _ _ => (intOf vv).toNat)
  case atStart => exact ⟨v0, 0, [], h0, h1, rfl, rfl, rfl, World.ownsRow_nil _ _ _ _, Ext.refl _⟩
  case round =>
    obtain ⟨v, k, done, hv0, hv1, rfl, hk, hd, hown, hext⟩ := hrel
    have Hd := Lib.hid hd
    have Hk := Lib.hid hk
    clear hd hk
    have hka : k ≤ 10 := by
      have h2 := congrArg List.length Hd.out
      have h3 := putB_len 9 v0.toNat (by omega)
      have := Hk.out
      simp at h2; omega
    have hor := or128 v hv0
    by_cases hlt : v < 128
    · go_wp2_with (at_builtin; refine wpList_append_own_at _ rfl _ _ 135 rfl w.heap.size 5 i0 (.int .u8 0) 1 1 Tryz.underlying135 hi hz0 hz1 hz2 rfl (by decide) _ k (cellsB done) rfl (hown.alloc _) ⟨wr.heap.size, 0, none⟩ 1 1 [.int .u8 v] rfl rfl ?c1 ?c2 ?c3 ?c4 ?c5 ?_)
      case c1 => exact cell_one_new _ _ _
      case c2 => first | rfl | (intro u hu; simp at hu; subst hu; rfl)
      case c3 => unfold maxLen; omega
      case c4 => omega
      case c5 => have := hext.size; simp; omega
      intro v' w1 hown' hgrow _ _
      go_wp2
      go_ret
      refine OwnB.mk' (putB_pos _) ?_ ?_
      · have e1 : putB v.toNat = [UInt8.ofNat v.toNat] := by rw [putB, if_pos (by omega)]
        have h2 := Hd.out
        rw [e1] at h2
        rw [← h2, cellsB_snoc _ _ hv0 (by omega)]
        have := Hk.out
        simpa [this] using hown'
      · exact (hext.alloc _).grown hgrow (fun k hk => (hown.lt k hk).1)
    · go_wp2_with (at_builtin; refine wpList_append_own_at _ rfl _ _ 135 rfl w.heap.size 5 i0 (.int .u8 0) 1 1 Tryz.underlying135 hi hz0 hz1 hz2 rfl (by decide) _ k (cellsB done) rfl (hown.alloc _) ⟨wr.heap.size, 0, none⟩ 1 1 [.int .u8 (v % 128 + 128)] rfl rfl ?d1 ?d2 ?d3 ?d4 ?d5 ?_)
      try case d1 => exact cell_one_new _ _ _
      case d2 => first | rfl | (intro u hu; simp at hu; subst hu; rfl)
      case d3 => unfold maxLen; omega
      case d4 => omega
      case d5 => have := hext.size; simp; omega
      intro v' w1 hown' hgrow _ _
      go_wp2
      go_roundw
      case rel =>
        refine ⟨v / 128, k + 1, done ++ [UInt8.ofNat (v % 128 + 128).toNat], by omega, by omega, rfl, by have := Hk.out; simp [this], ?_, ?_, ?_⟩
        · rw [← Hd.out]
          have e1 : putB v.toNat = UInt8.ofNat (v % 128 + 128).toNat :: putB (v / 128).toNat := by
            rw [putB, if_neg (by omega)]
            have a1 : v.toNat % 128 + 128 = (v % 128 + 128).toNat := by omega
            have a2 : v.toNat / 128 = (v / 128).toNat := by omega
            rw [a1, a2]
          rw [e1]; simp
        · rw [cellsB_snoc _ _ (by omega) (by omega)]; exact hown'
        · exact (hext.alloc _).grown hgrow (fun k hk => (hown.lt k hk).1)
      case measure => simp [intOf]; omega
theorem nat_xor_ones (x : Nat) (h : x < 18446744073709551616) : x ^^^ 18446744073709551615 = 18446744073709551615 - x := by
  have h1 : (BitVec.ofNat 64 x ^^^ BitVec.allOnes 64).toNat = (~~~ (BitVec.ofNat 64 x)).toNat := by rw [BitVec.xor_allOnes]
  rw [BitVec.toNat_xor, BitVec.toNat_not, BitVec.toNat_allOnes, BitVec.toNat_ofNat, Nat.mod_eq_of_lt (by simpa using h)] at h1
  simpa using h1
theorem xor_zero (a : Int) (h0 : 0 ≤ a) (h1 : a < 18446744073709551616) : bits BinOp.xor IntKind.u64 a 0 = a := by
  rw [u64_xor a 0 h0 h1 (by omega) (by omega)]
  simp; omega
theorem xor_ones (a : Int) (h0 : 0 ≤ a) (h1 : a < 18446744073709551616) : bits BinOp.xor IntKind.u64 a 18446744073709551615 = 18446744073709551615 - a := by
  rw [u64_xor a 18446744073709551615 h0 h1 (by omega) (by omega)]
  have e : (18446744073709551615 : Int).toNat = 18446744073709551615 := rfl
  rw [e, nat_xor_ones a.toNat (by omega)]
  omega
def zigZ (v : Int) : Int := if 0 ≤ v then 2 * v else 2 * (-(v + 1)) + 1
theorem zigZ_bd (v : Int) (h0 : -9223372036854775808 ≤ v) (h1 : v ≤ 9223372036854775807) : 0 ≤ zigZ v ∧ zigZ v ≤ 18446744073709551615 := by unfold zigZ; split <;> omega
theorem zig_pos (v : Int) (h0 : 0 ≤ v) (h1 : v ≤ 9223372036854775807) : bits BinOp.xor IntKind.u64 (v * 2) (v / 9223372036854775808) = zigZ v := by
  have : v / 9223372036854775808 = 0 := by omega
  rw [this, xor_zero _ (by omega) (by omega), zigZ, if_pos h0]; omega
theorem zig_neg (v : Int) (h0 : v < 0) (h1 : -9223372036854775808 ≤ v) :
    bits BinOp.xor IntKind.u64 (IntKind.u64.wrap (IntKind.u64.wrap v * 2)) (IntKind.u64.wrap (v / 9223372036854775808)) = zigZ v := by
  have e1 : v / 9223372036854775808 = -1 := by omega
  have w64 : ∀ n : Int, IntKind.u64.wrap n = n % 18446744073709551616 := fun n => by simp [IntKind.wrap, IntKind.bits, IntKind.signed]
  rw [e1, w64, w64, w64]
  have e2 : (-1 : Int) % 18446744073709551616 = 18446744073709551615 := rfl
  rw [e2, xor_ones _ (by omega) (by omega), zigZ, if_neg (by omega)]; omega
set_option maxHeartbeats 400000 in
theorem zig_any (v : Int) (h0 : -9223372036854775808 ≤ v) (h1 : v ≤ 9223372036854775807) (w : World) :
    Calls Tryz.prog 149 #[.int .i64 v] w fun e w' => e = .returned (.int .u64 (zigZ v)) ∧ Ext w w' := by
  by_cases hv : 0 ≤ v
  · go_enter Tryz.func149, Tryz.ntmps149
    go_wp2
    go_ret
    exact ⟨ret_int (zig_pos v hv h1), Ext.refl _⟩
  · have hv' : v < 0 := by omega
    go_enter Tryz.func149, Tryz.ntmps149
    go_wp2
    go_ret
    exact ⟨ret_int (zig_neg v hv' h0), Ext.refl _⟩
set_option maxHeartbeats 400000 in
theorem rzig_any (v : Int) (h0 : -9223372036854775808 ≤ v) (h1 : v ≤ 9223372036854775807) (w : World) :
    Calls Tryz.prog 117 #[.int .i64 v] w fun e w' => e = .returned (.int .u64 (zigZ v)) ∧ Ext w w' := by
  by_cases hv : 0 ≤ v
  · have e : zigZ v = 2 * v := by unfold zigZ; rw [if_pos hv]
    rw [e]; clear e
    go_enter Tryz.func117, Tryz.ntmps117
    go_wp2
    go_ret
    exact ⟨rfl, Ext.refl _⟩
  · have hv' : v < 0 := by omega
    have e : zigZ v = 2 * -(v + 1) + 1 := by unfold zigZ; rw [if_neg hv]
    rw [e]; clear e
    go_enter Tryz.func117, Tryz.ntmps117
    go_wp2
    go_ret
    exact ⟨rfl, Ext.refl _⟩
set_option maxHeartbeats 400000 in
theorem putint_any (v : Int) (h0 : -9223372036854775808 ≤ v) (h1 : v ≤ 9223372036854775807) (w : World) :
    Calls Tryz.prog 136 #[.int .i64 v] w fun e w' => OwnB w w' e (putB (zigZ v).toNat) := by
  obtain ⟨b0, b1⟩ := zigZ_bd v h0 h1
  go_enter Tryz.func136, Tryz.ntmps136
  go_wp2_with (first
    | (go_at_call 149; refine (zig_any v h0 h1 _).mono ?_; rintro e _ ⟨rfl, d, os, rfl⟩)
    | (go_at_call 121; refine (put_any (zigZ v) b0 b1 _).mono ?_; rintro e w1 ⟨g, cap, rfl, ho, he⟩))
  go_ret
  exact ⟨_, _, rfl, ho.mono (by simp [more_size]), ((Ext.refl _).more _ _).trans he⟩
set_option maxHeartbeats 400000 in
theorem puttext_any (s : ByteArray) (hs : (s.size : Int) ≤ 255) (w : World) :
    Calls Tryz.prog 119 #[.string s] w fun e w' => OwnB w w' e (putB s.size ++ s.data.toList) := by
  obtain ⟨i0, hi, hz0, hz1, hz2⟩ := info_parts u8info
  have hl := putB_len 1 s.size (by omega)
  go_enter Tryz.func119, Tryz.ntmps119
  go_wp2_with (first
    | (go_at_call 121; refine (put_any _ (by omega) (by omega) _).mono ?_; rintro e w1 ⟨g, cap, rfl, ho, he⟩; simp only [Int.toNat_natCast] at ho)
    | (at_builtin; refine wpList_append_src _ rfl _ _ 135 9 rfl w.heap.size 5 i0 (.int .u8 0) 1 1 Tryz.underlying135 hi hz0 hz1 hz2 rfl (by decide) _ _ _ rfl ho _ s.size _ rfl (Src.ofString _ Tryz.underlying9 s) ?c3 ?c4 ?c5 ?_))
  case c3 => unfold maxLen; omega
  case c4 => omega
  case c5 => exact he.size
  intro v' w2 hown' hgrow _
  go_wp2
  go_ret
  refine OwnB.mk' (by have := putB_pos s.size; simp; omega) ?_ (he.grown hgrow fun k hk => (ho.lt k hk).1)
  rw [cellsB_string, ← cellsB_append] at hown'
  simpa using hown'
theorem news_one {w : World} {N : Nat} {x : Value} (h : w.cell? ⟨N, 0, none⟩ = some x) : ∀ j u, [x][j]? = some u → w.cell? ((⟨N, 0, none⟩ : Addr).add j) = some u := by
  intro j u hu
  match j, hu with
  | 0, hu => simp at hu; subst hu; simpa [Addr.add] using h
  | j + 1, hu => simp at hu
/-- a value's bytes -/
def encB (k i : Int) (s : ByteArray) : List UInt8 :=
  if k = 1 then [1, UInt8.ofNat i.toNat] else if k = 2 then 2 :: putB (zigZ i).toNat else if k = 3 then 3 :: (putB s.size ++ s.data.toList) else [0]
set_option maxHeartbeats 400000 in
theorem enc_nil (s : ByteArray) (h : mayB 0 0 s = true) (w : World) :
    Calls Tryz.prog 120 #[.agg #[.int .i64 0, .int .i64 0, .string s]] w fun e w' => OwnB w w' e [0] := by
  go_enter Tryz.func120, Tryz.ntmps120
  go_wp2_with (go_at_call 126; refine (vmay_any _ _ _ _).mono ?_; rintro e _ ⟨rfl, d, os, rfl⟩)
  go_ret
  exact ⟨_, _, rfl, by simpa [more_size, cellsB] using (own_lit (w := more (w.alloc (.cells #[.int .i64 0, .int .i64 0, .string s] 115)) d os) (t := 5) (.int .u8 0) (Nat.le_refl _)).mono (base' := w.heap.size) (by simp [more_size]; omega), by repeat (first | exact Ext.refl _ | apply Ext.alloc | apply Ext.more)⟩
set_option maxHeartbeats 400000 in
theorem enc_bool (i : Int) (s : ByteArray) (h0 : 0 ≤ i) (h1 : i ≤ 1) (h : mayB 1 i s = true) (w : World) :
    Calls Tryz.prog 120 #[.agg #[.int .i64 1, .int .i64 i, .string s]] w fun e w' => OwnB w w' e [1, UInt8.ofNat i.toNat] := by
  obtain ⟨i0, hi, hz0, hz1, hz2⟩ := info_parts u8info
  go_enter Tryz.func120, Tryz.ntmps120
  go_wp2_with (first
    | (go_at_call 126; refine (vmay_any _ _ _ _).mono ?_; rintro e _ ⟨rfl, d, os, rfl⟩)
    | (at_builtin; refine wpList_append_src _ rfl _ _ 135 135 rfl w.heap.size 5 i0 (.int .u8 0) 1 1 Tryz.underlying135 hi hz0 hz1 hz2 rfl (by decide) (.slice (some ⟨w.heap.size + 1 + os.size, 0, none⟩) 1 1) 1 [.int .u8 1] rfl ?c1 _ 1 [.int .u8 i] rfl ?c2 ?c3 ?c4 ?c5 ?_))
  case c1 => simpa [more_size] using ((own_lit (w := more (w.alloc (.cells #[.int .i64 1, .int .i64 i, .string s] 115)) d os) (t := 5) (.int .u8 1) (Nat.le_refl _)).alloc _).mono (base' := w.heap.size) (by simp [more_size]; omega)
  case c2 => exact Src.ofSlice _ Tryz.underlying135 _ _ _ [.int .u8 i] rfl (news_one (by simp [go_sem])) (by intro u hu; simp at hu; subst hu; rfl)
  case c3 => unfold maxLen; omega
  case c4 => omega
  case c5 => simp [more_size]; omega
  intro v' w2 hown' hgrow _
  go_wp2
  go_ret
  refine OwnB.mk' (by simp) ?_ (Ext.grown (by repeat (first | exact Ext.refl _ | apply Ext.alloc | apply Ext.more)) hgrow (by intro k hk; simp [Value.ownBlock] at hk; omega))
  have e : cellsB [1, UInt8.ofNat i.toNat] = [.int .u8 1] ++ [.int .u8 i] := cellsB_snoc [1] i h0 (by omega)
  rw [e]; simpa using hown'
set_option maxHeartbeats 400000 in
theorem enc_int (i : Int) (s : ByteArray) (h0 : -9223372036854775808 ≤ i) (h1 : i ≤ 9223372036854775807) (h : mayB 2 i s = true) (w : World) :
    Calls Tryz.prog 120 #[.agg #[.int .i64 2, .int .i64 i, .string s]] w fun e w' => OwnB w w' e (2 :: putB (zigZ i).toNat) := by
  obtain ⟨i0, hi, hz0, hz1, hz2⟩ := info_parts u8info
  have hlen : (putB (zigZ i).toNat).length ≤ 1000 := by
    have := zigZ_bd i h0 h1; have := putB_len 9 (zigZ i).toNat (by omega); omega
  obtain ⟨l, hl⟩ : ∃ l, putB (zigZ i).toNat = l := ⟨_, rfl⟩
  rw [hl] at hlen ⊢
  have Hl := Lib.hid hl
  clear hl
  go_enter Tryz.func120, Tryz.ntmps120
  go_wp2_with (first
    | (go_at_call 126; refine (vmay_any _ _ _ _).mono ?_; rintro e _ ⟨rfl, d, os, rfl⟩)
    | (go_at_call 136; refine (putint_any i h0 h1 _).mono ?_; rw [Hl.out]; rintro e _ ⟨g, cap, rfl, ho, d2, os2, rfl⟩)
    | (at_builtin; refine wpList_append_src _ rfl _ _ 135 135 rfl w.heap.size 5 i0 (.int .u8 0) 1 1 Tryz.underlying135 hi hz0 hz1 hz2 rfl (by decide) (.slice (some ⟨w.heap.size + 1 + os.size, 0, none⟩) 1 1) 1 [.int .u8 2] rfl ?c1 (.slice (some ⟨g, 0, none⟩) l.length cap) l.length (cellsB l) rfl ?c2 ?c3 ?c4 ?c5 ?_))
  case c1 => exact own_more (by simpa [more_size] using (own_lit (w := more (w.alloc (.cells #[.int .i64 2, .int .i64 i, .string s] 115)) d os) (t := 5) (.int .u8 2) (Nat.le_refl _)).mono (base' := w.heap.size) (by simp [more_size]; omega)) _ _
  case c2 => exact src_own Tryz.underlying135 ho (cellsB_one l)
  case c3 => unfold maxLen; omega
  case c4 => omega
  case c5 => simp [more_size]; omega
  intro v' w2 hown' hgrow _
  go_wp2
  go_ret
  refine OwnB.mk' (by simp) ?_ (Ext.grown (by repeat (first | exact Ext.refl _ | apply Ext.alloc | apply Ext.more)) hgrow (by intro k hk; simp [Value.ownBlock] at hk; omega))
  have e : cellsB (2 :: l) = [.int .u8 2] ++ cellsB l := rfl
  rw [e, List.length_cons]
  have a1 : l.length + 1 = 1 + l.length := by omega
  rw [a1]; exact hown'
set_option maxHeartbeats 400000 in
theorem enc_text (s : ByteArray) (hs : (s.size : Int) ≤ 64) (h : mayB 3 0 s = true) (w : World) :
    Calls Tryz.prog 120 #[.agg #[.int .i64 3, .int .i64 0, .string s]] w fun e w' => OwnB w w' e (3 :: (putB s.size ++ s.data.toList)) := by
  obtain ⟨i0, hi, hz0, hz1, hz2⟩ := info_parts u8info
  have hlen : ((putB s.size ++ s.data.toList)).length ≤ 1000 := by
    have := putB_len 1 s.size (by omega); have e : s.data.toList.length = s.size := by simp
    rw [List.length_append, e]; omega
  obtain ⟨l, hl⟩ : ∃ l, (putB s.size ++ s.data.toList) = l := ⟨_, rfl⟩
  rw [hl] at hlen ⊢
  have Hl := Lib.hid hl
  clear hl
  go_enter Tryz.func120, Tryz.ntmps120
  go_wp2_with (first
    | (go_at_call 126; refine (vmay_any _ _ _ _).mono ?_; rintro e _ ⟨rfl, d, os, rfl⟩)
    | (go_at_call 119; refine (puttext_any s (by omega) _).mono ?_; rw [Hl.out]; rintro e _ ⟨g, cap, rfl, ho, d2, os2, rfl⟩)
    | (at_builtin; refine wpList_append_src _ rfl _ _ 135 135 rfl w.heap.size 5 i0 (.int .u8 0) 1 1 Tryz.underlying135 hi hz0 hz1 hz2 rfl (by decide) (.slice (some ⟨w.heap.size + 1 + os.size, 0, none⟩) 1 1) 1 [.int .u8 3] rfl ?c1 (.slice (some ⟨g, 0, none⟩) l.length cap) l.length (cellsB l) rfl ?c2 ?c3 ?c4 ?c5 ?_))
  case c1 => exact own_more (by simpa [more_size] using (own_lit (w := more (w.alloc (.cells #[.int .i64 3, .int .i64 0, .string s] 115)) d os) (t := 5) (.int .u8 3) (Nat.le_refl _)).mono (base' := w.heap.size) (by simp [more_size]; omega)) _ _
  case c2 => exact src_own Tryz.underlying135 ho (cellsB_one l)
  case c3 => unfold maxLen; omega
  case c4 => omega
  case c5 => simp [more_size]; omega
  intro v' w2 hown' hgrow _
  go_wp2
  go_ret
  refine OwnB.mk' (by simp) ?_ (Ext.grown (by repeat (first | exact Ext.refl _ | apply Ext.alloc | apply Ext.more)) hgrow (by intro k hk; simp [Value.ownBlock] at hk; omega))
  have e : cellsB (3 :: l) = [.int .u8 3] ++ cellsB l := rfl
  rw [e, List.length_cons]
  have a1 : l.length + 1 = 1 + l.length := by omega
  rw [a1]; exact hown'
set_option maxHeartbeats 400000 in
theorem rput_any (v0 : Int) (h0 : 0 ≤ v0) (h1 : v0 ≤ 18446744073709551615) (w : World) :
    Calls Tryz.prog 116 #[.int .u64 v0] w fun e w' => e = .returned (.string ⟨(putB v0.toNat).toArray⟩) ∧ Ext w w' := by
  obtain ⟨i0, hi, hz0, hz1, hz2⟩ := info_parts u8info
  go_enter Tryz.func116, Tryz.ntmps116
  go_wp2_with fail
  go_loopw [0, 3] (fun vv out wr => ∃ (v : Int) (k : Nat) (done : List UInt8), 0 ≤ v ∧ v ≤ 18446744073709551615 ∧ vv = .int .u64 v ∧ k = done.length ∧ done ++ putB v.toNat = putB v0.toNat ∧ wr.ownsRow w.heap.size 5 1 out k (cellsB done) ∧ Ext w wr) (fun vv _ _ => (intOf vv).toNat)
  case atStart => exact ⟨v0, 0, [], h0, h1, rfl, rfl, rfl, World.ownsRow_nil _ _ _ _, Ext.refl _⟩
  case round =>
    obtain ⟨v, k, done, hv0, hv1, rfl, hk, hd, hown, hext⟩ := hrel
    have Hd := Lib.hid hd
    have Hk := Lib.hid hk
    clear hd hk
    have hka : k ≤ 10 := by
      have h2 := congrArg List.length Hd.out
      have h3 := putB_len 9 v0.toNat (by omega)
      have := Hk.out
      simp at h2; omega
    have hor := or128 v hv0
    by_cases hlt : v < 128
    · go_wp2_with (at_builtin; refine wpList_append_own_at _ rfl _ _ 135 rfl w.heap.size 5 i0 (.int .u8 0) 1 1 Tryz.underlying135 hi hz0 hz1 hz2 rfl (by decide) _ k (cellsB done) rfl (hown.alloc _) ⟨wr.heap.size, 0, none⟩ 1 1 [.int .u8 v] rfl rfl ?c1 ?c2 ?c3 ?c4 ?c5 ?_)
      case c1 => exact cell_one_new _ _ _
      case c2 => first | rfl | (intro u hu; simp at hu; subst hu; rfl)
      case c3 => unfold maxLen; omega
      case c4 => omega
      case c5 => have := hext.size; simp; omega
      intro v' w1 hown' hgrow _ _
      have e1 : putB v.toNat = [UInt8.ofNat v.toNat] := by rw [putB, if_pos (by omega)]
      have h2 := Hd.out
      rw [e1] at h2
      rw [← cellsB_snoc _ _ hv0 (by omega), h2] at hown'
      have hx := (hext.alloc (.cells #[.int .u8 v] 5)).grown hgrow (fun k hk => (hown.lt k hk).1)
      obtain ⟨g, cap, hv', _, _⟩ := hown'.form (by omega)
      rw [hv'] at hown' ⊢
      have hcv := conv_own (P := Tryz.prog) (src := 135) (dst := 9) Tryz.underlying135 Tryz.underlying5 Tryz.underlying9 hown'
      clear e1 h2 hown' hgrow hv'
      go_wp2
      go_ret
      exact ⟨rfl, hx⟩
    · go_wp2_with (at_builtin; refine wpList_append_own_at _ rfl _ _ 135 rfl w.heap.size 5 i0 (.int .u8 0) 1 1 Tryz.underlying135 hi hz0 hz1 hz2 rfl (by decide) _ k (cellsB done) rfl (hown.alloc _) ⟨wr.heap.size, 0, none⟩ 1 1 [.int .u8 (v % 128 + 128)] rfl rfl ?d1 ?d2 ?d3 ?d4 ?d5 ?_)
      try case d1 => exact cell_one_new _ _ _
      case d2 => first | rfl | (intro u hu; simp at hu; subst hu; rfl)
      case d3 => unfold maxLen; omega
      case d4 => omega
      case d5 => have := hext.size; simp; omega
      intro v' w1 hown' hgrow _ _
      go_wp2
      go_roundw
      case rel =>
        refine ⟨v / 128, k + 1, done ++ [UInt8.ofNat (v % 128 + 128).toNat], by omega, by omega, rfl, by have := Hk.out; simp [this], ?_, ?_, ?_⟩
        · rw [← Hd.out]
          have e1 : putB v.toNat = UInt8.ofNat (v % 128 + 128).toNat :: putB (v / 128).toNat := by
            rw [putB, if_neg (by omega)]
            have a1 : v.toNat % 128 + 128 = (v % 128 + 128).toNat := by omega
            have a2 : v.toNat / 128 = (v / 128).toNat := by omega
            rw [a1, a2]
          rw [e1]; simp
        · rw [cellsB_snoc _ _ (by omega) (by omega)]; exact hown'
        · exact (hext.alloc _).grown hgrow (fun k hk => (hown.lt k hk).1)
      case measure => simp [intOf]; omega
set_option maxHeartbeats 400000 in
theorem rtext_any (s : ByteArray) (hs : (s.size : Int) ≤ 9223372036854775000) (w : World) :
    Calls Tryz.prog 118 #[.string s] w fun e w' => e = .returned (.string (⟨(putB s.size).toArray⟩ ++ s)) ∧ Ext w w' := by
  have hl := putB_len 9 s.size (by omega)
  go_enter Tryz.func118, Tryz.ntmps118
  go_wp2_with (go_at_call 116; refine (rput_any (s.size : Int) (by omega) (by omega) _).mono ?_; rw [Int.toNat_natCast]; rintro e _ ⟨rfl, d, os, rfl⟩)
  go_ret
  exact ⟨rfl, (Ext.refl _).more _ _⟩
set_option maxHeartbeats 400000 in
theorem renc_nil (s : ByteArray) (w : World) :
    Calls Tryz.prog 90 #[.agg #[.int .i64 0, .int .i64 0, .string s]] w fun e w' => e = .returned (.string ⟨#[0]⟩) ∧ Ext w w' := by
  go_enter Tryz.func90, Tryz.ntmps90
  go_wp2
  go_ret
  exact ⟨rfl, (Ext.refl _).alloc _⟩
set_option maxHeartbeats 400000 in
theorem renc_int (i : Int) (s : ByteArray) (h0 : -9223372036854775808 ≤ i) (h1 : i ≤ 9223372036854775807) (w : World) :
    Calls Tryz.prog 90 #[.agg #[.int .i64 2, .int .i64 i, .string s]] w fun e w' => e = .returned (.string (⟨#[2]⟩ ++ ⟨(putB (zigZ i).toNat).toArray⟩)) ∧ Ext w w' := by
  obtain ⟨b0, b1⟩ := zigZ_bd i h0 h1
  have hl := putB_len 9 (zigZ i).toNat (by omega)
  go_enter Tryz.func90, Tryz.ntmps90
  go_wp2_with (first
    | (go_at_call 117; refine (rzig_any i h0 h1 _).mono ?_; rintro e _ ⟨rfl, d, os, rfl⟩)
    | (go_at_call 116; refine (rput_any (zigZ i) b0 b1 _).mono ?_; rintro e _ ⟨rfl, d, os, rfl⟩))
  go_ret
  exact ⟨rfl, by repeat (first | exact Ext.refl _ | apply Ext.alloc | apply Ext.more)⟩
set_option maxHeartbeats 400000 in
theorem renc_text (s : ByteArray) (hs : (s.size : Int) ≤ 64) (w : World) :
    Calls Tryz.prog 90 #[.agg #[.int .i64 3, .int .i64 0, .string s]] w fun e w' => e = .returned (.string (⟨#[3]⟩ ++ (⟨(putB s.size).toArray⟩ ++ s))) ∧ Ext w w' := by
  have hl := putB_len 9 s.size (by omega)
  go_enter Tryz.func90, Tryz.ntmps90
  go_wp2_with (go_at_call 118; refine (rtext_any s (by omega) _).mono ?_; rintro e _ ⟨rfl, d, os, rfl⟩)
  go_ret
  exact ⟨rfl, by repeat (first | exact Ext.refl _ | apply Ext.alloc | apply Ext.more)⟩
set_option maxHeartbeats 400000 in
theorem renc_bool (i : Int) (s : ByteArray) (h0 : 0 ≤ i) (h1 : i ≤ 1) (w : World) :
    Calls Tryz.prog 90 #[.agg #[.int .i64 1, .int .i64 i, .string s]] w fun e w' => e = .returned (.string (⟨#[1]⟩ ++ ⟨#[UInt8.ofNat i.toNat]⟩)) ∧ Ext w w' := by
  have hcv := fun (w : World) => conv_own (P := Tryz.prog) (src := 135) (dst := 9) Tryz.underlying135 Tryz.underlying5 Tryz.underlying9
    (show (w.alloc (.cells #[.int .u8 i] 5)).ownsRow 0 5 1 (.slice (some ⟨w.heap.size, 0, none⟩) 1 1) 1 (cellsB [UInt8.ofNat i.toNat]) from by
      have e : cellsB [UInt8.ofNat i.toNat] = [.int .u8 i] := cellsB_snoc [] i h0 (by omega)
      rw [e]; exact own_lit _ (Nat.zero_le _))
  have hcv1 := hcv (w.alloc (.cells #[.int .i64 1, .int .i64 i, .string s] 115))
  simp only [World.size_alloc] at hcv1
  clear hcv
  go_enter Tryz.func90, Tryz.ntmps90
  go_wp2
  go_ret
  exact ⟨rfl, by repeat (first | exact Ext.refl _ | apply Ext.alloc | apply Ext.more)⟩
/-- what may be, by its kind -/
theorem may_cases {k i : Int} {s : ByteArray} (h : mayB k i s = true) :
    (k = 0 ∧ i = 0 ∧ s.size = 0) ∨ (k = 1 ∧ 0 ≤ i ∧ i ≤ 1 ∧ s.size = 0) ∨ (k = 2 ∧ s.size = 0) ∨ (k = 3 ∧ i = 0 ∧ s.size ≤ 64) := by
  unfold mayB at h
  simp only [Bool.or_eq_true, Bool.and_eq_true, beq_iff_eq, decide_eq_true_eq] at h
  omega
theorem enc_any (k i : Int) (s : ByteArray) (h : mayB k i s = true) (h0 : -9223372036854775808 ≤ i) (h1 : i ≤ 9223372036854775807) (w : World) :
    Calls Tryz.prog 120 #[.agg #[.int .i64 k, .int .i64 i, .string s]] w fun e w' => OwnB w w' e (encB k i s) := by
  rcases may_cases h with ⟨rfl, rfl, _⟩ | ⟨rfl, a, b, _⟩ | ⟨rfl, _⟩ | ⟨rfl, rfl, a⟩
  · exact enc_nil s h w
  · exact enc_bool i s a b h w
  · exact enc_int i s h0 h1 h w
  · exact enc_text s (by omega) h w
theorem renc_any (k i : Int) (s : ByteArray) (h : mayB k i s = true) (h0 : -9223372036854775808 ≤ i) (h1 : i ≤ 9223372036854775807) (w : World) :
    Calls Tryz.prog 90 #[.agg #[.int .i64 k, .int .i64 i, .string s]] w fun e w' => e = .returned (.string ⟨(encB k i s).toArray⟩) ∧ Ext w w' := by
  have app : ∀ (x : UInt8) (l : List UInt8), (⟨#[x]⟩ : ByteArray) ++ ⟨l.toArray⟩ = ⟨(x :: l).toArray⟩ := fun x l => by
    apply ByteArray.ext
    simp [ByteArray.data_append]
  have app2 : ∀ (l : List UInt8) (s : ByteArray), (⟨l.toArray⟩ : ByteArray) ++ s = ⟨(l ++ s.data.toList).toArray⟩ := fun l s => by
    apply ByteArray.ext
    simp [ByteArray.data_append]
  rcases may_cases h with ⟨rfl, rfl, _⟩ | ⟨rfl, a, b, _⟩ | ⟨rfl, _⟩ | ⟨rfl, rfl, a⟩
  · exact renc_nil s w
  · have := renc_bool i s a b w
    rw [show (⟨#[UInt8.ofNat i.toNat]⟩ : ByteArray) = ⟨[UInt8.ofNat i.toNat].toArray⟩ from rfl, app] at this
    exact this
  · have := renc_int i s h0 h1 w
    rw [app] at this
    exact this
  · have := renc_text s (by omega) w
    rw [app2 (putB s.size) s, app] at this
    exact this
end Go.Proofs.YtpchohjkelopoaaGreatDoor

namespace Go.Proofs.YtpchohjkelopoaaGreatDoor
/-- the number with which bytes begin: k bytes are read, v is what they say -/
def cutG : Nat → Nat → List UInt8 → Nat × Nat × Int
  | _, _, [] => (0, 0, 2)
  | k, v, c :: l => if k = 9 ∧ 1 < c.toNat then (0, 0, 8) else if 128 ≤ c.toNat then cutG (k + 1) (v + c.toNat % 128 * 128 ^ k) l else if c.toNat = 0 ∧ 0 < k then (0, 0, 3) else (v + c.toNat * 128 ^ k, k + 1, 0)
theorem cutG_put : ∀ (m x k v : Nat) (tl : List UInt8), x ≤ m → x * 128 ^ k < 18446744073709551616 → (0 < k → 0 < x) → k ≤ 9 → cutG k v (putB x ++ tl) = (v + x * 128 ^ k, k + (putB x).length, 0) := by
  intro m
  induction m with
  | zero =>
    intro x k v tl hx hb hk h9
    have h0 : k = 0 := by omega
    have hx0 : x = 0 := by omega
    subst h0 hx0
    rw [putB, if_pos (by omega)]
    simp [cutG]
  | succ m ih =>
    intro x k v tl hx hb hk h9
    rw [putB]
    by_cases h : x < 128
    · rw [if_pos h]
      have e : (UInt8.ofNat x).toNat = x := by simp; omega
      simp only [List.cons_append, List.nil_append, cutG, e]
      have c1 : ¬ (k = 9 ∧ 1 < x) := by
        rintro ⟨rfl, h1⟩
        omega
      rw [if_neg c1, if_neg (by omega), if_neg (by omega)]
      simp
    · rw [if_neg h]
      have e : (UInt8.ofNat (x % 128 + 128)).toNat = x % 128 + 128 := by simp; omega
      have h9' : k < 9 := by
        rcases Nat.lt_or_ge k 9 with h' | h'
        · exact h'
        · have : k = 9 := by omega
          subst this
          omega
      have hp : x / 128 * 128 ^ (k + 1) ≤ x * 128 ^ k := by
        rw [Nat.pow_succ, Nat.mul_comm (128 ^ k), ← Nat.mul_assoc]
        exact Nat.mul_le_mul_right _ (Nat.div_mul_le_self _ _)
      simp only [List.cons_append, cutG, e]
      rw [if_neg (by omega), if_pos (by omega), ih (x / 128) (k + 1) _ tl (by omega) (by omega) (by omega) (by omega)]
      have e1 : (x % 128 + 128) % 128 = x % 128 := by omega
      have e2 : v + x % 128 * 128 ^ k + x / 128 * 128 ^ (k + 1) = v + x * 128 ^ k := by
        have : x = x % 128 + x / 128 * 128 := by omega
        generalize x / 128 = q at *
        generalize x % 128 = r at *
        subst this
        rw [Nat.pow_succ, Nat.add_mul, Nat.mul_comm (128 ^ k) 128, ← Nat.mul_assoc]
        omega
      rw [e1, e2]
      simp; omega
theorem pow_split : ∀ k, k ≤ 8 → ∃ M, 128 ^ (k + 1) * M = 18446744073709551616 := by
  intro k hk
  refine ⟨2 ^ (57 - 7 * k), ?_⟩
  have : (128 : Nat) = 2 ^ 7 := rfl
  rw [this, ← Nat.pow_mul, ← Nat.pow_add, show 7 * (k + 1) + (57 - 7 * k) = 64 from by omega]
/-- what is cut has just these bytes -/
theorem cutG_back : ∀ (l : List UInt8) (k v x n : Nat), k ≤ 9 → cutG k v l = (x, n, 0) → ∃ y, x = v + y * 128 ^ k ∧ k < n ∧ n ≤ k + l.length ∧ putB y = l.take (n - k) ∧ (0 < k → 0 < y) ∧ y * 128 ^ k < 18446744073709551616 := by
  intro l
  induction l with
  | nil => intro k v x n _ h; simp [cutG] at h
  | cons c l ih =>
    intro k v x n hk h
    unfold cutG at h
    have hc := c.toNat_lt
    by_cases c1 : k = 9 ∧ 1 < c.toNat
    · rw [if_pos c1] at h; simp at h
    rw [if_neg c1] at h
    by_cases c2 : 128 ≤ c.toNat
    · rw [if_pos c2] at h
      obtain ⟨y, h1, h2, h3, h4, h5, h6⟩ := ih _ _ _ _ (by omega) h
      have hy : 0 < y := h5 (by omega)
      have ep : 128 ^ (k + 1) = 128 * 128 ^ k := by rw [Nat.pow_succ, Nat.mul_comm]
      have e3 : (c.toNat % 128 + y * 128) * 128 ^ k = c.toNat % 128 * 128 ^ k + y * 128 ^ (k + 1) := by
        rw [ep, Nat.add_mul, Nat.mul_assoc]
      refine ⟨c.toNat % 128 + y * 128, ?_, by omega, by simp; omega, ?_, by omega, ?_⟩
      · rw [h1, e3]; omega
      · rw [putB, if_neg (by omega)]
        have e1 : UInt8.ofNat ((c.toNat % 128 + y * 128) % 128 + 128) = c := by
          apply UInt8.toNat_inj.1
          simp; omega
        have e2 : (c.toNat % 128 + y * 128) / 128 = y := by omega
        rw [e1, e2, h4]
        have e4 : n - k = (n - (k + 1)) + 1 := by omega
        rw [e4, List.take_succ_cons]
      · rw [e3]
        have hk8 : k < 9 := by omega
        -- y * 128^(k+1) < 2^64 and a multiple of 128^(k+1)
        have hb : c.toNat % 128 * 128 ^ k < 128 ^ (k + 1) := by
          rw [ep]; exact Nat.mul_lt_mul_of_pos_right (by omega) (Nat.pow_pos (by omega))
        obtain ⟨M, hM⟩ := pow_split k (by omega)
        rw [← hM] at h6 ⊢
        have hyM : y < M := by
          rcases Nat.lt_or_ge y M with h' | h'
          · exact h'
          · have := Nat.mul_le_mul_left (128 ^ (k + 1)) h'
            rw [Nat.mul_comm _ y] at this
            omega
        have := Nat.mul_le_mul_left (128 ^ (k + 1)) hyM
        rw [Nat.mul_comm _ (y + 1), Nat.succ_mul] at this
        omega
    · rw [if_neg c2] at h
      by_cases c3 : c.toNat = 0 ∧ 0 < k
      · rw [if_pos c3] at h; simp at h
      rw [if_neg c3] at h
      simp only [Prod.mk.injEq, and_true] at h
      obtain ⟨rfl, rfl⟩ := h
      refine ⟨c.toNat, rfl, by omega, by simp, ?_, by omega, ?_⟩
      · rw [putB, if_pos (by omega)]
        have : k + 1 - k = 1 := by omega
        rw [this]
        have : UInt8.ofNat c.toNat = c := by apply UInt8.toNat_inj.1; simp
        rw [this]; simp
      · by_cases h9 : k = 9
        · subst h9; omega
        · obtain ⟨M, hM⟩ := pow_split k (by omega)
          rw [← hM]
          have ep : 128 ^ (k + 1) = 128 * 128 ^ k := by rw [Nat.pow_succ, Nat.mul_comm]
          have hp : 0 < 128 ^ k := Nat.pow_pos (by omega)
          have hM0 : 0 < M := by
            rcases Nat.eq_zero_or_pos M with h' | h'
            · subst h'; omega
            · exact h'
          have h1 := Nat.mul_le_mul_left (128 ^ (k + 1)) hM0
          have h2 : c.toNat * 128 ^ k < 128 * 128 ^ k := Nat.mul_lt_mul_of_pos_right (by omega) hp
          omega
/-! ### the reference's way: the bytes ahead that say that more follow, then from the last one back -/
/-- how many bytes ahead say that more follow, f at most -/
def contN : Nat → List UInt8 → Nat
  | _, [] => 0
  | 0, _ :: _ => 0
  | f + 1, c :: l => if 128 ≤ c.toNat then contN f l + 1 else 0
/-- what bytes say -/
def valB : List UInt8 → Nat
  | [] => 0
  | c :: l => c.toNat % 128 + 128 * valB l
theorem cutG_ref : ∀ (l : List UInt8) (k v : Nat), k ≤ 9 → cutG k v l =
    (let n := contN (9 - k) l
     if l.length ≤ n then (0, 0, 2) else if k + n = 9 ∧ 1 < (l.getD n 0).toNat then (0, 0, 8) else if (l.getD n 0).toNat = 0 ∧ 0 < k + n then (0, 0, 3) else (v + valB (l.take (n + 1)) * 128 ^ k, k + n + 1, 0)) := by
  intro l
  induction l with
  | nil => intro k v _; simp [cutG, contN]
  | cons c l ih =>
    intro k v hk
    have hc := c.toNat_lt
    unfold cutG
    rcases Nat.lt_or_ge k 9 with h9 | h9
    · have e9 : 9 - k = (9 - (k + 1)) + 1 := by omega
      rw [if_neg (by omega), e9]
      by_cases c2 : 128 ≤ c.toNat
      · rw [if_pos c2, ih (k + 1) _ (by omega)]
        simp only [contN, c2, if_true, List.length_cons, Nat.add_le_add_iff_right, List.getD_cons_succ, List.take_succ_cons, valB]
        have e1 : k + 1 + contN (9 - (k + 1)) l = k + (contN (9 - (k + 1)) l + 1) := by omega
        have e2 : ∀ z, v + c.toNat % 128 * 128 ^ k + z * 128 ^ (k + 1) = v + (c.toNat % 128 + 128 * z) * 128 ^ k := by
          intro z
          rw [Nat.add_mul, Nat.pow_succ, Nat.mul_comm 128 z, Nat.mul_assoc, Nat.mul_comm (128 ^ k) 128]
          omega
        rw [e1, e2]
      · rw [if_neg c2]
        simp [contN, c2, valB]
        have : ¬ k = 9 := by omega
        simp [this]
        by_cases c3 : c.toNat = 0 ∧ 0 < k
        · simp [c3]
        · rw [if_neg c3, if_neg (by simpa using c3)]
          have : c.toNat % 128 = c.toNat := by omega
          rw [this]
    · have : k = 9 := by omega
      subst this
      simp [contN, valB]
      by_cases c1 : 1 < c.toNat
      · simp [c1]
      · simp [c1]
        rw [if_neg (by omega)]
        by_cases c3 : c.toNat = 0
        · simp [c3]
        · simp [c3]; omega
end Go.Proofs.YtpchohjkelopoaaGreatDoor

set_option maxRecDepth 20000
namespace Go.Proofs.YtpchohjkelopoaaGreatDoor
open Go.RowKit
theorem BytesAt.lt {w : World} {b off : Nat} {l : List UInt8} (h : BytesAt w b off l) (hl : 0 < l.length) : b < w.heap.size := by
  have h0 := h 0 l[0] (by simp [List.getElem?_eq_getElem hl])
  rcases Nat.lt_or_ge b w.heap.size with h' | h'
  · exact h'
  · unfold World.cell? at h0
    simp [Array.getElem?_eq_none h'] at h0
theorem BytesAt.ext {w w' : World} {b off : Nat} {l : List UInt8} (h : BytesAt w b off l) (hx : Ext w w') : BytesAt w' b off l := by
  intro j u hj
  have hb := h.lt (by have := (List.getElem?_eq_some_iff.1 hj).1; omega)
  obtain ⟨d, os, rfl⟩ := hx
  rw [more_cell _ _ _ _ _ hb]
  exact h j u hj
theorem BytesAt.drop {w : World} {b off : Nat} {l : List UInt8} (h : BytesAt w b off l) (n : Nat) : BytesAt w b (off + n) (l.drop n) := by
  intro j u hj
  rw [List.getElem?_drop] at hj
  have := h _ _ hj
  rw [Nat.add_assoc]; exact this
theorem BytesAt.take {w : World} {b off : Nat} {l : List UInt8} (h : BytesAt w b off l) (n : Nat) : BytesAt w b off (l.take n) := by
  intro j u hj
  rw [List.getElem?_take] at hj
  split at hj
  · exact h _ _ hj
  · simp at hj
theorem pow7 (k : Nat) : (2 : Int) ^ (7 * k) = ((128 ^ k : Nat) : Int) := by
  rw [Nat.pow_mul' 2 7 k |> fun h => (by rw [Int.pow_mul]; rfl : (2 : Int) ^ (7 * k) = (128 : Int) ^ k)]
  simp
theorem wrap_u64 (n : Int) : IntKind.u64.wrap n = n % 18446744073709551616 := by simp [IntKind.wrap, IntKind.bits, IntKind.signed]
theorem u64_nat (n : Nat) (h : n < 18446744073709551616) : IntKind.u64.wrap (n : Int) = (n : Int) := by rw [wrap_u64]; omega
theorem or_last (v c k : Nat) (hk : k ≤ 9) (hv : v < 128 ^ k) (h : c * 128 ^ k < 18446744073709551616) :
    bits BinOp.or IntKind.u64 (v : Int) (IntKind.u64.wrap ((c : Int) * 2 ^ (7 * k))) = ((v + c * 128 ^ k : Nat) : Int) := by
  have hp : 128 ^ k ≤ 128 ^ 9 := Nat.pow_le_pow_right (by omega) hk
  rw [pow7, ← Int.natCast_mul, u64_nat _ h, u64_or_nat _ _ (by omega) h, Nat.or_comm]
  have e : (128 : Nat) ^ k = 2 ^ (7 * k) := by rw [Nat.pow_mul]
  rw [nat_join (7 * k) (c * 128 ^ k) v (by rw [e]; exact Nat.mul_mod_left _ _) (by rw [← e]; exact hv), Nat.add_comm]
theorem and127 (c : Nat) (hc : c < 256) : bits BinOp.and IntKind.u8 (c : Int) 127 = ((c % 128 : Nat) : Int) := by
  have := u8_and_nat c 127 hc (by omega)
  rw [nat_mask7] at this
  exact this
theorem or_step (v c k : Nat) (hc : c < 256) (hk : k ≤ 9) (hv : v < 128 ^ k) (h : c % 128 * 128 ^ k < 18446744073709551616) :
    bits BinOp.or IntKind.u64 (v : Int) (IntKind.u64.wrap (IntKind.u64.wrap (bits BinOp.and IntKind.u8 (c : Int) 127) * 2 ^ (7 * k))) = ((v + c % 128 * 128 ^ k : Nat) : Int) := by
  rw [and127 c hc, u64_nat _ (by omega), or_last v (c % 128) k hk hv h]
theorem ret_int3 {k k' k'' : IntKind} {a b c a' b' c' : Int} (h : a = a') (h' : b = b') (h'' : c = c') : Ending.returned (.tuple #[.int k a, .int k' b, .int k'' c]) = .returned (.tuple #[.int k a', .int k' b', .int k'' c']) := by rw [h, h', h'']
theorem pow_small {k c : Nat} (hk : k ≤ 8) (hc : c < 128) : c * 128 ^ k < 18446744073709551616 ∧ 128 ^ (k + 1) ≤ 9223372036854775808 := by
  obtain ⟨M, hM⟩ := pow_split k hk
  have ep : 128 ^ (k + 1) = 128 * 128 ^ k := by rw [Nat.pow_succ, Nat.mul_comm]
  have hp : 0 < 128 ^ k := Nat.pow_pos (by omega)
  have h1 : 128 ^ (k + 1) ≤ 128 ^ 9 := Nat.pow_le_pow_right (by omega) (by omega)
  have h2 : c * 128 ^ k < 128 * 128 ^ k := Nat.mul_lt_mul_of_pos_right hc hp
  omega
set_option maxHeartbeats 1000000 in
set_option maxRecDepth 20000 in
theorem vcut_core (b off cap : Nat) (l : List UInt8) (w : World) (hm : l.length ≤ maxLen) (hb : BytesAt w b off l) (x n : Nat) (e : Int) (hr : cutG 0 0 l = (x, n, e)) :
    Calls Tryz.prog 148 #[.slice (some ⟨b, off, none⟩) l.length cap] w fun r w' => r = .returned (.tuple #[.int .u64 (x : Int), .int .i64 (n : Int), .int .i64 e]) ∧ Ext w w' := by
  unfold maxLen at hm
  obtain ⟨len, hlen⟩ : ∃ len, l.length = len := ⟨_, rfl⟩
  have HL := Lib.hid hlen
  rw [hlen] at hm ⊢
  clear hlen
  have HB := Lib.hid hb
  have HR := Lib.hid hr
  clear hb hr
  go_enter Tryz.func148, Tryz.ntmps148
  go_wp2
  go_step3
  go_wp2
  go_step3
  go_wp2
  go_loop [5, 10] (fun vv ii => ∃ (k v : Nat), k ≤ 9 ∧ k ≤ len ∧ vv = .int .u64 v ∧ ii = .int .i64 k ∧ v < 128 ^ k ∧ cutG k v (l.drop k) = (x, n, e)) (fun _ ii => len - (intOf ii).toNat)
  case atStart => exact ⟨0, 0, by omega, by omega, rfl, rfl, by simp, by simpa using HR.out⟩
  case round =>
    obtain ⟨k, v, hk9, hkn, rfl, rfl, hv, hr⟩ := hrel
    have HV := Lib.hid hv
    clear hv HR
    by_cases hlt : k < len
    · have hkl : k < l.length := by rw [HL.out]; exact hlt
      obtain ⟨u, hu⟩ : ∃ u, l[k] = u := ⟨_, rfl⟩
      have hc := HB.out k u (by rw [← hu]; exact List.getElem?_eq_getElem hkl)
      have hd : l.drop k = u :: l.drop (k + 1) := by rw [← hu]; exact List.drop_eq_getElem_cons hkl
      rw [hd] at hr
      unfold cutG at hr
      have hc2 := u.toNat_lt
      generalize u.toNat = c at hr hc hc2
      have hc3 : c < 256 := hc2
      clear hc2 hd hu hkl
      by_cases h9 : k = 9
      · subst h9
        by_cases h1 : 1 < c
        · rw [if_pos ⟨rfl, h1⟩] at hr
          simp only [Prod.mk.injEq] at hr
          obtain ⟨rfl, rfl, rfl⟩ := hr
          go_wp2
          try rw [Exit.noGoto_ret]
          go_ret3
          exact ⟨rfl, Ext.refl _⟩
        · rw [if_neg (by omega), if_neg (by omega)] at hr
          by_cases h0 : c = 0
          · subst h0
            rw [if_pos ⟨rfl, by omega⟩] at hr
            simp only [Prod.mk.injEq] at hr
            obtain ⟨rfl, rfl, rfl⟩ := hr
            go_wp2
            try rw [Exit.noGoto_ret]
            go_ret3
            exact ⟨rfl, Ext.refl _⟩
          · have e1 : c = 1 := by omega
            subst e1
            rw [if_neg (by omega)] at hr
            simp only [Prod.mk.injEq] at hr
            have Hr := Lib.hid hr
            clear hr
            go_wp2
            try rw [Exit.noGoto_ret]
            go_ret3
            obtain ⟨rfl, rfl, rfl⟩ := Hr.out
            refine ⟨ret_int3 ?_ ?_ rfl, Ext.refl _⟩
            · have := or_last v 1 9 (by omega) HV.out (by omega)
              simpa [wrap_u64] using this
            · simp
      · have h9' : ((k : Int) == 9) = false := by simp; omega
        have hk8 : k ≤ 8 := by omega
        rw [if_neg (by omega)] at hr
        clear h9 hk9
        by_cases h1 : 128 ≤ c
        · rw [if_pos h1] at hr
          have Hr := Lib.hid hr
          clear hr
          go_wp2
          go_round
          case rel =>
            have hs := pow_small hk8 (Nat.mod_lt c (show 0 < 128 by omega))
            refine ⟨k + 1, v + c % 128 * 128 ^ k, by omega, by omega, by rw [or_step v c k hc3 (by omega) HV.out hs.1], by go_num, ?_, Hr.out⟩
            have h1 := HV.out
            have h2 : c % 128 * 128 ^ k ≤ 127 * 128 ^ k := Nat.mul_le_mul_right _ (by omega)
            rw [Nat.pow_succ]; omega
          case measure => simp [intOf]; omega
        · rw [if_neg h1] at hr
          by_cases h0 : c = 0
          · subst h0
            by_cases hk0 : k = 0
            · subst hk0
              rw [Nat.add_zero] at hc
              rw [if_neg (by omega)] at hr
              simp only [Prod.mk.injEq] at hr
              have Hr := Lib.hid hr
              clear hr
              go_wp2
              try rw [Exit.noGoto_ret]
              go_ret3
              obtain ⟨rfl, rfl, rfl⟩ := Hr.out
              refine ⟨ret_int3 ?_ ?_ rfl, Ext.refl _⟩
              · have := or_last v 0 0 (by omega) HV.out (by omega)
                simpa [wrap_u64] using this
              · simp
            · have hk1 : 0 < k := by omega
              clear hk0
              rw [if_pos ⟨rfl, hk1⟩] at hr
              simp only [Prod.mk.injEq] at hr
              obtain ⟨rfl, rfl, rfl⟩ := hr
              go_wp2
              try rw [Exit.noGoto_ret]
              go_ret3
              exact ⟨rfl, Ext.refl _⟩
          · have h0' : ((c : Int) == 0) = false := by simp; omega
            rw [if_neg (by omega)] at hr
            simp only [Prod.mk.injEq] at hr
            have Hr := Lib.hid hr
            have hs := Lib.hid (pow_small hk8 (show c < 128 by omega)).1
            clear hr h0
            go_wp2
            try rw [Exit.noGoto_ret]
            go_ret3
            obtain ⟨rfl, rfl, rfl⟩ := Hr.out
            refine ⟨ret_int3 ?_ ?_ rfl, Ext.refl _⟩
            · have := or_last v c k (by omega) HV.out hs.out
              simpa using this
            · simp
    · have hk' : k = len := by omega
      have : l.drop k = [] := by apply List.drop_eq_nil_of_le; have := HL.out; omega
      rw [this] at hr
      simp only [cutG, Prod.mk.injEq] at hr
      obtain ⟨rfl, rfl, rfl⟩ := hr
      subst hk'
      clear hlt this
      go_wp2
      try rw [Exit.noGoto_ret]
      go_ret3
      exact ⟨rfl, Ext.refl _⟩
end Go.Proofs.YtpchohjkelopoaaGreatDoor
