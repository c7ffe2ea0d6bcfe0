/- Lemmas for the claim (texts Key2, Lf1, Lf2, Lf3, what its proof uses of them). -/
import Derived.Test.YtpchohjkelopoaaGreatDoorK02
import Derived.Test.YtpchohjkelopoaaGreatDoorK05
set_option linter.unusedSimpArgs false
set_option linter.unusedVariables false
set_option maxRecDepth 20000
namespace Go.Proofs.YtpchohjkelopoaaGreatDoor
open Go.RowKit
attribute [go_sem] more_more Array.size_append
theorem u8_eq (c : UInt8) (n : Nat) (hn : n < 256) : (c == UInt8.ofNat n) = decide (c.toNat = n) := by
  rw [Bool.eq_iff_iff, beq_iff_eq, decide_eq_true_eq]
  constructor
  · rintro rfl; simp; omega
  · intro h; subst h; simp
theorem signB_nat (c : UInt8) : signB c = decide ((97 ≤ c.toNat ∧ c.toNat ≤ 122) ∨ (48 ≤ c.toNat ∧ c.toNat ≤ 57) ∨ c.toNat = 45 ∨ c.toNat = 46 ∨ c.toNat = 47 ∨ c.toNat = 95) := by
  unfold signB
  rw [show (45 : UInt8) = UInt8.ofNat 45 from rfl, show (46 : UInt8) = UInt8.ofNat 46 from rfl, show (47 : UInt8) = UInt8.ofNat 47 from rfl, show (95 : UInt8) = UInt8.ofNat 95 from rfl, u8_eq _ _ (by omega), u8_eq _ _ (by omega), u8_eq _ _ (by omega), u8_eq _ _ (by omega)]
  rw [Bool.eq_iff_iff]
  simp only [Bool.or_eq_true, decide_eq_true_eq]
  omega
set_option maxHeartbeats 4000000 in
theorem rsign_any (c : UInt8) (w : World) : Calls Tryz.prog 132 #[.int .u8 (c.toNat : Int)] w fun e w' => e = .returned (.bool (signB c)) ∧ Ext w w' := by
  have e := signB_nat c
  obtain ⟨n, hn⟩ : ∃ n, c.toNat = n := ⟨_, rfl⟩
  have hc1 : (n : Int) < 256 := by have := c.toNat_lt; omega
  rw [e, hn]
  clear e hn
  have hc : (n : Int) < 45 ∨ n = 45 ∨ n = 46 ∨ n = 47 ∨ (48 ≤ (n : Int) ∧ (n : Int) ≤ 57) ∨ (57 < (n : Int) ∧ (n : Int) < 95) ∨ n = 95 ∨ n = 96 ∨ (97 ≤ (n : Int) ∧ (n : Int) ≤ 122) ∨ 122 < (n : Int) := by omega
  rcases hc with h | rfl | rfl | rfl | ⟨h, h'⟩ | ⟨h, h'⟩ | rfl | rfl | ⟨h, h'⟩ | h
  · have q45 : ((n : Int) == 45) = false := by rw [beq_eq_false_iff_ne]; omega
    have q46 : ((n : Int) == 46) = false := by rw [beq_eq_false_iff_ne]; omega
    have q47 : ((n : Int) == 47) = false := by rw [beq_eq_false_iff_ne]; omega
    have q95 : ((n : Int) == 95) = false := by rw [beq_eq_false_iff_ne]; omega
    rw [decide_eq_false (by omega)]; go_enter Tryz.func132, Tryz.ntmps132; go_wp2_with fail; go_ret; exact ⟨rfl, Ext.refl _⟩
  · rw [decide_eq_true (by omega)]; go_enter Tryz.func132, Tryz.ntmps132; go_wp2_with fail; go_ret; exact ⟨rfl, Ext.refl _⟩
  · rw [decide_eq_true (by omega)]; go_enter Tryz.func132, Tryz.ntmps132; go_wp2_with fail; go_ret; exact ⟨rfl, Ext.refl _⟩
  · rw [decide_eq_true (by omega)]; go_enter Tryz.func132, Tryz.ntmps132; go_wp2_with fail; go_ret; exact ⟨rfl, Ext.refl _⟩
  · have q45 : ((n : Int) == 45) = false := by rw [beq_eq_false_iff_ne]; omega
    have q46 : ((n : Int) == 46) = false := by rw [beq_eq_false_iff_ne]; omega
    have q47 : ((n : Int) == 47) = false := by rw [beq_eq_false_iff_ne]; omega
    have q95 : ((n : Int) == 95) = false := by rw [beq_eq_false_iff_ne]; omega
    rw [decide_eq_true (by omega)]; go_enter Tryz.func132, Tryz.ntmps132; go_wp2_with fail; go_ret; exact ⟨rfl, Ext.refl _⟩
  · have q45 : ((n : Int) == 45) = false := by rw [beq_eq_false_iff_ne]; omega
    have q46 : ((n : Int) == 46) = false := by rw [beq_eq_false_iff_ne]; omega
    have q47 : ((n : Int) == 47) = false := by rw [beq_eq_false_iff_ne]; omega
    have q95 : ((n : Int) == 95) = false := by rw [beq_eq_false_iff_ne]; omega
    have l57 : decide ((n : Int) ≤ 57) = false := decide_eq_false (by omega)
    rw [decide_eq_false (by omega)]; go_enter Tryz.func132, Tryz.ntmps132; go_wp2_with fail; go_ret; exact ⟨rfl, Ext.refl _⟩
  · rw [decide_eq_true (by omega)]; go_enter Tryz.func132, Tryz.ntmps132; go_wp2_with fail; go_ret; exact ⟨rfl, Ext.refl _⟩
  · rw [decide_eq_false (by omega)]; go_enter Tryz.func132, Tryz.ntmps132; go_wp2_with fail; go_ret; exact ⟨rfl, Ext.refl _⟩
  · have q45 : ((n : Int) == 45) = false := by rw [beq_eq_false_iff_ne]; omega
    have q46 : ((n : Int) == 46) = false := by rw [beq_eq_false_iff_ne]; omega
    have q47 : ((n : Int) == 47) = false := by rw [beq_eq_false_iff_ne]; omega
    have q95 : ((n : Int) == 95) = false := by rw [beq_eq_false_iff_ne]; omega
    rw [decide_eq_true (by omega)]; go_enter Tryz.func132, Tryz.ntmps132; go_wp2_with fail; go_ret; exact ⟨rfl, Ext.refl _⟩
  · have q45 : ((n : Int) == 45) = false := by rw [beq_eq_false_iff_ne]; omega
    have q46 : ((n : Int) == 46) = false := by rw [beq_eq_false_iff_ne]; omega
    have q47 : ((n : Int) == 47) = false := by rw [beq_eq_false_iff_ne]; omega
    have q95 : ((n : Int) == 95) = false := by rw [beq_eq_false_iff_ne]; omega
    have l122 : decide ((n : Int) ≤ 122) = false := decide_eq_false (by omega)
    have l57 : decide ((n : Int) ≤ 57) = false := decide_eq_false (by omega)
    rw [decide_eq_false (by omega)]; go_enter Tryz.func132, Tryz.ntmps132; go_wp2_with fail; go_ret; exact ⟨rfl, Ext.refl _⟩
set_option maxHeartbeats 2000000 in
theorem rpat_any (s : ByteArray) (hs : s.size ≤ maxLen) (w : World) : Calls Tryz.prog 106 #[.string s] w fun e w' => e = .returned (.bool (patB s)) ∧ Ext w w' := by
  unfold maxLen at hs
  go_enter Tryz.func106, Tryz.ntmps106
  go_wp2_with fail
  go_loopw [3] (fun i wr => ∃ k : Nat, i = .int .i64 (k : Int) ∧ k ≤ s.size ∧ (s.data.toList.take k).all signB = true ∧ Ext w wr) (fun i _ => s.size - (intOf i).toNat)
  case atStart => exact ⟨0, rfl, Nat.zero_le _, rfl, Ext.refl _⟩
  case round =>
    obtain ⟨k, rfl, hk, hall, d, os, rfl⟩ := hrel
    have HA := Lib.hid hall
    clear hall
    by_cases hlt : k < s.size
    · cases hsg : signB s[k] with
      | true =>
        have HG := Lib.hid hsg
        clear hsg
        go_wp2_with (go_at_call 132; refine (rsign_any _ _).mono ?_; rw [HG.out]; rintro e _ ⟨rfl, d2, os2, rfl⟩)
        go_roundw
        case rel => exact ⟨k + 1, by go_num, by omega, all_snoc _ k (by simpa using hlt) _ HA.out HG.out, by repeat (first | exact Ext.refl _ | apply Ext.alloc | apply Ext.more)⟩
        case measure => simp [intOf]; omega
      | false =>
        have HG := Lib.hid hsg
        clear hsg
        go_wp2_with (go_at_call 132; refine (rsign_any _ _).mono ?_; rw [HG.out]; rintro e _ ⟨rfl, d2, os2, rfl⟩)
        go_ret
        rw [patB_no (all_no _ k (by simpa using hlt) _ HG.out)]
        exact ⟨rfl, by repeat (first | exact Ext.refl _ | apply Ext.alloc | apply Ext.more)⟩
    · by_cases h24 : s.size ≤ 24
      · have h24' : (s.size : Int) ≤ 24 := by omega
        go_wp2_with fail
        go_ret
        rw [patB_yes h24 (by rw [List.take_of_length_le (by rw [ba_len]; omega)] at HA; exact HA.out)]
        exact ⟨rfl, by repeat (first | exact Ext.refl _ | apply Ext.alloc | apply Ext.more)⟩
      · have h24' : ¬ (s.size : Int) ≤ 24 := by omega
        go_wp2_with fail
        go_ret
        rw [patB_long h24]
        exact ⟨rfl, by repeat (first | exact Ext.refl _ | apply Ext.alloc | apply Ext.more)⟩
set_option maxHeartbeats 1000000 in
theorem rkis_any (s : ByteArray) (hs : s.size ≤ maxLen) (w : World) : Calls Tryz.prog 79 #[.string s] w fun e w' => e = .returned (.bool (keyB s)) ∧ Ext w w' := by
  by_cases h0 : 0 < s.size
  · have h0' : (0 : Int) < (s.size : Int) := by omega
    have e : keyB s = patB s := by unfold keyB; simp [h0]
    rw [e]
    clear e
    go_enter Tryz.func79, Tryz.ntmps79
    go_wp2_with (go_at_call 106; refine (rpat_any s hs _).mono ?_; rintro e _ ⟨rfl, d2, os2, rfl⟩)
    go_ret
    exact ⟨rfl, by repeat (first | exact Ext.refl _ | apply Ext.alloc | apply Ext.more)⟩
  · have h0' : ¬ (0 : Int) < (s.size : Int) := by omega
    have e : keyB s = false := by unfold keyB; simp [h0]
    rw [e]
    clear e
    go_enter Tryz.func79, Tryz.ntmps79
    go_wp2_with fail
    go_ret
    exact ⟨rfl, by repeat (first | exact Ext.refl _ | apply Ext.alloc | apply Ext.more)⟩
theorem take_snoc2 (a b : ByteArray) (k : Nat) (ha : k < a.size) (hb : k < b.size) (h : a.data.toList.take k = b.data.toList.take k) (e : (a[k].toNat : Int) = b[k].toNat) : a.data.toList.take (k + 1) = b.data.toList.take (k + 1) := by
  have e2 : a[k] = b[k] := UInt8.toNat_inj.1 (by omega)
  rw [List.take_succ_eq_append_getElem (by simpa using ha), List.take_succ_eq_append_getElem (by simpa using hb), h]
  exact congrArg (fun x => _ ++ [x]) e2
set_option maxHeartbeats 4000000 in
theorem ahead_any (a b : ByteArray) (ha : a.size ≤ maxLen) (hb : b.size ≤ maxLen) (w : World) : Calls Tryz.prog 98 #[.string a, .string b] w fun e w' => e = .returned (.bool (ltB a b)) ∧ Ext w w' := by
  unfold maxLen at ha hb
  go_enter Tryz.func98, Tryz.ntmps98
  go_wp2_with fail
  go_loopw [5] (fun i wr => ∃ k : Nat, i = .int .i64 (k : Int) ∧ k ≤ a.size ∧ k ≤ b.size ∧ a.data.toList.take k = b.data.toList.take k ∧ Ext w wr) (fun i _ => a.size - (intOf i).toNat)
  case atStart => exact ⟨0, rfl, Nat.zero_le _, Nat.zero_le _, rfl, Ext.refl _⟩
  case round =>
    obtain ⟨k, rfl, hka, hkb, hall, d, os, rfl⟩ := hrel
    have HA := Lib.hid hall
    clear hall
    by_cases hlt : k < a.size
    · by_cases hlb : k < b.size
      · by_cases hq : (a[k].toNat : Int) = b[k].toNat
        · have HQ := Lib.hid hq
          have hq1 : ((a[k].toNat : Int) != b[k].toNat) = false := by simp [hq]
          clear hq
          go_wp2_with fail
          go_quiet (fail)
          go_wp2_with fail
          go_roundw
          case rel => exact ⟨k + 1, by go_num, by omega, by omega, take_snoc2 a b k hlt hlb HA.out HQ.out, by repeat (first | exact Ext.refl _ | apply Ext.alloc | apply Ext.more | apply Ext.drewN)⟩
          case measure => simp [intOf]; omega
        · have HQ := Lib.hid hq
          have hq1 : ((a[k].toNat : Int) != b[k].toNat) = true := by simp; omega
          clear hq
          go_wp2_with fail
          go_quiet (fail)
          go_wp2_with fail
          go_quiet (fail)
          go_wp2_with fail
          go_ret
          have e1 : ltB a b = decide (a[k].toNat < b[k].toNat) := by
            unfold ltB
            rw [bl_at k _ _ (by simpa using hlt) (by simpa using hlb) HA.out (fun e => HQ.out (by have : a[k] = b[k] := e; rw [this]))]
            rfl
          rw [e1]
          exact ⟨rfl, by repeat (first | exact Ext.refl _ | apply Ext.alloc | apply Ext.more | apply Ext.drewN)⟩
      · have e1 : ltB a b = decide (a.size < b.size) := by
          unfold ltB
          rw [bl_end k _ _ HA.out (Or.inr (by rw [ba_len]; omega)) (by rw [ba_len]; omega) (by rw [ba_len]; omega), ba_len, ba_len]
        go_wp2_with fail
        go_ret
        rw [e1]
        exact ⟨rfl, by repeat (first | exact Ext.refl _ | apply Ext.alloc | apply Ext.more)⟩
    · have e1 : ltB a b = decide (a.size < b.size) := by
        unfold ltB
        rw [bl_end k _ _ HA.out (Or.inl (by rw [ba_len]; omega)) (by rw [ba_len]; omega) (by rw [ba_len]; omega), ba_len, ba_len]
      go_wp2_with fail
      go_ret
      rw [e1]
      exact ⟨rfl, by repeat (first | exact Ext.refl _ | apply Ext.alloc | apply Ext.more)⟩
end Go.Proofs.YtpchohjkelopoaaGreatDoor

set_option maxRecDepth 20000
namespace Go.Proofs.YtpchohjkelopoaaGreatDoor
open Go.RowKit
attribute [go_sem] more_more Array.size_append
theorem ltP1 {a n x : Nat} (h : a < n) : (a < n + x) = True := by simp; omega
theorem ltP2 {a n x y : Nat} (h : a < n) : (a < n + x + y) = True := by simp; omega
theorem ltP3 {a n x y z : Nat} (h : a < n) : (a < n + x + y + z) = True := by simp; omega
theorem ltP4 {a n x y z u : Nat} (h : a < n) : (a < n + x + y + z + u) = True := by simp; omega
theorem ltP5 {a n x y z u v : Nat} (h : a < n) : (a < n + x + y + z + u + v) = True := by simp; omega
attribute [go_sem] ltP1 ltP2 ltP3 ltP4 ltP5
/-- an item as a value -/
def itV (x : It) : Value := .agg #[.string x.k, .int .i64 x.vk, .int .i64 x.vi, .string x.vs, .int .i64 x.ver]
def In64I (n : Int) : Prop := -9223372036854775808 ≤ n ∧ n ≤ 9223372036854775807
structure ItOk (x : It) : Prop where
  k : x.k.size ≤ 255
  vs : x.vs.size ≤ 255
  vk : In64I x.vk
  vi : In64I x.vi
  ver : In64I x.ver
theorem small_max {n m : Nat} (h : n ≤ m) (hm : m ≤ 9223372036854775807 := by decide) : n ≤ maxLen := by unfold maxLen; omega
/-- items' cells lie at an address -/
def ItsAt (w : World) (b off : Nat) (l : List It) : Prop := ∀ j x, l[j]? = some x →
  w.cell? ⟨b, off + j * 5, none⟩ = some (.string x.k) ∧ w.cell? ⟨b, off + j * 5 + 1, none⟩ = some (.int .i64 x.vk) ∧ w.cell? ⟨b, off + j * 5 + 2, none⟩ = some (.int .i64 x.vi) ∧
  w.cell? ⟨b, off + j * 5 + 3, none⟩ = some (.string x.vs) ∧ w.cell? ⟨b, off + j * 5 + 4, none⟩ = some (.int .i64 x.ver)
theorem ItsAt.of_block {w w' : World} {b off : Nat} {l : List It} (h : ItsAt w b off l) (e : w'.heap[b]? = w.heap[b]?) : ItsAt w' b off l := by
  intro j x hj
  obtain ⟨h1, h2, h3, h4, h5⟩ := h j x hj
  exact ⟨(World.cell?_of_block e).trans h1, (World.cell?_of_block e).trans h2, (World.cell?_of_block e).trans h3, (World.cell?_of_block e).trans h4, (World.cell?_of_block e).trans h5⟩
theorem ItsAt.lt {w : World} {b off : Nat} {l : List It} (h : ItsAt w b off l) (hl : 0 < l.length) : b < w.heap.size :=
  World.block_lt_of_cell? w _ (h 0 l[0] (List.getElem?_eq_getElem hl)).1
theorem ItsAt.ext {w w' : World} {b off : Nat} {l : List It} (h : ItsAt w b off l) (hx : Ext w w') : ItsAt w' b off l := by
  by_cases hl : 0 < l.length
  · exact h.of_block (hx.below.block b (h.lt hl))
  · intro j x hj
    have := (List.getElem?_eq_some_iff.1 hj).1
    omega
theorem ItsAt.drop {w : World} {b off : Nat} {l : List It} (h : ItsAt w b off l) (n : Nat) : ItsAt w b (off + n * 5) (l.drop n) := fun j x hj => by
  have := h (n + j) x (by rwa [List.getElem?_drop] at hj)
  rwa [Nat.add_mul, ← Nat.add_assoc] at this
/-- a leaf's slice: it reads as the items -/
def LfAt (w : World) (b : Nat) (v : Value) (l : List It) : Prop :=
  (∀ x ∈ l, ItOk x) ∧ ∃ p cap, v = .slice p l.length cap ∧ l.length ≤ cap ∧ (0 < l.length → ∃ off, p = some ⟨b, off, none⟩ ∧ ItsAt w b off l)
theorem LfAt.ext {w w' : World} {b : Nat} {v : Value} {l : List It} (h : LfAt w b v l) (hx : Ext w w') : LfAt w' b v l := by
  obtain ⟨h0, p, cap, h1, h2, h3⟩ := h
  exact ⟨h0, p, cap, h1, h2, fun hl => by obtain ⟨off, e, hi⟩ := h3 hl; exact ⟨off, e, hi.ext hx⟩⟩
theorem LfAt.of_block {w w' : World} {b : Nat} {v : Value} {l : List It} (h : LfAt w b v l) (e : 0 < l.length → w'.heap[b]? = w.heap[b]?) : LfAt w' b v l := by
  obtain ⟨h0, p, cap, h1, h2, h3⟩ := h
  exact ⟨h0, p, cap, h1, h2, fun hl => by obtain ⟨off, e', hi⟩ := h3 hl; exact ⟨off, e', hi.of_block (e hl)⟩⟩
theorem LfAt.nil (w : World) (b : Nat) : LfAt w b (.slice none 0 0) [] := ⟨by simp, none, 0, rfl, Nat.le_refl _, by simp⟩
theorem mayI_key {x : It} (h : keyB x.k = false) : mayI x = false := by unfold mayI; simp [h]
theorem mayI_val {x : It} (h : mayB x.vk x.vi x.vs = false) : mayI x = false := by unfold mayI; simp [h]
theorem mayI_nil {x : It} (h : (x.vk != 0) = false) : mayI x = false := by
  have : x.vk = 0 := by simpa using h
  unfold mayI; simp [this]
theorem mayI_neg {x : It} (h : decide (0 ≤ x.ver) = false) : mayI x = false := by unfold mayI; simp [h]
theorem mayI_big {x : It} (h : decide (x.ver ≤ 2147483647) = false) : mayI x = false := by unfold mayI; simp [h]
theorem mayI_yes {x : It} (h1 : keyB x.k = true) (h2 : mayB x.vk x.vi x.vs = true) (h3 : (x.vk != 0) = true) (h4 : decide (0 ≤ x.ver) = true) (h5 : decide (x.ver ≤ 2147483647) = true) : mayI x = true := by
  have h3' : (x.vk == 0) = false := by simpa using h3
  unfold mayI; simp [h1, h2, h3', of_decide_eq_true h4, of_decide_eq_true h5]
set_option maxHeartbeats 4000000 in
theorem lmay_any (x : It) (ho : ItOk x) (B : Nat) (w : World) (h : SignsAt B w) (hB : B ≤ w.heap.size) : Calls Tryz.prog 96 #[itV x] w fun e w' => e = .returned (.bool (mayI x)) ∧ Ext w w' := by
  have hk := small_max ho.k
  have HS := Lib.hid h
  obtain ⟨xk, xvk, xvi, xvs, xver⟩ := x
  have HO := Lib.hid ho
  clear ho h
  dsimp only at hk
  cases hkb : keyB xk with
  | false =>
    have HK := Lib.hid hkb
    clear hkb
    rw [mayI_key HK.out]
    unfold itV
    dsimp only
    go_enter Tryz.func96, Tryz.ntmps96
    go_wp2_with (go_at_call 125; refine (kis_any _ hk B _ (HS.out.ext (by repeat (first | exact Ext.refl _ | apply Ext.alloc | apply Ext.more | apply Ext.drewN)) hB) (by simp <;> omega)).mono ?_; rw [HK.out]; rintro e _ ⟨rfl, d1, os1, rfl⟩)
    go_ret
    exact ⟨rfl, by repeat (first | exact Ext.refl _ | apply Ext.alloc | apply Ext.more | apply Ext.drewN)⟩
  | true =>
    have HK := Lib.hid hkb
    clear hkb
    cases hvb : mayB xvk xvi xvs with
    | false =>
      have HV := Lib.hid hvb
      clear hvb
      rw [mayI_val HV.out]
      unfold itV
      dsimp only
      go_enter Tryz.func96, Tryz.ntmps96
      go_wp2_with (first
      | (go_at_call 125; refine (kis_any _ hk B _ (HS.out.ext (by repeat (first | exact Ext.refl _ | apply Ext.alloc | apply Ext.more | apply Ext.drewN)) hB) (by simp <;> omega)).mono ?_; rw [HK.out]; rintro e _ ⟨rfl, d1, os1, rfl⟩)
      | (go_at_call 126; refine (vmay_any _ _ _ _).mono ?_; rw [HV.out]; rintro e _ ⟨rfl, d2, os2, rfl⟩))
      go_ret
      exact ⟨rfl, by repeat (first | exact Ext.refl _ | apply Ext.alloc | apply Ext.more | apply Ext.drewN)⟩
    | true =>
      have HV := Lib.hid hvb
      clear hvb
      cases h3 : (xvk != 0) with
      | false =>
        rw [mayI_nil h3]
        unfold itV
        dsimp only
        go_enter Tryz.func96, Tryz.ntmps96
        go_wp2_with (first
      | (go_at_call 125; refine (kis_any _ hk B _ (HS.out.ext (by repeat (first | exact Ext.refl _ | apply Ext.alloc | apply Ext.more | apply Ext.drewN)) hB) (by simp <;> omega)).mono ?_; rw [HK.out]; rintro e _ ⟨rfl, d1, os1, rfl⟩)
      | (go_at_call 126; refine (vmay_any _ _ _ _).mono ?_; rw [HV.out]; rintro e _ ⟨rfl, d2, os2, rfl⟩))
        go_ret
        exact ⟨rfl, by repeat (first | exact Ext.refl _ | apply Ext.alloc | apply Ext.more | apply Ext.drewN)⟩
      | true =>
        cases h4 : decide (0 ≤ xver) with
        | false =>
          rw [mayI_neg h4]
          unfold itV
          dsimp only
          go_enter Tryz.func96, Tryz.ntmps96
          go_wp2_with (first
      | (go_at_call 125; refine (kis_any _ hk B _ (HS.out.ext (by repeat (first | exact Ext.refl _ | apply Ext.alloc | apply Ext.more | apply Ext.drewN)) hB) (by simp <;> omega)).mono ?_; rw [HK.out]; rintro e _ ⟨rfl, d1, os1, rfl⟩)
      | (go_at_call 126; refine (vmay_any _ _ _ _).mono ?_; rw [HV.out]; rintro e _ ⟨rfl, d2, os2, rfl⟩))
          go_ret
          exact ⟨rfl, by repeat (first | exact Ext.refl _ | apply Ext.alloc | apply Ext.more | apply Ext.drewN)⟩
        | true =>
          cases h5 : decide (xver ≤ 2147483647) with
          | false =>
            rw [mayI_big h5]
            unfold itV
            dsimp only
            go_enter Tryz.func96, Tryz.ntmps96
            go_wp2_with (first
      | (go_at_call 125; refine (kis_any _ hk B _ (HS.out.ext (by repeat (first | exact Ext.refl _ | apply Ext.alloc | apply Ext.more | apply Ext.drewN)) hB) (by simp <;> omega)).mono ?_; rw [HK.out]; rintro e _ ⟨rfl, d1, os1, rfl⟩)
      | (go_at_call 126; refine (vmay_any _ _ _ _).mono ?_; rw [HV.out]; rintro e _ ⟨rfl, d2, os2, rfl⟩))
            go_ret
            exact ⟨rfl, by repeat (first | exact Ext.refl _ | apply Ext.alloc | apply Ext.more | apply Ext.drewN)⟩
          | true =>
            rw [mayI_yes HK.out HV.out h3 h4 h5]
            unfold itV
            dsimp only
            go_enter Tryz.func96, Tryz.ntmps96
            go_wp2_with (first
      | (go_at_call 125; refine (kis_any _ hk B _ (HS.out.ext (by repeat (first | exact Ext.refl _ | apply Ext.alloc | apply Ext.more | apply Ext.drewN)) hB) (by simp <;> omega)).mono ?_; rw [HK.out]; rintro e _ ⟨rfl, d1, os1, rfl⟩)
      | (go_at_call 126; refine (vmay_any _ _ _ _).mono ?_; rw [HV.out]; rintro e _ ⟨rfl, d2, os2, rfl⟩))
            go_ret
            exact ⟨rfl, by repeat (first | exact Ext.refl _ | apply Ext.alloc | apply Ext.more | apply Ext.drewN)⟩
set_option maxHeartbeats 4000000 in
theorem rlmay_any (x : It) (ho : ItOk x) (w : World) : Calls Tryz.prog 97 #[itV x] w fun e w' => e = .returned (.bool (mayI x)) ∧ Ext w w' := by
  have hk := small_max ho.k
  obtain ⟨xk, xvk, xvi, xvs, xver⟩ := x
  have HO := Lib.hid ho
  clear ho
  dsimp only at hk
  cases hkb : keyB xk with
  | false =>
    have HK := Lib.hid hkb
    clear hkb
    rw [mayI_key HK.out]
    unfold itV
    dsimp only
    go_enter Tryz.func97, Tryz.ntmps97
    go_wp2_with (go_at_call 79; refine (rkis_any _ hk _).mono ?_; rw [HK.out]; rintro e _ ⟨rfl, d1, os1, rfl⟩)
    go_ret
    exact ⟨rfl, by repeat (first | exact Ext.refl _ | apply Ext.alloc | apply Ext.more | apply Ext.drewN)⟩
  | true =>
    have HK := Lib.hid hkb
    clear hkb
    cases hvb : mayB xvk xvi xvs with
    | false =>
      have HV := Lib.hid hvb
      clear hvb
      rw [mayI_val HV.out]
      unfold itV
      dsimp only
      go_enter Tryz.func97, Tryz.ntmps97
      go_wp2_with (first
      | (go_at_call 79; refine (rkis_any _ hk _).mono ?_; rw [HK.out]; rintro e _ ⟨rfl, d1, os1, rfl⟩)
      | (go_at_call 107; refine (rmay_any _ _ _ _).mono ?_; rw [HV.out]; rintro e _ ⟨rfl, d2, os2, rfl⟩))
      go_ret
      exact ⟨rfl, by repeat (first | exact Ext.refl _ | apply Ext.alloc | apply Ext.more | apply Ext.drewN)⟩
    | true =>
      have HV := Lib.hid hvb
      clear hvb
      cases h3 : (xvk != 0) with
      | false =>
        rw [mayI_nil h3]
        unfold itV
        dsimp only
        go_enter Tryz.func97, Tryz.ntmps97
        go_wp2_with (first
      | (go_at_call 79; refine (rkis_any _ hk _).mono ?_; rw [HK.out]; rintro e _ ⟨rfl, d1, os1, rfl⟩)
      | (go_at_call 107; refine (rmay_any _ _ _ _).mono ?_; rw [HV.out]; rintro e _ ⟨rfl, d2, os2, rfl⟩))
        go_ret
        exact ⟨rfl, by repeat (first | exact Ext.refl _ | apply Ext.alloc | apply Ext.more | apply Ext.drewN)⟩
      | true =>
        cases h4 : decide (0 ≤ xver) with
        | false =>
          rw [mayI_neg h4]
          unfold itV
          dsimp only
          go_enter Tryz.func97, Tryz.ntmps97
          go_wp2_with (first
      | (go_at_call 79; refine (rkis_any _ hk _).mono ?_; rw [HK.out]; rintro e _ ⟨rfl, d1, os1, rfl⟩)
      | (go_at_call 107; refine (rmay_any _ _ _ _).mono ?_; rw [HV.out]; rintro e _ ⟨rfl, d2, os2, rfl⟩))
          go_ret
          exact ⟨rfl, by repeat (first | exact Ext.refl _ | apply Ext.alloc | apply Ext.more | apply Ext.drewN)⟩
        | true =>
          cases h5 : decide (xver ≤ 2147483647) with
          | false =>
            rw [mayI_big h5]
            unfold itV
            dsimp only
            go_enter Tryz.func97, Tryz.ntmps97
            go_wp2_with (first
      | (go_at_call 79; refine (rkis_any _ hk _).mono ?_; rw [HK.out]; rintro e _ ⟨rfl, d1, os1, rfl⟩)
      | (go_at_call 107; refine (rmay_any _ _ _ _).mono ?_; rw [HV.out]; rintro e _ ⟨rfl, d2, os2, rfl⟩))
            go_ret
            exact ⟨rfl, by repeat (first | exact Ext.refl _ | apply Ext.alloc | apply Ext.more | apply Ext.drewN)⟩
          | true =>
            rw [mayI_yes HK.out HV.out h3 h4 h5]
            unfold itV
            dsimp only
            go_enter Tryz.func97, Tryz.ntmps97
            go_wp2_with (first
      | (go_at_call 79; refine (rkis_any _ hk _).mono ?_; rw [HK.out]; rintro e _ ⟨rfl, d1, os1, rfl⟩)
      | (go_at_call 107; refine (rmay_any _ _ _ _).mono ?_; rw [HV.out]; rintro e _ ⟨rfl, d2, os2, rfl⟩))
            go_ret
            exact ⟨rfl, by repeat (first | exact Ext.refl _ | apply Ext.alloc | apply Ext.more | apply Ext.drewN)⟩
end Go.Proofs.YtpchohjkelopoaaGreatDoor

set_option maxRecDepth 20000
namespace Go.Proofs.YtpchohjkelopoaaGreatDoor
open Go.RowKit
attribute [go_sem] more_more Array.size_append
/-- the item ahead of a place -/
def prevI (l : List It) (i : Nat) : Option It := match i with | 0 => none | j + 1 => l[j]?
theorem chk_end (l : List It) : chkF (prevI l l.length) l.length (l.drop l.length) = (0, 0) := by
  rw [List.drop_of_length_le (Nat.le_refl _)]
  cases prevI l l.length <;> rfl
theorem chk_bad {l : List It} {k : Nat} {x : It} (hx : l[k]? = some x) (h : mayI x = false) : chkF (prevI l k) k (l.drop k) = (1, (k : Int)) := by
  obtain ⟨hk, rfl⟩ := List.getElem?_eq_some_iff.1 hx
  rw [List.drop_eq_getElem_cons hk]
  cases prevI l k <;> simp [chkF, h]
theorem chk_first {l : List It} {x : It} (hx : l[0]? = some x) (h : mayI x = true) : chkF (prevI l 0) 0 (l.drop 0) = chkF (prevI l 1) 1 (l.drop 1) := by
  obtain ⟨hk, rfl⟩ := List.getElem?_eq_some_iff.1 hx
  rw [List.drop_eq_getElem_cons hk]
  have : prevI l 1 = some l[0] := List.getElem?_eq_getElem hk
  rw [this]
  simp [chkF, prevI, h]
theorem chk_order {l : List It} {k : Nat} {x y : It} (hx : l[k + 1]? = some x) (hy : l[k]? = some y) (h : mayI x = true) (ho : ltB y.k x.k = false) : chkF (prevI l (k + 1)) (k + 1) (l.drop (k + 1)) = (3, ((k + 1 : Nat) : Int)) := by
  obtain ⟨hk, rfl⟩ := List.getElem?_eq_some_iff.1 hx
  rw [List.drop_eq_getElem_cons hk]
  have : prevI l (k + 1) = some y := hy
  rw [this]
  simp [chkF, h, ho]
theorem chk_next {l : List It} {k : Nat} {x y : It} (hx : l[k + 1]? = some x) (hy : l[k]? = some y) (h : mayI x = true) (ho : ltB y.k x.k = true) : chkF (prevI l (k + 1)) (k + 1) (l.drop (k + 1)) = chkF (prevI l (k + 2)) (k + 2) (l.drop (k + 2)) := by
  obtain ⟨hk, rfl⟩ := List.getElem?_eq_some_iff.1 hx
  rw [List.drop_eq_getElem_cons hk]
  have e1 : prevI l (k + 1) = some y := hy
  have e2 : prevI l (k + 2) = some l[k + 1] := hx
  rw [e1, e2]
  simp [chkF, h, ho]
theorem le_key {x y : It} (h : ltB y.k x.k = true) : (Op.bytesLess x.k.toList y.k.toList || x.k.toList == y.k.toList) = false := by
  rw [bl_le, Lib.toList_data, Lib.toList_data]; unfold ltB at h; rw [h]; rfl
theorem le_key' {x y : It} (h : ltB y.k x.k = false) : (Op.bytesLess x.k.toList y.k.toList || x.k.toList == y.k.toList) = true := by
  rw [bl_le, Lib.toList_data, Lib.toList_data]; unfold ltB at h; rw [h]; rfl
theorem leafF_long {l : List It} (h : ¬ l.length ≤ 64) : leafF l = (5, 64) := by unfold leafF; rw [if_pos (by omega)]
theorem leafF_short {l : List It} (h : l.length ≤ 64) {r : Int × Int} (e : chkF (prevI l 0) 0 (l.drop 0) = r) : leafF l = r := by unfold leafF; rw [if_neg (by omega)]; exact e
theorem get_at {l : List It} {k n : Nat} (hn : l.length = n) (h : k < n) : ∃ x, l[k]? = some x := ⟨_, List.getElem?_eq_getElem (by omega)⟩
set_option maxHeartbeats 8000000 in
theorem lcheck_any (b : Nat) (v : Value) (l : List It) (B : Nat) (w : World) (hS : SignsAt B w) (hB : B ≤ w.heap.size) (h : LfAt w b v l) : Calls Tryz.prog 68 #[v] w fun e w' => e = .returned (.tuple #[.int .i64 (leafF l).1, .int .i64 (leafF l).2]) ∧ Ext w w' := by
  obtain ⟨ho, p, cap, rfl, hcap, hp⟩ := h
  obtain ⟨n, hn⟩ : ∃ n, l.length = n := ⟨_, rfl⟩
  rw [hn] at hcap hp ⊢
  have HN := Lib.hid hn
  have HO := Lib.hid ho
  have HS := Lib.hid hS
  have HP := Lib.hid hp
  clear hp ho hn hS
  by_cases h64 : n ≤ 64
  case neg =>
    rw [leafF_long (by have := HN.out; omega)]
    have h64' : (64 : Int) < (n : Int) := by omega
    go_enter Tryz.func68, Tryz.ntmps68
    go_wp2_with fail
    go_ret2
    exact ⟨rfl, by repeat (first | exact Ext.refl _ | apply Ext.alloc | apply Ext.more | apply Ext.drewN)⟩
  have h64' : (n : Int) ≤ 64 := by omega
  obtain ⟨r, hr⟩ : ∃ r, chkF (prevI l 0) 0 (l.drop 0) = r := ⟨_, rfl⟩
  rw [leafF_short (by have := HN.out; omega) hr]
  have HR := Lib.hid hr
  clear hr
  go_enter Tryz.func68, Tryz.ntmps68
  go_wp2_with fail
  go_loopw [11] (fun i wr => ∃ k : Nat, i = .int .i64 (k : Int) ∧ k ≤ n ∧ chkF (prevI l k) k (l.drop k) = r ∧ Ext w wr) (fun i _ => n - (intOf i).toNat)
  case atStart => exact ⟨0, rfl, Nat.zero_le _, HR.out, Ext.refl _⟩
  case round =>
    obtain ⟨k, rfl, hk, hch, d, os, rfl⟩ := hrel
    have HC := Lib.hid hch
    clear hch
    by_cases hlt : k < n
    case neg =>
      have hkn : k = n := by omega
      subst hkn
      have e : r = (0, 0) := by rw [← HC.out, ← HN.out]; exact chk_end l
      subst e
      go_wp2_with fail
      go_ret2
      exact ⟨rfl, by repeat (first | exact Ext.refl _ | apply Ext.alloc | apply Ext.more | apply Ext.drewN)⟩
    obtain ⟨x, hx⟩ := get_at HN.out hlt
    obtain ⟨off, rfl, hits⟩ := HP.out (by omega)
    obtain ⟨c0, c1, c2, c3, c4⟩ := hits k x hx
    have hox := HO.out x (List.mem_of_getElem? hx)
    have hbs : b < w.heap.size := hits.lt (by have := HN.out; omega)
    have HX := Lib.hid hx
    have HI := Lib.hid hits
    have HOX := Lib.hid hox
    clear hx hits hox
    cases hm : mayI x with
    | false =>
      have HM := Lib.hid hm
      clear hm
      have e : r = (1, (k : Int)) := by rw [← HC.out]; exact chk_bad HX.out HM.out
      subst e
      go_wp2_with (go_at_call 96; refine ((lmay_any x HOX.out B _ (HS.out.ext (by repeat (first | exact Ext.refl _ | apply Ext.alloc | apply Ext.more | apply Ext.drewN)) hB) (Nat.le_trans hB (Ext.size (by repeat (first | exact Ext.refl _ | apply Ext.alloc | apply Ext.more | apply Ext.drewN)))))).mono ?_; rw [HM.out]; rintro e _ ⟨rfl, d1, os1, rfl⟩)
      go_ret2
      exact ⟨rfl, by repeat (first | exact Ext.refl _ | apply Ext.alloc | apply Ext.more | apply Ext.drewN)⟩
    | true =>
      have HM := Lib.hid hm
      clear hm
      rcases k with _ | k
      · simp only [Nat.zero_mul, Nat.add_zero] at c0 c1 c2 c3 c4
        go_wp2_with (go_at_call 96; refine ((lmay_any x HOX.out B _ (HS.out.ext (by repeat (first | exact Ext.refl _ | apply Ext.alloc | apply Ext.more | apply Ext.drewN)) hB) (Nat.le_trans hB (Ext.size (by repeat (first | exact Ext.refl _ | apply Ext.alloc | apply Ext.more | apply Ext.drewN)))))).mono ?_; rw [HM.out]; rintro e _ ⟨rfl, d1, os1, rfl⟩)
        refine wp_region_grow 14 37 [false, false, false, false, false, false, false, false, false, false, false, false, false, false] (by kernel_rfl) (by kernel_rfl) rfl ?_
        simp only [List.take_succ_cons, List.take_zero, List.drop_succ_cons, List.drop_zero]
        repeat (refine Lex.step rfl ?_; intro K hK; unfold StepG; go_simp; (first
            | refine hK _ ?_); clear hK K)
        refine Lex.nil fun WW hE => ?_
        obtain ⟨dd, oo, rfl⟩ := hE
        unfold FillH
        go_wp2_with fail
        rw [ends_normal]
        go_wp2_with fail
        go_roundw
        case rel => exact ⟨1, by go_num, by omega, by rw [← chk_first HX.out HM.out]; exact HC.out, by repeat (first | exact Ext.refl _ | apply Ext.alloc | apply Ext.more | apply Ext.drewN)⟩
        case measure => simp [intOf]; omega
      · obtain ⟨y, hy⟩ := get_at HN.out (show k < n by omega)
        have hoy := HO.out y (List.mem_of_getElem? hy)
        have cy := (HI.out k y hy).1
        have HY := Lib.hid hy
        have HOY := Lib.hid hoy
        clear hy hoy
        have hk0 : (0 : Int) < (k : Int) + 1 := by omega
        have hk1 : (0 : Int) ≤ (k : Int) := by omega
        have hk3 : (0 : Int) ≤ (k : Int) + 1 := by omega
        have hk4 : (k : Int) + 1 < (n : Int) := by omega
        have hw3 : ((k : Int) + 1).toNat = k + 1 := by omega
        have hk2 : (k : Int) < (n : Int) := by omega
        have hw1 : IntKind.i64.wrap (k : Int) = (k : Int) := IntWalk.i64_in _ (by omega)
        cases hg : ltB y.k x.k with
        | false =>
          have HG := Lib.hid hg
          clear hg
          have hcmp := le_key' HG.out
          have e : r = (3, ((k + 1 : Nat) : Int)) := by rw [← HC.out]; exact chk_order HX.out HY.out HM.out HG.out
          subst e
          go_wp2_with (go_at_call 96; refine ((lmay_any x HOX.out B _ (HS.out.ext (by repeat (first | exact Ext.refl _ | apply Ext.alloc | apply Ext.more | apply Ext.drewN)) hB) (Nat.le_trans hB (Ext.size (by repeat (first | exact Ext.refl _ | apply Ext.alloc | apply Ext.more | apply Ext.drewN)))))).mono ?_; rw [HM.out]; rintro e _ ⟨rfl, d1, os1, rfl⟩)
          refine wp_region_grow 14 37 [false, false, false, false, false, false, false, false, false, false, false, false, false, false] (by kernel_rfl) (by kernel_rfl) rfl ?_
          simp only [List.take_succ_cons, List.take_zero, List.drop_succ_cons, List.drop_zero]
          repeat (refine Lex.step rfl ?_; intro K hK; unfold StepG; go_simp; (first
              | refine hK _ ?_); clear hK K)
          refine Lex.nil fun WW hE => ?_
          obtain ⟨dd, oo, rfl⟩ := hE
          unfold FillH
          go_wp2_with fail
          rw [ends_normal]
          go_wp2_with fail
          go_ret2
          exact ⟨rfl, by repeat (first | exact Ext.refl _ | apply Ext.alloc | apply Ext.more | apply Ext.drewN)⟩
        | true =>
          have HG := Lib.hid hg
          clear hg
          have hcmp := le_key HG.out
          go_wp2_with (go_at_call 96; refine ((lmay_any x HOX.out B _ (HS.out.ext (by repeat (first | exact Ext.refl _ | apply Ext.alloc | apply Ext.more | apply Ext.drewN)) hB) (Nat.le_trans hB (Ext.size (by repeat (first | exact Ext.refl _ | apply Ext.alloc | apply Ext.more | apply Ext.drewN)))))).mono ?_; rw [HM.out]; rintro e _ ⟨rfl, d1, os1, rfl⟩)
          refine wp_region_grow 14 37 [false, false, false, false, false, false, false, false, false, false, false, false, false, false] (by kernel_rfl) (by kernel_rfl) rfl ?_
          simp only [List.take_succ_cons, List.take_zero, List.drop_succ_cons, List.drop_zero]
          repeat (refine Lex.step rfl ?_; intro K hK; unfold StepG; go_simp; (first
              | refine hK _ ?_); clear hK K)
          refine Lex.nil fun WW hE => ?_
          obtain ⟨dd, oo, rfl⟩ := hE
          unfold FillH
          go_wp2_with fail
          rw [ends_normal]
          go_wp2_with fail
          go_roundw
          case rel => exact ⟨k + 2, by go_num, by omega, by rw [← chk_next HX.out HY.out HM.out HG.out]; exact HC.out, by repeat (first | exact Ext.refl _ | apply Ext.alloc | apply Ext.more | apply Ext.drewN)⟩
          case measure => simp [intOf]; omega
set_option maxHeartbeats 8000000 in
theorem rlcheck_any (b : Nat) (v : Value) (l : List It) (w : World) (h : LfAt w b v l) : Calls Tryz.prog 69 #[v] w fun e w' => e = .returned (.tuple #[.int .i64 (leafF l).1, .int .i64 (leafF l).2]) ∧ Ext w w' := by
  obtain ⟨ho, p, cap, rfl, hcap, hp⟩ := h
  obtain ⟨n, hn⟩ : ∃ n, l.length = n := ⟨_, rfl⟩
  rw [hn] at hcap hp ⊢
  have HN := Lib.hid hn
  have HO := Lib.hid ho
  have HP := Lib.hid hp
  clear hp ho hn
  by_cases h64 : n ≤ 64
  case neg =>
    rw [leafF_long (by have := HN.out; omega)]
    have h64' : (64 : Int) < (n : Int) := by omega
    go_enter Tryz.func69, Tryz.ntmps69
    go_wp2_with fail
    go_ret2
    exact ⟨rfl, by repeat (first | exact Ext.refl _ | apply Ext.alloc | apply Ext.more | apply Ext.drewN)⟩
  have h64' : (n : Int) ≤ 64 := by omega
  obtain ⟨r, hr⟩ : ∃ r, chkF (prevI l 0) 0 (l.drop 0) = r := ⟨_, rfl⟩
  rw [leafF_short (by have := HN.out; omega) hr]
  have HR := Lib.hid hr
  clear hr
  go_enter Tryz.func69, Tryz.ntmps69
  go_wp2_with fail
  go_loopw [4] (fun i wr => ∃ k : Nat, i = .int .i64 (k : Int) ∧ k ≤ n ∧ chkF (prevI l k) k (l.drop k) = r ∧ Ext w wr) (fun i _ => n - (intOf i).toNat)
  case atStart => exact ⟨0, rfl, Nat.zero_le _, HR.out, Ext.refl _⟩
  case round =>
    obtain ⟨k, rfl, hk, hch, d, os, rfl⟩ := hrel
    have HC := Lib.hid hch
    clear hch
    by_cases hlt : k < n
    case neg =>
      have hkn : k = n := by omega
      subst hkn
      have e : r = (0, 0) := by rw [← HC.out, ← HN.out]; exact chk_end l
      subst e
      go_wp2_with fail
      go_ret2
      exact ⟨rfl, by repeat (first | exact Ext.refl _ | apply Ext.alloc | apply Ext.more | apply Ext.drewN)⟩
    obtain ⟨x, hx⟩ := get_at HN.out hlt
    obtain ⟨off, rfl, hits⟩ := HP.out (by omega)
    obtain ⟨c0, c1, c2, c3, c4⟩ := hits k x hx
    have hox := HO.out x (List.mem_of_getElem? hx)
    have hbs : b < w.heap.size := hits.lt (by have := HN.out; omega)
    have HX := Lib.hid hx
    have HI := Lib.hid hits
    have HOX := Lib.hid hox
    clear hx hits hox
    cases hm : mayI x with
    | false =>
      have HM := Lib.hid hm
      clear hm
      have e : r = (1, (k : Int)) := by rw [← HC.out]; exact chk_bad HX.out HM.out
      subst e
      go_wp2_with (go_at_call 97; refine ((rlmay_any x HOX.out _)).mono ?_; rw [HM.out]; rintro e _ ⟨rfl, d1, os1, rfl⟩)
      go_ret2
      exact ⟨rfl, by repeat (first | exact Ext.refl _ | apply Ext.alloc | apply Ext.more | apply Ext.drewN)⟩
    | true =>
      have HM := Lib.hid hm
      clear hm
      rcases k with _ | k
      · simp only [Nat.zero_mul, Nat.add_zero] at c0 c1 c2 c3 c4
        go_wp2_with (go_at_call 97; refine ((rlmay_any x HOX.out _)).mono ?_; rw [HM.out]; rintro e _ ⟨rfl, d1, os1, rfl⟩)
        refine wp_region_grow 14 39 [false, false, false, false, false, false, false, false, false, false, false, false, false, false] (by kernel_rfl) (by kernel_rfl) rfl ?_
        simp only [List.take_succ_cons, List.take_zero, List.drop_succ_cons, List.drop_zero]
        repeat (refine Lex.step rfl ?_; intro K hK; unfold StepG; go_simp; (first
            | refine hK _ ?_); clear hK K)
        refine Lex.nil fun WW hE => ?_
        obtain ⟨dd, oo, rfl⟩ := hE
        unfold FillH
        go_wp2_with fail
        rw [ends_normal]
        go_wp2_with fail
        go_roundw
        case rel => exact ⟨1, by go_num, by omega, by rw [← chk_first HX.out HM.out]; exact HC.out, by repeat (first | exact Ext.refl _ | apply Ext.alloc | apply Ext.more | apply Ext.drewN)⟩
        case measure => simp [intOf]; omega
      · obtain ⟨y, hy⟩ := get_at HN.out (show k < n by omega)
        have hoy := HO.out y (List.mem_of_getElem? hy)
        have cy := (HI.out k y hy).1
        have HY := Lib.hid hy
        have HOY := Lib.hid hoy
        clear hy hoy
        have hk0 : (0 : Int) < (k : Int) + 1 := by omega
        have hk1 : (0 : Int) ≤ (k : Int) := by omega
        have hk3 : (0 : Int) ≤ (k : Int) + 1 := by omega
        have hk4 : (k : Int) + 1 < (n : Int) := by omega
        have hw3 : ((k : Int) + 1).toNat = k + 1 := by omega
        have hk2 : (k : Int) < (n : Int) := by omega
        have hw1 : IntKind.i64.wrap (k : Int) = (k : Int) := IntWalk.i64_in _ (by omega)
        cases hg : ltB y.k x.k with
        | false =>
          have HG := Lib.hid hg
          clear hg
          have e : r = (3, ((k + 1 : Nat) : Int)) := by rw [← HC.out]; exact chk_order HX.out HY.out HM.out HG.out
          subst e
          go_wp2_with (go_at_call 97; refine ((rlmay_any x HOX.out _)).mono ?_; rw [HM.out]; rintro e _ ⟨rfl, d1, os1, rfl⟩)
          refine wp_region_grow 14 39 [false, false, false, false, false, false, false, false, false, false, false, false, false, false] (by kernel_rfl) (by kernel_rfl) rfl ?_
          simp only [List.take_succ_cons, List.take_zero, List.drop_succ_cons, List.drop_zero]
          repeat (refine Lex.step rfl ?_; intro K hK; unfold StepG; go_simp; (first
              | refine hK _ ?_); clear hK K)
          refine Lex.nil fun WW hE => ?_
          obtain ⟨dd, oo, rfl⟩ := hE
          unfold FillH
          go_wp2_with (go_at_call 98; refine (ahead_any _ _ (small_max HOY.out.k) (small_max HOX.out.k) _).mono ?_; rw [HG.out]; rintro e _ ⟨rfl, d2, os2, rfl⟩)
          rw [ends_normal]
          go_wp2_with fail
          go_ret2
          exact ⟨rfl, by repeat (first | exact Ext.refl _ | apply Ext.alloc | apply Ext.more | apply Ext.drewN)⟩
        | true =>
          have HG := Lib.hid hg
          clear hg
          go_wp2_with (go_at_call 97; refine ((rlmay_any x HOX.out _)).mono ?_; rw [HM.out]; rintro e _ ⟨rfl, d1, os1, rfl⟩)
          refine wp_region_grow 14 39 [false, false, false, false, false, false, false, false, false, false, false, false, false, false] (by kernel_rfl) (by kernel_rfl) rfl ?_
          simp only [List.take_succ_cons, List.take_zero, List.drop_succ_cons, List.drop_zero]
          repeat (refine Lex.step rfl ?_; intro K hK; unfold StepG; go_simp; (first
              | refine hK _ ?_); clear hK K)
          refine Lex.nil fun WW hE => ?_
          obtain ⟨dd, oo, rfl⟩ := hE
          unfold FillH
          go_wp2_with (go_at_call 98; refine (ahead_any _ _ (small_max HOY.out.k) (small_max HOX.out.k) _).mono ?_; rw [HG.out]; rintro e _ ⟨rfl, d2, os2, rfl⟩)
          rw [ends_normal]
          go_wp2_with fail
          go_roundw
          case rel => exact ⟨k + 2, by go_num, by omega, by rw [← chk_next HX.out HY.out HM.out HG.out]; exact HC.out, by repeat (first | exact Ext.refl _ | apply Ext.alloc | apply Ext.more | apply Ext.drewN)⟩
          case measure => simp [intOf]; omega
set_option maxHeartbeats 1000000 in
theorem lis_any (b : Nat) (v : Value) (l : List It) (B : Nat) (w : World) (hS : SignsAt B w) (hB : B ≤ w.heap.size) (h : LfAt w b v l) : Calls Tryz.prog 91 #[v] w fun e w' => e = .returned (.bool (leafB l)) ∧ Ext w w' := by
  have H := Lib.hid (lcheck_any b v l B w hS hB h)
  clear h hS
  go_enter Tryz.func91, Tryz.ntmps91
  go_wp2_with (go_at_call 68; refine H.out.mono ?_; rintro e _ ⟨rfl, d1, os1, rfl⟩)
  go_ret
  exact ⟨rfl, by repeat (first | exact Ext.refl _ | apply Ext.alloc | apply Ext.more | apply Ext.drewN)⟩
set_option maxHeartbeats 1000000 in
theorem rlis_any (b : Nat) (v : Value) (l : List It) (w : World) (h : LfAt w b v l) : Calls Tryz.prog 35 #[v] w fun e w' => e = .returned (.bool (leafB l)) ∧ Ext w w' := by
  have H := Lib.hid (rlcheck_any b v l w h)
  clear h
  go_enter Tryz.func35, Tryz.ntmps35
  go_wp2_with (go_at_call 69; refine H.out.mono ?_; rintro e _ ⟨rfl, d1, os1, rfl⟩)
  go_ret
  exact ⟨rfl, by repeat (first | exact Ext.refl _ | apply Ext.alloc | apply Ext.more | apply Ext.drewN)⟩
end Go.Proofs.YtpchohjkelopoaaGreatDoor

set_option maxRecDepth 20000
namespace Go.Proofs.YtpchohjkelopoaaGreatDoor
open Go.RowKit
attribute [go_sem] more_more Array.size_append
theorem ret1 {P : Program} {f : FuncId} {args : Array Value} {v : Value} {W : World} (h : Calls P f args W fun e w' => e = .returned v ∧ Ext W w') :
    Calls P f args W (RetG W fun x _ => x = v) := h.mono fun e w' ⟨he, hx⟩ => ⟨v, he, hx, rfl⟩
/-- a row of bytes of the call's own: a hole of a drawn region -/
def OwnFact (base : Nat) (l : List UInt8) : Fact := fun v W => ∃ g cap, v = .slice (some ⟨g, 0, none⟩) l.length cap ∧ W.ownsRow base 5 1 (.slice (some ⟨g, 0, none⟩) l.length cap) l.length (cellsB l)
theorem OwnFact.upc (base : Nat) (l : List UInt8) : Upc (OwnFact base l) := by
  rintro v W W' hx ⟨g, cap, hv, ho⟩
  exact ⟨g, cap, hv, own_ext ho hx⟩
theorem retO {P : Program} {f : FuncId} {args : Array Value} {l : List UInt8} {W : World} {base : Nat} (h : Calls P f args W fun e w' => OwnB W w' e l) (hb : base ≤ W.heap.size) :
    Calls P f args W (RetG W (OwnFact base l)) := h.mono fun e w' ⟨g, cap, he, ho, hx⟩ => ⟨_, he, hx, g, cap, rfl, ho.mono hb⟩
theorem encB_len (k i : Int) (s : ByteArray) (h : mayB k i s = true) (h0 : -9223372036854775808 ≤ i) (h1 : i ≤ 9223372036854775807) : (encB k i s).length ≤ 80 := by
  unfold encB
  have z := zigZ_bd i h0 h1
  have q1 := putB_len 9 (zigZ i).toNat (by omega)
  rcases may_cases h with ⟨rfl, rfl, _⟩ | ⟨rfl, a, b, _⟩ | ⟨rfl, _⟩ | ⟨rfl, rfl, a⟩
  · simp
  · simp
  · simp; omega
  · have q2 := putB_len 1 s.size (by omega)
    simp; omega
theorem encB_pos (k i : Int) (s : ByteArray) : 0 < (encB k i s).length := by
  unfold encB; (repeat' split) <;> simp
theorem itB_len (x : It) (ho : ItOk x) (hm : mayI x = true) : (itB x).length ≤ 400 := by
  have h1 := ho.k
  have h2 := ho.ver
  have q1 := putB_len 1 x.k.size (by omega)
  have q2 := putB_len 9 x.ver.toNat (by have := h2.2; omega)
  have hv : mayB x.vk x.vi x.vs = true := by unfold mayI at hm; simp at hm; exact hm.1.1.1.2
  have q3 := encB_len x.vk x.vi x.vs hv ho.vi.1 ho.vi.2
  unfold itB
  simp only [List.length_append, ba_len]
  omega
theorem grown_cell {W w1 : World} {row : Option Nat} (hg : W.grownBy w1 row) {b i : Nat} {v : Value} (h : W.cell? ⟨b, i, none⟩ = some v) (hb : b < W.heap.size) (hne : row ≠ some b) : w1.cell? ⟨b, i, none⟩ = some v :=
  (World.cell?_of_block (hg.block b hb (fun e => hne e.symm))).trans h
theorem mayI_parts {x : It} (h : mayI x = true) : mayB x.vk x.vi x.vs = true ∧ 0 ≤ x.ver ∧ x.ver ≤ 2147483647 ∧ keyB x.k = true := by
  unfold mayI at h; simp at h; exact ⟨h.1.1.1.2, h.1.2, h.2, h.1.1.1.1⟩
set_option maxHeartbeats 4000000 in
theorem bytes_any (x : It) (ho : ItOk x) (hm : mayI x = true) (w : World) : Calls Tryz.prog 92 #[itV x] w fun e w' => OwnB w w' e (itB x) := by
  obtain ⟨i0, hi, hz0, hz1, hz2⟩ := info_parts u8info
  obtain ⟨hv, hr0, hr1, _⟩ := mayI_parts hm
  have hk := ho.k
  have hv0 := ho.vi
  have q1 := putB_len 1 x.k.size (by omega)
  have q3 := encB_len x.vk x.vi x.vs hv ho.vi.1 ho.vi.2
  have q4 := putB_len 9 x.ver.toNat (by omega)
  obtain ⟨xk, xvk, xvi, xvs, xver⟩ := x
  dsimp only at *
  have C1 := Lib.hid (fun W => puttext_any xk (by omega) W)
  have C2 := Lib.hid (fun W => enc_any xvk xvi xvs hv hv0.1 hv0.2 W)
  have C3 := Lib.hid (fun W => put_any xver hr0 (by omega) W)
  obtain ⟨l1, hl1⟩ : ∃ l1, putB xk.size ++ xk.data.toList = l1 := ⟨_, rfl⟩
  obtain ⟨l2, hl2⟩ : ∃ l2, encB xvk xvi xvs = l2 := ⟨_, rfl⟩
  obtain ⟨l3, hl3⟩ : ∃ l3, putB xver.toNat = l3 := ⟨_, rfl⟩
  have e : itB ⟨xk, xvk, xvi, xvs, xver⟩ = l1 ++ l2 ++ l3 := by unfold itB; rw [← hl1, ← hl2, ← hl3]
  have z1 : l1.length ≤ 300 := by rw [← hl1]; simp only [List.length_append, ba_len]; omega
  have z2 : l2.length ≤ 80 := by rw [← hl2]; exact q3
  have z3 : l3.length ≤ 80 := by rw [← hl3]; omega
  have z4 : 0 < l1.length := by rw [← hl1]; have := putB_pos xk.size; simp only [List.length_append]; omega
  rw [e]
  rw [hl1] at C1
  rw [hl2] at C2
  rw [hl3] at C3
  have hw1 : IntKind.u64.wrap xver = xver := by rw [wrap_u64]; omega
  have Z1 := Lib.hid z1
  have Z2 := Lib.hid z2
  have Z3 := Lib.hid z3
  have Z4 := Lib.hid z4
  clear e hl1 hl2 hl3 q1 q3 q4 hk hv0 hm ho hv z1 z2 z3 z4
  unfold itV
  dsimp only
  go_enter Tryz.func92, Tryz.ntmps92
  go_wp2_with fail
  refine wp_region_grow 6 17 [false, false, false, false, false, false] (by kernel_rfl) (by kernel_rfl) rfl ?_
  simp only [List.take_succ_cons, List.take_zero, List.drop_succ_cons, List.drop_zero]
  refine Lex.step rfl ?_; intro K hK; unfold StepG; go_simp; refine hK _ ?_; clear hK K
  refine Lex.step rfl ?_; intro K hK; unfold StepG; go_simp; refine hK _ ?_; clear hK K
  refine Lex.gap 6 (OwnFact (w.heap.size + 1) l1) rfl (OwnFact.upc _ _) rfl (fun d os => ?_) ?_
  · unfold StepG
    go_simp
    exact retO (C1.out _) (by simp [more_size] <;> omega)
  refine Lex.step rfl ?_; intro K hK; unfold StepG; go_simp; refine hK _ ?_; clear hK K
  refine Lex.step rfl ?_; intro K hK; unfold StepG; go_simp; refine hK _ ?_; clear hK K
  refine Lex.gap 9 (OwnFact (w.heap.size + 1) l2) rfl (OwnFact.upc _ _) rfl (fun d os => ?_) ?_
  · unfold StepG
    go_simp
    exact retO (C2.out _) (by simp [more_size] <;> omega)
  refine Lex.nil fun WW hE => ?_
  obtain ⟨dd, oo, rfl⟩ := hE
  unfold FillH FillH
  rintro _ ⟨g2, c2, rfl, o2⟩ _ ⟨g1, c1, rfl, o1⟩
  unfold FillH
  go_wp2_with (at_builtin; refine wpList_append_src _ rfl _ _ 135 135 rfl (w.heap.size + 1) 5 i0 (.int .u8 0) 1 1 Tryz.underlying135 hi hz0 hz1 hz2 rfl (by decide) _ _ _ rfl o1 _ l2.length _ rfl (src_own Tryz.underlying135 o2 (cellsB_one _)) ?c3 ?c4 ?c5 ?_)
  case c3 => have := Z1.out; have := Z2.out; unfold maxLen; omega
  case c4 => have := Z1.out; have := Z2.out; omega
  case c5 => simp [more_size] <;> omega
  intro v1 w1 hown1 hgrow1 _
  rw [← cellsB_append] at hown1
  obtain ⟨g3, c3, rfl, _, _⟩ := hown1.form (by have := Z4.out; omega)
  have EX1 : Ext w w1 := Ext.grown (by repeat (first | exact Ext.refl _ | apply Ext.alloc | apply Ext.more | apply Ext.drewN)) hgrow1 (fun k hk => Nat.le_of_succ_le (o1.lt k hk).1)
  have hcx : w1.cell? ⟨w.heap.size, 4, none⟩ = some (.int .i64 xver) := grown_cell hgrow1 (by simp [go_sem, more_cell]) (by simp [more_size] <;> omega) (fun e => by have := (o1.lt _ e).1; omega)
  have H1 := Lib.hid hown1
  have HG := Lib.hid EX1
  clear hown1 hgrow1 EX1 o1 o2
  go_wp2_with fail
  rw [ends_normal]
  go_wp2_with (first
    | (go_at_call 121; refine (C3.out _).mono ?_; rintro e w2 ⟨g4, c4, rfl, o4, x4⟩)
    | (at_builtin; refine wpList_append_src _ rfl _ _ 135 135 rfl (w.heap.size + 1) 5 i0 (.int .u8 0) 1 1 Tryz.underlying135 hi hz0 hz1 hz2 rfl (by decide) _ _ _ rfl (own_ext H1.out x4) _ l3.length _ rfl (src_own Tryz.underlying135 o4 (cellsB_one _)) ?d3 ?d4 ?d5 ?_))
  case d3 => have := Z1.out; have := Z2.out; have := Z3.out; unfold maxLen; omega
  case d4 => have := Z1.out; have := Z2.out; have := Z3.out; omega
  case d5 => have := x4.size; have := HG.out.size; have := (H1.out.lt _ rfl).2; omega
  intro v3 w3 hown3 hgrow3 _
  rw [← cellsB_append] at hown3
  go_wp2_with fail
  go_ret
  refine OwnB.mk' (by have := Z4.out; simp only [List.length_append]; omega) ?_ ((HG.out.trans x4).grown hgrow3 fun k hk => Nat.le_of_succ_le (H1.out.lt k hk).1)
  have := hown3.mono (base' := w.heap.size) (by omega)
  simpa [Nat.add_assoc] using this
set_option maxHeartbeats 4000000 in
theorem rbytes_any (x : It) (ho : ItOk x) (hm : mayI x = true) (w : World) : Calls Tryz.prog 95 #[itV x] w fun e w' => e = .returned (.string ⟨(itB x).toArray⟩) ∧ Ext w w' := by
  obtain ⟨hv, hr0, hr1, _⟩ := mayI_parts hm
  have hk := ho.k
  have hv0 := ho.vi
  have q1 := putB_len 1 x.k.size (by omega)
  have q3 := encB_len x.vk x.vi x.vs hv ho.vi.1 ho.vi.2
  have q4 := putB_len 9 x.ver.toNat (by omega)
  obtain ⟨xk, xvk, xvi, xvs, xver⟩ := x
  dsimp only at *
  have C1 := Lib.hid (fun W => rtext_any xk (by omega) W)
  have C2 := Lib.hid (fun W => renc_any xvk xvi xvs hv hv0.1 hv0.2 W)
  have C3 := Lib.hid (fun W => rput_any xver hr0 (by omega) W)
  have e : (⟨(itB ⟨xk, xvk, xvi, xvs, xver⟩).toArray⟩ : ByteArray) = (((⟨(putB xk.size).toArray⟩ : ByteArray) ++ xk) ++ ⟨(encB xvk xvi xvs).toArray⟩) ++ ⟨(putB xver.toNat).toArray⟩ := by
    apply ByteArray.ext
    simp [itB, ByteArray.data_append]
  obtain ⟨s1, hs1⟩ : ∃ s1, (⟨(putB xk.size).toArray⟩ : ByteArray) ++ xk = s1 := ⟨_, rfl⟩
  obtain ⟨s2, hs2⟩ : ∃ s2, (⟨(encB xvk xvi xvs).toArray⟩ : ByteArray) = s2 := ⟨_, rfl⟩
  obtain ⟨s3, hs3⟩ : ∃ s3, (⟨(putB xver.toNat).toArray⟩ : ByteArray) = s3 := ⟨_, rfl⟩
  have z1 : (s1.size : Int) ≤ 300 := by rw [← hs1]; simp [ba_size]; omega
  have z2 : (s2.size : Int) ≤ 80 := by rw [← hs2, ba_size]; omega
  have z3 : (s3.size : Int) ≤ 80 := by rw [← hs3, ba_size]; omega
  rw [e]
  rw [hs1] at C1 ⊢
  rw [hs2] at C2 ⊢
  rw [hs3] at C3 ⊢
  have hw1 : IntKind.u64.wrap xver = xver := by rw [wrap_u64]; omega
  have hc12 : (9223372036854775807 < s1.size + s2.size) = False := eq_false (by omega)
  clear e hs1 hs2 hs3 q1 q3 q4 hk hv0 hm ho hv
  unfold itV
  dsimp only
  go_enter Tryz.func95, Tryz.ntmps95
  go_wp2_with fail
  refine wp_region_grow 11 15 [false, false, false, false, false, false, false, false, false, false, false] (by kernel_rfl) (by kernel_rfl) rfl ?_
  simp only [List.take_succ_cons, List.take_zero, List.drop_succ_cons, List.drop_zero]
  repeat (refine Lex.step rfl ?_; intro K hK; unfold StepG; go_simp; (first
      | refine hK _ ?_
      | (with_reducible refine ⟨_, fun d os => (ret1 (C1.out _)), ?_⟩; go_simp; refine hK _ ?_)
      | (with_reducible refine ⟨_, fun d os => (ret1 (C2.out _)), ?_⟩; go_simp; refine hK _ ?_)
      | (with_reducible refine ⟨_, fun d os => (ret1 (C3.out _)), ?_⟩; go_simp; refine hK _ ?_)); clear hK K)
  refine Lex.nil fun WW hE => ?_
  obtain ⟨dd, oo, rfl⟩ := hE
  unfold FillH
  go_wp2_with fail
  rw [ends_normal]
  go_wp2_with fail
  go_ret
  exact ⟨rfl, by repeat (first | exact Ext.refl _ | apply Ext.alloc | apply Ext.more | apply Ext.drewN)⟩
end Go.Proofs.YtpchohjkelopoaaGreatDoor
