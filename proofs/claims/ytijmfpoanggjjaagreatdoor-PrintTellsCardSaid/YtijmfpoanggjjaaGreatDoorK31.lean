/- Lemmas for the claim (texts R16a, R16b, what its proof uses of them). -/
import Derived.Test.YtijmfpoanggjjaaGreatDoorK06
set_option linter.unusedSimpArgs false
set_option linter.unusedVariables false
namespace Go.Proofs.YtijmfpoanggjjaaGreatDoor
open Go.RowKit
attribute [go_sem] more_more Array.size_append
set_option maxHeartbeats 400000 in
theorem qav (c : Int) (h0 : 0 ≤ c) (h1 : c < 256) (w : World) : Calls Tryz.prog 106 #[.int .u8 c] w fun e w' => e = .returned (.bool (qaA c)) ∧ w = w' := by
 go_enter Tryz.func106, Tryz.ntmps106
 go_wp2
 all_goals
  go_ret
  refine ⟨ret_bool (by first | (rw [Bool.eq_iff_iff]; simp [qaA]; omega) | (simp [qaA]; omega)), rfl⟩
set_option maxHeartbeats 400000 in
theorem qaM (c : Int) (h0 : 0 ≤ c) (h1 : c < 256) (w : World) : Calls Tryz.prog 107 #[.int .u8 c] w fun e w' => e = .returned (.bool (qap c)) ∧ w = w' := by
 go_enter Tryz.func107, Tryz.ntmps107
 go_wp2
 all_goals
  go_ret
  refine ⟨ret_bool (by first | (rw [Bool.eq_iff_iff]; simp [qap]; omega) | (simp [qap]; omega)), rfl⟩
theorem qaY (s : ByteArray) (m : Nat) (h : m < s.size) : s.data.toList.drop m = s[m]'h :: s.data.toList.drop (m + 1) := List.drop_eq_getElem_cons (by simpa using h)
theorem qcd (s : ByteArray) : s.data.toList.drop s.size = [] := List.drop_eq_nil_of_le zbt
theorem beqI {a b : Int} (h : (a == b) = true) : a = b := by simpa using h
theorem bneI {a b : Int} (h : (a == b) = false) : ¬ a = b := by simpa using h
set_option maxHeartbeats 2000000 in
set_option maxRecDepth 20000 in
theorem skip16 (s : ByteArray) (hs : (s.size : Int) ≤ 5000) (k n : Nat) (hk : k ≤ s.size) (hn : k + skipL false (s.data.toList.drop k) = n) (w : World) :
    Calls Tryz.prog 81 #[.string s, .int .i64 (k : Int)] w fun e w' => e = .returned (.int .i64 (n : Int)) ∧ w = w' := by
  have HN := Lib.hid hn
  clear hn
  go_enter Tryz.func81, Tryz.ntmps81
  go_wp2_with fail
  go_loopw [1] (fun a wr => ∃ m : Nat, a = .int .i64 (m : Int) ∧ m ≤ s.size ∧ m + skipL false (s.data.toList.drop m) = n ∧ wr = w) (fun a _ => s.size - (intOf a).toNat)
  case atStart => exact ⟨k, rfl, hk, HN.out, rfl⟩
  case round =>
    obtain ⟨m, rfl, hm, hsp, rfl⟩ := hrel
    have HS := Lib.hid hsp
    clear hsp
    have hm5 : (m : Int) ≤ 5000 := by omega
    by_cases hlt : m < s.size
    · have hlt2 : (m : Int) < (s.size : Int) := by omega
      have hd := Lib.hid (qaY s m hlt)
      have hu := (s[m]'hlt).toNat_lt
      have HLT := Lib.hid hlt
      cases q1 : (((s[m]'hlt).toNat : Int) == 32) <;> cases q2 : (((s[m]'hlt).toNat : Int) == 9) <;> cases q3 : (((s[m]'hlt).toNat : Int) == 10)
      rotate_left
      all_goals try (exfalso; have a1 := q1; have a2 := q2; have a3 := q3; simp only [beq_iff_eq] at a1 a2 a3; omega)
      all_goals try
        (have HS2 : RowKit.Hid (m + 1 + skipL false (s.data.toList.drop (m + 1)) = n) := Lib.hid (by
          have h := HS.out
          rw [hd.out, skipL, if_pos (by have a1 := q1; have a2 := q2; have a3 := q3; simp only [beq_iff_eq] at a1 a2 a3; omega)] at h
          omega)
         go_wp2_with fail
         go_roundw
         case rel => exact ⟨m + 1, by go_num, by have := HLT.out; omega, HS2.out, by first | rfl | trivial⟩
         case measure => have := HLT.out; simp [intOf]; omega)
      cases q4 : (((s[m]'hlt).toNat : Int) == 35)
      · have HE : RowKit.Hid (m = n) := Lib.hid (by
          have h := HS.out
          rw [hd.out, skipL, if_neg (by have a1 := bneI q1; have a2 := bneI q2; have a3 := bneI q3; omega), if_neg (by have a4 := bneI q4; omega)] at h
          omega)
        go_wp2_with fail
        go_ret
        exact ⟨ret_int (by have := HE.out; omega), rfl⟩
      · have HS2 : RowKit.Hid (m + skipL true (s.data.toList.drop m) = n) := Lib.hid (by
          have h := HS.out
          have a4 := beqI q4
          rw [hd.out, skipL, if_neg zal, if_pos zal] at h
          rw [hd.out, skipL, if_neg zal]
          omega)
        have Q4 := Lib.hid q4
        go_wp2_with fail
        go_loopw [1] (fun a wr2 => ∃ m2 : Nat, a = .int .i64 (m2 : Int) ∧ m ≤ m2 ∧ m2 ≤ s.size ∧ m2 + skipL true (s.data.toList.drop m2) = n ∧ wr2 = wr) (fun a _ => s.size - (intOf a).toNat)
        case atStart => exact ⟨m, rfl, Nat.le_refl _, hm, HS2.out, rfl⟩
        case round =>
          obtain ⟨m2, rfl, hm1, hm2, hsp, rfl⟩ := hrel
          have HS3 := Lib.hid hsp
          clear hsp q1 q2 q3 q4
          by_cases hlt3 : m2 < s.size
          · have hlt4 : (m2 : Int) < (s.size : Int) := by omega
            have hd2 := Lib.hid (qaY s m2 hlt3)
            have hu2 := (s[m2]'hlt3).toNat_lt
            have HLT3 := Lib.hid hlt3
            cases q5 : (((s[m2]'hlt3).toNat : Int) == 10)
            · have HS4 : RowKit.Hid (m2 + 1 + skipL true (s.data.toList.drop (m2 + 1)) = n) := Lib.hid (by
                have h := HS3.out
                rw [hd2.out, skipL, if_neg (by have a4 := bneI q5; omega)] at h
                omega)
              go_wp2_with fail
              go_roundw
              case rel => exact ⟨m2 + 1, by go_num, by omega, by have := HLT3.out; omega, HS4.out, by first | rfl | trivial⟩
              case measure => have := HLT3.out; simp [intOf]; omega
            · have HS4 : RowKit.Hid (m2 + skipL false (s.data.toList.drop m2) = n) := Lib.hid (by
                have h := HS3.out
                have a4 := beqI q5
                rw [hd2.out, skipL, if_pos zal] at h
                rw [hd2.out, skipL, if_pos zal]
                omega)
              have hmm : m < m2 := by
                rcases Nat.lt_or_ge m m2 with h | h
                · exact h
                · have : m = m2 := by omega
                  subst this
                  have a4 := beqI q5; have a5 := beqI Q4.out; omega
              go_wp2_with fail
              go_roundw
              case rel => exact ⟨m2, rfl, hm2, HS4.out, by first | rfl | trivial⟩
              case measure => have := HLT.out; simp [intOf]; omega
          · have hme : m2 = s.size := by omega
            subst hme
            have HS4 : RowKit.Hid (s.size + skipL false (s.data.toList.drop s.size) = n) := Lib.hid (by
              have h := HS3.out
              rw [qcd] at h ⊢
              exact h)
            clear hlt3
            go_wp2_with fail
            go_roundw
            case rel => exact ⟨s.size, rfl, Nat.le_refl _, HS4.out, by first | rfl | trivial⟩
            case measure => have := HLT.out; simp [intOf]; omega
    · have hme : m = s.size := by omega
      subst hme
      have HE : RowKit.Hid (s.size = n) := Lib.hid (by
        have h := HS.out
        rw [qcd] at h
        simpa [skipL] using h)
      clear hlt
      go_wp2_with fail
      go_ret
      exact ⟨ret_int (by have := HE.out; omega), rfl⟩
theorem numG_big : ∀ (l : List UInt8) (v : Int), 9223372036854775807 < v → numG v l = none
 | [], v, h => by unfold numG; rw [if_pos h]
 | c :: l, v, h => by unfold numG; rw [if_pos zal]
def numV : Option Int → Value
 | some v => .tuple #[.int .i64 v, .bool true]
 | none => .tuple #[.int .i64 0, .bool false]
set_option maxHeartbeats 2000000 in
set_option maxRecDepth 20000 in
theorem number16 (t : ByteArray) (hs : (t.size : Int) ≤ 5000) (hd : ∀ j (h : j < t.size), 48 ≤ ((t[j]'h).toNat : Int) ∧ ((t[j]'h).toNat : Int) ≤ 57) (R : Option Int) (hr : numG 0 t.data.toList = R) (w : World) :
  Calls Tryz.prog 109 #[.string t] w fun e w' => e = .returned (numV R) ∧ w = w' := by
 have HR := Lib.hid hr
 have HD := Lib.hid hd
 clear hr hd
 go_enter Tryz.func109, Tryz.ntmps109
 go_wp2_with fail
 go_loopw [4, 5] (fun vv a wr => ∃ (m : Nat) (v : Int), a = .int .i64 (m : Int) ∧ vv = .int .i64 v ∧ m ≤ t.size ∧ 0 ≤ v ∧ v ≤ 9223372036854775807 ∧ numG v (t.data.toList.drop m) = R ∧ wr = w) (fun _ a _ => t.size - (intOf a).toNat)
 case atStart => exact ⟨0, 0, rfl, rfl, Nat.zero_le _, by decide, by decide, HR.out, rfl⟩
 case round =>
  obtain ⟨m, v, rfl, rfl, hm, hv0, hv1, hg, rfl⟩ := hrel
  have HG := Lib.hid hg
  clear hg HR
  have hm5 : (m : Int) ≤ 5000 := by omega
  by_cases hlt : m < t.size
  · have hlt2 : (m : Int) < (t.size : Int) := by omega
    have hdd := Lib.hid (qaY t m hlt)
    obtain ⟨d0, d1⟩ := HD.out m hlt
    have HLT := Lib.hid hlt
    by_cases hb : 922337203685477580 < v
    · have HE : RowKit.Hid (R = none) := Lib.hid (by rw [← HG.out, hdd.out]; unfold numG; rw [if_pos hb])
      clear hm
      go_wp2_with fail
      have := HE.out
      subst this
      go_ret2
      exact ⟨rfl, rfl⟩
    · have hb2 : v ≤ 922337203685477580 := by omega
      by_cases hq : v = 922337203685477580 ∧ 55 < ((t[m]'hlt).toNat : Int)
      · have HE : RowKit.Hid (R = none) := Lib.hid (by rw [← HG.out, hdd.out]; unfold numG; rw [if_neg zal]; exact numG_big _ _ zal)
        obtain ⟨rfl, hq2⟩ := hq
        have hq3 : 7 < ((t[m]'hlt).toNat : Int) - 48 := by omega
        clear hm hb
        go_wp2_with fail
        have := HE.out
        subst this
        go_ret2
        exact ⟨rfl, rfl⟩
      · have HG2 : RowKit.Hid (numG (10 * v + (((t[m]'hlt).toNat : Int) - 48)) (t.data.toList.drop (m + 1)) = R) := Lib.hid (by
          have h := HG.out
          rw [hdd.out] at h; unfold numG at h; rw [if_neg zal] at h; exact h)
        have hv2 : 0 ≤ 10 * v + (((t[m]'hlt).toNat : Int) - 48) := by omega
        have hv3 : 10 * v + (((t[m]'hlt).toNat : Int) - 48) ≤ 9223372036854775807 := by omega
        have hnb : ¬ 922337203685477580 < v := by omega
        cases qv : (v == 922337203685477580)
        · clear hq hb
          go_wp2_with fail
          go_roundw
          case rel => exact ⟨m + 1, _, by go_num, rfl, by have := HLT.out; omega, hv2, hv3, HG2.out, by first | rfl | trivial⟩
          case measure => have := HLT.out; simp [intOf]; omega
        · have hq3 : ((t[m]'hlt).toNat : Int) - 48 ≤ 7 := by have := beqI qv; omega
          clear hq hb
          go_wp2_with fail
          go_roundw
          case rel => exact ⟨m + 1, _, by go_num, rfl, by have := HLT.out; omega, hv2, hv3, HG2.out, by first | rfl | trivial⟩
          case measure => have := HLT.out; simp [intOf]; omega
  · have hme : m = t.size := by omega
    subst hme
    have HE : RowKit.Hid (R = some v) := Lib.hid (by rw [← HG.out, qcd]; unfold numG; rw [if_neg zal])
    clear hlt
    go_wp2_with fail
    have := HE.out
    subst this
    go_ret2
    exact ⟨rfl, rfl⟩
theorem ext_one (s : ByteArray) (m : Nat) (h : m < s.size) : s.extract m (m + 1) = ⟨#[s[m]'h]⟩ := by
 rw [qaU, qaY s m h]
 simp
theorem snocA (acc : List UInt8) (u : UInt8) : (⟨acc.toArray⟩ : ByteArray) ++ ⟨#[u]⟩ = ⟨(acc ++ [u]).toArray⟩ := by
 apply ByteArray.ext
 simp
/-- what text hands back -/
def TxPost (r : Tok) (n : Nat) (e : Int) (w : World) (e' : Ending) (w' : World) : Prop :=
 (∃ (q : ByteArray) (z : Int), e' = .returned (.tuple #[.string q, .int .i64 z, .int .i64 e]) ∧ (e = 0 → q = r.s ∧ z = n)) ∧ w = w'
set_option maxHeartbeats 4000000 in
set_option maxRecDepth 20000 in
theorem text16 (s : ByteArray) (hs : (s.size : Int) ≤ 5000) (k n : Nat) (hk : k < s.size) (r : Tok) (e : Int) (h1 : (textG (s.data.toList.drop (k + 1)) []).1 = r) (h2 : k + 1 + (textG (s.data.toList.drop (k + 1)) []).2.1 = n) (h3 : (textG (s.data.toList.drop (k + 1)) []).2.2 = e) (w : World) :
  Calls Tryz.prog 110 #[.string s, .int .i64 (k : Int)] w (TxPost r n e w) := by
 have HR := Lib.hid (And.intro h1 (And.intro h2 h3))
 have hk5 : (k : Int) ≤ 5000 := by omega
 clear h1 h2 h3
 go_enter Tryz.func110, Tryz.ntmps110
 go_wp2_with fail
 go_loopw [7, 8] (fun x y wr => ∃ (m : Nat) (acc : List UInt8), x = .string ⟨acc.toArray⟩ ∧ y = .int .i64 (m : Int) ∧ m ≤ s.size ∧ acc.length ≤ m ∧ (textG (s.data.toList.drop m) acc).1 = r ∧ m + (textG (s.data.toList.drop m) acc).2.1 = n ∧ (textG (s.data.toList.drop m) acc).2.2 = e ∧ wr = w) (fun _ y _ => s.size - (intOf y).toNat)
 case atStart => exact ⟨k + 1, [], rfl, by go_num, by omega, Nat.zero_le _, HR.out.1, HR.out.2.1, HR.out.2.2, rfl⟩
 case round =>
  obtain ⟨m, acc, rfl, rfl, hm, hac, g1, g2, g3, rfl⟩ := hrel
  have HG := Lib.hid (And.intro g1 (And.intro g2 g3))
  clear g1 g2 g3 HR
  have hm5 : (m : Int) ≤ 5000 := by omega
  have hz : (⟨acc.toArray⟩ : ByteArray).size = acc.length := by simp [ByteArray.size]
  have ha5 : (acc.length : Int) ≤ 5000 := by omega
  by_cases hlt : m < s.size
  · have hlt2 : (m : Int) < (s.size : Int) := by omega
    have hd := Lib.hid (qaY s m hlt)
    have hu := (s[m]'hlt).toNat_lt
    have HLT := Lib.hid hlt
    have HG1 := Lib.hid (textG_cons (s[m]'hlt) (s.data.toList.drop (m + 1)) acc)
    cases q1 : (((s[m]'hlt).toNat : Int) == 34)
    rotate_left
    · by_cases h64 : 64 < acc.length
      · have HE : RowKit.Hid (e = 5) := Lib.hid (by
          have h := HG.out.2.2
          have a := beqI q1
          rw [hd.out, HG1.out, if_pos zal, if_pos h64] at h; exact h.symm)
        have h642 : (64 : Int) < (acc.length : Int) := by omega
        clear h64
        go_wp2_with fail
        go_ret3
        exact ⟨⟨⟨#[]⟩, 0, by simp [HE.out], fun h0 => by have := HE.out; omega⟩, rfl⟩
      · have HE : RowKit.Hid (r = ⟨3, ⟨acc.toArray⟩, 0⟩ ∧ n = m + 1 ∧ e = 0) := Lib.hid (by
          obtain ⟨a1, a2, a3⟩ := HG.out
          have a := beqI q1
          rw [hd.out, HG1.out, if_pos zal, if_neg h64] at a1 a2 a3
          exact ⟨a1.symm, a2.symm, a3.symm⟩)
        have h642 : (acc.length : Int) ≤ 64 := by omega
        clear h64
        go_wp2_with fail
        go_ret3
        obtain ⟨e1, e2, e3⟩ := HE.out
        exact ⟨⟨⟨acc.toArray⟩, (m : Int) + 1, by simp [e3], fun _ => ⟨by rw [e1], by rw [e2]; rfl⟩⟩, rfl⟩
    · by_cases hb : ((s[m]'hlt).toNat : Int) < 32 ∨ 126 < ((s[m]'hlt).toNat : Int)
      · have HE : RowKit.Hid (e = 3) := Lib.hid (by
          have h := HG.out.2.2
          have a := bneI q1
          rw [hd.out, HG1.out, if_neg zal, if_pos zal] at h; exact h.symm)
        rcases hb with hb | hb
        all_goals
         go_wp2_with fail
         go_ret3
         exact ⟨⟨⟨#[]⟩, 0, by simp [HE.out], fun h0 => by have := HE.out; omega⟩, rfl⟩
      · have hb1 : 32 ≤ ((s[m]'hlt).toNat : Int) := by omega
        have hb2 : ((s[m]'hlt).toNat : Int) ≤ 126 := by omega
        cases q2 : (((s[m]'hlt).toNat : Int) == 92)
        · have HE : RowKit.Hid ((textG (s.data.toList.drop (m + 1)) (acc ++ [s[m]'hlt])).1 = r ∧ m + 1 + (textG (s.data.toList.drop (m + 1)) (acc ++ [s[m]'hlt])).2.1 = n ∧ (textG (s.data.toList.drop (m + 1)) (acc ++ [s[m]'hlt])).2.2 = e) := Lib.hid (by
            obtain ⟨a1, a2, a3⟩ := HG.out
            have a := bneI q1
            have b := bneI q2
            rw [hd.out, HG1.out, if_neg zal, if_neg zal, if_pos zal] at a1 a2 a3
            dsimp only at a1 a2 a3
            exact ⟨a1, by omega, a3⟩)
          have hx := ext_one s m hlt
          clear hb
          go_wp2_with fail
          go_roundw
          case rel => exact ⟨m + 1, acc ++ [s[m]'hlt], by first | rw [snocA] | rw [hx, snocA], by go_num, by have := HLT.out; omega, by simp; omega, HE.out.1, HE.out.2.1, HE.out.2.2, by first | rfl | trivial⟩
          case measure => have := HLT.out; simp [intOf]; omega
        · by_cases hl1 : m + 1 < s.size
          rotate_left
          · have hl2 : (m : Int) + 1 = (s.size : Int) := by omega
            have HE : RowKit.Hid (e = 2) := Lib.hid (by
             have h := HG.out.2.2
             have a := bneI q1
             have b := beqI q2
             have hd1 : s.data.toList.drop (m + 1) = [] := List.drop_eq_nil_of_le zby
             rw [hd.out, HG1.out, if_neg zal, if_neg zal, if_neg zal, hd1] at h; exact h.symm)
            have hl3 : ((m : Int) + 1 == (s.size : Int)) = true := by simpa using hl2
            clear hb hl1
            go_wp2_with fail
            go_ret3
            exact ⟨⟨⟨#[]⟩, 0, by simp [HE.out], fun h0 => by have := HE.out; omega⟩, rfl⟩
          have hl3 : ((m : Int) + 1 == (s.size : Int)) = false := beq_eq_false_iff_ne.2 zal
          have hl4 : (m : Int) + 1 < (s.size : Int) := by omega
          have hv := (s[m + 1]'hl1).toNat_lt
          have HES : RowKit.Hid (∀ z : UInt8, escZ ((s[m + 1]'hl1).toNat : Int) = (z.toNat : Int) → z.toNat ≠ 0 → (textG (s.data.toList.drop (m + 1 + 1)) (acc ++ [z])).1 = r ∧ m + 1 + 1 + (textG (s.data.toList.drop (m + 1 + 1)) (acc ++ [z])).2.1 = n ∧ (textG (s.data.toList.drop (m + 1 + 1)) (acc ++ [z])).2.2 = e) := Lib.hid (by
           intro z hz1 hz2
           obtain ⟨a1, a2, a3⟩ := HG.out
           have a := bneI q1
           have b := beqI q2
           have hzz : UInt8.ofNat ((z.toNat : Int)).toNat = z := by simp
           rw [hd.out, HG1.out, if_neg zal, if_neg zal, if_neg zal, qaY s (m + 1) hl1] at a1 a2 a3
           dsimp only at a1 a2 a3
           rw [hz1, if_neg zal, hzz] at a1 a2 a3
           dsimp only at a1 a2 a3
           exact ⟨a1, by omega, a3⟩)
          have HEN : RowKit.Hid (escZ ((s[m + 1]'hl1).toNat : Int) = 0 → e = 3) := Lib.hid (by
           intro hz1
           have h := HG.out.2.2
           have a := bneI q1
           have b := beqI q2
           rw [hd.out, HG1.out, if_neg zal, if_neg zal, if_neg zal, qaY s (m + 1) hl1] at h
           dsimp only at h
           rw [if_pos hz1] at h
           exact h.symm)
          have HL1 := Lib.hid hl1
          have hx := ext_one s (m + 1) hl1
          clear hb
          cases q3 : (((s[m + 1]'hl1).toNat : Int) == 110)
          · cases q4 : (((s[m + 1]'hl1).toNat : Int) == 34) <;> cases q5 : (((s[m + 1]'hl1).toNat : Int) == 92)
            · have HE : RowKit.Hid (e = 3) := Lib.hid (HEN.out (by unfold escZ; have a := bneI q3; have b := bneI q4; have c := bneI q5; rw [if_neg zal, if_neg zal]))
              go_wp2_with fail
              go_ret3
              exact ⟨⟨⟨#[]⟩, 0, by simp [HE.out], fun h0 => by have := HE.out; omega⟩, rfl⟩
            all_goals (try (exfalso; have a := beqI q4; have b := beqI q5; omega))
            all_goals
             have HE := Lib.hid (HES.out (s[m + 1]'hl1) (by unfold escZ; rw [if_pos (by first | exact Or.inl (beqI q4) | exact Or.inr (beqI q5))]) (by first | (have := beqI q4; omega) | (have := beqI q5; omega)))
             go_wp2_with fail
             go_roundw
             case rel => exact ⟨m + 1 + 1, acc ++ [s[m + 1]'hl1], by first | rw [snocA] | rw [hx, snocA], by go_num, by have := HL1.out; omega, by simp; omega, HE.out.1, HE.out.2.1, HE.out.2.2, by first | rfl | trivial⟩
             case measure => have := HLT.out; simp [intOf]; omega
          · have HE := Lib.hid (HES.out 10 (by unfold escZ; have a := beqI q3; rw [if_neg zal, if_pos a]; rfl) zaq)
            go_wp2_with fail
            go_roundw
            case rel => exact ⟨m + 1 + 1, acc ++ [10], by rw [snocA], by go_num, by have := HL1.out; omega, by simp; omega, HE.out.1, HE.out.2.1, HE.out.2.2, by first | rfl | trivial⟩
            case measure => have := HLT.out; simp [intOf]; omega
  · have hme : m = s.size := by omega
    subst hme
    have HE : RowKit.Hid (e = 2) := Lib.hid (by
     have h := HG.out.2.2
     rw [qcd] at h; exact h.symm)
    clear hlt
    go_wp2_with fail
    go_ret3
    exact ⟨⟨⟨#[]⟩, 0, by simp [HE.out], fun h0 => by have := HE.out; omega⟩, rfl⟩
/-- how long a sign is -/
def signN (l : List UInt8) : Nat := (signF l).2.1
theorem two_n (l : List UInt8) (p : ByteArray) (h : twoL.find? (fun q => Lib.hasPrefix l q.data.toList) = some p) : signN l = 2 ∧ signF l = (⟨4, p, 0⟩, 2, 0) := by
 unfold signN signF; rw [h]; exact ⟨rfl, rfl⟩
theorem one_n (c : UInt8) (l : List UInt8) (h : twoL.find? (fun q => Lib.hasPrefix (c :: l) q.data.toList) = none) : (singles.data.toList.contains c = true → signN (c :: l) = 1 ∧ signF (c :: l) = (⟨4, ⟨#[c]⟩, 0⟩, 1, 0)) ∧ (singles.data.toList.contains c = false → signN (c :: l) = 0 ∧ (signF (c :: l)).2.2 = 3) := by
 unfold signN signF; rw [h]
 dsimp only
 constructor
 · intro h2; rw [if_pos h2]; exact ⟨rfl, rfl⟩
 · intro h2; rw [h2]; exact ⟨rfl, rfl⟩
theorem toL (s : ByteArray) : s.toList = s.data.toList := Lib.toList_data s
theorem qdr : ∀ q ∈ twoL, ∃ a b, q.data.toList = [a, b] := by
 intro q hq
 simp only [twoL, List.mem_cons, List.not_mem_nil, or_false] at hq
 rcases hq with rfl | rfl | rfl | rfl | rfl <;> exact ⟨_, _, rfl⟩
theorem qcS {α : Type} {f g : α → Bool} : ∀ (l : List α), (∀ x ∈ l, f x = g x) → l.find? f = l.find? g
 | [], _ => rfl
 | x :: l, h => by
  rw [List.find?_cons, List.find?_cons, h x zbt, qcS l (fun y hy => h y (by simp [hy]))]
theorem two_find (s : ByteArray) (k : Nat) (h : k + 2 ≤ s.size) : twoL.find? (fun q => Lib.hasPrefix (s.data.toList.drop k) q.data.toList) = twoL.find? (fun q => (s.extract k (k + 2)).toList == q.toList) := by
 refine qcS _ fun q hq => ?_
 have e : (s.extract k (k + 2)).toList = [s[k], s[k + 1]] := by
  rw [toL, qaU, qaY s k zal, qaY s (k + 1) zal]; simp
 rw [e, toL, qaY s k zal, qaY s (k + 1) zal]
 obtain ⟨a, b, hab⟩ := qdr q hq
 rw [hab, Bool.eq_iff_iff]
 simp [Lib.hasPrefix, List.isPrefixOf]
 exact ⟨fun ⟨h1, h2⟩ => ⟨h1.symm, h2.symm⟩, fun ⟨h1, h2⟩ => ⟨h1.symm, h2.symm⟩⟩
set_option maxHeartbeats 4000000 in
set_option maxRecDepth 20000 in
theorem sign16 (s : ByteArray) (hs : (s.size : Int) ≤ 5000) (k n : Nat) (hk : k < s.size) (hn : signN (s.data.toList.drop k) = n) (w : World) :
  Calls Tryz.prog 111 #[.string s, .int .i64 (k : Int)] w fun e' w' => e' = .returned (.int .i64 (n : Int)) ∧ Ext w w' := by
 have HN := Lib.hid hn
 have hk5 : (k : Int) ≤ 5000 := by omega
 have hki : (k : Int) < (s.size : Int) := by omega
 have hd := qaY s k hk
 obtain ⟨u, hu⟩ : ∃ u, s[k]'hk = u := ⟨_, rfl⟩
 have HD := Lib.hid hd
 rw [hu] at HD
 clear hn hd
 by_cases h2 : k + 2 ≤ s.size
 · have HF := Lib.hid (two_find s k h2)
   have h2i : (k : Int) + 2 ≤ (s.size : Int) := by omega
   obtain ⟨t2, ht2⟩ : ∃ t2, s.extract k (k + 2) = t2 := ⟨_, rfl⟩
   rw [ht2] at HF
   have e0 : (⟨#[61, 61]⟩ : ByteArray).toList = [61, 61] := by kernel_rfl
   have e1 : (⟨#[33, 61]⟩ : ByteArray).toList = [33, 61] := by kernel_rfl
   have e2 : (⟨#[60, 61]⟩ : ByteArray).toList = [60, 61] := by kernel_rfl
   have e3 : (⟨#[62, 61]⟩ : ByteArray).toList = [62, 61] := by kernel_rfl
   have e4 : (⟨#[46, 46]⟩ : ByteArray).toList = [46, 46] := by kernel_rfl
   go_enter Tryz.func111, Tryz.ntmps111
   cases q0 : (t2.toList == [61, 61])
   rotate_left
   · have HE : RowKit.Hid (n = 2) := Lib.hid (by
     rw [← HN.out]; exact (two_n _ ⟨#[61, 61]⟩ (by rw [HF.out]; unfold twoL; simp only [List.find?_cons, e0, e1, e2, e3, e4, q0])).1)
     clear HF HN
     go_wp2_with fail
     go_ret
     exact ⟨ret_int (by rw [HE.out]; rfl), Ext.refl _⟩
   cases q1 : (t2.toList == [33, 61])
   rotate_left
   · have HE : RowKit.Hid (n = 2) := Lib.hid (by
     rw [← HN.out]; exact (two_n _ ⟨#[33, 61]⟩ (by rw [HF.out]; unfold twoL; simp only [List.find?_cons, e0, e1, e2, e3, e4, q0, q1])).1)
     clear HF HN
     go_wp2_with fail
     go_ret
     exact ⟨ret_int (by rw [HE.out]; rfl), Ext.refl _⟩
   cases q2 : (t2.toList == [60, 61])
   rotate_left
   · have HE : RowKit.Hid (n = 2) := Lib.hid (by
     rw [← HN.out]; exact (two_n _ ⟨#[60, 61]⟩ (by rw [HF.out]; unfold twoL; simp only [List.find?_cons, e0, e1, e2, e3, e4, q0, q1, q2])).1)
     clear HF HN
     go_wp2_with fail
     go_ret
     exact ⟨ret_int (by rw [HE.out]; rfl), Ext.refl _⟩
   cases q3 : (t2.toList == [62, 61])
   rotate_left
   · have HE : RowKit.Hid (n = 2) := Lib.hid (by
     rw [← HN.out]; exact (two_n _ ⟨#[62, 61]⟩ (by rw [HF.out]; unfold twoL; simp only [List.find?_cons, e0, e1, e2, e3, e4, q0, q1, q2, q3])).1)
     clear HF HN
     go_wp2_with fail
     go_ret
     exact ⟨ret_int (by rw [HE.out]; rfl), Ext.refl _⟩
   cases q4 : (t2.toList == [46, 46])
   rotate_left
   · have HE : RowKit.Hid (n = 2) := Lib.hid (by
     rw [← HN.out]; exact (two_n _ ⟨#[46, 46]⟩ (by rw [HF.out]; unfold twoL; simp only [List.find?_cons, e0, e1, e2, e3, e4, q0, q1, q2, q3, q4])).1)
     clear HF HN
     go_wp2_with fail
     go_ret
     exact ⟨ret_int (by rw [HE.out]; rfl), Ext.refl _⟩
   have HB : RowKit.Hid ((singles.data.toList.contains u = true → n = 1) ∧ (singles.data.toList.contains u = false → n = 0)) := Lib.hid (by
    have hf : twoL.find? (fun q => Lib.hasPrefix (s.data.toList.drop k) q.data.toList) = none := by
     rw [HF.out]; unfold twoL; simp only [List.find?_cons, List.find?_nil, e0, e1, e2, e3, e4, q0, q1, q2, q3, q4]
    rw [HD.out] at hf
    have h := one_n u _ hf
    rw [← HN.out, HD.out]
    exact ⟨fun x => (h.1 x).1, fun x => (h.2 x).1⟩)
   clear HF e0 e1 e2 e3 e4
   go_wp2_with fail
   try (simp only [ht2])
   try clear ht2
   go_loopw [6] (fun ii wr => ∃ (j : Nat) (d : Nat) (os : Array Obj), ii = .int .i64 j ∧ j ≤ 14 ∧ (singles.data.toList.take j).contains u = false ∧ wr = more w d os) (fun ii _ => 14 - (intOf ii).toNat)
   case atStart => exact ⟨0, w.drawn, #[], rfl, by omega, rfl, by simp [more]⟩
   case round =>
    obtain ⟨j, d, os, rfl, hj, hf, rfl⟩ := hrel
    have HFF := Lib.hid hf
    clear hf
    by_cases hlt : j < 14
    · go_wp2_with fail
      refine qaa 5 45 [false, false, false, false, false] zam zam rfl ?_
      simp only [List.take_succ_cons, List.take_zero, List.drop_succ_cons, List.drop_zero]
      repeat (refine Lex.step rfl ?_; intro K hK; unfold StepG; go_simp; (first
        | refine hK _ ?_); clear hK K)
      refine Lex.nil fun WW hE => ?_
      obtain ⟨dd, oo, rfl⟩ := hE
      unfold FillH
      go_wp2_with fail
      rw [ends_normal]
      go_wp2_with fail
      · rename_i hqt
        have hq := qcx u j hlt (by simp only [beq_iff_eq] at hqt; exact hqt.symm)
        go_ret
        exact ⟨ret_int (by rw [HB.out.1 (qdj u j hlt hq)]; rfl), (Ext.refl _).more _ _⟩
      · rename_i hqt
        have hq := qcs u j hlt (by simp only [beq_eq_false_iff_ne, ne_eq] at hqt; exact fun h => hqt h.symm)
        go_roundw
        case rel => exact ⟨j + 1, _, _, by go_num, by omega, single_step u j hlt HFF.out hq, rfl⟩
        case measure => simp [intOf] <;> omega
    · have hj14 : j = 14 := by omega
      subst hj14
      go_wp2_with fail
      go_ret
      exact ⟨ret_int (by rw [HB.out.2 (by rw [show singles.data.toList = singles.data.toList.take 14 from rfl, HFF.out])]; rfl), (Ext.refl _).more _ _⟩
 · have h2i : (s.size : Int) < (k : Int) + 2 := by omega
   have HB : RowKit.Hid ((singles.data.toList.contains u = true → n = 1) ∧ (singles.data.toList.contains u = false → n = 0)) := Lib.hid (by
    have h0 : s.data.toList.drop (k + 1) = [] := List.drop_eq_nil_of_le zby
    have hf : twoL.find? (fun q => Lib.hasPrefix (s.data.toList.drop k) q.data.toList) = none := by
     rw [List.find?_eq_none]
     intro q hq
     obtain ⟨a, b, hab⟩ := qdr q hq
     rw [HD.out, h0, hab]; simp [Lib.hasPrefix, List.isPrefixOf]
    rw [HD.out] at hf
    have h := one_n u _ hf
    rw [← HN.out, HD.out]
    exact ⟨fun x => (h.1 x).1, fun x => (h.2 x).1⟩)
   clear h2
   go_enter Tryz.func111, Tryz.ntmps111
   go_wp2_with fail
   try (simp only [ht2])
   try clear ht2
   go_loopw [6] (fun ii wr => ∃ (j : Nat) (d : Nat) (os : Array Obj), ii = .int .i64 j ∧ j ≤ 14 ∧ (singles.data.toList.take j).contains u = false ∧ wr = more w d os) (fun ii _ => 14 - (intOf ii).toNat)
   case atStart => exact ⟨0, w.drawn, #[], rfl, by omega, rfl, by simp [more]⟩
   case round =>
    obtain ⟨j, d, os, rfl, hj, hf, rfl⟩ := hrel
    have HFF := Lib.hid hf
    clear hf
    by_cases hlt : j < 14
    · go_wp2_with fail
      refine qaa 5 45 [false, false, false, false, false] zam zam rfl ?_
      simp only [List.take_succ_cons, List.take_zero, List.drop_succ_cons, List.drop_zero]
      repeat (refine Lex.step rfl ?_; intro K hK; unfold StepG; go_simp; (first
        | refine hK _ ?_); clear hK K)
      refine Lex.nil fun WW hE => ?_
      obtain ⟨dd, oo, rfl⟩ := hE
      unfold FillH
      go_wp2_with fail
      rw [ends_normal]
      go_wp2_with fail
      · rename_i hqt
        have hq := qcx u j hlt (by simp only [beq_iff_eq] at hqt; exact hqt.symm)
        go_ret
        exact ⟨ret_int (by rw [HB.out.1 (qdj u j hlt hq)]; rfl), (Ext.refl _).more _ _⟩
      · rename_i hqt
        have hq := qcs u j hlt (by simp only [beq_eq_false_iff_ne, ne_eq] at hqt; exact fun h => hqt h.symm)
        go_roundw
        case rel => exact ⟨j + 1, _, _, by go_num, by omega, single_step u j hlt HFF.out hq, rfl⟩
        case measure => simp [intOf] <;> omega
    · have hj14 : j = 14 := by omega
      subst hj14
      go_wp2_with fail
      go_ret
      exact ⟨ret_int (by rw [HB.out.2 (by rw [show singles.data.toList = singles.data.toList.take 14 from rfl, HFF.out])]; rfl), (Ext.refl _).more _ _⟩
end Go.Proofs.YtijmfpoanggjjaaGreatDoor

namespace Go.Proofs.YtijmfpoanggjjaaGreatDoor
open Go.RowKit
attribute [go_sem] more_more Array.size_append
/-- what One hands back -/
def OnePost (r : Tok) (k n : Nat) (e : Int) (w : World) (e' : Ending) (w' : World) : Prop :=
 (∃ (a b : Int) (c : ByteArray) (d z : Int), e' = .returned (.tuple #[.agg #[.int .i64 a, .int .i64 b, .string c, .int .i64 d], .int .i64 z, .int .i64 e]) ∧ (e = 0 → a = r.k ∧ b = (k : Int) ∧ c = r.s ∧ d = r.i ∧ z = ((k + n : Nat) : Int))) ∧ Ext w w'
theorem OnePost.mk {r : Tok} {k n : Nat} {e : Int} {w w' : World} {e' : Ending} (a b : Int) (c : ByteArray) (d z : Int) (he : e' = .returned (.tuple #[.agg #[.int .i64 a, .int .i64 b, .string c, .int .i64 d], .int .i64 z, .int .i64 e])) (h : e = 0 → a = r.k ∧ b = (k : Int) ∧ c = r.s ∧ d = r.i ∧ z = ((k + n : Nat) : Int)) (hx : Ext w w') : OnePost r k n e w e' w' := ⟨⟨a, b, c, d, z, he, h⟩, hx⟩
theorem span_here (p : Int → Bool) (s : ByteArray) (m : Nat) (h : m < s.size) : spanN p (s.data.toList.drop m) = if p ((s[m]'h).toNat : Int) = true then spanN p (s.data.toList.drop (m + 1)) + 1 else 0 := by
 rw [qaY s m h, spanN]
theorem span_end (p : Int → Bool) (s : ByteArray) : spanN p (s.data.toList.drop s.size) = 0 := by rw [qcd]; rfl
set_option maxHeartbeats 4000000 in
set_option maxRecDepth 20000 in
theorem one_letter (s : ByteArray) (hs : (s.size : Int) ≤ 5000) (k n : Nat) (hk : k < s.size) (hl : qaA ((s[k]'hk).toNat : Int) = true) (hn : spanN nameB (s.data.toList.drop k) = n) (t : ByteArray) (ht : s.extract k (k + n) = t) (r : Tok) (e : Int) (hr : nameF t = (r, e)) (w : World) :
    Calls Tryz.prog 82 #[.string s, .int .i64 (k : Int)] w (OnePost r k n e w) := by
  have HN := Lib.hid hn
  have HR := Lib.hid hr
  have hle := spanN_le nameB (s.data.toList.drop k)
  rw [hn] at hle
  have hkn : k + n ≤ s.size := by simp at hle; omega
  have hts : t.size = n := by rw [← ht]; simp; omega
  have hk5 : (k : Int) ≤ 5000 := by omega
  have hki : (k : Int) < (s.size : Int) := by omega
  have hu := (s[k]'hk).toNat_lt
  have HT := Lib.hid ht
  clear hn hr hle ht
  go_enter Tryz.func82, Tryz.ntmps82
  go_wp2_with ((go_at_call 106; (with_reducible refine (qav _ zal zal _).mono ?_); rintro e' _ ⟨rfl, rfl⟩))
  go_loopw [9] (fun a wr => ∃ m : Nat, a = .int .i64 (m : Int) ∧ k ≤ m ∧ m ≤ s.size ∧ m + spanN nameB (s.data.toList.drop m) = k + n ∧ wr = (w.alloc (.cells #[.int .i64 0, .int .i64 0, .string ⟨#[]⟩, .int .i64 0] 97 (0, 0))).alloc (.cells #[.int .i64 0, .int .i64 (k : Int), .string ⟨#[]⟩, .int .i64 0] 97 (0, 0))) (fun a _ => s.size - (intOf a).toNat)
  case atStart => exact ⟨k, rfl, Nat.le_refl _, by omega, by rw [HN.out], rfl⟩
  case round =>
    obtain ⟨m, rfl, hkm, hms, hsp, rfl⟩ := hrel
    have HS := Lib.hid hsp
    clear hsp
    have hm5 : (m : Int) ≤ 5000 := by omega
    have OUT : RowKit.Hid (m = k + n → True) := Lib.hid fun _ => trivial
    by_cases hlt : m < s.size
    · have hlt2 : (m : Int) < (s.size : Int) := by omega
      have hv := (s[m]'hlt).toNat_lt
      have HSH := Lib.hid (span_here nameB s m hlt)
      have HLT := Lib.hid hlt
      cases q1 : qaA ((s[m]'hlt).toNat : Int) <;> cases q2 : qap ((s[m]'hlt).toNat : Int)
      rotate_left
      all_goals try
        (have HS2 : RowKit.Hid (m + 1 + spanN nameB (s.data.toList.drop (m + 1)) = k + n) := Lib.hid (by
          have h := HS.out
          rw [HSH.out, if_pos (by unfold nameB; rw [q1, q2]; rfl)] at h
          omega)
         go_wp2_with (first
      | ((go_at_call 106; (with_reducible refine (qav _ zal zal _).mono ?_); rintro e' _ ⟨rfl, rfl⟩))
      | ((go_at_call 107; (with_reducible refine (qaM _ zal zal _).mono ?_); rintro e' _ ⟨rfl, rfl⟩)))
         go_roundw
         case rel => exact ⟨m + 1, by go_num, by omega, by have := HLT.out; omega, HS2.out, by first | rfl | trivial⟩
         case measure => have := HLT.out; simp [intOf]; omega)
      have HE : RowKit.Hid (m = k + n) := Lib.hid (by
        have h := HS.out
        rw [HSH.out, if_neg (by unfold nameB; rw [q1, q2]; simp)] at h
        omega)
      have hmk : m - k = n := by have := HE.out; omega
      have hx : s.extract k m = t := by rw [HE.out]; exact HT.out
      have hkm2 : (k : Int) ≤ (m : Int) := by omega
      have hms2 : (m : Int) ≤ (s.size : Int) := by omega
      have hti : (t.size : Int) = (m : Int) - (k : Int) := by omega
      have ht5 : (t.size : Int) ≤ 100000 := by omega
      have WD := Lib.hid (fun w1 => qdu t ht5 w1)
      cases hw : wordB t
      · rw [hw] at WD
        by_cases h16 : 16 < t.size
        · have h162 : (16 : Int) < (m : Int) - (k : Int) := by omega
          have HR2 : RowKit.Hid (e = 5) := Lib.hid (by
            have h := HR.out
            unfold nameF at h
            rw [hw, if_neg zbt, if_pos h16] at h
            simp only [Prod.mk.injEq] at h; exact h.2.symm)
          clear h16 hw
          go_wp2_with (first
      | ((go_at_call 106; (with_reducible refine (qav _ zal zal _).mono ?_); rintro e' _ ⟨rfl, rfl⟩))
      | ((go_at_call 107; (with_reducible refine (qaM _ zal zal _).mono ?_); rintro e' _ ⟨rfl, rfl⟩))
      | ((go_at_call 108; (with_reducible refine (WD.out _).mono ?_); rintro e' _ ⟨rfl, dw, ow, rfl⟩)))
          refine bodyPost_ret (v := .tuple #[.agg #[.int .i64 1, .int .i64 (k : Int), .string t, .int .i64 0], .int .i64 0, .int .i64 5]) zbm rfl (OnePost.mk 1 k t 0 0 (by rw [HR2.out]) (fun h0 => by have := HR2.out; omega) zah)
        · have h162 : (m : Int) - (k : Int) ≤ 16 := by omega
          have HR2 : RowKit.Hid (r = ⟨1, t, 0⟩ ∧ e = 0) := Lib.hid (by
            have h := HR.out
            unfold nameF at h
            rw [hw, if_neg zbt, if_neg h16] at h
            simp only [Prod.mk.injEq] at h; exact ⟨h.1.symm, h.2.symm⟩)
          clear h16 hw
          go_wp2_with (first
      | ((go_at_call 106; (with_reducible refine (qav _ zal zal _).mono ?_); rintro e' _ ⟨rfl, rfl⟩))
      | ((go_at_call 107; (with_reducible refine (qaM _ zal zal _).mono ?_); rintro e' _ ⟨rfl, rfl⟩))
      | ((go_at_call 108; (with_reducible refine (WD.out _).mono ?_); rintro e' _ ⟨rfl, dw, ow, rfl⟩)))
          obtain ⟨rfl, rfl⟩ := HR2.out
          refine bodyPost_ret (v := .tuple #[.agg #[.int .i64 1, .int .i64 (k : Int), .string t, .int .i64 0], .int .i64 (m : Int), .int .i64 0]) zbm rfl (OnePost.mk 1 k t 0 m rfl (fun _ => ⟨rfl, rfl, rfl, rfl, by rw [HE.out]⟩) zah)
      · rw [hw] at WD
        have HR2 : RowKit.Hid (r = ⟨5, t, 0⟩ ∧ e = 0) := Lib.hid (by
          have h := HR.out
          unfold nameF at h
          rw [hw, if_pos rfl] at h
          simp only [Prod.mk.injEq] at h; exact ⟨h.1.symm, h.2.symm⟩)
        clear hw
        go_wp2_with (first
      | ((go_at_call 106; (with_reducible refine (qav _ zal zal _).mono ?_); rintro e' _ ⟨rfl, rfl⟩))
      | ((go_at_call 107; (with_reducible refine (qaM _ zal zal _).mono ?_); rintro e' _ ⟨rfl, rfl⟩))
      | ((go_at_call 108; (with_reducible refine (WD.out _).mono ?_); rintro e' _ ⟨rfl, dw, ow, rfl⟩)))
        obtain ⟨rfl, rfl⟩ := HR2.out
        refine bodyPost_ret (v := .tuple #[.agg #[.int .i64 5, .int .i64 (k : Int), .string t, .int .i64 0], .int .i64 (m : Int), .int .i64 0]) zbm rfl (OnePost.mk 5 k t 0 m rfl (fun _ => ⟨rfl, rfl, rfl, rfl, by rw [HE.out]⟩) zah)
    · have HE : RowKit.Hid (m = k + n) := Lib.hid (by
        have h := HS.out
        have hme : m = s.size := by omega
        subst hme
        rw [span_end] at h
        omega)
      have hlt2 : (s.size : Int) ≤ (m : Int) := by omega
      clear hlt
      have hmk : m - k = n := by have := HE.out; omega
      have hx : s.extract k m = t := by rw [HE.out]; exact HT.out
      have hkm2 : (k : Int) ≤ (m : Int) := by omega
      have hms2 : (m : Int) ≤ (s.size : Int) := by omega
      have hti : (t.size : Int) = (m : Int) - (k : Int) := by omega
      have ht5 : (t.size : Int) ≤ 100000 := by omega
      have WD := Lib.hid (fun w1 => qdu t ht5 w1)
      cases hw : wordB t
      · rw [hw] at WD
        by_cases h16 : 16 < t.size
        · have h162 : (16 : Int) < (m : Int) - (k : Int) := by omega
          have HR2 : RowKit.Hid (e = 5) := Lib.hid (by
            have h := HR.out
            unfold nameF at h
            rw [hw, if_neg zbt, if_pos h16] at h
            simp only [Prod.mk.injEq] at h; exact h.2.symm)
          clear h16 hw
          go_wp2_with (first
      | ((go_at_call 106; (with_reducible refine (qav _ zal zal _).mono ?_); rintro e' _ ⟨rfl, rfl⟩))
      | ((go_at_call 107; (with_reducible refine (qaM _ zal zal _).mono ?_); rintro e' _ ⟨rfl, rfl⟩))
      | ((go_at_call 108; (with_reducible refine (WD.out _).mono ?_); rintro e' _ ⟨rfl, dw, ow, rfl⟩)))
          refine bodyPost_ret (v := .tuple #[.agg #[.int .i64 1, .int .i64 (k : Int), .string t, .int .i64 0], .int .i64 0, .int .i64 5]) zbm rfl (OnePost.mk 1 k t 0 0 (by rw [HR2.out]) (fun h0 => by have := HR2.out; omega) zah)
        · have h162 : (m : Int) - (k : Int) ≤ 16 := by omega
          have HR2 : RowKit.Hid (r = ⟨1, t, 0⟩ ∧ e = 0) := Lib.hid (by
            have h := HR.out
            unfold nameF at h
            rw [hw, if_neg zbt, if_neg h16] at h
            simp only [Prod.mk.injEq] at h; exact ⟨h.1.symm, h.2.symm⟩)
          clear h16 hw
          go_wp2_with (first
      | ((go_at_call 106; (with_reducible refine (qav _ zal zal _).mono ?_); rintro e' _ ⟨rfl, rfl⟩))
      | ((go_at_call 107; (with_reducible refine (qaM _ zal zal _).mono ?_); rintro e' _ ⟨rfl, rfl⟩))
      | ((go_at_call 108; (with_reducible refine (WD.out _).mono ?_); rintro e' _ ⟨rfl, dw, ow, rfl⟩)))
          obtain ⟨rfl, rfl⟩ := HR2.out
          refine bodyPost_ret (v := .tuple #[.agg #[.int .i64 1, .int .i64 (k : Int), .string t, .int .i64 0], .int .i64 (m : Int), .int .i64 0]) zbm rfl (OnePost.mk 1 k t 0 m rfl (fun _ => ⟨rfl, rfl, rfl, rfl, by rw [HE.out]⟩) zah)
      · rw [hw] at WD
        have HR2 : RowKit.Hid (r = ⟨5, t, 0⟩ ∧ e = 0) := Lib.hid (by
          have h := HR.out
          unfold nameF at h
          rw [hw, if_pos rfl] at h
          simp only [Prod.mk.injEq] at h; exact ⟨h.1.symm, h.2.symm⟩)
        clear hw
        go_wp2_with (first
      | ((go_at_call 106; (with_reducible refine (qav _ zal zal _).mono ?_); rintro e' _ ⟨rfl, rfl⟩))
      | ((go_at_call 107; (with_reducible refine (qaM _ zal zal _).mono ?_); rintro e' _ ⟨rfl, rfl⟩))
      | ((go_at_call 108; (with_reducible refine (WD.out _).mono ?_); rintro e' _ ⟨rfl, dw, ow, rfl⟩)))
        obtain ⟨rfl, rfl⟩ := HR2.out
        refine bodyPost_ret (v := .tuple #[.agg #[.int .i64 5, .int .i64 (k : Int), .string t, .int .i64 0], .int .i64 (m : Int), .int .i64 0]) zbm rfl (OnePost.mk 5 k t 0 m rfl (fun _ => ⟨rfl, rfl, rfl, rfl, by rw [HE.out]⟩) zah)
set_option maxHeartbeats 4000000 in
set_option maxRecDepth 20000 in
theorem one_digit (s : ByteArray) (hs : (s.size : Int) ≤ 5000) (k n : Nat) (hk : k < s.size) (hl : qaA ((s[k]'hk).toNat : Int) = false) (hdg : qap ((s[k]'hk).toNat : Int) = true) (hn : spanN qap (s.data.toList.drop k) = n) (t : ByteArray) (ht : s.extract k (k + n) = t) (r : Tok) (e : Int)
    (hr : (if (1 < n ∧ (s[k]'hk).toNat = 48) ∨ headLetter (s.data.toList.drop (k + n)) = true then (tok0, 3) else numF t) = (r, e)) (w : World) :
    Calls Tryz.prog 82 #[.string s, .int .i64 (k : Int)] w (OnePost r k n e w) := by
  have HN := Lib.hid hn
  have HR := Lib.hid hr
  have hle := spanN_le qap (s.data.toList.drop k)
  rw [hn] at hle
  have hkn : k + n ≤ s.size := by simp at hle; omega
  have hts : t.size = n := by rw [← ht]; simp; omega
  have hk5 : (k : Int) ≤ 5000 := by omega
  have hki : (k : Int) < (s.size : Int) := by omega
  have hu := (s[k]'hk).toNat_lt
  have HDD := Lib.hid (qdi s k n zal hn hkn)
  rw [ht] at HDD
  have HT := Lib.hid ht
  clear hn hr hle ht
  go_enter Tryz.func82, Tryz.ntmps82
  go_wp2_with (first
      | ((go_at_call 106; (with_reducible refine (qav _ zal zal _).mono ?_); rintro e' _ ⟨rfl, rfl⟩))
      | ((go_at_call 107; (with_reducible refine (qaM _ zal zal _).mono ?_); rintro e' _ ⟨rfl, rfl⟩)))
  go_loopw [9] (fun a wr => ∃ m : Nat, a = .int .i64 (m : Int) ∧ k ≤ m ∧ m ≤ s.size ∧ m + spanN qap (s.data.toList.drop m) = k + n ∧ wr = (w.alloc (.cells #[.int .i64 0, .int .i64 0, .string ⟨#[]⟩, .int .i64 0] 97 (0, 0))).alloc (.cells #[.int .i64 0, .int .i64 (k : Int), .string ⟨#[]⟩, .int .i64 0] 97 (0, 0))) (fun a _ => s.size - (intOf a).toNat)
  case atStart => exact ⟨k, rfl, Nat.le_refl _, by omega, by rw [HN.out], rfl⟩
  case round =>
    obtain ⟨m, rfl, hkm, hms, hsp, rfl⟩ := hrel
    have HS := Lib.hid hsp
    clear hsp
    have hm5 : (m : Int) ≤ 5000 := by omega
    by_cases hlt : m < s.size
    · have hlt2 : (m : Int) < (s.size : Int) := by omega
      have hv := (s[m]'hlt).toNat_lt
      have HSH := Lib.hid (span_here qap s m hlt)
      have HLT := Lib.hid hlt
      cases q2 : qap ((s[m]'hlt).toNat : Int)
      rotate_left
      · have HS2 : RowKit.Hid (m + 1 + spanN qap (s.data.toList.drop (m + 1)) = k + n) := Lib.hid (by
          have h := HS.out
          rw [HSH.out, if_pos q2] at h
          omega)
        go_wp2_with (first
      | ((go_at_call 106; (with_reducible refine (qav _ zal zal _).mono ?_); rintro e' _ ⟨rfl, rfl⟩))
      | ((go_at_call 107; (with_reducible refine (qaM _ zal zal _).mono ?_); rintro e' _ ⟨rfl, rfl⟩)))
        go_roundw
        case rel => exact ⟨m + 1, by go_num, by omega, by have := HLT.out; omega, HS2.out, by first | rfl | trivial⟩
        case measure => have := HLT.out; simp [intOf]; omega
      have HE : RowKit.Hid (m = k + n) := Lib.hid (by
        have h := HS.out
        rw [HSH.out, if_neg (by rw [q2]; simp)] at h
        omega)
      have HHL : RowKit.Hid (headLetter (s.data.toList.drop (k + n)) = qaA ((s[m]'hlt).toNat : Int)) := Lib.hid (by rw [← HE.out, qaY s m hlt]; rfl)
      cases q3 : qaA ((s[m]'hlt).toNat : Int)
      · rw [q3] at HHL
        have hx : s.extract k m = t := by rw [HE.out]; exact HT.out
        have hkm2 : (k : Int) ≤ (m : Int) := by omega
        have hms2 : (m : Int) ≤ (s.size : Int) := by omega
        have hmk : (m : Int) - (k : Int) = (n : Int) := by have := HE.out; omega
        by_cases hc : 1 < n ∧ (s[k]'hk).toNat = 48
        · have hc1 : 1 < (m : Int) - (k : Int) := by omega
          have hc2 : ((s[k]'hk).toNat : Int) = 48 := by omega
          have HC := Lib.hid hc
          clear hc hmk
          have HR2 : RowKit.Hid (e = 3) := Lib.hid (by
            have h := HR.out; rw [if_pos (Or.inl HC.out)] at h; simp only [Prod.mk.injEq] at h; exact h.2.symm)
          go_wp2_with (first
      | ((go_at_call 106; (with_reducible refine (qav _ zal zal _).mono ?_); rintro e' _ ⟨rfl, rfl⟩))
      | ((go_at_call 107; (with_reducible refine (qaM _ zal zal _).mono ?_); rintro e' _ ⟨rfl, rfl⟩)))
          all_goals exact bodyPost_ret (v := .tuple #[.agg #[.int .i64 0, .int .i64 (k : Int), .string ⟨#[]⟩, .int .i64 0], .int .i64 0, .int .i64 3]) zbm rfl (OnePost.mk 0 k ⟨#[]⟩ 0 0 (by rw [HR2.out]) (fun h0 => by have := HR2.out; omega) zah)
        · have HR2 : RowKit.Hid (numF t = (r, e)) := Lib.hid (by
            have h := HR.out
            rw [if_neg (by rw [HHL.out]; simpa using hc)] at h; exact h)
          obtain ⟨R, hR⟩ : ∃ R, numG 0 t.data.toList = R := ⟨_, rfl⟩
          have NB := Lib.hid (fun w1 => number16 t zal HDD.out R hR w1)
          unfold numF at HR2
          rw [hR] at HR2
          clear hR
          by_cases hz : (s[k]'hk).toNat = 48
          · have hc1 : (m : Int) - (k : Int) ≤ 1 := by omega
            have hc2 : ((s[k]'hk).toNat : Int) = 48 := by omega
            clear hc hmk
            cases R with
            | none =>
              have HR3 : RowKit.Hid (e = 8) := Lib.hid (by have h := HR2.out; unfold numE at h; simp only [Prod.mk.injEq] at h; exact h.2.symm)
              unfold numV at NB
              go_wp2_with (first
      | ((go_at_call 106; (with_reducible refine (qav _ zal zal _).mono ?_); rintro e' _ ⟨rfl, rfl⟩))
      | ((go_at_call 107; (with_reducible refine (qaM _ zal zal _).mono ?_); rintro e' _ ⟨rfl, rfl⟩))
      | ((go_at_call 109; (with_reducible refine (NB.out _).mono ?_); rintro e' _ ⟨rfl, rfl⟩)))
              exact bodyPost_ret (v := .tuple #[.agg #[.int .i64 0, .int .i64 (k : Int), .string ⟨#[]⟩, .int .i64 0], .int .i64 0, .int .i64 8]) zbm rfl (OnePost.mk 0 k ⟨#[]⟩ 0 0 (by rw [HR3.out]) (fun h0 => by have := HR3.out; omega) zah)
            | some v =>
              have HR3 : RowKit.Hid (r = ⟨2, ⟨#[]⟩, v⟩ ∧ e = 0) := Lib.hid (by have h := HR2.out; unfold numE at h; simp only [Prod.mk.injEq] at h; exact ⟨h.1.symm, h.2.symm⟩)
              unfold numV at NB
              go_wp2_with (first
      | ((go_at_call 106; (with_reducible refine (qav _ zal zal _).mono ?_); rintro e' _ ⟨rfl, rfl⟩))
      | ((go_at_call 107; (with_reducible refine (qaM _ zal zal _).mono ?_); rintro e' _ ⟨rfl, rfl⟩))
      | ((go_at_call 109; (with_reducible refine (NB.out _).mono ?_); rintro e' _ ⟨rfl, rfl⟩)))
              obtain ⟨rfl, rfl⟩ := HR3.out
              exact bodyPost_ret (v := .tuple #[.agg #[.int .i64 2, .int .i64 (k : Int), .string ⟨#[]⟩, .int .i64 v], .int .i64 (m : Int), .int .i64 0]) zbm rfl (OnePost.mk 2 k ⟨#[]⟩ v m rfl (fun _ => ⟨rfl, rfl, rfl, rfl, by rw [HE.out]⟩) zah)
          · have hc2 : (((s[k]'hk).toNat : Int) == 48) = false := beq_eq_false_iff_ne.2 zal
            clear hc hmk
            cases R with
            | none =>
              have HR3 : RowKit.Hid (e = 8) := Lib.hid (by have h := HR2.out; unfold numE at h; simp only [Prod.mk.injEq] at h; exact h.2.symm)
              unfold numV at NB
              go_wp2_with (first
      | ((go_at_call 106; (with_reducible refine (qav _ zal zal _).mono ?_); rintro e' _ ⟨rfl, rfl⟩))
      | ((go_at_call 107; (with_reducible refine (qaM _ zal zal _).mono ?_); rintro e' _ ⟨rfl, rfl⟩))
      | ((go_at_call 109; (with_reducible refine (NB.out _).mono ?_); rintro e' _ ⟨rfl, rfl⟩)))
              exact bodyPost_ret (v := .tuple #[.agg #[.int .i64 0, .int .i64 (k : Int), .string ⟨#[]⟩, .int .i64 0], .int .i64 0, .int .i64 8]) zbm rfl (OnePost.mk 0 k ⟨#[]⟩ 0 0 (by rw [HR3.out]) (fun h0 => by have := HR3.out; omega) zah)
            | some v =>
              have HR3 : RowKit.Hid (r = ⟨2, ⟨#[]⟩, v⟩ ∧ e = 0) := Lib.hid (by have h := HR2.out; unfold numE at h; simp only [Prod.mk.injEq] at h; exact ⟨h.1.symm, h.2.symm⟩)
              unfold numV at NB
              go_wp2_with (first
      | ((go_at_call 106; (with_reducible refine (qav _ zal zal _).mono ?_); rintro e' _ ⟨rfl, rfl⟩))
      | ((go_at_call 107; (with_reducible refine (qaM _ zal zal _).mono ?_); rintro e' _ ⟨rfl, rfl⟩))
      | ((go_at_call 109; (with_reducible refine (NB.out _).mono ?_); rintro e' _ ⟨rfl, rfl⟩)))
              obtain ⟨rfl, rfl⟩ := HR3.out
              exact bodyPost_ret (v := .tuple #[.agg #[.int .i64 2, .int .i64 (k : Int), .string ⟨#[]⟩, .int .i64 v], .int .i64 (m : Int), .int .i64 0]) zbm rfl (OnePost.mk 2 k ⟨#[]⟩ v m rfl (fun _ => ⟨rfl, rfl, rfl, rfl, by rw [HE.out]⟩) zah)
      · rw [q3] at HHL
        have hkm2 : (k : Int) ≤ (m : Int) := by omega
        have hms2 : (m : Int) ≤ (s.size : Int) := by omega
        have HR2 : RowKit.Hid (e = 3) := Lib.hid (by
          have h := HR.out; rw [if_pos (Or.inr HHL.out)] at h; simp only [Prod.mk.injEq] at h; exact h.2.symm)
        go_wp2_with (first
      | ((go_at_call 106; (with_reducible refine (qav _ zal zal _).mono ?_); rintro e' _ ⟨rfl, rfl⟩))
      | ((go_at_call 107; (with_reducible refine (qaM _ zal zal _).mono ?_); rintro e' _ ⟨rfl, rfl⟩)))
        all_goals exact bodyPost_ret (v := .tuple #[.agg #[.int .i64 0, .int .i64 (k : Int), .string ⟨#[]⟩, .int .i64 0], .int .i64 0, .int .i64 3]) zbm rfl (OnePost.mk 0 k ⟨#[]⟩ 0 0 (by rw [HR2.out]) (fun h0 => by have := HR2.out; omega) zah)
    · have hme : m = s.size := by omega
      have HE : RowKit.Hid (m = k + n) := Lib.hid (by
        have h := HS.out
        rw [hme, span_end] at h
        omega)
      have hlt2 : (s.size : Int) ≤ (m : Int) := by omega
      have HHL : RowKit.Hid (headLetter (s.data.toList.drop (k + n)) = false) := Lib.hid (by
        rw [← HE.out, hme, qcd]; rfl)
      clear hlt hme
      have hx : s.extract k m = t := by rw [HE.out]; exact HT.out
      have hkm2 : (k : Int) ≤ (m : Int) := by omega
      have hms2 : (m : Int) ≤ (s.size : Int) := by omega
      have hmk : (m : Int) - (k : Int) = (n : Int) := by have := HE.out; omega
      by_cases hc : 1 < n ∧ (s[k]'hk).toNat = 48
      · have hc1 : 1 < (m : Int) - (k : Int) := by omega
        have hc2 : ((s[k]'hk).toNat : Int) = 48 := by omega
        have HC := Lib.hid hc
        clear hc hmk
        have HR2 : RowKit.Hid (e = 3) := Lib.hid (by
          have h := HR.out; rw [if_pos (Or.inl HC.out)] at h; simp only [Prod.mk.injEq] at h; exact h.2.symm)
        go_wp2_with (first
      | ((go_at_call 106; (with_reducible refine (qav _ zal zal _).mono ?_); rintro e' _ ⟨rfl, rfl⟩))
      | ((go_at_call 107; (with_reducible refine (qaM _ zal zal _).mono ?_); rintro e' _ ⟨rfl, rfl⟩)))
        all_goals exact bodyPost_ret (v := .tuple #[.agg #[.int .i64 0, .int .i64 (k : Int), .string ⟨#[]⟩, .int .i64 0], .int .i64 0, .int .i64 3]) zbm rfl (OnePost.mk 0 k ⟨#[]⟩ 0 0 (by rw [HR2.out]) (fun h0 => by have := HR2.out; omega) zah)
      · have HR2 : RowKit.Hid (numF t = (r, e)) := Lib.hid (by
          have h := HR.out
          rw [if_neg (by rw [HHL.out]; simpa using hc)] at h; exact h)
        obtain ⟨R, hR⟩ : ∃ R, numG 0 t.data.toList = R := ⟨_, rfl⟩
        have NB := Lib.hid (fun w1 => number16 t zal HDD.out R hR w1)
        unfold numF at HR2
        rw [hR] at HR2
        clear hR
        by_cases hz : (s[k]'hk).toNat = 48
        · have hc1 : (m : Int) - (k : Int) ≤ 1 := by omega
          have hc2 : ((s[k]'hk).toNat : Int) = 48 := by omega
          clear hc hmk
          cases R with
          | none =>
            have HR3 : RowKit.Hid (e = 8) := Lib.hid (by have h := HR2.out; unfold numE at h; simp only [Prod.mk.injEq] at h; exact h.2.symm)
            unfold numV at NB
            go_wp2_with (first
      | ((go_at_call 106; (with_reducible refine (qav _ zal zal _).mono ?_); rintro e' _ ⟨rfl, rfl⟩))
      | ((go_at_call 107; (with_reducible refine (qaM _ zal zal _).mono ?_); rintro e' _ ⟨rfl, rfl⟩))
      | ((go_at_call 109; (with_reducible refine (NB.out _).mono ?_); rintro e' _ ⟨rfl, rfl⟩)))
            exact bodyPost_ret (v := .tuple #[.agg #[.int .i64 0, .int .i64 (k : Int), .string ⟨#[]⟩, .int .i64 0], .int .i64 0, .int .i64 8]) zbm rfl (OnePost.mk 0 k ⟨#[]⟩ 0 0 (by rw [HR3.out]) (fun h0 => by have := HR3.out; omega) zah)
          | some v =>
            have HR3 : RowKit.Hid (r = ⟨2, ⟨#[]⟩, v⟩ ∧ e = 0) := Lib.hid (by have h := HR2.out; unfold numE at h; simp only [Prod.mk.injEq] at h; exact ⟨h.1.symm, h.2.symm⟩)
            unfold numV at NB
            go_wp2_with (first
      | ((go_at_call 106; (with_reducible refine (qav _ zal zal _).mono ?_); rintro e' _ ⟨rfl, rfl⟩))
      | ((go_at_call 107; (with_reducible refine (qaM _ zal zal _).mono ?_); rintro e' _ ⟨rfl, rfl⟩))
      | ((go_at_call 109; (with_reducible refine (NB.out _).mono ?_); rintro e' _ ⟨rfl, rfl⟩)))
            obtain ⟨rfl, rfl⟩ := HR3.out
            exact bodyPost_ret (v := .tuple #[.agg #[.int .i64 2, .int .i64 (k : Int), .string ⟨#[]⟩, .int .i64 v], .int .i64 (m : Int), .int .i64 0]) zbm rfl (OnePost.mk 2 k ⟨#[]⟩ v m rfl (fun _ => ⟨rfl, rfl, rfl, rfl, by rw [HE.out]⟩) zah)
        · have hc2 : (((s[k]'hk).toNat : Int) == 48) = false := beq_eq_false_iff_ne.2 zal
          clear hc hmk
          cases R with
          | none =>
            have HR3 : RowKit.Hid (e = 8) := Lib.hid (by have h := HR2.out; unfold numE at h; simp only [Prod.mk.injEq] at h; exact h.2.symm)
            unfold numV at NB
            go_wp2_with (first
      | ((go_at_call 106; (with_reducible refine (qav _ zal zal _).mono ?_); rintro e' _ ⟨rfl, rfl⟩))
      | ((go_at_call 107; (with_reducible refine (qaM _ zal zal _).mono ?_); rintro e' _ ⟨rfl, rfl⟩))
      | ((go_at_call 109; (with_reducible refine (NB.out _).mono ?_); rintro e' _ ⟨rfl, rfl⟩)))
            exact bodyPost_ret (v := .tuple #[.agg #[.int .i64 0, .int .i64 (k : Int), .string ⟨#[]⟩, .int .i64 0], .int .i64 0, .int .i64 8]) zbm rfl (OnePost.mk 0 k ⟨#[]⟩ 0 0 (by rw [HR3.out]) (fun h0 => by have := HR3.out; omega) zah)
          | some v =>
            have HR3 : RowKit.Hid (r = ⟨2, ⟨#[]⟩, v⟩ ∧ e = 0) := Lib.hid (by have h := HR2.out; unfold numE at h; simp only [Prod.mk.injEq] at h; exact ⟨h.1.symm, h.2.symm⟩)
            unfold numV at NB
            go_wp2_with (first
      | ((go_at_call 106; (with_reducible refine (qav _ zal zal _).mono ?_); rintro e' _ ⟨rfl, rfl⟩))
      | ((go_at_call 107; (with_reducible refine (qaM _ zal zal _).mono ?_); rintro e' _ ⟨rfl, rfl⟩))
      | ((go_at_call 109; (with_reducible refine (NB.out _).mono ?_); rintro e' _ ⟨rfl, rfl⟩)))
            obtain ⟨rfl, rfl⟩ := HR3.out
            exact bodyPost_ret (v := .tuple #[.agg #[.int .i64 2, .int .i64 (k : Int), .string ⟨#[]⟩, .int .i64 v], .int .i64 (m : Int), .int .i64 0]) zbm rfl (OnePost.mk 2 k ⟨#[]⟩ v m rfl (fun _ => ⟨rfl, rfl, rfl, rfl, by rw [HE.out]⟩) zah)
theorem textG_k (l acc : List UInt8) : (textG l acc).2.2 = 0 → (textG l acc).1.k = 3 ∧ (textG l acc).1.i = 0 := by
 fun_induction textG l acc
 all_goals intro h
 all_goals first
  | (exfalso; exact absurd h zaq)
  | exact ⟨rfl, rfl⟩
  | (rename_i ih; exact ih h)
set_option maxHeartbeats 4000000 in
set_option maxRecDepth 20000 in
theorem one_text (s : ByteArray) (hs : (s.size : Int) ≤ 5000) (k n : Nat) (hk : k < s.size) (hl : qaA ((s[k]'hk).toNat : Int) = false) (hdg : qap ((s[k]'hk).toNat : Int) = false) (hq : (s[k]'hk).toNat = 34) (r : Tok) (e : Int) (hr : textG (s.data.toList.drop (k + 1)) [] = (r, n, e)) (w : World) :
  Calls Tryz.prog 82 #[.string s, .int .i64 (k : Int)] w (OnePost r k (1 + n) e w) := by
 have TX := Lib.hid (fun w1 => text16 s hs k (k + 1 + n) hk r e (by rw [hr]) (by rw [hr]) (by rw [hr]) w1)
 have HK := Lib.hid (textG_k (s.data.toList.drop (k + 1)) [])
 rw [hr] at HK
 have hk5 : (k : Int) ≤ 5000 := by omega
 have hki : (k : Int) < (s.size : Int) := by omega
 have hu := (s[k]'hk).toNat_lt
 have hq2 : ((s[k]'hk).toNat : Int) = 34 := by omega
 clear hr hq
 go_enter Tryz.func82, Tryz.ntmps82
 go_wp2_with (first
   | ((go_at_call 106; (with_reducible refine (qav _ zal zal _).mono ?_); rintro e' _ ⟨rfl, rfl⟩))
   | ((go_at_call 107; (with_reducible refine (qaM _ zal zal _).mono ?_); rintro e' _ ⟨rfl, rfl⟩))
   | ((go_at_call 110; (with_reducible refine (TX.out _).mono ?_); rintro e' _ ⟨⟨q, z, rfl, hq5⟩, rfl⟩; have HQ := Lib.hid hq5; clear hq5)))
 refine bodyPost_ret (v := .tuple #[.agg #[.int .i64 3, .int .i64 (k : Int), .string q, .int .i64 0], .int .i64 z, .int .i64 e]) zbm rfl (OnePost.mk 3 k q 0 z rfl (fun h0 => ?_) zah)
 obtain ⟨h1, h2⟩ := HQ.out h0
 obtain ⟨h3, h4⟩ := HK.out h0
 exact ⟨h3.symm, rfl, h1, h4.symm, by rw [h2]; omega⟩
theorem sign_cut (s : ByteArray) (k n : Nat) (hk : k < s.size) (r : Tok) (e : Int) (hr : signF (s.data.toList.drop k) = (r, n, e)) : (n = 0 ∧ e = 3) ∨ (0 < n ∧ k + n ≤ s.size ∧ n ≤ 2 ∧ e = 0 ∧ r = ⟨4, s.extract k (k + n), 0⟩) := by
 have hd := qaY s k hk
 cases hf : twoL.find? (fun q => Lib.hasPrefix (s.data.toList.drop k) q.data.toList) with
 | some p =>
  have h := (two_n _ p hf).2
  rw [hr] at h
  simp only [Prod.mk.injEq] at h
  obtain ⟨rfl, rfl, rfl⟩ := h
  right
  obtain ⟨a, b, hab⟩ := qdr p (List.mem_of_find?_eq_some hf)
  have hp := List.find?_some hf
  rw [hab] at hp
  have hpre := List.isPrefixOf_iff_prefix.1 hp
  obtain ⟨x, hx⟩ := hpre
  have hlen := congrArg List.length hx
  simp at hlen
  refine ⟨by omega, by omega, by omega, rfl, ?_⟩
  have : s.extract k (k + 2) = p := by
   rw [qaU, ← hx]
   apply ByteArray.ext
   apply Array.ext'
   simp [hab]
  rw [this]
 | none =>
  rw [hd] at hf
  have h := one_n _ _ hf
  cases hc : singles.data.toList.contains (s[k]'hk)
  · have := h.2 hc
    rw [← hd] at this
    unfold signN at this
    rw [hr] at this
    exact Or.inl this
  · have := (h.1 hc).2
    rw [← hd, hr] at this
    simp only [Prod.mk.injEq] at this
    obtain ⟨rfl, rfl, rfl⟩ := this
    exact Or.inr ⟨by omega, by omega, by omega, rfl, by rw [ext_one s k hk]⟩
set_option maxHeartbeats 4000000 in
set_option maxRecDepth 20000 in
theorem one_sign (s : ByteArray) (hs : (s.size : Int) ≤ 5000) (k n : Nat) (hk : k < s.size) (hl : qaA ((s[k]'hk).toNat : Int) = false) (hdg : qap ((s[k]'hk).toNat : Int) = false) (hq : (s[k]'hk).toNat ≠ 34) (r : Tok) (e : Int) (hr : signF (s.data.toList.drop k) = (r, n, e)) (w : World) :
  Calls Tryz.prog 82 #[.string s, .int .i64 (k : Int)] w (OnePost r k n e w) := by
 have SG := Lib.hid (fun w1 => sign16 s hs k n hk (by unfold signN; rw [hr]) w1)
 have hcut := sign_cut s k n hk r e hr
 have hk5 : (k : Int) ≤ 5000 := by omega
 have hki : (k : Int) < (s.size : Int) := by omega
 have hu := (s[k]'hk).toNat_lt
 have hq2 : (((s[k]'hk).toNat : Int) == 34) = false := beq_eq_false_iff_ne.2 zal
 clear hr hq
 rcases hcut with ⟨rfl, rfl⟩ | ⟨h0, hkn, h2, rfl, rfl⟩
 · go_enter Tryz.func82, Tryz.ntmps82
   go_wp2_with (first
    | ((go_at_call 106; (with_reducible refine (qav _ zal zal _).mono ?_); rintro e' _ ⟨rfl, rfl⟩))
    | ((go_at_call 107; (with_reducible refine (qaM _ zal zal _).mono ?_); rintro e' _ ⟨rfl, rfl⟩))
    | ((go_at_call 111; (with_reducible refine (SG.out _).mono ?_); rintro e' _ ⟨rfl, dw, ow, rfl⟩)))
   exact bodyPost_ret (v := .tuple #[.agg #[.int .i64 0, .int .i64 (k : Int), .string ⟨#[]⟩, .int .i64 0], .int .i64 0, .int .i64 3]) zbm rfl (OnePost.mk 0 k ⟨#[]⟩ 0 0 rfl (fun h0 => absurd h0 zaq) zah)
 · have hn0 : ((n : Int) == 0) = false := beq_eq_false_iff_ne.2 zal
   have hkn2 : (k : Int) + (n : Int) ≤ (s.size : Int) := by omega
   have hn2 : (n : Int) ≤ 2 := by omega
   have hnn : 0 ≤ (n : Int) := by omega
   have hx : (k : Int) ≤ (k : Int) + (n : Int) := by omega
   have htn : ((k : Int) + (n : Int)).toNat = k + n := by omega
   obtain ⟨t, ht⟩ : ∃ t, s.extract k (k + n) = t := ⟨_, rfl⟩
   go_enter Tryz.func82, Tryz.ntmps82
   go_wp2_with (first
    | ((go_at_call 106; (with_reducible refine (qav _ zal zal _).mono ?_); rintro e' _ ⟨rfl, rfl⟩))
    | ((go_at_call 107; (with_reducible refine (qaM _ zal zal _).mono ?_); rintro e' _ ⟨rfl, rfl⟩))
    | ((go_at_call 111; (with_reducible refine (SG.out _).mono ?_); rintro e' _ ⟨rfl, dw, ow, rfl⟩)))
   rw [ht]
   exact bodyPost_ret (v := .tuple #[.agg #[.int .i64 4, .int .i64 (k : Int), .string t, .int .i64 0], .int .i64 ((k : Int) + (n : Int)), .int .i64 0]) zbm rfl (OnePost.mk 4 k t 0 _ rfl (fun _ => ⟨rfl, rfl, rfl, rfl, rfl⟩) zah)
theorem one16 (s : ByteArray) (hs : (s.size : Int) ≤ 5000) (k n : Nat) (hk : k < s.size) (r : Tok) (e : Int) (hr : oneF (s.data.toList.drop k) = (r, n, e)) (w : World) : Calls Tryz.prog 82 #[.string s, .int .i64 (k : Int)] w (OnePost r k n e w) := by
 have hd := qaY s k hk
 rw [hd] at hr
 unfold oneF at hr
 dsimp only at hr
 rw [← hd] at hr
 have ex : ∀ n, (⟨((s.data.toList.drop k).take n).toArray⟩ : ByteArray) = s.extract k (k + n) := fun n => (qaU s k n).symm
 simp only [ex] at hr
 cases hl : qaA ((s[k]'hk).toNat : Int)
 · rw [hl, if_neg zbt] at hr
   cases hdg : qap ((s[k]'hk).toNat : Int)
   · rw [hdg, if_neg zbt] at hr
     by_cases hq : (s[k]'hk).toNat = 34
     · rw [if_pos hq] at hr
       simp only [Prod.mk.injEq] at hr
       obtain ⟨h1, rfl, h3⟩ := hr
       exact one_text s hs k _ hk hl hdg hq r e (by rw [← h1, ← h3]) w
     · rw [if_neg hq] at hr
       exact one_sign s hs k n hk hl hdg hq r e hr w
   · rw [hdg, if_pos rfl] at hr
     have key : n = spanN qap (s.data.toList.drop k) ∧ (if (1 < spanN qap (s.data.toList.drop k) ∧ (s[k]'hk).toNat = 48) ∨ headLetter (s.data.toList.drop (k + spanN qap (s.data.toList.drop k))) = true then (tok0, 3) else numF (s.extract k (k + spanN qap (s.data.toList.drop k)))) = (r, e) := by
      rw [List.drop_drop] at hr
      split at hr
      · next hc => rw [if_pos hc]; simp only [Prod.mk.injEq] at hr ⊢; exact ⟨hr.2.1.symm, hr.1, hr.2.2⟩
      · next hc =>
        rw [if_neg hc]; simp only [Prod.mk.injEq] at hr
        exact ⟨hr.2.1.symm, by rw [← hr.1, ← hr.2.2]⟩
     obtain ⟨rfl, h2⟩ := key
     exact one_digit s hs k _ hk hl hdg rfl _ rfl r e h2 w
 · rw [hl, if_pos rfl] at hr
   simp only [Prod.mk.injEq] at hr
   obtain ⟨h1, rfl, h3⟩ := hr
   exact one_letter s hs k _ hk hl rfl _ rfl r e (by rw [← h1, ← h3]) w
/-- what the document's Tokens hands back -/
def TokPost16 (w : World) (r : List (Tok × Nat) × Int × Nat) (e : Ending) (w' : World) : Prop :=
 (r.2.1 = 0 ∧ ∃ g cap, e = .returned (.tuple #[.slice (some ⟨g, 0, none⟩) r.1.length cap, .int .i64 0, .int .i64 0]) ∧ w'.ownsRow w.heap.size 97 4 (.slice (some ⟨g, 0, none⟩) r.1.length cap) r.1.length (qay r.1) ∧ Ext w w') ∨
 (r.2.1 ≠ 0 ∧ e = .returned (.tuple #[.slice none 0 0, .int .i64 r.2.1, .int .i64 (r.2.2 : Int)]) ∧ Ext w w')
theorem TokPost16.err {w w' : World} {r : List (Tok × Nat) × Int × Nat} {e : Ending} (h : r.2.1 ≠ 0) (he : e = .returned (.tuple #[.slice none 0 0, .int .i64 r.2.1, .int .i64 (r.2.2 : Int)])) (hx : Ext w w') : TokPost16 w r e w' := Or.inr ⟨h, he, hx⟩
theorem TokPost16.ok {w w' : World} {l : List (Tok × Nat)} {x : Nat} {v : Value} {e : Ending} (he : e = .returned (.tuple #[v, .int .i64 0, .int .i64 0])) (hl : 0 < l.length) (ho : w'.ownsRow w.heap.size 97 4 v l.length (qay l)) (hx : Ext w w') : TokPost16 w (l, 0, x) e w' := by
 obtain ⟨g, cap, rfl, _, _⟩ := ho.form hl
 exact Or.inl ⟨rfl, g, cap, he, ho, hx⟩
theorem own_frame {W w w1 : World} {v : Value} {n : Nat} {xs : List Value} {e : TypeId} {size : Nat} (hx : Ext W w) (h : w.ownsRow W.heap.size e size v n xs) (hg : w.grownBy w1 v.ownBlock) : Ext W w1 := by
 exact hx.grown hg fun k hk => (h.lt k hk).1
set_option maxHeartbeats 4000000 in
set_option maxRecDepth 20000 in
theorem tok16_x (s : ByteArray) (hs : (s.size : Int) ≤ 4096) (res : List (Tok × Nat) × Int × Nat) (hr : lexG s.data.toList (s.size + 1) 0 [] = res) (w : World) : Calls Tryz.prog 61 #[.string s] w (TokPost16 w res) := by
 have HR := Lib.hid hr
 have hs5 : (s.size : Int) ≤ 5000 := by omega
 have SK0 : RowKit.Hid (∀ w1, Calls Tryz.prog 81 #[.string s, .int .i64 0] w1 fun e w' => e = .returned (.int .i64 ((0 + skipL false (s.data.toList.drop 0) : Nat) : Int)) ∧ w1 = w') := Lib.hid (fun w1 => skip16 s hs5 0 _ (Nat.zero_le _) rfl w1)
 have hle0 := qbS false (s.data.toList.drop 0)
 have hlen : s.data.toList.length = s.size := by simp
 obtain ⟨i0, hi, hz0, hz1, hz2⟩ := info_parts tokInfo
 clear hr
 go_enter Tryz.func61, Tryz.ntmps61
 go_wp2_with ((go_at_call 81; (with_reducible refine (SK0.out _).mono ?_); rintro e' _ ⟨rfl, rfl⟩))
 go_loopg [5, 6] (s.size + 1) (fun g x y wr => ∃ (k K : Nat) (acc : List (Tok × Nat)) (lv : Value), lv = x ∧ y = .int .i64 (K : Int) ∧ k ≤ s.size ∧ s.size + 1 ≤ k + g ∧ acc.length ≤ 1024 ∧ K = k + skipL false (s.data.toList.drop k) ∧ lexG s.data.toList g k acc = res ∧ wr.ownsRow w.heap.size 97 4 lv acc.length (qay acc) ∧ Ext w wr)
 case atStart => exact ⟨0, _, [], .slice none 0 0, rfl, rfl, Nat.zero_le _, by omega, by simp, by first | rfl | simp, HR.out, World.ownsRow_nil _ _ _ _, Ext.refl _⟩
 case round =>
  obtain ⟨k, K, acc, lv, rfl, rfl, hk, hkg, hac, hK, hlex, hown, hx⟩ := hrel
  obtain ⟨g, rfl⟩ : ∃ g, gk = g + 1 := ⟨gk - 1, by omega⟩
  have hle := qbS false (s.data.toList.drop k)
  rw [List.length_drop, hlen] at hle
  rw [lexG, hlen, ← hK] at hlex
  have HOWN := Lib.hid hown
  have HX := Lib.hid hx
  have hK5 : (K : Int) ≤ 5000 := by omega
  have hac2 : (acc.length : Int) ≤ 1024 := by omega
  clear hown hx hle0
  by_cases hend : s.size ≤ K
  · have hKe : (K : Int) = (s.size : Int) := by omega
    have hend2 : (s.size : Int) ≤ (K : Int) := by omega
    rw [if_pos hend] at hlex
    have HL := Lib.hid hlex
    clear hlex hend hK hle
    go_wp2_with (at_builtin; refine wpList_append_own_at _ rfl _ _ 69 rfl w.heap.size 97 i0 (.agg #[.int .i64 0, .int .i64 0, .string ⟨#[]⟩, .int .i64 0]) 4 40 Tryz.underlying69 hi hz0 hz1 hz2 rfl zaq lv acc.length (qay acc) rfl ?c0 ⟨_, 0, none⟩ 1 1 [.int .i64 0, .int .i64 (s.size : Int), .string ⟨#[]⟩, .int .i64 0] rfl rfl ?c1 ?c2 ?c3 ?c4 ?c5 ?_)
    case c0 => repeat (first | (with_reducible exact HOWN.out) | (with_reducible refine World.ownsRow.alloc ?_ _) | (with_reducible apply own_more))
    case c1 => exact qaL rfl
    case c2 => intro u hu; simp at hu; rcases hu with rfl | rfl | rfl | rfl <;> rfl
    case c3 => unfold maxLen; omega
    case c4 => omega
    case c5 => have h := HX.out.size; simp; omega
    intro v' w1 hown' hgrow _ hblk
    have hl := HL.out
    subst hl
    have XF := own_frame ((HX.out).alloc (.cells #[.int .i64 0, .int .i64 (s.size : Int), .string ⟨#[]⟩, .int .i64 0] 97 (0, 0))) ((HOWN.out).alloc _) hgrow
    clear hgrow hblk
    go_wp2_with fail
    go_ret3
    refine TokPost16.ok rfl zbt ?_ XF
    rw [qbv]
    simpa [tok0, List.length_append] using hown'
  · have hKlt : K < s.size := by omega
    have hKi : (K : Int) < (s.size : Int) := by omega
    rw [if_neg hend] at hlex
    obtain ⟨r, n1, e1, hone⟩ : ∃ r n1 e1, oneF (s.data.toList.drop K) = (r, n1, e1) := ⟨_, _, _, rfl⟩
    rw [hone] at hlex
    dsimp only at hlex
    have OE := Lib.hid (fun w1 => one16 s hs5 K n1 hKlt r e1 hone w1)
    by_cases he : e1 = 0
    rotate_left
    · rw [if_pos he] at hlex
      have HL := Lib.hid hlex
      have he2 : (e1 != 0) = true := by simpa using he
      have HE := Lib.hid he
      clear hlex hend hK hle he
      go_wp2_with ((go_at_call 82; (with_reducible refine (OE.out _).mono ?_); rintro e' _ ⟨⟨ta, tb, tc, td, tz, rfl, hok⟩, d1, os1, rfl⟩; have HOK := Lib.hid hok; clear hok))
      go_ret3
      have hl := HL.out
      subst hl
      exact TokPost16.err HE.out rfl (by refine HX.out.trans ?_; repeat (first | exact Ext.refl _ | apply Ext.alloc | apply Ext.more))
    · subst he
      rw [if_neg zbt] at hlex
      by_cases hfull : acc.length = 1024
      · rw [if_pos hfull] at hlex
        have HL := Lib.hid hlex
        have hlv : ∃ p c, lv = .slice p acc.length c := by
         rcases Go.Joins.ownsRow_forms HOWN.out with ⟨rfl, h0⟩ | ⟨g1, c, rfl⟩
         · exact ⟨none, 0, by rw [h0]⟩
         · exact ⟨_, _, rfl⟩
        obtain ⟨p, c, rfl⟩ := hlv
        have hge : (1024 : Int) ≤ (acc.length : Int) := by omega
        clear hlex hend hK hle hfull
        go_wp2_with ((go_at_call 82; (with_reducible refine (OE.out _).mono ?_); rintro e' _ ⟨⟨ta, tb, tc, td, tz, rfl, hok⟩, d1, os1, rfl⟩; have HOK := Lib.hid hok; clear hok))
        go_ret3
        have hl := HL.out
        subst hl
        exact TokPost16.err (show (5 : Int) ≠ 0 by decide) rfl (by refine HX.out.trans ?_; repeat (first | exact Ext.refl _ | apply Ext.alloc | apply Ext.more))
      · rw [if_neg hfull] at hlex
        have hlv : ∃ p c, lv = .slice p acc.length c := by
         rcases Go.Joins.ownsRow_forms HOWN.out with ⟨rfl, h0⟩ | ⟨g1, c, rfl⟩
         · exact ⟨none, 0, by rw [h0]⟩
         · exact ⟨_, _, rfl⟩
        obtain ⟨p, c, rfl⟩ := hlv
        have hlt1 : (acc.length : Int) < 1024 := by omega
        have hbd := oneF_bd _ r n1 (by rw [List.length_drop, hlen]; omega) hone
        rw [List.length_drop, hlen] at hbd
        have SK : RowKit.Hid (∀ w1, Calls Tryz.prog 81 #[.string s, .int .i64 ((K : Int) + (n1 : Int))] w1 fun e w' => e = .returned (.int .i64 ((K + n1 + skipL false (s.data.toList.drop (K + n1)) : Nat) : Int)) ∧ w1 = w') := Lib.hid (fun w1 => by have h := skip16 s hs5 (K + n1) _ zal rfl w1; rwa [Int.natCast_add] at h)
        have HL := Lib.hid hlex
        have HB := Lib.hid (And.intro hbd.1 (And.intro hkg (And.intro hK hlt1)))
        have HBD := Lib.hid hbd.2
        clear hlex hend hK hle hfull hkg hbd
        go_wp2_with (first
         | ((go_at_call 82; (with_reducible refine (OE.out _).mono ?_); rintro e' _ ⟨⟨ta, tb, tc, td, tz, rfl, hok⟩, d1, os1, rfl⟩; have HOK := Lib.hid hok; clear hok))
         | (at_builtin; refine wpList_append_own_at _ rfl _ _ 69 rfl w.heap.size 97 i0 (.agg #[.int .i64 0, .int .i64 0, .string ⟨#[]⟩, .int .i64 0]) 4 40 Tryz.underlying69 hi hz0 hz1 hz2 rfl zaq (.slice p acc.length c) acc.length (qay acc) rfl ?c0 ⟨_, 0, none⟩ 1 1 [.int .i64 ta, .int .i64 tb, .string tc, .int .i64 td] rfl rfl ?c1 ?c2 ?c3 ?c4 ?c5 ?_))
        case c0 => repeat (first | (with_reducible exact HOWN.out) | (with_reducible refine World.ownsRow.alloc ?_ _) | (with_reducible apply own_more))
        case c1 => exact qaL zcn
        case c2 => intro u hu; simp at hu; rcases hu with rfl | rfl | rfl | rfl <;> rfl
        case c3 => unfold maxLen; omega
        case c4 => omega
        case c5 => have h := HX.out.size; simp [more_size]; omega
        intro v' w1 hown' hgrow _ hblk
        obtain ⟨k1, k2, k3, k4, k5⟩ := HOK.out (by first | rfl | trivial)
        subst k1 k2 k3 k4 k5
        have XF := Lib.hid (own_frame (W := w) (v := .slice p acc.length c) (n := acc.length) (xs := qay acc) (e := 97) (size := 4) (by refine HX.out.trans ?_; repeat (first | exact Ext.refl _ | apply Ext.alloc | apply Ext.more)) (by repeat (first | (with_reducible exact HOWN.out) | (with_reducible refine World.ownsRow.alloc ?_ _) | (with_reducible apply own_more))) hgrow)
        have HO2 := Lib.hid hown'
        clear hgrow hblk hown'
        go_wp2_with ((go_at_call 81; (with_reducible refine (SK.out _).mono ?_); rintro e' _ ⟨rfl, rfl⟩))
        go_roundg g
        case measure => omega
        case rel =>
         obtain ⟨b1, b2, b3, b4⟩ := HB.out
         exact ⟨K + n1, _, acc ++ [(r, K)], v', rfl, rfl, by have := HBD.out; omega, by omega, by simp; omega, rfl, HL.out, by rw [qbv]; simpa using HO2.out, XF.out⟩
theorem tok16 (s : ByteArray) (res : List (Tok × Nat) × Int × Nat) (hr : lexF s.data.toList = res) (w : World) : Calls Tryz.prog 61 #[.string s] w (TokPost16 w res) := by
 unfold lexF at hr
 have hlen : s.data.toList.length = s.size := by simp
 rw [hlen] at hr
 by_cases h : 4096 < s.size
 · rw [if_pos h] at hr
   subst hr
   have h2 : (4096 : Int) < s.size := by omega
   clear h
   go_enter Tryz.func61, Tryz.ntmps61
   go_wp2_with fail
   go_ret3
   exact TokPost16.err (show (5 : Int) ≠ 0 by decide) rfl (Ext.refl _)
 · rw [if_neg h] at hr
   exact tok16_x s zal res hr w
end Go.Proofs.YtijmfpoanggjjaaGreatDoor
