/- The document's Digits: numbers as a text. -/
import Derived.Test.YtojejhmodaaoiaaDoorTmC
set_option linter.unusedSimpArgs false
set_option linter.unusedVariables false
namespace Go.Proofs.YtojejhmodaaoiaaDoor
open Go.RowKit

theorem rnum_zero (w : World) : Calls Tryd.prog 19 #[.int .i64 0] w fun e w' => e = .returned (.string ⟨#[48]⟩) ∧ w = w' := by
  go_enter Tryd.func19, Tryd.ntmps19
  go_wp2_with fail
  go_ret
  exact ⟨rfl, rfl⟩
theorem rnum_any (z : Int) (h0 : -9223372036854775808 ≤ z) (h1 : z ≤ 9223372036854775807) (w : World) : Calls Tryd.prog 19 #[.int .i64 z] w fun e w' => e = .returned (.string ⟨(Lib.itoa z).toArray⟩) ∧ w = w' := by
  rcases Int.lt_trichotomy z 0 with h | h | h
  · have e1 : Lib.itoa z = 45 :: Lib.decDigits z.natAbs := by unfold Lib.itoa; rw [if_pos h]
    have e2 : z = -((z.natAbs : Nat) : Int) := by omega
    rw [e1]
    have := rnum_neg z.natAbs (by omega) (by omega) w
    rw [← e2] at this
    exact this
  · subst h
    have e1 : Lib.itoa 0 = [48] := by unfold Lib.itoa; rw [if_neg (by decide)]; rw [Lib.decDigits_one (by decide)]; rfl
    rw [e1]
    exact rnum_zero w
  · have e1 : Lib.itoa z = Lib.decDigits z.toNat := by unfold Lib.itoa; rw [if_neg (by omega)]
    have e2 : z = ((z.toNat : Nat) : Int) := by omega
    rw [e1]
    have := rnum_pos z.toNat (by omega) (by omega) w
    rw [← e2] at this
    exact this

set_option maxHeartbeats 2000000 in
set_option maxRecDepth 20000 in
theorem rdigs_core (p : Option Addr) (n cap : Nat) (l : List Int) (w : World) (hn : l.length = n) (hl : n ≤ 60) (h64 : In64L l) (hc : ∀ j u, l[j]? = some u → ∃ b off, p = some ⟨b, off, none⟩ ∧ w.cell? ⟨b, off + j, none⟩ = some (.int .i64 u)) :
    Calls Tryd.prog 15 #[.slice p n cap] w fun e w' => e = .returned (.string ⟨(digF l).toArray⟩) ∧ w = w' := by
  have HN := Lib.hid hn
  have HC := Lib.hid hc
  have H64 := Lib.hid h64
  have hn7 : (n : Int) ≤ 60 := by omega
  have HL := Lib.hid hl
  clear hn hc h64 hl
  go_enter Tryd.func15, Tryd.ntmps15
  go_wp2_with fail
  go_loopw [3, 4] (fun sv ii wr => ∃ (k : Nat) (acc : List UInt8), ii = .int .i64 (k : Int) ∧ k ≤ n ∧ acc = digF (l.take k) ∧ sv = .string ⟨acc.toArray⟩ ∧ w = wr) (fun _ ii _ => n - (intOf ii).toNat)
  case atStart => exact ⟨0, [], rfl, Nat.zero_le _, rfl, rfl, rfl⟩
  case round =>
    obtain ⟨k, acc, rfl, hk, hacc, rfl, rfl⟩ := hrel
    have hal : acc.length ≤ 1500 := by
      have h1 := digF_len (l.take k) (H64.out.take k)
      rw [← hacc] at h1
      have := List.length_take_le k l
      have := HL.out
      omega
    have HAC := Lib.hid hacc
    clear hacc
    by_cases hlt : k < n
    · obtain ⟨u, hu⟩ : ∃ u, l[k]? = some u := ⟨_, List.getElem?_eq_getElem (by have := HN.out; omega)⟩
      obtain ⟨b1, o1, rfl, cu⟩ := HC.out k u hu
      have hb1 := rcell_lt cu
      obtain ⟨u0, u1⟩ := H64.out u (List.mem_of_getElem? hu)
      have HNU := Lib.hid (rnum_any u u0 u1)
      have HST := Lib.hid (digF_snoc l k u hu)
      have hil := Lib.itoa_length_le u u0 u1
      have hc1 : (9223372036854775807 < (Lib.itoa u).length + 1) = False := by simp; omega
      have hc2 : (9223372036854775807 < acc.length + ((Lib.itoa u).length + 1)) = False := by simp; omega
      have hlt3 : (k : Int) < n := by omega
      have ez : (⟨(Lib.itoa u).toArray⟩ : ByteArray).size = (Lib.itoa u).length := rfl
      clear hu u0 u1 hil hal
      go_wp2_with (go_at_call 19; refine (HNU.out _).mono ?_; rintro e _ ⟨rfl, rfl⟩)
      go_roundw
      case rel =>
        refine ⟨k + 1, _, by go_num, by omega, HST.out.symm, ?_, by trivial⟩
        rw [← HAC.out]
        have e1 := ba_app2 (Lib.itoa u) [44]
        have e2 := ba_app2 acc (Lib.itoa u ++ [44])
        rw [← e1] at e2
        simpa using e2
      case measure => simp [intOf]; omega
    · have hks : n = k := by omega
      subst hks
      have hall : l.take n = l := List.take_of_length_le (by have := HN.out; omega)
      have HE := Lib.hid (show acc = digF l by rw [HAC.out, hall])
      clear hall
      go_wp2_with fail
      go_ret
      rw [HE.out]
      exact ⟨rfl, rfl⟩
theorem rdigs_any (v : Value) (l : List Int) (w : World) (hl : l.length ≤ 60) (h64 : In64L l) (h : IntsAt w v l) : Calls Tryd.prog 15 #[v] w fun e w' => e = .returned (.string ⟨(digF l).toArray⟩) ∧ w = w' := by
  rcases h with ⟨p, cap, rfl, rfl⟩ | ⟨b, off, cap, rfl, h1, h2⟩
  · exact rdigs_core p 0 cap [] w rfl hl h64 (fun j u hj => by simp at hj)
  · exact rdigs_core _ _ cap l w rfl hl h64 (fun j u hj => ⟨b, off, rfl, h2 j u hj⟩)
end Go.Proofs.YtojejhmodaaoiaaDoor
