/- Lemmas for the claim (texts Dig, what its proof uses of them). -/
import Derived.Test.YtijmfpoanggjjaaGreatDoorK01
import Derived.Test.YtijmfpoanggjjaaGreatDoorShelf
import Derived.LoopTactic
import Derived.Deep.LoopGhost
import Derived.Outline
import Derived.Lib.ItoaLen
import Derived.Lib.LaidTab
set_option linter.unusedSimpArgs false
set_option linter.unusedVariables false
namespace Go.Proofs.YtijmfpoanggjjaaGreatDoor
open Go.RowKit
/-- the table of powers of ten lies where it was laid -/
def Pow10 (B : Nat) (w : World) : Prop := (∃ g, Tryz.prog.globalNamed "internal/strconv.uint64pow10" = some g ∧ g < B) ∧ Lib.TabIs Tryz.prog w "internal/strconv.uint64pow10" .u64 Lib.pow10Tab
theorem Pow10.below {B B' : Nat} {w w' : World} (h : Pow10 B w) (hb : Below B' w w') (hB : B ≤ B') : Pow10 B w' := by
 obtain ⟨⟨g, hg, hlt⟩, h⟩ := h
 refine ⟨⟨g, hg, hlt⟩, ?_⟩
 unfold Lib.TabIs World.var? at h ⊢
 rw [hg] at h ⊢
 simp only [Option.bind_some] at h ⊢
 rw [hb.block _ zal]; exact h
theorem qbi {w w' : World} {k : Nat} {os : Array Obj} (h : w' = Go.Sort.grow (w.drewN k) os) : Ext w w' := ⟨_, os, h⟩
theorem ret_intD {k : IntKind} {a b : Int} (h : a = b) : Ending.returned (.int k a) = .returned (.int k b) := by rw [h]
def In64 (n : Int) : Prop := -9223372036854775808 ≤ n ∧ n ≤ 9223372036854775807
set_option maxHeartbeats 400000 in
theorem size_any (a : Int) (ha : In64 a) (w : World) :
  Calls Tryz.prog 46 #[.int .i64 a] w fun e w' => e = .returned (.int .u64 (a.natAbs : Int)) ∧ Ext w w' := by
 obtain ⟨h1, h2⟩ := ha
 go_enter Tryz.func46, Tryz.ntmps46
 go_wp2
 all_goals
  go_ret
  go_tidy
  refine ⟨ret_intD ?_, zac⟩
  omega
theorem dec_big {m : Nat} (h : ¬ m < 10) : Lib.decDigits m = Lib.decDigits (m / 10) ++ [UInt8.ofNat (48 + m % 10)] := by
 rw [Lib.decDigits, dif_neg h]
/-- what is left to be written of u: m, ahead of t -/
def NumRel (u m : Nat) (t : List UInt8) : Prop := (m ≠ 0 ∧ Lib.decDigits u = Lib.decDigits m ++ t) ∨ (m = 0 ∧ Lib.decDigits u = t)
theorem NumRel.step {u m : Nat} {t : List UInt8} (h : NumRel u m t) (h0 : m ≠ 0) : NumRel u (m / 10) (UInt8.ofNat (48 + m % 10) :: t) := by
 rcases h with ⟨_, h⟩ | ⟨h, _⟩
 · by_cases hb : m < 10
   · right
     refine ⟨by omega, ?_⟩
     rw [h, Lib.decDigits_one hb]
     have : m % 10 = m := by omega
     rw [this]; rfl
   · left
     refine ⟨by omega, ?_⟩
     rw [h, dec_big hb]; simp
 · exact absurd h h0
theorem digit_piece (d : Nat) (hd : d < 10) : (⟨#[48, 49, 50, 51, 52, 53, 54, 55, 56, 57]⟩ : ByteArray).extract d (d + 1) = ⟨#[UInt8.ofNat (48 + d)]⟩ := by
 have : ∀ d : Fin 10, ((⟨#[48, 49, 50, 51, 52, 53, 54, 55, 56, 57]⟩ : ByteArray).extract d.val (d.val + 1)) = ⟨#[UInt8.ofNat (48 + d.val)]⟩ := by decide +kernel
 exact this ⟨d, hd⟩
theorem ba_app2 (a b : List UInt8) : (⟨a.toArray⟩ : ByteArray) ++ ⟨b.toArray⟩ = ⟨(a ++ b).toArray⟩ := by
 apply ByteArray.ext
 simp
theorem dig_lt : ∀ (n u : Nat), u < 10 ^ (n + 1) → (Lib.decDigits u).length ≤ n + 1
 | 0, u, h => by rw [Lib.decDigits_one zal]; simp
 | n + 1, u, h => by
  by_cases hb : u < 10
  · rw [Lib.decDigits_one hb]; simp
  · rw [dec_big hb]
    have := dig_lt n (u / 10) (by rw [Nat.pow_succ] at h; omega)
    simp; omega
theorem dig_len (u : Nat) (h : u ≤ 9223372036854775808) : (Lib.decDigits u).length ≤ 21 := by
 have := dig_lt 20 u (Nat.lt_of_le_of_lt h zaq)
 omega
theorem numRel_len {u m : Nat} {t : List UInt8} (h : NumRel u m t) (hu : u ≤ 9223372036854775808) : t.length ≤ 21 := by
 have := dig_len u hu
 rcases h with ⟨_, h⟩ | ⟨_, h⟩ <;> rw [h] at this <;> (try simp only [List.length_append] at this) <;> omega
/-- the state of Digits' loop -/
def DigRel (u m : Nat) (t : List UInt8) : Prop := (t = [] ∧ m = u) ∨ (t ≠ [] ∧ NumRel u m t)
theorem DigRel.step {u m : Nat} {t : List UInt8} (h : DigRel u m t) (hm : 0 < m ∨ t = []) : DigRel u (m / 10) (UInt8.ofNat (48 + m % 10) :: t) := by
 right
 refine ⟨by simp, ?_⟩
 rcases h with ⟨rfl, rfl⟩ | ⟨hne, h⟩
 · by_cases h0 : m = 0
   · subst h0
     exact Or.inr ⟨rfl, by rw [Lib.decDigits_one zal]⟩
   · exact NumRel.step (Or.inl ⟨h0, by simp⟩) h0
 · rcases hm with hm | hm
   · exact h.step zal
   · exact absurd hm hne
theorem DigRel.len {u m : Nat} {t : List UInt8} (h : DigRel u m t) (hu : u ≤ 9223372036854775808) : t.length ≤ 21 := by
 rcases h with ⟨rfl, _⟩ | ⟨_, h⟩
 · simp
 · exact numRel_len h hu
theorem DigRel.done {u : Nat} {t : List UInt8} (h : DigRel u 0 t) (ht : t ≠ []) : Lib.decDigits u = t := by
 rcases h with ⟨h, _⟩ | ⟨_, ⟨h, _⟩ | ⟨_, h⟩⟩
 · exact absurd h ht
 · exact absurd rfl h
 · exact h
set_option maxHeartbeats 2000000 in
set_option maxRecDepth 20000 in
theorem qeb (a : Int) (ha : In64 a) (w : World) : Calls Tryz.prog 27 #[.int .i64 a] w fun e w' => e = .returned (.string ⟨(Lib.itoa a).toArray⟩) ∧ Ext w w' := by
  have HS := Lib.hid (fun w => size_any a ha w)
  obtain ⟨u, hu⟩ : ∃ u, a.natAbs = u := ⟨_, rfl⟩
  rw [hu] at HS
  have hu8 : u ≤ 9223372036854775808 := by obtain ⟨h1, h2⟩ := ha; omega
  have HU8 := Lib.hid hu8
  have HU := Lib.hid hu
  obtain ⟨neg, hneg⟩ : ∃ b, (decide (a < 0)) = b := ⟨_, rfl⟩
  have hneg2 : (a < 0) = (neg = true) := by rw [← hneg]; simp
  have HNG := Lib.hid hneg2
  clear ha hu hu8 hneg hneg2
  go_enter Tryz.func27, Tryz.ntmps27
  go_wp2_with (go_at_call 46; refine (HS.out _).mono ?_; rintro e _ ⟨rfl, d, os, rfl⟩)
  go_loopg [3, 4] (u + 1) (fun g nv sv wr => ∃ (m : Nat) (t : List UInt8), m ≤ u ∧ g = m + (if t.isEmpty then 1 else 0) ∧ nv = .int .u64 (m : Int) ∧ DigRel u m t ∧ sv = .string ⟨t.toArray⟩ ∧ wr = more w d os)
  case atStart => exact ⟨u, [], Nat.le_refl _, rfl, rfl, Or.inl ⟨rfl, rfl⟩, rfl, rfl⟩
  case round =>
    obtain ⟨m, t, hmu, hgk, rfl, hr, rfl, rfl⟩ := hrel
    have htl := hr.len (by have := HU8.out; omega)
    have HTL := Lib.hid htl
    have HR := Lib.hid hr
    have HMU := Lib.hid hmu
    have HGK := Lib.hid hgk
    have hcat : (9223372036854775807 < 1 + t.length) = False := by simp; omega
    have hm8 : (m : Int) ≤ 9223372036854775808 := by have := HU8.out; omega
    clear htl hr hmu hgk
    by_cases hc : 0 < m ∨ t = []
    · obtain ⟨q, hq⟩ : ∃ q, m / 10 = q := ⟨_, rfl⟩
      obtain ⟨r, hrr⟩ : ∃ r, m % 10 = r := ⟨_, rfl⟩
      have hr10 : r < 10 := by omega
      have hst := HR.out.step hc
      rw [hq, hrr] at hst
      have hp := digit_piece r hr10
      obtain ⟨c, hcc⟩ : ∃ c, UInt8.ofNat (48 + r) = c := ⟨_, rfl⟩
      rw [hcc] at hst hp
      have HST := Lib.hid hst
      have hd : (m : Int) / 10 = (q : Int) := by omega
      have ht : (m : Int) % 10 = (r : Int) := by omega
      have hlt : q + 0 < m + (if t.isEmpty then 1 else 0) := by
        rcases hc with h | h
        · split <;> omega
        · subst h; simp; omega
      have HLT := Lib.hid hlt
      have hqm : q ≤ m := by omega
      have HQM := Lib.hid hqm
      have hr9 : (r : Int) ≤ 9 := by omega
      have HQ0 := Lib.hid (show m = 0 → q = 0 ∧ r = 0 by intro h; omega)
      clear hst hcc hq hrr hlt hqm
      by_cases hc' : 0 < m
      · have hc1 : (0 : Int) < m := by omega
        clear hc hc'
        go_wp2_with fail
        go_roundg q
        case measure => have := HLT.out; have := HGK.out; omega
        case rel =>
          refine ⟨q, _, by have := HMU.out; have := HQM.out; omega, rfl, rfl, HST.out, ?_, rfl⟩
          exact congrArg Value.string (ba_app2 [c] t)
      · have htn : t = [] := hc.resolve_left hc'
        have hm0 : m = 0 := by omega
        obtain ⟨hq0, hr0⟩ := HQ0.out hm0
        subst htn hm0 hq0 hr0
        have hn1 : ((⟨([] : List UInt8).toArray⟩ : ByteArray)).toList = [] := by rw [Lib.toList_data]
        clear hc hc'
        go_wp2_with fail
        go_roundg 0
        case measure => have := HLT.out; have := HGK.out; omega
        case rel =>
          refine ⟨0, _, Nat.zero_le _, rfl, rfl, HST.out, ?_, rfl⟩
          exact congrArg Value.string (ba_app2 [c] [])
    · have hm0 : m = 0 := by omega
      have htn : t ≠ [] := fun e => hc (Or.inr e)
      subst hm0
      have HD := Lib.hid (HR.out.done htn)
      have hn1 : ((⟨t.toArray⟩ : ByteArray).toList = []) = False := by rw [Lib.toList_data]; simpa using htn
      have hn3 : (t = []) = False := by simpa using htn
      have hn4 : t.isEmpty = false := by simpa using htn
      clear hc htn
      by_cases hn : a < 0
      · have HI := Lib.hid (show Lib.itoa a = 45 :: t by unfold Lib.itoa; rw [if_pos hn, HU.out, HD.out])
        go_wp2_with fail
        go_ret
        rw [HI.out]
        exact ⟨congrArg (fun z => Ending.returned (.string z)) (ba_app2 [45] t), zac⟩
      · have HI := Lib.hid (show Lib.itoa a = t by unfold Lib.itoa; have e : a.toNat = u := by have := HU.out; omega
                                                   rw [if_neg hn, e, HD.out])
        go_wp2_with fail
        go_ret
        rw [HI.out]
        exact ⟨rfl, zac⟩
end Go.Proofs.YtijmfpoanggjjaaGreatDoor
