/- The document's Has, Of, number, Digits of chapter 02. -/
import Derived.Test.YtojejhmodaaoiaaDoorTmR
set_option linter.unusedSimpArgs false
set_option linter.unusedVariables false
namespace Go.Proofs.YtojejhmodaaoiaaDoor
open Go.RowKit

theorem rcell_lt {w : World} {a : Addr} {v : Value} (h : w.cell? a = some v) : a.block < w.heap.size := by
  rcases Nat.lt_or_ge a.block w.heap.size with h' | h'
  · exact h'
  · simp [World.cell?, Array.getElem?_eq_none h'] at h
theorem idxF_take : ∀ (l : List ByteArray) (s : ByteArray) (k : Nat), idxF (l.take k) s = 0 → l[k]? = some s → idxF l s = k + 1
  | [], s, k, _, h => by simp at h
  | x :: l, s, 0, _, h => by simp at h; simp [idxF, h]
  | x :: l, s, k + 1, h0, h => by
    simp only [List.take_succ_cons, idxF] at h0
    simp only [List.getElem?_cons_succ] at h
    split at h0
    · omega
    next hx =>
    split at h0
    · next hz =>
      have := idxF_take l s k hz h
      simp only [idxF]
      rw [if_neg hx, if_neg (by omega), this]
    · omega
theorem idxF_step (l : List ByteArray) (s u : ByteArray) (k : Nat) (h0 : idxF (l.take k) s = 0) (hu : l[k]? = some u) (hne : ¬ u = s) : idxF (l.take (k + 1)) s = 0 := by
  rw [List.take_add_one, hu]
  simp only [Option.toList_some]
  rw [idxF_snoc, if_pos h0, if_neg hne]

theorem ret_int0 {k : IntKind} {a b : Int} (h : a = b) : Ending.returned (.int k a) = .returned (.int k b) := by rw [h]

set_option maxHeartbeats 2000000 in
set_option maxRecDepth 20000 in
theorem rhas_core (p : Option Addr) (n cap : Nat) (l : List ByteArray) (s : ByteArray) (w : World) (hn : l.length = n) (hc : ∀ j u, l[j]? = some u → ∃ b off, p = some ⟨b, off, none⟩ ∧ w.cell? ⟨b, off + j, none⟩ = some (.string u)) (hn6 : n ≤ 100000) :
    Calls Tryd.prog 14 #[.slice p n cap, .string s] w fun e w' => e = .returned (.int .i64 (idxF l s : Int)) ∧ w = w' := by
  have HN := Lib.hid hn
  have HC := Lib.hid hc
  have hn7 : (n : Int) ≤ 100000 := by omega
  clear hn hc hn6
  go_enter Tryd.func14, Tryd.ntmps14
  go_wp2_with fail
  go_loop [5] (fun ii => ∃ k : Nat, ii = .int .i64 (k : Int) ∧ k ≤ n ∧ idxF (l.take k) s = 0) (fun ii => n - (intOf ii).toNat)
  case atStart => exact ⟨0, rfl, Nat.zero_le _, rfl⟩
  case round =>
    obtain ⟨k, rfl, hk, h0⟩ := hrel
    have H0 := Lib.hid h0
    clear h0
    by_cases hlt : k < n
    · obtain ⟨u, hu⟩ : ∃ u, l[k]? = some u := ⟨_, List.getElem?_eq_getElem (by have := HN.out; omega)⟩
      obtain ⟨b1, o1, rfl, cu⟩ := HC.out k u hu
      have hb1 := rcell_lt cu
      have HU := Lib.hid hu
      have hlt3 : (k : Int) < n := by omega
      clear hu
      by_cases hus : u = s
      · subst hus
        have HR := Lib.hid (idxF_take l u k H0.out HU.out)
        go_wp2_with fail
        go_ret
        rw [HR.out]
        exact ⟨ret_int0 (by omega), rfl⟩
      · have hab1 : (u.toList == s.toList) = false := by
          rw [beq_eq_false_iff_ne, Lib.toList_data, Lib.toList_data]
          intro e
          exact hus (ByteArray.ext (Array.toList_inj.1 e))
        have hab2 : (u.toList = s.toList) = False := by simpa using hab1
        have HST := Lib.hid (idxF_step l s u k H0.out HU.out hus)
        clear hus
        go_wp2_with fail
        go_round
        case rel => exact ⟨k + 1, by go_num, by omega, HST.out⟩
        case measure => simp [intOf]; omega
    · have hks : n = k := by omega
      subst hks
      have hall : l.take n = l := List.take_of_length_le (by have := HN.out; omega)
      have HZ := Lib.hid (show idxF l s = 0 by have := H0.out; rwa [hall] at this)
      clear hall
      go_wp2_with fail
      go_ret
      rw [HZ.out]
      exact ⟨rfl, rfl⟩
/-- a row of texts of the call's own, read -/
theorem own_texts {w : World} {B : Nat} {v : Value} {l : List ByteArray} (h : w.ownsRow B 9 1 v l.length (l.map Value.string)) : ∃ p cap, v = .slice p l.length cap ∧ l.length ≤ cap ∧ ∀ j u, l[j]? = some u → ∃ b off, p = some ⟨b, off, none⟩ ∧ w.cell? ⟨b, off + j, none⟩ = some (.string u) := by
  rcases h.2 with ⟨rfl, h0⟩ | ⟨g, cap, cur, rfl, _, _, hc, _⟩
  · exact ⟨none, 0, by rw [h0], by omega, fun j u hj => by have := (List.getElem?_eq_some_iff.1 hj).1; omega⟩
  · refine ⟨_, cap, rfl, hc, fun j u hj => ⟨g, 0, rfl, ?_⟩⟩
    have := h.cells (g := g) rfl j (.string u) (by simp [hj])
    rw [Addr.add_lit] at this
    exact this

/-- what the document's Of hands back: the list, as a row of the call's own -/
def ROfPost (B : Nat) (v : Value) (r : List ByteArray × Nat × Int) (w : World) (e : Ending) (w' : World) : Prop :=
  ∃ v', e = .returned (.tuple #[v', .int .i64 (r.2.1 : Int), .int .i64 r.2.2]) ∧ w'.ownsRow B 9 1 v' r.1.length (r.1.map Value.string) ∧ w.grownBy w' v.ownBlock ∧ (v'.ownBlock = v.ownBlock ∨ ∃ k, v'.ownBlock = some k ∧ w.heap.size ≤ k)
theorem grown_refl' (w : World) (row : Option Nat) : w.grownBy w row := ⟨rfl, rfl, rfl, Nat.le_refl _, fun _ _ _ => rfl⟩

set_option maxHeartbeats 2000000 in
set_option maxRecDepth 20000 in
theorem rof_any (B : Nat) (v : Value) (l : List ByteArray) (s : ByteArray) (w : World) (hl : l.length ≤ 1000) (h : w.ownsRow B 9 1 v l.length (l.map Value.string)) (hBw : B ≤ w.heap.size) :
    Calls Tryd.prog 12 #[v, .string s] w (ROfPost B v (ofF l s) w) := by
  obtain ⟨p, cap, rfl, hcap, hcells⟩ := own_texts h
  have HR := Lib.hid (rhas_core p _ cap l s w rfl hcells (by omega))
  have HO := Lib.hid h
  have hl7 : (65536 ≤ (l.length : Int)) = False := by simp; omega
  have HL := Lib.hid hl
  clear h hcells hl
  unfold ofF
  obtain ⟨n, hn⟩ : ∃ n, idxF l s = n := ⟨_, rfl⟩
  rw [hn] at HR ⊢
  by_cases h0 : n = 0
  · subst h0
    rw [if_neg (by simp), if_neg (by have := HL.out; omega)]
    obtain ⟨i0, hi, hz0, hz1, hz2⟩ := info_parts strInfo
    clear hn
    go_enter Tryd.func12, Tryd.ntmps12
    go_wp2_with (first
      | (go_at_call 14; refine HR.out.mono ?_; rintro e _ ⟨rfl, rfl⟩)
      | (at_builtin; refine wpList_append_own_at _ rfl _ _ 22 rfl B 9 i0 (.string ⟨#[]⟩) 1 16 Tryd.underlying22 hi hz0 hz1 hz2 rfl (by decide) (.slice p l.length cap) l.length (l.map Value.string) rfl (HO.out.alloc _) ⟨w.heap.size, 0, none⟩ 1 1 [.string s] rfl rfl ?c1 ?c2 ?c3 ?c4 ?c5 ?_))
    case c1 => exact news_one' rfl
    case c2 => intro u hu; simp at hu; subst hu; rfl
    case c3 => have := HL.out; unfold maxLen; omega
    case c4 => have := HL.out; omega
    case c5 => simp; omega
    intro v' w1 hown' hgrow _ hblk
    obtain ⟨g', cap', rfl, _, hgl⟩ := hown'.form (by omega)
    have HOW := Lib.hid hown'
    have HG := Lib.hid hgrow
    have HBK := Lib.hid hblk
    clear hown' hgrow hblk
    go_wp2_with fail
    go_ret3
    have hlen : (l ++ [s]).length = l.length + 1 := by simp
    refine ⟨_, rfl, ?_, ?_, ?_⟩
    · have := HOW.out
      rw [hlen]; simpa using this
    · obtain ⟨a1, a2, a3, a4, a5⟩ := HG.out
      refine ⟨a1, a2, a3, by simp at a4; omega, fun k hk hne => ?_⟩
      rw [a5 k (by simp; omega) hne, Lib.alloc_old w _ k hk]
    · rcases HBK.out with h | h
      · exact Or.inl h
      · exact Or.inr ⟨_, h, by simp⟩
  · rw [if_pos h0]
    have hn1 : (0 : Int) < n := by omega
    clear hn h0
    go_enter Tryd.func12, Tryd.ntmps12
    go_wp2_with (go_at_call 14; refine HR.out.mono ?_; rintro e _ ⟨rfl, rfl⟩)
    go_ret3
    exact ⟨_, rfl, HO.out, grown_refl' _ _, Or.inl rfl⟩

/-! ### numbers -/
theorem wrap_in {n : Int} (h0 : -9223372036854775808 ≤ n) (h1 : n ≤ 9223372036854775807) : wrap64 n = n := by
  unfold wrap64; omega
theorem dec_big {m : Nat} (h : ¬ m < 10) : Lib.decDigits m = Lib.decDigits (m / 10) ++ [UInt8.ofNat (48 + m % 10)] := by
  rw [Lib.decDigits, dif_neg h]
/-- what is left to be written of u: m, ahead of t -/
def NumRel (u m : Nat) (t : List UInt8) : Prop := (m ≠ 0 ∧ Lib.decDigits u = Lib.decDigits m ++ t) ∨ (m = 0 ∧ Lib.decDigits u = t)
theorem NumRel.step {u m : Nat} {t : List UInt8} (h : NumRel u m t) (h0 : m ≠ 0) : NumRel u (m / 10) (UInt8.ofNat (48 + m % 10) :: t) := by
  rcases h with ⟨_, h⟩ | ⟨h, _⟩
  · by_cases hb : m < 10
    · right
      refine ⟨by omega, ?_⟩
      rw [h, Lib.decDigits_one hb]
      have : m % 10 = m := by omega
      rw [this]; rfl
    · left
      refine ⟨by omega, ?_⟩
      rw [h, dec_big hb]; simp
  · exact absurd h h0
theorem digit_piece (d : Nat) (hd : d < 10) : (⟨#[48, 49, 50, 51, 52, 53, 54, 55, 56, 57]⟩ : ByteArray).extract d (d + 1) = ⟨#[UInt8.ofNat (48 + d)]⟩ := by
  have : ∀ d : Fin 10, ((⟨#[48, 49, 50, 51, 52, 53, 54, 55, 56, 57]⟩ : ByteArray).extract d.val (d.val + 1)) = ⟨#[UInt8.ofNat (48 + d.val)]⟩ := by decide +kernel
  exact this ⟨d, hd⟩
theorem ba_app2 (a b : List UInt8) : (⟨a.toArray⟩ : ByteArray) ++ ⟨b.toArray⟩ = ⟨(a ++ b).toArray⟩ := by
  apply ByteArray.ext
  simp
theorem dig_lt : ∀ (n u : Nat), u < 10 ^ (n + 1) → (Lib.decDigits u).length ≤ n + 1
  | 0, u, h => by rw [Lib.decDigits_one (by omega)]; simp
  | n + 1, u, h => by
    by_cases hb : u < 10
    · rw [Lib.decDigits_one hb]; simp
    · rw [dec_big hb]
      have := dig_lt n (u / 10) (by rw [Nat.pow_succ] at h; omega)
      simp; omega
theorem dig_len (u : Nat) (h : u ≤ 9223372036854775808) : (Lib.decDigits u).length ≤ 21 := by
  have := dig_lt 20 u (Nat.lt_of_le_of_lt h (by decide))
  omega
theorem numRel_len {u m : Nat} {t : List UInt8} (h : NumRel u m t) (hu : u ≤ 9223372036854775808) : t.length ≤ 21 := by
  have := dig_len u hu
  rcases h with ⟨_, h⟩ | ⟨_, h⟩ <;> rw [h] at this <;> (try simp only [List.length_append] at this) <;> omega

set_option maxHeartbeats 2000000 in
set_option maxRecDepth 20000 in
theorem rnum_pos (u : Nat) (hu : u ≤ 9223372036854775808) (h0 : u ≠ 0) (w : World) :
    Calls Tryd.prog 19 #[.int .i64 (u : Int)] w fun e w' => e = .returned (.string ⟨(Lib.decDigits u).toArray⟩) ∧ w = w' := by
  have HU := Lib.hid hu
  have e0 : ((u : Int) == 0) = false := by simp; omega
  have e1 : ((u : Int) < 0) = False := by first | (simp; done) | (simp; omega)
  have e4 : (0 < u) = True := by simp; omega
  clear hu
  go_enter Tryd.func19, Tryd.ntmps19
  go_wp2_with fail
  go_loopw [0, 3] (fun nv sv wr => ∃ (m : Nat) (t : List UInt8), m ≤ u ∧ nv = .int .i64 (m : Int) ∧ NumRel u m t ∧ sv = .string ⟨t.toArray⟩ ∧ w = wr) (fun nv _ _ => (intOf nv).natAbs)
  case atStart => exact ⟨u, [], Nat.le_refl _, rfl, Or.inl ⟨h0, by simp⟩, rfl, rfl⟩
  case round =>
    obtain ⟨m, t, hmu, rfl, hr, rfl, rfl⟩ := hrel
    have htl := numRel_len hr (by have := HU.out; omega)
    have HR := Lib.hid hr
    have HTL := Lib.hid htl
    have hm64 : m ≤ 9223372036854775808 := by have := HU.out; omega
    have hcat : (9223372036854775807 < 1 + t.length) = False := by simp; omega
    have HMU := Lib.hid hmu
    have HM64 := Lib.hid hm64
    clear hr htl e0 h0 hmu
    by_cases hm : m = 0
    · subst hm
      have hz : Lib.decDigits u = t := by
        rcases HR.out with ⟨h, _⟩ | ⟨_, h⟩
        · exact absurd rfl h
        · exact h
      have HZ := Lib.hid hz
      clear hz
      go_wp2_with fail
      go_ret
      rw [HZ.out]
      exact ⟨by first | rfl | exact congrArg (fun z => Ending.returned (.string z)) (ba_app2 [45] t), rfl⟩
    · obtain ⟨q, hq⟩ : ∃ q, m / 10 = q := ⟨_, rfl⟩
      obtain ⟨r, hrr⟩ : ∃ r, m % 10 = r := ⟨_, rfl⟩
      have hr10 : r < 10 := by omega
      have hst := HR.out.step hm
      rw [hq, hrr] at hst
      have hp := digit_piece r hr10
      obtain ⟨c, hc⟩ : ∃ c, UInt8.ofNat (48 + r) = c := ⟨_, rfl⟩
      rw [hc] at hst hp
      have HST := Lib.hid hst
      clear hc
      have e2 : ((m : Int) == 0) = false := by simp; omega
      have e3 : ((m : Int) != 0) = true := by simp; omega
      have hd : (m : Int) / 10 = (q : Int) := by omega
      have ht : (m : Int) % 10 = (r : Int) := by omega
      have hqm : q < m := by omega
      have HQ := Lib.hid hqm
      have hqb : q ≤ 922337203685477580 := by omega
      have hw1 : wrap64 (q : Int) = (q : Int) := wrap_in (by omega) (by omega)
      have hw2 : wrap64 (-(q : Int)) = -(q : Int) := wrap_in (by omega) (by omega)
      clear hst hq hrr hqm hm hqb
      have hr9 : (r : Int) ≤ 9 := by omega
      clear hm64
      go_wp2_with fail
      go_roundw
      case rel =>
        refine ⟨q, _, by have := HMU.out; have := HQ.out; omega, by first | (rw [hw1]; done) | (rw [hw2]; done), HST.out, ?_, by trivial⟩
        exact congrArg Value.string (ba_app2 [c] t)
      case measure => have := HQ.out; (try rw [hw1]); (try rw [hw2]); simp only [intOf]; omega

set_option maxHeartbeats 2000000 in
set_option maxRecDepth 20000 in
theorem rnum_neg (u : Nat) (hu : u ≤ 9223372036854775808) (h0 : u ≠ 0) (w : World) :
    Calls Tryd.prog 19 #[.int .i64 (-(u : Int))] w fun e w' => e = .returned (.string ⟨(45 :: Lib.decDigits u).toArray⟩) ∧ w = w' := by
  have HU := Lib.hid hu
  have e0 : ((-(u : Int)) == 0) = false := by simp; omega
  have e1 : ((-(u : Int)) < 0) = True := by first | (simp; done) | (simp; omega)
  have e4 : (0 < u) = True := by simp; omega
  clear hu
  go_enter Tryd.func19, Tryd.ntmps19
  go_wp2_with fail
  go_loopw [0, 3] (fun nv sv wr => ∃ (m : Nat) (t : List UInt8), m ≤ u ∧ nv = .int .i64 (-(m : Int)) ∧ NumRel u m t ∧ sv = .string ⟨t.toArray⟩ ∧ w = wr) (fun nv _ _ => (intOf nv).natAbs)
  case atStart => exact ⟨u, [], Nat.le_refl _, rfl, Or.inl ⟨h0, by simp⟩, rfl, rfl⟩
  case round =>
    obtain ⟨m, t, hmu, rfl, hr, rfl, rfl⟩ := hrel
    have htl := numRel_len hr (by have := HU.out; omega)
    have HR := Lib.hid hr
    have HTL := Lib.hid htl
    have hm64 : m ≤ 9223372036854775808 := by have := HU.out; omega
    have hcat : (9223372036854775807 < 1 + t.length) = False := by simp; omega
    have HMU := Lib.hid hmu
    have HM64 := Lib.hid hm64
    clear hr htl e0 h0 hmu
    by_cases hm : m = 0
    · subst hm
      have hz : Lib.decDigits u = t := by
        rcases HR.out with ⟨h, _⟩ | ⟨_, h⟩
        · exact absurd rfl h
        · exact h
      have HZ := Lib.hid hz
      clear hz
      go_wp2_with fail
      go_ret
      rw [HZ.out]
      exact ⟨by first | rfl | exact congrArg (fun z => Ending.returned (.string z)) (ba_app2 [45] t), rfl⟩
    · obtain ⟨q, hq⟩ : ∃ q, m / 10 = q := ⟨_, rfl⟩
      obtain ⟨r, hrr⟩ : ∃ r, m % 10 = r := ⟨_, rfl⟩
      have hr10 : r < 10 := by omega
      have hst := HR.out.step hm
      rw [hq, hrr] at hst
      have hp := digit_piece r hr10
      obtain ⟨c, hc⟩ : ∃ c, UInt8.ofNat (48 + r) = c := ⟨_, rfl⟩
      rw [hc] at hst hp
      have HST := Lib.hid hst
      clear hc
      have e2 : ((-(m : Int)) == 0) = false := by simp; omega
      have e3 : ((-(m : Int)) != 0) = true := by simp; omega
      have hd : (-(m : Int)).tdiv 10 = -(q : Int) := by rw [Int.neg_tdiv, Int.tdiv_eq_ediv_of_nonneg (by omega)]; omega
      have ht : (-(m : Int)).tmod 10 = -(r : Int) := by rw [Int.neg_tmod, Int.tmod_eq_emod_of_nonneg (by omega)]; omega
      have hqm : q < m := by omega
      have HQ := Lib.hid hqm
      have hqb : q ≤ 922337203685477580 := by omega
      have hw1 : wrap64 (q : Int) = (q : Int) := wrap_in (by omega) (by omega)
      have hw2 : wrap64 (-(q : Int)) = -(q : Int) := wrap_in (by omega) (by omega)
      clear hst hq hrr hqm hm hqb
      have hr9 : (r : Int) ≤ 9 := by omega
      clear hm64
      by_cases hr0 : r = 0
      · subst hr0
        go_wp2_with fail
        go_roundw
        case rel =>
          refine ⟨q, _, by have := HMU.out; have := HQ.out; omega, by first | (rw [hw1]; done) | (rw [hw2]; done), HST.out, ?_, by trivial⟩
          exact congrArg Value.string (ba_app2 [c] t)
        case measure => have := HQ.out; (try rw [hw1]); (try rw [hw2]); simp only [intOf]; omega
      · have hr1 : (0 : Int) < r := by omega
        have hr2 : (-(r : Int) < 0) = True := by simp; omega
        clear hr0
        go_wp2_with fail
        go_roundw
        case rel =>
          refine ⟨q, _, by have := HMU.out; have := HQ.out; omega, by first | (rw [hw1]; done) | (rw [hw2]; done), HST.out, ?_, by trivial⟩
          exact congrArg Value.string (ba_app2 [c] t)
        case measure => have := HQ.out; (try rw [hw1]); (try rw [hw2]); simp only [intOf]; omega
end Go.Proofs.YtojejhmodaaoiaaDoor
