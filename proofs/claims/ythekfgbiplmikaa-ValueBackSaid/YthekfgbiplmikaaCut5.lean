/- value.Cut and the reference's Cut come to one answer, valC. -/
import Derived.Test.YthekfgbiplmikaaCut4
set_option linter.unusedSimpArgs false
set_option linter.unusedVariables false
namespace Go.Proofs.Ythekfgbiplmikaa
open Go.RowKit

theorem ba_size (l : List UInt8) : (⟨l.toArray⟩ : ByteArray).size = l.length := by simp [ByteArray.size]
theorem cutT_len {l t : List UInt8} {n : Nat} {e : Int} (h : cutT l = (t, n, e)) : n ≤ l.length := by
  unfold cutT at h
  repeat' split at h
  all_goals (simp at h; omega)

theorem vc_any (w : World) (b off cap : Nat) (l : List UInt8) (hm : l.length ≤ 4611686018427387904) (hcap : l.length ≤ cap) (hb : BytesAt w b off l) (v : Val) (n : Nat) (e : Int) (hr : valC l = (v, n, e)) :
    Calls Try.prog 33 #[.slice (some ⟨b, off, none⟩) l.length cap] w fun r w' => r = .returned (.tuple #[.agg #[.int .i64 v.k, .int .i64 v.i, .string v.s], .int .i64 (n : Int), .int .i64 e]) ∧ Ext w w' := by
  cases l with
  | nil =>
    simp only [valC, Prod.mk.injEq] at hr
    obtain ⟨rfl, rfl, rfl⟩ := hr
    exact vc_nil w (some ⟨b, off, none⟩) cap
  | cons c l =>
    have hlt := hb.lt (by simp)
    have hc := hb 0 c rfl
    rw [Nat.add_zero] at hc
    have hT : BytesAt w b (off + 1) l := by have := hb.drop 1; simpa using this
    have hTo : ∀ o w', (o = off + 1 ∨ l.length = 0) → Ext w w' → BytesAt w' b o l := by
      intro o w' ho hx
      rcases ho with rfl | h0
      · exact hT.ext hx
      · have := List.eq_nil_of_length_eq_zero h0
        subst this
        intro j u hj; simp at hj
    have hc256 := c.toNat_lt
    simp only [List.length_cons] at hm hcap ⊢
    have hm' : l.length < 9223372036854775807 := by omega
    unfold valC at hr
    dsimp only at hr
    by_cases q0 : c.toNat = 0
    · rw [if_pos q0] at hr
      simp only [Prod.mk.injEq] at hr
      obtain ⟨rfl, rfl, rfl⟩ := hr
      rw [q0] at hc
      exact vc_0 w b off _ cap hlt hm' hcap hc
    rw [if_neg q0] at hr
    by_cases q1 : c.toNat = 1
    · rw [if_pos q1] at hr
      rw [q1] at hc
      cases l with
      | nil =>
        simp only [Prod.mk.injEq] at hr
        obtain ⟨rfl, rfl, rfl⟩ := hr
        exact vc_1e w b off _ cap hlt hm' hcap rfl hc
      | cons d l =>
        have hd := hT 0 d rfl
        rw [Nat.add_zero] at hd
        have hd256 := d.toNat_lt
        by_cases q2 : 1 < d.toNat
        · simp only [q2, if_true, Prod.mk.injEq] at hr
          obtain ⟨rfl, rfl, rfl⟩ := hr
          exact vc_1b w b off _ cap hlt hm' hcap d.toNat (by simp) (by omega) (by omega) hc hd
        · simp only [q2, if_false, Prod.mk.injEq] at hr
          obtain ⟨rfl, rfl, rfl⟩ := hr
          have : d.toNat = 0 ∨ d.toNat = 1 := by omega
          rcases this with h | h
          · rw [h] at hd ⊢
            exact vc_1u0 w b off _ cap hlt hm' hcap (by simp) hc hd
          · rw [h] at hd ⊢
            exact vc_1u1 w b off _ cap hlt hm' hcap (by simp) hc hd
    rw [if_neg q1] at hr
    by_cases q2 : c.toNat = 2
    · rw [if_pos q2] at hr
      rw [q2] at hc
      obtain ⟨x, m, e0, hg⟩ : ∃ x m e0, cutG 0 0 l = (x, m, e0) := ⟨_, _, _, rfl⟩
      rw [hg] at hr
      dsimp only at hr
      have C := Lib.hid fun o (cp : Nat) (w' : World) (ho : o = off + 1 ∨ l.length = 0) (_ : l.length ≤ cp) (hx : Ext w w') => vcutint_any b o cp l w' (by unfold maxLen; omega) (hTo o w' ho hx) x m e0 hg
      by_cases h0 : e0 = 0
      · subst h0
        rw [if_neg (by simp)] at hr
        simp only [Prod.mk.injEq] at hr
        obtain ⟨rfl, rfl, rfl⟩ := hr
        have h2 := (cutG_lt hg).2
        exact vc_2 w b off _ cap hlt hm' hcap (zagZ x) m (by omega) (by omega) hc C
      · rw [if_pos h0] at hr
        simp only [Prod.mk.injEq] at hr
        obtain ⟨rfl, rfl, rfl⟩ := hr
        exact vc_2e w b off _ cap hlt hm' hcap (zagZ x) m _ (by simpa using h0) hc C
    rw [if_neg q2] at hr
    by_cases q3 : c.toNat = 3
    · rw [if_pos q3] at hr
      rw [q3] at hc
      obtain ⟨t, m, e0, hg⟩ : ∃ t m e0, cutT l = (t, m, e0) := ⟨_, _, _, rfl⟩
      rw [hg] at hr
      dsimp only at hr
      have C := Lib.hid fun o (cp : Nat) (w' : World) (ho : o = off + 1 ∨ l.length = 0) (hcp : l.length ≤ cp) (hx : Ext w w') => vcuttext_any b o cp l w' (by unfold maxLen; omega) hcp (hTo o w' ho hx) t m e0 hg
      have hsz := ba_size t
      by_cases h0 : e0 = 0
      · subst h0
        rw [if_neg (by simp)] at hr
        by_cases h64 : 64 < t.length
        · rw [if_pos h64] at hr
          simp only [Prod.mk.injEq] at hr
          obtain ⟨rfl, rfl, rfl⟩ := hr
          exact vc_3f w b off _ cap hlt hm' hcap ⟨t.toArray⟩ (by omega) m hc C
        · rw [if_neg h64] at hr
          simp only [Prod.mk.injEq] at hr
          obtain ⟨rfl, rfl, rfl⟩ := hr
          have h2 := cutT_len hg
          exact vc_3 w b off _ cap hlt hm' hcap ⟨t.toArray⟩ (by omega) m (by omega) (by omega) hc C
      · rw [if_pos h0] at hr
        simp only [Prod.mk.injEq] at hr
        obtain ⟨rfl, rfl, rfl⟩ := hr
        exact vc_3e w b off _ cap hlt hm' hcap ⟨t.toArray⟩ m _ (by simpa using h0) hc C
    rw [if_neg q3] at hr
    simp only [Prod.mk.injEq] at hr
    obtain ⟨rfl, rfl, rfl⟩ := hr
    exact vc_x w b off _ cap hlt hm' hcap c.toNat (by omega) (by omega) hc

theorem rc_any (w : World) (s : ByteArray) (hm : s.size ≤ 4611686018427387904) (v : Val) (n : Nat) (e : Int) (hr : valC s.data.toList = (v, n, e)) :
    Calls Try.prog 34 #[.string s] w fun r w' => r = .returned (.tuple #[.agg #[.int .i64 v.k, .int .i64 v.i, .string v.s], .int .i64 (n : Int), .int .i64 e]) ∧ Ext w w' := by
  have hm2 : (s.size : Int) ≤ 4611686018427387904 := by omega
  by_cases hl : 0 < s.size
  case neg =>
    have h0 : s = ⟨#[]⟩ := by
      have : s.size = 0 := by omega
      exact ByteArray.ext (Array.eq_empty_of_size_eq_zero this)
    subst h0
    simp only [valC, Prod.mk.injEq] at hr
    obtain ⟨rfl, rfl, rfl⟩ := hr
    exact rc_nil w
  have hcons : s.data.toList = s[0] :: s.data.toList.drop 1 := by
    have hl' : 0 < s.data.toList.length := by simpa using hl
    have := List.drop_eq_getElem_cons hl'
    rw [List.drop_zero] at this
    exact this
  have hx1 : (s.extract 1 s.size).data.toList = s.data.toList.drop 1 := by rw [toList_extract, List.take_of_length_le (by simp)]
  have hx2 : (s.extract 1 s.size).size = s.size - 1 := by simp
  have hc256 := s[0].toNat_lt
  rw [hcons, ← hx1] at hr
  have hxl : (s.extract 1 s.size).data.toList.length = s.size - 1 := by rw [hx1]; simp
  unfold valC at hr
  dsimp only at hr
  by_cases q0 : s[0].toNat = 0
  · rw [if_pos q0] at hr
    simp only [Prod.mk.injEq] at hr
    obtain ⟨rfl, rfl, rfl⟩ := hr
    exact rc_0 w s hm2 hl (by omega)
  rw [if_neg q0] at hr
  by_cases q1 : s[0].toNat = 1
  · rw [if_pos q1] at hr
    by_cases h1 : 1 < s.size
    · have hc1 : (s.extract 1 s.size).data.toList = s[1] :: s.data.toList.drop 2 := by
        rw [hx1]
        exact List.drop_eq_getElem_cons (by simpa using h1)
      rw [hc1] at hr
      dsimp only at hr
      by_cases q2 : 1 < s[1].toNat
      · rw [if_pos q2] at hr
        simp only [Prod.mk.injEq] at hr
        obtain ⟨rfl, rfl, rfl⟩ := hr
        exact rc_1b w s hm2 hl (by omega) h1 (by omega)
      · rw [if_neg q2] at hr
        simp only [Prod.mk.injEq] at hr
        obtain ⟨rfl, rfl, rfl⟩ := hr
        have : s[1].toNat = 0 ∨ s[1].toNat = 1 := by omega
        rcases this with h | h
        · rw [h]; exact rc_1u0 w s hm2 hl (by omega) h1 (by omega)
        · rw [h]; exact rc_1u1 w s hm2 hl (by omega) h1 (by omega)
    · have hc1 : (s.extract 1 s.size).data.toList = [] := List.eq_nil_of_length_eq_zero (by omega)
      rw [hc1] at hr
      dsimp only at hr
      simp only [Prod.mk.injEq] at hr
      obtain ⟨rfl, rfl, rfl⟩ := hr
      exact rc_1e w s hm2 hl (by omega) (by omega)
  rw [if_neg q1] at hr
  by_cases q2 : s[0].toNat = 2
  · rw [if_pos q2] at hr
    obtain ⟨x, m, e0, hg⟩ : ∃ x m e0, cutG 0 0 (s.extract 1 s.size).data.toList = (x, m, e0) := ⟨_, _, _, rfl⟩
    rw [hg] at hr
    dsimp only at hr
    have C := Lib.hid fun (w : World) => rcutint_any (s.extract 1 s.size) (by unfold maxLen; omega) w x m e0 hg
    have h2 := (cutG_lt hg).2
    by_cases h0 : e0 = 0
    · subst h0
      rw [if_neg (by simp)] at hr
      simp only [Prod.mk.injEq] at hr
      obtain ⟨rfl, rfl, rfl⟩ := hr
      have g := rc_2 w s hm2 (zagZ x) m (by omega) (by omega) hl (by omega) C
      have e1 : ((1 + m : Nat) : Int) = (m : Int) + 1 := by omega
      rw [e1]; exact g
    · rw [if_pos h0] at hr
      simp only [Prod.mk.injEq] at hr
      obtain ⟨rfl, rfl, rfl⟩ := hr
      exact rc_2e w s hm2 (zagZ x) m _ (by simpa using h0) hl (by omega) C
  rw [if_neg q2] at hr
  by_cases q3 : s[0].toNat = 3
  · rw [if_pos q3] at hr
    obtain ⟨t, m, e0, hg⟩ : ∃ t m e0, cutT (s.extract 1 s.size).data.toList = (t, m, e0) := ⟨_, _, _, rfl⟩
    rw [hg] at hr
    dsimp only at hr
    have C := Lib.hid fun (w : World) => rcuttext_any (s.extract 1 s.size) w (by omega) t m e0 hg
    have hsz := ba_size t
    have h2 := cutT_len hg
    by_cases h0 : e0 = 0
    · subst h0
      rw [if_neg (by simp)] at hr
      by_cases h64 : 64 < t.length
      · rw [if_pos h64] at hr
        simp only [Prod.mk.injEq] at hr
        obtain ⟨rfl, rfl, rfl⟩ := hr
        exact rc_3f w s hm2 ⟨t.toArray⟩ (by omega) m hl (by omega) C
      · rw [if_neg h64] at hr
        simp only [Prod.mk.injEq] at hr
        obtain ⟨rfl, rfl, rfl⟩ := hr
        have g := rc_3 w s hm2 ⟨t.toArray⟩ (by omega) m (by omega) (by omega) hl (by omega) C
        have e1 : ((1 + m : Nat) : Int) = (m : Int) + 1 := by omega
        rw [e1]; exact g
    · rw [if_pos h0] at hr
      simp only [Prod.mk.injEq] at hr
      obtain ⟨rfl, rfl, rfl⟩ := hr
      exact rc_3e w s hm2 ⟨t.toArray⟩ m _ (by simpa using h0) hl (by omega) C
  rw [if_neg q3] at hr
  simp only [Prod.mk.injEq] at hr
  obtain ⟨rfl, rfl, rfl⟩ := hr
  exact rc_x w s hm2 hl (by omega)
end Go.Proofs.Ythekfgbiplmikaa
