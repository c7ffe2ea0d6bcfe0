/- Lemmas for the claim (texts Cut5, ItQ, what its proof uses of them). -/
import Derived.Test.YtpchohjkelopoaaGreatDoorK04
set_option linter.unusedSimpArgs false
set_option linter.unusedVariables false
set_option maxRecDepth 20000
namespace Go.Proofs.YtpchohjkelopoaaGreatDoor
open Go.RowKit
theorem ba_size (l : List UInt8) : (⟨l.toArray⟩ : ByteArray).size = l.length := by simp [ByteArray.size]
theorem cutT_len {l t : List UInt8} {n : Nat} {e : Int} (h : cutT l = (t, n, e)) : n ≤ l.length := by
  unfold cutT at h
  repeat' split at h
  all_goals (simp at h; omega)
theorem vc_any (w : World) (b off cap : Nat) (l : List UInt8) (hm : l.length ≤ 4611686018427387904) (hcap : l.length ≤ cap) (hb : BytesAt w b off l) (v : Val) (n : Nat) (e : Int) (hr : valC l = (v, n, e)) :
    Calls Tryz.prog 147 #[.slice (some ⟨b, off, none⟩) l.length cap] w fun r w' => r = .returned (.tuple #[.agg #[.int .i64 v.k, .int .i64 v.i, .string v.s], .int .i64 (n : Int), .int .i64 e]) ∧ Ext w w' := by
  cases l with
  | nil =>
    simp only [valC, Prod.mk.injEq] at hr
    obtain ⟨rfl, rfl, rfl⟩ := hr
    exact vc_nil w (some ⟨b, off, none⟩) cap
  | cons c l =>
    have hlt := hb.lt (by simp)
    have hc := hb 0 c rfl
    rw [Nat.add_zero] at hc
    have hT : BytesAt w b (off + 1) l := by have := hb.drop 1; simpa using this
    have hTo : ∀ o w', (o = off + 1 ∨ l.length = 0) → Ext w w' → BytesAt w' b o l := by
      intro o w' ho hx
      rcases ho with rfl | h0
      · exact hT.ext hx
      · have := List.eq_nil_of_length_eq_zero h0
        subst this
        intro j u hj; simp at hj
    have hc256 := c.toNat_lt
    simp only [List.length_cons] at hm hcap ⊢
    have hm' : l.length < 9223372036854775807 := by omega
    unfold valC at hr
    dsimp only at hr
    by_cases q0 : c.toNat = 0
    · rw [if_pos q0] at hr
      simp only [Prod.mk.injEq] at hr
      obtain ⟨rfl, rfl, rfl⟩ := hr
      rw [q0] at hc
      exact vc_0 w b off _ cap hlt hm' hcap hc
    rw [if_neg q0] at hr
    by_cases q1 : c.toNat = 1
    · rw [if_pos q1] at hr
      rw [q1] at hc
      cases l with
      | nil =>
        simp only [Prod.mk.injEq] at hr
        obtain ⟨rfl, rfl, rfl⟩ := hr
        exact vc_1e w b off _ cap hlt hm' hcap rfl hc
      | cons d l =>
        have hd := hT 0 d rfl
        rw [Nat.add_zero] at hd
        have hd256 := d.toNat_lt
        by_cases q2 : 1 < d.toNat
        · simp only [q2, if_true, Prod.mk.injEq] at hr
          obtain ⟨rfl, rfl, rfl⟩ := hr
          exact vc_1b w b off _ cap hlt hm' hcap d.toNat (by simp) (by omega) (by omega) hc hd
        · simp only [q2, if_false, Prod.mk.injEq] at hr
          obtain ⟨rfl, rfl, rfl⟩ := hr
          have : d.toNat = 0 ∨ d.toNat = 1 := by omega
          rcases this with h | h
          · rw [h] at hd ⊢
            exact vc_1u0 w b off _ cap hlt hm' hcap (by simp) hc hd
          · rw [h] at hd ⊢
            exact vc_1u1 w b off _ cap hlt hm' hcap (by simp) hc hd
    rw [if_neg q1] at hr
    by_cases q2 : c.toNat = 2
    · rw [if_pos q2] at hr
      rw [q2] at hc
      obtain ⟨x, m, e0, hg⟩ : ∃ x m e0, cutG 0 0 l = (x, m, e0) := ⟨_, _, _, rfl⟩
      rw [hg] at hr
      dsimp only at hr
      have C := Lib.hid fun o (cp : Nat) (w' : World) (ho : o = off + 1 ∨ l.length = 0) (_ : l.length ≤ cp) (hx : Ext w w') => vcutint_any b o cp l w' (by unfold maxLen; omega) (hTo o w' ho hx) x m e0 hg
      by_cases h0 : e0 = 0
      · subst h0
        rw [if_neg (by simp)] at hr
        simp only [Prod.mk.injEq] at hr
        obtain ⟨rfl, rfl, rfl⟩ := hr
        have h2 := (cutG_lt hg).2
        exact vc_2 w b off _ cap hlt hm' hcap (zagZ x) m (by omega) (by omega) hc C
      · rw [if_pos h0] at hr
        simp only [Prod.mk.injEq] at hr
        obtain ⟨rfl, rfl, rfl⟩ := hr
        exact vc_2e w b off _ cap hlt hm' hcap (zagZ x) m _ (by simpa using h0) hc C
    rw [if_neg q2] at hr
    by_cases q3 : c.toNat = 3
    · rw [if_pos q3] at hr
      rw [q3] at hc
      obtain ⟨t, m, e0, hg⟩ : ∃ t m e0, cutT l = (t, m, e0) := ⟨_, _, _, rfl⟩
      rw [hg] at hr
      dsimp only at hr
      have C := Lib.hid fun o (cp : Nat) (w' : World) (ho : o = off + 1 ∨ l.length = 0) (hcp : l.length ≤ cp) (hx : Ext w w') => vcuttext_any b o cp l w' (by unfold maxLen; omega) hcp (hTo o w' ho hx) t m e0 hg
      have hsz := ba_size t
      by_cases h0 : e0 = 0
      · subst h0
        rw [if_neg (by simp)] at hr
        by_cases h64 : 64 < t.length
        · rw [if_pos h64] at hr
          simp only [Prod.mk.injEq] at hr
          obtain ⟨rfl, rfl, rfl⟩ := hr
          exact vc_3f w b off _ cap hlt hm' hcap ⟨t.toArray⟩ (by omega) m hc C
        · rw [if_neg h64] at hr
          simp only [Prod.mk.injEq] at hr
          obtain ⟨rfl, rfl, rfl⟩ := hr
          have h2 := cutT_len hg
          exact vc_3 w b off _ cap hlt hm' hcap ⟨t.toArray⟩ (by omega) m (by omega) (by omega) hc C
      · rw [if_pos h0] at hr
        simp only [Prod.mk.injEq] at hr
        obtain ⟨rfl, rfl, rfl⟩ := hr
        exact vc_3e w b off _ cap hlt hm' hcap ⟨t.toArray⟩ m _ (by simpa using h0) hc C
    rw [if_neg q3] at hr
    simp only [Prod.mk.injEq] at hr
    obtain ⟨rfl, rfl, rfl⟩ := hr
    exact vc_x w b off _ cap hlt hm' hcap c.toNat (by omega) (by omega) hc
theorem rc_any (w : World) (s : ByteArray) (hm : s.size ≤ 4611686018427387904) (v : Val) (n : Nat) (e : Int) (hr : valC s.data.toList = (v, n, e)) :
    Calls Tryz.prog 113 #[.string s] w fun r w' => r = .returned (.tuple #[.agg #[.int .i64 v.k, .int .i64 v.i, .string v.s], .int .i64 (n : Int), .int .i64 e]) ∧ Ext w w' := by
  have hm2 : (s.size : Int) ≤ 4611686018427387904 := by omega
  by_cases hl : 0 < s.size
  case neg =>
    have h0 : s = ⟨#[]⟩ := by
      have : s.size = 0 := by omega
      exact ByteArray.ext (Array.eq_empty_of_size_eq_zero this)
    subst h0
    simp only [valC, Prod.mk.injEq] at hr
    obtain ⟨rfl, rfl, rfl⟩ := hr
    exact rc_nil w
  have hcons : s.data.toList = s[0] :: s.data.toList.drop 1 := by
    have hl' : 0 < s.data.toList.length := by simpa using hl
    have := List.drop_eq_getElem_cons hl'
    rw [List.drop_zero] at this
    exact this
  have hx1 : (s.extract 1 s.size).data.toList = s.data.toList.drop 1 := by rw [toList_extract, List.take_of_length_le (by simp)]
  have hx2 : (s.extract 1 s.size).size = s.size - 1 := by simp
  have hc256 := s[0].toNat_lt
  rw [hcons, ← hx1] at hr
  have hxl : (s.extract 1 s.size).data.toList.length = s.size - 1 := by rw [hx1]; simp
  unfold valC at hr
  dsimp only at hr
  by_cases q0 : s[0].toNat = 0
  · rw [if_pos q0] at hr
    simp only [Prod.mk.injEq] at hr
    obtain ⟨rfl, rfl, rfl⟩ := hr
    exact rc_0 w s hm2 hl (by omega)
  rw [if_neg q0] at hr
  by_cases q1 : s[0].toNat = 1
  · rw [if_pos q1] at hr
    by_cases h1 : 1 < s.size
    · have hc1 : (s.extract 1 s.size).data.toList = s[1] :: s.data.toList.drop 2 := by
        rw [hx1]
        exact List.drop_eq_getElem_cons (by simpa using h1)
      rw [hc1] at hr
      dsimp only at hr
      by_cases q2 : 1 < s[1].toNat
      · rw [if_pos q2] at hr
        simp only [Prod.mk.injEq] at hr
        obtain ⟨rfl, rfl, rfl⟩ := hr
        exact rc_1b w s hm2 hl (by omega) h1 (by omega)
      · rw [if_neg q2] at hr
        simp only [Prod.mk.injEq] at hr
        obtain ⟨rfl, rfl, rfl⟩ := hr
        have : s[1].toNat = 0 ∨ s[1].toNat = 1 := by omega
        rcases this with h | h
        · rw [h]; exact rc_1u0 w s hm2 hl (by omega) h1 (by omega)
        · rw [h]; exact rc_1u1 w s hm2 hl (by omega) h1 (by omega)
    · have hc1 : (s.extract 1 s.size).data.toList = [] := List.eq_nil_of_length_eq_zero (by omega)
      rw [hc1] at hr
      dsimp only at hr
      simp only [Prod.mk.injEq] at hr
      obtain ⟨rfl, rfl, rfl⟩ := hr
      exact rc_1e w s hm2 hl (by omega) (by omega)
  rw [if_neg q1] at hr
  by_cases q2 : s[0].toNat = 2
  · rw [if_pos q2] at hr
    obtain ⟨x, m, e0, hg⟩ : ∃ x m e0, cutG 0 0 (s.extract 1 s.size).data.toList = (x, m, e0) := ⟨_, _, _, rfl⟩
    rw [hg] at hr
    dsimp only at hr
    have C := Lib.hid fun (w : World) => rcutint_any (s.extract 1 s.size) (by unfold maxLen; omega) w x m e0 hg
    have h2 := (cutG_lt hg).2
    by_cases h0 : e0 = 0
    · subst h0
      rw [if_neg (by simp)] at hr
      simp only [Prod.mk.injEq] at hr
      obtain ⟨rfl, rfl, rfl⟩ := hr
      have g := rc_2 w s hm2 (zagZ x) m (by omega) (by omega) hl (by omega) C
      have e1 : ((1 + m : Nat) : Int) = (m : Int) + 1 := by omega
      rw [e1]; exact g
    · rw [if_pos h0] at hr
      simp only [Prod.mk.injEq] at hr
      obtain ⟨rfl, rfl, rfl⟩ := hr
      exact rc_2e w s hm2 (zagZ x) m _ (by simpa using h0) hl (by omega) C
  rw [if_neg q2] at hr
  by_cases q3 : s[0].toNat = 3
  · rw [if_pos q3] at hr
    obtain ⟨t, m, e0, hg⟩ : ∃ t m e0, cutT (s.extract 1 s.size).data.toList = (t, m, e0) := ⟨_, _, _, rfl⟩
    rw [hg] at hr
    dsimp only at hr
    have C := Lib.hid fun (w : World) => rcuttext_any (s.extract 1 s.size) w (by omega) t m e0 hg
    have hsz := ba_size t
    have h2 := cutT_len hg
    by_cases h0 : e0 = 0
    · subst h0
      rw [if_neg (by simp)] at hr
      by_cases h64 : 64 < t.length
      · rw [if_pos h64] at hr
        simp only [Prod.mk.injEq] at hr
        obtain ⟨rfl, rfl, rfl⟩ := hr
        exact rc_3f w s hm2 ⟨t.toArray⟩ (by omega) m hl (by omega) C
      · rw [if_neg h64] at hr
        simp only [Prod.mk.injEq] at hr
        obtain ⟨rfl, rfl, rfl⟩ := hr
        have g := rc_3 w s hm2 ⟨t.toArray⟩ (by omega) m (by omega) (by omega) hl (by omega) C
        have e1 : ((1 + m : Nat) : Int) = (m : Int) + 1 := by omega
        rw [e1]; exact g
    · rw [if_pos h0] at hr
      simp only [Prod.mk.injEq] at hr
      obtain ⟨rfl, rfl, rfl⟩ := hr
      exact rc_3e w s hm2 ⟨t.toArray⟩ m _ (by simpa using h0) hl (by omega) C
  rw [if_neg q3] at hr
  simp only [Prod.mk.injEq] at hr
  obtain ⟨rfl, rfl, rfl⟩ := hr
  exact rc_x w s hm2 hl (by omega)
end Go.Proofs.YtpchohjkelopoaaGreatDoor

namespace Go.Proofs.YtpchohjkelopoaaGreatDoor
open Go.RowKit
theorem bl_step {x : UInt8} {a b : List UInt8} : Op.bytesLess (x :: a) (x :: b) = Op.bytesLess a b := by
  have h1 : (decide (x < x)) = false := by simp [UInt8.lt_irrefl]
  conv => lhs; unfold Op.bytesLess
  simp [h1]
/-- at the first byte that is another one -/
theorem bl_at : ∀ (i : Nat) (a b : List UInt8) (ha : i < a.length) (hb : i < b.length), a.take i = b.take i → a[i] ≠ b[i] → Op.bytesLess a b = decide (a[i].toNat < b[i].toNat)
  | _, [], _, ha, _, _, _ => by simp at ha
  | _, _ :: _, [], _, hb, _, _ => by simp at hb
  | 0, x :: a, y :: b, ha, hb, _, hn => by
    have h2 : (x == y) = false := by simpa using hn
    unfold Op.bytesLess
    simp only [List.getElem_cons_zero, h2, Bool.false_and, Bool.or_false]
    rfl
  | i + 1, x :: a, y :: b, ha, hb, ht, hn => by
    simp only [List.take_succ_cons, List.cons.injEq] at ht
    obtain ⟨rfl, ht⟩ := ht
    rw [bl_step]
    simpa using bl_at i a b (by simpa using ha) (by simpa using hb) ht (by simpa using hn)
/-- one is the other's beginning -/
theorem bl_end : ∀ (m : Nat) (a b : List UInt8), a.take m = b.take m → (m = a.length ∨ m = b.length) → m ≤ a.length → m ≤ b.length → Op.bytesLess a b = decide (a.length < b.length)
  | 0, a, b, _, hm, _, _ => by
    rcases hm with h | h
    · cases a with
      | nil => cases b with
        | nil => rfl
        | cons y b => simp [Op.bytesLess]
      | cons x a => simp at h
    · cases b with
      | nil => cases a with
        | nil => rfl
        | cons y b => simp [Op.bytesLess]
      | cons x a => simp at h
  | m + 1, a, b, ht, hm, ha, hb => by
    cases a with
    | nil => simp at ha
    | cons x a =>
      cases b with
      | nil => simp at hb
      | cons y b =>
        simp only [List.take_succ_cons, List.cons.injEq] at ht
        obtain ⟨rfl, ht⟩ := ht
        rw [bl_step, bl_end m a b ht (by simpa using hm) (by simpa using ha) (by simpa using hb)]
        simp
/-- an item's bytes -/
def itB (x : It) : List UInt8 := (putB x.k.size ++ x.k.data.toList) ++ encB x.vk x.vi x.vs ++ putB x.ver.toNat
/-- a chunk: the j-th, of the items ahead of i -/
def chunkI (l : List It) (i j : Nat) : List UInt8 := UInt8.ofNat (min 8 (l.length - 8 * j)) :: ((l.drop (8 * j)).take (min 8 (i - 8 * j))).flatMap itB
def chunkN (l : List It) (j : Nat) : List UInt8 := UInt8.ofNat (min 8 (l.length - 8 * j)) :: ((l.drop (8 * j)).take 8).flatMap itB
def chunksF (l : List It) : List (List UInt8) := (List.range ((l.length + 7) / 8)).map (chunkN l)
theorem chunkI_full (l : List It) (i j : Nat) (h : 8 * j + 8 ≤ i ∨ i = l.length) : chunkI l i j = chunkN l j := by
  unfold chunkI chunkN
  congr 2
  rcases h with h | rfl
  · rw [Nat.min_eq_left (by omega)]
  · by_cases h8 : 8 ≤ l.length - 8 * j
    · rw [Nat.min_eq_left h8]
    · rw [Nat.min_eq_right (by omega)]
      rw [List.take_of_length_le (by simp), List.take_of_length_le (by simp; omega)]
/-- the item with which bytes begin; bad: the version that stands for one that may not be -/
def itemF (bad : Int) (l : List UInt8) : It × Nat × Int :=
  if (cutT l).2.2 ≠ 0 then (⟨⟨#[]⟩, 0, 0, ⟨#[]⟩, 0⟩, 0, (cutT l).2.2)
  else if (valC (l.drop (cutT l).2.1)).2.2 ≠ 0 then (⟨⟨#[]⟩, 0, 0, ⟨#[]⟩, 0⟩, 0, (valC (l.drop (cutT l).2.1)).2.2)
  else if (cutG 0 0 (l.drop ((cutT l).2.1 + (valC (l.drop (cutT l).2.1)).2.1))).2.2 ≠ 0 then (⟨⟨#[]⟩, 0, 0, ⟨#[]⟩, 0⟩, 0, (cutG 0 0 (l.drop ((cutT l).2.1 + (valC (l.drop (cutT l).2.1)).2.1))).2.2)
  else (⟨⟨(cutT l).1.toArray⟩, (valC (l.drop (cutT l).2.1)).1.k, (valC (l.drop (cutT l).2.1)).1.i, (valC (l.drop (cutT l).2.1)).1.s,
    if 2147483647 < (cutG 0 0 (l.drop ((cutT l).2.1 + (valC (l.drop (cutT l).2.1)).2.1))).1 then bad else ((cutG 0 0 (l.drop ((cutT l).2.1 + (valC (l.drop (cutT l).2.1)).2.1))).1 : Int)⟩,
    (cutT l).2.1 + (valC (l.drop (cutT l).2.1)).2.1 + (cutG 0 0 (l.drop ((cutT l).2.1 + (valC (l.drop (cutT l).2.1)).2.1))).2.1, 0)
def itemsF (bad : Int) : Nat → List UInt8 → List It × List UInt8 × Int
  | 0, l => ([], l, 0)
  | n + 1, l => if (itemF bad l).2.2 ≠ 0 then ([], [], (itemF bad l).2.2)
    else if (itemsF bad n (l.drop (itemF bad l).2.1)).2.2 ≠ 0 then ([], [], (itemsF bad n (l.drop (itemF bad l).2.1)).2.2)
    else ((itemF bad l).1 :: (itemsF bad n (l.drop (itemF bad l).2.1)).1, (itemsF bad n (l.drop (itemF bad l).2.1)).2.1, 0)
/-- are texts in order? -/
def ordB : List It → Bool
  | [] => true
  | [_] => true
  | x :: y :: l => ltB x.k y.k && ordB (y :: l)
def cutF (bad : Int) : List UInt8 → List It × Int
  | [] => ([], 2)
  | c :: t => if (itemsF bad c.toNat t).2.2 ≠ 0 then ([], (itemsF bad c.toNat t).2.2)
    else if (itemsF bad c.toNat t).1.all mayI = false then ([], 1)
    else if ordB (itemsF bad c.toNat t).1 = false then ([], 3)
    else if (itemsF bad c.toNat t).1.length = 0 ∨ 8 < (itemsF bad c.toNat t).1.length then ([], 4)
    else if 0 < (itemsF bad c.toNat t).2.1.length then ([], 7) else ((itemsF bad c.toNat t).1, 0)
/-- what is cut of chunks, from a place on: the lists, or the error, and where -/
def cutAll : Nat → List (List UInt8) → List (List It) × Int × Int
  | _, [] => ([], 0, 0)
  | i, c :: t => if (cutF (-1) c).2 ≠ 0 then ([], (cutF (-1) c).2, (i : Int)) else if (cutAll (i + 1) t).2.1 ≠ 0 then ([], (cutAll (i + 1) t).2) else ((cutF (-1) c).1 :: (cutAll (i + 1) t).1, 0, 0)
end Go.Proofs.YtpchohjkelopoaaGreatDoor
