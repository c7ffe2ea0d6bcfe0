/- The contracts of both CutInts and CutTexts. -/
import Derived.Test.YthekfgbiplmikaaCut2
set_option linter.unusedSimpArgs false
set_option linter.unusedVariables false
namespace Go.Proofs.Ythekfgbiplmikaa
open Go.RowKit

theorem cutG_err : ∀ (l : List UInt8) (k v x n : Nat) (e : Int), cutG k v l = (x, n, e) → e ≠ 0 → x = 0 ∧ n = 0 := by
  intro l
  induction l with
  | nil => intro k v x n e h he; simp [cutG] at h; exact ⟨h.1.symm, h.2.1.symm⟩
  | cons c l ih =>
    intro k v x n e h he
    unfold cutG at h
    split at h
    · simp at h; exact ⟨h.1.symm, h.2.1.symm⟩
    · split at h
      · exact ih _ _ _ _ _ h he
      · split at h
        · simp at h; exact ⟨h.1.symm, h.2.1.symm⟩
        · simp at h; exact absurd h.2.2.symm he
theorem cutG_lt {l : List UInt8} {x n : Nat} {e : Int} (h : cutG 0 0 l = (x, n, e)) : x < 18446744073709551616 ∧ n ≤ l.length := by
  by_cases he : e = 0
  · subst he
    obtain ⟨y, _, _, h3, _⟩ := cutG_back l 0 0 x n (by omega) h
    exact ⟨cutG_fit l 0 0 _ _ (by omega) (by simp) h, by omega⟩
  · obtain ⟨rfl, rfl⟩ := cutG_err l 0 0 x n e h he
    exact ⟨by omega, by omega⟩

set_option maxHeartbeats 400000 in
theorem vcutint_any (b off cap : Nat) (l : List UInt8) (w : World) (hm : l.length ≤ maxLen) (hb : BytesAt w b off l) (x n : Nat) (e : Int) (hr : cutG 0 0 l = (x, n, e)) :
    Calls Try.prog 51 #[.slice (some ⟨b, off, none⟩) l.length cap] w fun r w' => r = .returned (.tuple #[.int .i64 (zagZ x), .int .i64 (n : Int), .int .i64 e]) ∧ Ext w w' := by
  have h1 := (cutG_lt hr).1
  have C := Lib.hid (vcut_core b off cap l w hm hb x n e hr)
  have Z := Lib.hid (fun w => zag_any (x : Int) (by omega) (by omega) w)
  clear hr hb hm
  go_enter Try.func51, Try.ntmps51
  go_wp2_with (first
    | (go_at_call 59; refine C.out.mono ?_; rintro e _ ⟨rfl, d, os, rfl⟩)
    | (go_at_call 60; refine (Z.out _).mono ?_; rintro e _ ⟨rfl, d, os, rfl⟩))
  go_ret3
  exact ⟨rfl, by repeat (first | exact Ext.refl _ | apply Ext.alloc | apply Ext.more)⟩

set_option maxHeartbeats 400000 in
theorem rcutint_any (s : ByteArray) (hm : s.size ≤ maxLen) (w : World) (x n : Nat) (e : Int) (hr : cutG 0 0 s.data.toList = (x, n, e)) :
    Calls Try.prog 53 #[.string s] w fun r w' => r = .returned (.tuple #[.int .i64 (zagZ x), .int .i64 (n : Int), .int .i64 e]) ∧ Ext w w' := by
  have h1 := (cutG_lt hr).1
  have C := Lib.hid (rcut_core s hm w x n e hr)
  clear hr hm
  by_cases h2 : (x : Int) % 2 = 1
  · have hz : zagZ x = -((x : Int) / 2) - 1 := by unfold zagZ; rw [if_pos h2]
    rw [hz]; clear hz
    go_enter Try.func53, Try.ntmps53
    go_wp2_with (go_at_call 61; refine C.out.mono ?_; rintro e _ ⟨rfl, d, os, rfl⟩)
    go_ret3
    exact ⟨rfl, by repeat (first | exact Ext.refl _ | apply Ext.alloc | apply Ext.more)⟩
  · have hz : zagZ x = (x : Int) / 2 := by unfold zagZ; rw [if_neg h2]
    have h3 : ((x : Int) % 2 == 1) = false := by simpa using h2
    rw [hz]; clear hz h2
    go_enter Try.func53, Try.ntmps53
    go_wp2_with (go_at_call 61; refine C.out.mono ?_; rintro e _ ⟨rfl, d, os, rfl⟩)
    go_ret3
    exact ⟨rfl, by repeat (first | exact Ext.refl _ | apply Ext.alloc | apply Ext.more)⟩

/-- the text with which bytes begin -/
def cutT (l : List UInt8) : List UInt8 × Nat × Int :=
  if (cutG 0 0 l).2.2 ≠ 0 then ([], 0, (cutG 0 0 l).2.2) else if 255 < (cutG 0 0 l).1 then ([], 0, 8) else if l.length < (cutG 0 0 l).2.1 + (cutG 0 0 l).1 then ([], 0, 2) else ((l.drop (cutG 0 0 l).2.1).take (cutG 0 0 l).1, (cutG 0 0 l).2.1 + (cutG 0 0 l).1, 0)

theorem conv_at {P : Program} {w : World} {src dst e : TypeId} {b off cap : Nat} {l : List UInt8} (hs : P.underlying src = some (.slice e)) (he : P.underlying e = some (.int .u8)) (hd : P.underlying dst = some .string)
    (h : BytesAt w b off l) (n : Nat) (hn : n = l.length) : (convert src dst (.slice (some ⟨b, off, none⟩) n cap)).run P w = .ok (.string ⟨l.toArray⟩) w := by
  subst hn
  refine run_convert_bytes_back w src dst e ⟨b, off, none⟩ cap l hs he hd fun j hj => ?_
  rw [Addr.add_lit]
  exact h j _ (List.getElem?_eq_getElem hj)

set_option maxHeartbeats 1000000 in
theorem vcuttext_any (b off cap : Nat) (l : List UInt8) (w : World) (hm : l.length ≤ maxLen) (hcap : l.length ≤ cap) (hb : BytesAt w b off l) (t : List UInt8) (n : Nat) (e : Int) (hr : cutT l = (t, n, e)) :
    Calls Try.prog 52 #[.slice (some ⟨b, off, none⟩) l.length cap] w fun r w' => r = .returned (.tuple #[.string ⟨t.toArray⟩, .int .i64 (n : Int), .int .i64 e]) ∧ Ext w w' := by
  obtain ⟨v, m, e0, hg⟩ : ∃ v m e0, cutG 0 0 l = (v, m, e0) := ⟨_, _, _, rfl⟩
  have hlt := cutG_lt hg
  unfold cutT at hr
  rw [hg] at hr
  dsimp only at hr
  have C := Lib.hid (vcut_core b off cap l w hm hb v m e0 hg)
  have hv : v < 18446744073709551616 := hlt.1
  have hm2 : m ≤ l.length := hlt.2
  have HB := Lib.hid hb
  unfold maxLen at hm
  clear hg hb hlt
  by_cases h1 : e0 = 0
  case neg =>
    rw [if_pos h1] at hr
    simp only [Prod.mk.injEq] at hr
    obtain ⟨rfl, rfl, rfl⟩ := hr
    have h1' : (e0 == 0) = false := by simpa using h1
    have h1'' : (e0 != 0) = true := by simpa using h1
    clear h1
    go_enter Try.func52, Try.ntmps52
    go_wp2_with (go_at_call 59; refine C.out.mono ?_; rintro e _ ⟨rfl, d, os, rfl⟩)
    go_ret3
    exact ⟨rfl, by repeat (first | exact Ext.refl _ | apply Ext.alloc | apply Ext.more)⟩
  subst h1
  rw [if_neg (by simp)] at hr
  by_cases h2 : 255 < v
  · rw [if_pos h2] at hr
    simp only [Prod.mk.injEq] at hr
    obtain ⟨rfl, rfl, rfl⟩ := hr
    go_enter Try.func52, Try.ntmps52
    go_wp2_with (go_at_call 59; refine C.out.mono ?_; rintro e _ ⟨rfl, d, os, rfl⟩)
    go_ret3
    exact ⟨rfl, by repeat (first | exact Ext.refl _ | apply Ext.alloc | apply Ext.more)⟩
  rw [if_neg h2] at hr
  by_cases h3 : l.length < m + v
  · rw [if_pos h3] at hr
    simp only [Prod.mk.injEq] at hr
    obtain ⟨rfl, rfl, rfl⟩ := hr
    have h4 : (l.length : Int) - m < v := by omega
    go_enter Try.func52, Try.ntmps52
    go_wp2_with (go_at_call 59; refine C.out.mono ?_; rintro e _ ⟨rfl, d, os, rfl⟩)
    go_ret3
    exact ⟨rfl, by repeat (first | exact Ext.refl _ | apply Ext.alloc | apply Ext.more)⟩
  rw [if_neg h3] at hr
  simp only [Prod.mk.injEq] at hr
  obtain ⟨rfl, rfl, rfl⟩ := hr
  have h4 : ¬ (l.length : Int) - m < v := by omega
  have hlen : ((l.drop m).take v).length = v := by simp; omega
  have hB := (HB.out.drop m).take v
  by_cases h5 : m = cap
  · have hv0 : v = 0 := by omega
    subst hv0
    subst h5
    have hB0 : BytesAt w b off [] := by intro j u hj; simp at hj
    have hcv := Lib.hid fun (d : Nat) (os : Array Obj) (c : Nat) => conv_at (P := Try.prog) (src := 45) (dst := 9) (cap := c) Try.underlying45 Try.underlying5 Try.underlying9 (hB0.ext (Ext.more (Ext.refl w) d os)) 0 rfl
    rw [List.take_zero]
    clear hB hlen hB0
    go_enter Try.func52, Try.ntmps52
    go_wp2_with (go_at_call 59; refine C.out.mono ?_; rintro e _ ⟨rfl, d, os, rfl⟩)
    first | rw [hcv.out d os 0] | rw [hcv.out d os (m - m)] | trace_state
    clear hcv
    go_wp2
    go_ret3
    exact ⟨rfl, by repeat (first | exact Ext.refl _ | apply Ext.alloc | apply Ext.more)⟩
  · go_enter Try.func52, Try.ntmps52
    have hcv := Lib.hid fun (d : Nat) (os : Array Obj) (c : Nat) => conv_at (P := Try.prog) (src := 45) (dst := 9) (cap := c) Try.underlying45 Try.underlying5 Try.underlying9 (hB.ext (Ext.more (Ext.refl w) d os)) v hlen.symm
    clear hB hlen
    go_wp2_with (go_at_call 59; refine C.out.mono ?_; rintro e _ ⟨rfl, d, os, rfl⟩)
    rw [hcv.out d os (cap - m)]
    clear hcv
    go_wp2
    go_ret3
    exact ⟨rfl, by repeat (first | exact Ext.refl _ | apply Ext.alloc | apply Ext.more)⟩

theorem toList_extract (s : ByteArray) (a b : Nat) : (s.extract a b).data.toList = (s.data.toList.drop a).take (b - a) := by
  simp [List.extract_eq_take_drop]

set_option maxHeartbeats 1000000 in
theorem rcuttext_any (s : ByteArray) (w : World) (hm : s.size ≤ 4611686018427387904) (t : List UInt8) (n : Nat) (e : Int) (hr : cutT s.data.toList = (t, n, e)) :
    Calls Try.prog 54 #[.string s] w fun r w' => r = .returned (.tuple #[.string ⟨t.toArray⟩, .int .i64 (n : Int), .int .i64 e]) ∧ Ext w w' := by
  obtain ⟨v, m, e0, hg⟩ : ∃ v m e0, cutG 0 0 s.data.toList = (v, m, e0) := ⟨_, _, _, rfl⟩
  have hlt := cutG_lt hg
  unfold cutT at hr
  rw [hg] at hr
  dsimp only at hr
  have C := Lib.hid (rcut_core s (by unfold maxLen; omega) w v m e0 hg)
  have hv : v < 18446744073709551616 := hlt.1
  have hsz : s.data.toList.length = s.size := by simp
  have hm2 : m ≤ s.size := by omega
  rw [hsz] at hr
  clear hg hlt hsz
  by_cases h1 : e0 = 0
  case neg =>
    rw [if_pos h1] at hr
    simp only [Prod.mk.injEq] at hr
    obtain ⟨rfl, rfl, rfl⟩ := hr
    have h1' : (e0 == 0) = false := by simpa using h1
    have h1'' : (e0 != 0) = true := by simpa using h1
    clear h1
    go_enter Try.func54, Try.ntmps54
    go_wp2_with (go_at_call 61; refine C.out.mono ?_; rintro e _ ⟨rfl, d, os, rfl⟩)
    go_ret3
    exact ⟨rfl, by repeat (first | exact Ext.refl _ | apply Ext.alloc | apply Ext.more)⟩
  subst h1
  rw [if_neg (by simp)] at hr
  by_cases h2 : 255 < v
  · rw [if_pos h2] at hr
    simp only [Prod.mk.injEq] at hr
    obtain ⟨rfl, rfl, rfl⟩ := hr
    go_enter Try.func54, Try.ntmps54
    go_wp2_with (go_at_call 61; refine C.out.mono ?_; rintro e _ ⟨rfl, d, os, rfl⟩)
    go_ret3
    exact ⟨rfl, by repeat (first | exact Ext.refl _ | apply Ext.alloc | apply Ext.more)⟩
  rw [if_neg h2] at hr
  by_cases h3 : s.size < m + v
  · rw [if_pos h3] at hr
    simp only [Prod.mk.injEq] at hr
    obtain ⟨rfl, rfl, rfl⟩ := hr
    have h4 : (s.size : Int) < m + v := by omega
    go_enter Try.func54, Try.ntmps54
    go_wp2_with (go_at_call 61; refine C.out.mono ?_; rintro e _ ⟨rfl, d, os, rfl⟩)
    go_ret3
    exact ⟨rfl, by repeat (first | exact Ext.refl _ | apply Ext.alloc | apply Ext.more)⟩
  rw [if_neg h3] at hr
  simp only [Prod.mk.injEq] at hr
  obtain ⟨rfl, rfl, rfl⟩ := hr
  have e1 : (s.extract m (m + v)) = ⟨((s.data.toList.drop m).take v).toArray⟩ := by
    have e0 := toList_extract s m (m + v)
    rw [Nat.add_sub_cancel_left] at e0
    rw [← e0]
  rw [← e1]
  clear e1
  have h4 : (m : Int) + v ≤ s.size := by omega
  go_enter Try.func54, Try.ntmps54
  go_wp2_with (go_at_call 61; refine C.out.mono ?_; rintro e _ ⟨rfl, d, os, rfl⟩)
  go_ret3
  exact ⟨rfl, by repeat (first | exact Ext.refl _ | apply Ext.alloc | apply Ext.more)⟩
end Go.Proofs.Ythekfgbiplmikaa
