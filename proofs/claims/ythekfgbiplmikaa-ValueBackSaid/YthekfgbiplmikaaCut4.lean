/- The contracts of value.Cut and of the reference's Cut. -/
import Derived.Test.YthekfgbiplmikaaCut3
set_option linter.unusedSimpArgs false
set_option linter.unusedVariables false
namespace Go.Proofs.Ythekfgbiplmikaa
open Go.RowKit

/-- the value with which bytes begin, how many bytes it has, and the error -/
def valC : List UInt8 → Val × Nat × Int
  | [] => (⟨0, 0, ⟨#[]⟩⟩, 0, 2)
  | c :: l =>
    if c.toNat = 0 then (⟨0, 0, ⟨#[]⟩⟩, 1, 0)
    else if c.toNat = 1 then
      (match l with
       | [] => (⟨0, 0, ⟨#[]⟩⟩, 0, 2)
       | d :: _ => if 1 < d.toNat then (⟨0, 0, ⟨#[]⟩⟩, 0, 3) else (⟨1, d.toNat, ⟨#[]⟩⟩, 2, 0))
    else if c.toNat = 2 then (if (cutG 0 0 l).2.2 ≠ 0 then (⟨0, 0, ⟨#[]⟩⟩, 0, (cutG 0 0 l).2.2) else (⟨2, zagZ ((cutG 0 0 l).1 : Nat), ⟨#[]⟩⟩, 1 + (cutG 0 0 l).2.1, 0))
    else if c.toNat = 3 then (if (cutT l).2.2 ≠ 0 then (⟨0, 0, ⟨#[]⟩⟩, 0, (cutT l).2.2) else if 64 < (cutT l).1.length then (⟨0, 0, ⟨#[]⟩⟩, 0, 5) else (⟨3, 0, ⟨(cutT l).1.toArray⟩⟩, 1 + (cutT l).2.1, 0))
    else (⟨0, 0, ⟨#[]⟩⟩, 0, 3)
def resC (x : Val × Nat × Int) : Value := .tuple #[.agg #[.int .i64 x.1.k, .int .i64 x.1.i, .string x.1.s], .int .i64 (x.2.1 : Int), .int .i64 x.2.2]

set_option maxHeartbeats 1000000 in
theorem vc_nil (w : World) (p : Option Addr) (cap : Nat) :
    Calls Try.prog 33 #[.slice p 0 cap] w fun r w' => r = .returned (.tuple #[.agg #[.int .i64 0, .int .i64 0, .string ⟨#[]⟩], .int .i64 0, .int .i64 2]) ∧ Ext w w' := by
  go_enter Try.func33, Try.ntmps33
  go_wp2
  refine bodyPost_ret (v := .tuple #[.agg #[.int .i64 0, .int .i64 0, .string ⟨#[]⟩], .int .i64 0, .int .i64 2]) (by simp [results, Try.results33, boolI, go_sem]) rfl ⟨rfl, by repeat (first | exact Ext.refl _ | apply Ext.alloc | apply Ext.more)⟩

set_option maxHeartbeats 1000000 in
theorem vc_0 (w : World) (b off n cap : Nat) (hb : b < w.heap.size) (hm : n < 9223372036854775807) (hcap : n + 1 ≤ cap) (hc : w.cell? ⟨b, off, none⟩ = some (.int .u8 0)) :
    Calls Try.prog 33 #[.slice (some ⟨b, off, none⟩) (n + 1) cap] w fun r w' => r = .returned (.tuple #[.agg #[.int .i64 0, .int .i64 0, .string ⟨#[]⟩], .int .i64 1, .int .i64 0]) ∧ Ext w w' := by
  by_cases hc1 : cap = 1
  · subst hc1
    go_enter Try.func33, Try.ntmps33
    go_wp2_with (first
      | (go_at_call 24; refine (nil_any _).mono ?_; rintro e _ ⟨rfl, d, os, rfl⟩))
    refine bodyPost_ret (v := .tuple #[.agg #[.int .i64 0, .int .i64 0, .string ⟨#[]⟩], .int .i64 1, .int .i64 0]) (by simp [results, Try.results33, boolI, go_sem]) rfl ⟨rfl, by repeat (first | exact Ext.refl _ | apply Ext.alloc | apply Ext.more)⟩
  · go_enter Try.func33, Try.ntmps33
    go_wp2_with (first
      | (go_at_call 24; refine (nil_any _).mono ?_; rintro e _ ⟨rfl, d, os, rfl⟩))
    refine bodyPost_ret (v := .tuple #[.agg #[.int .i64 0, .int .i64 0, .string ⟨#[]⟩], .int .i64 1, .int .i64 0]) (by simp [results, Try.results33, boolI, go_sem]) rfl ⟨rfl, by repeat (first | exact Ext.refl _ | apply Ext.alloc | apply Ext.more)⟩

set_option maxHeartbeats 1000000 in
theorem vc_1e (w : World) (b off n cap : Nat) (hb : b < w.heap.size) (hm : n < 9223372036854775807) (hcap : n + 1 ≤ cap) (hn : n = 0) (hc : w.cell? ⟨b, off, none⟩ = some (.int .u8 1)) :
    Calls Try.prog 33 #[.slice (some ⟨b, off, none⟩) (n + 1) cap] w fun r w' => r = .returned (.tuple #[.agg #[.int .i64 0, .int .i64 0, .string ⟨#[]⟩], .int .i64 0, .int .i64 2]) ∧ Ext w w' := by
  subst hn
  by_cases hc1 : cap = 1
  · subst hc1
    go_enter Try.func33, Try.ntmps33
    go_wp2
    refine bodyPost_ret (v := .tuple #[.agg #[.int .i64 0, .int .i64 0, .string ⟨#[]⟩], .int .i64 0, .int .i64 2]) (by simp [results, Try.results33, boolI, go_sem]) rfl ⟨rfl, by repeat (first | exact Ext.refl _ | apply Ext.alloc | apply Ext.more)⟩
  · go_enter Try.func33, Try.ntmps33
    go_wp2
    refine bodyPost_ret (v := .tuple #[.agg #[.int .i64 0, .int .i64 0, .string ⟨#[]⟩], .int .i64 0, .int .i64 2]) (by simp [results, Try.results33, boolI, go_sem]) rfl ⟨rfl, by repeat (first | exact Ext.refl _ | apply Ext.alloc | apply Ext.more)⟩

set_option maxHeartbeats 1000000 in
theorem vc_1b (w : World) (b off n cap : Nat) (hb : b < w.heap.size) (hm : n < 9223372036854775807) (hcap : n + 1 ≤ cap) (u : Int) (hn : 0 < n) (hu : 1 < u) (hu2 : u < 256) (hc : w.cell? ⟨b, off, none⟩ = some (.int .u8 1)) (hd : w.cell? ⟨b, off + 1, none⟩ = some (.int .u8 u)) :
    Calls Try.prog 33 #[.slice (some ⟨b, off, none⟩) (n + 1) cap] w fun r w' => r = .returned (.tuple #[.agg #[.int .i64 0, .int .i64 0, .string ⟨#[]⟩], .int .i64 0, .int .i64 3]) ∧ Ext w w' := by
  by_cases hc1 : cap = 1
  · exfalso; omega
  · go_enter Try.func33, Try.ntmps33
    go_wp2
    refine bodyPost_ret (v := .tuple #[.agg #[.int .i64 0, .int .i64 0, .string ⟨#[]⟩], .int .i64 0, .int .i64 3]) (by simp [results, Try.results33, boolI, go_sem]) rfl ⟨rfl, by repeat (first | exact Ext.refl _ | apply Ext.alloc | apply Ext.more)⟩

set_option maxHeartbeats 1000000 in
theorem vc_1u0 (w : World) (b off n cap : Nat) (hb : b < w.heap.size) (hm : n < 9223372036854775807) (hcap : n + 1 ≤ cap) (hn : 0 < n) (hc : w.cell? ⟨b, off, none⟩ = some (.int .u8 1)) (hd : w.cell? ⟨b, off + 1, none⟩ = some (.int .u8 0)) :
    Calls Try.prog 33 #[.slice (some ⟨b, off, none⟩) (n + 1) cap] w fun r w' => r = .returned (.tuple #[.agg #[.int .i64 1, .int .i64 0, .string ⟨#[]⟩], .int .i64 2, .int .i64 0]) ∧ Ext w w' := by
  by_cases hc1 : cap = 1
  · exfalso; omega
  · go_enter Try.func33, Try.ntmps33
    go_wp2_with (first
      | (go_at_call 22; refine (bool_any _ _).mono ?_; rintro e _ ⟨rfl, d, os, rfl⟩))
    refine bodyPost_ret (v := .tuple #[.agg #[.int .i64 1, .int .i64 0, .string ⟨#[]⟩], .int .i64 2, .int .i64 0]) (by simp [results, Try.results33, boolI, go_sem]) rfl ⟨rfl, by repeat (first | exact Ext.refl _ | apply Ext.alloc | apply Ext.more)⟩

set_option maxHeartbeats 1000000 in
theorem vc_1u1 (w : World) (b off n cap : Nat) (hb : b < w.heap.size) (hm : n < 9223372036854775807) (hcap : n + 1 ≤ cap) (hn : 0 < n) (hc : w.cell? ⟨b, off, none⟩ = some (.int .u8 1)) (hd : w.cell? ⟨b, off + 1, none⟩ = some (.int .u8 1)) :
    Calls Try.prog 33 #[.slice (some ⟨b, off, none⟩) (n + 1) cap] w fun r w' => r = .returned (.tuple #[.agg #[.int .i64 1, .int .i64 1, .string ⟨#[]⟩], .int .i64 2, .int .i64 0]) ∧ Ext w w' := by
  by_cases hc1 : cap = 1
  · exfalso; omega
  · go_enter Try.func33, Try.ntmps33
    go_wp2_with (first
      | (go_at_call 22; refine (bool_any _ _).mono ?_; rintro e _ ⟨rfl, d, os, rfl⟩))
    refine bodyPost_ret (v := .tuple #[.agg #[.int .i64 1, .int .i64 1, .string ⟨#[]⟩], .int .i64 2, .int .i64 0]) (by simp [results, Try.results33, boolI, go_sem]) rfl ⟨rfl, by repeat (first | exact Ext.refl _ | apply Ext.alloc | apply Ext.more)⟩

set_option maxHeartbeats 1000000 in
theorem vc_x (w : World) (b off n cap : Nat) (hb : b < w.heap.size) (hm : n < 9223372036854775807) (hcap : n + 1 ≤ cap) (c : Int) (h3 : 3 < c) (hc2 : c < 256) (hc : w.cell? ⟨b, off, none⟩ = some (.int .u8 c)) :
    Calls Try.prog 33 #[.slice (some ⟨b, off, none⟩) (n + 1) cap] w fun r w' => r = .returned (.tuple #[.agg #[.int .i64 0, .int .i64 0, .string ⟨#[]⟩], .int .i64 0, .int .i64 3]) ∧ Ext w w' := by
  have q0 : (c == 0) = false := by simp; omega
  have q1 : (c == 1) = false := by simp; omega
  have q2 : (c == 2) = false := by simp; omega
  have q3 : (c == 3) = false := by simp; omega
  by_cases hc1 : cap = 1
  · subst hc1
    go_enter Try.func33, Try.ntmps33
    go_wp2
    refine bodyPost_ret (v := .tuple #[.agg #[.int .i64 0, .int .i64 0, .string ⟨#[]⟩], .int .i64 0, .int .i64 3]) (by simp [results, Try.results33, boolI, go_sem]) rfl ⟨rfl, by repeat (first | exact Ext.refl _ | apply Ext.alloc | apply Ext.more)⟩
  · go_enter Try.func33, Try.ntmps33
    go_wp2
    refine bodyPost_ret (v := .tuple #[.agg #[.int .i64 0, .int .i64 0, .string ⟨#[]⟩], .int .i64 0, .int .i64 3]) (by simp [results, Try.results33, boolI, go_sem]) rfl ⟨rfl, by repeat (first | exact Ext.refl _ | apply Ext.alloc | apply Ext.more)⟩

set_option maxHeartbeats 1000000 in
theorem vc_2e (w : World) (b off n cap : Nat) (hb : b < w.heap.size) (hm : n < 9223372036854775807) (hcap : n + 1 ≤ cap) (x m e : Int) (he : (e == 0) = false) (hc : w.cell? ⟨b, off, none⟩ = some (.int .u8 2)) (C : RowKit.Hid (∀ o c w', (o = off + 1 ∨ n = 0) → n ≤ c → Ext w w' → Calls Try.prog 51 #[.slice (some ⟨b, o, none⟩) n c] w' fun r w'' => r = .returned (.tuple #[.int .i64 x, .int .i64 m, .int .i64 e]) ∧ Ext w' w''))  :
    Calls Try.prog 33 #[.slice (some ⟨b, off, none⟩) (n + 1) cap] w fun r w' => r = .returned (.tuple #[.agg #[.int .i64 0, .int .i64 0, .string ⟨#[]⟩], .int .i64 0, .int .i64 e]) ∧ Ext w w' := by
  have he' : (e != 0) = true := by simpa using he
  by_cases hc1 : cap = 1
  · subst hc1
    obtain rfl : n = 0 := by omega
    go_enter Try.func33, Try.ntmps33
    go_wp2_with (first
      | (go_at_call 51; refine (C.out _ _ _ (by first | exact Or.inl rfl | exact Or.inr rfl) (by omega) (by repeat (first | exact Ext.refl _ | apply Ext.alloc | apply Ext.more))).mono ?_; rintro e _ ⟨rfl, d, os, rfl⟩)
      | (go_at_call 20; refine (int_any _ _).mono ?_; rintro e _ ⟨rfl, d, os, rfl⟩))
    refine bodyPost_ret (v := .tuple #[.agg #[.int .i64 0, .int .i64 0, .string ⟨#[]⟩], .int .i64 0, .int .i64 e]) (by simp [results, Try.results33, boolI, go_sem]) rfl ⟨rfl, by repeat (first | exact Ext.refl _ | apply Ext.alloc | apply Ext.more)⟩
  · go_enter Try.func33, Try.ntmps33
    go_wp2_with (first
      | (go_at_call 51; refine (C.out _ _ _ (by first | exact Or.inl rfl | exact Or.inr rfl) (by omega) (by repeat (first | exact Ext.refl _ | apply Ext.alloc | apply Ext.more))).mono ?_; rintro e _ ⟨rfl, d, os, rfl⟩)
      | (go_at_call 20; refine (int_any _ _).mono ?_; rintro e _ ⟨rfl, d, os, rfl⟩))
    refine bodyPost_ret (v := .tuple #[.agg #[.int .i64 0, .int .i64 0, .string ⟨#[]⟩], .int .i64 0, .int .i64 e]) (by simp [results, Try.results33, boolI, go_sem]) rfl ⟨rfl, by repeat (first | exact Ext.refl _ | apply Ext.alloc | apply Ext.more)⟩

set_option maxHeartbeats 1000000 in
theorem vc_2 (w : World) (b off n cap : Nat) (hb : b < w.heap.size) (hm : n < 9223372036854775807) (hcap : n + 1 ≤ cap) (x m : Int) (hm1 : 0 ≤ m) (hm2 : m ≤ n) (hc : w.cell? ⟨b, off, none⟩ = some (.int .u8 2)) (C : RowKit.Hid (∀ o c w', (o = off + 1 ∨ n = 0) → n ≤ c → Ext w w' → Calls Try.prog 51 #[.slice (some ⟨b, o, none⟩) n c] w' fun r w'' => r = .returned (.tuple #[.int .i64 x, .int .i64 m, .int .i64 0]) ∧ Ext w' w''))  :
    Calls Try.prog 33 #[.slice (some ⟨b, off, none⟩) (n + 1) cap] w fun r w' => r = .returned (.tuple #[.agg #[.int .i64 2, .int .i64 x, .string ⟨#[]⟩], .int .i64 (1 + m), .int .i64 0]) ∧ Ext w w' := by
  by_cases hc1 : cap = 1
  · subst hc1
    obtain rfl : n = 0 := by omega
    go_enter Try.func33, Try.ntmps33
    go_wp2_with (first
      | (go_at_call 51; refine (C.out _ _ _ (by first | exact Or.inl rfl | exact Or.inr rfl) (by omega) (by repeat (first | exact Ext.refl _ | apply Ext.alloc | apply Ext.more))).mono ?_; rintro e _ ⟨rfl, d, os, rfl⟩)
      | (go_at_call 20; refine (int_any _ _).mono ?_; rintro e _ ⟨rfl, d, os, rfl⟩))
    refine bodyPost_ret (v := .tuple #[.agg #[.int .i64 2, .int .i64 x, .string ⟨#[]⟩], .int .i64 (1 + m), .int .i64 0]) (by simp [results, Try.results33, boolI, go_sem]) rfl ⟨rfl, by repeat (first | exact Ext.refl _ | apply Ext.alloc | apply Ext.more)⟩
  · go_enter Try.func33, Try.ntmps33
    go_wp2_with (first
      | (go_at_call 51; refine (C.out _ _ _ (by first | exact Or.inl rfl | exact Or.inr rfl) (by omega) (by repeat (first | exact Ext.refl _ | apply Ext.alloc | apply Ext.more))).mono ?_; rintro e _ ⟨rfl, d, os, rfl⟩)
      | (go_at_call 20; refine (int_any _ _).mono ?_; rintro e _ ⟨rfl, d, os, rfl⟩))
    refine bodyPost_ret (v := .tuple #[.agg #[.int .i64 2, .int .i64 x, .string ⟨#[]⟩], .int .i64 (1 + m), .int .i64 0]) (by simp [results, Try.results33, boolI, go_sem]) rfl ⟨rfl, by repeat (first | exact Ext.refl _ | apply Ext.alloc | apply Ext.more)⟩

set_option maxHeartbeats 1000000 in
theorem vc_3e (w : World) (b off n cap : Nat) (hb : b < w.heap.size) (hm : n < 9223372036854775807) (hcap : n + 1 ≤ cap) (s : ByteArray) (m e : Int) (he : (e == 0) = false) (hc : w.cell? ⟨b, off, none⟩ = some (.int .u8 3)) (C : RowKit.Hid (∀ o c w', (o = off + 1 ∨ n = 0) → n ≤ c → Ext w w' → Calls Try.prog 52 #[.slice (some ⟨b, o, none⟩) n c] w' fun r w'' => r = .returned (.tuple #[.string s, .int .i64 m, .int .i64 e]) ∧ Ext w' w''))  :
    Calls Try.prog 33 #[.slice (some ⟨b, off, none⟩) (n + 1) cap] w fun r w' => r = .returned (.tuple #[.agg #[.int .i64 0, .int .i64 0, .string ⟨#[]⟩], .int .i64 0, .int .i64 e]) ∧ Ext w w' := by
  have he' : (e != 0) = true := by simpa using he
  by_cases hc1 : cap = 1
  · subst hc1
    obtain rfl : n = 0 := by omega
    go_enter Try.func33, Try.ntmps33
    go_wp2_with (first
      | (go_at_call 52; refine (C.out _ _ _ (by first | exact Or.inl rfl | exact Or.inr rfl) (by omega) (by repeat (first | exact Ext.refl _ | apply Ext.alloc | apply Ext.more))).mono ?_; rintro e _ ⟨rfl, d, os, rfl⟩))
    refine bodyPost_ret (v := .tuple #[.agg #[.int .i64 0, .int .i64 0, .string ⟨#[]⟩], .int .i64 0, .int .i64 e]) (by simp [results, Try.results33, boolI, go_sem]) rfl ⟨rfl, by repeat (first | exact Ext.refl _ | apply Ext.alloc | apply Ext.more)⟩
  · go_enter Try.func33, Try.ntmps33
    go_wp2_with (first
      | (go_at_call 52; refine (C.out _ _ _ (by first | exact Or.inl rfl | exact Or.inr rfl) (by omega) (by repeat (first | exact Ext.refl _ | apply Ext.alloc | apply Ext.more))).mono ?_; rintro e _ ⟨rfl, d, os, rfl⟩))
    refine bodyPost_ret (v := .tuple #[.agg #[.int .i64 0, .int .i64 0, .string ⟨#[]⟩], .int .i64 0, .int .i64 e]) (by simp [results, Try.results33, boolI, go_sem]) rfl ⟨rfl, by repeat (first | exact Ext.refl _ | apply Ext.alloc | apply Ext.more)⟩

set_option maxHeartbeats 1000000 in
theorem vc_3f (w : World) (b off n cap : Nat) (hb : b < w.heap.size) (hm : n < 9223372036854775807) (hcap : n + 1 ≤ cap) (s : ByteArray) (hs : 64 < (s.size : Int)) (m : Int) (hc : w.cell? ⟨b, off, none⟩ = some (.int .u8 3)) (C : RowKit.Hid (∀ o c w', (o = off + 1 ∨ n = 0) → n ≤ c → Ext w w' → Calls Try.prog 52 #[.slice (some ⟨b, o, none⟩) n c] w' fun r w'' => r = .returned (.tuple #[.string s, .int .i64 m, .int .i64 0]) ∧ Ext w' w''))  :
    Calls Try.prog 33 #[.slice (some ⟨b, off, none⟩) (n + 1) cap] w fun r w' => r = .returned (.tuple #[.agg #[.int .i64 0, .int .i64 0, .string ⟨#[]⟩], .int .i64 0, .int .i64 5]) ∧ Ext w w' := by
  by_cases hc1 : cap = 1
  · subst hc1
    obtain rfl : n = 0 := by omega
    go_enter Try.func33, Try.ntmps33
    go_wp2_with (first
      | (go_at_call 52; refine (C.out _ _ _ (by first | exact Or.inl rfl | exact Or.inr rfl) (by omega) (by repeat (first | exact Ext.refl _ | apply Ext.alloc | apply Ext.more))).mono ?_; rintro e _ ⟨rfl, d, os, rfl⟩)
      | (go_at_call 17; refine (text_full _ hs _).mono ?_; rintro e _ ⟨rfl, d, os, rfl⟩))
    refine bodyPost_ret (v := .tuple #[.agg #[.int .i64 0, .int .i64 0, .string ⟨#[]⟩], .int .i64 0, .int .i64 5]) (by simp [results, Try.results33, boolI, go_sem]) rfl ⟨rfl, by repeat (first | exact Ext.refl _ | apply Ext.alloc | apply Ext.more)⟩
  · go_enter Try.func33, Try.ntmps33
    go_wp2_with (first
      | (go_at_call 52; refine (C.out _ _ _ (by first | exact Or.inl rfl | exact Or.inr rfl) (by omega) (by repeat (first | exact Ext.refl _ | apply Ext.alloc | apply Ext.more))).mono ?_; rintro e _ ⟨rfl, d, os, rfl⟩)
      | (go_at_call 17; refine (text_full _ hs _).mono ?_; rintro e _ ⟨rfl, d, os, rfl⟩))
    refine bodyPost_ret (v := .tuple #[.agg #[.int .i64 0, .int .i64 0, .string ⟨#[]⟩], .int .i64 0, .int .i64 5]) (by simp [results, Try.results33, boolI, go_sem]) rfl ⟨rfl, by repeat (first | exact Ext.refl _ | apply Ext.alloc | apply Ext.more)⟩

set_option maxHeartbeats 1000000 in
theorem vc_3 (w : World) (b off n cap : Nat) (hb : b < w.heap.size) (hm : n < 9223372036854775807) (hcap : n + 1 ≤ cap) (s : ByteArray) (hs : (s.size : Int) ≤ 64) (m : Int) (hm1 : 0 ≤ m) (hm2 : m ≤ n) (hc : w.cell? ⟨b, off, none⟩ = some (.int .u8 3)) (C : RowKit.Hid (∀ o c w', (o = off + 1 ∨ n = 0) → n ≤ c → Ext w w' → Calls Try.prog 52 #[.slice (some ⟨b, o, none⟩) n c] w' fun r w'' => r = .returned (.tuple #[.string s, .int .i64 m, .int .i64 0]) ∧ Ext w' w''))  :
    Calls Try.prog 33 #[.slice (some ⟨b, off, none⟩) (n + 1) cap] w fun r w' => r = .returned (.tuple #[.agg #[.int .i64 3, .int .i64 0, .string s], .int .i64 (1 + m), .int .i64 0]) ∧ Ext w w' := by
  by_cases hc1 : cap = 1
  · subst hc1
    obtain rfl : n = 0 := by omega
    go_enter Try.func33, Try.ntmps33
    go_wp2_with (first
      | (go_at_call 52; refine (C.out _ _ _ (by first | exact Or.inl rfl | exact Or.inr rfl) (by omega) (by repeat (first | exact Ext.refl _ | apply Ext.alloc | apply Ext.more))).mono ?_; rintro e _ ⟨rfl, d, os, rfl⟩)
      | (go_at_call 17; refine (text_ok _ hs _).mono ?_; rintro e _ ⟨rfl, d, os, rfl⟩))
    refine bodyPost_ret (v := .tuple #[.agg #[.int .i64 3, .int .i64 0, .string s], .int .i64 (1 + m), .int .i64 0]) (by simp [results, Try.results33, boolI, go_sem]) rfl ⟨rfl, by repeat (first | exact Ext.refl _ | apply Ext.alloc | apply Ext.more)⟩
  · go_enter Try.func33, Try.ntmps33
    go_wp2_with (first
      | (go_at_call 52; refine (C.out _ _ _ (by first | exact Or.inl rfl | exact Or.inr rfl) (by omega) (by repeat (first | exact Ext.refl _ | apply Ext.alloc | apply Ext.more))).mono ?_; rintro e _ ⟨rfl, d, os, rfl⟩)
      | (go_at_call 17; refine (text_ok _ hs _).mono ?_; rintro e _ ⟨rfl, d, os, rfl⟩))
    refine bodyPost_ret (v := .tuple #[.agg #[.int .i64 3, .int .i64 0, .string s], .int .i64 (1 + m), .int .i64 0]) (by simp [results, Try.results33, boolI, go_sem]) rfl ⟨rfl, by repeat (first | exact Ext.refl _ | apply Ext.alloc | apply Ext.more)⟩

set_option maxHeartbeats 1000000 in
theorem rc_nil (w : World)  :
    Calls Try.prog 34 #[.string ⟨#[]⟩] w fun r w' => r = .returned (.tuple #[.agg #[.int .i64 0, .int .i64 0, .string ⟨#[]⟩], .int .i64 0, .int .i64 2]) ∧ Ext w w' := by
  go_enter Try.func34, Try.ntmps34
  go_wp2
  refine bodyPost_ret (v := .tuple #[.agg #[.int .i64 0, .int .i64 0, .string ⟨#[]⟩], .int .i64 0, .int .i64 2]) (by simp [results, Try.results34, boolI, go_sem]) rfl ⟨rfl, by repeat (first | exact Ext.refl _ | apply Ext.alloc | apply Ext.more)⟩

set_option maxHeartbeats 1000000 in
theorem rc_x (w : World) (s : ByteArray) (hsz : (s.size : Int) ≤ 4611686018427387904) (hl : 0 < s.size) (hc : 3 < (s[0].toNat : Int)) :
    Calls Try.prog 34 #[.string s] w fun r w' => r = .returned (.tuple #[.agg #[.int .i64 0, .int .i64 0, .string ⟨#[]⟩], .int .i64 0, .int .i64 3]) ∧ Ext w w' := by
  have hne : ¬ s = ByteArray.empty := by rintro rfl; exact absurd hl (by decide)
  have hne2 : s.toList.isEmpty = false := by rw [empty_size]; simp; omega
  go_enter Try.func34, Try.ntmps34
  go_wp2
  refine bodyPost_ret (v := .tuple #[.agg #[.int .i64 0, .int .i64 0, .string ⟨#[]⟩], .int .i64 0, .int .i64 3]) (by simp [results, Try.results34, boolI, go_sem]) rfl ⟨rfl, by repeat (first | exact Ext.refl _ | apply Ext.alloc | apply Ext.more)⟩

set_option maxHeartbeats 1000000 in
theorem rc_0 (w : World) (s : ByteArray) (hsz : (s.size : Int) ≤ 4611686018427387904) (hl : 0 < s.size) (hc : (s[0].toNat : Int) = 0) :
    Calls Try.prog 34 #[.string s] w fun r w' => r = .returned (.tuple #[.agg #[.int .i64 0, .int .i64 0, .string ⟨#[]⟩], .int .i64 1, .int .i64 0]) ∧ Ext w w' := by
  have hne : ¬ s = ByteArray.empty := by rintro rfl; exact absurd hl (by decide)
  have hne2 : s.toList.isEmpty = false := by rw [empty_size]; simp; omega
  go_enter Try.func34, Try.ntmps34
  go_wp2
  refine bodyPost_ret (v := .tuple #[.agg #[.int .i64 0, .int .i64 0, .string ⟨#[]⟩], .int .i64 1, .int .i64 0]) (by simp [results, Try.results34, boolI, go_sem]) rfl ⟨rfl, by repeat (first | exact Ext.refl _ | apply Ext.alloc | apply Ext.more)⟩

set_option maxHeartbeats 1000000 in
theorem rc_1e (w : World) (s : ByteArray) (hsz : (s.size : Int) ≤ 4611686018427387904) (hl : 0 < s.size) (hc : (s[0].toNat : Int) = 1) (h1 : (s.size : Int) < 2) :
    Calls Try.prog 34 #[.string s] w fun r w' => r = .returned (.tuple #[.agg #[.int .i64 0, .int .i64 0, .string ⟨#[]⟩], .int .i64 0, .int .i64 2]) ∧ Ext w w' := by
  have hne : ¬ s = ByteArray.empty := by rintro rfl; exact absurd hl (by decide)
  have hne2 : s.toList.isEmpty = false := by rw [empty_size]; simp; omega
  go_enter Try.func34, Try.ntmps34
  go_wp2
  refine bodyPost_ret (v := .tuple #[.agg #[.int .i64 0, .int .i64 0, .string ⟨#[]⟩], .int .i64 0, .int .i64 2]) (by simp [results, Try.results34, boolI, go_sem]) rfl ⟨rfl, by repeat (first | exact Ext.refl _ | apply Ext.alloc | apply Ext.more)⟩

set_option maxHeartbeats 1000000 in
theorem rc_1b (w : World) (s : ByteArray) (hsz : (s.size : Int) ≤ 4611686018427387904) (hl : 0 < s.size) (hc : (s[0].toNat : Int) = 1) (h1 : 1 < s.size) (hd : 1 < (s[1].toNat : Int)) :
    Calls Try.prog 34 #[.string s] w fun r w' => r = .returned (.tuple #[.agg #[.int .i64 0, .int .i64 0, .string ⟨#[]⟩], .int .i64 0, .int .i64 3]) ∧ Ext w w' := by
  have hne : ¬ s = ByteArray.empty := by rintro rfl; exact absurd hl (by decide)
  have hne2 : s.toList.isEmpty = false := by rw [empty_size]; simp; omega
  go_enter Try.func34, Try.ntmps34
  go_wp2
  refine bodyPost_ret (v := .tuple #[.agg #[.int .i64 0, .int .i64 0, .string ⟨#[]⟩], .int .i64 0, .int .i64 3]) (by simp [results, Try.results34, boolI, go_sem]) rfl ⟨rfl, by repeat (first | exact Ext.refl _ | apply Ext.alloc | apply Ext.more)⟩

set_option maxHeartbeats 1000000 in
theorem rc_1u0 (w : World) (s : ByteArray) (hsz : (s.size : Int) ≤ 4611686018427387904) (hl : 0 < s.size) (hc : (s[0].toNat : Int) = 1) (h1 : 1 < s.size) (hd : (s[1].toNat : Int) = 0) :
    Calls Try.prog 34 #[.string s] w fun r w' => r = .returned (.tuple #[.agg #[.int .i64 1, .int .i64 0, .string ⟨#[]⟩], .int .i64 2, .int .i64 0]) ∧ Ext w w' := by
  have hne : ¬ s = ByteArray.empty := by rintro rfl; exact absurd hl (by decide)
  have hne2 : s.toList.isEmpty = false := by rw [empty_size]; simp; omega
  go_enter Try.func34, Try.ntmps34
  go_wp2_with (first
    | (go_at_call 23; refine (rbool_any _ _).mono ?_; rintro e _ ⟨rfl, d, os, rfl⟩))
  refine bodyPost_ret (v := .tuple #[.agg #[.int .i64 1, .int .i64 0, .string ⟨#[]⟩], .int .i64 2, .int .i64 0]) (by simp [results, Try.results34, boolI, go_sem]) rfl ⟨rfl, by repeat (first | exact Ext.refl _ | apply Ext.alloc | apply Ext.more)⟩

set_option maxHeartbeats 1000000 in
theorem rc_1u1 (w : World) (s : ByteArray) (hsz : (s.size : Int) ≤ 4611686018427387904) (hl : 0 < s.size) (hc : (s[0].toNat : Int) = 1) (h1 : 1 < s.size) (hd : (s[1].toNat : Int) = 1) :
    Calls Try.prog 34 #[.string s] w fun r w' => r = .returned (.tuple #[.agg #[.int .i64 1, .int .i64 1, .string ⟨#[]⟩], .int .i64 2, .int .i64 0]) ∧ Ext w w' := by
  have hne : ¬ s = ByteArray.empty := by rintro rfl; exact absurd hl (by decide)
  have hne2 : s.toList.isEmpty = false := by rw [empty_size]; simp; omega
  go_enter Try.func34, Try.ntmps34
  go_wp2_with (first
    | (go_at_call 23; refine (rbool_any _ _).mono ?_; rintro e _ ⟨rfl, d, os, rfl⟩))
  refine bodyPost_ret (v := .tuple #[.agg #[.int .i64 1, .int .i64 1, .string ⟨#[]⟩], .int .i64 2, .int .i64 0]) (by simp [results, Try.results34, boolI, go_sem]) rfl ⟨rfl, by repeat (first | exact Ext.refl _ | apply Ext.alloc | apply Ext.more)⟩

set_option maxHeartbeats 1000000 in
theorem rc_2e (w : World) (s : ByteArray) (hsz : (s.size : Int) ≤ 4611686018427387904) (x m e : Int) (he : (e == 0) = false) (hl : 0 < s.size) (hc : (s[0].toNat : Int) = 2) (C : RowKit.Hid (∀ w, Calls Try.prog 53 #[.string (s.extract 1 s.size)] w fun r w' => r = .returned (.tuple #[.int .i64 x, .int .i64 m, .int .i64 e]) ∧ Ext w w'))  :
    Calls Try.prog 34 #[.string s] w fun r w' => r = .returned (.tuple #[.agg #[.int .i64 0, .int .i64 0, .string ⟨#[]⟩], .int .i64 0, .int .i64 e]) ∧ Ext w w' := by
  have hne : ¬ s = ByteArray.empty := by rintro rfl; exact absurd hl (by decide)
  have hne2 : s.toList.isEmpty = false := by rw [empty_size]; simp; omega
  have he' : (e != 0) = true := by simpa using he
  go_enter Try.func34, Try.ntmps34
  go_wp2_with (first
    | (go_at_call 53; refine (C.out _).mono ?_; rintro e _ ⟨rfl, d, os, rfl⟩)
    | (go_at_call 21; refine (rint_any _ _).mono ?_; rintro e _ ⟨rfl, d, os, rfl⟩))
  refine bodyPost_ret (v := .tuple #[.agg #[.int .i64 0, .int .i64 0, .string ⟨#[]⟩], .int .i64 0, .int .i64 e]) (by simp [results, Try.results34, boolI, go_sem]) rfl ⟨rfl, by repeat (first | exact Ext.refl _ | apply Ext.alloc | apply Ext.more)⟩

set_option maxHeartbeats 1000000 in
theorem rc_2 (w : World) (s : ByteArray) (hsz : (s.size : Int) ≤ 4611686018427387904) (x m : Int) (hm1 : 0 ≤ m) (hm2 : m ≤ s.size) (hl : 0 < s.size) (hc : (s[0].toNat : Int) = 2) (C : RowKit.Hid (∀ w, Calls Try.prog 53 #[.string (s.extract 1 s.size)] w fun r w' => r = .returned (.tuple #[.int .i64 x, .int .i64 m, .int .i64 0]) ∧ Ext w w'))  :
    Calls Try.prog 34 #[.string s] w fun r w' => r = .returned (.tuple #[.agg #[.int .i64 2, .int .i64 x, .string ⟨#[]⟩], .int .i64 (m + 1), .int .i64 0]) ∧ Ext w w' := by
  have hne : ¬ s = ByteArray.empty := by rintro rfl; exact absurd hl (by decide)
  have hne2 : s.toList.isEmpty = false := by rw [empty_size]; simp; omega
  go_enter Try.func34, Try.ntmps34
  go_wp2_with (first
    | (go_at_call 53; refine (C.out _).mono ?_; rintro e _ ⟨rfl, d, os, rfl⟩)
    | (go_at_call 21; refine (rint_any _ _).mono ?_; rintro e _ ⟨rfl, d, os, rfl⟩))
  refine bodyPost_ret (v := .tuple #[.agg #[.int .i64 2, .int .i64 x, .string ⟨#[]⟩], .int .i64 (m + 1), .int .i64 0]) (by simp [results, Try.results34, boolI, go_sem]) rfl ⟨rfl, by repeat (first | exact Ext.refl _ | apply Ext.alloc | apply Ext.more)⟩

set_option maxHeartbeats 1000000 in
theorem rc_3e (w : World) (s : ByteArray) (hsz : (s.size : Int) ≤ 4611686018427387904) (t : ByteArray) (m e : Int) (he : (e == 0) = false) (hl : 0 < s.size) (hc : (s[0].toNat : Int) = 3) (C : RowKit.Hid (∀ w, Calls Try.prog 54 #[.string (s.extract 1 s.size)] w fun r w' => r = .returned (.tuple #[.string t, .int .i64 m, .int .i64 e]) ∧ Ext w w'))  :
    Calls Try.prog 34 #[.string s] w fun r w' => r = .returned (.tuple #[.agg #[.int .i64 0, .int .i64 0, .string ⟨#[]⟩], .int .i64 0, .int .i64 e]) ∧ Ext w w' := by
  have hne : ¬ s = ByteArray.empty := by rintro rfl; exact absurd hl (by decide)
  have hne2 : s.toList.isEmpty = false := by rw [empty_size]; simp; omega
  have he' : (e != 0) = true := by simpa using he
  go_enter Try.func34, Try.ntmps34
  go_wp2_with (first
    | (go_at_call 54; refine (C.out _).mono ?_; rintro e _ ⟨rfl, d, os, rfl⟩))
  refine bodyPost_ret (v := .tuple #[.agg #[.int .i64 0, .int .i64 0, .string ⟨#[]⟩], .int .i64 0, .int .i64 e]) (by simp [results, Try.results34, boolI, go_sem]) rfl ⟨rfl, by repeat (first | exact Ext.refl _ | apply Ext.alloc | apply Ext.more)⟩

set_option maxHeartbeats 1000000 in
theorem rc_3f (w : World) (s : ByteArray) (hsz : (s.size : Int) ≤ 4611686018427387904) (t : ByteArray) (hs : 64 < (t.size : Int)) (m : Int) (hl : 0 < s.size) (hc : (s[0].toNat : Int) = 3) (C : RowKit.Hid (∀ w, Calls Try.prog 54 #[.string (s.extract 1 s.size)] w fun r w' => r = .returned (.tuple #[.string t, .int .i64 m, .int .i64 0]) ∧ Ext w w'))  :
    Calls Try.prog 34 #[.string s] w fun r w' => r = .returned (.tuple #[.agg #[.int .i64 0, .int .i64 0, .string ⟨#[]⟩], .int .i64 0, .int .i64 5]) ∧ Ext w w' := by
  have hne : ¬ s = ByteArray.empty := by rintro rfl; exact absurd hl (by decide)
  have hne2 : s.toList.isEmpty = false := by rw [empty_size]; simp; omega
  go_enter Try.func34, Try.ntmps34
  go_wp2_with (first
    | (go_at_call 54; refine (C.out _).mono ?_; rintro e _ ⟨rfl, d, os, rfl⟩))
  refine bodyPost_ret (v := .tuple #[.agg #[.int .i64 0, .int .i64 0, .string ⟨#[]⟩], .int .i64 0, .int .i64 5]) (by simp [results, Try.results34, boolI, go_sem]) rfl ⟨rfl, by repeat (first | exact Ext.refl _ | apply Ext.alloc | apply Ext.more)⟩

set_option maxHeartbeats 1000000 in
theorem rc_3 (w : World) (s : ByteArray) (hsz : (s.size : Int) ≤ 4611686018427387904) (t : ByteArray) (hs : (t.size : Int) ≤ 64) (m : Int) (hm1 : 0 ≤ m) (hm2 : m ≤ s.size) (hl : 0 < s.size) (hc : (s[0].toNat : Int) = 3) (C : RowKit.Hid (∀ w, Calls Try.prog 54 #[.string (s.extract 1 s.size)] w fun r w' => r = .returned (.tuple #[.string t, .int .i64 m, .int .i64 0]) ∧ Ext w w'))  :
    Calls Try.prog 34 #[.string s] w fun r w' => r = .returned (.tuple #[.agg #[.int .i64 3, .int .i64 0, .string t], .int .i64 (m + 1), .int .i64 0]) ∧ Ext w w' := by
  have hne : ¬ s = ByteArray.empty := by rintro rfl; exact absurd hl (by decide)
  have hne2 : s.toList.isEmpty = false := by rw [empty_size]; simp; omega
  go_enter Try.func34, Try.ntmps34
  go_wp2_with (first
    | (go_at_call 54; refine (C.out _).mono ?_; rintro e _ ⟨rfl, d, os, rfl⟩))
  refine bodyPost_ret (v := .tuple #[.agg #[.int .i64 3, .int .i64 0, .string t], .int .i64 (m + 1), .int .i64 0]) (by simp [results, Try.results34, boolI, go_sem]) rfl ⟨rfl, by repeat (first | exact Ext.refl _ | apply Ext.alloc | apply Ext.more)⟩
end Go.Proofs.Ythekfgbiplmikaa
