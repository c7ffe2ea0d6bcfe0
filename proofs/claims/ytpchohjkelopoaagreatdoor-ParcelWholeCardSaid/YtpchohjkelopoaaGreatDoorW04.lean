/- Lemmas for the claim (texts Cut4, Cut5, ItQ, what its proof uses of them). -/
import Derived.Test.YtpchohjkelopoaaGreatDoorW03
set_option linter.unusedSimpArgs false
set_option linter.unusedVariables false
set_option maxRecDepth 20000
namespace Go.Proofs.YtpchohjkelopoaaGreatDoor
open Go.RowKit
/-- the value with which bytes begin, how many bytes it has, and the error -/
def valC : List UInt8 → Val × Nat × Int
  | [] => (⟨0, 0, ⟨#[]⟩⟩, 0, 2)
  | c :: l =>
    if c.toNat = 0 then (⟨0, 0, ⟨#[]⟩⟩, 1, 0)
    else if c.toNat = 1 then
      (match l with
       | [] => (⟨0, 0, ⟨#[]⟩⟩, 0, 2)
       | d :: _ => if 1 < d.toNat then (⟨0, 0, ⟨#[]⟩⟩, 0, 3) else (⟨1, d.toNat, ⟨#[]⟩⟩, 2, 0))
    else if c.toNat = 2 then (if (cutG 0 0 l).2.2 ≠ 0 then (⟨0, 0, ⟨#[]⟩⟩, 0, (cutG 0 0 l).2.2) else (⟨2, zagZ ((cutG 0 0 l).1 : Nat), ⟨#[]⟩⟩, 1 + (cutG 0 0 l).2.1, 0))
    else if c.toNat = 3 then (if (cutT l).2.2 ≠ 0 then (⟨0, 0, ⟨#[]⟩⟩, 0, (cutT l).2.2) else if 64 < (cutT l).1.length then (⟨0, 0, ⟨#[]⟩⟩, 0, 5) else (⟨3, 0, ⟨(cutT l).1.toArray⟩⟩, 1 + (cutT l).2.1, 0))
    else (⟨0, 0, ⟨#[]⟩⟩, 0, 3)
set_option maxHeartbeats 1000000 in
theorem vc_nil (w : World) (p : Option Addr) (cap : Nat) :
    Calls Tryz.prog 147 #[.slice p 0 cap] w fun r w' => r = .returned (.tuple #[.agg #[.int .i64 0, .int .i64 0, .string ⟨#[]⟩], .int .i64 0, .int .i64 2]) ∧ Ext w w' := by
  go_enter Tryz.func147, Tryz.ntmps147
  go_wp2
  refine bodyPost_ret (v := .tuple #[.agg #[.int .i64 0, .int .i64 0, .string ⟨#[]⟩], .int .i64 0, .int .i64 2]) (by simp [results, Tryz.results147, boolI, go_sem]) rfl ⟨rfl, by repeat (first | exact Ext.refl _ | apply Ext.alloc | apply Ext.more)⟩
set_option maxHeartbeats 1000000 in
theorem vc_0 (w : World) (b off n cap : Nat) (hb : b < w.heap.size) (hm : n < 9223372036854775807) (hcap : n + 1 ≤ cap) (hc : w.cell? ⟨b, off, none⟩ = some (.int .u8 0)) :
    Calls Tryz.prog 147 #[.slice (some ⟨b, off, none⟩) (n + 1) cap] w fun r w' => r = .returned (.tuple #[.agg #[.int .i64 0, .int .i64 0, .string ⟨#[]⟩], .int .i64 1, .int .i64 0]) ∧ Ext w w' := by
  by_cases hc1 : cap = 1
  · subst hc1
    go_enter Tryz.func147, Tryz.ntmps147
    go_wp2_with (first
      | (go_at_call 163; refine (nil_any _).mono ?_; rintro e _ ⟨rfl, d, os, rfl⟩))
    refine bodyPost_ret (v := .tuple #[.agg #[.int .i64 0, .int .i64 0, .string ⟨#[]⟩], .int .i64 1, .int .i64 0]) (by simp [results, Tryz.results147, boolI, go_sem]) rfl ⟨rfl, by repeat (first | exact Ext.refl _ | apply Ext.alloc | apply Ext.more)⟩
  · go_enter Tryz.func147, Tryz.ntmps147
    go_wp2_with (first
      | (go_at_call 163; refine (nil_any _).mono ?_; rintro e _ ⟨rfl, d, os, rfl⟩))
    refine bodyPost_ret (v := .tuple #[.agg #[.int .i64 0, .int .i64 0, .string ⟨#[]⟩], .int .i64 1, .int .i64 0]) (by simp [results, Tryz.results147, boolI, go_sem]) rfl ⟨rfl, by repeat (first | exact Ext.refl _ | apply Ext.alloc | apply Ext.more)⟩
set_option maxHeartbeats 1000000 in
theorem vc_1e (w : World) (b off n cap : Nat) (hb : b < w.heap.size) (hm : n < 9223372036854775807) (hcap : n + 1 ≤ cap) (hn : n = 0) (hc : w.cell? ⟨b, off, none⟩ = some (.int .u8 1)) :
    Calls Tryz.prog 147 #[.slice (some ⟨b, off, none⟩) (n + 1) cap] w fun r w' => r = .returned (.tuple #[.agg #[.int .i64 0, .int .i64 0, .string ⟨#[]⟩], .int .i64 0, .int .i64 2]) ∧ Ext w w' := by
  subst hn
  by_cases hc1 : cap = 1
  · subst hc1
    go_enter Tryz.func147, Tryz.ntmps147
    go_wp2
    refine bodyPost_ret (v := .tuple #[.agg #[.int .i64 0, .int .i64 0, .string ⟨#[]⟩], .int .i64 0, .int .i64 2]) (by simp [results, Tryz.results147, boolI, go_sem]) rfl ⟨rfl, by repeat (first | exact Ext.refl _ | apply Ext.alloc | apply Ext.more)⟩
  · go_enter Tryz.func147, Tryz.ntmps147
    go_wp2
    refine bodyPost_ret (v := .tuple #[.agg #[.int .i64 0, .int .i64 0, .string ⟨#[]⟩], .int .i64 0, .int .i64 2]) (by simp [results, Tryz.results147, boolI, go_sem]) rfl ⟨rfl, by repeat (first | exact Ext.refl _ | apply Ext.alloc | apply Ext.more)⟩
set_option maxHeartbeats 1000000 in
theorem vc_1b (w : World) (b off n cap : Nat) (hb : b < w.heap.size) (hm : n < 9223372036854775807) (hcap : n + 1 ≤ cap) (u : Int) (hn : 0 < n) (hu : 1 < u) (hu2 : u < 256) (hc : w.cell? ⟨b, off, none⟩ = some (.int .u8 1)) (hd : w.cell? ⟨b, off + 1, none⟩ = some (.int .u8 u)) :
    Calls Tryz.prog 147 #[.slice (some ⟨b, off, none⟩) (n + 1) cap] w fun r w' => r = .returned (.tuple #[.agg #[.int .i64 0, .int .i64 0, .string ⟨#[]⟩], .int .i64 0, .int .i64 3]) ∧ Ext w w' := by
  by_cases hc1 : cap = 1
  · exfalso; omega
  · go_enter Tryz.func147, Tryz.ntmps147
    go_wp2
    refine bodyPost_ret (v := .tuple #[.agg #[.int .i64 0, .int .i64 0, .string ⟨#[]⟩], .int .i64 0, .int .i64 3]) (by simp [results, Tryz.results147, boolI, go_sem]) rfl ⟨rfl, by repeat (first | exact Ext.refl _ | apply Ext.alloc | apply Ext.more)⟩
set_option maxHeartbeats 1000000 in
theorem vc_1u0 (w : World) (b off n cap : Nat) (hb : b < w.heap.size) (hm : n < 9223372036854775807) (hcap : n + 1 ≤ cap) (hn : 0 < n) (hc : w.cell? ⟨b, off, none⟩ = some (.int .u8 1)) (hd : w.cell? ⟨b, off + 1, none⟩ = some (.int .u8 0)) :
    Calls Tryz.prog 147 #[.slice (some ⟨b, off, none⟩) (n + 1) cap] w fun r w' => r = .returned (.tuple #[.agg #[.int .i64 1, .int .i64 0, .string ⟨#[]⟩], .int .i64 2, .int .i64 0]) ∧ Ext w w' := by
  by_cases hc1 : cap = 1
  · exfalso; omega
  · go_enter Tryz.func147, Tryz.ntmps147
    go_wp2_with (first
      | (go_at_call 164; refine (bool_any _ _).mono ?_; rintro e _ ⟨rfl, d, os, rfl⟩))
    refine bodyPost_ret (v := .tuple #[.agg #[.int .i64 1, .int .i64 0, .string ⟨#[]⟩], .int .i64 2, .int .i64 0]) (by simp [results, Tryz.results147, boolI, go_sem]) rfl ⟨rfl, by repeat (first | exact Ext.refl _ | apply Ext.alloc | apply Ext.more)⟩
set_option maxHeartbeats 1000000 in
theorem vc_1u1 (w : World) (b off n cap : Nat) (hb : b < w.heap.size) (hm : n < 9223372036854775807) (hcap : n + 1 ≤ cap) (hn : 0 < n) (hc : w.cell? ⟨b, off, none⟩ = some (.int .u8 1)) (hd : w.cell? ⟨b, off + 1, none⟩ = some (.int .u8 1)) :
    Calls Tryz.prog 147 #[.slice (some ⟨b, off, none⟩) (n + 1) cap] w fun r w' => r = .returned (.tuple #[.agg #[.int .i64 1, .int .i64 1, .string ⟨#[]⟩], .int .i64 2, .int .i64 0]) ∧ Ext w w' := by
  by_cases hc1 : cap = 1
  · exfalso; omega
  · go_enter Tryz.func147, Tryz.ntmps147
    go_wp2_with (first
      | (go_at_call 164; refine (bool_any _ _).mono ?_; rintro e _ ⟨rfl, d, os, rfl⟩))
    refine bodyPost_ret (v := .tuple #[.agg #[.int .i64 1, .int .i64 1, .string ⟨#[]⟩], .int .i64 2, .int .i64 0]) (by simp [results, Tryz.results147, boolI, go_sem]) rfl ⟨rfl, by repeat (first | exact Ext.refl _ | apply Ext.alloc | apply Ext.more)⟩
set_option maxHeartbeats 1000000 in
theorem vc_x (w : World) (b off n cap : Nat) (hb : b < w.heap.size) (hm : n < 9223372036854775807) (hcap : n + 1 ≤ cap) (c : Int) (h3 : 3 < c) (hc2 : c < 256) (hc : w.cell? ⟨b, off, none⟩ = some (.int .u8 c)) :
    Calls Tryz.prog 147 #[.slice (some ⟨b, off, none⟩) (n + 1) cap] w fun r w' => r = .returned (.tuple #[.agg #[.int .i64 0, .int .i64 0, .string ⟨#[]⟩], .int .i64 0, .int .i64 3]) ∧ Ext w w' := by
  have q0 : (c == 0) = false := by simp; omega
  have q1 : (c == 1) = false := by simp; omega
  have q2 : (c == 2) = false := by simp; omega
  have q3 : (c == 3) = false := by simp; omega
  by_cases hc1 : cap = 1
  · subst hc1
    go_enter Tryz.func147, Tryz.ntmps147
    go_wp2
    refine bodyPost_ret (v := .tuple #[.agg #[.int .i64 0, .int .i64 0, .string ⟨#[]⟩], .int .i64 0, .int .i64 3]) (by simp [results, Tryz.results147, boolI, go_sem]) rfl ⟨rfl, by repeat (first | exact Ext.refl _ | apply Ext.alloc | apply Ext.more)⟩
  · go_enter Tryz.func147, Tryz.ntmps147
    go_wp2
    refine bodyPost_ret (v := .tuple #[.agg #[.int .i64 0, .int .i64 0, .string ⟨#[]⟩], .int .i64 0, .int .i64 3]) (by simp [results, Tryz.results147, boolI, go_sem]) rfl ⟨rfl, by repeat (first | exact Ext.refl _ | apply Ext.alloc | apply Ext.more)⟩
set_option maxHeartbeats 1000000 in
theorem vc_2e (w : World) (b off n cap : Nat) (hb : b < w.heap.size) (hm : n < 9223372036854775807) (hcap : n + 1 ≤ cap) (x m e : Int) (he : (e == 0) = false) (hc : w.cell? ⟨b, off, none⟩ = some (.int .u8 2)) (C : RowKit.Hid (∀ o c w', (o = off + 1 ∨ n = 0) → n ≤ c → Ext w w' → Calls Tryz.prog 165 #[.slice (some ⟨b, o, none⟩) n c] w' fun r w'' => r = .returned (.tuple #[.int .i64 x, .int .i64 m, .int .i64 e]) ∧ Ext w' w''))  :
    Calls Tryz.prog 147 #[.slice (some ⟨b, off, none⟩) (n + 1) cap] w fun r w' => r = .returned (.tuple #[.agg #[.int .i64 0, .int .i64 0, .string ⟨#[]⟩], .int .i64 0, .int .i64 e]) ∧ Ext w w' := by
  have he' : (e != 0) = true := by simpa using he
  by_cases hc1 : cap = 1
  · subst hc1
    obtain rfl : n = 0 := by omega
    go_enter Tryz.func147, Tryz.ntmps147
    go_wp2_with (first
      | (go_at_call 165; refine (C.out _ _ _ (by first | exact Or.inl rfl | exact Or.inr rfl) (by omega) (by repeat (first | exact Ext.refl _ | apply Ext.alloc | apply Ext.more))).mono ?_; rintro e _ ⟨rfl, d, os, rfl⟩)
      | (go_at_call 166; refine (int_any _ _).mono ?_; rintro e _ ⟨rfl, d, os, rfl⟩))
    refine bodyPost_ret (v := .tuple #[.agg #[.int .i64 0, .int .i64 0, .string ⟨#[]⟩], .int .i64 0, .int .i64 e]) (by simp [results, Tryz.results147, boolI, go_sem]) rfl ⟨rfl, by repeat (first | exact Ext.refl _ | apply Ext.alloc | apply Ext.more)⟩
  · go_enter Tryz.func147, Tryz.ntmps147
    go_wp2_with (first
      | (go_at_call 165; refine (C.out _ _ _ (by first | exact Or.inl rfl | exact Or.inr rfl) (by omega) (by repeat (first | exact Ext.refl _ | apply Ext.alloc | apply Ext.more))).mono ?_; rintro e _ ⟨rfl, d, os, rfl⟩)
      | (go_at_call 166; refine (int_any _ _).mono ?_; rintro e _ ⟨rfl, d, os, rfl⟩))
    refine bodyPost_ret (v := .tuple #[.agg #[.int .i64 0, .int .i64 0, .string ⟨#[]⟩], .int .i64 0, .int .i64 e]) (by simp [results, Tryz.results147, boolI, go_sem]) rfl ⟨rfl, by repeat (first | exact Ext.refl _ | apply Ext.alloc | apply Ext.more)⟩
set_option maxHeartbeats 1000000 in
theorem vc_2 (w : World) (b off n cap : Nat) (hb : b < w.heap.size) (hm : n < 9223372036854775807) (hcap : n + 1 ≤ cap) (x m : Int) (hm1 : 0 ≤ m) (hm2 : m ≤ n) (hc : w.cell? ⟨b, off, none⟩ = some (.int .u8 2)) (C : RowKit.Hid (∀ o c w', (o = off + 1 ∨ n = 0) → n ≤ c → Ext w w' → Calls Tryz.prog 165 #[.slice (some ⟨b, o, none⟩) n c] w' fun r w'' => r = .returned (.tuple #[.int .i64 x, .int .i64 m, .int .i64 0]) ∧ Ext w' w''))  :
    Calls Tryz.prog 147 #[.slice (some ⟨b, off, none⟩) (n + 1) cap] w fun r w' => r = .returned (.tuple #[.agg #[.int .i64 2, .int .i64 x, .string ⟨#[]⟩], .int .i64 (1 + m), .int .i64 0]) ∧ Ext w w' := by
  by_cases hc1 : cap = 1
  · subst hc1
    obtain rfl : n = 0 := by omega
    go_enter Tryz.func147, Tryz.ntmps147
    go_wp2_with (first
      | (go_at_call 165; refine (C.out _ _ _ (by first | exact Or.inl rfl | exact Or.inr rfl) (by omega) (by repeat (first | exact Ext.refl _ | apply Ext.alloc | apply Ext.more))).mono ?_; rintro e _ ⟨rfl, d, os, rfl⟩)
      | (go_at_call 166; refine (int_any _ _).mono ?_; rintro e _ ⟨rfl, d, os, rfl⟩))
    refine bodyPost_ret (v := .tuple #[.agg #[.int .i64 2, .int .i64 x, .string ⟨#[]⟩], .int .i64 (1 + m), .int .i64 0]) (by simp [results, Tryz.results147, boolI, go_sem]) rfl ⟨rfl, by repeat (first | exact Ext.refl _ | apply Ext.alloc | apply Ext.more)⟩
  · go_enter Tryz.func147, Tryz.ntmps147
    go_wp2_with (first
      | (go_at_call 165; refine (C.out _ _ _ (by first | exact Or.inl rfl | exact Or.inr rfl) (by omega) (by repeat (first | exact Ext.refl _ | apply Ext.alloc | apply Ext.more))).mono ?_; rintro e _ ⟨rfl, d, os, rfl⟩)
      | (go_at_call 166; refine (int_any _ _).mono ?_; rintro e _ ⟨rfl, d, os, rfl⟩))
    refine bodyPost_ret (v := .tuple #[.agg #[.int .i64 2, .int .i64 x, .string ⟨#[]⟩], .int .i64 (1 + m), .int .i64 0]) (by simp [results, Tryz.results147, boolI, go_sem]) rfl ⟨rfl, by repeat (first | exact Ext.refl _ | apply Ext.alloc | apply Ext.more)⟩
set_option maxHeartbeats 1000000 in
theorem vc_3e (w : World) (b off n cap : Nat) (hb : b < w.heap.size) (hm : n < 9223372036854775807) (hcap : n + 1 ≤ cap) (s : ByteArray) (m e : Int) (he : (e == 0) = false) (hc : w.cell? ⟨b, off, none⟩ = some (.int .u8 3)) (C : RowKit.Hid (∀ o c w', (o = off + 1 ∨ n = 0) → n ≤ c → Ext w w' → Calls Tryz.prog 146 #[.slice (some ⟨b, o, none⟩) n c] w' fun r w'' => r = .returned (.tuple #[.string s, .int .i64 m, .int .i64 e]) ∧ Ext w' w''))  :
    Calls Tryz.prog 147 #[.slice (some ⟨b, off, none⟩) (n + 1) cap] w fun r w' => r = .returned (.tuple #[.agg #[.int .i64 0, .int .i64 0, .string ⟨#[]⟩], .int .i64 0, .int .i64 e]) ∧ Ext w w' := by
  have he' : (e != 0) = true := by simpa using he
  by_cases hc1 : cap = 1
  · subst hc1
    obtain rfl : n = 0 := by omega
    go_enter Tryz.func147, Tryz.ntmps147
    go_wp2_with (first
      | (go_at_call 146; refine (C.out _ _ _ (by first | exact Or.inl rfl | exact Or.inr rfl) (by omega) (by repeat (first | exact Ext.refl _ | apply Ext.alloc | apply Ext.more))).mono ?_; rintro e _ ⟨rfl, d, os, rfl⟩))
    refine bodyPost_ret (v := .tuple #[.agg #[.int .i64 0, .int .i64 0, .string ⟨#[]⟩], .int .i64 0, .int .i64 e]) (by simp [results, Tryz.results147, boolI, go_sem]) rfl ⟨rfl, by repeat (first | exact Ext.refl _ | apply Ext.alloc | apply Ext.more)⟩
  · go_enter Tryz.func147, Tryz.ntmps147
    go_wp2_with (first
      | (go_at_call 146; refine (C.out _ _ _ (by first | exact Or.inl rfl | exact Or.inr rfl) (by omega) (by repeat (first | exact Ext.refl _ | apply Ext.alloc | apply Ext.more))).mono ?_; rintro e _ ⟨rfl, d, os, rfl⟩))
    refine bodyPost_ret (v := .tuple #[.agg #[.int .i64 0, .int .i64 0, .string ⟨#[]⟩], .int .i64 0, .int .i64 e]) (by simp [results, Tryz.results147, boolI, go_sem]) rfl ⟨rfl, by repeat (first | exact Ext.refl _ | apply Ext.alloc | apply Ext.more)⟩
set_option maxHeartbeats 1000000 in
theorem vc_3f (w : World) (b off n cap : Nat) (hb : b < w.heap.size) (hm : n < 9223372036854775807) (hcap : n + 1 ≤ cap) (s : ByteArray) (hs : 64 < (s.size : Int)) (m : Int) (hc : w.cell? ⟨b, off, none⟩ = some (.int .u8 3)) (C : RowKit.Hid (∀ o c w', (o = off + 1 ∨ n = 0) → n ≤ c → Ext w w' → Calls Tryz.prog 146 #[.slice (some ⟨b, o, none⟩) n c] w' fun r w'' => r = .returned (.tuple #[.string s, .int .i64 m, .int .i64 0]) ∧ Ext w' w''))  :
    Calls Tryz.prog 147 #[.slice (some ⟨b, off, none⟩) (n + 1) cap] w fun r w' => r = .returned (.tuple #[.agg #[.int .i64 0, .int .i64 0, .string ⟨#[]⟩], .int .i64 0, .int .i64 5]) ∧ Ext w w' := by
  by_cases hc1 : cap = 1
  · subst hc1
    obtain rfl : n = 0 := by omega
    go_enter Tryz.func147, Tryz.ntmps147
    go_wp2_with (first
      | (go_at_call 146; refine (C.out _ _ _ (by first | exact Or.inl rfl | exact Or.inr rfl) (by omega) (by repeat (first | exact Ext.refl _ | apply Ext.alloc | apply Ext.more))).mono ?_; rintro e _ ⟨rfl, d, os, rfl⟩)
      | (go_at_call 167; refine (text_full _ hs _).mono ?_; rintro e _ ⟨rfl, d, os, rfl⟩))
    refine bodyPost_ret (v := .tuple #[.agg #[.int .i64 0, .int .i64 0, .string ⟨#[]⟩], .int .i64 0, .int .i64 5]) (by simp [results, Tryz.results147, boolI, go_sem]) rfl ⟨rfl, by repeat (first | exact Ext.refl _ | apply Ext.alloc | apply Ext.more)⟩
  · go_enter Tryz.func147, Tryz.ntmps147
    go_wp2_with (first
      | (go_at_call 146; refine (C.out _ _ _ (by first | exact Or.inl rfl | exact Or.inr rfl) (by omega) (by repeat (first | exact Ext.refl _ | apply Ext.alloc | apply Ext.more))).mono ?_; rintro e _ ⟨rfl, d, os, rfl⟩)
      | (go_at_call 167; refine (text_full _ hs _).mono ?_; rintro e _ ⟨rfl, d, os, rfl⟩))
    refine bodyPost_ret (v := .tuple #[.agg #[.int .i64 0, .int .i64 0, .string ⟨#[]⟩], .int .i64 0, .int .i64 5]) (by simp [results, Tryz.results147, boolI, go_sem]) rfl ⟨rfl, by repeat (first | exact Ext.refl _ | apply Ext.alloc | apply Ext.more)⟩
set_option maxHeartbeats 1000000 in
theorem vc_3 (w : World) (b off n cap : Nat) (hb : b < w.heap.size) (hm : n < 9223372036854775807) (hcap : n + 1 ≤ cap) (s : ByteArray) (hs : (s.size : Int) ≤ 64) (m : Int) (hm1 : 0 ≤ m) (hm2 : m ≤ n) (hc : w.cell? ⟨b, off, none⟩ = some (.int .u8 3)) (C : RowKit.Hid (∀ o c w', (o = off + 1 ∨ n = 0) → n ≤ c → Ext w w' → Calls Tryz.prog 146 #[.slice (some ⟨b, o, none⟩) n c] w' fun r w'' => r = .returned (.tuple #[.string s, .int .i64 m, .int .i64 0]) ∧ Ext w' w''))  :
    Calls Tryz.prog 147 #[.slice (some ⟨b, off, none⟩) (n + 1) cap] w fun r w' => r = .returned (.tuple #[.agg #[.int .i64 3, .int .i64 0, .string s], .int .i64 (1 + m), .int .i64 0]) ∧ Ext w w' := by
  by_cases hc1 : cap = 1
  · subst hc1
    obtain rfl : n = 0 := by omega
    go_enter Tryz.func147, Tryz.ntmps147
    go_wp2_with (first
      | (go_at_call 146; refine (C.out _ _ _ (by first | exact Or.inl rfl | exact Or.inr rfl) (by omega) (by repeat (first | exact Ext.refl _ | apply Ext.alloc | apply Ext.more))).mono ?_; rintro e _ ⟨rfl, d, os, rfl⟩)
      | (go_at_call 167; refine (text_ok _ hs _).mono ?_; rintro e _ ⟨rfl, d, os, rfl⟩))
    refine bodyPost_ret (v := .tuple #[.agg #[.int .i64 3, .int .i64 0, .string s], .int .i64 (1 + m), .int .i64 0]) (by simp [results, Tryz.results147, boolI, go_sem]) rfl ⟨rfl, by repeat (first | exact Ext.refl _ | apply Ext.alloc | apply Ext.more)⟩
  · go_enter Tryz.func147, Tryz.ntmps147
    go_wp2_with (first
      | (go_at_call 146; refine (C.out _ _ _ (by first | exact Or.inl rfl | exact Or.inr rfl) (by omega) (by repeat (first | exact Ext.refl _ | apply Ext.alloc | apply Ext.more))).mono ?_; rintro e _ ⟨rfl, d, os, rfl⟩)
      | (go_at_call 167; refine (text_ok _ hs _).mono ?_; rintro e _ ⟨rfl, d, os, rfl⟩))
    refine bodyPost_ret (v := .tuple #[.agg #[.int .i64 3, .int .i64 0, .string s], .int .i64 (1 + m), .int .i64 0]) (by simp [results, Tryz.results147, boolI, go_sem]) rfl ⟨rfl, by repeat (first | exact Ext.refl _ | apply Ext.alloc | apply Ext.more)⟩
end Go.Proofs.YtpchohjkelopoaaGreatDoor

set_option maxRecDepth 20000
namespace Go.Proofs.YtpchohjkelopoaaGreatDoor
open Go.RowKit
theorem ba_size (l : List UInt8) : (⟨l.toArray⟩ : ByteArray).size = l.length := by simp [ByteArray.size]
theorem cutT_len {l t : List UInt8} {n : Nat} {e : Int} (h : cutT l = (t, n, e)) : n ≤ l.length := by
  unfold cutT at h
  repeat' split at h
  all_goals (simp at h; omega)
theorem vc_any (w : World) (b off cap : Nat) (l : List UInt8) (hm : l.length ≤ 4611686018427387904) (hcap : l.length ≤ cap) (hb : BytesAt w b off l) (v : Val) (n : Nat) (e : Int) (hr : valC l = (v, n, e)) :
    Calls Tryz.prog 147 #[.slice (some ⟨b, off, none⟩) l.length cap] w fun r w' => r = .returned (.tuple #[.agg #[.int .i64 v.k, .int .i64 v.i, .string v.s], .int .i64 (n : Int), .int .i64 e]) ∧ Ext w w' := by
  cases l with
  | nil =>
    simp only [valC, Prod.mk.injEq] at hr
    obtain ⟨rfl, rfl, rfl⟩ := hr
    exact vc_nil w (some ⟨b, off, none⟩) cap
  | cons c l =>
    have hlt := hb.lt (by simp)
    have hc := hb 0 c rfl
    rw [Nat.add_zero] at hc
    have hT : BytesAt w b (off + 1) l := by have := hb.drop 1; simpa using this
    have hTo : ∀ o w', (o = off + 1 ∨ l.length = 0) → Ext w w' → BytesAt w' b o l := by
      intro o w' ho hx
      rcases ho with rfl | h0
      · exact hT.ext hx
      · have := List.eq_nil_of_length_eq_zero h0
        subst this
        intro j u hj; simp at hj
    have hc256 := c.toNat_lt
    simp only [List.length_cons] at hm hcap ⊢
    have hm' : l.length < 9223372036854775807 := by omega
    unfold valC at hr
    dsimp only at hr
    by_cases q0 : c.toNat = 0
    · rw [if_pos q0] at hr
      simp only [Prod.mk.injEq] at hr
      obtain ⟨rfl, rfl, rfl⟩ := hr
      rw [q0] at hc
      exact vc_0 w b off _ cap hlt hm' hcap hc
    rw [if_neg q0] at hr
    by_cases q1 : c.toNat = 1
    · rw [if_pos q1] at hr
      rw [q1] at hc
      cases l with
      | nil =>
        simp only [Prod.mk.injEq] at hr
        obtain ⟨rfl, rfl, rfl⟩ := hr
        exact vc_1e w b off _ cap hlt hm' hcap rfl hc
      | cons d l =>
        have hd := hT 0 d rfl
        rw [Nat.add_zero] at hd
        have hd256 := d.toNat_lt
        by_cases q2 : 1 < d.toNat
        · simp only [q2, if_true, Prod.mk.injEq] at hr
          obtain ⟨rfl, rfl, rfl⟩ := hr
          exact vc_1b w b off _ cap hlt hm' hcap d.toNat (by simp) (by omega) (by omega) hc hd
        · simp only [q2, if_false, Prod.mk.injEq] at hr
          obtain ⟨rfl, rfl, rfl⟩ := hr
          have : d.toNat = 0 ∨ d.toNat = 1 := by omega
          rcases this with h | h
          · rw [h] at hd ⊢
            exact vc_1u0 w b off _ cap hlt hm' hcap (by simp) hc hd
          · rw [h] at hd ⊢
            exact vc_1u1 w b off _ cap hlt hm' hcap (by simp) hc hd
    rw [if_neg q1] at hr
    by_cases q2 : c.toNat = 2
    · rw [if_pos q2] at hr
      rw [q2] at hc
      obtain ⟨x, m, e0, hg⟩ : ∃ x m e0, cutG 0 0 l = (x, m, e0) := ⟨_, _, _, rfl⟩
      rw [hg] at hr
      dsimp only at hr
      have C := Lib.hid fun o (cp : Nat) (w' : World) (ho : o = off + 1 ∨ l.length = 0) (_ : l.length ≤ cp) (hx : Ext w w') => vcutint_any b o cp l w' (by unfold maxLen; omega) (hTo o w' ho hx) x m e0 hg
      by_cases h0 : e0 = 0
      · subst h0
        rw [if_neg (by simp)] at hr
        simp only [Prod.mk.injEq] at hr
        obtain ⟨rfl, rfl, rfl⟩ := hr
        have h2 := (cutG_lt hg).2
        exact vc_2 w b off _ cap hlt hm' hcap (zagZ x) m (by omega) (by omega) hc C
      · rw [if_pos h0] at hr
        simp only [Prod.mk.injEq] at hr
        obtain ⟨rfl, rfl, rfl⟩ := hr
        exact vc_2e w b off _ cap hlt hm' hcap (zagZ x) m _ (by simpa using h0) hc C
    rw [if_neg q2] at hr
    by_cases q3 : c.toNat = 3
    · rw [if_pos q3] at hr
      rw [q3] at hc
      obtain ⟨t, m, e0, hg⟩ : ∃ t m e0, cutT l = (t, m, e0) := ⟨_, _, _, rfl⟩
      rw [hg] at hr
      dsimp only at hr
      have C := Lib.hid fun o (cp : Nat) (w' : World) (ho : o = off + 1 ∨ l.length = 0) (hcp : l.length ≤ cp) (hx : Ext w w') => vcuttext_any b o cp l w' (by unfold maxLen; omega) hcp (hTo o w' ho hx) t m e0 hg
      have hsz := ba_size t
      by_cases h0 : e0 = 0
      · subst h0
        rw [if_neg (by simp)] at hr
        by_cases h64 : 64 < t.length
        · rw [if_pos h64] at hr
          simp only [Prod.mk.injEq] at hr
          obtain ⟨rfl, rfl, rfl⟩ := hr
          exact vc_3f w b off _ cap hlt hm' hcap ⟨t.toArray⟩ (by omega) m hc C
        · rw [if_neg h64] at hr
          simp only [Prod.mk.injEq] at hr
          obtain ⟨rfl, rfl, rfl⟩ := hr
          have h2 := cutT_len hg
          exact vc_3 w b off _ cap hlt hm' hcap ⟨t.toArray⟩ (by omega) m (by omega) (by omega) hc C
      · rw [if_pos h0] at hr
        simp only [Prod.mk.injEq] at hr
        obtain ⟨rfl, rfl, rfl⟩ := hr
        exact vc_3e w b off _ cap hlt hm' hcap ⟨t.toArray⟩ m _ (by simpa using h0) hc C
    rw [if_neg q3] at hr
    simp only [Prod.mk.injEq] at hr
    obtain ⟨rfl, rfl, rfl⟩ := hr
    exact vc_x w b off _ cap hlt hm' hcap c.toNat (by omega) (by omega) hc
end Go.Proofs.YtpchohjkelopoaaGreatDoor

namespace Go.Proofs.YtpchohjkelopoaaGreatDoor
open Go.RowKit
theorem bl_step {x : UInt8} {a b : List UInt8} : Op.bytesLess (x :: a) (x :: b) = Op.bytesLess a b := by
  have h1 : (decide (x < x)) = false := by simp [UInt8.lt_irrefl]
  conv => lhs; unfold Op.bytesLess
  simp [h1]
/-- at the first byte that is another one -/
theorem bl_at : ∀ (i : Nat) (a b : List UInt8) (ha : i < a.length) (hb : i < b.length), a.take i = b.take i → a[i] ≠ b[i] → Op.bytesLess a b = decide (a[i].toNat < b[i].toNat)
  | _, [], _, ha, _, _, _ => by simp at ha
  | _, _ :: _, [], _, hb, _, _ => by simp at hb
  | 0, x :: a, y :: b, ha, hb, _, hn => by
    have h2 : (x == y) = false := by simpa using hn
    unfold Op.bytesLess
    simp only [List.getElem_cons_zero, h2, Bool.false_and, Bool.or_false]
    rfl
  | i + 1, x :: a, y :: b, ha, hb, ht, hn => by
    simp only [List.take_succ_cons, List.cons.injEq] at ht
    obtain ⟨rfl, ht⟩ := ht
    rw [bl_step]
    simpa using bl_at i a b (by simpa using ha) (by simpa using hb) ht (by simpa using hn)
/-- one is the other's beginning -/
theorem bl_end : ∀ (m : Nat) (a b : List UInt8), a.take m = b.take m → (m = a.length ∨ m = b.length) → m ≤ a.length → m ≤ b.length → Op.bytesLess a b = decide (a.length < b.length)
  | 0, a, b, _, hm, _, _ => by
    rcases hm with h | h
    · cases a with
      | nil => cases b with
        | nil => rfl
        | cons y b => simp [Op.bytesLess]
      | cons x a => simp at h
    · cases b with
      | nil => cases a with
        | nil => rfl
        | cons y b => simp [Op.bytesLess]
      | cons x a => simp at h
  | m + 1, a, b, ht, hm, ha, hb => by
    cases a with
    | nil => simp at ha
    | cons x a =>
      cases b with
      | nil => simp at hb
      | cons y b =>
        simp only [List.take_succ_cons, List.cons.injEq] at ht
        obtain ⟨rfl, ht⟩ := ht
        rw [bl_step, bl_end m a b ht (by simpa using hm) (by simpa using ha) (by simpa using hb)]
        simp
/-- an item's bytes -/
def itB (x : It) : List UInt8 := (putB x.k.size ++ x.k.data.toList) ++ encB x.vk x.vi x.vs ++ putB x.ver.toNat
def chunkN (l : List It) (j : Nat) : List UInt8 := UInt8.ofNat (min 8 (l.length - 8 * j)) :: ((l.drop (8 * j)).take 8).flatMap itB
def chunksF (l : List It) : List (List UInt8) := (List.range ((l.length + 7) / 8)).map (chunkN l)
/-- the item with which bytes begin; bad: the version that stands for one that may not be -/
def itemF (bad : Int) (l : List UInt8) : It × Nat × Int :=
  if (cutT l).2.2 ≠ 0 then (⟨⟨#[]⟩, 0, 0, ⟨#[]⟩, 0⟩, 0, (cutT l).2.2)
  else if (valC (l.drop (cutT l).2.1)).2.2 ≠ 0 then (⟨⟨#[]⟩, 0, 0, ⟨#[]⟩, 0⟩, 0, (valC (l.drop (cutT l).2.1)).2.2)
  else if (cutG 0 0 (l.drop ((cutT l).2.1 + (valC (l.drop (cutT l).2.1)).2.1))).2.2 ≠ 0 then (⟨⟨#[]⟩, 0, 0, ⟨#[]⟩, 0⟩, 0, (cutG 0 0 (l.drop ((cutT l).2.1 + (valC (l.drop (cutT l).2.1)).2.1))).2.2)
  else (⟨⟨(cutT l).1.toArray⟩, (valC (l.drop (cutT l).2.1)).1.k, (valC (l.drop (cutT l).2.1)).1.i, (valC (l.drop (cutT l).2.1)).1.s,
    if 2147483647 < (cutG 0 0 (l.drop ((cutT l).2.1 + (valC (l.drop (cutT l).2.1)).2.1))).1 then bad else ((cutG 0 0 (l.drop ((cutT l).2.1 + (valC (l.drop (cutT l).2.1)).2.1))).1 : Int)⟩,
    (cutT l).2.1 + (valC (l.drop (cutT l).2.1)).2.1 + (cutG 0 0 (l.drop ((cutT l).2.1 + (valC (l.drop (cutT l).2.1)).2.1))).2.1, 0)
def itemsF (bad : Int) : Nat → List UInt8 → List It × List UInt8 × Int
  | 0, l => ([], l, 0)
  | n + 1, l => if (itemF bad l).2.2 ≠ 0 then ([], [], (itemF bad l).2.2)
    else if (itemsF bad n (l.drop (itemF bad l).2.1)).2.2 ≠ 0 then ([], [], (itemsF bad n (l.drop (itemF bad l).2.1)).2.2)
    else ((itemF bad l).1 :: (itemsF bad n (l.drop (itemF bad l).2.1)).1, (itemsF bad n (l.drop (itemF bad l).2.1)).2.1, 0)
/-- are texts in order? -/
def ordB : List It → Bool
  | [] => true
  | [_] => true
  | x :: y :: l => ltB x.k y.k && ordB (y :: l)
def cutF (bad : Int) : List UInt8 → List It × Int
  | [] => ([], 2)
  | c :: t => if (itemsF bad c.toNat t).2.2 ≠ 0 then ([], (itemsF bad c.toNat t).2.2)
    else if (itemsF bad c.toNat t).1.all mayI = false then ([], 1)
    else if ordB (itemsF bad c.toNat t).1 = false then ([], 3)
    else if (itemsF bad c.toNat t).1.length = 0 ∨ 8 < (itemsF bad c.toNat t).1.length then ([], 4)
    else if 0 < (itemsF bad c.toNat t).2.1.length then ([], 7) else ((itemsF bad c.toNat t).1, 0)
/-- what is cut of chunks, from a place on: the lists, or the error, and where -/
def cutAll : Nat → List (List UInt8) → List (List It) × Int × Int
  | _, [] => ([], 0, 0)
  | i, c :: t => if (cutF (-1) c).2 ≠ 0 then ([], (cutF (-1) c).2, (i : Int)) else if (cutAll (i + 1) t).2.1 ≠ 0 then ([], (cutAll (i + 1) t).2) else ((cutF (-1) c).1 :: (cutAll (i + 1) t).1, 0, 0)
end Go.Proofs.YtpchohjkelopoaaGreatDoor
