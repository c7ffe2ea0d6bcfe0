/- ParseParens: parentheses about an expr change no node, as long as they are not too many. No condition. -/
import Derived.Test.YtoaaklcbcbjaiaaParN
import Derived.Test.YtoaaklcbcbjaiaaPOrd
import Derived.Test.YtoaaklcbcbjaiaaRow
import Derived.Test.YtoaaklcbcbjaiaaRows
import Derived.OpenShut
set_option linter.unusedSimpArgs false
set_option linter.unusedVariables false
namespace Go.Proofs.Ytoaaklcbcbjaiaa
open Go.RowKit
attribute [go_sem] more_more Array.size_append
theorem snocB (k : Nat) (u : UInt8) : (⟨Array.replicate k u⟩ : ByteArray) ++ ⟨#[u]⟩ = ⟨Array.replicate (k + 1) u⟩ := by
  apply ByteArray.ext
  apply Array.ext'
  simp [List.replicate_succ']

set_option maxHeartbeats 4000000 in
set_option maxRecDepth 20000 in
theorem ppar_e1 (s b : ByteArray) (FW : RowKit.Hid (∀ w, Calls Try.prog 19 #[.string s] w fun e w' => e = .returned (.string b) ∧ Ext w w')) (hbs : (b.size : Int) ≤ 2000) (n : Int) (hn0 : 0 ≤ n) (hn1 : n ≤ 255) (q : Nat) (hq : n % 4 = (q : Int)) (ec ea : Int) (hec : ec ≠ 0) (r2 : Except (Int × Int) (List Nd × Int)) (S1 : RowKit.Hid (∀ w, Calls Try.prog 20 #[.string ((⟨#[114, 101, 116, 117, 114, 110, 32]⟩ : ByteArray) ++ b ++ ⟨#[59]⟩)] w (ParsePost w (.error (ec, ea))))) (S2 : RowKit.Hid (∀ w, Calls Try.prog 20 #[.string ((⟨#[114, 101, 116, 117, 114, 110, 32]⟩ : ByteArray) ++ ⟨Array.replicate q 40⟩ ++ b ++ ⟨Array.replicate q 41⟩ ++ ⟨#[59]⟩)] w (ParsePost w r2))) (w : World) :
    Calls Try.prog 9 #[.string s, .int .u8 n] w fun e w' => e = .returned (.bool true) ∧ Ext w w' := by
  have hq3 : (q : Int) ≤ 3 := by omega
  have qe : (ec != 0) = true := by simpa using hec
  clear hec
  go_enter Try.func9, Try.ntmps9
  go_wp2_with (first
    | ((go_at_call 19; (with_reducible refine (FW.out _).mono ?_); rintro e _ ⟨rfl, d0, os0, rfl⟩))
    | ((go_at_call 20; (with_reducible refine (S1.out _).mono ?_); rintro e _ ⟨rfl, d1, os1, rfl⟩)))
  go_loopw [8, 9, 10] (fun x y z wr => ∃ k : Nat, z = .int .i64 (k : Int) ∧ k ≤ q ∧ x = .string ⟨Array.replicate k 40⟩ ∧ y = .string ⟨Array.replicate k 41⟩ ∧ wr = ((more w d1 (os0 ++ os1)).alloc (.cells #[.slice none 0 0, .int .i64 0] 24 (0, 0)))) (fun _ _ z _ => q - (intOf z).toNat)
  case atStart => exact ⟨0, rfl, Nat.zero_le _, rfl, rfl, rfl⟩
  case round =>
    obtain ⟨k, rfl, hkq, rfl, rfl, rfl⟩ := hrel
    have hz1 : (⟨Array.replicate k 40⟩ : ByteArray).size = k := by simp [ByteArray.size]
    have hz2 : (⟨Array.replicate k 41⟩ : ByteArray).size = k := by simp [ByteArray.size]
    by_cases hlt : k < q
    · have hlt2 : (k : Int) < n % 4 := by omega
      have HLT := Lib.hid hlt
      clear hlt
      go_wp2_with fail
      go_roundw
      case rel => exact ⟨k + 1, by go_num, by have := HLT.out; omega, congrArg Value.string (snocB k 40), congrArg Value.string (snocB k 41), by first | rfl | trivial⟩
      case measure => have := HLT.out; simp [intOf]; omega
    · have hke : k = q := by omega
      subst hke
      have hge : n % 4 ≤ (k : Int) := by omega
      clear hlt
      rcases r2 with ⟨e2, a2⟩ | ⟨ns, fi⟩
      · go_wp2_with (first
          | ((go_at_call 20; (with_reducible refine (S2.out _).mono ?_); rintro e _ ⟨rfl, d2, os2, rfl⟩))
          | ((go_at_call 15; (with_reducible refine (awake_any _).mono ?_); rintro e _ ⟨rfl, d4, os4, rfl⟩)))
        go_ret
        exact ⟨rfl, by repeat (first | exact Ext.refl _ | apply Ext.alloc | apply Ext.more)⟩
      · have HN : RowKit.Hid (ns.length = ns.length) := Lib.hid rfl
        go_wp2_with (first
          | ((go_at_call 20; (with_reducible refine (S2.out _).mono ?_); rintro e _ ⟨nv2, he, hrow, d2, os2, rfl⟩; obtain ⟨p2, c2, rfl⟩ := row_formO hrow; subst he; have HR2 := Lib.hid (hrow.mono (Nat.zero_le _)); clear hrow))
          | ((go_at_call 15; (with_reducible refine (awake_any _).mono ?_); rintro e _ ⟨rfl, d4, os4, rfl⟩)))
        go_ret
        exact ⟨rfl, by repeat (first | exact Ext.refl _ | apply Ext.alloc | apply Ext.more)⟩

set_option maxHeartbeats 4000000 in
set_option maxRecDepth 20000 in
theorem ppar_e2 (s b : ByteArray) (FW : RowKit.Hid (∀ w, Calls Try.prog 19 #[.string s] w fun e w' => e = .returned (.string b) ∧ Ext w w')) (hbs : (b.size : Int) ≤ 2000) (n : Int) (hn0 : 0 ≤ n) (hn1 : n ≤ 255) (q : Nat) (hq : n % 4 = (q : Int)) (ec ea : Int) (hec : ec ≠ 0) (ns : List Nd) (fi : Int) (nn : Nat) (HN : RowKit.Hid (ns.length = nn)) (S1 : RowKit.Hid (∀ w, Calls Try.prog 20 #[.string ((⟨#[114, 101, 116, 117, 114, 110, 32]⟩ : ByteArray) ++ b ++ ⟨#[59]⟩)] w (ParsePost w (.ok (ns, fi))))) (S2 : RowKit.Hid (∀ w, Calls Try.prog 20 #[.string ((⟨#[114, 101, 116, 117, 114, 110, 32]⟩ : ByteArray) ++ ⟨Array.replicate q 40⟩ ++ b ++ ⟨Array.replicate q 41⟩ ++ ⟨#[59]⟩)] w (ParsePost w (.error (ec, ea))))) (w : World) :
    Calls Try.prog 9 #[.string s, .int .u8 n] w fun e w' => e = .returned (.bool true) ∧ Ext w w' := by
  have hq3 : (q : Int) ≤ 3 := by omega
  have qe : (ec != 0) = true := by simpa using hec
  clear hec
  go_enter Try.func9, Try.ntmps9
  go_wp2_with (first
    | ((go_at_call 19; (with_reducible refine (FW.out _).mono ?_); rintro e _ ⟨rfl, d0, os0, rfl⟩))
    | ((go_at_call 20; (with_reducible refine (S1.out _).mono ?_); rintro e _ ⟨nv1, he, hrow, d1, os1, rfl⟩; obtain ⟨p1, c1, rfl⟩ := row_formO hrow; subst he; have HR1 := Lib.hid (hrow.mono (Nat.zero_le _)); clear hrow; rw [HN.out] at HR1 ⊢; rw [more_more] at HR1)))
  go_loopw [8, 9, 10] (fun x y z wr => ∃ k : Nat, z = .int .i64 (k : Int) ∧ k ≤ q ∧ x = .string ⟨Array.replicate k 40⟩ ∧ y = .string ⟨Array.replicate k 41⟩ ∧ wr = ((more w d1 (os0 ++ os1)).alloc (.cells #[.slice p1 nn c1, .int .i64 fi] 24 (0, 0)))) (fun _ _ z _ => q - (intOf z).toNat)
  case atStart => exact ⟨0, rfl, Nat.zero_le _, rfl, rfl, rfl⟩
  case round =>
    obtain ⟨k, rfl, hkq, rfl, rfl, rfl⟩ := hrel
    have hz1 : (⟨Array.replicate k 40⟩ : ByteArray).size = k := by simp [ByteArray.size]
    have hz2 : (⟨Array.replicate k 41⟩ : ByteArray).size = k := by simp [ByteArray.size]
    by_cases hlt : k < q
    · have hlt2 : (k : Int) < n % 4 := by omega
      have HLT := Lib.hid hlt
      clear hlt
      go_wp2_with fail
      go_roundw
      case rel => exact ⟨k + 1, by go_num, by have := HLT.out; omega, congrArg Value.string (snocB k 40), congrArg Value.string (snocB k 41), by first | rfl | trivial⟩
      case measure => have := HLT.out; simp [intOf]; omega
    · have hke : k = q := by omega
      subst hke
      have hge : n % 4 ≤ (k : Int) := by omega
      clear hlt
      go_wp2_with (first
        | ((go_at_call 20; (with_reducible refine (S2.out _).mono ?_); rintro e _ ⟨rfl, d2, os2, rfl⟩))
        | ((go_at_call 15; (with_reducible refine (awake_any _).mono ?_); rintro e _ ⟨rfl, d4, os4, rfl⟩)))
      go_ret
      exact ⟨rfl, by repeat (first | exact Ext.refl _ | apply Ext.alloc | apply Ext.more)⟩

set_option maxHeartbeats 4000000 in
set_option maxRecDepth 20000 in
theorem ppar_nil (s b : ByteArray) (FW : RowKit.Hid (∀ w, Calls Try.prog 19 #[.string s] w fun e w' => e = .returned (.string b) ∧ Ext w w')) (hbs : (b.size : Int) ≤ 2000) (n : Int) (hn0 : 0 ≤ n) (hn1 : n ≤ 255) (q : Nat) (hq : n % 4 = (q : Int)) (fi : Int) (ns ms : List Nd) (gi : Int) (nn : Nat) (HN : RowKit.Hid (ns.length = nn)) (h0 : nn = 0) (S1 : RowKit.Hid (∀ w, Calls Try.prog 20 #[.string ((⟨#[114, 101, 116, 117, 114, 110, 32]⟩ : ByteArray) ++ b ++ ⟨#[59]⟩)] w (ParsePost w (.ok (ns, fi))))) (S2 : RowKit.Hid (∀ w, Calls Try.prog 20 #[.string ((⟨#[114, 101, 116, 117, 114, 110, 32]⟩ : ByteArray) ++ ⟨Array.replicate q 40⟩ ++ b ++ ⟨Array.replicate q 41⟩ ++ ⟨#[59]⟩)] w (ParsePost w (.ok (ms, gi))))) (w : World) :
    Calls Try.prog 9 #[.string s, .int .u8 n] w fun e w' => e = .returned (.bool true) ∧ Ext w w' := by
  have hq3 : (q : Int) ≤ 3 := by omega
  subst h0
  go_enter Try.func9, Try.ntmps9
  go_wp2_with (first
    | ((go_at_call 19; (with_reducible refine (FW.out _).mono ?_); rintro e _ ⟨rfl, d0, os0, rfl⟩))
    | ((go_at_call 20; (with_reducible refine (S1.out _).mono ?_); rintro e _ ⟨nv1, he, hrow, d1, os1, rfl⟩; obtain ⟨p1, c1, rfl⟩ := row_formO hrow; subst he; have HR1 := Lib.hid (hrow.mono (Nat.zero_le _)); clear hrow; rw [HN.out] at HR1 ⊢; rw [more_more] at HR1)))
  go_loopw [8, 9, 10] (fun x y z wr => ∃ k : Nat, z = .int .i64 (k : Int) ∧ k ≤ q ∧ x = .string ⟨Array.replicate k 40⟩ ∧ y = .string ⟨Array.replicate k 41⟩ ∧ wr = ((more w d1 (os0 ++ os1)).alloc (.cells #[.slice p1 0 c1, .int .i64 fi] 24 (0, 0)))) (fun _ _ z _ => q - (intOf z).toNat)
  case atStart => exact ⟨0, rfl, Nat.zero_le _, rfl, rfl, rfl⟩
  case round =>
    obtain ⟨k, rfl, hkq, rfl, rfl, rfl⟩ := hrel
    have hz1 : (⟨Array.replicate k 40⟩ : ByteArray).size = k := by simp [ByteArray.size]
    have hz2 : (⟨Array.replicate k 41⟩ : ByteArray).size = k := by simp [ByteArray.size]
    by_cases hlt : k < q
    · have hlt2 : (k : Int) < n % 4 := by omega
      have HLT := Lib.hid hlt
      clear hlt
      go_wp2_with fail
      go_roundw
      case rel => exact ⟨k + 1, by go_num, by have := HLT.out; omega, congrArg Value.string (snocB k 40), congrArg Value.string (snocB k 41), by first | rfl | trivial⟩
      case measure => have := HLT.out; simp [intOf]; omega
    · have hke : k = q := by omega
      subst hke
      have hge : n % 4 ≤ (k : Int) := by omega
      clear hlt
      go_wp2_with (first
        | ((go_at_call 20; (with_reducible refine (S2.out _).mono ?_); rintro e _ ⟨nv2, he, hrow, d2, os2, rfl⟩; obtain ⟨p2, c2, rfl⟩ := row_formO hrow; subst he; have HR2 := Lib.hid (hrow.mono (Nat.zero_le _)); clear hrow))
        | ((go_at_call 15; (with_reducible refine (awake_any _).mono ?_); rintro e _ ⟨rfl, d4, os4, rfl⟩)))
      go_ret
      exact ⟨rfl, by repeat (first | exact Ext.refl _ | apply Ext.alloc | apply Ext.more)⟩

set_option maxHeartbeats 4000000 in
set_option maxRecDepth 20000 in
theorem ppar_kind (s b : ByteArray) (FW : RowKit.Hid (∀ w, Calls Try.prog 19 #[.string s] w fun e w' => e = .returned (.string b) ∧ Ext w w')) (hbs : (b.size : Int) ≤ 2000) (n : Int) (hn0 : 0 ≤ n) (hn1 : n ≤ 255) (q : Nat) (hq : n % 4 = (q : Int)) (ns : List Nd) (fi : Int) (nn : Nat) (HN : RowKit.Hid (ns.length = nn)) (hnn : 1 ≤ nn) (hn5 : (nn : Int) ≤ 512) (z : Nd) (HZ : RowKit.Hid (ns[nn - 1]? = some z)) (hk : z.k ≠ 28) (ms : List Nd) (gi : Int) (S1 : RowKit.Hid (∀ w, Calls Try.prog 20 #[.string ((⟨#[114, 101, 116, 117, 114, 110, 32]⟩ : ByteArray) ++ b ++ ⟨#[59]⟩)] w (ParsePost w (.ok (ns, fi))))) (S2 : RowKit.Hid (∀ w, Calls Try.prog 20 #[.string ((⟨#[114, 101, 116, 117, 114, 110, 32]⟩ : ByteArray) ++ ⟨Array.replicate q 40⟩ ++ b ++ ⟨Array.replicate q 41⟩ ++ ⟨#[59]⟩)] w (ParsePost w (.ok (ms, gi))))) (w : World) :
    Calls Try.prog 9 #[.string s, .int .u8 n] w fun e w' => e = .returned (.bool true) ∧ Ext w w' := by
  have hq3 : (q : Int) ≤ 3 := by omega
  have h1 : 0 < nn := by omega
  have h1i : 0 < (nn : Int) := by omega
  have hq0 : ((nn : Int) == 0) = false := beq_eq_false_iff_ne.2 (by omega)
  have hi1 : ((nn : Int) - 1).toNat = nn - 1 := by omega
  have qk : (z.k != 28) = true := by simpa using hk
  clear hk
  go_enter Try.func9, Try.ntmps9
  go_wp2_with (first
    | ((go_at_call 19; (with_reducible refine (FW.out _).mono ?_); rintro e _ ⟨rfl, d0, os0, rfl⟩))
    | ((go_at_call 20; (with_reducible refine (S1.out _).mono ?_); rintro e _ ⟨nv1, he, hrow, d1, os1, rfl⟩; obtain ⟨p1, c1, rfl⟩ := row_formO hrow; subst he; have HR1 := Lib.hid (hrow.mono (Nat.zero_le _)); clear hrow; rw [HN.out] at HR1 ⊢; rw [more_more] at HR1)))
  go_loopw [8, 9, 10] (fun x y z wr => ∃ k : Nat, z = .int .i64 (k : Int) ∧ k ≤ q ∧ x = .string ⟨Array.replicate k 40⟩ ∧ y = .string ⟨Array.replicate k 41⟩ ∧ wr = ((more w d1 (os0 ++ os1)).alloc (.cells #[.slice p1 nn c1, .int .i64 fi] 24 (0, 0)))) (fun _ _ z _ => q - (intOf z).toNat)
  case atStart => exact ⟨0, rfl, Nat.zero_le _, rfl, rfl, rfl⟩
  case round =>
    obtain ⟨k, rfl, hkq, rfl, rfl, rfl⟩ := hrel
    have hz1 : (⟨Array.replicate k 40⟩ : ByteArray).size = k := by simp [ByteArray.size]
    have hz2 : (⟨Array.replicate k 41⟩ : ByteArray).size = k := by simp [ByteArray.size]
    by_cases hlt : k < q
    · have hlt2 : (k : Int) < n % 4 := by omega
      have HLT := Lib.hid hlt
      clear hlt
      go_wp2_with fail
      go_roundw
      case rel => exact ⟨k + 1, by go_num, by have := HLT.out; omega, congrArg Value.string (snocB k 40), congrArg Value.string (snocB k 41), by first | rfl | trivial⟩
      case measure => have := HLT.out; simp [intOf]; omega
    · have hke : k = q := by omega
      subst hke
      have hge : n % 4 ≤ (k : Int) := by omega
      clear hlt
      have hp : ∃ g, p1 = some ⟨g, 0, none⟩ := by
        rcases Go.Joins.ownsRow_forms HR1.out with ⟨_, h0⟩ | ⟨g1, c1, h0⟩
        · omega
        · simp at h0; exact ⟨g1, h0.1⟩
      obtain ⟨g, rfl⟩ := hp
      have hg := (HR1.out.lt g rfl).2
      have k0 := (nd_at HR1.out HZ.out).1
      have hg2 : g < w.heap.size + (os0.size + os1.size) := by simpa [more_size] using hg
      have HR3 := Lib.hid (show World.ownsRow _ 0 52 8 (.slice (some ⟨g, 0, none⟩) nn c1) nn (ndCells ns) from HR1.out)
      go_wp2_with (first
        | ((go_at_call 20; (with_reducible refine (S2.out _).mono ?_); rintro e _ ⟨nv2, he, hrow, d2, os2, rfl⟩; obtain ⟨p2, c2, rfl⟩ := row_formO hrow; subst he; have HR2 := Lib.hid (hrow.mono (Nat.zero_le _)); clear hrow))
        | ((go_at_call 15; (with_reducible refine (awake_any _).mono ?_); rintro e _ ⟨rfl, d4, os4, rfl⟩)))
      go_ret
      exact ⟨rfl, by repeat (first | exact Ext.refl _ | apply Ext.alloc | apply Ext.more)⟩

set_option maxHeartbeats 4000000 in
set_option maxRecDepth 20000 in
theorem ppar_first (s b : ByteArray) (FW : RowKit.Hid (∀ w, Calls Try.prog 19 #[.string s] w fun e w' => e = .returned (.string b) ∧ Ext w w')) (hbs : (b.size : Int) ≤ 2000) (n : Int) (hn0 : 0 ≤ n) (hn1 : n ≤ 255) (q : Nat) (hq : n % 4 = (q : Int)) (ns : List Nd) (fi : Int) (nn : Nat) (HN : RowKit.Hid (ns.length = nn)) (hnn : 1 ≤ nn) (hn5 : (nn : Int) ≤ 512) (z : Nd) (HZ : RowKit.Hid (ns[nn - 1]? = some z)) (hk : z.k = 28) (hf : fi ≠ (nn : Int) - 1) (ms : List Nd) (gi : Int) (S1 : RowKit.Hid (∀ w, Calls Try.prog 20 #[.string ((⟨#[114, 101, 116, 117, 114, 110, 32]⟩ : ByteArray) ++ b ++ ⟨#[59]⟩)] w (ParsePost w (.ok (ns, fi))))) (S2 : RowKit.Hid (∀ w, Calls Try.prog 20 #[.string ((⟨#[114, 101, 116, 117, 114, 110, 32]⟩ : ByteArray) ++ ⟨Array.replicate q 40⟩ ++ b ++ ⟨Array.replicate q 41⟩ ++ ⟨#[59]⟩)] w (ParsePost w (.ok (ms, gi))))) (w : World) :
    Calls Try.prog 9 #[.string s, .int .u8 n] w fun e w' => e = .returned (.bool true) ∧ Ext w w' := by
  have hq3 : (q : Int) ≤ 3 := by omega
  have h1 : 0 < nn := by omega
  have h1i : 0 < (nn : Int) := by omega
  have hq0 : ((nn : Int) == 0) = false := beq_eq_false_iff_ne.2 (by omega)
  have hi1 : ((nn : Int) - 1).toNat = nn - 1 := by omega
  have qf : (fi != (nn : Int) - 1) = true := by simpa using hf
  clear hf
  go_enter Try.func9, Try.ntmps9
  go_wp2_with (first
    | ((go_at_call 19; (with_reducible refine (FW.out _).mono ?_); rintro e _ ⟨rfl, d0, os0, rfl⟩))
    | ((go_at_call 20; (with_reducible refine (S1.out _).mono ?_); rintro e _ ⟨nv1, he, hrow, d1, os1, rfl⟩; obtain ⟨p1, c1, rfl⟩ := row_formO hrow; subst he; have HR1 := Lib.hid (hrow.mono (Nat.zero_le _)); clear hrow; rw [HN.out] at HR1 ⊢; rw [more_more] at HR1)))
  go_loopw [8, 9, 10] (fun x y z wr => ∃ k : Nat, z = .int .i64 (k : Int) ∧ k ≤ q ∧ x = .string ⟨Array.replicate k 40⟩ ∧ y = .string ⟨Array.replicate k 41⟩ ∧ wr = ((more w d1 (os0 ++ os1)).alloc (.cells #[.slice p1 nn c1, .int .i64 fi] 24 (0, 0)))) (fun _ _ z _ => q - (intOf z).toNat)
  case atStart => exact ⟨0, rfl, Nat.zero_le _, rfl, rfl, rfl⟩
  case round =>
    obtain ⟨k, rfl, hkq, rfl, rfl, rfl⟩ := hrel
    have hz1 : (⟨Array.replicate k 40⟩ : ByteArray).size = k := by simp [ByteArray.size]
    have hz2 : (⟨Array.replicate k 41⟩ : ByteArray).size = k := by simp [ByteArray.size]
    by_cases hlt : k < q
    · have hlt2 : (k : Int) < n % 4 := by omega
      have HLT := Lib.hid hlt
      clear hlt
      go_wp2_with fail
      go_roundw
      case rel => exact ⟨k + 1, by go_num, by have := HLT.out; omega, congrArg Value.string (snocB k 40), congrArg Value.string (snocB k 41), by first | rfl | trivial⟩
      case measure => have := HLT.out; simp [intOf]; omega
    · have hke : k = q := by omega
      subst hke
      have hge : n % 4 ≤ (k : Int) := by omega
      clear hlt
      have hp : ∃ g, p1 = some ⟨g, 0, none⟩ := by
        rcases Go.Joins.ownsRow_forms HR1.out with ⟨_, h0⟩ | ⟨g1, c1, h0⟩
        · omega
        · simp at h0; exact ⟨g1, h0.1⟩
      obtain ⟨g, rfl⟩ := hp
      have hg := (HR1.out.lt g rfl).2
      have k0 := (nd_at HR1.out HZ.out).1
      have hg2 : g < w.heap.size + (os0.size + os1.size) := by simpa [more_size] using hg
      have HR3 := Lib.hid (show World.ownsRow _ 0 52 8 (.slice (some ⟨g, 0, none⟩) nn c1) nn (ndCells ns) from HR1.out)
      rw [hk] at k0
      go_wp2_with (first
        | ((go_at_call 20; (with_reducible refine (S2.out _).mono ?_); rintro e _ ⟨nv2, he, hrow, d2, os2, rfl⟩; obtain ⟨p2, c2, rfl⟩ := row_formO hrow; subst he; have HR2 := Lib.hid (hrow.mono (Nat.zero_le _)); clear hrow))
        | ((go_at_call 15; (with_reducible refine (awake_any _).mono ?_); rintro e _ ⟨rfl, d4, os4, rfl⟩)))
      go_ret
      exact ⟨rfl, by repeat (first | exact Ext.refl _ | apply Ext.alloc | apply Ext.more)⟩

set_option maxHeartbeats 4000000 in
set_option maxRecDepth 20000 in
theorem ppar_same (s b : ByteArray) (FW : RowKit.Hid (∀ w, Calls Try.prog 19 #[.string s] w fun e w' => e = .returned (.string b) ∧ Ext w w')) (hbs : (b.size : Int) ≤ 2000) (n : Int) (hn0 : 0 ≤ n) (hn1 : n ≤ 255) (q : Nat) (hq : n % 4 = (q : Int)) (ns : List Nd) (fi : Int) (nn : Nat) (HN : RowKit.Hid (ns.length = nn)) (hnn : 1 ≤ nn) (hn5 : (nn : Int) ≤ 512) (z : Nd) (HZ : RowKit.Hid (ns[nn - 1]? = some z)) (hk : z.k = 28) (hf : fi = (nn : Int) - 1) (HNL : RowKit.Hid (ns.length ≤ 512)) (S1 : RowKit.Hid (∀ w, Calls Try.prog 20 #[.string ((⟨#[114, 101, 116, 117, 114, 110, 32]⟩ : ByteArray) ++ b ++ ⟨#[59]⟩)] w (ParsePost w (.ok (ns, fi))))) (S2 : RowKit.Hid (∀ w, Calls Try.prog 20 #[.string ((⟨#[114, 101, 116, 117, 114, 110, 32]⟩ : ByteArray) ++ ⟨Array.replicate q 40⟩ ++ b ++ ⟨Array.replicate q 41⟩ ++ ⟨#[59]⟩)] w (ParsePost w (.ok (ns, fi))))) (w : World) :
    Calls Try.prog 9 #[.string s, .int .u8 n] w fun e w' => e = .returned (.bool true) ∧ Ext w w' := by
  have hq3 : (q : Int) ≤ 3 := by omega
  have h1 : 0 < nn := by omega
  have h1i : 0 < (nn : Int) := by omega
  have hq0 : ((nn : Int) == 0) = false := beq_eq_false_iff_ne.2 (by omega)
  have hi1 : ((nn : Int) - 1).toNat = nn - 1 := by omega
  have qf : (fi != (nn : Int) - 1) = false := by simpa using hf
  clear hf
  go_enter Try.func9, Try.ntmps9
  go_wp2_with (first
    | ((go_at_call 19; (with_reducible refine (FW.out _).mono ?_); rintro e _ ⟨rfl, d0, os0, rfl⟩))
    | ((go_at_call 20; (with_reducible refine (S1.out _).mono ?_); rintro e _ ⟨nv1, he, hrow, d1, os1, rfl⟩; obtain ⟨p1, c1, rfl⟩ := row_formO hrow; subst he; have HR1 := Lib.hid (hrow.mono (Nat.zero_le _)); clear hrow; rw [HN.out] at HR1 ⊢; rw [more_more] at HR1)))
  go_loopw [8, 9, 10] (fun x y z wr => ∃ k : Nat, z = .int .i64 (k : Int) ∧ k ≤ q ∧ x = .string ⟨Array.replicate k 40⟩ ∧ y = .string ⟨Array.replicate k 41⟩ ∧ wr = ((more w d1 (os0 ++ os1)).alloc (.cells #[.slice p1 nn c1, .int .i64 fi] 24 (0, 0)))) (fun _ _ z _ => q - (intOf z).toNat)
  case atStart => exact ⟨0, rfl, Nat.zero_le _, rfl, rfl, rfl⟩
  case round =>
    obtain ⟨k, rfl, hkq, rfl, rfl, rfl⟩ := hrel
    have hz1 : (⟨Array.replicate k 40⟩ : ByteArray).size = k := by simp [ByteArray.size]
    have hz2 : (⟨Array.replicate k 41⟩ : ByteArray).size = k := by simp [ByteArray.size]
    by_cases hlt : k < q
    · have hlt2 : (k : Int) < n % 4 := by omega
      have HLT := Lib.hid hlt
      clear hlt
      go_wp2_with fail
      go_roundw
      case rel => exact ⟨k + 1, by go_num, by have := HLT.out; omega, congrArg Value.string (snocB k 40), congrArg Value.string (snocB k 41), by first | rfl | trivial⟩
      case measure => have := HLT.out; simp [intOf]; omega
    · have hke : k = q := by omega
      subst hke
      have hge : n % 4 ≤ (k : Int) := by omega
      clear hlt
      have hp : ∃ g, p1 = some ⟨g, 0, none⟩ := by
        rcases Go.Joins.ownsRow_forms HR1.out with ⟨_, h0⟩ | ⟨g1, c1, h0⟩
        · omega
        · simp at h0; exact ⟨g1, h0.1⟩
      obtain ⟨g, rfl⟩ := hp
      have hg := (HR1.out.lt g rfl).2
      have k0 := (nd_at HR1.out HZ.out).1
      have hg2 : g < w.heap.size + (os0.size + os1.size) := by simpa [more_size] using hg
      have HR3 := Lib.hid (show World.ownsRow _ 0 52 8 (.slice (some ⟨g, 0, none⟩) nn c1) nn (ndCells ns) from HR1.out)
      rw [hk] at k0
      go_wp2_with (first
        | ((go_at_call 20; (with_reducible refine (S2.out _).mono ?_); rintro e _ ⟨nv2, he, hrow, d2, os2, rfl⟩; obtain ⟨p2, c2, rfl⟩ := row_formO hrow; subst he; have HR2 := Lib.hid (hrow.mono (Nat.zero_le _)); rw [HN.out] at HR2 ⊢; clear hrow))
        | ((go_at_call 18; (with_reducible refine (sameN HN.out (by repeat (first | (with_reducible exact HR1.out) | (with_reducible apply own_more) | (with_reducible refine World.ownsRow.alloc ?_ _))) (by repeat (first | (with_reducible exact HR2.out) | (with_reducible apply own_more) | (with_reducible refine World.ownsRow.alloc ?_ _))) HNL.out).mono ?_); rintro e _ ⟨rfl, d3, os3, rfl⟩))
        | ((go_at_call 15; (with_reducible refine (awake_any _).mono ?_); rintro e _ ⟨rfl, d4, os4, rfl⟩)))
      go_ret
      exact ⟨rfl, by repeat (first | exact Ext.refl _ | apply Ext.alloc | apply Ext.more)⟩

theorem ba_list (a b : ByteArray) : (a ++ b).data.toList = a.data.toList ++ b.data.toList := by simp
set_option maxHeartbeats 4000000 in
theorem ppar_walk (w : World) (s : ByteArray) (n : Int) (hn : 0 ≤ n ∧ n ≤ 255) : Calls Try.prog 9 #[.string s, .int .u8 n] w fun e w' => e = .returned (.bool true) ∧ Ext w w' := by
  obtain ⟨b, hb⟩ : ∃ b, fewB s = b := ⟨_, rfl⟩
  have hbs : (b.size : Int) ≤ 2000 := by have := fewB_len s; rw [hb] at this; omega
  have FW := Lib.hid (fun w => few_any s w)
  rw [hb] at FW
  obtain ⟨q, hq⟩ : ∃ q : Nat, n % 4 = (q : Int) := ⟨(n % 4).toNat, by omega⟩
  obtain ⟨X1, hX1⟩ : ∃ X1 : ByteArray, X1 = ((⟨#[114, 101, 116, 117, 114, 110, 32]⟩ : ByteArray) ++ b ++ ⟨#[59]⟩) := ⟨_, rfl⟩
  obtain ⟨X2, hX2⟩ : ∃ X2 : ByteArray, X2 = ((⟨#[114, 101, 116, 117, 114, 110, 32]⟩ : ByteArray) ++ ⟨Array.replicate q 40⟩ ++ b ++ ⟨Array.replicate q 41⟩ ++ ⟨#[59]⟩) := ⟨_, rfl⟩
  obtain ⟨r1, h1⟩ : ∃ r1, sourceF X1.data.toList = r1 := ⟨_, rfl⟩
  obtain ⟨r2, h2⟩ : ∃ r2, sourceF X2.data.toList = r2 := ⟨_, rfl⟩
  have S1 := Lib.hid (source_any X1 _ h1)
  have S2 := Lib.hid (source_any X2 _ h2)
  rw [hX1] at S1 h1
  rw [hX2] at S2 h2
  clear hX1 hX2
  rcases r1 with ⟨ec, ea⟩ | ⟨ns, fi⟩
  · exact ppar_e1 s b FW hbs n hn.1 hn.2 q hq ec ea (err_ne _ _ _ h1) r2 S1 S2 w
  rcases r2 with ⟨ec, ea⟩ | ⟨ms, gi⟩
  · exact ppar_e2 s b FW hbs n hn.1 hn.2 q hq ec ea (err_ne _ _ _ h2) ns fi _ (Lib.hid rfl) S1 S2 w
  have few1 : ∀ {x : List UInt8} {ns : List Nd} {fi : Int}, sourceF x = .ok (ns, fi) → ns.length ≤ 512 := by
    intro x ns fi h
    unfold sourceF at h
    split at h
    · exact (order_law _ ns fi h).2.2.2.2.2
    · cases h
  have hl1 := few1 h1
  rcases Nat.eq_zero_or_pos ns.length with h0 | h0
  · exact ppar_nil s b FW hbs n hn.1 hn.2 q hq fi ns ms gi _ (Lib.hid rfl) h0 S1 S2 w
  obtain ⟨z, hz⟩ : ∃ z, ns[ns.length - 1]? = some z := ⟨_, List.getElem?_eq_getElem (by omega)⟩
  by_cases hk : z.k = 28
  rotate_left
  · exact ppar_kind s b FW hbs n hn.1 hn.2 q hq ns fi _ (Lib.hid rfl) h0 (by omega) z (Lib.hid hz) hk ms gi S1 S2 w
  by_cases hf : fi = (ns.length : Int) - 1
  rotate_left
  · exact ppar_first s b FW hbs n hn.1 hn.2 q hq ns fi _ (Lib.hid rfl) h0 (by omega) z (Lib.hid hz) hk hf ms gi S1 S2 w
  have hs : ms = ns ∧ gi = fi := by
    rcases Nat.eq_zero_or_pos q with hq0 | hq0
    · subst hq0
      have e : ((⟨#[114, 101, 116, 117, 114, 110, 32]⟩ : ByteArray) ++ ⟨Array.replicate 0 40⟩ ++ b ++ ⟨Array.replicate 0 41⟩ ++ ⟨#[59]⟩) = ((⟨#[114, 101, 116, 117, 114, 110, 32]⟩ : ByteArray) ++ b ++ ⟨#[59]⟩) := by apply ByteArray.ext; simp
      rw [e, h1] at h2
      simp only [Except.ok.injEq, Prod.mk.injEq] at h2
      exact ⟨h2.1.symm, h2.2.symm⟩
    · simp only [ba_list, List.append_assoc, Array.toList_replicate] at h1 h2
      exact parens_law b.data.toList q hq0 (by omega) ns ms fi gi h1 h2 (by omega)
  obtain ⟨rfl, rfl⟩ := hs
  exact ppar_same s b FW hbs n hn.1 hn.2 q hq ms gi _ (Lib.hid rfl) h0 (by omega) z (Lib.hid hz) hk hf (Lib.hid hl1) S1 S2 w

namespace ParseParensRow

/-! ### The row -/
section
open Go.ChangeShapes Go.WideShapes Go.ChangeAt Go.RowKit Go.Joins
open Go.ChangeMaps (open_string shut_string)
theorem own : ownKnob Try.prog.godebug = none := by kernel_rfl
theorem laid : laidOutB Try.prog = true := by kernel_rfl

set_option maxRecDepth 100000 in
theorem lifted (os : Os) (started : os.Started) (H : Type) (enc : TypeId × Value → H) :
    ReturnsInHanded {} Try.checked os 9 .any (Rows.parseParensSpec.pre6 enc Try.prog Try.f9 Rows.parseParensRow.domain false) (Rows.parseParensSpec.post enc Try.prog Try.f9 false true false false) := by
  refine returnsInHanded_of_change_sized (C := Try.checked) own started (by kernel_rfl) Try.func9
    (ChangeSpec.witness6 (enc := enc) (C := Try.checked) false ⟨#[], #[.string ⟨#[]⟩, .int .u8 0], []⟩ 8 (by kernel_rfl) (by kernel_rfl) (by kernel_rfl) (by kernel_rfl)) ?_
  intro W base args ds gs before hval0 hW hcnd hsz0 _
  have hval : ∀ (j : Nat) t v, Try.f9.params[j]? = some t → args[j]? = some v → Value.okWide Try.prog W .any base t v := hval0
  have hW' := hW
  obtain ⟨p, q, hA0, hV, rfl, hfz, hnd⟩ := hW
  have hA : DataW.TrodAll enc Try.prog W 0 (fun _ => true) true Try.f9.params.toList args.toList ds p := hA0
  have hAk := hA
  have hpr : Try.f9.params.toList.all (fun t => Try.prog.readableRec t && decide (t < Try.prog.types.size)) = true := by kernel_rfl
  have hlt := hA.lt
  obtain ⟨rfl, rfl⟩ := trodVars_none hV
  have hsz : (DataW.weightsEach Try.prog (Try.f9.params.toList ++ []) (ds ++ [])).all (· ≤ reachBytes) = true := hsz0
  rw [Try.params9] at hA hval hsz
  simp only [List.append_nil] at hsz
  obtain ⟨v0, vs0, d0, ds0, p0, q0, hargs, rfl, rfl, h0, r0⟩ := trodAll_cons hA
  obtain ⟨v1, vs1, d1, ds1, p1, q1, rfl, rfl, rfl, h1, r1⟩ := trodAll_cons r0
  obtain ⟨rfl, rfl, rfl⟩ := trodAll_nil r1
  obtain rfl : args = #[v0, v1] := by cases args; simp_all
  obtain ⟨s, rfl, rfl, rfl, ws⟩ := open_string Try.underlying9 (hval 0 9 v0 rfl rfl) h0
  have ss : s.size ≤ 140737488351232 := by
    have h := sized_string hsz (j := 0) rfl rfl
    have e : reachBytes = 140737488351232 := by decide
    rw [e] at h
    simpa using h
  obtain ⟨n, rfl, rfl, rfl, wn⟩ := open_int Try.underlying5 (hval 1 5 v1 rfl rfl) h1
  clear hA0 hval0 hsz0
  refine (ppar_walk W s n (by simpa [IntKind.min, IntKind.max, IntKind.bits, IntKind.signed, Lit.wf] using wn)).mono fun e W' ⟨he, hx⟩ => ?_
  subst he
  exact ⟨_, rfl, _, _, _, [], _, [], hW', trodAll_mk1 (shut_bool Try.underlying4 _), trodAll_below laid hx.below hpr hAk hlt, rfl, hx.below.frame _, fun h => by cases h⟩

theorem proved : Rows.ParseParensSaid :=
  OpenClaim.holds_of_wide 9 Try.f9 rfl rfl rfl rfl rfl rfl rfl ⟨rfl, rfl, rfl, rfl, rfl⟩ rfl rfl rfl rfl rfl (by kernel_rfl) Try.func9 (by kernel_rfl)
    (of_decide_eq_true (by kernel_rfl)) (by unfold Func.isWrapper; first | (rw [if_pos (by decide +kernel)]; kernel_rfl) | (rw [if_neg (by decide +kernel)]; exact ⟨rfl, rfl⟩))
    (fun os started H enc _ => lifted os started H enc)
end
#print axioms proved
end ParseParensRow
end Go.Proofs.Ytoaaklcbcbjaiaa
