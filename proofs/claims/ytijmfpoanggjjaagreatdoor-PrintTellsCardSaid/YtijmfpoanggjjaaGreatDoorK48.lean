/- Lemmas for the claim (texts Rt1, what its proof uses of them). -/
import Derived.Test.YtijmfpoanggjjaaGreatDoorK17
import Derived.Test.YtijmfpoanggjjaaGreatDoorK34
import Derived.IntWalk
set_option linter.unusedSimpArgs false
set_option linter.unusedVariables false
namespace Go.Proofs.YtijmfpoanggjjaaGreatDoor
open Go.RowKit
attribute [go_sem] more_more Array.size_append
theorem qdp (x y : ByteArray) : (x ++ y).data.toList = x.data.toList ++ y.data.toList := by simp
theorem ba_eq {x : ByteArray} {l : List UInt8} (h : x.data.toList = l) : x = ⟨l.toArray⟩ := by rw [← h]
theorem ret_str {x : ByteArray} {l : List UInt8} (h : x.data.toList = l) : Ending.returned (.string x) = .returned (.string ⟨l.toArray⟩) := by rw [ba_eq h]
/-- what the document says of an expr, in each world that has only grown -/
def RExC (w : World) (nv : Value) (fi : Int) (i : Int) (t : List UInt8) : Prop := ∀ W, Ext w W → Calls Tryz.prog 12 #[.agg #[nv, .int .i64 fi], .int .i64 i] W fun e w' => e = .returned (.string ⟨t.toArray⟩) ∧ Ext W w'
set_option maxHeartbeats 4000000 in
set_option maxRecDepth 20000 in
theorem qce {ns : List Nd} {nv : Value} {fi : Int} {w : World} (hr : w.ownsRow 0 34 8 nv ns.length (qac ns)) {j : Nat} {E : Int → List UInt8} {z : Nd} (hz : ns[j]? = some z) (least : Int) (X : RExC w nv fi (j : Int) (E (j : Int))) (hE : (E (j : Int)).length ≤ 100000000) {W : World} (hx : Ext w W) :
  Calls Tryz.prog 29 #[.agg #[nv, .int .i64 fi], .int .i64 (j : Int), .int .i64 least] W fun e w' => e = .returned (.string ⟨(qaN E ns (j : Int) least).toArray⟩) ∧ Ext W w' := by
 have hcl := closeN_at hz
 have hjn := (List.getElem?_eq_some_iff.1 hz).1
 have hr := own_ext hr hx
 obtain ⟨zk, za, zb, zc, zx, zi, zs, zt⟩ := z
 obtain ⟨G, cp, rfl, hG, -⟩ := qai hr hjn
 obtain ⟨a0, a1, a2, a3, a4, a5, a6, a7⟩ := nd_at hr hz
 dsimp only at a0 a1 a2 a3 a4 a5 a6 a7 hcl
 have hj1 : (j : Int) < (ns.length : Int) := by omega
 have hj0 : 0 ≤ (j : Int) := by omega
 have X1 := Lib.hid (fun W' (h : Ext W W') => X W' (hx.trans h))
 have C := Lib.hid (fun W => qbL zk za zb zc zx zi zs zt W)
 obtain ⟨c, hc⟩ : ∃ c, qar zk zs = c := ⟨_, rfl⟩
 rw [hc] at C hcl
 have HB := Lib.hid (show qaN E ns (j : Int) least = if least ≤ c then E (j : Int) else [40] ++ (E (j : Int) ++ [41]) by unfold qaN; rw [hcl])
 obtain ⟨t, ht⟩ : ∃ t, E (j : Int) = t := ⟨_, rfl⟩
 rw [ht] at HB X1 hE
 rw [HB.out]
 have hc1 : (9223372036854775807 < 1 + t.length) = False := by simp; omega
 have hc2 : (9223372036854775807 < 1 + t.length + 1) = False := by simp; omega
 clear hr hz hjn X hE hc hcl ht hx
 by_cases hle : least ≤ c
 · have hle2 : (c < least) = False := by simp; omega
   rw [if_pos hle]
   clear hle
   go_enter Tryz.func29, Tryz.ntmps29
   go_wp2_with (first
    | ((go_at_call 15; (with_reducible refine (C.out _).mono ?_); rintro e' _ ⟨rfl, d1, os1, rfl⟩))
    | ((go_at_call 12; (with_reducible refine (X1.out _ zaa).mono ?_); rintro e' _ ⟨rfl, d2, os2, rfl⟩)))
   go_ret
   exact ⟨rfl, zaa⟩
 · have hle2 : c < least := by omega
   rw [if_neg hle]
   clear hle
   go_enter Tryz.func29, Tryz.ntmps29
   go_wp2_with (first
    | ((go_at_call 15; (with_reducible refine (C.out _).mono ?_); rintro e' _ ⟨rfl, d1, os1, rfl⟩))
    | ((go_at_call 12; (with_reducible refine (X1.out _ zaa).mono ?_); rintro e' _ ⟨rfl, d2, os2, rfl⟩)))
   go_ret
   exact ⟨ret_str zco, zaa⟩
set_option maxHeartbeats 4000000 in
set_option maxRecDepth 20000 in
theorem rex0 {ns : List Nd} {nv : Value} {fi : Int} {w : World} (hr : w.ownsRow 0 34 8 nv ns.length (qac ns)) {j : Nat} {za zb zc zx zi : Int} {zs zt : ByteArray} (hz : ns[j]? = some ⟨0, za, zb, zc, zx, zi, zs, zt⟩) {W : World} (hx : Ext w W) :
  Calls Tryz.prog 12 #[.agg #[nv, .int .i64 fi], .int .i64 (j : Int)] W fun e w' => e = .returned (.string ⟨([110, 105, 108]).toArray⟩) ∧ Ext W w' := by
 have hjn := (List.getElem?_eq_some_iff.1 hz).1
 have hr1 := own_ext hr hx
 have HR := Lib.hid hr
 obtain ⟨G, cp, rfl, hG, -⟩ := qai hr1 hjn
 obtain ⟨a0, a1, a2, a3, a4, a5, a6, a7⟩ := nd_at hr1 hz
 dsimp only at a0 a1 a2 a3 a4 a5 a6 a7
 have hj1 : (j : Int) < (ns.length : Int) := by omega
 have hj0 : 0 ≤ (j : Int) := by omega
 clear hr hr1 hz hjn hx
 go_enter Tryz.func12, Tryz.ntmps12
 go_wp2_with fail
 go_ret
 exact ⟨rfl, zaa⟩
set_option maxHeartbeats 4000000 in
set_option maxRecDepth 20000 in
theorem rex1 {ns : List Nd} {nv : Value} {fi : Int} {w : World} (hr : w.ownsRow 0 34 8 nv ns.length (qac ns)) {j : Nat} {za zb zc zx zi : Int} {zs zt : ByteArray} (hz : ns[j]? = some ⟨1, za, zb, zc, zx, zi, zs, zt⟩) {W : World} (hx : Ext w W) :
  Calls Tryz.prog 12 #[.agg #[nv, .int .i64 fi], .int .i64 (j : Int)] W fun e w' => e = .returned (.string ⟨(boolL zi).toArray⟩) ∧ Ext W w' := by
 have hjn := (List.getElem?_eq_some_iff.1 hz).1
 have hr1 := own_ext hr hx
 have HR := Lib.hid hr
 obtain ⟨G, cp, rfl, hG, -⟩ := qai hr1 hjn
 obtain ⟨a0, a1, a2, a3, a4, a5, a6, a7⟩ := nd_at hr1 hz
 dsimp only at a0 a1 a2 a3 a4 a5 a6 a7
 have hj1 : (j : Int) < (ns.length : Int) := by omega
 have hj0 : 0 ≤ (j : Int) := by omega
 by_cases hi : zi = 1
 · subst hi
   clear hr hr1 hz hjn hx
   rw [show boolL 1 = [116, 114, 117, 101] from rfl]
   go_enter Tryz.func12, Tryz.ntmps12
   go_wp2_with fail
   go_ret
   exact ⟨rfl, zaa⟩
 have hi2 : (zi == 1) = false := by simpa using hi
 rw [show boolL zi = [102, 97, 108, 115, 101] by unfold boolL; rw [if_neg hi]]
 clear hi
 clear hr hr1 hz hjn hx
 go_enter Tryz.func12, Tryz.ntmps12
 go_wp2_with fail
 go_ret
 exact ⟨rfl, zaa⟩
set_option maxHeartbeats 4000000 in
set_option maxRecDepth 20000 in
theorem rex2 {ns : List Nd} {nv : Value} {fi : Int} {w : World} (hr : w.ownsRow 0 34 8 nv ns.length (qac ns)) {j : Nat} {za zb zc zx zi : Int} {zs zt : ByteArray} (hz : ns[j]? = some ⟨2, za, zb, zc, zx, zi, zs, zt⟩) (h64 : In64 zi) {W : World} (hx : Ext w W) :
  Calls Tryz.prog 12 #[.agg #[nv, .int .i64 fi], .int .i64 (j : Int)] W fun e w' => e = .returned (.string ⟨(Lib.itoa zi).toArray⟩) ∧ Ext W w' := by
 have hjn := (List.getElem?_eq_some_iff.1 hz).1
 have hr1 := own_ext hr hx
 have HR := Lib.hid hr
 obtain ⟨G, cp, rfl, hG, -⟩ := qai hr1 hjn
 obtain ⟨a0, a1, a2, a3, a4, a5, a6, a7⟩ := nd_at hr1 hz
 dsimp only at a0 a1 a2 a3 a4 a5 a6 a7
 have hj1 : (j : Int) < (ns.length : Int) := by omega
 have hj0 : 0 ≤ (j : Int) := by omega
 have D := Lib.hid (fun W => qeb zi h64 W)
 clear h64
 clear hr hr1 hz hjn hx
 go_enter Tryz.func12, Tryz.ntmps12
 go_wp2_with ((go_at_call 27; (with_reducible refine (D.out _).mono ?_); rintro e' _ ⟨rfl, d1, os1, rfl⟩))
 go_ret
 exact ⟨rfl, zaa⟩
set_option maxHeartbeats 4000000 in
set_option maxRecDepth 20000 in
theorem rex3 {ns : List Nd} {nv : Value} {fi : Int} {w : World} (hr : w.ownsRow 0 34 8 nv ns.length (qac ns)) {j : Nat} {za zb zc zx zi : Int} {zs zt : ByteArray} (hz : ns[j]? = some ⟨3, za, zb, zc, zx, zi, zs, zt⟩) {W : World} (hx : Ext w W) :
  Calls Tryz.prog 12 #[.agg #[nv, .int .i64 fi], .int .i64 (j : Int)] W fun e w' => e = .returned (.string ⟨((qbA zs.data.toList).1).toArray⟩) ∧ Ext W w' := by
 have hjn := (List.getElem?_eq_some_iff.1 hz).1
 have hr1 := own_ext hr hx
 have HR := Lib.hid hr
 obtain ⟨G, cp, rfl, hG, -⟩ := qai hr1 hjn
 obtain ⟨a0, a1, a2, a3, a4, a5, a6, a7⟩ := nd_at hr1 hz
 dsimp only at a0 a1 a2 a3 a4 a5 a6 a7
 have hj1 : (j : Int) < (ns.length : Int) := by omega
 have hj0 : 0 ≤ (j : Int) := by omega
 obtain ⟨q, er, hq⟩ : ∃ q er, qbA zs.data.toList = (q, er) := ⟨_, _, rfl⟩
 have Q := Lib.hid (fun W => qdV zs q er hq W)
 rw [hq]
 clear hq
 clear hr hr1 hz hjn hx
 go_enter Tryz.func12, Tryz.ntmps12
 go_wp2_with ((go_at_call 28; (with_reducible refine (Q.out _).mono ?_); rintro e' _ ⟨rfl, rfl⟩))
 go_ret
 exact ⟨rfl, zaa⟩
set_option maxHeartbeats 4000000 in
set_option maxRecDepth 20000 in
theorem rex4 {ns : List Nd} {nv : Value} {fi : Int} {w : World} (hr : w.ownsRow 0 34 8 nv ns.length (qac ns)) {j : Nat} {za zb zc zx zi : Int} {zs zt : ByteArray} (hz : ns[j]? = some ⟨4, za, zb, zc, zx, zi, zs, zt⟩) {W : World} (hx : Ext w W) :
  Calls Tryz.prog 12 #[.agg #[nv, .int .i64 fi], .int .i64 (j : Int)] W fun e w' => e = .returned (.string ⟨(zs.data.toList).toArray⟩) ∧ Ext W w' := by
 have hjn := (List.getElem?_eq_some_iff.1 hz).1
 have hr1 := own_ext hr hx
 have HR := Lib.hid hr
 obtain ⟨G, cp, rfl, hG, -⟩ := qai hr1 hjn
 obtain ⟨a0, a1, a2, a3, a4, a5, a6, a7⟩ := nd_at hr1 hz
 dsimp only at a0 a1 a2 a3 a4 a5 a6 a7
 have hj1 : (j : Int) < (ns.length : Int) := by omega
 have hj0 : 0 ≤ (j : Int) := by omega
 clear hr hr1 hz hjn hx
 go_enter Tryz.func12, Tryz.ntmps12
 go_wp2_with fail
 go_ret
 exact ⟨rfl, zaa⟩
set_option maxHeartbeats 4000000 in
set_option maxRecDepth 20000 in
theorem rex5 {ns : List Nd} {nv : Value} {fi : Int} {w : World} (hr : w.ownsRow 0 34 8 nv ns.length (qac ns)) {j : Nat} {zb zc zx zi : Int} {zs zt : ByteArray} {ja : Nat} {E : Int → List UInt8} (hz : ns[j]? = some ⟨5, (ja : Int), zb, zc, zx, zi, zs, zt⟩) (X : RExC w nv fi (ja : Int) (E (ja : Int))) (hE : (E (ja : Int)).length ≤ 100000000) {W : World} (hx : Ext w W) :
  Calls Tryz.prog 12 #[.agg #[nv, .int .i64 fi], .int .i64 (j : Int)] W fun e w' => e = .returned (.string ⟨([103, 101, 116] ++ ([40] ++ (E (ja : Int) ++ [41]))).toArray⟩) ∧ Ext W w' := by
 have hjn := (List.getElem?_eq_some_iff.1 hz).1
 have hr1 := own_ext hr hx
 have HR := Lib.hid hr
 obtain ⟨G, cp, rfl, hG, -⟩ := qai hr1 hjn
 obtain ⟨a0, a1, a2, a3, a4, a5, a6, a7⟩ := nd_at hr1 hz
 dsimp only at a0 a1 a2 a3 a4 a5 a6 a7
 have hj1 : (j : Int) < (ns.length : Int) := by omega
 have hj0 : 0 ≤ (j : Int) := by omega
 have X1 := Lib.hid (fun W' (h : Ext W W') => X W' (hx.trans h))
 obtain ⟨t, ht⟩ : ∃ t, E (ja : Int) = t := ⟨_, rfl⟩
 rw [ht] at X1 hE ⊢
 have hc1 : (9223372036854775807 < 4 + t.length) = False := by simp; omega
 have hc2 : (9223372036854775807 < 4 + t.length + 1) = False := by simp; omega
 clear X hE ht
 clear hr hr1 hz hjn hx
 go_enter Tryz.func12, Tryz.ntmps12
 go_wp2_with ((go_at_call 12; (with_reducible refine (X1.out _ zaa).mono ?_); rintro e' _ ⟨rfl, d1, os1, rfl⟩))
 go_ret
 exact ⟨ret_str zco, zaa⟩
set_option maxHeartbeats 4000000 in
set_option maxRecDepth 20000 in
theorem rex6 {ns : List Nd} {nv : Value} {fi : Int} {w : World} (hr : w.ownsRow 0 34 8 nv ns.length (qac ns)) {j : Nat} {zb zc zx zi : Int} {zs zt : ByteArray} {ja : Nat} {E : Int → List UInt8} (hz : ns[j]? = some ⟨6, (ja : Int), zb, zc, zx, zi, zs, zt⟩) (X : RExC w nv fi (ja : Int) (E (ja : Int))) (hE : (E (ja : Int)).length ≤ 100000000) {W : World} (hx : Ext w W) :
  Calls Tryz.prog 12 #[.agg #[nv, .int .i64 fi], .int .i64 (j : Int)] W fun e w' => e = .returned (.string ⟨([104, 97, 115] ++ ([40] ++ (E (ja : Int) ++ [41]))).toArray⟩) ∧ Ext W w' := by
 have hjn := (List.getElem?_eq_some_iff.1 hz).1
 have hr1 := own_ext hr hx
 have HR := Lib.hid hr
 obtain ⟨G, cp, rfl, hG, -⟩ := qai hr1 hjn
 obtain ⟨a0, a1, a2, a3, a4, a5, a6, a7⟩ := nd_at hr1 hz
 dsimp only at a0 a1 a2 a3 a4 a5 a6 a7
 have hj1 : (j : Int) < (ns.length : Int) := by omega
 have hj0 : 0 ≤ (j : Int) := by omega
 have X1 := Lib.hid (fun W' (h : Ext W W') => X W' (hx.trans h))
 obtain ⟨t, ht⟩ : ∃ t, E (ja : Int) = t := ⟨_, rfl⟩
 rw [ht] at X1 hE ⊢
 have hc1 : (9223372036854775807 < 4 + t.length) = False := by simp; omega
 have hc2 : (9223372036854775807 < 4 + t.length + 1) = False := by simp; omega
 clear X hE ht
 clear hr hr1 hz hjn hx
 go_enter Tryz.func12, Tryz.ntmps12
 go_wp2_with ((go_at_call 12; (with_reducible refine (X1.out _ zaa).mono ?_); rintro e' _ ⟨rfl, d1, os1, rfl⟩))
 go_ret
 exact ⟨ret_str zco, zaa⟩
set_option maxHeartbeats 4000000 in
set_option maxRecDepth 20000 in
theorem rex7 {ns : List Nd} {nv : Value} {fi : Int} {w : World} (hr : w.ownsRow 0 34 8 nv ns.length (qac ns)) {j : Nat} {zb zc zx zi : Int} {zs zt : ByteArray} {ja : Nat} {E : Int → List UInt8} (hz : ns[j]? = some ⟨7, (ja : Int), zb, zc, zx, zi, zs, zt⟩) (X : RExC w nv fi (ja : Int) (E (ja : Int))) (hE : (E (ja : Int)).length ≤ 100000000) {W : World} (hx : Ext w W) :
  Calls Tryz.prog 12 #[.agg #[nv, .int .i64 fi], .int .i64 (j : Int)] W fun e w' => e = .returned (.string ⟨([108, 101, 110] ++ ([40] ++ (E (ja : Int) ++ [41]))).toArray⟩) ∧ Ext W w' := by
 have hjn := (List.getElem?_eq_some_iff.1 hz).1
 have hr1 := own_ext hr hx
 have HR := Lib.hid hr
 obtain ⟨G, cp, rfl, hG, -⟩ := qai hr1 hjn
 obtain ⟨a0, a1, a2, a3, a4, a5, a6, a7⟩ := nd_at hr1 hz
 dsimp only at a0 a1 a2 a3 a4 a5 a6 a7
 have hj1 : (j : Int) < (ns.length : Int) := by omega
 have hj0 : 0 ≤ (j : Int) := by omega
 have X1 := Lib.hid (fun W' (h : Ext W W') => X W' (hx.trans h))
 obtain ⟨t, ht⟩ : ∃ t, E (ja : Int) = t := ⟨_, rfl⟩
 rw [ht] at X1 hE ⊢
 have hc1 : (9223372036854775807 < 4 + t.length) = False := by simp; omega
 have hc2 : (9223372036854775807 < 4 + t.length + 1) = False := by simp; omega
 clear X hE ht
 clear hr hr1 hz hjn hx
 go_enter Tryz.func12, Tryz.ntmps12
 go_wp2_with ((go_at_call 12; (with_reducible refine (X1.out _ zaa).mono ?_); rintro e' _ ⟨rfl, d1, os1, rfl⟩))
 go_ret
 exact ⟨ret_str zco, zaa⟩
set_option maxHeartbeats 4000000 in
set_option maxRecDepth 20000 in
theorem rex8 {ns : List Nd} {nv : Value} {fi : Int} {w : World} (hr : w.ownsRow 0 34 8 nv ns.length (qac ns)) {j : Nat} {zb zc zx zi : Int} {zs zt : ByteArray} {ja : Nat} {E : Int → List UInt8} (hz : ns[j]? = some ⟨8, (ja : Int), zb, zc, zx, zi, zs, zt⟩) (X : RExC w nv fi (ja : Int) (E (ja : Int))) (hE : (E (ja : Int)).length ≤ 100000000) {W : World} (hx : Ext w W) :
  Calls Tryz.prog 12 #[.agg #[nv, .int .i64 fi], .int .i64 (j : Int)] W fun e w' => e = .returned (.string ⟨([115, 104, 111, 119] ++ ([40] ++ (E (ja : Int) ++ [41]))).toArray⟩) ∧ Ext W w' := by
 have hjn := (List.getElem?_eq_some_iff.1 hz).1
 have hr1 := own_ext hr hx
 have HR := Lib.hid hr
 obtain ⟨G, cp, rfl, hG, -⟩ := qai hr1 hjn
 obtain ⟨a0, a1, a2, a3, a4, a5, a6, a7⟩ := nd_at hr1 hz
 dsimp only at a0 a1 a2 a3 a4 a5 a6 a7
 have hj1 : (j : Int) < (ns.length : Int) := by omega
 have hj0 : 0 ≤ (j : Int) := by omega
 have X1 := Lib.hid (fun W' (h : Ext W W') => X W' (hx.trans h))
 obtain ⟨t, ht⟩ : ∃ t, E (ja : Int) = t := ⟨_, rfl⟩
 rw [ht] at X1 hE ⊢
 have hc1 : (9223372036854775807 < 5 + t.length) = False := by simp; omega
 have hc2 : (9223372036854775807 < 5 + t.length + 1) = False := by simp; omega
 clear X hE ht
 clear hr hr1 hz hjn hx
 go_enter Tryz.func12, Tryz.ntmps12
 go_wp2_with ((go_at_call 12; (with_reducible refine (X1.out _ zaa).mono ?_); rintro e' _ ⟨rfl, d1, os1, rfl⟩))
 go_ret
 exact ⟨ret_str zco, zaa⟩
set_option maxHeartbeats 4000000 in
set_option maxRecDepth 20000 in
theorem rex9 {ns : List Nd} {nv : Value} {fi : Int} {w : World} (hr : w.ownsRow 0 34 8 nv ns.length (qac ns)) {j : Nat} {zb zc zx zi : Int} {zs zt : ByteArray} {ja : Nat} {E : Int → List UInt8} {zA : Nd} (hz : ns[j]? = some ⟨9, (ja : Int), zb, zc, zx, zi, zs, zt⟩) (hza : ns[ja]? = some zA) (X : RExC w nv fi (ja : Int) (E (ja : Int))) (hE : (E (ja : Int)).length ≤ 100000000) {W : World} (hx : Ext w W) :
  Calls Tryz.prog 12 #[.agg #[nv, .int .i64 fi], .int .i64 (j : Int)] W fun e w' => e = .returned (.string ⟨([110, 111, 116, 32] ++ qaN E ns (ja : Int) 6).toArray⟩) ∧ Ext W w' := by
 have hjn := (List.getElem?_eq_some_iff.1 hz).1
 have hr1 := own_ext hr hx
 have HR := Lib.hid hr
 obtain ⟨G, cp, rfl, hG, -⟩ := qai hr1 hjn
 obtain ⟨a0, a1, a2, a3, a4, a5, a6, a7⟩ := nd_at hr1 hz
 dsimp only at a0 a1 a2 a3 a4 a5 a6 a7
 have hj1 : (j : Int) < (ns.length : Int) := by omega
 have hj0 : 0 ≤ (j : Int) := by omega
 have X1 := Lib.hid (fun W' (h : Ext W W') => qce HR.out hza 6 X hE (hx.trans h))
 have hl := qaS (ns := ns) (least := 6) hE
 obtain ⟨t, ht⟩ : ∃ t, qaN E ns (ja : Int) 6 = t := ⟨_, rfl⟩
 rw [ht] at X1 hl ⊢
 have hc1 : (9223372036854775807 < 4 + t.length) = False := by simp; omega
 clear hza X hE hl ht
 clear hr hr1 hz hjn hx
 go_enter Tryz.func12, Tryz.ntmps12
 go_wp2_with ((go_at_call 29; (with_reducible refine (X1.out _ zaa).mono ?_); rintro e' _ ⟨rfl, d1, os1, rfl⟩))
 go_ret
 exact ⟨ret_str zco, zaa⟩
set_option maxHeartbeats 4000000 in
set_option maxRecDepth 20000 in
theorem rex10 {ns : List Nd} {nv : Value} {fi : Int} {w : World} (hr : w.ownsRow 0 34 8 nv ns.length (qac ns)) {j : Nat} {zb zc zx zi : Int} {zs zt : ByteArray} {ja : Nat} {E : Int → List UInt8} {zA : Nd} (hz : ns[j]? = some ⟨10, (ja : Int), zb, zc, zx, zi, zs, zt⟩) (hza : ns[ja]? = some zA) (X : RExC w nv fi (ja : Int) (E (ja : Int))) (hE : (E (ja : Int)).length ≤ 100000000) {W : World} (hx : Ext w W) :
  Calls Tryz.prog 12 #[.agg #[nv, .int .i64 fi], .int .i64 (j : Int)] W fun e w' => e = .returned (.string ⟨([45] ++ qaN E ns (ja : Int) 6).toArray⟩) ∧ Ext W w' := by
 have hjn := (List.getElem?_eq_some_iff.1 hz).1
 have hr1 := own_ext hr hx
 have HR := Lib.hid hr
 obtain ⟨G, cp, rfl, hG, -⟩ := qai hr1 hjn
 obtain ⟨a0, a1, a2, a3, a4, a5, a6, a7⟩ := nd_at hr1 hz
 dsimp only at a0 a1 a2 a3 a4 a5 a6 a7
 have hj1 : (j : Int) < (ns.length : Int) := by omega
 have hj0 : 0 ≤ (j : Int) := by omega
 have X1 := Lib.hid (fun W' (h : Ext W W') => qce HR.out hza 6 X hE (hx.trans h))
 have hl := qaS (ns := ns) (least := 6) hE
 obtain ⟨t, ht⟩ : ∃ t, qaN E ns (ja : Int) 6 = t := ⟨_, rfl⟩
 rw [ht] at X1 hl ⊢
 have hc1 : (9223372036854775807 < 1 + t.length) = False := by simp; omega
 clear hza X hE hl ht
 clear hr hr1 hz hjn hx
 go_enter Tryz.func12, Tryz.ntmps12
 go_wp2_with ((go_at_call 29; (with_reducible refine (X1.out _ zaa).mono ?_); rintro e' _ ⟨rfl, d1, os1, rfl⟩))
 go_ret
 exact ⟨ret_str zco, zaa⟩
set_option maxHeartbeats 4000000 in
set_option maxRecDepth 20000 in
theorem rex11b {ns : List Nd} {nv : Value} {fi : Int} {w : World} (hr : w.ownsRow 0 34 8 nv ns.length (qac ns)) {j : Nat} {zc zx zi : Int} {zs zt : ByteArray} {ja jb : Nat} {E : Int → List UInt8} {zA zB : Nd} (hz : ns[j]? = some ⟨11, (ja : Int), (jb : Int), zc, zx, zi, zs, zt⟩) (hs : zs.size ≤ 5000) (hza : ns[ja]? = some zA) (XA : RExC w nv fi (ja : Int) (E (ja : Int))) (hEA : (E (ja : Int)).length ≤ 100000000) (hzb : ns[jb]? = some zB) (XB : RExC w nv fi (jb : Int) (E (jb : Int))) (hEB : (E (jb : Int)).length ≤ 100000000) (hc : qar 11 zs = 2) {W : World} (hx : Ext w W) :
  Calls Tryz.prog 12 #[.agg #[nv, .int .i64 fi], .int .i64 (j : Int)] W fun e w' => e = .returned (.string ⟨(qaN E ns (ja : Int) (leftC (qar 11 zs)) ++ ([32] ++ (zs.data.toList ++ [32]) ++ qaN E ns (jb : Int) (qar 11 zs + 1))).toArray⟩) ∧ Ext W w' := by
 have hjn := (List.getElem?_eq_some_iff.1 hz).1
 have hr1 := own_ext hr hx
 have HR := Lib.hid hr
 obtain ⟨G, cp, rfl, hG, -⟩ := qai hr1 hjn
 obtain ⟨a0, a1, a2, a3, a4, a5, a6, a7⟩ := nd_at hr1 hz
 dsimp only at a0 a1 a2 a3 a4 a5 a6 a7
 have hj1 : (j : Int) < (ns.length : Int) := by omega
 have hj0 : 0 ≤ (j : Int) := by omega
 have C := Lib.hid (fun W => qbL 11 (ja : Int) (jb : Int) zc zx zi zs zt W)
 have Y1 := Lib.hid (fun W' (h : Ext W W') => qce HR.out hza 3 XA hEA (hx.trans h))
 have Y2 := Lib.hid (fun W' (h : Ext W W') => qce HR.out hzb 3 XB hEB (hx.trans h))
 have hl1 := qaS (ns := ns) (least := 3) hEA
 have hl2 := qaS (ns := ns) (least := 3) hEB
 rw [hc] at C ⊢
 rw [show leftC 2 = 3 from rfl, show (2 : Int) + 1 = 3 from rfl]
 obtain ⟨t, ht⟩ : ∃ t, qaN E ns (ja : Int) 3 = t := ⟨_, rfl⟩
 obtain ⟨u, hu⟩ : ∃ u, qaN E ns (jb : Int) 3 = u := ⟨_, rfl⟩
 rw [ht] at Y1 hl1 ⊢
 rw [hu] at Y2 hl2 ⊢
 have hc1 : (9223372036854775807 < t.length + 1) = False := by simp; omega
 have hc2 : (9223372036854775807 < t.length + 1 + zs.size) = False := by simp; omega
 have hc3 : (9223372036854775807 < t.length + 1 + zs.size + 1) = False := by simp; omega
 have hc4 : (9223372036854775807 < t.length + 1 + zs.size + 1 + u.length) = False := by simp; omega
 clear hza hzb XA XB hEA hEB hl1 hl2 ht hu hs hc
 clear hr hr1 hz hjn hx
 go_enter Tryz.func12, Tryz.ntmps12
 go_wp2_with ((go_at_call 15; (with_reducible refine (C.out _).mono ?_); rintro e' _ ⟨rfl, d1, os1, rfl⟩))
 refine qaa 15 122 [false, false, false, false, false, false, false, false, false, false, false, false, false, false, false] zam zam rfl ?_
 simp only [List.take_succ_cons, List.take_zero, List.drop_succ_cons, List.drop_zero]
 repeat (refine Lex.step rfl ?_; intro K hK; unfold StepG; go_simp; (first
   | refine hK _ ?_
   | (with_reducible refine ⟨_, fun d os => (ret1 (Y1.out _ zaa)), ?_⟩; go_simp; refine hK _ ?_)
   | (with_reducible refine ⟨_, fun d os => (ret1 (Y2.out _ zaa)), ?_⟩; go_simp; refine hK _ ?_)); clear hK K)
 refine Lex.nil fun WW hE => ?_
 obtain ⟨dd, oo, rfl⟩ := hE
 unfold FillH
 go_wp2_with fail
 rw [ends_normal]
 go_wp2_with fail
 go_ret
 exact ⟨ret_str zco, zaa⟩
set_option maxHeartbeats 4000000 in
set_option maxRecDepth 20000 in
theorem rex11a {ns : List Nd} {nv : Value} {fi : Int} {w : World} (hr : w.ownsRow 0 34 8 nv ns.length (qac ns)) {j : Nat} {zc zx zi : Int} {zs zt : ByteArray} {ja jb : Nat} {E : Int → List UInt8} {zA zB : Nd} {c : Int} (hz : ns[j]? = some ⟨11, (ja : Int), (jb : Int), zc, zx, zi, zs, zt⟩) (hs : zs.size ≤ 5000) (hza : ns[ja]? = some zA) (XA : RExC w nv fi (ja : Int) (E (ja : Int))) (hEA : (E (ja : Int)).length ≤ 100000000) (hzb : ns[jb]? = some zB) (XB : RExC w nv fi (jb : Int) (E (jb : Int))) (hEB : (E (jb : Int)).length ≤ 100000000) (hc : qar 11 zs = c) (h1 : (-1 : Int) ≤ c) (h2 : c ≤ 6) (h3 : (c == 2) = false) {W : World} (hx : Ext w W) :
  Calls Tryz.prog 12 #[.agg #[nv, .int .i64 fi], .int .i64 (j : Int)] W fun e w' => e = .returned (.string ⟨(qaN E ns (ja : Int) (leftC (qar 11 zs)) ++ ([32] ++ (zs.data.toList ++ [32]) ++ qaN E ns (jb : Int) (qar 11 zs + 1))).toArray⟩) ∧ Ext W w' := by
 have hjn := (List.getElem?_eq_some_iff.1 hz).1
 have hr1 := own_ext hr hx
 have HR := Lib.hid hr
 obtain ⟨G, cp, rfl, hG, -⟩ := qai hr1 hjn
 obtain ⟨a0, a1, a2, a3, a4, a5, a6, a7⟩ := nd_at hr1 hz
 dsimp only at a0 a1 a2 a3 a4 a5 a6 a7
 have hj1 : (j : Int) < (ns.length : Int) := by omega
 have hj0 : 0 ≤ (j : Int) := by omega
 have C := Lib.hid (fun W => qbL 11 (ja : Int) (jb : Int) zc zx zi zs zt W)
 have Y1 := Lib.hid (fun W' (h : Ext W W') => qce HR.out hza c XA hEA (hx.trans h))
 have Y2 := Lib.hid (fun W' (h : Ext W W') => qce HR.out hzb (c + 1) XB hEB (hx.trans h))
 have hl1 := qaS (ns := ns) (least := c) hEA
 have hl2 := qaS (ns := ns) (least := (c + 1)) hEB
 rw [hc] at C ⊢
 rw [show leftC c = c by unfold leftC; rw [if_neg (by simpa using h3)]]
 have hw1 : IntKind.i64.wrap (c + 1) = c + 1 := IntWalk.i64_in _ zal
 clear h1 h2
 obtain ⟨t, ht⟩ : ∃ t, qaN E ns (ja : Int) c = t := ⟨_, rfl⟩
 obtain ⟨u, hu⟩ : ∃ u, qaN E ns (jb : Int) (c + 1) = u := ⟨_, rfl⟩
 rw [ht] at Y1 hl1 ⊢
 rw [hu] at Y2 hl2 ⊢
 have hc1 : (9223372036854775807 < t.length + 1) = False := by simp; omega
 have hc2 : (9223372036854775807 < t.length + 1 + zs.size) = False := by simp; omega
 have hc3 : (9223372036854775807 < t.length + 1 + zs.size + 1) = False := by simp; omega
 have hc4 : (9223372036854775807 < t.length + 1 + zs.size + 1 + u.length) = False := by simp; omega
 clear hza hzb XA XB hEA hEB hl1 hl2 ht hu hs hc
 clear hr hr1 hz hjn hx
 go_enter Tryz.func12, Tryz.ntmps12
 go_wp2_with ((go_at_call 15; (with_reducible refine (C.out _).mono ?_); rintro e' _ ⟨rfl, d1, os1, rfl⟩))
 refine qaa 18 122 [false, false, false, false, false, false, false, false, false, false, false, false, false, false, false, false, false, false] zam zam rfl ?_
 simp only [List.take_succ_cons, List.take_zero, List.drop_succ_cons, List.drop_zero]
 repeat (refine Lex.step rfl ?_; intro K hK; unfold StepG; go_simp; (first
   | refine hK _ ?_
   | (with_reducible refine ⟨_, fun d os => (ret1 (Y1.out _ zaa)), ?_⟩; go_simp; refine hK _ ?_)
   | (with_reducible refine ⟨_, fun d os => (ret1 (Y2.out _ zaa)), ?_⟩; go_simp; refine hK _ ?_)); clear hK K)
 refine Lex.nil fun WW hE => ?_
 obtain ⟨dd, oo, rfl⟩ := hE
 unfold FillH
 go_wp2_with fail
 rw [ends_normal]
 go_wp2_with fail
 go_ret
 exact ⟨ret_str zco, zaa⟩
theorem qdv {ns : List Nd} {nv : Value} {fi : Int} {w : World} (hr : w.ownsRow 0 34 8 nv ns.length (qac ns)) (hs : Sz ns) (hb : ∀ (j : Nat) (z : Nd), ns[j]? = some z → nodeB ns j z = true) : ∀ (f : Nat) (i : Int) (n : Nat), Tr ns i n → n ≤ f → n ≤ 600 → EK ns i → RExC w nv fi i (txE ns f i) := by
 intro f
 induction f with
 | zero =>
  intro i n t hn _ ⟨h0, _⟩
  obtain ⟨_, _, _, _, _, _, _, _, _, _, _, _, e⟩ := qcj t h0
  omega
 | succ f ih =>
  intro i n t hn hn6 ⟨h0, hk⟩ W hx
  obtain ⟨j, z, na, nb, nc, nx, rfl, hz, ta, tb, _, _, rfl⟩ := qcj t h0
  obtain ⟨k0, k1, ka, kb⟩ := qen hz (hb j z hz) hk
  obtain ⟨s1, _, s3⟩ := hs z (List.mem_of_getElem? hz)
  rw [txE_at hz]
  obtain ⟨zk, za, zb, zc, zx, zi, zs, zt⟩ := z
  dsimp only at ta tb k0 k1 ka kb s1 s3
  have kid : ∀ (y : Int) (ny : Nat), Tr ns y ny → ny ≤ f → ny ≤ 600 → EK ns y → ∃ (jy : Nat) (zY : Nd), y = (jy : Int) ∧ ns[jy]? = some zY ∧ RExC w nv fi (jy : Int) (txE ns f (jy : Int)) ∧ (txE ns f (jy : Int)).length ≤ 100000000 := fun y ny ty hy hy6 ey => by
   obtain ⟨jy, zY, _, _, _, _, rfl, hzY, _⟩ := qcj ty ey.1
   exact ⟨jy, zY, rfl, hzY, ih _ ny ty hy hy6 ey, by have := qbt hs hb f _ ny ty ey; omega⟩
  have h12 : zk = 0 ∨ zk = 1 ∨ zk = 2 ∨ zk = 3 ∨ zk = 4 ∨ zk = 5 ∨ zk = 6 ∨ zk = 7 ∨ zk = 8 ∨ zk = 9 ∨ zk = 10 ∨ zk = 11 := by omega
  rcases h12 with rfl | rfl | rfl | rfl | rfl | rfl | rfl | rfl | rfl | rfl | rfl | rfl
  · exact rex0 hr hz hx
  · exact rex1 hr hz hx
  · exact rex2 hr hz s3 hx
  · exact rex3 hr hz hx
  · exact rex4 hr hz hx
  · obtain ⟨ja, zA, rfl, hzA, XA, LA⟩ := kid za na ta zal zal (ka zal)
    exact rex5 (E := txE ns f) hr hz XA LA hx
  · obtain ⟨ja, zA, rfl, hzA, XA, LA⟩ := kid za na ta zal zal (ka zal)
    exact rex6 (E := txE ns f) hr hz XA LA hx
  · obtain ⟨ja, zA, rfl, hzA, XA, LA⟩ := kid za na ta zal zal (ka zal)
    exact rex7 (E := txE ns f) hr hz XA LA hx
  · obtain ⟨ja, zA, rfl, hzA, XA, LA⟩ := kid za na ta zal zal (ka zal)
    exact rex8 (E := txE ns f) hr hz XA LA hx
  · obtain ⟨ja, zA, rfl, hzA, XA, LA⟩ := kid za na ta zal zal (ka zal)
    exact rex9 (E := txE ns f) hr hz hzA XA LA hx
  · obtain ⟨ja, zA, rfl, hzA, XA, LA⟩ := kid za na ta zal zal (ka zal)
    exact rex10 (E := txE ns f) hr hz hzA XA LA hx
  · obtain ⟨ja, zA, rfl, hzA, XA, LA⟩ := kid za na ta zal zal (ka zal)
    obtain ⟨jb, zB, rfl, hzB, XB, LB⟩ := kid zb nb tb zal zal (kb rfl)
    obtain ⟨c1, c2⟩ := qdU zs
    by_cases hc : qar 11 zs = 2
    · exact rex11b (E := txE ns f) hr hz s1 hzA XA LA hzB XB LB hc hx
    · exact rex11a (E := txE ns f) hr hz s1 hzA XA LA hzB XB LB rfl c1 c2 (by simpa using hc) hx
end Go.Proofs.YtijmfpoanggjjaaGreatDoor
