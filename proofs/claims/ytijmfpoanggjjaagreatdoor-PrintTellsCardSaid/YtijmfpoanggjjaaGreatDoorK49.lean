/- Lemmas for the claim (texts Rt2, what its proof uses of them). -/
import Derived.Test.YtijmfpoanggjjaaGreatDoorK17
import Derived.Test.YtijmfpoanggjjaaGreatDoorK48
import Derived.LoopTactic
import Derived.Deep.LoopGhost
set_option linter.unusedSimpArgs false
set_option linter.unusedVariables false
namespace Go.Proofs.YtijmfpoanggjjaaGreatDoor
open Go.RowKit
attribute [go_sem] more_more Array.size_append
def RBlC (w : World) (nv : Value) (fi : Int) (i : Int) (t : List UInt8) : Prop := ∀ W, Ext w W → Calls Tryz.prog 11 #[.agg #[nv, .int .i64 fi], .int .i64 i] W fun e w' => e = .returned (.string ⟨t.toArray⟩) ∧ Ext W w'
set_option maxHeartbeats 4000000 in
set_option maxRecDepth 20000 in
theorem rst23 {nv : Value} {fi : Int} {w : World} {za zb zc zx zi : Int} {zs zt : ByteArray} {E B : Int → List UInt8} (XA : RExC w nv fi za (E za)) (lXA : (E za).length ≤ 100000000) {W : World} (hx : Ext w W) :
  Calls Tryz.prog 26 #[.agg #[nv, .int .i64 fi], .agg #[.int .i64 23, .int .i64 za, .int .i64 zb, .int .i64 zc, .int .i64 zx, .int .i64 zi, .string zs, .string zt]] W fun e w' => e = .returned (.string ⟨([100, 101, 108, 101, 116, 101, 32] ++ (E za ++ [59])).toArray⟩) ∧ Ext W w' := by
 have A1 := Lib.hid (fun W' (h : Ext W W') => XA W' (hx.trans h))
 obtain ⟨t, ht⟩ : ∃ t, E za = t := ⟨_, rfl⟩
 rw [ht] at A1 lXA ⊢
 have hc1 : (9223372036854775807 < 7 + t.length) = False := by simp; omega
 have hc2 : (9223372036854775807 < 7 + t.length + 1) = False := by simp; omega
 clear XA lXA ht
 clear hx
 go_enter Tryz.func26, Tryz.ntmps26
 go_wp2_with ((go_at_call 12; (with_reducible refine (A1.out _ zaa).mono ?_); rintro e' _ ⟨rfl, d1, os1, rfl⟩))
 go_ret
 exact ⟨ret_str zbo, zaa⟩
set_option maxHeartbeats 4000000 in
set_option maxRecDepth 20000 in
theorem rst27 {nv : Value} {fi : Int} {w : World} {za zb zc zx zi : Int} {zs zt : ByteArray} {E B : Int → List UInt8} (XA : RExC w nv fi za (E za)) (lXA : (E za).length ≤ 100000000) {W : World} (hx : Ext w W) :
  Calls Tryz.prog 26 #[.agg #[nv, .int .i64 fi], .agg #[.int .i64 27, .int .i64 za, .int .i64 zb, .int .i64 zc, .int .i64 zx, .int .i64 zi, .string zs, .string zt]] W fun e w' => e = .returned (.string ⟨([97, 98, 111, 114, 116, 32] ++ (E za ++ [59])).toArray⟩) ∧ Ext W w' := by
 have A1 := Lib.hid (fun W' (h : Ext W W') => XA W' (hx.trans h))
 obtain ⟨t, ht⟩ : ∃ t, E za = t := ⟨_, rfl⟩
 rw [ht] at A1 lXA ⊢
 have hc1 : (9223372036854775807 < 6 + t.length) = False := by simp; omega
 have hc2 : (9223372036854775807 < 6 + t.length + 1) = False := by simp; omega
 clear XA lXA ht
 clear hx
 go_enter Tryz.func26, Tryz.ntmps26
 go_wp2_with ((go_at_call 12; (with_reducible refine (A1.out _ zaa).mono ?_); rintro e' _ ⟨rfl, d1, os1, rfl⟩))
 go_ret
 exact ⟨ret_str zbo, zaa⟩
set_option maxHeartbeats 4000000 in
set_option maxRecDepth 20000 in
theorem rst28 {nv : Value} {fi : Int} {w : World} {za zb zc zx zi : Int} {zs zt : ByteArray} {E B : Int → List UInt8} (XA : RExC w nv fi za (E za)) (lXA : (E za).length ≤ 100000000) {W : World} (hx : Ext w W) :
  Calls Tryz.prog 26 #[.agg #[nv, .int .i64 fi], .agg #[.int .i64 28, .int .i64 za, .int .i64 zb, .int .i64 zc, .int .i64 zx, .int .i64 zi, .string zs, .string zt]] W fun e w' => e = .returned (.string ⟨([114, 101, 116, 117, 114, 110, 32] ++ (E za ++ [59])).toArray⟩) ∧ Ext W w' := by
 have A1 := Lib.hid (fun W' (h : Ext W W') => XA W' (hx.trans h))
 obtain ⟨t, ht⟩ : ∃ t, E za = t := ⟨_, rfl⟩
 rw [ht] at A1 lXA ⊢
 have hc1 : (9223372036854775807 < 7 + t.length) = False := by simp; omega
 have hc2 : (9223372036854775807 < 7 + t.length + 1) = False := by simp; omega
 clear XA lXA ht
 clear hx
 go_enter Tryz.func26, Tryz.ntmps26
 go_wp2_with ((go_at_call 12; (with_reducible refine (A1.out _ zaa).mono ?_); rintro e' _ ⟨rfl, d1, os1, rfl⟩))
 go_ret
 exact ⟨ret_str zbo, zaa⟩
set_option maxHeartbeats 4000000 in
set_option maxRecDepth 20000 in
theorem rst20 {nv : Value} {fi : Int} {w : World} {za zb zc zx zi : Int} {zs zt : ByteArray} {E B : Int → List UInt8} (XA : RExC w nv fi za (E za)) (lXA : (E za).length ≤ 100000000) (hs : zs.size ≤ 5000) (ht : zt.size ≤ 5000) {W : World} (hx : Ext w W) :
  Calls Tryz.prog 26 #[.agg #[nv, .int .i64 fi], .agg #[.int .i64 20, .int .i64 za, .int .i64 zb, .int .i64 zc, .int .i64 zx, .int .i64 zi, .string zs, .string zt]] W fun e w' => e = .returned (.string ⟨([108, 101, 116, 32] ++ (zs.data.toList ++ ([32, 61, 32] ++ (E za ++ [59])))).toArray⟩) ∧ Ext W w' := by
 have A1 := Lib.hid (fun W' (h : Ext W W') => XA W' (hx.trans h))
 obtain ⟨t, ht⟩ : ∃ t, E za = t := ⟨_, rfl⟩
 rw [ht] at A1 lXA ⊢
 have hc1 : (9223372036854775807 < 4 + zs.size) = False := by simp; omega
 have hc2 : (9223372036854775807 < 4 + zs.size + 3) = False := by simp; omega
 have hc3 : (9223372036854775807 < 4 + zs.size + 3 + t.length) = False := by simp; omega
 have hc4 : (9223372036854775807 < 4 + zs.size + 3 + t.length + 1) = False := by simp; omega
 clear XA lXA hs
 clear hx
 go_enter Tryz.func26, Tryz.ntmps26
 go_wp2_with fail
 refine qaa 11 134 [false, false, false, false, false, false, false, false, false, false, false] zam zam rfl ?_
 simp only [List.take_succ_cons, List.take_zero, List.drop_succ_cons, List.drop_zero]
 repeat (refine Lex.step rfl ?_; intro K hK; unfold StepG; go_simp; (first
   | refine hK _ ?_
   | (with_reducible refine ⟨_, fun d os => (ret1 (A1.out _ zaa)), ?_⟩; go_simp; refine hK _ ?_)); clear hK K)
 refine Lex.nil fun WW hE => ?_
 obtain ⟨dd, oo, rfl⟩ := hE
 unfold FillH
 go_wp2_with fail
 rw [ends_normal]
 go_wp2_with fail
 go_ret
 exact ⟨ret_str zbo, zaa⟩
set_option maxHeartbeats 4000000 in
set_option maxRecDepth 20000 in
theorem rst21 {nv : Value} {fi : Int} {w : World} {za zb zc zx zi : Int} {zs zt : ByteArray} {E B : Int → List UInt8} (XA : RExC w nv fi za (E za)) (lXA : (E za).length ≤ 100000000) (hs : zs.size ≤ 5000) (ht : zt.size ≤ 5000) {W : World} (hx : Ext w W) :
  Calls Tryz.prog 26 #[.agg #[nv, .int .i64 fi], .agg #[.int .i64 21, .int .i64 za, .int .i64 zb, .int .i64 zc, .int .i64 zx, .int .i64 zi, .string zs, .string zt]] W fun e w' => e = .returned (.string ⟨([115, 101, 116, 32] ++ (zs.data.toList ++ ([32, 61, 32] ++ (E za ++ [59])))).toArray⟩) ∧ Ext W w' := by
 have A1 := Lib.hid (fun W' (h : Ext W W') => XA W' (hx.trans h))
 obtain ⟨t, ht⟩ : ∃ t, E za = t := ⟨_, rfl⟩
 rw [ht] at A1 lXA ⊢
 have hc1 : (9223372036854775807 < 4 + zs.size) = False := by simp; omega
 have hc2 : (9223372036854775807 < 4 + zs.size + 3) = False := by simp; omega
 have hc3 : (9223372036854775807 < 4 + zs.size + 3 + t.length) = False := by simp; omega
 have hc4 : (9223372036854775807 < 4 + zs.size + 3 + t.length + 1) = False := by simp; omega
 clear XA lXA hs
 clear hx
 go_enter Tryz.func26, Tryz.ntmps26
 go_wp2_with fail
 refine qaa 11 134 [false, false, false, false, false, false, false, false, false, false, false] zam zam rfl ?_
 simp only [List.take_succ_cons, List.take_zero, List.drop_succ_cons, List.drop_zero]
 repeat (refine Lex.step rfl ?_; intro K hK; unfold StepG; go_simp; (first
   | refine hK _ ?_
   | (with_reducible refine ⟨_, fun d os => (ret1 (A1.out _ zaa)), ?_⟩; go_simp; refine hK _ ?_)); clear hK K)
 refine Lex.nil fun WW hE => ?_
 obtain ⟨dd, oo, rfl⟩ := hE
 unfold FillH
 go_wp2_with fail
 rw [ends_normal]
 go_wp2_with fail
 go_ret
 exact ⟨ret_str zbo, zaa⟩
set_option maxHeartbeats 4000000 in
set_option maxRecDepth 20000 in
theorem rst22 {nv : Value} {fi : Int} {w : World} {za zb zc zx zi : Int} {zs zt : ByteArray} {E B : Int → List UInt8} (XA : RExC w nv fi za (E za)) (lXA : (E za).length ≤ 100000000) (XB : RExC w nv fi zb (E zb)) (lXB : (E zb).length ≤ 100000000) {W : World} (hx : Ext w W) :
  Calls Tryz.prog 26 #[.agg #[nv, .int .i64 fi], .agg #[.int .i64 22, .int .i64 za, .int .i64 zb, .int .i64 zc, .int .i64 zx, .int .i64 zi, .string zs, .string zt]] W fun e w' => e = .returned (.string ⟨([112, 117, 116, 32] ++ (E za ++ ([44, 32] ++ (E zb ++ [59])))).toArray⟩) ∧ Ext W w' := by
 have A1 := Lib.hid (fun W' (h : Ext W W') => XA W' (hx.trans h))
 obtain ⟨t, ht⟩ : ∃ t, E za = t := ⟨_, rfl⟩
 rw [ht] at A1 lXA ⊢
 have B1 := Lib.hid (fun W' (h : Ext W W') => XB W' (hx.trans h))
 obtain ⟨u, hu⟩ : ∃ t, E zb = t := ⟨_, rfl⟩
 rw [hu] at B1 lXB ⊢
 have hc1 : (9223372036854775807 < 4 + t.length) = False := by simp; omega
 have hc2 : (9223372036854775807 < 4 + t.length + 2) = False := by simp; omega
 have hc3 : (9223372036854775807 < 4 + t.length + 2 + u.length) = False := by simp; omega
 have hc4 : (9223372036854775807 < 4 + t.length + 2 + u.length + 1) = False := by simp; omega
 clear XA lXA XB lXB
 clear hx
 go_enter Tryz.func26, Tryz.ntmps26
 go_wp2_with fail
 refine qaa 13 134 [false, false, false, false, false, false, false, false, false, false, false, false, false] zam zam rfl ?_
 simp only [List.take_succ_cons, List.take_zero, List.drop_succ_cons, List.drop_zero]
 repeat (refine Lex.step rfl ?_; intro K hK; unfold StepG; go_simp; (first
   | refine hK _ ?_
   | (with_reducible refine ⟨_, fun d os => (ret1 (A1.out _ zaa)), ?_⟩; go_simp; refine hK _ ?_)
   | (with_reducible refine ⟨_, fun d os => (ret1 (B1.out _ zaa)), ?_⟩; go_simp; refine hK _ ?_)); clear hK K)
 refine Lex.nil fun WW hE => ?_
 obtain ⟨dd, oo, rfl⟩ := hE
 unfold FillH
 go_wp2_with fail
 rw [ends_normal]
 go_wp2_with fail
 go_ret
 exact ⟨ret_str zbo, zaa⟩
set_option maxHeartbeats 4000000 in
set_option maxRecDepth 20000 in
theorem rst24a {nv : Value} {fi : Int} {w : World} {za zb zc zx zi : Int} {zs zt : ByteArray} {E B : Int → List UInt8} (XA : RExC w nv fi za (E za)) (lXA : (E za).length ≤ 100000000) (XB : RBlC w nv fi zb (B zb)) (lXB : (B zb).length ≤ 100000000) (hi : (zi == 1) = false) {W : World} (hx : Ext w W) :
  Calls Tryz.prog 26 #[.agg #[nv, .int .i64 fi], .agg #[.int .i64 24, .int .i64 za, .int .i64 zb, .int .i64 zc, .int .i64 zx, .int .i64 zi, .string zs, .string zt]] W fun e w' => e = .returned (.string ⟨([105, 102, 32] ++ (E za ++ qas B zb)).toArray⟩) ∧ Ext W w' := by
 unfold qas
 have A1 := Lib.hid (fun W' (h : Ext W W') => XA W' (hx.trans h))
 obtain ⟨t, ht⟩ : ∃ t, E za = t := ⟨_, rfl⟩
 rw [ht] at A1 lXA ⊢
 have B1 := Lib.hid (fun W' (h : Ext W W') => XB W' (hx.trans h))
 obtain ⟨u, hu⟩ : ∃ t, B zb = t := ⟨_, rfl⟩
 rw [hu] at B1 lXB ⊢
 have hc1 : (9223372036854775807 < 3 + t.length) = False := by simp; omega
 have hc2 : (9223372036854775807 < 3 + t.length + 3) = False := by simp; omega
 have hc3 : (9223372036854775807 < 3 + t.length + 3 + u.length) = False := by simp; omega
 have hc4 : (9223372036854775807 < 3 + t.length + 3 + u.length + 1) = False := by simp; omega
 clear XA lXA XB lXB
 clear hx
 go_enter Tryz.func26, Tryz.ntmps26
 go_wp2_with fail
 refine qaa 13 134 [false, false, false, false, false, false, false, false, false, false, false, false, false] zam zam rfl ?_
 simp only [List.take_succ_cons, List.take_zero, List.drop_succ_cons, List.drop_zero]
 repeat (refine Lex.step rfl ?_; intro K hK; unfold StepG; go_simp; (first
   | refine hK _ ?_
   | (with_reducible refine ⟨_, fun d os => (ret1 (A1.out _ zaa)), ?_⟩; go_simp; refine hK _ ?_)
   | (with_reducible refine ⟨_, fun d os => (ret1 (B1.out _ zaa)), ?_⟩; go_simp; refine hK _ ?_)); clear hK K)
 refine Lex.nil fun WW hE => ?_
 obtain ⟨dd, oo, rfl⟩ := hE
 unfold FillH
 go_wp2_with fail
 rw [ends_normal]
 go_wp2_with fail
 go_ret
 exact ⟨ret_str zbo, zaa⟩
set_option maxHeartbeats 4000000 in
set_option maxRecDepth 20000 in
theorem rst24b {nv : Value} {fi : Int} {w : World} {za zb zc zx zi : Int} {zs zt : ByteArray} {E B : Int → List UInt8} (XA : RExC w nv fi za (E za)) (lXA : (E za).length ≤ 100000000) (XB : RBlC w nv fi zb (B zb)) (lXB : (B zb).length ≤ 100000000) (XC : RBlC w nv fi zc (B zc)) (lXC : (B zc).length ≤ 100000000) (hi : (zi == 1) = true) {W : World} (hx : Ext w W) :
  Calls Tryz.prog 26 #[.agg #[nv, .int .i64 fi], .agg #[.int .i64 24, .int .i64 za, .int .i64 zb, .int .i64 zc, .int .i64 zx, .int .i64 zi, .string zs, .string zt]] W fun e w' => e = .returned (.string ⟨([105, 102, 32] ++ (E za ++ (qas B zb ++ ([32, 101, 108, 115, 101] ++ qas B zc)))).toArray⟩) ∧ Ext W w' := by
 unfold qas
 have A1 := Lib.hid (fun W' (h : Ext W W') => XA W' (hx.trans h))
 obtain ⟨t, ht⟩ : ∃ t, E za = t := ⟨_, rfl⟩
 rw [ht] at A1 lXA ⊢
 have B1 := Lib.hid (fun W' (h : Ext W W') => XB W' (hx.trans h))
 obtain ⟨u, hu⟩ : ∃ t, B zb = t := ⟨_, rfl⟩
 rw [hu] at B1 lXB ⊢
 have C1 := Lib.hid (fun W' (h : Ext W W') => XC W' (hx.trans h))
 obtain ⟨v, hv⟩ : ∃ t, B zc = t := ⟨_, rfl⟩
 rw [hv] at C1 lXC ⊢
 have hc1 : (9223372036854775807 < 3 + t.length) = False := by simp; omega
 have hc2 : (9223372036854775807 < 3 + t.length + 3) = False := by simp; omega
 have hc3 : (9223372036854775807 < 3 + t.length + 3 + u.length) = False := by simp; omega
 have hc4 : (9223372036854775807 < 3 + t.length + 3 + u.length + 1) = False := by simp; omega
 have hd0 : (9223372036854775807 < 8 + v.length) = False := by simp; omega
 have hd1 : (9223372036854775807 < 8 + v.length + 1) = False := by simp; omega
 have hd2 : (9223372036854775807 < 3 + t.length + 3 + u.length + 1 + (8 + v.length + 1)) = False := by simp; omega
 clear XA lXA XB lXB XC lXC
 clear hx
 go_enter Tryz.func26, Tryz.ntmps26
 go_wp2_with fail
 refine qaa 13 134 [false, false, false, false, false, false, false, false, false, false, false, false, false] zam zam rfl ?_
 simp only [List.take_succ_cons, List.take_zero, List.drop_succ_cons, List.drop_zero]
 repeat (refine Lex.step rfl ?_; intro K hK; unfold StepG; go_simp; (first
   | refine hK _ ?_
   | (with_reducible refine ⟨_, fun d os => (ret1 (A1.out _ zaa)), ?_⟩; go_simp; refine hK _ ?_)
   | (with_reducible refine ⟨_, fun d os => (ret1 (B1.out _ zaa)), ?_⟩; go_simp; refine hK _ ?_)); clear hK K)
 refine Lex.nil fun WW hE => ?_
 obtain ⟨dd, oo, rfl⟩ := hE
 unfold FillH
 go_wp2_with fail
 rw [ends_normal]
 go_wp2_with ((go_at_call 11; (with_reducible refine (C1.out _ zaa).mono ?_); rintro e' _ ⟨rfl, d1, os1, rfl⟩))
 go_ret
 exact ⟨ret_str zbo, zaa⟩
set_option maxHeartbeats 4000000 in
set_option maxRecDepth 20000 in
theorem rst25 {nv : Value} {fi : Int} {w : World} {za zb zc zx zi : Int} {zs zt : ByteArray} {E B : Int → List UInt8} (XA : RExC w nv fi za (E za)) (lXA : (E za).length ≤ 100000000) (XB : RBlC w nv fi zb (B zb)) (lXB : (B zb).length ≤ 100000000) (hs : zs.size ≤ 5000) (ht : zt.size ≤ 5000) (h64 : In64 zi) {W : World} (hx : Ext w W) :
  Calls Tryz.prog 26 #[.agg #[nv, .int .i64 fi], .agg #[.int .i64 25, .int .i64 za, .int .i64 zb, .int .i64 zc, .int .i64 zx, .int .i64 zi, .string zs, .string zt]] W fun e w' => e = .returned (.string ⟨([102, 111, 114, 32] ++ (zs.data.toList ++ ([44, 32] ++ (zt.data.toList ++ ([32, 105, 110, 32, 115, 99, 97, 110, 40] ++ (E za ++ ([44, 32] ++ (Lib.itoa zi ++ ([41] ++ qas B zb))))))))).toArray⟩) ∧ Ext W w' := by
 unfold qas
 have A1 := Lib.hid (fun W' (h : Ext W W') => XA W' (hx.trans h))
 obtain ⟨t, ht⟩ : ∃ t, E za = t := ⟨_, rfl⟩
 rw [ht] at A1 lXA ⊢
 have B1 := Lib.hid (fun W' (h : Ext W W') => XB W' (hx.trans h))
 obtain ⟨u, hu⟩ : ∃ t, B zb = t := ⟨_, rfl⟩
 rw [hu] at B1 lXB ⊢
 have D := Lib.hid (fun W => qeb zi h64 W)
 have hdl := qbb h64
 obtain ⟨d, hd⟩ : ∃ t, Lib.itoa zi = t := ⟨_, rfl⟩
 rw [hd] at D hdl ⊢
 have hc1 : (9223372036854775807 < 4 + zs.size) = False := by simp; omega
 have hc2 : (9223372036854775807 < 4 + zs.size + 2) = False := by simp; omega
 have hc3 : (9223372036854775807 < 4 + zs.size + 2 + zt.size) = False := by simp; omega
 have hc4 : (9223372036854775807 < 4 + zs.size + 2 + zt.size + 9) = False := by simp; omega
 have hc5 : (9223372036854775807 < 4 + zs.size + 2 + zt.size + 9 + t.length) = False := by simp; omega
 have hc6 : (9223372036854775807 < 4 + zs.size + 2 + zt.size + 9 + t.length + 2) = False := by simp; omega
 have hc7 : (9223372036854775807 < 4 + zs.size + 2 + zt.size + 9 + t.length + 2 + d.length) = False := by simp; omega
 have hc8 : (9223372036854775807 < 4 + zs.size + 2 + zt.size + 9 + t.length + 2 + d.length + 4) = False := by simp; omega
 have hc9 : (9223372036854775807 < 4 + zs.size + 2 + zt.size + 9 + t.length + 2 + d.length + 4 + u.length) = False := by simp; omega
 have hc10 : (9223372036854775807 < 4 + zs.size + 2 + zt.size + 9 + t.length + 2 + d.length + 4 + u.length + 1) = False := by simp; omega
 clear XA lXA XB lXB
 clear hs h64 hdl
 clear hx
 go_enter Tryz.func26, Tryz.ntmps26
 go_wp2_with fail
 refine qaa 26 134 [false, false, false, false, false, false, false, false, false, false, false, false, false, false, false, false, false, false, false, false, false, false, false, false, false, false] zam zam rfl ?_
 simp only [List.take_succ_cons, List.take_zero, List.drop_succ_cons, List.drop_zero]
 repeat (refine Lex.step rfl ?_; intro K hK; unfold StepG; go_simp; (first
   | refine hK _ ?_
   | (with_reducible refine ⟨_, fun d os => (ret1 (A1.out _ zaa)), ?_⟩; go_simp; refine hK _ ?_)
   | (with_reducible refine ⟨_, fun d os => (ret1 (D.out _)), ?_⟩; go_simp; refine hK _ ?_)
   | (with_reducible refine ⟨_, fun d os => (ret1 (B1.out _ zaa)), ?_⟩; go_simp; refine hK _ ?_)); clear hK K)
 refine Lex.nil fun WW hE => ?_
 obtain ⟨dd, oo, rfl⟩ := hE
 unfold FillH
 go_wp2_with fail
 rw [ends_normal]
 go_wp2_with fail
 go_ret
 exact ⟨ret_str zbo, zaa⟩
set_option maxHeartbeats 4000000 in
set_option maxRecDepth 20000 in
theorem rst26 {nv : Value} {fi : Int} {w : World} {za zb zc zx zi : Int} {zs zt : ByteArray} {E B : Int → List UInt8} (XB : RBlC w nv fi zb (B zb)) (lXB : (B zb).length ≤ 100000000) (h64 : In64 zi) {W : World} (hx : Ext w W) :
  Calls Tryz.prog 26 #[.agg #[nv, .int .i64 fi], .agg #[.int .i64 26, .int .i64 za, .int .i64 zb, .int .i64 zc, .int .i64 zx, .int .i64 zi, .string zs, .string zt]] W fun e w' => e = .returned (.string ⟨([114, 101, 112, 101, 97, 116, 32] ++ (Lib.itoa zi ++ qas B zb)).toArray⟩) ∧ Ext W w' := by
 unfold qas
 have B1 := Lib.hid (fun W' (h : Ext W W') => XB W' (hx.trans h))
 obtain ⟨u, hu⟩ : ∃ t, B zb = t := ⟨_, rfl⟩
 rw [hu] at B1 lXB ⊢
 have D := Lib.hid (fun W => qeb zi h64 W)
 have hdl := qbb h64
 obtain ⟨d, hd⟩ : ∃ t, Lib.itoa zi = t := ⟨_, rfl⟩
 rw [hd] at D hdl ⊢
 have hc1 : (9223372036854775807 < 7 + d.length) = False := by simp; omega
 have hc2 : (9223372036854775807 < 7 + d.length + 3) = False := by simp; omega
 have hc3 : (9223372036854775807 < 7 + d.length + 3 + u.length) = False := by simp; omega
 have hc4 : (9223372036854775807 < 7 + d.length + 3 + u.length + 1) = False := by simp; omega
 clear XB lXB h64 hdl
 clear hx
 go_enter Tryz.func26, Tryz.ntmps26
 go_wp2_with fail
 refine qaa 12 134 [false, false, false, false, false, false, false, false, false, false, false, false] zam zam rfl ?_
 simp only [List.take_succ_cons, List.take_zero, List.drop_succ_cons, List.drop_zero]
 repeat (refine Lex.step rfl ?_; intro K hK; unfold StepG; go_simp; (first
   | refine hK _ ?_
   | (with_reducible refine ⟨_, fun d os => (ret1 (D.out _)), ?_⟩; go_simp; refine hK _ ?_)
   | (with_reducible refine ⟨_, fun d os => (ret1 (B1.out _ zaa)), ?_⟩; go_simp; refine hK _ ?_)); clear hK K)
 refine Lex.nil fun WW hE => ?_
 obtain ⟨dd, oo, rfl⟩ := hE
 unfold FillH
 go_wp2_with fail
 rw [ends_normal]
 go_wp2_with fail
 go_ret
 exact ⟨ret_str zbo, zaa⟩
theorem rstm_of {ns : List Nd} {nv : Value} {fi : Int} {w : World} (hr : w.ownsRow 0 34 8 nv ns.length (qac ns)) (hs : Sz ns) (hb : ∀ (j : Nat) (z : Nd), ns[j]? = some z → nodeB ns j z = true) (hl : ns.length ≤ 512) (f : Nat) (ih : ∀ (i : Int) (n : Nat), Tr ns i n → n ≤ f → n ≤ ns.length → SK ns i → RBlC w nv fi i (txB ns f i))
  {j : Nat} {z : Nd} {na nb nc : Nat} (hz : ns[j]? = some z) (hk : 20 ≤ qaD ns (j : Int)) (ta : Tr ns z.a na) (tb : Tr ns z.b nb) (tc : Tr ns z.c nc) (hn : na + nb + nc ≤ f) (hnl : na + nb + nc ≤ ns.length) {W : World} (hx : Ext w W) :
  Calls Tryz.prog 26 #[.agg #[nv, .int .i64 fi], .agg #[.int .i64 z.k, .int .i64 z.a, .int .i64 z.b, .int .i64 z.c, .int .i64 z.x, .int .i64 z.i, .string z.s, .string z.t]] W fun e w' => e = .returned (.string ⟨(stmZ (txE ns ns.length) (txB ns f) z).toArray⟩) ∧ Ext W w' := by
 obtain ⟨k0, k1, ka, kb, kbb, kc, kx⟩ := qbj hz (hb j z hz) hk
 obtain ⟨s1, s2, s3⟩ := hs z (List.mem_of_getElem? hz)
 obtain ⟨zk, za, zb, zc, zx, zi, zs, zt⟩ := z
 dsimp only at ta tb tc k0 k1 ka kb kbb kc s1 s2 s3 ⊢
 have XA := fun h => qdv (fi := fi) hr hs hb ns.length za na ta zal zal (ka h)
 have LA := fun h => Nat.le_trans (qbt hs hb ns.length za na ta (ka h)) (show 11000 * na ≤ 100000000 by omega)
 have XB := fun h => ih zb nb tb zal zal (kbb h)
 have LB := fun h => Nat.le_trans (qbC hs hb f zb nb tb (kbb h)) (show 11000 * nb ≤ 100000000 by omega)
 have h9 : zk = 20 ∨ zk = 21 ∨ zk = 22 ∨ zk = 23 ∨ zk = 24 ∨ zk = 25 ∨ zk = 26 ∨ zk = 27 ∨ zk = 28 := by omega
 rcases h9 with rfl | rfl | rfl | rfl | rfl | rfl | rfl | rfl | rfl
 · exact rst20 (E := txE ns ns.length) (B := txB ns f) (XA zaq) (LA zaq) s1 s2 hx
 · exact rst21 (E := txE ns ns.length) (B := txB ns f) (XA zaq) (LA zaq) s1 s2 hx
 · exact rst22 (E := txE ns ns.length) (B := txB ns f) (XA zaq) (LA zaq) (qdv hr hs hb ns.length zb nb tb zal zal (kb rfl)) (Nat.le_trans (qbt hs hb ns.length zb nb tb (kb rfl)) zal) hx
 · exact rst23 (E := txE ns ns.length) (B := txB ns f) (XA zaq) (LA zaq) hx
 · by_cases e1 : zi = 1
   · have hE : stmZ (txE ns ns.length) (txB ns f) ⟨24, za, zb, zc, zx, zi, zs, zt⟩ = [105, 102, 32] ++ (txE ns ns.length za ++ (qas (txB ns f) zb ++ ([32, 101, 108, 115, 101] ++ qas (txB ns f) zc))) := by unfold stmZ; simp [e1]
     rw [hE]
     exact rst24b (E := txE ns ns.length) (B := txB ns f) (XA zaq) (LA zaq) (XB (Or.inl rfl)) (LB (Or.inl rfl)) (ih zc nc tc zal zal kc) (Nat.le_trans (qbC hs hb f zc nc tc kc) zal) (by simpa using e1) hx
   · have hE : stmZ (txE ns ns.length) (txB ns f) ⟨24, za, zb, zc, zx, zi, zs, zt⟩ = [105, 102, 32] ++ (txE ns ns.length za ++ (qas (txB ns f) zb)) := by unfold stmZ; simp [e1]
     rw [hE]
     exact rst24a (E := txE ns ns.length) (B := txB ns f) (XA zaq) (LA zaq) (XB (Or.inl rfl)) (LB (Or.inl rfl)) (by simpa using e1) hx
 · exact rst25 (E := txE ns ns.length) (B := txB ns f) (XA zaq) (LA zaq) (XB (Or.inr (Or.inl rfl))) (LB (Or.inr (Or.inl rfl))) s1 s2 s3 hx
 · exact rst26 (E := txE ns ns.length) (B := txB ns f) (XB (Or.inr (Or.inr rfl))) (LB (Or.inr (Or.inr rfl))) s3 hx
 · exact rst27 (E := txE ns ns.length) (B := txB ns f) (XA zaq) (LA zaq) hx
 · exact rst28 (E := txE ns ns.length) (B := txB ns f) (XA zaq) (LA zaq) hx
/-- where a block's loop stands -/
def RBRel (ns : List Nd) (W : World) (T : List UInt8) (F : Nat) (n : Nat) (i s : Value) (wr : World) : Prop := ∃ (f : Nat) (k : Int) (acc : List UInt8), i = .int .i64 k ∧ s = .string ⟨acc.toArray⟩ ∧ f ≤ F ∧ Tr ns k n ∧ n ≤ f ∧ SK ns k ∧ acc.length + 11000 * n ≤ 90000000 ∧ acc ++ txB ns f k = T ∧ Ext W wr
set_option maxHeartbeats 4000000 in
set_option maxRecDepth 20000 in
theorem qcQ {ns : List Nd} {nv : Value} {fi : Int} {w : World} (hr : w.ownsRow 0 34 8 nv ns.length (qac ns)) (hs : Sz ns) (hb : ∀ (j : Nat) (z : Nd), ns[j]? = some z → nodeB ns j z = true) (hlen : ns.length ≤ 512) : ∀ (F : Nat) (i : Int) (n : Nat), Tr ns i n → n ≤ F → n ≤ ns.length → SK ns i → RBlC w nv fi i (txB ns F i) := by
 intro F
 induction F using Nat.strongRecOn with
 | ind F ih =>
  intro i n t hn hnl hk W hx
  have IH := Lib.hid ih
  have HS := Lib.hid hs
  have HB := Lib.hid hb
  have HN := Lib.hid (And.intro hnl hlen)
  have HR := Lib.hid hr
  have HX := Lib.hid hx
  have H0 := Lib.hid (show ∀ W', Ext W W' → RBRel ns W (txB ns F i) F n (.int .i64 i) (.string ⟨(([] : List UInt8)).toArray⟩) W' from fun W' hx' => ⟨F, i, [], rfl, rfl, Nat.le_refl _, t, hn, hk, by simp only [List.length_nil]; omega, rfl, hx'⟩)
  obtain ⟨T, hT⟩ : ∃ T, txB ns F i = T := ⟨_, rfl⟩
  rw [hT] at H0 ⊢
  obtain ⟨pv, pc, rfl⟩ := qau hr
  clear ih hs hb t hn hnl hk hT hlen hr hx
  go_enter Tryz.func11, Tryz.ntmps11
  go_wp2_with fail
  go_loopg [1, 5] n (fun g iv sv wr => ∃ gg : Nat, gg = g ∧ gg ≤ n ∧ RBRel ns W T F gg iv sv wr ∧ KB W.heap.size #[.slice pv ns.length pc, .int .i64 fi] 24 wr)
  case atStart => exact ⟨n, rfl, Nat.le_refl _, H0.out _ zaa, KB.new _ _ _⟩
  case round =>
   obtain ⟨g, rfl, hgn, ⟨f, k, acc', rfl, rfl, hfF, tk, hgf, hsk, hla, hT2, hxr⟩, hkb⟩ := hrel
   have HXR := Lib.hid hxr
   have KP := Lib.hid hkb
   have xp0 := hkb.cell 0 _ rfl
   have xp1 := hkb.cell 1 _ rfl
   have lp := hkb.lt
   clear hkb
   by_cases hk0 : k < 0
   · have hk1 : (0 ≤ k) = False := by simp; omega
     have e : acc' = T := by rw [txB_neg ns f hk0, List.append_nil] at hT2; exact hT2
     subst e
     clear hT2 hxr tk hsk hla hfF hgf hgn
     go_wp2_with fail
     go_ret
     exact ⟨rfl, HXR.out⟩
   · obtain ⟨j, z, na, nb, nc, nx, rfl, hz, ta, tb, tc, tx, hge⟩ := qcj tk zal
     obtain ⟨f', rfl⟩ : ∃ f', f = f' + 1 := ⟨f - 1, by omega⟩
     obtain ⟨k0, k1, _, _, _, _, kx⟩ := qbj hz (HB.out j z hz) (hsk.resolve_left hk0)
     have hHN := HN.out
     have SC := Lib.hid (fun W' (h : Ext W W') => rstm_of (fi := fi) HR.out HS.out HB.out zal f' (fun i n ti hi hi2 hki => IH.out f' zal i n ti hi hi2 hki) hz (hsk.resolve_left hk0) ta tb tc zal zal (HX.out.trans h))
     rw [txB_at hz] at hT2
     have hlen1 := qec (E := txE ns ns.length) (B := txB ns f') (na := na) (nb := nb) (nc := nc) (HS.out z (List.mem_of_getElem? hz)).1 (HS.out z (List.mem_of_getElem? hz)).2.1 (HS.out z (List.mem_of_getElem? hz)).2.2
      (fun h => qbt HS.out HB.out _ _ _ ta ((qbj hz (HB.out j z hz) (hsk.resolve_left hk0)).2.2.1 h)) (fun h => qbt HS.out HB.out _ _ _ tb ((qbj hz (HB.out j z hz) (hsk.resolve_left hk0)).2.2.2.1 h)) (fun h => qbC HS.out HB.out _ _ _ tb ((qbj hz (HB.out j z hz) (hsk.resolve_left hk0)).2.2.2.2.1 h)) (qbC HS.out HB.out _ _ _ tc (qbj hz (HB.out j z hz) (hsk.resolve_left hk0)).2.2.2.2.2.1)
     obtain ⟨tt, htt⟩ : ∃ tt, stmZ (txE ns ns.length) (txB ns f') z = tt := ⟨_, rfl⟩
     rw [htt] at hT2 SC hlen1
     obtain ⟨zk, za, zb, zc, zx, zi, zs, zt⟩ := z
     dsimp only at kx tx hT2
     have hjn := (List.getElem?_eq_some_iff.1 hz).1
     obtain ⟨G, cp, hpv, -, -⟩ := qai HR.out hjn
     have hpv1 : pv = some ⟨G, 0, none⟩ := by simp only [Value.slice.injEq] at hpv; exact hpv.1
     subst hpv1
     have hrw := own_ext HR.out (HX.out.trans hxr)
     have hG := (hrw.lt G rfl).2
     obtain ⟨a0, a1, a2, a3, a4, a5, a6, a7⟩ := nd_at hrw hz
     dsimp only at a0 a1 a2 a3 a4 a5 a6 a7
     have HT := Lib.hid hT2
     have HL := Lib.hid (show acc'.length + tt.length + 11000 * nx + 500 ≤ 90000000 ∧ nx < g ∧ nx ≤ f' ∧ f' ≤ F by omega)
     have HG := Lib.hid hgn
     have HXK := Lib.hid (And.intro tx kx)
     have hj0 : 0 ≤ (j : Int) := by omega
     have hj1 : (j : Int) < (ns.length : Int) := by omega
     have hc1 : (9223372036854775807 < tt.length + 1) = False := by simp; omega
     have hc2 : (9223372036854775807 < acc'.length + (tt.length + 1)) = False := by simp; omega
     clear hT2 hgn hfF tk hgf hsk hla hk0 hz ta tb tc tx hge k0 k1 kx hHN hlen1 htt hjn hpv hrw hxr
     go_wp2_with fail
     refine qaa 11 25 [false, false, false, false, false, false, false, false, false, false, false] zam zam rfl ?_
     simp only [List.take_succ_cons, List.take_zero, List.drop_succ_cons, List.drop_zero]
     repeat (refine Lex.step rfl ?_; intro K hK; unfold StepG; go_simp; (first
       | refine hK _ ?_
       | (with_reducible refine ⟨_, fun d os => (ret1 (SC.out _ (HXR.out.trans zaa))), ?_⟩; go_simp; refine hK _ ?_)); clear hK K)
     refine Lex.nil fun WW hE => ?_
     obtain ⟨dd, oo, rfl⟩ := hE
     unfold FillH
     go_wp2_with fail
     rw [ends_normal]
     go_wp2_with fail
     go_roundg nx
     case measure => exact HL.out.2.1
     case rel => exact ⟨nx, rfl, by have := HL.out; have := HG.out; omega, ⟨f', zx, acc' ++ (tt ++ [10]), rfl, congrArg Value.string (ba_eq (by simp only [qdp])), HL.out.2.2.2, HXK.out.1, HL.out.2.2.1, HXK.out.2, by have := HL.out; simp only [List.length_append, List.length_cons, List.length_nil]; omega, by rw [← HT.out]; simp only [List.append_assoc], HXR.out.trans zaa⟩, KB.of_ext KP.out zaa⟩
end Go.Proofs.YtijmfpoanggjjaaGreatDoor
