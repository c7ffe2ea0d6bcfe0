/- Lemmas for the claim (texts CdF, what its proof uses of them). -/
import Derived.Test.YtpoeknndkccbaaaGreatS32
import Derived.Deep.RegionHeldLaw
set_option linter.unusedSimpArgs false
set_option linter.unusedVariables false
namespace Go.Proofs.YtpoeknndkccbaaaGreat
open Go.RowKit
attribute [go_sem] more_more Array.size_append
theorem code_vals {ns : List Nd} {fi m a : Int} {l : List Int} {R : Mk} (h : qaV ns fi = (l, m, 0, a)) (hR : codeF ns fi l = some R) : R.vals.length ≤ 512 := by
 obtain ⟨hm, rfl, hl, h5⟩ := qby h
 obtain ⟨h1, h2, h3, h4⟩ := qbe hm
 obtain ⟨n, hn, t⟩ := qdf hm
 obtain ⟨M, e, b1, b2, b3, b4, b5, b6⟩ := codeF_law (sl := l) zah (fun j z hz => node_nk hz (h2 j z hz)) (blk_sk h3 (Int.le_refl _)) t hn h1
 obtain rfl : M = R := Option.some.inj (e.symm.trans hR)
 omega
theorem qbm {s : ByteArray} (h : s.size = 0) : s = ⟨#[]⟩ := by
 apply ByteArray.ext
 exact Array.eq_empty_of_size_eq_zero h
set_option maxHeartbeats 4000000 in
theorem vmay_ok (k i : Int) (s : ByteArray) (h : VOk (k, i, s)) (w : World) : Calls Tryz.prog 18 #[.agg #[.int .i64 k, .int .i64 i, .string s]] w fun e w' => e = .returned (.bool true) ∧ Ext w w' := by
 unfold VOk at h
 dsimp only at h
 rcases h with ⟨rfl, rfl, h⟩ | ⟨rfl, rfl | rfl, h⟩ | ⟨rfl, h⟩ | ⟨rfl, rfl, h⟩
 · rw [qbm h]; clear h
   go_enter Tryz.func18, Tryz.ntmps18
   go_wp2_with fail
   go_ret
   exact ⟨rfl, zae⟩
 · rw [qbm h]; clear h
   go_enter Tryz.func18, Tryz.ntmps18
   go_wp2_with fail
   go_ret
   exact ⟨rfl, zae⟩
 · rw [qbm h]; clear h
   go_enter Tryz.func18, Tryz.ntmps18
   go_wp2_with fail
   go_ret
   exact ⟨rfl, zae⟩
 · rw [qbm h]; clear h
   go_enter Tryz.func18, Tryz.ntmps18
   go_wp2_with fail
   go_ret
   exact ⟨rfl, zae⟩
 · have h2 : (s.size : Int) ≤ 64 := by omega
   clear h
   go_enter Tryz.func18, Tryz.ntmps18
   go_wp2_with fail
   go_ret
   exact ⟨rfl, zae⟩
set_option maxHeartbeats 8000000 in
set_option maxRecDepth 20000 in
theorem csame_err (w : World) (p1 : Option Addr) (n c1 : Nat) (ns : List Nd) (fi i : Int) (hr : NdsIn w p1 n c1 ns) (l : List Int) (m e a : Int) (hf : qaV (fewN ns) fi = (l, m, e, a)) (he : e ≠ 0) :
  Calls Tryz.prog 5 #[.agg #[.slice p1 n c1, .int .i64 fi], .int .i64 i] w fun e w' => e = .returned (.bool true) ∧ Ext w w' := by
 have FW := Lib.hid (fun W' (hx : Ext w W') => fewn_any fi W' (hr.ext hx))
 have CM := Lib.hid (fun W' nv base (h : World.ownsRow W' base 42 8 nv (fewN ns).length (qac (fewN ns))) => cmake_no fi W' h (qcW ns) l m e a hf he)
 have he2 : (e != 0) = true := by simpa using he
 clear hr hf he
 go_enter Tryz.func5, Tryz.ntmps5
 go_wp2_with fail
 go_at_call 6
 refine (FW.out _ zae).mono ?_
 rintro e' w1 ⟨nv, rfl, hrow, hx⟩
 obtain ⟨p2, c2, hv⟩ := qaj hrow
 subst hv
 obtain ⟨n2, hn2⟩ : ∃ n2, (fewN ns).length = n2 := ⟨_, rfl⟩
 have KX := Lib.hid ((KB.new w #[.slice p1 n c1, .int .i64 fi] 24).of_ext hx)
 have lk := KX.out.lt
 have k0f := KX.out.frozen 0
 have k1f := KX.out.frozen 1
 have k0c := KX.out.cell 0 _ rfl
 have k1c := KX.out.cell 1 _ rfl
 have HR := Lib.hid (show (w1.setCell ⟨w.heap.size, 0, none⟩ (.slice p2 (fewN ns).length c2)).ownsRow 0 42 8 (.slice p2 (fewN ns).length c2) (fewN ns).length (qac (fewN ns)) from qaf hrow fun k hk _ => heap_set_other _ _ _ _ _ (fun e => qbp hrow KX.out zbf (by rw [← e]; exact hk)))
 have HX := Lib.hid (show Ext w (w1.setCell ⟨w.heap.size, 0, none⟩ (.slice p2 (fewN ns).length c2)) from (((Ext.refl w).alloc _).trans hx).setCell (Nat.le_refl _) _)
 have KX1 := Lib.hid (KX.out.setAt 0 (.slice p2 (fewN ns).length c2) zbj)
 have HN2 := Lib.hid hn2
 rw [hn2] at HR HX KX1 ⊢
 clear hrow hx hn2
 go_wp2_with fail
 generalize hW1 : w1.setCell ⟨w.heap.size, 0, none⟩ (.slice p2 n2 c2) = W1 at *
 clear lk k0f k1f k0c k1c KX
 have lk := KX1.out.lt
 have k0c := KX1.out.cell 0 (.slice p2 n2 c2) rfl
 have k1c := KX1.out.cell 1 (.int .i64 fi) rfl
 have HRN := Lib.hid (show W1.ownsRow 0 42 8 (.slice p2 n2 c2) (fewN ns).length (qac (fewN ns)) from by have := HR.out; rw [← HN2.out] at this ⊢; exact this)
 clear hW1
 go_wp2_with (first
  | (go_at_call 7; (with_reducible refine (CM.out _ _ _ HRN.out).mono ?_); rintro e' w2 ⟨rfl, hx2⟩; have HX2 := Lib.hid (HX.out.trans hx2); have HR2 := Lib.hid (own_ext HRN.out hx2); have KX2 := Lib.hid (KX1.out.of_ext hx2); have k0c2 := KX2.out.cell 0 _ rfl; have k1c2 := KX2.out.cell 1 _ rfl; have lk2 := KX2.out.lt; clear hx2)
  | (go_at_call 7; (with_reducible refine (CM.out _ _ _ HR2.out).mono ?_); rintro e' w3 ⟨rfl, hx3⟩; have HX3 := Lib.hid (HX2.out.trans hx3); clear hx3)
  | (go_at_call 9; (with_reducible refine (qbZ _).mono ?_); rintro e' _ ⟨rfl, d4, os4, rfl⟩))
 go_ret
 exact ⟨rfl, HX3.out.trans zae⟩
set_option maxHeartbeats 8000000 in
set_option maxRecDepth 20000 in
theorem csame_ok (w : World) (p1 : Option Addr) (n c1 : Nat) (ns : List Nd) (fi i : Int) (hr : NdsIn w p1 n c1 ns) (l : List Int) (m a : Int) (hf : qaV (fewN ns) fi = (l, m, 0, a)) :
  Calls Tryz.prog 5 #[.agg #[.slice p1 n c1, .int .i64 fi], .int .i64 i] w fun e w' => e = .returned (.bool true) ∧ Ext w w' := by
 have FW := Lib.hid (fun W' (hx : Ext w W') => fewn_any fi W' (hr.ext hx))
 obtain ⟨R, hR, hsd⟩ := code_of hf
 have h5 := (qby hf).2.2.2
 have CM := Lib.hid (fun W' nv base (h : World.ownsRow W' base 42 8 nv (fewN ns).length (qac (fewN ns))) => cmake_ok fi W' h (qcW ns) zah l m a hf R hR)
 have HSD := Lib.hid hsd
 have HVL0 := Lib.hid (show R.vals.length ≤ 100000 from by have := code_vals hf hR; omega)
 clear hr hf hR hsd h5
 go_enter Tryz.func5, Tryz.ntmps5
 go_wp2_with fail
 go_at_call 6
 refine (FW.out _ zae).mono ?_
 rintro e' w1 ⟨nv, rfl, hrow, hx⟩
 obtain ⟨p2, c2, hv⟩ := qaj hrow
 subst hv
 obtain ⟨n2, hn2⟩ : ∃ n2, (fewN ns).length = n2 := ⟨_, rfl⟩
 have KX := Lib.hid ((KB.new w #[.slice p1 n c1, .int .i64 fi] 24).of_ext hx)
 have lk := KX.out.lt
 have k0f := KX.out.frozen 0
 have k1f := KX.out.frozen 1
 have k0c := KX.out.cell 0 _ rfl
 have k1c := KX.out.cell 1 _ rfl
 have HR := Lib.hid (show (w1.setCell ⟨w.heap.size, 0, none⟩ (.slice p2 (fewN ns).length c2)).ownsRow 0 42 8 (.slice p2 (fewN ns).length c2) (fewN ns).length (qac (fewN ns)) from qaf hrow fun k hk _ => heap_set_other _ _ _ _ _ (fun e => qbp hrow KX.out zbf (by rw [← e]; exact hk)))
 have HX := Lib.hid (show Ext w (w1.setCell ⟨w.heap.size, 0, none⟩ (.slice p2 (fewN ns).length c2)) from (((Ext.refl w).alloc _).trans hx).setCell (Nat.le_refl _) _)
 have KX1 := Lib.hid (KX.out.setAt 0 (.slice p2 (fewN ns).length c2) zbj)
 have HN2 := Lib.hid hn2
 rw [hn2] at HR HX KX1 ⊢
 clear hrow hx hn2
 go_wp2_with fail
 generalize hW1 : w1.setCell ⟨w.heap.size, 0, none⟩ (.slice p2 n2 c2) = W1 at *
 clear lk k0f k1f k0c k1c KX
 have lk := KX1.out.lt
 have k0c := KX1.out.cell 0 (.slice p2 n2 c2) rfl
 have k1c := KX1.out.cell 1 (.int .i64 fi) rfl
 have HRN := Lib.hid (show W1.ownsRow 0 42 8 (.slice p2 n2 c2) (fewN ns).length (qac (fewN ns)) from by have := HR.out; rw [← HN2.out] at this ⊢; exact this)
 clear hW1
 go_wp2_with (first
  | (go_at_call 7; (with_reducible refine (CM.out _ _ _ HRN.out).mono ?_); rintro e' w2 ⟨c, rfl, hc2, hx2⟩; have HX2 := Lib.hid (HX.out.trans hx2); have HR2 := Lib.hid (own_ext HRN.out hx2); have HC2 := Lib.hid hc2; have KX2 := Lib.hid (KX1.out.of_ext hx2); have k0c2 := KX2.out.cell 0 _ rfl; have k1c2 := KX2.out.cell 1 _ rfl; have lk2 := KX2.out.lt; clear hx2 hc2)
  | (go_at_call 7; (with_reducible refine (CM.out _ _ _ HR2.out).mono ?_); rintro e' w3 ⟨c', rfl, hc3, hx3⟩; have HX3 := Lib.hid (HX2.out.trans hx3); have HR3 := Lib.hid (own_ext HR2.out hx3); have HC3 := Lib.hid (HC2.out.ext hx3); have HD3 := Lib.hid hc3; have KX3 := Lib.hid (KX2.out.of_ext hx3); have k0c3 := KX3.out.cell 0 _ rfl; have k1c3 := KX3.out.cell 1 _ rfl; have lk3 := KX3.out.lt; clear hx3 hc3)
  | (go_at_call 13; (with_reducible refine (qbW HC3.out).mono ?_); rintro e' _ ⟨rfl, rfl⟩)
  | (go_at_call 13; (with_reducible refine (qbW HD3.out).mono ?_); rintro e' _ ⟨rfl, rfl⟩)
  | (go_at_call 14; (with_reducible refine (chigh_any HC3.out).mono ?_); rintro e' _ ⟨rfl, rfl⟩)
  | (go_at_call 14; (with_reducible refine (chigh_any HD3.out).mono ?_); rintro e' _ ⟨rfl, rfl⟩)
  | (go_at_call 15; (with_reducible refine (qbq HC3.out (by have := HSD.out.n5; omega)).mono ?_); rintro e' w4 ⟨nv4, rfl, hn4, hx4⟩; rw [HN2.out] at hn4; obtain ⟨p4, k4, hv4⟩ := qaj hn4; subst hv4; have HN4 := Lib.hid hn4; have HX4 := Lib.hid hx4; clear hn4 hx4))
 have KO := Lib.hid (KB.new w4 #[.slice p4 n2 k4, .int .i64 fi] 24)
 obtain ⟨Bo, hBo⟩ : ∃ Bo, w4.heap.size = Bo := ⟨_, rfl⟩
 obtain ⟨w5, hw5⟩ : ∃ w5, w4.alloc (.cells #[.slice p4 n2 k4, .int .i64 fi] 24 (0, 0)) = w5 := ⟨_, rfl⟩
 have KO5 : Hid (KB Bo #[.slice p4 n2 k4, .int .i64 fi] 24 w5) := Lib.hid (by rw [← hw5, ← hBo]; exact KB.new w4 _ _)
 have HX5 : Hid (Ext w3 w5) := Lib.hid (by rw [← hw5]; exact HX4.out.alloc _)
 have HN5 : Hid (w5.ownsRow w3.heap.size 42 8 (.slice p4 n2 k4) n2 (qac (fewN ns))) := Lib.hid (by rw [← hw5]; exact own_ext HN4.out ((Ext.refl _).alloc _))
 rw [hBo]
 try rw [hw5]
 have SM := Lib.hid (fun W' b1 b2 nv' (h1 : W'.ownsRow b1 42 8 nv' n2 (qac (fewN ns))) (h2 : W'.ownsRow b2 42 8 (.slice p2 n2 c2) n2 (qac (fewN ns))) => show Calls Tryz.prog 19 #[.agg #[nv', .int .i64 fi], .agg #[.slice p2 n2 c2, .int .i64 fi]] W' fun e w' => e = .returned (.bool true) ∧ Ext W' w' from same_any (fewN ns) nv' (.slice p2 n2 c2) b1 b2 fi W' (by rw [HN2.out]; exact h1) (by rw [HN2.out]; exact h2) HSD.out.n5)
 have hn2i : (n2 : Int) ≤ 512 := by have := HSD.out.n5; have := HN2.out; omega
 obtain ⟨z, hz⟩ : ∃ z, R.ins.length = z := ⟨_, rfl⟩
 have HZ := Lib.hid hz
 have HLE := Lib.hid (show R.ins.length ≤ 100000 by have := HSD.out.l2; have := HSD.out.n5; omega)
 have CZ := Lib.hid (fun W' B c (h : CodeAt B c fi m (fewN ns) R W') => show Calls Tryz.prog 13 #[.pointer (some ⟨c, 0, none⟩)] W' fun e w' => e = .returned (.int .i64 (z : Int)) ∧ W' = w' from by have := qbW h; rw [HZ.out] at this; exact this)
 have HVL := Lib.hid (show R.vals.length ≤ 100000 from HVL0.out)
 clear KO hBo hw5 hz k0c k1c lk k0c2 k1c2 lk2 k0c3 k1c3 lk3
 go_loopw [12] (fun y wr => ∃ j : Nat, y = .int .i64 (j : Int) ∧ j ≤ n2 ∧ Ext w3 wr ∧ KB Bo #[.slice p4 n2 k4, .int .i64 fi] 24 wr ∧ ∃ xs, wr.ownsRow w3.heap.size 42 8 (.slice p4 n2 k4) n2 xs) (fun y _ => n2 - (intOf y).toNat)
 case atStart => exact ⟨0, rfl, Nat.zero_le _, HX5.out, KO5.out, _, HN5.out⟩
 case round =>
  obtain ⟨j, rfl, hj, hxr, hkb, xs, hro⟩ := hrel
  have HXr := Lib.hid hxr
  have KBr := Lib.hid hkb
  have RW := Lib.hid hro
  have v0 : wr.cell? ⟨Bo, 0, none⟩ = some (.slice p4 n2 k4) := KBr.out.cell 0 _ rfl
  have lv := KBr.out.lt
  have hj0 : 0 ≤ (j : Int) := by omega
  clear hxr hkb hro
  by_cases hlt : j < n2
  · have hjn : (j : Int) < (n2 : Int) := by omega
    obtain ⟨g4, rfl⟩ : ∃ g4, p4 = some ⟨g4, 0, none⟩ := by
     rcases Go.Joins.ownsRow_forms RW.out with ⟨_, h0⟩ | ⟨g1, c1, h0⟩
     · omega
     · simp at h0; exact ⟨g1, h0.1⟩
    have HLN := Lib.hid RW.out.1
    have HLT := Lib.hid hlt
    have HGB := Lib.hid (RW.out.lt g4 rfl).1
    have lg4 := (RW.out.lt g4 rfl).2
    have HNE := Lib.hid (show Bo ≠ g4 from fun e => qbp RW.out KBr.out zbf (by rw [e]; rfl))
    obtain ⟨y0, hy0⟩ : ∃ v, xs[j * 8]? = some v := ⟨_, List.getElem?_eq_getElem (by rw [HLN.out]; omega)⟩
    have cy0 := RW.out.cells (g := g4) rfl _ _ hy0
    rw [Addr.add_lit, Nat.zero_add] at cy0
    have fy0 := qbf RW.out (j * 8)
    obtain ⟨y1, hy1⟩ : ∃ v, xs[j * 8 + 1]? = some v := ⟨_, List.getElem?_eq_getElem (by rw [HLN.out]; omega)⟩
    have cy1 := RW.out.cells (g := g4) rfl _ _ hy1
    rw [Addr.add_lit, Nat.zero_add] at cy1
    have fy1 := qbf RW.out (j * 8 + 1)
    obtain ⟨y2, hy2⟩ : ∃ v, xs[j * 8 + 2]? = some v := ⟨_, List.getElem?_eq_getElem (by rw [HLN.out]; omega)⟩
    have cy2 := RW.out.cells (g := g4) rfl _ _ hy2
    rw [Addr.add_lit, Nat.zero_add] at cy2
    have fy2 := qbf RW.out (j * 8 + 2)
    obtain ⟨y3, hy3⟩ : ∃ v, xs[j * 8 + 3]? = some v := ⟨_, List.getElem?_eq_getElem (by rw [HLN.out]; omega)⟩
    have cy3 := RW.out.cells (g := g4) rfl _ _ hy3
    rw [Addr.add_lit, Nat.zero_add] at cy3
    have fy3 := qbf RW.out (j * 8 + 3)
    obtain ⟨y4, hy4⟩ : ∃ v, xs[j * 8 + 4]? = some v := ⟨_, List.getElem?_eq_getElem (by rw [HLN.out]; omega)⟩
    have cy4 := RW.out.cells (g := g4) rfl _ _ hy4
    rw [Addr.add_lit, Nat.zero_add] at cy4
    have fy4 := qbf RW.out (j * 8 + 4)
    obtain ⟨y5, hy5⟩ : ∃ v, xs[j * 8 + 5]? = some v := ⟨_, List.getElem?_eq_getElem (by rw [HLN.out]; omega)⟩
    have cy5 := RW.out.cells (g := g4) rfl _ _ hy5
    rw [Addr.add_lit, Nat.zero_add] at cy5
    have fy5 := qbf RW.out (j * 8 + 5)
    obtain ⟨y6, hy6⟩ : ∃ v, xs[j * 8 + 6]? = some v := ⟨_, List.getElem?_eq_getElem (by rw [HLN.out]; omega)⟩
    have cy6 := RW.out.cells (g := g4) rfl _ _ hy6
    rw [Addr.add_lit, Nat.zero_add] at cy6
    have fy6 := qbf RW.out (j * 8 + 6)
    obtain ⟨y7, hy7⟩ : ∃ v, xs[j * 8 + 7]? = some v := ⟨_, List.getElem?_eq_getElem (by rw [HLN.out]; omega)⟩
    have cy7 := RW.out.cells (g := g4) rfl _ _ hy7
    rw [Addr.add_lit, Nat.zero_add] at cy7
    have fy7 := qbf RW.out (j * 8 + 7)
    have R0 := qaw RW.out (i := j * 8) (by have := HLT.out; omega) (.int .i64 (-9))
    have R1 := qaw R0 (i := j * 8 + 1) (by have := HLT.out; omega) (.int .i64 0)
    have R2 := qaw R1 (i := j * 8 + 2) (by have := HLT.out; omega) (.int .i64 0)
    have R3 := qaw R2 (i := j * 8 + 3) (by have := HLT.out; omega) (.int .i64 0)
    have R4 := qaw R3 (i := j * 8 + 4) (by have := HLT.out; omega) (.int .i64 0)
    have R5 := qaw R4 (i := j * 8 + 5) (by have := HLT.out; omega) (.int .i64 0)
    have R6 := qaw R5 (i := j * 8 + 6) (by have := HLT.out; omega) (.string ⟨#[]⟩)
    have R7 := qaw R6 (i := j * 8 + 7) (by have := HLT.out; omega) (.string ⟨#[]⟩)
    have HRO := Lib.hid R7
    have HX8 := Lib.hid ((((((((HXr.out.setCell (show w3.heap.size ≤ (⟨g4, j * 8, none⟩ : Addr).block from HGB.out) (.int .i64 (-9))).setCell (show w3.heap.size ≤ (⟨g4, j * 8 + 1, none⟩ : Addr).block from HGB.out) (.int .i64 0)).setCell (show w3.heap.size ≤ (⟨g4, j * 8 + 2, none⟩ : Addr).block from HGB.out) (.int .i64 0)).setCell (show w3.heap.size ≤ (⟨g4, j * 8 + 3, none⟩ : Addr).block from HGB.out) (.int .i64 0)).setCell (show w3.heap.size ≤ (⟨g4, j * 8 + 4, none⟩ : Addr).block from HGB.out) (.int .i64 0)).setCell (show w3.heap.size ≤ (⟨g4, j * 8 + 5, none⟩ : Addr).block from HGB.out) (.int .i64 0)).setCell (show w3.heap.size ≤ (⟨g4, j * 8 + 6, none⟩ : Addr).block from HGB.out) (.string ⟨#[]⟩)).setCell (show w3.heap.size ≤ (⟨g4, j * 8 + 7, none⟩ : Addr).block from HGB.out) (.string ⟨#[]⟩))
    have HK8 := Lib.hid ((((((((KBr.out.setOther (j * 8) (.int .i64 (-9)) HNE.out).setOther (j * 8 + 1) (.int .i64 0) HNE.out).setOther (j * 8 + 2) (.int .i64 0) HNE.out).setOther (j * 8 + 3) (.int .i64 0) HNE.out).setOther (j * 8 + 4) (.int .i64 0) HNE.out).setOther (j * 8 + 5) (.int .i64 0) HNE.out).setOther (j * 8 + 6) (.string ⟨#[]⟩) HNE.out).setOther (j * 8 + 7) (.string ⟨#[]⟩) HNE.out)
    have vv0 : ((((((((wr.setCell ⟨g4, j * 8, none⟩ (.int .i64 (-9))).setCell ⟨g4, j * 8 + 1, none⟩ (.int .i64 0)).setCell ⟨g4, j * 8 + 2, none⟩ (.int .i64 0)).setCell ⟨g4, j * 8 + 3, none⟩ (.int .i64 0)).setCell ⟨g4, j * 8 + 4, none⟩ (.int .i64 0)).setCell ⟨g4, j * 8 + 5, none⟩ (.int .i64 0)).setCell ⟨g4, j * 8 + 6, none⟩ (.string ⟨#[]⟩)).setCell ⟨g4, j * 8 + 7, none⟩ (.string ⟨#[]⟩)).cell? ⟨Bo, 0, none⟩ = some (.slice (some ⟨g4, 0, none⟩) n2 k4) := HK8.out.cell 0 _ rfl
    clear R0 R1 R2 R3 R4 R5 R6 R7 hy0 hy1 hy2 hy3 hy4 hy5 hy6 hy7 hlt hj
    go_wp2_with fail
    go_roundw
    case rel => exact ⟨j + 1, by go_num, by have := HLT.out; omega, HX8.out, HK8.out, _, HRO.out⟩
    case measure => have := HLT.out; simp [intOf]; omega
  · have hje : n2 = j := by omega
    subst hje
    clear hlt hj
    have HC5 := Lib.hid (HC3.out.ext HXr.out)
    have HD5 := Lib.hid (HD3.out.ext HXr.out)
    clear RW KBr
    go_wp2_with fail
    clear v0 lv
    have hzi : (z : Int) ≤ 100000 := by have := HZ.out; have := HLE.out; omega
    go_loopw [13] (fun y wr => ∃ q : Nat, y = .int .i64 (q : Int) ∧ q ≤ z ∧ Ext w3 wr) (fun y _ => z - (intOf y).toNat)
    case atStart => exact ⟨0, rfl, Nat.zero_le _, HXr.out⟩
    case round =>
     obtain ⟨q, rfl, hq, hxr⟩ := hrel
     clear HXr HC5 HD5
     have HXr := Lib.hid hxr
     have HCr := Lib.hid (HC3.out.ext hxr)
     have HDr := Lib.hid (HD3.out.ext hxr)
     have hq0 : 0 ≤ (q : Int) := by omega
     clear hxr
     by_cases hlt : q < z
     · have hqz : (q : Int) < (z : Int) := by omega
       obtain ⟨x, hx⟩ : ∃ x, R.ins[q]? = some x := ⟨_, List.getElem?_eq_getElem (by rw [HZ.out]; exact hlt)⟩
       have HLT := Lib.hid hlt
       obtain ⟨xo, xa, xb, xn⟩ := x
       have AT := Lib.hid (fun W' B c (h : CodeAt B c fi m (fewN ns) R W') => cat_yes h HLE.out q _ hx)
       dsimp only at AT
       clear hx hlt hq
       go_wp2_with (first
        | (go_at_call 13; (with_reducible refine (CZ.out _ _ _ HCr.out).mono ?_); rintro e' _ ⟨rfl, rfl⟩)
        | (go_at_call 16; (with_reducible refine (AT.out _ _ _ HCr.out).mono ?_); rintro e' _ ⟨rfl, d6, o6, rfl⟩)
        | (go_at_call 16; (with_reducible refine (AT.out _ _ _ (HDr.out.ext zae)).mono ?_); rintro e' _ ⟨rfl, d7, o7, rfl⟩))
       go_roundw
       case rel => exact ⟨q + 1, by go_num, by have := HLT.out; omega, HXr.out.trans zae⟩
       case measure => have := HLT.out; simp [intOf]; omega
     · have hqe : q = z := by omega
       subst hqe
       clear hlt hq
       by_cases hi : 0 ≤ i ∧ i < (R.vals.length : Int)
       · obtain ⟨k, rfl⟩ : ∃ k : Nat, i = (k : Int) := ⟨i.toNat, by omega⟩
         obtain ⟨v, hv⟩ : ∃ v, R.vals[k]? = some v := ⟨_, List.getElem?_eq_getElem zah⟩
         have HVO := Lib.hid (HSD.out.fn.2 v (List.mem_of_getElem? hv))
         obtain ⟨xk, xi, xs⟩ := v
         have VL := Lib.hid (fun W' B (h : CodeAt B c fi m (fewN ns) R W') => cvalue_yes h HVL.out k _ hv)
         dsimp only at VL
         clear hi hv
         go_wp2_with (first
          | (go_at_call 13; (with_reducible refine (CZ.out _ _ _ HCr.out).mono ?_); rintro e' _ ⟨rfl, rfl⟩)
          | (go_at_call 17; (with_reducible refine (VL.out _ _ HCr.out).mono ?_); rintro e' w6 ⟨rfl, hx6⟩; have HX6 := Lib.hid (HXr.out.trans hx6); have HC6 := Lib.hid (HCr.out.ext hx6); clear hx6))
         obtain ⟨Bv, hBv⟩ : ∃ B, w6.heap.size = B := ⟨_, rfl⟩
         obtain ⟨Bp, hBp⟩ : ∃ B, w.heap.size = B := ⟨_, rfl⟩
         obtain ⟨w7, hw7⟩ : ∃ w7, w6.alloc (.cells #[.int .i64 xk, .int .i64 xi, .string xs] 48 (0, 0)) = w7 := ⟨_, rfl⟩
         have KV : Hid (KB Bv #[.int .i64 xk, .int .i64 xi, .string xs] 48 w7) := Lib.hid (by rw [← hw7, ← hBv]; exact KB.new w6 _ _)
         have hx67 : Ext w6 w7 := by rw [← hw7]; exact (Ext.refl _).alloc _
         have KP7 : Hid (KB Bp #[.slice p2 n2 c2, .int .i64 fi] 24 w7) := Lib.hid (by rw [← hBp]; exact KX3.out.of_ext (HX6.out.trans hx67))
         have HC7 := Lib.hid (HC6.out.ext hx67)
         have HX7 := Lib.hid (HX3.out.trans (HX6.out.trans hx67))
         have HP7 := Lib.hid (own_ext HR3.out (HX6.out.trans hx67))
         rw [hBv, hBp]
         try rw [hw7]
         rw [HN2.out] at HP7
         clear hBv hBp hw7 hx67
         have b0 : w7.cell? ⟨Bv, 0, none⟩ = some (.int .i64 xk) := KV.out.cell 0 _ rfl
         have b1 : w7.cell? ⟨Bv, 1, none⟩ = some (.int .i64 xi) := KV.out.cell 1 _ rfl
         have b2 : w7.cell? ⟨Bv, 2, none⟩ = some (.string xs) := KV.out.cell 2 _ rfl
         have z0 : w7.cell? ⟨Bp, 0, none⟩ = some (.slice p2 n2 c2) := KP7.out.cell 0 _ rfl
         have z1 : w7.cell? ⟨Bp, 1, none⟩ = some (.int .i64 fi) := KP7.out.cell 1 _ rfl
         refine wp_region_held_drew (S := (fun w' => w'.cell? ⟨Bv, 0, none⟩ = some (.int .i64 xk) ∧ w'.cell? ⟨Bv, 1, none⟩ = some (.int .i64 xi) ∧ w'.cell? ⟨Bv, 2, none⟩ = some (.string xs) ∧ w'.cell? ⟨Bp, 0, none⟩ = some (.slice p2 n2 c2) ∧ w'.cell? ⟨Bp, 1, none⟩ = some (.int .i64 fi))) zad ⟨cell_ext b0 zae, cell_ext b1 zae, cell_ext b2 zae, cell_ext z0 zae, cell_ext z1 zae⟩ (fun hS => ?_)
         refine wpAnyH_take (i := 0) (oi := _) (v := .bool true) rfl zad zad zad (fun _ _ _ h => h) (Or.inl ⟨by rfl, fun W hW => by go_simp⟩) hS ?_
         (try simp only [Act.put, List.getElem_toArray, List.getElem_cons_succ, List.getElem_cons_zero, List.setIfInBounds_toArray, List.set_cons_zero, List.set_cons_succ])
         refine wpAnyH_take (i := 1) (oi := _) (v := .bool true) rfl zad zad zad (fun _ _ _ h => h) (Or.inl ⟨by rfl, fun W hW => by go_simp⟩) hS ?_
         (try simp only [Act.put, List.getElem_toArray, List.getElem_cons_succ, List.getElem_cons_zero, List.setIfInBounds_toArray, List.set_cons_zero, List.set_cons_succ])
         refine wpAnyH_take (i := 2) (oi := _) (v := .agg #[.int .i64 xk, .int .i64 xi, .string xs]) rfl zad zad zad (fun _ _ _ h => h) (Or.inl ⟨by rfl, fun W hW => by (obtain ⟨hW1, hW2, hW3, hW4, hW5⟩ := hW; go_simp)⟩) hS ?_
         (try simp only [Act.put, List.getElem_toArray, List.getElem_cons_succ, List.getElem_cons_zero, List.setIfInBounds_toArray, List.set_cons_zero, List.set_cons_succ])
         refine wpAnyH_ready (rs := [3]) zad zbj ?_
         refine AllReadyH.cons (o := _) rfl (fun K hK => ?_) AllReadyH.nil
         rw [if_pos (by rfl)]
         go_simp
         refine (vmay_ok xk xi xs HVO.out _).mono ?_
         rintro e' w8 ⟨rfl, hx8⟩
         have hxw : Ext w7 w8 := Ext.trans ((Ext.refl _).drew) hx8
         clear hx8
         refine hK.out _ _ (⟨cell_ext b0 zbt, cell_ext b1 zbt, cell_ext b2 zbt, cell_ext z0 zbt, cell_ext z1 zbt⟩) (fun hS1 => ?_)
         clear hK K
         (try simp only [Act.put, List.getElem_toArray, List.getElem_cons_succ, List.getElem_cons_zero, List.setIfInBounds_toArray, List.set_cons_zero, List.set_cons_succ])
         refine wpAnyH_take (i := 4) (oi := _) (v := .bool true) rfl zad zad zad (fun _ _ _ h => h) (Or.inl ⟨by rfl, fun W hW => by go_simp⟩) hS1 ?_
         (try simp only [Act.put, List.getElem_toArray, List.getElem_cons_succ, List.getElem_cons_zero, List.setIfInBounds_toArray, List.set_cons_zero, List.set_cons_succ])
         refine wpAnyH_take (i := 5) (oi := _) (v := .bool true) rfl zad zad zad (fun _ _ _ h => h) (Or.inl ⟨by rfl, fun W hW => by go_simp⟩) hS1 ?_
         (try simp only [Act.put, List.getElem_toArray, List.getElem_cons_succ, List.getElem_cons_zero, List.setIfInBounds_toArray, List.set_cons_zero, List.set_cons_succ])
         refine wpAnyH_take (i := 6) (oi := _) (v := undef) rfl zad zad zad (fun _ _ _ h => h) (Or.inr ⟨by rfl, rfl⟩) hS1 ?_
         (try simp only [Act.put, List.getElem_toArray, List.getElem_cons_succ, List.getElem_cons_zero, List.setIfInBounds_toArray, List.set_cons_zero, List.set_cons_succ])
         refine wpAnyH_take (i := 7) (oi := _) (v := undef) rfl zad zad zad (fun _ _ _ h => h) (Or.inr ⟨by rfl, rfl⟩) hS1 ?_
         (try simp only [Act.put, List.getElem_toArray, List.getElem_cons_succ, List.getElem_cons_zero, List.setIfInBounds_toArray, List.set_cons_zero, List.set_cons_succ])
         refine wpAnyH_take (i := 8) (oi := _) (v := undef) rfl zad zad zad (fun _ _ _ h => h) (Or.inr ⟨by rfl, rfl⟩) hS1 ?_
         (try simp only [Act.put, List.getElem_toArray, List.getElem_cons_succ, List.getElem_cons_zero, List.setIfInBounds_toArray, List.set_cons_zero, List.set_cons_succ])
         refine wpAnyH_take (i := 9) (oi := _) (v := undef) rfl zad zad zad (fun _ _ _ h => h) (Or.inr ⟨by rfl, rfl⟩) hS1 ?_
         (try simp only [Act.put, List.getElem_toArray, List.getElem_cons_succ, List.getElem_cons_zero, List.setIfInBounds_toArray, List.set_cons_zero, List.set_cons_succ])
         refine wpAnyH_take (i := 10) (oi := _) (v := undef) rfl zad zad zad (fun _ _ _ h => h) (Or.inr ⟨by rfl, rfl⟩) hS1 ?_
         (try simp only [Act.put, List.getElem_toArray, List.getElem_cons_succ, List.getElem_cons_zero, List.setIfInBounds_toArray, List.set_cons_zero, List.set_cons_succ])
         refine wpAnyH_take (i := 11) (oi := _) (v := undef) rfl zad zad zad (fun _ _ _ h => h) (Or.inr ⟨by rfl, rfl⟩) hS1 ?_
         (try simp only [Act.put, List.getElem_toArray, List.getElem_cons_succ, List.getElem_cons_zero, List.setIfInBounds_toArray, List.set_cons_zero, List.set_cons_succ])
         refine wpAnyH_take (i := 12) (oi := _) (v := undef) rfl zad zad zad (fun _ _ _ h => h) (Or.inr ⟨by rfl, rfl⟩) hS1 ?_
         (try simp only [Act.put, List.getElem_toArray, List.getElem_cons_succ, List.getElem_cons_zero, List.setIfInBounds_toArray, List.set_cons_zero, List.set_cons_succ])
         refine wpAnyH_take (i := 13) (oi := _) (v := .bool true) rfl zad zad zad (fun _ _ _ h => h) (Or.inl ⟨by rfl, fun W hW => by go_simp⟩) hS1 ?_
         (try simp only [Act.put, List.getElem_toArray, List.getElem_cons_succ, List.getElem_cons_zero, List.setIfInBounds_toArray, List.set_cons_zero, List.set_cons_succ])
         refine wpAnyH_take (i := 14) (oi := _) (v := .bool true) rfl zad zad zad (fun _ _ _ h => h) (Or.inl ⟨by rfl, fun W hW => by go_simp⟩) hS1 ?_
         (try simp only [Act.put, List.getElem_toArray, List.getElem_cons_succ, List.getElem_cons_zero, List.setIfInBounds_toArray, List.set_cons_zero, List.set_cons_succ])
         refine wpAnyH_take (i := 15) (oi := _) (v := .pointer (some ⟨c, 0, none⟩)) rfl zad zad zad (fun _ _ _ h => h) (Or.inl ⟨by rfl, fun W hW => by go_simp⟩) hS1 ?_
         (try simp only [Act.put, List.getElem_toArray, List.getElem_cons_succ, List.getElem_cons_zero, List.setIfInBounds_toArray, List.set_cons_zero, List.set_cons_succ])
         refine wpAnyH_take (i := 17) (oi := _) (v := .agg #[.slice p2 n2 c2, .int .i64 fi]) rfl zad zad zad (fun _ _ _ h => h) (Or.inl ⟨by rfl, fun W hW => by (obtain ⟨hW1, hW2, hW3, hW4, hW5⟩ := hW; go_simp)⟩) hS1 ?_
         (try simp only [Act.put, List.getElem_toArray, List.getElem_cons_succ, List.getElem_cons_zero, List.setIfInBounds_toArray, List.set_cons_zero, List.set_cons_succ])
         refine wpAnyH_ready (rs := [16]) zad zbj ?_
         refine AllReadyH.cons (o := _) rfl (fun K hK => ?_) AllReadyH.nil
         rw [if_pos (by rfl)]
         go_simp
         refine (qbq (HC7.out.ext hxw) (by have := HSD.out.n5; omega)).mono ?_
         rintro e' w9 ⟨nv9, rfl, hn9, hx9⟩
         rw [HN2.out] at hn9
         obtain ⟨p9, k9, hv9⟩ := qaj hn9
         subst hv9
         have hxw9 : Ext w7 w9 := Ext.trans hxw hx9
         have HN9 := Lib.hid hn9
         clear hx9 hn9
         refine hK.out _ _ (⟨cell_ext b0 zaw, cell_ext b1 zaw, cell_ext b2 zaw, cell_ext z0 zaw, cell_ext z1 zaw⟩) (fun hS2 => ?_)
         clear hK K
         (try simp only [Act.put, List.getElem_toArray, List.getElem_cons_succ, List.getElem_cons_zero, List.setIfInBounds_toArray, List.set_cons_zero, List.set_cons_succ])
         refine wpAnyH_ready (rs := [18]) zad zbj ?_
         refine AllReadyH.cons (o := _) rfl (fun K hK => ?_) AllReadyH.nil
         rw [if_pos (by rfl)]
         go_simp
         refine (SM.out _ _ _ _ HN9.out (own_ext HP7.out hxw9)).mono ?_
         rintro e' w10 ⟨rfl, hx10⟩
         have hxw10 : Ext w7 w10 := Ext.trans hxw9 hx10
         clear hx10
         refine hK.out _ _ (⟨cell_ext b0 zau, cell_ext b1 zau, cell_ext b2 zau, cell_ext z0 zau, cell_ext z1 zau⟩) (fun hS3 => ?_)
         clear hK K
         (try simp only [Act.put, List.getElem_toArray, List.getElem_cons_succ, List.getElem_cons_zero, List.setIfInBounds_toArray, List.set_cons_zero, List.set_cons_succ])
         refine wpAnyH_take (i := 19) (oi := _) (v := .bool true) rfl zad zad zad (fun _ _ _ h => h) (Or.inl ⟨by rfl, fun W hW => by go_simp⟩) hS3 ?_
         (try simp only [Act.put, List.getElem_toArray, List.getElem_cons_succ, List.getElem_cons_zero, List.setIfInBounds_toArray, List.set_cons_zero, List.set_cons_succ])
         refine wpAnyH_take (i := 20) (oi := _) (v := .bool true) rfl zad zad zad (fun _ _ _ h => h) (Or.inl ⟨by rfl, fun W hW => by go_simp⟩) hS3 ?_
         (try simp only [Act.put, List.getElem_toArray, List.getElem_cons_succ, List.getElem_cons_zero, List.setIfInBounds_toArray, List.set_cons_zero, List.set_cons_succ])
         refine wpAnyH_ready (rs := [21]) zad zbj ?_
         refine AllReadyH.cons (o := _) rfl (fun K hK => ?_) AllReadyH.nil
         rw [if_pos (by rfl)]
         go_simp
         refine (qbZ _).mono ?_
         rintro e' w11 ⟨rfl, hx11⟩
         have hxw11 : Ext w7 w11 := Ext.trans hxw10 hx11
         clear hx11
         refine hK.out _ _ (⟨cell_ext b0 zav, cell_ext b1 zav, cell_ext b2 zav, cell_ext z0 zav, cell_ext z1 zav⟩) (fun hS4 => ?_)
         clear hK K
         (try simp only [Act.put, List.getElem_toArray, List.getElem_cons_succ, List.getElem_cons_zero, List.setIfInBounds_toArray, List.set_cons_zero, List.set_cons_succ])
         refine wpAnyH_take (i := 22) (oi := _) (v := .bool true) rfl zad zad zad (fun _ _ _ h => h) (Or.inl ⟨by rfl, fun W hW => by go_simp⟩) hS4 ?_
         (try simp only [Act.put, List.getElem_toArray, List.getElem_cons_succ, List.getElem_cons_zero, List.setIfInBounds_toArray, List.set_cons_zero, List.set_cons_succ])
         refine wpAnyH_take (i := 23) (oi := _) (v := .bool true) rfl zad zad zad (fun _ _ _ h => h) (Or.inl ⟨by rfl, fun W hW => by go_simp⟩) hS4 ?_
         (try simp only [Act.put, List.getElem_toArray, List.getElem_cons_succ, List.getElem_cons_zero, List.setIfInBounds_toArray, List.set_cons_zero, List.set_cons_succ])
         refine wpAnyH_done zad ?_ _
         go_wp2_with fail
         go_ret
         exact ⟨rfl, HX7.out.trans hxw11⟩
       · have HI := Lib.hid (show i < 0 ∨ (R.vals.length : Int) ≤ i by omega)
         clear hi
         go_wp2_with (first
          | (go_at_call 13; (with_reducible refine (CZ.out _ _ _ HCr.out).mono ?_); rintro e' _ ⟨rfl, rfl⟩)
          | (go_at_call 17; (with_reducible refine (cvalue_no HCr.out HVL.out i HI.out).mono ?_); rintro e' w6 ⟨rfl, hx6⟩; have HX6 := Lib.hid (HXr.out.trans hx6); have HC6 := Lib.hid (HCr.out.ext hx6); clear hx6))
         obtain ⟨Bv, hBv⟩ : ∃ B, w6.heap.size = B := ⟨_, rfl⟩
         obtain ⟨Bp, hBp⟩ : ∃ B, w.heap.size = B := ⟨_, rfl⟩
         obtain ⟨w7, hw7⟩ : ∃ w7, w6.alloc (.cells #[.int .i64 0, .int .i64 0, .string ⟨#[]⟩] 48 (0, 0)) = w7 := ⟨_, rfl⟩
         have KV : Hid (KB Bv #[.int .i64 0, .int .i64 0, .string ⟨#[]⟩] 48 w7) := Lib.hid (by rw [← hw7, ← hBv]; exact KB.new w6 _ _)
         have hx67 : Ext w6 w7 := by rw [← hw7]; exact (Ext.refl _).alloc _
         have KP7 : Hid (KB Bp #[.slice p2 n2 c2, .int .i64 fi] 24 w7) := Lib.hid (by rw [← hBp]; exact KX3.out.of_ext (HX6.out.trans hx67))
         have HC7 := Lib.hid (HC6.out.ext hx67)
         have HX7 := Lib.hid (HX3.out.trans (HX6.out.trans hx67))
         have HP7 := Lib.hid (own_ext HR3.out (HX6.out.trans hx67))
         rw [hBv, hBp]
         try rw [hw7]
         rw [HN2.out] at HP7
         clear hBv hBp hw7 hx67
         have b0 : w7.cell? ⟨Bv, 0, none⟩ = some (.int .i64 0) := KV.out.cell 0 _ rfl
         have b1 : w7.cell? ⟨Bv, 1, none⟩ = some (.int .i64 0) := KV.out.cell 1 _ rfl
         have b2 : w7.cell? ⟨Bv, 2, none⟩ = some (.string ⟨#[]⟩) := KV.out.cell 2 _ rfl
         have z0 : w7.cell? ⟨Bp, 0, none⟩ = some (.slice p2 n2 c2) := KP7.out.cell 0 _ rfl
         have z1 : w7.cell? ⟨Bp, 1, none⟩ = some (.int .i64 fi) := KP7.out.cell 1 _ rfl
         refine wp_region_held_drew (S := (fun w' => w'.cell? ⟨Bv, 0, none⟩ = some (.int .i64 0) ∧ w'.cell? ⟨Bv, 1, none⟩ = some (.int .i64 0) ∧ w'.cell? ⟨Bv, 2, none⟩ = some (.string ⟨#[]⟩) ∧ w'.cell? ⟨Bp, 0, none⟩ = some (.slice p2 n2 c2) ∧ w'.cell? ⟨Bp, 1, none⟩ = some (.int .i64 fi))) zad ⟨cell_ext b0 zae, cell_ext b1 zae, cell_ext b2 zae, cell_ext z0 zae, cell_ext z1 zae⟩ (fun hS => ?_)
         refine wpAnyH_take (i := 0) (oi := _) (v := .bool false) rfl zad zad zad (fun _ _ _ h => h) (Or.inl ⟨by rfl, fun W hW => by go_simp⟩) hS ?_
         (try simp only [Act.put, List.getElem_toArray, List.getElem_cons_succ, List.getElem_cons_zero, List.setIfInBounds_toArray, List.set_cons_zero, List.set_cons_succ])
         refine wpAnyH_take (i := 1) (oi := _) (v := .bool false) rfl zad zad zad (fun _ _ _ h => h) (Or.inl ⟨by rfl, fun W hW => by go_simp⟩) hS ?_
         (try simp only [Act.put, List.getElem_toArray, List.getElem_cons_succ, List.getElem_cons_zero, List.setIfInBounds_toArray, List.set_cons_zero, List.set_cons_succ])
         refine wpAnyH_take (i := 2) (oi := _) (v := undef) rfl zad zad zad (fun _ _ _ h => h) (Or.inr ⟨by rfl, rfl⟩) hS ?_
         (try simp only [Act.put, List.getElem_toArray, List.getElem_cons_succ, List.getElem_cons_zero, List.setIfInBounds_toArray, List.set_cons_zero, List.set_cons_succ])
         refine wpAnyH_take (i := 3) (oi := _) (v := undef) rfl zad zad zad (fun _ _ _ h => h) (Or.inr ⟨by rfl, rfl⟩) hS ?_
         (try simp only [Act.put, List.getElem_toArray, List.getElem_cons_succ, List.getElem_cons_zero, List.setIfInBounds_toArray, List.set_cons_zero, List.set_cons_succ])
         refine wpAnyH_take (i := 4) (oi := _) (v := .bool false) rfl zad zad zad (fun _ _ _ h => h) (Or.inl ⟨by rfl, fun W hW => by go_simp⟩) hS ?_
         (try simp only [Act.put, List.getElem_toArray, List.getElem_cons_succ, List.getElem_cons_zero, List.setIfInBounds_toArray, List.set_cons_zero, List.set_cons_succ])
         refine wpAnyH_take (i := 5) (oi := _) (v := .bool false) rfl zad zad zad (fun _ _ _ h => h) (Or.inl ⟨by rfl, fun W hW => by go_simp⟩) hS ?_
         (try simp only [Act.put, List.getElem_toArray, List.getElem_cons_succ, List.getElem_cons_zero, List.setIfInBounds_toArray, List.set_cons_zero, List.set_cons_succ])
         refine wpAnyH_take (i := 6) (oi := _) (v := .bool false) rfl zad zad zad (fun _ _ _ h => h) (Or.inl ⟨by rfl, fun W hW => by go_simp⟩) hS ?_
         (try simp only [Act.put, List.getElem_toArray, List.getElem_cons_succ, List.getElem_cons_zero, List.setIfInBounds_toArray, List.set_cons_zero, List.set_cons_succ])
         refine wpAnyH_take (i := 7) (oi := _) (v := .bool true) rfl zad zad zad (fun _ _ _ h => h) (Or.inl ⟨by rfl, fun W hW => by go_simp⟩) hS ?_
         (try simp only [Act.put, List.getElem_toArray, List.getElem_cons_succ, List.getElem_cons_zero, List.setIfInBounds_toArray, List.set_cons_zero, List.set_cons_succ])
         refine wpAnyH_take (i := 8) (oi := _) (v := .bool true) rfl zad zad zad (fun _ _ _ h => h) (Or.inl ⟨by rfl, fun W hW => by go_simp⟩) hS ?_
         (try simp only [Act.put, List.getElem_toArray, List.getElem_cons_succ, List.getElem_cons_zero, List.setIfInBounds_toArray, List.set_cons_zero, List.set_cons_succ])
         refine wpAnyH_take (i := 9) (oi := _) (v := .agg #[.int .i64 0, .int .i64 0, .string ⟨#[]⟩]) rfl zad zad zad (fun _ _ _ h => h) (Or.inl ⟨by rfl, fun W hW => by (obtain ⟨hW1, hW2, hW3, hW4, hW5⟩ := hW; go_simp)⟩) hS ?_
         (try simp only [Act.put, List.getElem_toArray, List.getElem_cons_succ, List.getElem_cons_zero, List.setIfInBounds_toArray, List.set_cons_zero, List.set_cons_succ])
         refine wpAnyH_take (i := 10) (oi := _) (v := .agg #[.int .i64 0, .int .i64 0, .string ⟨#[]⟩]) rfl zad zad zad (fun _ _ _ h => h) (Or.inl ⟨by rfl, fun W hW => by go_simp⟩) hS ?_
         (try simp only [Act.put, List.getElem_toArray, List.getElem_cons_succ, List.getElem_cons_zero, List.setIfInBounds_toArray, List.set_cons_zero, List.set_cons_succ])
         refine wpAnyH_take (i := 11) (oi := _) (v := .bool true) rfl zad zad zad (fun _ _ _ h => h) (Or.inl ⟨by rfl, fun W hW => by go_simp⟩) hS ?_
         (try simp only [Act.put, List.getElem_toArray, List.getElem_cons_succ, List.getElem_cons_zero, List.setIfInBounds_toArray, List.set_cons_zero, List.set_cons_succ])
         refine wpAnyH_take (i := 12) (oi := _) (v := .bool true) rfl zad zad zad (fun _ _ _ h => h) (Or.inl ⟨by rfl, fun W hW => by go_simp⟩) hS ?_
         (try simp only [Act.put, List.getElem_toArray, List.getElem_cons_succ, List.getElem_cons_zero, List.setIfInBounds_toArray, List.set_cons_zero, List.set_cons_succ])
         have hxw : Ext w7 w7.drew := (Ext.refl _).drew
         refine wpAnyH_take (i := 13) (oi := _) (v := .bool true) rfl zad zad zad (fun _ _ _ h => h) (Or.inl ⟨by rfl, fun W hW => by go_simp⟩) hS ?_
         (try simp only [Act.put, List.getElem_toArray, List.getElem_cons_succ, List.getElem_cons_zero, List.setIfInBounds_toArray, List.set_cons_zero, List.set_cons_succ])
         refine wpAnyH_take (i := 14) (oi := _) (v := .bool true) rfl zad zad zad (fun _ _ _ h => h) (Or.inl ⟨by rfl, fun W hW => by go_simp⟩) hS ?_
         (try simp only [Act.put, List.getElem_toArray, List.getElem_cons_succ, List.getElem_cons_zero, List.setIfInBounds_toArray, List.set_cons_zero, List.set_cons_succ])
         refine wpAnyH_take (i := 15) (oi := _) (v := .pointer (some ⟨c, 0, none⟩)) rfl zad zad zad (fun _ _ _ h => h) (Or.inl ⟨by rfl, fun W hW => by go_simp⟩) hS ?_
         (try simp only [Act.put, List.getElem_toArray, List.getElem_cons_succ, List.getElem_cons_zero, List.setIfInBounds_toArray, List.set_cons_zero, List.set_cons_succ])
         refine wpAnyH_take (i := 17) (oi := _) (v := .agg #[.slice p2 n2 c2, .int .i64 fi]) rfl zad zad zad (fun _ _ _ h => h) (Or.inl ⟨by rfl, fun W hW => by (obtain ⟨hW1, hW2, hW3, hW4, hW5⟩ := hW; go_simp)⟩) hS ?_
         (try simp only [Act.put, List.getElem_toArray, List.getElem_cons_succ, List.getElem_cons_zero, List.setIfInBounds_toArray, List.set_cons_zero, List.set_cons_succ])
         refine wpAnyH_ready (rs := [16]) zad zbj ?_
         refine AllReadyH.cons (o := _) rfl (fun K hK => ?_) AllReadyH.nil
         rw [if_pos (by rfl)]
         go_simp
         refine (qbq (HC7.out.ext hxw) (by have := HSD.out.n5; omega)).mono ?_
         rintro e' w9 ⟨nv9, rfl, hn9, hx9⟩
         rw [HN2.out] at hn9
         obtain ⟨p9, k9, hv9⟩ := qaj hn9
         subst hv9
         have hxw9 : Ext w7 w9 := Ext.trans hxw hx9
         have HN9 := Lib.hid hn9
         clear hx9 hn9
         refine hK.out _ _ (⟨cell_ext b0 zaw, cell_ext b1 zaw, cell_ext b2 zaw, cell_ext z0 zaw, cell_ext z1 zaw⟩) (fun hS1 => ?_)
         clear hK K
         (try simp only [Act.put, List.getElem_toArray, List.getElem_cons_succ, List.getElem_cons_zero, List.setIfInBounds_toArray, List.set_cons_zero, List.set_cons_succ])
         refine wpAnyH_ready (rs := [18]) zad zbj ?_
         refine AllReadyH.cons (o := _) rfl (fun K hK => ?_) AllReadyH.nil
         rw [if_pos (by rfl)]
         go_simp
         refine (SM.out _ _ _ _ HN9.out (own_ext HP7.out hxw9)).mono ?_
         rintro e' w10 ⟨rfl, hx10⟩
         have hxw10 : Ext w7 w10 := Ext.trans hxw9 hx10
         clear hx10
         refine hK.out _ _ (⟨cell_ext b0 zau, cell_ext b1 zau, cell_ext b2 zau, cell_ext z0 zau, cell_ext z1 zau⟩) (fun hS2 => ?_)
         clear hK K
         (try simp only [Act.put, List.getElem_toArray, List.getElem_cons_succ, List.getElem_cons_zero, List.setIfInBounds_toArray, List.set_cons_zero, List.set_cons_succ])
         refine wpAnyH_take (i := 19) (oi := _) (v := .bool true) rfl zad zad zad (fun _ _ _ h => h) (Or.inl ⟨by rfl, fun W hW => by go_simp⟩) hS2 ?_
         (try simp only [Act.put, List.getElem_toArray, List.getElem_cons_succ, List.getElem_cons_zero, List.setIfInBounds_toArray, List.set_cons_zero, List.set_cons_succ])
         refine wpAnyH_take (i := 20) (oi := _) (v := .bool true) rfl zad zad zad (fun _ _ _ h => h) (Or.inl ⟨by rfl, fun W hW => by go_simp⟩) hS2 ?_
         (try simp only [Act.put, List.getElem_toArray, List.getElem_cons_succ, List.getElem_cons_zero, List.setIfInBounds_toArray, List.set_cons_zero, List.set_cons_succ])
         refine wpAnyH_ready (rs := [21]) zad zbj ?_
         refine AllReadyH.cons (o := _) rfl (fun K hK => ?_) AllReadyH.nil
         rw [if_pos (by rfl)]
         go_simp
         refine (qbZ _).mono ?_
         rintro e' w11 ⟨rfl, hx11⟩
         have hxw11 : Ext w7 w11 := Ext.trans hxw10 hx11
         clear hx11
         refine hK.out _ _ (⟨cell_ext b0 zav, cell_ext b1 zav, cell_ext b2 zav, cell_ext z0 zav, cell_ext z1 zav⟩) (fun hS3 => ?_)
         clear hK K
         (try simp only [Act.put, List.getElem_toArray, List.getElem_cons_succ, List.getElem_cons_zero, List.setIfInBounds_toArray, List.set_cons_zero, List.set_cons_succ])
         refine wpAnyH_take (i := 22) (oi := _) (v := .bool true) rfl zad zad zad (fun _ _ _ h => h) (Or.inl ⟨by rfl, fun W hW => by go_simp⟩) hS3 ?_
         (try simp only [Act.put, List.getElem_toArray, List.getElem_cons_succ, List.getElem_cons_zero, List.setIfInBounds_toArray, List.set_cons_zero, List.set_cons_succ])
         refine wpAnyH_take (i := 23) (oi := _) (v := .bool true) rfl zad zad zad (fun _ _ _ h => h) (Or.inl ⟨by rfl, fun W hW => by go_simp⟩) hS3 ?_
         (try simp only [Act.put, List.getElem_toArray, List.getElem_cons_succ, List.getElem_cons_zero, List.setIfInBounds_toArray, List.set_cons_zero, List.set_cons_succ])
         refine wpAnyH_done zad ?_ _
         go_wp2_with fail
         go_ret
         exact ⟨rfl, HX7.out.trans hxw11⟩
theorem csame_walk (w : World) (p1 : Option Addr) (n c1 : Nat) (ns : List Nd) (fi i : Int) (hr : NdsIn w p1 n c1 ns) :
  Calls Tryz.prog 5 #[.agg #[.slice p1 n c1, .int .i64 fi], .int .i64 i] w fun e w' => e = .returned (.bool true) ∧ Ext w w' := by
 obtain ⟨l, m, e, a, h⟩ : ∃ l m e a, qaV (fewN ns) fi = (l, m, e, a) := ⟨_, _, _, _, rfl⟩
 by_cases he : e = 0
 · subst he
   exact csame_ok w p1 n c1 ns fi i hr l m a h
 · exact csame_err w p1 n c1 ns fi i hr l m e a h he
end Go.Proofs.YtpoeknndkccbaaaGreat
