/- Lemmas. -/
import Derived.Test.YtpoeknndkccbaaaGreatO46
set_option linter.unusedSimpArgs false
set_option linter.unusedVariables false
set_option maxHeartbeats 4000000
set_option maxRecDepth 20000
namespace Go.Proofs.YtpoeknndkccbaaaGreat
open Go.RowKit
variable {L : Toks} {b cap lb lo m : Nat} {nv : Value} {N : List Nd} {w : World}
attribute [go_sem] more_more Array.size_append
theorem qbx {n : Nat} (h : (tk L m).1.k = 5) : ofP L 5 m n = .ok ((tk L m).1, m + 1, []) := by unfold ofP; rw [if_pos h]
theorem must3_bind {α : Type} (L : Toks) (a b c : ByteArray) (f : Unit → PM α) : pbind (mustP L [a, b, c]) f = pbind (must1 L a) fun _ => pbind (must1 L b) fun _ => pbind (must1 L c) f := by
 funext m n
 have pe : ∀ {s : ByteArray} {m n : Nat}, isP L s m = false → must1 L s m n = .error (3, (tk L m).2) := fun h => by unfold must1; rw [h]; rfl
 have po : ∀ {s : ByteArray} {m n : Nat}, isP L s m = true → must1 L s m n = .ok ((), m + 1, []) := fun h => by unfold must1; rw [h]; rfl
 cases h1 : isP L a m
 · rw [qap (qcO h1), qap (pe h1)]
 · rw [qah (po h1), qaG]
   dsimp only [List.length_nil, Nat.add_zero]
   cases h2 : isP L b (m + 1)
   · rw [qap ((qbp h1).trans (qcO h2)), qap (pe h2)]
   · rw [qah (po h2), qaG]
     dsimp only [List.length_nil, Nat.add_zero]
     cases h3 : isP L c (m + 1 + 1)
     · rw [qap (((qbp h1).trans (qbp h2)).trans (qcO h3)), qap (pe h3)]
     · rw [qah (((qbp h1).trans (qbp h2)).trans (must1_yes h3)), qah (po h3)]
theorem rstmt_let (h : Rt b lb lo cap nv L m N 0 0 w) (hk5 : (tk L m).1.k = 5) (hs : (tk L m).1.s.toList = [108, 101, 116]) (d : Int) (ex : PM Int) (he : RDp b lb lo cap L 119 d ex) (r : PR Int) (hr : qbq L 20 ex m N.length = r) :
  Calls Tryz.prog 87 #[.pointer (some ⟨b, 0, none⟩), .int .i64 d] w (RPost intV isInt b lb lo cap nv L m N w r) := by
 have q_let : ((tk L m).1.s.toList == [108, 101, 116]) = true := by rw [hs]; decide
 have q_set : ((tk L m).1.s.toList == [115, 101, 116]) = false := by rw [hs]; decide
 have q_put : ((tk L m).1.s.toList == [112, 117, 116]) = false := by rw [hs]; decide
 have q_if : ((tk L m).1.s.toList == [105, 102]) = false := by rw [hs]; decide
 have q_for : ((tk L m).1.s.toList == [102, 111, 114]) = false := by rw [hs]; decide
 have q_repeat : ((tk L m).1.s.toList == [114, 101, 112, 101, 97, 116]) = false := by rw [hs]; decide
 have q_delete : ((tk L m).1.s.toList == [100, 101, 108, 101, 116, 101]) = false := by rw [hs]; decide
 have q_abort : ((tk L m).1.s.toList == [97, 98, 111, 114, 116]) = false := by rw [hs]; decide
 have HE := Lib.hid he
 clear he
 unfold qbq at hr
 rw [qbg, qbd, qbd] at hr
 refine ybj ⟨?_⟩; intro KD
 have T1 := Lib.hid hr.symm
 obtain ⟨⟨xk, ts, ti⟩, hts⟩ : ∃ t, (tk L m).1 = t := ⟨_, rfl⟩
 rw [hts] at KD q_let q_set q_put q_if q_for q_repeat q_delete q_abort
 dsimp only at q_let q_set q_put q_if q_for q_repeat q_delete q_abort
 obtain ⟨ta, hta⟩ : ∃ t, (tk L m).2 = t := ⟨_, rfl⟩
 rw [hta] at KD
 have KW := Lib.hid (Kp.refl b nv w)
 clear h hr hs hts hta hk5
 go_enter Tryz.func87, Tryz.ntmps87
 go_wp2_with fail
 go_at_call 116
 refine (KD.out _ zaa).mono ?_
 rintro e w1 ⟨he, nv1, hs, hk, hm⟩
 unfold tokV at he
 dsimp only at he
 subst he
 refine ybh ⟨?_⟩; intro H1
 clear hs hk hm
 go_wp2_with (first
  | ((with_reducible refine (qaW _ _ _ _).mono ?_); rintro e wn ⟨rfl, hx⟩; have HN := Lib.hid (((H1.out).ext hx).new (.cells #[.int .i64 20, .int .i64 (-1), .int .i64 (-1), .int .i64 (-1), .int .i64 (-1), .int .i64 0, .string ⟨#[]⟩, .string ⟨#[]⟩] 42 (0, 0))); clear hx)
  | ((with_reducible refine (ukind HN.out 1 zal).mono ?_); rintro e w2 ⟨a2, k2, s2, i2, r2, rfl, hK, h2⟩; have T2 := Lib.hid (hK.go T1.out); have H2 := Lib.hid h2; clear hK h2; have KX := Lib.hid H2.out.kb; have x26 : w2.cell? ⟨wn.heap.size, 6, none⟩ = some (.string ⟨#[]⟩) := KX.out.cell 6 _ rfl; have y26 := KX.out.frozen 6; have lx2 := KX.out.lt; clear KX; have S2 : Hid (US b lb lo cap L m N nv w [(wn.heap.size, .cells #[.int .i64 20, .int .i64 (-1), .int .i64 (-1), .int .i64 (-1), .int .i64 (-1), .int .i64 0, .string s2, .string ⟨#[]⟩] 42 (0, 0))] r2 (w2.setCell ⟨wn.heap.size, 6, none⟩ (.string s2))) := Lib.hid (H2.out.set 6 (.string s2)))
  | ((with_reducible refine (uneed S2.out _ zal).mono ?_); rintro e w3 ⟨r3, rfl, hK, h3⟩; have T3 := Lib.hid (hK.go T2.out); have H3 := Lib.hid h3; clear hK h3; have KX := Lib.hid H3.out.kb; have lx3 := KX.out.lt; clear KX)
  | ((with_reducible refine (uexpr H3.out HE.out).mono ?_); rintro e w4 ⟨z4, r4, rfl, hK, h4⟩; have T4 := Lib.hid (hK.go T3.out); have H4 := Lib.hid h4; clear hK h4; have KX := Lib.hid H4.out.kb; have x41 : w4.cell? ⟨wn.heap.size, 1, none⟩ = some (.int .i64 (-1)) := KX.out.cell 1 _ rfl; have y41 := KX.out.frozen 1; have lx4 := KX.out.lt; clear KX; have S4 : Hid (US b lb lo cap L m N nv w [(wn.heap.size, .cells #[.int .i64 20, .int .i64 z4, .int .i64 (-1), .int .i64 (-1), .int .i64 (-1), .int .i64 0, .string s2, .string ⟨#[]⟩] 42 (0, 0))] r4 (w4.setCell ⟨wn.heap.size, 1, none⟩ (.int .i64 z4))) := Lib.hid (H4.out.set 1 (.int .i64 z4)))
  | ((with_reducible refine (uneed S4.out _ zal).mono ?_); rintro e w5 ⟨r5, rfl, hK, h5⟩; have T5 := Lib.hid (hK.go T4.out); have H5 := Lib.hid h5; clear hK h5; have KX := Lib.hid H5.out.kb; have x50 : w5.cell? ⟨wn.heap.size, 0, none⟩ = some (.int .i64 20) := KX.out.cell 0 _ rfl; have x51 : w5.cell? ⟨wn.heap.size, 1, none⟩ = some (.int .i64 z4) := KX.out.cell 1 _ rfl; have x52 : w5.cell? ⟨wn.heap.size, 2, none⟩ = some (.int .i64 (-1)) := KX.out.cell 2 _ rfl; have x53 : w5.cell? ⟨wn.heap.size, 3, none⟩ = some (.int .i64 (-1)) := KX.out.cell 3 _ rfl; have x54 : w5.cell? ⟨wn.heap.size, 4, none⟩ = some (.int .i64 (-1)) := KX.out.cell 4 _ rfl; have x55 : w5.cell? ⟨wn.heap.size, 5, none⟩ = some (.int .i64 0) := KX.out.cell 5 _ rfl; have x56 : w5.cell? ⟨wn.heap.size, 6, none⟩ = some (.string s2) := KX.out.cell 6 _ rfl; have x57 : w5.cell? ⟨wn.heap.size, 7, none⟩ = some (.string ⟨#[]⟩) := KX.out.cell 7 _ rfl; have lx5 := KX.out.lt; clear KX)
  | ((with_reducible refine (ulay H5.out _ _ _ _ _ _ _ _).mono ?_); rintro e w6 ⟨z6, r6, rfl, hK, h6⟩; have T6 := Lib.hid (hK.go (T5.out.trans (congrArg _ (qaR L _)))); have H6 := Lib.hid h6; clear hK h6))
 go_ret
 exact US.fin H6.out (T6.out)
theorem rstmt_set (h : Rt b lb lo cap nv L m N 0 0 w) (hk5 : (tk L m).1.k = 5) (hs : (tk L m).1.s.toList = [115, 101, 116]) (d : Int) (ex : PM Int) (he : RDp b lb lo cap L 119 d ex) (r : PR Int) (hr : qbq L 21 ex m N.length = r) :
  Calls Tryz.prog 87 #[.pointer (some ⟨b, 0, none⟩), .int .i64 d] w (RPost intV isInt b lb lo cap nv L m N w r) := by
 have q_let : ((tk L m).1.s.toList == [108, 101, 116]) = false := by rw [hs]; decide
 have q_set : ((tk L m).1.s.toList == [115, 101, 116]) = true := by rw [hs]; decide
 have q_put : ((tk L m).1.s.toList == [112, 117, 116]) = false := by rw [hs]; decide
 have q_if : ((tk L m).1.s.toList == [105, 102]) = false := by rw [hs]; decide
 have q_for : ((tk L m).1.s.toList == [102, 111, 114]) = false := by rw [hs]; decide
 have q_repeat : ((tk L m).1.s.toList == [114, 101, 112, 101, 97, 116]) = false := by rw [hs]; decide
 have q_delete : ((tk L m).1.s.toList == [100, 101, 108, 101, 116, 101]) = false := by rw [hs]; decide
 have q_abort : ((tk L m).1.s.toList == [97, 98, 111, 114, 116]) = false := by rw [hs]; decide
 have HE := Lib.hid he
 clear he
 unfold qbq at hr
 rw [qbg, qbd, qbd] at hr
 refine ybj ⟨?_⟩; intro KD
 have T1 := Lib.hid hr.symm
 obtain ⟨⟨xk, ts, ti⟩, hts⟩ : ∃ t, (tk L m).1 = t := ⟨_, rfl⟩
 rw [hts] at KD q_let q_set q_put q_if q_for q_repeat q_delete q_abort
 dsimp only at q_let q_set q_put q_if q_for q_repeat q_delete q_abort
 obtain ⟨ta, hta⟩ : ∃ t, (tk L m).2 = t := ⟨_, rfl⟩
 rw [hta] at KD
 have KW := Lib.hid (Kp.refl b nv w)
 clear h hr hs hts hta hk5
 go_enter Tryz.func87, Tryz.ntmps87
 go_wp2_with fail
 go_at_call 116
 refine (KD.out _ zaa).mono ?_
 rintro e w1 ⟨he, nv1, hs, hk, hm⟩
 unfold tokV at he
 dsimp only at he
 subst he
 refine ybh ⟨?_⟩; intro H1
 clear hs hk hm
 go_wp2_with (first
  | ((with_reducible refine (qaW _ _ _ _).mono ?_); rintro e wn ⟨rfl, hx⟩; have HN := Lib.hid (((H1.out).ext hx).new (.cells #[.int .i64 21, .int .i64 (-1), .int .i64 (-1), .int .i64 (-1), .int .i64 (-1), .int .i64 0, .string ⟨#[]⟩, .string ⟨#[]⟩] 42 (0, 0))); clear hx)
  | ((with_reducible refine (ukind HN.out 1 zal).mono ?_); rintro e w2 ⟨a2, k2, s2, i2, r2, rfl, hK, h2⟩; have T2 := Lib.hid (hK.go T1.out); have H2 := Lib.hid h2; clear hK h2; have KX := Lib.hid H2.out.kb; have x26 : w2.cell? ⟨wn.heap.size, 6, none⟩ = some (.string ⟨#[]⟩) := KX.out.cell 6 _ rfl; have y26 := KX.out.frozen 6; have lx2 := KX.out.lt; clear KX; have S2 : Hid (US b lb lo cap L m N nv w [(wn.heap.size, .cells #[.int .i64 21, .int .i64 (-1), .int .i64 (-1), .int .i64 (-1), .int .i64 (-1), .int .i64 0, .string s2, .string ⟨#[]⟩] 42 (0, 0))] r2 (w2.setCell ⟨wn.heap.size, 6, none⟩ (.string s2))) := Lib.hid (H2.out.set 6 (.string s2)))
  | ((with_reducible refine (uneed S2.out _ zal).mono ?_); rintro e w3 ⟨r3, rfl, hK, h3⟩; have T3 := Lib.hid (hK.go T2.out); have H3 := Lib.hid h3; clear hK h3; have KX := Lib.hid H3.out.kb; have lx3 := KX.out.lt; clear KX)
  | ((with_reducible refine (uexpr H3.out HE.out).mono ?_); rintro e w4 ⟨z4, r4, rfl, hK, h4⟩; have T4 := Lib.hid (hK.go T3.out); have H4 := Lib.hid h4; clear hK h4; have KX := Lib.hid H4.out.kb; have x41 : w4.cell? ⟨wn.heap.size, 1, none⟩ = some (.int .i64 (-1)) := KX.out.cell 1 _ rfl; have y41 := KX.out.frozen 1; have lx4 := KX.out.lt; clear KX; have S4 : Hid (US b lb lo cap L m N nv w [(wn.heap.size, .cells #[.int .i64 21, .int .i64 z4, .int .i64 (-1), .int .i64 (-1), .int .i64 (-1), .int .i64 0, .string s2, .string ⟨#[]⟩] 42 (0, 0))] r4 (w4.setCell ⟨wn.heap.size, 1, none⟩ (.int .i64 z4))) := Lib.hid (H4.out.set 1 (.int .i64 z4)))
  | ((with_reducible refine (uneed S4.out _ zal).mono ?_); rintro e w5 ⟨r5, rfl, hK, h5⟩; have T5 := Lib.hid (hK.go T4.out); have H5 := Lib.hid h5; clear hK h5; have KX := Lib.hid H5.out.kb; have x50 : w5.cell? ⟨wn.heap.size, 0, none⟩ = some (.int .i64 21) := KX.out.cell 0 _ rfl; have x51 : w5.cell? ⟨wn.heap.size, 1, none⟩ = some (.int .i64 z4) := KX.out.cell 1 _ rfl; have x52 : w5.cell? ⟨wn.heap.size, 2, none⟩ = some (.int .i64 (-1)) := KX.out.cell 2 _ rfl; have x53 : w5.cell? ⟨wn.heap.size, 3, none⟩ = some (.int .i64 (-1)) := KX.out.cell 3 _ rfl; have x54 : w5.cell? ⟨wn.heap.size, 4, none⟩ = some (.int .i64 (-1)) := KX.out.cell 4 _ rfl; have x55 : w5.cell? ⟨wn.heap.size, 5, none⟩ = some (.int .i64 0) := KX.out.cell 5 _ rfl; have x56 : w5.cell? ⟨wn.heap.size, 6, none⟩ = some (.string s2) := KX.out.cell 6 _ rfl; have x57 : w5.cell? ⟨wn.heap.size, 7, none⟩ = some (.string ⟨#[]⟩) := KX.out.cell 7 _ rfl; have lx5 := KX.out.lt; clear KX)
  | ((with_reducible refine (ulay H5.out _ _ _ _ _ _ _ _).mono ?_); rintro e w6 ⟨z6, r6, rfl, hK, h6⟩; have T6 := Lib.hid (hK.go (T5.out.trans (congrArg _ (qaR L _)))); have H6 := Lib.hid h6; clear hK h6))
 go_ret
 exact US.fin H6.out (T6.out)
theorem rstmt_put (h : Rt b lb lo cap nv L m N 0 0 w) (hk5 : (tk L m).1.k = 5) (hs : (tk L m).1.s.toList = [112, 117, 116]) (d : Nat) (hd : d ≤ 16) (ex : PM Int) (he : RDp b lb lo cap L 119 (d : Int) ex) (r : PR Int) (hr : putP L ex m N.length = r) :
  Calls Tryz.prog 87 #[.pointer (some ⟨b, 0, none⟩), .int .i64 (d : Int)] w (RPost intV isInt b lb lo cap nv L m N w r) := by
 have q_let : ((tk L m).1.s.toList == [108, 101, 116]) = false := by rw [hs]; decide
 have q_set : ((tk L m).1.s.toList == [115, 101, 116]) = false := by rw [hs]; decide
 have q_put : ((tk L m).1.s.toList == [112, 117, 116]) = true := by rw [hs]; decide
 have q_if : ((tk L m).1.s.toList == [105, 102]) = false := by rw [hs]; decide
 have q_for : ((tk L m).1.s.toList == [102, 111, 114]) = false := by rw [hs]; decide
 have q_repeat : ((tk L m).1.s.toList == [114, 101, 112, 101, 97, 116]) = false := by rw [hs]; decide
 have q_delete : ((tk L m).1.s.toList == [100, 101, 108, 101, 116, 101]) = false := by rw [hs]; decide
 have q_abort : ((tk L m).1.s.toList == [97, 98, 111, 114, 116]) = false := by rw [hs]; decide
 have HE := Lib.hid he
 clear he
 unfold putP at hr
 rw [qbg, qbd, qbd] at hr
 refine ybj ⟨?_⟩; intro KD
 have T1 := Lib.hid hr.symm
 obtain ⟨⟨xk, ts, ti⟩, hts⟩ : ∃ t, (tk L m).1 = t := ⟨_, rfl⟩
 rw [hts] at KD q_let q_set q_put q_if q_for q_repeat q_delete q_abort
 dsimp only at q_let q_set q_put q_if q_for q_repeat q_delete q_abort
 obtain ⟨ta, hta⟩ : ∃ t, (tk L m).2 = t := ⟨_, rfl⟩
 rw [hta] at KD
 have KW := Lib.hid (Kp.refl b nv w)
 clear h hr hs hts hta hk5
 go_enter Tryz.func87, Tryz.ntmps87
 go_wp2_with fail
 go_at_call 116
 refine (KD.out _ zaa).mono ?_
 rintro e w1 ⟨he, nv1, hs, hk, hm⟩
 unfold tokV at he
 dsimp only at he
 subst he
 refine ybh ⟨?_⟩; intro H1
 clear hs hk hm
 go_wp2_with (first
  | ((with_reducible refine (uexpr H1.out HE.out).mono ?_); rintro e w2 ⟨z2, r2, rfl, hK, h2⟩; have T2 := Lib.hid (hK.go T1.out); have H2 := Lib.hid h2; clear hK h2)
  | ((with_reducible refine (uneed H2.out _ zal).mono ?_); rintro e w3 ⟨r3, rfl, hK, h3⟩; have T3 := Lib.hid (hK.go T2.out); have H3 := Lib.hid h3; clear hK h3)
  | ((with_reducible refine (uexpr H3.out HE.out).mono ?_); rintro e w4 ⟨z4, r4, rfl, hK, h4⟩; have T4 := Lib.hid (hK.go T3.out); have H4 := Lib.hid h4; clear hK h4)
  | ((with_reducible refine (uneed H4.out _ zal).mono ?_); rintro e w5 ⟨r5, rfl, hK, h5⟩; have T5 := Lib.hid (hK.go T4.out); have H5 := Lib.hid h5; clear hK h5)
  | ((with_reducible refine (qaW _ _ _ _).mono ?_); rintro e _ ⟨rfl, d, os, rfl⟩)
  | ((with_reducible refine (ulay (H5.out.ext zaa) _ _ _ _ _ _ _ _).mono ?_); rintro e w6 ⟨z6, r6, rfl, hK, h6⟩; have T6 := Lib.hid (hK.go (T5.out.trans (congrArg _ (qaR L _)))); have H6 := Lib.hid h6; clear hK h6))
 go_ret
 exact US.fin H6.out (T6.out)
theorem rstmt_delete (h : Rt b lb lo cap nv L m N 0 0 w) (hk5 : (tk L m).1.k = 5) (hs : (tk L m).1.s.toList = [100, 101, 108, 101, 116, 101]) (d : Nat) (hd : d ≤ 16) (ex : PM Int) (he : RDp b lb lo cap L 119 (d : Int) ex) (r : PR Int) (hr : qay L 23 ex m N.length = r) :
  Calls Tryz.prog 87 #[.pointer (some ⟨b, 0, none⟩), .int .i64 (d : Int)] w (RPost intV isInt b lb lo cap nv L m N w r) := by
 have q_let : ((tk L m).1.s.toList == [108, 101, 116]) = false := by rw [hs]; decide
 have q_set : ((tk L m).1.s.toList == [115, 101, 116]) = false := by rw [hs]; decide
 have q_put : ((tk L m).1.s.toList == [112, 117, 116]) = false := by rw [hs]; decide
 have q_if : ((tk L m).1.s.toList == [105, 102]) = false := by rw [hs]; decide
 have q_for : ((tk L m).1.s.toList == [102, 111, 114]) = false := by rw [hs]; decide
 have q_repeat : ((tk L m).1.s.toList == [114, 101, 112, 101, 97, 116]) = false := by rw [hs]; decide
 have q_delete : ((tk L m).1.s.toList == [100, 101, 108, 101, 116, 101]) = true := by rw [hs]; decide
 have q_abort : ((tk L m).1.s.toList == [97, 98, 111, 114, 116]) = false := by rw [hs]; decide
 have HE := Lib.hid he
 clear he
 unfold qay at hr
 rw [qbg, qbd] at hr
 refine ybj ⟨?_⟩; intro KD
 have T1 := Lib.hid hr.symm
 obtain ⟨⟨xk, ts, ti⟩, hts⟩ : ∃ t, (tk L m).1 = t := ⟨_, rfl⟩
 rw [hts] at KD q_let q_set q_put q_if q_for q_repeat q_delete q_abort
 dsimp only at q_let q_set q_put q_if q_for q_repeat q_delete q_abort
 obtain ⟨ta, hta⟩ : ∃ t, (tk L m).2 = t := ⟨_, rfl⟩
 rw [hta] at KD
 have KW := Lib.hid (Kp.refl b nv w)
 clear h hr hs hts hta hk5
 go_enter Tryz.func87, Tryz.ntmps87
 go_wp2_with fail
 go_at_call 116
 refine (KD.out _ zaa).mono ?_
 rintro e w1 ⟨he, nv1, hs, hk, hm⟩
 unfold tokV at he
 dsimp only at he
 subst he
 refine ybh ⟨?_⟩; intro H1
 clear hs hk hm
 go_wp2_with (first
  | ((with_reducible refine (uexpr H1.out HE.out).mono ?_); rintro e w2 ⟨z2, r2, rfl, hK, h2⟩; have T2 := Lib.hid (hK.go T1.out); have H2 := Lib.hid h2; clear hK h2)
  | ((with_reducible refine (qaW _ _ _ _).mono ?_); rintro e wn ⟨rfl, hx⟩; have HN := Lib.hid (((H2.out).ext hx).new (.cells #[.int .i64 23, .int .i64 z2, .int .i64 (-1), .int .i64 (-1), .int .i64 (-1), .int .i64 0, .string ⟨#[]⟩, .string ⟨#[]⟩] 42 (0, 0))); clear hx)
  | ((with_reducible refine (uneed HN.out _ zal).mono ?_); rintro e w3 ⟨r3, rfl, hK, h3⟩; have T3 := Lib.hid (hK.go T2.out); have H3 := Lib.hid h3; clear hK h3; have KX := Lib.hid H3.out.kb; have x30 : w3.cell? ⟨wn.heap.size, 0, none⟩ = some (.int .i64 23) := KX.out.cell 0 _ rfl; have x31 : w3.cell? ⟨wn.heap.size, 1, none⟩ = some (.int .i64 z2) := KX.out.cell 1 _ rfl; have x32 : w3.cell? ⟨wn.heap.size, 2, none⟩ = some (.int .i64 (-1)) := KX.out.cell 2 _ rfl; have x33 : w3.cell? ⟨wn.heap.size, 3, none⟩ = some (.int .i64 (-1)) := KX.out.cell 3 _ rfl; have x34 : w3.cell? ⟨wn.heap.size, 4, none⟩ = some (.int .i64 (-1)) := KX.out.cell 4 _ rfl; have x35 : w3.cell? ⟨wn.heap.size, 5, none⟩ = some (.int .i64 0) := KX.out.cell 5 _ rfl; have x36 : w3.cell? ⟨wn.heap.size, 6, none⟩ = some (.string ⟨#[]⟩) := KX.out.cell 6 _ rfl; have x37 : w3.cell? ⟨wn.heap.size, 7, none⟩ = some (.string ⟨#[]⟩) := KX.out.cell 7 _ rfl; have lx3 := KX.out.lt; clear KX)
  | ((with_reducible refine (ulay H3.out _ _ _ _ _ _ _ _).mono ?_); rintro e w4 ⟨z4, r4, rfl, hK, h4⟩; have T4 := Lib.hid (hK.go (T3.out.trans (congrArg _ (qaR L _)))); have H4 := Lib.hid h4; clear hK h4))
 go_ret
 exact US.fin H4.out (T4.out)
theorem rstmt_abort (h : Rt b lb lo cap nv L m N 0 0 w) (hk5 : (tk L m).1.k = 5) (hs : (tk L m).1.s.toList = [97, 98, 111, 114, 116]) (d : Nat) (hd : d ≤ 16) (ex : PM Int) (he : RDp b lb lo cap L 119 (d : Int) ex) (r : PR Int) (hr : qay L 27 ex m N.length = r) :
  Calls Tryz.prog 87 #[.pointer (some ⟨b, 0, none⟩), .int .i64 (d : Int)] w (RPost intV isInt b lb lo cap nv L m N w r) := by
 have q_let : ((tk L m).1.s.toList == [108, 101, 116]) = false := by rw [hs]; decide
 have q_set : ((tk L m).1.s.toList == [115, 101, 116]) = false := by rw [hs]; decide
 have q_put : ((tk L m).1.s.toList == [112, 117, 116]) = false := by rw [hs]; decide
 have q_if : ((tk L m).1.s.toList == [105, 102]) = false := by rw [hs]; decide
 have q_for : ((tk L m).1.s.toList == [102, 111, 114]) = false := by rw [hs]; decide
 have q_repeat : ((tk L m).1.s.toList == [114, 101, 112, 101, 97, 116]) = false := by rw [hs]; decide
 have q_delete : ((tk L m).1.s.toList == [100, 101, 108, 101, 116, 101]) = false := by rw [hs]; decide
 have q_abort : ((tk L m).1.s.toList == [97, 98, 111, 114, 116]) = true := by rw [hs]; decide
 have HE := Lib.hid he
 clear he
 unfold qay at hr
 rw [qbg, qbd] at hr
 refine ybj ⟨?_⟩; intro KD
 have T1 := Lib.hid hr.symm
 obtain ⟨⟨xk, ts, ti⟩, hts⟩ : ∃ t, (tk L m).1 = t := ⟨_, rfl⟩
 rw [hts] at KD q_let q_set q_put q_if q_for q_repeat q_delete q_abort
 dsimp only at q_let q_set q_put q_if q_for q_repeat q_delete q_abort
 obtain ⟨ta, hta⟩ : ∃ t, (tk L m).2 = t := ⟨_, rfl⟩
 rw [hta] at KD
 have KW := Lib.hid (Kp.refl b nv w)
 clear h hr hs hts hta hk5
 go_enter Tryz.func87, Tryz.ntmps87
 go_wp2_with fail
 go_at_call 116
 refine (KD.out _ zaa).mono ?_
 rintro e w1 ⟨he, nv1, hs, hk, hm⟩
 unfold tokV at he
 dsimp only at he
 subst he
 refine ybh ⟨?_⟩; intro H1
 clear hs hk hm
 go_wp2_with (first
  | ((with_reducible refine (uexpr H1.out HE.out).mono ?_); rintro e w2 ⟨z2, r2, rfl, hK, h2⟩; have T2 := Lib.hid (hK.go T1.out); have H2 := Lib.hid h2; clear hK h2)
  | ((with_reducible refine (qaW _ _ _ _).mono ?_); rintro e wn ⟨rfl, hx⟩; have HN := Lib.hid (((H2.out).ext hx).new (.cells #[.int .i64 27, .int .i64 z2, .int .i64 (-1), .int .i64 (-1), .int .i64 (-1), .int .i64 0, .string ⟨#[]⟩, .string ⟨#[]⟩] 42 (0, 0))); clear hx)
  | ((with_reducible refine (uneed HN.out _ zal).mono ?_); rintro e w3 ⟨r3, rfl, hK, h3⟩; have T3 := Lib.hid (hK.go T2.out); have H3 := Lib.hid h3; clear hK h3; have KX := Lib.hid H3.out.kb; have x30 : w3.cell? ⟨wn.heap.size, 0, none⟩ = some (.int .i64 27) := KX.out.cell 0 _ rfl; have x31 : w3.cell? ⟨wn.heap.size, 1, none⟩ = some (.int .i64 z2) := KX.out.cell 1 _ rfl; have x32 : w3.cell? ⟨wn.heap.size, 2, none⟩ = some (.int .i64 (-1)) := KX.out.cell 2 _ rfl; have x33 : w3.cell? ⟨wn.heap.size, 3, none⟩ = some (.int .i64 (-1)) := KX.out.cell 3 _ rfl; have x34 : w3.cell? ⟨wn.heap.size, 4, none⟩ = some (.int .i64 (-1)) := KX.out.cell 4 _ rfl; have x35 : w3.cell? ⟨wn.heap.size, 5, none⟩ = some (.int .i64 0) := KX.out.cell 5 _ rfl; have x36 : w3.cell? ⟨wn.heap.size, 6, none⟩ = some (.string ⟨#[]⟩) := KX.out.cell 6 _ rfl; have x37 : w3.cell? ⟨wn.heap.size, 7, none⟩ = some (.string ⟨#[]⟩) := KX.out.cell 7 _ rfl; have lx3 := KX.out.lt; clear KX)
  | ((with_reducible refine (ulay H3.out _ _ _ _ _ _ _ _).mono ?_); rintro e w4 ⟨z4, r4, rfl, hK, h4⟩; have T4 := Lib.hid (hK.go (T3.out.trans (congrArg _ (qaR L _)))); have H4 := Lib.hid h4; clear hK h4))
 go_ret
 exact US.fin H4.out (T4.out)
theorem rstmt_return (h : Rt b lb lo cap nv L m N 0 0 w) (hk5 : (tk L m).1.k = 5) (hs : (tk L m).1.s.toList = [114, 101, 116, 117, 114, 110]) (d : Nat) (hd : d ≤ 16) (ex : PM Int) (he : RDp b lb lo cap L 119 (d : Int) ex) (r : PR Int) (hr : qay L 28 ex m N.length = r) :
  Calls Tryz.prog 87 #[.pointer (some ⟨b, 0, none⟩), .int .i64 (d : Int)] w (RPost intV isInt b lb lo cap nv L m N w r) := by
 have q_let : ((tk L m).1.s.toList == [108, 101, 116]) = false := by rw [hs]; decide
 have q_set : ((tk L m).1.s.toList == [115, 101, 116]) = false := by rw [hs]; decide
 have q_put : ((tk L m).1.s.toList == [112, 117, 116]) = false := by rw [hs]; decide
 have q_if : ((tk L m).1.s.toList == [105, 102]) = false := by rw [hs]; decide
 have q_for : ((tk L m).1.s.toList == [102, 111, 114]) = false := by rw [hs]; decide
 have q_repeat : ((tk L m).1.s.toList == [114, 101, 112, 101, 97, 116]) = false := by rw [hs]; decide
 have q_delete : ((tk L m).1.s.toList == [100, 101, 108, 101, 116, 101]) = false := by rw [hs]; decide
 have q_abort : ((tk L m).1.s.toList == [97, 98, 111, 114, 116]) = false := by rw [hs]; decide
 have HE := Lib.hid he
 clear he
 unfold qay at hr
 rw [qbg, qbd] at hr
 refine ybj ⟨?_⟩; intro KD
 have T1 := Lib.hid hr.symm
 obtain ⟨⟨xk, ts, ti⟩, hts⟩ : ∃ t, (tk L m).1 = t := ⟨_, rfl⟩
 rw [hts] at KD q_let q_set q_put q_if q_for q_repeat q_delete q_abort
 dsimp only at q_let q_set q_put q_if q_for q_repeat q_delete q_abort
 obtain ⟨ta, hta⟩ : ∃ t, (tk L m).2 = t := ⟨_, rfl⟩
 rw [hta] at KD
 have KW := Lib.hid (Kp.refl b nv w)
 clear h hr hs hts hta hk5
 go_enter Tryz.func87, Tryz.ntmps87
 go_wp2_with fail
 go_at_call 116
 refine (KD.out _ zaa).mono ?_
 rintro e w1 ⟨he, nv1, hs, hk, hm⟩
 unfold tokV at he
 dsimp only at he
 subst he
 refine ybh ⟨?_⟩; intro H1
 clear hs hk hm
 go_wp2_with (first
  | ((with_reducible refine (uexpr H1.out HE.out).mono ?_); rintro e w2 ⟨z2, r2, rfl, hK, h2⟩; have T2 := Lib.hid (hK.go T1.out); have H2 := Lib.hid h2; clear hK h2)
  | ((with_reducible refine (qaW _ _ _ _).mono ?_); rintro e wn ⟨rfl, hx⟩; have HN := Lib.hid (((H2.out).ext hx).new (.cells #[.int .i64 28, .int .i64 z2, .int .i64 (-1), .int .i64 (-1), .int .i64 (-1), .int .i64 0, .string ⟨#[]⟩, .string ⟨#[]⟩] 42 (0, 0))); clear hx)
  | ((with_reducible refine (uneed HN.out _ zal).mono ?_); rintro e w3 ⟨r3, rfl, hK, h3⟩; have T3 := Lib.hid (hK.go T2.out); have H3 := Lib.hid h3; clear hK h3; have KX := Lib.hid H3.out.kb; have x30 : w3.cell? ⟨wn.heap.size, 0, none⟩ = some (.int .i64 28) := KX.out.cell 0 _ rfl; have x31 : w3.cell? ⟨wn.heap.size, 1, none⟩ = some (.int .i64 z2) := KX.out.cell 1 _ rfl; have x32 : w3.cell? ⟨wn.heap.size, 2, none⟩ = some (.int .i64 (-1)) := KX.out.cell 2 _ rfl; have x33 : w3.cell? ⟨wn.heap.size, 3, none⟩ = some (.int .i64 (-1)) := KX.out.cell 3 _ rfl; have x34 : w3.cell? ⟨wn.heap.size, 4, none⟩ = some (.int .i64 (-1)) := KX.out.cell 4 _ rfl; have x35 : w3.cell? ⟨wn.heap.size, 5, none⟩ = some (.int .i64 0) := KX.out.cell 5 _ rfl; have x36 : w3.cell? ⟨wn.heap.size, 6, none⟩ = some (.string ⟨#[]⟩) := KX.out.cell 6 _ rfl; have x37 : w3.cell? ⟨wn.heap.size, 7, none⟩ = some (.string ⟨#[]⟩) := KX.out.cell 7 _ rfl; have lx3 := KX.out.lt; clear KX)
  | ((with_reducible refine (ulay H3.out _ _ _ _ _ _ _ _).mono ?_); rintro e w4 ⟨z4, r4, rfl, hK, h4⟩; have T4 := Lib.hid (hK.go (T3.out.trans (congrArg _ (qaR L _)))); have H4 := Lib.hid h4; clear hK h4))
 go_ret
 exact US.fin H4.out (T4.out)
theorem rstmt_if (h : Rt b lb lo cap nv L m N 0 0 w) (hk5 : (tk L m).1.k = 5) (hs : (tk L m).1.s.toList = [105, 102]) (d : Nat) (hd : d ≤ 16) (ex : PM Int) (he : RDp b lb lo cap L 119 (d : Int) ex) (bk : PM Int) (hb : RDp b lb lo cap L 53 ((d : Int) + 1) bk) (r : PR Int) (hr : whenP L ex (qaz L bk) m N.length = r) :
  Calls Tryz.prog 87 #[.pointer (some ⟨b, 0, none⟩), .int .i64 (d : Int)] w (RPost intV isInt b lb lo cap nv L m N w r) := by
 have q_let : ((tk L m).1.s.toList == [108, 101, 116]) = false := by rw [hs]; decide
 have q_set : ((tk L m).1.s.toList == [115, 101, 116]) = false := by rw [hs]; decide
 have q_put : ((tk L m).1.s.toList == [112, 117, 116]) = false := by rw [hs]; decide
 have q_if : ((tk L m).1.s.toList == [105, 102]) = true := by rw [hs]; decide
 have q_for : ((tk L m).1.s.toList == [102, 111, 114]) = false := by rw [hs]; decide
 have q_repeat : ((tk L m).1.s.toList == [114, 101, 112, 101, 97, 116]) = false := by rw [hs]; decide
 have q_delete : ((tk L m).1.s.toList == [100, 101, 108, 101, 116, 101]) = false := by rw [hs]; decide
 have q_abort : ((tk L m).1.s.toList == [97, 98, 111, 114, 116]) = false := by rw [hs]; decide
 have HE := Lib.hid he
 have HB := Lib.hid hb
 have hd0 : 0 ≤ (d : Int) := by omega
 have hd1 : (d : Int) ≤ 16 := by omega
 clear he hb hd
 unfold whenP at hr
 rw [qbg] at hr
 refine ybj ⟨?_⟩; intro KD
 have T1 := Lib.hid hr.symm
 obtain ⟨⟨xk, ts, ti⟩, hts⟩ : ∃ t, (tk L m).1 = t := ⟨_, rfl⟩
 rw [hts] at KD q_let q_set q_put q_if q_for q_repeat q_delete q_abort
 dsimp only at q_let q_set q_put q_if q_for q_repeat q_delete q_abort
 obtain ⟨ta, hta⟩ : ∃ t, (tk L m).2 = t := ⟨_, rfl⟩
 rw [hta] at KD
 have KW := Lib.hid (Kp.refl b nv w)
 clear h hr hs hts hta hk5
 go_enter Tryz.func87, Tryz.ntmps87
 go_wp2_with fail
 go_at_call 116
 refine (KD.out _ zaa).mono ?_
 rintro e w1 ⟨he, nv1, hs, hk, hm⟩
 unfold tokV at he
 dsimp only at he
 subst he
 refine ybh ⟨?_⟩; intro H1
 clear hs hk hm
 go_wp2_with (first
  | ((with_reducible refine (uexpr H1.out HE.out).mono ?_); rintro e w2 ⟨z2, r2, rfl, hK, h2⟩; have T2 := Lib.hid (hK.go T1.out); have H2 := Lib.hid h2; clear hK h2)
  | ((with_reducible refine (qaW _ _ _ _).mono ?_); rintro e wn ⟨rfl, hx⟩; have HN := Lib.hid (((H2.out).ext hx).new (.cells #[.int .i64 24, .int .i64 z2, .int .i64 (-1), .int .i64 (-1), .int .i64 (-1), .int .i64 0, .string ⟨#[]⟩, .string ⟨#[]⟩] 42 (0, 0))); clear hx)
  | ((with_reducible refine (qfc HN.out HB.out).mono ?_); rintro e w3 ⟨z3, r3, rfl, hK, h3⟩; have T3 := Lib.hid (hK.go T2.out); have H3 := Lib.hid h3; clear hK h3; have KX := Lib.hid H3.out.kb; have x32 : w3.cell? ⟨wn.heap.size, 2, none⟩ = some (.int .i64 (-1)) := KX.out.cell 2 _ rfl; have y32 := KX.out.frozen 2; have lx3 := KX.out.lt; clear KX; have S3 : Hid (US b lb lo cap L m N nv w [(wn.heap.size, .cells #[.int .i64 24, .int .i64 z2, .int .i64 z3, .int .i64 (-1), .int .i64 (-1), .int .i64 0, .string ⟨#[]⟩, .string ⟨#[]⟩] 42 (0, 0))] r3 (w3.setCell ⟨wn.heap.size, 2, none⟩ (.int .i64 z3))) := Lib.hid (H3.out.set 2 (.int .i64 z3)))
  | ((with_reducible refine (utake S3.out _ zal).mono ?_); rintro e w4 ⟨x4, r4, rfl, hK, h4⟩; have T4 := Lib.hid (hK.go T3.out); have H4 := Lib.hid h4; clear hK h4; have KX := Lib.hid H4.out.kb; have x40 : w4.cell? ⟨wn.heap.size, 0, none⟩ = some (.int .i64 24) := KX.out.cell 0 _ rfl; have x41 : w4.cell? ⟨wn.heap.size, 1, none⟩ = some (.int .i64 z2) := KX.out.cell 1 _ rfl; have x42 : w4.cell? ⟨wn.heap.size, 2, none⟩ = some (.int .i64 z3) := KX.out.cell 2 _ rfl; have x43 : w4.cell? ⟨wn.heap.size, 3, none⟩ = some (.int .i64 (-1)) := KX.out.cell 3 _ rfl; have x44 : w4.cell? ⟨wn.heap.size, 4, none⟩ = some (.int .i64 (-1)) := KX.out.cell 4 _ rfl; have x45 : w4.cell? ⟨wn.heap.size, 5, none⟩ = some (.int .i64 0) := KX.out.cell 5 _ rfl; have x46 : w4.cell? ⟨wn.heap.size, 6, none⟩ = some (.string ⟨#[]⟩) := KX.out.cell 6 _ rfl; have x47 : w4.cell? ⟨wn.heap.size, 7, none⟩ = some (.string ⟨#[]⟩) := KX.out.cell 7 _ rfl; have lx4 := KX.out.lt; clear KX; have y45 := H4.out.kb.frozen 5; have S4 : Hid (US b lb lo cap L m N nv w [(wn.heap.size, .cells #[.int .i64 24, .int .i64 z2, .int .i64 z3, .int .i64 (-1), .int .i64 (-1), .int .i64 1, .string ⟨#[]⟩, .string ⟨#[]⟩] 42 (0, 0))] r4 (w4.setCell ⟨wn.heap.size, 5, none⟩ (.int .i64 1))) := Lib.hid (H4.out.set 5 (.int .i64 1)); cases x4 <;> simp only [Bool.false_eq_true, if_false, if_true] at T4)
  | ((with_reducible refine (ulay H4.out _ _ _ _ _ _ _ _).mono ?_); rintro e w5 ⟨z5, r5, rfl, hK, h5⟩; have T5 := Lib.hid (hK.go (T4.out.trans (congrArg _ (qaR L _)))); have H5 := Lib.hid h5; clear hK h5)
  | ((with_reducible refine (qfc S4.out HB.out).mono ?_); rintro e w6 ⟨z6, r6, rfl, hK, h6⟩; have T6 := Lib.hid (hK.go T4.out); have H6 := Lib.hid h6; clear hK h6; have KX := Lib.hid H6.out.kb; have x60 : w6.cell? ⟨wn.heap.size, 0, none⟩ = some (.int .i64 24) := KX.out.cell 0 _ rfl; have x61 : w6.cell? ⟨wn.heap.size, 1, none⟩ = some (.int .i64 z2) := KX.out.cell 1 _ rfl; have x62 : w6.cell? ⟨wn.heap.size, 2, none⟩ = some (.int .i64 z3) := KX.out.cell 2 _ rfl; have x63 : w6.cell? ⟨wn.heap.size, 3, none⟩ = some (.int .i64 (-1)) := KX.out.cell 3 _ rfl; have x64 : w6.cell? ⟨wn.heap.size, 4, none⟩ = some (.int .i64 (-1)) := KX.out.cell 4 _ rfl; have x65 : w6.cell? ⟨wn.heap.size, 5, none⟩ = some (.int .i64 1) := KX.out.cell 5 _ rfl; have x66 : w6.cell? ⟨wn.heap.size, 6, none⟩ = some (.string ⟨#[]⟩) := KX.out.cell 6 _ rfl; have x67 : w6.cell? ⟨wn.heap.size, 7, none⟩ = some (.string ⟨#[]⟩) := KX.out.cell 7 _ rfl; have y63 := KX.out.frozen 3; have lx6 := KX.out.lt; clear KX; have S6 : Hid (US b lb lo cap L m N nv w [(wn.heap.size, .cells #[.int .i64 24, .int .i64 z2, .int .i64 z3, .int .i64 z6, .int .i64 (-1), .int .i64 1, .string ⟨#[]⟩, .string ⟨#[]⟩] 42 (0, 0))] r6 (w6.setCell ⟨wn.heap.size, 3, none⟩ (.int .i64 z6))) := Lib.hid (H6.out.set 3 (.int .i64 z6)))
  | ((with_reducible refine (ulay S6.out _ _ _ _ _ _ _ _).mono ?_); rintro e w7 ⟨z7, r7, rfl, hK, h7⟩; have T7 := Lib.hid (hK.go (T6.out.trans (congrArg _ (qaR L _)))); have H7 := Lib.hid h7; clear hK h7))
 · go_ret
   exact US.fin H5.out T5.out
 · go_ret
   exact US.fin H7.out T7.out
theorem rstmt_for (h : Rt b lb lo cap nv L m N 0 0 w) (hk5 : (tk L m).1.k = 5) (hs : (tk L m).1.s.toList = [102, 111, 114]) (d : Nat) (hd : d ≤ 16) (ex : PM Int) (he : RDp b lb lo cap L 119 (d : Int) ex) (bk : PM Int) (hb : RDp b lb lo cap L 53 ((d : Int) + 1) bk) (r : PR Int) (hr : eachP L ex (qaz L bk) m N.length = r) :
  Calls Tryz.prog 87 #[.pointer (some ⟨b, 0, none⟩), .int .i64 (d : Int)] w (RPost intV isInt b lb lo cap nv L m N w r) := by
 have q_let : ((tk L m).1.s.toList == [108, 101, 116]) = false := by rw [hs]; decide
 have q_set : ((tk L m).1.s.toList == [115, 101, 116]) = false := by rw [hs]; decide
 have q_put : ((tk L m).1.s.toList == [112, 117, 116]) = false := by rw [hs]; decide
 have q_if : ((tk L m).1.s.toList == [105, 102]) = false := by rw [hs]; decide
 have q_for : ((tk L m).1.s.toList == [102, 111, 114]) = true := by rw [hs]; decide
 have q_repeat : ((tk L m).1.s.toList == [114, 101, 112, 101, 97, 116]) = false := by rw [hs]; decide
 have q_delete : ((tk L m).1.s.toList == [100, 101, 108, 101, 116, 101]) = false := by rw [hs]; decide
 have q_abort : ((tk L m).1.s.toList == [97, 98, 111, 114, 116]) = false := by rw [hs]; decide
 have HE := Lib.hid he
 have HB := Lib.hid hb
 have hd0 : 0 ≤ (d : Int) := by omega
 have hd1 : (d : Int) ≤ 16 := by omega
 clear he hb hd
 unfold eachP at hr
 simp only [must3_bind, qbd] at hr
 rw [qbg] at hr
 refine ybj ⟨?_⟩; intro KD
 have T1 := Lib.hid hr.symm
 obtain ⟨⟨xk, ts, ti⟩, hts⟩ : ∃ t, (tk L m).1 = t := ⟨_, rfl⟩
 rw [hts] at KD q_let q_set q_put q_if q_for q_repeat q_delete q_abort
 dsimp only at q_let q_set q_put q_if q_for q_repeat q_delete q_abort
 obtain ⟨ta, hta⟩ : ∃ t, (tk L m).2 = t := ⟨_, rfl⟩
 rw [hta] at KD
 have KW := Lib.hid (Kp.refl b nv w)
 clear h hr hs hts hta hk5
 go_enter Tryz.func87, Tryz.ntmps87
 go_wp2_with fail
 go_at_call 116
 refine (KD.out _ zaa).mono ?_
 rintro e w1 ⟨he, nv1, hs, hk, hm⟩
 unfold tokV at he
 dsimp only at he
 subst he
 refine ybh ⟨?_⟩; intro H1
 clear hs hk hm
 go_wp2_with (first
  | ((with_reducible refine (qaW _ _ _ _).mono ?_); rintro e wn ⟨rfl, hx⟩; have HN := Lib.hid (((H1.out).ext hx).new (.cells #[.int .i64 25, .int .i64 (-1), .int .i64 (-1), .int .i64 (-1), .int .i64 (-1), .int .i64 0, .string ⟨#[]⟩, .string ⟨#[]⟩] 42 (0, 0))); clear hx)
  | ((with_reducible refine (ukind HN.out 1 zal).mono ?_); rintro e w2 ⟨a2, k2, s2, i2, r2, rfl, hK, h2⟩; have T2 := Lib.hid (hK.go T1.out); have H2 := Lib.hid h2; clear hK h2; have KX := Lib.hid H2.out.kb; have x26 : w2.cell? ⟨wn.heap.size, 6, none⟩ = some (.string ⟨#[]⟩) := KX.out.cell 6 _ rfl; have y26 := KX.out.frozen 6; have lx2 := KX.out.lt; clear KX; have S2 : Hid (US b lb lo cap L m N nv w [(wn.heap.size, .cells #[.int .i64 25, .int .i64 (-1), .int .i64 (-1), .int .i64 (-1), .int .i64 (-1), .int .i64 0, .string s2, .string ⟨#[]⟩] 42 (0, 0))] r2 (w2.setCell ⟨wn.heap.size, 6, none⟩ (.string s2))) := Lib.hid (H2.out.set 6 (.string s2)))
  | ((with_reducible refine (uneed S2.out _ zal).mono ?_); rintro e w3 ⟨r3, rfl, hK, h3⟩; have T3 := Lib.hid (hK.go T2.out); have H3 := Lib.hid h3; clear hK h3; have KX := Lib.hid H3.out.kb; have lx3 := KX.out.lt; clear KX)
  | ((with_reducible refine (ukind H3.out 1 zal).mono ?_); rintro e w4 ⟨a4, k4, s4, i4, r4, rfl, hK, h4⟩; have T4 := Lib.hid (hK.go T3.out); have H4 := Lib.hid h4; clear hK h4; have KX := Lib.hid H4.out.kb; have x47 : w4.cell? ⟨wn.heap.size, 7, none⟩ = some (.string ⟨#[]⟩) := KX.out.cell 7 _ rfl; have y47 := KX.out.frozen 7; have lx4 := KX.out.lt; clear KX; have S4 : Hid (US b lb lo cap L m N nv w [(wn.heap.size, .cells #[.int .i64 25, .int .i64 (-1), .int .i64 (-1), .int .i64 (-1), .int .i64 (-1), .int .i64 0, .string s2, .string s4] 42 (0, 0))] r4 (w4.setCell ⟨wn.heap.size, 7, none⟩ (.string s4))) := Lib.hid (H4.out.set 7 (.string s4)))
  | ((with_reducible refine (uneed S4.out _ zal).mono ?_); rintro e w5 ⟨r5, rfl, hK, h5⟩; have T5 := Lib.hid (hK.go T4.out); have H5 := Lib.hid h5; clear hK h5; have KX := Lib.hid H5.out.kb; have lx5 := KX.out.lt; clear KX)
  | ((with_reducible refine (uneed H5.out _ zal).mono ?_); rintro e w6 ⟨r6, rfl, hK, h6⟩; have T6 := Lib.hid (hK.go T5.out); have H6 := Lib.hid h6; clear hK h6; have KX := Lib.hid H6.out.kb; have lx6 := KX.out.lt; clear KX)
  | ((with_reducible refine (uneed H6.out _ zal).mono ?_); rintro e w7 ⟨r7, rfl, hK, h7⟩; have T7 := Lib.hid (hK.go T6.out); have H7 := Lib.hid h7; clear hK h7; have KX := Lib.hid H7.out.kb; have lx7 := KX.out.lt; clear KX)
  | ((with_reducible refine (uexpr H7.out HE.out).mono ?_); rintro e w8 ⟨z8, r8, rfl, hK, h8⟩; have T8 := Lib.hid (hK.go T7.out); have H8 := Lib.hid h8; clear hK h8; have KX := Lib.hid H8.out.kb; have x81 : w8.cell? ⟨wn.heap.size, 1, none⟩ = some (.int .i64 (-1)) := KX.out.cell 1 _ rfl; have y81 := KX.out.frozen 1; have lx8 := KX.out.lt; clear KX; have S8 : Hid (US b lb lo cap L m N nv w [(wn.heap.size, .cells #[.int .i64 25, .int .i64 z8, .int .i64 (-1), .int .i64 (-1), .int .i64 (-1), .int .i64 0, .string s2, .string s4] 42 (0, 0))] r8 (w8.setCell ⟨wn.heap.size, 1, none⟩ (.int .i64 z8))) := Lib.hid (H8.out.set 1 (.int .i64 z8)))
  | ((with_reducible refine (uneed S8.out _ zal).mono ?_); rintro e w9 ⟨r9, rfl, hK, h9⟩; have T9 := Lib.hid (hK.go T8.out); have H9 := Lib.hid h9; clear hK h9; have KX := Lib.hid H9.out.kb; have lx9 := KX.out.lt; clear KX)
  | ((with_reducible refine (uturns H9.out).mono ?_); rintro e w10 ⟨z10, r10, rfl, hK, h10⟩; have T10 := Lib.hid (hK.go T9.out); have H10 := Lib.hid h10; clear hK h10; have KX := Lib.hid H10.out.kb; have x105 : w10.cell? ⟨wn.heap.size, 5, none⟩ = some (.int .i64 0) := KX.out.cell 5 _ rfl; have y105 := KX.out.frozen 5; have lx10 := KX.out.lt; clear KX; have S10 : Hid (US b lb lo cap L m N nv w [(wn.heap.size, .cells #[.int .i64 25, .int .i64 z8, .int .i64 (-1), .int .i64 (-1), .int .i64 (-1), .int .i64 z10, .string s2, .string s4] 42 (0, 0))] r10 (w10.setCell ⟨wn.heap.size, 5, none⟩ (.int .i64 z10))) := Lib.hid (H10.out.set 5 (.int .i64 z10)))
  | ((with_reducible refine (uneed S10.out _ zal).mono ?_); rintro e w11 ⟨r11, rfl, hK, h11⟩; have T11 := Lib.hid (hK.go T10.out); have H11 := Lib.hid h11; clear hK h11; have KX := Lib.hid H11.out.kb; have lx11 := KX.out.lt; clear KX)
  | ((with_reducible refine (qfc H11.out HB.out).mono ?_); rintro e w12 ⟨z12, r12, rfl, hK, h12⟩; have T12 := Lib.hid (hK.go T11.out); have H12 := Lib.hid h12; clear hK h12; have KX := Lib.hid H12.out.kb; have x120 : w12.cell? ⟨wn.heap.size, 0, none⟩ = some (.int .i64 25) := KX.out.cell 0 _ rfl; have x121 : w12.cell? ⟨wn.heap.size, 1, none⟩ = some (.int .i64 z8) := KX.out.cell 1 _ rfl; have x122 : w12.cell? ⟨wn.heap.size, 2, none⟩ = some (.int .i64 (-1)) := KX.out.cell 2 _ rfl; have x123 : w12.cell? ⟨wn.heap.size, 3, none⟩ = some (.int .i64 (-1)) := KX.out.cell 3 _ rfl; have x124 : w12.cell? ⟨wn.heap.size, 4, none⟩ = some (.int .i64 (-1)) := KX.out.cell 4 _ rfl; have x125 : w12.cell? ⟨wn.heap.size, 5, none⟩ = some (.int .i64 z10) := KX.out.cell 5 _ rfl; have x126 : w12.cell? ⟨wn.heap.size, 6, none⟩ = some (.string s2) := KX.out.cell 6 _ rfl; have x127 : w12.cell? ⟨wn.heap.size, 7, none⟩ = some (.string s4) := KX.out.cell 7 _ rfl; have y122 := KX.out.frozen 2; have lx12 := KX.out.lt; clear KX; have S12 : Hid (US b lb lo cap L m N nv w [(wn.heap.size, .cells #[.int .i64 25, .int .i64 z8, .int .i64 z12, .int .i64 (-1), .int .i64 (-1), .int .i64 z10, .string s2, .string s4] 42 (0, 0))] r12 (w12.setCell ⟨wn.heap.size, 2, none⟩ (.int .i64 z12))) := Lib.hid (H12.out.set 2 (.int .i64 z12)))
  | ((with_reducible refine (ulay S12.out _ _ _ _ _ _ _ _).mono ?_); rintro e w13 ⟨z13, r13, rfl, hK, h13⟩; have T13 := Lib.hid (hK.go (T12.out.trans (congrArg _ (qaR L _)))); have H13 := Lib.hid h13; clear hK h13))
 go_ret
 exact US.fin H13.out (T13.out)
theorem rstmt_repeat (h : Rt b lb lo cap nv L m N 0 0 w) (hk5 : (tk L m).1.k = 5) (hs : (tk L m).1.s.toList = [114, 101, 112, 101, 97, 116]) (d : Nat) (hd : d ≤ 16) (bk : PM Int) (hb : RDp b lb lo cap L 53 ((d : Int) + 1) bk) (r : PR Int) (hr : qdt L (qaz L bk) m N.length = r) :
  Calls Tryz.prog 87 #[.pointer (some ⟨b, 0, none⟩), .int .i64 (d : Int)] w (RPost intV isInt b lb lo cap nv L m N w r) := by
 have q_let : ((tk L m).1.s.toList == [108, 101, 116]) = false := by rw [hs]; decide
 have q_set : ((tk L m).1.s.toList == [115, 101, 116]) = false := by rw [hs]; decide
 have q_put : ((tk L m).1.s.toList == [112, 117, 116]) = false := by rw [hs]; decide
 have q_if : ((tk L m).1.s.toList == [105, 102]) = false := by rw [hs]; decide
 have q_for : ((tk L m).1.s.toList == [102, 111, 114]) = false := by rw [hs]; decide
 have q_repeat : ((tk L m).1.s.toList == [114, 101, 112, 101, 97, 116]) = true := by rw [hs]; decide
 have q_delete : ((tk L m).1.s.toList == [100, 101, 108, 101, 116, 101]) = false := by rw [hs]; decide
 have q_abort : ((tk L m).1.s.toList == [97, 98, 111, 114, 116]) = false := by rw [hs]; decide
 have HB := Lib.hid hb
 have hd0 : 0 ≤ (d : Int) := by omega
 have hd1 : (d : Int) ≤ 16 := by omega
 clear hb hd
 unfold qdt at hr
 rw [qbg] at hr
 refine ybj ⟨?_⟩; intro KD
 have T1 := Lib.hid hr.symm
 obtain ⟨⟨xk, ts, ti⟩, hts⟩ : ∃ t, (tk L m).1 = t := ⟨_, rfl⟩
 rw [hts] at KD q_let q_set q_put q_if q_for q_repeat q_delete q_abort
 dsimp only at q_let q_set q_put q_if q_for q_repeat q_delete q_abort
 obtain ⟨ta, hta⟩ : ∃ t, (tk L m).2 = t := ⟨_, rfl⟩
 rw [hta] at KD
 have KW := Lib.hid (Kp.refl b nv w)
 clear h hr hs hts hta hk5
 go_enter Tryz.func87, Tryz.ntmps87
 go_wp2_with fail
 go_at_call 116
 refine (KD.out _ zaa).mono ?_
 rintro e w1 ⟨he, nv1, hs, hk, hm⟩
 unfold tokV at he
 dsimp only at he
 subst he
 refine ybh ⟨?_⟩; intro H1
 clear hs hk hm
 go_wp2_with (first
  | ((with_reducible refine (qaW _ _ _ _).mono ?_); rintro e wn ⟨rfl, hx⟩; have HN := Lib.hid (((H1.out).ext hx).new (.cells #[.int .i64 26, .int .i64 (-1), .int .i64 (-1), .int .i64 (-1), .int .i64 (-1), .int .i64 0, .string ⟨#[]⟩, .string ⟨#[]⟩] 42 (0, 0))); clear hx)
  | ((with_reducible refine (uturns HN.out).mono ?_); rintro e w2 ⟨z2, r2, rfl, hK, h2⟩; have T2 := Lib.hid (hK.go T1.out); have H2 := Lib.hid h2; clear hK h2; have KX := Lib.hid H2.out.kb; have x25 : w2.cell? ⟨wn.heap.size, 5, none⟩ = some (.int .i64 0) := KX.out.cell 5 _ rfl; have y25 := KX.out.frozen 5; have lx2 := KX.out.lt; clear KX; have S2 : Hid (US b lb lo cap L m N nv w [(wn.heap.size, .cells #[.int .i64 26, .int .i64 (-1), .int .i64 (-1), .int .i64 (-1), .int .i64 (-1), .int .i64 z2, .string ⟨#[]⟩, .string ⟨#[]⟩] 42 (0, 0))] r2 (w2.setCell ⟨wn.heap.size, 5, none⟩ (.int .i64 z2))) := Lib.hid (H2.out.set 5 (.int .i64 z2)))
  | ((with_reducible refine (qfc S2.out HB.out).mono ?_); rintro e w3 ⟨z3, r3, rfl, hK, h3⟩; have T3 := Lib.hid (hK.go T2.out); have H3 := Lib.hid h3; clear hK h3; have KX := Lib.hid H3.out.kb; have x30 : w3.cell? ⟨wn.heap.size, 0, none⟩ = some (.int .i64 26) := KX.out.cell 0 _ rfl; have x31 : w3.cell? ⟨wn.heap.size, 1, none⟩ = some (.int .i64 (-1)) := KX.out.cell 1 _ rfl; have x32 : w3.cell? ⟨wn.heap.size, 2, none⟩ = some (.int .i64 (-1)) := KX.out.cell 2 _ rfl; have x33 : w3.cell? ⟨wn.heap.size, 3, none⟩ = some (.int .i64 (-1)) := KX.out.cell 3 _ rfl; have x34 : w3.cell? ⟨wn.heap.size, 4, none⟩ = some (.int .i64 (-1)) := KX.out.cell 4 _ rfl; have x35 : w3.cell? ⟨wn.heap.size, 5, none⟩ = some (.int .i64 z2) := KX.out.cell 5 _ rfl; have x36 : w3.cell? ⟨wn.heap.size, 6, none⟩ = some (.string ⟨#[]⟩) := KX.out.cell 6 _ rfl; have x37 : w3.cell? ⟨wn.heap.size, 7, none⟩ = some (.string ⟨#[]⟩) := KX.out.cell 7 _ rfl; have y32 := KX.out.frozen 2; have lx3 := KX.out.lt; clear KX; have S3 : Hid (US b lb lo cap L m N nv w [(wn.heap.size, .cells #[.int .i64 26, .int .i64 (-1), .int .i64 z3, .int .i64 (-1), .int .i64 (-1), .int .i64 z2, .string ⟨#[]⟩, .string ⟨#[]⟩] 42 (0, 0))] r3 (w3.setCell ⟨wn.heap.size, 2, none⟩ (.int .i64 z3))) := Lib.hid (H3.out.set 2 (.int .i64 z3)))
  | ((with_reducible refine (ulay S3.out _ _ _ _ _ _ _ _).mono ?_); rintro e w4 ⟨z4, r4, rfl, hK, h4⟩; have T4 := Lib.hid (hK.go (T3.out.trans (congrArg _ (qaR L _)))); have H4 := Lib.hid h4; clear hK h4))
 go_ret
 exact US.fin H4.out (T4.out)
end Go.Proofs.YtpoeknndkccbaaaGreat
