/- Lemmas for the claim (texts Wr3, what its proof uses of them). -/
import Derived.Test.YtijmfpoanggjjaaGreatDoorK06
import Derived.Test.YtijmfpoanggjjaaGreatDoorK18
set_option linter.unusedSimpArgs false
set_option linter.unusedVariables false
namespace Go.Proofs.YtijmfpoanggjjaaGreatDoor
open Go.RowKit
attribute [go_sem] more_more Array.size_append
set_option maxHeartbeats 4000000 in
set_option maxRecDepth 20000 in
theorem wex0 {W : World} {b : Nat} {nv : Value} {fi : Int} {ns : List Nd} {L : List Own} {acc : List UInt8} {w : World} {j : Nat} {za zb zc zx zi : Int} {zs zt : ByteArray} (hz : ns[j]? = some ⟨0, za, zb, zc, zx, zi, zs, zt⟩) (hl : acc.length + 6000 ≤ 90000000) (h : Wr W b nv fi ns L acc w) :
  Calls Tryz.prog 21 #[.pointer (some ⟨b, 0, none⟩), .int .i64 (j : Int)] w fun e w' => e = .returned (.tuple #[]) ∧ Wr W b nv fi ns L (acc ++ ([110, 105, 108])) w' := by
 obtain ⟨G, n, cap, rfl, hG, hj, lb, c0, a0, a1, a2, a3, a4, a5, a6, a7⟩ := h.node hz
 dsimp only at a0 a1 a2 a3 a4 a5 a6 a7
 have H0 := Lib.hid (h.locNew #[.int .i64 0, .int .i64 za, .int .i64 zb, .int .i64 zc, .int .i64 zx, .int .i64 zi, .string zs, .string zt] 34 zaq)
 have HL := Lib.hid hl
 have hj0 : 0 ≤ (j : Int) := by omega
 have hjn : (j : Int) < (n : Int) := by omega
 clear hz h hj hl
 go_enter Tryz.func21, Tryz.ntmps21
 go_wp2_with fail
 go_at_call 38
 refine (say1 (H0.out.locNewAt _ _ zaq zbb) zap).mono ?_
 rintro e' h1w ⟨rfl, h1⟩
 have H1 := Lib.hid h1
 clear h1
 go_wp2_with fail
 (first | go_end0 | refine bodyPost_ret (results_none rfl _ _ _) rfl ?_)
 exact ⟨rfl, H1.out.locOut.congr (by rfl)⟩
set_option maxHeartbeats 4000000 in
set_option maxRecDepth 20000 in
theorem wex1 {W : World} {b : Nat} {nv : Value} {fi : Int} {ns : List Nd} {L : List Own} {acc : List UInt8} {w : World} {j : Nat} {za zb zc zx zi : Int} {zs zt : ByteArray} (hz : ns[j]? = some ⟨1, za, zb, zc, zx, zi, zs, zt⟩) (hl : acc.length + 6000 ≤ 90000000) (h : Wr W b nv fi ns L acc w) :
  Calls Tryz.prog 21 #[.pointer (some ⟨b, 0, none⟩), .int .i64 (j : Int)] w fun e w' => e = .returned (.tuple #[]) ∧ Wr W b nv fi ns L (acc ++ (boolL zi)) w' := by
 obtain ⟨G, n, cap, rfl, hG, hj, lb, c0, a0, a1, a2, a3, a4, a5, a6, a7⟩ := h.node hz
 dsimp only at a0 a1 a2 a3 a4 a5 a6 a7
 have H0 := Lib.hid (h.locNew #[.int .i64 1, .int .i64 za, .int .i64 zb, .int .i64 zc, .int .i64 zx, .int .i64 zi, .string zs, .string zt] 34 zaq)
 have HL := Lib.hid hl
 have hj0 : 0 ≤ (j : Int) := by omega
 have hjn : (j : Int) < (n : Int) := by omega
 obtain ⟨t, ht⟩ : ∃ t, (zi == 1) = t := ⟨_, rfl⟩
 have HT := Lib.hid (show (⟨(Lib.formatBool t).toArray⟩ : ByteArray).data.toList = boolL zi by
  rw [← ht]
  by_cases e : zi = 1
  · subst e; rfl
  · have e2 : (zi == 1) = false := by simpa using e
    rw [e2]; unfold boolL; rw [if_neg e]; rfl)
 have HTL := Lib.hid (show (Lib.formatBool t).length ≤ 5 by cases t <;> decide)
 clear hz h hj hl
 go_enter Tryz.func21, Tryz.ntmps21
 go_wp2_with ((go_at_call 39; (with_reducible refine (Tryz.strconv_FormatBool _ _).mono ?_); rintro e' _ ⟨rfl, rfl⟩))
 go_at_call 38
 refine (say1 (H0.out.locNewAt _ _ zaq zbb) (by have := HL.out; have := HTL.out; (try simp only [List.length_append, List.length_cons, List.length_nil]); omega)).mono ?_
 rintro e' h1w ⟨rfl, h1⟩
 have H1 := Lib.hid h1
 clear h1
 go_wp2_with fail
 (first | go_end0 | refine bodyPost_ret (results_none rfl _ _ _) rfl ?_)
 exact ⟨rfl, H1.out.locOut.congr (by rw [← HT.out])⟩
set_option maxHeartbeats 4000000 in
set_option maxRecDepth 20000 in
theorem wex2 {W : World} {b : Nat} {nv : Value} {fi : Int} {ns : List Nd} {L : List Own} {acc : List UInt8} {w : World} {j : Nat} {za zb zc zx zi : Int} {zs zt : ByteArray} (hz : ns[j]? = some ⟨2, za, zb, zc, zx, zi, zs, zt⟩) (hl : acc.length + 6000 ≤ 90000000) (h64 : In64 zi) (h : Wr W b nv fi ns L acc w) :
  Calls Tryz.prog 21 #[.pointer (some ⟨b, 0, none⟩), .int .i64 (j : Int)] w fun e w' => e = .returned (.tuple #[]) ∧ Wr W b nv fi ns L (acc ++ (Lib.itoa zi)) w' := by
 obtain ⟨G, n, cap, rfl, hG, hj, lb, c0, a0, a1, a2, a3, a4, a5, a6, a7⟩ := h.node hz
 dsimp only at a0 a1 a2 a3 a4 a5 a6 a7
 have H0 := Lib.hid (h.locNew #[.int .i64 2, .int .i64 za, .int .i64 zb, .int .i64 zc, .int .i64 zx, .int .i64 zi, .string zs, .string zt] 34 zaq)
 have HL := Lib.hid hl
 have hj0 : 0 ≤ (j : Int) := by omega
 have hjn : (j : Int) < (n : Int) := by omega
 have H64 := Lib.hid h64
 have HIL := Lib.hid (qbb h64)
 clear h64
 clear hz h hj hl
 go_enter Tryz.func21, Tryz.ntmps21
 go_wp2_with ((go_at_call 40; (with_reducible refine (Tryz.strconv_FormatInt_10 _ (qbE H64.out) (qbB H64.out) _ (Wr.tab H0.out)).mono ?_); rintro e' w1 ⟨rfl, dk, os, hx⟩; have H1 := Lib.hid (H0.out.of_ext (qbi hx)); clear hx))
 go_at_call 38
 refine (say1 (H1.out.locNewAt _ _ zaq zbb) (by have := HL.out; have := HIL.out; (try simp only [List.length_append, List.length_cons, List.length_nil]); omega)).mono ?_
 rintro e' h2w ⟨rfl, h2⟩
 have H2 := Lib.hid h2
 clear h2
 go_wp2_with fail
 (first | go_end0 | refine bodyPost_ret (results_none rfl _ _ _) rfl ?_)
 exact ⟨rfl, H2.out.locOut.congr (by rfl)⟩
set_option maxHeartbeats 4000000 in
set_option maxRecDepth 20000 in
theorem wex3 {W : World} {b : Nat} {nv : Value} {fi : Int} {ns : List Nd} {L : List Own} {acc : List UInt8} {w : World} {j : Nat} {za zb zc zx zi : Int} {zs zt : ByteArray} (hz : ns[j]? = some ⟨3, za, zb, zc, zx, zi, zs, zt⟩) (hl : acc.length + 6000 ≤ 90000000) (h : Wr W b nv fi ns L acc w) :
  Calls Tryz.prog 21 #[.pointer (some ⟨b, 0, none⟩), .int .i64 (j : Int)] w fun e w' => e = .returned (.tuple #[]) ∧ Wr W b nv fi ns L (acc ++ ((qbA zs.data.toList).1)) w' := by
 obtain ⟨G, n, cap, rfl, hG, hj, lb, c0, a0, a1, a2, a3, a4, a5, a6, a7⟩ := h.node hz
 dsimp only at a0 a1 a2 a3 a4 a5 a6 a7
 have H0 := Lib.hid (h.locNew #[.int .i64 3, .int .i64 za, .int .i64 zb, .int .i64 zc, .int .i64 zx, .int .i64 zi, .string zs, .string zt] 34 zaq)
 have HL := Lib.hid hl
 have hj0 : 0 ≤ (j : Int) := by omega
 have hjn : (j : Int) < (n : Int) := by omega
 obtain ⟨q, er, hq⟩ : ∃ q er, qbA zs.data.toList = (q, er) := ⟨_, _, rfl⟩
 have HQ := Lib.hid (fun w => quote_any zs q er hq w)
 have HQL := Lib.hid (show q.length ≤ 200 by have := quoteF_le zs.data.toList; rw [hq] at this; exact this)
 have HQE := Lib.hid (show (qbA zs.data.toList).1 = q by rw [hq])
 clear hq
 clear hz h hj hl
 go_enter Tryz.func21, Tryz.ntmps21
 go_wp2_with ((go_at_call 41; (with_reducible refine (HQ.out _).mono ?_); rintro e' _ ⟨rfl, d1, os1, rfl⟩; have H1 := Lib.hid (H0.out.of_ext ⟨d1, os1, rfl⟩)))
 go_at_call 38
 refine (say1 (H1.out.locNewAt _ _ zaq zbb) (by have := HL.out; have := HQL.out; (try simp only [List.length_append, List.length_cons, List.length_nil]); omega)).mono ?_
 rintro e' h2w ⟨rfl, h2⟩
 have H2 := Lib.hid h2
 clear h2
 go_wp2_with fail
 (first | go_end0 | refine bodyPost_ret (results_none rfl _ _ _) rfl ?_)
 exact ⟨rfl, H2.out.locOut.congr (by rw [HQE.out])⟩
set_option maxHeartbeats 4000000 in
set_option maxRecDepth 20000 in
theorem wex4 {W : World} {b : Nat} {nv : Value} {fi : Int} {ns : List Nd} {L : List Own} {acc : List UInt8} {w : World} {j : Nat} {za zb zc zx zi : Int} {zs zt : ByteArray} (hz : ns[j]? = some ⟨4, za, zb, zc, zx, zi, zs, zt⟩) (hl : acc.length + 6000 ≤ 90000000) (hs : zs.size ≤ 5000) (h : Wr W b nv fi ns L acc w) :
  Calls Tryz.prog 21 #[.pointer (some ⟨b, 0, none⟩), .int .i64 (j : Int)] w fun e w' => e = .returned (.tuple #[]) ∧ Wr W b nv fi ns L (acc ++ (zs.data.toList)) w' := by
 obtain ⟨G, n, cap, rfl, hG, hj, lb, c0, a0, a1, a2, a3, a4, a5, a6, a7⟩ := h.node hz
 dsimp only at a0 a1 a2 a3 a4 a5 a6 a7
 have H0 := Lib.hid (h.locNew #[.int .i64 4, .int .i64 za, .int .i64 zb, .int .i64 zc, .int .i64 zx, .int .i64 zi, .string zs, .string zt] 34 zaq)
 have HL := Lib.hid hl
 have hj0 : 0 ≤ (j : Int) := by omega
 have hjn : (j : Int) < (n : Int) := by omega
 have HS := Lib.hid (show zs.data.toList.length ≤ 5000 by simpa using hs)
 clear hs
 clear hz h hj hl
 go_enter Tryz.func21, Tryz.ntmps21
 go_wp2_with fail
 go_at_call 38
 refine (say1 (H0.out.locNewAt _ _ zaq zbb) zde).mono ?_
 rintro e' h1w ⟨rfl, h1⟩
 have H1 := Lib.hid h1
 clear h1
 go_wp2_with fail
 (first | go_end0 | refine bodyPost_ret (results_none rfl _ _ _) rfl ?_)
 exact ⟨rfl, H1.out.locOut.congr (by rfl)⟩
set_option maxHeartbeats 4000000 in
set_option maxRecDepth 20000 in
theorem wex9 {W : World} {b : Nat} {nv : Value} {fi : Int} {ns : List Nd} {L : List Own} {acc : List UInt8} {w : World} {j : Nat} {zb zc zx zi : Int} {zs zt : ByteArray} {ja m : Nat} {zA : Nd} {E : Int → List UInt8} (hz : ns[j]? = some ⟨9, (ja : Int), zb, zc, zx, zi, zs, zt⟩) (hl : acc.length + m + 6000 ≤ 90000000) (hza : ns[ja]? = some zA) (hsa : zA.s.size ≤ 5000) (X : ExprC W b nv fi ns (ja : Int) m (E (ja : Int))) (hE : (E (ja : Int)).length ≤ m) (h : Wr W b nv fi ns L acc w) :
  Calls Tryz.prog 21 #[.pointer (some ⟨b, 0, none⟩), .int .i64 (j : Int)] w fun e w' => e = .returned (.tuple #[]) ∧ Wr W b nv fi ns L (acc ++ ([110, 111, 116, 32] ++ qaN E ns (ja : Int) 6)) w' := by
 obtain ⟨G, n, cap, rfl, hG, hj, lb, c0, a0, a1, a2, a3, a4, a5, a6, a7⟩ := h.node hz
 dsimp only at a0 a1 a2 a3 a4 a5 a6 a7
 have H0 := Lib.hid (h.locNew #[.int .i64 9, .int .i64 (ja : Int), .int .i64 zb, .int .i64 zc, .int .i64 zx, .int .i64 zi, .string zs, .string zt] 34 zaq)
 have HL := Lib.hid hl
 have hj0 : 0 ≤ (j : Int) := by omega
 have hjn : (j : Int) < (n : Int) := by omega
 have XB := Lib.hid (fun (L : List Own) (acc : List UInt8) (w : World) (h1 : acc.length + m + 2 ≤ 90000000) (h2 : Wr W b (.slice (some ⟨G, 0, none⟩) n cap) fi ns L acc w) => qcc (E := E) hza hsa 6 X hE h1 h2)
 clear hza hsa X hE
 clear hz h hj hl
 go_enter Tryz.func21, Tryz.ntmps21
 go_wp2_with fail
 go_at_call 38
 refine (say1 (H0.out.locNewAt _ _ zaq zbb) zap).mono ?_
 rintro e' h1w ⟨rfl, h1⟩
 have H1 := Lib.hid h1
 clear h1
 have KH1 := Lib.hid (H1.out.locAt List.mem_cons_self)
 have xH11 := KH1.out.cell 1 _ rfl
 have lxH1 := KH1.out.lt
 have lbH1 := H1.out.lt.1
 go_wp2_with fail
 go_at_call 42
 refine (XB.out _ _ _ zap H1.out).mono ?_
 rintro e' h2w ⟨rfl, h2⟩
 have H2 := Lib.hid h2
 clear h2
 go_wp2_with fail
 (first | go_end0 | refine bodyPost_ret (results_none rfl _ _ _) rfl ?_)
 exact ⟨rfl, H2.out.locOut.congr zdd⟩
set_option maxHeartbeats 4000000 in
set_option maxRecDepth 20000 in
theorem wex10 {W : World} {b : Nat} {nv : Value} {fi : Int} {ns : List Nd} {L : List Own} {acc : List UInt8} {w : World} {j : Nat} {zb zc zx zi : Int} {zs zt : ByteArray} {ja m : Nat} {zA : Nd} {E : Int → List UInt8} (hz : ns[j]? = some ⟨10, (ja : Int), zb, zc, zx, zi, zs, zt⟩) (hl : acc.length + m + 6000 ≤ 90000000) (hza : ns[ja]? = some zA) (hsa : zA.s.size ≤ 5000) (X : ExprC W b nv fi ns (ja : Int) m (E (ja : Int))) (hE : (E (ja : Int)).length ≤ m) (h : Wr W b nv fi ns L acc w) :
  Calls Tryz.prog 21 #[.pointer (some ⟨b, 0, none⟩), .int .i64 (j : Int)] w fun e w' => e = .returned (.tuple #[]) ∧ Wr W b nv fi ns L (acc ++ ([45] ++ qaN E ns (ja : Int) 6)) w' := by
 obtain ⟨G, n, cap, rfl, hG, hj, lb, c0, a0, a1, a2, a3, a4, a5, a6, a7⟩ := h.node hz
 dsimp only at a0 a1 a2 a3 a4 a5 a6 a7
 have H0 := Lib.hid (h.locNew #[.int .i64 10, .int .i64 (ja : Int), .int .i64 zb, .int .i64 zc, .int .i64 zx, .int .i64 zi, .string zs, .string zt] 34 zaq)
 have HL := Lib.hid hl
 have hj0 : 0 ≤ (j : Int) := by omega
 have hjn : (j : Int) < (n : Int) := by omega
 have XB := Lib.hid (fun (L : List Own) (acc : List UInt8) (w : World) (h1 : acc.length + m + 2 ≤ 90000000) (h2 : Wr W b (.slice (some ⟨G, 0, none⟩) n cap) fi ns L acc w) => qcc (E := E) hza hsa 6 X hE h1 h2)
 clear hza hsa X hE
 clear hz h hj hl
 go_enter Tryz.func21, Tryz.ntmps21
 go_wp2_with fail
 go_at_call 38
 refine (say1 (H0.out.locNewAt _ _ zaq zbb) zap).mono ?_
 rintro e' h1w ⟨rfl, h1⟩
 have H1 := Lib.hid h1
 clear h1
 have KH1 := Lib.hid (H1.out.locAt List.mem_cons_self)
 have xH11 := KH1.out.cell 1 _ rfl
 have lxH1 := KH1.out.lt
 have lbH1 := H1.out.lt.1
 go_wp2_with fail
 go_at_call 42
 refine (XB.out _ _ _ zap H1.out).mono ?_
 rintro e' h2w ⟨rfl, h2⟩
 have H2 := Lib.hid h2
 clear h2
 go_wp2_with fail
 (first | go_end0 | refine bodyPost_ret (results_none rfl _ _ _) rfl ?_)
 exact ⟨rfl, H2.out.locOut.congr zdd⟩
set_option maxHeartbeats 4000000 in
set_option maxRecDepth 20000 in
theorem wex11a {W : World} {b : Nat} {nv : Value} {fi : Int} {ns : List Nd} {L : List Own} {acc : List UInt8} {w : World} {j : Nat} {zc zx zi : Int} {zs zt : ByteArray} {ja jb ma mb : Nat} {zA zB : Nd} {E : Int → List UInt8} {c : Int} (hz : ns[j]? = some ⟨11, (ja : Int), (jb : Int), zc, zx, zi, zs, zt⟩) (hl : acc.length + ma + mb + 6000 ≤ 90000000) (hs : zs.size ≤ 5000) (hza : ns[ja]? = some zA) (hsa : zA.s.size ≤ 5000) (XA : ExprC W b nv fi ns (ja : Int) ma (E (ja : Int))) (hEA : (E (ja : Int)).length ≤ ma) (hzb : ns[jb]? = some zB) (hsb : zB.s.size ≤ 5000) (XB : ExprC W b nv fi ns (jb : Int) mb (E (jb : Int))) (hEB : (E (jb : Int)).length ≤ mb) (hc : qar 11 zs = c) (hcl : (-1 : Int) ≤ c) (hch : c ≤ 6) (hc2 : (c == 2) = false) (h : Wr W b nv fi ns L acc w) :
  Calls Tryz.prog 21 #[.pointer (some ⟨b, 0, none⟩), .int .i64 (j : Int)] w fun e w' => e = .returned (.tuple #[]) ∧ Wr W b nv fi ns L (acc ++ (qaN E ns (ja : Int) (leftC (qar 11 zs)) ++ ([32] ++ (zs.data.toList ++ [32]) ++ qaN E ns (jb : Int) (qar 11 zs + 1)))) w' := by
 obtain ⟨G, n, cap, rfl, hG, hj, lb, c0, a0, a1, a2, a3, a4, a5, a6, a7⟩ := h.node hz
 dsimp only at a0 a1 a2 a3 a4 a5 a6 a7
 have H0 := Lib.hid (h.locNew #[.int .i64 11, .int .i64 (ja : Int), .int .i64 (jb : Int), .int .i64 zc, .int .i64 zx, .int .i64 zi, .string zs, .string zt] 34 zaq)
 have HL := Lib.hid hl
 have hj0 : 0 ≤ (j : Int) := by omega
 have hjn : (j : Int) < (n : Int) := by omega
 have C := Lib.hid (fun w => close_any 11 (ja : Int) (jb : Int) zc zx zi zs zt zcw w)
 have HS := Lib.hid (show zs.data.toList.length ≤ 5000 by simpa using hs)
 rw [hc] at C
 have HC := Lib.hid hc
 have YA := Lib.hid (fun (L : List Own) (acc : List UInt8) (w : World) (h1 : acc.length + ma + 2 ≤ 90000000) (h2 : Wr W b (.slice (some ⟨G, 0, none⟩) n cap) fi ns L acc w) => qcc (E := E) hza hsa c XA hEA h1 h2)
 have YB := Lib.hid (fun (L : List Own) (acc : List UInt8) (w : World) (h1 : acc.length + mb + 2 ≤ 90000000) (h2 : Wr W b (.slice (some ⟨G, 0, none⟩) n cap) fi ns L acc w) => qcc (E := E) hzb hsb (c + 1) XB hEB h1 h2)
 have LA := Lib.hid (qaS (ns := ns) (least := c) hEA)
 clear hza hsa XA hEA hzb hsb XB hEB hs hc
 have HLF := Lib.hid (show leftC c = c by unfold leftC; rw [if_neg (by simpa using hc2)])
 clear hz h hj hl
 go_enter Tryz.func21, Tryz.ntmps21
 go_wp2_with ((go_at_call 14; (with_reducible refine (C.out _).mono ?_); rintro e' _ ⟨rfl, d1, os1, rfl⟩; have H1 := Lib.hid (H0.out.of_ext ⟨d1, os1, rfl⟩)))
 go_at_call 42
 refine (YA.out _ _ _ zap H1.out).mono ?_
 rintro e' h2w ⟨rfl, h2⟩
 have H2 := Lib.hid h2
 clear h2
 have KH2 := Lib.hid (H2.out.locAt List.mem_cons_self)
 have xH22 := KH2.out.cell 2 _ rfl
 have xH26 := KH2.out.cell 6 _ rfl
 have lxH2 := KH2.out.lt
 have lbH2 := H2.out.lt.1
 go_wp2_with fail
 go_at_call 38
 refine (say3 (H2.out.locNewAt _ _ zaq zbb) zdj).mono ?_
 rintro e' h3w ⟨rfl, h3⟩
 have H3 := Lib.hid h3
 clear h3
 have KH3 := Lib.hid (H3.out.locAt List.mem_cons_self)
 have xH32 := KH3.out.cell 2 _ rfl
 have lxH3 := KH3.out.lt
 have lbH3 := H3.out.lt.1
 go_wp2_with fail
 go_at_call 42
 refine (YB.out _ _ _ zdj H3.out).mono ?_
 rintro e' h4w ⟨rfl, h4⟩
 have H4 := Lib.hid h4
 clear h4
 go_wp2_with fail
 (first | go_end0 | refine bodyPost_ret (results_none rfl _ _ _) rfl ?_)
 exact ⟨rfl, H4.out.locOut.congr (by rw [HC.out, HLF.out]; (first | (simp only [List.append_assoc]; done) | (simp only [List.append_assoc]; rfl) | rfl))⟩
set_option maxHeartbeats 4000000 in
set_option maxRecDepth 20000 in
theorem wex11b {W : World} {b : Nat} {nv : Value} {fi : Int} {ns : List Nd} {L : List Own} {acc : List UInt8} {w : World} {j : Nat} {zc zx zi : Int} {zs zt : ByteArray} {ja jb ma mb : Nat} {zA zB : Nd} {E : Int → List UInt8} (hz : ns[j]? = some ⟨11, (ja : Int), (jb : Int), zc, zx, zi, zs, zt⟩) (hl : acc.length + ma + mb + 6000 ≤ 90000000) (hs : zs.size ≤ 5000) (hza : ns[ja]? = some zA) (hsa : zA.s.size ≤ 5000) (XA : ExprC W b nv fi ns (ja : Int) ma (E (ja : Int))) (hEA : (E (ja : Int)).length ≤ ma) (hzb : ns[jb]? = some zB) (hsb : zB.s.size ≤ 5000) (XB : ExprC W b nv fi ns (jb : Int) mb (E (jb : Int))) (hEB : (E (jb : Int)).length ≤ mb) (hc : qar 11 zs = 2) (h : Wr W b nv fi ns L acc w) :
  Calls Tryz.prog 21 #[.pointer (some ⟨b, 0, none⟩), .int .i64 (j : Int)] w fun e w' => e = .returned (.tuple #[]) ∧ Wr W b nv fi ns L (acc ++ (qaN E ns (ja : Int) (leftC (qar 11 zs)) ++ ([32] ++ (zs.data.toList ++ [32]) ++ qaN E ns (jb : Int) (qar 11 zs + 1)))) w' := by
 obtain ⟨G, n, cap, rfl, hG, hj, lb, c0, a0, a1, a2, a3, a4, a5, a6, a7⟩ := h.node hz
 dsimp only at a0 a1 a2 a3 a4 a5 a6 a7
 have H0 := Lib.hid (h.locNew #[.int .i64 11, .int .i64 (ja : Int), .int .i64 (jb : Int), .int .i64 zc, .int .i64 zx, .int .i64 zi, .string zs, .string zt] 34 zaq)
 have HL := Lib.hid hl
 have hj0 : 0 ≤ (j : Int) := by omega
 have hjn : (j : Int) < (n : Int) := by omega
 have C := Lib.hid (fun w => close_any 11 (ja : Int) (jb : Int) zc zx zi zs zt zcw w)
 have HS := Lib.hid (show zs.data.toList.length ≤ 5000 by simpa using hs)
 rw [hc] at C
 have HC := Lib.hid hc
 have YA := Lib.hid (fun (L : List Own) (acc : List UInt8) (w : World) (h1 : acc.length + ma + 2 ≤ 90000000) (h2 : Wr W b (.slice (some ⟨G, 0, none⟩) n cap) fi ns L acc w) => qcc (E := E) hza hsa 3 XA hEA h1 h2)
 have YB := Lib.hid (fun (L : List Own) (acc : List UInt8) (w : World) (h1 : acc.length + mb + 2 ≤ 90000000) (h2 : Wr W b (.slice (some ⟨G, 0, none⟩) n cap) fi ns L acc w) => qcc (E := E) hzb hsb (2 + 1) XB hEB h1 h2)
 have LA := Lib.hid (qaS (ns := ns) (least := 3) hEA)
 clear hza hsa XA hEA hzb hsb XB hEB hs hc
 have HLF := Lib.hid (show leftC 2 = 3 from rfl)
 clear hz h hj hl
 go_enter Tryz.func21, Tryz.ntmps21
 go_wp2_with ((go_at_call 14; (with_reducible refine (C.out _).mono ?_); rintro e' _ ⟨rfl, d1, os1, rfl⟩; have H1 := Lib.hid (H0.out.of_ext ⟨d1, os1, rfl⟩)))
 go_at_call 42
 refine (YA.out _ _ _ zap H1.out).mono ?_
 rintro e' h2w ⟨rfl, h2⟩
 have H2 := Lib.hid h2
 clear h2
 have KH2 := Lib.hid (H2.out.locAt List.mem_cons_self)
 have xH22 := KH2.out.cell 2 _ rfl
 have xH26 := KH2.out.cell 6 _ rfl
 have lxH2 := KH2.out.lt
 have lbH2 := H2.out.lt.1
 go_wp2_with fail
 go_at_call 38
 refine (say3 (H2.out.locNewAt _ _ zaq zbb) zdj).mono ?_
 rintro e' h3w ⟨rfl, h3⟩
 have H3 := Lib.hid h3
 clear h3
 have KH3 := Lib.hid (H3.out.locAt List.mem_cons_self)
 have xH32 := KH3.out.cell 2 _ rfl
 have lxH3 := KH3.out.lt
 have lbH3 := H3.out.lt.1
 go_wp2_with fail
 go_at_call 42
 refine (YB.out _ _ _ zdj H3.out).mono ?_
 rintro e' h4w ⟨rfl, h4⟩
 have H4 := Lib.hid h4
 clear h4
 go_wp2_with fail
 (first | go_end0 | refine bodyPost_ret (results_none rfl _ _ _) rfl ?_)
 exact ⟨rfl, H4.out.locOut.congr (by rw [HC.out, HLF.out]; (first | (simp only [List.append_assoc]; done) | (simp only [List.append_assoc]; rfl) | rfl))⟩
set_option maxHeartbeats 4000000 in
set_option maxRecDepth 20000 in
theorem wex5 {W : World} {b : Nat} {nv : Value} {fi : Int} {ns : List Nd} {L : List Own} {acc : List UInt8} {w : World} {j : Nat} {zb zc zx zi : Int} {zs zt : ByteArray} {ja m : Nat} {E : Int → List UInt8} (hz : ns[j]? = some ⟨5, (ja : Int), zb, zc, zx, zi, zs, zt⟩) (hl : acc.length + m + 6000 ≤ 90000000) (X : ExprC W b nv fi ns (ja : Int) m (E (ja : Int))) (hE : (E (ja : Int)).length ≤ m) (h : Wr W b nv fi ns L acc w) :
  Calls Tryz.prog 21 #[.pointer (some ⟨b, 0, none⟩), .int .i64 (j : Int)] w fun e w' => e = .returned (.tuple #[]) ∧ Wr W b nv fi ns L (acc ++ ([103, 101, 116] ++ ([40] ++ (E (ja : Int) ++ [41])))) w' := by
 obtain ⟨G, n, cap, rfl, hG, hj, lb, c0, a0, a1, a2, a3, a4, a5, a6, a7⟩ := h.node hz
 dsimp only at a0 a1 a2 a3 a4 a5 a6 a7
 have H0 := Lib.hid (h.locNew #[.int .i64 5, .int .i64 (ja : Int), .int .i64 zb, .int .i64 zc, .int .i64 zx, .int .i64 zi, .string zs, .string zt] 34 zaq)
 have HL := Lib.hid hl
 have hj0 : 0 ≤ (j : Int) := by omega
 have hjn : (j : Int) < (n : Int) := by omega
 have XC := Lib.hid X
 have HE := Lib.hid hE
 clear X hE
 have hI : ∀ W : World, (Instr.index 80 (.agg #[.string ⟨#[103, 101, 116]⟩, .string ⟨#[104, 97, 115]⟩, .string ⟨#[108, 101, 110]⟩, .string ⟨#[115, 104, 111, 119]⟩]) (.int .i64 0)).run Tryz.prog W = .ok (.string ⟨#[103, 101, 116]⟩) W := fun W => by kernel_rfl
 clear hz h hj hl
 go_enter Tryz.func21, Tryz.ntmps21
 go_wp2_with fail
 go_at_call 38
 refine (say2 (H0.out.locNewAt _ _ zaq zbb) zap).mono ?_
 rintro e' h1w ⟨rfl, h1⟩
 have H1 := Lib.hid h1
 clear h1
 have KH1 := Lib.hid (H1.out.locAt List.mem_cons_self)
 have xH11 := KH1.out.cell 1 _ rfl
 have lxH1 := KH1.out.lt
 have lbH1 := H1.out.lt.1
 go_wp2_with fail
 go_at_call 21
 refine (XC.out _ _ _ zap H1.out).mono ?_
 rintro e' h2w ⟨rfl, h2⟩
 have H2 := Lib.hid h2
 clear h2
 go_wp2_with fail
 go_at_call 38
 refine (say1 (H2.out.locNewAt _ _ zaq zbb) zcs).mono ?_
 rintro e' h3w ⟨rfl, h3⟩
 have H3 := Lib.hid h3
 clear h3
 go_wp2_with fail
 (first | go_end0 | refine bodyPost_ret (results_none rfl _ _ _) rfl ?_)
 exact ⟨rfl, H3.out.locOut.congr zdd⟩
set_option maxHeartbeats 4000000 in
set_option maxRecDepth 20000 in
theorem wex6 {W : World} {b : Nat} {nv : Value} {fi : Int} {ns : List Nd} {L : List Own} {acc : List UInt8} {w : World} {j : Nat} {zb zc zx zi : Int} {zs zt : ByteArray} {ja m : Nat} {E : Int → List UInt8} (hz : ns[j]? = some ⟨6, (ja : Int), zb, zc, zx, zi, zs, zt⟩) (hl : acc.length + m + 6000 ≤ 90000000) (X : ExprC W b nv fi ns (ja : Int) m (E (ja : Int))) (hE : (E (ja : Int)).length ≤ m) (h : Wr W b nv fi ns L acc w) :
  Calls Tryz.prog 21 #[.pointer (some ⟨b, 0, none⟩), .int .i64 (j : Int)] w fun e w' => e = .returned (.tuple #[]) ∧ Wr W b nv fi ns L (acc ++ ([104, 97, 115] ++ ([40] ++ (E (ja : Int) ++ [41])))) w' := by
 obtain ⟨G, n, cap, rfl, hG, hj, lb, c0, a0, a1, a2, a3, a4, a5, a6, a7⟩ := h.node hz
 dsimp only at a0 a1 a2 a3 a4 a5 a6 a7
 have H0 := Lib.hid (h.locNew #[.int .i64 6, .int .i64 (ja : Int), .int .i64 zb, .int .i64 zc, .int .i64 zx, .int .i64 zi, .string zs, .string zt] 34 zaq)
 have HL := Lib.hid hl
 have hj0 : 0 ≤ (j : Int) := by omega
 have hjn : (j : Int) < (n : Int) := by omega
 have XC := Lib.hid X
 have HE := Lib.hid hE
 clear X hE
 have hI : ∀ W : World, (Instr.index 80 (.agg #[.string ⟨#[103, 101, 116]⟩, .string ⟨#[104, 97, 115]⟩, .string ⟨#[108, 101, 110]⟩, .string ⟨#[115, 104, 111, 119]⟩]) (.int .i64 1)).run Tryz.prog W = .ok (.string ⟨#[104, 97, 115]⟩) W := fun W => by kernel_rfl
 clear hz h hj hl
 go_enter Tryz.func21, Tryz.ntmps21
 go_wp2_with fail
 go_at_call 38
 refine (say2 (H0.out.locNewAt _ _ zaq zbb) zap).mono ?_
 rintro e' h1w ⟨rfl, h1⟩
 have H1 := Lib.hid h1
 clear h1
 have KH1 := Lib.hid (H1.out.locAt List.mem_cons_self)
 have xH11 := KH1.out.cell 1 _ rfl
 have lxH1 := KH1.out.lt
 have lbH1 := H1.out.lt.1
 go_wp2_with fail
 go_at_call 21
 refine (XC.out _ _ _ zap H1.out).mono ?_
 rintro e' h2w ⟨rfl, h2⟩
 have H2 := Lib.hid h2
 clear h2
 go_wp2_with fail
 go_at_call 38
 refine (say1 (H2.out.locNewAt _ _ zaq zbb) zcs).mono ?_
 rintro e' h3w ⟨rfl, h3⟩
 have H3 := Lib.hid h3
 clear h3
 go_wp2_with fail
 (first | go_end0 | refine bodyPost_ret (results_none rfl _ _ _) rfl ?_)
 exact ⟨rfl, H3.out.locOut.congr zdd⟩
set_option maxHeartbeats 4000000 in
set_option maxRecDepth 20000 in
theorem wex7 {W : World} {b : Nat} {nv : Value} {fi : Int} {ns : List Nd} {L : List Own} {acc : List UInt8} {w : World} {j : Nat} {zb zc zx zi : Int} {zs zt : ByteArray} {ja m : Nat} {E : Int → List UInt8} (hz : ns[j]? = some ⟨7, (ja : Int), zb, zc, zx, zi, zs, zt⟩) (hl : acc.length + m + 6000 ≤ 90000000) (X : ExprC W b nv fi ns (ja : Int) m (E (ja : Int))) (hE : (E (ja : Int)).length ≤ m) (h : Wr W b nv fi ns L acc w) :
  Calls Tryz.prog 21 #[.pointer (some ⟨b, 0, none⟩), .int .i64 (j : Int)] w fun e w' => e = .returned (.tuple #[]) ∧ Wr W b nv fi ns L (acc ++ ([108, 101, 110] ++ ([40] ++ (E (ja : Int) ++ [41])))) w' := by
 obtain ⟨G, n, cap, rfl, hG, hj, lb, c0, a0, a1, a2, a3, a4, a5, a6, a7⟩ := h.node hz
 dsimp only at a0 a1 a2 a3 a4 a5 a6 a7
 have H0 := Lib.hid (h.locNew #[.int .i64 7, .int .i64 (ja : Int), .int .i64 zb, .int .i64 zc, .int .i64 zx, .int .i64 zi, .string zs, .string zt] 34 zaq)
 have HL := Lib.hid hl
 have hj0 : 0 ≤ (j : Int) := by omega
 have hjn : (j : Int) < (n : Int) := by omega
 have XC := Lib.hid X
 have HE := Lib.hid hE
 clear X hE
 have hI : ∀ W : World, (Instr.index 80 (.agg #[.string ⟨#[103, 101, 116]⟩, .string ⟨#[104, 97, 115]⟩, .string ⟨#[108, 101, 110]⟩, .string ⟨#[115, 104, 111, 119]⟩]) (.int .i64 2)).run Tryz.prog W = .ok (.string ⟨#[108, 101, 110]⟩) W := fun W => by kernel_rfl
 clear hz h hj hl
 go_enter Tryz.func21, Tryz.ntmps21
 go_wp2_with fail
 go_at_call 38
 refine (say2 (H0.out.locNewAt _ _ zaq zbb) zap).mono ?_
 rintro e' h1w ⟨rfl, h1⟩
 have H1 := Lib.hid h1
 clear h1
 have KH1 := Lib.hid (H1.out.locAt List.mem_cons_self)
 have xH11 := KH1.out.cell 1 _ rfl
 have lxH1 := KH1.out.lt
 have lbH1 := H1.out.lt.1
 go_wp2_with fail
 go_at_call 21
 refine (XC.out _ _ _ zap H1.out).mono ?_
 rintro e' h2w ⟨rfl, h2⟩
 have H2 := Lib.hid h2
 clear h2
 go_wp2_with fail
 go_at_call 38
 refine (say1 (H2.out.locNewAt _ _ zaq zbb) zcs).mono ?_
 rintro e' h3w ⟨rfl, h3⟩
 have H3 := Lib.hid h3
 clear h3
 go_wp2_with fail
 (first | go_end0 | refine bodyPost_ret (results_none rfl _ _ _) rfl ?_)
 exact ⟨rfl, H3.out.locOut.congr zdd⟩
set_option maxHeartbeats 4000000 in
set_option maxRecDepth 20000 in
theorem wex8 {W : World} {b : Nat} {nv : Value} {fi : Int} {ns : List Nd} {L : List Own} {acc : List UInt8} {w : World} {j : Nat} {zb zc zx zi : Int} {zs zt : ByteArray} {ja m : Nat} {E : Int → List UInt8} (hz : ns[j]? = some ⟨8, (ja : Int), zb, zc, zx, zi, zs, zt⟩) (hl : acc.length + m + 6000 ≤ 90000000) (X : ExprC W b nv fi ns (ja : Int) m (E (ja : Int))) (hE : (E (ja : Int)).length ≤ m) (h : Wr W b nv fi ns L acc w) :
  Calls Tryz.prog 21 #[.pointer (some ⟨b, 0, none⟩), .int .i64 (j : Int)] w fun e w' => e = .returned (.tuple #[]) ∧ Wr W b nv fi ns L (acc ++ ([115, 104, 111, 119] ++ ([40] ++ (E (ja : Int) ++ [41])))) w' := by
 obtain ⟨G, n, cap, rfl, hG, hj, lb, c0, a0, a1, a2, a3, a4, a5, a6, a7⟩ := h.node hz
 dsimp only at a0 a1 a2 a3 a4 a5 a6 a7
 have H0 := Lib.hid (h.locNew #[.int .i64 8, .int .i64 (ja : Int), .int .i64 zb, .int .i64 zc, .int .i64 zx, .int .i64 zi, .string zs, .string zt] 34 zaq)
 have HL := Lib.hid hl
 have hj0 : 0 ≤ (j : Int) := by omega
 have hjn : (j : Int) < (n : Int) := by omega
 have XC := Lib.hid X
 have HE := Lib.hid hE
 clear X hE
 have hI : ∀ W : World, (Instr.index 80 (.agg #[.string ⟨#[103, 101, 116]⟩, .string ⟨#[104, 97, 115]⟩, .string ⟨#[108, 101, 110]⟩, .string ⟨#[115, 104, 111, 119]⟩]) (.int .i64 3)).run Tryz.prog W = .ok (.string ⟨#[115, 104, 111, 119]⟩) W := fun W => by kernel_rfl
 clear hz h hj hl
 go_enter Tryz.func21, Tryz.ntmps21
 go_wp2_with fail
 go_at_call 38
 refine (say2 (H0.out.locNewAt _ _ zaq zbb) zap).mono ?_
 rintro e' h1w ⟨rfl, h1⟩
 have H1 := Lib.hid h1
 clear h1
 have KH1 := Lib.hid (H1.out.locAt List.mem_cons_self)
 have xH11 := KH1.out.cell 1 _ rfl
 have lxH1 := KH1.out.lt
 have lbH1 := H1.out.lt.1
 go_wp2_with fail
 go_at_call 21
 refine (XC.out _ _ _ zap H1.out).mono ?_
 rintro e' h2w ⟨rfl, h2⟩
 have H2 := Lib.hid h2
 clear h2
 go_wp2_with fail
 go_at_call 38
 refine (say1 (H2.out.locNewAt _ _ zaq zbb) zcs).mono ?_
 rintro e' h3w ⟨rfl, h3⟩
 have H3 := Lib.hid h3
 clear h3
 go_wp2_with fail
 (first | go_end0 | refine bodyPost_ret (results_none rfl _ _ _) rfl ?_)
 exact ⟨rfl, H3.out.locOut.congr zdd⟩
theorem qdb {W : World} {b : Nat} {nv : Value} {fi : Int} {ns : List Nd} (hs : Sz ns) (hb : ∀ (j : Nat) (z : Nd), ns[j]? = some z → nodeB ns j z = true) : ∀ (f : Nat) (i : Int) (n : Nat), Tr ns i n → n ≤ f → EK ns i → ExprC W b nv fi ns i (11000 * n) (txE ns f i) := by
 intro f
 induction f with
 | zero =>
  intro i n t hn ⟨h0, _⟩
  obtain ⟨_, _, _, _, _, _, _, _, _, _, _, _, e⟩ := qcj t h0
  omega
 | succ f ih =>
  intro i n t hn ⟨h0, hk⟩ L acc w hl h
  obtain ⟨j, z, na, nb, nc, nx, rfl, hz, ta, tb, _, _, rfl⟩ := qcj t h0
  obtain ⟨k0, k1, ka, kb⟩ := qen hz (hb j z hz) hk
  obtain ⟨s1, _, s3⟩ := hs z (List.mem_of_getElem? hz)
  rw [txE_at hz]
  obtain ⟨zk, za, zb, zc, zx, zi, zs, zt⟩ := z
  dsimp only at ta tb k0 k1 ka kb s1 s3
  have kid : ∀ (y : Int) (ny : Nat), Tr ns y ny → ny ≤ f → EK ns y → ∃ (jy : Nat) (zY : Nd), y = (jy : Int) ∧ ns[jy]? = some zY ∧ zY.s.size ≤ 5000 ∧ ExprC W b nv fi ns (jy : Int) (11000 * ny) (txE ns f (jy : Int)) ∧ (txE ns f (jy : Int)).length ≤ 11000 * ny := fun y ny ty hy ey => by
   obtain ⟨jy, zY, _, _, _, _, rfl, hzY, _⟩ := qcj ty ey.1
   exact ⟨jy, zY, rfl, hzY, (hs zY (List.mem_of_getElem? hzY)).1, ih _ ny ty hy ey, qbt hs hb f _ ny ty ey⟩
  have h12 : zk = 0 ∨ zk = 1 ∨ zk = 2 ∨ zk = 3 ∨ zk = 4 ∨ zk = 5 ∨ zk = 6 ∨ zk = 7 ∨ zk = 8 ∨ zk = 9 ∨ zk = 10 ∨ zk = 11 := by omega
  rcases h12 with rfl | rfl | rfl | rfl | rfl | rfl | rfl | rfl | rfl | rfl | rfl | rfl
  · exact wex0 hz zal h
  · exact wex1 hz zal h
  · exact wex2 hz zal s3 h
  · exact wex3 hz zal h
  · exact wex4 hz zal s1 h
  · obtain ⟨ja, zA, rfl, hzA, hsA, XA, LA⟩ := kid za na ta zal (ka zal)
    exact wex5 (E := txE ns f) hz zal XA LA h
  · obtain ⟨ja, zA, rfl, hzA, hsA, XA, LA⟩ := kid za na ta zal (ka zal)
    exact wex6 (E := txE ns f) hz zal XA LA h
  · obtain ⟨ja, zA, rfl, hzA, hsA, XA, LA⟩ := kid za na ta zal (ka zal)
    exact wex7 (E := txE ns f) hz zal XA LA h
  · obtain ⟨ja, zA, rfl, hzA, hsA, XA, LA⟩ := kid za na ta zal (ka zal)
    exact wex8 (E := txE ns f) hz zal XA LA h
  · obtain ⟨ja, zA, rfl, hzA, hsA, XA, LA⟩ := kid za na ta zal (ka zal)
    exact wex9 (E := txE ns f) hz zal hzA hsA XA LA h
  · obtain ⟨ja, zA, rfl, hzA, hsA, XA, LA⟩ := kid za na ta zal (ka zal)
    exact wex10 (E := txE ns f) hz zal hzA hsA XA LA h
  · obtain ⟨ja, zA, rfl, hzA, hsA, XA, LA⟩ := kid za na ta zal (ka zal)
    obtain ⟨jb, zB, rfl, hzB, hsB, XB, LB⟩ := kid zb nb tb zal (kb rfl)
    obtain ⟨c1, c2⟩ := qdU zs
    by_cases hc : qar 11 zs = 2
    · exact wex11b (E := txE ns f) hz zal s1 hzA hsA XA LA hzB hsB XB LB hc h
    · exact wex11a (E := txE ns f) hz zal s1 hzA hsA XA LA hzB hsB XB LB rfl c1 c2 (by simpa using hc) h
end Go.Proofs.YtijmfpoanggjjaaGreatDoor
