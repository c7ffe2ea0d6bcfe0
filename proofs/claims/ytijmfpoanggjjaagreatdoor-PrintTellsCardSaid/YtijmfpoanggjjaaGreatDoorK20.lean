/- Lemmas for the claim (texts Wr4, what its proof uses of them). -/
import Derived.Test.YtijmfpoanggjjaaGreatDoorK17
import Derived.Test.YtijmfpoanggjjaaGreatDoorK19
import Derived.LoopTactic
import Derived.Deep.LoopGhost
set_option linter.unusedSimpArgs false
set_option linter.unusedVariables false
namespace Go.Proofs.YtijmfpoanggjjaaGreatDoor
open Go.RowKit
attribute [go_sem] more_more Array.size_append
def BlkC (W : World) (b : Nat) (nv : Value) (fi : Int) (ns : List Nd) (i : Int) (m : Nat) (t : List UInt8) : Prop := ∀ (L : List Own) (acc : List UInt8) (w : World), acc.length + m ≤ 90000000 → Wr W b nv fi ns L acc w →
 Calls Tryz.prog 19 #[.pointer (some ⟨b, 0, none⟩), .int .i64 i] w fun e w' => e = .returned (.tuple #[]) ∧ Wr W b nv fi ns L (acc ++ t) w'
set_option maxHeartbeats 4000000 in
set_option maxRecDepth 20000 in
theorem qbW {W : World} {b : Nat} {nv : Value} {fi : Int} {ns : List Nd} {L : List Own} {acc : List UInt8} {w : World} {m : Nat} {i : Int} {B : Int → List UInt8} (X : BlkC W b nv fi ns i m (B i)) (hB : (B i).length ≤ m) (hl : acc.length + m + 4 ≤ 90000000) (h : Wr W b nv fi ns L acc w) :
  Calls Tryz.prog 56 #[.pointer (some ⟨b, 0, none⟩), .int .i64 i] w fun e w' => e = .returned (.tuple #[]) ∧ Wr W b nv fi ns L (acc ++ qas B i) w' := by
 have XC := Lib.hid X
 have H0 := Lib.hid h
 have HL := Lib.hid hl
 have HB := Lib.hid hB
 have lb := h.lt.1
 clear X h hl hB
 go_enter Tryz.func56, Tryz.ntmps56
 go_wp2_with fail
 go_at_call 38
 refine (say1 (H0.out.locNewAt _ _ zaq zbb) zap).mono ?_
 rintro e' h1w ⟨rfl, h1⟩
 have H1 := Lib.hid h1
 clear h1
 go_wp2_with fail
 go_at_call 19
 refine (XC.out _ _ _ zap H1.out).mono ?_
 rintro e' h2w ⟨rfl, h2⟩
 have H2 := Lib.hid h2
 clear h2
 go_wp2_with fail
 go_at_call 38
 refine (say1 (H2.out.locNewAt _ _ zaq zbb) (by have := HL.out; have := HB.out; (try simp only [List.length_append, List.length_cons, List.length_nil]); omega)).mono ?_
 rintro e' h3w ⟨rfl, h3⟩
 have H3 := Lib.hid h3
 clear h3
 go_wp2_with fail
 (first | go_end0 | refine bodyPost_ret (results_none rfl _ _ _) rfl ?_)
 exact ⟨rfl, H3.out.congr (by unfold qas; (first | (simp only [List.append_assoc]; done) | (simp only [List.append_assoc]; rfl) | rfl))⟩
set_option maxHeartbeats 4000000 in
set_option maxRecDepth 20000 in
theorem wst24a {W : World} {b : Nat} {nv : Value} {fi : Int} {ns : List Nd} {L : List Own} {acc : List UInt8} {w : World} {za zb zc zx zi : Int} {zs zt : ByteArray} {ma mb mc : Nat} {E B : Int → List UInt8} (hl : acc.length + ma + mb + mc + 11000 ≤ 90000000) (h64 : In64 zi) (X : ExprC W b nv fi ns za ma (E za)) (hE : (E za).length ≤ ma) (Y : BlkC W b nv fi ns zb mb (B zb)) (hB : (B zb).length ≤ mb) (hi : (zi == 1) = false) (h : Wr W b nv fi ns L acc w) :
  Calls Tryz.prog 37 #[.pointer (some ⟨b, 0, none⟩), .agg #[.int .i64 24, .int .i64 za, .int .i64 zb, .int .i64 zc, .int .i64 zx, .int .i64 zi, .string zs, .string zt]] w fun e w' => e = .returned (.tuple #[]) ∧ Wr W b nv fi ns L (acc ++ ([105, 102, 32] ++ (E za ++ (qas B zb)))) w' := by
 have H0 := Lib.hid (h.locNew #[.int .i64 24, .int .i64 za, .int .i64 zb, .int .i64 zc, .int .i64 zx, .int .i64 zi, .string zs, .string zt] 34 zaq)
 have HL := Lib.hid hl
 have lb := h.lt.1
 have H64 := Lib.hid h64
 have HIL := Lib.hid (qbb h64)
 have XC := Lib.hid X
 have HE := Lib.hid hE
 clear X hE
 have YC := Lib.hid (fun (L : List Own) (acc : List UInt8) (w : World) (h1 : acc.length + mb + 4 ≤ 90000000) (h2 : Wr W b nv fi ns L acc w) => qbW (B := B) Y hB h1 h2)
 have HB := Lib.hid hB
 clear Y hB
 clear h hl h64
 go_enter Tryz.func37, Tryz.ntmps37
 go_wp2_with ((go_at_call 40; (with_reducible refine (Tryz.strconv_FormatInt_10 _ (qbE H64.out) (qbB H64.out) _ (Wr.tab H0.out)).mono ?_); rintro e' w1 ⟨rfl, dk, os, hx⟩; have HF := Lib.hid (H0.out.of_ext (qbi hx)); clear hx; have KHF := Lib.hid (HF.out.locAt List.mem_cons_self); have xHF0 := KHF.out.cell 0 _ rfl; have xHF1 := KHF.out.cell 1 _ rfl; have xHF2 := KHF.out.cell 2 _ rfl; have xHF3 := KHF.out.cell 3 _ rfl; have xHF5 := KHF.out.cell 5 _ rfl; have xHF6 := KHF.out.cell 6 _ rfl; have xHF7 := KHF.out.cell 7 _ rfl; have lxHF := KHF.out.lt; have lbHF := HF.out.lt.1))
 go_at_call 38
 refine (say1 (HF.out.locNewAt _ _ zaq zbb) zap).mono ?_
 rintro e' h1w ⟨rfl, h1⟩
 have H1 := Lib.hid h1
 clear h1
 have KH1 := Lib.hid (H1.out.locAt List.mem_cons_self)
 have xH11 := KH1.out.cell 1 _ rfl
 have lxH1 := KH1.out.lt
 have lbH1 := H1.out.lt.1
 go_wp2_with fail
 go_at_call 21
 refine (XC.out _ _ _ zap H1.out).mono ?_
 rintro e' h2w ⟨rfl, h2⟩
 have H2 := Lib.hid h2
 clear h2
 have KH2 := Lib.hid (H2.out.locAt List.mem_cons_self)
 have xH22 := KH2.out.cell 2 _ rfl
 have lxH2 := KH2.out.lt
 have lbH2 := H2.out.lt.1
 go_wp2_with fail
 go_at_call 56
 refine (YC.out _ _ _ zcs H2.out).mono ?_
 rintro e' h3w ⟨rfl, h3⟩
 have H3 := Lib.hid h3
 clear h3
 have KH3 := Lib.hid (H3.out.locAt List.mem_cons_self)
 have xH33 := KH3.out.cell 3 _ rfl
 have xH35 := KH3.out.cell 5 _ rfl
 have lxH3 := KH3.out.lt
 have lbH3 := H3.out.lt.1
 go_wp2_with fail
 (first | go_end0 | refine bodyPost_ret (results_none rfl _ _ _) rfl ?_)
 exact ⟨rfl, H3.out.locOut.congr zbf⟩
set_option maxHeartbeats 4000000 in
set_option maxRecDepth 20000 in
theorem wst24b {W : World} {b : Nat} {nv : Value} {fi : Int} {ns : List Nd} {L : List Own} {acc : List UInt8} {w : World} {za zb zc zx zi : Int} {zs zt : ByteArray} {ma mb mc : Nat} {E B : Int → List UInt8} (hl : acc.length + ma + mb + mc + 11000 ≤ 90000000) (h64 : In64 zi) (X : ExprC W b nv fi ns za ma (E za)) (hE : (E za).length ≤ ma) (Y : BlkC W b nv fi ns zb mb (B zb)) (hB : (B zb).length ≤ mb) (V : BlkC W b nv fi ns zc mc (B zc)) (hC : (B zc).length ≤ mc) (hi : (zi == 1) = true) (h : Wr W b nv fi ns L acc w) :
  Calls Tryz.prog 37 #[.pointer (some ⟨b, 0, none⟩), .agg #[.int .i64 24, .int .i64 za, .int .i64 zb, .int .i64 zc, .int .i64 zx, .int .i64 zi, .string zs, .string zt]] w fun e w' => e = .returned (.tuple #[]) ∧ Wr W b nv fi ns L (acc ++ ([105, 102, 32] ++ (E za ++ (qas B zb ++ ([32, 101, 108, 115, 101] ++ qas B zc))))) w' := by
 have H0 := Lib.hid (h.locNew #[.int .i64 24, .int .i64 za, .int .i64 zb, .int .i64 zc, .int .i64 zx, .int .i64 zi, .string zs, .string zt] 34 zaq)
 have HL := Lib.hid hl
 have lb := h.lt.1
 have H64 := Lib.hid h64
 have HIL := Lib.hid (qbb h64)
 have XC := Lib.hid X
 have HE := Lib.hid hE
 clear X hE
 have YC := Lib.hid (fun (L : List Own) (acc : List UInt8) (w : World) (h1 : acc.length + mb + 4 ≤ 90000000) (h2 : Wr W b nv fi ns L acc w) => qbW (B := B) Y hB h1 h2)
 have HB := Lib.hid hB
 clear Y hB
 have VC := Lib.hid (fun (L : List Own) (acc : List UInt8) (w : World) (h1 : acc.length + mc + 4 ≤ 90000000) (h2 : Wr W b nv fi ns L acc w) => qbW (B := B) V hC h1 h2)
 clear V hC
 clear h hl h64
 go_enter Tryz.func37, Tryz.ntmps37
 go_wp2_with ((go_at_call 40; (with_reducible refine (Tryz.strconv_FormatInt_10 _ (qbE H64.out) (qbB H64.out) _ (Wr.tab H0.out)).mono ?_); rintro e' w1 ⟨rfl, dk, os, hx⟩; have HF := Lib.hid (H0.out.of_ext (qbi hx)); clear hx; have KHF := Lib.hid (HF.out.locAt List.mem_cons_self); have xHF0 := KHF.out.cell 0 _ rfl; have xHF1 := KHF.out.cell 1 _ rfl; have xHF2 := KHF.out.cell 2 _ rfl; have xHF3 := KHF.out.cell 3 _ rfl; have xHF5 := KHF.out.cell 5 _ rfl; have xHF6 := KHF.out.cell 6 _ rfl; have xHF7 := KHF.out.cell 7 _ rfl; have lxHF := KHF.out.lt; have lbHF := HF.out.lt.1))
 go_at_call 38
 refine (say1 (HF.out.locNewAt _ _ zaq zbb) zap).mono ?_
 rintro e' h1w ⟨rfl, h1⟩
 have H1 := Lib.hid h1
 clear h1
 have KH1 := Lib.hid (H1.out.locAt List.mem_cons_self)
 have xH11 := KH1.out.cell 1 _ rfl
 have lxH1 := KH1.out.lt
 have lbH1 := H1.out.lt.1
 go_wp2_with fail
 go_at_call 21
 refine (XC.out _ _ _ zap H1.out).mono ?_
 rintro e' h2w ⟨rfl, h2⟩
 have H2 := Lib.hid h2
 clear h2
 have KH2 := Lib.hid (H2.out.locAt List.mem_cons_self)
 have xH22 := KH2.out.cell 2 _ rfl
 have lxH2 := KH2.out.lt
 have lbH2 := H2.out.lt.1
 go_wp2_with fail
 go_at_call 56
 refine (YC.out _ _ _ zcs H2.out).mono ?_
 rintro e' h3w ⟨rfl, h3⟩
 have H3 := Lib.hid h3
 clear h3
 have KH3 := Lib.hid (H3.out.locAt List.mem_cons_self)
 have xH33 := KH3.out.cell 3 _ rfl
 have xH35 := KH3.out.cell 5 _ rfl
 have lxH3 := KH3.out.lt
 have lbH3 := H3.out.lt.1
 go_wp2_with fail
 go_at_call 38
 refine (say1 (H3.out.locNewAt _ _ zaq zbb) (by have := HL.out; have := HE.out; have := HB.out; unfold qas; (try simp only [List.length_append, List.length_cons, List.length_nil]); omega)).mono ?_
 rintro e' h4w ⟨rfl, h4⟩
 have H4 := Lib.hid h4
 clear h4
 have KH4 := Lib.hid (H4.out.locAt List.mem_cons_self)
 have xH43 := KH4.out.cell 3 _ rfl
 have lxH4 := KH4.out.lt
 have lbH4 := H4.out.lt.1
 go_wp2_with fail
 go_at_call 56
 refine (VC.out _ _ _ (by have := HL.out; have := HE.out; have := HB.out; unfold qas; (try simp only [List.length_append, List.length_cons, List.length_nil]); omega) H4.out).mono ?_
 rintro e' h5w ⟨rfl, h5⟩
 have H5 := Lib.hid h5
 clear h5
 go_wp2_with fail
 (first | go_end0 | refine bodyPost_ret (results_none rfl _ _ _) rfl ?_)
 exact ⟨rfl, H5.out.locOut.congr zbf⟩
set_option maxHeartbeats 4000000 in
set_option maxRecDepth 20000 in
theorem wst25 {W : World} {b : Nat} {nv : Value} {fi : Int} {ns : List Nd} {L : List Own} {acc : List UInt8} {w : World} {za zb zc zx zi : Int} {zs zt : ByteArray} {ma mb mc : Nat} {E B : Int → List UInt8} (hl : acc.length + ma + mb + mc + 11000 ≤ 90000000) (h64 : In64 zi) (X : ExprC W b nv fi ns za ma (E za)) (hE : (E za).length ≤ ma) (Y : BlkC W b nv fi ns zb mb (B zb)) (hB : (B zb).length ≤ mb) (hs : zs.size ≤ 5000) (ht : zt.size ≤ 5000) (h : Wr W b nv fi ns L acc w) :
  Calls Tryz.prog 37 #[.pointer (some ⟨b, 0, none⟩), .agg #[.int .i64 25, .int .i64 za, .int .i64 zb, .int .i64 zc, .int .i64 zx, .int .i64 zi, .string zs, .string zt]] w fun e w' => e = .returned (.tuple #[]) ∧ Wr W b nv fi ns L (acc ++ ([102, 111, 114, 32] ++ (zs.data.toList ++ ([44, 32] ++ (zt.data.toList ++ ([32, 105, 110, 32, 115, 99, 97, 110, 40] ++ (E za ++ ([44, 32] ++ (Lib.itoa zi ++ ([41] ++ qas B zb)))))))))) w' := by
 have H0 := Lib.hid (h.locNew #[.int .i64 25, .int .i64 za, .int .i64 zb, .int .i64 zc, .int .i64 zx, .int .i64 zi, .string zs, .string zt] 34 zaq)
 have HL := Lib.hid hl
 have lb := h.lt.1
 have H64 := Lib.hid h64
 have HIL := Lib.hid (qbb h64)
 have XC := Lib.hid X
 have HE := Lib.hid hE
 clear X hE
 have YC := Lib.hid (fun (L : List Own) (acc : List UInt8) (w : World) (h1 : acc.length + mb + 4 ≤ 90000000) (h2 : Wr W b nv fi ns L acc w) => qbW (B := B) Y hB h1 h2)
 have HB := Lib.hid hB
 clear Y hB
 have HS := Lib.hid (show zs.data.toList.length ≤ 5000 by simpa using hs)
 have HT := Lib.hid (show zt.data.toList.length ≤ 5000 by simpa using ht)
 clear hs ht
 clear h hl h64
 go_enter Tryz.func37, Tryz.ntmps37
 go_wp2_with ((go_at_call 40; (with_reducible refine (Tryz.strconv_FormatInt_10 _ (qbE H64.out) (qbB H64.out) _ (Wr.tab H0.out)).mono ?_); rintro e' w1 ⟨rfl, dk, os, hx⟩; have HF := Lib.hid (H0.out.of_ext (qbi hx)); clear hx; have KHF := Lib.hid (HF.out.locAt List.mem_cons_self); have xHF0 := KHF.out.cell 0 _ rfl; have xHF1 := KHF.out.cell 1 _ rfl; have xHF2 := KHF.out.cell 2 _ rfl; have xHF3 := KHF.out.cell 3 _ rfl; have xHF5 := KHF.out.cell 5 _ rfl; have xHF6 := KHF.out.cell 6 _ rfl; have xHF7 := KHF.out.cell 7 _ rfl; have lxHF := KHF.out.lt; have lbHF := HF.out.lt.1))
 go_at_call 38
 refine (say5 (HF.out.locNewAt _ _ zaq zbb) (by have := HL.out; have := HS.out; have := HT.out; (try simp only [List.length_append, List.length_cons, List.length_nil]); omega)).mono ?_
 rintro e' h1w ⟨rfl, h1⟩
 have H1 := Lib.hid h1
 clear h1
 have KH1 := Lib.hid (H1.out.locAt List.mem_cons_self)
 have xH11 := KH1.out.cell 1 _ rfl
 have lxH1 := KH1.out.lt
 have lbH1 := H1.out.lt.1
 go_wp2_with fail
 go_at_call 21
 refine (XC.out _ _ _ (by have := HL.out; have := HS.out; have := HT.out; (try simp only [List.length_append, List.length_cons, List.length_nil]); omega) H1.out).mono ?_
 rintro e' h2w ⟨rfl, h2⟩
 have H2 := Lib.hid h2
 clear h2
 go_wp2_with fail
 go_at_call 38
 refine (say3 (H2.out.locNewAt _ _ zaq zbb) (by have := HL.out; have := HIL.out; have := HE.out; have := HS.out; have := HT.out; (try simp only [List.length_append, List.length_cons, List.length_nil]); omega)).mono ?_
 rintro e' h3w ⟨rfl, h3⟩
 have H3 := Lib.hid h3
 clear h3
 have KH3 := Lib.hid (H3.out.locAt List.mem_cons_self)
 have xH32 := KH3.out.cell 2 _ rfl
 have lxH3 := KH3.out.lt
 have lbH3 := H3.out.lt.1
 go_wp2_with fail
 go_at_call 56
 refine (YC.out _ _ _ (by have := HL.out; have := HIL.out; have := HE.out; have := HS.out; have := HT.out; (try simp only [List.length_append, List.length_cons, List.length_nil]); omega) H3.out).mono ?_
 rintro e' h4w ⟨rfl, h4⟩
 have H4 := Lib.hid h4
 clear h4
 go_wp2_with fail
 (first | go_end0 | refine bodyPost_ret (results_none rfl _ _ _) rfl ?_)
 exact ⟨rfl, H4.out.locOut.congr zbf⟩
set_option maxHeartbeats 4000000 in
set_option maxRecDepth 20000 in
theorem wst26 {W : World} {b : Nat} {nv : Value} {fi : Int} {ns : List Nd} {L : List Own} {acc : List UInt8} {w : World} {za zb zc zx zi : Int} {zs zt : ByteArray} {ma mb mc : Nat} {E B : Int → List UInt8} (hl : acc.length + ma + mb + mc + 11000 ≤ 90000000) (h64 : In64 zi) (Y : BlkC W b nv fi ns zb mb (B zb)) (hB : (B zb).length ≤ mb) (h : Wr W b nv fi ns L acc w) :
  Calls Tryz.prog 37 #[.pointer (some ⟨b, 0, none⟩), .agg #[.int .i64 26, .int .i64 za, .int .i64 zb, .int .i64 zc, .int .i64 zx, .int .i64 zi, .string zs, .string zt]] w fun e w' => e = .returned (.tuple #[]) ∧ Wr W b nv fi ns L (acc ++ ([114, 101, 112, 101, 97, 116, 32] ++ (Lib.itoa zi ++ qas B zb))) w' := by
 have H0 := Lib.hid (h.locNew #[.int .i64 26, .int .i64 za, .int .i64 zb, .int .i64 zc, .int .i64 zx, .int .i64 zi, .string zs, .string zt] 34 zaq)
 have HL := Lib.hid hl
 have lb := h.lt.1
 have H64 := Lib.hid h64
 have HIL := Lib.hid (qbb h64)
 have YC := Lib.hid (fun (L : List Own) (acc : List UInt8) (w : World) (h1 : acc.length + mb + 4 ≤ 90000000) (h2 : Wr W b nv fi ns L acc w) => qbW (B := B) Y hB h1 h2)
 have HB := Lib.hid hB
 clear Y hB
 clear h hl h64
 go_enter Tryz.func37, Tryz.ntmps37
 go_wp2_with ((go_at_call 40; (with_reducible refine (Tryz.strconv_FormatInt_10 _ (qbE H64.out) (qbB H64.out) _ (Wr.tab H0.out)).mono ?_); rintro e' w1 ⟨rfl, dk, os, hx⟩; have HF := Lib.hid (H0.out.of_ext (qbi hx)); clear hx; have KHF := Lib.hid (HF.out.locAt List.mem_cons_self); have xHF0 := KHF.out.cell 0 _ rfl; have xHF1 := KHF.out.cell 1 _ rfl; have xHF2 := KHF.out.cell 2 _ rfl; have xHF3 := KHF.out.cell 3 _ rfl; have xHF5 := KHF.out.cell 5 _ rfl; have xHF6 := KHF.out.cell 6 _ rfl; have xHF7 := KHF.out.cell 7 _ rfl; have lxHF := KHF.out.lt; have lbHF := HF.out.lt.1))
 go_at_call 38
 refine (say2 (HF.out.locNewAt _ _ zaq zbb) (by have := HL.out; have := HIL.out; (try simp only [List.length_append, List.length_cons, List.length_nil]); omega)).mono ?_
 rintro e' h1w ⟨rfl, h1⟩
 have H1 := Lib.hid h1
 clear h1
 have KH1 := Lib.hid (H1.out.locAt List.mem_cons_self)
 have xH12 := KH1.out.cell 2 _ rfl
 have lxH1 := KH1.out.lt
 have lbH1 := H1.out.lt.1
 go_wp2_with fail
 go_at_call 56
 refine (YC.out _ _ _ (by have := HL.out; have := HIL.out; (try simp only [List.length_append, List.length_cons, List.length_nil]); omega) H1.out).mono ?_
 rintro e' h2w ⟨rfl, h2⟩
 have H2 := Lib.hid h2
 clear h2
 go_wp2_with fail
 (first | go_end0 | refine bodyPost_ret (results_none rfl _ _ _) rfl ?_)
 exact ⟨rfl, H2.out.locOut.congr zbf⟩
set_option maxHeartbeats 4000000 in
set_option maxRecDepth 20000 in
theorem wst20 {W : World} {b : Nat} {nv : Value} {fi : Int} {ns : List Nd} {L : List Own} {acc : List UInt8} {w : World} {za zb zc zx zi : Int} {zs zt : ByteArray} {ma mb mc : Nat} {E B : Int → List UInt8} (hl : acc.length + ma + mb + mc + 11000 ≤ 90000000) (h64 : In64 zi) (X : ExprC W b nv fi ns za ma (E za)) (hE : (E za).length ≤ ma) (hs : zs.size ≤ 5000) (ht : zt.size ≤ 5000) (h : Wr W b nv fi ns L acc w) :
  Calls Tryz.prog 37 #[.pointer (some ⟨b, 0, none⟩), .agg #[.int .i64 20, .int .i64 za, .int .i64 zb, .int .i64 zc, .int .i64 zx, .int .i64 zi, .string zs, .string zt]] w fun e w' => e = .returned (.tuple #[]) ∧ Wr W b nv fi ns L (acc ++ ([108, 101, 116, 32] ++ (zs.data.toList ++ ([32, 61, 32] ++ (E za ++ [59]))))) w' := by
 have H0 := Lib.hid (h.locNew #[.int .i64 20, .int .i64 za, .int .i64 zb, .int .i64 zc, .int .i64 zx, .int .i64 zi, .string zs, .string zt] 34 zaq)
 have HL := Lib.hid hl
 have lb := h.lt.1
 have H64 := Lib.hid h64
 have HIL := Lib.hid (qbb h64)
 have XC := Lib.hid X
 have HE := Lib.hid hE
 clear X hE
 have HS := Lib.hid (show zs.data.toList.length ≤ 5000 by simpa using hs)
 have HT := Lib.hid (show zt.data.toList.length ≤ 5000 by simpa using ht)
 clear hs ht
 clear h hl h64
 go_enter Tryz.func37, Tryz.ntmps37
 go_wp2_with ((go_at_call 40; (with_reducible refine (Tryz.strconv_FormatInt_10 _ (qbE H64.out) (qbB H64.out) _ (Wr.tab H0.out)).mono ?_); rintro e' w1 ⟨rfl, dk, os, hx⟩; have HF := Lib.hid (H0.out.of_ext (qbi hx)); clear hx; have KHF := Lib.hid (HF.out.locAt List.mem_cons_self); have xHF0 := KHF.out.cell 0 _ rfl; have xHF1 := KHF.out.cell 1 _ rfl; have xHF2 := KHF.out.cell 2 _ rfl; have xHF3 := KHF.out.cell 3 _ rfl; have xHF5 := KHF.out.cell 5 _ rfl; have xHF6 := KHF.out.cell 6 _ rfl; have xHF7 := KHF.out.cell 7 _ rfl; have lxHF := KHF.out.lt; have lbHF := HF.out.lt.1))
 go_at_call 38
 refine (say3 (HF.out.locNewAt _ _ zaq zbb) zde).mono ?_
 rintro e' h1w ⟨rfl, h1⟩
 have H1 := Lib.hid h1
 clear h1
 have KH1 := Lib.hid (H1.out.locAt List.mem_cons_self)
 have xH10 := KH1.out.cell 0 _ rfl
 have xH11 := KH1.out.cell 1 _ rfl
 have lxH1 := KH1.out.lt
 have lbH1 := H1.out.lt.1
 go_wp2_with fail
 go_at_call 21
 refine (XC.out _ _ _ zde H1.out).mono ?_
 rintro e' h2w ⟨rfl, h2⟩
 have H2 := Lib.hid h2
 clear h2
 have KH2 := Lib.hid (H2.out.locAt List.mem_cons_self)
 have xH20 := KH2.out.cell 0 _ rfl
 have lxH2 := KH2.out.lt
 have lbH2 := H2.out.lt.1
 go_wp2_with fail
 go_at_call 38
 refine (say1 (H2.out.locNewAt _ _ zaq zbb) (by have := HL.out; have := HIL.out; have := HE.out; have := HS.out; (try simp only [List.length_append, List.length_cons, List.length_nil]); omega)).mono ?_
 rintro e' h3w ⟨rfl, h3⟩
 have H3 := Lib.hid h3
 clear h3
 go_wp2_with fail
 (first | go_end0 | refine bodyPost_ret (results_none rfl _ _ _) rfl ?_)
 exact ⟨rfl, H3.out.locOut.congr zbf⟩
set_option maxHeartbeats 4000000 in
set_option maxRecDepth 20000 in
theorem wst21 {W : World} {b : Nat} {nv : Value} {fi : Int} {ns : List Nd} {L : List Own} {acc : List UInt8} {w : World} {za zb zc zx zi : Int} {zs zt : ByteArray} {ma mb mc : Nat} {E B : Int → List UInt8} (hl : acc.length + ma + mb + mc + 11000 ≤ 90000000) (h64 : In64 zi) (X : ExprC W b nv fi ns za ma (E za)) (hE : (E za).length ≤ ma) (hs : zs.size ≤ 5000) (ht : zt.size ≤ 5000) (h : Wr W b nv fi ns L acc w) :
  Calls Tryz.prog 37 #[.pointer (some ⟨b, 0, none⟩), .agg #[.int .i64 21, .int .i64 za, .int .i64 zb, .int .i64 zc, .int .i64 zx, .int .i64 zi, .string zs, .string zt]] w fun e w' => e = .returned (.tuple #[]) ∧ Wr W b nv fi ns L (acc ++ ([115, 101, 116, 32] ++ (zs.data.toList ++ ([32, 61, 32] ++ (E za ++ [59]))))) w' := by
 have H0 := Lib.hid (h.locNew #[.int .i64 21, .int .i64 za, .int .i64 zb, .int .i64 zc, .int .i64 zx, .int .i64 zi, .string zs, .string zt] 34 zaq)
 have HL := Lib.hid hl
 have lb := h.lt.1
 have H64 := Lib.hid h64
 have HIL := Lib.hid (qbb h64)
 have XC := Lib.hid X
 have HE := Lib.hid hE
 clear X hE
 have HS := Lib.hid (show zs.data.toList.length ≤ 5000 by simpa using hs)
 have HT := Lib.hid (show zt.data.toList.length ≤ 5000 by simpa using ht)
 clear hs ht
 clear h hl h64
 go_enter Tryz.func37, Tryz.ntmps37
 go_wp2_with ((go_at_call 40; (with_reducible refine (Tryz.strconv_FormatInt_10 _ (qbE H64.out) (qbB H64.out) _ (Wr.tab H0.out)).mono ?_); rintro e' w1 ⟨rfl, dk, os, hx⟩; have HF := Lib.hid (H0.out.of_ext (qbi hx)); clear hx; have KHF := Lib.hid (HF.out.locAt List.mem_cons_self); have xHF0 := KHF.out.cell 0 _ rfl; have xHF1 := KHF.out.cell 1 _ rfl; have xHF2 := KHF.out.cell 2 _ rfl; have xHF3 := KHF.out.cell 3 _ rfl; have xHF5 := KHF.out.cell 5 _ rfl; have xHF6 := KHF.out.cell 6 _ rfl; have xHF7 := KHF.out.cell 7 _ rfl; have lxHF := KHF.out.lt; have lbHF := HF.out.lt.1))
 go_at_call 38
 refine (say3 (HF.out.locNewAt _ _ zaq zbb) zde).mono ?_
 rintro e' h1w ⟨rfl, h1⟩
 have H1 := Lib.hid h1
 clear h1
 have KH1 := Lib.hid (H1.out.locAt List.mem_cons_self)
 have xH10 := KH1.out.cell 0 _ rfl
 have xH11 := KH1.out.cell 1 _ rfl
 have lxH1 := KH1.out.lt
 have lbH1 := H1.out.lt.1
 go_wp2_with fail
 go_at_call 21
 refine (XC.out _ _ _ zde H1.out).mono ?_
 rintro e' h2w ⟨rfl, h2⟩
 have H2 := Lib.hid h2
 clear h2
 have KH2 := Lib.hid (H2.out.locAt List.mem_cons_self)
 have xH20 := KH2.out.cell 0 _ rfl
 have lxH2 := KH2.out.lt
 have lbH2 := H2.out.lt.1
 go_wp2_with fail
 go_at_call 38
 refine (say1 (H2.out.locNewAt _ _ zaq zbb) (by have := HL.out; have := HIL.out; have := HE.out; have := HS.out; (try simp only [List.length_append, List.length_cons, List.length_nil]); omega)).mono ?_
 rintro e' h3w ⟨rfl, h3⟩
 have H3 := Lib.hid h3
 clear h3
 go_wp2_with fail
 (first | go_end0 | refine bodyPost_ret (results_none rfl _ _ _) rfl ?_)
 exact ⟨rfl, H3.out.locOut.congr zbf⟩
set_option maxHeartbeats 4000000 in
set_option maxRecDepth 20000 in
theorem wst22 {W : World} {b : Nat} {nv : Value} {fi : Int} {ns : List Nd} {L : List Own} {acc : List UInt8} {w : World} {za zb zc zx zi : Int} {zs zt : ByteArray} {ma mb mc : Nat} {E B : Int → List UInt8} (hl : acc.length + ma + mb + mc + 11000 ≤ 90000000) (h64 : In64 zi) (X : ExprC W b nv fi ns za ma (E za)) (hE : (E za).length ≤ ma) (Y : ExprC W b nv fi ns zb mb (E zb)) (hB : (E zb).length ≤ mb) (h : Wr W b nv fi ns L acc w) :
  Calls Tryz.prog 37 #[.pointer (some ⟨b, 0, none⟩), .agg #[.int .i64 22, .int .i64 za, .int .i64 zb, .int .i64 zc, .int .i64 zx, .int .i64 zi, .string zs, .string zt]] w fun e w' => e = .returned (.tuple #[]) ∧ Wr W b nv fi ns L (acc ++ ([112, 117, 116, 32] ++ (E za ++ ([44, 32] ++ (E zb ++ [59]))))) w' := by
 have H0 := Lib.hid (h.locNew #[.int .i64 22, .int .i64 za, .int .i64 zb, .int .i64 zc, .int .i64 zx, .int .i64 zi, .string zs, .string zt] 34 zaq)
 have HL := Lib.hid hl
 have lb := h.lt.1
 have H64 := Lib.hid h64
 have HIL := Lib.hid (qbb h64)
 have XC := Lib.hid X
 have HE := Lib.hid hE
 clear X hE
 have YC := Lib.hid Y
 have HB := Lib.hid hB
 clear Y hB
 clear h hl h64
 go_enter Tryz.func37, Tryz.ntmps37
 go_wp2_with ((go_at_call 40; (with_reducible refine (Tryz.strconv_FormatInt_10 _ (qbE H64.out) (qbB H64.out) _ (Wr.tab H0.out)).mono ?_); rintro e' w1 ⟨rfl, dk, os, hx⟩; have HF := Lib.hid (H0.out.of_ext (qbi hx)); clear hx; have KHF := Lib.hid (HF.out.locAt List.mem_cons_self); have xHF0 := KHF.out.cell 0 _ rfl; have xHF1 := KHF.out.cell 1 _ rfl; have xHF2 := KHF.out.cell 2 _ rfl; have xHF3 := KHF.out.cell 3 _ rfl; have xHF5 := KHF.out.cell 5 _ rfl; have xHF6 := KHF.out.cell 6 _ rfl; have xHF7 := KHF.out.cell 7 _ rfl; have lxHF := KHF.out.lt; have lbHF := HF.out.lt.1))
 go_at_call 38
 refine (say1 (HF.out.locNewAt _ _ zaq zbb) zap).mono ?_
 rintro e' h1w ⟨rfl, h1⟩
 have H1 := Lib.hid h1
 clear h1
 have KH1 := Lib.hid (H1.out.locAt List.mem_cons_self)
 have xH10 := KH1.out.cell 0 _ rfl
 have xH11 := KH1.out.cell 1 _ rfl
 have lxH1 := KH1.out.lt
 have lbH1 := H1.out.lt.1
 go_wp2_with fail
 go_at_call 21
 refine (XC.out _ _ _ zap H1.out).mono ?_
 rintro e' h2w ⟨rfl, h2⟩
 have H2 := Lib.hid h2
 clear h2
 have KH2 := Lib.hid (H2.out.locAt List.mem_cons_self)
 have xH20 := KH2.out.cell 0 _ rfl
 have xH22 := KH2.out.cell 2 _ rfl
 have lxH2 := KH2.out.lt
 have lbH2 := H2.out.lt.1
 go_wp2_with fail
 go_at_call 38
 refine (say1 (H2.out.locNewAt _ _ zaq zbb) zct).mono ?_
 rintro e' h3w ⟨rfl, h3⟩
 have H3 := Lib.hid h3
 clear h3
 have KH3 := Lib.hid (H3.out.locAt List.mem_cons_self)
 have xH30 := KH3.out.cell 0 _ rfl
 have xH32 := KH3.out.cell 2 _ rfl
 have lxH3 := KH3.out.lt
 have lbH3 := H3.out.lt.1
 go_wp2_with fail
 go_at_call 21
 refine (YC.out _ _ _ zct H3.out).mono ?_
 rintro e' h4w ⟨rfl, h4⟩
 have H4 := Lib.hid h4
 clear h4
 have KH4 := Lib.hid (H4.out.locAt List.mem_cons_self)
 have xH40 := KH4.out.cell 0 _ rfl
 have lxH4 := KH4.out.lt
 have lbH4 := H4.out.lt.1
 go_wp2_with fail
 go_at_call 38
 refine (say1 (H4.out.locNewAt _ _ zaq zbb) (by have := HL.out; have := HIL.out; have := HE.out; have := HB.out; (try simp only [List.length_append, List.length_cons, List.length_nil]); omega)).mono ?_
 rintro e' h5w ⟨rfl, h5⟩
 have H5 := Lib.hid h5
 clear h5
 go_wp2_with fail
 (first | go_end0 | refine bodyPost_ret (results_none rfl _ _ _) rfl ?_)
 exact ⟨rfl, H5.out.locOut.congr zbf⟩
set_option maxHeartbeats 4000000 in
set_option maxRecDepth 20000 in
theorem wst23 {W : World} {b : Nat} {nv : Value} {fi : Int} {ns : List Nd} {L : List Own} {acc : List UInt8} {w : World} {za zb zc zx zi : Int} {zs zt : ByteArray} {ma mb mc : Nat} {E B : Int → List UInt8} (hl : acc.length + ma + mb + mc + 11000 ≤ 90000000) (h64 : In64 zi) (X : ExprC W b nv fi ns za ma (E za)) (hE : (E za).length ≤ ma) (h : Wr W b nv fi ns L acc w) :
  Calls Tryz.prog 37 #[.pointer (some ⟨b, 0, none⟩), .agg #[.int .i64 23, .int .i64 za, .int .i64 zb, .int .i64 zc, .int .i64 zx, .int .i64 zi, .string zs, .string zt]] w fun e w' => e = .returned (.tuple #[]) ∧ Wr W b nv fi ns L (acc ++ ([100, 101, 108, 101, 116, 101, 32] ++ (E za ++ [59]))) w' := by
 have H0 := Lib.hid (h.locNew #[.int .i64 23, .int .i64 za, .int .i64 zb, .int .i64 zc, .int .i64 zx, .int .i64 zi, .string zs, .string zt] 34 zaq)
 have HL := Lib.hid hl
 have lb := h.lt.1
 have H64 := Lib.hid h64
 have HIL := Lib.hid (qbb h64)
 have XC := Lib.hid X
 have HE := Lib.hid hE
 clear X hE
 clear h hl h64
 go_enter Tryz.func37, Tryz.ntmps37
 go_wp2_with ((go_at_call 40; (with_reducible refine (Tryz.strconv_FormatInt_10 _ (qbE H64.out) (qbB H64.out) _ (Wr.tab H0.out)).mono ?_); rintro e' w1 ⟨rfl, dk, os, hx⟩; have HF := Lib.hid (H0.out.of_ext (qbi hx)); clear hx; have KHF := Lib.hid (HF.out.locAt List.mem_cons_self); have xHF0 := KHF.out.cell 0 _ rfl; have xHF1 := KHF.out.cell 1 _ rfl; have xHF2 := KHF.out.cell 2 _ rfl; have xHF3 := KHF.out.cell 3 _ rfl; have xHF5 := KHF.out.cell 5 _ rfl; have xHF6 := KHF.out.cell 6 _ rfl; have xHF7 := KHF.out.cell 7 _ rfl; have lxHF := KHF.out.lt; have lbHF := HF.out.lt.1))
 go_at_call 38
 refine (say1 (HF.out.locNewAt _ _ zaq zbb) zap).mono ?_
 rintro e' h1w ⟨rfl, h1⟩
 have H1 := Lib.hid h1
 clear h1
 have KH1 := Lib.hid (H1.out.locAt List.mem_cons_self)
 have xH10 := KH1.out.cell 0 _ rfl
 have xH11 := KH1.out.cell 1 _ rfl
 have lxH1 := KH1.out.lt
 have lbH1 := H1.out.lt.1
 go_wp2_with fail
 go_at_call 21
 refine (XC.out _ _ _ zap H1.out).mono ?_
 rintro e' h2w ⟨rfl, h2⟩
 have H2 := Lib.hid h2
 clear h2
 have KH2 := Lib.hid (H2.out.locAt List.mem_cons_self)
 have xH20 := KH2.out.cell 0 _ rfl
 have lxH2 := KH2.out.lt
 have lbH2 := H2.out.lt.1
 go_wp2_with fail
 go_at_call 38
 refine (say1 (H2.out.locNewAt _ _ zaq zbb) zct).mono ?_
 rintro e' h3w ⟨rfl, h3⟩
 have H3 := Lib.hid h3
 clear h3
 go_wp2_with fail
 (first | go_end0 | refine bodyPost_ret (results_none rfl _ _ _) rfl ?_)
 exact ⟨rfl, H3.out.locOut.congr zbf⟩
set_option maxHeartbeats 4000000 in
set_option maxRecDepth 20000 in
theorem wst27 {W : World} {b : Nat} {nv : Value} {fi : Int} {ns : List Nd} {L : List Own} {acc : List UInt8} {w : World} {za zb zc zx zi : Int} {zs zt : ByteArray} {ma mb mc : Nat} {E B : Int → List UInt8} (hl : acc.length + ma + mb + mc + 11000 ≤ 90000000) (h64 : In64 zi) (X : ExprC W b nv fi ns za ma (E za)) (hE : (E za).length ≤ ma) (h : Wr W b nv fi ns L acc w) :
  Calls Tryz.prog 37 #[.pointer (some ⟨b, 0, none⟩), .agg #[.int .i64 27, .int .i64 za, .int .i64 zb, .int .i64 zc, .int .i64 zx, .int .i64 zi, .string zs, .string zt]] w fun e w' => e = .returned (.tuple #[]) ∧ Wr W b nv fi ns L (acc ++ ([97, 98, 111, 114, 116, 32] ++ (E za ++ [59]))) w' := by
 have H0 := Lib.hid (h.locNew #[.int .i64 27, .int .i64 za, .int .i64 zb, .int .i64 zc, .int .i64 zx, .int .i64 zi, .string zs, .string zt] 34 zaq)
 have HL := Lib.hid hl
 have lb := h.lt.1
 have H64 := Lib.hid h64
 have HIL := Lib.hid (qbb h64)
 have XC := Lib.hid X
 have HE := Lib.hid hE
 clear X hE
 clear h hl h64
 go_enter Tryz.func37, Tryz.ntmps37
 go_wp2_with ((go_at_call 40; (with_reducible refine (Tryz.strconv_FormatInt_10 _ (qbE H64.out) (qbB H64.out) _ (Wr.tab H0.out)).mono ?_); rintro e' w1 ⟨rfl, dk, os, hx⟩; have HF := Lib.hid (H0.out.of_ext (qbi hx)); clear hx; have KHF := Lib.hid (HF.out.locAt List.mem_cons_self); have xHF0 := KHF.out.cell 0 _ rfl; have xHF1 := KHF.out.cell 1 _ rfl; have xHF2 := KHF.out.cell 2 _ rfl; have xHF3 := KHF.out.cell 3 _ rfl; have xHF5 := KHF.out.cell 5 _ rfl; have xHF6 := KHF.out.cell 6 _ rfl; have xHF7 := KHF.out.cell 7 _ rfl; have lxHF := KHF.out.lt; have lbHF := HF.out.lt.1))
 go_at_call 38
 refine (say1 (HF.out.locNewAt _ _ zaq zbb) zap).mono ?_
 rintro e' h1w ⟨rfl, h1⟩
 have H1 := Lib.hid h1
 clear h1
 have KH1 := Lib.hid (H1.out.locAt List.mem_cons_self)
 have xH10 := KH1.out.cell 0 _ rfl
 have xH11 := KH1.out.cell 1 _ rfl
 have lxH1 := KH1.out.lt
 have lbH1 := H1.out.lt.1
 go_wp2_with fail
 go_at_call 21
 refine (XC.out _ _ _ zap H1.out).mono ?_
 rintro e' h2w ⟨rfl, h2⟩
 have H2 := Lib.hid h2
 clear h2
 have KH2 := Lib.hid (H2.out.locAt List.mem_cons_self)
 have xH20 := KH2.out.cell 0 _ rfl
 have lxH2 := KH2.out.lt
 have lbH2 := H2.out.lt.1
 go_wp2_with fail
 go_at_call 38
 refine (say1 (H2.out.locNewAt _ _ zaq zbb) zct).mono ?_
 rintro e' h3w ⟨rfl, h3⟩
 have H3 := Lib.hid h3
 clear h3
 go_wp2_with fail
 (first | go_end0 | refine bodyPost_ret (results_none rfl _ _ _) rfl ?_)
 exact ⟨rfl, H3.out.locOut.congr zbf⟩
set_option maxHeartbeats 4000000 in
set_option maxRecDepth 20000 in
theorem wst28 {W : World} {b : Nat} {nv : Value} {fi : Int} {ns : List Nd} {L : List Own} {acc : List UInt8} {w : World} {za zb zc zx zi : Int} {zs zt : ByteArray} {ma mb mc : Nat} {E B : Int → List UInt8} (hl : acc.length + ma + mb + mc + 11000 ≤ 90000000) (h64 : In64 zi) (X : ExprC W b nv fi ns za ma (E za)) (hE : (E za).length ≤ ma) (h : Wr W b nv fi ns L acc w) :
  Calls Tryz.prog 37 #[.pointer (some ⟨b, 0, none⟩), .agg #[.int .i64 28, .int .i64 za, .int .i64 zb, .int .i64 zc, .int .i64 zx, .int .i64 zi, .string zs, .string zt]] w fun e w' => e = .returned (.tuple #[]) ∧ Wr W b nv fi ns L (acc ++ ([114, 101, 116, 117, 114, 110, 32] ++ (E za ++ [59]))) w' := by
 have H0 := Lib.hid (h.locNew #[.int .i64 28, .int .i64 za, .int .i64 zb, .int .i64 zc, .int .i64 zx, .int .i64 zi, .string zs, .string zt] 34 zaq)
 have HL := Lib.hid hl
 have lb := h.lt.1
 have H64 := Lib.hid h64
 have HIL := Lib.hid (qbb h64)
 have XC := Lib.hid X
 have HE := Lib.hid hE
 clear X hE
 clear h hl h64
 go_enter Tryz.func37, Tryz.ntmps37
 go_wp2_with ((go_at_call 40; (with_reducible refine (Tryz.strconv_FormatInt_10 _ (qbE H64.out) (qbB H64.out) _ (Wr.tab H0.out)).mono ?_); rintro e' w1 ⟨rfl, dk, os, hx⟩; have HF := Lib.hid (H0.out.of_ext (qbi hx)); clear hx; have KHF := Lib.hid (HF.out.locAt List.mem_cons_self); have xHF0 := KHF.out.cell 0 _ rfl; have xHF1 := KHF.out.cell 1 _ rfl; have xHF2 := KHF.out.cell 2 _ rfl; have xHF3 := KHF.out.cell 3 _ rfl; have xHF5 := KHF.out.cell 5 _ rfl; have xHF6 := KHF.out.cell 6 _ rfl; have xHF7 := KHF.out.cell 7 _ rfl; have lxHF := KHF.out.lt; have lbHF := HF.out.lt.1))
 go_at_call 38
 refine (say1 (HF.out.locNewAt _ _ zaq zbb) zap).mono ?_
 rintro e' h1w ⟨rfl, h1⟩
 have H1 := Lib.hid h1
 clear h1
 have KH1 := Lib.hid (H1.out.locAt List.mem_cons_self)
 have xH10 := KH1.out.cell 0 _ rfl
 have xH11 := KH1.out.cell 1 _ rfl
 have lxH1 := KH1.out.lt
 have lbH1 := H1.out.lt.1
 go_wp2_with fail
 go_at_call 21
 refine (XC.out _ _ _ zap H1.out).mono ?_
 rintro e' h2w ⟨rfl, h2⟩
 have H2 := Lib.hid h2
 clear h2
 have KH2 := Lib.hid (H2.out.locAt List.mem_cons_self)
 have xH20 := KH2.out.cell 0 _ rfl
 have lxH2 := KH2.out.lt
 have lbH2 := H2.out.lt.1
 go_wp2_with fail
 go_at_call 38
 refine (say1 (H2.out.locNewAt _ _ zaq zbb) zct).mono ?_
 rintro e' h3w ⟨rfl, h3⟩
 have H3 := Lib.hid h3
 clear h3
 go_wp2_with fail
 (first | go_end0 | refine bodyPost_ret (results_none rfl _ _ _) rfl ?_)
 exact ⟨rfl, H3.out.locOut.congr zbf⟩
end Go.Proofs.YtijmfpoanggjjaaGreatDoor
