/- Lemmas. -/
import Derived.Test.YtpoeknndkccbaaaGreatO02
import Derived.Test.YtpoeknndkccbaaaGreatO04
import Derived.Test.YtpoeknndkccbaaaGreatO06
import Derived.Test.YtpoeknndkccbaaaGreatO07
import Derived.Maps.Own
import Derived.Maps.OwnSet
import Derived.Maps.Views
import Derived.StringKeys
import Derived.Deep.OwnRows
set_option linter.unusedSimpArgs false
set_option linter.unusedVariables false
set_option maxHeartbeats 4000000
set_option maxRecDepth 20000
namespace Go.Proofs.YtpoeknndkccbaaaGreat
open Go.RowKit
attribute [go_sem] more_more Array.size_append
open Go.Maps (Keyed string_keyed IsMap)
def closeTab : List (List UInt8 × Int) := [([111, 114], 0), ([97, 110, 100], 1), ([61, 61], 2), ([33, 61], 2), ([60], 2), ([60, 61], 2), ([62], 2), ([62, 61], 2), ([46, 46], 3), ([43], 4), ([45], 4), ([42], 5), ([47], 5), ([37], 5)]
def qch (l : List UInt8) : Option Int := (closeTab.find? fun p => p.1 == l).map fun p => p.2
def closeD : DataW Unit := closeTab.foldl (fun D p => D.put (.string p.1) (.lit (.int .i64 p.2))) (.map [])
theorem lawSM : Keyed Tryz.prog 9 := string_keyed Tryz.underlying9
theorem zeroIM (w : World) : (zeroValue 3).run Tryz.prog w = .ok (.int .i64 0) w := by kernel_rfl
theorem close_mem (l : List UInt8) : (l = [111, 114] ∨ l = [97, 110, 100] ∨ l = [61, 61] ∨ l = [33, 61] ∨ l = [60] ∨ l = [60, 61] ∨ l = [62] ∨ l = [62, 61] ∨ l = [46, 46] ∨ l = [43] ∨ l = [45] ∨ l = [42] ∨ l = [47] ∨ l = [37]) ∨ (([111, 114] == l) = false ∧ ([97, 110, 100] == l) = false ∧ ([61, 61] == l) = false ∧ ([33, 61] == l) = false ∧ ([60] == l) = false ∧ ([60, 61] == l) = false ∧ ([62] == l) = false ∧ ([62, 61] == l) = false ∧ ([46, 46] == l) = false ∧ ([43] == l) = false ∧ ([45] == l) = false ∧ ([42] == l) = false ∧ ([47] == l) = false ∧ ([37] == l) = false) := by
 by_cases h : l = [111, 114] ∨ l = [97, 110, 100] ∨ l = [61, 61] ∨ l = [33, 61] ∨ l = [60] ∨ l = [60, 61] ∨ l = [62] ∨ l = [62, 61] ∨ l = [46, 46] ∨ l = [43] ∨ l = [45] ∨ l = [42] ∨ l = [47] ∨ l = [37]
 · exact Or.inl h
 · right
   have k : ∀ x : List UInt8, l ≠ x → (x == l) = false := fun x hx => by simpa using fun e => hx e.symm
   simp only [not_or] at h
   obtain ⟨a0, a1, a2, a3, a4, a5, a6, a7, a8, a9, a10, a11, a12, a13⟩ := h
   exact ⟨k _ a0, k _ a1, k _ a2, k _ a3, k _ a4, k _ a5, k _ a6, k _ a7, k _ a8, k _ a9, k _ a10, k _ a11, k _ a12, k _ a13⟩
def closeKeys : Bool := match closeD with
 | .map es => es.all fun p => match p.1 with
  | .string a => closeTab.any fun q => q.1 == a
  | _ => false
 | _ => false
theorem closeKeys_ok : closeKeys = true := by kernel_rfl
theorem close_key (l : List UInt8) : Maps.has closeD (.string l) = (qch l).isSome ∧ closeD.atKey (.string l) (.lit (.int .i64 0)) = .lit (.int .i64 ((qch l).getD 0)) := by
 rcases close_mem l with h | h
 · rcases h with rfl | rfl | rfl | rfl | rfl | rfl | rfl | rfl | rfl | rfl | rfl | rfl | rfl | rfl <;> exact ⟨by kernel_rfl, by kernel_rfl⟩
 obtain ⟨a0, a1, a2, a3, a4, a5, a6, a7, a8, a9, a10, a11, a12, a13⟩ := h
 have hn : qch l = none := by
  unfold qch closeTab
  simp only [List.find?_cons, List.find?_nil, a0, a1, a2, a3, a4, a5, a6, a7, a8, a9, a10, a11, a12, a13]
  rfl
 rw [hn]
 have hno : ∀ a : List UInt8, (closeTab.any fun q => q.1 == a) = true → (a == l) = false := by
  intro a ha
  simp only [closeTab, List.any_cons, List.any_nil, Bool.or_false, Bool.or_eq_true, beq_iff_eq] at ha
  rcases ha with rfl | rfl | rfl | rfl | rfl | rfl | rfl | rfl | rfl | rfl | rfl | rfl | rfl | rfl
  all_goals assumption
 have hk := closeKeys_ok
 unfold closeKeys at hk
 cases hD : closeD with
 | map es =>
  rw [hD] at hk
  have hf : ∀ p ∈ es, p.1.sameKey (.string l) = false := by
   intro p hp
   have h1 := List.all_eq_true.1 hk p hp
   rcases p with ⟨k, d⟩
   cases k with
   | string a => exact hno a h1
   | _ => cases h1
  refine ⟨?_, ?_⟩
  · rw [Maps.has_eq]
    rw [List.any_eq_false.2 (fun p hp => by rw [hf p hp]; simp)]; rfl
  · unfold DataW.atKey
    dsimp only
    rw [List.find?_eq_none.2 (fun p hp => by rw [hf p hp]; simp)]; rfl
 | _ => rw [hD] at hk; cases hk
theorem qeZ (w : World) : Calls Tryz.prog 138 #[] w fun e w' => ∃ B, e = .returned (.map (some B)) ∧ w'.ownsMap Tryz.prog 9 (plainElem Tryz.prog 3) B 14 closeD ∧ Ext w w' := by
 have hmm := @run_makeMap Tryz.prog
 have HO0 := World.ownsMap_made w Tryz.prog 9 (plainElem (H := Unit) Tryz.prog 3)
 have HX0 : Ext w (w.alloc (.map #[] 0)) := (Ext.refl w).alloc _
 obtain ⟨w1, hr1, HO1, hg1⟩ := HO0.update lawSM Tryz.underlying175 zbz (key := .string ⟨#[111, 114]⟩) (val := .int .i64 0) (WideMaps.keyOf_string_mk Tryz.underlying9 zal) (plainElem_int Tryz.underlying3 zal)
 have HX1 : Ext w w1 := HX0.grown hg1 (fun k hk => by simp at hk; omega)
 obtain ⟨w2, hr2, HO2, hg2⟩ := HO1.update lawSM Tryz.underlying175 zbz (key := .string ⟨#[97, 110, 100]⟩) (val := .int .i64 1) (WideMaps.keyOf_string_mk Tryz.underlying9 zal) (plainElem_int Tryz.underlying3 zal)
 have HX2 : Ext w w2 := HX1.grown hg2 (fun k hk => by simp at hk; omega)
 obtain ⟨w3, hr3, HO3, hg3⟩ := HO2.update lawSM Tryz.underlying175 zbz (key := .string ⟨#[61, 61]⟩) (val := .int .i64 2) (WideMaps.keyOf_string_mk Tryz.underlying9 zal) (plainElem_int Tryz.underlying3 zal)
 have HX3 : Ext w w3 := HX2.grown hg3 (fun k hk => by simp at hk; omega)
 obtain ⟨w4, hr4, HO4, hg4⟩ := HO3.update lawSM Tryz.underlying175 zbz (key := .string ⟨#[33, 61]⟩) (val := .int .i64 2) (WideMaps.keyOf_string_mk Tryz.underlying9 zal) (plainElem_int Tryz.underlying3 zal)
 have HX4 : Ext w w4 := HX3.grown hg4 (fun k hk => by simp at hk; omega)
 obtain ⟨w5, hr5, HO5, hg5⟩ := HO4.update lawSM Tryz.underlying175 zbz (key := .string ⟨#[60]⟩) (val := .int .i64 2) (WideMaps.keyOf_string_mk Tryz.underlying9 zal) (plainElem_int Tryz.underlying3 zal)
 have HX5 : Ext w w5 := HX4.grown hg5 (fun k hk => by simp at hk; omega)
 obtain ⟨w6, hr6, HO6, hg6⟩ := HO5.update lawSM Tryz.underlying175 zbz (key := .string ⟨#[60, 61]⟩) (val := .int .i64 2) (WideMaps.keyOf_string_mk Tryz.underlying9 zal) (plainElem_int Tryz.underlying3 zal)
 have HX6 : Ext w w6 := HX5.grown hg6 (fun k hk => by simp at hk; omega)
 obtain ⟨w7, hr7, HO7, hg7⟩ := HO6.update lawSM Tryz.underlying175 zbz (key := .string ⟨#[62]⟩) (val := .int .i64 2) (WideMaps.keyOf_string_mk Tryz.underlying9 zal) (plainElem_int Tryz.underlying3 zal)
 have HX7 : Ext w w7 := HX6.grown hg7 (fun k hk => by simp at hk; omega)
 obtain ⟨w8, hr8, HO8, hg8⟩ := HO7.update lawSM Tryz.underlying175 zbz (key := .string ⟨#[62, 61]⟩) (val := .int .i64 2) (WideMaps.keyOf_string_mk Tryz.underlying9 zal) (plainElem_int Tryz.underlying3 zal)
 have HX8 : Ext w w8 := HX7.grown hg8 (fun k hk => by simp at hk; omega)
 obtain ⟨w9, hr9, HO9, hg9⟩ := HO8.update lawSM Tryz.underlying175 zbz (key := .string ⟨#[46, 46]⟩) (val := .int .i64 3) (WideMaps.keyOf_string_mk Tryz.underlying9 zal) (plainElem_int Tryz.underlying3 zal)
 have HX9 : Ext w w9 := HX8.grown hg9 (fun k hk => by simp at hk; omega)
 obtain ⟨w10, hr10, HO10, hg10⟩ := HO9.update lawSM Tryz.underlying175 zbz (key := .string ⟨#[43]⟩) (val := .int .i64 4) (WideMaps.keyOf_string_mk Tryz.underlying9 zal) (plainElem_int Tryz.underlying3 zal)
 have HX10 : Ext w w10 := HX9.grown hg10 (fun k hk => by simp at hk; omega)
 obtain ⟨w11, hr11, HO11, hg11⟩ := HO10.update lawSM Tryz.underlying175 zbz (key := .string ⟨#[45]⟩) (val := .int .i64 4) (WideMaps.keyOf_string_mk Tryz.underlying9 zal) (plainElem_int Tryz.underlying3 zal)
 have HX11 : Ext w w11 := HX10.grown hg11 (fun k hk => by simp at hk; omega)
 obtain ⟨w12, hr12, HO12, hg12⟩ := HO11.update lawSM Tryz.underlying175 zbz (key := .string ⟨#[42]⟩) (val := .int .i64 5) (WideMaps.keyOf_string_mk Tryz.underlying9 zal) (plainElem_int Tryz.underlying3 zal)
 have HX12 : Ext w w12 := HX11.grown hg12 (fun k hk => by simp at hk; omega)
 obtain ⟨w13, hr13, HO13, hg13⟩ := HO12.update lawSM Tryz.underlying175 zbz (key := .string ⟨#[47]⟩) (val := .int .i64 5) (WideMaps.keyOf_string_mk Tryz.underlying9 zal) (plainElem_int Tryz.underlying3 zal)
 have HX13 : Ext w w13 := HX12.grown hg13 (fun k hk => by simp at hk; omega)
 obtain ⟨w14, hr14, HO14, hg14⟩ := HO13.update lawSM Tryz.underlying175 zbz (key := .string ⟨#[37]⟩) (val := .int .i64 5) (WideMaps.keyOf_string_mk Tryz.underlying9 zal) (plainElem_int Tryz.underlying3 zal)
 have HX14 : Ext w w14 := HX13.grown hg14 (fun k hk => by simp at hk; omega)
 clear HO0 HO1 HO2 HO3 HO4 HO5 HO6 HO7 HO8 HO9 HO10 HO11 HO12 HO13 HX0 HX1 HX2 HX3 HX4 HX5 HX6 HX7 HX8 HX9 HX10 HX11 HX12 HX13 hg1 hg2 hg3 hg4 hg5 hg6 hg7 hg8 hg9 hg10 hg11 hg12 hg13 hg14
 have H1 := Lib.hid HO14
 have H2 := Lib.hid HX14
 clear HO14 HX14
 go_enter Tryz.func138, Tryz.ntmps138
 go_wp2_with fail
 go_ret
 exact ⟨_, rfl, H1.out, H2.out⟩
def qbh (k : Int) (s : ByteArray) : Int := if k < 0 ∨ 11 < k then -1 else if k < 11 then 6 else (qch s.data.toList).getD (-1)
theorem look_close {w : World} {B : Nat} (h : w.ownsMap Tryz.prog 9 (plainElem (H := Unit) Tryz.prog 3) B 14 closeD) (s : ByteArray) (hs : s.size ≤ maxLen) :
  (Instr.lookup 175 (.map (some B)) (.string s) true).run Tryz.prog w = .ok (.tuple #[.int .i64 ((qch s.data.toList).getD 0), .bool (qch s.data.toList).isSome]) w := by
 obtain ⟨v, ps, hr, hv⟩ := h.look_ok lawSM Tryz.underlying175 (zeroIM w) (plainElem_int Tryz.underlying3 zal) (WideMaps.keyOf_string_mk Tryz.underlying9 hs)
 obtain ⟨h7, h8⟩ := close_key s.data.toList
 rw [h7] at hr
 rw [h8] at hv
 obtain ⟨a, rfl, ha, _⟩ := plainElem_int_inv Tryz.underlying3 hv
 simp only [Prod.mk.injEq, DataW.lit.injEq, Lit.int.injEq, true_and] at ha
 rw [hr, ← ha.1]
def CloMap : Fact := fun v W => ∃ B, v = .map (some B) ∧ W.ownsMap Tryz.prog 9 (plainElem (H := Unit) Tryz.prog 3) B 14 closeD
theorem CloMap.upc : Upc CloMap := by
 rintro v W W' hx ⟨B, hv, ho⟩
 have hb := hx.below
 exact ⟨B, hv, ho.kept (row := none) ⟨hb.os, hb.tape, hb.output, hb.size, fun k hk _ => hb.block k hk⟩ zan⟩
theorem close_any (zk za zb zc zx zi : Int) (zs zt : ByteArray) (hs : zs.size ≤ maxLen) (w : World) : Calls Tryz.prog 126 #[.agg #[.int .i64 zk, .int .i64 za, .int .i64 zb, .int .i64 zc, .int .i64 zx, .int .i64 zi, .string zs, .string zt]] w fun e w' => e = .returned (.int .i64 (qbh zk zs)) ∧ Ext w w' := by
 by_cases h0 : zk < 0
 · have hc : qbh zk zs = -1 := by unfold qbh; rw [if_pos (Or.inl h0)]
   rw [hc]
   go_enter Tryz.func126, Tryz.ntmps126
   go_wp2_with fail
   go_ret
   exact ⟨rfl, zaf⟩
 by_cases h1 : 11 < zk
 · have hc : qbh zk zs = -1 := by unfold qbh; rw [if_pos (Or.inr h1)]
   rw [hc]
   have h2 : 0 ≤ zk := by omega
   clear h0
   go_enter Tryz.func126, Tryz.ntmps126
   go_wp2_with fail
   go_ret
   exact ⟨rfl, zaf⟩
 by_cases h3 : zk < 11
 · have hc : qbh zk zs = 6 := by unfold qbh; rw [if_neg zae, if_pos h3]
   rw [hc]
   have h2 : 0 ≤ zk := by omega
   have h4 : zk ≤ 11 := by omega
   clear h0 h1
   go_enter Tryz.func126, Tryz.ntmps126
   go_wp2_with fail
   go_ret
   exact ⟨rfl, zaf⟩
 have h5 : zk = 11 := by omega
 subst h5
 have hc : qbh 11 zs = (qch zs.data.toList).getD (-1) := rfl
 rw [hc]
 have CL := Lib.hid qeZ
 obtain ⟨O, hO⟩ : ∃ O, qch zs.data.toList = O := ⟨_, rfl⟩
 have LK := Lib.hid (fun (w : World) (B : Nat) h => look_close (w := w) (B := B) h zs hs)
 rw [hO] at LK ⊢
 clear hO h0 h1 h3 hc hs
 go_enter Tryz.func126, Tryz.ntmps126
 go_wp2_with fail
 refine qaa 9 28 [false, false, false, false, false, false, false, false, false] zad zad rfl ?_
 refine yac ?_
 refine Lex.gap 19 CloMap rfl CloMap.upc rfl (fun d os => ?_) ?_
 · unfold StepG
   go_simp
   exact (CL.out _).mono fun e w' ⟨B, he, ho, hx⟩ => ⟨_, he, hx, B, rfl, ho⟩
 iterate 2 (refine Lex.step rfl ?_; intro K hK; unfold StepG; go_simp; refine hK _ ?_; clear hK K)
 refine Lex.go1 (.tuple #[.int .i64 (O.getD 0), .bool O.isSome]) 19 CloMap rfl (fun u d os hu => ?_) ?_
 · obtain ⟨B, rfl, ho⟩ := hu
   have hlk := LK.out _ _ ho
   clear ho
   unfold StepG
   go_simp
 go_simp
 iterate 5 (refine Lex.step rfl ?_; intro K hK; unfold StepG; go_simp; refine hK _ ?_; clear hK K)
 refine Lex.nil fun WW hE => ?_
 intro u hu
 obtain ⟨dd, oo, rfl⟩ := hE
 clear hu
 go_simp
 unfold FillH
 go_wp2_with fail
 try rw [ends_normal]
 cases O with
 | none =>
  go_wp2_with fail
  go_ret
  exact ⟨rfl, zaf⟩
 | some v =>
  go_wp2_with fail
  go_ret
  exact ⟨rfl, zaf⟩
def shA (k : Int) : Bool := [5, 6, 7, 8, 9, 10, 23, 27, 28, 11, 22, 20, 21, 24, 25].contains k
def shB (k : Int) : Bool := [11, 22].contains k
def shBB (k : Int) : Bool := [24, 25, 26].contains k
def shBC (k : Int) : Bool := [24].contains k
def shS (k : Int) : Bool := [4, 20, 21, 25].contains k
def shT (k : Int) : Bool := [25].contains k
def qbo (k : Int) : Bool := [0, 1, 2, 3, 4, 5, 6, 7, 8, 9, 10, 11, 20, 21, 22, 23, 24, 25, 26, 27, 28].contains k
theorem kind_cases (k : Int) : (k = 0 ∨ k = 1 ∨ k = 2 ∨ k = 3 ∨ k = 4 ∨ k = 5 ∨ k = 6 ∨ k = 7 ∨ k = 8 ∨ k = 9 ∨ k = 10 ∨ k = 11 ∨ k = 20 ∨ k = 21 ∨ k = 22 ∨ k = 23 ∨ k = 24 ∨ k = 25 ∨ k = 26 ∨ k = 27 ∨ k = 28) ∨ ((k == 0) = false ∧ (k == 1) = false ∧ (k == 2) = false ∧ (k == 3) = false ∧ (k == 4) = false ∧ (k == 5) = false ∧ (k == 6) = false ∧ (k == 7) = false ∧ (k == 8) = false ∧ (k == 9) = false ∧ (k == 10) = false ∧ (k == 11) = false ∧ (k == 20) = false ∧ (k == 21) = false ∧ (k == 22) = false ∧ (k == 23) = false ∧ (k == 24) = false ∧ (k == 25) = false ∧ (k == 26) = false ∧ (k == 27) = false ∧ (k == 28) = false) := by
 by_cases h : k = 0 ∨ k = 1 ∨ k = 2 ∨ k = 3 ∨ k = 4 ∨ k = 5 ∨ k = 6 ∨ k = 7 ∨ k = 8 ∨ k = 9 ∨ k = 10 ∨ k = 11 ∨ k = 20 ∨ k = 21 ∨ k = 22 ∨ k = 23 ∨ k = 24 ∨ k = 25 ∨ k = 26 ∨ k = 27 ∨ k = 28
 · exact Or.inl h
 · right
   simp only [not_or] at h
   simp only [beq_eq_false_iff_ne, ne_eq]
   exact h
theorem sh_none (k : Int) (h : (k == 0) = false ∧ (k == 1) = false ∧ (k == 2) = false ∧ (k == 3) = false ∧ (k == 4) = false ∧ (k == 5) = false ∧ (k == 6) = false ∧ (k == 7) = false ∧ (k == 8) = false ∧ (k == 9) = false ∧ (k == 10) = false ∧ (k == 11) = false ∧ (k == 20) = false ∧ (k == 21) = false ∧ (k == 22) = false ∧ (k == 23) = false ∧ (k == 24) = false ∧ (k == 25) = false ∧ (k == 26) = false ∧ (k == 27) = false ∧ (k == 28) = false) : qbo k = false ∧ shA k = false ∧ shB k = false ∧ shBB k = false ∧ shBC k = false ∧ shS k = false ∧ shT k = false := by
 obtain ⟨a0, a1, a2, a3, a4, a5, a6, a7, a8, a9, a10, a11, a20, a21, a22, a23, a24, a25, a26, a27, a28⟩ := h
 have c : ∀ (x : Int) (l : List Int), (x :: l).contains k = (k == x || l.contains k) := fun x l => by rw [List.contains_cons]
 have n : ([] : List Int).contains k = false := rfl
 refine ⟨?_, ?_, ?_, ?_, ?_, ?_, ?_⟩
 · unfold qbo; simp only [c, n, a0, a1, a2, a3, a4, a5, a6, a7, a8, a9, a10, a11, a20, a21, a22, a23, a24, a25, a26, a27, a28, Bool.or_self]
 · unfold shA; simp only [c, n, a5, a6, a7, a8, a9, a10, a23, a27, a28, a11, a22, a20, a21, a24, a25, Bool.or_self]
 · unfold shB; simp only [c, n, a11, a22, Bool.or_self]
 · unfold shBB; simp only [c, n, a24, a25, a26, Bool.or_self]
 · unfold shBC; simp only [c, n, a24, Bool.or_self]
 · unfold shS; simp only [c, n, a4, a20, a21, a25, Bool.or_self]
 · unfold shT; simp only [c, n, a25, Bool.or_self]
theorem qbG (k : Int) (w : World) : Calls Tryz.prog 88 #[.int .i64 k] w fun e w' => e = .returned (.tuple #[.agg #[.bool (shA k), .bool (shB k), .bool (shBB k), .bool (shBC k), .bool (shS k), .bool (shT k)], .bool (qbo k)]) ∧ Ext w w' := by
 rcases kind_cases k with h | h
 · rcases h with rfl | rfl | rfl | rfl | rfl | rfl | rfl | rfl | rfl | rfl | rfl | rfl | rfl | rfl | rfl | rfl | rfl | rfl | rfl | rfl | rfl
   all_goals
    go_enter Tryz.func88, Tryz.ntmps88
    go_wp2_with fail
    refine bodyPost_ret (by simp [results, Tryz.results88, go_sem]; rfl) rfl ⟨?_, zaf⟩
    kernel_rfl
 · obtain ⟨s0, s1, s2, s3, s4, s5, s6⟩ := sh_none k h
   rw [s0, s1, s2, s3, s4, s5, s6]
   obtain ⟨a0, a1, a2, a3, a4, a5, a6, a7, a8, a9, a10, a11, a20, a21, a22, a23, a24, a25, a26, a27, a28⟩ := h
   go_enter Tryz.func88, Tryz.ntmps88
   go_wp2_with fail
   exact bodyPost_ret (v := .tuple #[.agg #[.bool false, .bool false, .bool false, .bool false, .bool false, .bool false], .bool false]) (by simp [results, Tryz.results88, go_sem]) rfl ⟨rfl, zaf⟩
def numOk (k c i : Int) : Bool :=
 if k = 2 then decide (0 ≤ i) else if k = 1 then (i == 0 || i == 1) else if k = 24 then (i == 1 || (i == 0 && c == -1)) else if k = 25 ∨ k = 26 then (decide (0 ≤ i) && decide (i ≤ 64)) else i == 0
theorem qcB (zk za zb zc zx zi : Int) (zs zt : ByteArray) (w : World) : Calls Tryz.prog 89 #[.agg #[.int .i64 zk, .int .i64 za, .int .i64 zb, .int .i64 zc, .int .i64 zx, .int .i64 zi, .string zs, .string zt]] w fun e w' => e = .returned (.bool (numOk zk zc zi)) ∧ Ext w w' := by
 by_cases h2 : zk = 2
 · subst h2
   have hr : numOk 2 zc zi = decide (0 ≤ zi) := rfl
   rw [hr]
   by_cases hi : 0 ≤ zi
   · rw [decide_eq_true hi]
     go_enter Tryz.func89, Tryz.ntmps89
     go_wp2_with fail
     go_ret
     exact ⟨ret_bool zbc, zaf⟩
   · rw [decide_eq_false hi]
     have hi2 : zi < 0 := by omega
     clear hi
     go_enter Tryz.func89, Tryz.ntmps89
     go_wp2_with fail
     go_ret
     exact ⟨ret_bool zbc, zaf⟩
 by_cases h1 : zk = 1
 · subst h1
   have hr : numOk 1 zc zi = (zi == 0 || zi == 1) := rfl
   rw [hr]
   cases q0 : (zi == 0) <;> cases q1 : (zi == 1)
   all_goals
    go_enter Tryz.func89, Tryz.ntmps89
    go_wp2_with fail
    go_ret
    exact ⟨ret_bool zbc, zaf⟩
 by_cases h24 : zk = 24
 · subst h24
   have hr : numOk 24 zc zi = (zi == 1 || (zi == 0 && zc == -1)) := rfl
   rw [hr]
   cases q1 : (zi == 1) <;> cases q0 : (zi == 0) <;> cases qc : (zc == -1)
   all_goals
    go_enter Tryz.func89, Tryz.ntmps89
    go_wp2_with fail
    go_ret
    exact ⟨ret_bool zbc, zaf⟩
 have q2 : (zk == 2) = false := by simpa using h2
 have q1 : (zk == 1) = false := by simpa using h1
 have q24 : (zk == 24) = false := by simpa using h24
 by_cases h25 : zk = 25 ∨ zk = 26
 · have hr : numOk zk zc zi = (decide (0 ≤ zi) && decide (zi ≤ 64)) := by unfold numOk; rw [if_neg h2, if_neg h1, if_neg h24, if_pos h25]
   rw [hr]
   clear q2 q1 q24 h2 h1 h24 hr
   by_cases hi : 0 ≤ zi
   · rw [decide_eq_true hi]
     by_cases hj : zi ≤ 64
     · rw [decide_eq_true hj]
       rcases h25 with rfl | rfl
       all_goals
        go_enter Tryz.func89, Tryz.ntmps89
        go_wp2_with fail
        go_ret
        exact ⟨ret_bool zbc, zaf⟩
     · rw [decide_eq_false hj]
       have hj2 : 64 < zi := by omega
       clear hj
       rcases h25 with rfl | rfl
       all_goals
        go_enter Tryz.func89, Tryz.ntmps89
        go_wp2_with fail
        go_ret
        exact ⟨ret_bool zbc, zaf⟩
   · rw [decide_eq_false hi]
     have hi2 : zi < 0 := by omega
     clear hi
     rcases h25 with rfl | rfl
     all_goals
      go_enter Tryz.func89, Tryz.ntmps89
      go_wp2_with fail
      go_ret
      exact ⟨ret_bool zbc, zaf⟩
 have hr : numOk zk zc zi = (zi == 0) := by unfold numOk; rw [if_neg h2, if_neg h1, if_neg h24, if_neg h25]
 rw [hr]
 have q25 : (zk == 25) = false := by simp; exact fun e => h25 (Or.inl e)
 have q26 : (zk == 26) = false := by simp; exact fun e => h25 (Or.inr e)
 clear h2 h1 h24 h25 hr
 cases q0 : (zi == 0)
 all_goals
  go_enter Tryz.func89, Tryz.ntmps89
  go_wp2_with fail
  go_ret
  exact ⟨ret_bool zbc, zaf⟩
theorem tokcM {w : World} {base g cap n : Nat} {l : List (Tok × Nat)} (h : w.ownsRow base 100 4 (.slice (some ⟨g, 0, none⟩) n cap) n (qas l)) (j : Nat) (u : Value) (hj : (qas l)[j]? = some u) : w.cell? ⟨g, j, none⟩ = some u := by
 have := h.cells (g := g) rfl j u hj
 rwa [Addr.add_lit, Nat.zero_add] at this
def nameR (r : List (Tok × Nat) × Int × Nat) (s : ByteArray) : Bool := r.2.1 == 0 && (match r.1 with | [t, _] => t.1.k == 1 && t.1.s.toList == s.toList | _ => false)
def nameOk (s : ByteArray) : Bool := nameR (lexF s.data.toList) s
theorem name1_ok (s : ByteArray) (w : World) : Calls Tryz.prog 124 #[.string s] w fun e w' => e = .returned (.bool (nameOk s)) ∧ Ext w w' := by
 unfold nameOk
 obtain ⟨l, e, x, hl⟩ : ∃ l e x, lexF s.data.toList = (l, e, x) := ⟨_, _, _, rfl⟩
 have T := Lib.hid (qeE s _ hl)
 rw [hl]
 clear hl
 by_cases he : e = 0
 rotate_left
 · have q0 : (e == 0) = false := by simpa using he
   have hr : nameR (l, e, x) s = false := by
    unfold nameR
    dsimp only
    rw [q0, Bool.false_and]
   clear q0
   rw [hr]
   have HE := Lib.hid he
   have q : (e == 0) = false := by simpa using he
   clear hr he
   go_enter Tryz.func124, Tryz.ntmps124
   go_wp2_with (((with_reducible refine (T.out _).mono ?_); rintro e' w1 (⟨h2, _⟩ | ⟨_, he, d1, os1, rfl⟩); exact absurd h2 HE.out; dsimp only at he; subst he))
   go_ret
   exact ⟨rfl, zaf⟩
 subst he
 by_cases h2 : l.length = 2
 rotate_left
 · have hr : nameR (l, 0, x) s = false := by
     unfold nameR
     match l, h2 with
     | [], _ => rfl
     | [_], _ => rfl
     | [_, _], h => exact absurd rfl h
     | _ :: _ :: _ :: _, _ => rfl
   rw [hr]
   have q : (((l.length : Nat) : Int) == 2) = false := beq_eq_false_iff_ne.2 zae
   clear hr h2
   go_enter Tryz.func124, Tryz.ntmps124
   go_wp2_with (((with_reducible refine (T.out _).mono ?_); rintro e' w1 (⟨_, g, cap, he, hrow, d1, os1, rfl⟩ | ⟨h2, _⟩); rotate_left; exact absurd rfl h2; dsimp only at he; subst he; clear hrow))
   go_ret
   exact ⟨rfl, zaf⟩
 match l, h2 with
 | [((⟨tk, ts, ti⟩ : Tok), p0), t1], _ =>
  have hr : nameR ([((⟨tk, ts, ti⟩ : Tok), p0), t1], 0, x) s = (tk == 1 && ts.toList == s.toList) := rfl
  rw [hr]
  cases q1 : (tk == 1) <;> cases q2 : (ts.toList == s.toList)
  all_goals
   go_enter Tryz.func124, Tryz.ntmps124
   go_wp2_with (((with_reducible refine (T.out _).mono ?_); rintro e' w1 (⟨_, g, cap, he, hrow, hx⟩ | ⟨h2, _⟩); rotate_left; exact absurd rfl h2; dsimp only [List.length_cons, List.length_nil] at he hrow; subst he; have hgs := (hrow.lt g rfl).2; have k0 := tokcM hrow 0 _ rfl; have k2 := tokcM hrow 2 _ rfl; clear hrow; have HX := Lib.hid hx; clear hx))
   go_ret
   exact ⟨rfl, HX.out.trans zac⟩
end Go.Proofs.YtpoeknndkccbaaaGreat

namespace Go.Proofs.YtpoeknndkccbaaaGreat
open Go.RowKit
attribute [go_sem] more_more Array.size_append
def qbj (s : ByteArray) : Bool := (qbQ s.data.toList).2 == 0
theorem quoted_any (s : ByteArray) (w : World) : Calls Tryz.prog 125 #[.string s] w fun e w' => e = .returned (.bool (qbj s)) ∧ Ext w w' := by
 unfold qbj
 obtain ⟨q, er, hq⟩ : ∃ q er, qbQ s.data.toList = (q, er) := ⟨_, _, rfl⟩
 have Q := Lib.hid (quote_any s q er hq)
 rw [hq]
 dsimp only
 clear hq
 cases h : (er == 0)
 all_goals
  go_enter Tryz.func125, Tryz.ntmps125
  go_wp2_with (((with_reducible refine (Q.out _).mono ?_); rintro e' _ ⟨rfl, d1, os1, rfl⟩))
  go_ret
  exact ⟨rfl, zaf⟩
def txt2 (k : Int) (s : ByteArray) (bS : Bool) : Bool := if (k == 3) = true then qbj s else if (k == 11) = true then decide (0 ≤ qbh k s) else if bS = true then nameOk s else s.toList.isEmpty
def txt1 (t : ByteArray) (bT : Bool) : Bool := if bT = true then (!t.toList.isEmpty && nameOk t) else t.toList.isEmpty
theorem qcC (zk za zb zc zx zi : Int) (zs zt : ByteArray) (hs : zs.size ≤ maxLen) (b0 b1 b2 b3 bS bT : Bool) (w : World) :
  Calls Tryz.prog 90 #[.agg #[.int .i64 zk, .int .i64 za, .int .i64 zb, .int .i64 zc, .int .i64 zx, .int .i64 zi, .string zs, .string zt], .agg #[.bool b0, .bool b1, .bool b2, .bool b3, .bool bS, .bool bT]] w fun e w' => e = .returned (.bool (txt1 zt bT && txt2 zk zs bS)) ∧ Ext w w' := by
 have NMT := Lib.hid (fun w1 => name1_ok zt w1)
 have NMS := Lib.hid (fun w1 => name1_ok zs w1)
 have QS := Lib.hid (fun w1 => quoted_any zs w1)
 have CL := Lib.hid (fun w1 => close_any zk za zb zc zx zi zs zt hs w1)
 obtain ⟨NT, hNT⟩ : ∃ NT, nameOk zt = NT := ⟨_, rfl⟩
 obtain ⟨NS, hNS⟩ : ∃ NS, nameOk zs = NS := ⟨_, rfl⟩
 obtain ⟨QQ, hQ⟩ : ∃ QQ, qbj zs = QQ := ⟨_, rfl⟩
 obtain ⟨CC, hC⟩ : ∃ CC, qbh zk zs = CC := ⟨_, rfl⟩
 rw [hNT] at NMT
 rw [hNS] at NMS
 rw [hQ] at QS
 rw [hC] at CL
 have ht : txt1 zt bT = (if bT = true then (!zt.toList.isEmpty && NT) else zt.toList.isEmpty) := by unfold txt1; rw [hNT]
 rw [ht]
 clear ht hNT
 cases bT
 · rw [if_neg zan]
   cases qt : zt.toList.isEmpty
   · rw [Bool.false_and]
     go_enter Tryz.func90, Tryz.ntmps90
     go_wp2_with (((with_reducible refine (NMT.out _).mono ?_); rintro e' _ ⟨rfl, d1, os1, rfl⟩))
     go_ret
     exact ⟨ret_bool zbc, zaf⟩
   · rw [Bool.true_and]
     cases q3 : (zk == 3)
     rotate_left
     · rw [show txt2 zk zs bS = QQ from by unfold txt2; rw [q3, hQ]; rfl]
       go_enter Tryz.func90, Tryz.ntmps90
       go_wp2_with (first | (((with_reducible refine (NMT.out _).mono ?_); rintro e' _ ⟨rfl, d1, os1, rfl⟩)) | (((with_reducible refine (QS.out _).mono ?_); rintro e' _ ⟨rfl, d3, os3, rfl⟩)))
       go_ret
       exact ⟨ret_bool zbc, zaf⟩
     cases q11 : (zk == 11)
     rotate_left
     · rw [show txt2 zk zs bS = decide (0 ≤ CC) from by unfold txt2; rw [q3, q11, hC]; rfl]
       by_cases hc0 : 0 ≤ CC
       · rw [decide_eq_true hc0]
         go_enter Tryz.func90, Tryz.ntmps90
         go_wp2_with (first | (((with_reducible refine (NMT.out _).mono ?_); rintro e' _ ⟨rfl, d1, os1, rfl⟩)) | (((with_reducible refine (CL.out _).mono ?_); rintro e' _ ⟨rfl, d4, os4, rfl⟩)))
         go_ret
         exact ⟨ret_bool zbc, zaf⟩
       · rw [decide_eq_false hc0]
         have hc1 : CC < 0 := by omega
         clear hc0
         go_enter Tryz.func90, Tryz.ntmps90
         go_wp2_with (first | (((with_reducible refine (NMT.out _).mono ?_); rintro e' _ ⟨rfl, d1, os1, rfl⟩)) | (((with_reducible refine (CL.out _).mono ?_); rintro e' _ ⟨rfl, d4, os4, rfl⟩)))
         go_ret
         exact ⟨ret_bool zbc, zaf⟩
     cases bS
     · rw [show txt2 zk zs false = zs.toList.isEmpty from by unfold txt2; rw [q3, q11]; rfl]
       cases qs : zs.toList.isEmpty
       all_goals
        go_enter Tryz.func90, Tryz.ntmps90
        go_wp2_with (((with_reducible refine (NMT.out _).mono ?_); rintro e' _ ⟨rfl, d1, os1, rfl⟩))
        go_ret
        exact ⟨ret_bool zbc, zaf⟩
     · rw [show txt2 zk zs true = NS from by unfold txt2; rw [q3, q11, hNS]; rfl]
       go_enter Tryz.func90, Tryz.ntmps90
       go_wp2_with (first | (((with_reducible refine (NMT.out _).mono ?_); rintro e' _ ⟨rfl, d1, os1, rfl⟩)) | (((with_reducible refine (NMS.out _).mono ?_); rintro e' _ ⟨rfl, d2, os2, rfl⟩)))
       go_ret
       exact ⟨ret_bool zbc, zaf⟩
 · rw [if_pos rfl]
   cases qt : zt.toList.isEmpty
   · rw [Bool.not_false, Bool.true_and]
     cases NT
     · rw [Bool.false_and]
       go_enter Tryz.func90, Tryz.ntmps90
       go_wp2_with (((with_reducible refine (NMT.out _).mono ?_); rintro e' _ ⟨rfl, d1, os1, rfl⟩))
       go_ret
       exact ⟨ret_bool zbc, zaf⟩
     · rw [Bool.true_and]
       cases q3 : (zk == 3)
       rotate_left
       · rw [show txt2 zk zs bS = QQ from by unfold txt2; rw [q3, hQ]; rfl]
         go_enter Tryz.func90, Tryz.ntmps90
         go_wp2_with (first | (((with_reducible refine (NMT.out _).mono ?_); rintro e' _ ⟨rfl, d1, os1, rfl⟩)) | (((with_reducible refine (QS.out _).mono ?_); rintro e' _ ⟨rfl, d3, os3, rfl⟩)))
         go_ret
         exact ⟨ret_bool zbc, zaf⟩
       cases q11 : (zk == 11)
       rotate_left
       · rw [show txt2 zk zs bS = decide (0 ≤ CC) from by unfold txt2; rw [q3, q11, hC]; rfl]
         by_cases hc0 : 0 ≤ CC
         · rw [decide_eq_true hc0]
           go_enter Tryz.func90, Tryz.ntmps90
           go_wp2_with (first | (((with_reducible refine (NMT.out _).mono ?_); rintro e' _ ⟨rfl, d1, os1, rfl⟩)) | (((with_reducible refine (CL.out _).mono ?_); rintro e' _ ⟨rfl, d4, os4, rfl⟩)))
           go_ret
           exact ⟨ret_bool zbc, zaf⟩
         · rw [decide_eq_false hc0]
           have hc1 : CC < 0 := by omega
           clear hc0
           go_enter Tryz.func90, Tryz.ntmps90
           go_wp2_with (first | (((with_reducible refine (NMT.out _).mono ?_); rintro e' _ ⟨rfl, d1, os1, rfl⟩)) | (((with_reducible refine (CL.out _).mono ?_); rintro e' _ ⟨rfl, d4, os4, rfl⟩)))
           go_ret
           exact ⟨ret_bool zbc, zaf⟩
       cases bS
       · rw [show txt2 zk zs false = zs.toList.isEmpty from by unfold txt2; rw [q3, q11]; rfl]
         cases qs : zs.toList.isEmpty
         all_goals
          go_enter Tryz.func90, Tryz.ntmps90
          go_wp2_with (((with_reducible refine (NMT.out _).mono ?_); rintro e' _ ⟨rfl, d1, os1, rfl⟩))
          go_ret
          exact ⟨ret_bool zbc, zaf⟩
       · rw [show txt2 zk zs true = NS from by unfold txt2; rw [q3, q11, hNS]; rfl]
         go_enter Tryz.func90, Tryz.ntmps90
         go_wp2_with (first | (((with_reducible refine (NMT.out _).mono ?_); rintro e' _ ⟨rfl, d1, os1, rfl⟩)) | (((with_reducible refine (NMS.out _).mono ?_); rintro e' _ ⟨rfl, d2, os2, rfl⟩)))
         go_ret
         exact ⟨ret_bool zbc, zaf⟩
   · rw [Bool.not_true, Bool.false_and, Bool.false_and]
     go_enter Tryz.func90, Tryz.ntmps90
     go_wp2_with (((with_reducible refine (NMT.out _).mono ?_); rintro e' _ ⟨rfl, d1, os1, rfl⟩))
     go_ret
     exact ⟨ret_bool zbc, zaf⟩
end Go.Proofs.YtpoeknndkccbaaaGreat
