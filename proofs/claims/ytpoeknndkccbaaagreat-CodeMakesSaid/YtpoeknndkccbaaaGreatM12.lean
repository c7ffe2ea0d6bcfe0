/- Lemmas for the claim (texts Few, Sc1, Sc2, what its proof uses of them). -/
import Derived.Test.YtpoeknndkccbaaaGreatM05
import Derived.Test.YtpoeknndkccbaaaGreatM10
import Derived.Test.YtpoeknndkccbaaaGreatM11
import Derived.Test.YtpoeknndkccbaaaGreatShelf
set_option linter.unusedSimpArgs false
set_option linter.unusedVariables false
set_option maxHeartbeats 8000000
set_option maxRecDepth 20000
namespace Go.Proofs.YtpoeknndkccbaaaGreat
open Go.RowKit
variable {k : Nat} {w : World}
attribute [go_sem] more_more Array.size_append
def cut100 (s : ByteArray) : ByteArray := if 100 < s.size then s.extract 0 100 else s
theorem cut100_le (s : ByteArray) : (cut100 s).size ≤ 100 := by
 unfold cut100
 split
 · simp
   omega
 · omega
def cutN (z : Nd) : Nd := ⟨z.k, z.a, z.b, z.c, z.x, z.i, cut100 z.s, cut100 z.t⟩
def fewN (ns : List Nd) : List Nd := (ns.map cutN).take 514
theorem KB.setAt {cs : Array Value} {T : TypeId} (h : KB k cs T w) (i : Nat) (v : Value) (hi : i < cs.size) : KB k (cs.set i v) T (w.setCell ⟨k, i, none⟩ v) := by
 unfold KB at h ⊢
 simp [World.setCell, Array.getElem?_modify, h, hi, Array.setIfInBounds]
theorem KB.setOther {k' : Nat} {cs : Array Value} {T : TypeId} (h : KB k cs T w) (i : Nat) (v : Value) (hk : k ≠ k') : KB k cs T (w.setCell ⟨k', i, none⟩ v) :=
 (heap_set_other _ _ _ _ _ hk).trans h
theorem KB.frozen {cs : Array Value} {T : TypeId} (h : KB k cs T w) (j : Nat) : w.frozen? ⟨k, j, none⟩ = false := by
 unfold KB at h
 simp [World.frozen?, h]
theorem qbl {base c n i : Nat} {e : TypeId} {size : Nat} {p : Option Addr} {xs : List Value} {v : Value} (h : w.ownsRow base e size (.slice p n c) n xs) (hk : ∀ g, (Value.slice p n c).ownBlock = some g → g ≠ k) : (w.setCell ⟨k, i, none⟩ v).ownsRow base e size (.slice p n c) n xs :=
 qai h fun g hg _ => heap_set_other _ _ _ _ _ (hk g hg)
theorem fewn_any {ns : List Nd} {p1 : Option Addr} {n c1 : Nat} (fi : Int) (w : World) (hr : NdsIn w p1 n c1 ns) :
  Calls Tryz.prog 6 #[.agg #[.slice p1 n c1, .int .i64 fi]] w fun e w' => ∃ nv', e = .returned (.agg #[nv', .int .i64 fi]) ∧ w'.ownsRow 0 42 8 nv' (fewN ns).length (qad (fewN ns)) ∧ Ext w w' := by
 have HR := Lib.hid hr
 have HN := Lib.hid hr.1
 obtain ⟨i0, hi, hz0, hz1, hz2⟩ := info_parts ndInfo
 by_cases hn : 514 < n
 · have hni : (514 : Int) < (n : Int) := by omega
   have hni2 : (514 : Int) ≤ (n : Int) := by omega
   have hcap : (n : Int) ≤ (c1 : Int) := by have := hr.2.1; omega
   clear hr
   go_enter Tryz.func6, Tryz.ntmps6
   go_wp2_with fail
   have HBX := Lib.hid (fun wr (hx : Ext ((w.alloc (.cells #[.slice p1 514 c1, .int .i64 fi] 24 (0, 0))).alloc (.cells #[.slice none 0 0, .int .i64 0] 24 (0, 0))) wr) => ((KB.new w #[.slice p1 514 c1, .int .i64 fi] 24).alloc (.cells #[.slice none 0 0, .int .i64 0] 24 (0, 0))).of_ext hx)
   have HBY := Lib.hid (fun wr (hx : Ext ((w.alloc (.cells #[.slice p1 514 c1, .int .i64 fi] 24 (0, 0))).alloc (.cells #[.slice none 0 0, .int .i64 0] 24 (0, 0))) wr) => (KB.newAt (k := w.heap.size + 1) (w.alloc (.cells #[.slice p1 514 c1, .int .i64 fi] 24 (0, 0))) #[.slice none 0 0, .int .i64 0] 24 (by rw [World.size_alloc])).of_ext hx)
   have HRX := Lib.hid (fun wr (hx : Ext ((w.alloc (.cells #[.slice p1 514 c1, .int .i64 fi] 24 (0, 0))).alloc (.cells #[.slice none 0 0, .int .i64 0] 24 (0, 0))) wr) => HR.out.ext ((((Ext.refl w).alloc (.cells #[.slice p1 514 c1, .int .i64 fi] 24 (0, 0))).alloc (.cells #[.slice none 0 0, .int .i64 0] 24 (0, 0))).trans hx))
   have HEX := Lib.hid (((Ext.refl w).alloc (.cells #[.slice p1 514 c1, .int .i64 fi] 24 (0, 0))).alloc (.cells #[.slice none 0 0, .int .i64 0] 24 (0, 0)))
   obtain ⟨W0, hW0⟩ : ∃ W0, (w.alloc (.cells #[.slice p1 514 c1, .int .i64 fi] 24 (0, 0))).alloc (.cells #[.slice none 0 0, .int .i64 0] 24 (0, 0)) = W0 := ⟨_, rfl⟩
   have hsz : w.heap.size + 1 + 1 = W0.heap.size := by rw [← hW0, World.size_alloc, World.size_alloc]
   rw [hW0] at HBX HBY HRX HEX ⊢
   obtain ⟨k2, hk2⟩ : ∃ k2, w.heap.size + 1 = k2 := ⟨_, rfl⟩
   rw [hk2] at HBY hsz ⊢
   obtain ⟨k1, hk1⟩ : ∃ k1, w.heap.size = k1 := ⟨_, rfl⟩
   rw [hk1] at HBX hk2 ⊢
   have HK := Lib.hid (show k1 ≠ k2 from by omega)
   have HG := Lib.hid (show w.heap.size ≤ k1 ∧ w.heap.size ≤ k2 from ⟨by omega, by omega⟩)
   have HSZ := Lib.hid (show k1 < W0.heap.size ∧ k2 < W0.heap.size from ⟨by omega, by omega⟩)
   clear hW0 hsz hk2 hk1
   go_loopw [3, 4] (fun y3 y4 wr => ∃ j : Nat, y4 = .int .i64 (j : Int) ∧ j ≤ 514 ∧ wr.ownsRow W0.heap.size 42 8 y3 j (qad ((ns.map cutN).take j)) ∧ Ext W0 wr) (fun _ y4 _ => 514 - (intOf y4).toNat)
   case atStart => exact ⟨0, rfl, Nat.zero_le _, World.ownsRow_nil .., Ext.refl _⟩
   case round =>
    obtain ⟨j, rfl, hj, hrow, hx⟩ := hrel
    obtain ⟨p3, c3, rfl⟩ := qag hrow
    have RW := Lib.hid hrow
    have HX := Lib.hid hx
    have KX := Lib.hid (HBX.out wr hx)
    have x0 := KX.out.cell 0 _ rfl
    have x1 := KX.out.cell 1 _ rfl
    have lx := KX.out.lt
    have hj0 : 0 ≤ (j : Int) := by omega
    clear hrow hx
    by_cases hlt : j < 514
    · obtain ⟨z, hz⟩ : ∃ z, ns[j]? = some z := ⟨_, List.getElem?_eq_getElem (by rw [HN.out]; omega)⟩
      obtain ⟨g, o, hpe, hg, hat⟩ := (HRX.out wr HX.out).2.2 zaf
      subst hpe
      obtain ⟨a0, a1, a2, a3, a4, a5, a6, a7⟩ := hat j _ hz
      have hji : (j : Int) < 514 := by omega
      have HLT := Lib.hid hlt
      obtain ⟨zk, za, zb, zc, zx, zi, zs, zt⟩ := z
      dsimp only at a0 a1 a2 a3 a4 a5 a6 a7
      have HC := Lib.hid (show (ns.map cutN).take (j + 1) = (ns.map cutN).take j ++ [⟨zk, za, zb, zc, zx, zi, cut100 zs, cut100 zt⟩] from by rw [List.take_add_one, List.getElem?_map, hz]; rfl)
      have RWL := Lib.hid (fun g hg => show g ≠ wr.heap.size from by have := (RW.out.lt g hg).2; omega)
      clear hz hlt hat
      by_cases hs0 : 100 < (zs.size : Int) <;> by_cases ht0 : 100 < (zt.size : Int)
      · rw [show cut100 zs = zs.extract 0 100 from by unfold cut100; rw [if_pos zaf], show cut100 zt = zt.extract 0 100 from by unfold cut100; rw [if_pos zaf]] at HC
        have hs1 : 100 ≤ (zs.size : Int)  := by omega
        have ht1 : 100 ≤ (zt.size : Int)  := by omega
        go_wp2_with (at_builtin; refine wpList_append_own_at _ rfl _ _ 22 rfl W0.heap.size 42 i0 (.agg #[.int .i64 0, .int .i64 0, .int .i64 0, .int .i64 0, .int .i64 0, .int .i64 0, .string ⟨#[]⟩, .string ⟨#[]⟩]) 8 80 Tryz.underlying22 hi hz0 hz1 hz2 rfl zax (.slice p3 j c3) j (qad ((ns.map cutN).take j)) rfl zcd ⟨_, 0, none⟩ 1 1 [.int .i64 zk, .int .i64 za, .int .i64 zb, .int .i64 zc, .int .i64 zx, .int .i64 zi, .string (zs.extract 0 100), .string (zt.extract 0 100)] rfl rfl (qam zay) zcg zcx zaf zdl ?_)
        intro v' w1 hown' hgrow _ hblk
        have hown2 : w1.ownsRow W0.heap.size 42 8 v' (j + 1) (qad ((ns.map cutN).take (j + 1))) := by rw [HC.out, qaC]; exact hown'
        have HO := Lib.hid hown2
        refine ybs ?_; intro HX2
        clear hown' hown2 hgrow hblk
        go_wp2_with fail
        go_roundw
        case rel => exact ⟨j + 1, by go_num, by have := HLT.out; omega, HO.out, HX2.out⟩
        case measure => have := HLT.out; simp [intOf]; omega
      · rw [show cut100 zs = zs.extract 0 100 from by unfold cut100; rw [if_pos zaf], show cut100 zt = zt from by unfold cut100; rw [if_neg zaf]] at HC
        have hs1 : 100 ≤ (zs.size : Int)  := by omega
        have ht1 :  (zt.size : Int) ≤ 100 := by omega
        go_wp2_with (at_builtin; refine wpList_append_own_at _ rfl _ _ 22 rfl W0.heap.size 42 i0 (.agg #[.int .i64 0, .int .i64 0, .int .i64 0, .int .i64 0, .int .i64 0, .int .i64 0, .string ⟨#[]⟩, .string ⟨#[]⟩]) 8 80 Tryz.underlying22 hi hz0 hz1 hz2 rfl zax (.slice p3 j c3) j (qad ((ns.map cutN).take j)) rfl zcd ⟨_, 0, none⟩ 1 1 [.int .i64 zk, .int .i64 za, .int .i64 zb, .int .i64 zc, .int .i64 zx, .int .i64 zi, .string (zs.extract 0 100), .string zt] rfl rfl (qam zay) zcg zcx zaf zdl ?_)
        intro v' w1 hown' hgrow _ hblk
        have hown2 : w1.ownsRow W0.heap.size 42 8 v' (j + 1) (qad ((ns.map cutN).take (j + 1))) := by rw [HC.out, qaC]; exact hown'
        have HO := Lib.hid hown2
        refine ybs ?_; intro HX2
        clear hown' hown2 hgrow hblk
        go_wp2_with fail
        go_roundw
        case rel => exact ⟨j + 1, by go_num, by have := HLT.out; omega, HO.out, HX2.out⟩
        case measure => have := HLT.out; simp [intOf]; omega
      · rw [show cut100 zs = zs from by unfold cut100; rw [if_neg zaf], show cut100 zt = zt.extract 0 100 from by unfold cut100; rw [if_pos zaf]] at HC
        have hs1 :  (zs.size : Int) ≤ 100 := by omega
        have ht1 : 100 ≤ (zt.size : Int)  := by omega
        go_wp2_with (at_builtin; refine wpList_append_own_at _ rfl _ _ 22 rfl W0.heap.size 42 i0 (.agg #[.int .i64 0, .int .i64 0, .int .i64 0, .int .i64 0, .int .i64 0, .int .i64 0, .string ⟨#[]⟩, .string ⟨#[]⟩]) 8 80 Tryz.underlying22 hi hz0 hz1 hz2 rfl zax (.slice p3 j c3) j (qad ((ns.map cutN).take j)) rfl zcd ⟨_, 0, none⟩ 1 1 [.int .i64 zk, .int .i64 za, .int .i64 zb, .int .i64 zc, .int .i64 zx, .int .i64 zi, .string zs, .string (zt.extract 0 100)] rfl rfl (qam zay) zcg zcx zaf zdl ?_)
        intro v' w1 hown' hgrow _ hblk
        have hown2 : w1.ownsRow W0.heap.size 42 8 v' (j + 1) (qad ((ns.map cutN).take (j + 1))) := by rw [HC.out, qaC]; exact hown'
        have HO := Lib.hid hown2
        refine ybs ?_; intro HX2
        clear hown' hown2 hgrow hblk
        go_wp2_with fail
        go_roundw
        case rel => exact ⟨j + 1, by go_num, by have := HLT.out; omega, HO.out, HX2.out⟩
        case measure => have := HLT.out; simp [intOf]; omega
      · rw [show cut100 zs = zs from by unfold cut100; rw [if_neg zaf], show cut100 zt = zt from by unfold cut100; rw [if_neg zaf]] at HC
        have hs1 :  (zs.size : Int) ≤ 100 := by omega
        have ht1 :  (zt.size : Int) ≤ 100 := by omega
        go_wp2_with (at_builtin; refine wpList_append_own_at _ rfl _ _ 22 rfl W0.heap.size 42 i0 (.agg #[.int .i64 0, .int .i64 0, .int .i64 0, .int .i64 0, .int .i64 0, .int .i64 0, .string ⟨#[]⟩, .string ⟨#[]⟩]) 8 80 Tryz.underlying22 hi hz0 hz1 hz2 rfl zax (.slice p3 j c3) j (qad ((ns.map cutN).take j)) rfl zcd ⟨_, 0, none⟩ 1 1 [.int .i64 zk, .int .i64 za, .int .i64 zb, .int .i64 zc, .int .i64 zx, .int .i64 zi, .string zs, .string zt] rfl rfl (qam zay) zcg zcx zaf zdl ?_)
        intro v' w1 hown' hgrow _ hblk
        have hown2 : w1.ownsRow W0.heap.size 42 8 v' (j + 1) (qad ((ns.map cutN).take (j + 1))) := by rw [HC.out, qaC]; exact hown'
        have HO := Lib.hid hown2
        refine ybs ?_; intro HX2
        clear hown' hown2 hgrow hblk
        go_wp2_with fail
        go_roundw
        case rel => exact ⟨j + 1, by go_num, by have := HLT.out; omega, HO.out, HX2.out⟩
        case measure => have := HLT.out; simp [intOf]; omega
    · have hje : j = 514 := by omega
      have hF : (ns.map cutN).take j = fewN ns := by rw [hje]; rfl
      have hF2 : (fewN ns).length = j := by rw [← hF, List.length_take, List.length_map, HN.out]; omega
      have RW2 := Lib.hid (show wr.ownsRow W0.heap.size 42 8 (.slice p3 j c3) j (qad (fewN ns)) from by rw [← hF]; exact RW.out)
      have HF := Lib.hid hF2
      have KY := Lib.hid (HBY.out wr HX.out)
      have hji : (514 : Int) ≤ (j : Int) := by omega
      have y0 := KY.out.cell 0 _ rfl
      have y1 := KY.out.cell 1 _ rfl
      have ly := KY.out.lt
      have hne := HK.out
      have fz1 := KX.out.frozen 0
      have fz2 := KY.out.frozen 0
      have fz3 := KY.out.frozen 1
      clear hF hF2 hlt hje
      go_wp2_with fail
      have g1 : ∀ g, (Value.slice p3 j c3).ownBlock = some g → g ≠ k1 := fun g hg => by have := (RW2.out.lt g hg).1; have := HSZ.out.1; omega
      have g2 : ∀ g, (Value.slice p3 j c3).ownBlock = some g → g ≠ k2 := fun g hg => by have := (RW2.out.lt g hg).1; have := HSZ.out.2; omega
      have KZ := Lib.hid (((KY.out.setOther 0 (.slice p3 j c3) (Ne.symm HK.out)).setAt 0 (.slice p3 j c3) zay).setAt 1 (.int .i64 fi) zay)
      have z0 := KZ.out.cell 0 (.slice p3 j c3) rfl
      have z1 := KZ.out.cell 1 (.int .i64 fi) rfl
      exact bodyPost_ret (v := .agg #[.slice p3 j c3, .int .i64 fi]) (by simp [results, Tryz.results6, go_sem, ly, z0, z1]) rfl ⟨_, rfl, by rw [HF.out]; exact (qbl (qbl (qbl RW2.out g1) g2) g2).mono (Nat.zero_le _), (((HEX.out.trans HX.out).setCell HG.out.1 _).setCell HG.out.2 _).setCell HG.out.2 _⟩
 · have hni : (n : Int) ≤ 514 := by omega
   have hmn : n ≤ 514 := by omega
   clear hr
   go_enter Tryz.func6, Tryz.ntmps6
   go_wp2_with fail
   have HBX := Lib.hid (fun wr (hx : Ext ((w.alloc (.cells #[.slice p1 n c1, .int .i64 fi] 24 (0, 0))).alloc (.cells #[.slice none 0 0, .int .i64 0] 24 (0, 0))) wr) => ((KB.new w #[.slice p1 n c1, .int .i64 fi] 24).alloc (.cells #[.slice none 0 0, .int .i64 0] 24 (0, 0))).of_ext hx)
   have HBY := Lib.hid (fun wr (hx : Ext ((w.alloc (.cells #[.slice p1 n c1, .int .i64 fi] 24 (0, 0))).alloc (.cells #[.slice none 0 0, .int .i64 0] 24 (0, 0))) wr) => (KB.newAt (k := w.heap.size + 1) (w.alloc (.cells #[.slice p1 n c1, .int .i64 fi] 24 (0, 0))) #[.slice none 0 0, .int .i64 0] 24 (by rw [World.size_alloc])).of_ext hx)
   have HRX := Lib.hid (fun wr (hx : Ext ((w.alloc (.cells #[.slice p1 n c1, .int .i64 fi] 24 (0, 0))).alloc (.cells #[.slice none 0 0, .int .i64 0] 24 (0, 0))) wr) => HR.out.ext ((((Ext.refl w).alloc (.cells #[.slice p1 n c1, .int .i64 fi] 24 (0, 0))).alloc (.cells #[.slice none 0 0, .int .i64 0] 24 (0, 0))).trans hx))
   have HEX := Lib.hid (((Ext.refl w).alloc (.cells #[.slice p1 n c1, .int .i64 fi] 24 (0, 0))).alloc (.cells #[.slice none 0 0, .int .i64 0] 24 (0, 0)))
   obtain ⟨W0, hW0⟩ : ∃ W0, (w.alloc (.cells #[.slice p1 n c1, .int .i64 fi] 24 (0, 0))).alloc (.cells #[.slice none 0 0, .int .i64 0] 24 (0, 0)) = W0 := ⟨_, rfl⟩
   have hsz : w.heap.size + 1 + 1 = W0.heap.size := by rw [← hW0, World.size_alloc, World.size_alloc]
   rw [hW0] at HBX HBY HRX HEX ⊢
   obtain ⟨k2, hk2⟩ : ∃ k2, w.heap.size + 1 = k2 := ⟨_, rfl⟩
   rw [hk2] at HBY hsz ⊢
   obtain ⟨k1, hk1⟩ : ∃ k1, w.heap.size = k1 := ⟨_, rfl⟩
   rw [hk1] at HBX hk2 ⊢
   have HK := Lib.hid (show k1 ≠ k2 from by omega)
   have HG := Lib.hid (show w.heap.size ≤ k1 ∧ w.heap.size ≤ k2 from ⟨by omega, by omega⟩)
   have HSZ := Lib.hid (show k1 < W0.heap.size ∧ k2 < W0.heap.size from ⟨by omega, by omega⟩)
   clear hW0 hsz hk2 hk1
   go_loopw [3, 4] (fun y3 y4 wr => ∃ j : Nat, y4 = .int .i64 (j : Int) ∧ j ≤ n ∧ wr.ownsRow W0.heap.size 42 8 y3 j (qad ((ns.map cutN).take j)) ∧ Ext W0 wr) (fun _ y4 _ => n - (intOf y4).toNat)
   case atStart => exact ⟨0, rfl, Nat.zero_le _, World.ownsRow_nil .., Ext.refl _⟩
   case round =>
    obtain ⟨j, rfl, hj, hrow, hx⟩ := hrel
    obtain ⟨p3, c3, rfl⟩ := qag hrow
    have RW := Lib.hid hrow
    have HX := Lib.hid hx
    have KX := Lib.hid (HBX.out wr hx)
    have x0 := KX.out.cell 0 _ rfl
    have x1 := KX.out.cell 1 _ rfl
    have lx := KX.out.lt
    have hj0 : 0 ≤ (j : Int) := by omega
    clear hrow hx
    by_cases hlt : j < n
    · obtain ⟨z, hz⟩ : ∃ z, ns[j]? = some z := ⟨_, List.getElem?_eq_getElem (by rw [HN.out]; omega)⟩
      obtain ⟨g, o, hpe, hg, hat⟩ := (HRX.out wr HX.out).2.2 zaf
      subst hpe
      obtain ⟨a0, a1, a2, a3, a4, a5, a6, a7⟩ := hat j _ hz
      have hji : (j : Int) < n := by omega
      have HLT := Lib.hid hlt
      obtain ⟨zk, za, zb, zc, zx, zi, zs, zt⟩ := z
      dsimp only at a0 a1 a2 a3 a4 a5 a6 a7
      have HC := Lib.hid (show (ns.map cutN).take (j + 1) = (ns.map cutN).take j ++ [⟨zk, za, zb, zc, zx, zi, cut100 zs, cut100 zt⟩] from by rw [List.take_add_one, List.getElem?_map, hz]; rfl)
      have RWL := Lib.hid (fun g hg => show g ≠ wr.heap.size from by have := (RW.out.lt g hg).2; omega)
      clear hz hlt hat
      by_cases hs0 : 100 < (zs.size : Int) <;> by_cases ht0 : 100 < (zt.size : Int)
      · rw [show cut100 zs = zs.extract 0 100 from by unfold cut100; rw [if_pos zaf], show cut100 zt = zt.extract 0 100 from by unfold cut100; rw [if_pos zaf]] at HC
        have hs1 : 100 ≤ (zs.size : Int)  := by omega
        have ht1 : 100 ≤ (zt.size : Int)  := by omega
        go_wp2_with (at_builtin; refine wpList_append_own_at _ rfl _ _ 22 rfl W0.heap.size 42 i0 (.agg #[.int .i64 0, .int .i64 0, .int .i64 0, .int .i64 0, .int .i64 0, .int .i64 0, .string ⟨#[]⟩, .string ⟨#[]⟩]) 8 80 Tryz.underlying22 hi hz0 hz1 hz2 rfl zax (.slice p3 j c3) j (qad ((ns.map cutN).take j)) rfl zcd ⟨_, 0, none⟩ 1 1 [.int .i64 zk, .int .i64 za, .int .i64 zb, .int .i64 zc, .int .i64 zx, .int .i64 zi, .string (zs.extract 0 100), .string (zt.extract 0 100)] rfl rfl (qam zay) zcg zcx zaf zdl ?_)
        intro v' w1 hown' hgrow _ hblk
        have hown2 : w1.ownsRow W0.heap.size 42 8 v' (j + 1) (qad ((ns.map cutN).take (j + 1))) := by rw [HC.out, qaC]; exact hown'
        have HO := Lib.hid hown2
        refine ybs ?_; intro HX2
        clear hown' hown2 hgrow hblk
        go_wp2_with fail
        go_roundw
        case rel => exact ⟨j + 1, by go_num, by have := HLT.out; omega, HO.out, HX2.out⟩
        case measure => have := HLT.out; simp [intOf]; omega
      · rw [show cut100 zs = zs.extract 0 100 from by unfold cut100; rw [if_pos zaf], show cut100 zt = zt from by unfold cut100; rw [if_neg zaf]] at HC
        have hs1 : 100 ≤ (zs.size : Int)  := by omega
        have ht1 :  (zt.size : Int) ≤ 100 := by omega
        go_wp2_with (at_builtin; refine wpList_append_own_at _ rfl _ _ 22 rfl W0.heap.size 42 i0 (.agg #[.int .i64 0, .int .i64 0, .int .i64 0, .int .i64 0, .int .i64 0, .int .i64 0, .string ⟨#[]⟩, .string ⟨#[]⟩]) 8 80 Tryz.underlying22 hi hz0 hz1 hz2 rfl zax (.slice p3 j c3) j (qad ((ns.map cutN).take j)) rfl zcd ⟨_, 0, none⟩ 1 1 [.int .i64 zk, .int .i64 za, .int .i64 zb, .int .i64 zc, .int .i64 zx, .int .i64 zi, .string (zs.extract 0 100), .string zt] rfl rfl (qam zay) zcg zcx zaf zdl ?_)
        intro v' w1 hown' hgrow _ hblk
        have hown2 : w1.ownsRow W0.heap.size 42 8 v' (j + 1) (qad ((ns.map cutN).take (j + 1))) := by rw [HC.out, qaC]; exact hown'
        have HO := Lib.hid hown2
        refine ybs ?_; intro HX2
        clear hown' hown2 hgrow hblk
        go_wp2_with fail
        go_roundw
        case rel => exact ⟨j + 1, by go_num, by have := HLT.out; omega, HO.out, HX2.out⟩
        case measure => have := HLT.out; simp [intOf]; omega
      · rw [show cut100 zs = zs from by unfold cut100; rw [if_neg zaf], show cut100 zt = zt.extract 0 100 from by unfold cut100; rw [if_pos zaf]] at HC
        have hs1 :  (zs.size : Int) ≤ 100 := by omega
        have ht1 : 100 ≤ (zt.size : Int)  := by omega
        go_wp2_with (at_builtin; refine wpList_append_own_at _ rfl _ _ 22 rfl W0.heap.size 42 i0 (.agg #[.int .i64 0, .int .i64 0, .int .i64 0, .int .i64 0, .int .i64 0, .int .i64 0, .string ⟨#[]⟩, .string ⟨#[]⟩]) 8 80 Tryz.underlying22 hi hz0 hz1 hz2 rfl zax (.slice p3 j c3) j (qad ((ns.map cutN).take j)) rfl zcd ⟨_, 0, none⟩ 1 1 [.int .i64 zk, .int .i64 za, .int .i64 zb, .int .i64 zc, .int .i64 zx, .int .i64 zi, .string zs, .string (zt.extract 0 100)] rfl rfl (qam zay) zcg zcx zaf zdl ?_)
        intro v' w1 hown' hgrow _ hblk
        have hown2 : w1.ownsRow W0.heap.size 42 8 v' (j + 1) (qad ((ns.map cutN).take (j + 1))) := by rw [HC.out, qaC]; exact hown'
        have HO := Lib.hid hown2
        refine ybs ?_; intro HX2
        clear hown' hown2 hgrow hblk
        go_wp2_with fail
        go_roundw
        case rel => exact ⟨j + 1, by go_num, by have := HLT.out; omega, HO.out, HX2.out⟩
        case measure => have := HLT.out; simp [intOf]; omega
      · rw [show cut100 zs = zs from by unfold cut100; rw [if_neg zaf], show cut100 zt = zt from by unfold cut100; rw [if_neg zaf]] at HC
        have hs1 :  (zs.size : Int) ≤ 100 := by omega
        have ht1 :  (zt.size : Int) ≤ 100 := by omega
        go_wp2_with (at_builtin; refine wpList_append_own_at _ rfl _ _ 22 rfl W0.heap.size 42 i0 (.agg #[.int .i64 0, .int .i64 0, .int .i64 0, .int .i64 0, .int .i64 0, .int .i64 0, .string ⟨#[]⟩, .string ⟨#[]⟩]) 8 80 Tryz.underlying22 hi hz0 hz1 hz2 rfl zax (.slice p3 j c3) j (qad ((ns.map cutN).take j)) rfl zcd ⟨_, 0, none⟩ 1 1 [.int .i64 zk, .int .i64 za, .int .i64 zb, .int .i64 zc, .int .i64 zx, .int .i64 zi, .string zs, .string zt] rfl rfl (qam zay) zcg zcx zaf zdl ?_)
        intro v' w1 hown' hgrow _ hblk
        have hown2 : w1.ownsRow W0.heap.size 42 8 v' (j + 1) (qad ((ns.map cutN).take (j + 1))) := by rw [HC.out, qaC]; exact hown'
        have HO := Lib.hid hown2
        refine ybs ?_; intro HX2
        clear hown' hown2 hgrow hblk
        go_wp2_with fail
        go_roundw
        case rel => exact ⟨j + 1, by go_num, by have := HLT.out; omega, HO.out, HX2.out⟩
        case measure => have := HLT.out; simp [intOf]; omega
    · have hje : j = n := by omega
      have hF : (ns.map cutN).take j = fewN ns := by unfold fewN; rw [List.take_of_length_le (by rw [List.length_map, HN.out]; omega), List.take_of_length_le (by rw [List.length_map, HN.out]; omega)]
      have hF2 : (fewN ns).length = j := by rw [← hF, List.length_take, List.length_map, HN.out]; omega
      have RW2 := Lib.hid (show wr.ownsRow W0.heap.size 42 8 (.slice p3 j c3) j (qad (fewN ns)) from by rw [← hF]; exact RW.out)
      have HF := Lib.hid hF2
      have KY := Lib.hid (HBY.out wr HX.out)
      have hji : (n : Int) ≤ (j : Int) := by omega
      have y0 := KY.out.cell 0 _ rfl
      have y1 := KY.out.cell 1 _ rfl
      have ly := KY.out.lt
      have hne := HK.out
      have fz1 := KX.out.frozen 0
      have fz2 := KY.out.frozen 0
      have fz3 := KY.out.frozen 1
      clear hF hF2 hlt hje
      go_wp2_with fail
      have g1 : ∀ g, (Value.slice p3 j c3).ownBlock = some g → g ≠ k1 := fun g hg => by have := (RW2.out.lt g hg).1; have := HSZ.out.1; omega
      have g2 : ∀ g, (Value.slice p3 j c3).ownBlock = some g → g ≠ k2 := fun g hg => by have := (RW2.out.lt g hg).1; have := HSZ.out.2; omega
      have KZ := Lib.hid (((KY.out.setOther 0 (.slice p3 j c3) (Ne.symm HK.out)).setAt 0 (.slice p3 j c3) zay).setAt 1 (.int .i64 fi) zay)
      have z0 := KZ.out.cell 0 (.slice p3 j c3) rfl
      have z1 := KZ.out.cell 1 (.int .i64 fi) rfl
      exact bodyPost_ret (v := .agg #[.slice p3 j c3, .int .i64 fi]) (by simp [results, Tryz.results6, go_sem, ly, z0, z1]) rfl ⟨_, rfl, by rw [HF.out]; exact (qbl (qbl (qbl RW2.out g1) g2) g2).mono (Nat.zero_le _), (((HEX.out.trans HX.out).setCell HG.out.1 _).setCell HG.out.2 _).setCell HG.out.2 _⟩
end Go.Proofs.YtpoeknndkccbaaaGreat

namespace Go.Proofs.YtpoeknndkccbaaaGreat
open Go.RowKit
variable {W : World} {b : Nat} {nv : Value} {fi : Int} {ns : List Nd}
attribute [go_sem] more_more Array.size_append
/-- what the walker has -/
structure Sc where
 seen : List ByteArray
 most : Int
 slots : List Int
 made : List ByteArray
 free : List ByteArray
 e : Int
 a : Int
/-- what is wrong first stays -/
def Sc.wrong (S : Sc) (e a : Int) : Sc := if S.e = 0 then { S with e := e, a := a } else S
def strV (l : List ByteArray) : List Value := l.map Value.string
def intL (l : List Int) : List Value := l.map fun x => .int .i64 x
/-- the walker's block and its four rows, no two of them one -/
structure WkV (W : World) (b : Nat) (nv : Value) (fi : Int) (ns : List Nd) (L : List (Nat × Obj)) (S : Sc) (sv tv mv fv : Value) (w : World) : Prop where
 ext : Ext W w
 cell : w.heap[b]? = some (.cells #[nv, .int .i64 fi, sv, .int .i64 S.most, tv, mv, fv, .int .i64 S.e, .int .i64 S.a] 76 (0, 0))
 row : w.ownsRow 0 42 8 nv ns.length (qad ns)
 seen : w.ownsRow W.heap.size 9 1 sv S.seen.length (strV S.seen)
 slots : w.ownsRow W.heap.size 3 1 tv S.slots.length (intL S.slots)
 made : w.ownsRow W.heap.size 9 1 mv S.made.length (strV S.made)
 free : w.ownsRow W.heap.size 9 1 fv S.free.length (strV S.free)
 base : W.heap.size ≤ b ∧ (∀ g, nv.ownBlock = some g → g < W.heap.size)
 apart : ∀ g, (sv.ownBlock = some g → g ≠ b ∧ tv.ownBlock ≠ some g ∧ mv.ownBlock ≠ some g ∧ fv.ownBlock ≠ some g) ∧
  (tv.ownBlock = some g → g ≠ b ∧ mv.ownBlock ≠ some g ∧ fv.ownBlock ≠ some g) ∧ (mv.ownBlock = some g → g ≠ b ∧ fv.ownBlock ≠ some g) ∧ (fv.ownBlock = some g → g ≠ b)
 loc : ∀ q, q ∈ L → w.heap[q.1]? = some q.2 ∧ q.1 ≠ b ∧ sv.ownBlock ≠ some q.1 ∧ tv.ownBlock ≠ some q.1 ∧ mv.ownBlock ≠ some q.1 ∧ fv.ownBlock ≠ some q.1
def Wk (W : World) (b : Nat) (nv : Value) (fi : Int) (ns : List Nd) (L : List (Nat × Obj)) (S : Sc) (w : World) : Prop := ∃ sv tv mv fv, WkV W b nv fi ns L S sv tv mv fv w
theorem WkV.of_ext {L : List (Nat × Obj)} {S : Sc} {w : World} {sv tv mv fv : Value} {w' : World} (h : WkV W b nv fi ns L S sv tv mv fv w) (hx : Ext w w') : WkV W b nv fi ns L S sv tv mv fv w' :=
 ⟨h.ext.trans hx, (hx.below.block _ (Array.getElem?_eq_some_iff.1 h.cell).1).trans h.cell, own_ext h.row hx, own_ext h.seen hx, own_ext h.slots hx, own_ext h.made hx, own_ext h.free hx, h.base, h.apart, fun q hq => ⟨(hx.below.block _ (Array.getElem?_eq_some_iff.1 (h.loc q hq).1).1).trans (h.loc q hq).1, (h.loc q hq).2⟩⟩
theorem Wk.of_ext {L : List (Nat × Obj)} {S : Sc} {w : World} {w' : World} (h : Wk W b nv fi ns L S w) (hx : Ext w w') : Wk W b nv fi ns L S w' := by
 obtain ⟨sv, tv, mv, fv, h⟩ := h
 exact ⟨sv, tv, mv, fv, h.of_ext hx⟩
/-- a cell of the walker's block, that is no row's, is set -/
theorem WkV.setB {L : List (Nat × Obj)} {S : Sc} {w : World} {sv tv mv fv : Value} (h : WkV W b nv fi ns L S sv tv mv fv w) (i : Nat) (v : Value) (S' : Sc) (hi : i < 9)
  (hc : #[nv, .int .i64 fi, sv, .int .i64 S.most, tv, mv, fv, .int .i64 S.e, .int .i64 S.a].set i v hi = #[nv, .int .i64 fi, sv, .int .i64 S'.most, tv, mv, fv, .int .i64 S'.e, .int .i64 S'.a])
  (e1 : S'.seen = S.seen) (e2 : S'.slots = S.slots) (e3 : S'.made = S.made) (e4 : S'.free = S.free) :
  WkV W b nv fi ns L S' sv tv mv fv (w.setCell ⟨b, i, none⟩ v) := by
 have hk : ∀ (x : Value) (k : Nat), (∀ g, x.ownBlock = some g → g ≠ b) → x.ownBlock = some k → (w.setCell ⟨b, i, none⟩ v).heap[k]? = w.heap[k]? := fun x k hx hk => heap_set_other _ _ _ _ _ (hx k hk)
 have hA := h.apart
 refine ⟨h.ext.setCell h.base.1 _, ?_, qai h.row fun k q _ => hk nv k (fun g q => by have := h.base.2 g q; have := h.base.1; omega) q, ?_, ?_, ?_, ?_, h.base, h.apart, fun q hq => ⟨(heap_set_other _ _ _ _ _ (h.loc q hq).2.1).trans (h.loc q hq).1, (h.loc q hq).2⟩⟩
 · rw [← hc]
   exact KB.setAt (show KB b _ _ w from h.cell) i v hi
 · rw [e1]; exact qai h.seen fun k q _ => hk sv k (fun g q => ((hA g).1 q).1) q
 · rw [e2]; exact qai h.slots fun k q _ => hk tv k (fun g q => ((hA g).2.1 q).1) q
 · rw [e3]; exact qai h.made fun k q _ => hk mv k (fun g q => ((hA g).2.2.1 q).1) q
 · rw [e4]; exact qai h.free fun k q _ => hk fv k (fun g q => (hA g).2.2.2 q) q
theorem WkV.push_seen {L : List (Nat × Obj)} {S : Sc} {w : World} {sv tv mv fv v' : Value} {w1 : World} {s : ByteArray} (h : WkV W b nv fi ns L S sv tv mv fv w) (hr : w1.ownsRow W.heap.size 9 1 v' (S.seen.length + 1) (strV S.seen ++ [.string s])) (hg : w.grownBy w1 sv.ownBlock) (hv : v'.ownBlock = sv.ownBlock ∨ v'.ownBlock = some w.heap.size) :
  WkV W b nv fi ns L { S with seen := S.seen ++ [s] } v' tv mv fv (w1.setCell ⟨b, 2, none⟩ v') := by
 have hA := h.apart
 have lb := (Array.getElem?_eq_some_iff.1 h.cell).1
 have hold : ∀ k, k < w.heap.size → sv.ownBlock ≠ some k → w1.heap[k]? = w.heap[k]? := fun k hk hn => hg.block k hk (Ne.symm hn)
 have L1 := fun g q => (h.seen.lt g q).2
 have L2 := fun g q => (h.slots.lt g q).2
 have L3 := fun g q => (h.made.lt g q).2
 have L4 := fun g q => (h.free.lt g q).2
 have hvn : ∀ g, v'.ownBlock = some g → sv.ownBlock = some g ∨ g = w.heap.size := fun g q => by
  rcases hv with e | e
  · exact Or.inl (e ▸ q)
  · rw [e] at q; exact Or.inr (Option.some.inj q).symm
 have hx1 : Ext W w1 := h.ext.grown hg fun k hk => (h.seen.lt k hk).1
 have hnb : sv.ownBlock ≠ some b := fun q => by have := hA b; simp_all
 have kb : KB b _ _ w1 := (hold b lb hnb).trans h.cell
 have keep : ∀ (x : Value) (n : Nat) (xs : List Value) (e : TypeId) (sz bs : Nat), w.ownsRow bs e sz x n xs → (∀ g, x.ownBlock = some g → g ≠ b) → (∀ g, x.ownBlock = some g → sv.ownBlock ≠ some g) → (w1.setCell ⟨b, 2, none⟩ v').ownsRow bs e sz x n xs := fun x n xs e sz bs hx h1 h2 =>
  qai hx fun k q hk => (heap_set_other _ _ _ _ _ (h1 k q)).trans (hold k hk (h2 k q))
 refine ⟨hx1.setCell h.base.1 _, KB.setAt kb 2 v' zay, keep _ _ _ _ _ _ h.row (fun g q => by have := h.base.2 g q; have := h.base.1; omega) (fun g q e => by have := h.base.2 g q; have := (h.seen.lt g e).1; omega), ?_, ?_, ?_, ?_, h.base, ?_, ?_⟩
 · dsimp only; rw [List.length_append]; unfold strV; rw [List.map_append]; exact qai hr fun k q _ => heap_set_other _ _ _ _ _ (fun e => by rcases hvn k q with e1 | e1; exact hnb (e ▸ e1); omega)
 · exact keep _ _ _ _ _ _ h.slots (fun g q => by have := hA g; simp_all) (fun g q e => by have := hA g; simp_all)
 · exact keep _ _ _ _ _ _ h.made (fun g q => by have := hA g; simp_all) (fun g q e => by have := hA g; simp_all)
 · exact keep _ _ _ _ _ _ h.free (fun g q => by have := hA g; simp_all) (fun g q e => by have := hA g; simp_all)
 · intro g
   have a := hA g
   have b1 := hA w.heap.size
   have n1 : sv.ownBlock ≠ some w.heap.size := fun q => absurd (L1 _ q) (Nat.lt_irrefl _)
   have n2 : tv.ownBlock ≠ some w.heap.size := fun q => absurd (L2 _ q) (Nat.lt_irrefl _)
   have n3 : mv.ownBlock ≠ some w.heap.size := fun q => absurd (L3 _ q) (Nat.lt_irrefl _)
   have n4 : fv.ownBlock ≠ some w.heap.size := fun q => absurd (L4 _ q) (Nat.lt_irrefl _)
   have nb : w.heap.size ≠ b := by omega
   rcases hv with e | e
   · rw [e]; exact a
   · by_cases hgs : g = w.heap.size
     · subst hgs
       simp_all
     · have q : v'.ownBlock ≠ some g := by rw [e]; intro e2; exact hgs (Option.some.inj e2).symm
       simp_all
 · intro q hq
   have hl := h.loc q hq
   have hlt := (Array.getElem?_eq_some_iff.1 hl.1).1
   have e1 : (w1.setCell ⟨b, 2, none⟩ v').heap[q.1]? = some q.2 := (heap_set_other _ _ _ _ _ hl.2.1).trans ((hold q.1 hlt (by have := hl.2; simp_all)).trans hl.1)
   have e2 : v'.ownBlock ≠ some q.1 := by
    intro e
    rcases hvn q.1 e with e3 | e3
    · have := hl.2; simp_all
    · omega
   have := hl.2
   refine ⟨e1, this.1, ?_⟩
   simp_all
theorem WkV.push_made {L : List (Nat × Obj)} {S : Sc} {w : World} {sv tv mv fv v' : Value} {w1 : World} {s : ByteArray} (h : WkV W b nv fi ns L S sv tv mv fv w) (hr : w1.ownsRow W.heap.size 9 1 v' (S.made.length + 1) (strV S.made ++ [.string s])) (hg : w.grownBy w1 mv.ownBlock) (hv : v'.ownBlock = mv.ownBlock ∨ v'.ownBlock = some w.heap.size) :
  WkV W b nv fi ns L { S with made := S.made ++ [s] } sv tv v' fv (w1.setCell ⟨b, 5, none⟩ v') := by
 have hA := h.apart
 have lb := (Array.getElem?_eq_some_iff.1 h.cell).1
 have hold : ∀ k, k < w.heap.size → mv.ownBlock ≠ some k → w1.heap[k]? = w.heap[k]? := fun k hk hn => hg.block k hk (Ne.symm hn)
 have L1 := fun g q => (h.seen.lt g q).2
 have L2 := fun g q => (h.slots.lt g q).2
 have L3 := fun g q => (h.made.lt g q).2
 have L4 := fun g q => (h.free.lt g q).2
 have hvn : ∀ g, v'.ownBlock = some g → mv.ownBlock = some g ∨ g = w.heap.size := fun g q => by
  rcases hv with e | e
  · exact Or.inl (e ▸ q)
  · rw [e] at q; exact Or.inr (Option.some.inj q).symm
 have hx1 : Ext W w1 := h.ext.grown hg fun k hk => (h.made.lt k hk).1
 have hnb : mv.ownBlock ≠ some b := fun q => by have := hA b; simp_all
 have kb : KB b _ _ w1 := (hold b lb hnb).trans h.cell
 have keep : ∀ (x : Value) (n : Nat) (xs : List Value) (e : TypeId) (sz bs : Nat), w.ownsRow bs e sz x n xs → (∀ g, x.ownBlock = some g → g ≠ b) → (∀ g, x.ownBlock = some g → mv.ownBlock ≠ some g) → (w1.setCell ⟨b, 5, none⟩ v').ownsRow bs e sz x n xs := fun x n xs e sz bs hx h1 h2 =>
  qai hx fun k q hk => (heap_set_other _ _ _ _ _ (h1 k q)).trans (hold k hk (h2 k q))
 refine ⟨hx1.setCell h.base.1 _, KB.setAt kb 5 v' zay, keep _ _ _ _ _ _ h.row (fun g q => by have := h.base.2 g q; have := h.base.1; omega) (fun g q e => by have := h.base.2 g q; have := (h.made.lt g e).1; omega), ?_, ?_, ?_, ?_, h.base, ?_, ?_⟩
 · exact keep _ _ _ _ _ _ h.seen (fun g q => by have := hA g; simp_all) (fun g q e => by have := hA g; simp_all)
 · exact keep _ _ _ _ _ _ h.slots (fun g q => by have := hA g; simp_all) (fun g q e => by have := hA g; simp_all)
 · dsimp only; rw [List.length_append]; unfold strV; rw [List.map_append]; exact qai hr fun k q _ => heap_set_other _ _ _ _ _ (fun e => by rcases hvn k q with e1 | e1; exact hnb (e ▸ e1); omega)
 · exact keep _ _ _ _ _ _ h.free (fun g q => by have := hA g; simp_all) (fun g q e => by have := hA g; simp_all)
 · intro g
   have a := hA g
   have b1 := hA w.heap.size
   have n1 : sv.ownBlock ≠ some w.heap.size := fun q => absurd (L1 _ q) (Nat.lt_irrefl _)
   have n2 : tv.ownBlock ≠ some w.heap.size := fun q => absurd (L2 _ q) (Nat.lt_irrefl _)
   have n3 : mv.ownBlock ≠ some w.heap.size := fun q => absurd (L3 _ q) (Nat.lt_irrefl _)
   have n4 : fv.ownBlock ≠ some w.heap.size := fun q => absurd (L4 _ q) (Nat.lt_irrefl _)
   have nb : w.heap.size ≠ b := by omega
   rcases hv with e | e
   · rw [e]; exact a
   · by_cases hgs : g = w.heap.size
     · subst hgs
       simp_all
     · have q : v'.ownBlock ≠ some g := by rw [e]; intro e2; exact hgs (Option.some.inj e2).symm
       simp_all
 · intro q hq
   have hl := h.loc q hq
   have hlt := (Array.getElem?_eq_some_iff.1 hl.1).1
   have e1 : (w1.setCell ⟨b, 5, none⟩ v').heap[q.1]? = some q.2 := (heap_set_other _ _ _ _ _ hl.2.1).trans ((hold q.1 hlt (by have := hl.2; simp_all)).trans hl.1)
   have e2 : v'.ownBlock ≠ some q.1 := by
    intro e
    rcases hvn q.1 e with e3 | e3
    · have := hl.2; simp_all
    · omega
   have := hl.2
   refine ⟨e1, this.1, ?_⟩
   simp_all
theorem WkV.push_free {L : List (Nat × Obj)} {S : Sc} {w : World} {sv tv mv fv v' : Value} {w1 : World} {s : ByteArray} (h : WkV W b nv fi ns L S sv tv mv fv w) (hr : w1.ownsRow W.heap.size 9 1 v' (S.free.length + 1) (strV S.free ++ [.string s])) (hg : w.grownBy w1 fv.ownBlock) (hv : v'.ownBlock = fv.ownBlock ∨ v'.ownBlock = some w.heap.size) :
  WkV W b nv fi ns L { S with free := S.free ++ [s] } sv tv mv v' (w1.setCell ⟨b, 6, none⟩ v') := by
 have hA := h.apart
 have lb := (Array.getElem?_eq_some_iff.1 h.cell).1
 have hold : ∀ k, k < w.heap.size → fv.ownBlock ≠ some k → w1.heap[k]? = w.heap[k]? := fun k hk hn => hg.block k hk (Ne.symm hn)
 have L1 := fun g q => (h.seen.lt g q).2
 have L2 := fun g q => (h.slots.lt g q).2
 have L3 := fun g q => (h.made.lt g q).2
 have L4 := fun g q => (h.free.lt g q).2
 have hvn : ∀ g, v'.ownBlock = some g → fv.ownBlock = some g ∨ g = w.heap.size := fun g q => by
  rcases hv with e | e
  · exact Or.inl (e ▸ q)
  · rw [e] at q; exact Or.inr (Option.some.inj q).symm
 have hx1 : Ext W w1 := h.ext.grown hg fun k hk => (h.free.lt k hk).1
 have hnb : fv.ownBlock ≠ some b := fun q => by have := hA b; simp_all
 have kb : KB b _ _ w1 := (hold b lb hnb).trans h.cell
 have keep : ∀ (x : Value) (n : Nat) (xs : List Value) (e : TypeId) (sz bs : Nat), w.ownsRow bs e sz x n xs → (∀ g, x.ownBlock = some g → g ≠ b) → (∀ g, x.ownBlock = some g → fv.ownBlock ≠ some g) → (w1.setCell ⟨b, 6, none⟩ v').ownsRow bs e sz x n xs := fun x n xs e sz bs hx h1 h2 =>
  qai hx fun k q hk => (heap_set_other _ _ _ _ _ (h1 k q)).trans (hold k hk (h2 k q))
 refine ⟨hx1.setCell h.base.1 _, KB.setAt kb 6 v' zay, keep _ _ _ _ _ _ h.row (fun g q => by have := h.base.2 g q; have := h.base.1; omega) (fun g q e => by have := h.base.2 g q; have := (h.free.lt g e).1; omega), ?_, ?_, ?_, ?_, h.base, ?_, ?_⟩
 · exact keep _ _ _ _ _ _ h.seen (fun g q => by have := hA g; simp_all) (fun g q e => by have := hA g; simp_all)
 · exact keep _ _ _ _ _ _ h.slots (fun g q => by have := hA g; simp_all) (fun g q e => by have := hA g; simp_all)
 · exact keep _ _ _ _ _ _ h.made (fun g q => by have := hA g; simp_all) (fun g q e => by have := hA g; simp_all)
 · dsimp only; rw [List.length_append]; unfold strV; rw [List.map_append]; exact qai hr fun k q _ => heap_set_other _ _ _ _ _ (fun e => by rcases hvn k q with e1 | e1; exact hnb (e ▸ e1); omega)
 · intro g
   have a := hA g
   have b1 := hA w.heap.size
   have n1 : sv.ownBlock ≠ some w.heap.size := fun q => absurd (L1 _ q) (Nat.lt_irrefl _)
   have n2 : tv.ownBlock ≠ some w.heap.size := fun q => absurd (L2 _ q) (Nat.lt_irrefl _)
   have n3 : mv.ownBlock ≠ some w.heap.size := fun q => absurd (L3 _ q) (Nat.lt_irrefl _)
   have n4 : fv.ownBlock ≠ some w.heap.size := fun q => absurd (L4 _ q) (Nat.lt_irrefl _)
   have nb : w.heap.size ≠ b := by omega
   rcases hv with e | e
   · rw [e]; exact a
   · by_cases hgs : g = w.heap.size
     · subst hgs
       simp_all
     · have q : v'.ownBlock ≠ some g := by rw [e]; intro e2; exact hgs (Option.some.inj e2).symm
       simp_all
 · intro q hq
   have hl := h.loc q hq
   have hlt := (Array.getElem?_eq_some_iff.1 hl.1).1
   have e1 : (w1.setCell ⟨b, 6, none⟩ v').heap[q.1]? = some q.2 := (heap_set_other _ _ _ _ _ hl.2.1).trans ((hold q.1 hlt (by have := hl.2; simp_all)).trans hl.1)
   have e2 : v'.ownBlock ≠ some q.1 := by
    intro e
    rcases hvn q.1 e with e3 | e3
    · have := hl.2; simp_all
    · omega
   have := hl.2
   refine ⟨e1, this.1, ?_⟩
   simp_all
theorem qdh {L : List (Nat × Obj)} {S : Sc} {w : World} {sv tv mv fv : Value} (h : WkV W b nv fi ns L S sv tv mv fv w) (e a : Int) :
  Calls Tryz.prog 94 #[.pointer (some ⟨b, 0, none⟩), .int .i64 e, .int .i64 a] w fun r w' => r = .returned (.tuple #[]) ∧ WkV W b nv fi ns L (S.wrong e a) sv tv mv fv w' := by
 have H := Lib.hid h
 have KX := Lib.hid (show KB b _ _ w from h.cell)
 have x7 := KX.out.cell 7 _ rfl
 have x8 := KX.out.cell 8 _ rfl
 have f7 := KX.out.frozen 7
 have f8 := KX.out.frozen 8
 have lb := KX.out.lt
 dsimp only [List.getElem_toArray, List.getElem_cons_zero, List.getElem_cons_succ] at x7 x8
 obtain ⟨seen, most, slots, made, free, se, sa⟩ := S
 dsimp only at x7 x8 H
 unfold Sc.wrong
 dsimp only
 clear h
 by_cases h0 : se = 0
 · subst h0
   rw [if_pos rfl]
   go_enter Tryz.func94, Tryz.ntmps94
   go_wp2_with fail
   go_end0
   exact ⟨rfl, (H.out.setB 7 (.int .i64 e) ⟨seen, most, slots, made, free, e, sa⟩ zaf rfl rfl rfl rfl rfl).setB 8 (.int .i64 a) ⟨seen, most, slots, made, free, e, a⟩ zaf rfl rfl rfl rfl rfl⟩
 · rw [if_neg h0]
   have q : (se == 0) = false := by simpa using h0
   clear h0
   go_enter Tryz.func94, Tryz.ntmps94
   go_wp2_with fail
   go_end0
   exact ⟨rfl, H.out⟩
end Go.Proofs.YtpoeknndkccbaaaGreat

namespace Go.Proofs.YtpoeknndkccbaaaGreat
open Go.RowKit
variable {w : World} {base : Nat}
attribute [go_sem] more_more Array.size_append
theorem qel (l : List ByteArray) (j : Nat) (h : j < l.length) : (strV l)[j]? = some (.string (l.getD j ByteArray.empty)) := by
 unfold strV
 rw [List.getElem?_map, List.getElem?_eq_getElem h, List.getD_eq_getElem?_getD, List.getElem?_eq_getElem h]; rfl
theorem qbR {v : Value} {l : List ByteArray} (h : w.ownsRow base 9 1 v l.length (strV l)) (s : ByteArray) (hl : l.length ≤ 100000) :
  Calls Tryz.prog 93 #[v, .string s] w fun e w' => e = .returned (.bool (Lib.containsS l s)) ∧ w' = w := by
 rcases Go.Joins.ownsRow_forms h with ⟨rfl, h0⟩ | ⟨g, c, rfl⟩
 · have hl0 : l = [] := List.length_eq_zero_iff.1 h0
   subst hl0
   refine (Tryz.slices_Contains_string_empty none 0 s w).mono ?_
   rintro e w' ⟨rfl, rfl⟩
   exact ⟨rfl, rfl⟩
 · refine (Tryz.slices_Contains_string g 0 l.length c l s w (Nat.le_refl _) zaf (fun j hj => by have := h.cells (g := g) rfl j _ (qel l j hj); rwa [Addr.add_lit] at this)).mono ?_
   rintro e w' ⟨rfl, rfl⟩
   exact ⟨by rw [List.take_length], rfl⟩
/-- the last place at which a name stands; -1: none -/
def qaG (s : ByteArray) (l : List ByteArray) : Nat → Int
 | 0 => -1
 | j + 1 => if ((l.getD j ByteArray.empty).toList == s.toList) = true then (j : Int) else qaG s l j
/-- a name that is meant by a node -/
def Sc.use (S : Sc) (s : ByteArray) (i : Nat) : Sc :=
 let k := qaG s S.seen S.seen.length
 if k < 0 then
  let T := S.wrong 15 i
  if Lib.containsS T.free s = true then { T with slots := T.slots.set i k } else { T with free := T.free ++ [s], slots := T.slots.set i k }
 else { S with slots := S.slots.set i k }
theorem qbd {e : TypeId} {size : Nat} {n g cap : Nat} {xs : List Value} (h : w.ownsRow base e size (.slice (some ⟨g, 0, none⟩) n cap) n xs) {i : Nat} (hi : i < n * size) (u : Value) :
  (w.setCell ⟨g, i, none⟩ u).ownsRow base e size (.slice (some ⟨g, 0, none⟩) n cap) n (xs.set i u) := by
 obtain ⟨h1, h2⟩ := h
 refine ⟨by simpa using h1, ?_⟩
 rcases h2 with ⟨h2, _⟩ | ⟨g', cap', cur, h2, hb, hg, hn, hm, hc, ht⟩
 · simp at h2
 · simp only [Value.slice.injEq, Option.some.injEq, Addr.mk.injEq, true_and, and_true] at h2
   obtain ⟨rfl, rfl⟩ := h2
   refine Or.inr ⟨g, cap, cur.setIfInBounds i u, rfl, hb, ?_, hn, hm, by simpa using hc, ?_⟩
   · simp [World.setCell, Array.getElem?_modify, hg]
   · rw [Array.toList_setIfInBounds, List.take_set, ht]
theorem WkV.setSlot {W : World} {b : Nat} {nv : Value} {fi : Int} {ns : List Nd} {L : List (Nat × Obj)} {S : Sc} {w : World} {sv mv fv : Value} {g c n2 : Nat} (h : WkV W b nv fi ns L S sv (.slice (some ⟨g, 0, none⟩) n2 c) mv fv w) (i : Nat) (k : Int) (hi : i < S.slots.length) (hn : S.slots.length = n2) :
  WkV W b nv fi ns L { S with slots := S.slots.set i k } sv (.slice (some ⟨g, 0, none⟩) n2 c) mv fv (w.setCell ⟨g, i, none⟩ (.int .i64 k)) := by
 subst hn
 have hA := h.apart
 have hgb : g ≠ b := ((hA g).2.1 rfl).1
 have hg0 := (h.slots.lt g rfl).1
 have hk : ∀ (x : Value) (q : Nat), x.ownBlock ≠ some g → x.ownBlock = some q → (w.setCell ⟨g, i, none⟩ (.int .i64 k)).heap[q]? = w.heap[q]? := fun x q hx hq => heap_set_other _ _ _ _ _ (fun e => hx (by rw [← e]; exact hq))
 refine ⟨h.ext.setCell hg0 _, by rw [heap_set_other _ _ _ _ _ (Ne.symm hgb)]; exact h.cell, qai h.row fun q hq _ => hk nv q (fun e => by have := h.base.2 g e; omega) hq, qai h.seen fun q hq _ => hk sv q (fun e => ((hA g).1 e).2.1 rfl) hq, ?_, qai h.made fun q hq _ => hk mv q (fun e => ((hA g).2.1 rfl).2.1 e) hq, qai h.free fun q hq _ => hk fv q (fun e => ((hA g).2.1 rfl).2.2 e) hq, h.base, h.apart, fun q hq => ⟨(heap_set_other _ _ _ _ _ (fun e => (h.loc q hq).2.2.2.1 (by rw [e]; rfl))).trans (h.loc q hq).1, (h.loc q hq).2⟩⟩
 have e1 : intL (S.slots.set i k) = (intL S.slots).set i (.int .i64 k) := by unfold intL; rw [List.map_set]
 dsimp only
 rw [List.length_set, e1]
 exact qbd h.slots (by rw [Nat.mul_one]; exact hi) _
theorem qcO (l : List Int) (j : Nat) (h : j < l.length) : (intL l)[j]? = some (.int .i64 (l.getD j 0)) := by
 unfold intL
 rw [List.getElem?_map, List.getElem?_eq_getElem h, List.getD_eq_getElem?_getD, List.getElem?_eq_getElem h]; rfl
theorem qdR {n m g c : Nat} {e : TypeId} {size : Nat} {xs : List Value} (h : w.ownsRow base e size (.slice (some ⟨g, 0, none⟩) m c) n xs) (j : Nat) : w.frozen? ⟨g, j, none⟩ = false := by
 rcases h.2 with ⟨h1, _⟩ | ⟨g', cap, cur, hv, _, hg, _⟩
 · cases h1
 · simp only [Value.slice.injEq, Option.some.injEq, Addr.mk.injEq, and_true, true_and] at hv
   rw [← hv.1] at hg
   simp [World.frozen?, hg]
theorem strInfo : (Tryz.prog.info? 9).map (fun i => (i.zero, i.size, i.bytes)) = some (some (.string ⟨#[]⟩), 1, 16) := by kernel_rfl
theorem use_any {W : World} {b : Nat} {nv : Value} {fi : Int} {ns : List Nd} {L : List (Nat × Obj)} {S : Sc} {w : World} {sv tv mv fv : Value} (h : WkV W b nv fi ns L S sv tv mv fv w) (s : ByteArray) (i : Nat) (hi : i < S.slots.length) (hs : S.seen.length ≤ 2000) (hf : S.free.length ≤ 2000) :
  Calls Tryz.prog 96 #[.pointer (some ⟨b, 0, none⟩), .string s, .int .i64 (i : Int)] w fun r w' => r = .returned (.tuple #[]) ∧ Wk W b nv fi ns L (S.use s i) w' := by
 have H := Lib.hid h
 have KX := Lib.hid (show KB b _ _ w from h.cell)
 have x2 := KX.out.cell 2 _ rfl
 have lb := KX.out.lt
 dsimp only [List.getElem_toArray, List.getElem_cons_zero, List.getElem_cons_succ] at x2
 obtain ⟨n, hn⟩ : ∃ n, S.seen.length = n := ⟨_, rfl⟩
 have HN := Lib.hid hn
 obtain ⟨p, c, hv⟩ := qag h.seen
 rw [hn] at hv hs
 subst hv
 have hni : (n : Int) ≤ 2000 := by omega
 have HI := Lib.hid hi
 have HFR := Lib.hid hf
 obtain ⟨n2, hn2⟩ : ∃ n2, S.slots.length = n2 := ⟨_, rfl⟩
 obtain ⟨g2, c2, _, htv⟩ : ∃ g2 c2, (g2 < w.heap.size) ∧ tv = .slice (some ⟨g2, 0, none⟩) n2 c2 := by
  obtain ⟨g1, cap1, e1, _, e3⟩ := h.slots.form zaf
  exact ⟨g1, cap1, e3, by rw [e1, hn2]⟩
 subst htv
 have HN2 := Lib.hid hn2
 have hi2 : (i : Int) < (n2 : Int) := by omega
 have hi0 : 0 ≤ (i : Int) := by omega
 clear h hn hi hf hn2
 go_enter Tryz.func96, Tryz.ntmps96
 go_wp2_with fail
 go_loopw [6, 14] (fun y6 y14 wr => ∃ k : Nat, y14 = .int .i64 (k : Int) ∧ k ≤ n ∧ y6 = .int .i64 (qaG s S.seen k) ∧ wr = w) (fun _ y14 _ => n - (intOf y14).toNat)
 case atStart => exact ⟨0, rfl, Nat.zero_le _, rfl, rfl⟩
 case round =>
  obtain ⟨k, rfl, hk, rfl, rfl⟩ := hrel
  have hk0 : 0 ≤ (k : Int) := by omega
  by_cases hlt : k < n
  · have hp : ∃ g, p = some ⟨g, 0, none⟩ := by
      rcases Go.Joins.ownsRow_forms H.out.seen with ⟨_, h0⟩ | ⟨g1, c1, h0⟩
      · have := HN.out; omega
      · simp at h0; exact ⟨g1, h0.1⟩
    obtain ⟨g, rfl⟩ := hp
    have hki : (k : Int) < (n : Int) := by omega
    have hc := H.out.seen.cells (g := g) rfl k _ (qel S.seen k (by rw [HN.out]; exact hlt))
    rw [Addr.add_lit, Nat.zero_add] at hc
    obtain ⟨t, ht⟩ : ∃ t, S.seen.getD k ByteArray.empty = t := ⟨_, rfl⟩
    rw [ht] at hc
    have HT := Lib.hid (show qaG s S.seen (k + 1) = if (t.toList == s.toList) = true then (k : Int) else qaG s S.seen k from by rw [qaG, ht])
    have HLT := Lib.hid hlt
    have hg := (H.out.seen.lt g rfl).2
    clear ht hlt
    obtain ⟨q, hq⟩ : ∃ q, qaG s S.seen k = q := ⟨_, rfl⟩
    rw [hq] at HT ⊢
    clear hq
    cases hb : (t.toList == s.toList)
    · have HT2 := Lib.hid (HT.out.trans (if_neg zdm))
      clear HT
      go_wp2_with fail
      go_roundw
      case rel => exact ⟨k + 1, by go_num, by have := HLT.out; omega, by rw [HT2.out], by first | rfl | trivial⟩
      case measure => have := HLT.out; simp [intOf]; omega
    · have HT2 := Lib.hid (HT.out.trans (if_pos hb))
      clear HT
      go_wp2_with fail
      go_roundw
      case rel => exact ⟨k + 1, by go_num, by have := HLT.out; omega, by rw [HT2.out], by first | rfl | trivial⟩
      case measure => have := HLT.out; simp [intOf]; omega
  · have hke : k = n := by omega
    subst hke
    have hl : S.use s i = (if qaG s S.seen k < 0 then (if Lib.containsS (S.wrong 15 i).free s = true then { S.wrong 15 i with slots := (S.wrong 15 i).slots.set i (qaG s S.seen k) } else { S.wrong 15 i with free := (S.wrong 15 i).free ++ [s], slots := (S.wrong 15 i).slots.set i (qaG s S.seen k) }) else { S with slots := S.slots.set i (qaG s S.seen k) }) := by unfold Sc.use; rw [HN.out]
    have HU := Lib.hid hl
    clear hl hlt
    obtain ⟨q, hq⟩ : ∃ q, qaG s S.seen k = q := ⟨_, rfl⟩
    rw [hq] at HU ⊢
    clear hq
    obtain ⟨i0, hi, hz0, hz1, hz2⟩ := info_parts strInfo
    by_cases hq0 : q < 0
    · have HU2 := Lib.hid (HU.out.trans (if_pos hq0))
      have hT1 : (S.wrong 15 i).free = S.free := by unfold Sc.wrong; split <;> rfl
      have hT2 : (S.wrong 15 i).slots = S.slots := by unfold Sc.wrong; split <;> rfl
      have WR := Lib.hid (qdh H.out 15 i)
      obtain ⟨T, hT⟩ : ∃ T, S.wrong 15 i = T := ⟨_, rfl⟩
      rw [hT] at HU2 WR hT1 hT2
      have hTf : T.free.length ≤ 2000 := by rw [hT1]; exact HFR.out
      have hTs : i < T.slots.length := by rw [hT2]; exact HI.out
      have HTF := Lib.hid hTf
      have HTS := Lib.hid hTs
      have HTN := Lib.hid (show T.slots.length = n2 from by rw [hT2]; exact HN2.out)
      clear hT hT1 hT2 HU hTf hTs
      cases hQ : Lib.containsS T.free s
      · have HU3 := Lib.hid (HU2.out.trans (if_neg (by rw [hQ]; simp)))
        have HQ := Lib.hid hQ
        clear HU2 hQ
        go_wp2_with (first
         | ((with_reducible refine WR.out.mono ?_); rintro e' w2 ⟨rfl, h2⟩; have H2 := Lib.hid h2; clear h2; have KX2 := Lib.hid (show KB b _ _ w2 from H2.out.cell); have x6 := KX2.out.cell 6 fv rfl; have x4 := KX2.out.cell 4 (.slice (some ⟨g2, 0, none⟩) n2 c2) rfl; have lb2 := KX2.out.lt; have lg2 := (H2.out.slots.lt g2 rfl).2; have hfb : fv.ownBlock ≠ some b := fun q => ((H2.out.apart b).2.2.2 q) rfl; have CF := Lib.hid (qbR H2.out.free s (Nat.le_trans HTF.out zaf)))
         | ((with_reducible refine CF.out.mono ?_); rintro e' _ ⟨rfl, rfl⟩; rw [HQ.out])
         | (at_builtin; refine wpList_append_own_at _ rfl _ _ 74 rfl W.heap.size 9 i0 (.string ⟨#[]⟩) 1 16 Tryz.underlying74 hi hz0 hz1 hz2 rfl zax fv T.free.length (strV T.free) rfl (H2.out.free.alloc _) ⟨_, 0, none⟩ 1 1 [.string s] rfl rfl (qam zay) zdf (by unfold maxLen; have := HTF.out; omega) (by have := HTF.out; omega) (by simp; have := H2.out.ext.size; omega) ?_))
        intro v' w1 hown' hgrow _ hblk
        obtain ⟨g3, cap3, rfl, _, _⟩ := hown'.form zaf
        have HP := Lib.hid (WkV.push_free (s := s) (H2.out.of_ext ((Ext.refl _).alloc _)) hown' hgrow (by rw [World.size_alloc]; exact hblk))
        have KX3 := Lib.hid (show KB b _ _ w1 from (hgrow.block b (by rw [World.size_alloc]; omega) (Ne.symm hfb)).trans (KX2.out.alloc _))
        have z6 := KX3.out.cell 6 fv rfl
        have z6f := KX3.out.frozen 6
        have lb3 := KX3.out.lt
        have KX4 := Lib.hid (show KB b _ _ (w1.setCell ⟨b, 6, none⟩ _) from HP.out.cell)
        have z4 := KX4.out.cell 4 (.slice (some ⟨g2, 0, none⟩) n2 c2) rfl
        clear hown' hgrow hblk
        have y0 := HP.out.slots.cells (g := g2) rfl i _ (qcO T.slots i HTS.out)
        rw [Addr.add_lit, Nat.zero_add] at y0
        have y1 := qdR HP.out.slots i
        have y2 := (HP.out.slots.lt g2 rfl).2
        go_wp2_with fail
        go_end0
        exact ⟨rfl, _, _, _, _, by rw [HU3.out]; exact HP.out.setSlot i q HTS.out HTN.out⟩
      · have HU3 := Lib.hid (HU2.out.trans (if_pos hQ))
        have HQ := Lib.hid hQ
        clear HU2 hQ
        go_wp2_with (first
         | ((with_reducible refine WR.out.mono ?_); rintro e' w2 ⟨rfl, h2⟩; have H2 := Lib.hid h2; clear h2; have KX2 := Lib.hid (show KB b _ _ w2 from H2.out.cell); have x6 := KX2.out.cell 6 fv rfl; have x4 := KX2.out.cell 4 (.slice (some ⟨g2, 0, none⟩) n2 c2) rfl; have lb2 := KX2.out.lt; have lg2 := (H2.out.slots.lt g2 rfl).2; have hfb : fv.ownBlock ≠ some b := fun q => ((H2.out.apart b).2.2.2 q) rfl; have CF := Lib.hid (qbR H2.out.free s (Nat.le_trans HTF.out zaf)); have y0 := H2.out.slots.cells (g := g2) rfl i _ (qcO T.slots i HTS.out); rw [Addr.add_lit, Nat.zero_add] at y0; have y1 := qdR H2.out.slots i; have y2 := (H2.out.slots.lt g2 rfl).2)
         | ((with_reducible refine CF.out.mono ?_); rintro e' _ ⟨rfl, rfl⟩; rw [HQ.out]))
        go_end0
        exact ⟨rfl, _, _, _, _, by rw [HU3.out]; exact H2.out.setSlot i q HTS.out HTN.out⟩
    · have HU2 := Lib.hid (HU.out.trans (if_neg hq0))
      have hq1 : 0 ≤ q := by omega
      have KX2 := Lib.hid (show KB b _ _ wr from H.out.cell)
      have x4 := KX2.out.cell 4 (.slice (some ⟨g2, 0, none⟩) n2 c2) rfl
      have y0 := H.out.slots.cells (g := g2) rfl i _ (qcO S.slots i HI.out)
      rw [Addr.add_lit, Nat.zero_add] at y0
      have y1 := qdR H.out.slots i
      have y2 := (H.out.slots.lt g2 rfl).2
      clear hq0
      go_wp2_with fail
      go_end0
      exact ⟨rfl, _, _, _, _, by rw [HU2.out]; exact H.out.setSlot i q HI.out HN2.out⟩
end Go.Proofs.YtpoeknndkccbaaaGreat
