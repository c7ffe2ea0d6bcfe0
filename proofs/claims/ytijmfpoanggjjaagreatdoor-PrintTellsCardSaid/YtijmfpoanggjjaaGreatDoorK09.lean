/- Lemmas for the claim (texts Few, what its proof uses of them). -/
import Derived.Test.YtijmfpoanggjjaaGreatDoorK03
import Derived.Test.YtijmfpoanggjjaaGreatDoorK08
set_option linter.unusedSimpArgs false
set_option linter.unusedVariables false
namespace Go.Proofs.YtijmfpoanggjjaaGreatDoor
open Go.RowKit
attribute [go_sem] more_more Array.size_append
def cut100 (s : ByteArray) : ByteArray := if 100 < s.size then s.extract 0 100 else s
theorem cut100_le (s : ByteArray) : (cut100 s).size ≤ 100 := by
 unfold cut100
 split
 · simp
   omega
 · omega
def cutN (z : Nd) : Nd := ⟨z.k, z.a, z.b, z.c, z.x, z.i, cut100 z.s, cut100 z.t⟩
def fewN (ns : List Nd) : List Nd := (ns.map cutN).take 514
theorem KB.setAt {k : Nat} {cs : Array Value} {T : TypeId} {w : World} (h : KB k cs T w) (i : Nat) (v : Value) (hi : i < cs.size) : KB k (cs.set i v) T (w.setCell ⟨k, i, none⟩ v) := by
 unfold KB at h ⊢
 simp [World.setCell, Array.getElem?_modify, h, hi, Array.setIfInBounds]
theorem KB.setOther {k k' : Nat} {cs : Array Value} {T : TypeId} {w : World} (h : KB k cs T w) (i : Nat) (v : Value) (hk : k ≠ k') : KB k cs T (w.setCell ⟨k', i, none⟩ v) :=
 (heap_set_other _ _ _ _ _ hk).trans h
theorem KB.frozen {k : Nat} {cs : Array Value} {T : TypeId} {w : World} (h : KB k cs T w) (j : Nat) : w.frozen? ⟨k, j, none⟩ = false := by
 unfold KB at h
 simp [World.frozen?, h]
theorem qbx {w : World} {base c n k i : Nat} {e : TypeId} {size : Nat} {p : Option Addr} {xs : List Value} {v : Value} (h : w.ownsRow base e size (.slice p n c) n xs) (hk : ∀ g, (Value.slice p n c).ownBlock = some g → g ≠ k) : (w.setCell ⟨k, i, none⟩ v).ownsRow base e size (.slice p n c) n xs :=
 qaQ h fun g hg _ => heap_set_other _ _ _ _ _ (hk g hg)
set_option maxHeartbeats 8000000 in
set_option maxRecDepth 20000 in
theorem qcv {ns : List Nd} {p1 : Option Addr} {n c1 : Nat} (fi : Int) (w : World) (hr : NdsIn w p1 n c1 ns) :
  Calls Tryz.prog 6 #[.agg #[.slice p1 n c1, .int .i64 fi]] w fun e w' => ∃ nv', e = .returned (.agg #[nv', .int .i64 fi]) ∧ w'.ownsRow 0 34 8 nv' (fewN ns).length (qac (fewN ns)) ∧ Ext w w' := by
 have HR := Lib.hid hr
 have HN := Lib.hid hr.1
 obtain ⟨i0, hi, hz0, hz1, hz2⟩ := info_parts ndInfo
 by_cases hn : 514 < n
 · have hni : (514 : Int) < (n : Int) := by omega
   have hni2 : (514 : Int) ≤ (n : Int) := by omega
   have hcap : (n : Int) ≤ (c1 : Int) := by have := hr.2.1; omega
   clear hr
   go_enter Tryz.func6, Tryz.ntmps6
   go_wp2_with fail
   have HBX := Lib.hid (fun wr (hx : Ext ((w.alloc (.cells #[.slice p1 514 c1, .int .i64 fi] 24 (0, 0))).alloc (.cells #[.slice none 0 0, .int .i64 0] 24 (0, 0))) wr) => ((KB.new w #[.slice p1 514 c1, .int .i64 fi] 24).alloc (.cells #[.slice none 0 0, .int .i64 0] 24 (0, 0))).of_ext hx)
   have HBY := Lib.hid (fun wr (hx : Ext ((w.alloc (.cells #[.slice p1 514 c1, .int .i64 fi] 24 (0, 0))).alloc (.cells #[.slice none 0 0, .int .i64 0] 24 (0, 0))) wr) => (KB.newAt (k := w.heap.size + 1) (w.alloc (.cells #[.slice p1 514 c1, .int .i64 fi] 24 (0, 0))) #[.slice none 0 0, .int .i64 0] 24 (by rw [World.size_alloc])).of_ext hx)
   have HRX := Lib.hid (fun wr (hx : Ext ((w.alloc (.cells #[.slice p1 514 c1, .int .i64 fi] 24 (0, 0))).alloc (.cells #[.slice none 0 0, .int .i64 0] 24 (0, 0))) wr) => HR.out.ext ((((Ext.refl w).alloc (.cells #[.slice p1 514 c1, .int .i64 fi] 24 (0, 0))).alloc (.cells #[.slice none 0 0, .int .i64 0] 24 (0, 0))).trans hx))
   have HEX := Lib.hid (((Ext.refl w).alloc (.cells #[.slice p1 514 c1, .int .i64 fi] 24 (0, 0))).alloc (.cells #[.slice none 0 0, .int .i64 0] 24 (0, 0)))
   obtain ⟨W0, hW0⟩ : ∃ W0, (w.alloc (.cells #[.slice p1 514 c1, .int .i64 fi] 24 (0, 0))).alloc (.cells #[.slice none 0 0, .int .i64 0] 24 (0, 0)) = W0 := ⟨_, rfl⟩
   have hsz : w.heap.size + 1 + 1 = W0.heap.size := by rw [← hW0, World.size_alloc, World.size_alloc]
   rw [hW0] at HBX HBY HRX HEX ⊢
   obtain ⟨k2, hk2⟩ : ∃ k2, w.heap.size + 1 = k2 := ⟨_, rfl⟩
   rw [hk2] at HBY hsz ⊢
   obtain ⟨k1, hk1⟩ : ∃ k1, w.heap.size = k1 := ⟨_, rfl⟩
   rw [hk1] at HBX hk2 ⊢
   have HK := Lib.hid (show k1 ≠ k2 from by omega)
   have HG := Lib.hid (show w.heap.size ≤ k1 ∧ w.heap.size ≤ k2 from ⟨by omega, by omega⟩)
   have HSZ := Lib.hid (show k1 < W0.heap.size ∧ k2 < W0.heap.size from ⟨by omega, by omega⟩)
   clear hW0 hsz hk2 hk1
   go_loopw [3, 4] (fun y3 y4 wr => ∃ j : Nat, y4 = .int .i64 (j : Int) ∧ j ≤ 514 ∧ wr.ownsRow W0.heap.size 34 8 y3 j (qac ((ns.map cutN).take j)) ∧ Ext W0 wr) (fun _ y4 _ => 514 - (intOf y4).toNat)
   case atStart => exact ⟨0, rfl, Nat.zero_le _, World.ownsRow_nil .., Ext.refl _⟩
   case round =>
    obtain ⟨j, rfl, hj, hrow, hx⟩ := hrel
    obtain ⟨p3, c3, rfl⟩ := qau hrow
    have RW := Lib.hid hrow
    have HX := Lib.hid hx
    have KX := Lib.hid (HBX.out wr hx)
    have x0 := KX.out.cell 0 _ rfl
    have x1 := KX.out.cell 1 _ rfl
    have lx := KX.out.lt
    have hj0 : 0 ≤ (j : Int) := by omega
    clear hrow hx
    by_cases hlt : j < 514
    · obtain ⟨z, hz⟩ : ∃ z, ns[j]? = some z := ⟨_, List.getElem?_eq_getElem (by rw [HN.out]; omega)⟩
      obtain ⟨g, o, hpe, hg, hat⟩ := (HRX.out wr HX.out).2.2 zal
      subst hpe
      obtain ⟨a0, a1, a2, a3, a4, a5, a6, a7⟩ := hat j _ hz
      have hji : (j : Int) < 514 := by omega
      have HLT := Lib.hid hlt
      obtain ⟨zk, za, zb, zc, zx, zi, zs, zt⟩ := z
      dsimp only at a0 a1 a2 a3 a4 a5 a6 a7
      have HC := Lib.hid (show (ns.map cutN).take (j + 1) = (ns.map cutN).take j ++ [⟨zk, za, zb, zc, zx, zi, cut100 zs, cut100 zt⟩] from by rw [List.take_add_one, List.getElem?_map, hz]; rfl)
      have RWL := Lib.hid (fun g hg => show g ≠ wr.heap.size from by have := (RW.out.lt g hg).2; omega)
      clear hz hlt hat
      by_cases hs0 : 100 < (zs.size : Int) <;> by_cases ht0 : 100 < (zt.size : Int)
      · rw [show cut100 zs = zs.extract 0 100 from by unfold cut100; rw [if_pos zal], show cut100 zt = zt.extract 0 100 from by unfold cut100; rw [if_pos zal]] at HC
        have hs1 : 100 ≤ (zs.size : Int)  := by omega
        have ht1 : 100 ≤ (zt.size : Int)  := by omega
        go_wp2_with (at_builtin; refine wpList_append_own_at _ rfl _ _ 22 rfl W0.heap.size 34 i0 (.agg #[.int .i64 0, .int .i64 0, .int .i64 0, .int .i64 0, .int .i64 0, .int .i64 0, .string ⟨#[]⟩, .string ⟨#[]⟩]) 8 80 Tryz.underlying22 hi hz0 hz1 hz2 rfl zaq (.slice p3 j c3) j (qac ((ns.map cutN).take j)) rfl zci ⟨_, 0, none⟩ 1 1 [.int .i64 zk, .int .i64 za, .int .i64 zb, .int .i64 zc, .int .i64 zx, .int .i64 zi, .string (zs.extract 0 100), .string (zt.extract 0 100)] rfl rfl (qaL zbt) zck zcw zal zdp ?_)
        intro v' w1 hown' hgrow _ hblk
        have hown2 : w1.ownsRow W0.heap.size 34 8 v' (j + 1) (qac ((ns.map cutN).take (j + 1))) := by rw [HC.out, qaE]; exact hown'
        have HO := Lib.hid hown2
        have HX2 := Lib.hid (((HX.out.alloc _).alloc _).grown hgrow fun k hk => (RW.out.lt k hk).1)
        clear hown' hown2 hgrow hblk
        go_wp2_with fail
        go_roundw
        case rel => exact ⟨j + 1, by go_num, by have := HLT.out; omega, HO.out, HX2.out⟩
        case measure => have := HLT.out; simp [intOf]; omega
      · rw [show cut100 zs = zs.extract 0 100 from by unfold cut100; rw [if_pos zal], show cut100 zt = zt from by unfold cut100; rw [if_neg zal]] at HC
        have hs1 : 100 ≤ (zs.size : Int)  := by omega
        have ht1 :  (zt.size : Int) ≤ 100 := by omega
        go_wp2_with (at_builtin; refine wpList_append_own_at _ rfl _ _ 22 rfl W0.heap.size 34 i0 (.agg #[.int .i64 0, .int .i64 0, .int .i64 0, .int .i64 0, .int .i64 0, .int .i64 0, .string ⟨#[]⟩, .string ⟨#[]⟩]) 8 80 Tryz.underlying22 hi hz0 hz1 hz2 rfl zaq (.slice p3 j c3) j (qac ((ns.map cutN).take j)) rfl zci ⟨_, 0, none⟩ 1 1 [.int .i64 zk, .int .i64 za, .int .i64 zb, .int .i64 zc, .int .i64 zx, .int .i64 zi, .string (zs.extract 0 100), .string zt] rfl rfl (qaL zbt) zck zcw zal zdp ?_)
        intro v' w1 hown' hgrow _ hblk
        have hown2 : w1.ownsRow W0.heap.size 34 8 v' (j + 1) (qac ((ns.map cutN).take (j + 1))) := by rw [HC.out, qaE]; exact hown'
        have HO := Lib.hid hown2
        have HX2 := Lib.hid (((HX.out.alloc _).alloc _).grown hgrow fun k hk => (RW.out.lt k hk).1)
        clear hown' hown2 hgrow hblk
        go_wp2_with fail
        go_roundw
        case rel => exact ⟨j + 1, by go_num, by have := HLT.out; omega, HO.out, HX2.out⟩
        case measure => have := HLT.out; simp [intOf]; omega
      · rw [show cut100 zs = zs from by unfold cut100; rw [if_neg zal], show cut100 zt = zt.extract 0 100 from by unfold cut100; rw [if_pos zal]] at HC
        have hs1 :  (zs.size : Int) ≤ 100 := by omega
        have ht1 : 100 ≤ (zt.size : Int)  := by omega
        go_wp2_with (at_builtin; refine wpList_append_own_at _ rfl _ _ 22 rfl W0.heap.size 34 i0 (.agg #[.int .i64 0, .int .i64 0, .int .i64 0, .int .i64 0, .int .i64 0, .int .i64 0, .string ⟨#[]⟩, .string ⟨#[]⟩]) 8 80 Tryz.underlying22 hi hz0 hz1 hz2 rfl zaq (.slice p3 j c3) j (qac ((ns.map cutN).take j)) rfl zci ⟨_, 0, none⟩ 1 1 [.int .i64 zk, .int .i64 za, .int .i64 zb, .int .i64 zc, .int .i64 zx, .int .i64 zi, .string zs, .string (zt.extract 0 100)] rfl rfl (qaL zbt) zck zcw zal zdp ?_)
        intro v' w1 hown' hgrow _ hblk
        have hown2 : w1.ownsRow W0.heap.size 34 8 v' (j + 1) (qac ((ns.map cutN).take (j + 1))) := by rw [HC.out, qaE]; exact hown'
        have HO := Lib.hid hown2
        have HX2 := Lib.hid (((HX.out.alloc _).alloc _).grown hgrow fun k hk => (RW.out.lt k hk).1)
        clear hown' hown2 hgrow hblk
        go_wp2_with fail
        go_roundw
        case rel => exact ⟨j + 1, by go_num, by have := HLT.out; omega, HO.out, HX2.out⟩
        case measure => have := HLT.out; simp [intOf]; omega
      · rw [show cut100 zs = zs from by unfold cut100; rw [if_neg zal], show cut100 zt = zt from by unfold cut100; rw [if_neg zal]] at HC
        have hs1 :  (zs.size : Int) ≤ 100 := by omega
        have ht1 :  (zt.size : Int) ≤ 100 := by omega
        go_wp2_with (at_builtin; refine wpList_append_own_at _ rfl _ _ 22 rfl W0.heap.size 34 i0 (.agg #[.int .i64 0, .int .i64 0, .int .i64 0, .int .i64 0, .int .i64 0, .int .i64 0, .string ⟨#[]⟩, .string ⟨#[]⟩]) 8 80 Tryz.underlying22 hi hz0 hz1 hz2 rfl zaq (.slice p3 j c3) j (qac ((ns.map cutN).take j)) rfl zci ⟨_, 0, none⟩ 1 1 [.int .i64 zk, .int .i64 za, .int .i64 zb, .int .i64 zc, .int .i64 zx, .int .i64 zi, .string zs, .string zt] rfl rfl (qaL zbt) zck zcw zal zdp ?_)
        intro v' w1 hown' hgrow _ hblk
        have hown2 : w1.ownsRow W0.heap.size 34 8 v' (j + 1) (qac ((ns.map cutN).take (j + 1))) := by rw [HC.out, qaE]; exact hown'
        have HO := Lib.hid hown2
        have HX2 := Lib.hid (((HX.out.alloc _).alloc _).grown hgrow fun k hk => (RW.out.lt k hk).1)
        clear hown' hown2 hgrow hblk
        go_wp2_with fail
        go_roundw
        case rel => exact ⟨j + 1, by go_num, by have := HLT.out; omega, HO.out, HX2.out⟩
        case measure => have := HLT.out; simp [intOf]; omega
    · have hje : j = 514 := by omega
      have hF : (ns.map cutN).take j = fewN ns := by rw [hje]; rfl
      have hF2 : (fewN ns).length = j := by rw [← hF, List.length_take, List.length_map, HN.out]; omega
      have RW2 := Lib.hid (show wr.ownsRow W0.heap.size 34 8 (.slice p3 j c3) j (qac (fewN ns)) from by rw [← hF]; exact RW.out)
      have HF := Lib.hid hF2
      have KY := Lib.hid (HBY.out wr HX.out)
      have hji : (514 : Int) ≤ (j : Int) := by omega
      have y0 := KY.out.cell 0 _ rfl
      have y1 := KY.out.cell 1 _ rfl
      have ly := KY.out.lt
      have hne := HK.out
      have fz1 := KX.out.frozen 0
      have fz2 := KY.out.frozen 0
      have fz3 := KY.out.frozen 1
      clear hF hF2 hlt hje
      go_wp2_with fail
      have g1 : ∀ g, (Value.slice p3 j c3).ownBlock = some g → g ≠ k1 := fun g hg => by have := (RW2.out.lt g hg).1; have := HSZ.out.1; omega
      have g2 : ∀ g, (Value.slice p3 j c3).ownBlock = some g → g ≠ k2 := fun g hg => by have := (RW2.out.lt g hg).1; have := HSZ.out.2; omega
      have KZ := Lib.hid (((KY.out.setOther 0 (.slice p3 j c3) (Ne.symm HK.out)).setAt 0 (.slice p3 j c3) zbt).setAt 1 (.int .i64 fi) zbt)
      have z0 := KZ.out.cell 0 (.slice p3 j c3) rfl
      have z1 := KZ.out.cell 1 (.int .i64 fi) rfl
      exact bodyPost_ret (v := .agg #[.slice p3 j c3, .int .i64 fi]) (by simp [results, Tryz.results6, go_sem, ly, z0, z1]) rfl ⟨_, rfl, by rw [HF.out]; exact (qbx (qbx (qbx RW2.out g1) g2) g2).mono (Nat.zero_le _), (((HEX.out.trans HX.out).setCell HG.out.1 _).setCell HG.out.2 _).setCell HG.out.2 _⟩
 · have hni : (n : Int) ≤ 514 := by omega
   have hmn : n ≤ 514 := by omega
   clear hr
   go_enter Tryz.func6, Tryz.ntmps6
   go_wp2_with fail
   have HBX := Lib.hid (fun wr (hx : Ext ((w.alloc (.cells #[.slice p1 n c1, .int .i64 fi] 24 (0, 0))).alloc (.cells #[.slice none 0 0, .int .i64 0] 24 (0, 0))) wr) => ((KB.new w #[.slice p1 n c1, .int .i64 fi] 24).alloc (.cells #[.slice none 0 0, .int .i64 0] 24 (0, 0))).of_ext hx)
   have HBY := Lib.hid (fun wr (hx : Ext ((w.alloc (.cells #[.slice p1 n c1, .int .i64 fi] 24 (0, 0))).alloc (.cells #[.slice none 0 0, .int .i64 0] 24 (0, 0))) wr) => (KB.newAt (k := w.heap.size + 1) (w.alloc (.cells #[.slice p1 n c1, .int .i64 fi] 24 (0, 0))) #[.slice none 0 0, .int .i64 0] 24 (by rw [World.size_alloc])).of_ext hx)
   have HRX := Lib.hid (fun wr (hx : Ext ((w.alloc (.cells #[.slice p1 n c1, .int .i64 fi] 24 (0, 0))).alloc (.cells #[.slice none 0 0, .int .i64 0] 24 (0, 0))) wr) => HR.out.ext ((((Ext.refl w).alloc (.cells #[.slice p1 n c1, .int .i64 fi] 24 (0, 0))).alloc (.cells #[.slice none 0 0, .int .i64 0] 24 (0, 0))).trans hx))
   have HEX := Lib.hid (((Ext.refl w).alloc (.cells #[.slice p1 n c1, .int .i64 fi] 24 (0, 0))).alloc (.cells #[.slice none 0 0, .int .i64 0] 24 (0, 0)))
   obtain ⟨W0, hW0⟩ : ∃ W0, (w.alloc (.cells #[.slice p1 n c1, .int .i64 fi] 24 (0, 0))).alloc (.cells #[.slice none 0 0, .int .i64 0] 24 (0, 0)) = W0 := ⟨_, rfl⟩
   have hsz : w.heap.size + 1 + 1 = W0.heap.size := by rw [← hW0, World.size_alloc, World.size_alloc]
   rw [hW0] at HBX HBY HRX HEX ⊢
   obtain ⟨k2, hk2⟩ : ∃ k2, w.heap.size + 1 = k2 := ⟨_, rfl⟩
   rw [hk2] at HBY hsz ⊢
   obtain ⟨k1, hk1⟩ : ∃ k1, w.heap.size = k1 := ⟨_, rfl⟩
   rw [hk1] at HBX hk2 ⊢
   have HK := Lib.hid (show k1 ≠ k2 from by omega)
   have HG := Lib.hid (show w.heap.size ≤ k1 ∧ w.heap.size ≤ k2 from ⟨by omega, by omega⟩)
   have HSZ := Lib.hid (show k1 < W0.heap.size ∧ k2 < W0.heap.size from ⟨by omega, by omega⟩)
   clear hW0 hsz hk2 hk1
   go_loopw [3, 4] (fun y3 y4 wr => ∃ j : Nat, y4 = .int .i64 (j : Int) ∧ j ≤ n ∧ wr.ownsRow W0.heap.size 34 8 y3 j (qac ((ns.map cutN).take j)) ∧ Ext W0 wr) (fun _ y4 _ => n - (intOf y4).toNat)
   case atStart => exact ⟨0, rfl, Nat.zero_le _, World.ownsRow_nil .., Ext.refl _⟩
   case round =>
    obtain ⟨j, rfl, hj, hrow, hx⟩ := hrel
    obtain ⟨p3, c3, rfl⟩ := qau hrow
    have RW := Lib.hid hrow
    have HX := Lib.hid hx
    have KX := Lib.hid (HBX.out wr hx)
    have x0 := KX.out.cell 0 _ rfl
    have x1 := KX.out.cell 1 _ rfl
    have lx := KX.out.lt
    have hj0 : 0 ≤ (j : Int) := by omega
    clear hrow hx
    by_cases hlt : j < n
    · obtain ⟨z, hz⟩ : ∃ z, ns[j]? = some z := ⟨_, List.getElem?_eq_getElem (by rw [HN.out]; omega)⟩
      obtain ⟨g, o, hpe, hg, hat⟩ := (HRX.out wr HX.out).2.2 zal
      subst hpe
      obtain ⟨a0, a1, a2, a3, a4, a5, a6, a7⟩ := hat j _ hz
      have hji : (j : Int) < n := by omega
      have HLT := Lib.hid hlt
      obtain ⟨zk, za, zb, zc, zx, zi, zs, zt⟩ := z
      dsimp only at a0 a1 a2 a3 a4 a5 a6 a7
      have HC := Lib.hid (show (ns.map cutN).take (j + 1) = (ns.map cutN).take j ++ [⟨zk, za, zb, zc, zx, zi, cut100 zs, cut100 zt⟩] from by rw [List.take_add_one, List.getElem?_map, hz]; rfl)
      have RWL := Lib.hid (fun g hg => show g ≠ wr.heap.size from by have := (RW.out.lt g hg).2; omega)
      clear hz hlt hat
      by_cases hs0 : 100 < (zs.size : Int) <;> by_cases ht0 : 100 < (zt.size : Int)
      · rw [show cut100 zs = zs.extract 0 100 from by unfold cut100; rw [if_pos zal], show cut100 zt = zt.extract 0 100 from by unfold cut100; rw [if_pos zal]] at HC
        have hs1 : 100 ≤ (zs.size : Int)  := by omega
        have ht1 : 100 ≤ (zt.size : Int)  := by omega
        go_wp2_with (at_builtin; refine wpList_append_own_at _ rfl _ _ 22 rfl W0.heap.size 34 i0 (.agg #[.int .i64 0, .int .i64 0, .int .i64 0, .int .i64 0, .int .i64 0, .int .i64 0, .string ⟨#[]⟩, .string ⟨#[]⟩]) 8 80 Tryz.underlying22 hi hz0 hz1 hz2 rfl zaq (.slice p3 j c3) j (qac ((ns.map cutN).take j)) rfl zci ⟨_, 0, none⟩ 1 1 [.int .i64 zk, .int .i64 za, .int .i64 zb, .int .i64 zc, .int .i64 zx, .int .i64 zi, .string (zs.extract 0 100), .string (zt.extract 0 100)] rfl rfl (qaL zbt) zck zcw zal zdp ?_)
        intro v' w1 hown' hgrow _ hblk
        have hown2 : w1.ownsRow W0.heap.size 34 8 v' (j + 1) (qac ((ns.map cutN).take (j + 1))) := by rw [HC.out, qaE]; exact hown'
        have HO := Lib.hid hown2
        have HX2 := Lib.hid (((HX.out.alloc _).alloc _).grown hgrow fun k hk => (RW.out.lt k hk).1)
        clear hown' hown2 hgrow hblk
        go_wp2_with fail
        go_roundw
        case rel => exact ⟨j + 1, by go_num, by have := HLT.out; omega, HO.out, HX2.out⟩
        case measure => have := HLT.out; simp [intOf]; omega
      · rw [show cut100 zs = zs.extract 0 100 from by unfold cut100; rw [if_pos zal], show cut100 zt = zt from by unfold cut100; rw [if_neg zal]] at HC
        have hs1 : 100 ≤ (zs.size : Int)  := by omega
        have ht1 :  (zt.size : Int) ≤ 100 := by omega
        go_wp2_with (at_builtin; refine wpList_append_own_at _ rfl _ _ 22 rfl W0.heap.size 34 i0 (.agg #[.int .i64 0, .int .i64 0, .int .i64 0, .int .i64 0, .int .i64 0, .int .i64 0, .string ⟨#[]⟩, .string ⟨#[]⟩]) 8 80 Tryz.underlying22 hi hz0 hz1 hz2 rfl zaq (.slice p3 j c3) j (qac ((ns.map cutN).take j)) rfl zci ⟨_, 0, none⟩ 1 1 [.int .i64 zk, .int .i64 za, .int .i64 zb, .int .i64 zc, .int .i64 zx, .int .i64 zi, .string (zs.extract 0 100), .string zt] rfl rfl (qaL zbt) zck zcw zal zdp ?_)
        intro v' w1 hown' hgrow _ hblk
        have hown2 : w1.ownsRow W0.heap.size 34 8 v' (j + 1) (qac ((ns.map cutN).take (j + 1))) := by rw [HC.out, qaE]; exact hown'
        have HO := Lib.hid hown2
        have HX2 := Lib.hid (((HX.out.alloc _).alloc _).grown hgrow fun k hk => (RW.out.lt k hk).1)
        clear hown' hown2 hgrow hblk
        go_wp2_with fail
        go_roundw
        case rel => exact ⟨j + 1, by go_num, by have := HLT.out; omega, HO.out, HX2.out⟩
        case measure => have := HLT.out; simp [intOf]; omega
      · rw [show cut100 zs = zs from by unfold cut100; rw [if_neg zal], show cut100 zt = zt.extract 0 100 from by unfold cut100; rw [if_pos zal]] at HC
        have hs1 :  (zs.size : Int) ≤ 100 := by omega
        have ht1 : 100 ≤ (zt.size : Int)  := by omega
        go_wp2_with (at_builtin; refine wpList_append_own_at _ rfl _ _ 22 rfl W0.heap.size 34 i0 (.agg #[.int .i64 0, .int .i64 0, .int .i64 0, .int .i64 0, .int .i64 0, .int .i64 0, .string ⟨#[]⟩, .string ⟨#[]⟩]) 8 80 Tryz.underlying22 hi hz0 hz1 hz2 rfl zaq (.slice p3 j c3) j (qac ((ns.map cutN).take j)) rfl zci ⟨_, 0, none⟩ 1 1 [.int .i64 zk, .int .i64 za, .int .i64 zb, .int .i64 zc, .int .i64 zx, .int .i64 zi, .string zs, .string (zt.extract 0 100)] rfl rfl (qaL zbt) zck zcw zal zdp ?_)
        intro v' w1 hown' hgrow _ hblk
        have hown2 : w1.ownsRow W0.heap.size 34 8 v' (j + 1) (qac ((ns.map cutN).take (j + 1))) := by rw [HC.out, qaE]; exact hown'
        have HO := Lib.hid hown2
        have HX2 := Lib.hid (((HX.out.alloc _).alloc _).grown hgrow fun k hk => (RW.out.lt k hk).1)
        clear hown' hown2 hgrow hblk
        go_wp2_with fail
        go_roundw
        case rel => exact ⟨j + 1, by go_num, by have := HLT.out; omega, HO.out, HX2.out⟩
        case measure => have := HLT.out; simp [intOf]; omega
      · rw [show cut100 zs = zs from by unfold cut100; rw [if_neg zal], show cut100 zt = zt from by unfold cut100; rw [if_neg zal]] at HC
        have hs1 :  (zs.size : Int) ≤ 100 := by omega
        have ht1 :  (zt.size : Int) ≤ 100 := by omega
        go_wp2_with (at_builtin; refine wpList_append_own_at _ rfl _ _ 22 rfl W0.heap.size 34 i0 (.agg #[.int .i64 0, .int .i64 0, .int .i64 0, .int .i64 0, .int .i64 0, .int .i64 0, .string ⟨#[]⟩, .string ⟨#[]⟩]) 8 80 Tryz.underlying22 hi hz0 hz1 hz2 rfl zaq (.slice p3 j c3) j (qac ((ns.map cutN).take j)) rfl zci ⟨_, 0, none⟩ 1 1 [.int .i64 zk, .int .i64 za, .int .i64 zb, .int .i64 zc, .int .i64 zx, .int .i64 zi, .string zs, .string zt] rfl rfl (qaL zbt) zck zcw zal zdp ?_)
        intro v' w1 hown' hgrow _ hblk
        have hown2 : w1.ownsRow W0.heap.size 34 8 v' (j + 1) (qac ((ns.map cutN).take (j + 1))) := by rw [HC.out, qaE]; exact hown'
        have HO := Lib.hid hown2
        have HX2 := Lib.hid (((HX.out.alloc _).alloc _).grown hgrow fun k hk => (RW.out.lt k hk).1)
        clear hown' hown2 hgrow hblk
        go_wp2_with fail
        go_roundw
        case rel => exact ⟨j + 1, by go_num, by have := HLT.out; omega, HO.out, HX2.out⟩
        case measure => have := HLT.out; simp [intOf]; omega
    · have hje : j = n := by omega
      have hF : (ns.map cutN).take j = fewN ns := by unfold fewN; rw [List.take_of_length_le (by rw [List.length_map, HN.out]; omega), List.take_of_length_le (by rw [List.length_map, HN.out]; omega)]
      have hF2 : (fewN ns).length = j := by rw [← hF, List.length_take, List.length_map, HN.out]; omega
      have RW2 := Lib.hid (show wr.ownsRow W0.heap.size 34 8 (.slice p3 j c3) j (qac (fewN ns)) from by rw [← hF]; exact RW.out)
      have HF := Lib.hid hF2
      have KY := Lib.hid (HBY.out wr HX.out)
      have hji : (n : Int) ≤ (j : Int) := by omega
      have y0 := KY.out.cell 0 _ rfl
      have y1 := KY.out.cell 1 _ rfl
      have ly := KY.out.lt
      have hne := HK.out
      have fz1 := KX.out.frozen 0
      have fz2 := KY.out.frozen 0
      have fz3 := KY.out.frozen 1
      clear hF hF2 hlt hje
      go_wp2_with fail
      have g1 : ∀ g, (Value.slice p3 j c3).ownBlock = some g → g ≠ k1 := fun g hg => by have := (RW2.out.lt g hg).1; have := HSZ.out.1; omega
      have g2 : ∀ g, (Value.slice p3 j c3).ownBlock = some g → g ≠ k2 := fun g hg => by have := (RW2.out.lt g hg).1; have := HSZ.out.2; omega
      have KZ := Lib.hid (((KY.out.setOther 0 (.slice p3 j c3) (Ne.symm HK.out)).setAt 0 (.slice p3 j c3) zbt).setAt 1 (.int .i64 fi) zbt)
      have z0 := KZ.out.cell 0 (.slice p3 j c3) rfl
      have z1 := KZ.out.cell 1 (.int .i64 fi) rfl
      exact bodyPost_ret (v := .agg #[.slice p3 j c3, .int .i64 fi]) (by simp [results, Tryz.results6, go_sem, ly, z0, z1]) rfl ⟨_, rfl, by rw [HF.out]; exact (qbx (qbx (qbx RW2.out g1) g2) g2).mono (Nat.zero_le _), (((HEX.out.trans HX.out).setCell HG.out.1 _).setCell HG.out.2 _).setCell HG.out.2 _⟩
end Go.Proofs.YtijmfpoanggjjaaGreatDoor
