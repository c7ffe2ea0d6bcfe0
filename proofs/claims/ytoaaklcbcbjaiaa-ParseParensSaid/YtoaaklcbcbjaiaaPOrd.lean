/- ParseOrder: of every program what a node has stands ahead of it, what is behind it in its block behind it, and nothing is had twice. No condition. -/
import Derived.Test.YtoaaklcbcbjaiaaRSame
import Derived.Test.YtoaaklcbcbjaiaaParO2
import Derived.Test.YtoaaklcbcbjaiaaParE
import Derived.Test.YtoaaklcbcbjaiaaRow
import Derived.Test.YtoaaklcbcbjaiaaRows
import Derived.OpenShut
import Derived.Deep.OwnRows
set_option linter.unusedSimpArgs false
set_option linter.unusedVariables false
namespace Go.Proofs.Ytoaaklcbcbjaiaa
open Go.RowKit
attribute [go_sem] more_more Array.size_append

set_option maxHeartbeats 1000000 in
theorem none_yes (w : World) : Calls Try.prog 22 #[.agg #[.slice none 0 0, .int .i64 0]] w fun e w' => e = .returned (.bool true) ∧ Ext w w' := by
  go_enter Try.func22, Try.ntmps22
  go_wp2_with fail
  go_ret
  exact ⟨rfl, by repeat (first | exact Ext.refl _ | apply Ext.alloc | apply Ext.more)⟩
set_option maxHeartbeats 1000000 in
theorem ahead_yes (a i : Int) (h1 : -1 ≤ a) (h2 : a < i) (w : World) : Calls Try.prog 24 #[.int .i64 a, .int .i64 i] w fun e w' => e = .returned (.bool true) ∧ w = w' := by
  go_enter Try.func24, Try.ntmps24
  go_wp2_with fail
  go_ret
  exact ⟨rfl, rfl⟩

/-- the law's memory under way: the program, what is had, how often -/
structure OrdSt (W : World) (k3 k6 H : Nat) (nv : Value) (ns : List Nd) (fi : Int) (n : Nat) (g : Nat → Nat) (w : World) : Prop where
  ext : Ext W w
  prog : w.heap[k3]? = some (.cells #[nv, .int .i64 fi] 24 (0, 0))
  six : w.heap[k6]? = some (.cells #[.slice (some ⟨H, 0, none⟩) n n] 26 (0, 0))
  had : w.rowIs H 3 n (fun j => .int .i64 (g j : Int))
  row : w.ownsRow 0 52 8 nv n (ndCells ns)
  base : W.heap.size ≤ H ∧ H ≠ k3 ∧ H ≠ k6 ∧ nv.ownBlock ≠ some H
theorem OrdSt.of_ext {W : World} {k3 k6 H : Nat} {nv : Value} {ns : List Nd} {fi : Int} {n : Nat} {g : Nat → Nat} {w w' : World} (h : OrdSt W k3 k6 H nv ns fi n g w) (hx : Ext w w') : OrdSt W k3 k6 H nv ns fi n g w' :=
  ⟨h.ext.trans hx, (hx.below.block _ (Array.getElem?_eq_some_iff.1 h.prog).1).trans h.prog, (hx.below.block _ (Array.getElem?_eq_some_iff.1 h.six).1).trans h.six, h.had.of_block (hx.below.block _ h.had.lt), own_ext h.row hx, h.base⟩
theorem OrdSt.facts {W : World} {k3 k6 H : Nat} {nv : Value} {ns : List Nd} {fi : Int} {n : Nat} {g : Nat → Nat} {w : World} (h : OrdSt W k3 k6 H nv ns fi n g w) :
    w.cell? ⟨k3, 0, none⟩ = some nv ∧ w.cell? ⟨k3, 1, none⟩ = some (.int .i64 fi) ∧ w.cell? ⟨k6, 0, none⟩ = some (.slice (some ⟨H, 0, none⟩) n n) ∧ k3 < w.heap.size ∧ k6 < w.heap.size ∧ H < w.heap.size := by
  have h1 := h.prog
  have h2 := h.six
  refine ⟨?_, ?_, ?_, (Array.getElem?_eq_some_iff.1 h1).1, (Array.getElem?_eq_some_iff.1 h2).1, h.had.lt⟩ <;> simp [World.cell?, h1, h2]
theorem OrdSt.set {W : World} {k3 k6 H : Nat} {nv : Value} {ns : List Nd} {fi : Int} {n : Nat} {g : Nat → Nat} {w : World} (h : OrdSt W k3 k6 H nv ns fi n g w) (k : Nat) (v : Int) (g' : Nat → Nat) (hg : ∀ j, (g' j : Int) = if j = k then v else (g j : Int)) :
    OrdSt W k3 k6 H nv ns fi n g' (w.setCell ⟨H, k, none⟩ (.int .i64 v)) := by
  obtain ⟨b1, b2, b3, b4⟩ := h.base
  refine ⟨h.ext.setCell b1 _, by rw [heap_set_other _ _ _ _ _ (Ne.symm b2)]; exact h.prog, by rw [heap_set_other _ _ _ _ _ (Ne.symm b3)]; exact h.six, (h.had.set k _).congr fun j _ => ?_, ?_, h.base⟩
  · rw [hg j]; split <;> rfl
  · exact own_block h.row fun j hj _ => heap_set_other _ _ _ _ _ (fun e => b4 (by rw [← e]; exact hj))
theorem OrdSt.congr {W : World} {k3 k6 H : Nat} {nv : Value} {ns : List Nd} {fi : Int} {n : Nat} {g g' : Nat → Nat} {w : World} (h : OrdSt W k3 k6 H nv ns fi n g w) (e : ∀ j, j < n → g j = g' j) : OrdSt W k3 k6 H nv ns fi n g' w :=
  ⟨h.ext, h.prog, h.six, h.had.congr fun j hj => by rw [e j hj], h.row, h.base⟩
theorem entersC (args : Array Value) (w : World) : (callFunc 23 args).run Try.prog w = .ok (.enter 23 args) w := by kernel_rfl
theorem mk_func7 (fn : Fn) (first cap : Array Value) (w : World) : (Instr.makeFunc fn first cap).run Try.prog w = .ok (.func fn first cap) w := rfl

set_option maxHeartbeats 2000000 in
theorem count_any {W : World} {k3 k6 H : Nat} {nv : Value} {ns : List Nd} {fi : Int} {n : Nat} {g : Nat → Nat} {w : World} (h : OrdSt W k3 k6 H nv ns fi n g w) (k : Int) (hn : n ≤ 512) (hb : ∀ j, j < n → g j ≤ 9000) :
    Calls Try.prog 23 #[.int .i64 k, .pointer (some ⟨k6, 0, none⟩)] w fun e w' => e = .returned (.tuple #[]) ∧ OrdSt W k3 k6 H nv ns fi n (fun j => g j + one1 k j) w' ∧ (∀ q, q < w.heap.size → q ≠ H → w'.heap[q]? = w.heap[q]?) := by
  have HS := Lib.hid h
  obtain ⟨c0, c1, c2, l3, l6, lH⟩ := h.facts
  have hni : (n : Int) ≤ 512 := by omega
  by_cases h0 : 0 ≤ k
  · by_cases h1 : k < (n : Int)
    · obtain ⟨j, rfl⟩ : ∃ j : Nat, k = (j : Int) := ⟨k.toNat, by omega⟩
      have hj : j < n := by omega
      have hc := h.had.cell hj
      have hf := h.had.frozen j
      have hgj : (g j : Int) ≤ 9000 := by have := hb j hj; omega
      have hgj0 : 0 ≤ (g j : Int) := by omega
      obtain ⟨q, hq⟩ : ∃ q : Nat, g j = q := ⟨_, rfl⟩
      have HQ := Lib.hid hq
      simp only [hq] at hc hgj hgj0
      clear h hb c0 c1 hq hj
      go_enter Try.func23, Try.ntmps23
      go_wp2_with fail
      go_end0
      refine ⟨rfl, HS.out.set j _ _ fun i => ?_, fun q _ hq => heap_set_other _ _ _ _ _ hq⟩
      by_cases e : i = j
      · subst e; rw [if_pos rfl]; unfold one1; rw [if_pos rfl, HQ.out]; omega
      · rw [if_neg e]; unfold one1; rw [if_neg (by omega)]; rfl
    · have h2 : (n : Int) ≤ k := by omega
      clear h hb c0 c1
      go_enter Try.func23, Try.ntmps23
      go_wp2_with fail
      go_end0
      exact ⟨rfl, HS.out.congr fun j hj => by unfold one1; rw [if_neg (by omega)]; rfl, fun q _ _ => rfl⟩
  · have h2 : k < 0 := by omega
    clear h hb c0 c1 c2
    go_enter Try.func23, Try.ntmps23
    go_wp2_with fail
    go_end0
    exact ⟨rfl, HS.out.congr fun j hj => by unfold one1; rw [if_neg (by omega)]; rfl, fun q _ _ => rfl⟩

set_option maxHeartbeats 4000000 in
set_option maxRecDepth 20000 in
theorem pord_err (s : ByteArray) (ec ea : Int) (hr : sourceF (fewB s).data.toList = .error (ec, ea)) (hec : ec ≠ 0) (w : World) : Calls Try.prog 7 #[.string s] w fun e w' => e = .returned (.bool true) ∧ Ext w w' := by
  have S := Lib.hid (source_any (fewB s) _ hr)
  have q : (ec != 0) = true := by simpa using hec
  clear hr hec
  go_enter Try.func7, Try.ntmps7
  go_wp2_with (first
    | ((go_at_call 19; (with_reducible refine (few_any s _).mono ?_); rintro e _ ⟨rfl, d0, os0, rfl⟩))
    | ((go_at_call 20; (with_reducible refine (S.out _).mono ?_); rintro e _ ⟨rfl, d1, os1, rfl⟩))
    | ((go_at_call 22; (with_reducible refine (none_yes _).mono ?_); rintro e _ ⟨rfl, d2, os2, rfl⟩))
    | ((go_at_call 15; (with_reducible refine (awake_any _).mono ?_); rintro e _ ⟨rfl, d4, os4, rfl⟩)))
  go_ret
  exact ⟨rfl, by repeat (first | exact Ext.refl _ | apply Ext.alloc | apply Ext.more)⟩

theorem order_cnt (ns : List Nd) (j k : Nat) (z : Nd) (hz : ns[j]? = some z) : cnt (ns.take (j + 1)) k = cnt (ns.take j) k + refs z k := by
  rw [List.take_add_one, hz, cnt_append]
  show _ + cnt [z] k = _
  rw [cnt_one]
theorem cnt_le (ns : List Nd) (k : Int) : cnt ns k ≤ 4 * ns.length := by
  induction ns with
  | nil => simp [cnt]
  | cons z l ih =>
    have e2 : cnt (z :: l) k = refs z k + cnt l k := by simp [cnt]
    have h1 : ∀ a, one1 a k ≤ 1 := fun a => by unfold one1; split <;> omega
    have := h1 z.a; have := h1 z.b; have := h1 z.c; have := h1 z.x
    rw [e2]; unfold refs
    simp only [List.length_cons]; omega
theorem one1_le (a k : Int) : one1 a k ≤ 1 := by unfold one1; split <;> omega

/-- a node in a block of its own -/
def NdB (k : Nat) (zk za zb zc zx zi : Int) (zs zt : ByteArray) (w : World) : Prop := w.heap[k]? = some (.cells #[.int .i64 zk, .int .i64 za, .int .i64 zb, .int .i64 zc, .int .i64 zx, .int .i64 zi, .string zs, .string zt] 52 (0, 0))
theorem NdB.lt {k : Nat} {zk za zb zc zx zi : Int} {zs zt : ByteArray} {w : World} (h : NdB k zk za zb zc zx zi zs zt w) : k < w.heap.size := (Array.getElem?_eq_some_iff.1 h).1
theorem NdB.kept {k H : Nat} {zk za zb zc zx zi : Int} {zs zt : ByteArray} {w w' : World} (h : NdB k zk za zb zc zx zi zs zt w) (hf : ∀ q, q < w.heap.size → q ≠ H → w'.heap[q]? = w.heap[q]?) (hn : k ≠ H) : NdB k zk za zb zc zx zi zs zt w' := (hf k h.lt hn).trans h
theorem NdB.facts {k : Nat} {zk za zb zc zx zi : Int} {zs zt : ByteArray} {w : World} (h : NdB k zk za zb zc zx zi zs zt w) : w.cell? ⟨k, 1, none⟩ = some (.int .i64 za) ∧ w.cell? ⟨k, 2, none⟩ = some (.int .i64 zb) ∧ w.cell? ⟨k, 3, none⟩ = some (.int .i64 zc) ∧ w.cell? ⟨k, 4, none⟩ = some (.int .i64 zx) ∧ k < w.heap.size := by
  have hl := h.lt
  unfold NdB at h
  refine ⟨?_, ?_, ?_, ?_, hl⟩ <;> simp [World.cell?, h]
set_option maxHeartbeats 8000000 in
set_option maxRecDepth 20000 in
theorem pord_ok (s : ByteArray) (ns : List Nd) (fi : Int) (hr : sourceF (fewB s).data.toList = .ok (ns, fi)) (ho : Ord 0 ns) (hc1 : ∀ k : Nat, k < ns.length → one1 fi k + cnt ns k = 1) (hf1 : -1 ≤ fi) (hf2 : fi < ns.length) (hf3 : 0 ≤ fi ↔ 0 < ns.length) (h512 : ns.length ≤ 512) (w : World) :
    Calls Try.prog 7 #[.string s] w fun e w' => e = .returned (.bool true) ∧ Ext w w' := by
  have S := Lib.hid (source_any (fewB s) _ hr)
  have HO := Lib.hid ho
  have HC := Lib.hid hc1
  obtain ⟨n, hn⟩ : ∃ n, ns.length = n := ⟨_, rfl⟩
  have HN := Lib.hid hn
  rw [hn] at hf2 hf3 h512
  have hq : (0 ≤ fi) ↔ (0 < (n : Int)) := by omega
  have hni : (n : Int) ≤ 512 := by omega
  have mk := fun W => run_make_row' (P := Try.prog) 26 3 (.int .i64 0) 8 Try.underlying26 intInfo rfl .i64 .i64 n (by omega) (by omega) W
  clear hr ho hc1 hn hf3
  go_enter Try.func7, Try.ntmps7
  go_wp2_with (first
    | ((go_at_call 19; (with_reducible refine (few_any s _).mono ?_); rintro e _ ⟨rfl, d0, os0, rfl⟩))
    | ((go_at_call 20; (with_reducible refine (S.out _).mono ?_); rintro e w1 ⟨nv, he, hrow, d1, os1, hw⟩; obtain ⟨p1, c1, rfl⟩ := row_formO hrow; subst he; have HR1 := Lib.hid (hrow.mono (Nat.zero_le _)); clear hrow; rw [HN.out]; subst hw)))
  obtain ⟨W1, hW1⟩ : ∃ W1, more w d1 (os0 ++ os1) = W1 := ⟨_, rfl⟩
  have hsz : w.heap.size + (os0.size + os1.size) = W1.heap.size := by rw [← hW1, more_size, Array.size_append]
  have hx1 : Ext w W1 := by rw [← hW1]; exact (Ext.refl _).more _ _
  have HR2 : RowKit.Hid (W1.ownsRow 0 52 8 (.slice p1 n c1) n (ndCells ns)) := Lib.hid (by have := HR1.out; rw [HN.out, more_more, hW1] at this; exact this)
  rw [hW1, hsz]
  clear hW1
  have OS0 := Lib.hid (show OrdSt w W1.heap.size (W1.heap.size + 1 + 1) (W1.heap.size + 1) (.slice p1 n c1) ns fi n (fun _ => 0) _ from
    ⟨((hx1.alloc (.cells #[.slice p1 n c1, .int .i64 fi] 24 (0, 0))).alloc (.cells (madeCells #[.int .i64 0] n) 3 (0, 0))).alloc (.cells #[.slice (some ⟨W1.heap.size + 1, 0, none⟩) n n] 26 (0, 0)), ((((Ext.refl (W1.alloc (.cells #[.slice p1 n c1, .int .i64 fi] 24 (0, 0)))).alloc _).alloc _).below.block _ (by simp)).trans (heap_alloc_new _ _), by have := heap_alloc_new ((W1.alloc (.cells #[.slice p1 n c1, .int .i64 fi] 24 (0, 0))).alloc (.cells (madeCells #[.int .i64 0] n) 3 (0, 0))) (.cells #[.slice (some ⟨W1.heap.size + 1, 0, none⟩) n n] 26 (0, 0)); rwa [World.size_alloc, World.size_alloc] at this,
      ((World.rowIs_made (W1.alloc (.cells #[.slice p1 n c1, .int .i64 fi] 24 (0, 0))) (.int .i64 0) n 3).alloc _ |> fun h => by rw [World.size_alloc] at h; exact h.congr fun j _ => rfl), (((HR2.out).alloc _).alloc _).alloc _,
      ⟨by have := hx1.size; omega, by omega, by omega, fun e => by have := (HR2.out.lt _ e).2; omega⟩⟩)
  refine (count_any OS0.out fi h512 (fun j _ => by omega)).mono ?_
  rintro e w2 ⟨rfl, hos, _⟩
  have OS1 := Lib.hid hos
  clear hos OS0 hsz
  obtain ⟨k3, hk3⟩ : ∃ k3, W1.heap.size = k3 := ⟨_, rfl⟩
  rw [hk3] at OS1 ⊢
  obtain ⟨k6, hk6⟩ : ∃ k6, k3 + 1 + 1 = k6 := ⟨_, rfl⟩
  rw [hk6] at OS1 ⊢
  obtain ⟨H, hH⟩ : ∃ H, k3 + 1 = H := ⟨_, rfl⟩
  rw [hH] at OS1
  obtain ⟨c0, cfi, c2, l3, l6, lH⟩ := OS1.out.facts
  clear c2 hk3 hk6 hH HR2
  go_wp2_with fail
  go_loopw [8] (fun y wr => ∃ j : Nat, y = .int .i64 (j : Int) ∧ j ≤ n ∧ OrdSt w k3 k6 H (.slice p1 n c1) ns fi n (fun k => one1 fi k + cnt (ns.take j) k) wr) (fun y _ => n - (intOf y).toNat)
  case atStart => exact ⟨0, rfl, Nat.zero_le _, OS1.out.congr fun j hj => by simp [cnt]⟩
  case round =>
    obtain ⟨j, rfl, hj, hos⟩ := hrel
    clear c0 cfi l3 l6 lH
    have OS := Lib.hid hos
    obtain ⟨c0, cfi, c2, l3, l6, lH⟩ := hos.facts
    clear hos
    by_cases hlt : j < n
    · obtain ⟨z, hz⟩ : ∃ z, ns[j]? = some z := ⟨_, List.getElem?_eq_getElem (by rw [HN.out]; exact hlt)⟩
      have hp : ∃ g, p1 = some ⟨g, 0, none⟩ := by
        rcases Go.Joins.ownsRow_forms OS.out.row with ⟨_, h0⟩ | ⟨g1, c1, h0⟩
        · omega
        · simp at h0; exact ⟨g1, h0.1⟩
      obtain ⟨g, rfl⟩ := hp
      have hg := (OS.out.row.lt g rfl).2
      obtain ⟨a0, a1, a2, a3, a4, a5, a6, a7⟩ := nd_at OS.out.row hz
      have hji : (j : Int) < (n : Int) := by omega
      have hj0 : 0 ≤ (j : Int) := by omega
      have HLT := Lib.hid hlt
      have HCT := Lib.hid (fun k => order_cnt ns j k z hz)
      obtain ⟨oa, ob, oc, ox⟩ := HO.out j z hz
      rw [HN.out] at ox
      obtain ⟨zk, za, zb, zc, zx, zi, zs, zt⟩ := z
      dsimp only at a0 a1 a2 a3 a4 a5 a6 a7 oa ob oc ox
      have oa1 := oa.1
      have oa2 : za < (j : Int) := by omega
      have ob1 := ob.1
      have ob2 : zb < (j : Int) := by omega
      have oc1 := oc.1
      have oc2 : zc < (j : Int) := by omega
      clear hz hlt c2 cfi
      have ALL : True := trivial
      rcases ox with rfl | ⟨ox1, ox2⟩
      · go_wp2_with ((go_at_call 24; (with_reducible refine (ahead_yes _ _ (by assumption) (by assumption) _).mono ?_); rintro e _ ⟨rfl, rfl⟩))
        have K9 := Lib.hid (show NdB wr.heap.size zk za zb zc (-1) zi zs zt (wr.alloc (.cells #[.int .i64 zk, .int .i64 za, .int .i64 zb, .int .i64 zc, .int .i64 (-1), .int .i64 zi, .string zs, .string zt] 52 (0, 0))) from heap_alloc_new _ _)
        have NH : RowKit.Hid (wr.heap.size ≠ H) := Lib.hid (by omega)
        obtain ⟨k9, hk9⟩ : ∃ k9, wr.heap.size = k9 := ⟨_, rfl⟩
        have OS2 := Lib.hid (OS.out.of_ext ((Ext.refl _).alloc (.cells #[.int .i64 zk, .int .i64 za, .int .i64 zb, .int .i64 zc, .int .i64 (-1), .int .i64 zi, .string zs, .string zt] 52 (0, 0))))
        rw [hk9] at K9 NH ⊢
        have L9 := K9.out.lt
        clear hk9
        clear a0 a1 a2 a3 a4 a5 a6 a7 c0 l3 l6 lH hg
        refine (count_any OS2.out za h512 (fun q _ => by have := cnt_le (ns.take j) q; rw [List.length_take] at this; have := one1_le fi q; have := one1_le za q; have := one1_le zb q; have := one1_le zc q; have := HN.out; omega)).mono ?_
        rintro e w4 ⟨rfl, hos, hfr⟩
        have OS3 := Lib.hid hos
        have K10 := Lib.hid (K9.out.kept hfr NH.out)
        have L9 := K10.out.lt
        obtain ⟨n1, n2, n3, n4, nl⟩ := K10.out.facts
        clear hos hfr
        go_wp2_with fail
        refine (count_any OS3.out zb h512 (fun q _ => by have := cnt_le (ns.take j) q; rw [List.length_take] at this; have := one1_le fi q; have := one1_le za q; have := one1_le zb q; have := one1_le zc q; have := HN.out; omega)).mono ?_
        rintro e w5 ⟨rfl, hos, hfr⟩
        have OS4 := Lib.hid hos
        have K11 := Lib.hid (K10.out.kept hfr NH.out)
        have L9 := K11.out.lt
        obtain ⟨n1, n2, n3, n4, nl⟩ := K11.out.facts
        clear hos hfr
        go_wp2_with fail
        refine (count_any OS4.out zc h512 (fun q _ => by have := cnt_le (ns.take j) q; rw [List.length_take] at this; have := one1_le fi q; have := one1_le za q; have := one1_le zb q; have := one1_le zc q; have := HN.out; omega)).mono ?_
        rintro e w6 ⟨rfl, hos, hfr⟩
        have OS5 := Lib.hid hos
        have K12 := Lib.hid (K11.out.kept hfr NH.out)
        have L9 := K12.out.lt
        obtain ⟨n1, n2, n3, n4, nl⟩ := K12.out.facts
        clear hos hfr
        go_wp2_with fail
        refine (count_any OS5.out (-1) h512 (fun q _ => by have := cnt_le (ns.take j) q; rw [List.length_take] at this; have := one1_le fi q; have := one1_le za q; have := one1_le zb q; have := one1_le zc q; have := HN.out; omega)).mono ?_
        rintro e w7 ⟨rfl, hos, hfr⟩
        have OS6 := Lib.hid hos
        have K13 := Lib.hid (K12.out.kept hfr NH.out)
        have L9 := K13.out.lt
        obtain ⟨n1, n2, n3, n4, nl⟩ := K13.out.facts
        clear hos hfr
        go_wp2_with fail
        go_roundw
        case rel =>
          refine ⟨j + 1, by go_num, by have := HLT.out; omega, OS6.out.congr fun q _ => ?_⟩
          have := HCT.out q
          unfold refs at this
          dsimp only at this
          rw [this]
          omega
        case measure => have := HLT.out; simp [intOf]; omega
      · have ox3 : (zx != -1) = true := by simp; omega
        have ox4 : (j : Int) < zx := by omega
        go_wp2_with ((go_at_call 24; (with_reducible refine (ahead_yes _ _ (by assumption) (by assumption) _).mono ?_); rintro e _ ⟨rfl, rfl⟩))
        have K9 := Lib.hid (show NdB wr.heap.size zk za zb zc zx zi zs zt (wr.alloc (.cells #[.int .i64 zk, .int .i64 za, .int .i64 zb, .int .i64 zc, .int .i64 zx, .int .i64 zi, .string zs, .string zt] 52 (0, 0))) from heap_alloc_new _ _)
        have NH : RowKit.Hid (wr.heap.size ≠ H) := Lib.hid (by omega)
        obtain ⟨k9, hk9⟩ : ∃ k9, wr.heap.size = k9 := ⟨_, rfl⟩
        have OS2 := Lib.hid (OS.out.of_ext ((Ext.refl _).alloc (.cells #[.int .i64 zk, .int .i64 za, .int .i64 zb, .int .i64 zc, .int .i64 zx, .int .i64 zi, .string zs, .string zt] 52 (0, 0))))
        rw [hk9] at K9 NH ⊢
        have L9 := K9.out.lt
        clear hk9
        clear a0 a1 a2 a3 a4 a5 a6 a7 c0 l3 l6 lH hg
        refine (count_any OS2.out za h512 (fun q _ => by have := cnt_le (ns.take j) q; rw [List.length_take] at this; have := one1_le fi q; have := one1_le za q; have := one1_le zb q; have := one1_le zc q; have := HN.out; omega)).mono ?_
        rintro e w4 ⟨rfl, hos, hfr⟩
        have OS3 := Lib.hid hos
        have K10 := Lib.hid (K9.out.kept hfr NH.out)
        have L9 := K10.out.lt
        obtain ⟨n1, n2, n3, n4, nl⟩ := K10.out.facts
        clear hos hfr
        go_wp2_with fail
        refine (count_any OS3.out zb h512 (fun q _ => by have := cnt_le (ns.take j) q; rw [List.length_take] at this; have := one1_le fi q; have := one1_le za q; have := one1_le zb q; have := one1_le zc q; have := HN.out; omega)).mono ?_
        rintro e w5 ⟨rfl, hos, hfr⟩
        have OS4 := Lib.hid hos
        have K11 := Lib.hid (K10.out.kept hfr NH.out)
        have L9 := K11.out.lt
        obtain ⟨n1, n2, n3, n4, nl⟩ := K11.out.facts
        clear hos hfr
        go_wp2_with fail
        refine (count_any OS4.out zc h512 (fun q _ => by have := cnt_le (ns.take j) q; rw [List.length_take] at this; have := one1_le fi q; have := one1_le za q; have := one1_le zb q; have := one1_le zc q; have := HN.out; omega)).mono ?_
        rintro e w6 ⟨rfl, hos, hfr⟩
        have OS5 := Lib.hid hos
        have K12 := Lib.hid (K11.out.kept hfr NH.out)
        have L9 := K12.out.lt
        obtain ⟨n1, n2, n3, n4, nl⟩ := K12.out.facts
        clear hos hfr
        go_wp2_with fail
        refine (count_any OS5.out zx h512 (fun q _ => by have := cnt_le (ns.take j) q; rw [List.length_take] at this; have := one1_le fi q; have := one1_le za q; have := one1_le zb q; have := one1_le zc q; have := HN.out; omega)).mono ?_
        rintro e w7 ⟨rfl, hos, hfr⟩
        have OS6 := Lib.hid hos
        have K13 := Lib.hid (K12.out.kept hfr NH.out)
        have L9 := K13.out.lt
        obtain ⟨n1, n2, n3, n4, nl⟩ := K13.out.facts
        clear hos hfr
        go_wp2_with fail
        go_roundw
        case rel =>
          refine ⟨j + 1, by go_num, by have := HLT.out; omega, OS6.out.congr fun q _ => ?_⟩
          have := HCT.out q
          unfold refs at this
          dsimp only at this
          rw [this]
          omega
        case measure => have := HLT.out; simp [intOf]; omega
    · have hje : j = n := by omega
      subst hje
      have hall : ns.take j = ns := List.take_of_length_le (by rw [HN.out]; omega)
      rw [hall] at OS
      clear hlt hall
      go_wp2_with fail
      go_loopw [10] (fun y wr2 => ∃ i : Nat, y = .int .i64 (i : Int) ∧ i ≤ j ∧ wr2 = wr) (fun y _ => j - (intOf y).toNat)
      case atStart => exact ⟨0, rfl, Nat.zero_le _, rfl⟩
      case round =>
        obtain ⟨i, rfl, hi, rfl⟩ := hrel
        by_cases hlt : i < j
        · have hc := OS.out.had.cell hlt
          have hc1 := HC.out i (by rw [HN.out]; exact hlt)
          rw [hc1] at hc
          have hii : (i : Int) < (j : Int) := by omega
          have hi0 : 0 ≤ (i : Int) := by omega
          have hc2 : wr.cell? ⟨H, i, none⟩ = some (.int .i64 1) := hc
          have HLT := Lib.hid hlt
          clear hc hc1 hlt
          go_wp2_with fail
          go_roundw
          case rel => exact ⟨i + 1, by go_num, by have := HLT.out; omega, by first | rfl | trivial⟩
          case measure => have := HLT.out; simp [intOf]; omega
        · have hie : i = j := by omega
          subst hie
          clear hlt
          by_cases hf : 0 ≤ fi
          · have hj1 : 0 < (i : Int) := hq.1 hf
            go_wp2_with ((go_at_call 15; (with_reducible refine (awake_any _).mono ?_); rintro e _ ⟨rfl, d4, os4, rfl⟩))
            go_ret
            exact ⟨rfl, OS.out.ext.trans (by repeat (first | exact Ext.refl _ | apply Ext.alloc | apply Ext.more))⟩
          · have hj1 : (i : Int) ≤ 0 := by
              have := mt hq.2 hf
              omega
            have hf4 : fi < 0 := by omega
            go_wp2_with ((go_at_call 15; (with_reducible refine (awake_any _).mono ?_); rintro e _ ⟨rfl, d4, os4, rfl⟩))
            go_ret
            exact ⟨rfl, OS.out.ext.trans (by repeat (first | exact Ext.refl _ | apply Ext.alloc | apply Ext.more))⟩

theorem err_ne (s : List UInt8) (c a : Int) (h : sourceF s = .error (c, a)) : c ≠ 0 := by
  unfold sourceF at h
  split at h
  · exact parse_nz _ c a h
  · next he =>
    simp only [Except.error.injEq, Prod.mk.injEq] at h
    rw [← h.1]; exact he
theorem pord_walk (w : World) (s : ByteArray) : Calls Try.prog 7 #[.string s] w fun e w' => e = .returned (.bool true) ∧ Ext w w' := by
  rcases hr : sourceF (fewB s).data.toList with ⟨ec, ea⟩ | ⟨ns, fi⟩
  · exact pord_err s ec ea hr (err_ne _ _ _ hr) w
  · have h2 := hr
    unfold sourceF at h2
    split at h2
    · obtain ⟨o1, o2, o3, o4, o5, o6⟩ := order_law _ ns fi h2
      exact pord_ok s ns fi hr o1 o2 o3 o4 o5 o6 w
    · cases h2

namespace ParseOrderRow

/-! ### The row -/
section
open Go.ChangeShapes Go.WideShapes Go.ChangeAt Go.RowKit Go.Joins
open Go.ChangeMaps (open_string shut_string)
theorem own : ownKnob Try.prog.godebug = none := by kernel_rfl
theorem laid : laidOutB Try.prog = true := by kernel_rfl

set_option maxRecDepth 100000 in
theorem lifted (os : Os) (started : os.Started) (H : Type) (enc : TypeId × Value → H) :
    ReturnsInHanded {} Try.checked os 7 .any (Rows.parseOrderSpec.pre6 enc Try.prog Try.f7 Rows.parseOrderRow.domain false) (Rows.parseOrderSpec.post enc Try.prog Try.f7 false true false false) := by
  refine returnsInHanded_of_change_sized (C := Try.checked) own started (by kernel_rfl) Try.func7
    (ChangeSpec.witness6 (enc := enc) (C := Try.checked) false ⟨#[], #[.string ⟨#[]⟩], []⟩ 8 (by kernel_rfl) (by kernel_rfl) (by kernel_rfl) (by kernel_rfl)) ?_
  intro W base args ds gs before hval0 hW hcnd hsz0 _
  have hval : ∀ (j : Nat) t v, Try.f7.params[j]? = some t → args[j]? = some v → Value.okWide Try.prog W .any base t v := hval0
  have hW' := hW
  obtain ⟨p, q, hA0, hV, rfl, hfz, hnd⟩ := hW
  have hA : DataW.TrodAll enc Try.prog W 0 (fun _ => true) true Try.f7.params.toList args.toList ds p := hA0
  have hAk := hA
  have hpr : Try.f7.params.toList.all (fun t => Try.prog.readableRec t && decide (t < Try.prog.types.size)) = true := by kernel_rfl
  have hlt := hA.lt
  obtain ⟨rfl, rfl⟩ := trodVars_none hV
  have hsz : (DataW.weightsEach Try.prog (Try.f7.params.toList ++ []) (ds ++ [])).all (· ≤ reachBytes) = true := hsz0
  rw [Try.params7] at hA hval hsz
  simp only [List.append_nil] at hsz
  obtain ⟨v0, vs0, d0, ds0, p0, q0, hargs, rfl, rfl, h0, r0⟩ := trodAll_cons hA
  obtain ⟨rfl, rfl, rfl⟩ := trodAll_nil r0
  obtain rfl : args = #[v0] := by cases args; simp_all
  obtain ⟨s, rfl, rfl, rfl, ws⟩ := open_string Try.underlying9 (hval 0 9 v0 rfl rfl) h0
  have ss : s.size ≤ 140737488351232 := by
    have h := sized_string hsz (j := 0) rfl rfl
    have e : reachBytes = 140737488351232 := by decide
    rw [e] at h
    simpa using h
  clear hA0 hval0 hsz0
  refine (pord_walk W s).mono fun e W' ⟨he, hx⟩ => ?_
  subst he
  exact ⟨_, rfl, _, _, _, [], _, [], hW', trodAll_mk1 (shut_bool Try.underlying4 _), trodAll_below laid hx.below hpr hAk hlt, rfl, hx.below.frame _, fun h => by cases h⟩

theorem proved : Rows.ParseOrderSaid :=
  OpenClaim.holds_of_wide 7 Try.f7 rfl rfl rfl rfl rfl rfl rfl ⟨rfl, rfl, rfl, rfl, rfl⟩ rfl rfl rfl rfl rfl (by kernel_rfl) Try.func7 (by kernel_rfl)
    (of_decide_eq_true (by kernel_rfl)) (by unfold Func.isWrapper; first | (rw [if_pos (by decide +kernel)]; kernel_rfl) | (rw [if_neg (by decide +kernel)]; exact ⟨rfl, rfl⟩))
    (fun os started H enc _ => lifted os started H enc)
end
#print axioms proved
end ParseOrderRow
end Go.Proofs.Ytoaaklcbcbjaiaa
