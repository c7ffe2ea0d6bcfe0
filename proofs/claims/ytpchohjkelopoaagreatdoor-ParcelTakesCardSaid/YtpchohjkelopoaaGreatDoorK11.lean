/- Lemmas for the claim (texts Tm1, what its proof uses of them). -/
import Derived.Test.YtpchohjkelopoaaGreatDoorK01
import Derived.Test.YtpchohjkelopoaaGreatDoorK02
import Derived.Test.YtpchohjkelopoaaGreatDoorChecked
import Derived.Maps.Own
import Derived.Maps.OwnSet
import Derived.Maps.Views
import Derived.LoopTactic
import Derived.Outline
import Derived.IntWalk
import Derived.StringKeys
set_option linter.unusedSimpArgs false
set_option linter.unusedVariables false
namespace Go.Proofs.YtpchohjkelopoaaGreatDoor
open Go.RowKit
open Go.Maps (Keyed string_keyed IsMap)
/-- a text's number in a list of texts; 0: it has none -/
def idxF : List ByteArray → ByteArray → Nat
  | [], _ => 0
  | x :: l, s => if x = s then 1 else if idxF l s = 0 then 0 else idxF l s + 1
theorem idxF_le : ∀ (l : List ByteArray) (s : ByteArray), idxF l s ≤ l.length
  | [], s => by simp [idxF]
  | x :: l, s => by
    have := idxF_le l s
    simp only [idxF, List.length_cons]
    (repeat' split) <;> omega
theorem idxF_get : ∀ (l : List ByteArray) (s : ByteArray) (n : Nat), idxF l s = n + 1 → l[n]? = some s
  | [], s, n, h => by simp [idxF] at h
  | x :: l, s, n, h => by
    simp only [idxF] at h
    split at h
    · next e => subst e; have : n = 0 := by omega
                subst this; rfl
    · split at h
      · omega
      · next hz =>
        obtain ⟨m, rfl⟩ : ∃ m, n = m + 1 := ⟨n - 1, by omega⟩
        simpa using idxF_get l s m (by omega)
theorem idxF_snoc : ∀ (l : List ByteArray) (t s : ByteArray), idxF (l ++ [t]) s = if idxF l s = 0 then (if t = s then l.length + 1 else 0) else idxF l s
  | [], t, s => by simp [idxF]
  | x :: l, t, s => by
    have ih := idxF_snoc l t s
    simp only [List.cons_append, idxF, ih, List.length_cons]
    (repeat' split) <;> first | rfl | omega | simp_all
theorem idxF_inj (l : List ByteArray) (s t : ByteArray) (h : idxF l s = idxF l t) (h0 : idxF l s ≠ 0) : s = t := by
  obtain ⟨n, hn⟩ : ∃ n, idxF l s = n + 1 := ⟨idxF l s - 1, by omega⟩
  have h1 := idxF_get l s n hn
  have h2 := idxF_get l t n (by omega)
  rw [h1] at h2
  simpa using h2
/-- what Of makes of a list, and what it hands back -/
def ofF (l : List ByteArray) (s : ByteArray) : List ByteArray × Nat × Int :=
  if idxF l s ≠ 0 then (l, idxF l s, 0) else if 65536 ≤ l.length then (l, 0, 5) else (l ++ [s], l.length + 1, 0)
theorem ba_lit {s t : ByteArray} (h : s ≠ t) : Lit.string s.data.toList ≠ Lit.string t.data.toList := fun e => h (by
  simp only [Lit.string.injEq] at e
  apply ByteArray.ext
  exact Array.toList_inj.1 e)
theorem keyLit (s : ByteArray) (h : s.size ≤ maxLen) : WideAt.IsKeyLit (.string s.data.toList) := by
  unfold WideAt.IsKeyLit; trivial
/-- the map's datum says the list -/
def MapIs (D : DataW Unit) (l : List ByteArray) : Prop :=
  IsMap D ∧ ∀ s : ByteArray, s.size ≤ maxLen → Maps.has D (.string s.data.toList) = decide (idxF l s ≠ 0) ∧ D.atKey (.string s.data.toList) (.lit (.int .i64 0)) = .lit (.int .i64 (idxF l s : Int))
theorem MapIs.nil : MapIs (.map []) [] := ⟨⟨_, rfl⟩, fun s _ => ⟨rfl, rfl⟩⟩
theorem MapIs.put {D : DataW Unit} {l : List ByteArray} {s : ByteArray} (h : MapIs D l) (hs : s.size ≤ maxLen) (h0 : idxF l s = 0) : MapIs (D.put (.string s.data.toList) (.lit (.int .i64 ((l.length + 1 : Nat) : Int)))) (l ++ [s]) := by
  refine ⟨(by obtain ⟨⟨es, rfl⟩, _⟩ := h; exact ⟨_, rfl⟩), fun t ht => ?_⟩
  rw [idxF_snoc]
  by_cases e : s = t
  · subst e
    rw [Maps.has_put_same h.1 (keyLit s hs), Maps.atKey_put_same h.1 (keyLit s hs), if_pos h0, if_pos rfl]
    simp
  · have hne := ba_lit (Ne.symm e)
    rw [Maps.has_put_other hne, Maps.atKey_put_other hne]
    obtain ⟨h1, h2⟩ := h.2 t ht
    rw [h1, h2]
    by_cases e0 : idxF l t = 0
    · simp [e0, e]
    · simp [e0]
/-- a table's blocks: the struct's, the map's, the row of texts; all behind B -/
def TabAt (B bt bm : Nat) (tv : Value) (l : List ByteArray) (w : World) : Prop :=
  B ≤ bt ∧ B ≤ bm ∧ bt ≠ bm ∧ w.heap[bt]? = some (.cells #[.map (some bm), tv] 132 (0, 0)) ∧ (∃ D : DataW Unit, w.ownsMap Tryz.prog 9 (plainElem Tryz.prog 3) bm l.length D ∧ MapIs D l) ∧
  w.ownsRow B 9 1 tv l.length (l.map Value.string) ∧ tv.ownBlock ≠ some bt ∧ tv.ownBlock ≠ some bm ∧ (∀ s ∈ l, s.size ≤ maxLen) ∧ l.length ≤ 65536
/-- only the table's blocks have changed -/
def TabKept (bt bm : Nat) (row : Option Nat) (w w' : World) : Prop := w'.os = w.os ∧ w'.tape = w.tape ∧ w'.output = w.output ∧ w.heap.size ≤ w'.heap.size ∧ ∀ k, k < w.heap.size → k ≠ bt → k ≠ bm → row ≠ some k → w'.heap[k]? = w.heap[k]?
theorem TabKept.ext {bt bm : Nat} {row : Option Nat} {w w' : World} (h : Ext w w') : TabKept bt bm row w w' := by
  have hb := h.below
  exact ⟨hb.os, hb.tape, hb.output, hb.size, fun k hk _ _ _ => hb.block k hk⟩
theorem TabKept.below {bt bm B : Nat} {row : Option Nat} {w w' : World} (h : TabKept bt bm row w w') (h1 : B ≤ bt) (h2 : B ≤ bm) (h3 : ∀ k, row = some k → B ≤ k) (hB : B ≤ w.heap.size) : Below B w w' := by
  obtain ⟨k1, k2, k3, k4, k5⟩ := h
  refine ⟨k1, k2, k3, k4, fun k hk => k5 k (by omega) (by omega) (by omega) fun e => ?_⟩
  have := h3 k e; omega
theorem TabAt.cells {B bt bm : Nat} {tv : Value} {l : List ByteArray} {w : World} (h : TabAt B bt bm tv l w) :
    w.cell? ⟨bt, 0, none⟩ = some (.map (some bm)) ∧ w.cell? ⟨bt, 1, none⟩ = some tv ∧ w.frozen? ⟨bt, 0, none⟩ = false ∧ w.frozen? ⟨bt, 1, none⟩ = false ∧ bt < w.heap.size ∧ bm < w.heap.size := by
  obtain ⟨_, _, _, h4, ⟨D, h5, _⟩, _⟩ := h
  refine ⟨by simp [World.cell?, h4], by simp [World.cell?, h4], by simp [World.frozen?, h4], by simp [World.frozen?, h4], (Array.getElem?_eq_some_iff.1 h4).1, h5.lt⟩
theorem TabAt.ext {B bt bm : Nat} {tv : Value} {l : List ByteArray} {w w' : World} (h : TabAt B bt bm tv l w) (hx : Ext w w') : TabAt B bt bm tv l w' := by
  have hl := h.cells
  obtain ⟨h1, h2, h3, h4, ⟨D, h5, h6⟩, h7, h8, h9, h10⟩ := h
  have hb := hx.below
  refine ⟨h1, h2, h3, by rw [hb.block bt hl.2.2.2.2.1]; exact h4, ⟨D, h5.kept (row := none) ⟨hb.os, hb.tape, hb.output, hb.size, fun k hk _ => hb.block k hk⟩ (by simp), h6⟩, own_ext h7 hx, h8, h9, h10⟩
theorem TabAt.form {B bt bm : Nat} {tv : Value} {l : List ByteArray} {w : World} (h : TabAt B bt bm tv l w) : ∃ p cap, tv = .slice p l.length cap ∧ (0 < l.length → ∃ g, p = some ⟨g, 0, none⟩) ∧ l.length ≤ cap := by
  obtain ⟨_, _, _, _, _, h7, _⟩ := h
  rcases h7.2 with ⟨rfl, h0⟩ | ⟨g, cap, cur, rfl, _, _, hc, _⟩
  · exact ⟨none, 0, by rw [h0], fun h => by omega, by omega⟩
  · exact ⟨_, cap, rfl, fun _ => ⟨g, rfl⟩, hc⟩
theorem lawS : Keyed Tryz.prog 9 := string_keyed Tryz.underlying9
theorem zeroI (w : World) : (zeroValue 3).run Tryz.prog w = .ok (.int .i64 0) w := by kernel_rfl
/-- 'n, is := t.numbers[s]' -/
theorem TabAt.look {B bt bm : Nat} {tv : Value} {l : List ByteArray} {w : World} (h : TabAt B bt bm tv l w) (s : ByteArray) (hs : s.size ≤ maxLen) :
    (Instr.lookup 130 (.map (some bm)) (.string s) true).run Tryz.prog w = .ok (.tuple #[.int .i64 (idxF l s : Int), .bool (decide (idxF l s ≠ 0))]) w := by
  obtain ⟨_, _, _, _, ⟨D, h5, h6⟩, _⟩ := h
  obtain ⟨v, ps, hr, hv⟩ := h5.look_ok lawS Tryz.underlying130 (zeroI w) (plainElem_int Tryz.underlying3 (by decide)) (WideMaps.keyOf_string_mk Tryz.underlying9 hs)
  obtain ⟨h7, h8⟩ := h6.2 s hs
  rw [h7] at hr
  rw [h8] at hv
  obtain ⟨a, rfl, ha, _⟩ := plainElem_int_inv Tryz.underlying3 hv
  simp only [Prod.mk.injEq, DataW.lit.injEq, Lit.int.injEq, true_and] at ha
  rw [hr, ← ha.1]
theorem new_any (w : World) : Calls Tryz.prog 24 #[] w fun e w' => e = .returned (.pointer (some ⟨w.heap.size + 1, 0, none⟩)) ∧ (TabAt w.heap.size (w.heap.size + 1) w.heap.size (.slice none 0 0) [] w' ∧ Ext w w') := by
  have hmm := @run_makeMap Tryz.prog
  go_enter Tryz.func24, Tryz.ntmps24
  go_wp2_with fail
  go_ret
  refine ⟨rfl, ⟨Nat.le_succ _, Nat.le_refl _, by omega, ?_, ⟨.map [], ?_, MapIs.nil⟩, World.ownsRow_nil _ _ _ _, by simp [Value.ownBlock], by simp [Value.ownBlock], by simp, by simp⟩, ((Ext.refl _).alloc _).alloc _⟩
  · have := heap_alloc_new (w.alloc (.map #[] 0)) (.cells #[.map (some w.heap.size), .slice none 0 0] 132)
    simpa using this
  · exact (World.ownsMap_made w _ _ _).alloc _
/-- what Of hands back -/
def OfPost (B bt bm : Nat) (tv : Value) (r : List ByteArray × Nat × Int) (w : World) (e : Ending) (w' : World) : Prop :=
  e = .returned (.tuple #[.int .i64 (r.2.1 : Int), .int .i64 r.2.2]) ∧ ∃ tv', TabAt B bt bm tv' r.1 w' ∧ TabKept bt bm tv.ownBlock w w' ∧ (tv'.ownBlock = tv.ownBlock ∨ ∃ k, tv'.ownBlock = some k ∧ w.heap.size ≤ k)
theorem strInfo : (Tryz.prog.info? 9).map (fun i => (i.zero, i.size, i.bytes)) = some (some (.string ⟨#[]⟩), 1, 16) := by kernel_rfl
theorem news_one' {w : World} {N : Nat} {x : Value} {t : TypeId} (hN : N = w.heap.size) : ∀ j u, [x][j]? = some u → (w.alloc (.cells #[x] t)).cell? ((⟨N, 0, none⟩ : Addr).add j) = some u := by
  intro j u hu
  subst hN
  match j, hu with
  | 0, hu =>
    simp at hu; subst hu
    rw [Addr.add_lit]
    simp only [World.cell?, heap_alloc_new]
    rfl
  | j + 1, hu => simp at hu
set_option maxHeartbeats 2000000 in
set_option maxRecDepth 20000 in
theorem of_old (B bt bm : Nat) (tv : Value) (l : List ByteArray) (s : ByteArray) (hs : s.size ≤ maxLen) (n : Nat) (hn : idxF l s = n) (h0 : n ≠ 0) (w : World) (h : TabAt B bt bm tv l w) :
    Calls Tryz.prog 50 #[.pointer (some ⟨bt, 0, none⟩), .string s] w fun e w' => e = .returned (.tuple #[.int .i64 (n : Int), .int .i64 0]) ∧ w = w' := by
  have hlk := h.look s hs
  obtain ⟨c0, c1, f0, f1, hb, hb2⟩ := h.cells
  have hbb : decide (n ≠ 0) = true := by simpa using h0
  rw [hn, hbb] at hlk
  clear hbb h0 hn
  go_enter Tryz.func50, Tryz.ntmps50
  go_wp2_with fail
  go_ret2
  exact ⟨rfl, rfl⟩
set_option maxHeartbeats 2000000 in
set_option maxRecDepth 20000 in
theorem of_full (B bt bm : Nat) (tv : Value) (l : List ByteArray) (s : ByteArray) (hs : s.size ≤ maxLen) (hn : idxF l s = 0) (hf : 65536 ≤ l.length) (w : World) (h : TabAt B bt bm tv l w) :
    Calls Tryz.prog 50 #[.pointer (some ⟨bt, 0, none⟩), .string s] w fun e w' => e = .returned (.tuple #[.int .i64 0, .int .i64 5]) ∧ w = w' := by
  have hlk := h.look s hs
  obtain ⟨c0, c1, f0, f1, hb, hb2⟩ := h.cells
  obtain ⟨p, cap, rfl, _, hcap⟩ := h.form
  have hff : (65536 : Int) ≤ (l.length : Int) := by omega
  rw [hn] at hlk
  simp only [ne_eq, not_true_eq_false, decide_false] at hlk
  clear hn hf
  go_enter Tryz.func50, Tryz.ntmps50
  go_wp2_with fail
  go_ret2
  exact ⟨rfl, rfl⟩
theorem blk_grown {w w' : World} {b : Nat} {o : Obj} {row : Option Nat} (h : w.heap[b]? = some o) (hg : w.grownBy w' row) (hne : row ≠ some b) : w'.heap[b]? = some o := by
  obtain ⟨h1, h2, h3, h4, h5⟩ := hg
  rw [h5 b (Array.getElem?_eq_some_iff.1 h).1 (fun e => hne e.symm)]; exact h
theorem tab_cells {w : World} {b : Nat} {x y : Value} (h : w.heap[b]? = some (.cells #[x, y] 132 (0, 0))) : w.cell? ⟨b, 0, none⟩ = some x ∧ w.cell? ⟨b, 1, none⟩ = some y ∧ w.frozen? ⟨b, 0, none⟩ = false ∧ w.frozen? ⟨b, 1, none⟩ = false ∧ b < w.heap.size :=
  ⟨by simp [World.cell?, h], by simp [World.cell?, h], by simp [World.frozen?, h], by simp [World.frozen?, h], (Array.getElem?_eq_some_iff.1 h).1⟩
theorem tab_set {w : World} {b : Nat} {x y z : Value} (h : w.heap[b]? = some (.cells #[x, y] 132 (0, 0))) : (w.setCell ⟨b, 1, none⟩ z).heap[b]? = some (.cells #[x, z] 132 (0, 0)) := by
  simp [World.setCell, Array.getElem?_modify, h]
theorem heap_more {w : World} {b : Nat} {o : Obj} (h : w.heap[b]? = some o) (d : Nat) (os : Array Obj) : (more w d os).heap[b]? = some o := by
  rw [more_heap _ _ _ _ (Array.getElem?_eq_some_iff.1 h).1]; exact h
theorem grown_none {w w' : World} (h : Ext w w') : w.grownBy w' none := by
  have hb := h.below
  exact ⟨hb.os, hb.tape, hb.output, hb.size, fun k hk _ => hb.block k hk⟩
theorem set_grown (w : World) (b i : Nat) (v : Value) : w.grownBy (w.setCell ⟨b, i, none⟩ v) (some b) :=
  ⟨rfl, rfl, rfl, by simp [World.setCell], fun k hk hne => Below.heap_setCell _ _ _ _ (fun e => hne (by simp [e]))⟩
theorem kept_of {w w1 w3 : World} {bt bm d : Nat} {os : Array Obj} {o : Obj} {row : Option Nat} {v : Value} (h1 : (w.alloc o).grownBy w1 row) (h3 : (more (w1.setCell ⟨bt, 1, none⟩ v) d os).grownBy w3 (some bm)) : TabKept bt bm row w w3 := by
  obtain ⟨a1, a2, a3, a4, a5⟩ := h1
  obtain ⟨b1, b2, b3, b4, b5⟩ := h3
  have e0 : (w.alloc o).heap.size = w.heap.size + 1 := by simp
  have e1 : (w1.setCell ⟨bt, 1, none⟩ v).heap.size = w1.heap.size := by simp [World.setCell]
  rw [more_size, e1] at b4
  refine ⟨b1.trans (by exact a1), b2.trans (by exact a2), b3.trans (by exact a3), by omega, fun k hk hkt hkm hr => ?_⟩
  rw [b5 k (by rw [more_size, e1]; omega) (by simpa using hkm), more_heap _ _ _ _ (by rw [e1]; omega), Below.heap_setCell _ _ _ _ (fun e => hkt e), a5 k (by omega) (fun e => hr e.symm), Lib.alloc_old w o k hk]
theorem keptMap {w w' : World} {k : TypeId} {R : Value → Option (DataW Unit × List MemPlace)} {b n : Nat} {D : DataW Unit} {P : Program} {row : Option Nat} (h : w.ownsMap P k R b n D) (hg : w.grownBy w' row) (hne : some b ≠ row) : w'.ownsMap P k R b n D := h.kept hg hne
set_option maxHeartbeats 4000000 in
set_option maxRecDepth 20000 in
theorem of_new (B bt bm : Nat) (tv : Value) (l : List ByteArray) (s : ByteArray) (hs : s.size ≤ maxLen) (hn : idxF l s = 0) (hf : l.length < 65536) (w : World) (h : TabAt B bt bm tv l w) :
    Calls Tryz.prog 50 #[.pointer (some ⟨bt, 0, none⟩), .string s] w (OfPost B bt bm tv (l ++ [s], l.length + 1, 0) w) := by
  have hlk := h.look s hs
  obtain ⟨c0, c1, f0, f1, hb, hb2⟩ := h.cells
  obtain ⟨p, cap, rfl, _, hcap⟩ := h.form
  have hff : (65536 ≤ (l.length : Int)) = False := by simp; omega
  have HN := Lib.hid hn
  have HF := Lib.hid hf
  clear hf
  rw [hn] at hlk
  simp only [ne_eq, not_true_eq_false, decide_false] at hlk
  obtain ⟨i0, hi, hz0, hz1, hz2⟩ := info_parts strInfo
  obtain ⟨t1, t2, t3, t4, ⟨D, t5, t6⟩, t7, t8, t9, t10, t11⟩ := h
  have T4 := Lib.hid t4
  have T5 := Lib.hid t5
  have T6 := Lib.hid t6
  have T7 := Lib.hid t7
  have T8 := Lib.hid t8
  have T9 := Lib.hid t9
  have T10 := Lib.hid t10
  have T3 := Lib.hid t3
  have hBw : B ≤ w.heap.size := by omega
  clear hn t3 t4 t5 t6 t7 t8 t9 t10 t11
  go_enter Tryz.func50, Tryz.ntmps50
  go_wp2_with (at_builtin; refine wpList_append_own_at _ rfl _ _ 22 rfl B 9 i0 (.string ⟨#[]⟩) 1 16 Tryz.underlying22 hi hz0 hz1 hz2 rfl (by decide) (.slice p l.length cap) l.length (l.map Value.string) rfl (T7.out.alloc _) ⟨w.heap.size, 0, none⟩ 1 1 [.string s] rfl rfl ?c1 ?c2 ?c3 ?c4 ?c5 ?_)
  case c1 => exact news_one' rfl
  case c2 => intro u hu; simp at hu; subst hu; rfl
  case c3 => have := HF.out; unfold maxLen; omega
  case c4 => have := HF.out; omega
  case c5 => simp; omega
  intro v' w1 hown' hgrow _ hblk
  have H0 : (w.alloc (.cells #[.string s] 9)).heap[bt]? = some (.cells #[.map (some bm), .slice p l.length cap] 132 (0, 0)) := by rw [Lib.alloc_old w _ bt hb]; exact T4.out
  have H1 := blk_grown H0 hgrow T8.out
  obtain ⟨g', cap', rfl, _, hgl⟩ := hown'.form (by omega)
  have H2 := tab_set (z := .slice (some ⟨g', 0, none⟩) (l.length + 1) cap') H1
  have M1 := keptMap (T5.out.alloc _) hgrow (fun e => T9.out e.symm)
  have hne : bm ≠ bt := fun e => T3.out e.symm
  have M2 := Lib.hid (World.ownsMap.setCell M1 (a := ⟨bt, 1, none⟩) hne (.slice (some ⟨g', 0, none⟩) (l.length + 1) cap'))
  obtain ⟨d0, d1, e0, e1, hbw1⟩ := tab_cells H1
  have HH2 := Lib.hid H2
  have HG := Lib.hid hgrow
  have HOWN := Lib.hid hown'
  have HBLK := Lib.hid hblk
  have hgne : g' ≠ bt := by
    intro e
    rcases hblk with hq | hq
    · exact T8.out (by rw [← hq, e]; rfl)
    · simp [Value.ownBlock] at hq; omega
  have hgnm : g' ≠ bm := by
    intro e
    rcases hblk with hq | hq
    · exact T9.out (by rw [← hq, e]; rfl)
    · simp [Value.ownBlock] at hq; omega
  have HGN := Lib.hid (And.intro hgne hgnm)
  clear c0 c1 f0 f1 hlk H0 H1 H2 M1 hgrow hown' hblk hgne hgnm hne
  go_wp2_with fail
  refine wp_region_grow 10 50 [false, false, false, false, false, false, false, false, false, false] (by kernel_rfl) (by kernel_rfl) rfl ?_
  simp only [List.take_succ_cons, List.take_zero, List.drop_succ_cons, List.drop_zero]
  repeat (refine Lex.step rfl ?_; intro K hK; unfold StepG; go_simp; (first
      | refine hK _ ?_); clear hK K)
  refine Lex.nil fun WW hE => ?_
  obtain ⟨dd, oo, rfl⟩ := hE
  unfold FillH
  go_wp2_with (at_mapUpdate; refine wpList_mapUpdate_own _ rfl _ _ _ 130 rfl 9 3 lawS Tryz.underlying130 (plainElem Tryz.prog 3) bm l.length D rfl (keptMap M2.out (grown_none ((Ext.refl _).more _ _)) (by simp)) ?m1 _ _ _ rfl rfl (WideMaps.keyOf_string_mk Tryz.underlying9 hs) _ [] (plainElem_int Tryz.underlying3 ?m2) ?_)
  case m1 => have := HF.out; unfold maxLen; omega
  case m2 => exact WalkArith.wf_i64 (by have := HF.out; omega)
  intro w3 hownm hgrow3
  have hnemt : some bm ≠ some bt := fun e => T3.out (by simpa using e.symm)
  have H3 := blk_grown (heap_more HH2.out _ _) hgrow3 hnemt
  have R1 := World.ownsRow.kept HOWN.out (set_grown w1 bt 1 (.slice (some ⟨g', 0, none⟩) (l.length + 1) cap')) (Or.inr (by simp [Value.ownBlock]; exact HGN.out.1))
  have R3 := World.ownsRow.kept (own_more R1 _ _) hgrow3 (Or.inr (by simp [Value.ownBlock]; exact HGN.out.2))
  have HK := Lib.hid (kept_of HG.out hgrow3)
  have HR3 := Lib.hid R3
  have HH3 := Lib.hid H3
  have HM := Lib.hid hownm
  obtain ⟨z0, z1, y0, y1, hbw3⟩ := tab_cells H3
  clear R1 R3 H3 hgrow3 hownm hnemt d0 d1 e0 e1
  go_wp2_with fail
  first | rw [ends_normal] | skip
  go_wp2_with fail
  go_ret2
  have hlen : (l ++ [s]).length = l.length + 1 := by simp
  refine ⟨rfl, .slice (some ⟨g', 0, none⟩) (l.length + 1) cap', ⟨t1, t2, T3.out, HH3.out, ⟨_, ?_, T6.out.put hs HN.out⟩, ?_, ?_, ?_, ?_, ?_⟩, HK.out, ?_⟩
  · have := HM.out
    rw [hlen]
    simpa using this
  · have := HR3.out
    rw [hlen]
    simpa using this
  · simp [Value.ownBlock]; exact HGN.out.1
  · simp [Value.ownBlock]; exact HGN.out.2
  · intro x hx
    rcases List.mem_append.1 hx with h | h
    · exact T10.out x h
    · simp at h; subst h; exact hs
  · rw [hlen]; exact HF.out
  · rcases HBLK.out with h | h
    · exact Or.inl h
    · exact Or.inr ⟨_, h, by simp⟩
theorem of_any (B bt bm : Nat) (tv : Value) (l : List ByteArray) (s : ByteArray) (hs : s.size ≤ maxLen) (w : World) (h : TabAt B bt bm tv l w) :
    Calls Tryz.prog 50 #[.pointer (some ⟨bt, 0, none⟩), .string s] w (OfPost B bt bm tv (ofF l s) w) := by
  unfold ofF
  by_cases h0 : idxF l s ≠ 0
  · rw [if_pos h0]
    exact (of_old B bt bm tv l s hs _ rfl h0 w h).mono fun e w' ⟨he, hw⟩ => ⟨he, tv, hw ▸ h, hw ▸ TabKept.ext (Ext.refl _), Or.inl rfl⟩
  · rw [if_neg h0]
    have h0' : idxF l s = 0 := by simpa using h0
    by_cases hf : 65536 ≤ l.length
    · rw [if_pos hf]
      exact (of_full B bt bm tv l s hs h0' hf w h).mono fun e w' ⟨he, hw⟩ => ⟨he, tv, hw ▸ h, hw ▸ TabKept.ext (Ext.refl _), Or.inl rfl⟩
    · rw [if_neg hf]
      exact of_new B bt bm tv l s hs h0' (by omega) w h
end Go.Proofs.YtpchohjkelopoaaGreatDoor
