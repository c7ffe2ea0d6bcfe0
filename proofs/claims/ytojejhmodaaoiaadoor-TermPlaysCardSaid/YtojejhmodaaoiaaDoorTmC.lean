/- Clone of a table of texts. -/
import Derived.Test.YtojejhmodaaoiaaDoorTmQ
import Derived.Shelf.SlMaps.Clone
set_option linter.unusedSimpArgs false
set_option linter.unusedVariables false
namespace Go.Proofs.YtojejhmodaaoiaaDoor
open Go.RowKit

set_option maxHeartbeats 2000000 in
theorem mclone_any (b : Nat) (es : Array MapEntry) (clock : Nat) (w : World) (hb : w.heap[b]? = some (.map es clock)) :
    Calls Tryd.prog 20 #[.map (some b)] w fun e w' => e = .returned (.map (some w.heap.size)) ∧ w' = w.alloc (.map es clock) := by
  have hq := fun w => run_eql_map_nil_sl (P := Tryd.prog) w 47 _ _ (some b) Tryd.underlying47
  go_enter Tryd.func20, Tryd.ntmps20
  go_wp2
  rw [run_callFunc_extern Tryd.func26 (by kernel_rfl) (by kernel_rfl) (by kernel_rfl) (e := Extern.MapsClone.clone) (by kernel_rfl), run_maps_clone_sl w 47 hb]
  simp only [Result.andThen]
  rw [Oper.upon_value]
  go_wp2
  rw [run_typeAssert_map_sl _ 47 _ _ _ _ Tryd.underlying47]
  simp only [Result.andThen]
  rw [Oper.upon_value]
  go_wp2
  go_ret
  exact ⟨rfl, rfl⟩
/-- a clone of a map: a hole of which this is known -/
def MapNew (w0 : World) (n : Nat) (D : DataW Unit) : Fact := fun v W => ∃ g, v = .map (some g) ∧ w0.heap.size ≤ g ∧ W.ownsMap Tryd.prog 9 (plainElem Tryd.prog 3) g n D
theorem MapNew.upc (w0 : World) (n : Nat) (D : DataW Unit) : Upc (MapNew w0 n D) := by
  rintro v W W' hx ⟨g, hv, hg, hm⟩
  exact ⟨g, hv, hg, keptMap hm (grown_none hx) (by simp)⟩
def RowNew (w0 : World) (n : Nat) (xs : List Value) : Fact := fun v W => (∃ p c, v = .slice p n c) ∧ W.ownsRow w0.heap.size 9 1 v n xs
theorem RowNew.upc (w0 : World) (n : Nat) (xs : List Value) : Upc (RowNew w0 n xs) := by
  rintro v W W' hx ⟨h1, h2⟩
  exact ⟨h1, own_ext h2 hx⟩
theorem own_slice {w : World} {B : Nat} {v : Value} {n : Nat} {xs : List Value} {e : TypeId} {k : Nat} (h : w.ownsRow B e k v n xs) : ∃ p c, v = .slice p n c := by
  rcases h.2 with ⟨rfl, rfl⟩ | ⟨g, cap, cur, rfl, _⟩
  · exact ⟨none, 0, rfl⟩
  · exact ⟨_, cap, rfl⟩
theorem sclone_any (B : Nat) (v : Value) (l : List ByteArray) (hl : l.length ≤ 65536) (w : World) (h : w.ownsRow B 9 1 v l.length (l.map Value.string)) :
    Calls Tryd.prog 21 #[v] w fun e w' => ∃ v', e = .returned v' ∧ w'.ownsRow w.heap.size 9 1 v' l.length (l.map Value.string) ∧ Ext w w' := by
  rcases h.2 with ⟨rfl, h0⟩ | ⟨g, cap, cur, rfl, _⟩
  · have hnil : l = [] := List.length_eq_zero_iff.1 h0
    subst hnil
    exact (Tryd.slices_Clone_string_nil 0 0 w).mono fun e w' ⟨he, hw⟩ => ⟨_, he, hw ▸ World.ownsRow_nil _ _ _ _, hw ▸ Ext.refl _⟩
  · have hc := fun j u hj => h.cells (g := g) rfl j u hj
    refine (Tryd.slices_Clone_string g 0 l.length cap l w (Nat.le_refl _) (by omega) (fun j hj => ?_)).mono fun e w' ⟨v', he, ho, _, hb⟩ => ⟨v', he, by rw [List.take_of_length_le (Nat.le_refl _)] at ho; exact ho, Ext.of_below hb⟩
    have := hc j (.string l[j]) (by simp [hj])
    rw [Addr.add_lit] at this
    rw [this]
    simp [List.getD, hj]

set_option maxHeartbeats 2000000 in
set_option maxRecDepth 20000 in
theorem clone_any (B bt bm : Nat) (tv : Value) (l : List ByteArray) (w : World) (h : TabAt B bt bm tv l w) :
    Calls Tryd.prog 16 #[.pointer (some ⟨bt, 0, none⟩)] w fun e w' => ∃ bt' bm' tv', e = .returned (.pointer (some ⟨bt', 0, none⟩)) ∧ TabAt w.heap.size bt' bm' tv' l w' ∧ Ext w w' := by
  have HT := Lib.hid h
  obtain ⟨c0, c1, f0, f1, hb, hb2⟩ := h.cells
  obtain ⟨a1, a2, a3, a4, ⟨D, a5, a6⟩, a7, a8, a9, a10, a11⟩ := h
  have A5 := Lib.hid a5
  have A6 := Lib.hid a6
  have A7 := Lib.hid a7
  have A10 := Lib.hid a10
  have A11 := Lib.hid a11
  obtain ⟨p, cap, rfl⟩ := own_slice a7
  clear a1 a2 a3 a4 a5 a6 a7 a8 a9 a10 a11
  go_enter Tryd.func16, Tryd.ntmps16
  go_wp2_with fail
  refine wp_region_grow 10 15 [false, false, false, false, false, false, false, false, false, false] (by kernel_rfl) (by kernel_rfl) rfl ?_
  simp only [List.take_succ_cons, List.take_zero, List.drop_succ_cons, List.drop_zero]
  iterate 4 (refine Lex.step rfl ?_; intro K hK; unfold StepG; go_simp; refine hK _ ?_; clear hK K)
  refine Lex.gap 7 (MapNew w l.length D) rfl (MapNew.upc _ _ _) rfl (fun d os => ?_) ?_
  · unfold StepG
    go_simp
    obtain ⟨es, clock, hbm, F, hs, hD⟩ := keptMap A5.out (grown_none ((Ext.refl w).more d os)) (by simp)
    refine (mclone_any bm es clock _ hbm).mono fun e w' ⟨he, hw⟩ => ?_
    subst hw
    exact ⟨_, he, (Ext.refl _).alloc _, _, rfl, by simp [more_size], ⟨es, clock, (MapKept.heap_alloc _ _).1, F, hs, hD⟩⟩
  iterate 4 (refine Lex.step rfl ?_; intro K hK; unfold StepG; go_simp; refine hK _ ?_; clear hK K)
  refine Lex.gap 12 (RowNew w l.length (l.map Value.string)) rfl (RowNew.upc _ _ _) rfl (fun d os => ?_) ?_
  · unfold StepG
    go_simp
    refine (sclone_any B _ l A11.out _ (own_more A7.out d os)).mono fun e w' ⟨v', he, ho, hx⟩ => ?_
    have ho2 := ho.mono (base' := w.heap.size) (by simp [more_size])
    exact ⟨v', he, hx, own_slice ho2, ho2⟩
  refine Lex.nil fun WW hE => ?_
  intro u1 hu1
  intro u2 hu2
  obtain ⟨⟨p2, cap2, rfl⟩, hr⟩ := hu1
  obtain ⟨g, rfl, hg, hm⟩ := hu2
  obtain ⟨dd, oo, rfl⟩ := hE
  have HRW := Lib.hid hr
  have HM := Lib.hid hm
  have hgl := hm.lt
  rw [more_size] at hgl
  have HG := Lib.hid (And.intro hg hgl)
  clear hr hm hg hgl
  go_simp
  unfold FillH
  go_wp2_with fail
  rw [ends_normal]
  go_wp2_with fail
  go_ret
  have hs : (more w dd oo).heap.size = w.heap.size + oo.size := more_size _ _ _
  have hgg := HG.out
  refine ⟨w.heap.size + oo.size, g, _, rfl, ⟨by omega, hgg.1, by omega, ?_, ⟨D, HM.out.alloc _, A6.out⟩, HRW.out.alloc _, ?_, ?_, A10.out, A11.out⟩, ((Ext.refl _).more _ _).alloc _⟩
  · have := heap_alloc_new (more w dd oo) (.cells #[.map (some g), .slice p2 l.length cap2] 49)
    rw [hs] at this
    exact this
  · intro e
    have := (HRW.out.lt _ e).2
    rw [hs] at this
    omega
  · intro e
    obtain ⟨es, clock, hbm, _⟩ := HM.out
    rcases HRW.out.2 with ⟨h0, _⟩ | ⟨g', cap', cur, h1, _, h2, _⟩
    · rw [h0] at e; simp [Value.ownBlock] at e
    · rw [h1] at e
      simp [Value.ownBlock] at e
      subst e
      rw [h2] at hbm; simp at hbm
end Go.Proofs.YtojejhmodaaoiaaDoor
