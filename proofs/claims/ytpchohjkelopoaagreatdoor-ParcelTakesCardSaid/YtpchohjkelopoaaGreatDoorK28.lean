/- Lemmas for the claim (texts Opn, what its proof uses of them). -/
import Derived.Test.YtpchohjkelopoaaGreatDoorK15
import Derived.Test.YtpchohjkelopoaaGreatDoorK17
import Derived.Deep.Slices
import Derived.Deep.Fields
set_option linter.unusedSimpArgs false
set_option linter.unusedVariables false
set_option maxRecDepth 100000
namespace Go.Proofs.YtpchohjkelopoaaGreatDoor
open Go.RowKit
open Go.ChangeShapes Go.WideShapes Go.ChangeAt Go.Joins
theorem list_of {α : Type} (len : Nat) (P : Nat → α → Prop) (h : ∀ i, i < len → ∃ a, P i a) : ∃ l : List α, l.length = len ∧ ∀ j a, l[j]? = some a → P j a := by
  induction len with
  | zero => exact ⟨[], rfl, fun j a hj => by simp at hj⟩
  | succ n ih =>
    obtain ⟨l, hl, hp⟩ := ih (fun i hi => h i (by omega))
    obtain ⟨a, ha⟩ := h n (by omega)
    refine ⟨l ++ [a], by simp [hl], fun j b hj => ?_⟩
    rcases Nat.lt_or_ge j l.length with hlt | hge
    · rw [List.getElem?_append_left hlt] at hj
      exact hp j b hj
    · rw [List.getElem?_append_right hge] at hj
      have hz : j - l.length = 0 := by
        rcases Nat.eq_zero_or_pos (j - l.length) with hz | hz
        · exact hz
        · rw [List.getElem?_eq_none (by simp; omega)] at hj; cases hj
      rw [hz] at hj
      simp at hj
      subst hj
      have : j = n := by omega
      subst this
      exact ha
/-- its weights are small -/
def Sm {H : Type} (t : TypeId) (d : DataW H) : Prop := ∀ n ∈ d.weights Tryz.prog t, n ≤ 140737488351232
theorem sm_of {H : Type} {ts : List TypeId} {ds : List (DataW H)} {j : Nat} {t : TypeId} {d : DataW H} (hs : (DataW.weightsEach Tryz.prog ts ds).all (· ≤ reachBytes) = true) (ht : ts[j]? = some t) (hd : ds[j]? = some d) : Sm t d := fun n hn => by
  have := List.all_eq_true.1 hs _ (DataW.weights_mem_each ht hd n hn)
  have e : reachBytes = 140737488351232 := by decide
  rw [e] at this
  simpa using this
theorem sm_field {H : Type} {t : TypeId} {fs : Array Field} {parts : List (DataW H)} (ht : Tryz.prog.underlying t = some (.struct fs)) (h : Sm t (.agg parts)) {i : Nat} {f : Field} {d : DataW H} (hf : fs[i]? = some f) (hd : parts[i]? = some d) : Sm f.type d := fun n hn => h n (by
  simp only [DataW.weights, ht]
  exact DataW.weights_mem_each (ts := fs.toList.map (·.type)) (j := i) (by simp [hf]) hd n hn)
theorem sm_arr {H : Type} {t e : TypeId} {k : Nat} {parts : List (DataW H)} (ht : Tryz.prog.underlying t = some (.array k e)) (h : Sm t (.agg parts)) {d : DataW H} (hd : d ∈ parts) : Sm e d := fun n hn => h n (by
  simp only [DataW.weights, ht]
  exact weightsAll_mem hn parts hd)
theorem sm_slice {H : Type} {t e : TypeId} {els sp : List (DataW H)} (ht : Tryz.prog.underlying t = some (.slice e)) (h : Sm t (.slice els sp)) : (els.length + sp.length) * Tryz.prog.bytesOf e ≤ 140737488351232 ∧ ∀ d ∈ els, Sm e d :=
  ⟨h _ (by simp only [DataW.weights, ht]; exact List.mem_cons_self ..), fun d hd n hn => h n (by
    simp only [DataW.weights, ht, List.mem_cons, List.mem_append]
    exact Or.inr (Or.inl (weightsAll_mem hn els hd)))⟩
section
variable {H : Type} {enc : TypeId × Value → H} {W : World}
theorem rd_string {fuel : Nat} {t : TypeId} {cs : List Value} {x : DataW H × List MemPlace} (ht : Tryz.prog.underlying t = some .string) (h : DataW.trod enc Tryz.prog W 0 (fun _ => true) true fuel t cs = some x) (hs : Sm t x.1) : ∃ s : ByteArray, cs = [.string s] ∧ s.size ≤ 140737488351232 := by
  obtain ⟨s, rfl, rfl, _⟩ := DataW.trod_string ht h
  refine ⟨s, rfl, ?_⟩
  have := hs s.data.toList.length (by simp [DataW.weights])
  rw [ba_len] at this
  exact this
theorem rd_int {fuel : Nat} {t : TypeId} {cs : List Value} {x : DataW H × List MemPlace} (ht : Tryz.prog.underlying t = some (.int .i64)) (h : DataW.trod enc Tryz.prog W 0 (fun _ => true) true fuel t cs = some x) : ∃ z : Int, cs = [.int .i64 z] ∧ In64I z := by
  obtain ⟨z, rfl, _, w⟩ := DataW.trod_int ht h
  refine ⟨z, rfl, ?_⟩
  simp only [Lit.wf, Bool.and_eq_true, decide_eq_true_eq] at w
  have w' : -9223372036854775808 ≤ z ∧ z ≤ 9223372036854775807 := by simpa [IntKind.min, IntKind.max, IntKind.bits, IntKind.signed] using w
  exact w'
theorem valFields : ∃ f0 f1 f2 : Field, Tryz.prog.underlying 115 = some (.struct #[f0, f1, f2]) ∧ (f0.type = 3 ∧ f0.offset = 0) ∧ (f1.type = 2 ∧ f1.offset = 1) ∧ (f2.type = 9 ∧ f2.offset = 2) := ⟨_, _, _, Tryz.underlying115, ⟨rfl, rfl⟩, ⟨rfl, rfl⟩, ⟨rfl, rfl⟩⟩
theorem itemFields : ∃ f0 f1 f2 : Field, Tryz.prog.underlying 152 = some (.struct #[f0, f1, f2]) ∧ (f0.type = 9 ∧ f0.offset = 0) ∧ (f1.type = 115 ∧ f1.offset = 1) ∧ (f2.type = 3 ∧ f2.offset = 4) := ⟨_, _, _, Tryz.underlying152, ⟨rfl, rfl⟩, ⟨rfl, rfl⟩, ⟨rfl, rfl⟩⟩
theorem cS : Tryz.prog.cellsOf 9 = 1 := by kernel_rfl
theorem cI : Tryz.prog.cellsOf 3 = 1 := by kernel_rfl
theorem cL : Tryz.prog.cellsOf 2 = 1 := by kernel_rfl
theorem cV : Tryz.prog.cellsOf 115 = 3 := by kernel_rfl
theorem cIt : Tryz.prog.cellsOf 152 = 5 := by kernel_rfl
theorem cLf : Tryz.prog.cellsOf 26 = 1 := by kernel_rfl
theorem cTr : Tryz.prog.cellsOf 29 = 32 := by kernel_rfl
theorem cLvs : Tryz.prog.cellsOf 27 = 16 := by kernel_rfl
theorem cVrs : Tryz.prog.cellsOf 23 = 16 := by kernel_rfl
theorem cTx : Tryz.prog.cellsOf 22 = 1 := by kernel_rfl
theorem rd_val {fuel : Nat} {cs : List Value} {x : DataW H × List MemPlace} (h : DataW.trod enc Tryz.prog W 0 (fun _ => true) true fuel 115 cs = some x) (hs : Sm 115 x.1) :
    ∃ (k i : Int) (s : ByteArray), cs = [.int .i64 k, .int .i64 i, .string s] ∧ In64I k ∧ In64I i ∧ s.size ≤ 140737488351232 := by
  obtain ⟨f0, f1, f2, hst, ⟨t0, o0⟩, ⟨t1, o1⟩, ⟨t2, o2⟩⟩ := valFields
  obtain ⟨ys, n', _, rfl, hlen, hyl, hf⟩ := DataW.trod_struct hst h
  rw [cV] at hlen
  match cs, hlen with
  | [x0, x1, x2], _ =>
    match ys, hyl with
    | [y0, y1, y2], _ =>
      have g0 := hf 0 f0 rfl
      have g1 := hf 1 f1 rfl
      have g2 := hf 2 f2 rfl
      have s2 := sm_field (i := 2) (f := f2) (d := y2.1) hst hs rfl rfl
      rw [t0, o0, cI] at g0
      rw [t1, o1, cL] at g1
      rw [t2, o2, cS] at g2
      rw [t2] at s2
      obtain ⟨z0, e0, w0⟩ := rd_int Tryz.underlying3 g0
      obtain ⟨z1, e1, w1⟩ := rd_int Tryz.underlying2 g1
      obtain ⟨z2, e2, w2⟩ := rd_string Tryz.underlying9 g2 s2
      simp at e0 e1 e2
      subst e0 e1 e2
      exact ⟨z0, z1, z2, rfl, w0, w1, w2⟩
theorem rd_item {fuel : Nat} {cs : List Value} {x : DataW H × List MemPlace} (h : DataW.trod enc Tryz.prog W 0 (fun _ => true) true fuel 152 cs = some x) (hs : Sm 152 x.1) : ∃ it : It, cs = itL it ∧ ItIn it := by
  obtain ⟨f0, f1, f2, hst, ⟨t0, o0⟩, ⟨t1, o1⟩, ⟨t2, o2⟩⟩ := itemFields
  obtain ⟨ys, n', _, rfl, hlen, hyl, hf⟩ := DataW.trod_struct hst h
  rw [cIt] at hlen
  match cs, hlen with
  | [x0, x1, x2, x3, x4], _ =>
    match ys, hyl with
    | [y0, y1, y2], _ =>
      have g0 := hf 0 f0 rfl
      have g1 := hf 1 f1 rfl
      have g2 := hf 2 f2 rfl
      have s0 := sm_field (i := 0) (f := f0) (d := y0.1) hst hs rfl rfl
      have s1 := sm_field (i := 1) (f := f1) (d := y1.1) hst hs rfl rfl
      rw [t0, o0, cS] at g0
      rw [t1, o1, cV] at g1
      rw [t2, o2, cI] at g2
      rw [t0] at s0
      rw [t1] at s1
      obtain ⟨z0, e0, w0⟩ := rd_string Tryz.underlying9 g0 s0
      obtain ⟨k, i, s, e1, w1, w2, w3⟩ := rd_val g1 s1
      obtain ⟨z2, e2, w4⟩ := rd_int Tryz.underlying3 g2
      simp at e0 e1 e2
      obtain ⟨rfl, rfl, rfl⟩ := e1
      subst e0 e2
      exact ⟨⟨z0, k, i, s, z2⟩, rfl, ⟨w0, w3, w1, w2, w4⟩⟩
theorem rd_leaf {fuel : Nat} {cs : List Value} {x : DataW H × List MemPlace} (h : DataW.trod enc Tryz.prog W 0 (fun _ => true) true fuel 26 cs = some x) (hs : Sm 26 x.1) : ∃ v b l, cs = [v] ∧ LfIn W b v l := by
  rcases Deep.open_slice Tryz.underlying26 h with ⟨rfl, rfl⟩ | ⟨a, len, cap, m, n, D, Pl, rfl, hb, hl, hm, hmm, rfl, hi⟩
  · exact ⟨_, 0, [], rfl, by simp, by decide, none, 0, rfl, Nat.le_refl _, fun q => by simp at q⟩
  · simp only [if_true] at hmm
    subst hmm
    obtain ⟨hb1, hb2⟩ := sm_slice Tryz.underlying26 hs
    have hbi : Tryz.prog.bytesOf 152 = 56 := by kernel_rfl
    rw [hbi] at hb1
    simp only [List.length_map, List.length_range] at hb1
    have key : ∀ i, i < len → ∃ it : It, ItIn it ∧ ∀ j u, (itL it)[j]? = some u → W.cell? (a.add (i * 5 + j)) = some u := by
      intro i hil
      obtain ⟨cs', hc, ht'⟩ := hi i (by omega)
      rw [cIt] at hc
      obtain ⟨it, rfl, hin⟩ := rd_item ht' (hb2 _ (List.mem_map.2 ⟨i, List.mem_range.2 hil, rfl⟩))
      obtain ⟨_, _, hat⟩ := World.cells?_some hc
      refine ⟨it, hin, fun j u hj => ?_⟩
      have := hat j (by have := (List.getElem?_eq_some_iff.1 hj).1; simpa [itL] using this)
      rw [Deep.add_add] at this
      rw [this]; exact hj
    rcases Nat.eq_zero_or_pos len with h0 | h0
    · subst h0
      exact ⟨_, 0, [], rfl, by simp, by decide, some a, m, rfl, Nat.zero_le _, fun q => by simp at q⟩
    obtain ⟨ab, ao, spot⟩ := a
    have hspot : spot = none := by
      obtain ⟨it, _, hx0⟩ := key 0 (by omega)
      have := hx0 0 _ rfl
      simpa [Addr.add] using World.cell?_spot this
    subst hspot
    obtain ⟨l, hll, hp⟩ := list_of len (fun j it => ItIn it ∧ ∀ i u, (itL it)[i]? = some u → W.cell? ⟨ab, ao + j * 5 + i, none⟩ = some u) (fun i hi2 => by
      obtain ⟨it, h1, h2⟩ := key i hi2
      refine ⟨it, h1, fun j u hj => ?_⟩
      have := h2 j u hj
      rw [Addr.add_lit] at this
      rw [Nat.add_assoc]; exact this)
    refine ⟨_, ab, l, rfl, fun it hit => ?_, by omega, _, m, by rw [hll], by omega, fun _ => ⟨ao, rfl, fun j it hj => ?_⟩⟩
    · obtain ⟨j, hj⟩ := List.getElem?_of_mem hit
      exact (hp j it hj).1
    · have h2 := (hp j it hj).2
      exact ⟨h2 0 _ rfl, h2 1 _ rfl, h2 2 _ rfl, h2 3 _ rfl, h2 4 _ rfl⟩
theorem rd_arr {fuel n : Nat} {t e : TypeId} {cs : List Value} {x : DataW H × List MemPlace} (ht : Tryz.prog.underlying t = some (.array n e)) (h : DataW.trod enc Tryz.prog W 0 (fun _ => true) true fuel t cs = some x) (hs : Sm t x.1) :
    cs.length = Tryz.prog.cellsOf t ∧ ∃ m, ∀ i, i < n → ∃ y, DataW.trod enc Tryz.prog W 0 (fun _ => true) true m e ((cs.drop (i * Tryz.prog.cellsOf e)).take (Tryz.prog.cellsOf e)) = some y ∧ Sm e y.1 := by
  cases fuel with
  | zero => simp [DataW.trod] at h
  | succ m =>
    simp only [DataW.trod, ht] at h
    split at h
    · rename_i hl
      obtain ⟨xs, hm, rfl⟩ := Option.map_eq_some_iff.1 h
      refine ⟨hl, m, fun i hi => ?_⟩
      obtain ⟨y, hy, hf⟩ := Lib.mapM_at hm i i (by simp [hi])
      exact ⟨y, hf, sm_arr ht hs (List.mem_map.2 ⟨y, List.mem_of_getElem? hy, rfl⟩)⟩
    · cases h
theorem one_of {cs : List Value} {i n : Nat} (hl : cs.length = n) (hi : i < n) {v : Value} (h : (cs.drop (i * 1)).take 1 = [v]) : cs[i]? = some v := by
  rw [Nat.mul_one] at h
  have := congrArg (·[0]?) h
  simpa [List.getElem?_take, List.getElem?_drop] using this
theorem trunkFields : ∃ f0 f1 : Field, Tryz.prog.underlying 29 = some (.struct #[f0, f1]) ∧ (f0.type = 27 ∧ f0.offset = 0) ∧ (f1.type = 23 ∧ f1.offset = 16) := ⟨_, _, Tryz.underlying29, ⟨rfl, rfl⟩, ⟨rfl, rfl⟩⟩
theorem trC_len (v : Nat → Value) (V : Nat → Int) : (trC v V).toList.length = 32 := rfl
theorem rd_trunk {fuel : Nat} {cs : List Value} {x : DataW H × List MemPlace} (h : DataW.trod enc Tryz.prog W 0 (fun _ => true) true fuel 29 cs = some x) (hs : Sm 29 x.1) :
    ∃ (bs : Nat → Nat) (v : Nat → Value) (T : Nat → List It) (V : Nat → Int), cs = (trC v V).toList ∧ ∀ k, k < 16 → LfIn W (bs k) (v k) (T k) := by
  obtain ⟨f0, f1, hst, ⟨t0, o0⟩, ⟨t1, o1⟩⟩ := trunkFields
  obtain ⟨ys, n', _, rfl, hlen, hyl, hf⟩ := DataW.trod_struct hst h
  rw [cTr] at hlen
  match ys, hyl with
  | [y0, y1], _ =>
    have g0 := hf 0 f0 rfl
    have g1 := hf 1 f1 rfl
    have s0 := sm_field (i := 0) (f := f0) (d := y0.1) hst hs rfl rfl
    have s1 := sm_field (i := 1) (f := f1) (d := y1.1) hst hs rfl rfl
    rw [t0, o0, cLvs] at g0
    rw [t1, o1, cVrs] at g1
    rw [t0] at s0
    rw [t1] at s1
    obtain ⟨hl0, m0, k0⟩ := rd_arr Tryz.underlying27 g0 s0
    obtain ⟨hl1, m1, k1⟩ := rd_arr Tryz.underlying23 g1 s1
    rw [cLvs] at hl0
    rw [cVrs] at hl1
    have q0 : ∀ i, i < 16 → ∃ z : Value × Nat × List It, cs[i]? = some z.1 ∧ LfIn W z.2.1 z.1 z.2.2 := fun i hi => by
      obtain ⟨y, hy, sy⟩ := k0 i hi
      rw [cLf] at hy
      obtain ⟨v, b, l, e, hlf⟩ := rd_leaf hy sy
      have := one_of hl0 hi e
      rw [List.drop_zero, List.getElem?_take, if_pos hi] at this
      exact ⟨(v, b, l), this, hlf⟩
    have q1 : ∀ i, i < 16 → ∃ z : Int, cs[16 + i]? = some (.int .i64 z) := fun i hi => by
      obtain ⟨y, hy, sy⟩ := k1 i hi
      rw [cI] at hy
      obtain ⟨z, e, _⟩ := rd_int Tryz.underlying3 hy
      have := one_of hl1 hi e
      rw [List.getElem?_take, if_pos hi, List.getElem?_drop] at this
      exact ⟨z, this⟩
    haveI : Inhabited (Value × Nat × List It) := ⟨(.bool false, 0, [])⟩
    obtain ⟨F, hF⟩ := Deep.choose_lt q0
    obtain ⟨V, hV⟩ := Deep.choose_lt q1
    refine ⟨fun k => (F k).2.1, fun k => (F k).1, fun k => (F k).2.2, V, ?_, fun k hk => (hF k hk).2⟩
    apply List.ext_getElem?
    intro i
    by_cases hi : i < 16
    · rw [(hF i hi).1]
      have := trC_leaf (fun k => (F k).1) V i hi
      rw [← Array.getElem?_toList] at this
      exact this.symm
    · by_cases hi2 : i < 32
      · obtain ⟨j, rfl⟩ : ∃ j, i = 16 + j := ⟨i - 16, by omega⟩
        rw [hV j (by omega)]
        have := trC_ver (fun k => (F k).1) V j (by omega)
        rw [← Array.getElem?_toList] at this
        exact this.symm
      · rw [List.getElem?_eq_none (by omega), List.getElem?_eq_none (by rw [trC_len]; omega)]
theorem rd_strs {fuel : Nat} {cs : List Value} {x : DataW H × List MemPlace} (h : DataW.trod enc Tryz.prog W 0 (fun _ => true) true fuel 22 cs = some x) (hs : Sm 22 x.1) : ∃ v l, cs = [v] ∧ StrsAt W v l ∧ ∀ s ∈ l, s.size ≤ 140737488351232 := by
  rcases Deep.open_slice Tryz.underlying22 h with ⟨rfl, rfl⟩ | ⟨a, len, cap, m, n, D, Pl, rfl, hb, hl, hm, hmm, rfl, hi⟩
  · exact ⟨_, [], rfl, Or.inl ⟨none, 0, rfl, rfl⟩, by simp⟩
  · simp only [if_true] at hmm
    subst hmm
    obtain ⟨hb1, hb2⟩ := sm_slice Tryz.underlying22 hs
    have key : ∀ i, i < len → ∃ s : ByteArray, s.size ≤ 140737488351232 ∧ W.cell? (a.add i) = some (.string s) := by
      intro i hil
      obtain ⟨cs', hc, ht'⟩ := hi i (by omega)
      rw [cS] at hc
      obtain ⟨s, rfl, hin⟩ := rd_string Tryz.underlying9 ht' (hb2 _ (List.mem_map.2 ⟨i, List.mem_range.2 hil, rfl⟩))
      obtain ⟨_, _, hat⟩ := World.cells?_some hc
      have := hat 0 (by omega)
      rw [Deep.add_add, Nat.mul_one, Nat.add_zero] at this
      exact ⟨s, hin, this⟩
    rcases Nat.eq_zero_or_pos len with h0 | h0
    · subst h0
      exact ⟨_, [], rfl, Or.inl ⟨some a, m, rfl, rfl⟩, by simp⟩
    obtain ⟨ab, ao, spot⟩ := a
    have hspot : spot = none := by
      obtain ⟨s, _, hx0⟩ := key 0 (by omega)
      simpa [Addr.add] using World.cell?_spot hx0
    subst hspot
    obtain ⟨l, hll, hp⟩ := list_of len (fun j (s : ByteArray) => s.size ≤ 140737488351232 ∧ W.cell? ⟨ab, ao + j, none⟩ = some (.string s)) (fun i hi2 => by
      obtain ⟨s, h1, h2⟩ := key i hi2
      rw [Addr.add_lit] at h2
      exact ⟨s, h1, h2⟩)
    refine ⟨_, l, rfl, Or.inr ⟨ab, ao, m, by rw [hll], by omega, fun j u hj => (hp j u hj).2⟩, fun s hs2 => ?_⟩
    obtain ⟨j, hj⟩ := List.getElem?_of_mem hs2
    exact (hp j s hj).1
theorem cells_agg {v : Value} {n : Nat} (hn : 1 < n) (h : v.cells.size = n) : ∃ cs, v = .agg cs := by
  cases v <;> first | exact ⟨_, rfl⟩ | (simp [Value.cells] at h; omega)
end
end Go.Proofs.YtpchohjkelopoaaGreatDoor
