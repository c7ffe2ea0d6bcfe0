/- Lemmas for the claim (texts Opn2, what its proof uses of them). -/
import Derived.Test.YtpchohjkelopoaaGreatDoorW21
import Derived.Test.YtpchohjkelopoaaGreatDoorW26
set_option linter.unusedSimpArgs false
set_option linter.unusedVariables false
set_option maxRecDepth 100000
namespace Go.Proofs.YtpchohjkelopoaaGreatDoor
open Go.RowKit
attribute [go_sem] more_more Array.size_append
open Go.ChangeShapes Go.WideShapes Go.ChangeAt Go.Joins
theorem part_two {α : Type} (L : List α) (i n : Nat) : L.drop i = (L.drop i).take n ++ L.drop (i + n) := by
  rw [← List.drop_drop, List.take_append_drop]
theorem part_end {α : Type} {L : List α} {n : Nat} (h : L.length = n) : L.drop n = [] := List.drop_eq_nil_of_le (by omega)
/-- a parcel that came in -/
structure Pc where
  bk : Int
  ver : Int
  pv : Value
  ts : List ByteArray
def Pc.cells (x : Pc) : List Value := [.int .i64 x.bk, .int .i64 x.ver, x.pv]
def PcIn (w : World) (x : Pc) : Prop := StrsAt w x.pv x.ts ∧ ∀ s ∈ x.ts, s.size ≤ 140737488351232
/-- parcels that came in -/
def PsAt (w : World) (v : Value) (ps : List Pc) : Prop :=
  (∃ p cap, v = .slice p 0 cap ∧ ps = []) ∨ ∃ b off cap, v = .slice (some ⟨b, off, none⟩) ps.length cap ∧ ps.length ≤ cap ∧ ∀ j x, ps[j]? = some x → PcIn w x ∧ w.cell? ⟨b, off + j * 3, none⟩ = some (.int .i64 x.bk) ∧ w.cell? ⟨b, off + j * 3 + 1, none⟩ = some (.int .i64 x.ver) ∧ w.cell? ⟨b, off + j * 3 + 2, none⟩ = some x.pv
section
variable {H : Type} {enc : TypeId × Value → H} {W : World}
theorem cPc : Tryz.prog.cellsOf 50 = 3 := by kernel_rfl
theorem cSt : Tryz.prog.cellsOf 56 = 35 := by kernel_rfl
theorem storeFields : ∃ f0 f1 f2 f3 : Field, Tryz.prog.underlying 56 = some (.struct #[f0, f1, f2, f3]) ∧ (f0.type = 29 ∧ f0.offset = 0) ∧ (f1.type = 3 ∧ f1.offset = 32) ∧ (f2.type = 3 ∧ f2.offset = 33) ∧ (f3.type = 3 ∧ f3.offset = 34) := ⟨_, _, _, _, Tryz.underlying56, ⟨rfl, rfl⟩, ⟨rfl, rfl⟩, ⟨rfl, rfl⟩, ⟨rfl, rfl⟩⟩
theorem pcFields : ∃ f0 f1 f2 : Field, Tryz.prog.underlying 50 = some (.struct #[f0, f1, f2]) ∧ (f0.type = 3 ∧ f0.offset = 0) ∧ (f1.type = 3 ∧ f1.offset = 1) ∧ (f2.type = 22 ∧ f2.offset = 2) := ⟨_, _, _, Tryz.underlying50, ⟨rfl, rfl⟩, ⟨rfl, rfl⟩, ⟨rfl, rfl⟩⟩
theorem rd_store {fuel : Nat} {cs : List Value} {x : DataW H × List MemPlace} (h : DataW.trod enc Tryz.prog W 0 (fun _ => true) true fuel 56 cs = some x) (hs : Sm 56 x.1) :
    ∃ (bs : Nat → Nat) (v : Nat → Value) (T : Nat → List It) (V : Nat → Int) (a b c : Int), cs = (stC v V a b c).toList ∧ (∀ k, k < 16 → LfIn W (bs k) (v k) (T k)) ∧ In64I a ∧ In64I b ∧ In64I c := by
  obtain ⟨f0, f1, f2, f3, hst, ⟨t0, o0⟩, ⟨t1, o1⟩, ⟨t2, o2⟩, ⟨t3, o3⟩⟩ := storeFields
  obtain ⟨ys, n', _, rfl, hlen, hyl, hf⟩ := DataW.trod_struct hst h
  rw [cSt] at hlen
  match ys, hyl with
  | [y0, y1, y2, y3], _ =>
    have g0 := hf 0 f0 rfl
    have g1 := hf 1 f1 rfl
    have g2 := hf 2 f2 rfl
    have g3 := hf 3 f3 rfl
    have s0 := sm_field (i := 0) (f := f0) (d := y0.1) hst hs rfl rfl
    rw [t0, o0, cTr] at g0
    rw [t1, o1, cI] at g1
    rw [t2, o2, cI] at g2
    rw [t3, o3, cI] at g3
    rw [t0] at s0
    obtain ⟨bs, v, T, V, e0, a0⟩ := rd_trunk g0 s0
    obtain ⟨a, e1, w1⟩ := rd_int Tryz.underlying3 g1
    obtain ⟨b, e2, w2⟩ := rd_int Tryz.underlying3 g2
    obtain ⟨c, e3, w3⟩ := rd_int Tryz.underlying3 g3
    refine ⟨bs, v, T, V, a, b, c, ?_, a0, w1, w2, w3⟩
    have q := part_two cs 0 32
    rw [part_two cs (0 + 32) 1, part_two cs (0 + 32 + 1) 1, part_two cs (0 + 32 + 1 + 1) 1, part_end (n := 0 + 32 + 1 + 1 + 1) hlen, e0] at q
    simp only [Nat.zero_add, Nat.reduceAdd] at q
    rw [e1, e2, e3, List.drop_zero] at q
    rw [q]; rfl
theorem rd_pc {fuel : Nat} {cs : List Value} {x : DataW H × List MemPlace} (h : DataW.trod enc Tryz.prog W 0 (fun _ => true) true fuel 50 cs = some x) (hs : Sm 50 x.1) : ∃ p : Pc, cs = p.cells ∧ PcIn W p := by
  obtain ⟨f0, f1, f2, hst, ⟨t0, o0⟩, ⟨t1, o1⟩, ⟨t2, o2⟩⟩ := pcFields
  obtain ⟨ys, n', _, rfl, hlen, hyl, hf⟩ := DataW.trod_struct hst h
  rw [cPc] at hlen
  match cs, hlen with
  | [x0, x1, x2], _ =>
    match ys, hyl with
    | [y0, y1, y2], _ =>
      have g0 := hf 0 f0 rfl
      have g1 := hf 1 f1 rfl
      have g2 := hf 2 f2 rfl
      have s2 := sm_field (i := 2) (f := f2) (d := y2.1) hst hs rfl rfl
      rw [t0, o0, cI] at g0
      rw [t1, o1, cI] at g1
      rw [t2, o2, cTx] at g2
      rw [t2] at s2
      obtain ⟨z0, e0, w0⟩ := rd_int Tryz.underlying3 g0
      obtain ⟨z1, e1, w1⟩ := rd_int Tryz.underlying3 g1
      obtain ⟨z2, ts, e2, w2, w3⟩ := rd_strs g2 s2
      simp at e0 e1 e2
      subst e0 e1 e2
      exact ⟨⟨z0, z1, x2, ts⟩, rfl, w2, w3⟩
theorem rd_pcs {fuel : Nat} {cs : List Value} {x : DataW H × List MemPlace} (h : DataW.trod enc Tryz.prog W 0 (fun _ => true) true fuel 30 cs = some x) (hs : Sm 30 x.1) : ∃ v ps, cs = [v] ∧ PsAt W v ps := by
  rcases Deep.open_slice Tryz.underlying30 h with ⟨rfl, rfl⟩ | ⟨a, len, cap, m, n, D, Pl, rfl, hb, hl, hm, hmm, rfl, hi⟩
  · exact ⟨_, [], rfl, Or.inl ⟨none, 0, rfl, rfl⟩⟩
  · simp only [if_true] at hmm
    subst hmm
    obtain ⟨hb1, hb2⟩ := sm_slice Tryz.underlying30 hs
    have key : ∀ i, i < len → ∃ p : Pc, PcIn W p ∧ ∀ j u, p.cells[j]? = some u → W.cell? (a.add (i * 3 + j)) = some u := by
      intro i hil
      obtain ⟨cs', hc, ht'⟩ := hi i (by omega)
      rw [cPc] at hc
      obtain ⟨p, rfl, hin⟩ := rd_pc ht' (hb2 _ (List.mem_map.2 ⟨i, List.mem_range.2 hil, rfl⟩))
      obtain ⟨_, _, hat⟩ := World.cells?_some hc
      refine ⟨p, hin, fun j u hj => ?_⟩
      have := hat j (by have := (List.getElem?_eq_some_iff.1 hj).1; simpa [Pc.cells] using this)
      rw [Deep.add_add] at this
      rw [this]; exact hj
    rcases Nat.eq_zero_or_pos len with h0 | h0
    · subst h0
      exact ⟨_, [], rfl, Or.inl ⟨some a, m, rfl, rfl⟩⟩
    obtain ⟨ab, ao, spot⟩ := a
    have hspot : spot = none := by
      obtain ⟨p, _, hx0⟩ := key 0 (by omega)
      have := hx0 0 _ rfl
      simpa [Addr.add] using World.cell?_spot this
    subst hspot
    obtain ⟨l, hll, hp⟩ := list_of len (fun j (p : Pc) => PcIn W p ∧ ∀ i u, p.cells[i]? = some u → W.cell? ⟨ab, ao + j * 3 + i, none⟩ = some u) (fun i hi2 => by
      obtain ⟨p, h1, h2⟩ := key i hi2
      refine ⟨p, h1, fun j u hj => ?_⟩
      have := h2 j u hj
      rw [Addr.add_lit] at this
      rw [Nat.add_assoc]; exact this)
    refine ⟨_, l, rfl, Or.inr ⟨ab, ao, m, by rw [hll], by omega, fun j p hj => ?_⟩⟩
    have h2 := (hp j p hj).2
    exact ⟨(hp j p hj).1, h2 0 _ rfl, h2 1 _ rfl, h2 2 _ rfl⟩
theorem open_store {v : Value} {d : DataW H} {p : List MemPlace} (hd : DataW.Trod enc Tryz.prog W 0 (fun _ => true) true 56 v d p) (hs : Sm 56 d) :
    ∃ (bs : Nat → Nat) (vv : Nat → Value) (T : Nat → List It) (V : Nat → Int) (a b c : Int), v = .agg (stC vv V a b c) ∧ (∀ k, k < 16 → LfIn W (bs k) (vv k) (T k)) ∧ In64I a ∧ In64I b ∧ In64I c := by
  obtain ⟨fuel, h⟩ := hd
  have hlen : v.cells.toList.length = 35 := by
    obtain ⟨f0, f1, f2, f3, hst, _⟩ := storeFields
    obtain ⟨_, _, _, _, hlen, _⟩ := DataW.trod_struct hst h
    rw [cSt] at hlen; exact hlen
  obtain ⟨cs, rfl⟩ := cells_agg (v := v) (n := 35) (by decide) (by simpa using hlen)
  obtain ⟨bs, vv, T, V, a, b, c, e, q⟩ := rd_store h hs
  refine ⟨bs, vv, T, V, a, b, c, ?_, q⟩
  congr 1
  exact Array.toList_inj.1 e
theorem open_trunk {v : Value} {d : DataW H} {p : List MemPlace} (hd : DataW.Trod enc Tryz.prog W 0 (fun _ => true) true 29 v d p) (hs : Sm 29 d) :
    ∃ (bs : Nat → Nat) (vv : Nat → Value) (T : Nat → List It) (V : Nat → Int), v = .agg (trC vv V) ∧ (∀ k, k < 16 → LfIn W (bs k) (vv k) (T k)) := by
  obtain ⟨fuel, h⟩ := hd
  have hlen : v.cells.toList.length = 32 := by
    obtain ⟨f0, f1, hst, _⟩ := trunkFields
    obtain ⟨_, _, _, _, hlen, _⟩ := DataW.trod_struct hst h
    rw [cTr] at hlen; exact hlen
  obtain ⟨cs, rfl⟩ := cells_agg (v := v) (n := 32) (by decide) (by simpa using hlen)
  obtain ⟨bs, vv, T, V, e, q⟩ := rd_trunk h hs
  refine ⟨bs, vv, T, V, ?_, q⟩
  congr 1
  exact Array.toList_inj.1 e
theorem open_pcs {v : Value} {d : DataW H} {p : List MemPlace} {base : Nat} (hval : Value.okWide Tryz.prog W .any base 30 v) (hd : DataW.Trod enc Tryz.prog W 0 (fun _ => true) true 30 v d p) (hs : Sm 30 d) : ∃ ps, PsAt W v ps := by
  obtain ⟨a1, len, cap, rfl⟩ := okWide_slice Tryz.underlying30 hval
  obtain ⟨fuel, h⟩ := hd
  obtain ⟨v', ps, e, q⟩ := rd_pcs h hs
  simp [Value.cells] at e
  exact ⟨ps, by rw [e]; exact q⟩
end
end Go.Proofs.YtpchohjkelopoaaGreatDoor
