/- Lemmas for the claim (texts Opn2, what its proof uses of them). -/
import Derived.Test.YtpchohjkelopoaaGreatDoorK23
import Derived.Test.YtpchohjkelopoaaGreatDoorK28
set_option linter.unusedSimpArgs false
set_option linter.unusedVariables false
set_option maxRecDepth 100000
namespace Go.Proofs.YtpchohjkelopoaaGreatDoor
open Go.RowKit
attribute [go_sem] more_more Array.size_append
open Go.ChangeShapes Go.WideShapes Go.ChangeAt Go.Joins
theorem part_two {α : Type} (L : List α) (i n : Nat) : L.drop i = (L.drop i).take n ++ L.drop (i + n) := by
  rw [← List.drop_drop, List.take_append_drop]
theorem part_end {α : Type} {L : List α} {n : Nat} (h : L.length = n) : L.drop n = [] := List.drop_eq_nil_of_le (by omega)
/-- a parcel that came in -/
structure Pc where
  bk : Int
  ver : Int
  pv : Value
  ts : List ByteArray
def Pc.cells (x : Pc) : List Value := [.int .i64 x.bk, .int .i64 x.ver, x.pv]
def PcIn (w : World) (x : Pc) : Prop := StrsAt w x.pv x.ts ∧ ∀ s ∈ x.ts, s.size ≤ 140737488351232
/-- parcels that came in -/
def PsAt (w : World) (v : Value) (ps : List Pc) : Prop :=
  (∃ p cap, v = .slice p 0 cap ∧ ps = []) ∨ ∃ b off cap, v = .slice (some ⟨b, off, none⟩) ps.length cap ∧ ps.length ≤ cap ∧ ∀ j x, ps[j]? = some x → PcIn w x ∧ w.cell? ⟨b, off + j * 3, none⟩ = some (.int .i64 x.bk) ∧ w.cell? ⟨b, off + j * 3 + 1, none⟩ = some (.int .i64 x.ver) ∧ w.cell? ⟨b, off + j * 3 + 2, none⟩ = some x.pv
/-- what came in of ParcelTakes -/
def cmC (tv : Value) (a b c : Int) (L : Nat → Int) (v : Nat → Value) (V : Nat → Int) (pv : Value) : Array Value := #[tv, .int .i64 a, .int .i64 b, .int .i64 c, .int .i64 (L 0), .int .i64 (L 1), .int .i64 (L 2), .int .i64 (L 3), .int .i64 (L 4), .int .i64 (L 5), .int .i64 (L 6), .int .i64 (L 7), .int .i64 (L 8), .int .i64 (L 9), .int .i64 (L 10), .int .i64 (L 11), .int .i64 (L 12), .int .i64 (L 13), .int .i64 (L 14), .int .i64 (L 15), v 0, v 1, v 2, v 3, v 4, v 5, v 6, v 7, v 8, v 9, v 10, v 11, v 12, v 13, v 14, v 15, .int .i64 (V 0), .int .i64 (V 1), .int .i64 (V 2), .int .i64 (V 3), .int .i64 (V 4), .int .i64 (V 5), .int .i64 (V 6), .int .i64 (V 7), .int .i64 (V 8), .int .i64 (V 9), .int .i64 (V 10), .int .i64 (V 11), .int .i64 (V 12), .int .i64 (V 13), .int .i64 (V 14), .int .i64 (V 15), pv]
section
variable {H : Type} {enc : TypeId × Value → H} {W : World}
theorem cMf : Tryz.prog.cellsOf 25 = 19 := by kernel_rfl
theorem cPc : Tryz.prog.cellsOf 50 = 3 := by kernel_rfl
theorem cPs : Tryz.prog.cellsOf 30 = 1 := by kernel_rfl
theorem cCm : Tryz.prog.cellsOf 32 = 53 := by kernel_rfl
theorem maniFields : ∃ f0 f1 f2 f3 : Field, Tryz.prog.underlying 25 = some (.struct #[f0, f1, f2, f3]) ∧ (f0.type = 3 ∧ f0.offset = 0) ∧ (f1.type = 3 ∧ f1.offset = 1) ∧ (f2.type = 3 ∧ f2.offset = 2) ∧ (f3.type = 23 ∧ f3.offset = 3) := ⟨_, _, _, _, Tryz.underlying25, ⟨rfl, rfl⟩, ⟨rfl, rfl⟩, ⟨rfl, rfl⟩, ⟨rfl, rfl⟩⟩
theorem pcFields : ∃ f0 f1 f2 : Field, Tryz.prog.underlying 50 = some (.struct #[f0, f1, f2]) ∧ (f0.type = 3 ∧ f0.offset = 0) ∧ (f1.type = 3 ∧ f1.offset = 1) ∧ (f2.type = 22 ∧ f2.offset = 2) := ⟨_, _, _, Tryz.underlying50, ⟨rfl, rfl⟩, ⟨rfl, rfl⟩, ⟨rfl, rfl⟩⟩
theorem comingFields : ∃ f0 f1 f2 f3 : Field, Tryz.prog.underlying 32 = some (.struct #[f0, f1, f2, f3]) ∧ (f0.type = 22 ∧ f0.offset = 0) ∧ (f1.type = 25 ∧ f1.offset = 1) ∧ (f2.type = 29 ∧ f2.offset = 20) ∧ (f3.type = 30 ∧ f3.offset = 52) := ⟨_, _, _, _, Tryz.underlying32, ⟨rfl, rfl⟩, ⟨rfl, rfl⟩, ⟨rfl, rfl⟩, ⟨rfl, rfl⟩⟩
theorem rd_mani {fuel : Nat} {cs : List Value} {x : DataW H × List MemPlace} (h : DataW.trod enc Tryz.prog W 0 (fun _ => true) true fuel 25 cs = some x) (hs : Sm 25 x.1) :
    ∃ (a b c : Int) (L : Nat → Int), cs = (mfC a b c L).toList := by
  obtain ⟨f0, f1, f2, f3, hst, ⟨t0, o0⟩, ⟨t1, o1⟩, ⟨t2, o2⟩, ⟨t3, o3⟩⟩ := maniFields
  obtain ⟨ys, n', _, rfl, hlen, hyl, hf⟩ := DataW.trod_struct hst h
  rw [cMf] at hlen
  match ys, hyl with
  | [y0, y1, y2, y3], _ =>
    have g0 := hf 0 f0 rfl
    have g1 := hf 1 f1 rfl
    have g2 := hf 2 f2 rfl
    have g3 := hf 3 f3 rfl
    have s3 := sm_field (i := 3) (f := f3) (d := y3.1) hst hs rfl rfl
    rw [t0, o0, cI] at g0
    rw [t1, o1, cI] at g1
    rw [t2, o2, cI] at g2
    rw [t3, o3, cVrs] at g3
    rw [t3] at s3
    obtain ⟨a, e0, _⟩ := rd_int Tryz.underlying3 g0
    obtain ⟨b, e1, _⟩ := rd_int Tryz.underlying3 g1
    obtain ⟨c, e2, _⟩ := rd_int Tryz.underlying3 g2
    obtain ⟨hl1, m1, k1⟩ := rd_arr Tryz.underlying23 g3 s3
    rw [cVrs] at hl1
    have q1 : ∀ i, i < 16 → ∃ z : Int, cs[3 + i]? = some (.int .i64 z) := fun i hi => by
      obtain ⟨y, hy, sy⟩ := k1 i hi
      rw [cI] at hy
      obtain ⟨z, e, _⟩ := rd_int Tryz.underlying3 hy
      have := one_of hl1 hi e
      rw [List.getElem?_take, if_pos hi, List.getElem?_drop] at this
      exact ⟨z, this⟩
    obtain ⟨L, hL⟩ := Deep.choose_lt q1
    refine ⟨a, b, c, L, ?_⟩
    have q := part_two cs 0 1
    rw [part_two cs (0 + 1) 1, part_two cs (0 + 1 + 1) 1, e0] at q
    simp only [Nat.zero_add, Nat.reduceAdd] at q
    rw [e1, e2, List.drop_zero] at q
    rw [q]
    have hd : cs.drop 3 = (lsC L).toList := by
      apply List.ext_getElem?
      intro i
      rw [List.getElem?_drop]
      by_cases hi : i < 16
      · rw [hL i hi]
        have := lsC_get L i hi
        rw [← Array.getElem?_toList] at this
        exact this.symm
      · rw [List.getElem?_eq_none (by omega), List.getElem?_eq_none (by have : (lsC L).toList.length = 16 := rfl; omega)]
    rw [hd]; rfl
theorem rd_pc {fuel : Nat} {cs : List Value} {x : DataW H × List MemPlace} (h : DataW.trod enc Tryz.prog W 0 (fun _ => true) true fuel 50 cs = some x) (hs : Sm 50 x.1) : ∃ p : Pc, cs = p.cells ∧ PcIn W p := by
  obtain ⟨f0, f1, f2, hst, ⟨t0, o0⟩, ⟨t1, o1⟩, ⟨t2, o2⟩⟩ := pcFields
  obtain ⟨ys, n', _, rfl, hlen, hyl, hf⟩ := DataW.trod_struct hst h
  rw [cPc] at hlen
  match cs, hlen with
  | [x0, x1, x2], _ =>
    match ys, hyl with
    | [y0, y1, y2], _ =>
      have g0 := hf 0 f0 rfl
      have g1 := hf 1 f1 rfl
      have g2 := hf 2 f2 rfl
      have s2 := sm_field (i := 2) (f := f2) (d := y2.1) hst hs rfl rfl
      rw [t0, o0, cI] at g0
      rw [t1, o1, cI] at g1
      rw [t2, o2, cTx] at g2
      rw [t2] at s2
      obtain ⟨z0, e0, w0⟩ := rd_int Tryz.underlying3 g0
      obtain ⟨z1, e1, w1⟩ := rd_int Tryz.underlying3 g1
      obtain ⟨z2, ts, e2, w2, w3⟩ := rd_strs g2 s2
      simp at e0 e1 e2
      subst e0 e1 e2
      exact ⟨⟨z0, z1, x2, ts⟩, rfl, w2, w3⟩
theorem rd_pcs {fuel : Nat} {cs : List Value} {x : DataW H × List MemPlace} (h : DataW.trod enc Tryz.prog W 0 (fun _ => true) true fuel 30 cs = some x) (hs : Sm 30 x.1) : ∃ v ps, cs = [v] ∧ PsAt W v ps := by
  rcases Deep.open_slice Tryz.underlying30 h with ⟨rfl, rfl⟩ | ⟨a, len, cap, m, n, D, Pl, rfl, hb, hl, hm, hmm, rfl, hi⟩
  · exact ⟨_, [], rfl, Or.inl ⟨none, 0, rfl, rfl⟩⟩
  · simp only [if_true] at hmm
    subst hmm
    obtain ⟨hb1, hb2⟩ := sm_slice Tryz.underlying30 hs
    have key : ∀ i, i < len → ∃ p : Pc, PcIn W p ∧ ∀ j u, p.cells[j]? = some u → W.cell? (a.add (i * 3 + j)) = some u := by
      intro i hil
      obtain ⟨cs', hc, ht'⟩ := hi i (by omega)
      rw [cPc] at hc
      obtain ⟨p, rfl, hin⟩ := rd_pc ht' (hb2 _ (List.mem_map.2 ⟨i, List.mem_range.2 hil, rfl⟩))
      obtain ⟨_, _, hat⟩ := World.cells?_some hc
      refine ⟨p, hin, fun j u hj => ?_⟩
      have := hat j (by have := (List.getElem?_eq_some_iff.1 hj).1; simpa [Pc.cells] using this)
      rw [Deep.add_add] at this
      rw [this]; exact hj
    rcases Nat.eq_zero_or_pos len with h0 | h0
    · subst h0
      exact ⟨_, [], rfl, Or.inl ⟨some a, m, rfl, rfl⟩⟩
    obtain ⟨ab, ao, spot⟩ := a
    have hspot : spot = none := by
      obtain ⟨p, _, hx0⟩ := key 0 (by omega)
      have := hx0 0 _ rfl
      simpa [Addr.add] using World.cell?_spot this
    subst hspot
    obtain ⟨l, hll, hp⟩ := list_of len (fun j (p : Pc) => PcIn W p ∧ ∀ i u, p.cells[i]? = some u → W.cell? ⟨ab, ao + j * 3 + i, none⟩ = some u) (fun i hi2 => by
      obtain ⟨p, h1, h2⟩ := key i hi2
      refine ⟨p, h1, fun j u hj => ?_⟩
      have := h2 j u hj
      rw [Addr.add_lit] at this
      rw [Nat.add_assoc]; exact this)
    refine ⟨_, l, rfl, Or.inr ⟨ab, ao, m, by rw [hll], by omega, fun j p hj => ?_⟩⟩
    have h2 := (hp j p hj).2
    exact ⟨(hp j p hj).1, h2 0 _ rfl, h2 1 _ rfl, h2 2 _ rfl⟩
theorem open_coming {v : Value} {d : DataW H} {p : List MemPlace} (hd : DataW.Trod enc Tryz.prog W 0 (fun _ => true) true 32 v d p) (hs : Sm 32 d) :
    ∃ (tv : Value) (ts : List ByteArray) (a b c : Int) (L : Nat → Int) (bs : Nat → Nat) (vv : Nat → Value) (T : Nat → List It) (V : Nat → Int) (pv : Value) (ps : List Pc), v = .agg (cmC tv a b c L vv V pv) ∧ StrsAt W tv ts ∧ (∀ s ∈ ts, s.size ≤ 140737488351232) ∧ (∀ k, k < 16 → LfIn W (bs k) (vv k) (T k)) ∧ PsAt W pv ps := by
  obtain ⟨fuel, h⟩ := hd
  obtain ⟨f0, f1, f2, f3, hst, ⟨t0, o0⟩, ⟨t1, o1⟩, ⟨t2, o2⟩, ⟨t3, o3⟩⟩ := comingFields
  obtain ⟨ys, n', _, he, hlen, hyl, hf⟩ := DataW.trod_struct hst h
  rw [cCm] at hlen
  obtain ⟨cs, rfl⟩ := cells_agg (v := v) (n := 53) (by decide) (by simpa using hlen)
  simp only [Prod.mk.injEq] at he
  obtain ⟨rfl, _⟩ := he
  match ys, hyl with
  | [y0, y1, y2, y3], _ =>
    have g0 := hf 0 f0 rfl
    have g1 := hf 1 f1 rfl
    have g2 := hf 2 f2 rfl
    have g3 := hf 3 f3 rfl
    have s0 := sm_field (i := 0) (f := f0) (d := y0.1) hst hs rfl rfl
    have s1 := sm_field (i := 1) (f := f1) (d := y1.1) hst hs rfl rfl
    have s2 := sm_field (i := 2) (f := f2) (d := y2.1) hst hs rfl rfl
    have s3 := sm_field (i := 3) (f := f3) (d := y3.1) hst hs rfl rfl
    rw [t0, o0, cTx] at g0
    rw [t1, o1, cMf] at g1
    rw [t2, o2, cTr] at g2
    rw [t3, o3, cPs] at g3
    rw [t0] at s0
    rw [t1] at s1
    rw [t2] at s2
    rw [t3] at s3
    obtain ⟨tv, ts, e0, a0, b0⟩ := rd_strs g0 s0
    obtain ⟨a, b, c, L, e1⟩ := rd_mani g1 s1
    obtain ⟨bs, vv, T, V, e2, a2⟩ := rd_trunk g2 s2
    obtain ⟨pv, ps, e3, a3⟩ := rd_pcs g3 s3
    refine ⟨tv, ts, a, b, c, L, bs, vv, T, V, pv, ps, ?_, a0, b0, a2, a3⟩
    congr 1
    simp only [Value.cells] at e0 e1 e2 e3 hlen
    have q := part_two cs.toList 0 1
    rw [part_two cs.toList (0 + 1) 19, part_two cs.toList (0 + 1 + 19) 32, part_two cs.toList (0 + 1 + 19 + 32) 1, part_end (n := 0 + 1 + 19 + 32 + 1) hlen, e0] at q
    simp only [Nat.zero_add, Nat.reduceAdd] at q
    rw [e1, e2, e3, List.drop_zero] at q
    apply Array.toList_inj.1
    rw [q]; rfl
end
end Go.Proofs.YtpchohjkelopoaaGreatDoor
