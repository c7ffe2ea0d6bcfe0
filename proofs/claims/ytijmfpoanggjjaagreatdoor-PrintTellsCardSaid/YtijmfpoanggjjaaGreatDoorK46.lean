/- Lemmas for the claim (texts NdB, what its proof uses of them). -/
import Derived.Test.YtijmfpoanggjjaaGreatDoorK03
import Derived.Test.YtijmfpoanggjjaaGreatDoorK10
set_option linter.unusedSimpArgs false
set_option linter.unusedVariables false
namespace Go.Proofs.YtijmfpoanggjjaaGreatDoor
open Go.RowKit
open Go.ChangeShapes Go.WideShapes Go.ChangeAt Go.Joins
theorem in64_wf {n : Int} (h : (Lit.int .i64 n).wf = true) : In64 n := by
 unfold In64
 simp only [Lit.wf, Bool.and_eq_true, decide_eq_true_eq] at h
 exact h
set_option maxRecDepth 100000 in
theorem qcR {H : Type} {enc : TypeId × Value → H} {W : World} {fuel : Nat} {v : Value} {y : DataW H × List MemPlace}
  (hf : DataW.trod enc Tryz.prog W 0 (fun _ => true) true fuel 22 [v] = some y) : ∃ a n c ns, v = .slice a n c ∧ NdsIn W a n c ns ∧ ∀ z ∈ ns, In64 z.i := by
 rcases Deep.open_slice Tryz.underlying22 hf with ⟨hcs, hx⟩ | ⟨a, len, cap, m, n, D, Pl, hcs, hb, hl, hm, hmm, hx, hi⟩
 · simp at hcs
   subst hcs
   exact ⟨_, _, _, [], rfl, ⟨rfl, Nat.le_refl _, fun h => absurd h (Nat.lt_irrefl _)⟩, fun z hz => by cases hz⟩
 · simp at hcs
   subst hcs
   simp only [if_true] at hmm
   subst hmm
   rcases Nat.eq_zero_or_pos len with h0 | h0
   · subst h0
     exact ⟨_, _, _, [], rfl, ⟨rfl, Nat.zero_le _, fun h => absurd h (Nat.lt_irrefl _)⟩, fun z hz => by cases hz⟩
   obtain ⟨f0, f1, f2, f3, f4, f5, f6, f7, hst, ty0, ty1, ty2, ty3, ty4, ty5, ty6, ty7, hone⟩ := nodeFields
   have key : ∀ i, i < m → ∃ x : Nd, W.cell? (a.add (i * 8)) = some (.int .i64 x.k) ∧ W.cell? (a.add (i * 8 + 1)) = some (.int .i64 x.a) ∧ W.cell? (a.add (i * 8 + 2)) = some (.int .i64 x.b) ∧ W.cell? (a.add (i * 8 + 3)) = some (.int .i64 x.c) ∧ W.cell? (a.add (i * 8 + 4)) = some (.int .i64 x.x) ∧ W.cell? (a.add (i * 8 + 5)) = some (.int .i64 x.i) ∧ W.cell? (a.add (i * 8 + 6)) = some (.string x.s) ∧ W.cell? (a.add (i * 8 + 7)) = some (.string x.t) ∧ In64 x.i := by
    intro i him
    obtain ⟨cs', hc, ht'⟩ := hi i him
    rw [nodeCells] at hc
    obtain ⟨ys, n', hn', hy, hlen, hyl, hf'⟩ := DataW.trod_struct hst ht'
    obtain ⟨_, hcl, hat⟩ := World.cells?_some hc
    match cs', hcl, hf', hat with
    | [x0, x1, x2, x3, x4, x5, x6, x7], _, hf', hat =>
     obtain ⟨o0, k0⟩ := Deep.hone_of hone 0 f0 rfl
     obtain ⟨o1, k1⟩ := Deep.hone_of hone 1 f1 rfl
     obtain ⟨o2, k2⟩ := Deep.hone_of hone 2 f2 rfl
     obtain ⟨o3, k3⟩ := Deep.hone_of hone 3 f3 rfl
     obtain ⟨o4, k4⟩ := Deep.hone_of hone 4 f4 rfl
     obtain ⟨o5, k5⟩ := Deep.hone_of hone 5 f5 rfl
     obtain ⟨o6, k6⟩ := Deep.hone_of hone 6 f6 rfl
     obtain ⟨o7, k7⟩ := Deep.hone_of hone 7 f7 rfl
     have g0 := hf' 0 f0 rfl
     have g1 := hf' 1 f1 rfl
     have g2 := hf' 2 f2 rfl
     have g3 := hf' 3 f3 rfl
     have g4 := hf' 4 f4 rfl
     have g5 := hf' 5 f5 rfl
     have g6 := hf' 6 f6 rfl
     have g7 := hf' 7 f7 rfl
     rw [o0, k0, ty0] at g0
     rw [o1, k1, ty1] at g1
     rw [o2, k2, ty2] at g2
     rw [o3, k3, ty3] at g3
     rw [o4, k4, ty4] at g4
     rw [o5, k5, ty5] at g5
     rw [o6, k6, ty6] at g6
     rw [o7, k7, ty7] at g7
     match ys, hyl with
     | [y0, y1, y2, y3, y4, y5, y6, y7], _ =>
      obtain ⟨z0, e0, _, _⟩ := DataW.trod_int Tryz.underlying3 g0
      obtain ⟨z1, e1, _, _⟩ := DataW.trod_int Tryz.underlying3 g1
      obtain ⟨z2, e2, _, _⟩ := DataW.trod_int Tryz.underlying3 g2
      obtain ⟨z3, e3, _, _⟩ := DataW.trod_int Tryz.underlying3 g3
      obtain ⟨z4, e4, _, _⟩ := DataW.trod_int Tryz.underlying3 g4
      obtain ⟨z5, e5, _, f5⟩ := DataW.trod_int Tryz.underlying2 g5
      obtain ⟨z6, e6, _, _⟩ := DataW.trod_string Tryz.underlying9 g6
      obtain ⟨z7, e7, _, _⟩ := DataW.trod_string Tryz.underlying9 g7
      simp at e0 e1 e2 e3 e4 e5 e6 e7
      subst e0 e1 e2 e3 e4 e5 e6 e7
      have b0 := hat 0 zal
      have b1 := hat 1 zal
      have b2 := hat 2 zal
      have b3 := hat 3 zal
      have b4 := hat 4 zal
      have b5 := hat 5 zal
      have b6 := hat 6 zal
      have b7 := hat 7 zal
      rw [Deep.add_add] at b0 b1 b2 b3 b4 b5 b6 b7
      exact ⟨⟨z0, z1, z2, z3, z4, z5, z6, z7⟩, by simpa using b0, by simpa using b1, by simpa using b2, by simpa using b3, by simpa using b4, by simpa using b5, by simpa using b6, by simpa using b7, in64_wf f5⟩
   obtain ⟨ab, ao, spot⟩ := a
   have hspot : spot = none := by
    obtain ⟨x, hx0, _⟩ := key 0 zal
    simpa [Addr.add] using World.cell?_spot hx0
   subst hspot
   obtain ⟨l, hlen, hp⟩ := list_ofN len (fun i (x : Nd) => W.cell? ((⟨ab, ao, none⟩ : Addr).add (i * 8)) = some (.int .i64 x.k) ∧ W.cell? ((⟨ab, ao, none⟩ : Addr).add (i * 8 + 1)) = some (.int .i64 x.a) ∧ W.cell? ((⟨ab, ao, none⟩ : Addr).add (i * 8 + 2)) = some (.int .i64 x.b) ∧ W.cell? ((⟨ab, ao, none⟩ : Addr).add (i * 8 + 3)) = some (.int .i64 x.c) ∧ W.cell? ((⟨ab, ao, none⟩ : Addr).add (i * 8 + 4)) = some (.int .i64 x.x) ∧ W.cell? ((⟨ab, ao, none⟩ : Addr).add (i * 8 + 5)) = some (.int .i64 x.i) ∧ W.cell? ((⟨ab, ao, none⟩ : Addr).add (i * 8 + 6)) = some (.string x.s) ∧ W.cell? ((⟨ab, ao, none⟩ : Addr).add (i * 8 + 7)) = some (.string x.t) ∧ In64 x.i) (fun i hi => key i zal)
   refine ⟨_, _, _, l, rfl, ⟨hlen, by omega, fun _ => ⟨ab, ao, rfl, ?_, fun j z hz => ?_⟩⟩, fun z hz => ?_⟩
   · obtain ⟨x, hx0, _⟩ := key 0 zal
     exact World.block_lt_of_cell? W _ hx0
   · have hx := hp j z hz
     simp only [Addr.add_lit] at hx
     obtain ⟨x0, x1, x2, x3, x4, x5, x6, x7, _⟩ := hx
     exact ⟨x0, by rw [Nat.add_assoc]; exact x1, by rw [Nat.add_assoc]; exact x2, by rw [Nat.add_assoc]; exact x3, by rw [Nat.add_assoc]; exact x4, by rw [Nat.add_assoc]; exact x5, by rw [Nat.add_assoc]; exact x6, by rw [Nat.add_assoc]; exact x7⟩
   · obtain ⟨j, hj⟩ := List.getElem?_of_mem hz
     exact (hp j z hj).2.2.2.2.2.2.2.2
end Go.Proofs.YtijmfpoanggjjaaGreatDoor
