/- Lemmas for the claim (texts NdA, what its proof uses of them). -/
import Derived.Test.YtpoeknndkccbaaaGreatM01
import Derived.Test.YtpoeknndkccbaaaGreatM04
import Derived.OpenShut
import Derived.Deep.Slices
import Derived.Deep.Fields
set_option linter.unusedSimpArgs false
set_option linter.unusedVariables false
set_option maxRecDepth 100000
namespace Go.Proofs.YtpoeknndkccbaaaGreat
open Go.RowKit
/-- nodes from a place on -/
def NdsAt (g o : Nat) (ns : List Nd) (w : World) : Prop := ∀ j z, ns[j]? = some z →
 w.cell? ⟨g, o + j * 8, none⟩ = some (.int .i64 z.k) ∧ w.cell? ⟨g, o + j * 8 + 1, none⟩ = some (.int .i64 z.a) ∧ w.cell? ⟨g, o + j * 8 + 2, none⟩ = some (.int .i64 z.b) ∧ w.cell? ⟨g, o + j * 8 + 3, none⟩ = some (.int .i64 z.c) ∧ w.cell? ⟨g, o + j * 8 + 4, none⟩ = some (.int .i64 z.x) ∧ w.cell? ⟨g, o + j * 8 + 5, none⟩ = some (.int .i64 z.i) ∧ w.cell? ⟨g, o + j * 8 + 6, none⟩ = some (.string z.s) ∧ w.cell? ⟨g, o + j * 8 + 7, none⟩ = some (.string z.t)
/-- a slice of nodes that came in -/
def NdsIn (w : World) (p : Option Addr) (n c : Nat) (ns : List Nd) : Prop := ns.length = n ∧ n ≤ c ∧ (0 < n → ∃ g o, p = some ⟨g, o, none⟩ ∧ g < w.heap.size ∧ NdsAt g o ns w)
theorem NdsIn.ext {w w' : World} {p : Option Addr} {n c : Nat} {ns : List Nd} (h : NdsIn w p n c ns) (hx : Ext w w') : NdsIn w' p n c ns := by
 obtain ⟨h1, h2, h3⟩ := h
 refine ⟨h1, h2, fun hn => ?_⟩
 obtain ⟨g, o, hp, hg, ha⟩ := h3 hn
 refine ⟨g, o, hp, Nat.lt_of_lt_of_le hg hx.size, fun j z hz => ?_⟩
 have e := fun i => World.cell?_of_block (w := w) (w' := w') (a := ⟨g, i, none⟩) (hx.below.block g hg)
 obtain ⟨a0, a1, a2, a3, a4, a5, a6, a7⟩ := ha j z hz
 exact ⟨(e _).trans a0, (e _).trans a1, (e _).trans a2, (e _).trans a3, (e _).trans a4, (e _).trans a5, (e _).trans a6, (e _).trans a7⟩
open Go.ChangeShapes Go.WideShapes Go.ChangeAt Go.Joins
theorem nodeCells : Tryz.prog.cellsOf 42 = 8 := by kernel_rfl
theorem nodeFields : ∃ f0 f1 f2 f3 f4 f5 f6 f7 : Field, Tryz.prog.underlying 42 = some (.struct #[f0, f1, f2, f3, f4, f5, f6, f7]) ∧ f0.type = 3 ∧ f1.type = 3 ∧ f2.type = 3 ∧ f3.type = 3 ∧ f4.type = 3 ∧ f5.type = 2 ∧ f6.type = 9 ∧ f7.type = 9 ∧ Deep.oneCellFields Tryz.prog #[f0, f1, f2, f3, f4, f5, f6, f7] = true := ⟨_, _, _, _, _, _, _, _, Tryz.underlying42, rfl, rfl, rfl, rfl, rfl, rfl, rfl, rfl, by kernel_rfl⟩
theorem list_ofN {α : Type} (len : Nat) (P : Nat → α → Prop) (h : ∀ i, i < len → ∃ a, P i a) : ∃ l : List α, l.length = len ∧ ∀ j a, l[j]? = some a → P j a := by
 induction len with
 | zero => exact ⟨[], rfl, fun j a hj => by simp at hj⟩
 | succ n ih =>
  obtain ⟨l, hl, hp⟩ := ih (fun i hi => h i zaf)
  obtain ⟨a, ha⟩ := h n zaf
  refine ⟨l ++ [a], by simp [hl], fun j b hj => ?_⟩
  rw [List.getElem?_append] at hj
  split at hj
  · exact hp j b hj
  · have : j = l.length := by
      have := (List.getElem?_eq_some_iff.1 hj).1
      simp at this; omega
    subst this
    simp at hj
    subst hj
    rw [hl]; exact ha
theorem open_nodesF {H : Type} {enc : TypeId × Value → H} {W : World} {fuel : Nat} {v : Value} {y : DataW H × List MemPlace}
  (hf : DataW.trod enc Tryz.prog W 0 (fun _ => true) true fuel 22 [v] = some y) : ∃ a n c ns, v = .slice a n c ∧ NdsIn W a n c ns := by
 rcases Deep.open_slice Tryz.underlying22 hf with ⟨hcs, hx⟩ | ⟨a, len, cap, m, n, D, Pl, hcs, hb, hl, hm, hmm, hx, hi⟩
 · simp at hcs
   subst hcs
   exact ⟨_, _, _, [], rfl, rfl, Nat.le_refl _, fun h => absurd h (Nat.lt_irrefl _)⟩
 · simp at hcs
   subst hcs
   simp only [if_true] at hmm
   subst hmm
   rcases Nat.eq_zero_or_pos len with h0 | h0
   · subst h0
     exact ⟨_, _, _, [], rfl, rfl, Nat.zero_le _, fun h => absurd h (Nat.lt_irrefl _)⟩
   obtain ⟨f0, f1, f2, f3, f4, f5, f6, f7, hst, ty0, ty1, ty2, ty3, ty4, ty5, ty6, ty7, hone⟩ := nodeFields
   have key : ∀ i, i < m → ∃ x : Nd, W.cell? (a.add (i * 8)) = some (.int .i64 x.k) ∧ W.cell? (a.add (i * 8 + 1)) = some (.int .i64 x.a) ∧ W.cell? (a.add (i * 8 + 2)) = some (.int .i64 x.b) ∧ W.cell? (a.add (i * 8 + 3)) = some (.int .i64 x.c) ∧ W.cell? (a.add (i * 8 + 4)) = some (.int .i64 x.x) ∧ W.cell? (a.add (i * 8 + 5)) = some (.int .i64 x.i) ∧ W.cell? (a.add (i * 8 + 6)) = some (.string x.s) ∧ W.cell? (a.add (i * 8 + 7)) = some (.string x.t) := by
    intro i him
    obtain ⟨cs', hc, ht'⟩ := hi i him
    rw [nodeCells] at hc
    obtain ⟨ys, n', hn', hy, hlen, hyl, hf'⟩ := DataW.trod_struct hst ht'
    obtain ⟨_, hcl, hat⟩ := World.cells?_some hc
    match cs', hcl, hf', hat with
    | [x0, x1, x2, x3, x4, x5, x6, x7], _, hf', hat =>
     obtain ⟨o0, k0⟩ := Deep.hone_of hone 0 f0 rfl
     obtain ⟨o1, k1⟩ := Deep.hone_of hone 1 f1 rfl
     obtain ⟨o2, k2⟩ := Deep.hone_of hone 2 f2 rfl
     obtain ⟨o3, k3⟩ := Deep.hone_of hone 3 f3 rfl
     obtain ⟨o4, k4⟩ := Deep.hone_of hone 4 f4 rfl
     obtain ⟨o5, k5⟩ := Deep.hone_of hone 5 f5 rfl
     obtain ⟨o6, k6⟩ := Deep.hone_of hone 6 f6 rfl
     obtain ⟨o7, k7⟩ := Deep.hone_of hone 7 f7 rfl
     have g0 := hf' 0 f0 rfl
     have g1 := hf' 1 f1 rfl
     have g2 := hf' 2 f2 rfl
     have g3 := hf' 3 f3 rfl
     have g4 := hf' 4 f4 rfl
     have g5 := hf' 5 f5 rfl
     have g6 := hf' 6 f6 rfl
     have g7 := hf' 7 f7 rfl
     rw [o0, k0, ty0] at g0
     rw [o1, k1, ty1] at g1
     rw [o2, k2, ty2] at g2
     rw [o3, k3, ty3] at g3
     rw [o4, k4, ty4] at g4
     rw [o5, k5, ty5] at g5
     rw [o6, k6, ty6] at g6
     rw [o7, k7, ty7] at g7
     match ys, hyl with
     | [y0, y1, y2, y3, y4, y5, y6, y7], _ =>
      obtain ⟨z0, e0, _, _⟩ := DataW.trod_int Tryz.underlying3 g0
      obtain ⟨z1, e1, _, _⟩ := DataW.trod_int Tryz.underlying3 g1
      obtain ⟨z2, e2, _, _⟩ := DataW.trod_int Tryz.underlying3 g2
      obtain ⟨z3, e3, _, _⟩ := DataW.trod_int Tryz.underlying3 g3
      obtain ⟨z4, e4, _, _⟩ := DataW.trod_int Tryz.underlying3 g4
      obtain ⟨z5, e5, _, _⟩ := DataW.trod_int Tryz.underlying2 g5
      obtain ⟨z6, e6, _, _⟩ := DataW.trod_string Tryz.underlying9 g6
      obtain ⟨z7, e7, _, _⟩ := DataW.trod_string Tryz.underlying9 g7
      simp at e0 e1 e2 e3 e4 e5 e6 e7
      subst e0 e1 e2 e3 e4 e5 e6 e7
      have b0 := hat 0 zaf
      have b1 := hat 1 zaf
      have b2 := hat 2 zaf
      have b3 := hat 3 zaf
      have b4 := hat 4 zaf
      have b5 := hat 5 zaf
      have b6 := hat 6 zaf
      have b7 := hat 7 zaf
      rw [Deep.add_add] at b0 b1 b2 b3 b4 b5 b6 b7
      exact ⟨⟨z0, z1, z2, z3, z4, z5, z6, z7⟩, by simpa using b0, by simpa using b1, by simpa using b2, by simpa using b3, by simpa using b4, by simpa using b5, by simpa using b6, by simpa using b7⟩
   obtain ⟨ab, ao, spot⟩ := a
   have hspot : spot = none := by
    obtain ⟨x, hx0, _⟩ := key 0 zaf
    simpa [Addr.add] using World.cell?_spot hx0
   subst hspot
   obtain ⟨l, hlen, hp⟩ := list_ofN len (fun i (x : Nd) => W.cell? ((⟨ab, ao, none⟩ : Addr).add (i * 8)) = some (.int .i64 x.k) ∧ W.cell? ((⟨ab, ao, none⟩ : Addr).add (i * 8 + 1)) = some (.int .i64 x.a) ∧ W.cell? ((⟨ab, ao, none⟩ : Addr).add (i * 8 + 2)) = some (.int .i64 x.b) ∧ W.cell? ((⟨ab, ao, none⟩ : Addr).add (i * 8 + 3)) = some (.int .i64 x.c) ∧ W.cell? ((⟨ab, ao, none⟩ : Addr).add (i * 8 + 4)) = some (.int .i64 x.x) ∧ W.cell? ((⟨ab, ao, none⟩ : Addr).add (i * 8 + 5)) = some (.int .i64 x.i) ∧ W.cell? ((⟨ab, ao, none⟩ : Addr).add (i * 8 + 6)) = some (.string x.s) ∧ W.cell? ((⟨ab, ao, none⟩ : Addr).add (i * 8 + 7)) = some (.string x.t)) (fun i hi => key i zaf)
   refine ⟨_, _, _, l, rfl, hlen, by omega, fun _ => ⟨ab, ao, rfl, ?_, fun j z hz => ?_⟩⟩
   · obtain ⟨x, hx0, _⟩ := key 0 zaf
     exact World.block_lt_of_cell? W _ hx0
   · have hx := hp j z hz
     simp only [Addr.add_lit] at hx
     obtain ⟨x0, x1, x2, x3, x4, x5, x6, x7⟩ := hx
     exact ⟨x0, by rw [Nat.add_assoc]; exact x1, by rw [Nat.add_assoc]; exact x2, by rw [Nat.add_assoc]; exact x3, by rw [Nat.add_assoc]; exact x4, by rw [Nat.add_assoc]; exact x5, by rw [Nat.add_assoc]; exact x6, by rw [Nat.add_assoc]; exact x7⟩
end Go.Proofs.YtpoeknndkccbaaaGreat
