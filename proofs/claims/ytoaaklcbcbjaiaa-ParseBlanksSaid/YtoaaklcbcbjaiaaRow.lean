/- The last frame of a law's row, once for all laws: what came in reads as it did in every world that has only grown; bytes that came in, as a list. -/
import Derived.Test.YtoaaklcbcbjaiaaVoc
import Derived.Carry
import Derived.SizedLaws
import Derived.ChangeSlices
import Derived.Lib.SmallJoins
set_option linter.unusedSimpArgs false
set_option linter.unusedVariables false
namespace Go.Proofs.Ytoaaklcbcbjaiaa
open Go.RowKit Go.ChangeShapes Go.WideShapes Go.ChangeAt Go.Joins

/-- what came in reads as it did -/
theorem trodAll_below {H : Type} {enc : TypeId × Value → H} {P : Program} (hl : laidOutB P = true) {W W' : World} (hb : Below W.heap.size W W') :
    ∀ {ts : List TypeId} {vs : List Value} {ds : List (DataW H)} {ps : List MemPlace}, ts.all (fun t => P.readableRec t && decide (t < P.types.size)) = true → DataW.TrodAll enc P W 0 (fun _ => true) true ts vs ds ps → (∀ x ∈ ps, x.block < W.heap.size) → DataW.TrodAll enc P W' 0 (fun b => decide (b < W.heap.size)) true ts vs ds ps
  | [], [], [], _, _, h, _ => h
  | [], _ :: _, _, _, _, h, _ => h.elim
  | [], [], _ :: _, _, _, h, _ => h.elim
  | _ :: _, [], _, _, _, h, _ => h.elim
  | _ :: _, _ :: _, [], _, _, h, _ => h.elim
  | t :: ts, v :: vs, d :: ds, ps, hr, ⟨p, q, h1, h2, e⟩, hlt => by
    simp only [List.all_cons, Bool.and_eq_true, decide_eq_true_eq] at hr
    exact ⟨p, q, Below.trod hl hr.1.1 hr.1.2 h1 hb (fun x hx => hlt x (by rw [e]; simp [hx])), trodAll_below hl hb hr.2 h2 (fun x hx => hlt x (by rw [e]; simp [hx])), e⟩

/-- bytes that lie in a row -/
def BytesAt (w : World) (b off : Nat) (l : List UInt8) : Prop := ∀ j u, l[j]? = some u → w.cell? ⟨b, off + j, none⟩ = some (.int .u8 (u.toNat : Int))
/-- a slice of bytes that came in -/
def RowB (w : World) (v : Value) (l : List UInt8) : Prop :=
  (∃ p cap, v = .slice p 0 cap ∧ cap ≤ 140737488351232 ∧ l = []) ∨ ∃ b off cap, v = .slice (some ⟨b, off, none⟩) l.length cap ∧ l.length ≤ cap ∧ cap ≤ 140737488351232 ∧ BytesAt w b off l

theorem open_bytesR {H : Type} {enc : TypeId × Value → H} {P : Program} {W : World} {base : Nat} {t e : TypeId} (ht : P.underlying t = some (.slice e)) (he : P.underlying e = some (.int .u8)) (hc : P.cellsOf e = 1) (hby : P.bytesOf e = 1)
    {ts : List TypeId} {ds : List (DataW H)} {j : Nat} {v : Value} {d : DataW H} {p : List MemPlace} (hval : Value.okWide P W .any base t v) (hd : DataW.Trod enc P W 0 (fun _ => true) true t v d p)
    (hs : (DataW.weightsEach P ts ds).all (· ≤ reachBytes) = true) (htj : ts[j]? = some t) (hdj : ds[j]? = some d) : ∃ l, RowB W v l := by
  obtain ⟨a1, len, cap, rfl⟩ := okWide_slice ht hval
  obtain ⟨fuel, hf⟩ := hd
  rcases open_ints ht he hc hf with ⟨hcs, hx⟩ | ⟨a, len', cap', zs, hcs, _, hl, hm, hz, hx, hcell, hwz⟩
  · simp [Value.cells] at hcs
    obtain ⟨rfl, rfl, rfl⟩ := hcs
    exact ⟨[], Or.inl ⟨none, 0, rfl, by omega, rfl⟩⟩
  · simp [Value.cells] at hcs
    obtain ⟨rfl, rfl, rfl⟩ := hcs
    simp only [Prod.mk.injEq] at hx
    obtain ⟨rfl, rfl⟩ := hx
    simp only [if_true] at hz
    have hr := sized_slice hs htj hdj ht
    rw [hby] at hr
    have hr' : cap ≤ 140737488351232 := by
      have e1 : (lits (H := H) .u8 (zs.take len)).length + (lits (H := H) .u8 (zs.drop len)).length = cap := by simp [lits]; omega
      rw [e1] at hr
      have : reachBytes = 140737488351232 := by decide
      omega
    have hlen : ((zs.take len).map fun n => UInt8.ofNat n.toNat).length = len := by simp; omega
    rcases Nat.eq_zero_or_pos len with h0 | h0
    · subst h0
      exact ⟨[], Or.inl ⟨some a, cap, rfl, hr', rfl⟩⟩
    · obtain ⟨ab, ao, spot⟩ := a
      have hspot : spot = none := by simpa [Addr.add] using World.cell?_spot (hcell 0 (by omega))
      subst hspot
      refine ⟨(zs.take len).map fun n => UInt8.ofNat n.toNat, Or.inr ⟨ab, ao, cap, by rw [hlen], by omega, hr', ?_⟩⟩
      intro j u hj
      simp only [List.getElem?_map, Option.map_eq_some_iff] at hj
      obtain ⟨z, hz1, rfl⟩ := hj
      have hz2 : zs[j]? = some z := by
        rw [List.getElem?_take] at hz1
        split at hz1
        · exact hz1
        · simp at hz1
      have hjl := (List.getElem?_eq_some_iff.1 hz2).1
      have hcj := hcell j hjl
      rw [Addr.add_lit] at hcj
      rw [hcj]
      have hwf := hwz z (List.mem_of_getElem? hz2)
      simp only [Lit.wf, Bool.and_eq_true, decide_eq_true_eq] at hwf
      have e1 : zs.getD j 0 = z := by simp [List.getD, hz2]
      rw [e1]
      congr 2
      simp only [UInt8.toNat_ofNat']
      have h1 : 0 ≤ z ∧ z < 256 := by
        have := hwf
        simp [IntKind.min, IntKind.max, IntKind.bits, IntKind.signed] at this
        omega
      omega
end Go.Proofs.Ytoaaklcbcbjaiaa
