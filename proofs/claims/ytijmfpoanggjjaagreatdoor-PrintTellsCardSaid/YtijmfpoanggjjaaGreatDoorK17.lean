/- Lemmas for the claim (texts WrP, WrQ, WrT, what its proof uses of them). -/
import Derived.Test.YtijmfpoanggjjaaGreatDoorK10
import Derived.Test.YtijmfpoanggjjaaGreatDoorK16
import Derived.Lib.ItoaLen
set_option linter.unusedSimpArgs false
set_option linter.unusedVariables false
namespace Go.Proofs.YtijmfpoanggjjaaGreatDoor
open Go.RowKit
attribute [go_sem] more_more Array.size_append
theorem qbE {n : Int} (h : In64 n) : -9223372036854775808 ≤ n := h.1
theorem qbB {n : Int} (h : In64 n) : n ≤ 9223372036854775807 := h.2
def closeN (ns : List Nd) (i : Int) : Int := match ns[i.toNat]? with
 | some z => qar z.k z.s
 | none => 6
def qaN (E : Int → List UInt8) (ns : List Nd) (i least : Int) : List UInt8 := if least ≤ closeN ns i then E i else [40] ++ (E i ++ [41])
def callL (k : Int) : List UInt8 := if k = 5 then [103, 101, 116] else if k = 6 then [104, 97, 115] else if k = 7 then [108, 101, 110] else [115, 104, 111, 119]
def boolL (i : Int) : List UInt8 := if i = 1 then [116, 114, 117, 101] else [102, 97, 108, 115, 101]
def leftC (c : Int) : Int := if c = 2 then 3 else c
def txZ (E : Int → List UInt8) (ns : List Nd) (z : Nd) : List UInt8 :=
 if z.k = 0 then [110, 105, 108]
 else if z.k = 1 then boolL z.i
 else if z.k = 2 then Lib.itoa z.i
 else if z.k = 3 then (qbA z.s.data.toList).1
 else if z.k = 4 then z.s.data.toList
 else if z.k = 9 then [110, 111, 116, 32] ++ qaN E ns z.a 6
 else if z.k = 10 then [45] ++ qaN E ns z.a 6
 else if z.k = 11 then qaN E ns z.a (leftC (qar 11 z.s)) ++ ([32] ++ (z.s.data.toList ++ [32]) ++ qaN E ns z.b (qar 11 z.s + 1))
 else callL z.k ++ ([40] ++ (E z.a ++ [41]))
def txE (ns : List Nd) : Nat → Int → List UInt8
 | 0, _ => []
 | f + 1, i => match ns[i.toNat]? with
  | none => []
  | some z => txZ (txE ns f) ns z
theorem txE_at {ns : List Nd} {f j : Nat} {z : Nd} (hz : ns[j]? = some z) : txE ns (f + 1) (j : Int) = txZ (txE ns f) ns z := by
 show (match ns[(j : Int).toNat]? with | none => [] | some z => txZ (txE ns f) ns z) = _
 rw [Int.toNat_natCast, hz]
theorem closeN_at {ns : List Nd} {j : Nat} {z : Nd} (hz : ns[j]? = some z) : closeN ns (j : Int) = qar z.k z.s := by
 unfold closeN
 rw [Int.toNat_natCast, hz]
/-- an expr's place -/
def EK (ns : List Nd) (i : Int) : Prop := 0 ≤ i ∧ qaD ns i < 20
theorem qcb {ns : List Nd} {k f t : Int} (h : qab ns k f t false = true) (h0 : 0 ≤ f) : EK ns k := by
 unfold qab at h
 simp only [Bool.and_eq_true, decide_eq_true_eq, beq_iff_eq, Bool.false_eq, decide_eq_false_iff_not] at h
 exact ⟨by omega, by omega⟩
/-- what an expr's node has -/
theorem qen {ns : List Nd} {j : Nat} {z : Nd} (hz : ns[j]? = some z) (hb : nodeB ns j z = true) (hk : qaD ns (j : Int) < 20) : 0 ≤ z.k ∧ z.k ≤ 11 ∧ (5 ≤ z.k → EK ns z.a) ∧ (z.k = 11 → EK ns z.b) := by
 have hk2 : z.k < 20 := by
  unfold qaD at hk
  rw [Int.toNat_natCast, hz] at hk
  exact hk
 unfold nodeB qag at hb
 simp only [Bool.and_eq_true] at hb
 obtain ⟨⟨⟨h1, _⟩, _⟩, ⟨⟨ha, hbb⟩, _⟩, _⟩ := hb
 have hr : 0 ≤ z.k ∧ z.k ≤ 11 := by
  unfold qae at h1
  simp at h1
  omega
 refine ⟨hr.1, hr.2, fun h5 => ?_, fun h11 => ?_⟩
 · unfold aB at ha
   have e : shA z.k = true := by
    unfold shA
    simp
    omega
   rw [e, if_pos rfl] at ha
   exact qcb ha (Int.le_refl 0)
 · unfold bB at hbb
   have e : shB z.k = true := by rw [h11]; rfl
   rw [e, if_pos rfl] at hbb
   exact qcb hbb (Int.le_refl 0)
theorem flat_le : ∀ s : List UInt8, (s.flatMap quo1).length ≤ 2 * s.length
 | [] => by simp
 | c :: t => by
  have ih := flat_le t
  rw [List.flatMap_cons, List.length_append, List.length_cons]
  have : (quo1 c).length ≤ 2 := by unfold quo1; split <;> (try split) <;> simp
  omega
theorem quoteF_le (s : List UInt8) : (qbA s).1.length ≤ 200 := by
 unfold qbA
 split
 · exact Nat.zero_le _
 · rename_i h
   split
   · have h2 : (s.flatMap quo1).length ≤ 2 * s.length := flat_le s
     simp only [List.length_cons, List.length_append, List.length_nil]
     omega
   · exact Nat.zero_le _
theorem qbb {i : Int} (h : In64 i) : (Lib.itoa i).length ≤ 25 := by
 obtain ⟨h0, h1⟩ := h
 unfold Lib.itoa
 split
 · have := dig_len i.natAbs zal
   simp only [List.length_cons]
   omega
 · have := dig_len i.toNat zal
   omega
theorem qaS {E : Int → List UInt8} {ns : List Nd} {i least : Int} {m : Nat} (h : (E i).length ≤ m) : (qaN E ns i least).length ≤ m + 2 := by
 unfold qaN
 split
 · omega
 · simp only [List.length_cons, List.length_append, List.length_nil]; omega
theorem qcj {ns : List Nd} {i : Int} {n : Nat} (t : Tr ns i n) (h : 0 ≤ i) : ∃ (j : Nat) (z : Nd) (na nb nc nx : Nat), i = (j : Int) ∧ ns[j]? = some z ∧ Tr ns z.a na ∧ Tr ns z.b nb ∧ Tr ns z.c nc ∧ Tr ns z.x nx ∧ n = 1 + (na + (nb + (nc + nx))) := by
 cases t with
 | neg h0 => omega
 | node hz ta tb tc tx => exact ⟨_, _, _, _, _, _, rfl, hz, ta, tb, tc, tx, rfl⟩
theorem qdU (s : ByteArray) : (-1 : Int) ≤ qar 11 s ∧ qar 11 s ≤ 6 := by
 unfold qar
 rw [if_neg zal, if_neg zal]
 cases h : qbI s.data.toList with
 | none => simp
 | some c =>
  have : 0 ≤ c ∧ c ≤ 5 := by
   unfold qbI at h
   obtain ⟨q, hq, rfl⟩ := Option.map_eq_some_iff.1 h
   have hm := List.mem_of_find?_eq_some hq
   have ha : ∀ q ∈ closeTab, 0 ≤ q.2 ∧ q.2 ≤ 5 := by decide
   exact ha q hm
  simp
  omega
/-- texts are no longer than this; numbers are an int64's -/
def Sz (ns : List Nd) : Prop := ∀ z ∈ ns, z.s.size ≤ 5000 ∧ z.t.size ≤ 5000 ∧ In64 z.i
theorem qbt {ns : List Nd} (hs : Sz ns) (hb : ∀ (j : Nat) (z : Nd), ns[j]? = some z → nodeB ns j z = true) : ∀ (f : Nat) (i : Int) (n : Nat), Tr ns i n → EK ns i → (txE ns f i).length ≤ 11000 * n := by
 intro f
 induction f with
 | zero => intro i n _ _; exact Nat.zero_le _
 | succ f ih =>
  intro i n t ⟨h0, hk⟩
  obtain ⟨j, z, na, nb, nc, nx, rfl, hz, ta, tb, _, _, rfl⟩ := qcj t h0
  obtain ⟨k0, k1, ka, kb⟩ := qen hz (hb j z hz) hk
  obtain ⟨s1, _, s3⟩ := hs z (List.mem_of_getElem? hz)
  have e1 : z.s.data.toList.length = z.s.size := by simp
  rw [txE_at hz]
  unfold txZ
  split
  · simp only [List.length_cons, List.length_nil]; omega
  split
  · unfold boolL; split <;> simp only [List.length_cons, List.length_nil] <;> omega
  split
  · have := qbb s3; omega
  split
  · have := quoteF_le z.s.data.toList; omega
  split
  · omega
  have hA := ih z.a na ta (ka zal)
  split
  · have := qaS (ns := ns) (least := 6) hA
    simp only [List.length_cons, List.length_append, List.length_nil]; omega
  split
  · have := qaS (ns := ns) (least := 6) hA
    simp only [List.length_cons, List.length_append, List.length_nil]; omega
  split
  · rename_i h11
    have hB := ih z.b nb tb (kb h11)
    have b1 := qaS (ns := ns) (least := leftC (qar 11 z.s)) hA
    have b2 := qaS (ns := ns) (least := qar 11 z.s + 1) hB
    simp only [List.length_cons, List.length_append, List.length_nil]; omega
  · have : (callL z.k).length ≤ 4 := by unfold callL; split <;> (try split) <;> (try split) <;> simp
    simp only [List.length_cons, List.length_append, List.length_nil]; omega
end Go.Proofs.YtijmfpoanggjjaaGreatDoor

namespace Go.Proofs.YtijmfpoanggjjaaGreatDoor
open Go.RowKit
attribute [go_sem] more_more Array.size_append
def qas (B : Int → List UInt8) (i : Int) : List UInt8 := [32, 123, 32] ++ (B i ++ [125])
def headL (k : Int) : List UInt8 := if k = 22 then [112, 117, 116, 32] else if k = 23 then [100, 101, 108, 101, 116, 101, 32] else if k = 27 then [97, 98, 111, 114, 116, 32] else [114, 101, 116, 117, 114, 110, 32]
def stmZ (E B : Int → List UInt8) (z : Nd) : List UInt8 :=
 if z.k = 24 then [105, 102, 32] ++ (E z.a ++ (qas B z.b ++ (if z.i = 1 then [32, 101, 108, 115, 101] ++ qas B z.c else [])))
 else if z.k = 25 then [102, 111, 114, 32] ++ (z.s.data.toList ++ ([44, 32] ++ (z.t.data.toList ++ ([32, 105, 110, 32, 115, 99, 97, 110, 40] ++ (E z.a ++ ([44, 32] ++ (Lib.itoa z.i ++ ([41] ++ qas B z.b))))))))
 else if z.k = 26 then [114, 101, 112, 101, 97, 116, 32] ++ (Lib.itoa z.i ++ qas B z.b)
 else if z.k = 20 then [108, 101, 116, 32] ++ (z.s.data.toList ++ ([32, 61, 32] ++ (E z.a ++ [59])))
 else if z.k = 21 then [115, 101, 116, 32] ++ (z.s.data.toList ++ ([32, 61, 32] ++ (E z.a ++ [59])))
 else headL z.k ++ (E z.a ++ ((if z.k = 22 then [44, 32] ++ E z.b else []) ++ [59]))
def txB (ns : List Nd) : Nat → Int → List UInt8
 | 0, _ => []
 | f + 1, i => if i < 0 then [] else match ns[i.toNat]? with
  | none => []
  | some z => stmZ (txE ns ns.length) (txB ns f) z ++ ([10] ++ txB ns f z.x)
theorem txB_neg (ns : List Nd) (f : Nat) {i : Int} (h : i < 0) : txB ns f i = [] := by
 cases f with
 | zero => rfl
 | succ f => unfold txB; rw [if_pos h]
theorem txB_at {ns : List Nd} {f j : Nat} {z : Nd} (hz : ns[j]? = some z) : txB ns (f + 1) (j : Int) = stmZ (txE ns ns.length) (txB ns f) z ++ ([10] ++ txB ns f z.x) := by
 show (if (j : Int) < 0 then [] else match ns[(j : Int).toNat]? with | none => [] | some z => stmZ (txE ns ns.length) (txB ns f) z ++ ([10] ++ txB ns f z.x)) = _
 rw [Int.toNat_natCast, hz, if_neg zal]
/-- none, or a statement's place -/
def SK (ns : List Nd) (i : Int) : Prop := i < 0 ∨ 20 ≤ qaD ns i
theorem takes_sk {ns : List Nd} {k f t : Int} (h : qab ns k f t true = true) : SK ns k := by
 unfold qab at h
 simp only [Bool.and_eq_true, decide_eq_true_eq, beq_iff_eq] at h
 exact Or.inr (by have := h.2; simpa using this.symm)
theorem qdG {ns : List Nd} {k i : Int} (h : blkB ns k i = true) : SK ns k := by
 unfold blkB at h
 rcases Bool.or_eq_true _ _ ▸ h with e | e
 · exact Or.inl (by have := beq_iff_eq.1 e; omega)
 · exact takes_sk e
/-- what a statement's node has -/
theorem qbj {ns : List Nd} {j : Nat} {z : Nd} (hz : ns[j]? = some z) (hb : nodeB ns j z = true) (hk : 20 ≤ qaD ns (j : Int)) : 20 ≤ z.k ∧ z.k ≤ 28 ∧ (z.k ≠ 26 → EK ns z.a) ∧ (z.k = 22 → EK ns z.b) ∧ (z.k = 24 ∨ z.k = 25 ∨ z.k = 26 → SK ns z.b) ∧ SK ns z.c ∧ SK ns z.x := by
 have hk2 : 20 ≤ z.k := by
  unfold qaD at hk
  rw [Int.toNat_natCast, hz] at hk
  exact hk
 unfold nodeB qag at hb
 simp only [Bool.and_eq_true] at hb
 obtain ⟨⟨⟨h1, _⟩, _⟩, ⟨⟨ha, hbb⟩, hcc⟩, hx⟩ := hb
 have hr : z.k ≤ 28 := by
  unfold qae at h1
  simp at h1
  omega
 refine ⟨hk2, hr, fun h5 => ?_, fun h22 => ?_, fun h246 => ?_, ?_, ?_⟩
 · unfold aB at ha
   have e : shA z.k = true := by
    unfold shA
    simp
    omega
   rw [e, if_pos rfl] at ha
   exact qcb ha (Int.le_refl 0)
 · unfold bB at hbb
   have e : shB z.k = true := by rw [h22]; rfl
   rw [e, if_pos rfl] at hbb
   exact qcb hbb (Int.le_refl 0)
 · unfold bB at hbb
   have e : shB z.k = false := by rcases h246 with e | e | e <;> rw [e] <;> rfl
   have e2 : shBB z.k = true := by rcases h246 with e | e | e <;> rw [e] <;> rfl
   rw [e, e2, if_neg zaq, if_pos rfl] at hbb
   exact qdG hbb
 · unfold cB at hcc
   rcases Bool.or_eq_true _ _ ▸ hcc with e | e
   · exact Or.inl (by have := beq_iff_eq.1 e; omega)
   · exact qdG (Bool.and_eq_true _ _ ▸ e).2
 · unfold xB at hx
   rcases Bool.or_eq_true _ _ ▸ hx with e | e
   · exact Or.inl (by have := beq_iff_eq.1 e; omega)
   · exact takes_sk (Bool.and_eq_true _ _ ▸ e).2
theorem qec {E B : Int → List UInt8} {z : Nd} {na nb nc : Nat} (hs : z.s.size ≤ 5000) (ht : z.t.size ≤ 5000) (hi : In64 z.i) (hA : z.k ≠ 26 → (E z.a).length ≤ 11000 * na) (hB : z.k = 22 → (E z.b).length ≤ 11000 * nb) (hBB : z.k = 24 ∨ z.k = 25 ∨ z.k = 26 → (B z.b).length ≤ 11000 * nb) (hC : (B z.c).length ≤ 11000 * nc) : (stmZ E B z).length ≤ 10500 + 11000 * (na + (nb + nc)) := by
 have e1 : z.s.data.toList.length = z.s.size := by simp
 have e2 : z.t.data.toList.length = z.t.size := by simp
 have e3 := qbb hi
 unfold stmZ qas
 split
 · rename_i h
   have := hA zal; have := hBB zal
   split <;> simp only [List.length_cons, List.length_append, List.length_nil] <;> omega
 split
 · rename_i h
   have := hA zal; have := hBB zal
   simp only [List.length_cons, List.length_append, List.length_nil]; omega
 split
 · rename_i h
   have := hBB zal
   simp only [List.length_cons, List.length_append, List.length_nil]; omega
 have := hA ‹_›
 split
 · simp only [List.length_cons, List.length_append, List.length_nil]; omega
 split
 · simp only [List.length_cons, List.length_append, List.length_nil]; omega
 have : (headL z.k).length ≤ 7 := by unfold headL; split <;> (try split) <;> (try split) <;> simp
 split
 · rename_i h
   have := hB h
   simp only [List.length_cons, List.length_append, List.length_nil]; omega
 · simp only [List.length_cons, List.length_append, List.length_nil]; omega
theorem qbC {ns : List Nd} (hs : Sz ns) (hb : ∀ (j : Nat) (z : Nd), ns[j]? = some z → nodeB ns j z = true) : ∀ (f : Nat) (i : Int) (n : Nat), Tr ns i n → SK ns i → (txB ns f i).length ≤ 11000 * n := by
 intro f
 induction f with
 | zero => intro i n _ _; exact Nat.zero_le _
 | succ f ih =>
  intro i n t hk
  by_cases hi : i < 0
  · rw [txB_neg ns _ hi]; exact Nat.zero_le _
  obtain ⟨j, z, na, nb, nc, nx, rfl, hz, ta, tb, tc, tx, rfl⟩ := qcj t zal
  obtain ⟨k0, k1, ka, kb, kbb, kc, kx⟩ := qbj hz (hb j z hz) (hk.resolve_left hi)
  obtain ⟨s1, s2, s3⟩ := hs z (List.mem_of_getElem? hz)
  rw [txB_at hz]
  have h1 := qec (E := txE ns ns.length) (B := txB ns f) (na := na) (nb := nb) (nc := nc) s1 s2 s3 (fun h => qbt hs hb _ _ _ ta (ka h)) (fun h => qbt hs hb _ _ _ tb (kb h)) (fun h => ih _ _ tb (kbb h)) (ih _ _ tc kc)
  have h2 := ih _ _ tx kx
  simp only [List.length_cons, List.length_append, List.length_nil]; omega
end Go.Proofs.YtijmfpoanggjjaaGreatDoor

namespace Go.Proofs.YtijmfpoanggjjaaGreatDoor
open Go.RowKit
/-- only exprs, up to a place -/
def qbU (z : Nd) : Nd := if z.k < 20 then z else ⟨z.k, -1, -1, -1, -1, z.i, z.s, z.t⟩
def exs (ns : List Nd) (j : Nat) : List Nd := (ns.take (j + 1)).map qbU
theorem exs_at {ns : List Nd} {j i : Nat} {z : Nd} (h : (exs ns j)[i]? = some z) : i ≤ j ∧ ∃ y, ns[i]? = some y ∧ z = qbU y := by
 unfold exs at h
 rw [List.getElem?_map] at h
 obtain ⟨y, hy, rfl⟩ := Option.map_eq_some_iff.1 h
 have hlt := (List.getElem?_eq_some_iff.1 hy).1
 simp only [List.length_take] at hlt
 rw [List.getElem?_take] at hy
 split at hy
 · exact ⟨by omega, y, hy, rfl⟩
 · cases hy
theorem prefs_only (z : Nd) (k : Nat) : prefs (qbU z) k ≤ prefs z k := by
 unfold qbU
 split
 · exact Nat.le_refl _
 · unfold prefs pone
   dsimp only
   have : ((-1 : Int) = (k : Int)) = False := eq_false zal
   simp only [this, if_false]
   omega
theorem pcnt_exs (ns : List Nd) (j k : Nat) : pcnt (exs ns j) k ≤ pcnt ns k := by
 have h1 : ∀ l : List Nd, ((l.map qbU).map fun z => prefs z k).sum ≤ (l.map fun z => prefs z k).sum := by
  intro l
  induction l with
  | nil => simp
  | cons a l ih => simp only [List.map_cons, List.sum_cons]; have := prefs_only a k; omega
 have h2 : ((ns.take (j + 1)).map fun z => prefs z (k : Int)).sum ≤ (ns.map fun z => prefs z (k : Int)).sum := by
  conv => rhs; rw [← List.take_append_drop (j + 1) ns]
  rw [List.map_append, List.sum_append]; omega
 exact Nat.le_trans (h1 _) h2
theorem only_kids {ns : List Nd} {i : Nat} {y : Nd} (hy : ns[i]? = some y) (hb : nodeB ns i y = true) : (qbU y).a < i ∧ (qbU y).b < i ∧ (qbU y).c < i ∧ (qbU y).x < 0 := by
 unfold qbU
 split
 · rename_i hk
   unfold nodeB at hb
   simp only [Bool.and_eq_true] at hb
   obtain ⟨hh, ⟨⟨ha, hbb⟩, hc⟩, hx⟩ := hb
   have hhk : qae y.k = true := by unfold qag at hh; simp only [Bool.and_eq_true] at hh; exact hh.1.1
   have hr : 0 ≤ y.k ∧ y.k ≤ 11 := by unfold qae at hhk; simp at hhk; omega
   refine ⟨?_, ?_, ?_, ?_⟩
   · unfold aB at ha
     split at ha
     · exact (qbM ha).2
     · have : y.a = -1 := by simpa using ha
       omega
   · unfold bB at hbb
     split at hbb
     · exact (qbM hbb).2
     · split at hbb
       · exact qdn hbb zal
       · have : y.b = -1 := by simpa using hbb
         omega
   · unfold cB at hc
     rcases Bool.or_eq_true _ _ ▸ hc with e | e
     · have := beq_iff_eq.1 e; omega
     · exact qdn (Bool.and_eq_true _ _ ▸ e).2 zal
   · unfold xB at hx
     rcases Bool.or_eq_true _ _ ▸ hx with e | e
     · have := beq_iff_eq.1 e; omega
     · have h1 := (Bool.and_eq_true _ _ ▸ e).1
       simp only [decide_eq_true_eq] at h1
       omega
 · dsimp only; omega
theorem prefs_none (z : Nd) (k : Nat) (ha : z.a < k) (hb : z.b < k) (hc : z.c < k) (hx : z.x < k) : prefs z k = 0 := by
 unfold prefs pone
 rw [if_neg zal, if_neg zal, if_neg zal, if_neg zal]
theorem pcnt_none (l : List Nd) (k : Nat) (h : ∀ z ∈ l, prefs z k = 0) : pcnt l k = 0 := by
 unfold pcnt
 induction l with
 | nil => rfl
 | cons a l ih =>
  rw [List.map_cons, List.sum_cons, h a List.mem_cons_self, ih (fun z hz => h z (List.mem_cons_of_mem _ hz))]
theorem tr_exs {ns : List Nd} (hb : ∀ (j : Nat) (z : Nd), ns[j]? = some z → nodeB ns j z = true) {j : Nat} {i : Int} {n : Nat} (t : Tr (exs ns j) i n) : (0 ≤ i → qaD ns i < 20) → Tr ns i n := by
 induction t with
 | neg h => intro _; exact Tr.neg h
 | @node i z na nb nc nx hz ta tb tc tx iha ihb ihc ihx =>
  intro hk
  obtain ⟨hij, y, hy, rfl⟩ := exs_at hz
  have hk1 := hk zal
  have hyk : y.k < 20 := by
   unfold qaD at hk1
   rw [Int.toNat_natCast, hy] at hk1
   exact hk1
  have he : qbU y = y := by unfold qbU; rw [if_pos hyk]
  rw [he] at iha ihb ihc ihx
  have hnb := hb i y hy
  have hkk := qen hy hnb hk1
  have hkids := only_kids hy hnb
  rw [he] at hkids
  unfold nodeB at hnb
  simp only [Bool.and_eq_true] at hnb
  obtain ⟨_, ⟨⟨ha, hbb⟩, hc⟩, _⟩ := hnb
  refine Tr.node hy (iha fun h0 => ?_) (ihb fun h0 => ?_) (ihc fun h0 => ?_) (ihx fun h0 => by have := hkids.2.2.2; omega)
  · unfold aB at ha
    split at ha
    · exact (qcb ha (Int.le_refl 0)).2
    · have : y.a = -1 := by simpa using ha
      omega
  · unfold bB at hbb
    split at hbb
    · exact (qcb hbb (Int.le_refl 0)).2
    · split at hbb
      · rename_i h2
        unfold shBB at h2
        simp at h2
        omega
      · have : y.b = -1 := by simpa using hbb
        omega
  · unfold cB at hc
    rcases Bool.or_eq_true _ _ ▸ hc with e | e
    · have := beq_iff_eq.1 e; omega
    · have h2 := (Bool.and_eq_true _ _ ▸ e).1
      unfold shBC at h2
      simp at h2
      omega
/-- an expr's tree -/
theorem tr_at {ns : List Nd} {fi : Int} (h : mayB ns fi = true) {j : Nat} (hj : j < ns.length) (hk : qaD ns (j : Int) < 20) : ∃ n, n ≤ ns.length ∧ Tr ns (j : Int) n := by
 obtain ⟨h1, h2, h3, h4⟩ := qbk h
 have hlen : (exs ns j).length = j + 1 := by unfold exs; simp; omega
 have hkid : ∀ (i : Nat) (z : Nd), (exs ns j)[i]? = some z → i ≤ j ∧ z.a < (i : Int) ∧ z.b < (i : Int) ∧ z.c < (i : Int) ∧ z.x < 0 := fun i z hz => by
  obtain ⟨hij, y, hy, rfl⟩ := exs_at hz
  exact ⟨hij, only_kids hy (h2 i y hy)⟩
 obtain ⟨n, hn, t⟩ := qdK (exs ns j) (j : Int) zal (fun i z hz => by obtain ⟨a, b, c, d, e⟩ := hkid i z hz; omega) (fun k hkl => by
  by_cases e : k = j
  · subst e
    have h0 : pcnt (exs ns k) k = 0 := pcnt_none _ _ fun z hz => by
     obtain ⟨i, hi⟩ := List.getElem?_of_mem hz
     obtain ⟨a, b, c, d, e⟩ := hkid i z hi
     exact prefs_none z k zal zal zal zal
    rw [h0]
    unfold pone
    split <;> omega
  · have a1 := pcnt_exs ns j k
    have a2 := h4 k zal
    have a3 : pone (j : Int) (k : Int) = 0 := by unfold pone; rw [if_neg zal]
    omega)
 exact ⟨n, by omega, tr_exs h2 t fun _ => hk⟩
end Go.Proofs.YtijmfpoanggjjaaGreatDoor
