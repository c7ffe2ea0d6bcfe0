/- Lemmas for the claim (texts Rar12, RarQ, Rar13, Rar14, R16a, what its proof uses of them). -/
import Derived.Test.YtoaaklcbcbjaiaaQ15
import Derived.RegionTactic
set_option linter.unusedSimpArgs false
set_option linter.unusedVariables false
namespace Go.Proofs.Ytoaaklcbcbjaiaa
open Go.RowKit
attribute [go_sem] more_more Array.size_append
theorem nine_not {l : List UInt8} {t : ByteArray} (ht : t.toList = l) (h0 : l ≠ [108, 101, 116]) (h1 : l ≠ [115, 101, 116]) (h2 : l ≠ [112, 117, 116]) (h3 : l ≠ [100, 101, 108, 101, 116, 101]) (h4 : l ≠ [97, 98, 111, 114, 116]) (h5 : l ≠ [114, 101, 116, 117, 114, 110]) (h6 : l ≠ [105, 102]) (h7 : l ≠ [102, 111, 114]) (h8 : l ≠ [114, 101, 112, 101, 97, 116]) : nine.any (fun s => t.toList == s.toList) = false := by
  have e : nine.map (fun s => s.toList) = [[108, 101, 116], [115, 101, 116], [112, 117, 116], [100, 101, 108, 101, 116, 101], [97, 98, 111, 114, 116], [114, 101, 116, 117, 114, 110], [105, 102], [102, 111, 114], [114, 101, 112, 101, 97, 116]] := by kernel_rfl
  have e2 : nine.any (fun s => t.toList == s.toList) = (nine.map (fun s => s.toList)).any (fun x => l == x) := by rw [List.any_map, ht]; rfl
  rw [e2, e]
  have b : ∀ x : List UInt8, l ≠ x → (l == x) = false := fun x hx => by simpa using hx
  simp only [List.any_cons, List.any_nil, b _ h0, b _ h1, b _ h2, b _ h3, b _ h4, b _ h5, b _ h6, b _ h7, b _ h8, Bool.or_self]
theorem begins_five {L : Toks} {m : Nat} (h : beginsB L m = true) : (tk L m).1.k = 5 := by
  unfold beginsB at h; rw [Bool.and_eq_true, beq_iff_eq] at h; exact h.1
theorem rstmt_any {b lb lo cap : Nat} {nv : Value} {L : Toks} {m : Nat} {N : List Nd} {w : World} (h : Rt b lb lo cap nv L m N 0 0 w) (hbg : beginsB L m = true) (d : Nat) (hd : d ≤ 16) (ex bk : PM Int) (he : RDp b lb lo cap L 72 (d : Int) ex) (hb : RDp b lb lo cap L 33 ((d : Int) + 1) bk) (r : PR Int) (hr : stmtP L ex (bracedP L bk) m N.length = r) :
    Calls Try.prog 46 #[.pointer (some ⟨b, 0, none⟩), .int .i64 (d : Int)] w (RPost intV isInt b lb lo cap nv L m N w r) := by
  have hk5 := begins_five hbg
  unfold stmtP sIs at hr
  rw [if_neg (by rw [hk5]; simp)] at hr
  by_cases q_let : (tk L m).1.s.toList = [108, 101, 116]
  · rw [if_pos (by rw [q_let]; rfl)] at hr
    exact rstmt_let h hk5 q_let _ _ he r hr
  rw [if_neg (by simpa using q_let)] at hr
  by_cases q_set : (tk L m).1.s.toList = [115, 101, 116]
  · rw [if_pos (by rw [q_set]; rfl)] at hr
    exact rstmt_set h hk5 q_set _ _ he r hr
  rw [if_neg (by simpa using q_set)] at hr
  by_cases q_put : (tk L m).1.s.toList = [112, 117, 116]
  · rw [if_pos (by rw [q_put]; rfl)] at hr
    exact rstmt_put h hk5 q_put d hd _ he r hr
  rw [if_neg (by simpa using q_put)] at hr
  by_cases q_delete : (tk L m).1.s.toList = [100, 101, 108, 101, 116, 101]
  · rw [if_pos (by rw [q_delete]; rfl)] at hr
    exact rstmt_delete h hk5 q_delete d hd _ he r hr
  rw [if_neg (by simpa using q_delete)] at hr
  by_cases q_abort : (tk L m).1.s.toList = [97, 98, 111, 114, 116]
  · rw [if_pos (by rw [q_abort]; rfl)] at hr
    exact rstmt_abort h hk5 q_abort d hd _ he r hr
  rw [if_neg (by simpa using q_abort)] at hr
  by_cases q_return : (tk L m).1.s.toList = [114, 101, 116, 117, 114, 110]
  · rw [if_pos (by rw [q_return]; rfl)] at hr
    exact rstmt_return h hk5 q_return d hd _ he r hr
  rw [if_neg (by simpa using q_return)] at hr
  by_cases q_if : (tk L m).1.s.toList = [105, 102]
  · rw [if_pos (by rw [q_if]; rfl)] at hr
    exact rstmt_if h hk5 q_if d hd _ he _ hb r hr
  rw [if_neg (by simpa using q_if)] at hr
  by_cases q_for : (tk L m).1.s.toList = [102, 111, 114]
  · rw [if_pos (by rw [q_for]; rfl)] at hr
    exact rstmt_for h hk5 q_for d hd _ he _ hb r hr
  rw [if_neg (by simpa using q_for)] at hr
  by_cases q_repeat : (tk L m).1.s.toList = [114, 101, 112, 101, 97, 116]
  · rw [if_pos (by rw [q_repeat]; rfl)] at hr
    exact rstmt_repeat h hk5 q_repeat d hd _ hb r hr
  rw [if_neg (by simpa using q_repeat)] at hr
  exfalso
  unfold beginsB at hbg
  rw [nine_not rfl q_let q_set q_put q_delete q_abort q_return q_if q_for q_repeat] at hbg
  simp at hbg
/-- no statement begins: none is handed back -/
theorem stmt_none {L : Toks} {ex br : PM Int} {m n : Nat} (hbg : beginsB L m = false) : stmtP L ex br m n = .ok (-1, m, []) := by
  unfold stmtP sIs
  by_cases hk : (tk L m).1.k = 5
  · rw [if_neg (by rw [hk]; simp)]
    unfold beginsB at hbg
    rw [hk] at hbg
    have hn : ∀ x ∈ nine, ((tk L m).1.s.toList == x.toList) = false := by
      have h2 : nine.any (fun s => (tk L m).1.s.toList == s.toList) = false := by simpa using hbg
      rw [List.any_eq_false] at h2
      intro x hx
      simpa using h2 x hx
    have e : nine.map (fun s => s.toList) = [[108, 101, 116], [115, 101, 116], [112, 117, 116], [100, 101, 108, 101, 116, 101], [97, 98, 111, 114, 116], [114, 101, 116, 117, 114, 110], [105, 102], [102, 111, 114], [114, 101, 112, 101, 97, 116]] := by kernel_rfl
    have hl : ∀ y ∈ nine.map (fun s => s.toList), ((tk L m).1.s.toList == y) = false := by
      intro y hy
      obtain ⟨x, hx, rfl⟩ := List.mem_map.1 hy
      exact hn x hx
    rw [e] at hl
    rw [if_neg (by rw [hl [108, 101, 116] (by simp)]; simp)]
    rw [if_neg (by rw [hl [115, 101, 116] (by simp)]; simp)]
    rw [if_neg (by rw [hl [112, 117, 116] (by simp)]; simp)]
    rw [if_neg (by rw [hl [100, 101, 108, 101, 116, 101] (by simp)]; simp)]
    rw [if_neg (by rw [hl [97, 98, 111, 114, 116] (by simp)]; simp)]
    rw [if_neg (by rw [hl [114, 101, 116, 117, 114, 110] (by simp)]; simp)]
    rw [if_neg (by rw [hl [105, 102] (by simp)]; simp)]
    rw [if_neg (by rw [hl [102, 111, 114] (by simp)]; simp)]
    rw [if_neg (by rw [hl [114, 101, 112, 101, 97, 116] (by simp)]; simp)]
    rfl
  · rw [if_pos hk]; rfl
end Go.Proofs.Ytoaaklcbcbjaiaa

namespace Go.Proofs.Ytoaaklcbcbjaiaa
open Go.RowKit
/-- each of the places is followed by the next one -/
def linkAll (n : Nat) : List Int → List Nd → List Nd
  | a :: b :: r, acc => linkAll n (b :: r) (setNext acc (a.toNat - n) b)
  | _, acc => acc
theorem setNext_len (l : List Nd) (j : Nat) (v : Int) : (setNext l j v).length = l.length := by simp [setNext]
theorem setNext_left (a b : List Nd) (j : Nat) (v : Int) (h : j < a.length) : setNext (a ++ b) j v = setNext a j v ++ b := by
  unfold setNext
  induction a generalizing j with
  | nil => simp at h
  | cons z a ih =>
    cases j with
    | zero => simp
    | succ j => simp only [List.cons_append, List.modify_succ_cons]; rw [ih j (by simpa using h)]
theorem linkAll_len (n : Nat) : ∀ (l : List Int) (acc : List Nd), (linkAll n l acc).length = acc.length
  | [], acc => rfl
  | [a], acc => rfl
  | a :: b :: r, acc => by rw [linkAll, linkAll_len n (b :: r), setNext_len]
theorem linkAll_snoc (n : Nat) (i : Int) (ns : List Nd) : ∀ (l : List Int) (acc : List Nd) (hl : l ≠ []), (∀ x ∈ l, (n : Int) ≤ x ∧ x < (n : Int) + acc.length) →
    linkAll n (l ++ [i]) (acc ++ ns) = setNext (linkAll n l acc ++ ns) ((l.getLast hl).toNat - n) i
  | [], acc, hl, _ => absurd rfl hl
  | [a], acc, _, h => rfl
  | a :: b :: r, acc, _, h => by
    have ha := h a (by simp)
    have e : linkAll n (a :: b :: r ++ [i]) (acc ++ ns) = linkAll n (b :: r ++ [i]) (setNext (acc ++ ns) (a.toNat - n) b) := rfl
    rw [e, setNext_left _ _ _ _ (by omega), linkAll_snoc n i ns (b :: r) _ (by simp) (fun x hx => by rw [setNext_len]; exact h x (by simp [List.mem_cons] at hx ⊢; exact Or.inr hx))]
    rfl
/-- the document's statements, not yet linked: their places, how far, their nodes -/
def blockR (st : PM Int) : Nat → List Int → List Nd → Nat → Nat → Except (Int × Int) (List Int × Nat × List Nd)
  | 0, l, acc, m, _ => .ok (l, m, acc)
  | g + 1, l, acc, m, n => match st m (n + acc.length) with
    | .error e => .error e
    | .ok (i, m1, ns) => if i = -1 then .ok (l, m1, acc ++ ns) else blockR st g (l ++ [i]) (acc ++ ns) m1 n
def firstOf : List Int → Int
  | [] => -1
  | a :: _ => a
/-- linked at the end, it is the same -/
theorem block_link (st : PM Int) (hok : ∀ m n v m1 ns, st m n = .ok (v, m1, ns) → (v = -1 ∧ m1 = m ∧ ns = []) ∨ (m < m1 ∧ v + 1 = (n : Int) + ns.length ∧ 0 < ns.length)) :
    ∀ (g : Nat) (l : List Int) (acc : List Nd) (m n : Nat), (∀ x ∈ l, (n : Int) ≤ x ∧ x < (n : Int) + acc.length) →
    blockLoop st g (firstOf l) (l.getLastD (-1)) (linkAll n l acc) m n = match blockR st g l acc m n with
      | .error e => .error e
      | .ok (l', m', acc') => .ok (firstOf l', m', linkAll n l' acc')
  | 0, l, acc, m, n, h => rfl
  | g + 1, l, acc, m, n, h => by
    rw [blockLoop, blockR, linkAll_len]
    cases hs : st m (n + acc.length) with
    | error e => rfl
    | ok v =>
      obtain ⟨i, m1, ns⟩ := v
      dsimp only
      have hk := hok _ _ _ _ _ hs
      by_cases hi : i = -1
      · rw [if_pos hi, if_pos hi]
        rcases hk with ⟨_, _, rfl⟩ | ⟨_, h2, _⟩
        · simp
        · omega
      · rw [if_neg hi, if_neg hi]
        have hv : (n : Int) ≤ i ∧ i < (n : Int) + (acc ++ ns).length := by
          rcases hk with ⟨h1, _⟩ | ⟨_, h2, h3⟩
          · exact absurd h1 hi
          · simp only [List.length_append]; omega
        have hall : ∀ x ∈ l ++ [i], (n : Int) ≤ x ∧ x < (n : Int) + (acc ++ ns).length := by
          intro x hx
          rcases List.mem_append.1 hx with hx | hx
          · have := h x hx; simp only [List.length_append]; omega
          · simp at hx; subst hx; exact hv
        have ih := block_link st hok g (l ++ [i]) (acc ++ ns) m1 n hall
        cases l with
        | nil =>
          rw [if_pos (show firstOf [] = -1 from rfl)]
          exact ih
        | cons a r =>
          have ha := h a (by simp)
          rw [if_neg (by show ¬ a = -1; omega)]
          rw [linkAll_snoc n i ns (a :: r) acc (by simp) h] at ih
          have e1 : firstOf (a :: r ++ [i]) = firstOf (a :: r) := rfl
          have e2 : (a :: r ++ [i]).getLastD (-1) = i := by rw [List.getLastD_eq_getLast?, List.getLast?_concat]; rfl
          rw [e1, e2] at ih
          have e3 : (a :: r).getLastD (-1) = (a :: r).getLast (by simp) := by rw [List.getLastD_eq_getLast?, List.getLast?_eq_some_getLast (by simp)]; rfl
          rw [e3]
          exact ih
end Go.Proofs.Ytoaaklcbcbjaiaa

namespace Go.Proofs.Ytoaaklcbcbjaiaa
open Go.RowKit
attribute [go_sem] more_more Array.size_append
/-- a statement that begins lays a node -/
theorem stmt_yes {L : Toks} {ex br : PM Int} (he : Fwd ex) (hb : Fwd br) {m n : Nat} {v : Int} {m1 : Nat} {ns : List Nd} (hbg : beginsB L m = true) (h : stmtP L ex br m n = .ok (v, m1, ns)) : m < m1 ∧ v + 1 = (n : Int) + ns.length ∧ 0 < ns.length := by
  have hk5 := begins_five hbg
  unfold stmtP sIs at h
  rw [if_neg (by rw [hk5]; simp)] at h
  by_cases q_let : (tk L m).1.s.toList = [108, 101, 116]
  · rw [if_pos (by rw [q_let]; rfl)] at h
    exact ⟨(strong_names _ he).1 _ _ _ _ _ h, (strong_names _ he).2 _ _ _ _ _ h⟩
  rw [if_neg (by simpa using q_let)] at h
  by_cases q_set : (tk L m).1.s.toList = [115, 101, 116]
  · rw [if_pos (by rw [q_set]; rfl)] at h
    exact ⟨(strong_names _ he).1 _ _ _ _ _ h, (strong_names _ he).2 _ _ _ _ _ h⟩
  rw [if_neg (by simpa using q_set)] at h
  by_cases q_put : (tk L m).1.s.toList = [112, 117, 116]
  · rw [if_pos (by rw [q_put]; rfl)] at h
    exact ⟨(strong_put he).1 _ _ _ _ _ h, (strong_put he).2 _ _ _ _ _ h⟩
  rw [if_neg (by simpa using q_put)] at h
  by_cases q_delete : (tk L m).1.s.toList = [100, 101, 108, 101, 116, 101]
  · rw [if_pos (by rw [q_delete]; rfl)] at h
    exact ⟨(strong_simple _ he).1 _ _ _ _ _ h, (strong_simple _ he).2 _ _ _ _ _ h⟩
  rw [if_neg (by simpa using q_delete)] at h
  by_cases q_abort : (tk L m).1.s.toList = [97, 98, 111, 114, 116]
  · rw [if_pos (by rw [q_abort]; rfl)] at h
    exact ⟨(strong_simple _ he).1 _ _ _ _ _ h, (strong_simple _ he).2 _ _ _ _ _ h⟩
  rw [if_neg (by simpa using q_abort)] at h
  by_cases q_return : (tk L m).1.s.toList = [114, 101, 116, 117, 114, 110]
  · rw [if_pos (by rw [q_return]; rfl)] at h
    exact ⟨(strong_simple _ he).1 _ _ _ _ _ h, (strong_simple _ he).2 _ _ _ _ _ h⟩
  rw [if_neg (by simpa using q_return)] at h
  by_cases q_if : (tk L m).1.s.toList = [105, 102]
  · rw [if_pos (by rw [q_if]; rfl)] at h
    exact ⟨(strong_when he hb).1 _ _ _ _ _ h, (strong_when he hb).2 _ _ _ _ _ h⟩
  rw [if_neg (by simpa using q_if)] at h
  by_cases q_for : (tk L m).1.s.toList = [102, 111, 114]
  · rw [if_pos (by rw [q_for]; rfl)] at h
    exact ⟨(strong_each he hb).1 _ _ _ _ _ h, (strong_each he hb).2 _ _ _ _ _ h⟩
  rw [if_neg (by simpa using q_for)] at h
  by_cases q_repeat : (tk L m).1.s.toList = [114, 101, 112, 101, 97, 116]
  · rw [if_pos (by rw [q_repeat]; rfl)] at h
    exact ⟨(strong_repeat hb).1 _ _ _ _ _ h, (strong_repeat hb).2 _ _ _ _ _ h⟩
  rw [if_neg (by simpa using q_repeat)] at h
  exfalso
  unfold beginsB at hbg
  rw [nine_not rfl q_let q_set q_put q_delete q_abort q_return q_if q_for q_repeat] at hbg
  simp at hbg
theorem Rt.grown {b lb lo cap : Nat} {nv : Value} {L : Toks} {m : Nat} {N : List Nd} {ee wh : Int} {w w1 : World} {row : Option Nat} (h : Rt b lb lo cap nv L m N ee wh w) (hg : w.grownBy w1 row) (hr : ∀ k, row = some k → b < k ∧ nv.ownBlock ≠ some k) : Rt b lb lo cap nv L m N ee wh w1 := by
  have hb : row ≠ some b := fun e => by have := (hr b e).1; omega
  have hl : row ≠ some lb := fun e => by have := (hr lb e).1; have := h.low; omega
  refine ⟨h.ends, (ownBlock_kept hg h.lt hb).trans h.blk, h.toks.of_block (ownBlock_kept hg (Nat.lt_trans h.low h.lt) hl), h.row.kept hg ?_, h.low, h.pos, h.cnt⟩
  cases hn : nv.ownBlock with
  | none => exact Or.inl rfl
  | some k => exact Or.inr fun e => (hr k e.symm).2 hn
theorem Kp.grown {b : Nat} {nv nv1 : Value} {w w1 w2 : World} {row : Option Nat} (h : Kp b nv nv1 w w1) (hg : w1.grownBy w2 row) (hr : ∀ k, row = some k → w.heap.size ≤ k) : Kp b nv nv1 w w2 := by
  refine ⟨hg.os.trans h.os, hg.tape.trans h.tape, hg.output.trans h.output, Nat.le_trans h.size hg.size, fun j hj hb hn => ?_, h.row⟩
  rw [ownBlock_kept hg (Nat.lt_of_lt_of_le hj h.size) (fun e => by have := hr j e; omega)]
  exact h.block j hj hb hn
def intsL (l : List Int) : List Value := l.map fun z => .int .i64 z
/-- places of statements in a row of one's own -/
structure Ls (n0 : Nat) (nv lv : Value) (l : List Int) (w : World) : Prop where
  row : w.ownsRow n0 3 1 lv l.length (intsL l)
  ne : ∀ k, lv.ownBlock = some k → nv.ownBlock ≠ some k
theorem Ls.kp {n0 b : Nat} {nv nv1 lv : Value} {l : List Int} {w w1 : World} (h : Ls n0 nv lv l w) (hk : Kp b nv nv1 w w1) (hb : b < n0) : Ls n0 nv1 lv l w1 := by
  refine ⟨own_block h.row fun k hl hlt => hk.block k hlt (by have := (h.row.lt k hl).1; omega) (h.ne k hl), fun k hl => ?_⟩
  rcases hk.row with e | e
  · rw [e]; exact h.ne k hl
  · intro e2; have := e k e2; have := (h.row.lt k hl).2; omega
theorem Ls.ext {n0 : Nat} {nv lv : Value} {l : List Int} {w w1 : World} (h : Ls n0 nv lv l w) (hx : Ext w w1) : Ls n0 nv lv l w1 := ⟨own_ext h.row hx, h.ne⟩
theorem Ls.cell {n0 : Nat} {nv lv : Value} {l : List Int} {w : World} (h : Ls n0 nv lv l w) {g n c : Nat} (hv : lv = .slice (some ⟨g, 0, none⟩) n c) (j : Nat) (z : Int) (hj : l[j]? = some z) : w.cell? ⟨g, j, none⟩ = some (.int .i64 z) := by
  have := h.row.cells (g := g) (by rw [hv]; rfl) j (.int .i64 z) (by simp [intsL, hj])
  rwa [Addr.add_lit, Nat.zero_add] at this
theorem blockR_err {st : PM Int} {g : Nat} {l : List Int} {acc : List Nd} {m n : Nat} {e : Int × Int} (h : st m (n + acc.length) = .error e) : blockR st (g + 1) l acc m n = .error e := by rw [blockR, h]
theorem blockR_end {st : PM Int} {g : Nat} {l : List Int} {acc : List Nd} {m n : Nat} (h : st m (n + acc.length) = .ok (-1, m, [])) : blockR st (g + 1) l acc m n = .ok (l, m, acc) := by rw [blockR, h]; simp
theorem blockR_nxt {st : PM Int} {g : Nat} {l : List Int} {i : Int} {acc : List Nd} {m n m1 : Nat} {ns : List Nd} (h : st m (n + acc.length) = .ok (i, m1, ns)) (hi : i ≠ -1) : blockR st (g + 1) l acc m n = blockR st g (l ++ [i]) (acc ++ ns) m1 n := by rw [blockR, h]; dsimp only; rw [if_neg hi]
/-- what the block comes to, of the unlinked statements -/
def linked (n : Nat) : Except (Int × Int) (List Int × Nat × List Nd) → PR Int
  | .error e => .error e
  | .ok (l, m, acc) => .ok (firstOf l, m, linkAll n l acc)
theorem Rt.setNext {b lb lo cap g c : Nat} {L : Toks} {m : Nat} {N : List Nd} {w : World} (h : Rt b lb lo cap (.slice (some ⟨g, 0, none⟩) N.length c) L m N 0 0 w) {j : Nat} (hj : j < N.length) (v : Int) :
    Rt b lb lo cap (.slice (some ⟨g, 0, none⟩) N.length c) L m (setNext N j v) 0 0 (w.setCell ⟨g, j * 8 + 4, none⟩ (.int .i64 v)) := by
  have hg := h.row.lt g rfl
  refine ⟨h.ends, by rw [heap_set_other _ _ _ _ _ (by omega)]; exact h.blk, h.toks.of_block (heap_set_other _ _ _ _ _ (by have := h.low; omega)), ?_, h.low, h.pos, by rw [setNext_length]; exact h.cnt⟩
  rw [setNext_length, ndCells_set _ _ _ hj]
  exact ownsRow_set h.row (by omega) _
theorem Rt.nextFacts {b lb lo cap g c : Nat} {L : Toks} {m : Nat} {N : List Nd} {w : World} (h : Rt b lb lo cap (.slice (some ⟨g, 0, none⟩) N.length c) L m N 0 0 w) {j : Nat} (hj : j < N.length) :
    (∃ x, w.cell? ⟨g, j * 8 + 4, none⟩ = some (.int .i64 x)) ∧ w.frozen? ⟨g, j * 8 + 4, none⟩ = false ∧ g < w.heap.size := by
  have hg := h.row.lt g rfl
  obtain ⟨h1, h2⟩ := h.row
  rcases h2 with ⟨h2, _⟩ | ⟨g', cap', cur, h2, hb, hgg, hn, hm, hc, ht⟩
  · simp at h2
  · simp only [Value.slice.injEq, Option.some.injEq, Addr.mk.injEq, true_and, and_true] at h2
    obtain ⟨rfl, rfl⟩ := h2
    refine ⟨?_, by simp [World.frozen?, hgg], hg.2⟩
    have : ∃ x, (ndCells N)[j * 8 + 4]? = some (.int .i64 x) := by
      clear h1 ht h hg hb hgg hn hm hc
      induction N generalizing j with
      | nil => simp at hj
      | cons z l ih =>
        have e2 : ndCells (z :: l) = ndL z ++ ndCells l := rfl
        cases j with
        | zero => exact ⟨z.x, by rw [e2]; rfl⟩
        | succ j =>
          obtain ⟨x, hx⟩ := ih (j := j) (by simpa using hj)
          exact ⟨x, by rw [e2, List.getElem?_append_right (by simp [ndL]; omega)]; rw [← hx]; congr 1; simp [ndL]; omega⟩
    obtain ⟨x, hx⟩ := this
    refine ⟨x, ?_⟩
    rw [← ht, List.getElem?_take] at hx
    split at hx
    · simp [World.cell?, hgg]; simpa using hx
    · simp at hx
theorem rnv_some {b lb lo cap : Nat} {nv : Value} {L : Toks} {m : Nat} {N : List Nd} {ee wh : Int} {w : World} (h : Rt b lb lo cap nv L m N ee wh w) (hl : 0 < N.length) : ∃ g c, nv = .slice (some ⟨g, 0, none⟩) N.length c := by
  rcases Go.Joins.ownsRow_forms h.row with ⟨rfl, h0⟩ | ⟨g1, c, rfl⟩
  · omega
  · exact ⟨_, _, rfl⟩
theorem Ls.setRow {n0 g : Nat} {nv lv : Value} {l : List Int} {w : World} (h : Ls n0 nv lv l w) (hg : nv.ownBlock = some g) (i : Nat) (v : Value) : Ls n0 nv lv l (w.setCell ⟨g, i, none⟩ v) :=
  ⟨own_block h.row fun k hk _ => heap_set_other _ _ _ _ _ (fun e => h.ne k hk (by rw [hg, e])), h.ne⟩
/-- the places of a round -/
theorem link_step (n : Nat) (l : List Int) (acc : List Nd) (j : Nat) (q : Nat) (z : Int) (h1 : l[j]? = some (q : Int)) (h2 : l[j + 1]? = some z) (hall : ∀ x ∈ l, (n : Int) ≤ x ∧ x < (n : Int) + acc.length) :
    linkAll n (l.take (j + 1 + 1)) acc = setNext (linkAll n (l.take (j + 1)) acc) (q - n) z := by
  have ht : l.take (j + 1) = l.take j ++ [(q : Int)] := by rw [List.take_add_one, h1]; rfl
  have e1 : l.take (j + 1 + 1) = l.take (j + 1) ++ [z] := by rw [List.take_add_one (i := j + 1), h2]; rfl
  have hne : l.take (j + 1) ≠ [] := by rw [ht]; simp
  have := linkAll_snoc n z [] (l.take (j + 1)) acc hne (fun x hx => hall x (List.mem_of_mem_take hx))
  rw [List.append_nil, List.append_nil, ← e1] at this
  rw [this]
  have hl : (l.take (j + 1)).getLast hne = (q : Int) := by
    have : ∀ (x : List Int) (hx : x ≠ []), x = l.take j ++ [(q : Int)] → x.getLast hx = (q : Int) := by
      intro x hx e; subst e; simp
    exact this _ hne ht
  rw [hl]; rfl
set_option maxHeartbeats 2000000 in
theorem rblock_deep {b lb lo cap : Nat} {L : Toks} : RDp b lb lo cap L 33 (17 : Int) (pno L 14) := by
  intro nv m N w h r hr
  have FL := Lib.hid (rfail_st h 14 (by decide))
  have R := Lib.hid hr
  clear h hr
  go_enter Try.func33, Try.ntmps33
  go_wp2_with ((go_at_call 34; (with_reducible refine FL.out.mono ?_); rintro e w1 ⟨rfl, hs1, hk1⟩; have HS := Lib.hid hs1; have HK := Lib.hid hk1; clear hs1 hk1))
  obtain ⟨c0, c1, c2, c3, c4, f1, f2, f3, f4, hb⟩ := HS.out.facts
  clear c0 c1 c2 c4 f1 f2 f3 f4
  go_loopg [5] (0) (fun g x wr => wr = w1)
  case atStart => exact rfl
  case round =>
    obtain rfl := hrel
    go_wp2_with fail
    go_ret
    have := R.out
    subst this
    exact RPost.err (by decide) ⟨_, rfl⟩ HS.out HK.out
set_option maxHeartbeats 4000000 in
set_option maxRecDepth 20000 in
theorem rblock_any {b lb lo cap : Nat} {nv : Value} {L : Toks} {m : Nat} {N : List Nd} {w : World} (h : Rt b lb lo cap nv L m N 0 0 w) (d : Nat) (hd : d ≤ 16) (st : PM Int)
    (hst : ∀ nv m N w, Rt b lb lo cap nv L m N 0 0 w → beginsB L m = true → ∀ r, st m N.length = r → Calls Try.prog 46 #[.pointer (some ⟨b, 0, none⟩), .int .i64 (d : Int)] w (RPost intV isInt b lb lo cap nv L m N w r))
    (hyes : ∀ m n v m1 ns, beginsB L m = true → st m n = .ok (v, m1, ns) → m < m1 ∧ v + 1 = (n : Int) + ns.length ∧ 0 < ns.length)
    (hno : ∀ m n, beginsB L m = false → st m n = .ok (-1, m, []))
    (r : PR Int) (hr : linked N.length (blockR st (L.length + 1) [] [] m N.length) = r) :
    Calls Try.prog 33 #[.pointer (some ⟨b, 0, none⟩), .int .i64 (d : Int)] w (RPost intV isInt b lb lo cap nv L m N w r) := by
  have H := Lib.hid h
  have HT := Lib.hid hst
  have HY := Lib.hid hyes
  have HN := Lib.hid hno
  have HR := Lib.hid hr
  have hbn : b < w.heap.size := h.lt
  have HBN := Lib.hid hbn
  have hd0 : 0 ≤ (d : Int) := by omega
  have hd1 : (d : Int) ≤ 16 := by omega
  have LN := Lib.hid h.ends.few
  obtain ⟨i0, hi, hz0, hz1, hz2⟩ := info_parts intInfo
  clear h hst hyes hno hr hbn
  go_enter Try.func33, Try.ntmps33
  go_wp2_with fail
  go_loopg [5] (L.length + 1) (fun g x wr => (∃ (lv : Value) (l : List Int) (acc : List Nd) (m2 : Nat) (nv2 : Value), lv = x ∧ Ls w.heap.size nv2 lv l wr ∧ l.length ≤ m2 ∧ m ≤ m2 ∧ L.length + 1 ≤ m2 + g ∧ Rt b lb lo cap nv2 L m2 (N ++ acc) 0 0 wr ∧ Kp b nv nv2 w wr ∧ linked N.length (blockR st g l acc m2 N.length) = r ∧ (∀ y ∈ l, (N.length : Int) ≤ y ∧ y < (N.length : Int) + acc.length)) ∨
    (∃ (c a : Int) (nv2 : Value) (m2 : Nat) (N2 : List Nd), c ≠ 0 ∧ Rt b lb lo cap nv2 L m2 N2 c a wr ∧ Kp b nv nv2 w wr ∧ r = .error (c, a)))
  case atStart => exact Or.inl ⟨.slice none 0 0, [], [], m, nv, rfl, ⟨World.ownsRow_nil _ _ _ _, fun k hk => by simp [Value.ownBlock] at hk⟩, Nat.zero_le _, Nat.le_refl _, by omega, H.out.cast (List.append_nil _).symm, Kp.refl _ _ _, HR.out, fun y hy => by simp at hy⟩
  case round =>
    rcases hrel with ⟨lv, l, acc, m2, nv2, rfl, hls, hlm, hm2, hg, hs2, hk2, hres, hall⟩ | ⟨c, a, nv2, m2, N2, hc, hs2, hk2, hres⟩
    rotate_left
    · have HS := Lib.hid hs2
      have HK := Lib.hid hk2
      have HC := Lib.hid hc
      have HE := Lib.hid hres
      have q : (c == 0) = false := by simpa using hc
      have q2 : (c != 0) = true := by simpa using hc
      obtain ⟨c0, c1, c2, c3, c4, f1, f2, f3, f4, hb⟩ := hs2.facts
      clear hs2 hk2 hc hres c0 c1 c2 c4 f1 f2 f3 f4
      go_wp2_with fail
      go_ret
      have := HE.out
      subst this
      exact RPost.err HC.out ⟨_, rfl⟩ HS.out HK.out
    obtain ⟨g0, rfl⟩ : ∃ g0, gk = g0 + 1 := ⟨gk - 1, by have := hs2.pos; omega⟩
    have HS := Lib.hid hs2
    have HK := Lib.hid hk2
    have HM := Lib.hid (And.intro hlm (And.intro hm2 hg))
    have HL := Lib.hid hls
    have HA := Lib.hid hall
    have HP := Lib.hid hs2.pos
    obtain ⟨c0, c1, c2, c3, c4, f1, f2, f3, f4, hb⟩ := hs2.facts
    have BG := Lib.hid (begins_any hs2)
    clear hs2 hk2 hlm hm2 hg hls hall c0 c1 c2 c4 f1 f2 f3 f4
    cases hbg : beginsB L m2
    · -- no statement more
      rw [hbg] at BG
      rw [blockR_end (HN.out _ _ hbg)] at hres
      have HE := Lib.hid hres
      clear hres hbg
      have BGA : True := trivial
      cases l with
      | nil =>
        have hlv : ∃ p c, lv = .slice p 0 c := by
          rcases Go.Joins.ownsRow_forms HL.out.row with ⟨h1, _⟩ | ⟨g1, c, h1⟩
          · exact ⟨_, _, h1⟩
          · exact ⟨_, _, h1⟩
        obtain ⟨p, cc, rfl⟩ := hlv
        go_wp2_with ((go_at_call 45; (with_reducible refine BG.out.mono ?_); rintro e _ ⟨rfl, d1, os1, rfl⟩))
        go_ret
        have := HE.out
        subst this
        exact RPost.res rfl (HS.out.more _ _) (HK.out.more _ _) HM.out.2.1
      | cons l0 lr =>
        have hlv : ∃ g1 c, lv = .slice (some ⟨g1, 0, none⟩) (l0 :: lr).length c := by
          rcases Go.Joins.ownsRow_forms HL.out.row with ⟨_, h1⟩ | ⟨g1, c, h1⟩
          · simp at h1
          · exact ⟨_, _, h1⟩
        obtain ⟨gl, cl, rfl⟩ := hlv
        have hacc : 0 < acc.length := by have := HA.out l0 (by simp); omega
        obtain ⟨gg, cc, hnv⟩ := rnv_some HS.out (by rw [List.length_append]; omega)
        subst hnv
        obtain ⟨q0, hq0⟩ : ∃ q0, (l0 :: lr).length = q0 := ⟨_, rfl⟩
        have HQ0 := Lib.hid hq0
        have hq1 : 1 ≤ q0 := by rw [← hq0]; simp
        have hqb : q0 ≤ 5000 := by have h1 := HM.out.1; have h2 := HP.out; have h3 := LN.out; omega
        have qe : (((q0 : Nat) : Int) == 0) = false := by simp; omega
        rw [hq0] at HL ⊢
        have HL2 := Lib.hid (show Ls w.heap.size (.slice (some ⟨gg, 0, none⟩) (N ++ acc).length cc) (.slice (some ⟨gl, 0, none⟩) q0 cl) (l0 :: lr) wr from HL.out)
        go_wp2_with ((go_at_call 45; (with_reducible refine BG.out.mono ?_); rintro e _ ⟨rfl, d1, os1, rfl⟩))
        go_loopw [6] (fun ii wr2 => ∃ j : Nat, ii = .int .i64 (j : Int) ∧ j + 1 ≤ q0 ∧ Rt b lb lo cap (.slice (some ⟨gg, 0, none⟩) (N ++ acc).length cc) L m2 (N ++ linkAll N.length ((l0 :: lr).take (j + 1)) acc) 0 0 wr2 ∧ Ls w.heap.size (.slice (some ⟨gg, 0, none⟩) (N ++ acc).length cc) (.slice (some ⟨gl, 0, none⟩) q0 cl) (l0 :: lr) wr2 ∧ Kp b nv (.slice (some ⟨gg, 0, none⟩) (N ++ acc).length cc) w wr2) (fun ii _ => q0 - (intOf ii).toNat)
        case atStart => exact ⟨0, rfl, hq1, HS.out.more _ _, HL2.out.ext ((Ext.refl _).more _ _), HK.out.more _ _⟩
        case round =>
          obtain ⟨j, rfl, hj, hs2, hl2, hk2⟩ := hrel
          have HS2 := Lib.hid hs2
          have HL3 := Lib.hid hl2
          have HK2 := Lib.hid hk2
          have hgl := (hl2.row.lt gl rfl).2
          have k0 := hl2.cell (g := gl) rfl
          clear hs2 hl2 hk2
          by_cases hlt : j + 1 < q0
          · obtain ⟨z0, hz0'⟩ : ∃ z, (l0 :: lr)[j]? = some z := ⟨_, List.getElem?_eq_getElem (by rw [HQ0.out]; omega)⟩
            obtain ⟨z1, hz1'⟩ : ∃ z, (l0 :: lr)[j + 1]? = some z := ⟨_, List.getElem?_eq_getElem (by rw [HQ0.out]; omega)⟩
            obtain ⟨q, rfl⟩ : ∃ q : Nat, z0 = (q : Int) := ⟨z0.toNat, by have := (HA.out z0 (List.mem_of_getElem? hz0')).1; omega⟩
            have hr := HA.out (q : Int) (List.mem_of_getElem? hz0')
            have ka := k0 j _ hz0'
            have kb := k0 (j + 1) _ hz1'
            have hlst := link_step N.length (l0 :: lr) acc j q z1 hz0' hz1' HA.out
            have HLST := Lib.hid hlst
            obtain ⟨M, hM⟩ : ∃ M, N ++ linkAll N.length ((l0 :: lr).take (j + 1)) acc = M := ⟨_, rfl⟩
            have hml : M.length = (N ++ acc).length := by rw [← hM, List.length_append, List.length_append, linkAll_len]
            rw [hM] at HS2
            have HMM := Lib.hid hM
            obtain ⟨T, hT⟩ : ∃ T, (N ++ acc).length = T := ⟨_, rfl⟩
            have hqT : q < T := by rw [← hT, List.length_append]; omega
            rw [hT] at HS2 HL3 HK2 hml ⊢
            have HT2 := Lib.hid hT
            have HML := Lib.hid hml
            have HS4 : RowKit.Hid (Rt b lb lo cap (.slice (some ⟨gg, 0, none⟩) M.length cc) L m2 M 0 0 wr) := Lib.hid (by rw [HML.out]; exact HS2.out)
            obtain ⟨c0, c1, c2, c3, c4, f1, f2, f3, f4, hb⟩ := HS2.out.facts
            obtain ⟨⟨xx, n4⟩, z4, hgg⟩ := HS4.out.nextFacts (j := q) (by rw [HML.out]; exact hqT)
            have hqi : (q : Int) < (T : Int) := by omega
            have hji : (j : Int) < (q0 : Int) := by omega
            have hji1 : (j : Int) + 1 < (q0 : Int) := by omega
            have hw1 : IntKind.i64.wrap ((j : Int) + 1) = (j : Int) + 1 := IntWalk.i64_in _ (by omega)
            have hw2 : (0 : Int) ≤ (j : Int) + 1 := by omega
            have hw3 : ((j : Int) + 1).toNat = j + 1 := by omega
            have HLT := Lib.hid hlt
            have HRN : RowKit.Hid (N.length ≤ q) := Lib.hid (by omega)
            have HQT := Lib.hid hqT
            clear k0 hlst hM hT hml hz0' hz1' hr c0 c1 c3 c4 f1 f2 f3 f4 hlt
            go_wp2_with fail
            refine wp_region_grow 15 61 [false, false, false, false, false, false, false, false, false, false, false, false, false, false, false] (by kernel_rfl) (by kernel_rfl) rfl ?_
            simp only [List.take_succ_cons, List.take_zero, List.drop_succ_cons, List.drop_zero]
            repeat (refine Lex.step rfl ?_; intro K hK; unfold StepG; go_simp; (first
                | refine hK _ ?_); clear hK K)
            refine Lex.nil fun WW hE => ?_
            obtain ⟨dd, oo, rfl⟩ := hE
            unfold FillH
            go_wp2_with fail
            rw [ends_normal]
            clear hw1 hw2 hw3
            go_wp2_with fail
            go_roundw
            case rel =>
              refine ⟨j + 1, by go_num, by have := HLT.out; omega, ?_, (HL3.out.setRow rfl _ _).ext ((Ext.refl _).more dd oo), (HK2.out.setRow rfl _ _).more dd oo⟩
              have e : N ++ linkAll N.length ((l0 :: lr).take (j + 1 + 1)) acc = setNext M q z1 := by
                rw [HLST.out, ← HMM.out, ← setNext_append]
                congr 1
                have := HRN.out; omega
              have h4 := (HS4.out.setNext (j := q) (by rw [HML.out]; exact HQT.out) z1).more dd oo
              rw [HML.out] at h4
              rw [e]; exact h4
            case measure => have := HLT.out; simp [intOf]; omega
          · have hq2 : j + 1 = q0 := by omega
            subst hq2
            have hall : (l0 :: lr).take (j + 1) = l0 :: lr := List.take_of_length_le (by rw [HQ0.out]; omega)
            have k1 := k0 0 l0 rfl
            rw [hall] at HS2
            have hj0 : (0 : Int) < (j : Int) + 1 := by omega
            clear hlt k0 hall hj
            go_wp2_with fail
            go_ret
            have := HE.out
            subst this
            exact RPost.res rfl HS2.out HK2.out HM.out.2.1
    · rw [hbg] at BG
      obtain ⟨r1, h1⟩ : ∃ r1, st m2 (N.length + acc.length) = r1 := ⟨_, rfl⟩
      have SC := Lib.hid (fun w1 (hx : Ext wr w1) => HT.out nv2 m2 (N ++ acc) w1 (HS.out.ext hx) hbg r1 (by rw [List.length_append]; exact h1))
      have hlen : (l.length : Int) ≤ 5000 := by have h1 := HM.out.1; have h2 := HP.out; have h3 := LN.out; omega
      have hlen2 : l.length ≤ 5000 := by omega
      have SB := Lib.hid (fun v m1 ns => HY.out m2 (N.length + acc.length) v m1 ns hbg)
      have H1 := Lib.hid h1
      have HE := Lib.hid hres
      clear hres hbg h1
      rcases r1 with ⟨c, a⟩ | ⟨v, m3, ns⟩
      · have HE2 := Lib.hid ((congrArg (linked N.length) (blockR_err (g := g0) (l := l) H1.out)).symm.trans HE.out)
        go_wp2_with (first
          | ((go_at_call 45; (with_reducible refine BG.out.mono ?_); rintro e _ ⟨rfl, d1, os1, rfl⟩))
          | ((go_at_call 46; (with_reducible refine (SC.out _ (by repeat (first | exact Ext.refl _ | apply Ext.alloc | apply Ext.more))).mono ?_); rintro e w2 ⟨hc, ⟨y, rfl, yq, rfl⟩, nvE, mE, NE, hsE, hkE⟩; have HC := Lib.hid hc; have HSE := Lib.hid hsE; have HKE := Lib.hid hkE; have HLE := Lib.hid ((HL.out.ext ((Ext.refl _).more d1 os1)).kp hkE HBN.out); clear hc hsE hkE))
          | (at_builtin; refine wpList_append_own_at _ rfl _ _ 26 rfl w.heap.size 3 i0 (.int .i64 0) 1 8 Try.underlying26 hi hz0 hz1 hz2 rfl (by decide) lv l.length (intsL l) rfl ?c0 ⟨_, 0, none⟩ 1 1 [.int .i64 yq] rfl rfl ?c1 ?c2 ?c3 ?c4 ?c5 ?_))
        case c0 => exact (HLE.out.row.alloc _)
        case c1 => exact news_alloc rfl
        case c2 => intro u hu; simp at hu; subst hu; rfl
        case c3 => unfold maxLen; omega
        case c4 => omega
        case c5 => have h1 := HK.out.size; have h2 := HKE.out.size; simp only [more_size] at h2; simp only [World.size_alloc]; omega
        intro v' w1 hown' hgrow _ hblk
        have HSE2 := Lib.hid ((HSE.out.alloc (.cells #[.int .i64 yq] 3 (0, 0))).grown hgrow (fun k hk => ⟨by have := (HL.out.row.lt k hk).1; have := HBN.out; omega, HLE.out.ne k hk⟩))
        have HKE2 := Lib.hid (((HK.out.more d1 os1).trans HKE.out).alloc (.cells #[.int .i64 yq] 3 (0, 0)) |>.grown hgrow (fun k hk => (HL.out.row.lt k hk).1))
        clear hown' hgrow hblk
        go_wp2_with fail
        go_roundg g0
        case measure => omega
        case rel => exact Or.inr ⟨c, a, nvE, mE, NE, HC.out, HSE2.out, HKE2.out, HE2.out.symm⟩
      · have hv := SB.out v m3 ns H1.out
        have hv1 : v ≠ -1 := by omega
        have HV := Lib.hid hv
        have HE2 := Lib.hid ((congrArg (linked N.length) (blockR_nxt (g := g0) (l := l) H1.out hv1)).symm.trans HE.out)
        clear hv hv1
        go_wp2_with (first
          | ((go_at_call 45; (with_reducible refine BG.out.mono ?_); rintro e _ ⟨rfl, d1, os1, rfl⟩))
          | ((go_at_call 46; (with_reducible refine (SC.out _ (by repeat (first | exact Ext.refl _ | apply Ext.alloc | apply Ext.more))).mono ?_); rintro e w2 ⟨he, nvE, hsE, hkE, hmE⟩; unfold intV at he; subst he; have HSE := Lib.hid hsE; have HKE := Lib.hid hkE; have HLE := Lib.hid ((HL.out.ext ((Ext.refl _).more d1 os1)).kp hkE HBN.out); clear hsE hkE hmE))
          | (at_builtin; refine wpList_append_own_at _ rfl _ _ 26 rfl w.heap.size 3 i0 (.int .i64 0) 1 8 Try.underlying26 hi hz0 hz1 hz2 rfl (by decide) lv l.length (intsL l) rfl ?c0 ⟨_, 0, none⟩ 1 1 [.int .i64 v] rfl rfl ?c1 ?c2 ?c3 ?c4 ?c5 ?_))
        case c0 => exact (HLE.out.row.alloc _)
        case c1 => exact news_alloc rfl
        case c2 => intro u hu; simp at hu; subst hu; rfl
        case c3 => unfold maxLen; omega
        case c4 => omega
        case c5 => have h1 := HK.out.size; have h2 := HKE.out.size; simp only [more_size] at h2; simp only [World.size_alloc]; omega
        intro v' w1 hown' hgrow _ hblk
        have HSE2 := Lib.hid ((HSE.out.alloc (.cells #[.int .i64 v] 3 (0, 0))).grown hgrow (fun k hk => ⟨by have := (HL.out.row.lt k hk).1; have := HBN.out; omega, HLE.out.ne k hk⟩))
        have HKE2 := Lib.hid (((HK.out.more d1 os1).trans HKE.out).alloc (.cells #[.int .i64 v] 3 (0, 0)) |>.grown hgrow (fun k hk => (HL.out.row.lt k hk).1))
        have HLN : RowKit.Hid (Ls w.heap.size nvE v' (l ++ [v]) w1) := Lib.hid (by
          refine ⟨?_, fun k hk e => ?_⟩
          · have e1 : intsL (l ++ [v]) = intsL l ++ [.int .i64 v] := by simp [intsL]
            rw [e1, List.length_append]; exact hown'
          · rcases hblk with e2 | e2
            · exact HLE.out.ne k (e2 ▸ hk) e
            · rw [e2] at hk
              have h2 := Option.some.inj hk
              have h3 := (HSE.out.row.lt k e).2
              have h4 : w2.heap.size ≤ k := by rw [← h2]; simp
              omega)
        clear hown' hgrow hblk
        go_wp2_with fail
        go_roundg g0
        case measure => omega
        case rel =>
          have h1 := HM.out
          have h2 := HV.out
          refine Or.inl ⟨v', l ++ [v], acc ++ ns, m3, nvE, rfl, HLN.out, by rw [List.length_append, List.length_singleton]; omega, by omega, by omega, (HSE2.out.cast (List.append_assoc _ _ _)), HKE2.out, HE2.out, fun y hy => ?_⟩
          rw [List.length_append]
          rcases List.mem_append.1 hy with hy | hy
          · have := HA.out y hy; omega
          · simp at hy; subst hy; omega
end Go.Proofs.Ytoaaklcbcbjaiaa

namespace Go.Proofs.Ytoaaklcbcbjaiaa
open Go.RowKit
attribute [go_sem] more_more Array.size_append
theorem rblocks_any (b lb lo cap : Nat) (L : Toks) : ∀ D d : Nat, d + D = 17 → RDp b lb lo cap L 33 (d : Int) (blockD L D)
  | 0, d, hd => by
    have e : d = 17 := by omega
    subst e
    exact rblock_deep
  | D + 1, d, hd => by
    have hb := rblocks_any b lb lo cap L D (d + 1) (by omega)
    have he := (rexprs_any b lb lo cap L (D + 1) d (by omega)).1
    have ec : ((d + 1 : Nat) : Int) = (d : Int) + 1 := by omega
    have fe := (Fwd.exprD L (D + 1)).1
    have fb := Fwd.braced L (Fwd.blockD L D)
    intro nv m N w hs r hr
    refine rblock_any hs d (by omega) (stmtP L (exprP L (D + 1)) (bracedP L (blockD L D))) (fun nv m N w hs hbg r hr => rstmt_any hs hbg d (by omega) _ _ he (hb.cast ec) r hr)
      (fun m n v m1 ns hbg h => stmt_yes fe fb hbg h) (fun m n hbg => stmt_none hbg) r ?_
    have := block_link (stmtP L (exprP L (D + 1)) (bracedP L (blockD L D))) (fun m n v m1 ns h => stmt_ok fe fb h) (L.length + 1) [] [] m N.length (fun x hx => by simp at hx)
    refine Eq.trans ?_ (this.symm.trans hr)
    generalize blockR (stmtP L (exprP L (D + 1)) (bracedP L (blockD L D))) (L.length + 1) [] [] m N.length = X
    cases X <;> rfl
/-- how many of the first tokens are ends -/
def zeros (L : Toks) : Nat → Nat
  | 0 => 0
  | j + 1 => zeros L j + (if (tk L j).1.k = 0 then 1 else 0)
theorem zeros_le (L : Toks) : ∀ j, zeros L j ≤ j
  | 0 => Nat.le_refl _
  | j + 1 => by have := zeros_le L j; rw [zeros]; split <;> omega
theorem zeros_none (L : Toks) : ∀ n, zeros L n = 0 ↔ ∀ j, j < n → (tk L j).1.k ≠ 0
  | 0 => by simp [zeros]
  | n + 1 => by
    have ih := zeros_none L n
    rw [zeros]
    constructor
    · intro h j hj
      have h1 : zeros L n = 0 := by omega
      rcases Nat.lt_or_ge j n with h2 | h2
      · exact ih.1 h1 j h2
      · have : j = n := by omega
        subst this
        intro e; rw [if_pos e] at h; omega
    · intro h
      rw [ih.2 (fun j hj => h j (by omega)), if_neg (h n (by omega))]
theorem zeros_ends {L : Toks} {n : Nat} (hn : L.length = n + 1) (h1 : zeros L (n + 1) = 1) (h2 : (tk L n).1.k = 0) : ∀ j, j < L.length → okAt L j = true := by
  rw [zeros, if_pos h2] at h1
  have h0 := (zeros_none L n).1 (by omega)
  intro j hj
  unfold okAt
  rw [hn]
  by_cases h : j = n
  · subst h; simp [h2]
  · have := h0 j (by omega)
    have e1 : ((tk L j).1.k == 0) = false := by simpa using this
    have e2 : decide (j + 1 = n + 1) = false := by simp; omega
    rw [e1, e2]; rfl
theorem zeros_not {L : Toks} {n : Nat} (hn : L.length = n + 1) (h : zeros L (n + 1) ≠ 1 ∨ (tk L n).1.k ≠ 0) : parseF L = .error (1, 0) := by
  have he : ¬ endsOk L = true := by
    intro he
    unfold endsOk at he
    rw [Bool.and_eq_true, List.all_eq_true] at he
    have h1 : ∀ j, j < n + 1 → ((tk L j).1.k == 0) = decide (j + 1 = n + 1) := fun j hj => by
      have := he.2 j (by simp; omega)
      rw [hn] at this
      simpa using this
    have hl : (tk L n).1.k = 0 := by have := h1 n (by omega); simpa using this
    rcases h with h | h
    · apply h
      rw [zeros, if_pos hl, (zeros_none L n).2 (fun j hj e => ?_)]
      have := h1 j (by omega)
      rw [e] at this
      simp at this
      omega
    · exact h hl
  unfold parseF
  rw [if_neg he]
set_option maxHeartbeats 4000000 in
set_option maxRecDepth 20000 in
theorem rtokens_any (L : Toks) (lb lo cap : Nat) (h0 : 0 < L.length) (hf : L.length ≤ 5000) (w : World) (ht : ToksAt lb lo L w) (r : Except (Int × Int) (List Nd × Int)) (hr : parseF L = r) :
    Calls Try.prog 17 #[.slice (some ⟨lb, lo, none⟩) L.length cap] w (ParsePost w r) := by
  have hlb := ht.lt h0
  have HT := Lib.hid ht
  have HR := Lib.hid hr
  obtain ⟨n, hn⟩ : ∃ n, L.length = n + 1 := ⟨L.length - 1, by omega⟩
  have hl0 : 0 < (L.length : Int) := by omega
  have hl1 : (L.length : Int) ≤ 5000 := by omega
  have HN := Lib.hid hn
  clear ht hr hn
  go_enter Try.func17, Try.ntmps17
  go_wp2_with fail
  go_loopw [5, 6] (fun x y wr => ∃ j : Nat, y = .int .i64 (j : Int) ∧ j ≤ L.length ∧ x = .int .i64 (zeros L j : Int) ∧ wr = w.alloc (.cells #[.slice none 0 0, .int .i64 0] 24 (0, 0))) (fun _ y _ => L.length - (intOf y).toNat)
  case atStart => exact ⟨0, rfl, Nat.zero_le _, rfl, rfl⟩
  case round =>
    obtain ⟨j, rfl, hj, rfl, rfl⟩ := hrel
    have hz := zeros_le L j
    obtain ⟨zj, hzj⟩ : ∃ zj, zeros L j = zj := ⟨_, rfl⟩
    by_cases hlt : j < L.length
    · obtain ⟨t0, t1, t2, t3⟩ := HT.out.of_block (w' := w.alloc (.cells #[.slice none 0 0, .int .i64 0] 24 (0, 0))) (((Ext.refl _).alloc _).below.block lb hlb) j hlt
      have hlt2 : (j : Int) < (L.length : Int) := by omega
      have hj0 : 0 ≤ (j : Int) := by omega
      have hzs : zeros L (j + 1) = zj + (if (tk L j).1.k = 0 then 1 else 0) := by rw [zeros, hzj]
      have HZ := Lib.hid hzs
      have HLT := Lib.hid hlt
      rw [hzj] at hz ⊢
      have hzi : (zj : Int) ≤ (j : Int) := by omega
      have hlb2 : lb < w.heap.size := hlb
      obtain ⟨⟨⟨k, ts, i⟩, a⟩, htt⟩ : ∃ tt, tk L j = tt := ⟨_, rfl⟩
      rw [htt] at t0 HZ
      dsimp only at t0 HZ
      clear hzj hzs htt t1 t2 t3
      cases q1 : (k == 0)
      · have hk : ¬ k = 0 := by simpa using q1
        go_wp2_with fail
        go_roundw
        case rel => exact ⟨j + 1, by go_num, by have := HLT.out; omega, by rw [HZ.out, if_neg hk]; rfl, by first | rfl | trivial⟩
        case measure => have := HLT.out; simp [intOf]; omega
      · have hk : k = 0 := by simpa using q1
        go_wp2_with fail
        go_roundw
        case rel => exact ⟨j + 1, by go_num, by have := HLT.out; omega, by rw [HZ.out, if_pos hk]; go_num, by first | rfl | trivial⟩
        case measure => have := HLT.out; simp [intOf]; omega
    · have hje : j = n + 1 := by have := HN.out; omega
      subst hje
      have hnl : ((n : Int) + 1) = (L.length : Int) := by have := HN.out; omega
      have hz9 : ((L.length : Int) == 0) = false := beq_eq_false_iff_ne.2 (by omega)
      by_cases hone : zj = 1
      rotate_left
      · have RR := Lib.hid (HR.out.symm.trans (zeros_not HN.out (Or.inl (by rw [hzj]; exact hone))))
        rw [hzj]
        have q1 : ((zj : Int) != 1) = true := by simp; omega
        clear hzj hz hone hj
        have hnlt : ¬ ((((n + 1 : Nat)) : Int) < (L.length : Int)) := by omega
        go_wp2_with fail
        have := RR.out
        subst this
        exact bodyPost_ret (v := .tuple #[.agg #[.slice none 0 0, .int .i64 0], .int .i64 1, .int .i64 0]) (by simp [results, Try.results17, go_sem]) rfl ⟨rfl, by repeat (first | exact Ext.refl _ | apply Ext.alloc | apply Ext.more)⟩
      obtain ⟨t0, t1, t2, t3⟩ := HT.out.of_block (w' := w.alloc (.cells #[.slice none 0 0, .int .i64 0] 24 (0, 0))) (((Ext.refl _).alloc _).below.block lb hlb) n (by have := HN.out; omega)
      clear t1 t2 t3
      rw [hzj, hone]
      have hq : ((L.length : Int) - 1).toNat = n := by omega
      have hq1 : ((L.length : Int) - 1) < (L.length : Int) := by omega
      have hq2 : 0 ≤ ((L.length : Int) - 1) := by omega
      have hnlt : ¬ ((((n + 1 : Nat)) : Int) < (L.length : Int)) := by omega
      by_cases hk0 : (tk L n).1.k = 0
      rotate_left
      · have RR := Lib.hid (HR.out.symm.trans (zeros_not HN.out (Or.inr hk0)))
        have q1 : ((tk L n).1.k != 0) = true := by simpa using hk0
        clear hzj hz hone hj hk0 hlt
        go_wp2_with fail
        have := RR.out
        subst this
        exact bodyPost_ret (v := .tuple #[.agg #[.slice none 0 0, .int .i64 0], .int .i64 1, .int .i64 0]) (by simp [results, Try.results17, go_sem]) rfl ⟨rfl, by repeat (first | exact Ext.refl _ | apply Ext.alloc | apply Ext.more)⟩
      obtain ⟨hE, hP⟩ := ends_yes h0 hf (zeros_ends HN.out (by rw [hzj]; exact hone) hk0)
      have HE := Lib.hid hE
      have RR := Lib.hid (hP.symm.trans HR.out)
      rw [hk0] at t0
      clear hzj hz hone hj hk0 hE hP hlt
      go_wp2_with fail
      go_at_call 33
      obtain ⟨P0, hP0⟩ : ∃ P0 : Obj, P0 = (.cells #[.slice none 0 0, .int .i64 0] 24 (0, 0)) := ⟨_, rfl⟩
      have X2 : Ext w ((w.alloc (.cells #[.slice none 0 0, .int .i64 0] 24 (0, 0))).alloc (.cells #[.slice (some ⟨lb, lo, none⟩) L.length cap, .int .i64 0, .slice none 0 0, .int .i64 0, .int .i64 0] 75 (0, 0))) := ((Ext.refl _).alloc _).alloc _
      have LP : Loc (w.heap.size + 1) (.slice none 0 0) w.heap.size (.cells #[.slice none 0 0, .int .i64 0] 24 (0, 0)) ((w.alloc (.cells #[.slice none 0 0, .int .i64 0] 24 (0, 0))).alloc (.cells #[.slice (some ⟨lb, lo, none⟩) L.length cap, .int .i64 0, .slice none 0 0, .int .i64 0, .int .i64 0] 75 (0, 0))) :=
        ⟨(((Ext.refl _).alloc _).below.block _ (by simp)).trans (heap_alloc_new _ _), by omega, by simp [Value.ownBlock]⟩
      have S0 : Rt (w.heap.size + 1) lb lo cap (.slice none 0 0) L 0 [] 0 0 ((w.alloc (.cells #[.slice none 0 0, .int .i64 0] 24 (0, 0))).alloc (.cells #[.slice (some ⟨lb, lo, none⟩) L.length cap, .int .i64 0, .slice none 0 0, .int .i64 0, .int .i64 0] 75 (0, 0))) :=
        ⟨HE.out, by have := heap_alloc_new (w.alloc (.cells #[.slice none 0 0, .int .i64 0] 24 (0, 0))) (.cells #[.slice (some ⟨lb, lo, none⟩) L.length cap, .int .i64 0, .slice none 0 0, .int .i64 0, .int .i64 0] 75 (0, 0)); rwa [World.size_alloc] at this, HT.out.of_block (X2.below.block lb hlb), World.ownsRow_nil _ _ _ _, by omega, h0, by simp⟩
      obtain ⟨W1, hW1⟩ : ∃ W1, ((w.alloc (.cells #[.slice none 0 0, .int .i64 0] 24 (0, 0))).alloc (.cells #[.slice (some ⟨lb, lo, none⟩) L.length cap, .int .i64 0, .slice none 0 0, .int .i64 0, .int .i64 0] 75 (0, 0))) = W1 := ⟨_, rfl⟩
      rw [hW1] at LP S0 X2
      rw [hW1]
      clear hW1 t0 hP0
      have LP := Lib.hid LP
      have X2 := Lib.hid X2
      obtain ⟨r1, h1⟩ : ∃ r1, blockD L 16 0 0 = r1 := ⟨_, rfl⟩
      refine ((rblocks_any (w.heap.size + 1) lb lo cap L 16 1 rfl).cast (z' := 1) rfl _ _ _ _ S0 r1 h1).mono ?_
      clear S0
      rcases r1 with ⟨c1, a1⟩ | ⟨fv, m1, ns1⟩
      · have R2 : RowKit.Hid (.error (c1, a1) = r) := Lib.hid (by rw [← RR.out]; unfold progP; rw [pbind_err h1])
        clear h1 RR
        rintro e w1 ⟨hc, ⟨v, rfl, yq, rfl⟩, nv1, mE, NE, hs, hk⟩
        have XK := Lib.hid (ext_kp X2.out hk (by omega) rfl)
        have q1 : (c1 == 0) = false := by simpa using hc
        have q2 : (c1 != 0) = true := by simpa using hc
        have HS := Lib.hid hs
        have LP1 := LP.out.kp hk
        obtain ⟨p0, p1, y0, y1, lp⟩ := LP1.two
        obtain ⟨c0, c1', c2, c3, c4, f1, f2, f3, f4, hb⟩ := hs.facts
        clear LP1 hk hs hc c0 c1' c2 f1 f2 f3 f4
        go_wp2_with fail
        refine wp_region_grow 19 87 [false, false, false, false, false, false, false, false, false, false, false, false, false, false, false, false, false, false, false] (by kernel_rfl) (by kernel_rfl) rfl ?_
        simp only [List.take_succ_cons, List.take_zero, List.drop_succ_cons, List.drop_zero]
        repeat (refine Lex.step rfl ?_; intro K hK; unfold StepG; go_simp; (first
            | refine hK _ ?_); clear hK K)
        refine Lex.nil fun WW hE => ?_
        obtain ⟨dd, oo, rfl⟩ := hE
        unfold FillH
        go_wp2_with fail
        rw [ends_normal]
        go_wp2_with fail
        go_region
        go_wp2_with fail
        have := R2.out
        subst this
        refine bodyPost_ret (v := .tuple #[.agg #[.slice none 0 0, .int .i64 0], .int .i64 c1, .int .i64 a1]) (by simp [results, Try.results17, go_sem, p0, p1, y0, y1, lp]) rfl ⟨rfl, ?_⟩
        repeat (first | (with_reducible exact XK.out) | (with_reducible apply Ext.more) | (with_reducible refine Ext.setCell ?_ (by dsimp only; omega) _) | (with_reducible apply Ext.drew))
      · rintro e w1 ⟨he, nv1, hs, hk, _⟩
        unfold intV at he
        subst he
        have hs := hs.cast (List.nil_append _)
        have XK := Lib.hid (ext_kp X2.out hk (by omega) rfl)
        have LP1 := LP.out.kp hk
        obtain ⟨p0, p1, y0, y1, lp⟩ := LP1.two
        obtain ⟨c0, c1', c2, c3, c4, f1, f2, f3, f4, hb⟩ := hs.facts
        obtain ⟨t0, t1, t2, t3, hlb3⟩ := hs.tokFacts
        have hmi : (m1 : Int) < (L.length : Int) := by have := hs.pos; omega
        have hm0 : 0 ≤ (m1 : Int) := by omega
        have HS := Lib.hid hs
        have HK := Lib.hid hk
        clear LP1 hk hs t1 t2 t3
        by_cases hk0 : (tk L m1).1.k = 0
        · have R2 : RowKit.Hid (.ok (ns1, fv) = r) := Lib.hid (by
            rw [← RR.out]
            unfold progP
            rw [pbind_ok h1, pbind_ok (v := (tk L m1).1) (m1 := m1 + 1) (ns := []) (by unfold ofP; rw [if_pos hk0])]
            simp [pok, prep])
          rw [hk0] at t0
          obtain ⟨len, cc, pp, rfl, hlen⟩ := rnv_form HS.out
          clear h1 RR hk0 f1 f2 f3 f4 hlen
          go_wp2_with fail
          refine wp_region_grow 19 87 [false, false, false, false, false, false, false, false, false, false, false, false, false, false, false, false, false, false, false] (by kernel_rfl) (by kernel_rfl) rfl ?_
          simp only [List.take_succ_cons, List.take_zero, List.drop_succ_cons, List.drop_zero]
          repeat (refine Lex.step rfl ?_; intro K hK; unfold StepG; go_simp; (first
              | refine hK _ ?_); clear hK K)
          refine Lex.nil fun WW hE => ?_
          obtain ⟨dd, oo, rfl⟩ := hE
          unfold FillH
          go_wp2_with fail
          rw [ends_normal]
          go_wp2_with fail
          have := R2.out
          subst this
          refine bodyPost_ret (v := .tuple #[.agg #[.slice pp len cc, .int .i64 fv], .int .i64 0, .int .i64 0]) (by simp [results, Try.results17, go_sem, p0, p1, y0, y1, lp]) rfl ⟨.slice pp len cc, rfl, ?_, ?_⟩
          · refine World.ownsRow.mono (base := w.heap.size + 1 + 1) ?_ (by omega)
            repeat (first | (with_reducible exact HS.out.row) | (with_reducible apply own_more) | (with_reducible refine ownsRow_setCell_below ?_ (by dsimp only; omega) _))
          · repeat (first | (with_reducible exact XK.out) | (with_reducible apply Ext.more) | (with_reducible refine Ext.setCell ?_ (by dsimp only; omega) _) | (with_reducible apply Ext.drew))
        · have R2 : RowKit.Hid (.error (3, (tk L m1).2) = r) := Lib.hid (by rw [← RR.out]; unfold progP; rw [pbind_ok h1, pbind_err (e := (3, (tk L m1).2)) (by unfold ofP; rw [if_neg hk0])]; rfl)
          have q1 : ((tk L m1).1.k != 0) = true := by simpa using hk0
          have FL := Lib.hid (fun w2 (hx : Ext w1 w2) => rfail_st (HS.out.ext hx) 3 (by decide))
          clear h1 RR hk0 f1 f2 f3 f4 c4
          go_wp2_with fail
          refine wp_region_grow 19 87 [false, false, false, false, false, false, false, false, false, false, false, false, false, false, false, false, false, false, false] (by kernel_rfl) (by kernel_rfl) rfl ?_
          simp only [List.take_succ_cons, List.take_zero, List.drop_succ_cons, List.drop_zero]
          repeat (refine Lex.step rfl ?_; intro K hK; unfold StepG; go_simp; (first
              | refine hK _ ?_); clear hK K)
          refine Lex.nil fun WW hE => ?_
          obtain ⟨dd, oo, rfl⟩ := hE
          unfold FillH
          go_wp2_with fail
          rw [ends_normal]
          go_wp2_with ((go_at_call 34; (with_reducible refine (FL.out _ (by repeat (first | exact Ext.refl _ | apply Ext.alloc | apply Ext.more))).mono ?_); rintro e wF ⟨rfl, hsf, hkf⟩; have HSF := Lib.hid hsf; have HKF := Lib.hid (HK.out.trans (((Kp.refl _ _ _).ext (by repeat (first | exact Ext.refl _ | apply Ext.alloc | apply Ext.more))).trans hkf)); obtain ⟨k0, k1, k2, k3, k4, j1, j2, j3, j4, kb1⟩ := hsf.facts; clear hsf hkf k0 k1 k2 j1 j2 j3 j4; clear p0 p1 y0 y1 lp; obtain ⟨p0, p1, y0, y1, lp⟩ := (LP.out.kp HKF.out).two))
          have XF := Lib.hid (ext_kp X2.out HKF.out (by omega) rfl)
          go_region
          go_wp2_with fail
          have := R2.out
          subst this
          refine bodyPost_ret (v := .tuple #[.agg #[.slice none 0 0, .int .i64 0], .int .i64 3, .int .i64 (tk L m1).2]) (by simp [results, Try.results17, go_sem, p0, p1, y0, y1, lp]) rfl ⟨rfl, ?_⟩
          repeat (first | (with_reducible exact XF.out) | (with_reducible apply Ext.more) | (with_reducible refine Ext.setCell ?_ (by dsimp only; omega) _) | (with_reducible apply Ext.drew))
end Go.Proofs.Ytoaaklcbcbjaiaa

namespace Go.Proofs.Ytoaaklcbcbjaiaa
open Go.RowKit
attribute [go_sem] more_more Array.size_append
set_option maxHeartbeats 400000 in
theorem letter16 (c : Int) (h0 : 0 ≤ c) (h1 : c < 256) (w : World) : Calls Try.prog 48 #[.int .u8 c] w fun e w' => e = .returned (.bool (letterB c)) ∧ w = w' := by
  go_enter Try.func48, Try.ntmps48
  go_wp2
  all_goals
    go_ret
    refine ⟨ret_bool (by first | (rw [Bool.eq_iff_iff]; simp [letterB]; omega) | (simp [letterB]; omega)), rfl⟩
set_option maxHeartbeats 400000 in
theorem digit16 (c : Int) (h0 : 0 ≤ c) (h1 : c < 256) (w : World) : Calls Try.prog 49 #[.int .u8 c] w fun e w' => e = .returned (.bool (digitB c)) ∧ w = w' := by
  go_enter Try.func49, Try.ntmps49
  go_wp2
  all_goals
    go_ret
    refine ⟨ret_bool (by first | (rw [Bool.eq_iff_iff]; simp [digitB]; omega) | (simp [digitB]; omega)), rfl⟩
theorem drop_at (s : ByteArray) (m : Nat) (h : m < s.size) : s.data.toList.drop m = s[m]'h :: s.data.toList.drop (m + 1) := List.drop_eq_getElem_cons (by simpa using h)
theorem drop_end (s : ByteArray) : s.data.toList.drop s.size = [] := List.drop_eq_nil_of_le (by simp)
theorem beqI {a b : Int} (h : (a == b) = true) : a = b := by simpa using h
theorem bneI {a b : Int} (h : (a == b) = false) : ¬ a = b := by simpa using h
set_option maxHeartbeats 2000000 in
set_option maxRecDepth 20000 in
theorem skip16 (s : ByteArray) (hs : (s.size : Int) ≤ 5000) (k n : Nat) (hk : k ≤ s.size) (hn : k + skipL false (s.data.toList.drop k) = n) (w : World) :
    Calls Try.prog 36 #[.string s, .int .i64 (k : Int)] w fun e w' => e = .returned (.int .i64 (n : Int)) ∧ w = w' := by
  have HN := Lib.hid hn
  clear hn
  go_enter Try.func36, Try.ntmps36
  go_wp2_with fail
  go_loopw [1] (fun a wr => ∃ m : Nat, a = .int .i64 (m : Int) ∧ m ≤ s.size ∧ m + skipL false (s.data.toList.drop m) = n ∧ wr = w) (fun a _ => s.size - (intOf a).toNat)
  case atStart => exact ⟨k, rfl, hk, HN.out, rfl⟩
  case round =>
    obtain ⟨m, rfl, hm, hsp, rfl⟩ := hrel
    have HS := Lib.hid hsp
    clear hsp
    have hm5 : (m : Int) ≤ 5000 := by omega
    by_cases hlt : m < s.size
    · have hlt2 : (m : Int) < (s.size : Int) := by omega
      have hd := Lib.hid (drop_at s m hlt)
      have hu := (s[m]'hlt).toNat_lt
      have HLT := Lib.hid hlt
      cases q1 : (((s[m]'hlt).toNat : Int) == 32) <;> cases q2 : (((s[m]'hlt).toNat : Int) == 9) <;> cases q3 : (((s[m]'hlt).toNat : Int) == 10)
      rotate_left
      all_goals try (exfalso; have a1 := q1; have a2 := q2; have a3 := q3; simp only [beq_iff_eq] at a1 a2 a3; omega)
      all_goals try
        (have HS2 : RowKit.Hid (m + 1 + skipL false (s.data.toList.drop (m + 1)) = n) := Lib.hid (by
          have h := HS.out
          rw [hd.out, skipL, if_pos (by have a1 := q1; have a2 := q2; have a3 := q3; simp only [beq_iff_eq] at a1 a2 a3; omega)] at h
          omega)
         go_wp2_with fail
         go_roundw
         case rel => exact ⟨m + 1, by go_num, by have := HLT.out; omega, HS2.out, by first | rfl | trivial⟩
         case measure => have := HLT.out; simp [intOf]; omega)
      cases q4 : (((s[m]'hlt).toNat : Int) == 35)
      · have HE : RowKit.Hid (m = n) := Lib.hid (by
          have h := HS.out
          rw [hd.out, skipL, if_neg (by have a1 := bneI q1; have a2 := bneI q2; have a3 := bneI q3; omega), if_neg (by have a4 := bneI q4; omega)] at h
          omega)
        go_wp2_with fail
        go_ret
        exact ⟨ret_int (by have := HE.out; omega), rfl⟩
      · have HS2 : RowKit.Hid (m + skipL true (s.data.toList.drop m) = n) := Lib.hid (by
          have h := HS.out
          have a4 := beqI q4
          rw [hd.out, skipL, if_neg (by omega), if_pos (by omega)] at h
          rw [hd.out, skipL, if_neg (by omega)]
          omega)
        have Q4 := Lib.hid q4
        go_wp2_with fail
        go_loopw [1] (fun a wr2 => ∃ m2 : Nat, a = .int .i64 (m2 : Int) ∧ m ≤ m2 ∧ m2 ≤ s.size ∧ m2 + skipL true (s.data.toList.drop m2) = n ∧ wr2 = wr) (fun a _ => s.size - (intOf a).toNat)
        case atStart => exact ⟨m, rfl, Nat.le_refl _, hm, HS2.out, rfl⟩
        case round =>
          obtain ⟨m2, rfl, hm1, hm2, hsp, rfl⟩ := hrel
          have HS3 := Lib.hid hsp
          clear hsp q1 q2 q3 q4
          by_cases hlt3 : m2 < s.size
          · have hlt4 : (m2 : Int) < (s.size : Int) := by omega
            have hd2 := Lib.hid (drop_at s m2 hlt3)
            have hu2 := (s[m2]'hlt3).toNat_lt
            have HLT3 := Lib.hid hlt3
            cases q5 : (((s[m2]'hlt3).toNat : Int) == 10)
            · have HS4 : RowKit.Hid (m2 + 1 + skipL true (s.data.toList.drop (m2 + 1)) = n) := Lib.hid (by
                have h := HS3.out
                rw [hd2.out, skipL, if_neg (by have a4 := bneI q5; omega)] at h
                omega)
              go_wp2_with fail
              go_roundw
              case rel => exact ⟨m2 + 1, by go_num, by omega, by have := HLT3.out; omega, HS4.out, by first | rfl | trivial⟩
              case measure => have := HLT3.out; simp [intOf]; omega
            · have HS4 : RowKit.Hid (m2 + skipL false (s.data.toList.drop m2) = n) := Lib.hid (by
                have h := HS3.out
                have a4 := beqI q5
                rw [hd2.out, skipL, if_pos (by omega)] at h
                rw [hd2.out, skipL, if_pos (by omega)]
                omega)
              have hmm : m < m2 := by
                rcases Nat.lt_or_ge m m2 with h | h
                · exact h
                · have : m = m2 := by omega
                  subst this
                  have a4 := beqI q5; have a5 := beqI Q4.out; omega
              go_wp2_with fail
              go_roundw
              case rel => exact ⟨m2, rfl, hm2, HS4.out, by first | rfl | trivial⟩
              case measure => have := HLT.out; simp [intOf]; omega
          · have hme : m2 = s.size := by omega
            subst hme
            have HS4 : RowKit.Hid (s.size + skipL false (s.data.toList.drop s.size) = n) := Lib.hid (by
              have h := HS3.out
              rw [drop_end] at h ⊢
              exact h)
            clear hlt3
            go_wp2_with fail
            go_roundw
            case rel => exact ⟨s.size, rfl, Nat.le_refl _, HS4.out, by first | rfl | trivial⟩
            case measure => have := HLT.out; simp [intOf]; omega
    · have hme : m = s.size := by omega
      subst hme
      have HE : RowKit.Hid (s.size = n) := Lib.hid (by
        have h := HS.out
        rw [drop_end] at h
        simpa [skipL] using h)
      clear hlt
      go_wp2_with fail
      go_ret
      exact ⟨ret_int (by have := HE.out; omega), rfl⟩
theorem numG_big : ∀ (l : List UInt8) (v : Int), 9223372036854775807 < v → numG v l = none
  | [], v, h => by unfold numG; rw [if_pos h]
  | c :: l, v, h => by unfold numG; rw [if_pos (by omega)]
def numV : Option Int → Value
  | some v => .tuple #[.int .i64 v, .bool true]
  | none => .tuple #[.int .i64 0, .bool false]
set_option maxHeartbeats 2000000 in
set_option maxRecDepth 20000 in
theorem number16 (t : ByteArray) (hs : (t.size : Int) ≤ 5000) (hd : ∀ j (h : j < t.size), 48 ≤ ((t[j]'h).toNat : Int) ∧ ((t[j]'h).toNat : Int) ≤ 57) (R : Option Int) (hr : numG 0 t.data.toList = R) (w : World) :
    Calls Try.prog 51 #[.string t] w fun e w' => e = .returned (numV R) ∧ w = w' := by
  have HR := Lib.hid hr
  have HD := Lib.hid hd
  clear hr hd
  go_enter Try.func51, Try.ntmps51
  go_wp2_with fail
  go_loopw [4, 5] (fun vv a wr => ∃ (m : Nat) (v : Int), a = .int .i64 (m : Int) ∧ vv = .int .i64 v ∧ m ≤ t.size ∧ 0 ≤ v ∧ v ≤ 9223372036854775807 ∧ numG v (t.data.toList.drop m) = R ∧ wr = w) (fun _ a _ => t.size - (intOf a).toNat)
  case atStart => exact ⟨0, 0, rfl, rfl, Nat.zero_le _, by decide, by decide, HR.out, rfl⟩
  case round =>
    obtain ⟨m, v, rfl, rfl, hm, hv0, hv1, hg, rfl⟩ := hrel
    have HG := Lib.hid hg
    clear hg HR
    have hm5 : (m : Int) ≤ 5000 := by omega
    by_cases hlt : m < t.size
    · have hlt2 : (m : Int) < (t.size : Int) := by omega
      have hdd := Lib.hid (drop_at t m hlt)
      obtain ⟨d0, d1⟩ := HD.out m hlt
      have HLT := Lib.hid hlt
      by_cases hb : 922337203685477580 < v
      · have HE : RowKit.Hid (R = none) := Lib.hid (by rw [← HG.out, hdd.out]; unfold numG; rw [if_pos hb])
        clear hm
        go_wp2_with fail
        have := HE.out
        subst this
        go_ret2
        exact ⟨rfl, rfl⟩
      · have hb2 : v ≤ 922337203685477580 := by omega
        by_cases hq : v = 922337203685477580 ∧ 55 < ((t[m]'hlt).toNat : Int)
        · have HE : RowKit.Hid (R = none) := Lib.hid (by rw [← HG.out, hdd.out]; unfold numG; rw [if_neg (by omega)]; exact numG_big _ _ (by omega))
          obtain ⟨rfl, hq2⟩ := hq
          have hq3 : 7 < ((t[m]'hlt).toNat : Int) - 48 := by omega
          clear hm hb
          go_wp2_with fail
          have := HE.out
          subst this
          go_ret2
          exact ⟨rfl, rfl⟩
        · have HG2 : RowKit.Hid (numG (10 * v + (((t[m]'hlt).toNat : Int) - 48)) (t.data.toList.drop (m + 1)) = R) := Lib.hid (by
            have h := HG.out
            rw [hdd.out] at h; unfold numG at h; rw [if_neg (by omega)] at h; exact h)
          have hv2 : 0 ≤ 10 * v + (((t[m]'hlt).toNat : Int) - 48) := by omega
          have hv3 : 10 * v + (((t[m]'hlt).toNat : Int) - 48) ≤ 9223372036854775807 := by omega
          have hnb : ¬ 922337203685477580 < v := by omega
          cases qv : (v == 922337203685477580)
          · clear hq hb
            go_wp2_with fail
            go_roundw
            case rel => exact ⟨m + 1, _, by go_num, rfl, by have := HLT.out; omega, hv2, hv3, HG2.out, by first | rfl | trivial⟩
            case measure => have := HLT.out; simp [intOf]; omega
          · have hq3 : ((t[m]'hlt).toNat : Int) - 48 ≤ 7 := by have := beqI qv; omega
            clear hq hb
            go_wp2_with fail
            go_roundw
            case rel => exact ⟨m + 1, _, by go_num, rfl, by have := HLT.out; omega, hv2, hv3, HG2.out, by first | rfl | trivial⟩
            case measure => have := HLT.out; simp [intOf]; omega
    · have hme : m = t.size := by omega
      subst hme
      have HE : RowKit.Hid (R = some v) := Lib.hid (by rw [← HG.out, drop_end]; unfold numG; rw [if_neg (by omega)])
      clear hlt
      go_wp2_with fail
      have := HE.out
      subst this
      go_ret2
      exact ⟨rfl, rfl⟩
theorem ext_one (s : ByteArray) (m : Nat) (h : m < s.size) : s.extract m (m + 1) = ⟨#[s[m]'h]⟩ := by
  rw [extract_take, drop_at s m h]
  simp
theorem snocA (acc : List UInt8) (u : UInt8) : (⟨acc.toArray⟩ : ByteArray) ++ ⟨#[u]⟩ = ⟨(acc ++ [u]).toArray⟩ := by
  apply ByteArray.ext
  simp
/-- what text hands back -/
def TxPost (r : Tok) (n : Nat) (e : Int) (w : World) (e' : Ending) (w' : World) : Prop :=
  (∃ (q : ByteArray) (z : Int), e' = .returned (.tuple #[.string q, .int .i64 z, .int .i64 e]) ∧ (e = 0 → q = r.s ∧ z = n)) ∧ w = w'
set_option maxHeartbeats 4000000 in
set_option maxRecDepth 20000 in
theorem text16 (s : ByteArray) (hs : (s.size : Int) ≤ 5000) (k n : Nat) (hk : k < s.size) (r : Tok) (e : Int) (h1 : (textG (s.data.toList.drop (k + 1)) []).1 = r) (h2 : k + 1 + (textG (s.data.toList.drop (k + 1)) []).2.1 = n) (h3 : (textG (s.data.toList.drop (k + 1)) []).2.2 = e) (w : World) :
    Calls Try.prog 52 #[.string s, .int .i64 (k : Int)] w (TxPost r n e w) := by
  have HR := Lib.hid (And.intro h1 (And.intro h2 h3))
  have hk5 : (k : Int) ≤ 5000 := by omega
  clear h1 h2 h3
  go_enter Try.func52, Try.ntmps52
  go_wp2_with fail
  go_loopw [7, 8] (fun x y wr => ∃ (m : Nat) (acc : List UInt8), x = .string ⟨acc.toArray⟩ ∧ y = .int .i64 (m : Int) ∧ m ≤ s.size ∧ acc.length ≤ m ∧ (textG (s.data.toList.drop m) acc).1 = r ∧ m + (textG (s.data.toList.drop m) acc).2.1 = n ∧ (textG (s.data.toList.drop m) acc).2.2 = e ∧ wr = w) (fun _ y _ => s.size - (intOf y).toNat)
  case atStart => exact ⟨k + 1, [], rfl, by go_num, by omega, Nat.zero_le _, HR.out.1, HR.out.2.1, HR.out.2.2, rfl⟩
  case round =>
    obtain ⟨m, acc, rfl, rfl, hm, hac, g1, g2, g3, rfl⟩ := hrel
    have HG := Lib.hid (And.intro g1 (And.intro g2 g3))
    clear g1 g2 g3 HR
    have hm5 : (m : Int) ≤ 5000 := by omega
    have hz : (⟨acc.toArray⟩ : ByteArray).size = acc.length := by simp [ByteArray.size]
    have ha5 : (acc.length : Int) ≤ 5000 := by omega
    by_cases hlt : m < s.size
    · have hlt2 : (m : Int) < (s.size : Int) := by omega
      have hd := Lib.hid (drop_at s m hlt)
      have hu := (s[m]'hlt).toNat_lt
      have HLT := Lib.hid hlt
      have HG1 := Lib.hid (textG_cons (s[m]'hlt) (s.data.toList.drop (m + 1)) acc)
      cases q1 : (((s[m]'hlt).toNat : Int) == 34)
      rotate_left
      · by_cases h64 : 64 < acc.length
        · have HE : RowKit.Hid (e = 5) := Lib.hid (by
            have h := HG.out.2.2
            have a := beqI q1
            rw [hd.out, HG1.out, if_pos (by omega), if_pos h64] at h; exact h.symm)
          have h642 : (64 : Int) < (acc.length : Int) := by omega
          clear h64
          go_wp2_with fail
          go_ret3
          exact ⟨⟨⟨#[]⟩, 0, by simp [HE.out], fun h0 => by have := HE.out; omega⟩, rfl⟩
        · have HE : RowKit.Hid (r = ⟨3, ⟨acc.toArray⟩, 0⟩ ∧ n = m + 1 ∧ e = 0) := Lib.hid (by
            obtain ⟨a1, a2, a3⟩ := HG.out
            have a := beqI q1
            rw [hd.out, HG1.out, if_pos (by omega), if_neg h64] at a1 a2 a3
            exact ⟨a1.symm, a2.symm, a3.symm⟩)
          have h642 : (acc.length : Int) ≤ 64 := by omega
          clear h64
          go_wp2_with fail
          go_ret3
          obtain ⟨e1, e2, e3⟩ := HE.out
          exact ⟨⟨⟨acc.toArray⟩, (m : Int) + 1, by simp [e3], fun _ => ⟨by rw [e1], by rw [e2]; rfl⟩⟩, rfl⟩
      · by_cases hb : ((s[m]'hlt).toNat : Int) < 32 ∨ 126 < ((s[m]'hlt).toNat : Int)
        · have HE : RowKit.Hid (e = 3) := Lib.hid (by
            have h := HG.out.2.2
            have a := bneI q1
            rw [hd.out, HG1.out, if_neg (by omega), if_pos (by omega)] at h; exact h.symm)
          rcases hb with hb | hb
          all_goals
            go_wp2_with fail
            go_ret3
            exact ⟨⟨⟨#[]⟩, 0, by simp [HE.out], fun h0 => by have := HE.out; omega⟩, rfl⟩
        · have hb1 : 32 ≤ ((s[m]'hlt).toNat : Int) := by omega
          have hb2 : ((s[m]'hlt).toNat : Int) ≤ 126 := by omega
          cases q2 : (((s[m]'hlt).toNat : Int) == 92)
          · have HE : RowKit.Hid ((textG (s.data.toList.drop (m + 1)) (acc ++ [s[m]'hlt])).1 = r ∧ m + 1 + (textG (s.data.toList.drop (m + 1)) (acc ++ [s[m]'hlt])).2.1 = n ∧ (textG (s.data.toList.drop (m + 1)) (acc ++ [s[m]'hlt])).2.2 = e) := Lib.hid (by
              obtain ⟨a1, a2, a3⟩ := HG.out
              have a := bneI q1
              have b := bneI q2
              rw [hd.out, HG1.out, if_neg (by omega), if_neg (by omega), if_pos (by omega)] at a1 a2 a3
              dsimp only at a1 a2 a3
              exact ⟨a1, by omega, a3⟩)
            have hx := ext_one s m hlt
            clear hb
            go_wp2_with fail
            go_roundw
            case rel => exact ⟨m + 1, acc ++ [s[m]'hlt], by first | rw [snocA] | rw [hx, snocA], by go_num, by have := HLT.out; omega, by simp; omega, HE.out.1, HE.out.2.1, HE.out.2.2, by first | rfl | trivial⟩
            case measure => have := HLT.out; simp [intOf]; omega
          · by_cases hl1 : m + 1 < s.size
            rotate_left
            · have hl2 : (m : Int) + 1 = (s.size : Int) := by omega
              have HE : RowKit.Hid (e = 2) := Lib.hid (by
                have h := HG.out.2.2
                have a := bneI q1
                have b := beqI q2
                have hd1 : s.data.toList.drop (m + 1) = [] := List.drop_eq_nil_of_le (by simp; omega)
                rw [hd.out, HG1.out, if_neg (by omega), if_neg (by omega), if_neg (by omega), hd1] at h; exact h.symm)
              have hl3 : ((m : Int) + 1 == (s.size : Int)) = true := by simpa using hl2
              clear hb hl1
              go_wp2_with fail
              go_ret3
              exact ⟨⟨⟨#[]⟩, 0, by simp [HE.out], fun h0 => by have := HE.out; omega⟩, rfl⟩
            have hl3 : ((m : Int) + 1 == (s.size : Int)) = false := beq_eq_false_iff_ne.2 (by omega)
            have hl4 : (m : Int) + 1 < (s.size : Int) := by omega
            have hv := (s[m + 1]'hl1).toNat_lt
            have HES : RowKit.Hid (∀ z : UInt8, escZ ((s[m + 1]'hl1).toNat : Int) = (z.toNat : Int) → z.toNat ≠ 0 → (textG (s.data.toList.drop (m + 1 + 1)) (acc ++ [z])).1 = r ∧ m + 1 + 1 + (textG (s.data.toList.drop (m + 1 + 1)) (acc ++ [z])).2.1 = n ∧ (textG (s.data.toList.drop (m + 1 + 1)) (acc ++ [z])).2.2 = e) := Lib.hid (by
              intro z hz1 hz2
              obtain ⟨a1, a2, a3⟩ := HG.out
              have a := bneI q1
              have b := beqI q2
              have hzz : UInt8.ofNat ((z.toNat : Int)).toNat = z := by simp
              rw [hd.out, HG1.out, if_neg (by omega), if_neg (by omega), if_neg (by omega), drop_at s (m + 1) hl1] at a1 a2 a3
              dsimp only at a1 a2 a3
              rw [hz1, if_neg (by omega), hzz] at a1 a2 a3
              dsimp only at a1 a2 a3
              exact ⟨a1, by omega, a3⟩)
            have HEN : RowKit.Hid (escZ ((s[m + 1]'hl1).toNat : Int) = 0 → e = 3) := Lib.hid (by
              intro hz1
              have h := HG.out.2.2
              have a := bneI q1
              have b := beqI q2
              rw [hd.out, HG1.out, if_neg (by omega), if_neg (by omega), if_neg (by omega), drop_at s (m + 1) hl1] at h
              dsimp only at h
              rw [if_pos hz1] at h
              exact h.symm)
            have HL1 := Lib.hid hl1
            have hx := ext_one s (m + 1) hl1
            clear hb
            cases q3 : (((s[m + 1]'hl1).toNat : Int) == 110)
            · cases q4 : (((s[m + 1]'hl1).toNat : Int) == 34) <;> cases q5 : (((s[m + 1]'hl1).toNat : Int) == 92)
              · have HE : RowKit.Hid (e = 3) := Lib.hid (HEN.out (by unfold escZ; have a := bneI q3; have b := bneI q4; have c := bneI q5; rw [if_neg (by omega), if_neg (by omega)]))
                go_wp2_with fail
                go_ret3
                exact ⟨⟨⟨#[]⟩, 0, by simp [HE.out], fun h0 => by have := HE.out; omega⟩, rfl⟩
              all_goals (try (exfalso; have a := beqI q4; have b := beqI q5; omega))
              all_goals
                have HE := Lib.hid (HES.out (s[m + 1]'hl1) (by unfold escZ; rw [if_pos (by first | exact Or.inl (beqI q4) | exact Or.inr (beqI q5))]) (by first | (have := beqI q4; omega) | (have := beqI q5; omega)))
                go_wp2_with fail
                go_roundw
                case rel => exact ⟨m + 1 + 1, acc ++ [s[m + 1]'hl1], by first | rw [snocA] | rw [hx, snocA], by go_num, by have := HL1.out; omega, by simp; omega, HE.out.1, HE.out.2.1, HE.out.2.2, by first | rfl | trivial⟩
                case measure => have := HLT.out; simp [intOf]; omega
            · have HE := Lib.hid (HES.out 10 (by unfold escZ; have a := beqI q3; rw [if_neg (by omega), if_pos a]; rfl) (by decide))
              go_wp2_with fail
              go_roundw
              case rel => exact ⟨m + 1 + 1, acc ++ [10], by rw [snocA], by go_num, by have := HL1.out; omega, by simp; omega, HE.out.1, HE.out.2.1, HE.out.2.2, by first | rfl | trivial⟩
              case measure => have := HLT.out; simp [intOf]; omega
    · have hme : m = s.size := by omega
      subst hme
      have HE : RowKit.Hid (e = 2) := Lib.hid (by
        have h := HG.out.2.2
        rw [drop_end] at h; exact h.symm)
      clear hlt
      go_wp2_with fail
      go_ret3
      exact ⟨⟨⟨#[]⟩, 0, by simp [HE.out], fun h0 => by have := HE.out; omega⟩, rfl⟩
/-- how long a sign is -/
def signN (l : List UInt8) : Nat := (signF l).2.1
theorem two_n (l : List UInt8) (p : ByteArray) (h : twoL.find? (fun q => Lib.hasPrefix l q.data.toList) = some p) : signN l = 2 ∧ signF l = (⟨4, p, 0⟩, 2, 0) := by
  unfold signN signF; rw [h]; exact ⟨rfl, rfl⟩
theorem one_n (c : UInt8) (l : List UInt8) (h : twoL.find? (fun q => Lib.hasPrefix (c :: l) q.data.toList) = none) : (singles.data.toList.contains c = true → signN (c :: l) = 1 ∧ signF (c :: l) = (⟨4, ⟨#[c]⟩, 0⟩, 1, 0)) ∧ (singles.data.toList.contains c = false → signN (c :: l) = 0 ∧ (signF (c :: l)).2.2 = 3) := by
  unfold signN signF; rw [h]
  dsimp only
  constructor
  · intro h2; rw [if_pos h2]; exact ⟨rfl, rfl⟩
  · intro h2; rw [h2]; exact ⟨rfl, rfl⟩
theorem toL (s : ByteArray) : s.toList = s.data.toList := Lib.toList_data s
theorem two_len16 : ∀ q ∈ twoL, ∃ a b, q.data.toList = [a, b] := by
  intro q hq
  simp only [twoL, List.mem_cons, List.not_mem_nil, or_false] at hq
  rcases hq with rfl | rfl | rfl | rfl | rfl <;> exact ⟨_, _, rfl⟩
theorem find_congr16 {α : Type} {f g : α → Bool} : ∀ (l : List α), (∀ x ∈ l, f x = g x) → l.find? f = l.find? g
  | [], _ => rfl
  | x :: l, h => by
    rw [List.find?_cons, List.find?_cons, h x (by simp), find_congr16 l (fun y hy => h y (by simp [hy]))]
theorem two_find (s : ByteArray) (k : Nat) (h : k + 2 ≤ s.size) : twoL.find? (fun q => Lib.hasPrefix (s.data.toList.drop k) q.data.toList) = twoL.find? (fun q => (s.extract k (k + 2)).toList == q.toList) := by
  refine find_congr16 _ fun q hq => ?_
  have e : (s.extract k (k + 2)).toList = [s[k], s[k + 1]] := by
    rw [toL, extract_take, drop_at s k (by omega), drop_at s (k + 1) (by omega)]; simp
  rw [e, toL, drop_at s k (by omega), drop_at s (k + 1) (by omega)]
  obtain ⟨a, b, hab⟩ := two_len16 q hq
  rw [hab, Bool.eq_iff_iff]
  simp [Lib.hasPrefix, List.isPrefixOf]
  exact ⟨fun ⟨h1, h2⟩ => ⟨h1.symm, h2.symm⟩, fun ⟨h1, h2⟩ => ⟨h1.symm, h2.symm⟩⟩
set_option maxHeartbeats 4000000 in
set_option maxRecDepth 20000 in
theorem sign16 (s : ByteArray) (hs : (s.size : Int) ≤ 5000) (k n : Nat) (hk : k < s.size) (hn : signN (s.data.toList.drop k) = n) (w : World) :
    Calls Try.prog 53 #[.string s, .int .i64 (k : Int)] w fun e' w' => e' = .returned (.int .i64 (n : Int)) ∧ Ext w w' := by
  have HN := Lib.hid hn
  have hk5 : (k : Int) ≤ 5000 := by omega
  have hki : (k : Int) < (s.size : Int) := by omega
  have hd := drop_at s k hk
  obtain ⟨u, hu⟩ : ∃ u, s[k]'hk = u := ⟨_, rfl⟩
  have HD := Lib.hid hd
  rw [hu] at HD
  clear hn hd
  by_cases h2 : k + 2 ≤ s.size
  · have HF := Lib.hid (two_find s k h2)
    have h2i : (k : Int) + 2 ≤ (s.size : Int) := by omega
    obtain ⟨t2, ht2⟩ : ∃ t2, s.extract k (k + 2) = t2 := ⟨_, rfl⟩
    rw [ht2] at HF
    have e0 : (⟨#[61, 61]⟩ : ByteArray).toList = [61, 61] := by kernel_rfl
    have e1 : (⟨#[33, 61]⟩ : ByteArray).toList = [33, 61] := by kernel_rfl
    have e2 : (⟨#[60, 61]⟩ : ByteArray).toList = [60, 61] := by kernel_rfl
    have e3 : (⟨#[62, 61]⟩ : ByteArray).toList = [62, 61] := by kernel_rfl
    have e4 : (⟨#[46, 46]⟩ : ByteArray).toList = [46, 46] := by kernel_rfl
    go_enter Try.func53, Try.ntmps53
    cases q0 : (t2.toList == [61, 61])
    rotate_left
    · have HE : RowKit.Hid (n = 2) := Lib.hid (by
      rw [← HN.out]; exact (two_n _ ⟨#[61, 61]⟩ (by rw [HF.out]; unfold twoL; simp only [List.find?_cons, e0, e1, e2, e3, e4, q0])).1)
      clear HF HN
      go_wp2_with fail
      go_ret
      exact ⟨ret_int (by rw [HE.out]; rfl), Ext.refl _⟩
    cases q1 : (t2.toList == [33, 61])
    rotate_left
    · have HE : RowKit.Hid (n = 2) := Lib.hid (by
      rw [← HN.out]; exact (two_n _ ⟨#[33, 61]⟩ (by rw [HF.out]; unfold twoL; simp only [List.find?_cons, e0, e1, e2, e3, e4, q0, q1])).1)
      clear HF HN
      go_wp2_with fail
      go_ret
      exact ⟨ret_int (by rw [HE.out]; rfl), Ext.refl _⟩
    cases q2 : (t2.toList == [60, 61])
    rotate_left
    · have HE : RowKit.Hid (n = 2) := Lib.hid (by
      rw [← HN.out]; exact (two_n _ ⟨#[60, 61]⟩ (by rw [HF.out]; unfold twoL; simp only [List.find?_cons, e0, e1, e2, e3, e4, q0, q1, q2])).1)
      clear HF HN
      go_wp2_with fail
      go_ret
      exact ⟨ret_int (by rw [HE.out]; rfl), Ext.refl _⟩
    cases q3 : (t2.toList == [62, 61])
    rotate_left
    · have HE : RowKit.Hid (n = 2) := Lib.hid (by
      rw [← HN.out]; exact (two_n _ ⟨#[62, 61]⟩ (by rw [HF.out]; unfold twoL; simp only [List.find?_cons, e0, e1, e2, e3, e4, q0, q1, q2, q3])).1)
      clear HF HN
      go_wp2_with fail
      go_ret
      exact ⟨ret_int (by rw [HE.out]; rfl), Ext.refl _⟩
    cases q4 : (t2.toList == [46, 46])
    rotate_left
    · have HE : RowKit.Hid (n = 2) := Lib.hid (by
      rw [← HN.out]; exact (two_n _ ⟨#[46, 46]⟩ (by rw [HF.out]; unfold twoL; simp only [List.find?_cons, e0, e1, e2, e3, e4, q0, q1, q2, q3, q4])).1)
      clear HF HN
      go_wp2_with fail
      go_ret
      exact ⟨ret_int (by rw [HE.out]; rfl), Ext.refl _⟩
    have HB : RowKit.Hid ((singles.data.toList.contains u = true → n = 1) ∧ (singles.data.toList.contains u = false → n = 0)) := Lib.hid (by
      have hf : twoL.find? (fun q => Lib.hasPrefix (s.data.toList.drop k) q.data.toList) = none := by
        rw [HF.out]; unfold twoL; simp only [List.find?_cons, List.find?_nil, e0, e1, e2, e3, e4, q0, q1, q2, q3, q4]
      rw [HD.out] at hf
      have h := one_n u _ hf
      rw [← HN.out, HD.out]
      exact ⟨fun x => (h.1 x).1, fun x => (h.2 x).1⟩)
    clear HF e0 e1 e2 e3 e4
    go_wp2_with fail
    try (simp only [ht2])
    try clear ht2
    go_loopw [6] (fun ii wr => ∃ (j : Nat) (d : Nat) (os : Array Obj), ii = .int .i64 j ∧ j ≤ 14 ∧ (singles.data.toList.take j).contains u = false ∧ wr = more w d os) (fun ii _ => 14 - (intOf ii).toNat)
    case atStart => exact ⟨0, w.drawn, #[], rfl, by omega, rfl, by simp [more]⟩
    case round =>
      obtain ⟨j, d, os, rfl, hj, hf, rfl⟩ := hrel
      have HFF := Lib.hid hf
      clear hf
      by_cases hlt : j < 14
      · go_wp2_with fail
        refine wp_region_grow 5 45 [false, false, false, false, false] (by kernel_rfl) (by kernel_rfl) rfl ?_
        simp only [List.take_succ_cons, List.take_zero, List.drop_succ_cons, List.drop_zero]
        repeat (refine Lex.step rfl ?_; intro K hK; unfold StepG; go_simp; (first
            | refine hK _ ?_); clear hK K)
        refine Lex.nil fun WW hE => ?_
        obtain ⟨dd, oo, rfl⟩ := hE
        unfold FillH
        go_wp2_with fail
        rw [ends_normal]
        go_wp2_with fail
        · rename_i hqt
          have hq := single_eq u j hlt (by simp only [beq_iff_eq] at hqt; exact hqt.symm)
          go_ret
          exact ⟨ret_int (by rw [HB.out.1 (single_in u j hlt hq)]; rfl), (Ext.refl _).more _ _⟩
        · rename_i hqt
          have hq := single_ne u j hlt (by simp only [beq_eq_false_iff_ne, ne_eq] at hqt; exact fun h => hqt h.symm)
          go_roundw
          case rel => exact ⟨j + 1, _, _, by go_num, by omega, single_step u j hlt HFF.out hq, rfl⟩
          case measure => simp [intOf] <;> omega
      · have hj14 : j = 14 := by omega
        subst hj14
        go_wp2_with fail
        go_ret
        exact ⟨ret_int (by rw [HB.out.2 (by rw [show singles.data.toList = singles.data.toList.take 14 from rfl, HFF.out])]; rfl), (Ext.refl _).more _ _⟩
  · have h2i : (s.size : Int) < (k : Int) + 2 := by omega
    have HB : RowKit.Hid ((singles.data.toList.contains u = true → n = 1) ∧ (singles.data.toList.contains u = false → n = 0)) := Lib.hid (by
      have h0 : s.data.toList.drop (k + 1) = [] := List.drop_eq_nil_of_le (by simp; omega)
      have hf : twoL.find? (fun q => Lib.hasPrefix (s.data.toList.drop k) q.data.toList) = none := by
        rw [List.find?_eq_none]
        intro q hq
        obtain ⟨a, b, hab⟩ := two_len16 q hq
        rw [HD.out, h0, hab]; simp [Lib.hasPrefix, List.isPrefixOf]
      rw [HD.out] at hf
      have h := one_n u _ hf
      rw [← HN.out, HD.out]
      exact ⟨fun x => (h.1 x).1, fun x => (h.2 x).1⟩)
    clear h2
    go_enter Try.func53, Try.ntmps53
    go_wp2_with fail
    try (simp only [ht2])
    try clear ht2
    go_loopw [6] (fun ii wr => ∃ (j : Nat) (d : Nat) (os : Array Obj), ii = .int .i64 j ∧ j ≤ 14 ∧ (singles.data.toList.take j).contains u = false ∧ wr = more w d os) (fun ii _ => 14 - (intOf ii).toNat)
    case atStart => exact ⟨0, w.drawn, #[], rfl, by omega, rfl, by simp [more]⟩
    case round =>
      obtain ⟨j, d, os, rfl, hj, hf, rfl⟩ := hrel
      have HFF := Lib.hid hf
      clear hf
      by_cases hlt : j < 14
      · go_wp2_with fail
        refine wp_region_grow 5 45 [false, false, false, false, false] (by kernel_rfl) (by kernel_rfl) rfl ?_
        simp only [List.take_succ_cons, List.take_zero, List.drop_succ_cons, List.drop_zero]
        repeat (refine Lex.step rfl ?_; intro K hK; unfold StepG; go_simp; (first
            | refine hK _ ?_); clear hK K)
        refine Lex.nil fun WW hE => ?_
        obtain ⟨dd, oo, rfl⟩ := hE
        unfold FillH
        go_wp2_with fail
        rw [ends_normal]
        go_wp2_with fail
        · rename_i hqt
          have hq := single_eq u j hlt (by simp only [beq_iff_eq] at hqt; exact hqt.symm)
          go_ret
          exact ⟨ret_int (by rw [HB.out.1 (single_in u j hlt hq)]; rfl), (Ext.refl _).more _ _⟩
        · rename_i hqt
          have hq := single_ne u j hlt (by simp only [beq_eq_false_iff_ne, ne_eq] at hqt; exact fun h => hqt h.symm)
          go_roundw
          case rel => exact ⟨j + 1, _, _, by go_num, by omega, single_step u j hlt HFF.out hq, rfl⟩
          case measure => simp [intOf] <;> omega
      · have hj14 : j = 14 := by omega
        subst hj14
        go_wp2_with fail
        go_ret
        exact ⟨ret_int (by rw [HB.out.2 (by rw [show singles.data.toList = singles.data.toList.take 14 from rfl, HFF.out])]; rfl), (Ext.refl _).more _ _⟩
end Go.Proofs.Ytoaaklcbcbjaiaa
