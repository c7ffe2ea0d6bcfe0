/- Lemmas for the claim (texts Lf7, Lf8, Lf9, what its proof uses of them). -/
import Derived.Test.YtpchohjkelopoaaGreatDoorK07
set_option linter.unusedSimpArgs false
set_option linter.unusedVariables false
set_option maxRecDepth 20000
namespace Go.Proofs.YtpchohjkelopoaaGreatDoor
open Go.RowKit
attribute [go_sem] more_more Array.size_append
/-- where a slice's tail lies: at its end the address stays -/
def tlO (o k cap : Nat) : Nat := if cap = k then o else o + k
theorem sl_tail (b o len cap k : Nat) (hk : k ≤ len) (W : World) : (Instr.slice 135 (.slice (some ⟨b, o, none⟩) len cap) (some (.int .i64 (k : Int))) none none).run Tryz.prog W = .ok (.slice (some ⟨b, tlO o k cap, none⟩) (len - k) (cap - k)) W := by
  have h := run_slice_l (P := Tryz.prog) (w := W) 135 (some ⟨b, o, none⟩) len cap Tryz.underlying135 .i64 (k : Int) (by omega) (by omega)
  have hs : (sizeOf (Tryz.prog.elem 135)).run Tryz.prog W = .ok 1 W := by kernel_rfl
  rw [h, hs]
  show Result.ok (sliced (some ⟨b, o, none⟩) (Int.toNat (k : Int)) len cap 1) W = _
  rw [Int.toNat_natCast]
  unfold sliced tlO
  congr 2
  by_cases hc : cap = k
  · rw [if_pos hc, if_pos hc]
  · rw [if_neg hc, if_neg hc, Option.map_some, Addr.add_lit, Nat.mul_one]
theorem BytesAt.tl {w : World} {b o cap : Nat} {l : List UInt8} (h : BytesAt w b o l) (k : Nat) (hcap : l.length ≤ cap) : BytesAt w b (tlO o k cap) (l.drop k) := by
  unfold tlO
  split
  · next e => subst e; rw [List.drop_of_length_le hcap]; intro j u hj; simp at hj
  · exact h.drop k
/-- what was done goes ahead -/
def preI (done : List It) (q : List It × List UInt8 × Int) : List It × List UInt8 × Int := if q.2.2 ≠ 0 then ([], [], q.2.2) else (done ++ q.1, q.2.1, 0)
theorem preI_nil (bad : Int) : ∀ (n : Nat) (l : List UInt8), itemsF bad n l = preI [] (itemsF bad n l)
  | 0, l => rfl
  | n + 1, l => by
    unfold preI
    by_cases h : (itemsF bad (n + 1) l).2.2 = 0
    · rw [if_neg (by simpa using h)]
      simp only [List.nil_append]
      rw [← h]
    · rw [if_pos h]
      unfold itemsF at h ⊢
      split
      · rfl
      · next h1 =>
        rw [if_neg h1] at h
        split
        · rfl
        · next h2 => rw [if_neg h2] at h; exact absurd rfl h
theorem preI_err {bad : Int} {done : List It} {n : Nat} {l : List UInt8} (h : (itemF bad l).2.2 ≠ 0) : preI done (itemsF bad (n + 1) l) = ([], [], (itemF bad l).2.2) := by
  unfold itemsF; rw [if_pos h]; unfold preI; rw [if_pos h]
theorem preI_step {bad : Int} {done : List It} {n : Nat} {l : List UInt8} (h : (itemF bad l).2.2 = 0) : preI done (itemsF bad (n + 1) l) = preI (done ++ [(itemF bad l).1]) (itemsF bad n (l.drop (itemF bad l).2.1)) := by
  conv => lhs; unfold itemsF
  rw [if_neg (by simpa using h)]
  by_cases h2 : (itemsF bad n (l.drop (itemF bad l).2.1)).2.2 = 0
  · rw [if_neg (by simpa using h2)]
    unfold preI
    rw [if_neg (by simp), if_neg (by simpa using h2)]
    simp
  · rw [if_pos h2]
    unfold preI
    rw [if_pos h2, if_pos h2]
theorem itemF_len {bad : Int} {l : List UInt8} {r : It × Nat × Int} (h : itemF bad l = r) (he : r.2.2 = 0) (hbad : In64I bad) : r.2.1 ≤ l.length ∧ ItOk r.1 := by
  obtain ⟨t, n1, e1, h1⟩ : ∃ t n e, cutT l = (t, n, e) := ⟨_, _, _, rfl⟩
  by_cases q1 : e1 = 0
  case neg => rw [itemF_e1 h1 q1] at h; subst h; exact absurd he q1
  subst q1
  obtain ⟨hn1, ht⟩ := cutT_ok h1
  obtain ⟨v, n2, e2, h2⟩ : ∃ v n e, valC (l.drop n1) = (v, n, e) := ⟨_, _, _, rfl⟩
  by_cases q2 : e2 = 0
  case neg => rw [itemF_e2 h1 h2 q2] at h; subst h; exact absurd he q2
  subst q2
  obtain ⟨hn2, hvs, hvk, hvi, _⟩ := valC_ok h2
  obtain ⟨x, n3, e3, h3⟩ : ∃ x n e, cutG 0 0 (l.drop (n1 + n2)) = (x, n, e) := ⟨_, _, _, rfl⟩
  by_cases q3 : e3 = 0
  case neg => rw [itemF_e3 h1 h2 h3 q3] at h; subst h; exact absurd he q3
  subst q3
  obtain ⟨hx1, hn3⟩ := cutG_lt h3
  rw [itemF_ok h1 h2 h3] at h
  subst h
  simp only [List.length_drop] at hn2 hn3
  refine ⟨by dsimp only; omega, ⟨by dsimp only; rw [ba_size]; exact ht, by dsimp only; omega, hvk, hvi, ?_⟩⟩
  dsimp only
  split
  · exact hbad
  · exact ⟨by omega, by omega⟩
theorem ordB_snoc : ∀ (l : List It) (x y : It), ordB (l ++ [x, y]) = (ordB (l ++ [x]) && ltB x.k y.k)
  | [], x, y => by simp [ordB]
  | [z], x, y => by simp [ordB]
  | z :: u :: l, x, y => by
    have := ordB_snoc (u :: l) x y
    simp only [List.cons_append, ordB] at this ⊢
    rw [this, Bool.and_assoc]
theorem ordB_take (l : List It) (k : Nat) (x y : It) (hx : l[k]? = some x) (hy : l[k + 1]? = some y) : ordB (l.take (k + 2)) = (ordB (l.take (k + 1)) && ltB x.k y.k) := by
  have e1 : l.take (k + 1) = l.take k ++ [x] := by rw [List.take_add_one, hx]; rfl
  have e2 : l.take (k + 2) = l.take k ++ [x, y] := by rw [List.take_add_one, hy, e1]; simp
  rw [e1, e2]; exact ordB_snoc _ x y
theorem ordB_pre : ∀ (l : List It) (k : Nat), ordB l = true → ordB (l.take k) = true
  | [], k, _ => by simp [ordB]
  | [x], 0, _ => rfl
  | [x], k + 1, _ => by simp [ordB]
  | x :: y :: l, 0, _ => rfl
  | x :: y :: l, 1, _ => rfl
  | x :: y :: l, k + 2, h => by
    simp only [ordB, Bool.and_eq_true] at h
    have := ordB_pre (y :: l) (k + 1) h.2
    simp only [List.take_succ_cons, ordB, Bool.and_eq_true] at this ⊢
    exact ⟨h.1, this⟩
theorem itInfo : (Tryz.prog.info? 152).map (fun i => (i.zero, i.size, i.bytes)) = some (some (.agg #[.string ⟨#[]⟩, .int .i64 0, .int .i64 0, .string ⟨#[]⟩, .int .i64 0]), 5, 56) := by kernel_rfl
theorem itCells_len : ∀ l : List It, (itCells l).length = l.length * 5
  | [] => rfl
  | x :: l => by simp [itCells, itL, itCells_len l]; omega
theorem itCells_snoc : ∀ (l : List It) (x : It), itCells (l ++ [x]) = itCells l ++ itL x
  | [], x => by simp [itCells]
  | y :: l, x => by simp [itCells, itCells_snoc l x]
theorem itCells_append : ∀ (l m : List It), itCells (l ++ m) = itCells l ++ itCells m
  | [], m => rfl
  | y :: l, m => by simp [itCells, itCells_append l m]
theorem itCells_get : ∀ (l : List It) (j : Nat) (x : It), l[j]? = some x → (itCells l)[j * 5 + 0]? = some (.string x.k) ∧ (itCells l)[j * 5 + 1]? = some (.int .i64 x.vk) ∧ (itCells l)[j * 5 + 2]? = some (.int .i64 x.vi) ∧ (itCells l)[j * 5 + 3]? = some (.string x.vs) ∧ (itCells l)[j * 5 + 4]? = some (.int .i64 x.ver)
  | [], j, x, h => by simp at h
  | y :: l, 0, x, h => by
    simp at h; subst h
    exact ⟨rfl, rfl, rfl, rfl, rfl⟩
  | y :: l, j + 1, x, h => by
    have := itCells_get l j x (by simpa using h)
    have e : ∀ r, (itCells (y :: l))[(j + 1) * 5 + r]? = (itCells l)[j * 5 + r]? := by
      intro r
      have h1 : itCells (y :: l) = itL y ++ itCells l := rfl
      rw [h1, List.getElem?_append_right (by simp [itL]; omega)]
      congr 1
      simp [itL]; omega
    simp only [e]
    exact this
/-- a row of items of the call's own is a leaf -/
theorem lf_own {w : World} {base : Nat} {v : Value} {l : List It} (h : w.ownsRow base 152 5 v l.length (itCells l)) (ho : ∀ x ∈ l, ItOk x) : ∃ b, (0 < l.length → base ≤ b ∧ v.ownBlock = some b) ∧ LfAt w b v l := by
  by_cases hl : 0 < l.length
  · obtain ⟨g, cap, rfl, hg, hlt⟩ := h.form hl
    have hc := h.cells (g := g) rfl
    have hcap : l.length ≤ cap := by
      rcases h.2 with ⟨q, _⟩ | ⟨g', cap', cur, hv, _, _, hc, _⟩
      · simp at q
      · simp only [Value.slice.injEq, Option.some.injEq, Addr.mk.injEq, and_true, true_and] at hv
        obtain ⟨_, rfl⟩ := hv; exact hc
    refine ⟨g, fun _ => ⟨hg, rfl⟩, ho, _, cap, rfl, hcap, fun _ => ⟨0, rfl, fun j x hj => ?_⟩⟩
    obtain ⟨a0, a1, a2, a3, a4⟩ := itCells_get l j x hj
    have e : ∀ i v, (itCells l)[i]? = some v → w.cell? ⟨g, 0 + i, none⟩ = some v := fun i v hi => by
      have := hc i v hi
      rwa [Addr.add_lit] at this
    refine ⟨e _ _ a0, ?_, ?_, ?_, ?_⟩
    all_goals first | (have := e _ _ a1; rwa [← Nat.add_assoc] at this; done) | (have := e _ _ a2; rwa [← Nat.add_assoc] at this; done) | (have := e _ _ a3; rwa [← Nat.add_assoc] at this; done) | (have := e _ _ a4; rwa [← Nat.add_assoc] at this; done)
  · have h0 : l = [] := List.eq_nil_of_length_eq_zero (by omega)
    subst h0
    rcases h.2 with ⟨rfl, _⟩ | ⟨g, cap, cur, rfl, _⟩
    · exact ⟨0, by simp, LfAt.nil w 0⟩
    · exact ⟨0, by simp, by simp, _, cap, rfl, Nat.zero_le _, by simp⟩
end Go.Proofs.YtpchohjkelopoaaGreatDoor

set_option maxRecDepth 20000
namespace Go.Proofs.YtpchohjkelopoaaGreatDoor
open Go.RowKit
attribute [go_sem] more_more Array.size_append
/-- an item's cells in a row of the call's own -/
theorem it_at {w : World} {base g cap n : Nat} {l : List It} (h : w.ownsRow base 152 5 (.slice (some ⟨g, 0, none⟩) n cap) n (itCells l)) {j : Nat} {x : It} (hj : l[j]? = some x) :
    w.cell? ⟨g, j * 5, none⟩ = some (.string x.k) ∧ w.cell? ⟨g, j * 5 + 1, none⟩ = some (.int .i64 x.vk) ∧ w.cell? ⟨g, j * 5 + 2, none⟩ = some (.int .i64 x.vi) ∧ w.cell? ⟨g, j * 5 + 3, none⟩ = some (.string x.vs) ∧ w.cell? ⟨g, j * 5 + 4, none⟩ = some (.int .i64 x.ver) := by
  have hc := h.cells (g := g) rfl
  obtain ⟨h0, h1, h2, h3, h4⟩ := itCells_get l j x hj
  have e : ∀ i v, (itCells l)[i]? = some v → w.cell? ⟨g, i, none⟩ = some v := fun i v hi => by
    have := hc i v hi
    rwa [Addr.add_lit, Nat.zero_add] at this
  exact ⟨e _ _ h0, e _ _ h1, e _ _ h2, e _ _ h3, e _ _ h4⟩
theorem own_form {w : World} {base n size : Nat} {v : Value} {e : TypeId} {xs : List Value} (h : w.ownsRow base e size v n xs) : ∃ p cap, v = .slice p n cap ∧ n ≤ cap ∧ (0 < n → ∃ g, p = some ⟨g, 0, none⟩) := by
  rcases h.2 with ⟨rfl, rfl⟩ | ⟨g, cap, cur, rfl, _, _, hc, _⟩
  · exact ⟨none, 0, rfl, Nat.le_refl _, by omega⟩
  · exact ⟨_, cap, rfl, hc, fun _ => ⟨g, rfl⟩⟩
def CutPost (w w' : World) (e : Ending) (r : List It × Int) : Prop :=
  ∃ v, e = .returned (.tuple #[v, .int .i64 r.2]) ∧ (r.2 = 0 → w'.ownsRow w.heap.size 152 5 v r.1.length (itCells r.1) ∧ ∀ x ∈ r.1, ItOk x) ∧ (r.2 ≠ 0 → v = .slice none 0 0) ∧ Ext w w'
theorem CutPost.err {w w' : World} {e : Int} (he : e ≠ 0) (hx : Ext w w') : CutPost w w' (.returned (.tuple #[.slice none 0 0, .int .i64 e])) ([], e) :=
  ⟨_, rfl, fun h => absurd h he, fun _ => rfl, hx⟩
theorem cutF_items {bad : Int} {c : UInt8} {t : List UInt8} {q : List It × List UInt8 × Int} (hq : itemsF bad c.toNat t = q) : cutF bad (c :: t) = if q.2.2 ≠ 0 then ([], q.2.2) else if q.1.all mayI = false then ([], 1) else if ordB q.1 = false then ([], 3) else if q.1.length = 0 ∨ 8 < q.1.length then ([], 4) else if 0 < q.2.1.length then ([], 7) else (q.1, 0) := by
  subst hq; rfl
theorem all_itsnoc (l : List It) (k : Nat) (x : It) (hx : l[k]? = some x) (h1 : (l.take k).all mayI = true) (h2 : mayI x = true) : (l.take (k + 1)).all mayI = true := by
  rw [List.take_add_one, hx, List.all_append, h1]
  simp [h2]
theorem all_itno (l : List It) (k : Nat) (x : It) (hx : l[k]? = some x) (h2 : mayI x = false) : l.all mayI = false := by
  rw [Bool.eq_false_iff]
  intro q
  have := List.all_eq_true.1 q x (List.mem_of_getElem? hx)
  rw [h2] at this; cases this
theorem ord_no (l : List It) (k : Nat) (x y : It) (hx : l[k]? = some x) (hy : l[k + 1]? = some y) (h : ltB x.k y.k = false) : ordB l = false := by
  rw [Bool.eq_false_iff]
  intro q
  have := ordB_pre l (k + 2) q
  rw [ordB_take l k x y hx hy, h, Bool.and_false] at this; cases this
theorem app_items {w : World} {base : Nat} {v' : Value} {i : Nat} {done : List It} {x : It} (h : w.ownsRow base 152 5 v' (i + 1) (itCells done ++ itL x)) : w.ownsRow base 152 5 v' (i + 1) (itCells (done ++ [x])) := by rw [itCells_snoc]; exact h
set_option maxHeartbeats 1000000 in
theorem cut_nil (b off cap : Nat) (w : World) : Calls Tryz.prog 103 #[.slice (some ⟨b, off, none⟩) 0 cap] w fun e w' => CutPost w w' e ([], 2) := by
  go_enter Tryz.func103, Tryz.ntmps103
  go_wp2_with fail
  go_ret2
  exact CutPost.err (by decide) (Ext.refl _)
theorem news_it {w : World} {N : Nat} {xs : List Value} {t : TypeId} (hN : N = w.heap.size) : ∀ j u, xs[j]? = some u → (w.alloc (.cells xs.toArray t)).cell? ((⟨N, 0, none⟩ : Addr).add j) = some u := by
  intro j u hu
  subst hN
  rw [Addr.add_lit, Nat.zero_add]
  simp only [World.cell?, heap_alloc_new]
  simpa using hu
set_option maxHeartbeats 4000000 in
theorem cut_cons (b off cap : Nat) (c : UInt8) (t : List UInt8) (B : Nat) (w : World) (hS : SignsAt B w) (hB : B ≤ w.heap.size) (hm : t.length ≤ 4611686018427387900) (hcap : t.length + 1 ≤ cap) (hb : BytesAt w b off (c :: t)) (r : List It × Int) (hr : cutF 2147483648 (c :: t) = r) :
    Calls Tryz.prog 103 #[.slice (some ⟨b, off, none⟩) (t.length + 1) cap] w fun e w' => CutPost w w' e r := by
  obtain ⟨i1, hi1, hy0, hy1, hy2⟩ := info_parts itInfo
  obtain ⟨q, hq⟩ : ∃ q, itemsF 2147483648 c.toNat t = q := ⟨_, rfl⟩
  rw [cutF_items hq] at hr
  have hbl := hb.lt (by simp)
  have hc0 := hb 0 c rfl
  rw [Nat.add_zero] at hc0
  have hbt : BytesAt w b (tlO off 1 cap) t := by have := hb.tl (cap := cap) 1 (by simpa using hcap); simpa using this
  obtain ⟨m, hmm⟩ : ∃ m, t.length = m := ⟨_, rfl⟩
  rw [hmm] at hm hcap ⊢
  obtain ⟨cn, hcn⟩ : ∃ cn, c.toNat = cn := ⟨_, rfl⟩
  have hcn2 : cn < 256 := by have := c.toNat_lt; omega
  have hcn3 : (cn : Int) < 256 := by omega
  rw [hcn] at hq hc0
  have hs1 : ∀ W : World, (Instr.slice 135 (.slice (some ⟨b, off, none⟩) (m + 1) cap) (some (.int .i64 1)) none none).run Tryz.prog W = .ok (.slice (some ⟨b, tlO off 1 cap, none⟩) m (cap - 1)) W := fun W => sl_tail b off (m + 1) cap 1 (by omega) W
  obtain ⟨o0, ho0⟩ : ∃ o0, tlO off 1 cap = o0 := ⟨_, rfl⟩
  rw [ho0] at hs1 hbt
  have HQ := Lib.hid hq
  have HR := Lib.hid hr
  have HS := Lib.hid hS
  have HBT := Lib.hid hbt
  have HMM := Lib.hid hmm
  clear hq hr hS hb hbt hmm ho0 hcn
  have hl0 : ((m : Int) + 1 == 0) = false := by rw [beq_eq_false_iff_ne]; omega
  go_enter Tryz.func103, Tryz.ntmps103
  go_wp2_with fail
  go_loopw [4, 5, 20] (fun out rest ii wr => ∃ (i : Nat) (done : List It) (o m' cp : Nat) (R : List UInt8), ii = .int .u8 (i : Int) ∧ i ≤ cn ∧ rest = .slice (some ⟨b, o, none⟩) m' cp ∧ m' ≤ cp ∧ m' ≤ 4611686018427387900 ∧ Hid (R.length = m' ∧ done.length = i ∧ (∀ x ∈ done, ItOk x) ∧ preI done (itemsF 2147483648 (cn - i) R) = q ∧ BytesAt w b o R) ∧ wr.ownsRow w.heap.size 152 5 out i (itCells done) ∧ Ext w wr) (fun _ _ ii _ => cn - (intOf ii).toNat)
  case atStart => exact ⟨0, [], o0, m, cap - 1, t, rfl, Nat.zero_le _, rfl, by omega, by omega, Lib.hid ⟨HMM.out, rfl, by simp, by rw [Nat.sub_zero, ← preI_nil]; exact HQ.out, HBT.out⟩, World.ownsRow_nil _ _ _ _, Ext.refl _⟩
  case round =>
    obtain ⟨i, done, o, m', cp, R, rfl, hi, rfl, hmc, hmx, hH, hown, hext⟩ := hrel
    have HOW := Lib.hid hown
    have HEX := Lib.hid hext
    clear hown hext
    have hi256 : (i : Int) < 256 := by omega
    by_cases hlt : i < cn
    · obtain ⟨r1, hr1⟩ : ∃ r1, itemF 2147483648 R = r1 := ⟨_, rfl⟩
      obtain ⟨k, hk⟩ : ∃ k, cn - i = k + 1 := ⟨cn - i - 1, by omega⟩
      have hHH := hH.out
      rw [hk] at hHH
      have IC := Lib.hid fun (W : World) (hx : Ext w W) => item_any b o cp R W (by omega) (by omega) (hHH.2.2.2.2.ext hx) r1 hr1
      rw [hHH.1] at IC
      unfold itV at IC
      have HK := Lib.hid hk
      have HR1 := Lib.hid hr1
      obtain ⟨x, n1, e1⟩ := r1
      dsimp only at IC
      clear hHH hr1 hk
      by_cases he : e1 = 0
      case neg =>
        have he' : (e1 != 0) = true := by simpa using he
        have hqe : q = ([], [], e1) := by
          have h1 := hH.out.2.2.2.1
          rw [HK.out, preI_err (by rw [HR1.out]; exact he), HR1.out] at h1
          exact h1.symm
        have hre : r = ([], e1) := by have h2 := HR.out; rw [hqe] at h2; simp only [ne_eq, he, not_false_eq_true, if_true] at h2; exact h2.symm
        subst hre
        have HE := Lib.hid he
        clear he hqe
        go_wp2_with (go_at_call 131; refine (IC.out _ (by first | exact HEX.out | (repeat (first | exact HEX.out | apply Ext.alloc | apply Ext.more | apply Ext.drewN)))).mono ?_; rintro e _ ⟨rfl, d1, os1, rfl⟩)
        go_ret2
        exact CutPost.err HE.out (by first | exact HEX.out | (repeat (first | exact HEX.out | apply Ext.alloc | apply Ext.more | apply Ext.drewN)))
      subst he
      obtain ⟨hn1, hox⟩ := itemF_len HR1.out rfl ⟨by decide, by decide⟩
      have hn1' : n1 ≤ m' := by rw [← hH.out.1]; exact hn1
      have hs2 := fun W : World => sl_tail b o m' cp n1 hn1' W
      have HOX := Lib.hid hox
      clear hox hn1
      have hn64 : (n1 : Int) ≤ (m' : Int) := by omega
      go_wp2_with (first
        | (go_at_call 131; refine (IC.out _ (by first | exact HEX.out | (repeat (first | exact HEX.out | apply Ext.alloc | apply Ext.more | apply Ext.drewN)))).mono ?_; rintro e _ ⟨rfl, d1, os1, rfl⟩)
        | (at_builtin; refine wpList_append_own_at _ rfl _ _ 26 rfl w.heap.size 152 i1 (.agg #[.string ⟨#[]⟩, .int .i64 0, .int .i64 0, .string ⟨#[]⟩, .int .i64 0]) 5 56 Tryz.underlying26 hi1 hy0 hy1 hy2 rfl (by decide) _ i (itCells done) rfl (((own_more HOW.out d1 os1).alloc _).alloc _) ⟨wr.heap.size + os1.size + 1, 0, none⟩ 1 1 (itL x) rfl rfl ?c1 ?c2 ?c3 ?c4 ?c5 ?_))
      case c1 => exact news_it (by simp [more_size])
      case c2 => intro u hu; simp [itL] at hu; rcases hu with rfl | rfl | rfl | rfl | rfl <;> rfl
      case c3 => unfold maxLen; omega
      case c4 => omega
      case c5 => have := HEX.out.size; simp [more_size]; omega
      intro v' w1 hown' hgrow' _ _
      have HO1 := Lib.hid (app_items hown')
      have HX1 : Hid (Ext w w1) := Lib.hid ((((HEX.out.more d1 os1).alloc _).alloc _).grown hgrow' (fun k hk => (HOW.out.lt k hk).1))
      have HRST := Lib.hid (hH.out.2.2.2.2.tl (cap := cp) n1 (by rw [hH.out.1]; exact hmc))
      have hcx : w1.cell? ⟨0, 0, none⟩ = w1.cell? ⟨0, 0, none⟩ := rfl
      clear hown' hgrow' hcx
      go_wp2_with fail
      go_roundw
      case rel =>
        refine ⟨i + 1, done ++ [x], tlO o n1 cp, m' - n1, cp - n1, R.drop n1, by go_num, by omega, rfl, by omega, by omega, Lib.hid ⟨?_, ?_, ?_, ?_, HRST.out⟩, HO1.out, HX1.out⟩
        · rw [List.length_drop, hH.out.1]
        · simp [hH.out.2.1]
        · intro y hy
          rcases List.mem_append.1 hy with h | h
          · exact hH.out.2.2.1 y h
          · simp at h; subst h; exact HOX.out
        · have h1 := hH.out.2.2.2.1
          rw [HK.out, preI_step (by rw [HR1.out])] at h1
          rw [HR1.out] at h1
          rw [show cn - (i + 1) = k by have := HK.out; omega]
          exact h1
      case measure => simp [intOf]; omega
    have hic : i = cn := by omega
    have hqq : q = (done, R, 0) := by
      have h1 := hH.out.2.2.2.1
      rw [hic, Nat.sub_self] at h1
      rw [← h1]
      unfold itemsF preI
      simp
    have hr2 := HR.out
    rw [hqq] at hr2
    simp only [ne_eq, not_true_eq_false, if_false] at hr2
    have HR2 := Lib.hid hr2
    have hil := hH.out.2.1
    have hic2 : i = cn := hic
    clear hic hqq hr2
    rw [hic2] at HOW
    clear hic2
    have HDL : Hid (done.length = cn) := Lib.hid (by rw [hil]; omega)
    have HDO : Hid (∀ x ∈ done, ItOk x) := Lib.hid hH.out.2.2.1
    clear hil
    obtain ⟨W1, rfl⟩ : ∃ W1, W1 = wr := ⟨_, rfl⟩
    obtain ⟨p, cap1, rfl, hcap1, hp⟩ := own_form HOW.out
    have HP := Lib.hid hp
    clear hp
    go_wp2_with fail
    go_loopw [41] (fun ii wr => ∃ k : Nat, ii = .int .i64 (k : Int) ∧ k ≤ cn ∧ Hid ((done.take k).all mayI = true) ∧ Ext W1 wr) (fun ii _ => cn - (intOf ii).toNat)
    case atStart => exact ⟨0, rfl, Nat.zero_le _, Lib.hid rfl, Ext.refl _⟩
    case round =>
      obtain ⟨k, rfl, hk, hall, d, os, rfl⟩ := hrel
      by_cases hkl : k < cn
      · obtain ⟨x, hx⟩ := get_at HDL.out hkl
        obtain ⟨g, rfl⟩ := HP.out (by omega)
        obtain ⟨c0, c1, c2, c3, c4⟩ := it_at HOW.out hx
        have hgW : g < W1.heap.size := (HOW.out.lt g rfl).2
        have HOX := Lib.hid (HDO.out x (List.mem_of_getElem? hx))
        have HX := Lib.hid hx
        clear hx
        have hk0 : (0 : Int) ≤ (k : Int) := by omega
        have hk1 : (k : Int) < (cn : Int) := by omega
        cases hm : mayI x with
        | false =>
          have HM := Lib.hid hm
          clear hm
          have hre : r = ([], 1) := by have h2 := HR2.out; rw [if_pos (all_itno done k x HX.out HM.out)] at h2; exact h2.symm
          subst hre
          go_wp2_with (go_at_call 96; refine (lmay_any x HOX.out B _ (HS.out.ext ((by repeat (first | exact HEX.out | apply Ext.alloc | apply Ext.more | apply Ext.drewN))) hB) (Nat.le_trans hB (Ext.size ((by repeat (first | exact HEX.out | apply Ext.alloc | apply Ext.more | apply Ext.drewN)))))).mono ?_; rw [HM.out]; rintro e _ ⟨rfl, d1, os1, rfl⟩)
          go_ret2
          exact CutPost.err (by decide) (by repeat (first | exact HEX.out | apply Ext.alloc | apply Ext.more | apply Ext.drewN))
        | true =>
          have HM := Lib.hid hm
          clear hm
          go_wp2_with (go_at_call 96; refine (lmay_any x HOX.out B _ (HS.out.ext ((by repeat (first | exact HEX.out | apply Ext.alloc | apply Ext.more | apply Ext.drewN))) hB) (Nat.le_trans hB (Ext.size ((by repeat (first | exact HEX.out | apply Ext.alloc | apply Ext.more | apply Ext.drewN)))))).mono ?_; rw [HM.out]; rintro e _ ⟨rfl, d1, os1, rfl⟩)
          go_roundw
          case rel => exact ⟨k + 1, by go_num, by omega, Lib.hid (all_itsnoc done k x HX.out hall.out HM.out), (by repeat (first | exact Ext.refl _ | apply Ext.alloc | apply Ext.more | apply Ext.drewN))⟩
          case measure => simp [intOf]; omega
      have hkc : k = cn := by omega
      have hall2 : done.all mayI = true := by have := hall.out; rw [hkc, List.take_of_length_le (by rw [HDL.out]; exact Nat.le_refl _)] at this; exact this
      have hr3 := HR2.out
      rw [if_neg (by rw [hall2]; simp)] at hr3
      have HR3 := Lib.hid hr3
      clear hr3 hall2 hkc
      go_wp2_with fail
      go_loopw [51] (fun ii wr => ∃ k : Nat, ii = .int .i64 (k : Int) ∧ k ≤ cn ∧ Hid (ordB (done.take k) = true) ∧ Ext W1 wr) (fun ii _ => cn - (intOf ii).toNat)
      case atStart => exact ⟨0, rfl, Nat.zero_le _, Lib.hid rfl, (by repeat (first | exact Ext.refl _ | apply Ext.alloc | apply Ext.more | apply Ext.drewN))⟩
      case round =>
        obtain ⟨k, rfl, hk, hord, d, os, rfl⟩ := hrel
        by_cases hkl : k < cn
        · obtain ⟨x, hx⟩ := get_at HDL.out hkl
          obtain ⟨g, rfl⟩ := HP.out (by omega)
          have cx := (it_at HOW.out hx).1
          have hgW : g < W1.heap.size := (HOW.out.lt g rfl).2
          have HX := Lib.hid hx
          clear hx
          rcases k with _ | k
          · simp only [Nat.zero_mul] at cx
            go_wp2_with fail
            refine wp_region_grow 14 85 [false, false, false, false, false, false, false, false, false, false, false, false, false, false] (by kernel_rfl) (by kernel_rfl) rfl ?_
            simp only [List.take_succ_cons, List.take_zero, List.drop_succ_cons, List.drop_zero]
            repeat (refine Lex.step rfl ?_; intro K hK; unfold StepG; go_simp; (first
                | refine hK _ ?_); clear hK K)
            refine Lex.nil fun WW hE => ?_
            obtain ⟨dd, oo, rfl⟩ := hE
            unfold FillH
            go_wp2_with fail
            rw [ends_normal]
            go_wp2_with fail
            go_roundw
            case rel => exact ⟨1, by go_num, by omega, Lib.hid (by rw [List.take_add_one, HX.out]; rfl), (by repeat (first | exact Ext.refl _ | apply Ext.alloc | apply Ext.more | apply Ext.drewN))⟩
            case measure => simp [intOf]; omega
          · obtain ⟨y, hy⟩ := get_at HDL.out (show k < cn by omega)
            have cy := (it_at HOW.out hy).1
            have HY := Lib.hid hy
            clear hy
            have hk0 : (0 : Int) < (k : Int) + 1 := by omega
            have hk1 : (0 : Int) ≤ (k : Int) := by omega
            have hk3 : (0 : Int) ≤ (k : Int) + 1 := by omega
            have hk4 : (k : Int) + 1 < (cn : Int) := by omega
            have hw3 : ((k : Int) + 1).toNat = k + 1 := by omega
            have hk2 : (k : Int) < (cn : Int) := by omega
            have hw1 : IntKind.i64.wrap (k : Int) = (k : Int) := IntWalk.i64_in _ (by omega)
            cases hg : ltB y.k x.k with
            | false =>
              have HG := Lib.hid hg
              clear hg
              have hcmp := le_key' HG.out
              have hre : r = ([], 3) := by have h2 := HR3.out; rw [if_pos (ord_no done k y x HY.out HX.out HG.out)] at h2; exact h2.symm
              subst hre
              go_wp2_with fail
              refine wp_region_grow 14 85 [false, false, false, false, false, false, false, false, false, false, false, false, false, false] (by kernel_rfl) (by kernel_rfl) rfl ?_
              simp only [List.take_succ_cons, List.take_zero, List.drop_succ_cons, List.drop_zero]
              repeat (refine Lex.step rfl ?_; intro K hK; unfold StepG; go_simp; (first
                  | refine hK _ ?_); clear hK K)
              refine Lex.nil fun WW hE => ?_
              obtain ⟨dd, oo, rfl⟩ := hE
              unfold FillH
              go_wp2_with fail
              rw [ends_normal]
              go_wp2_with fail
              go_ret2
              exact CutPost.err (by decide) (by repeat (first | exact HEX.out | apply Ext.alloc | apply Ext.more | apply Ext.drewN))
            | true =>
              have HG := Lib.hid hg
              clear hg
              have hcmp := le_key HG.out
              go_wp2_with fail
              refine wp_region_grow 14 85 [false, false, false, false, false, false, false, false, false, false, false, false, false, false] (by kernel_rfl) (by kernel_rfl) rfl ?_
              simp only [List.take_succ_cons, List.take_zero, List.drop_succ_cons, List.drop_zero]
              repeat (refine Lex.step rfl ?_; intro K hK; unfold StepG; go_simp; (first
                  | refine hK _ ?_); clear hK K)
              refine Lex.nil fun WW hE => ?_
              obtain ⟨dd, oo, rfl⟩ := hE
              unfold FillH
              go_wp2_with fail
              rw [ends_normal]
              go_wp2_with fail
              go_roundw
              case rel => exact ⟨k + 2, by go_num, by omega, Lib.hid (by rw [ordB_take done k y x HY.out HX.out, hord.out, HG.out]; rfl), (by repeat (first | exact Ext.refl _ | apply Ext.alloc | apply Ext.more | apply Ext.drewN))⟩
              case measure => simp [intOf]; omega
        have hkc : k = cn := by omega
        have hord2 : ordB done = true := by have := hord.out; rw [hkc, List.take_of_length_le (by rw [HDL.out]; exact Nat.le_refl _)] at this; exact this
        have hr3 := HR3.out
        rw [if_neg (by rw [hord2]; simp), HDL.out, hH.out.1] at hr3
        have HR4 := Lib.hid hr3
        clear hr3 hord2 hkc
        by_cases h0 : cn = 0
        · have h0' : ((cn : Int) == 0) = true := by rw [h0]; rfl
          have hre : r = ([], 4) := by have h2 := HR4.out; rw [if_pos (Or.inl h0)] at h2; exact h2.symm
          subst hre
          clear h0
          go_wp2_with fail
          go_ret2
          exact CutPost.err (by decide) (by repeat (first | exact HEX.out | apply Ext.alloc | apply Ext.more | apply Ext.drewN))
        by_cases h8 : 8 < cn
        · have h0' : ((cn : Int) == 0) = false := by rw [beq_eq_false_iff_ne]; omega
          have h8' : (8 : Int) < (cn : Int) := by omega
          have hre : r = ([], 4) := by have h2 := HR4.out; rw [if_pos (Or.inr h8)] at h2; exact h2.symm
          subst hre
          go_wp2_with fail
          go_ret2
          exact CutPost.err (by decide) (by repeat (first | exact HEX.out | apply Ext.alloc | apply Ext.more | apply Ext.drewN))
        have h0' : ((cn : Int) == 0) = false := by rw [beq_eq_false_iff_ne]; omega
        have h8' : ¬ (8 : Int) < (cn : Int) := by omega
        have hr4 := HR4.out
        rw [if_neg (by omega)] at hr4
        by_cases hm0 : 0 < m'
        · have hm0' : (0 : Int) < (m' : Int) := by omega
          have hre : r = ([], 7) := by rw [if_pos hm0] at hr4; exact hr4.symm
          subst hre
          clear hr4
          go_wp2_with fail
          go_ret2
          exact CutPost.err (by decide) (by repeat (first | exact HEX.out | apply Ext.alloc | apply Ext.more | apply Ext.drewN))
        · have hm0' : ¬ (0 : Int) < (m' : Int) := by omega
          have hre : r = (done, 0) := by rw [if_neg hm0] at hr4; exact hr4.symm
          subst hre
          clear hr4
          go_wp2_with fail
          go_ret2
          refine ⟨_, rfl, fun _ => ⟨?_, HDO.out⟩, fun h => absurd rfl h, (by repeat (first | exact HEX.out | apply Ext.alloc | apply Ext.more | apply Ext.drewN))⟩
          rw [HDL.out]
          exact own_ext HOW.out (by repeat (first | exact Ext.refl _ | apply Ext.alloc | apply Ext.more | apply Ext.drewN))
theorem cut_any (b off cap : Nat) (l : List UInt8) (B : Nat) (w : World) (hS : SignsAt B w) (hB : B ≤ w.heap.size) (hm : l.length ≤ 4611686018427387900) (hcap : l.length ≤ cap) (hb : BytesAt w b off l) (r : List It × Int) (hr : cutF 2147483648 l = r) :
    Calls Tryz.prog 103 #[.slice (some ⟨b, off, none⟩) l.length cap] w fun e w' => CutPost w w' e r := by
  cases l with
  | nil => simp only [cutF] at hr; subst hr; exact cut_nil b off cap w
  | cons c t => exact cut_cons b off cap c t B w hS hB (by simp at hm; omega) (by simpa using hcap) hb r hr
end Go.Proofs.YtpchohjkelopoaaGreatDoor

set_option maxRecDepth 20000
namespace Go.Proofs.YtpchohjkelopoaaGreatDoor
open Go.RowKit
attribute [go_sem] more_more Array.size_append
theorem ex_tail (s : ByteArray) (a : Nat) : (s.extract a s.size).data.toList = s.data.toList.drop a := by
  rw [toList_extract, List.take_of_length_le (by simp)]
theorem ex_size (s : ByteArray) (a : Nat) : (s.extract a s.size).size = s.size - a := by simp
set_option maxHeartbeats 1000000 in
theorem rcutl_nil (s : ByteArray) (hs : s.size = 0) (w : World) : Calls Tryz.prog 86 #[.string s] w fun e w' => CutPost w w' e ([], 2) := by
  have hq : s.toList.isEmpty = true := by rw [empty_size, beq_iff_eq]; omega
  go_enter Tryz.func86, Tryz.ntmps86
  go_wp2_with fail
  go_ret2
  exact CutPost.err (by decide) (Ext.refl _)
set_option maxHeartbeats 4000000 in
theorem rcutl_cons (s : ByteArray) (hs : 0 < s.size) (w : World) (hm : s.size ≤ 4611686018427387900) (r : List It × Int) (hr : cutF (-1) s.data.toList = r) :
    Calls Tryz.prog 86 #[.string s] w fun e w' => CutPost w w' e r := by
  obtain ⟨i1, hi1, hy0, hy1, hy2⟩ := info_parts itInfo
  have hcons : s.data.toList = s[0] :: s.data.toList.drop 1 := by
    have := List.drop_eq_getElem_cons (l := s.data.toList) (i := 0) (by rw [ba_len]; exact hs)
    rw [List.drop_zero] at this
    exact this
  rw [hcons] at hr
  obtain ⟨q, hq⟩ : ∃ q, itemsF (-1) s[0].toNat (s.data.toList.drop 1) = q := ⟨_, rfl⟩
  rw [cutF_items hq] at hr
  obtain ⟨cn, hcn⟩ : ∃ cn, s[0].toNat = cn := ⟨_, rfl⟩
  have hcn2 : cn < 256 := by have := (s[0]).toNat_lt; omega
  have hcn3 : (cn : Int) < 256 := by omega
  rw [hcn] at hq
  have hcI : ((s[0]).toNat : Int) = (cn : Int) := by rw [hcn]
  have hsm : (s.size : Int) ≤ 4611686018427387900 := by omega
  have hs0 : (0 : Int) < (s.size : Int) := by omega
  have hsE : s.toList.isEmpty = false := by rw [empty_size, beq_eq_false_iff_ne]; omega
  have HQ := Lib.hid hq
  have HR := Lib.hid hr
  clear hq hr hcn hcons
  go_enter Tryz.func86, Tryz.ntmps86
  go_wp2_with fail
  go_loopw [4, 5, 6] (fun out av ii wr => ∃ (i : Nat) (done : List It) (a : Nat), ii = .int .i64 (i : Int) ∧ i ≤ cn ∧ av = .int .i64 (a : Int) ∧ a ≤ s.size ∧ Hid (done.length = i ∧ (∀ x ∈ done, ItOk x) ∧ preI done (itemsF (-1) (cn - i) (s.data.toList.drop a)) = q) ∧ wr.ownsRow w.heap.size 152 5 out i (itCells done) ∧ Ext w wr) (fun _ _ ii _ => cn - (intOf ii).toNat)
  case atStart => exact ⟨0, [], 1, rfl, Nat.zero_le _, rfl, by omega, Lib.hid ⟨rfl, by simp, by rw [Nat.sub_zero, ← preI_nil]; exact HQ.out⟩, World.ownsRow_nil _ _ _ _, Ext.refl _⟩
  case round =>
    obtain ⟨i, done, a, rfl, hi, rfl, hab, hH, hown, hext⟩ := hrel
    have HOW := Lib.hid hown
    have HEX := Lib.hid hext
    clear hown hext
    have haI : (a : Int) ≤ (s.size : Int) := by omega
    by_cases hlt : i < cn
    · obtain ⟨k, hk⟩ : ∃ k, cn - i = k + 1 := ⟨cn - i - 1, by omega⟩
      have HK := Lib.hid hk
      clear hk
      obtain ⟨t, n1, e1, h1⟩ : ∃ t n e, cutT (s.data.toList.drop a) = (t, n, e) := ⟨_, _, _, rfl⟩
      have C1 := Lib.hid fun (W : World) => rcuttext_any (s.extract a s.size) W (by rw [ex_size]; omega) t n1 e1 (by rw [ex_tail]; exact h1)
      by_cases he : e1 = 0
      case neg =>
        have hqe : q = ([], [], e1) := by
          have hz := hH.out.2.2
          rw [HK.out, preI_err (by rw [itemF_e1 h1 he]; exact he), itemF_e1 h1 he] at hz
          exact hz.symm
        have hre : r = ([], e1) := by have hz := HR.out; rw [hqe] at hz; simp only [ne_eq, he, not_false_eq_true, if_true] at hz; exact hz.symm
        subst hre
        have he' : (e1 != 0) = true := by simpa using he
        have HE := Lib.hid he
        clear he hqe h1
        go_wp2_with (go_at_call 112; refine (C1.out _).mono ?_; rintro e _ ⟨rfl, d1, os1, rfl⟩)
        go_ret2
        exact CutPost.err HE.out (by repeat (first | exact HEX.out | apply Ext.alloc | apply Ext.more | apply Ext.drewN))
      subst he
      obtain ⟨hn1, ht⟩ := cutT_ok h1
      have hn1' : a + n1 ≤ s.size := by rw [List.length_drop, ba_len] at hn1; omega
      obtain ⟨v, n2, e2, h2⟩ : ∃ v n e, valC ((s.data.toList.drop a).drop n1) = (v, n, e) := ⟨_, _, _, rfl⟩
      have C2 := Lib.hid fun (W : World) => rc_any W (s.extract (a + n1) s.size) (by rw [ex_size]; omega) v n2 e2 (by rw [ex_tail, ← List.drop_drop]; exact h2)
      have hn1I : (a : Int) + (n1 : Int) ≤ (s.size : Int) := by omega
      by_cases he : e2 = 0
      case neg =>
        have hqe : q = ([], [], e2) := by
          have hz := hH.out.2.2
          rw [HK.out, preI_err (by rw [itemF_e2 h1 h2 he]; exact he), itemF_e2 h1 h2 he] at hz
          exact hz.symm
        have hre : r = ([], e2) := by have hz := HR.out; rw [hqe] at hz; simp only [ne_eq, he, not_false_eq_true, if_true] at hz; exact hz.symm
        subst hre
        have he' : (e2 != 0) = true := by simpa using he
        have HE := Lib.hid he
        clear he hqe h1 h2
        go_wp2_with (first
          | (go_at_call 112; refine (C1.out _).mono ?_; rintro e _ ⟨rfl, d1, os1, rfl⟩)
          | (go_at_call 113; refine (C2.out _).mono ?_; rintro e _ ⟨rfl, d2, os2, rfl⟩))
        go_ret2
        exact CutPost.err HE.out (by repeat (first | exact HEX.out | apply Ext.alloc | apply Ext.more | apply Ext.drewN))
      subst he
      obtain ⟨hn2, hvs, hvk, hvi, _⟩ := valC_ok h2
      have hn2' : a + n1 + n2 ≤ s.size := by rw [List.length_drop, List.length_drop, ba_len] at hn2; omega
      obtain ⟨x, n3, e3, h3⟩ : ∃ x n e, cutG 0 0 ((s.data.toList.drop a).drop (n1 + n2)) = (x, n, e) := ⟨_, _, _, rfl⟩
      have C3 := Lib.hid fun (W : World) => rcut_core (s.extract (a + n1 + n2) s.size) (by rw [ex_size]; unfold maxLen; omega) W x n3 e3 (by rw [ex_tail, Nat.add_assoc, ← List.drop_drop]; exact h3)
      have hn2I : (a : Int) + (n1 : Int) + (n2 : Int) ≤ (s.size : Int) := by omega
      by_cases he : e3 = 0
      case neg =>
        have hqe : q = ([], [], e3) := by
          have hz := hH.out.2.2
          rw [HK.out, preI_err (by rw [itemF_e3 h1 h2 h3 he]; exact he), itemF_e3 h1 h2 h3 he] at hz
          exact hz.symm
        have hre : r = ([], e3) := by have hz := HR.out; rw [hqe] at hz; simp only [ne_eq, he, not_false_eq_true, if_true] at hz; exact hz.symm
        subst hre
        have he' : (e3 != 0) = true := by simpa using he
        have HE := Lib.hid he
        clear he hqe h1 h2 h3
        go_wp2_with (first
          | (go_at_call 112; refine (C1.out _).mono ?_; rintro e _ ⟨rfl, d1, os1, rfl⟩)
          | (go_at_call 113; refine (C2.out _).mono ?_; rintro e _ ⟨rfl, d2, os2, rfl⟩)
          | (go_at_call 114; refine (C3.out _).mono ?_; rintro e _ ⟨rfl, d3, os3, rfl⟩))
        go_ret2
        exact CutPost.err HE.out (by repeat (first | exact HEX.out | apply Ext.alloc | apply Ext.more | apply Ext.drewN))
      subst he
      obtain ⟨hx1, hn3⟩ := cutG_lt h3
      have hn3' : a + n1 + n2 + n3 ≤ s.size := by rw [List.length_drop, List.length_drop, ba_len] at hn3; omega
      have hn3I : (a : Int) + (n1 : Int) + (n2 : Int) + (n3 : Int) ≤ (s.size : Int) := by omega
      have hr1 := itemF_ok (bad := -1) h1 h2 h3
      have hox := (itemF_len hr1 rfl ⟨by decide, by decide⟩).2
      obtain ⟨vk, vi, vs⟩ := v
      dsimp only at hr1 hox hvs hvk hvi
      clear h1 h2 h3 hn1 hn2 hn3 ht hvs hvk hvi
      by_cases hbig : 2147483647 < x
      · rw [if_pos hbig] at hr1 hox
        have hbig' : ((x : Int) ≤ 2147483647) = False := eq_false (by omega)
        have HR1 := Lib.hid hr1
        have HOX := Lib.hid hox
        clear hr1 hox hbig hx1
        go_wp2_with (first
          | (go_at_call 112; refine (C1.out _).mono ?_; rintro e _ ⟨rfl, d1, os1, rfl⟩)
          | (go_at_call 113; refine (C2.out _).mono ?_; rintro e _ ⟨rfl, d2, os2, rfl⟩)
          | (go_at_call 114; refine (C3.out _).mono ?_; rintro e _ ⟨rfl, d3, os3, rfl⟩)
          | (at_builtin; refine wpList_append_own_at _ rfl _ _ 26 rfl w.heap.size 152 i1 (.agg #[.string ⟨#[]⟩, .int .i64 0, .int .i64 0, .string ⟨#[]⟩, .int .i64 0]) 5 56 Tryz.underlying26 hi1 hy0 hy1 hy2 rfl (by decide) _ i (itCells done) rfl (by repeat (first | exact HOW.out | apply World.ownsRow.alloc | apply own_more)) ⟨_, 0, none⟩ 1 1 (itL ⟨⟨t.toArray⟩, vk, vi, vs, -1⟩) rfl rfl ?c1a ?c2a ?c3a ?c4a ?c5a ?_))
        case c1a => exact news_it (by simp [more_size])
        case c2a => intro u hu; simp [itL] at hu; rcases hu with rfl | rfl | rfl | rfl | rfl <;> rfl
        case c3a => unfold maxLen; omega
        case c4a => omega
        case c5a => have := HEX.out.size; simp [more_size]; omega
        intro v' w1 hown' hgrow' _ _
        have HO1 := Lib.hid (app_items hown')
        have HX1 : Hid (Ext w w1) := Lib.hid (Ext.grown (by repeat (first | exact HEX.out | apply Ext.alloc | apply Ext.more | apply Ext.drewN)) hgrow' (fun k hk => (HOW.out.lt k hk).1))
        clear hown' hgrow'
        go_wp2_with fail
        go_roundw
        case rel =>
          refine ⟨i + 1, done ++ [⟨⟨t.toArray⟩, vk, vi, vs, -1⟩], a + n1 + n2 + n3, by go_num, by omega, by go_num, by omega, Lib.hid ⟨?_, ?_, ?_⟩, HO1.out, HX1.out⟩
          · simp [hH.out.1]
          · intro y hy
            rcases List.mem_append.1 hy with h | h
            · exact hH.out.2.1 y h
            · simp at h; subst h; exact HOX.out
          · have h1 := hH.out.2.2
            rw [HK.out, preI_step (by rw [HR1.out])] at h1
            rw [HR1.out, List.drop_drop] at h1
            rw [show cn - (i + 1) = k by have := HK.out; omega, show a + n1 + n2 + n3 = a + (n1 + n2 + n3) by omega]
            exact h1
        case measure => simp [intOf]; omega
      · rw [if_neg hbig] at hr1 hox
        have hwx : IntKind.i64.wrap (x : Int) = (x : Int) := IntWalk.i64_in _ (by omega)
        have hbig' : ((x : Int) ≤ 2147483647) = True := eq_true (by omega)
        have HR1 := Lib.hid hr1
        have HOX := Lib.hid hox
        clear hr1 hox hbig hx1
        go_wp2_with (first
          | (go_at_call 112; refine (C1.out _).mono ?_; rintro e _ ⟨rfl, d1, os1, rfl⟩)
          | (go_at_call 113; refine (C2.out _).mono ?_; rintro e _ ⟨rfl, d2, os2, rfl⟩)
          | (go_at_call 114; refine (C3.out _).mono ?_; rintro e _ ⟨rfl, d3, os3, rfl⟩)
          | (at_builtin; refine wpList_append_own_at _ rfl _ _ 26 rfl w.heap.size 152 i1 (.agg #[.string ⟨#[]⟩, .int .i64 0, .int .i64 0, .string ⟨#[]⟩, .int .i64 0]) 5 56 Tryz.underlying26 hi1 hy0 hy1 hy2 rfl (by decide) _ i (itCells done) rfl (by repeat (first | exact HOW.out | apply World.ownsRow.alloc | apply own_more)) ⟨_, 0, none⟩ 1 1 (itL ⟨⟨t.toArray⟩, vk, vi, vs, (x : Int)⟩) rfl rfl ?c1b ?c2b ?c3b ?c4b ?c5b ?_))
        case c1b => exact news_it (by simp [more_size])
        case c2b => intro u hu; simp [itL] at hu; rcases hu with rfl | rfl | rfl | rfl | rfl <;> rfl
        case c3b => unfold maxLen; omega
        case c4b => omega
        case c5b => have := HEX.out.size; simp [more_size]; omega
        intro v' w1 hown' hgrow' _ _
        have HO1 := Lib.hid (app_items hown')
        have HX1 : Hid (Ext w w1) := Lib.hid (Ext.grown (by repeat (first | exact HEX.out | apply Ext.alloc | apply Ext.more | apply Ext.drewN)) hgrow' (fun k hk => (HOW.out.lt k hk).1))
        clear hown' hgrow'
        go_wp2_with fail
        go_roundw
        case rel =>
          refine ⟨i + 1, done ++ [⟨⟨t.toArray⟩, vk, vi, vs, (x : Int)⟩], a + n1 + n2 + n3, by go_num, by omega, by go_num, by omega, Lib.hid ⟨?_, ?_, ?_⟩, HO1.out, HX1.out⟩
          · simp [hH.out.1]
          · intro y hy
            rcases List.mem_append.1 hy with h | h
            · exact hH.out.2.1 y h
            · simp at h; subst h; exact HOX.out
          · have h1 := hH.out.2.2
            rw [HK.out, preI_step (by rw [HR1.out])] at h1
            rw [HR1.out, List.drop_drop] at h1
            rw [show cn - (i + 1) = k by have := HK.out; omega, show a + n1 + n2 + n3 = a + (n1 + n2 + n3) by omega]
            exact h1
        case measure => simp [intOf]; omega
    have hic : i = cn := by omega
    have hqq : q = (done, s.data.toList.drop a, 0) := by
      have h1 := hH.out.2.2
      rw [hic, Nat.sub_self] at h1
      rw [← h1]
      unfold itemsF preI
      simp
    have hr2 := HR.out
    rw [hqq] at hr2
    simp only [ne_eq, not_true_eq_false, if_false] at hr2
    have HR2 := Lib.hid hr2
    have hil := hH.out.1
    have hic2 : i = cn := hic
    clear hic hqq hr2
    rw [hic2] at HOW
    clear hic2
    have HDL : Hid (done.length = cn) := Lib.hid (by rw [hil]; omega)
    have HDO : Hid (∀ x ∈ done, ItOk x) := Lib.hid hH.out.2.1
    clear hil
    obtain ⟨W1, rfl⟩ : ∃ W1, W1 = wr := ⟨_, rfl⟩
    obtain ⟨p, cap1, rfl, hcap1, hp⟩ := own_form HOW.out
    have HP := Lib.hid hp
    clear hp
    go_wp2_with fail
    go_loopw [13] (fun ii wr => ∃ k : Nat, ii = .int .i64 (k : Int) ∧ k ≤ cn ∧ Hid ((done.take k).all mayI = true) ∧ Ext W1 wr) (fun ii _ => cn - (intOf ii).toNat)
    case atStart => exact ⟨0, rfl, Nat.zero_le _, Lib.hid rfl, Ext.refl _⟩
    case round =>
      obtain ⟨k, rfl, hk, hall, d, os, rfl⟩ := hrel
      by_cases hkl : k < cn
      · obtain ⟨x, hx⟩ := get_at HDL.out hkl
        obtain ⟨g, rfl⟩ := HP.out (by omega)
        obtain ⟨c0, c1, c2, c3, c4⟩ := it_at HOW.out hx
        have hgW : g < W1.heap.size := (HOW.out.lt g rfl).2
        have HOX := Lib.hid (HDO.out x (List.mem_of_getElem? hx))
        have HX := Lib.hid hx
        clear hx
        have hk0 : (0 : Int) ≤ (k : Int) := by omega
        have hk1 : (k : Int) < (cn : Int) := by omega
        cases hm : mayI x with
        | false =>
          have HM := Lib.hid hm
          clear hm
          have hre : r = ([], 1) := by have h2 := HR2.out; rw [if_pos (all_itno done k x HX.out HM.out)] at h2; exact h2.symm
          subst hre
          go_wp2_with (go_at_call 97; refine (rlmay_any x HOX.out _).mono ?_; rw [HM.out]; rintro e _ ⟨rfl, d1, os1, rfl⟩)
          go_ret2
          exact CutPost.err (by decide) (by repeat (first | exact HEX.out | apply Ext.alloc | apply Ext.more | apply Ext.drewN))
        | true =>
          have HM := Lib.hid hm
          clear hm
          go_wp2_with (go_at_call 97; refine (rlmay_any x HOX.out _).mono ?_; rw [HM.out]; rintro e _ ⟨rfl, d1, os1, rfl⟩)
          go_roundw
          case rel => exact ⟨k + 1, by go_num, by omega, Lib.hid (all_itsnoc done k x HX.out hall.out HM.out), (by repeat (first | exact Ext.refl _ | apply Ext.alloc | apply Ext.more | apply Ext.drewN))⟩
          case measure => simp [intOf]; omega
      have hkc : k = cn := by omega
      have hall2 : done.all mayI = true := by have := hall.out; rw [hkc, List.take_of_length_le (by rw [HDL.out]; exact Nat.le_refl _)] at this; exact this
      have hr3 := HR2.out
      rw [if_neg (by rw [hall2]; simp)] at hr3
      have HR3 := Lib.hid hr3
      clear hr3 hall2 hkc
      go_wp2_with fail
      go_loopw [14] (fun ii wr => ∃ k : Nat, ii = .int .i64 ((k : Int) + 1) ∧ k ≤ cn ∧ Hid (ordB (done.take (k + 1)) = true) ∧ Ext W1 wr) (fun ii _ => cn + 1 - (intOf ii).toNat)
      case atStart =>
        refine ⟨0, rfl, Nat.zero_le _, Lib.hid ?_, (by repeat (first | exact Ext.refl _ | apply Ext.alloc | apply Ext.more | apply Ext.drewN))⟩
        cases done with
        | nil => rfl
        | cons z l => rfl
      case round =>
        obtain ⟨k, rfl, hk, hord, d, os, rfl⟩ := hrel
        have hk0 : (0 : Int) < (k : Int) + 1 := by omega
        have hk1 : (0 : Int) ≤ (k : Int) := by omega
        have hk3 : (0 : Int) ≤ (k : Int) + 1 := by omega
        by_cases hkl : k + 1 < cn
        · obtain ⟨x, hx⟩ := get_at HDL.out hkl
          obtain ⟨g, rfl⟩ := HP.out (by omega)
          have cx := (it_at HOW.out hx).1
          have hgW : g < W1.heap.size := (HOW.out.lt g rfl).2
          obtain ⟨y, hy⟩ := get_at HDL.out (show k < cn by omega)
          have cy := (it_at HOW.out hy).1
          have HOX := Lib.hid (HDO.out x (List.mem_of_getElem? hx))
          have HOY := Lib.hid (HDO.out y (List.mem_of_getElem? hy))
          have HX := Lib.hid hx
          have HY := Lib.hid hy
          clear hx hy
          have hk4 : (k : Int) + 1 < (cn : Int) := by omega
          have hw3 : ((k : Int) + 1).toNat = k + 1 := by omega
          have hk2 : (k : Int) < (cn : Int) := by omega
          have hw1 : IntKind.i64.wrap (k : Int) = (k : Int) := IntWalk.i64_in _ (by omega)
          cases hg : ltB y.k x.k with
          | false =>
            have HG := Lib.hid hg
            clear hg
            have hre : r = ([], 3) := by have h2 := HR3.out; rw [if_pos (ord_no done k y x HY.out HX.out HG.out)] at h2; exact h2.symm
            subst hre
            go_wp2_with fail
            refine wp_region_grow 11 122 [false, false, false, false, false, false, false, false, false, false, false] (by kernel_rfl) (by kernel_rfl) rfl ?_
            simp only [List.take_succ_cons, List.take_zero, List.drop_succ_cons, List.drop_zero]
            repeat (refine Lex.step rfl ?_; intro K hK; unfold StepG; go_simp; (first
                | refine hK _ ?_); clear hK K)
            refine Lex.nil fun WW hE => ?_
            obtain ⟨dd, oo, rfl⟩ := hE
            unfold FillH
            go_wp2_with (go_at_call 98; refine (ahead_any _ _ (small_max HOY.out.k) (small_max HOX.out.k) _).mono ?_; rw [HG.out]; rintro e _ ⟨rfl, d2, os2, rfl⟩)
            rw [ends_normal]
            go_wp2_with fail
            go_ret2
            exact CutPost.err (by decide) (by repeat (first | exact HEX.out | apply Ext.alloc | apply Ext.more | apply Ext.drewN))
          | true =>
            have HG := Lib.hid hg
            clear hg
            go_wp2_with fail
            refine wp_region_grow 11 122 [false, false, false, false, false, false, false, false, false, false, false] (by kernel_rfl) (by kernel_rfl) rfl ?_
            simp only [List.take_succ_cons, List.take_zero, List.drop_succ_cons, List.drop_zero]
            repeat (refine Lex.step rfl ?_; intro K hK; unfold StepG; go_simp; (first
                | refine hK _ ?_); clear hK K)
            refine Lex.nil fun WW hE => ?_
            obtain ⟨dd, oo, rfl⟩ := hE
            unfold FillH
            go_wp2_with (go_at_call 98; refine (ahead_any _ _ (small_max HOY.out.k) (small_max HOX.out.k) _).mono ?_; rw [HG.out]; rintro e _ ⟨rfl, d2, os2, rfl⟩)
            rw [ends_normal]
            go_wp2_with fail
            go_roundw
            case rel => exact ⟨k + 1, by go_num, by omega, Lib.hid (by rw [ordB_take done k y x HY.out HX.out, hord.out, HG.out]; rfl), (by repeat (first | exact Ext.refl _ | apply Ext.alloc | apply Ext.more | apply Ext.drewN))⟩
            case measure => simp [intOf]; omega
        have hord2 : ordB done = true := by have := hord.out; rw [List.take_of_length_le (by rw [HDL.out]; omega)] at this; exact this
        have hr3 := HR3.out
        rw [if_neg (by rw [hord2]; simp), HDL.out, List.length_drop, ba_len] at hr3
        have HR4 := Lib.hid hr3
        clear hr3 hord2
        have hkn : (cn : Int) ≤ (k : Int) + 1 := by omega
        by_cases h0 : cn = 0
        · have h0' : (cn : Int) < 1 := by omega
          have hre : r = ([], 4) := by have h2 := HR4.out; rw [if_pos (Or.inl h0)] at h2; exact h2.symm
          subst hre
          clear h0
          go_wp2_with fail
          go_ret2
          exact CutPost.err (by decide) (by repeat (first | exact HEX.out | apply Ext.alloc | apply Ext.more | apply Ext.drewN))
        by_cases h8 : 8 < cn
        · have h0' : ¬ (cn : Int) < 1 := by omega
          have h8' : (8 : Int) < (cn : Int) := by omega
          have hre : r = ([], 4) := by have h2 := HR4.out; rw [if_pos (Or.inr h8)] at h2; exact h2.symm
          subst hre
          go_wp2_with fail
          go_ret2
          exact CutPost.err (by decide) (by repeat (first | exact HEX.out | apply Ext.alloc | apply Ext.more | apply Ext.drewN))
        have h0' : ¬ (cn : Int) < 1 := by omega
        have h8' : ¬ (8 : Int) < (cn : Int) := by omega
        have hr4 := HR4.out
        rw [if_neg (by omega)] at hr4
        by_cases hm0 : 0 < s.size - a
        · have hm0' : (a : Int) < (s.size : Int) := by omega
          have hre : r = ([], 7) := by rw [if_pos hm0] at hr4; exact hr4.symm
          subst hre
          clear hr4
          go_wp2_with fail
          go_ret2
          exact CutPost.err (by decide) (by repeat (first | exact HEX.out | apply Ext.alloc | apply Ext.more | apply Ext.drewN))
        · have hm0' : ¬ (a : Int) < (s.size : Int) := by omega
          have hre : r = (done, 0) := by rw [if_neg hm0] at hr4; exact hr4.symm
          subst hre
          clear hr4
          go_wp2_with fail
          go_ret2
          refine ⟨_, rfl, fun _ => ⟨?_, HDO.out⟩, fun h => absurd rfl h, (by repeat (first | exact HEX.out | apply Ext.alloc | apply Ext.more | apply Ext.drewN))⟩
          rw [HDL.out]
          exact own_ext HOW.out (by repeat (first | exact Ext.refl _ | apply Ext.alloc | apply Ext.more | apply Ext.drewN))
theorem rcutl_any (s : ByteArray) (w : World) (hm : s.size ≤ 4611686018427387900) (r : List It × Int) (hr : cutF (-1) s.data.toList = r) :
    Calls Tryz.prog 86 #[.string s] w fun e w' => CutPost w w' e r := by
  by_cases hs : 0 < s.size
  · exact rcutl_cons s hs w hm r hr
  · have h0 : s.data.toList = [] := List.eq_nil_of_length_eq_zero (by rw [ba_len]; omega)
    rw [h0] at hr
    simp only [cutF] at hr
    subst hr
    exact rcutl_nil s (by omega) w
end Go.Proofs.YtpchohjkelopoaaGreatDoor
