/- Lemmas for the claim (texts Ro1, Ro2, Ro3, Nm1, Nm5, NmC, NmD, NmE, Bk1, what its proof uses of them). -/
import Derived.Test.YtpchohjkelopoaaGreatDoorK10
import Derived.Test.YtpchohjkelopoaaGreatDoorK13
import Derived.BigRegion
import Derived.Deep.RegionWith
import Derived.WalkMore
import Derived.Lib.SmallJoins
import Derived.Lib.ConvBytes
import Derived.Laws.CopyOwn
set_option linter.unusedSimpArgs false
set_option linter.unusedVariables false
set_option maxRecDepth 20000
namespace Go.Proofs.YtpchohjkelopoaaGreatDoor
open Go.RowKit
attribute [go_sem] more_more Array.size_append
/-- texts given their numbers, one behind the other -/
def ofAll : List ByteArray → List ByteArray → List ByteArray × List Int × Int
  | l, [] => (l, [], 0)
  | l, c :: cs => if (ofF l c).2.2 ≠ 0 then ((ofF l c).1, [], (ofF l c).2.2)
    else if (ofAll (ofF l c).1 cs).2.2 ≠ 0 then ((ofAll (ofF l c).1 cs).1, [], (ofAll (ofF l c).1 cs).2.2)
    else ((ofAll (ofF l c).1 cs).1, ((ofF l c).2.1 : Int) :: (ofAll (ofF l c).1 cs).2.1, 0)
def preT (ns : List Int) (q : List ByteArray × List Int × Int) : List ByteArray × List Int × Int := if q.2.2 ≠ 0 then (q.1, [], q.2.2) else (q.1, ns ++ q.2.1, 0)
theorem ofAll_err0 : ∀ (cs l : List ByteArray), (ofAll l cs).2.2 ≠ 0 → (ofAll l cs).2.1 = []
  | [], l, h => absurd rfl h
  | c :: cs, l, h => by
    unfold ofAll at h ⊢
    split
    · rfl
    · next h1 =>
      rw [if_neg h1] at h
      split
      · rfl
      · next h2 => rw [if_neg h2] at h; exact absurd rfl h
theorem preT_nil (l cs : List ByteArray) : ofAll l cs = preT [] (ofAll l cs) := by
  unfold preT
  by_cases h : (ofAll l cs).2.2 = 0
  · rw [if_neg (by simpa using h)]
    simp only [List.nil_append]
    rw [← h]
  · rw [if_pos h, ← ofAll_err0 cs l h]
theorem preT_err {ns : List Int} {l cs : List ByteArray} {c : ByteArray} (h : (ofF l c).2.2 ≠ 0) : preT ns (ofAll l (c :: cs)) = ((ofF l c).1, [], (ofF l c).2.2) := by
  unfold ofAll; rw [if_pos h]; unfold preT; rw [if_pos h]
theorem preT_step {ns : List Int} {l cs : List ByteArray} {c : ByteArray} (h : (ofF l c).2.2 = 0) : preT ns (ofAll l (c :: cs)) = preT (ns ++ [((ofF l c).2.1 : Int)]) (ofAll (ofF l c).1 cs) := by
  conv => lhs; unfold ofAll
  rw [if_neg (by simpa using h)]
  by_cases h2 : (ofAll (ofF l c).1 cs).2.2 = 0
  · rw [if_neg (by simpa using h2)]
    unfold preT
    rw [if_neg (by simp), if_neg (by simpa using h2)]
    simp
  · rw [if_pos h2]
    unfold preT
    rw [if_pos h2, if_pos h2]
theorem ofF_len (l : List ByteArray) (s : ByteArray) : (ofF l s).1.length ≤ l.length + 1 ∧ l.length ≤ (ofF l s).1.length ∧ ((ofF l s).2.1 ≤ l.length + 1) := by
  unfold ofF
  have := idxF_le l s
  (repeat' split) <;> simp <;> omega
def bas (L : List (List UInt8)) : List ByteArray := L.map fun c => ⟨c.toArray⟩
/-- a leaf's term: the texts behind it, the term, the error -/
def leafT (l : List ByteArray) (items : List It) (ver : Int) : List ByteArray × Nat × Int :=
  if (ofAll l (bas (chunksF items))).2.2 ≠ 0 then ((ofAll l (bas (chunksF items))).1, 0, (ofAll l (bas (chunksF items))).2.2)
  else ofF (ofAll l (bas (chunksF items))).1 ⟨(digF (ver :: (ofAll l (bas (chunksF items))).2.1)).toArray⟩
/-- what else lies there stays, by the types of blocks -/
theorem tab_other {B bt bm : Nat} {tv : Value} {l : List ByteArray} {w : World} (h : TabAt B bt bm tv l w) {k : Nat} {cur : Array Value} {T : TypeId} {fz : Nat × Nat} (hb : w.heap[k]? = some (.cells cur T fz)) (h1 : T ≠ 132) (h2 : T ≠ 9) : k ≠ bt ∧ k ≠ bm ∧ tv.ownBlock ≠ some k := by
  obtain ⟨_, _, _, a4, ⟨D, a5, _⟩, a7, _⟩ := h
  refine ⟨?_, ?_, ?_⟩
  · rintro rfl
    rw [a4] at hb
    simp at hb
    exact h1 hb.2.1.symm
  · rintro rfl
    obtain ⟨es, clock, hm, _⟩ := a5
    rw [hm] at hb
    simp at hb
  · intro q
    rcases a7.2 with ⟨rfl, _⟩ | ⟨g, cap, cur2, rfl, _, hh, _⟩
    · simp [Value.ownBlock] at q
    · simp only [Value.ownBlock, Option.some.injEq] at q
      subst q
      rw [hh] at hb
      simp at hb
      exact h2 hb.2.1.symm
theorem kept_ty {B bt bm : Nat} {tv : Value} {l : List ByteArray} {w w' : World} (h : TabAt B bt bm tv l w) (hk : TabKept bt bm tv.ownBlock w w') {k : Nat} {cur : Array Value} {T : TypeId} {fz : Nat × Nat} (hb : w.heap[k]? = some (.cells cur T fz)) (h1 : T ≠ 132) (h2 : T ≠ 9) : w'.heap[k]? = w.heap[k]? := by
  obtain ⟨a, b, c⟩ := tab_other h hb h1 h2
  exact hk.2.2.2.2 k (lt_of_heap hb) a b c
/-- one step of the table behind another one -/
def TabStep (bt bm : Nat) (tv : Value) (w : World) (tv' : Value) (w' : World) : Prop := TabKept bt bm tv.ownBlock w w' ∧ (tv'.ownBlock = tv.ownBlock ∨ ∃ k, tv'.ownBlock = some k ∧ w.heap.size ≤ k)
theorem TabStep.refl (bt bm : Nat) (tv : Value) (w : World) : TabStep bt bm tv w tv w := ⟨TabKept.ext (Ext.refl w), Or.inl rfl⟩
theorem TabStep.trans {bt bm : Nat} {tv tv1 tv2 : Value} {w w1 w2 : World} (h : TabStep bt bm tv w tv1 w1) (k : TabStep bt bm tv1 w1 tv2 w2) : TabStep bt bm tv w tv2 w2 := by
  obtain ⟨⟨a1, a2, a3, a4, a5⟩, ha⟩ := h
  obtain ⟨⟨b1, b2, b3, b4, b5⟩, hb⟩ := k
  refine ⟨⟨b1.trans a1, b2.trans a2, b3.trans a3, Nat.le_trans a4 b4, fun j hj h1 h2 h3 => ?_⟩, ?_⟩
  · rw [b5 j (by omega) h1 h2 ?_, a5 j hj h1 h2 h3]
    intro q
    rcases ha with ha | ⟨m, ha, hm⟩
    · exact h3 (ha ▸ q)
    · rw [ha] at q; simp at q; omega
  · rcases hb with hb | ⟨m, hb, hm⟩
    · rw [hb]; exact ha
    · exact Or.inr ⟨m, hb, by omega⟩
theorem TabStep.ext {bt bm : Nat} {tv tv1 : Value} {w w1 w2 : World} (h : TabStep bt bm tv w tv1 w1) (hx : Ext w1 w2) : TabStep bt bm tv w tv1 w2 := h.trans ⟨TabKept.ext hx, Or.inl rfl⟩
theorem TabStep.grown {bt bm : Nat} {tv tv1 : Value} {w w1 w2 : World} {row : Option Nat} (h : TabStep bt bm tv w tv1 w1) (hg : w1.grownBy w2 row) (hr : ∀ k, row = some k → w.heap.size ≤ k) : TabStep bt bm tv w tv1 w2 := by
  obtain ⟨⟨a1, a2, a3, a4, a5⟩, ha⟩ := h
  obtain ⟨b1, b2, b3, b4, b5⟩ := hg
  refine ⟨⟨b1.trans a1, b2.trans a2, b3.trans a3, Nat.le_trans a4 b4, fun j hj h1 h2 h3 => ?_⟩, ha⟩
  rw [b5 j (by omega) (fun q => by have := hr j q.symm; omega), a5 j hj h1 h2 h3]
theorem TabStep.below {bt bm : Nat} {tv tv1 : Value} {w w1 : World} {B : Nat} {l : List ByteArray} (h : TabStep bt bm tv w tv1 w1) (ht : TabAt B bt bm tv l w) : Below B w w1 := by
  have hc := ht.cells
  obtain ⟨a1, a2, _, _, _, a6, _⟩ := ht
  exact h.1.below a1 a2 (fun k hk => (a6.lt k hk).1) (by omega)
theorem tab_grown {B bt bm : Nat} {tv : Value} {l : List ByteArray} {w w' : World} {row : Option Nat} (h : TabAt B bt bm tv l w) (hg : w.grownBy w' row) (hr : ∀ k, row = some k → k ≠ bt ∧ k ≠ bm ∧ tv.ownBlock ≠ some k) : TabAt B bt bm tv l w' := by
  obtain ⟨h1, h2, h3, h4, ⟨D, h5, h6⟩, h7, h8, h9, h10⟩ := h
  refine ⟨h1, h2, h3, ?_, ⟨D, h5.kept hg (fun e => (hr bm e.symm).2.1 rfl), h6⟩, ?_, h8, h9, h10⟩
  · rw [hg.block bt (lt_of_heap h4) (fun e => (hr bt e.symm).1 rfl)]; exact h4
  · refine h7.kept hg ?_
    by_cases hn : tv.ownBlock = none
    · exact Or.inl hn
    · refine Or.inr (fun e => ?_)
      cases hro : row with
      | none => rw [hro] at e; exact hn e
      | some k => rw [hro] at e; exact (hr k hro).2.2 e
theorem own_type {w : World} {base n size : Nat} {v : Value} {e : TypeId} {xs : List Value} (h : w.ownsRow base e size v n xs) {k : Nat} (hk : v.ownBlock = some k) : ∃ cur, w.heap[k]? = some (.cells cur e (0, 0)) := by
  rcases h.2 with ⟨rfl, _⟩ | ⟨g, cap, cur, rfl, _, hh, _⟩
  · simp [Value.ownBlock] at hk
  · simp only [Value.ownBlock, Option.some.injEq] at hk
    subst hk
    exact ⟨cur, hh⟩
theorem own_block {w w' : World} {base : Nat} {e : TypeId} {size : Nat} {v : Value} {n : Nat} {xs : List Value} (h : w.ownsRow base e size v n xs) (hb : ∀ k, v.ownBlock = some k → w'.heap[k]? = w.heap[k]?) : w'.ownsRow base e size v n xs := by
  refine ⟨h.1, ?_⟩
  rcases h.2 with h | ⟨g, cap, cur, rfl, h1, h2, h3⟩
  · exact Or.inl h
  · exact Or.inr ⟨g, cap, cur, rfl, h1, (hb g rfl).trans h2, h3⟩
/-- a row of another type outlasts a step of the table -/
theorem own_tab {B bt bm : Nat} {tv : Value} {l : List ByteArray} {w w' : World} (ht : TabAt B bt bm tv l w) (hk : TabKept bt bm tv.ownBlock w w') {base n size : Nat} {v : Value} {e : TypeId} {xs : List Value} (h : w.ownsRow base e size v n xs) (h1 : e ≠ 132) (h2 : e ≠ 9) : w'.ownsRow base e size v n xs :=
  own_block h fun k hv => by obtain ⟨cur, hc⟩ := own_type h hv; exact kept_ty ht hk hc h1 h2
theorem bys_tab {B bt bm : Nat} {tv : Value} {l : List ByteArray} {w w' : World} (ht : TabAt B bt bm tv l w) (hk : TabKept bt bm tv.ownBlock w w') {base : Nat} {vs : List Value} {L : List (List UInt8)} (h : Bys base w vs L) : Bys base w' vs L :=
  h.kept fun b cur fz _ hb => kept_ty ht hk hb (by decide) (by decide)
theorem Bys.mono0 {base : Nat} {w : World} {vs : List Value} {L : List (List UInt8)} (h : Bys base w vs L) : Bys 0 w vs L := ⟨h.1, fun i v l h1 h2 => by obtain ⟨b, off, cap, a1, a2, _, a4⟩ := h.2 i v l h1 h2; exact ⟨b, off, cap, a1, a2, Nat.zero_le _, a4⟩⟩
theorem intInfo : (Tryz.prog.info? 3).map (fun i => (i.zero, i.size, i.bytes)) = some (some (.int .i64 0), 1, 8) := by kernel_rfl
def cellsI (l : List Int) : List Value := l.map fun z => .int .i64 z
theorem cellsI_snoc (l : List Int) (z : Int) : cellsI (l ++ [z]) = cellsI l ++ [.int .i64 z] := by simp [cellsI]
theorem ints_own {w : World} {base : Nat} {v : Value} {l : List Int} (h : w.ownsRow base 3 1 v l.length (cellsI l)) : IntsAt w v l := by
  rcases h.2 with ⟨rfl, h0⟩ | ⟨g, cap, cur, rfl, _, _, hc, _⟩
  · exact Or.inl ⟨none, 0, by rw [], List.eq_nil_of_length_eq_zero h0⟩
  · refine Or.inr ⟨g, 0, cap, rfl, hc, fun j u hj => ?_⟩
    have := h.cells (g := g) rfl j (.int .i64 u) (by simp [cellsI, hj])
    rwa [Addr.add_lit] at this
set_option maxHeartbeats 1500000 in
theorem rleaf_any (B bt bm : Nat) (tv : Value) (l : List ByteArray) (b : Nat) (v : Value) (items : List It) (ver : Int) (SB PB : Nat) (w : World) (hT : TabAt B bt bm tv l w) (hS : SignsAt SB w) (hSB : SB ≤ B) (hP : Pow10 PB w) (hPB : PB ≤ B)
    (h : LfAt w b v items) (hl : leafB items = true) (h0 : 0 ≤ ver) (h1 : ver ≤ 2147483647) (r : List ByteArray × Nat × Int) (hr : leafT l items ver = r) :
    Calls Tryz.prog 34 #[.pointer (some ⟨bt, 0, none⟩), v, .int .i64 ver] w (OfPost B bt bm tv r w) := by
  have hBw : B ≤ w.heap.size := by have h1 := hT.cells; obtain ⟨a1, _⟩ := hT; omega
  have LC := Lib.hid (lcheck_any b v items SB w hS (Nat.le_trans hSB hBw) h)
  have CH := Lib.hid fun (W : World) (hx : Ext w W) => chunks_any b v items SB W (hS.ext hx (Nat.le_trans hSB hBw)) (Nat.le_trans (Nat.le_trans hSB hBw) hx.size) (h.ext hx) hl
  have hlf : (leafF items).1 = 0 := by unfold leafB at hl; simpa using hl
  obtain ⟨e1, p1⟩ : ∃ p, leafF items = (0, p) := ⟨(leafF items).2, by rw [← hlf]⟩
  rw [p1] at LC
  dsimp only at LC
  have h64 := (leafB_may hl).1
  obtain ⟨L, hL⟩ : ∃ L, chunksF items = L := ⟨_, rfl⟩
  have hLn : L.length ≤ 8 := by rw [← hL]; unfold chunksF; simp; omega
  have hLs : ∀ c ∈ L, c.length ≤ 4000 := by
    intro c hc
    rw [← hL] at hc
    unfold chunksF at hc
    obtain ⟨j, _, rfl⟩ := List.mem_map.1 hc
    unfold chunkN
    have := chunk_len items h.1 (leafB_may hl).2 (8 * j) 8
    simp only [List.length_cons]; omega
  rw [hL] at CH
  unfold leafT at hr
  rw [hL] at hr
  obtain ⟨q, hq⟩ : ∃ q, ofAll l (bas L) = q := ⟨_, rfl⟩
  rw [hq] at hr
  obtain ⟨i1, hi1, hy0, hy1, hy2⟩ := info_parts intInfo
  obtain ⟨m, hm⟩ : ∃ m, L.length = m := ⟨_, rfl⟩
  have HMM := Lib.hid hm
  have HLS := Lib.hid hLs
  have HQ := Lib.hid hq
  have HR := Lib.hid hr
  have HT := Lib.hid hT
  have HS := Lib.hid hS
  have HP := Lib.hid hP
  have h2' : (ver < 0) = False := eq_false (by omega)
  have h3' : (2147483647 < ver) = False := eq_false (by omega)
  have HV := Lib.hid (And.intro h0 h1)
  rw [hm] at hLn
  have hLnI : (m : Int) ≤ 8 := by omega
  clear hlf p1 hl h hL hq hr hT hS hP hLs hm h0 h1 h64
  go_enter Tryz.func34, Tryz.ntmps34
  go_wp2_with (first
    | (go_at_call 68; refine (LC.out).mono ?_; rintro e _ ⟨rfl, d1, os1, rfl⟩)
    | (go_at_call 64; refine (CH.out _ (by repeat (first | exact Ext.refl _ | apply Ext.alloc | apply Ext.more | apply Ext.drewN))).mono ?_; rintro e w2 ⟨cv, vs, rfl, hcv, hbys, hx2⟩; obtain ⟨pc, capc, rfl, hcapc, hpc⟩ := own_form hcv; rw [HMM.out] at hcapc hcv hpc ⊢; have HCV := Lib.hid (hcv.mono (base' := 0) (Nat.zero_le _)); have HBY := Lib.hid (hbys.mono0); have HPC := Lib.hid hpc; have HX2 : Hid (Ext w w2) := Lib.hid (Ext.trans (by repeat (first | exact Ext.refl _ | apply Ext.alloc | apply Ext.more | apply Ext.drewN)) hx2); have HAL := Lib.hid (own_ext (own_lit (t := 3) (base := w.heap.size) (w := more w d1 os1) (.int .i64 ver) (by simp [more_size])) hx2); rw [more_size] at HAL; clear hcv hbys hpc hx2))
  go_loopw [10, 35] (fun av jj wr => ∃ (j : Nat) (lj : List ByteArray) (tvj : Value) (ns : List Int), jj = .int .i64 (j : Int) ∧ j ≤ m ∧ Hid (TabAt B bt bm tvj lj wr ∧ TabStep bt bm tv w tvj wr ∧ wr.ownsRow 0 135 1 (.slice pc m capc) m vs ∧ Bys 0 wr vs L ∧ wr.ownsRow w.heap.size 3 1 av (j + 1) (cellsI (ver :: ns)) ∧ ns.length = j ∧ (∀ z ∈ ns, 0 ≤ z ∧ z ≤ 65537) ∧ preT ns (ofAll lj (bas (L.drop j))) = q)) (fun _ jj _ => m - (intOf jj).toNat)
  case atStart => exact ⟨0, l, tv, [], rfl, Nat.zero_le _, Lib.hid ⟨HT.out.ext HX2.out, (TabStep.refl bt bm tv w).ext HX2.out, HCV.out, HBY.out, HAL.out, rfl, by simp, by rw [List.drop_zero, ← preT_nil]; exact HQ.out⟩⟩
  case round =>
    obtain ⟨j, lj, tvj, ns, rfl, hj, hH⟩ := hrel
    have hjI : (j : Int) ≤ 8 := by omega
    by_cases hlt : j < m
    · obtain ⟨g, rfl⟩ := HPC.out (by omega)
      obtain ⟨c, hc⟩ : ∃ c, L[j]? = some c := ⟨_, List.getElem?_eq_getElem (by have := HMM.out; omega)⟩
      obtain ⟨vc, hvc⟩ : ∃ vc, vs[j]? = some vc := ⟨_, List.getElem?_eq_getElem (by have := HBY.out.1; have := HMM.out; omega)⟩
      obtain ⟨b1, o1, c1, rfl, hcc, _, hbb, _⟩ := hH.out.2.2.2.1.2 j vc c hvc hc
      have hcell : wr.cell? ⟨g, j, none⟩ = some (.slice (some ⟨b1, o1, none⟩) c.length c1) := by have := hH.out.2.2.1.cells (g := g) rfl j _ hvc; rwa [Addr.add_lit, Nat.zero_add] at this
      have hconv := conv_at (P := Tryz.prog) (src := 135) (dst := 9) (cap := c1) Tryz.underlying135 Tryz.underlying5 Tryz.underlying9 hbb _ rfl
      have hcl := HLS.out c (List.mem_of_getElem? hc)
      have hdrop : bas (L.drop j) = ⟨c.toArray⟩ :: bas (L.drop (j + 1)) := by
        obtain ⟨h1, h2⟩ := List.getElem?_eq_some_iff.1 hc
        rw [List.drop_eq_getElem_cons h1, h2]; rfl
      obtain ⟨s, hs⟩ : ∃ s : ByteArray, (⟨c.toArray⟩ : ByteArray) = s := ⟨_, rfl⟩
      rw [hs] at hconv hdrop
      have hsz : s.size ≤ maxLen := by rw [← hs, ba_size]; unfold maxLen; omega
      have OC := Lib.hid (of_any B bt bm tvj lj s hsz wr hH.out.1)
      obtain ⟨ro, hro⟩ : ∃ ro, ofF lj s = ro := ⟨_, rfl⟩
      have hbd := ofF_len lj s
      have hlj := hH.out.1.2.2.2.2.2.2.2.2.2
      rw [hro] at OC hbd
      have HRO := Lib.hid hro
      have HD := Lib.hid hdrop
      obtain ⟨l3, n3, e3⟩ := ro
      have hn3 : (n3 : Int) ≤ 65537 := by have := hbd.2.2; dsimp only at this; omega
      clear hc hvc hcc hbb hcl hdrop hs hsz hro hbd hlj
      have hj0 : (0 : Int) ≤ (j : Int) := by omega
      have hj1 : (j : Int) < (m : Int) := by omega
      by_cases he : e3 = 0
      case neg =>
        have he' : (e3 != 0) = true := by simpa using he
        have hre : r = (l3, 0, e3) := by
          have h1 := hH.out.2.2.2.2.2.2.2
          rw [HD.out, preT_err (by rw [HRO.out]; exact he), HRO.out] at h1
          have h2 := HR.out
          rw [← h1] at h2
          simp only [ne_eq, he, not_false_eq_true, if_true] at h2
          exact h2.symm
        have HRE := Lib.hid hre
        clear he hre
        go_wp2_with (go_at_call 50; refine (OC.out).mono ?_; rintro e w3 ⟨rfl, tv3, ht3, hk3, ho3⟩; have H3 := Lib.hid (And.intro ht3 (And.intro hk3 ho3)); clear ht3 hk3 ho3)
        go_ret2
        rw [HRE.out]
        have hst := hH.out.2.1.trans ⟨H3.out.2.1, H3.out.2.2⟩
        exact ⟨rfl, tv3, H3.out.1, hst.1, hst.2⟩
      subst he
      go_wp2_with (first
        | (go_at_call 50; refine (OC.out).mono ?_; rintro e w3 ⟨rfl, tv3, ht3, hk3, ho3⟩; have H3 := Lib.hid (And.intro ht3 (And.intro hk3 ho3)); clear ht3 hk3 ho3; have HAW := Lib.hid (own_tab hH.out.1 H3.out.2.1 hH.out.2.2.2.2.1 (by decide) (by decide)))
        | (at_builtin; refine wpList_append_own_at _ rfl _ _ 53 rfl w.heap.size 3 i1 (.int .i64 0) 1 8 Tryz.underlying53 hi1 hy0 hy1 hy2 rfl (by decide) _ (j + 1) _ rfl (HAW.out.alloc _) ⟨w3.heap.size, 0, none⟩ 1 1 [.int .i64 (n3 : Int)] rfl rfl ?c1 ?c2 ?c3 ?c4 ?c5 ?_))
      case c1 => exact cell_one_new _ _ _
      case c2 => first | rfl | (intro u hu; simp at hu; subst hu; rfl)
      case c3 => unfold maxLen; omega
      case c4 => omega
      case c5 => have h1 := hH.out.2.1.1.2.2.2.1; have h2 := H3.out.2.1.2.2.2.1; simp; omega
      intro v4 w4 hown4 hgrow4 _ _
      have hst := (hH.out.2.1.trans ⟨H3.out.2.1, H3.out.2.2⟩).ext ((Ext.refl w3).alloc (.cells #[.int .i64 (n3 : Int)] 3))
      have hst4 := hst.grown hgrow4 (fun k hk => (HAW.out.lt k hk).1)
      have hta := H3.out.1.ext ((Ext.refl w3).alloc (.cells #[.int .i64 (n3 : Int)] 3))
      have ht4 := tab_grown hta hgrow4 (fun k hk => by
        obtain ⟨cur, hcu⟩ := own_type (HAW.out.alloc (.cells #[.int .i64 (n3 : Int)] 3)) hk
        exact tab_other hta hcu (by decide) (by decide))
      have hrow3 := (own_tab hH.out.1 H3.out.2.1 hH.out.2.2.1 (by decide) (by decide)).alloc (.cells #[.int .i64 (n3 : Int)] 3)
      have hrow4 : w4.ownsRow 0 135 1 (.slice (some ⟨g, 0, none⟩) m capc) m vs := own_block hrow3 (fun k hk => by
        obtain ⟨cur, hcu⟩ := own_type hrow3 hk
        refine hgrow4.block k (lt_of_heap hcu) (fun q => ?_)
        obtain ⟨cur2, hcu2⟩ := own_type (HAW.out.alloc (.cells #[.int .i64 (n3 : Int)] 3)) q.symm
        rw [hcu] at hcu2; simp at hcu2)
      have hby4 := ((bys_tab hH.out.1 H3.out.2.1 hH.out.2.2.2.1).ext ((Ext.refl w3).alloc (.cells #[.int .i64 (n3 : Int)] 3))).grown hgrow4 (HAW.out.alloc (.cells #[.int .i64 (n3 : Int)] 3)) (by decide)
      have HALL := Lib.hid (And.intro ht4 (And.intro hst4 (And.intro hrow4 (And.intro hby4 hown4))))
      clear hst hst4 hta ht4 hrow3 hrow4 hby4 hown4 hgrow4
      go_wp2_with fail
      go_roundw
      case rel =>
        refine ⟨j + 1, l3, tv3, ns ++ [(n3 : Int)], by go_num, by omega, Lib.hid ⟨HALL.out.1, HALL.out.2.1, HALL.out.2.2.1, HALL.out.2.2.2.1, ?_, by simp [hH.out.2.2.2.2.2.1], ?_, ?_⟩⟩
        · have := HALL.out.2.2.2.2
          rw [show ver :: (ns ++ [(n3 : Int)]) = (ver :: ns) ++ [(n3 : Int)] from rfl, cellsI_snoc]
          exact this
        · intro z hz
          rcases List.mem_append.1 hz with h | h
          · exact hH.out.2.2.2.2.2.2.1 z h
          · simp at h; subst h; omega
        · have h1 := hH.out.2.2.2.2.2.2.2
          rw [HD.out, preT_step (by rw [HRO.out]), HRO.out] at h1
          exact h1
      case measure => simp [intOf]; omega
    have hjm : j = m := by omega
    have hqq : q = (lj, ns, 0) := by
      have h1 := hH.out.2.2.2.2.2.2.2
      rw [hjm, List.drop_of_length_le (by rw [HMM.out]; exact Nat.le_refl _)] at h1
      rw [← h1]
      simp [bas, ofAll, preT]
    have hr2 := HR.out
    rw [hqq] at hr2
    simp only [ne_eq, not_true_eq_false, if_false] at hr2
    have hbl := hH.out.2.1.below HT.out
    have hint : (ver :: ns).length = j + 1 := by simp [hH.out.2.2.2.2.2.1]
    have hIA := hH.out.2.2.2.2.1
    rw [← hint] at hIA
    have LI := Lib.hid (list_any B bt bm tvj lj _ (ver :: ns) (by rw [hint]; omega) (by
      intro u hu
      rcases List.mem_cons.1 hu with rfl | h
      · have := HV.out; omega
      · have := hH.out.2.2.2.2.2.2.1 u h; omega) wr (ints_own hIA) PB (HP.out.below hbl hPB) (Nat.le_trans hPB (Nat.le_trans hBw hbl.size)) hH.out.1)
    rw [hr2] at LI
    have HIA := Lib.hid hIA
    clear hqq hr2 hbl hIA hint hjm
    obtain ⟨pa, capa, rfl, _, _⟩ := own_form hH.out.2.2.2.2.1
    go_wp2_with (go_at_call 65; refine (LI.out).mono ?_; rintro e w3 ⟨rfl, tv3, ht3, hk3, ho3⟩; have H3 := Lib.hid (And.intro ht3 (And.intro hk3 ho3)); clear ht3 hk3 ho3)
    go_ret2
    have hst := hH.out.2.1.trans ⟨H3.out.2.1, H3.out.2.2⟩
    exact ⟨rfl, tv3, H3.out.1, hst.1, hst.2⟩
theorem rstep_trans {w w1 w2 : World} {v v1 : Value} (h : w.grownBy w1 v.ownBlock) (ho : v1.ownBlock = v.ownBlock ∨ ∃ k, v1.ownBlock = some k ∧ w.heap.size ≤ k) (k : w1.grownBy w2 v1.ownBlock) : w.grownBy w2 v.ownBlock := by
  obtain ⟨a1, a2, a3, a4, a5⟩ := h
  obtain ⟨b1, b2, b3, b4, b5⟩ := k
  refine ⟨b1.trans a1, b2.trans a2, b3.trans a3, Nat.le_trans a4 b4, fun j hj hn => ?_⟩
  rw [b5 j (by omega) ?_, a5 j hj hn]
  intro q
  rcases ho with ho | ⟨m, ho, hm⟩
  · exact hn (q.trans ho)
  · rw [ho] at q; simp at q; omega
theorem rstep_new {w w1 w2 : World} {row row2 : Option Nat} (h : w.grownBy w1 row) (k : w1.grownBy w2 row2) (hr : ∀ k, row2 = some k → w.heap.size ≤ k) : w.grownBy w2 row := by
  obtain ⟨a1, a2, a3, a4, a5⟩ := h
  obtain ⟨b1, b2, b3, b4, b5⟩ := k
  refine ⟨b1.trans a1, b2.trans a2, b3.trans a3, Nat.le_trans a4 b4, fun j hj hn => ?_⟩
  rw [b5 j (by omega) (fun q => by have := hr j q.symm; omega), a5 j hj hn]
theorem rstep_ext {w w1 : World} {row : Option Nat} (h : Ext w w1) : w.grownBy w1 row := by
  have hb := h.below
  exact ⟨hb.os, hb.tape, hb.output, hb.size, fun k hk _ => hb.block k hk⟩
set_option maxHeartbeats 600000 in
theorem drleaf_any (B : Nat) (lv : Value) (l : List ByteArray) (b : Nat) (v : Value) (items : List It) (ver : Int) (w : World) (hBw : B ≤ w.heap.size) (hown : w.ownsRow B 9 1 lv l.length (l.map Value.string)) (hll : l.length ≤ 900)
    (h : LfAt w b v items) (hl : leafB items = true) (h0 : 0 ≤ ver) (h1 : ver ≤ 2147483647) (r : List ByteArray × Nat × Int) (hr : leafT l items ver = r) :
    Calls Tryz.prog 36 #[lv, v, .int .i64 ver] w (ROfPost B lv r w) := by
  have CH := Lib.hid fun (W : World) (hx : Ext w W) => rchunks_any b v items W (h.ext hx) hl
  have h64 := (leafB_may hl).1
  obtain ⟨L, hL⟩ : ∃ L, chunksF items = L := ⟨_, rfl⟩
  have hLn : L.length ≤ 8 := by rw [← hL]; unfold chunksF; simp; omega
  have hLs : ∀ c ∈ L, c.length ≤ 4000 := by
    intro c hc
    rw [← hL] at hc
    unfold chunksF at hc
    obtain ⟨j, _, rfl⟩ := List.mem_map.1 hc
    unfold chunkN
    have := chunk_len items h.1 (leafB_may hl).2 (8 * j) 8
    simp only [List.length_cons]; omega
  rw [hL] at CH
  unfold leafT at hr
  rw [hL] at hr
  obtain ⟨q, hq⟩ : ∃ q, ofAll l (bas L) = q := ⟨_, rfl⟩
  rw [hq] at hr
  obtain ⟨i1, hi1, hy0, hy1, hy2⟩ := info_parts intInfo
  obtain ⟨m, hm⟩ : ∃ m, L.length = m := ⟨_, rfl⟩
  have HMM := Lib.hid hm
  have HLS := Lib.hid hLs
  have HQ := Lib.hid hq
  have HR := Lib.hid hr
  have HOWN := Lib.hid hown
  have HV := Lib.hid (And.intro h0 h1)
  rw [hm] at hLn
  have hLnI : (m : Int) ≤ 8 := by omega
  clear hl h hL hq hr hown hLs hm h0 h1 h64
  go_enter Tryz.func36, Tryz.ntmps36
  go_wp2_with (go_at_call 67; refine (CH.out _ (by repeat (first | exact Ext.refl _ | apply Ext.alloc | apply Ext.more | apply Ext.drewN))).mono ?_; rintro e w2 ⟨cv, rfl, hcv, hx2⟩; obtain ⟨pc, capc, rfl, hcapc, hpc⟩ := own_form hcv; rw [HMM.out] at hcapc hcv hpc ⊢; have HB2 : Hid (∀ k, (Value.slice pc m capc).ownBlock = some k → w.heap.size ≤ k ∧ k < w2.heap.size) := Lib.hid (fun k hk => by have h1 := hcv.lt k hk; simp at h1; omega); have HCV := Lib.hid (hcv.mono (base' := 0) (Nat.zero_le _)); have HPC := Lib.hid hpc; have HX2 : Hid (Ext w w2) := Lib.hid (Ext.trans (by repeat (first | exact Ext.refl _ | apply Ext.alloc | apply Ext.more | apply Ext.drewN)) hx2); have HAL := Lib.hid (own_ext (own_lit (t := 3) (base := w.heap.size) (w := w) (.int .i64 ver) (Nat.le_refl _)) hx2); clear hcv hpc hx2)
  go_loopw [0, 9, 11] (fun lw av jj wr => ∃ (j : Nat) (lj : List ByteArray) (ns : List Int), jj = .int .i64 (j : Int) ∧ j ≤ m ∧ Hid (wr.ownsRow B 9 1 lw lj.length (lj.map Value.string) ∧ w.grownBy wr lv.ownBlock ∧ (lw.ownBlock = lv.ownBlock ∨ ∃ k, lw.ownBlock = some k ∧ w2.heap.size ≤ k) ∧ w2.heap.size ≤ wr.heap.size ∧ wr.ownsRow 0 9 1 (.slice pc m capc) m (L.map strC) ∧ wr.ownsRow w.heap.size 3 1 av (j + 1) (cellsI (ver :: ns)) ∧ ns.length = j ∧ (∀ z ∈ ns, 0 ≤ z ∧ z ≤ 65537) ∧ lj.length ≤ l.length + j ∧ preT ns (ofAll lj (bas (L.drop j))) = q)) (fun _ _ jj _ => m - (intOf jj).toNat)
  case atStart => exact ⟨0, l, [], rfl, Nat.zero_le _, Lib.hid ⟨own_ext HOWN.out HX2.out, rstep_ext HX2.out, Or.inl rfl, Nat.le_refl _, HCV.out, HAL.out, rfl, by simp, by omega, by rw [List.drop_zero, ← preT_nil]; exact HQ.out⟩⟩
  case round =>
    obtain ⟨j, lj, ns, rfl, hj, hH⟩ := hrel
    have hjI : (j : Int) ≤ 8 := by omega
    obtain ⟨lw, hlw⟩ : ∃ x, x = u0 := ⟨_, rfl⟩
    subst hlw
    have hneq : ∀ k, lw.ownBlock = some k → (Value.slice pc m capc).ownBlock ≠ some k := by
      intro k hk hc
      have h1 := HB2.out k hc
      rcases hH.out.2.2.1 with h2 | ⟨k2, h2, h3⟩
      · rw [hk] at h2
        have := (HOWN.out.lt k h2.symm).2
        omega
      · rw [hk] at h2; simp at h2; omega
    have HNE := Lib.hid hneq
    clear hneq
    by_cases hlt : j < m
    · obtain ⟨g, rfl⟩ := HPC.out (by omega)
      obtain ⟨c, hc⟩ : ∃ c, L[j]? = some c := ⟨_, List.getElem?_eq_getElem (by have := HMM.out; omega)⟩
      have hcell : wr.cell? ⟨g, j, none⟩ = some (strC c) := by have := hH.out.2.2.2.2.1.cells (g := g) rfl j (strC c) (by rw [List.getElem?_map, hc]; rfl); rwa [Addr.add_lit, Nat.zero_add] at this
      have hcl := HLS.out c (List.mem_of_getElem? hc)
      have hdrop : bas (L.drop j) = ⟨c.toArray⟩ :: bas (L.drop (j + 1)) := by
        obtain ⟨h1, h2⟩ := List.getElem?_eq_some_iff.1 hc
        rw [List.drop_eq_getElem_cons h1, h2]; rfl
      obtain ⟨s, hs⟩ : ∃ s : ByteArray, (⟨c.toArray⟩ : ByteArray) = s := ⟨_, rfl⟩
      have hcell2 : wr.cell? ⟨g, j, none⟩ = some (.string s) := by rw [← hs]; exact hcell
      rw [hs] at hdrop
      have hBr : B ≤ wr.heap.size := Nat.le_trans hBw hH.out.2.1.size
      have OC := Lib.hid (rof_any B lw lj s wr (by have := hH.out.2.2.2.2.2.2.2.2.1; omega) hH.out.1 hBr)
      obtain ⟨ro, hro⟩ : ∃ ro, ofF lj s = ro := ⟨_, rfl⟩
      have hbd := ofF_len lj s
      rw [hro] at OC hbd
      have HRO := Lib.hid hro
      have HD := Lib.hid hdrop
      obtain ⟨l3, n3, e3⟩ := ro
      dsimp only at hbd
      have HBD := Lib.hid hbd
      have hn3 : (n3 : Int) ≤ 65537 := by have := hbd.2.2; have := hH.out.2.2.2.2.2.2.2.2.1; omega
      clear hc hcell hcl hdrop hs hro hbd
      have hj0 : (0 : Int) ≤ (j : Int) := by omega
      have hj1 : (j : Int) < (m : Int) := by omega
      by_cases he : e3 = 0
      case neg =>
        have he' : (e3 != 0) = true := by simpa using he
        have hre : r = (l3, 0, e3) := by
          have h1 := hH.out.2.2.2.2.2.2.2.2.2
          rw [HD.out, preT_err (by rw [HRO.out]; exact he), HRO.out] at h1
          have h2 := HR.out
          rw [← h1] at h2
          simp only [ne_eq, he, not_false_eq_true, if_true] at h2
          exact h2.symm
        have HRE := Lib.hid hre
        clear he hre
        go_wp2_with (go_at_call 51; refine (OC.out).mono ?_; rintro e w3 ⟨v3, rfl, ho3, hg3, hk3⟩; have H3 := Lib.hid (And.intro ho3 (And.intro hg3 hk3)); clear ho3 hg3 hk3)
        go_ret3
        rw [HRE.out]
        refine ⟨v3, rfl, H3.out.1, rstep_trans hH.out.2.1 (hH.out.2.2.1.imp id (fun ⟨k, a, b⟩ => ⟨k, a, by have := HX2.out.size; omega⟩)) H3.out.2.1, ?_⟩
        rcases H3.out.2.2 with a | ⟨k, a, b⟩
        · rcases hH.out.2.2.1 with c | ⟨k, c, d⟩
          · exact Or.inl (a.trans c)
          · exact Or.inr ⟨k, a.trans c, by have := HX2.out.size; omega⟩
        · exact Or.inr ⟨k, a, by have := hH.out.2.1.size; omega⟩
      subst he
      go_wp2_with (first
        | (go_at_call 51; refine (OC.out).mono ?_; rintro e w3 ⟨v3, rfl, ho3, hg3, hk3⟩; have H3 := Lib.hid (And.intro ho3 (And.intro hg3 hk3)); have HAW := Lib.hid (own_block hH.out.2.2.2.2.2.1 (fun k hk => by
            obtain ⟨cur, hcu⟩ := own_type hH.out.2.2.2.2.2.1 hk
            refine hg3.block k (lt_of_heap hcu) (fun q => ?_)
            obtain ⟨cur2, hcu2⟩ := own_type hH.out.1 q.symm
            rw [hcu] at hcu2; simp at hcu2)); clear ho3 hg3 hk3)
        | (at_builtin; refine wpList_append_own_at _ rfl _ _ 53 rfl w.heap.size 3 i1 (.int .i64 0) 1 8 Tryz.underlying53 hi1 hy0 hy1 hy2 rfl (by decide) _ (j + 1) _ rfl (HAW.out.alloc _) ⟨w3.heap.size, 0, none⟩ 1 1 [.int .i64 (n3 : Int)] rfl rfl ?c1 ?c2 ?c3 ?c4 ?c5 ?_))
      case c1 => exact cell_one_new _ _ _
      case c2 => first | rfl | (intro u hu; simp at hu; subst hu; rfl)
      case c3 => unfold maxLen; omega
      case c4 => omega
      case c5 => have h1 := hH.out.2.1.size; have h2 := H3.out.2.1.size; simp; omega
      intro v4 w4 hown4 hgrow4 _ _
      have hax := (Ext.refl w3).alloc (.cells #[.int .i64 (n3 : Int)] 3)
      have hal := HAW.out.alloc (.cells #[.int .i64 (n3 : Int)] 3)
      have hlst : w4.ownsRow B 9 1 v3 l3.length (l3.map Value.string) := own_block (own_ext H3.out.1 hax) (fun k hk => by
        obtain ⟨cur, hcu⟩ := own_type (own_ext H3.out.1 hax) hk
        refine hgrow4.block k (lt_of_heap hcu) (fun q => ?_)
        obtain ⟨cur2, hcu2⟩ := own_type hal q.symm
        rw [hcu] at hcu2; simp at hcu2)
      have hchk3 : w3.ownsRow 0 9 1 (.slice (some ⟨g, 0, none⟩) m capc) m (L.map strC) := own_block hH.out.2.2.2.2.1 (fun k hk => by
        obtain ⟨cur, hcu⟩ := own_type hH.out.2.2.2.2.1 hk
        exact H3.out.2.1.block k (lt_of_heap hcu) (fun q => HNE.out k q.symm hk))
      have hchk4 : w4.ownsRow 0 9 1 (.slice (some ⟨g, 0, none⟩) m capc) m (L.map strC) := own_block (own_ext hchk3 hax) (fun k hk => by
        obtain ⟨cur, hcu⟩ := own_type (own_ext hchk3 hax) hk
        refine hgrow4.block k (lt_of_heap hcu) (fun q => ?_)
        obtain ⟨cur2, hcu2⟩ := own_type hal q.symm
        rw [hcu] at hcu2; simp at hcu2)
      have hgw := rstep_trans hH.out.2.1 (hH.out.2.2.1.imp id (fun ⟨k, a, b⟩ => ⟨k, a, by have := HX2.out.size; omega⟩)) H3.out.2.1
      have hgw4 := rstep_new (rstep_new hgw (rstep_ext (row := none) hax) (fun k h => by cases h)) hgrow4 (fun k hk => (HAW.out.lt k hk).1)
      have hos : v3.ownBlock = lv.ownBlock ∨ ∃ k, v3.ownBlock = some k ∧ w2.heap.size ≤ k := by
        rcases H3.out.2.2 with a | ⟨k, a, b⟩
        · rcases hH.out.2.2.1 with c | ⟨k, c, d⟩
          · exact Or.inl (a.trans c)
          · exact Or.inr ⟨k, a.trans c, d⟩
        · exact Or.inr ⟨k, a, by have := hH.out.2.2.2.1; omega⟩
      have hsz4 : w2.heap.size ≤ w4.heap.size := by have h1 := hH.out.2.2.2.1; have h2 := H3.out.2.1.size; have h3 := hgrow4.size; simp at h3; omega
      have HALL := Lib.hid (And.intro hlst (And.intro hgw4 (And.intro hos (And.intro hsz4 (And.intro hchk4 hown4)))))
      clear hax hal hlst hchk3 hchk4 hgw hgw4 hos hsz4 hown4 hgrow4
      go_wp2_with fail
      go_roundw
      case rel =>
        refine ⟨j + 1, l3, ns ++ [(n3 : Int)], by go_num, by omega, Lib.hid ⟨HALL.out.1, HALL.out.2.1, HALL.out.2.2.1, HALL.out.2.2.2.1, HALL.out.2.2.2.2.1, ?_, by simp [hH.out.2.2.2.2.2.2.1], ?_, ?_, ?_⟩⟩
        · have := HALL.out.2.2.2.2.2
          rw [show ver :: (ns ++ [(n3 : Int)]) = (ver :: ns) ++ [(n3 : Int)] from rfl, cellsI_snoc]
          exact this
        · intro z hz
          rcases List.mem_append.1 hz with h | h
          · exact hH.out.2.2.2.2.2.2.2.1 z h
          · simp at h; subst h; omega
        · have h1 := hH.out.2.2.2.2.2.2.2.2.1
          have h2 := HBD.out.1
          omega
        · have h1 := hH.out.2.2.2.2.2.2.2.2.2
          rw [HD.out, preT_step (by rw [HRO.out]), HRO.out] at h1
          exact h1
      case measure => simp [intOf]; omega
    have hjm : j = m := by omega
    have hqq : q = (lj, ns, 0) := by
      have h1 := hH.out.2.2.2.2.2.2.2.2.2
      rw [hjm, List.drop_of_length_le (by rw [HMM.out]; exact Nat.le_refl _)] at h1
      rw [← h1]
      simp [bas, ofAll, preT]
    have hr2 := HR.out
    rw [hqq] at hr2
    simp only [ne_eq, not_true_eq_false, if_false] at hr2
    have hint : (ver :: ns).length = j + 1 := by simp [hH.out.2.2.2.2.2.2.1]
    have hIA := hH.out.2.2.2.2.2.1
    rw [← hint] at hIA
    have h64L : In64L (ver :: ns) := by
      intro u hu
      rcases List.mem_cons.1 hu with rfl | h
      · have := HV.out; omega
      · have := hH.out.2.2.2.2.2.2.2.1 u h; omega
    obtain ⟨pa, capa, hpa, _, _⟩ := own_form hIA
    rw [hint] at hpa
    have DG := Lib.hid (rdigs_any _ (ver :: ns) wr (by rw [hint]; omega) h64L (ints_own hIA))
    obtain ⟨s, hs⟩ : ∃ s : ByteArray, (⟨(digF (ver :: ns)).toArray⟩ : ByteArray) = s := ⟨_, rfl⟩
    rw [hs] at DG hr2
    have hBr : B ≤ wr.heap.size := Nat.le_trans hBw hH.out.2.1.size
    have OC := Lib.hid (rof_any B lw lj s wr (by have := hH.out.2.2.2.2.2.2.2.2.1; omega) hH.out.1 hBr)
    rw [hr2] at OC
    subst hpa
    clear hqq hr2 hint hIA h64L hs hjm
    go_wp2_with (first
      | (go_at_call 66; refine (DG.out).mono ?_; rintro e w3 ⟨rfl, rfl⟩)
      | (go_at_call 51; refine (OC.out).mono ?_; rintro e w3 ⟨v3, rfl, ho3, hg3, hk3⟩; have H3 := Lib.hid (And.intro ho3 (And.intro hg3 hk3)); clear ho3 hg3 hk3))
    go_ret3
    refine ⟨v3, rfl, H3.out.1, rstep_trans hH.out.2.1 (hH.out.2.2.1.imp id (fun ⟨k, a, b⟩ => ⟨k, a, by have := HX2.out.size; omega⟩)) H3.out.2.1, ?_⟩
    rcases H3.out.2.2 with a | ⟨k, a, b⟩
    · rcases hH.out.2.2.1 with c | ⟨k, c, d⟩
      · exact Or.inl (a.trans c)
      · exact Or.inr ⟨k, a.trans c, by have := HX2.out.size; omega⟩
    · exact Or.inr ⟨k, a, by have := hH.out.2.1.size; omega⟩
end Go.Proofs.YtpchohjkelopoaaGreatDoor

set_option maxRecDepth 20000
namespace Go.Proofs.YtpchohjkelopoaaGreatDoor
open Go.RowKit
attribute [go_sem] more_more Array.size_append
theorem wpList_load_part {P : Program} {ops : Array Oper} {rest : List Oper} {o : Oper} {a : Act} {w : World} {Q : Exit → Act → World → Prop} (hgd : o.guard = none) (ty : TypeId) (x : Operand) (ho : o.op = .load ty x)
    (g off : Nat) (hx : a.eval x = .pointer (some ⟨g, off, none⟩)) (t : TypeId) (cs : Array Value) (l : List Value) (fr : Nat × Nat) (d : TypeDesc) (hg : w.heap[g]? = some (.cells cs t fr))
    (hu : P.underlying ty = some d) (hd : (match d with | .struct _ | .array _ _ => true | _ => false) = true) (hi : (P.info? ty).map (·.size) = some l.length) (hl : ∀ j v, l[j]? = some v → cs[off + j]? = some v)
    (h : wpList P ops Q rest (a.put o.dst (.agg l.toArray)) w) : wpList P ops Q (o :: rest) a w := by
  have hlc : (loadCells ⟨g, off, none⟩ l.length).run P w = .ok l.toArray w :=
    run_loadCells_list (P := P) w ⟨g, off, none⟩ l (fun j v hv => by
      rw [Addr.add_lit, cell_of_row w g (off + j) cs t fr hg]
      exact hl j v hv)
  have hr : (loadVar ty ⟨g, off, none⟩).run P w = .ok (.agg l.toArray) w := by
    cases hq : P.info? ty with
    | none => simp [hq] at hi
    | some i =>
      have hs : i.size = l.length := by simpa [hq] using hi
      have hagg : (isAgg ty).run P w = .ok true w := by
        unfold isAgg
        rw [Sem.run_bind, run_underlying hu w]
        cases d <;> simp_all
      simp [loadVar, Sem.run_bind, hagg, sizeOf, typeInfo, hq, hs, hlc]
  refine wpList_plain hgd fun K hK => ?_
  unfold Oper.wp execOp
  simp only [ho, hx, Instr.loadAt, Instr.sureAddr, Sem.run_bind, Sem.run_pure, Result.andThen_ok, hr]
  exact hK _ _ h
def lvL (v : Nat → Value) : List Value := (List.range 16).map v
theorem lvL_get (v : Nat → Value) (V : Nat → Int) : ∀ j u, (lvL v)[j]? = some u → (trC v V)[0 + j]? = some u := by
  intro j u h
  unfold lvL at h
  rw [List.getElem?_map] at h
  by_cases hj : j < 16
  · rw [List.getElem?_range hj] at h
    rw [Nat.zero_add, trC_leaf v V j hj]; exact h
  · rw [List.getElem?_eq_none (by simp; omega)] at h
    cases h
theorem idx_lv (v : Nat → Value) (k : Nat) (hk : k < 16) (W : World) : (Instr.index 27 (.agg (lvL v).toArray) (.int .i64 (k : Int))).run Tryz.prog W = .ok (v k) W := idx_leaf v k hk W
/-- the leaves' terms of buckets, one behind the other -/
def leavesT (T : Nat → List It) (V : Nat → Int) : List Nat → List ByteArray → List ByteArray × List Int × Int
  | [], l => (l, [], 0)
  | b :: bs, l => if (leafT l (T b) (V b)).2.2 ≠ 0 then ((leafT l (T b) (V b)).1, [], (leafT l (T b) (V b)).2.2)
    else if (leavesT T V bs (leafT l (T b) (V b)).1).2.2 ≠ 0 then ((leavesT T V bs (leafT l (T b) (V b)).1).1, [], (leavesT T V bs (leafT l (T b) (V b)).1).2.2)
    else ((leavesT T V bs (leafT l (T b) (V b)).1).1, ((leafT l (T b) (V b)).2.1 : Int) :: (leavesT T V bs (leafT l (T b) (V b)).1).2.1, 0)
theorem leavesT_err0 (T : Nat → List It) (V : Nat → Int) : ∀ (bs : List Nat) (l : List ByteArray), (leavesT T V bs l).2.2 ≠ 0 → (leavesT T V bs l).2.1 = []
  | [], l, h => absurd rfl h
  | c :: cs, l, h => by
    unfold leavesT at h ⊢
    split
    · rfl
    · next h1 =>
      rw [if_neg h1] at h
      split
      · rfl
      · next h2 => rw [if_neg h2] at h; exact absurd rfl h
theorem preL_nil (T : Nat → List It) (V : Nat → Int) (bs : List Nat) (l : List ByteArray) : leavesT T V bs l = preT [] (leavesT T V bs l) := by
  unfold preT
  by_cases h : (leavesT T V bs l).2.2 = 0
  · rw [if_neg (by simpa using h)]
    simp only [List.nil_append]
    rw [← h]
  · rw [if_pos h, ← leavesT_err0 T V bs l h]
theorem preL_err {T : Nat → List It} {V : Nat → Int} {ns : List Int} {l : List ByteArray} {b : Nat} {bs : List Nat} (h : (leafT l (T b) (V b)).2.2 ≠ 0) : preT ns (leavesT T V (b :: bs) l) = ((leafT l (T b) (V b)).1, [], (leafT l (T b) (V b)).2.2) := by
  unfold leavesT; rw [if_pos h]; unfold preT; rw [if_pos h]
theorem preL_step {T : Nat → List It} {V : Nat → Int} {ns : List Int} {l : List ByteArray} {b : Nat} {bs : List Nat} (h : (leafT l (T b) (V b)).2.2 = 0) : preT ns (leavesT T V (b :: bs) l) = preT (ns ++ [((leafT l (T b) (V b)).2.1 : Int)]) (leavesT T V bs (leafT l (T b) (V b)).1) := by
  conv => lhs; unfold leavesT
  rw [if_neg (by simpa using h)]
  by_cases h2 : (leavesT T V bs (leafT l (T b) (V b)).1).2.2 = 0
  · rw [if_neg (by simpa using h2)]
    unfold preT
    rw [if_neg (by simp), if_neg (by simpa using h2)]
    simp
  · rw [if_pos h2]
    unfold preT
    rw [if_pos h2, if_pos h2]
theorem ofAll_len : ∀ (cs l : List ByteArray), (ofAll l cs).1.length ≤ l.length + cs.length ∧ l.length ≤ (ofAll l cs).1.length
  | [], l => ⟨Nat.le_refl _, Nat.le_refl _⟩
  | c :: cs, l => by
    have h1 := ofF_len l c
    have h2 := ofAll_len cs (ofF l c).1
    unfold ofAll
    (repeat' split) <;> simp only [List.length_cons] <;> omega
theorem leafT_len (l : List ByteArray) (items : List It) (ver : Int) (h : items.length ≤ 64) : (leafT l items ver).1.length ≤ l.length + 9 ∧ (leafT l items ver).2.1 ≤ l.length + 9 := by
  have h1 := ofAll_len (bas (chunksF items)) l
  have h2 : (bas (chunksF items)).length ≤ 8 := by unfold bas chunksF; simp; omega
  unfold leafT
  have h3 := ofF_len (ofAll l (bas (chunksF items))).1 ⟨(digF (ver :: (ofAll l (bas (chunksF items))).2.1)).toArray⟩
  split <;> (try dsimp only) <;> omega
theorem drop_range (k : Nat) (hk : k < 16) : (List.range 16).drop k = k :: (List.range 16).drop (k + 1) := by
  rw [List.drop_eq_getElem_cons (by simpa using hk)]
  simp
/-- the blocks of a trunk's leaves are blocks of items -/
def LvTy (w : World) (bs : Nat → Nat) (T : Nat → List It) : Prop := ∀ k, k < 16 → 0 < (T k).length → ∃ cur fz, w.heap[bs k]? = some (.cells cur 152 fz)
theorem lf_tab {B bt bm : Nat} {tv : Value} {l : List ByteArray} {w w' : World} (ht : TabAt B bt bm tv l w) (hk : TabKept bt bm tv.ownBlock w w') {bs : Nat → Nat} {v : Nat → Value} {T : Nat → List It} (h : LvsAt w bs v T) (hy : LvTy w bs T) {k : Nat} (hk16 : k < 16) : LfAt w' (bs k) (v k) (T k) :=
  (h k hk16).of_block fun hl => by obtain ⟨cur, fz, hc⟩ := hy k hk16 hl; exact kept_ty ht hk hc (by decide) (by decide)
theorem fits_parts {b : Int} {l : List It} {ver : Int} (h : fitsB b l ver = true) : leafB l = true ∧ 0 ≤ ver ∧ ver ≤ 2147483647 := by
  unfold fitsB at h
  simp only [Bool.and_eq_true, decide_eq_true_eq] at h
  exact ⟨h.1.1.1, h.1.1.2, h.1.2⟩
theorem trunk_fits {T : Nat → List It} {V : Nat → Int} (h : trunkB T V = true) (k : Nat) (hk : k < 16) : fitsB (k : Int) (T k) (V k) = true := by
  unfold trunkB at h
  exact List.all_eq_true.1 h k (List.mem_range.2 hk)
end Go.Proofs.YtpchohjkelopoaaGreatDoor

set_option maxRecDepth 20000
namespace Go.Proofs.YtpchohjkelopoaaGreatDoor
open Go.RowKit
attribute [go_sem] more_more Array.size_append
theorem blk_str {w w' : World} {B n size : Nat} {v : Value} {xs : List Value} (h : w.ownsRow B 9 size v n xs) (hg : w.grownBy w' v.ownBlock) {k : Nat} {cur : Array Value} {T : TypeId} {fz : Nat × Nat} (hb : w.heap[k]? = some (.cells cur T fz)) (hT : T ≠ 9) : w'.heap[k]? = w.heap[k]? :=
  hg.block k (lt_of_heap hb) (fun q => by
    obtain ⟨cur2, hc2⟩ := own_type h q.symm
    rw [hb] at hc2; simp at hc2
    exact hT hc2.2.1)
theorem rstep_own {w w1 : World} {v v1 v2 : Value} (hs : w.heap.size ≤ w1.heap.size) (ho : v1.ownBlock = v.ownBlock ∨ ∃ k, v1.ownBlock = some k ∧ w.heap.size ≤ k) (k : v2.ownBlock = v1.ownBlock ∨ ∃ k, v2.ownBlock = some k ∧ w1.heap.size ≤ k) : v2.ownBlock = v.ownBlock ∨ ∃ k, v2.ownBlock = some k ∧ w.heap.size ≤ k := by
  rcases k with a | ⟨k, a, b⟩
  · rcases ho with c | ⟨k, c, d⟩
    · exact Or.inl (a.trans c)
    · exact Or.inr ⟨k, a.trans c, d⟩
  · exact Or.inr ⟨k, a, by omega⟩
end Go.Proofs.YtpchohjkelopoaaGreatDoor

set_option maxRecDepth 20000
namespace Go.Proofs.YtpchohjkelopoaaGreatDoor
open Go.RowKit
attribute [go_sem] more_more Array.size_append
theorem bytesWorld_ext (w : World) (e : TypeId) (t : ByteArray) : Ext w (Lib.bytesWorld w e t) :=
  Ext.of_below (Go.Joins.below_bytesWorld _ w e t (Nat.le_refl _))
end Go.Proofs.YtpchohjkelopoaaGreatDoor

set_option maxRecDepth 20000
namespace Go.Proofs.YtpchohjkelopoaaGreatDoor
open Go.RowKit
attribute [go_sem] more_more Array.size_append
theorem cell_ext {w w' : World} {a : Addr} {v : Value} (h : w.cell? a = some v) (hx : Ext w w') : w'.cell? a = some v := by
  obtain ⟨d, os, rfl⟩ := hx
  have hb := rcell_lt h
  have := (Ext.more (Ext.refl w) d os).below.block a.block hb
  unfold World.cell? at h ⊢
  rw [this]
  exact h
end Go.Proofs.YtpchohjkelopoaaGreatDoor

set_option maxRecDepth 20000
namespace Go.Proofs.YtpchohjkelopoaaGreatDoor
open Go.RowKit
attribute [go_sem] more_more Array.size_append
end Go.Proofs.YtpchohjkelopoaaGreatDoor

set_option maxRecDepth 20000
namespace Go.Proofs.YtpchohjkelopoaaGreatDoor
open Go.RowKit
attribute [go_sem] more_more Array.size_append
/-- a row of numbers, read -/
theorem ints_row {w1 : World} {base n : Nat} {v : Value} {x : List Int} (hn : x.length = n) (h0 : 0 < n) (hown : w1.ownsRow base 3 1 v n (cellsI x)) :
    ∃ g cap, v = .slice (some ⟨g, 0, none⟩) n cap ∧ g < w1.heap.size ∧ n ≤ cap ∧ cap ≤ 9223372036854775807 ∧ Hid (∀ (j : Nat) (u : Int), x[j]? = some u → w1.cell? ⟨g, j, none⟩ = some (.int .i64 u)) := by
  rcases hown.2 with ⟨_, h1⟩ | ⟨g, cap, cur, rfl, _, hh, hc, hcm, _⟩
  · omega
  · have hat := fun (j : Nat) (u : Value) (hj : (cellsI x)[j]? = some u) => hown.cells (g := g) rfl j u hj
    refine ⟨g, cap, rfl, (Array.getElem?_eq_some_iff.1 hh).1, hc, by unfold maxLen at hcm; omega, fun j u hj => ?_⟩
    have := hat j (.int .i64 u) (by simp [cellsI, hj])
    rw [Addr.add_lit, Nat.zero_add] at this
    exact this
end Go.Proofs.YtpchohjkelopoaaGreatDoor

set_option maxRecDepth 20000
namespace Go.Proofs.YtpchohjkelopoaaGreatDoor
open Go.RowKit
attribute [go_sem] more_more Array.size_append
end Go.Proofs.YtpchohjkelopoaaGreatDoor

set_option maxRecDepth 20000
namespace Go.Proofs.YtpchohjkelopoaaGreatDoor
open Go.RowKit
attribute [go_sem] more_more Array.size_append
def txt (s : ByteArray) : List UInt8 := s.data.toList
def tOf (ps : List (Int × List It)) : Nat → List It := fun j => match ps[j]? with | some p => p.2 | none => []
def upd {α : Type} (f : Nat → α) (k : Nat) (x : α) : Nat → α := fun j => if j = k then x else f j
/-- nothing -/
def nilV : Nat → Value := fun _ => .slice none 0 0
def zeroV : Nat → Int := fun _ => 0
theorem tOf_nil : tOf [] = fun _ => [] := by funext j; simp [tOf]
theorem lvs_nil (w : World) (bs : Nat → Nat) : LvsAt w bs nilV (tOf []) := fun k hk => by rw [tOf_nil]; exact LfAt.nil _ _
theorem lvty_nil (w : World) (bs : Nat → Nat) : LvTy w bs (tOf []) := fun k hk h => by rw [tOf_nil] at h; simp at h
theorem trC_set (v : Nat → Value) (V : Nat → Int) (k : Nat) (hk : k < 16) (x : Value) : (trC v V).setIfInBounds k x = trC (upd v k x) V := by
  match k, hk with
  | 0, _ => rfl
  | 1, _ => rfl
  | 2, _ => rfl
  | 3, _ => rfl
  | 4, _ => rfl
  | 5, _ => rfl
  | 6, _ => rfl
  | 7, _ => rfl
  | 8, _ => rfl
  | 9, _ => rfl
  | 10, _ => rfl
  | 11, _ => rfl
  | 12, _ => rfl
  | 13, _ => rfl
  | 14, _ => rfl
  | 15, _ => rfl
  | k + 16, h => exact absurd h (by omega)
theorem trC_setV (v : Nat → Value) (V : Nat → Int) (k : Nat) (hk : k < 16) (z : Int) : (trC v V).setIfInBounds (16 + k) (.int .i64 z) = trC v (upd V k z) := by
  match k, hk with
  | 0, _ => rfl
  | 1, _ => rfl
  | 2, _ => rfl
  | 3, _ => rfl
  | 4, _ => rfl
  | 5, _ => rfl
  | 6, _ => rfl
  | 7, _ => rfl
  | 8, _ => rfl
  | 9, _ => rfl
  | 10, _ => rfl
  | 11, _ => rfl
  | 12, _ => rfl
  | 13, _ => rfl
  | 14, _ => rfl
  | 15, _ => rfl
  | k + 16, h => exact absurd h (by omega)
theorem TrBlk.setLeaf {w : World} {N : Nat} {v : Nat → Value} {V : Nat → Int} (h : TrBlk w N v V) (k : Nat) (hk : k < 16) (x : Value) : TrBlk (w.setCell ⟨N, k, none⟩ x) N (upd v k x) V := by
  unfold TrBlk at h ⊢
  rw [← trC_set v V k hk x]
  simp [World.setCell, Array.getElem?_modify, h]
theorem TrBlk.setVer {w : World} {N : Nat} {v : Nat → Value} {V : Nat → Int} (h : TrBlk w N v V) (k : Nat) (hk : k < 16) (z : Int) : TrBlk (w.setCell ⟨N, 16 + k, none⟩ (.int .i64 z)) N v (upd V k z) := by
  unfold TrBlk at h ⊢
  rw [← trC_setV v V k hk z]
  simp [World.setCell, Array.getElem?_modify, h]
theorem TrBlk.frozen {w : World} {N : Nat} {v : Nat → Value} {V : Nat → Int} (h : TrBlk w N v V) (j : Nat) : w.frozen? ⟨N, j, none⟩ = false := by
  unfold TrBlk at h
  simp [World.frozen?, h]
theorem TrBlk.other {w : World} {N : Nat} {v : Nat → Value} {V : Nat → Int} (h : TrBlk w N v V) {M i : Nat} (hne : N ≠ M) (x : Value) : TrBlk (w.setCell ⟨M, i, none⟩ x) N v V := by
  unfold TrBlk at h ⊢
  rw [Go.Deep.blk_setCell_other _ _ _ _ hne]; exact h
theorem LvTy.ext {w w' : World} {bs : Nat → Nat} {T : Nat → List It} (h : LvTy w bs T) (hx : Ext w w') : LvTy w' bs T := fun k hk hl => by
  obtain ⟨cur, fz, hc⟩ := h k hk hl
  exact ⟨cur, fz, by rw [hx.below.block _ (lt_of_heap hc)]; exact hc⟩
theorem LvsAt.upd {w : World} {bs : Nat → Nat} {v : Nat → Value} {T : Nat → List It} (h : LvsAt w bs v T) (hy : LvTy w bs T) {k b : Nat} {x : Value} {l : List It} (hx : LfAt w b x l) (hty : 0 < l.length → ∃ cur fz, w.heap[b]? = some (.cells cur 152 fz)) :
    LvsAt w (upd bs k b) (upd v k x) (YtpchohjkelopoaaGreatDoor.upd T k l) ∧ LvTy w (YtpchohjkelopoaaGreatDoor.upd bs k b) (YtpchohjkelopoaaGreatDoor.upd T k l) := by
  constructor
  · intro j hj
    unfold YtpchohjkelopoaaGreatDoor.upd
    by_cases e : j = k
    · rw [if_pos e, if_pos e, if_pos e]; exact hx
    · rw [if_neg e, if_neg e, if_neg e]; exact h j hj
  · intro j hj hl
    unfold YtpchohjkelopoaaGreatDoor.upd at hl ⊢
    by_cases e : j = k
    · rw [if_pos e] at hl ⊢; exact hty hl
    · rw [if_neg e] at hl ⊢; exact hy j hj hl
/-- a row of items of the call's own is a leaf -/
theorem own_lf {w : World} {base n : Nat} {v : Value} {l : List It} (h : w.ownsRow base 152 5 v n (itCells l)) (hn : l.length = n) (ho : ∀ x ∈ l, ItOk x) : ∃ b, LfAt w b v l ∧ (0 < l.length → ∃ cur fz, w.heap[b]? = some (.cells cur 152 fz)) ∧ (0 < l.length → base ≤ b) := by
  rcases h.2 with ⟨rfl, h0⟩ | ⟨g, cap, cur, rfl, hb, hh, hc, hcm, _⟩
  · have hl : l = [] := List.eq_nil_of_length_eq_zero (by omega)
    subst hl
    exact ⟨0, LfAt.nil _ _, fun q => by simp at q, fun q => by simp at q⟩
  · subst hn
    refine ⟨g, ⟨ho, _, cap, rfl, hc, fun _ => ⟨0, rfl, fun j x hj => ?_⟩⟩, fun _ => ⟨cur, _, hh⟩, fun _ => hb⟩
    obtain ⟨g0, g1, g2, g3, g4⟩ := itCells_get l j x hj
    have h0 := h.cells (g := g) rfl _ _ g0
    have h1 := h.cells (g := g) rfl _ _ g1
    have h2 := h.cells (g := g) rfl _ _ g2
    have h3 := h.cells (g := g) rfl _ _ g3
    have h4 := h.cells (g := g) rfl _ _ g4
    simp only [Addr.add_lit, Nat.zero_add, Nat.add_zero] at h0 h1 h2 h3 h4 ⊢
    exact ⟨h0, h1, h2, h3, h4⟩
/-- '[]byte(s)': the block that it makes -/
def bytesObj (w : World) (s : ByteArray) : Obj := .cells (Lib.bytesCells w 5 s) 5 ((Lib.bytesCells w 5 s).size, (Lib.bytesCells w 5 s).size + 1)
theorem bytes_more (w : World) (s : ByteArray) : Lib.bytesWorld w 5 s = more w (w.drawn + 1) #[bytesObj w s] := by
  have hx := bytesWorld_ext w 5 s
  obtain ⟨d, os, h⟩ := hx
  have hs := Lib.bytesWorld_size w 5 s
  have hd : (Lib.bytesWorld w 5 s).drawn = w.drawn + 1 := by
    unfold Lib.bytesWorld World.freeze
    split <;> rfl
  have hn := Lib.bytesWorld_at_new w 5 s
  rw [h] at hs hd hn ⊢
  rw [more_drawn] at hd
  rw [more_size] at hs
  subst hd
  have h1 : os.size = 1 := by omega
  have h2 : os[0]? = some (bytesObj w s) := by
    simp only [more, Array.getElem?_append] at hn
    unfold bytesObj
    simpa using hn
  have h3 : os = #[bytesObj w s] := by
    apply Array.ext_getElem?
    intro k
    cases k with
    | zero => rw [h2]; rfl
    | succ k => rw [Array.getElem?_eq_none (by omega)]; rw [Array.getElem?_eq_none (by simp)]
  rw [h3]
theorem conv_bytes (s : ByteArray) (W : World) : (convert 9 135 (.string s)).run Tryz.prog W = .ok (.slice (some ⟨W.heap.size, 0, none⟩) s.size (grownCap W s.size 0 5)) (more W (W.drawn + 1) #[bytesObj W s]) := by
  rw [← bytes_more]
  exact Lib.run_convert_string_bytes W 9 135 5 s Tryz.underlying9 Tryz.underlying135 Tryz.underlying5
theorem SlB.conv (w : World) (s : ByteArray) {base : Nat} (hb : base ≤ w.heap.size) (hcap : s.size ≤ grownCap w s.size 0 5) : SlB base (more w (w.drawn + 1) #[bytesObj w s]) (.slice (some ⟨w.heap.size, 0, none⟩) s.size (grownCap w s.size 0 5)) (txt s) := by
  have hl : (txt s).length = s.size := ba_len s
  refine ⟨w.heap.size, 0, _, by rw [hl], by rw [hl]; exact hcap, hb, fun j u hj => ?_, _, _, by rw [← bytes_more]; exact Lib.bytesWorld_at_new w 5 s⟩
  have hlt := (List.getElem?_eq_some_iff.1 hj).1
  rw [hl] at hlt
  rw [← bytes_more, Nat.zero_add, Lib.bytesWorld_cell w 5 s j hlt]
  have : s.data.toList.getD j 0 = u := by
    rw [List.getD_eq_getElem?_getD]
    unfold txt at hj
    rw [hj]; rfl
  rw [this]
theorem results_cell_slot {fn : Func} {p q : Tmp} {ty : TypeId} (h : fn.results = #[.cell p ty, .tmp q]) (tmps : Array Value) (w : World) (a : Addr) (r : Value)
    (hp : tmps.getD p undef = .pointer (some a)) (hl : (loadVar ty a).run Tryz.prog w = .ok r w) (x : Value) (hx : tmps.getD q undef = x) :
    (results fn tmps).run Tryz.prog w = .ok (.tuple #[r, x]) w := by
  have hp' : tmps[p]?.getD undef = .pointer (some a) := by simpa using hp
  have hx' : tmps[q]?.getD undef = x := by simpa using hx
  simp [results, h, hp', hx', asAddr, hl]
theorem results_cell {fn : Func} {p : Tmp} {ty : TypeId} (h : fn.results = #[.cell p ty]) (tmps : Array Value) (w : World) (a : Addr) (r : Value)
    (hp : tmps.getD p undef = .pointer (some a)) (hl : (loadVar ty a).run Tryz.prog w = .ok r w) :
    (results fn tmps).run Tryz.prog w = .ok r w := by
  have hp' : tmps[p]?.getD undef = .pointer (some a) := by simpa using hp
  simp [results, h, hp', asAddr, hl]
theorem tr_load {w : World} {N : Nat} {v : Nat → Value} {V : Nat → Int} (h : TrBlk w N v V) : (loadVar 29 ⟨N, 0, none⟩).run Tryz.prog w = .ok (.agg (trC v V)) w :=
  run_loadVar_row w N 29 29 (trC v V) (0, 0) _ h Tryz.underlying29 rfl (by kernel_rfl)
theorem Ext.setRow {a w : World} (h : Ext a w) {g : Nat} (hg : a.heap.size ≤ g) (cs : Array Value) : Ext a (w.setRow g cs) := Ext.of_below (Go.below_setRow h.below hg cs)
theorem TrBlk.setRow {w : World} {N : Nat} {v : Nat → Value} {V : Nat → Int} (h : TrBlk w N v V) (v' : Nat → Value) (V' : Nat → Int) : TrBlk (w.setRow N (trC v' V')) N v' V' := setRow_heap w N _ _ _ _ h
theorem trC_one (v : Nat → Value) (V : Nat → Int) (h : ∀ k, k < 16 → (v k).oneCell' = true) : (trC v V).all (·.oneCell') = true := by
  rw [Array.all_eq_true']
  intro x hx
  simp only [trC, Array.mem_def, List.mem_cons, List.not_mem_nil, or_false] at hx
  rcases hx with rfl | rfl | rfl | rfl | rfl | rfl | rfl | rfl | rfl | rfl | rfl | rfl | rfl | rfl | rfl | rfl | rfl | rfl | rfl | rfl | rfl | rfl | rfl | rfl | rfl | rfl | rfl | rfl | rfl | rfl | rfl | rfl
  all_goals first | (exact h _ (by decide)) | rfl
end Go.Proofs.YtpchohjkelopoaaGreatDoor
