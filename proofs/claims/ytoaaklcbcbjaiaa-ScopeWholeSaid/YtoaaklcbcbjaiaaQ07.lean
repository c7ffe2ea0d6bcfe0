/- Lemmas for the claim (texts Sc4, May5, what its proof uses of them). -/
import Derived.Test.YtoaaklcbcbjaiaaQ06
set_option linter.unusedSimpArgs false
set_option linter.unusedVariables false
namespace Go.Proofs.Ytoaaklcbcbjaiaa
open Go.RowKit
attribute [go_sem] more_more Array.size_append
/-- one's own new block is laid into the frame -/
theorem WkV.locNew {W : World} {b : Nat} {nv : Value} {fi : Int} {ns : List Nd} {L : List (Nat × Obj)} {S : Sc} {w : World} {sv tv mv fv : Value} (h : WkV W b nv fi ns L S sv tv mv fv w) (o : Obj) : WkV W b nv fi ns ((w.heap.size, o) :: L) S sv tv mv fv (w.alloc o) := by
  have h' := h.of_ext ((Ext.refl w).alloc o)
  refine ⟨h'.ext, h'.cell, h'.row, h'.seen, h'.slots, h'.made, h'.free, h'.base, h'.apart, fun q hq => ?_⟩
  rcases List.mem_cons.1 hq with e | hq
  · subst e
    refine ⟨heap_alloc_new _ _, ?_, fun e => ?_, fun e => ?_, fun e => ?_, fun e => ?_⟩
    · have := (Array.getElem?_eq_some_iff.1 h.cell).1
      dsimp only; omega
    · exact absurd (h.seen.lt _ e).2 (Nat.lt_irrefl _)
    · exact absurd (h.slots.lt _ e).2 (Nat.lt_irrefl _)
    · exact absurd (h.made.lt _ e).2 (Nat.lt_irrefl _)
    · exact absurd (h.free.lt _ e).2 (Nat.lt_irrefl _)
  · exact h'.loc q hq
theorem WkV.locOut {W : World} {b : Nat} {nv : Value} {fi : Int} {ns : List Nd} {L : List (Nat × Obj)} {S : Sc} {w : World} {sv tv mv fv : Value} {q : Nat × Obj} (h : WkV W b nv fi ns (q :: L) S sv tv mv fv w) : WkV W b nv fi ns L S sv tv mv fv w :=
  ⟨h.ext, h.cell, h.row, h.seen, h.slots, h.made, h.free, h.base, h.apart, fun p hp => h.loc p (List.mem_cons_of_mem _ hp)⟩
theorem Wk.locNew {W : World} {b : Nat} {nv : Value} {fi : Int} {ns : List Nd} {L : List (Nat × Obj)} {S : Sc} {w : World} (h : Wk W b nv fi ns L S w) (o : Obj) : Wk W b nv fi ns ((w.heap.size, o) :: L) S (w.alloc o) := by
  obtain ⟨sv, tv, mv, fv, h⟩ := h
  exact ⟨sv, tv, mv, fv, h.locNew o⟩
theorem Wk.locOut {W : World} {b : Nat} {nv : Value} {fi : Int} {ns : List Nd} {L : List (Nat × Obj)} {S : Sc} {w : World} {q : Nat × Obj} (h : Wk W b nv fi ns (q :: L) S w) : Wk W b nv fi ns L S w := by
  obtain ⟨sv, tv, mv, fv, h⟩ := h
  exact ⟨sv, tv, mv, fv, h.locOut⟩
theorem Wk.locAt {W : World} {b : Nat} {nv : Value} {fi : Int} {ns : List Nd} {L : List (Nat × Obj)} {S : Sc} {w : World} {k : Nat} {cs : Array Value} {T : TypeId} (h : Wk W b nv fi ns L S w) (hq : (k, Obj.cells cs T (0, 0)) ∈ L) : KB k cs T w := by
  obtain ⟨sv, tv, mv, fv, h⟩ := h
  exact (h.loc _ hq).1
def Sc.useO (S : Sc) (s : ByteArray) (i : Nat) : Option Sc := if i < S.slots.length ∧ S.seen.length ≤ 2000 ∧ S.free.length ≤ 2000 then some (S.use s i) else none
def Sc.seeO (S : Sc) (s : ByteArray) (i : Int) : Option Sc := if S.seen.length ≤ 2000 ∧ S.made.length ≤ 2000 then some (S.see s i) else none
def seesO (i : Int) : List ByteArray → Sc → Option Sc
  | [], S => some S
  | s :: l, S => (S.seeO s i).bind (seesO i l)
def exprS (ns : List Nd) : Nat → Int → Sc → Option Sc
  | 0, i, S => if i < 0 then some S else none
  | f + 1, i, S => if i < 0 then some S else
    match ns[i.toNat]? with
    | none => none
    | some z => (exprS ns f z.a S).bind fun S1 => (exprS ns f z.b S1).bind fun S2 => if z.k = 4 then S2.useO z.s i.toNat else some S2
def blockS (B : Int → Sc → Option Sc) (first i : Int) (names : List ByteArray) (S : Sc) : Option Sc :=
  (seesO i names S).bind fun S1 => (B first S1).bind fun S2 => if S.seen.length ≤ S2.seen.length then some { S2 with seen := S2.seen.take S.seen.length } else none
def Sc.slot (S : Sc) (i : Nat) : Option Sc := if i < S.slots.length then some { S with slots := S.slots.set i S.seen.length } else none
def stmS (E B : Int → Sc → Option Sc) (i : Nat) (z : Nd) (S : Sc) : Option Sc := (E z.a S).bind fun S1 =>
  if z.k = 22 then E z.b S1
  else if z.k = 20 then (S1.slot i).bind fun S2 => S2.seeO z.s i
  else if z.k = 21 then S1.useO z.s i
  else if z.k = 24 then (blockS B z.b i [] S1).bind (blockS B z.c i [])
  else if z.k = 25 then (S1.slot i).bind (blockS B z.b i [z.s, z.t])
  else if z.k = 26 then blockS B z.b i [] S1
  else some S1
def blkS (ns : List Nd) : Nat → Int → Sc → Option Sc
  | 0, i, S => if i < 0 then some S else none
  | f + 1, i, S => if i < 0 then some S else
    match ns[i.toNat]? with
    | none => none
    | some z => (stmS (exprS ns f) (blkS ns f) i.toNat z S).bind (blkS ns f z.x)
theorem bind_some' {α β : Type} {x : Option α} {g : α → Option β} {r : β} (h : x.bind g = some r) : ∃ a, x = some a ∧ g a = some r := Option.bind_eq_some_iff.1 h
theorem exprS_neg (ns : List Nd) (f : Nat) (i : Int) (S : Sc) (h : i < 0) : exprS ns f i S = some S := by
  cases f <;> (unfold exprS; rw [if_pos h])
theorem exprS_pos {ns : List Nd} {f : Nat} {i : Int} {S R : Sc} (h : 0 ≤ i) (hR : exprS ns f i S = some R) : ∃ g j z S1 S2, f = g + 1 ∧ i = ((j : Nat) : Int) ∧ ns[j]? = some z ∧ exprS ns g z.a S = some S1 ∧ exprS ns g z.b S1 = some S2 ∧ (if z.k = 4 then S2.useO z.s j else some S2) = some R := by
  cases f with
  | zero => unfold exprS at hR; rw [if_neg (by omega)] at hR; cases hR
  | succ g =>
    unfold exprS at hR
    rw [if_neg (by omega)] at hR
    obtain ⟨j, rfl⟩ : ∃ j : Nat, i = (j : Int) := ⟨i.toNat, by omega⟩
    rw [Int.toNat_natCast] at hR
    split at hR
    · cases hR
    · rename_i z hz
      obtain ⟨S1, h1, hR⟩ := bind_some' hR
      obtain ⟨S2, h2, hR⟩ := bind_some' hR
      exact ⟨g, j, z, S1, S2, rfl, rfl, hz, h1, h2, hR⟩
theorem useO_some {S R : Sc} {s : ByteArray} {i : Nat} (h : S.useO s i = some R) : i < S.slots.length ∧ S.seen.length ≤ 2000 ∧ S.free.length ≤ 2000 ∧ R = S.use s i := by
  unfold Sc.useO at h
  split at h
  · rename_i q; exact ⟨q.1, q.2.1, q.2.2, (Option.some.inj h).symm⟩
  · cases h
theorem seeO_some {S R : Sc} {s : ByteArray} {i : Int} (h : S.seeO s i = some R) : S.seen.length ≤ 2000 ∧ S.made.length ≤ 2000 ∧ R = S.see s i := by
  unfold Sc.seeO at h
  split at h
  · rename_i q; exact ⟨q.1, q.2, (Option.some.inj h).symm⟩
  · cases h
theorem slot_some {S R : Sc} {i : Nat} (h : S.slot i = some R) : i < S.slots.length ∧ R = { S with slots := S.slots.set i S.seen.length } := by
  unfold Sc.slot at h
  split at h
  · rename_i q; exact ⟨q, (Option.some.inj h).symm⟩
  · cases h
theorem useO_any {W : World} {b : Nat} {nv : Value} {fi : Int} {ns : List Nd} {L : List (Nat × Obj)} {S R : Sc} {w : World} (h : Wk W b nv fi ns L S w) (s : ByteArray) (i : Nat) (hR : S.useO s i = some R) :
    Calls Try.prog 92 #[.pointer (some ⟨b, 0, none⟩), .string s, .int .i64 (i : Int)] w fun r w' => r = .returned (.tuple #[]) ∧ Wk W b nv fi ns L R w' := by
  obtain ⟨sv, tv, mv, fv, h⟩ := h
  obtain ⟨a1, a2, a3, rfl⟩ := useO_some hR
  exact use_any h s i a1 a2 a3
theorem seeO_any {W : World} {b : Nat} {nv : Value} {fi : Int} {ns : List Nd} {L : List (Nat × Obj)} {S R : Sc} {w : World} (h : Wk W b nv fi ns L S w) (s : ByteArray) (i : Int) (hR : S.seeO s i = some R) :
    Calls Try.prog 59 #[.pointer (some ⟨b, 0, none⟩), .string s, .int .i64 i] w fun r w' => r = .returned (.tuple #[]) ∧ Wk W b nv fi ns L R w' := by
  obtain ⟨sv, tv, mv, fv, h⟩ := h
  obtain ⟨a1, a2, rfl⟩ := seeO_some hR
  exact see_any h s i a1 a2
/-- the node's cells, behind the walker's block -/
theorem Wk.node {W : World} {b : Nat} {nv : Value} {fi : Int} {ns : List Nd} {L : List (Nat × Obj)} {S : Sc} {w : World} (h : Wk W b nv fi ns L S w) {j : Nat} {z : Nd} (hz : ns[j]? = some z) :
    ∃ G n cap, nv = .slice (some ⟨G, 0, none⟩) n cap ∧ G < w.heap.size ∧ j < n ∧ b < w.heap.size ∧ w.cell? ⟨b, 0, none⟩ = some (.slice (some ⟨G, 0, none⟩) n cap) ∧
    w.cell? ⟨G, j * 8, none⟩ = some (.int .i64 z.k) ∧ w.cell? ⟨G, j * 8 + 1, none⟩ = some (.int .i64 z.a) ∧ w.cell? ⟨G, j * 8 + 2, none⟩ = some (.int .i64 z.b) ∧ w.cell? ⟨G, j * 8 + 3, none⟩ = some (.int .i64 z.c) ∧ w.cell? ⟨G, j * 8 + 4, none⟩ = some (.int .i64 z.x) ∧ w.cell? ⟨G, j * 8 + 5, none⟩ = some (.int .i64 z.i) ∧ w.cell? ⟨G, j * 8 + 6, none⟩ = some (.string z.s) ∧ w.cell? ⟨G, j * 8 + 7, none⟩ = some (.string z.t) := by
  obtain ⟨sv, tv, mv, fv, h⟩ := h
  have hj := (List.getElem?_eq_some_iff.1 hz).1
  rcases Go.Joins.ownsRow_forms h.row with ⟨_, h0⟩ | ⟨g1, c1, h0⟩
  · omega
  · have hr := h.row
    subst h0
    have kb : KB b _ _ w := h.cell
    exact ⟨g1, ns.length, c1, rfl, (hr.lt g1 rfl).2, hj, kb.lt, kb.cell 0 _ rfl, nd_at hr hz⟩
theorem sexpr_neg {W : World} {b : Nat} {nv : Value} {fi : Int} {ns : List Nd} {L : List (Nat × Obj)} {S : Sc} {w : World} (i : Int) (hi : i < 0) (h : Wk W b nv fi ns L S w) :
    Calls Try.prog 91 #[.pointer (some ⟨b, 0, none⟩), .int .i64 i] w fun r w' => r = .returned (.tuple #[]) ∧ Wk W b nv fi ns L S w' := by
  have H := Lib.hid h
  clear h
  go_enter Try.func91, Try.ntmps91
  go_wp2_with fail
  (first | go_end0 | refine bodyPost_ret (results_none rfl _ _ _) rfl ?_)
  exact ⟨rfl, H.out⟩
set_option maxHeartbeats 4000000 in
set_option maxRecDepth 20000 in
theorem sexpr_any {W : World} {b : Nat} {nv : Value} {fi : Int} {ns : List Nd} : ∀ (f : Nat) (L : List (Nat × Obj)) (S R : Sc) (w : World) (i : Int), exprS ns f i S = some R → Wk W b nv fi ns L S w →
    Calls Try.prog 91 #[.pointer (some ⟨b, 0, none⟩), .int .i64 i] w fun r w' => r = .returned (.tuple #[]) ∧ Wk W b nv fi ns L R w' := by
  intro f
  induction f with
  | zero =>
    intro L S R w i hR h
    by_cases hi : i < 0
    · rw [exprS_neg ns 0 i S hi] at hR
      cases hR
      exact sexpr_neg i hi h
    · obtain ⟨g, _, _, _, _, e, _⟩ := exprS_pos (by omega) hR
      cases e
  | succ f ih =>
    intro L S R w i hR h
    by_cases hi : i < 0
    · rw [exprS_neg ns _ i S hi] at hR
      cases hR
      exact sexpr_neg i hi h
    obtain ⟨g, j, ⟨zk, za, zb, zc, zx, zi, zs, zt⟩, S1, S2, e, rfl, hz, h1, h2, h3⟩ := exprS_pos (by omega) hR
    obtain rfl : f = g := by omega
    dsimp only at h1 h2 h3
    obtain ⟨G, n, cap, rfl, hG, hj, lb, c0, a0, a1, a2, a3, a4, a5, a6, a7⟩ := h.node hz
    dsimp only at a0 a1 a2 a3 a4 a5 a6 a7
    have C1 := Lib.hid (fun w1 (hw : Wk W b (.slice (some ⟨G, 0, none⟩) n cap) fi ns ((w.heap.size, .cells #[.int .i64 zk, .int .i64 za, .int .i64 zb, .int .i64 zc, .int .i64 zx, .int .i64 zi, .string zs, .string zt] 52 (0, 0)) :: L) S w1) => ih _ S S1 w1 za h1 hw)
    have C2 := Lib.hid (fun w1 (hw : Wk W b (.slice (some ⟨G, 0, none⟩) n cap) fi ns ((w.heap.size, .cells #[.int .i64 zk, .int .i64 za, .int .i64 zb, .int .i64 zc, .int .i64 zx, .int .i64 zi, .string zs, .string zt] 52 (0, 0)) :: L) S1 w1) => ih _ S1 S2 w1 zb h2 hw)
    have H0 := Lib.hid (h.locNew (.cells #[.int .i64 zk, .int .i64 za, .int .i64 zb, .int .i64 zc, .int .i64 zx, .int .i64 zi, .string zs, .string zt] 52 (0, 0)))
    have hj0 : 0 ≤ (j : Int) := by omega
    have hjn : (j : Int) < (n : Int) := by omega
    by_cases hk : zk = 4
    · rw [if_pos hk] at h3
      have C3 := Lib.hid (fun w1 (hw : Wk W b (.slice (some ⟨G, 0, none⟩) n cap) fi ns ((w.heap.size, .cells #[.int .i64 zk, .int .i64 za, .int .i64 zb, .int .i64 zc, .int .i64 zx, .int .i64 zi, .string zs, .string zt] 52 (0, 0)) :: L) S2 w1) => useO_any hw zs j h3)
      subst hk
      clear ih hR h hz h1 h2 h3 hi hj e
      go_enter Try.func91, Try.ntmps91
      go_wp2_with (first
        | (go_at_call 91; (with_reducible refine (C1.out _ H0.out).mono ?_); rintro e' w2 ⟨rfl, h2⟩; have H2 := Lib.hid h2; clear h2; have KX := Lib.hid (H2.out.locAt List.mem_cons_self); have x2 := KX.out.cell 2 _ rfl; have lx := KX.out.lt)
        | (go_at_call 91; (with_reducible refine (C2.out _ H2.out).mono ?_); rintro e' w3 ⟨rfl, h3⟩; have H3 := Lib.hid h3; clear h3; have KX3 := Lib.hid (H3.out.locAt List.mem_cons_self); have x30 := KX3.out.cell 0 _ rfl; have x36 := KX3.out.cell 6 _ rfl; have lx3 := KX3.out.lt)
        | (go_at_call 92; (with_reducible refine (C3.out _ H3.out).mono ?_); rintro e' w4 ⟨rfl, h4⟩; have H4 := Lib.hid h4; clear h4))
      (first | go_end0 | refine bodyPost_ret (results_none rfl _ _ _) rfl ?_)
      exact ⟨rfl, H4.out.locOut⟩
    · rw [if_neg hk] at h3
      cases h3
      have hk2 : (zk == 4) = false := by simpa using hk
      clear ih hR h hz h1 h2 hi hj e hk
      go_enter Try.func91, Try.ntmps91
      go_wp2_with (first
        | (go_at_call 91; (with_reducible refine (C1.out _ H0.out).mono ?_); rintro e' w2 ⟨rfl, h2⟩; have H2 := Lib.hid h2; clear h2; have KX := Lib.hid (H2.out.locAt List.mem_cons_self); have x2 := KX.out.cell 2 _ rfl; have lx := KX.out.lt)
        | (go_at_call 91; (with_reducible refine (C2.out _ H2.out).mono ?_); rintro e' w3 ⟨rfl, h3⟩; have H3 := Lib.hid h3; clear h3; have KX3 := Lib.hid (H3.out.locAt List.mem_cons_self); have x30 := KX3.out.cell 0 _ rfl; have lx3 := KX3.out.lt))
      (first | go_end0 | refine bodyPost_ret (results_none rfl _ _ _) rfl ?_)
      exact ⟨rfl, H3.out.locOut⟩
end Go.Proofs.Ytoaaklcbcbjaiaa

namespace Go.Proofs.Ytoaaklcbcbjaiaa
open Go.RowKit
attribute [go_sem] more_more Array.size_append
set_option maxHeartbeats 16000000 in
set_option maxRecDepth 20000 in
theorem node_c0 {W : World} {c H : Nat} {nv : Value} {ns : List Nd} {fi : Int} {n : Nat} {g : Nat → Nat} {w : World} (h : CkSt W c H nv ns fi n g w) (j : Nat) (zk za zb zc zx zi : Int) (zs zt : ByteArray) (hz : ns[j]? = some ⟨zk, za, zb, zc, zx, zi, zs, zt⟩) (hs : zs.size ≤ maxLen) (hb : ∀ j, j < n → g j ≤ 8000) (hn : n ≤ 512)
    (k1 : isKind zk = true) (k2 : numOk zk zc zi = true) (k3 : (txt1 zt (shT zk) && txt2 zk zs (shS zk)) = true) (sA : shA zk = false) (sB : shB zk = false) (sBB : shBB zk = false) (sBC : shBC zk = false) :
    Calls Try.prog 54 #[.pointer (some ⟨c, 0, none⟩), .int .i64 (j : Int)] w fun e w' => e = .returned (.bool ((za == -1) && (zb == -1) && (zc == -1) && (zx == -1 || (decide (20 ≤ zk) && takesB ns zx ((j : Int) + 1) n true)))) ∧
      CkSt W c H nv ns fi n (addB (zx == -1 || (decide (20 ≤ zk) && takesB ns zx ((j : Int) + 1) n true)) zx (addB (zc == -1) zc (addB (zb == -1) zb (addB (za == -1) za g)))) w' := by
  have hj : j < n := by have := (List.getElem?_eq_some_iff.1 hz).1; have := h.base.2.2.2; omega
  have hp : ∃ G cap, nv = .slice (some ⟨G, 0, none⟩) n cap := by
    rcases Go.Joins.ownsRow_forms h.row with ⟨_, h0⟩ | ⟨g1, c1, h0⟩
    · omega
    · exact ⟨g1, c1, h0⟩
  obtain ⟨G, cap, rfl⟩ := hp
  obtain ⟨a0, a1, a2, a3, a4, a5, a6, a7⟩ := nd_at h.row hz
  dsimp only at a0 a1 a2 a3 a4 a5 a6 a7
  have hG := (h.row.lt G rfl).2
  obtain ⟨c0, c1, c2, lc, lH⟩ := h.facts
  have HS0 := Lib.hid h
  have HB0 := Lib.hid hb
  have SH := Lib.hid (fun w1 => shape_any zk w1)
  rw [k1, sA, sB, sBB, sBC] at SH
  have NM := Lib.hid (fun w1 => num_any zk za zb zc zx zi zs zt w1)
  rw [k2] at NM
  have TX := Lib.hid (fun w1 => texts_x zk za zb zc zx zi zs zt hs false false false false (shS zk) (shT zk) w1)
  rw [k3] at TX
  obtain ⟨bS, hS⟩ : ∃ bS, shS zk = bS := ⟨_, rfl⟩
  obtain ⟨bT, hT⟩ : ∃ bT, shT zk = bT := ⟨_, rfl⟩
  rw [hS, hT] at SH TX
  have hj0 : 0 ≤ (j : Int) := by omega
  have hjn : (j : Int) < (n : Int) := by omega
  have hjs : (j : Int) ≤ (n : Int) := by omega
  have hn0 : (n : Int) ≤ 512 := by omega
  clear h hb hz hs k1 k2 k3 sA sB sBB sBC hS hT hj c1 c2
  have HNE := Lib.hid (show w.heap.size ≠ H from by omega)
  obtain ⟨A, hA⟩ : ∃ A, (za == -1) = A := ⟨_, rfl⟩
  obtain ⟨B, hBq⟩ : ∃ B, (zb == -1) = B := ⟨_, rfl⟩
  have HA := Lib.hid hA
  have HBq := Lib.hid hBq
  clear hA hBq
  have HLH := Lib.hid lH
  cases qc : (zc == -1)
  · go_enter Try.func54, Try.ntmps54
    go_wp2_with (first
      | ((go_at_call 84; (with_reducible refine (SH.out _).mono ?_); rintro e' _ ⟨rfl, d1, os1, rfl⟩))
      | ((go_at_call 85; (with_reducible refine (NM.out _).mono ?_); rintro e' _ ⟨rfl, d2, os2, rfl⟩))
      | ((go_at_call 86; (with_reducible refine (TX.out _).mono ?_); rintro e' _ ⟨rfl, d3, os3, rfl⟩)))
    have HS1 := Lib.hid (HS0.out.idB A za (by rw [← HA.out]; simp))
    have HB1 := Lib.hid (fun q hq => addB_le A za g q 8000 (HB0.out q hq))
    have HS2 := Lib.hid (HS1.out.idB B zb (by rw [← HBq.out]; simp))
    have HB2 := Lib.hid (fun q hq => addB_le B zb (addB A za g) q 8001 (HB1.out q hq))
    have HS3 := Lib.hid (HS2.out.idB false zc (by simp))
    have HB3 := Lib.hid (fun q hq => addB_le false zc (addB B zb (addB A za g)) q 8002 (HB2.out q hq))
    cases qx : (zx == -1)
    rotate_left
    · have HXq := Lib.hid (show (zx == -1 || (decide (20 ≤ zk) && takesB ns zx ((j : Int) + 1) n true)) = true from by rw [qx, Bool.true_or])
      have HS4 := Lib.hid (HS3.out.idB true zx (fun _ => by simpa using qx))
      have HB4 := Lib.hid (fun q hq => addB_le true zx (addB false zc (addB B zb (addB A za g))) q 8003 (HB3.out q hq))
      refine wp_region_grow 19 114 [false, false, false, false, false, false, false, false, false, false, false, false, false, false, false, false, false, false, false] (by kernel_rfl) (by kernel_rfl) rfl ?_
      simp only [List.take_succ_cons, List.take_zero, List.drop_succ_cons, List.drop_zero]
      repeat (refine Lex.step rfl ?_; intro K hK; unfold StepG; go_simp; (first
          | refine hK _ ?_); clear hK K)
      refine Lex.nil fun WW hE => ?_
      obtain ⟨dd, oo, rfl⟩ := hE
      unfold FillH
      go_wp2_with fail
      try rw [ends_normal]
      try go_wp2_with fail
      all_goals
        go_ret
        exact ⟨ret_bool (by rw [HA.out, HBq.out, HXq.out]; first | rfl | (simp only [Bool.and_true, Bool.and_false, Bool.true_and, Bool.false_and]; done) | (cases A <;> cases B <;> cases X <;> first | rfl | contradiction | (exfalso; have h1 := HA.out; have h2 := HBq.out; revert h1 h2; simp [*])) | (cases A <;> cases B <;> first | rfl | contradiction | (exfalso; have h1 := HA.out; have h2 := HBq.out; revert h1 h2; simp [*]))), by rw [HA.out, HBq.out, HXq.out]; exact (show CkSt W c H (.slice (some ⟨G, 0, none⟩) n cap) ns fi n (addB true zx (addB false zc (addB B zb (addB A za g)))) _ from by repeat (first | (with_reducible exact HS4.out) | (with_reducible apply CkSt.alloc) | (with_reducible apply CkSt.more)))⟩
    by_cases hz20 : 20 ≤ zk
    rotate_left
    · have HXq := Lib.hid (show (zx == -1 || (decide (20 ≤ zk) && takesB ns zx ((j : Int) + 1) n true)) = false from by rw [qx, decide_eq_false hz20]; rfl)
      have hzd : decide (20 ≤ zk) = false := decide_eq_false hz20
      have HS4 := Lib.hid (HS3.out.idB false zx (by simp))
      have HB4 := Lib.hid (fun q hq => addB_le false zx (addB false zc (addB B zb (addB A za g))) q 8003 (HB3.out q hq))
      refine wp_region_grow 19 114 [false, false, false, false, false, false, false, false, false, false, false, false, false, false, false, false, false, false, false] (by kernel_rfl) (by kernel_rfl) rfl ?_
      simp only [List.take_succ_cons, List.take_zero, List.drop_succ_cons, List.drop_zero]
      repeat (refine Lex.step rfl ?_; intro K hK; unfold StepG; go_simp; (first
          | refine hK _ ?_); clear hK K)
      refine Lex.nil fun WW hE => ?_
      obtain ⟨dd, oo, rfl⟩ := hE
      unfold FillH
      go_wp2_with fail
      try rw [ends_normal]
      try go_wp2_with fail
      all_goals
        go_ret
        exact ⟨ret_bool (by rw [HA.out, HBq.out, HXq.out]; first | rfl | (simp only [Bool.and_true, Bool.and_false, Bool.true_and, Bool.false_and]; done) | (cases A <;> cases B <;> cases X <;> first | rfl | contradiction | (exfalso; have h1 := HA.out; have h2 := HBq.out; revert h1 h2; simp [*])) | (cases A <;> cases B <;> first | rfl | contradiction | (exfalso; have h1 := HA.out; have h2 := HBq.out; revert h1 h2; simp [*]))), by rw [HA.out, HBq.out, HXq.out]; exact (show CkSt W c H (.slice (some ⟨G, 0, none⟩) n cap) ns fi n (addB false zx (addB false zc (addB B zb (addB A za g)))) _ from by repeat (first | (with_reducible exact HS4.out) | (with_reducible apply CkSt.alloc) | (with_reducible apply CkSt.more)))⟩
    · obtain ⟨X, hX⟩ : ∃ X, takesB ns zx ((j : Int) + 1) n true = X := ⟨_, rfl⟩
      have HXq := Lib.hid (show (zx == -1 || (decide (20 ≤ zk) && takesB ns zx ((j : Int) + 1) n true)) = X from by rw [qx, decide_eq_true hz20, hX]; rfl)
      have HXr := Lib.hid hX
      have hzd : decide (20 ≤ zk) = true := decide_eq_true hz20
      clear hX
      refine wp_region_grow 19 114 [false, false, false, false, false, false, false, false, false, false, false, false, false, false, false, false, false, false, false] (by kernel_rfl) (by kernel_rfl) rfl ?_
      simp only [List.take_succ_cons, List.take_zero, List.drop_succ_cons, List.drop_zero]
      repeat (refine Lex.step rfl ?_; intro K hK; unfold StepG; go_simp; (first
          | refine hK _ ?_); clear hK K)
      refine Lex.nil fun WW hE => ?_
      obtain ⟨dd, oo, rfl⟩ := hE
      unfold FillH
      go_wp2_with fail
      refine (ptakes_any (show CkSt W c H (.slice (some ⟨G, 0, none⟩) n cap) ns fi n (addB false zc (addB B zb (addB A za g))) _ from by repeat (first | (with_reducible exact HS3.out) | (with_reducible apply CkSt.alloc) | (with_reducible apply CkSt.more))) zx ((j : Int) + 1) (n : Int) true (by omega) (by omega) (fun q hq => Nat.le_trans (HB3.out q hq) (by omega))).mono ?_
      rintro e4 w4 ⟨rfl, hck, hfr⟩
      rw [HXr.out] at hck ⊢
      have HS4 := Lib.hid hck
      have K5 := Lib.hid (KB.kept (show KB w.heap.size #[.int .i64 zk, .int .i64 za, .int .i64 zb, .int .i64 zc, .int .i64 zx, .int .i64 zi, .string zs, .string zt] 52 _ from by repeat (first | exact KB.new _ _ _ | apply KB.alloc | apply KB.more)) hfr HNE.out)
      have K6 := Lib.hid (KB.kept (show KB (w.heap.size + 1 + os1.size) #[.bool false, .bool false, .bool false, .bool false, .bool bS, .bool bT] 110 _ from by repeat (first | exact KB.newAt _ _ _ (by simp [more_size]) | apply KB.alloc | apply KB.more)) hfr (show w.heap.size + 1 + os1.size ≠ H from by have := HLH.out; omega))
      clear hck hfr
      have HN6 := Lib.hid (show w.heap.size + 1 + os1.size ≠ H from by have := HLH.out; omega)
      have HN5 := Lib.hid HNE.out
      obtain ⟨k6, hk6⟩ : ∃ k6, w.heap.size + 1 + os1.size = k6 := ⟨_, rfl⟩
      rw [hk6] at K6 HN6 ⊢
      obtain ⟨k5, hk5⟩ : ∃ k5, w.heap.size = k5 := ⟨_, rfl⟩
      rw [hk5] at K5 HN5 ⊢
      clear hk5 hk6 a0 a1 a2 a3 a4 a5 a6 a7 hG
      clear c0 lc lH
      obtain ⟨c0, c1, c2, lc, lH⟩ := HS4.out.facts
      clear c1 c2
      have n0 := K5.out.cell 0 _ rfl
      have n1 := K5.out.cell 1 _ rfl
      have n2 := K5.out.cell 2 _ rfl
      have n3 := K5.out.cell 3 _ rfl
      have n4 := K5.out.cell 4 _ rfl
      have l5 := K5.out.lt
      have s0 := K6.out.cell 0 _ rfl
      have s1 := K6.out.cell 1 _ rfl
      have s2 := K6.out.cell 2 _ rfl
      have s3 := K6.out.cell 3 _ rfl
      have l6 := K6.out.lt
      have HB4 := Lib.hid (fun q hq => addB_le X zx (addB false zc (addB B zb (addB A za g))) q 8003 (HB3.out q hq))
      go_wp2_with fail
      try rw [ends_normal]
      try go_wp2_with fail
      all_goals
        go_ret
        exact ⟨ret_bool (by rw [HA.out, HBq.out, HXq.out]; first | rfl | (simp only [Bool.and_true, Bool.and_false, Bool.true_and, Bool.false_and]; done) | (cases A <;> cases B <;> cases X <;> first | rfl | contradiction | (exfalso; have h1 := HA.out; have h2 := HBq.out; revert h1 h2; simp [*])) | (cases A <;> cases B <;> first | rfl | contradiction | (exfalso; have h1 := HA.out; have h2 := HBq.out; revert h1 h2; simp [*]))), by rw [HA.out, HBq.out, HXq.out]; exact (show CkSt W c H (.slice (some ⟨G, 0, none⟩) n cap) ns fi n (addB X zx (addB false zc (addB B zb (addB A za g)))) _ from by repeat (first | (with_reducible exact HS4.out) | (with_reducible apply CkSt.alloc) | (with_reducible apply CkSt.more)))⟩
  · go_enter Try.func54, Try.ntmps54
    go_wp2_with (first
      | ((go_at_call 84; (with_reducible refine (SH.out _).mono ?_); rintro e' _ ⟨rfl, d1, os1, rfl⟩))
      | ((go_at_call 85; (with_reducible refine (NM.out _).mono ?_); rintro e' _ ⟨rfl, d2, os2, rfl⟩))
      | ((go_at_call 86; (with_reducible refine (TX.out _).mono ?_); rintro e' _ ⟨rfl, d3, os3, rfl⟩)))
    have HS1 := Lib.hid (HS0.out.idB A za (by rw [← HA.out]; simp))
    have HB1 := Lib.hid (fun q hq => addB_le A za g q 8000 (HB0.out q hq))
    have HS2 := Lib.hid (HS1.out.idB B zb (by rw [← HBq.out]; simp))
    have HB2 := Lib.hid (fun q hq => addB_le B zb (addB A za g) q 8001 (HB1.out q hq))
    have HS3 := Lib.hid (HS2.out.idB true zc (fun _ => by simpa using qc))
    have HB3 := Lib.hid (fun q hq => addB_le true zc (addB B zb (addB A za g)) q 8002 (HB2.out q hq))
    cases qx : (zx == -1)
    rotate_left
    · have HXq := Lib.hid (show (zx == -1 || (decide (20 ≤ zk) && takesB ns zx ((j : Int) + 1) n true)) = true from by rw [qx, Bool.true_or])
      have HS4 := Lib.hid (HS3.out.idB true zx (fun _ => by simpa using qx))
      have HB4 := Lib.hid (fun q hq => addB_le true zx (addB true zc (addB B zb (addB A za g))) q 8003 (HB3.out q hq))
      refine wp_region_grow 19 114 [false, false, false, false, false, false, false, false, false, false, false, false, false, false, false, false, false, false, false] (by kernel_rfl) (by kernel_rfl) rfl ?_
      simp only [List.take_succ_cons, List.take_zero, List.drop_succ_cons, List.drop_zero]
      repeat (refine Lex.step rfl ?_; intro K hK; unfold StepG; go_simp; (first
          | refine hK _ ?_); clear hK K)
      refine Lex.nil fun WW hE => ?_
      obtain ⟨dd, oo, rfl⟩ := hE
      unfold FillH
      go_wp2_with fail
      try rw [ends_normal]
      try go_wp2_with fail
      all_goals
        go_ret
        exact ⟨ret_bool (by rw [HA.out, HBq.out, HXq.out]; first | rfl | (simp only [Bool.and_true, Bool.and_false, Bool.true_and, Bool.false_and]; done) | (cases A <;> cases B <;> cases X <;> first | rfl | contradiction | (exfalso; have h1 := HA.out; have h2 := HBq.out; revert h1 h2; simp [*])) | (cases A <;> cases B <;> first | rfl | contradiction | (exfalso; have h1 := HA.out; have h2 := HBq.out; revert h1 h2; simp [*]))), by rw [HA.out, HBq.out, HXq.out]; exact (show CkSt W c H (.slice (some ⟨G, 0, none⟩) n cap) ns fi n (addB true zx (addB true zc (addB B zb (addB A za g)))) _ from by repeat (first | (with_reducible exact HS4.out) | (with_reducible apply CkSt.alloc) | (with_reducible apply CkSt.more)))⟩
    by_cases hz20 : 20 ≤ zk
    rotate_left
    · have HXq := Lib.hid (show (zx == -1 || (decide (20 ≤ zk) && takesB ns zx ((j : Int) + 1) n true)) = false from by rw [qx, decide_eq_false hz20]; rfl)
      have hzd : decide (20 ≤ zk) = false := decide_eq_false hz20
      have HS4 := Lib.hid (HS3.out.idB false zx (by simp))
      have HB4 := Lib.hid (fun q hq => addB_le false zx (addB true zc (addB B zb (addB A za g))) q 8003 (HB3.out q hq))
      refine wp_region_grow 19 114 [false, false, false, false, false, false, false, false, false, false, false, false, false, false, false, false, false, false, false] (by kernel_rfl) (by kernel_rfl) rfl ?_
      simp only [List.take_succ_cons, List.take_zero, List.drop_succ_cons, List.drop_zero]
      repeat (refine Lex.step rfl ?_; intro K hK; unfold StepG; go_simp; (first
          | refine hK _ ?_); clear hK K)
      refine Lex.nil fun WW hE => ?_
      obtain ⟨dd, oo, rfl⟩ := hE
      unfold FillH
      go_wp2_with fail
      try rw [ends_normal]
      try go_wp2_with fail
      all_goals
        go_ret
        exact ⟨ret_bool (by rw [HA.out, HBq.out, HXq.out]; first | rfl | (simp only [Bool.and_true, Bool.and_false, Bool.true_and, Bool.false_and]; done) | (cases A <;> cases B <;> cases X <;> first | rfl | contradiction | (exfalso; have h1 := HA.out; have h2 := HBq.out; revert h1 h2; simp [*])) | (cases A <;> cases B <;> first | rfl | contradiction | (exfalso; have h1 := HA.out; have h2 := HBq.out; revert h1 h2; simp [*]))), by rw [HA.out, HBq.out, HXq.out]; exact (show CkSt W c H (.slice (some ⟨G, 0, none⟩) n cap) ns fi n (addB false zx (addB true zc (addB B zb (addB A za g)))) _ from by repeat (first | (with_reducible exact HS4.out) | (with_reducible apply CkSt.alloc) | (with_reducible apply CkSt.more)))⟩
    · obtain ⟨X, hX⟩ : ∃ X, takesB ns zx ((j : Int) + 1) n true = X := ⟨_, rfl⟩
      have HXq := Lib.hid (show (zx == -1 || (decide (20 ≤ zk) && takesB ns zx ((j : Int) + 1) n true)) = X from by rw [qx, decide_eq_true hz20, hX]; rfl)
      have HXr := Lib.hid hX
      have hzd : decide (20 ≤ zk) = true := decide_eq_true hz20
      clear hX
      refine wp_region_grow 19 114 [false, false, false, false, false, false, false, false, false, false, false, false, false, false, false, false, false, false, false] (by kernel_rfl) (by kernel_rfl) rfl ?_
      simp only [List.take_succ_cons, List.take_zero, List.drop_succ_cons, List.drop_zero]
      repeat (refine Lex.step rfl ?_; intro K hK; unfold StepG; go_simp; (first
          | refine hK _ ?_); clear hK K)
      refine Lex.nil fun WW hE => ?_
      obtain ⟨dd, oo, rfl⟩ := hE
      unfold FillH
      go_wp2_with fail
      refine (ptakes_any (show CkSt W c H (.slice (some ⟨G, 0, none⟩) n cap) ns fi n (addB true zc (addB B zb (addB A za g))) _ from by repeat (first | (with_reducible exact HS3.out) | (with_reducible apply CkSt.alloc) | (with_reducible apply CkSt.more))) zx ((j : Int) + 1) (n : Int) true (by omega) (by omega) (fun q hq => Nat.le_trans (HB3.out q hq) (by omega))).mono ?_
      rintro e4 w4 ⟨rfl, hck, hfr⟩
      rw [HXr.out] at hck ⊢
      have HS4 := Lib.hid hck
      have K5 := Lib.hid (KB.kept (show KB w.heap.size #[.int .i64 zk, .int .i64 za, .int .i64 zb, .int .i64 zc, .int .i64 zx, .int .i64 zi, .string zs, .string zt] 52 _ from by repeat (first | exact KB.new _ _ _ | apply KB.alloc | apply KB.more)) hfr HNE.out)
      have K6 := Lib.hid (KB.kept (show KB (w.heap.size + 1 + os1.size) #[.bool false, .bool false, .bool false, .bool false, .bool bS, .bool bT] 110 _ from by repeat (first | exact KB.newAt _ _ _ (by simp [more_size]) | apply KB.alloc | apply KB.more)) hfr (show w.heap.size + 1 + os1.size ≠ H from by have := HLH.out; omega))
      clear hck hfr
      have HN6 := Lib.hid (show w.heap.size + 1 + os1.size ≠ H from by have := HLH.out; omega)
      have HN5 := Lib.hid HNE.out
      obtain ⟨k6, hk6⟩ : ∃ k6, w.heap.size + 1 + os1.size = k6 := ⟨_, rfl⟩
      rw [hk6] at K6 HN6 ⊢
      obtain ⟨k5, hk5⟩ : ∃ k5, w.heap.size = k5 := ⟨_, rfl⟩
      rw [hk5] at K5 HN5 ⊢
      clear hk5 hk6 a0 a1 a2 a3 a4 a5 a6 a7 hG
      clear c0 lc lH
      obtain ⟨c0, c1, c2, lc, lH⟩ := HS4.out.facts
      clear c1 c2
      have n0 := K5.out.cell 0 _ rfl
      have n1 := K5.out.cell 1 _ rfl
      have n2 := K5.out.cell 2 _ rfl
      have n3 := K5.out.cell 3 _ rfl
      have n4 := K5.out.cell 4 _ rfl
      have l5 := K5.out.lt
      have s0 := K6.out.cell 0 _ rfl
      have s1 := K6.out.cell 1 _ rfl
      have s2 := K6.out.cell 2 _ rfl
      have s3 := K6.out.cell 3 _ rfl
      have l6 := K6.out.lt
      have HB4 := Lib.hid (fun q hq => addB_le X zx (addB true zc (addB B zb (addB A za g))) q 8003 (HB3.out q hq))
      go_wp2_with fail
      try rw [ends_normal]
      try go_wp2_with fail
      all_goals
        go_ret
        exact ⟨ret_bool (by rw [HA.out, HBq.out, HXq.out]; first | rfl | (simp only [Bool.and_true, Bool.and_false, Bool.true_and, Bool.false_and]; done) | (cases A <;> cases B <;> cases X <;> first | rfl | contradiction | (exfalso; have h1 := HA.out; have h2 := HBq.out; revert h1 h2; simp [*])) | (cases A <;> cases B <;> first | rfl | contradiction | (exfalso; have h1 := HA.out; have h2 := HBq.out; revert h1 h2; simp [*]))), by rw [HA.out, HBq.out, HXq.out]; exact (show CkSt W c H (.slice (some ⟨G, 0, none⟩) n cap) ns fi n (addB X zx (addB true zc (addB B zb (addB A za g)))) _ from by repeat (first | (with_reducible exact HS4.out) | (with_reducible apply CkSt.alloc) | (with_reducible apply CkSt.more)))⟩
set_option maxHeartbeats 16000000 in
set_option maxRecDepth 20000 in
theorem node_c1 {W : World} {c H : Nat} {nv : Value} {ns : List Nd} {fi : Int} {n : Nat} {g : Nat → Nat} {w : World} (h : CkSt W c H nv ns fi n g w) (j : Nat) (zk za zb zc zx zi : Int) (zs zt : ByteArray) (hz : ns[j]? = some ⟨zk, za, zb, zc, zx, zi, zs, zt⟩) (hs : zs.size ≤ maxLen) (hb : ∀ j, j < n → g j ≤ 8000) (hn : n ≤ 512)
    (k1 : isKind zk = true) (k2 : numOk zk zc zi = true) (k3 : (txt1 zt (shT zk) && txt2 zk zs (shS zk)) = true) (sA : shA zk = true) (sB : shB zk = false) (sBB : shBB zk = false) (sBC : shBC zk = false) :
    Calls Try.prog 54 #[.pointer (some ⟨c, 0, none⟩), .int .i64 (j : Int)] w fun e w' => e = .returned (.bool ((takesB ns za 0 j false) && (zb == -1) && (zc == -1) && (zx == -1 || (decide (20 ≤ zk) && takesB ns zx ((j : Int) + 1) n true)))) ∧
      CkSt W c H nv ns fi n (addB (zx == -1 || (decide (20 ≤ zk) && takesB ns zx ((j : Int) + 1) n true)) zx (addB (zc == -1) zc (addB (zb == -1) zb (addB (takesB ns za 0 j false) za g)))) w' := by
  have hj : j < n := by have := (List.getElem?_eq_some_iff.1 hz).1; have := h.base.2.2.2; omega
  have hp : ∃ G cap, nv = .slice (some ⟨G, 0, none⟩) n cap := by
    rcases Go.Joins.ownsRow_forms h.row with ⟨_, h0⟩ | ⟨g1, c1, h0⟩
    · omega
    · exact ⟨g1, c1, h0⟩
  obtain ⟨G, cap, rfl⟩ := hp
  obtain ⟨a0, a1, a2, a3, a4, a5, a6, a7⟩ := nd_at h.row hz
  dsimp only at a0 a1 a2 a3 a4 a5 a6 a7
  have hG := (h.row.lt G rfl).2
  obtain ⟨c0, c1, c2, lc, lH⟩ := h.facts
  have HS0 := Lib.hid h
  have HB0 := Lib.hid hb
  have SH := Lib.hid (fun w1 => shape_any zk w1)
  rw [k1, sA, sB, sBB, sBC] at SH
  have NM := Lib.hid (fun w1 => num_any zk za zb zc zx zi zs zt w1)
  rw [k2] at NM
  have TX := Lib.hid (fun w1 => texts_x zk za zb zc zx zi zs zt hs true false false false (shS zk) (shT zk) w1)
  rw [k3] at TX
  obtain ⟨bS, hS⟩ : ∃ bS, shS zk = bS := ⟨_, rfl⟩
  obtain ⟨bT, hT⟩ : ∃ bT, shT zk = bT := ⟨_, rfl⟩
  rw [hS, hT] at SH TX
  have hj0 : 0 ≤ (j : Int) := by omega
  have hjn : (j : Int) < (n : Int) := by omega
  have hjs : (j : Int) ≤ (n : Int) := by omega
  have hn0 : (n : Int) ≤ 512 := by omega
  clear h hb hz hs k1 k2 k3 sA sB sBB sBC hS hT hj c1 c2
  have HNE := Lib.hid (show w.heap.size ≠ H from by omega)
  obtain ⟨A, hA⟩ : ∃ A, (takesB ns za 0 j false) = A := ⟨_, rfl⟩
  obtain ⟨B, hBq⟩ : ∃ B, (zb == -1) = B := ⟨_, rfl⟩
  have HA := Lib.hid hA
  have HBq := Lib.hid hBq
  clear hA hBq
  have HLH := Lib.hid lH
  cases qc : (zc == -1)
  · go_enter Try.func54, Try.ntmps54
    go_wp2_with (first
      | ((go_at_call 84; (with_reducible refine (SH.out _).mono ?_); rintro e' _ ⟨rfl, d1, os1, rfl⟩))
      | ((go_at_call 85; (with_reducible refine (NM.out _).mono ?_); rintro e' _ ⟨rfl, d2, os2, rfl⟩))
      | ((go_at_call 86; (with_reducible refine (TX.out _).mono ?_); rintro e' _ ⟨rfl, d3, os3, rfl⟩)))
    refine (ptakes_any (show CkSt W c H (.slice (some ⟨G, 0, none⟩) n cap) ns fi n g _ from by repeat (first | (with_reducible exact HS0.out) | (with_reducible apply CkSt.alloc) | (with_reducible apply CkSt.more))) za 0 (j : Int) false (by omega) hjs (fun q hq => Nat.le_trans (HB0.out q hq) (by omega))).mono ?_
    rintro e1 w1 ⟨rfl, hck, hfr⟩
    rw [HA.out] at hck ⊢
    have HS1 := Lib.hid hck
    have K5 := Lib.hid (KB.kept (show KB w.heap.size #[.int .i64 zk, .int .i64 za, .int .i64 zb, .int .i64 zc, .int .i64 zx, .int .i64 zi, .string zs, .string zt] 52 _ from by repeat (first | exact KB.new _ _ _ | apply KB.alloc | apply KB.more)) hfr HNE.out)
    have K6 := Lib.hid (KB.kept (show KB (w.heap.size + 1 + os1.size) #[.bool true, .bool false, .bool false, .bool false, .bool bS, .bool bT] 110 _ from by repeat (first | exact KB.newAt _ _ _ (by simp [more_size]) | apply KB.alloc | apply KB.more)) hfr (show w.heap.size + 1 + os1.size ≠ H from by have := HLH.out; omega))
    clear hck hfr
    have HN6 := Lib.hid (show w.heap.size + 1 + os1.size ≠ H from by have := HLH.out; omega)
    have HN5 := Lib.hid HNE.out
    obtain ⟨k6, hk6⟩ : ∃ k6, w.heap.size + 1 + os1.size = k6 := ⟨_, rfl⟩
    rw [hk6] at K6 HN6 ⊢
    obtain ⟨k5, hk5⟩ : ∃ k5, w.heap.size = k5 := ⟨_, rfl⟩
    rw [hk5] at K5 HN5 ⊢
    clear hk5 hk6 a0 a1 a2 a3 a4 a5 a6 a7 hG
    clear c0 lc lH
    obtain ⟨c0, c1, c2, lc, lH⟩ := HS1.out.facts
    clear c1 c2
    have n0 := K5.out.cell 0 _ rfl
    have n1 := K5.out.cell 1 _ rfl
    have n2 := K5.out.cell 2 _ rfl
    have n3 := K5.out.cell 3 _ rfl
    have n4 := K5.out.cell 4 _ rfl
    have l5 := K5.out.lt
    have s0 := K6.out.cell 0 _ rfl
    have s1 := K6.out.cell 1 _ rfl
    have s2 := K6.out.cell 2 _ rfl
    have s3 := K6.out.cell 3 _ rfl
    have l6 := K6.out.lt
    have HB1 := Lib.hid (fun q hq => addB_le A za g q 8000 (HB0.out q hq))
    go_wp2_with fail
    have HS2 := Lib.hid (HS1.out.idB B zb (by rw [← HBq.out]; simp))
    have HB2 := Lib.hid (fun q hq => addB_le B zb (addB A za g) q 8001 (HB1.out q hq))
    have HS3 := Lib.hid (HS2.out.idB false zc (by simp))
    have HB3 := Lib.hid (fun q hq => addB_le false zc (addB B zb (addB A za g)) q 8002 (HB2.out q hq))
    cases qx : (zx == -1)
    rotate_left
    · have HXq := Lib.hid (show (zx == -1 || (decide (20 ≤ zk) && takesB ns zx ((j : Int) + 1) n true)) = true from by rw [qx, Bool.true_or])
      have HS4 := Lib.hid (HS3.out.idB true zx (fun _ => by simpa using qx))
      have HB4 := Lib.hid (fun q hq => addB_le true zx (addB false zc (addB B zb (addB A za g))) q 8003 (HB3.out q hq))
      refine wp_region_grow 19 114 [false, false, false, false, false, false, false, false, false, false, false, false, false, false, false, false, false, false, false] (by kernel_rfl) (by kernel_rfl) rfl ?_
      simp only [List.take_succ_cons, List.take_zero, List.drop_succ_cons, List.drop_zero]
      repeat (refine Lex.step rfl ?_; intro K hK; unfold StepG; go_simp; (first
          | refine hK _ ?_); clear hK K)
      refine Lex.nil fun WW hE => ?_
      obtain ⟨dd, oo, rfl⟩ := hE
      unfold FillH
      go_wp2_with fail
      try rw [ends_normal]
      try go_wp2_with fail
      all_goals
        go_ret
        exact ⟨ret_bool (by rw [HA.out, HBq.out, HXq.out]; first | rfl | (simp only [Bool.and_true, Bool.and_false, Bool.true_and, Bool.false_and]; done) | (cases A <;> cases B <;> cases X <;> first | rfl | contradiction | (exfalso; have h1 := HA.out; have h2 := HBq.out; revert h1 h2; simp [*])) | (cases A <;> cases B <;> first | rfl | contradiction | (exfalso; have h1 := HA.out; have h2 := HBq.out; revert h1 h2; simp [*]))), by rw [HA.out, HBq.out, HXq.out]; exact (show CkSt W c H (.slice (some ⟨G, 0, none⟩) n cap) ns fi n (addB true zx (addB false zc (addB B zb (addB A za g)))) _ from by repeat (first | (with_reducible exact HS4.out) | (with_reducible apply CkSt.alloc) | (with_reducible apply CkSt.more)))⟩
    by_cases hz20 : 20 ≤ zk
    rotate_left
    · have HXq := Lib.hid (show (zx == -1 || (decide (20 ≤ zk) && takesB ns zx ((j : Int) + 1) n true)) = false from by rw [qx, decide_eq_false hz20]; rfl)
      have hzd : decide (20 ≤ zk) = false := decide_eq_false hz20
      have HS4 := Lib.hid (HS3.out.idB false zx (by simp))
      have HB4 := Lib.hid (fun q hq => addB_le false zx (addB false zc (addB B zb (addB A za g))) q 8003 (HB3.out q hq))
      refine wp_region_grow 19 114 [false, false, false, false, false, false, false, false, false, false, false, false, false, false, false, false, false, false, false] (by kernel_rfl) (by kernel_rfl) rfl ?_
      simp only [List.take_succ_cons, List.take_zero, List.drop_succ_cons, List.drop_zero]
      repeat (refine Lex.step rfl ?_; intro K hK; unfold StepG; go_simp; (first
          | refine hK _ ?_); clear hK K)
      refine Lex.nil fun WW hE => ?_
      obtain ⟨dd, oo, rfl⟩ := hE
      unfold FillH
      go_wp2_with fail
      try rw [ends_normal]
      try go_wp2_with fail
      all_goals
        go_ret
        exact ⟨ret_bool (by rw [HA.out, HBq.out, HXq.out]; first | rfl | (simp only [Bool.and_true, Bool.and_false, Bool.true_and, Bool.false_and]; done) | (cases A <;> cases B <;> cases X <;> first | rfl | contradiction | (exfalso; have h1 := HA.out; have h2 := HBq.out; revert h1 h2; simp [*])) | (cases A <;> cases B <;> first | rfl | contradiction | (exfalso; have h1 := HA.out; have h2 := HBq.out; revert h1 h2; simp [*]))), by rw [HA.out, HBq.out, HXq.out]; exact (show CkSt W c H (.slice (some ⟨G, 0, none⟩) n cap) ns fi n (addB false zx (addB false zc (addB B zb (addB A za g)))) _ from by repeat (first | (with_reducible exact HS4.out) | (with_reducible apply CkSt.alloc) | (with_reducible apply CkSt.more)))⟩
    · obtain ⟨X, hX⟩ : ∃ X, takesB ns zx ((j : Int) + 1) n true = X := ⟨_, rfl⟩
      have HXq := Lib.hid (show (zx == -1 || (decide (20 ≤ zk) && takesB ns zx ((j : Int) + 1) n true)) = X from by rw [qx, decide_eq_true hz20, hX]; rfl)
      have HXr := Lib.hid hX
      have hzd : decide (20 ≤ zk) = true := decide_eq_true hz20
      clear hX
      refine wp_region_grow 19 114 [false, false, false, false, false, false, false, false, false, false, false, false, false, false, false, false, false, false, false] (by kernel_rfl) (by kernel_rfl) rfl ?_
      simp only [List.take_succ_cons, List.take_zero, List.drop_succ_cons, List.drop_zero]
      repeat (refine Lex.step rfl ?_; intro K hK; unfold StepG; go_simp; (first
          | refine hK _ ?_); clear hK K)
      refine Lex.nil fun WW hE => ?_
      obtain ⟨dd, oo, rfl⟩ := hE
      unfold FillH
      go_wp2_with fail
      refine (ptakes_any (show CkSt W c H (.slice (some ⟨G, 0, none⟩) n cap) ns fi n (addB false zc (addB B zb (addB A za g))) _ from by repeat (first | (with_reducible exact HS3.out) | (with_reducible apply CkSt.alloc) | (with_reducible apply CkSt.more))) zx ((j : Int) + 1) (n : Int) true (by omega) (by omega) (fun q hq => Nat.le_trans (HB3.out q hq) (by omega))).mono ?_
      rintro e4 w4 ⟨rfl, hck, hfr⟩
      rw [HXr.out] at hck ⊢
      have HS4 := Lib.hid hck
      have K5 := Lib.hid (KB.kept (show KB k5 #[.int .i64 zk, .int .i64 za, .int .i64 zb, .int .i64 zc, .int .i64 zx, .int .i64 zi, .string zs, .string zt] 52 _ from by repeat (first | exact K5.out | apply KB.alloc | apply KB.more)) hfr HN5.out)
      have K6 := Lib.hid (KB.kept (show KB k6 #[.bool true, .bool false, .bool false, .bool false, .bool bS, .bool bT] 110 _ from by repeat (first | exact K6.out | apply KB.alloc | apply KB.more)) hfr HN6.out)
      clear hck hfr
      clear c0 lc lH
      obtain ⟨c0, c1, c2, lc, lH⟩ := HS4.out.facts
      clear c1 c2
      clear n0 n1 n2 n3 n4 l5 s0 s1 s2 s3 l6
      have n0 := K5.out.cell 0 _ rfl
      have n1 := K5.out.cell 1 _ rfl
      have n2 := K5.out.cell 2 _ rfl
      have n3 := K5.out.cell 3 _ rfl
      have n4 := K5.out.cell 4 _ rfl
      have l5 := K5.out.lt
      have s0 := K6.out.cell 0 _ rfl
      have s1 := K6.out.cell 1 _ rfl
      have s2 := K6.out.cell 2 _ rfl
      have s3 := K6.out.cell 3 _ rfl
      have l6 := K6.out.lt
      have HB4 := Lib.hid (fun q hq => addB_le X zx (addB false zc (addB B zb (addB A za g))) q 8003 (HB3.out q hq))
      go_wp2_with fail
      try rw [ends_normal]
      try go_wp2_with fail
      all_goals
        go_ret
        exact ⟨ret_bool (by rw [HA.out, HBq.out, HXq.out]; first | rfl | (simp only [Bool.and_true, Bool.and_false, Bool.true_and, Bool.false_and]; done) | (cases A <;> cases B <;> cases X <;> first | rfl | contradiction | (exfalso; have h1 := HA.out; have h2 := HBq.out; revert h1 h2; simp [*])) | (cases A <;> cases B <;> first | rfl | contradiction | (exfalso; have h1 := HA.out; have h2 := HBq.out; revert h1 h2; simp [*]))), by rw [HA.out, HBq.out, HXq.out]; exact (show CkSt W c H (.slice (some ⟨G, 0, none⟩) n cap) ns fi n (addB X zx (addB false zc (addB B zb (addB A za g)))) _ from by repeat (first | (with_reducible exact HS4.out) | (with_reducible apply CkSt.alloc) | (with_reducible apply CkSt.more)))⟩
  · go_enter Try.func54, Try.ntmps54
    go_wp2_with (first
      | ((go_at_call 84; (with_reducible refine (SH.out _).mono ?_); rintro e' _ ⟨rfl, d1, os1, rfl⟩))
      | ((go_at_call 85; (with_reducible refine (NM.out _).mono ?_); rintro e' _ ⟨rfl, d2, os2, rfl⟩))
      | ((go_at_call 86; (with_reducible refine (TX.out _).mono ?_); rintro e' _ ⟨rfl, d3, os3, rfl⟩)))
    refine (ptakes_any (show CkSt W c H (.slice (some ⟨G, 0, none⟩) n cap) ns fi n g _ from by repeat (first | (with_reducible exact HS0.out) | (with_reducible apply CkSt.alloc) | (with_reducible apply CkSt.more))) za 0 (j : Int) false (by omega) hjs (fun q hq => Nat.le_trans (HB0.out q hq) (by omega))).mono ?_
    rintro e1 w1 ⟨rfl, hck, hfr⟩
    rw [HA.out] at hck ⊢
    have HS1 := Lib.hid hck
    have K5 := Lib.hid (KB.kept (show KB w.heap.size #[.int .i64 zk, .int .i64 za, .int .i64 zb, .int .i64 zc, .int .i64 zx, .int .i64 zi, .string zs, .string zt] 52 _ from by repeat (first | exact KB.new _ _ _ | apply KB.alloc | apply KB.more)) hfr HNE.out)
    have K6 := Lib.hid (KB.kept (show KB (w.heap.size + 1 + os1.size) #[.bool true, .bool false, .bool false, .bool false, .bool bS, .bool bT] 110 _ from by repeat (first | exact KB.newAt _ _ _ (by simp [more_size]) | apply KB.alloc | apply KB.more)) hfr (show w.heap.size + 1 + os1.size ≠ H from by have := HLH.out; omega))
    clear hck hfr
    have HN6 := Lib.hid (show w.heap.size + 1 + os1.size ≠ H from by have := HLH.out; omega)
    have HN5 := Lib.hid HNE.out
    obtain ⟨k6, hk6⟩ : ∃ k6, w.heap.size + 1 + os1.size = k6 := ⟨_, rfl⟩
    rw [hk6] at K6 HN6 ⊢
    obtain ⟨k5, hk5⟩ : ∃ k5, w.heap.size = k5 := ⟨_, rfl⟩
    rw [hk5] at K5 HN5 ⊢
    clear hk5 hk6 a0 a1 a2 a3 a4 a5 a6 a7 hG
    clear c0 lc lH
    obtain ⟨c0, c1, c2, lc, lH⟩ := HS1.out.facts
    clear c1 c2
    have n0 := K5.out.cell 0 _ rfl
    have n1 := K5.out.cell 1 _ rfl
    have n2 := K5.out.cell 2 _ rfl
    have n3 := K5.out.cell 3 _ rfl
    have n4 := K5.out.cell 4 _ rfl
    have l5 := K5.out.lt
    have s0 := K6.out.cell 0 _ rfl
    have s1 := K6.out.cell 1 _ rfl
    have s2 := K6.out.cell 2 _ rfl
    have s3 := K6.out.cell 3 _ rfl
    have l6 := K6.out.lt
    have HB1 := Lib.hid (fun q hq => addB_le A za g q 8000 (HB0.out q hq))
    go_wp2_with fail
    have HS2 := Lib.hid (HS1.out.idB B zb (by rw [← HBq.out]; simp))
    have HB2 := Lib.hid (fun q hq => addB_le B zb (addB A za g) q 8001 (HB1.out q hq))
    have HS3 := Lib.hid (HS2.out.idB true zc (fun _ => by simpa using qc))
    have HB3 := Lib.hid (fun q hq => addB_le true zc (addB B zb (addB A za g)) q 8002 (HB2.out q hq))
    cases qx : (zx == -1)
    rotate_left
    · have HXq := Lib.hid (show (zx == -1 || (decide (20 ≤ zk) && takesB ns zx ((j : Int) + 1) n true)) = true from by rw [qx, Bool.true_or])
      have HS4 := Lib.hid (HS3.out.idB true zx (fun _ => by simpa using qx))
      have HB4 := Lib.hid (fun q hq => addB_le true zx (addB true zc (addB B zb (addB A za g))) q 8003 (HB3.out q hq))
      refine wp_region_grow 19 114 [false, false, false, false, false, false, false, false, false, false, false, false, false, false, false, false, false, false, false] (by kernel_rfl) (by kernel_rfl) rfl ?_
      simp only [List.take_succ_cons, List.take_zero, List.drop_succ_cons, List.drop_zero]
      repeat (refine Lex.step rfl ?_; intro K hK; unfold StepG; go_simp; (first
          | refine hK _ ?_); clear hK K)
      refine Lex.nil fun WW hE => ?_
      obtain ⟨dd, oo, rfl⟩ := hE
      unfold FillH
      go_wp2_with fail
      try rw [ends_normal]
      try go_wp2_with fail
      all_goals
        go_ret
        exact ⟨ret_bool (by rw [HA.out, HBq.out, HXq.out]; first | rfl | (simp only [Bool.and_true, Bool.and_false, Bool.true_and, Bool.false_and]; done) | (cases A <;> cases B <;> cases X <;> first | rfl | contradiction | (exfalso; have h1 := HA.out; have h2 := HBq.out; revert h1 h2; simp [*])) | (cases A <;> cases B <;> first | rfl | contradiction | (exfalso; have h1 := HA.out; have h2 := HBq.out; revert h1 h2; simp [*]))), by rw [HA.out, HBq.out, HXq.out]; exact (show CkSt W c H (.slice (some ⟨G, 0, none⟩) n cap) ns fi n (addB true zx (addB true zc (addB B zb (addB A za g)))) _ from by repeat (first | (with_reducible exact HS4.out) | (with_reducible apply CkSt.alloc) | (with_reducible apply CkSt.more)))⟩
    by_cases hz20 : 20 ≤ zk
    rotate_left
    · have HXq := Lib.hid (show (zx == -1 || (decide (20 ≤ zk) && takesB ns zx ((j : Int) + 1) n true)) = false from by rw [qx, decide_eq_false hz20]; rfl)
      have hzd : decide (20 ≤ zk) = false := decide_eq_false hz20
      have HS4 := Lib.hid (HS3.out.idB false zx (by simp))
      have HB4 := Lib.hid (fun q hq => addB_le false zx (addB true zc (addB B zb (addB A za g))) q 8003 (HB3.out q hq))
      refine wp_region_grow 19 114 [false, false, false, false, false, false, false, false, false, false, false, false, false, false, false, false, false, false, false] (by kernel_rfl) (by kernel_rfl) rfl ?_
      simp only [List.take_succ_cons, List.take_zero, List.drop_succ_cons, List.drop_zero]
      repeat (refine Lex.step rfl ?_; intro K hK; unfold StepG; go_simp; (first
          | refine hK _ ?_); clear hK K)
      refine Lex.nil fun WW hE => ?_
      obtain ⟨dd, oo, rfl⟩ := hE
      unfold FillH
      go_wp2_with fail
      try rw [ends_normal]
      try go_wp2_with fail
      all_goals
        go_ret
        exact ⟨ret_bool (by rw [HA.out, HBq.out, HXq.out]; first | rfl | (simp only [Bool.and_true, Bool.and_false, Bool.true_and, Bool.false_and]; done) | (cases A <;> cases B <;> cases X <;> first | rfl | contradiction | (exfalso; have h1 := HA.out; have h2 := HBq.out; revert h1 h2; simp [*])) | (cases A <;> cases B <;> first | rfl | contradiction | (exfalso; have h1 := HA.out; have h2 := HBq.out; revert h1 h2; simp [*]))), by rw [HA.out, HBq.out, HXq.out]; exact (show CkSt W c H (.slice (some ⟨G, 0, none⟩) n cap) ns fi n (addB false zx (addB true zc (addB B zb (addB A za g)))) _ from by repeat (first | (with_reducible exact HS4.out) | (with_reducible apply CkSt.alloc) | (with_reducible apply CkSt.more)))⟩
    · obtain ⟨X, hX⟩ : ∃ X, takesB ns zx ((j : Int) + 1) n true = X := ⟨_, rfl⟩
      have HXq := Lib.hid (show (zx == -1 || (decide (20 ≤ zk) && takesB ns zx ((j : Int) + 1) n true)) = X from by rw [qx, decide_eq_true hz20, hX]; rfl)
      have HXr := Lib.hid hX
      have hzd : decide (20 ≤ zk) = true := decide_eq_true hz20
      clear hX
      refine wp_region_grow 19 114 [false, false, false, false, false, false, false, false, false, false, false, false, false, false, false, false, false, false, false] (by kernel_rfl) (by kernel_rfl) rfl ?_
      simp only [List.take_succ_cons, List.take_zero, List.drop_succ_cons, List.drop_zero]
      repeat (refine Lex.step rfl ?_; intro K hK; unfold StepG; go_simp; (first
          | refine hK _ ?_); clear hK K)
      refine Lex.nil fun WW hE => ?_
      obtain ⟨dd, oo, rfl⟩ := hE
      unfold FillH
      go_wp2_with fail
      refine (ptakes_any (show CkSt W c H (.slice (some ⟨G, 0, none⟩) n cap) ns fi n (addB true zc (addB B zb (addB A za g))) _ from by repeat (first | (with_reducible exact HS3.out) | (with_reducible apply CkSt.alloc) | (with_reducible apply CkSt.more))) zx ((j : Int) + 1) (n : Int) true (by omega) (by omega) (fun q hq => Nat.le_trans (HB3.out q hq) (by omega))).mono ?_
      rintro e4 w4 ⟨rfl, hck, hfr⟩
      rw [HXr.out] at hck ⊢
      have HS4 := Lib.hid hck
      have K5 := Lib.hid (KB.kept (show KB k5 #[.int .i64 zk, .int .i64 za, .int .i64 zb, .int .i64 zc, .int .i64 zx, .int .i64 zi, .string zs, .string zt] 52 _ from by repeat (first | exact K5.out | apply KB.alloc | apply KB.more)) hfr HN5.out)
      have K6 := Lib.hid (KB.kept (show KB k6 #[.bool true, .bool false, .bool false, .bool false, .bool bS, .bool bT] 110 _ from by repeat (first | exact K6.out | apply KB.alloc | apply KB.more)) hfr HN6.out)
      clear hck hfr
      clear c0 lc lH
      obtain ⟨c0, c1, c2, lc, lH⟩ := HS4.out.facts
      clear c1 c2
      clear n0 n1 n2 n3 n4 l5 s0 s1 s2 s3 l6
      have n0 := K5.out.cell 0 _ rfl
      have n1 := K5.out.cell 1 _ rfl
      have n2 := K5.out.cell 2 _ rfl
      have n3 := K5.out.cell 3 _ rfl
      have n4 := K5.out.cell 4 _ rfl
      have l5 := K5.out.lt
      have s0 := K6.out.cell 0 _ rfl
      have s1 := K6.out.cell 1 _ rfl
      have s2 := K6.out.cell 2 _ rfl
      have s3 := K6.out.cell 3 _ rfl
      have l6 := K6.out.lt
      have HB4 := Lib.hid (fun q hq => addB_le X zx (addB true zc (addB B zb (addB A za g))) q 8003 (HB3.out q hq))
      go_wp2_with fail
      try rw [ends_normal]
      try go_wp2_with fail
      all_goals
        go_ret
        exact ⟨ret_bool (by rw [HA.out, HBq.out, HXq.out]; first | rfl | (simp only [Bool.and_true, Bool.and_false, Bool.true_and, Bool.false_and]; done) | (cases A <;> cases B <;> cases X <;> first | rfl | contradiction | (exfalso; have h1 := HA.out; have h2 := HBq.out; revert h1 h2; simp [*])) | (cases A <;> cases B <;> first | rfl | contradiction | (exfalso; have h1 := HA.out; have h2 := HBq.out; revert h1 h2; simp [*]))), by rw [HA.out, HBq.out, HXq.out]; exact (show CkSt W c H (.slice (some ⟨G, 0, none⟩) n cap) ns fi n (addB X zx (addB true zc (addB B zb (addB A za g)))) _ from by repeat (first | (with_reducible exact HS4.out) | (with_reducible apply CkSt.alloc) | (with_reducible apply CkSt.more)))⟩
end Go.Proofs.Ytoaaklcbcbjaiaa
