/- Lemmas for the claim (texts Sc6, what its proof uses of them). -/
import Derived.Test.YtpoeknndkccbaaaGreatM18
set_option linter.unusedSimpArgs false
set_option linter.unusedVariables false
set_option maxHeartbeats 8000000
set_option maxRecDepth 20000
namespace Go.Proofs.YtpoeknndkccbaaaGreat
open Go.RowKit
variable {w : World} {B n size : Nat} {v : Value} {xs : List Value}
attribute [go_sem] more_more Array.size_append
theorem qbu {P : Program} {base : Nat} {tx e : TypeId} (hk : P.underlying tx = some (.slice e)) (h : w.ownsRow base e size v n xs) (h1 : ∀ u ∈ xs, u.oneCell' = true) : Src P size tx v n xs w := by
 rcases Go.Joins.ownsRow_forms h with ⟨rfl, rfl⟩ | ⟨g, c, rfl⟩
 · have : xs = [] := List.length_eq_zero_iff.1 (by have := h.1; omega)
   subst this
   exact Src.ofNil w hk 0
 · exact Src.ofSlice w hk ⟨g, 0, none⟩ n c xs h.1 (h.cells (g := g) rfl) h1
theorem qcp {b1 b2 : Nat} {e1 e2 : TypeId} {s1 s2 n1 n2 : Nat} {v1 v2 : Value} {x1 x2 : List Value} (h1 : w.ownsRow b1 e1 s1 v1 n1 x1) (h2 : w.ownsRow b2 e2 s2 v2 n2 x2) (hne : e1 ≠ e2) (g : Nat) (hg : v1.ownBlock = some g) : v2.ownBlock ≠ some g := by
 rcases h1.2 with ⟨rfl, _⟩ | ⟨g1, c1, u1, rfl, _, k1, _⟩
 · cases hg
 · rcases h2.2 with ⟨rfl, _⟩ | ⟨g2, c2, u2, rfl, _, k2, _⟩
   · intro h; cases h
   · intro h
     simp only [Value.ownBlock, Option.some.injEq] at hg h
     subst hg h
     rw [k1] at k2
     simp only [Option.some.injEq, Obj.cells.injEq] at k2
     exact hne k2.2.1
def stL (x : Stp) (v : Value) : List Value := [.int .i64 (x.nd : Int), .bool x.mkx, .string x.nm, v]
def qap (l : List (Stp × Value)) : List Value := l.flatMap fun q => stL q.1 q.2
theorem stCells_append (l m : List (Stp × Value)) : qap (l ++ m) = qap l ++ qap m := by simp [qap]
theorem stCells_one {l : List (Stp × Value)} (h : ∀ q ∈ l, q.2.oneCell' = true) : ∀ u ∈ qap l, u.oneCell' = true := by
 intro u hu
 obtain ⟨q, hq, hu⟩ := List.mem_flatMap.1 hu
 unfold stL at hu
 simp only [List.mem_cons, List.not_mem_nil, or_false] at hu
 rcases hu with rfl | rfl | rfl | rfl
 · rfl
 · rfl
 · rfl
 · exact h q hq
theorem own_one {base : Nat} {e : TypeId} (h : w.ownsRow base e size v n xs) : v.oneCell' = true := by
 rcases Go.Joins.ownsRow_forms h with ⟨rfl, _⟩ | ⟨g, c, rfl⟩ <;> rfl
/-- a row of steps -/
def StepsAt (B : Nat) (v : Value) (l : List Stp) (w : World) : Prop := ∃ vs : List (Stp × Value), vs.map Prod.fst = l ∧ w.ownsRow B 81 4 v l.length (qap vs) ∧ ∀ q ∈ vs, w.ownsRow 0 9 1 q.2 q.1.sn.length (strV q.1.sn)
theorem StepsAt.ext {l : List Stp} {w' : World} (h : StepsAt B v l w) (hx : Ext w w') : StepsAt B v l w' := by
 obtain ⟨vs, h1, h2, h3⟩ := h
 exact ⟨vs, h1, own_ext h2 hx, fun q hq => own_ext (h3 q hq) hx⟩
theorem StepsAt.mono {B' : Nat} {l : List Stp} (h : StepsAt B v l w) (hb : B' ≤ B) : StepsAt B' v l w := by
 obtain ⟨vs, h1, h2, h3⟩ := h
 exact ⟨vs, h1, h2.mono hb, h3⟩
theorem StepsAt.nil (B : Nat) (w : World) : StepsAt B (.slice none 0 0) [] w := ⟨[], rfl, World.ownsRow_nil _ _ _ _, fun q h => by cases h⟩
/-- steps more, as an append leaves them -/
theorem qcx {v' : Value} {vs ms : List (Stp × Value)} {l k : List Stp} {w w1 : World} (hl : vs.map Prod.fst = l) (hk : ms.map Prod.fst = k) (h2 : w.ownsRow B 81 4 v l.length (qap vs)) (h3 : ∀ q ∈ vs, w.ownsRow 0 9 1 q.2 q.1.sn.length (strV q.1.sn)) (hm : ∀ q ∈ ms, w.ownsRow 0 9 1 q.2 q.1.sn.length (strV q.1.sn))
  (hr : w1.ownsRow B 81 4 v' (l.length + k.length) (qap vs ++ qap ms)) (hg : w.grownBy w1 v.ownBlock) : StepsAt B v' (l ++ k) w1 := by
 have keep : ∀ q : Stp × Value, w.ownsRow 0 9 1 q.2 q.1.sn.length (strV q.1.sn) → w1.ownsRow 0 9 1 q.2 q.1.sn.length (strV q.1.sn) := fun q hq => qai hq fun k hk hlt => hg.block k hlt fun e => qcp h2 hq zax k e.symm hk
 refine ⟨vs ++ ms, by rw [List.map_append, hl, hk], by rw [stCells_append, List.length_append]; exact hr, fun q hq => ?_⟩
 rcases List.mem_append.1 hq with h | h
 · exact keep q (h3 q h)
 · exact keep q (hm q h)
theorem qcH {l : List (Stp × Value)} {w : World} (h : ∀ q ∈ l, w.ownsRow B 9 1 q.2 q.1.sn.length (strV q.1.sn)) : ∀ u ∈ qap l, u.oneCell' = true := stCells_one fun q hq => own_one (h q hq)
theorem stInfo : (Tryz.prog.info? 81).map (fun i => (i.zero, i.size, i.bytes)) = some (some (.agg #[.int .i64 0, .bool false, .string ⟨#[]⟩, .slice none 0 0]), 4, 56) := by kernel_rfl
theorem qaY (ns : List Nd) : ∀ (f : Nat) (i : Int) (n : Nat) (sn : List ByteArray), Tr ns i n → (qay ns f i sn).length ≤ n
 | 0, _, _, _, _ => by simp [qay]
 | f + 1, i, n, sn, t => by
  by_cases hi : i < 0
  · unfold qay; rw [if_pos hi]; simp
  · obtain ⟨j, z, na, nb, nc, nx, rfl, hz, ta, tb, tc, tx, rfl⟩ := qbM t zaf
    have h1 := qaY ns f _ _ sn ta
    have h2 := qaY ns f _ _ sn tb
    unfold qay
    rw [if_neg hi, Int.toNat_natCast, hz]
    dsimp only
    rw [List.length_append, List.length_append]
    split <;> simp <;> omega
theorem stepsB_len (ns : List Nd) : ∀ (f : Nat) (i : Int) (n : Nat) (sn : List ByteArray), Tr ns i n → (qau ns f i sn).length ≤ 2 * n
 | 0, _, _, _, _ => by simp [qau]
 | f + 1, i, n, sn, t => by
  by_cases hi : i < 0
  · unfold qau; rw [if_pos hi]; simp
  · obtain ⟨j, z, na, nb, nc, nx, rfl, hz, ta, tb, tc, tx, rfl⟩ := qbM t zaf
    have h1 := qaY ns f _ _ sn ta
    have h2 := fun s => qaY ns f _ _ s tb
    have h3 := fun s => stepsB_len ns f _ _ s tb
    have h4 := fun s => stepsB_len ns f _ _ s tc
    have h5 := fun s => stepsB_len ns f _ _ s tx
    unfold qau
    rw [if_neg hi, Int.toNat_natCast, hz]
    dsimp only
    rw [List.length_append, List.length_append]
    have h6 : (qaO (qay ns f) (qau ns f) j z sn).length ≤ 2 + 2 * nb + 2 * nc := by
     unfold qaO
     split
     · simp; omega
     split
     · simp; omega
     split
     · have := h2 sn; omega
     split
     · have := h3 sn; have := h4 sn; rw [List.length_append]; omega
     split
     · have := h3 (sn ++ [z.s] ++ [z.t]); simp at this ⊢; omega
     split
     · have := h3 sn; omega
     · simp
    have := h5 (if z.k = 20 then sn ++ [z.s] else sn)
    omega
theorem strV_one (l : List ByteArray) : ∀ u ∈ strV l, u.oneCell' = true := by
 intro u hu
 obtain ⟨s, _, rfl⟩ := List.mem_map.1 hu
 rfl
theorem own_empty (w : World) (B : Nat) (hB : B ≤ w.heap.size) (e : TypeId) (size : Nat) : (w.alloc (.cells #[] e (0, 0))).ownsRow B e size (.slice (some ⟨w.heap.size, 0, none⟩) 0 0) 0 [] :=
 ⟨by simp, Or.inr ⟨w.heap.size, 0, #[], rfl, hB, heap_alloc_new _ _, Nat.le_refl _, by unfold maxLen; omega, by simp, by simp⟩⟩
theorem qdJ {W w' : World} {e : TypeId} (h : Ext W w) (ho : w.ownsRow W.heap.size e size v n xs) (hg : w.grownBy w' v.ownBlock) : Ext W w' := h.grown hg fun k hk => (ho.lt k hk).1
theorem Lex.gap1 {P : Program} {ops : Array Oper} {w0 : World} {fin : Act → List (Tmp × Fact) → Prop} {o : Oper} {fl : List Bool} {rest : List Oper} {a : Act} {H : List (Tmp × Fact)} (t : Tmp) (Ψ : Fact) (t' : Tmp) (Ψ' : Fact) (ht : o.dst = some t) (hu : Upc Ψ) (hl : looks ops o H = [(t', Ψ')])
  (h : ∀ u d os, Ψ' u (more w0 d os) → StepG P ops o (a.put (some t') u) (more w0 d os) Ψ) (k : Lex P ops w0 fin fl rest a ((t, Ψ) :: H)) : Lex P ops w0 fin (false :: fl) (o :: rest) a H :=
 Lex.hole t Ψ ht hu (fun W hE => by rw [hl]; obtain ⟨d, os, rfl⟩ := hE; exact fun u hu => h u d os hu) k
theorem qcn {sv : Value} {l : List ByteArray} (h : w.ownsRow 0 9 1 sv l.length (strV l)) (hl : l.length ≤ 4000) (s : ByteArray) :
  Calls Tryz.prog 46 #[sv, .string s] w fun e w' => ∃ v, e = .returned v ∧ w'.ownsRow w.heap.size 9 1 v (l ++ [s]).length (strV (l ++ [s])) ∧ Ext w w' := by
 obtain ⟨i0, hi, hz0, hz1, hz2⟩ := info_parts strInfo
 have H := Lib.hid h
 have HL := Lib.hid hl
 obtain ⟨p, c, hv⟩ := qag h
 obtain ⟨n, hn⟩ : ∃ n, l.length = n := ⟨_, rfl⟩
 rw [hn] at hv
 have HN := Lib.hid hn
 have HV := Lib.hid hv
 clear h hl hn hv
 go_enter Tryz.func46, Tryz.ntmps46
 go_wp2_with (at_builtin; refine qas _ rfl _ _ 74 74 rfl w.heap.size 9 i0 (.string ⟨#[]⟩) 1 16 Tryz.underlying74 hi hz0 hz1 hz2 rfl zax (.slice (some ⟨w.heap.size, 0, none⟩) 0 0) 0 [] rfl (own_empty w w.heap.size (Nat.le_refl _) 9 1) sv l.length (strV l) rfl (qbu Tryz.underlying74 (H.out.alloc _) (strV_one l)) (by unfold maxLen; have := HL.out; omega) (by have := HL.out; omega) zay ?_)
 intro v1 w1 hown hgrow hblk
 have X1 := Lib.hid (qdJ ((Ext.refl w).alloc _) (own_empty w w.heap.size (Nat.le_refl _) 9 1) hgrow)
 have H1 := Lib.hid hown
 clear hown hgrow hblk
 go_wp2_with (at_builtin; refine wpList_append_own_at _ rfl _ _ 74 rfl w.heap.size 9 i0 (.string ⟨#[]⟩) 1 16 Tryz.underlying74 hi hz0 hz1 hz2 rfl zax v1 l.length (strV l) rfl (H1.out.alloc _) ⟨_, 0, none⟩ 1 1 [.string s] rfl rfl (qam zay) zdf (by unfold maxLen; have := HL.out; omega) (by have := HL.out; omega) (by simp; have := X1.out.size; omega) ?_)
 intro v2 w2 hown hgrow _ hblk
 have X2 := Lib.hid (qdJ (X1.out.alloc _) (H1.out.alloc _) hgrow)
 have H2 := Lib.hid hown
 clear hown hgrow hblk
 go_wp2_with fail
 go_ret
 refine ⟨_, rfl, ?_, X2.out⟩
 have := H2.out
 unfold strV at this ⊢
 rw [List.length_append, List.map_append]
 exact this
theorem qdC {ns : List Nd} {nv : Value} (fi : Int) : ∀ (f : Nat) (i : Int) (n : Nat) (sn : List ByteArray) (sv : Value) (w : World), Tr ns i n → n ≤ f → n ≤ 600 → w.ownsRow 0 42 8 nv ns.length (qad ns) → w.ownsRow 0 9 1 sv sn.length (strV sn) →
  Calls Tryz.prog 45 #[.agg #[nv, .int .i64 fi], .int .i64 i, sv] w fun e w' => ∃ v, e = .returned v ∧ StepsAt w.heap.size v (qay ns f i sn) w' ∧ Ext w w' := by
 intro f
 induction f with
 | zero =>
  intro i n sn sv w t hf hn hp hs
  have hi : i < 0 := by
   by_cases hi : i < 0
   · exact hi
   · obtain ⟨j, z, na, nb, nc, nx, rfl, hz, ta, tb, tc, tx, rfl⟩ := qbM t zaf
     omega
  obtain ⟨pn, cn, hpv⟩ := qag hp
  clear hp hs t
  go_enter Tryz.func45, Tryz.ntmps45
  go_wp2_with fail
  go_ret
  exact ⟨_, rfl, StepsAt.nil _ _, zaa⟩
 | succ f ih =>
  intro i n sn sv w t hf hn hp hs
  by_cases hi : i < 0
  · have HE : qay ns (f + 1) i sn = [] := by unfold qay; rw [if_pos hi]
    rw [HE]
    clear hp hs t ih HE
    go_enter Tryz.func45, Tryz.ntmps45
    go_wp2_with fail
    go_ret
    exact ⟨_, rfl, StepsAt.nil _ _, zaa⟩
  · obtain ⟨j, ⟨zk, za, zb, zc, zx, zi, zs, zt⟩, na, nb, nc, nx, rfl, hz, ta, tb, tc, tx, rfl⟩ := qbM t zaf
    dsimp only at ta tb
    have hj := (List.getElem?_eq_some_iff.1 hz).1
    obtain ⟨G, cap, rfl⟩ : ∃ G cap, nv = .slice (some ⟨G, 0, none⟩) ns.length cap := by
     rcases Go.Joins.ownsRow_forms hp with ⟨_, h0⟩ | ⟨g1, c1, h0⟩
     · omega
     · exact ⟨g1, c1, h0⟩
    obtain ⟨a0, a1, a2, a3, a4, a5, a6, a7⟩ := nd_at hp hz
    dsimp only at a0 a1 a2 a3 a4 a5 a6 a7
    have hG := (hp.lt G rfl).2
    have C1 := Lib.hid (fun W' (hx : Ext w W') => ih za na sn sv W' ta zaf zaf (own_ext hp hx) (own_ext hs hx))
    have C2 := Lib.hid (fun W' (hx : Ext w W') => ih zb nb sn sv W' tb zaf zaf (own_ext hp hx) (own_ext hs hx))
    have HST : RowKit.Hid (qay ns (f + 1) (j : Int) sn = (qay ns f za sn ++ qay ns f zb sn) ++ (if zk = 4 then [⟨j, false, zs, sn⟩] else [])) := Lib.hid (by rw [qay, if_neg hi, Int.toNat_natCast, hz])
    have la := qaY ns f za na sn ta
    have lb := qaY ns f zb nb sn tb
    obtain ⟨EA, hEA⟩ : ∃ x, qay ns f za sn = x := ⟨_, rfl⟩
    obtain ⟨EB, hEB⟩ : ∃ x, qay ns f zb sn = x := ⟨_, rfl⟩
    rw [hEA] at C1 la
    rw [hEB] at C2 lb
    rw [hEA, hEB] at HST
    have HLN := Lib.hid (show EA.length + EB.length ≤ 600 from by omega)
    obtain ⟨sp, sc, hsv⟩ := qag hs
    obtain ⟨sl, hsl⟩ : ∃ sl, sn.length = sl := ⟨_, rfl⟩
    rw [hsl] at hsv
    subst hsv
    have HP := Lib.hid hp
    have HS := Lib.hid hs
    obtain ⟨n1, hn1⟩ : ∃ n1, ns.length = n1 := ⟨_, rfl⟩
    have HN1 := Lib.hid hn1
    rw [hn1] at C1 C2 ⊢
    have hj0 : 0 ≤ (j : Int) := by omega
    have hjn : (j : Int) < (n1 : Int) := by omega
    obtain ⟨j0, hj, hy0, hy1, hy2⟩ := info_parts stInfo
    clear hsl ih hp hs t ta tb tc tx hz hf hn hi hEA hEB la lb hn1
    go_enter Tryz.func45, Tryz.ntmps45
    go_wp2_with fail
    refine qaa 9 39 [false, false, false, false, false, false, false, false, false] zae zae rfl ?_
    refine yac ?_
    iterate 4 (refine Lex.step rfl ?_; intro K hK; unfold StepG; go_simp; refine hK _ ?_; clear hK K)
    refine Lex.gap 20 (fun v W' => StepsAt (w.heap.size + 1 + 1) v EA W') rfl (fun v W W' hx h => h.ext hx) rfl (fun d os => ?_) ?_
    · unfold StepG
      go_simp
      exact (C1.out _ zaa).mono fun e w' ⟨v, he, h, hx⟩ => ⟨v, he, hx, h.mono (by first | (simp [more_size]; done) | (simp [more_size]; omega))⟩
    iterate 4 (refine Lex.step rfl ?_; intro K hK; unfold StepG; go_simp; refine hK _ ?_; clear hK K)
    refine Lex.nil fun WW hE => ?_
    obtain ⟨dd, oo, rfl⟩ := hE
    intro u1 hu1
    have U1 := Lib.hid hu1
    clear hu1
    unfold FillH
    go_simp
    go_wp2_with (first
     | ((with_reducible refine (C2.out _ zaa).mono ?_); rintro e' w2 ⟨u2, rfl, hu2, hx2⟩; obtain ⟨vs1, hv1, ho1, hs1⟩ := U1.out.ext hx2; obtain ⟨vs2, hv2, ho2, hs2⟩ := hu2; have O1 := Lib.hid ho1; have S1 := Lib.hid hs1; have V1 := Lib.hid hv1; have O2 := Lib.hid ho2; have S2 := Lib.hid hs2; have V2 := Lib.hid hv2; have X2 := Lib.hid (show Ext ((w.alloc (.cells #[.slice (some ⟨G, 0, none⟩) n1 cap, .int .i64 fi] 24 (0, 0))).alloc (.cells #[.int .i64 zk, .int .i64 za, .int .i64 zb, .int .i64 zc, .int .i64 zx, .int .i64 zi, .string zs, .string zt] 42 (0, 0))) w2 from Ext.trans zaa hx2); have O2 := Lib.hid (O2.out.mono (show w.heap.size + 1 + 1 ≤ _ from by first | (simp [more_size]; done) | (simp [more_size]; omega))); clear hx2 ho1 hs1 hv1 ho2 hs2 hv2)
     | (at_builtin; refine qas _ rfl _ _ 78 78 rfl (w.heap.size + 1 + 1) 81 j0 (.agg #[.int .i64 0, .bool false, .string ⟨#[]⟩, .slice none 0 0]) 4 56 Tryz.underlying78 hj hy0 hy1 hy2 rfl zax u1 EA.length (qap vs1) rfl O1.out u2 EB.length (qap vs2) rfl (qbu Tryz.underlying78 O2.out (qcH S2.out)) (by unfold maxLen; have := HLN.out; omega) (by have := HLN.out; omega) (by have := X2.out.size; simpa using this) ?_))
    intro v3 w3 hown hgrow _
    have ST3 := Lib.hid (qcx V1.out V2.out O1.out S1.out S2.out hown hgrow)
    obtain ⟨vs3, hv3, ho3, hs3⟩ := ST3.out
    have O3 := Lib.hid ho3
    have S3 := Lib.hid hs3
    have V3 := Lib.hid hv3
    clear ho3 hs3 hv3
    have X3 := Lib.hid (X2.out.grown hgrow fun k hk => by have := (O1.out.lt k hk).1; simpa using this)
    clear hown hgrow
    have K0 := Lib.hid ((KB.newAt (k := w.heap.size + 1) (w.alloc (.cells #[.slice (some ⟨G, 0, none⟩) n1 cap, .int .i64 fi] 24 (0, 0))) #[.int .i64 zk, .int .i64 za, .int .i64 zb, .int .i64 zc, .int .i64 zx, .int .i64 zi, .string zs, .string zt] 42 zay).of_ext X3.out)
    have XW := Lib.hid (show Ext w ((w.alloc (.cells #[.slice (some ⟨G, 0, none⟩) n1 cap, .int .i64 fi] 24 (0, 0))).alloc (.cells #[.int .i64 zk, .int .i64 za, .int .i64 zb, .int .i64 zc, .int .i64 zx, .int .i64 zi, .string zs, .string zt] 42 (0, 0))) from zaa)
    have hl3 := K0.out.lt
    have y0 := K0.out.cell 0 _ rfl
    have y6 := K0.out.cell 6 _ rfl
    go_wp2_with fail
    rw [ends_normal]
    by_cases hk : zk = 4
    · have HST2 := Lib.hid (HST.out.trans (by rw [if_pos hk]))
      subst hk
      clear HST C1 C2
      go_wp2_with (at_builtin; refine wpList_append_own_at _ rfl _ _ 78 rfl (w.heap.size + 1 + 1) 81 j0 (.agg #[.int .i64 0, .bool false, .string ⟨#[]⟩, .slice none 0 0]) 4 56 Tryz.underlying78 hj hy0 hy1 hy2 rfl zax v3 (EA ++ EB).length (qap vs3) rfl (O3.out.alloc _) ⟨_, 0, none⟩ 1 1 [.int .i64 (j : Int), .bool false, .string zs, .slice sp sl sc] rfl rfl (qam (by first | (simp; done) | simp [more_size])) zde (by have := HLN.out; rw [List.length_append]; unfold maxLen; omega) (by have := HLN.out; rw [List.length_append]; omega) (by have := X3.out.size; simp at this ⊢; omega) ?_)
      intro v4 w4 hown hgrow _ _
      have ST4 := Lib.hid (qcx (ms := [(⟨j, false, zs, sn⟩, .slice sp sl sc)]) (k := [⟨j, false, zs, sn⟩]) V3.out rfl (O3.out.alloc _) (fun q hq => own_ext (S3.out q hq) zaa) (fun q hq => by rcases List.mem_singleton.1 hq with rfl; exact own_ext HS.out (XW.out.trans (X3.out.trans zaa))) (by rw [List.length_append]; exact hown) hgrow)
      have X4 := Lib.hid ((X3.out.trans (show Ext w3 (w3.alloc _) from zaa)).grown hgrow fun k hk => by have := (O3.out.lt k hk).1; simpa using this)
      clear hown hgrow
      go_wp2_with fail
      go_ret
      exact ⟨_, rfl, by rw [HST2.out]; exact ST4.out.mono zaf, XW.out.trans X4.out⟩
    · have HST2 := Lib.hid (HST.out.trans (by rw [if_neg hk, List.append_nil]))
      have hk2 : (zk == 4) = false := by simpa using hk
      clear HST C1 C2 hk
      go_wp2_with fail
      go_ret
      exact ⟨_, rfl, by rw [HST2.out]; exact ST3.out.mono zaf, XW.out.trans X3.out⟩
end Go.Proofs.YtpoeknndkccbaaaGreat
