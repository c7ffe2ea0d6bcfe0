/- Lemmas. -/
import Derived.Test.YtpoeknndkccbaaaGreatO15
set_option linter.unusedSimpArgs false
set_option linter.unusedVariables false
set_option maxHeartbeats 16000000
set_option maxRecDepth 20000
namespace Go.Proofs.YtpoeknndkccbaaaGreat
open Go.RowKit
variable {w : World} {B n size : Nat} {v : Value} {xs : List Value}
attribute [go_sem] more_more Array.size_append
theorem qbL {P : Program} {base : Nat} {tx e : TypeId} (hk : P.underlying tx = some (.slice e)) (h : w.ownsRow base e size v n xs) (h1 : ∀ u ∈ xs, u.oneCell' = true) : Src P size tx v n xs w := by
 rcases Go.Joins.ownsRow_forms h with ⟨rfl, rfl⟩ | ⟨g, c, rfl⟩
 · have : xs = [] := List.length_eq_zero_iff.1 (by have := h.1; omega)
   subst this
   exact Src.ofNil w hk 0
 · exact Src.ofSlice w hk ⟨g, 0, none⟩ n c xs h.1 (h.cells (g := g) rfl) h1
theorem qcM {b1 b2 : Nat} {e1 e2 : TypeId} {s1 s2 n1 n2 : Nat} {v1 v2 : Value} {x1 x2 : List Value} (h1 : w.ownsRow b1 e1 s1 v1 n1 x1) (h2 : w.ownsRow b2 e2 s2 v2 n2 x2) (hne : e1 ≠ e2) (g : Nat) (hg : v1.ownBlock = some g) : v2.ownBlock ≠ some g := by
 rcases h1.2 with ⟨rfl, _⟩ | ⟨g1, c1, u1, rfl, _, k1, _⟩
 · cases hg
 · rcases h2.2 with ⟨rfl, _⟩ | ⟨g2, c2, u2, rfl, _, k2, _⟩
   · intro h; cases h
   · intro h
     simp only [Value.ownBlock, Option.some.injEq] at hg h
     subst hg h
     rw [k1] at k2
     simp only [Option.some.injEq, Obj.cells.injEq] at k2
     exact hne k2.2.1
def stL (x : Stp) (v : Value) : List Value := [.int .i64 (x.nd : Int), .bool x.mkx, .string x.nm, v]
def qal (l : List (Stp × Value)) : List Value := l.flatMap fun q => stL q.1 q.2
theorem stCells_append (l m : List (Stp × Value)) : qal (l ++ m) = qal l ++ qal m := by simp [qal]
theorem stCells_one {l : List (Stp × Value)} (h : ∀ q ∈ l, q.2.oneCell' = true) : ∀ u ∈ qal l, u.oneCell' = true := by
 intro u hu
 obtain ⟨q, hq, hu⟩ := List.mem_flatMap.1 hu
 unfold stL at hu
 simp only [List.mem_cons, List.not_mem_nil, or_false] at hu
 rcases hu with rfl | rfl | rfl | rfl
 · rfl
 · rfl
 · rfl
 · exact h q hq
theorem own_one {base : Nat} {e : TypeId} (h : w.ownsRow base e size v n xs) : v.oneCell' = true := by
 rcases Go.Joins.ownsRow_forms h with ⟨rfl, _⟩ | ⟨g, c, rfl⟩ <;> rfl
def StepsAt (B : Nat) (v : Value) (l : List Stp) (w : World) : Prop := ∃ vs : List (Stp × Value), vs.map Prod.fst = l ∧ w.ownsRow B 81 4 v l.length (qal vs) ∧ ∀ q ∈ vs, w.ownsRow 0 9 1 q.2 q.1.sn.length (strV q.1.sn)
theorem StepsAt.ext {l : List Stp} {w' : World} (h : StepsAt B v l w) (hx : Ext w w') : StepsAt B v l w' := by
 obtain ⟨vs, h1, h2, h3⟩ := h
 exact ⟨vs, h1, own_ext h2 hx, fun q hq => own_ext (h3 q hq) hx⟩
theorem StepsAt.mono {B' : Nat} {l : List Stp} (h : StepsAt B v l w) (hb : B' ≤ B) : StepsAt B' v l w := by
 obtain ⟨vs, h1, h2, h3⟩ := h
 exact ⟨vs, h1, h2.mono hb, h3⟩
theorem StepsAt.nil (B : Nat) (w : World) : StepsAt B (.slice none 0 0) [] w := ⟨[], rfl, World.ownsRow_nil _ _ _ _, fun q h => by cases h⟩
theorem qdo {v' : Value} {vs ms : List (Stp × Value)} {l k : List Stp} {w w1 : World} (hl : vs.map Prod.fst = l) (hk : ms.map Prod.fst = k) (h2 : w.ownsRow B 81 4 v l.length (qal vs)) (h3 : ∀ q ∈ vs, w.ownsRow 0 9 1 q.2 q.1.sn.length (strV q.1.sn)) (hm : ∀ q ∈ ms, w.ownsRow 0 9 1 q.2 q.1.sn.length (strV q.1.sn))
  (hr : w1.ownsRow B 81 4 v' (l.length + k.length) (qal vs ++ qal ms)) (hg : w.grownBy w1 v.ownBlock) : StepsAt B v' (l ++ k) w1 := by
 have keep : ∀ q : Stp × Value, w.ownsRow 0 9 1 q.2 q.1.sn.length (strV q.1.sn) → w1.ownsRow 0 9 1 q.2 q.1.sn.length (strV q.1.sn) := fun q hq => qag hq fun k hk hlt => hg.block k hlt fun e => qcM h2 hq zal k e.symm hk
 refine ⟨vs ++ ms, by rw [List.map_append, hl, hk], by rw [stCells_append, List.length_append]; exact hr, fun q hq => ?_⟩
 rcases List.mem_append.1 hq with h | h
 · exact keep q (h3 q h)
 · exact keep q (hm q h)
theorem qdw {l : List (Stp × Value)} {w : World} (h : ∀ q ∈ l, w.ownsRow B 9 1 q.2 q.1.sn.length (strV q.1.sn)) : ∀ u ∈ qal l, u.oneCell' = true := stCells_one fun q hq => own_one (h q hq)
theorem stInfo : (Tryz.prog.info? 81).map (fun i => (i.zero, i.size, i.bytes)) = some (some (.agg #[.int .i64 0, .bool false, .string ⟨#[]⟩, .slice none 0 0]), 4, 56) := by kernel_rfl
theorem qbb (ns : List Nd) : ∀ (f : Nat) (i : Int) (n : Nat) (sn : List ByteArray), Tr ns i n → (qar ns f i sn).length ≤ n
 | 0, _, _, _, _ => by simp [qar]
 | f + 1, i, n, sn, t => by
  by_cases hi : i < 0
  · unfold qar; rw [if_pos hi]; simp
  · obtain ⟨j, z, na, nb, nc, nx, rfl, hz, ta, tb, tc, tx, rfl⟩ := qce t zae
    have h1 := qbb ns f _ _ sn ta
    have h2 := qbb ns f _ _ sn tb
    unfold qar
    rw [if_neg hi, Int.toNat_natCast, hz]
    dsimp only
    rw [List.length_append, List.length_append]
    split <;> simp <;> omega
theorem stepsB_len (ns : List Nd) : ∀ (f : Nat) (i : Int) (n : Nat) (sn : List ByteArray), Tr ns i n → (qan ns f i sn).length ≤ 2 * n
 | 0, _, _, _, _ => by simp [qan]
 | f + 1, i, n, sn, t => by
  by_cases hi : i < 0
  · unfold qan; rw [if_pos hi]; simp
  · obtain ⟨j, z, na, nb, nc, nx, rfl, hz, ta, tb, tc, tx, rfl⟩ := qce t zae
    have h1 := qbb ns f _ _ sn ta
    have h2 := fun s => qbb ns f _ _ s tb
    have h3 := fun s => stepsB_len ns f _ _ s tb
    have h4 := fun s => stepsB_len ns f _ _ s tc
    have h5 := fun s => stepsB_len ns f _ _ s tx
    unfold qan
    rw [if_neg hi, Int.toNat_natCast, hz]
    dsimp only
    rw [List.length_append, List.length_append]
    have h6 : (qaI (qar ns f) (qan ns f) j z sn).length ≤ 2 + 2 * nb + 2 * nc := by
     unfold qaI
     split
     · simp; omega
     split
     · simp; omega
     split
     · have := h2 sn; omega
     split
     · have := h3 sn; have := h4 sn; rw [List.length_append]; omega
     split
     · have := h3 (sn ++ [z.s] ++ [z.t]); simp at this ⊢; omega
     split
     · have := h3 sn; omega
     · simp
    have := h5 (if z.k = 20 then sn ++ [z.s] else sn)
    omega
theorem strV_one (l : List ByteArray) : ∀ u ∈ strV l, u.oneCell' = true := by
 intro u hu
 obtain ⟨s, _, rfl⟩ := List.mem_map.1 hu
 rfl
theorem own_empty (w : World) (B : Nat) (hB : B ≤ w.heap.size) (e : TypeId) (size : Nat) : (w.alloc (.cells #[] e (0, 0))).ownsRow B e size (.slice (some ⟨w.heap.size, 0, none⟩) 0 0) 0 [] :=
 ⟨by simp, Or.inr ⟨w.heap.size, 0, #[], rfl, hB, heap_alloc_new _ _, Nat.le_refl _, by unfold maxLen; omega, by simp, by simp⟩⟩
theorem qeU {W w' : World} {e : TypeId} (h : Ext W w) (ho : w.ownsRow W.heap.size e size v n xs) (hg : w.grownBy w' v.ownBlock) : Ext W w' := h.grown hg fun k hk => (ho.lt k hk).1
theorem Lex.gap1 {P : Program} {ops : Array Oper} {w0 : World} {fin : Act → List (Tmp × Fact) → Prop} {o : Oper} {fl : List Bool} {rest : List Oper} {a : Act} {H : List (Tmp × Fact)} (t : Tmp) (Ψ : Fact) (t' : Tmp) (Ψ' : Fact) (ht : o.dst = some t) (hu : Upc Ψ) (hl : looks ops o H = [(t', Ψ')])
  (h : ∀ u d os, Ψ' u (more w0 d os) → StepG P ops o (a.put (some t') u) (more w0 d os) Ψ) (k : Lex P ops w0 fin fl rest a ((t, Ψ) :: H)) : Lex P ops w0 fin (false :: fl) (o :: rest) a H :=
 Lex.hole t Ψ ht hu (fun W hE => by rw [hl]; obtain ⟨d, os, rfl⟩ := hE; exact fun u hu => h u d os hu) k
theorem qdg {sv : Value} {l : List ByteArray} (h : w.ownsRow 0 9 1 sv l.length (strV l)) (hl : l.length ≤ 4000) (s : ByteArray) :
  Calls Tryz.prog 46 #[sv, .string s] w fun e w' => ∃ v, e = .returned v ∧ w'.ownsRow w.heap.size 9 1 v (l ++ [s]).length (strV (l ++ [s])) ∧ Ext w w' := by
 obtain ⟨i0, hi, hz0, hz1, hz2⟩ := info_parts strInfo
 have H := Lib.hid h
 have HL := Lib.hid hl
 obtain ⟨p, c, hv⟩ := qae h
 obtain ⟨n, hn⟩ : ∃ n, l.length = n := ⟨_, rfl⟩
 rw [hn] at hv
 have HN := Lib.hid hn
 have HV := Lib.hid hv
 clear h hl hn hv
 go_enter Tryz.func46, Tryz.ntmps46
 go_wp2_with (at_builtin; refine qam _ rfl _ _ 74 74 rfl w.heap.size 9 i0 (.string ⟨#[]⟩) 1 16 Tryz.underlying74 hi hz0 hz1 hz2 rfl zal (.slice (some ⟨w.heap.size, 0, none⟩) 0 0) 0 [] rfl (own_empty w w.heap.size (Nat.le_refl _) 9 1) sv l.length (strV l) rfl (qbL Tryz.underlying74 (H.out.alloc _) (strV_one l)) (by unfold maxLen; have := HL.out; omega) (by have := HL.out; omega) zan ?_)
 intro v1 w1 hown hgrow hblk
 have X1 := Lib.hid (qeU ((Ext.refl w).alloc _) (own_empty w w.heap.size (Nat.le_refl _) 9 1) hgrow)
 have H1 := Lib.hid hown
 clear hown hgrow hblk
 go_wp2_with (at_builtin; refine wpList_append_own_at _ rfl _ _ 74 rfl w.heap.size 9 i0 (.string ⟨#[]⟩) 1 16 Tryz.underlying74 hi hz0 hz1 hz2 rfl zal v1 l.length (strV l) rfl (H1.out.alloc _) ⟨_, 0, none⟩ 1 1 [.string s] rfl rfl (qao zan) zbv (by unfold maxLen; have := HL.out; omega) (by have := HL.out; omega) (by simp; have := X1.out.size; omega) ?_)
 intro v2 w2 hown hgrow _ hblk
 have X2 := Lib.hid (qeU (X1.out.alloc _) (H1.out.alloc _) hgrow)
 have H2 := Lib.hid hown
 clear hown hgrow hblk
 go_wp2_with fail
 go_ret
 refine ⟨_, rfl, ?_, X2.out⟩
 have := H2.out
 unfold strV at this ⊢
 rw [List.length_append, List.map_append]
 exact this
theorem qeQ {ns : List Nd} {nv : Value} (fi : Int) : ∀ (f : Nat) (i : Int) (n : Nat) (sn : List ByteArray) (sv : Value) (w : World), Tr ns i n → n ≤ f → n ≤ 600 → w.ownsRow 0 42 8 nv ns.length (qac ns) → w.ownsRow 0 9 1 sv sn.length (strV sn) →
  Calls Tryz.prog 45 #[.agg #[nv, .int .i64 fi], .int .i64 i, sv] w fun e w' => ∃ v, e = .returned v ∧ StepsAt w.heap.size v (qar ns f i sn) w' ∧ Ext w w' := by
 intro f
 induction f with
 | zero =>
  intro i n sn sv w t hf hn hp hs
  have hi : i < 0 := by
   by_cases hi : i < 0
   · exact hi
   · obtain ⟨j, z, na, nb, nc, nx, rfl, hz, ta, tb, tc, tx, rfl⟩ := qce t zae
     omega
  obtain ⟨pn, cn, hpv⟩ := qae hp
  clear hp hs t
  go_enter Tryz.func45, Tryz.ntmps45
  go_wp2_with fail
  go_ret
  exact ⟨_, rfl, StepsAt.nil _ _, zaa⟩
 | succ f ih =>
  intro i n sn sv w t hf hn hp hs
  by_cases hi : i < 0
  · have HE : qar ns (f + 1) i sn = [] := by unfold qar; rw [if_pos hi]
    rw [HE]
    clear hp hs t ih HE
    go_enter Tryz.func45, Tryz.ntmps45
    go_wp2_with fail
    go_ret
    exact ⟨_, rfl, StepsAt.nil _ _, zaa⟩
  · obtain ⟨j, ⟨zk, za, zb, zc, zx, zi, zs, zt⟩, na, nb, nc, nx, rfl, hz, ta, tb, tc, tx, rfl⟩ := qce t zae
    dsimp only at ta tb
    have hj := (List.getElem?_eq_some_iff.1 hz).1
    obtain ⟨G, cap, rfl⟩ : ∃ G cap, nv = .slice (some ⟨G, 0, none⟩) ns.length cap := by
     rcases Go.Joins.ownsRow_forms hp with ⟨_, h0⟩ | ⟨g1, c1, h0⟩
     · omega
     · exact ⟨g1, c1, h0⟩
    obtain ⟨a0, a1, a2, a3, a4, a5, a6, a7⟩ := nd_at hp hz
    dsimp only at a0 a1 a2 a3 a4 a5 a6 a7
    have hG := (hp.lt G rfl).2
    have C1 := Lib.hid (fun W' (hx : Ext w W') => ih za na sn sv W' ta zae zae (own_ext hp hx) (own_ext hs hx))
    have C2 := Lib.hid (fun W' (hx : Ext w W') => ih zb nb sn sv W' tb zae zae (own_ext hp hx) (own_ext hs hx))
    have HST : RowKit.Hid (qar ns (f + 1) (j : Int) sn = (qar ns f za sn ++ qar ns f zb sn) ++ (if zk = 4 then [⟨j, false, zs, sn⟩] else [])) := Lib.hid (by rw [qar, if_neg hi, Int.toNat_natCast, hz])
    have la := qbb ns f za na sn ta
    have lb := qbb ns f zb nb sn tb
    obtain ⟨EA, hEA⟩ : ∃ x, qar ns f za sn = x := ⟨_, rfl⟩
    obtain ⟨EB, hEB⟩ : ∃ x, qar ns f zb sn = x := ⟨_, rfl⟩
    rw [hEA] at C1 la
    rw [hEB] at C2 lb
    rw [hEA, hEB] at HST
    have HLN := Lib.hid (show EA.length + EB.length ≤ 600 from by omega)
    obtain ⟨sp, sc, hsv⟩ := qae hs
    obtain ⟨sl, hsl⟩ : ∃ sl, sn.length = sl := ⟨_, rfl⟩
    rw [hsl] at hsv
    subst hsv
    have HP := Lib.hid hp
    have HS := Lib.hid hs
    obtain ⟨n1, hn1⟩ : ∃ n1, ns.length = n1 := ⟨_, rfl⟩
    have HN1 := Lib.hid hn1
    rw [hn1] at C1 C2 ⊢
    have hj0 : 0 ≤ (j : Int) := by omega
    have hjn : (j : Int) < (n1 : Int) := by omega
    obtain ⟨j0, hj, hy0, hy1, hy2⟩ := info_parts stInfo
    clear hsl ih hp hs t ta tb tc tx hz hf hn hi hEA hEB la lb hn1
    go_enter Tryz.func45, Tryz.ntmps45
    go_wp2_with fail
    refine qaa 9 39 [false, false, false, false, false, false, false, false, false] zad zad rfl ?_
    refine yac ?_
    iterate 4 (refine Lex.step rfl ?_; intro K hK; unfold StepG; go_simp; refine hK _ ?_; clear hK K)
    refine Lex.gap 20 (fun v W' => StepsAt (w.heap.size + 1 + 1) v EA W') rfl (fun v W W' hx h => h.ext hx) rfl (fun d os => ?_) ?_
    · unfold StepG
      go_simp
      exact (C1.out _ zaa).mono fun e w' ⟨v, he, h, hx⟩ => ⟨v, he, hx, h.mono (by first | (simp [more_size]; done) | (simp [more_size]; omega))⟩
    iterate 4 (refine Lex.step rfl ?_; intro K hK; unfold StepG; go_simp; refine hK _ ?_; clear hK K)
    refine Lex.nil fun WW hE => ?_
    obtain ⟨dd, oo, rfl⟩ := hE
    intro u1 hu1
    have U1 := Lib.hid hu1
    clear hu1
    unfold FillH
    go_simp
    go_wp2_with (first
     | ((with_reducible refine (C2.out _ zaa).mono ?_); rintro e' w2 ⟨u2, rfl, hu2, hx2⟩; obtain ⟨vs1, hv1, ho1, hs1⟩ := U1.out.ext hx2; obtain ⟨vs2, hv2, ho2, hs2⟩ := hu2; have O1 := Lib.hid ho1; have S1 := Lib.hid hs1; have V1 := Lib.hid hv1; have O2 := Lib.hid ho2; have S2 := Lib.hid hs2; have V2 := Lib.hid hv2; have X2 := Lib.hid (show Ext ((w.alloc (.cells #[.slice (some ⟨G, 0, none⟩) n1 cap, .int .i64 fi] 24 (0, 0))).alloc (.cells #[.int .i64 zk, .int .i64 za, .int .i64 zb, .int .i64 zc, .int .i64 zx, .int .i64 zi, .string zs, .string zt] 42 (0, 0))) w2 from Ext.trans zaa hx2); have O2 := Lib.hid (O2.out.mono (show w.heap.size + 1 + 1 ≤ _ from by first | (simp [more_size]; done) | (simp [more_size]; omega))); clear hx2 ho1 hs1 hv1 ho2 hs2 hv2)
     | (at_builtin; refine qam _ rfl _ _ 78 78 rfl (w.heap.size + 1 + 1) 81 j0 (.agg #[.int .i64 0, .bool false, .string ⟨#[]⟩, .slice none 0 0]) 4 56 Tryz.underlying78 hj hy0 hy1 hy2 rfl zal u1 EA.length (qal vs1) rfl O1.out u2 EB.length (qal vs2) rfl (qbL Tryz.underlying78 O2.out (qdw S2.out)) (by unfold maxLen; have := HLN.out; omega) (by have := HLN.out; omega) (by have := X2.out.size; simpa using this) ?_))
    intro v3 w3 hown hgrow _
    have ST3 := Lib.hid (qdo V1.out V2.out O1.out S1.out S2.out hown hgrow)
    obtain ⟨vs3, hv3, ho3, hs3⟩ := ST3.out
    have O3 := Lib.hid ho3
    have S3 := Lib.hid hs3
    have V3 := Lib.hid hv3
    clear ho3 hs3 hv3
    have X3 := Lib.hid (X2.out.grown hgrow fun k hk => by have := (O1.out.lt k hk).1; simpa using this)
    clear hown hgrow
    have K0 := Lib.hid ((KB.newAt (k := w.heap.size + 1) (w.alloc (.cells #[.slice (some ⟨G, 0, none⟩) n1 cap, .int .i64 fi] 24 (0, 0))) #[.int .i64 zk, .int .i64 za, .int .i64 zb, .int .i64 zc, .int .i64 zx, .int .i64 zi, .string zs, .string zt] 42 zan).of_ext X3.out)
    have XW := Lib.hid (show Ext w ((w.alloc (.cells #[.slice (some ⟨G, 0, none⟩) n1 cap, .int .i64 fi] 24 (0, 0))).alloc (.cells #[.int .i64 zk, .int .i64 za, .int .i64 zb, .int .i64 zc, .int .i64 zx, .int .i64 zi, .string zs, .string zt] 42 (0, 0))) from zaa)
    have hl3 := K0.out.lt
    have y0 := K0.out.cell 0 _ rfl
    have y6 := K0.out.cell 6 _ rfl
    go_wp2_with fail
    rw [ends_normal]
    by_cases hk : zk = 4
    · have HST2 := Lib.hid (HST.out.trans (by rw [if_pos hk]))
      subst hk
      clear HST C1 C2
      go_wp2_with (at_builtin; refine wpList_append_own_at _ rfl _ _ 78 rfl (w.heap.size + 1 + 1) 81 j0 (.agg #[.int .i64 0, .bool false, .string ⟨#[]⟩, .slice none 0 0]) 4 56 Tryz.underlying78 hj hy0 hy1 hy2 rfl zal v3 (EA ++ EB).length (qal vs3) rfl (O3.out.alloc _) ⟨_, 0, none⟩ 1 1 [.int .i64 (j : Int), .bool false, .string zs, .slice sp sl sc] rfl rfl (qao (by first | (simp; done) | simp [more_size])) zbu (by have := HLN.out; rw [List.length_append]; unfold maxLen; omega) (by have := HLN.out; rw [List.length_append]; omega) (by have := X3.out.size; simp at this ⊢; omega) ?_)
      intro v4 w4 hown hgrow _ _
      have ST4 := Lib.hid (qdo (ms := [(⟨j, false, zs, sn⟩, .slice sp sl sc)]) (k := [⟨j, false, zs, sn⟩]) V3.out rfl (O3.out.alloc _) (fun q hq => own_ext (S3.out q hq) zaa) (fun q hq => by rcases List.mem_singleton.1 hq with rfl; exact own_ext HS.out (XW.out.trans (X3.out.trans zaa))) (by rw [List.length_append]; exact hown) hgrow)
      have X4 := Lib.hid ((X3.out.trans (show Ext w3 (w3.alloc _) from zaa)).grown hgrow fun k hk => by have := (O3.out.lt k hk).1; simpa using this)
      clear hown hgrow
      go_wp2_with fail
      go_ret
      exact ⟨_, rfl, by rw [HST2.out]; exact ST4.out.mono zae, XW.out.trans X4.out⟩
    · have HST2 := Lib.hid (HST.out.trans (by rw [if_neg hk, List.append_nil]))
      have hk2 : (zk == 4) = false := by simpa using hk
      clear HST C1 C2 hk
      go_wp2_with fail
      go_ret
      exact ⟨_, rfl, by rw [HST2.out]; exact ST3.out.mono zae, XW.out.trans X3.out⟩
end Go.Proofs.YtpoeknndkccbaaaGreat

namespace Go.Proofs.YtpoeknndkccbaaaGreat
open Go.RowKit
variable {W w : World} {m : Nat} {v : Value} {sn : List ByteArray} {t : ByteArray}
attribute [go_sem] more_more Array.size_append
theorem qbY {b : Nat} {e : TypeId} {s n : Nat} {x : List Value} (h : w.ownsRow b e s v n x) (hn : n = m) : w.ownsRow b e s v m x := hn ▸ h
theorem own_kb_apart {b1 : Nat} {e1 : TypeId} {s1 n1 : Nat} {v1 : Value} {x1 : List Value} {k : Nat} {cs : Array Value} {T : TypeId} (h1 : w.ownsRow b1 e1 s1 v1 n1 x1) (h2 : KB k cs T w) (hne : e1 ≠ T) : v1.ownBlock ≠ some k := by
 rcases h1.2 with ⟨rfl, _⟩ | ⟨g1, c1, u1, rfl, _, k1, _⟩
 · intro h; cases h
 · intro h
   simp only [Value.ownBlock, Option.some.injEq] at h
   subst h
   unfold KB at h2
   rw [h2] at k1
   simp only [Option.some.injEq, Obj.cells.injEq] at k1
   exact hne k1.2.1.symm
structure RS (W0 : World) (B kn : Nat) (cs : Array Value) (v : Value) (acc : List Stp) (sv : Value) (sn : List ByteArray) (w : World) : Prop where
 steps : StepsAt B v acc w
 node : KB kn cs 42 w
 seen : w.ownsRow 0 9 1 sv sn.length (strV sn)
 ext : Ext W0 w
theorem RS.of_ext {W0 : World} {B kn : Nat} {cs : Array Value} {acc : List Stp} {sv : Value} {w' : World} (h : RS W0 B kn cs v acc sv sn w) (hx : Ext w w') : RS W0 B kn cs v acc sv sn w' :=
 ⟨h.steps.ext hx, h.node.of_ext hx, own_ext h.seen hx, h.ext.trans hx⟩
theorem RS.app {W0 : World} {B kn : Nat} {cs : Array Value} {v' : Value} {l k : List Stp} {vs ms : List (Stp × Value)} {sv : Value} {sn : List ByteArray} {w w1 : World} (h : RS W0 B kn cs v l sv sn w) (hB : W0.heap.size ≤ B) (hl : vs.map Prod.fst = l) (hk : ms.map Prod.fst = k)
  (h2 : w.ownsRow B 81 4 v l.length (qal vs)) (h3 : ∀ q ∈ vs, w.ownsRow 0 9 1 q.2 q.1.sn.length (strV q.1.sn)) (hm : ∀ q ∈ ms, w.ownsRow 0 9 1 q.2 q.1.sn.length (strV q.1.sn))
  (hr : w1.ownsRow B 81 4 v' (l.length + k.length) (qal vs ++ qal ms)) (hg : w.grownBy w1 v.ownBlock) : RS W0 B kn cs v' (l ++ k) sv sn w1 :=
 ⟨qdo hl hk h2 h3 hm hr hg, (hg.block kn h.node.lt (Ne.symm (own_kb_apart h2 h.node zal))).trans h.node,
  qag h.seen fun k hk hlt => hg.block k hlt fun e => qcM h2 h.seen zal k e.symm hk, h.ext.grown hg fun k hk => Nat.le_trans hB (h2.lt k hk).1⟩
def StAgg (j : Int) (t : ByteArray) (sn : List ByteArray) (m : Nat) (v : Value) (W : World) : Prop := ∃ u, v = .agg #[.int .i64 j, .bool true, .string t, u] ∧ W.ownsRow 0 9 1 u m (strV sn)
theorem StAgg.ext {j : Int} {W' : World} (h : StAgg j t sn m v W) (hx : Ext W W') : StAgg j t sn m v W' := by
 obtain ⟨u, h1, h2⟩ := h
 exact ⟨u, h1, own_ext h2 hx⟩
def StNew (j : Int) (t : ByteArray) (sn : List ByteArray) (m : Nat) (v : Value) (W : World) : Prop := ∃ u g, v = .slice (some ⟨g, 0, none⟩) 1 1 ∧ KB g #[.int .i64 j, .bool true, .string t, u] 81 W ∧ W.ownsRow 0 9 1 u m (strV sn)
theorem StNew.ext {j : Int} {W' : World} (h : StNew j t sn m v W) (hx : Ext W W') : StNew j t sn m v W' := by
 obtain ⟨u, g, h1, h2, h3⟩ := h
 exact ⟨u, g, h1, h2.of_ext hx, own_ext h3 hx⟩
theorem stNew_row {g : Nat} {j : Nat} {u : Value} (h : KB g #[.int .i64 (j : Int), .bool true, .string t, u] 81 W) (hu : u.oneCell' = true) : W.ownsRow 0 81 4 (.slice (some ⟨g, 0, none⟩) 1 1) [(⟨j, true, t, sn⟩ : Stp)].length (qal [((⟨j, true, t, sn⟩ : Stp), u)]) :=
 ⟨rfl, Or.inr ⟨g, 1, _, rfl, Nat.zero_le _, h, Nat.le_refl _, by unfold maxLen; omega, rfl, rfl⟩⟩
def RB (nv : Value) (fi : Int) (ns : List Nd) (f : Nat) : Prop := ∀ (i : Int) (n : Nat) (sn : List ByteArray) (sv : Value) (w : World), Tr ns i n → n ≤ f → n ≤ 600 → sn.length + 2 * n ≤ 2000 → w.ownsRow 0 42 8 nv ns.length (qac ns) → w.ownsRow 0 9 1 sv sn.length (strV sn) →
  Calls Tryz.prog 31 #[.agg #[nv, .int .i64 fi], .int .i64 i, sv] w fun e w' => ∃ v, e = .returned v ∧ StepsAt w.heap.size v (qan ns f i sn) w' ∧ Ext w w'
theorem srblock_of {ns : List Nd} {nv : Value} (fi : Int) (f : Nat) (ih : ∀ g, g < f → RB nv fi ns g) : RB nv fi ns f := by
 intro i n sn sv w t hf hn hsn hp hs
 obtain ⟨j0, hj, hy0, hy1, hy2⟩ := info_parts stInfo
 obtain ⟨pn, cn, hnv⟩ := qae hp
 subst hnv
 obtain ⟨nl, hnl⟩ : ∃ nl, ns.length = nl := ⟨_, rfl⟩
 have HNL := Lib.hid hnl
 rw [hnl] at ih ⊢
 have IH := Lib.hid ih
 have HP := Lib.hid (fun W' (hx : Ext w W') => (own_ext hp hx))
 have HS := Lib.hid hs
 have HT := Lib.hid t
 have HLB := Lib.hid (stepsB_len ns f i n sn t)
 obtain ⟨TOT, hTOT⟩ : ∃ TOT, qan ns f i sn = TOT := ⟨_, rfl⟩
 rw [hTOT] at HLB ⊢
 have HTOT := Lib.hid hTOT
 have HFN := Lib.hid (show n ≤ f ∧ n ≤ 600 ∧ sn.length + 2 * n ≤ 2000 from ⟨hf, hn, hsn⟩)
 clear ih hp hs t hTOT hf hn hsn hnl
 go_enter Tryz.func31, Tryz.ntmps31
 go_wp2_with fail
 have XW0 := Lib.hid (show Ext w (w.alloc (.cells #[.slice pn nl cn, .int .i64 fi] 24 (0, 0))) from zaa)
 have KPX := Lib.hid (show ∀ wr, Ext (w.alloc (.cells #[.slice pn nl cn, .int .i64 fi] 24 (0, 0))) wr → KB w.heap.size #[.slice pn nl cn, .int .i64 fi] 24 wr from fun wr hx => (KB.new w _ _).of_ext hx)
 have hszB : (w.alloc (.cells #[.slice pn nl cn, .int .i64 fi] 24 (0, 0))).heap.size = w.heap.size + 1 := by simp
 have HBW := Lib.hid (Nat.le_succ w.heap.size)
 generalize hBQ : w.heap.size + 1 = BQ at *
 generalize hW0 : w.alloc (.cells #[.slice pn nl cn, .int .i64 fi] 24 (0, 0)) = W0 at *
 have HBQ := Lib.hid (Nat.le_of_eq hszB)
 have HBQ2 := Lib.hid hszB
 generalize hk1 : w.heap.size = k1 at *
 have HK1 := Lib.hid hk1
 have HKB := Lib.hid (show k1 ≤ BQ from by omega)
 clear hBQ hW0 hk1 hszB
 go_loopg [1, 2, 7] f (fun g yi ys yl wr => ∃ (i' : Int) (sn' : List ByteArray) (acc : List Stp) (n' : Nat), yi = .int .i64 i' ∧ Tr ns i' n' ∧ n' ≤ g ∧ g ≤ f ∧ n' ≤ 600 ∧ acc ++ qan ns g i' sn' = TOT ∧ StepsAt BQ yl acc wr ∧ wr.ownsRow 0 9 1 ys sn'.length (strV sn') ∧ Ext W0 wr ∧ acc.length + 2 * n' ≤ 1300 ∧ sn'.length + 2 * n' ≤ 2000)
 case atStart => exact ⟨i, sn, [], n, rfl, HT.out, HFN.out.1, Nat.le_refl _, HFN.out.2.1, HTOT.out, StepsAt.nil _ _, own_ext HS.out XW0.out, Ext.refl _, by have := HFN.out; simp; omega, HFN.out.2.2⟩
 case round =>
  obtain ⟨i', sn', acc, n', rfl, t, hg1, hg2, hn6, htot, hst, hse, hx, hbd, hsl⟩ := hrel
  have KP := Lib.hid (KPX.out _ hx)
  have xp := KP.out.cell 0 _ rfl
  have xq := KP.out.cell 1 _ rfl
  have pl := KP.out.lt
  by_cases hi : i' < 0
  · have HR := Lib.hid (show acc = TOT from by rw [← htot]; cases gk <;> (unfold qan; try rw [if_pos hi]) <;> simp)
    have HST := Lib.hid hst
    have HX := Lib.hid hx
    clear t hg1 hg2 hn6 htot hst hse hx hbd hsl
    go_wp2_with fail
    go_ret
    exact ⟨_, rfl, by rw [← HR.out]; exact HST.out.mono (by rw [HK1.out]; exact HKB.out), XW0.out.trans HX.out⟩
  obtain ⟨j, ⟨zk, za, zb, zc, zx, zi, zs, zt⟩, na, nb, nc, nx, rfl, hz, ta, tb, tc, tx, rfl⟩ := qce t zae
  obtain ⟨g0, rfl⟩ : ∃ g0, gk = g0 + 1 := ⟨gk - 1, by omega⟩
  dsimp only at ta tb tc tx
  have hjl := (List.getElem?_eq_some_iff.1 hz).1
  have hpr := HP.out wr (XW0.out.trans hx)
  obtain ⟨G, rfl⟩ : ∃ G, pn = some ⟨G, 0, none⟩ := by
   rcases Go.Joins.ownsRow_forms hpr with ⟨_, h0⟩ | ⟨g1, c1, h0⟩
   · omega
   · simp only [Value.slice.injEq] at h0; exact ⟨g1, h0.1⟩
  have hpr2 := hpr
  rw [HNL.out] at hpr2
  obtain ⟨a0, a1, a2, a3, a4, a5, a6, a7⟩ := nd_at hpr2 hz
  dsimp only at a0 a1 a2 a3 a4 a5 a6 a7
  have hG := (hpr2.lt G rfl).2
  have hj0 : 0 ≤ (j : Int) := by omega
  have hjn : (j : Int) < (nl : Int) := by have := HNL.out; omega
  have HTOT2 := Lib.hid htot
  rw [show qan ns (g0 + 1) (j : Int) sn' = (qar ns g0 za sn' ++ qaI (qar ns g0) (qan ns g0) j ⟨zk, za, zb, zc, zx, zi, zs, zt⟩ sn') ++ qan ns g0 zx (if zk = 20 then sn' ++ [zs] else sn') from by rw [qan, if_neg hi, Int.toNat_natCast, hz]] at HTOT2
  have PR := Lib.hid (fun W' (hw : Ext W0 W') => HP.out W' (XW0.out.trans hw))
  have CA := Lib.hid (fun W' (hw : Ext W0 W') sv' (hs : W'.ownsRow 0 9 1 sv' sn'.length (strV sn')) => qeQ fi g0 za na sn' sv' W' ta zae zae (PR.out W' hw) hs)
  have lea := qbb ns g0 za na sn' ta
  obtain ⟨EA, hEA⟩ : ∃ EA, qar ns g0 za sn' = EA := ⟨_, rfl⟩
  rw [hEA] at CA lea HTOT2
  rw [HNL.out] at CA
  obtain ⟨sp, sc, hsv⟩ := qae hse
  obtain ⟨sl, hsl2⟩ : ∃ sl, sn'.length = sl := ⟨_, rfl⟩
  rw [hsl2] at hsv
  subst hsv
  have HT2 := Lib.hid (show Tr ns zb nb ∧ Tr ns zc nc ∧ Tr ns zx nx from ⟨tb, tc, tx⟩)
  have HG2 := Lib.hid (show 1 + (na + (nb + (nc + nx))) ≤ g0 + 1 ∧ g0 + 1 ≤ f ∧ 1 + (na + (nb + (nc + nx))) ≤ 600 ∧ sn'.length + 2 * (1 + (na + (nb + (nc + nx)))) ≤ 2000 from ⟨hg1, hg2, hn6, hsl⟩)
  have HBD := Lib.hid (show acc.length + 2 * (1 + (na + (nb + (nc + nx)))) ≤ 1300 ∧ EA.length ≤ na from ⟨hbd, lea⟩)
  have R0 := Lib.hid (show RS W0 BQ wr.heap.size #[.int .i64 zk, .int .i64 za, .int .i64 zb, .int .i64 zc, .int .i64 zx, .int .i64 zi, .string zs, .string zt] u7 acc (.slice sp sl sc) sn' (wr.alloc (.cells #[.int .i64 zk, .int .i64 za, .int .i64 zb, .int .i64 zc, .int .i64 zx, .int .i64 zi, .string zs, .string zt] 42 (0, 0))) from ⟨hst.ext ((Ext.refl _).alloc _), KB.new _ _ _, hse.alloc _, hx.alloc _⟩)
  have XL := Lib.hid (show Ext W0 (wr.alloc (.cells #[.int .i64 zk, .int .i64 za, .int .i64 zb, .int .i64 zc, .int .i64 zx, .int .i64 zi, .string zs, .string zt] 42 (0, 0))) from hx.alloc _)
  generalize hkn : wr.heap.size = kn at *
  have HKN := Lib.hid hkn
  clear t ta tb tc tx hz hg1 hg2 hn6 htot hst hse hx hbd hsl hsl2 hpr hpr2 hEA lea hi hjl
  go_wp2_with (first
   | ((with_reducible refine (CA.out _ XL.out _ R0.out.seen).mono ?_); rintro e' w1 ⟨u1, rfl, hu1, hx1⟩; have R1 := Lib.hid (R0.out.of_ext hx1); obtain ⟨us1, hv1, ho1, hs1⟩ := hu1; have UV1 := Lib.hid hv1; have UO1 := Lib.hid ho1; have US1 := Lib.hid hs1; clear hx1 hv1 ho1 hs1; obtain ⟨vs1, hv1, ho1, hs1⟩ := R1.out.steps; have V1 := Lib.hid hv1; have O1 := Lib.hid ho1; have S1 := Lib.hid hs1; clear hv1 ho1 hs1)
   | (at_builtin; refine qam _ rfl _ _ 78 78 rfl BQ 81 j0 (.agg #[.int .i64 0, .bool false, .string ⟨#[]⟩, .slice none 0 0]) 4 56 Tryz.underlying78 hj hy0 hy1 hy2 rfl zal u7 acc.length (qal vs1) rfl O1.out u1 EA.length (qal us1) rfl (qbL Tryz.underlying78 UO1.out (qdw US1.out)) zat zay (Nat.le_trans (Nat.le_of_eq HBQ2.out.symm) (R1.out.ext).size) ?_))
  intro v2 w2 hown hgrow _
  have R2 := Lib.hid (R1.out.app HBQ.out V1.out UV1.out O1.out S1.out US1.out hown hgrow)
  clear hown hgrow
  obtain ⟨vs2, hv2, ho2, hs2⟩ := R2.out.steps
  have V2 := Lib.hid hv2
  have O2 := Lib.hid ho2
  have S2 := Lib.hid hs2
  clear hv2 ho2 hs2
  have KN2 := Lib.hid R2.out.node
  have xk2 := KN2.out.cell 0 _ rfl
  have xb2 := KN2.out.cell 2 _ rfl
  have xc2 := KN2.out.cell 3 _ rfl
  have xx2 := KN2.out.cell 4 _ rfl
  have xs2 := KN2.out.cell 6 _ rfl
  have xt2 := KN2.out.cell 7 _ rfl
  have xl2 := KN2.out.lt
  have KP2 := Lib.hid (KPX.out _ R2.out.ext)
  have xp2 := KP2.out.cell 0 _ rfl
  have xq2 := KP2.out.cell 1 _ rfl
  have pl2 := KP2.out.lt
  have PN := Lib.hid (fun W' (hw : Ext W0 W') => show W'.ownsRow 0 42 8 (.slice (some ⟨G, 0, none⟩) nl cn) ns.length (qac ns) from by have := PR.out W' hw; rw [HNL.out] at this ⊢; exact this)
  have lss : sn'.length ≤ 2000 := by have := HG2.out; omega
  have LSS := Lib.hid lss
  clear lss
  by_cases k20 : zk = 20
  · subst k20
    have hK : qaI (qar ns g0) (qan ns g0) j ⟨20, za, zb, zc, zx, zi, zs, zt⟩ sn' = [⟨j, true, zs, sn'⟩] := by unfold qaI; simp
    have HT3 := Lib.hid HTOT2.out
    rw [hK, if_pos rfl] at HT3
    clear hK HTOT2
    go_wp2_with (at_builtin; refine wpList_append_own_at _ rfl _ _ 78 rfl BQ 81 j0 (.agg #[.int .i64 0, .bool false, .string ⟨#[]⟩, .slice none 0 0]) 4 56 Tryz.underlying78 hj hy0 hy1 hy2 rfl zal v2 (acc ++ EA).length (qal vs2) rfl (O2.out.alloc _) ⟨_, 0, none⟩ 1 1 [.int .i64 (j : Int), .bool true, .string zs, .slice sp sl sc] rfl rfl (qao (by first | (simp; done) | simp [more_size])) zbu zat zay (Nat.le_trans (Nat.le_of_eq HBQ2.out.symm) (R2.out.ext.alloc _).size) ?_)
    intro v3 w3 hown hgrow _ _
    have R3 := Lib.hid ((R2.out.of_ext ((Ext.refl _).alloc _)).app HBQ.out (k := [⟨j, true, zs, sn'⟩]) V2.out (ms := [(⟨j, true, zs, sn'⟩, (.slice sp sl sc))]) rfl (O2.out.alloc _) (fun q hq => (S2.out q hq).alloc _) (fun q hq => by rcases List.mem_singleton.1 hq with rfl; exact R2.out.seen.alloc _) (qbY hown zbh) hgrow)
    clear hown hgrow
    obtain ⟨vs3, hv3, ho3, hs3⟩ := R3.out.steps; have V3 := Lib.hid hv3; have O3 := Lib.hid ho3; have S3 := Lib.hid hs3; clear hv3 ho3 hs3
    have KN3 := Lib.hid R3.out.node; have xk3 := KN3.out.cell 0 _ rfl; have xb3 := KN3.out.cell 2 _ rfl; have xc3 := KN3.out.cell 3 _ rfl; have xx3 := KN3.out.cell 4 _ rfl; have xs3 := KN3.out.cell 6 _ rfl; have xt3 := KN3.out.cell 7 _ rfl; have xl3 := KN3.out.lt; have KP3 := Lib.hid (KPX.out _ R3.out.ext); have xp3 := KP3.out.cell 0 _ rfl; have xq3 := KP3.out.cell 1 _ rfl; have pl3 := KP3.out.lt
    go_wp2_with ((with_reducible refine (qdg R3.out.seen (by have := LSS.out; omega) zs).mono ?_); rintro e' w4 ⟨v4, rfl, hv4, hx4⟩; have R4 := Lib.hid (R3.out.of_ext hx4); have SN := Lib.hid (hv4.mono (Nat.zero_le _)); clear hv4 hx4; have KN4 := Lib.hid R4.out.node; have xx4 := KN4.out.cell 4 _ rfl; have xl4 := KN4.out.lt)
    go_wp2_with fail
    go_roundg g0
    case measure => omega
    case rel => exact ⟨zx, sn' ++ [zs], (acc ++ EA) ++ [⟨j, true, zs, sn'⟩], nx, rfl, HT2.out.2.2, by have := HG2.out; omega, by have := HG2.out; omega, by have := HG2.out; omega, by rw [← HT3.out]; simp [List.append_assoc], R4.out.steps, SN.out, R4.out.ext, by have := HBD.out; simp only [List.length_append, List.length_cons, List.length_nil] at this ⊢; omega, by have := HG2.out; (try simp only [List.length_append, List.length_cons, List.length_nil] at this ⊢); omega⟩
  by_cases k21 : zk = 21
  · subst k21
    have hK : qaI (qar ns g0) (qan ns g0) j ⟨21, za, zb, zc, zx, zi, zs, zt⟩ sn' = [⟨j, false, zs, sn'⟩] := by unfold qaI; simp
    have HT3 := Lib.hid HTOT2.out
    rw [hK, if_neg zal] at HT3
    clear hK HTOT2
    go_wp2_with (at_builtin; refine wpList_append_own_at _ rfl _ _ 78 rfl BQ 81 j0 (.agg #[.int .i64 0, .bool false, .string ⟨#[]⟩, .slice none 0 0]) 4 56 Tryz.underlying78 hj hy0 hy1 hy2 rfl zal v2 (acc ++ EA).length (qal vs2) rfl (O2.out.alloc _) ⟨_, 0, none⟩ 1 1 [.int .i64 (j : Int), .bool false, .string zs, .slice sp sl sc] rfl rfl (qao (by first | (simp; done) | simp [more_size])) zbu zat zay (Nat.le_trans (Nat.le_of_eq HBQ2.out.symm) (R2.out.ext.alloc _).size) ?_)
    intro v3 w3 hown hgrow _ _
    have R3 := Lib.hid ((R2.out.of_ext ((Ext.refl _).alloc _)).app HBQ.out (k := [⟨j, false, zs, sn'⟩]) V2.out (ms := [(⟨j, false, zs, sn'⟩, (.slice sp sl sc))]) rfl (O2.out.alloc _) (fun q hq => (S2.out q hq).alloc _) (fun q hq => by rcases List.mem_singleton.1 hq with rfl; exact R2.out.seen.alloc _) (qbY hown zbh) hgrow)
    clear hown hgrow
    obtain ⟨vs3, hv3, ho3, hs3⟩ := R3.out.steps; have V3 := Lib.hid hv3; have O3 := Lib.hid ho3; have S3 := Lib.hid hs3; clear hv3 ho3 hs3
    have KN3 := Lib.hid R3.out.node; have xk3 := KN3.out.cell 0 _ rfl; have xb3 := KN3.out.cell 2 _ rfl; have xc3 := KN3.out.cell 3 _ rfl; have xx3 := KN3.out.cell 4 _ rfl; have xs3 := KN3.out.cell 6 _ rfl; have xt3 := KN3.out.cell 7 _ rfl; have xl3 := KN3.out.lt; have KP3 := Lib.hid (KPX.out _ R3.out.ext); have xp3 := KP3.out.cell 0 _ rfl; have xq3 := KP3.out.cell 1 _ rfl; have pl3 := KP3.out.lt
    go_wp2_with fail
    go_roundg g0
    case measure => omega
    case rel => exact ⟨zx, sn', (acc ++ EA) ++ [⟨j, false, zs, sn'⟩], nx, rfl, HT2.out.2.2, by have := HG2.out; omega, by have := HG2.out; omega, by have := HG2.out; omega, by rw [← HT3.out]; simp [List.append_assoc], R3.out.steps, R3.out.seen, R3.out.ext, by have := HBD.out; simp only [List.length_append, List.length_cons, List.length_nil] at this ⊢; omega, by have := HG2.out; (try simp only [List.length_append, List.length_cons, List.length_nil] at this ⊢); omega⟩
  by_cases k22 : zk = 22
  · subst k22
    have hK : qaI (qar ns g0) (qan ns g0) j ⟨22, za, zb, zc, zx, zi, zs, zt⟩ sn' = qar ns g0 zb sn' := by unfold qaI; simp
    have HT3 := Lib.hid HTOT2.out
    rw [hK, if_neg zal] at HT3
    clear hK HTOT2
    have CB := Lib.hid (fun W' (hw : Ext W0 W') sv' (hs : W'.ownsRow 0 9 1 sv' sn'.length (strV sn')) => qeQ fi g0 zb nb sn' sv' W' HT2.out.1 zbw zbw (PR.out W' hw) hs)
    rw [HNL.out] at CB
    have leB := qbb ns g0 zb nb sn' HT2.out.1
    obtain ⟨EB, hEB⟩ : ∃ x, qar ns g0 zb sn' = x := ⟨_, rfl⟩
    rw [hEB] at CB leB HT3
    clear hEB
    have HBD := Lib.hid (And.intro HBD.out leB)
    clear leB
    go_wp2_with (first
     | ((with_reducible refine (CB.out _ R2.out.ext _ R2.out.seen).mono ?_); rintro e' w5 ⟨u5, rfl, hu5, hx5⟩; have R5 := Lib.hid (R2.out.of_ext hx5); obtain ⟨us5, hv5, ho5, hs5⟩ := hu5; have UV5 := Lib.hid hv5; have UO5 := Lib.hid ho5; have US5 := Lib.hid hs5; clear hx5 hv5 ho5 hs5; obtain ⟨vs5, hv5, ho5, hs5⟩ := R5.out.steps; have V5 := Lib.hid hv5; have O5 := Lib.hid ho5; have S5 := Lib.hid hs5; clear hv5 ho5 hs5)
     | (at_builtin; refine qam _ rfl _ _ 78 78 rfl BQ 81 j0 (.agg #[.int .i64 0, .bool false, .string ⟨#[]⟩, .slice none 0 0]) 4 56 Tryz.underlying78 hj hy0 hy1 hy2 rfl zal v2 (acc ++ EA).length (qal vs5) rfl O5.out u5 EB.length (qal us5) rfl (qbL Tryz.underlying78 UO5.out (qdw US5.out)) zat zay (Nat.le_trans (Nat.le_of_eq HBQ2.out.symm) (R5.out.ext).size) ?_))
    intro v3 w3 hown hgrow _
    have R3 := Lib.hid (R5.out.app HBQ.out V5.out UV5.out O5.out S5.out US5.out (qbY hown zbh) hgrow)
    clear hown hgrow
    obtain ⟨vs3, hv3, ho3, hs3⟩ := R3.out.steps; have V3 := Lib.hid hv3; have O3 := Lib.hid ho3; have S3 := Lib.hid hs3; clear hv3 ho3 hs3
    have KN3 := Lib.hid R3.out.node; have xk3 := KN3.out.cell 0 _ rfl; have xb3 := KN3.out.cell 2 _ rfl; have xc3 := KN3.out.cell 3 _ rfl; have xx3 := KN3.out.cell 4 _ rfl; have xs3 := KN3.out.cell 6 _ rfl; have xt3 := KN3.out.cell 7 _ rfl; have xl3 := KN3.out.lt; have KP3 := Lib.hid (KPX.out _ R3.out.ext); have xp3 := KP3.out.cell 0 _ rfl; have xq3 := KP3.out.cell 1 _ rfl; have pl3 := KP3.out.lt
    go_wp2_with fail
    go_roundg g0
    case measure => omega
    case rel => exact ⟨zx, sn', (acc ++ EA) ++ EB, nx, rfl, HT2.out.2.2, by have := HG2.out; omega, by have := HG2.out; omega, by have := HG2.out; omega, by rw [← HT3.out]; simp [List.append_assoc], R3.out.steps, R3.out.seen, R3.out.ext, by have := HBD.out; simp only [List.length_append, List.length_cons, List.length_nil] at this ⊢; omega, by have := HG2.out; (try simp only [List.length_append, List.length_cons, List.length_nil] at this ⊢); omega⟩
  by_cases k24 : zk = 24
  · subst k24
    have hK : qaI (qar ns g0) (qan ns g0) j ⟨24, za, zb, zc, zx, zi, zs, zt⟩ sn' = qan ns g0 zb sn' ++ qan ns g0 zc sn' := by unfold qaI; simp
    have HT3 := Lib.hid HTOT2.out
    rw [hK, if_neg zal] at HT3
    clear hK HTOT2
    have CB := Lib.hid (fun W' (hw : Ext W0 W') sv' (hs : W'.ownsRow 0 9 1 sv' (sn').length (strV (sn'))) => IH.out g0 zbw zb nb (sn') sv' W' HT2.out.1 zbw zbw zbt (PN.out W' hw) hs)
    have leB := stepsB_len ns g0 zb nb (sn') HT2.out.1
    obtain ⟨EB, hEB⟩ : ∃ x, qan ns g0 zb (sn') = x := ⟨_, rfl⟩
    rw [hEB] at CB leB HT3
    clear hEB
    have HBD := Lib.hid (And.intro HBD.out leB)
    clear leB
    have CC := Lib.hid (fun W' (hw : Ext W0 W') sv' (hs : W'.ownsRow 0 9 1 sv' (sn').length (strV (sn'))) => IH.out g0 zbw zc nc (sn') sv' W' HT2.out.2.1 zbw zbw zbt (PN.out W' hw) hs)
    have leC := stepsB_len ns g0 zc nc (sn') HT2.out.2.1
    obtain ⟨EC, hEC⟩ : ∃ x, qan ns g0 zc (sn') = x := ⟨_, rfl⟩
    rw [hEC] at CC leC HT3
    clear hEC
    have HBD := Lib.hid (And.intro HBD.out leC)
    clear leC
    go_wp2_with (first
     | ((with_reducible refine (CB.out _ R2.out.ext _ R2.out.seen).mono ?_); rintro e' w5 ⟨u5, rfl, hu5, hx5⟩; have R5 := Lib.hid (R2.out.of_ext hx5); obtain ⟨us5, hv5, ho5, hs5⟩ := hu5; have UV5 := Lib.hid hv5; have UO5 := Lib.hid ho5; have US5 := Lib.hid hs5; clear hx5 hv5 ho5 hs5; obtain ⟨vs5, hv5, ho5, hs5⟩ := R5.out.steps; have V5 := Lib.hid hv5; have O5 := Lib.hid ho5; have S5 := Lib.hid hs5; clear hv5 ho5 hs5)
     | (at_builtin; refine qam _ rfl _ _ 78 78 rfl BQ 81 j0 (.agg #[.int .i64 0, .bool false, .string ⟨#[]⟩, .slice none 0 0]) 4 56 Tryz.underlying78 hj hy0 hy1 hy2 rfl zal v2 (acc ++ EA).length (qal vs5) rfl O5.out u5 EB.length (qal us5) rfl (qbL Tryz.underlying78 UO5.out (qdw US5.out)) zat zay (Nat.le_trans (Nat.le_of_eq HBQ2.out.symm) (R5.out.ext).size) ?_))
    intro v3 w3 hown hgrow _
    have R3 := Lib.hid (R5.out.app HBQ.out V5.out UV5.out O5.out S5.out US5.out (qbY hown zbh) hgrow)
    clear hown hgrow
    obtain ⟨vs3, hv3, ho3, hs3⟩ := R3.out.steps; have V3 := Lib.hid hv3; have O3 := Lib.hid ho3; have S3 := Lib.hid hs3; clear hv3 ho3 hs3
    have KN3 := Lib.hid R3.out.node; have xk3 := KN3.out.cell 0 _ rfl; have xb3 := KN3.out.cell 2 _ rfl; have xc3 := KN3.out.cell 3 _ rfl; have xx3 := KN3.out.cell 4 _ rfl; have xs3 := KN3.out.cell 6 _ rfl; have xt3 := KN3.out.cell 7 _ rfl; have xl3 := KN3.out.lt; have KP3 := Lib.hid (KPX.out _ R3.out.ext); have xp3 := KP3.out.cell 0 _ rfl; have xq3 := KP3.out.cell 1 _ rfl; have pl3 := KP3.out.lt
    go_wp2_with (first
     | ((with_reducible refine (CC.out _ R3.out.ext _ R3.out.seen).mono ?_); rintro e' w6 ⟨u6, rfl, hu6, hx6⟩; have R6 := Lib.hid (R3.out.of_ext hx6); obtain ⟨us6, hv6, ho6, hs6⟩ := hu6; have UV6 := Lib.hid hv6; have UO6 := Lib.hid ho6; have US6 := Lib.hid hs6; clear hx6 hv6 ho6 hs6; obtain ⟨vs6, hv6, ho6, hs6⟩ := R6.out.steps; have V6 := Lib.hid hv6; have O6 := Lib.hid ho6; have S6 := Lib.hid hs6; clear hv6 ho6 hs6)
     | (at_builtin; refine qam _ rfl _ _ 78 78 rfl BQ 81 j0 (.agg #[.int .i64 0, .bool false, .string ⟨#[]⟩, .slice none 0 0]) 4 56 Tryz.underlying78 hj hy0 hy1 hy2 rfl zal v3 (acc ++ EA ++ EB).length (qal vs6) rfl O6.out u6 EC.length (qal us6) rfl (qbL Tryz.underlying78 UO6.out (qdw US6.out)) zat zay (Nat.le_trans (Nat.le_of_eq HBQ2.out.symm) (R6.out.ext).size) ?_))
    intro v4 w4 hown hgrow _
    have R4 := Lib.hid (R6.out.app HBQ.out V6.out UV6.out O6.out S6.out US6.out (qbY hown zbh) hgrow)
    clear hown hgrow
    obtain ⟨vs4, hv4, ho4, hs4⟩ := R4.out.steps; have V4 := Lib.hid hv4; have O4 := Lib.hid ho4; have S4 := Lib.hid hs4; clear hv4 ho4 hs4
    have KN4 := Lib.hid R4.out.node; have xk4 := KN4.out.cell 0 _ rfl; have xb4 := KN4.out.cell 2 _ rfl; have xc4 := KN4.out.cell 3 _ rfl; have xx4 := KN4.out.cell 4 _ rfl; have xs4 := KN4.out.cell 6 _ rfl; have xt4 := KN4.out.cell 7 _ rfl; have xl4 := KN4.out.lt; have KP4 := Lib.hid (KPX.out _ R4.out.ext); have xp4 := KP4.out.cell 0 _ rfl; have xq4 := KP4.out.cell 1 _ rfl; have pl4 := KP4.out.lt
    go_wp2_with fail
    go_roundg g0
    case measure => omega
    case rel => exact ⟨zx, sn', (acc ++ EA ++ EB) ++ EC, nx, rfl, HT2.out.2.2, by have := HG2.out; omega, by have := HG2.out; omega, by have := HG2.out; omega, by rw [← HT3.out]; simp [List.append_assoc], R4.out.steps, R4.out.seen, R4.out.ext, by have := HBD.out; simp only [List.length_append, List.length_cons, List.length_nil] at this ⊢; omega, by have := HG2.out; (try simp only [List.length_append, List.length_cons, List.length_nil] at this ⊢); omega⟩
  by_cases k26 : zk = 26
  · subst k26
    have hK : qaI (qar ns g0) (qan ns g0) j ⟨26, za, zb, zc, zx, zi, zs, zt⟩ sn' = qan ns g0 zb sn' := by unfold qaI; simp
    have HT3 := Lib.hid HTOT2.out
    rw [hK, if_neg zal] at HT3
    clear hK HTOT2
    have CB := Lib.hid (fun W' (hw : Ext W0 W') sv' (hs : W'.ownsRow 0 9 1 sv' (sn').length (strV (sn'))) => IH.out g0 zbw zb nb (sn') sv' W' HT2.out.1 zbw zbw zbt (PN.out W' hw) hs)
    have leB := stepsB_len ns g0 zb nb (sn') HT2.out.1
    obtain ⟨EB, hEB⟩ : ∃ x, qan ns g0 zb (sn') = x := ⟨_, rfl⟩
    rw [hEB] at CB leB HT3
    clear hEB
    have HBD := Lib.hid (And.intro HBD.out leB)
    clear leB
    go_wp2_with (first
     | ((with_reducible refine (CB.out _ R2.out.ext _ R2.out.seen).mono ?_); rintro e' w5 ⟨u5, rfl, hu5, hx5⟩; have R5 := Lib.hid (R2.out.of_ext hx5); obtain ⟨us5, hv5, ho5, hs5⟩ := hu5; have UV5 := Lib.hid hv5; have UO5 := Lib.hid ho5; have US5 := Lib.hid hs5; clear hx5 hv5 ho5 hs5; obtain ⟨vs5, hv5, ho5, hs5⟩ := R5.out.steps; have V5 := Lib.hid hv5; have O5 := Lib.hid ho5; have S5 := Lib.hid hs5; clear hv5 ho5 hs5)
     | (at_builtin; refine qam _ rfl _ _ 78 78 rfl BQ 81 j0 (.agg #[.int .i64 0, .bool false, .string ⟨#[]⟩, .slice none 0 0]) 4 56 Tryz.underlying78 hj hy0 hy1 hy2 rfl zal v2 (acc ++ EA).length (qal vs5) rfl O5.out u5 EB.length (qal us5) rfl (qbL Tryz.underlying78 UO5.out (qdw US5.out)) zat zay (Nat.le_trans (Nat.le_of_eq HBQ2.out.symm) (R5.out.ext).size) ?_))
    intro v3 w3 hown hgrow _
    have R3 := Lib.hid (R5.out.app HBQ.out V5.out UV5.out O5.out S5.out US5.out (qbY hown zbh) hgrow)
    clear hown hgrow
    obtain ⟨vs3, hv3, ho3, hs3⟩ := R3.out.steps; have V3 := Lib.hid hv3; have O3 := Lib.hid ho3; have S3 := Lib.hid hs3; clear hv3 ho3 hs3
    have KN3 := Lib.hid R3.out.node; have xk3 := KN3.out.cell 0 _ rfl; have xb3 := KN3.out.cell 2 _ rfl; have xc3 := KN3.out.cell 3 _ rfl; have xx3 := KN3.out.cell 4 _ rfl; have xs3 := KN3.out.cell 6 _ rfl; have xt3 := KN3.out.cell 7 _ rfl; have xl3 := KN3.out.lt; have KP3 := Lib.hid (KPX.out _ R3.out.ext); have xp3 := KP3.out.cell 0 _ rfl; have xq3 := KP3.out.cell 1 _ rfl; have pl3 := KP3.out.lt
    go_wp2_with fail
    go_roundg g0
    case measure => omega
    case rel => exact ⟨zx, sn', (acc ++ EA) ++ EB, nx, rfl, HT2.out.2.2, by have := HG2.out; omega, by have := HG2.out; omega, by have := HG2.out; omega, by rw [← HT3.out]; simp [List.append_assoc], R3.out.steps, R3.out.seen, R3.out.ext, by have := HBD.out; simp only [List.length_append, List.length_cons, List.length_nil] at this ⊢; omega, by have := HG2.out; (try simp only [List.length_append, List.length_cons, List.length_nil] at this ⊢); omega⟩
  by_cases k25 : zk = 25
  · subst k25
    have hK : qaI (qar ns g0) (qan ns g0) j ⟨25, za, zb, zc, zx, zi, zs, zt⟩ sn' = ([⟨j, true, zs, sn'⟩] ++ [⟨j, true, zt, sn' ++ [zs]⟩]) ++ qan ns g0 zb (sn' ++ [zs, zt]) := by unfold qaI; simp
    have HT3 := Lib.hid HTOT2.out
    rw [hK, if_neg zal] at HT3
    clear hK HTOT2
    have CB := Lib.hid (fun W' (hw : Ext W0 W') sv' (hs : W'.ownsRow 0 9 1 sv' (sn' ++ [zs, zt]).length (strV (sn' ++ [zs, zt]))) => IH.out g0 zbw zb nb (sn' ++ [zs, zt]) sv' W' HT2.out.1 zbw zbw zbt (PN.out W' hw) hs)
    have leB := stepsB_len ns g0 zb nb (sn' ++ [zs, zt]) HT2.out.1
    obtain ⟨EB, hEB⟩ : ∃ x, qan ns g0 zb (sn' ++ [zs, zt]) = x := ⟨_, rfl⟩
    rw [hEB] at CB leB HT3
    clear hEB
    have HBD := Lib.hid (And.intro HBD.out leB)
    clear leB
    go_wp2_with (at_builtin; refine wpList_append_own_at _ rfl _ _ 78 rfl BQ 81 j0 (.agg #[.int .i64 0, .bool false, .string ⟨#[]⟩, .slice none 0 0]) 4 56 Tryz.underlying78 hj hy0 hy1 hy2 rfl zal v2 (acc ++ EA).length (qal vs2) rfl (O2.out.alloc _) ⟨_, 0, none⟩ 1 1 [.int .i64 (j : Int), .bool true, .string zs, .slice sp sl sc] rfl rfl (qao (by first | (simp; done) | simp [more_size])) zbu zat zay (Nat.le_trans (Nat.le_of_eq HBQ2.out.symm) (R2.out.ext.alloc _).size) ?_)
    intro v3 w3 hown hgrow _ _
    have R3 := Lib.hid ((R2.out.of_ext ((Ext.refl _).alloc _)).app HBQ.out (k := [⟨j, true, zs, sn'⟩]) V2.out (ms := [(⟨j, true, zs, sn'⟩, (.slice sp sl sc))]) rfl (O2.out.alloc _) (fun q hq => (S2.out q hq).alloc _) (fun q hq => by rcases List.mem_singleton.1 hq with rfl; exact R2.out.seen.alloc _) (qbY hown zbh) hgrow)
    clear hown hgrow
    obtain ⟨vs3, hv3, ho3, hs3⟩ := R3.out.steps; have V3 := Lib.hid hv3; have O3 := Lib.hid ho3; have S3 := Lib.hid hs3; clear hv3 ho3 hs3
    have KN3 := Lib.hid R3.out.node; have xk3 := KN3.out.cell 0 _ rfl; have xb3 := KN3.out.cell 2 _ rfl; have xc3 := KN3.out.cell 3 _ rfl; have xx3 := KN3.out.cell 4 _ rfl; have xs3 := KN3.out.cell 6 _ rfl; have xt3 := KN3.out.cell 7 _ rfl; have xl3 := KN3.out.lt; have KP3 := Lib.hid (KPX.out _ R3.out.ext); have xp3 := KP3.out.cell 0 _ rfl; have xq3 := KP3.out.cell 1 _ rfl; have pl3 := KP3.out.lt
    go_wp2_with fail
    refine qaa 10 120 [false, false, false, false, false, false, false, false, false, false] zad zad rfl ?_
    refine yac ?_
    iterate 7 (refine Lex.step rfl ?_; intro K hK; unfold StepG; go_simp; refine hK _ ?_; clear hK K)
    refine Lex.gap 91 (fun v W' => W'.ownsRow 0 9 1 v (sn'.length + 1) (strV (sn' ++ [zs]))) rfl (fun v W W' hx h => own_ext h hx) rfl (fun d os => ?_) ?_
    · unfold StepG
      go_simp
      exact (qdg (own_ext R3.out.seen ((Ext.refl _).more d os)) (by have := LSS.out; omega) zs).mono fun e w' ⟨v, he, h, hx⟩ => ⟨v, he, hx, by have h' := h.mono (Nat.zero_le _); rw [List.length_append] at h'; exact h'⟩
    refine Lex.gap1 92 (StAgg (j : Int) zt (sn' ++ [zs]) (sn'.length + 1)) 91 (fun v W' => W'.ownsRow 0 9 1 v (sn'.length + 1) (strV (sn' ++ [zs]))) rfl (fun v W W' hx h => h.ext hx) rfl (fun u d os hu => ?_) ?_
    · have HU := Lib.hid hu
      obtain ⟨up, uc, huv⟩ := qae hu
      subst huv
      clear hu
      unfold StepG
      go_simp
      exact ⟨_, rfl, HU.out⟩
    refine Lex.gap1 93 (StNew (j : Int) zt (sn' ++ [zs]) (sn'.length + 1)) 92 (StAgg (j : Int) zt (sn' ++ [zs]) (sn'.length + 1)) rfl (fun v W W' hx h => h.ext hx) rfl (fun u d os hu => ?_) ?_
    · obtain ⟨u2, rfl, hu⟩ := hu
      have HU := Lib.hid hu
      obtain ⟨up, uc, huv⟩ := qae hu
      subst huv
      clear hu
      unfold StepG
      go_simp
      exact ⟨(Ext.refl _).alloc _, _, _, rfl, (by have := heap_alloc_new (more w3 d os) (.cells #[.int .i64 (j : Int), .bool true, .string zt, .slice up (sn'.length + 1) uc] 81 (0, 0)); simp only [more_size] at this; exact this), HU.out.alloc _⟩
    refine Lex.nil fun WW hE => ?_
    obtain ⟨dd, oo, rfl⟩ := hE
    intro u93 hu93 u92 _ u91 _
    obtain ⟨u, g93, rfl, hg93, hu⟩ := hu93
    have HU := Lib.hid hu
    have UO93 := Lib.hid (stNew_row (sn := sn' ++ [zs]) hg93 (own_one hu))
    clear hu hg93
    have R3 := Lib.hid (R3.out.of_ext ((Ext.refl _).more dd oo))
    obtain ⟨vs3, hv3, ho3, hs3⟩ := R3.out.steps; have V3 := Lib.hid hv3; have O3 := Lib.hid ho3; have S3 := Lib.hid hs3; clear hv3 ho3 hs3
    unfold FillH
    go_simp
    go_wp2_with (at_builtin; refine qam _ rfl _ _ 78 78 rfl BQ 81 j0 (.agg #[.int .i64 0, .bool false, .string ⟨#[]⟩, .slice none 0 0]) 4 56 Tryz.underlying78 hj hy0 hy1 hy2 rfl zal v3 ((acc ++ EA) ++ [(⟨j, true, zs, sn'⟩ : Stp)]).length (qal vs3) rfl O3.out (.slice (some ⟨g93, 0, none⟩) 1 1) [(⟨j, true, zt, sn' ++ [zs]⟩ : Stp)].length (qal [((⟨j, true, zt, sn' ++ [zs]⟩ : Stp), u)]) rfl (qbL Tryz.underlying78 UO93.out (qdw (B := 0) (fun q hq => by rcases List.mem_singleton.1 hq with rfl; rw [List.length_append]; exact HU.out))) zat zay (Nat.le_trans (Nat.le_of_eq HBQ2.out.symm) (R3.out.ext).size) ?_)
    intro v4 w4 hown hgrow _
    have R4 := Lib.hid (R3.out.app HBQ.out (k := [⟨j, true, zt, sn' ++ [zs]⟩]) V3.out (ms := [(⟨j, true, zt, sn' ++ [zs]⟩, u)]) rfl O3.out S3.out (fun q hq => by rcases List.mem_singleton.1 hq with rfl; rw [List.length_append]; exact HU.out) (qbY hown zbh) hgrow)
    clear hown hgrow
    obtain ⟨vs4, hv4, ho4, hs4⟩ := R4.out.steps; have V4 := Lib.hid hv4; have O4 := Lib.hid ho4; have S4 := Lib.hid hs4; clear hv4 ho4 hs4
    have KN4 := Lib.hid R4.out.node; have xk4 := KN4.out.cell 0 _ rfl; have xb4 := KN4.out.cell 2 _ rfl; have xc4 := KN4.out.cell 3 _ rfl; have xx4 := KN4.out.cell 4 _ rfl; have xs4 := KN4.out.cell 6 _ rfl; have xt4 := KN4.out.cell 7 _ rfl; have xl4 := KN4.out.lt; have KP4 := Lib.hid (KPX.out _ R4.out.ext); have xp4 := KP4.out.cell 0 _ rfl; have xq4 := KP4.out.cell 1 _ rfl; have pl4 := KP4.out.lt
    go_wp2_with fail
    rw [ends_normal]
    go_wp2_with fail
    refine qaa 11 120 [true, false, false, false, false, false, false, false, false, false, false] zad zad rfl ?_
    refine yac ?_
    (refine Lex.stepP rfl rfl ?_; intro K hK; go_simp; refine hK _ ?_; clear hK K)
    iterate 6 (refine Lex.step rfl ?_; intro K hK; unfold StepG; go_simp; refine hK _ ?_; clear hK K)
    refine Lex.gap 102 (fun v W' => W'.ownsRow 0 9 1 v (sn'.length + 1) (strV (sn' ++ [zs]))) rfl (fun v W W' hx h => own_ext h hx) rfl (fun d os => ?_) ?_
    · unfold StepG
      go_simp
      exact (qdg (own_ext R4.out.seen ((Ext.refl _).more d os)) (by have := LSS.out; omega) zs).mono fun e w' ⟨v, he, h, hx⟩ => ⟨v, he, hx, by have h' := h.mono (Nat.zero_le _); rw [List.length_append] at h'; exact h'⟩
    iterate 2 (refine Lex.step rfl ?_; intro K hK; unfold StepG; go_simp; refine hK _ ?_; clear hK K)
    refine Lex.gap1 105 (fun v W' => W'.ownsRow 0 9 1 v (sn'.length + 1 + 1) (strV (sn' ++ [zs, zt]))) 102 (fun v W' => W'.ownsRow 0 9 1 v (sn'.length + 1) (strV (sn' ++ [zs]))) rfl (fun v W W' hx h => own_ext h hx) rfl (fun u d os hu => ?_) ?_
    · have HU := Lib.hid hu
      clear hu
      unfold StepG
      go_simp
      exact (qdg (l := sn' ++ [zs]) (by rw [List.length_append]; exact HU.out) (by have := LSS.out; rw [List.length_append]; simp; omega) zt).mono fun e w' ⟨v, he, h, hx⟩ => ⟨v, he, hx, by have h' := h.mono (Nat.zero_le _); rw [List.append_assoc, List.length_append] at h'; exact h'⟩
    refine Lex.nil fun WW hE => ?_
    obtain ⟨dd2, oo2, rfl⟩ := hE
    intro u105 hu105 u102 hu102
    have U105 := Lib.hid (show (more w4 dd2 oo2).ownsRow 0 9 1 u105 (sn' ++ [zs, zt]).length (strV (sn' ++ [zs, zt])) from by rw [List.length_append]; exact hu105)
    clear hu105 hu102
    unfold FillH
    go_simp
    have R4 := Lib.hid (R4.out.of_ext ((Ext.refl _).more dd2 oo2))
    go_wp2_with (first
     | ((with_reducible refine (CB.out _ R4.out.ext u105 U105.out).mono ?_); rintro e' w5 ⟨u5, rfl, hu5, hx5⟩; have R5 := Lib.hid (R4.out.of_ext hx5); obtain ⟨us5, hv5, ho5, hs5⟩ := hu5; have UV5 := Lib.hid hv5; have UO5 := Lib.hid ho5; have US5 := Lib.hid hs5; clear hx5 hv5 ho5 hs5; obtain ⟨vs5, hv5, ho5, hs5⟩ := R5.out.steps; have V5 := Lib.hid hv5; have O5 := Lib.hid ho5; have S5 := Lib.hid hs5; clear hv5 ho5 hs5)
     | (at_builtin; refine qam _ rfl _ _ 78 78 rfl BQ 81 j0 (.agg #[.int .i64 0, .bool false, .string ⟨#[]⟩, .slice none 0 0]) 4 56 Tryz.underlying78 hj hy0 hy1 hy2 rfl zal v4 (((acc ++ EA) ++ [(⟨j, true, zs, sn'⟩ : Stp)]) ++ [(⟨j, true, zt, sn' ++ [zs]⟩ : Stp)]).length (qal vs5) rfl O5.out u5 EB.length (qal us5) rfl (qbL Tryz.underlying78 UO5.out (qdw US5.out)) zat zay (Nat.le_trans (Nat.le_of_eq HBQ2.out.symm) (R5.out.ext).size) ?_))
    intro v6 w6 hown hgrow _
    have R6 := Lib.hid (R5.out.app HBQ.out V5.out UV5.out O5.out S5.out US5.out (qbY hown zbh) hgrow)
    clear hown hgrow
    obtain ⟨vs6, hv6, ho6, hs6⟩ := R6.out.steps; have V6 := Lib.hid hv6; have O6 := Lib.hid ho6; have S6 := Lib.hid hs6; clear hv6 ho6 hs6
    have KN6 := Lib.hid R6.out.node; have xk6 := KN6.out.cell 0 _ rfl; have xb6 := KN6.out.cell 2 _ rfl; have xc6 := KN6.out.cell 3 _ rfl; have xx6 := KN6.out.cell 4 _ rfl; have xs6 := KN6.out.cell 6 _ rfl; have xt6 := KN6.out.cell 7 _ rfl; have xl6 := KN6.out.lt; have KP6 := Lib.hid (KPX.out _ R6.out.ext); have xp6 := KP6.out.cell 0 _ rfl; have xq6 := KP6.out.cell 1 _ rfl; have pl6 := KP6.out.lt
    go_wp2_with fail
    rw [ends_normal]
    go_wp2_with fail
    go_roundg g0
    case measure => omega
    case rel => exact ⟨zx, sn', (((acc ++ EA) ++ [⟨j, true, zs, sn'⟩]) ++ [⟨j, true, zt, sn' ++ [zs]⟩]) ++ EB, nx, rfl, HT2.out.2.2, by have := HG2.out; omega, by have := HG2.out; omega, by have := HG2.out; omega, by rw [← HT3.out]; simp [List.append_assoc], R6.out.steps, R6.out.seen, R6.out.ext, by have := HBD.out; simp only [List.length_append, List.length_cons, List.length_nil] at this ⊢; omega, by have := HG2.out; (try simp only [List.length_append, List.length_cons, List.length_nil] at this ⊢); omega⟩
  · have hK : qaI (qar ns g0) (qan ns g0) j ⟨zk, za, zb, zc, zx, zi, zs, zt⟩ sn' = [] := by unfold qaI; simp [k20, k21, k22, k24, k25, k26]
    have HT3 := Lib.hid HTOT2.out
    rw [hK, if_neg k20] at HT3
    clear hK HTOT2
    have p22 : (zk == 22) = false := by simpa using k22
    have p20 : (zk == 20) = false := by simpa using k20
    have p21 : (zk == 21) = false := by simpa using k21
    have p24 : (zk == 24) = false := by simpa using k24
    have p25 : (zk == 25) = false := by simpa using k25
    have p26 : (zk == 26) = false := by simpa using k26
    clear k20 k21 k22 k24 k25 k26
    go_wp2_with fail
    go_roundg g0
    case measure => omega
    case rel => exact ⟨zx, sn', acc ++ EA, nx, rfl, HT2.out.2.2, by have := HG2.out; omega, by have := HG2.out; omega, by have := HG2.out; omega, by rw [← HT3.out]; simp [List.append_assoc], R2.out.steps, R2.out.seen, R2.out.ext, by have := HBD.out; simp only [List.length_append, List.length_cons, List.length_nil] at this ⊢; omega, by have := HG2.out; (try simp only [List.length_append, List.length_cons, List.length_nil] at this ⊢); omega⟩
end Go.Proofs.YtpoeknndkccbaaaGreat

namespace Go.Proofs.YtpoeknndkccbaaaGreat
open Go.RowKit
attribute [go_sem] more_more Array.size_append
theorem srblock_all {ns : List Nd} {nv : Value} (fi : Int) : ∀ f, RB nv fi ns f := by
 intro f
 induction f using Nat.strongRecOn with
 | _ f ih => exact srblock_of fi f ih
end Go.Proofs.YtpoeknndkccbaaaGreat
