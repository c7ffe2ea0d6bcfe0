/- Lemmas for the claim (texts Sc7, Sc9s, what its proof uses of them). -/
import Derived.Test.YtpoeknndkccbaaaGreatM24
set_option linter.unusedSimpArgs false
set_option linter.unusedVariables false
set_option maxHeartbeats 16000000
set_option maxRecDepth 20000
namespace Go.Proofs.YtpoeknndkccbaaaGreat
open Go.RowKit
variable {W w : World} {m : Nat} {v : Value} {sn : List ByteArray} {t : ByteArray}
attribute [go_sem] more_more Array.size_append
theorem qbD {b : Nat} {e : TypeId} {s n : Nat} {x : List Value} (h : w.ownsRow b e s v n x) (hn : n = m) : w.ownsRow b e s v m x := hn ▸ h
theorem qbP {b1 : Nat} {e1 : TypeId} {s1 n1 : Nat} {v1 : Value} {x1 : List Value} {k : Nat} {cs : Array Value} {T : TypeId} (h1 : w.ownsRow b1 e1 s1 v1 n1 x1) (h2 : KB k cs T w) (hne : e1 ≠ T) : v1.ownBlock ≠ some k := by
 rcases h1.2 with ⟨rfl, _⟩ | ⟨g1, c1, u1, rfl, _, k1, _⟩
 · intro h; cases h
 · intro h
   simp only [Value.ownBlock, Option.some.injEq] at h
   subst h
   unfold KB at h2
   rw [h2] at k1
   simp only [Option.some.injEq, Obj.cells.injEq] at k1
   exact hne k1.2.1.symm
/-- within a round: the row so far, the node, what is seen -/
structure RS (W0 : World) (B kn : Nat) (cs : Array Value) (v : Value) (acc : List Stp) (sv : Value) (sn : List ByteArray) (w : World) : Prop where
 steps : StepsAt B v acc w
 node : KB kn cs 42 w
 seen : w.ownsRow 0 9 1 sv sn.length (strV sn)
 ext : Ext W0 w
theorem RS.of_ext {W0 : World} {B kn : Nat} {cs : Array Value} {acc : List Stp} {sv : Value} {w' : World} (h : RS W0 B kn cs v acc sv sn w) (hx : Ext w w') : RS W0 B kn cs v acc sv sn w' :=
 ⟨h.steps.ext hx, h.node.of_ext hx, own_ext h.seen hx, h.ext.trans hx⟩
theorem RS.app {W0 : World} {B kn : Nat} {cs : Array Value} {v' : Value} {l k : List Stp} {vs ms : List (Stp × Value)} {sv : Value} {sn : List ByteArray} {w w1 : World} (h : RS W0 B kn cs v l sv sn w) (hB : W0.heap.size ≤ B) (hl : vs.map Prod.fst = l) (hk : ms.map Prod.fst = k)
  (h2 : w.ownsRow B 81 4 v l.length (qap vs)) (h3 : ∀ q ∈ vs, w.ownsRow 0 9 1 q.2 q.1.sn.length (strV q.1.sn)) (hm : ∀ q ∈ ms, w.ownsRow 0 9 1 q.2 q.1.sn.length (strV q.1.sn))
  (hr : w1.ownsRow B 81 4 v' (l.length + k.length) (qap vs ++ qap ms)) (hg : w.grownBy w1 v.ownBlock) : RS W0 B kn cs v' (l ++ k) sv sn w1 :=
 ⟨qcx hl hk h2 h3 hm hr hg, (hg.block kn h.node.lt (Ne.symm (qbP h2 h.node zax))).trans h.node,
  qai h.seen fun k hk hlt => hg.block k hlt fun e => qcp h2 h.seen zax k e.symm hk, h.ext.grown hg fun k hk => Nat.le_trans hB (h2.lt k hk).1⟩
def StAgg (j : Int) (t : ByteArray) (sn : List ByteArray) (m : Nat) (v : Value) (W : World) : Prop := ∃ u, v = .agg #[.int .i64 j, .bool true, .string t, u] ∧ W.ownsRow 0 9 1 u m (strV sn)
theorem StAgg.ext {j : Int} {W' : World} (h : StAgg j t sn m v W) (hx : Ext W W') : StAgg j t sn m v W' := by
 obtain ⟨u, h1, h2⟩ := h
 exact ⟨u, h1, own_ext h2 hx⟩
def StNew (j : Int) (t : ByteArray) (sn : List ByteArray) (m : Nat) (v : Value) (W : World) : Prop := ∃ u g, v = .slice (some ⟨g, 0, none⟩) 1 1 ∧ KB g #[.int .i64 j, .bool true, .string t, u] 81 W ∧ W.ownsRow 0 9 1 u m (strV sn)
theorem StNew.ext {j : Int} {W' : World} (h : StNew j t sn m v W) (hx : Ext W W') : StNew j t sn m v W' := by
 obtain ⟨u, g, h1, h2, h3⟩ := h
 exact ⟨u, g, h1, h2.of_ext hx, own_ext h3 hx⟩
theorem stNew_row {g : Nat} {j : Nat} {u : Value} (h : KB g #[.int .i64 (j : Int), .bool true, .string t, u] 81 W) (hu : u.oneCell' = true) : W.ownsRow 0 81 4 (.slice (some ⟨g, 0, none⟩) 1 1) [(⟨j, true, t, sn⟩ : Stp)].length (qap [((⟨j, true, t, sn⟩ : Stp), u)]) :=
 ⟨rfl, Or.inr ⟨g, 1, _, rfl, Nat.zero_le _, h, Nat.le_refl _, by unfold maxLen; omega, rfl, rfl⟩⟩
def RB (nv : Value) (fi : Int) (ns : List Nd) (f : Nat) : Prop := ∀ (i : Int) (n : Nat) (sn : List ByteArray) (sv : Value) (w : World), Tr ns i n → n ≤ f → n ≤ 600 → sn.length + 2 * n ≤ 2000 → w.ownsRow 0 42 8 nv ns.length (qad ns) → w.ownsRow 0 9 1 sv sn.length (strV sn) →
  Calls Tryz.prog 31 #[.agg #[nv, .int .i64 fi], .int .i64 i, sv] w fun e w' => ∃ v, e = .returned v ∧ StepsAt w.heap.size v (qau ns f i sn) w' ∧ Ext w w'
theorem srblock_of {ns : List Nd} {nv : Value} (fi : Int) (f : Nat) (ih : ∀ g, g < f → RB nv fi ns g) : RB nv fi ns f := by
 intro i n sn sv w t hf hn hsn hp hs
 obtain ⟨j0, hj, hy0, hy1, hy2⟩ := info_parts stInfo
 obtain ⟨pn, cn, hnv⟩ := qag hp
 subst hnv
 obtain ⟨nl, hnl⟩ : ∃ nl, ns.length = nl := ⟨_, rfl⟩
 have HNL := Lib.hid hnl
 rw [hnl] at ih ⊢
 have IH := Lib.hid ih
 have HP := Lib.hid (fun W' (hx : Ext w W') => (own_ext hp hx))
 have HS := Lib.hid hs
 have HT := Lib.hid t
 have HLB := Lib.hid (stepsB_len ns f i n sn t)
 obtain ⟨TOT, hTOT⟩ : ∃ TOT, qau ns f i sn = TOT := ⟨_, rfl⟩
 rw [hTOT] at HLB ⊢
 have HTOT := Lib.hid hTOT
 have HFN := Lib.hid (show n ≤ f ∧ n ≤ 600 ∧ sn.length + 2 * n ≤ 2000 from ⟨hf, hn, hsn⟩)
 clear ih hp hs t hTOT hf hn hsn hnl
 go_enter Tryz.func31, Tryz.ntmps31
 go_wp2_with fail
 have XW0 := Lib.hid (show Ext w (w.alloc (.cells #[.slice pn nl cn, .int .i64 fi] 24 (0, 0))) from zaa)
 have KPX := Lib.hid (show ∀ wr, Ext (w.alloc (.cells #[.slice pn nl cn, .int .i64 fi] 24 (0, 0))) wr → KB w.heap.size #[.slice pn nl cn, .int .i64 fi] 24 wr from fun wr hx => (KB.new w _ _).of_ext hx)
 have hszB : (w.alloc (.cells #[.slice pn nl cn, .int .i64 fi] 24 (0, 0))).heap.size = w.heap.size + 1 := by simp
 have HBW := Lib.hid (Nat.le_succ w.heap.size)
 generalize hBQ : w.heap.size + 1 = BQ at *
 generalize hW0 : w.alloc (.cells #[.slice pn nl cn, .int .i64 fi] 24 (0, 0)) = W0 at *
 have HBQ := Lib.hid (Nat.le_of_eq hszB)
 have HBQ2 := Lib.hid hszB
 generalize hk1 : w.heap.size = k1 at *
 have HK1 := Lib.hid hk1
 have HKB := Lib.hid (show k1 ≤ BQ from by omega)
 clear hBQ hW0 hk1 hszB
 go_loopg [1, 2, 7] f (fun g yi ys yl wr => ∃ (i' : Int) (sn' : List ByteArray) (acc : List Stp) (n' : Nat), yi = .int .i64 i' ∧ Tr ns i' n' ∧ n' ≤ g ∧ g ≤ f ∧ n' ≤ 600 ∧ acc ++ qau ns g i' sn' = TOT ∧ StepsAt BQ yl acc wr ∧ wr.ownsRow 0 9 1 ys sn'.length (strV sn') ∧ Ext W0 wr ∧ acc.length + 2 * n' ≤ 1300 ∧ sn'.length + 2 * n' ≤ 2000)
 case atStart => exact ⟨i, sn, [], n, rfl, HT.out, HFN.out.1, Nat.le_refl _, HFN.out.2.1, HTOT.out, StepsAt.nil _ _, own_ext HS.out XW0.out, Ext.refl _, by have := HFN.out; simp; omega, HFN.out.2.2⟩
 case round =>
  obtain ⟨i', sn', acc, n', rfl, t, hg1, hg2, hn6, htot, hst, hse, hx, hbd, hsl⟩ := hrel
  have KP := Lib.hid (KPX.out _ hx)
  have xp := KP.out.cell 0 _ rfl
  have xq := KP.out.cell 1 _ rfl
  have pl := KP.out.lt
  by_cases hi : i' < 0
  · have HR := Lib.hid (show acc = TOT from by rw [← htot]; cases gk <;> (unfold qau; try rw [if_pos hi]) <;> simp)
    have HST := Lib.hid hst
    have HX := Lib.hid hx
    clear t hg1 hg2 hn6 htot hst hse hx hbd hsl
    go_wp2_with fail
    go_ret
    exact ⟨_, rfl, by rw [← HR.out]; exact HST.out.mono (by rw [HK1.out]; exact HKB.out), XW0.out.trans HX.out⟩
  obtain ⟨j, ⟨zk, za, zb, zc, zx, zi, zs, zt⟩, na, nb, nc, nx, rfl, hz, ta, tb, tc, tx, rfl⟩ := qbM t zaf
  obtain ⟨g0, rfl⟩ : ∃ g0, gk = g0 + 1 := ⟨gk - 1, by omega⟩
  dsimp only at ta tb tc tx
  have hjl := (List.getElem?_eq_some_iff.1 hz).1
  have hpr := HP.out wr (XW0.out.trans hx)
  obtain ⟨G, rfl⟩ : ∃ G, pn = some ⟨G, 0, none⟩ := by
   rcases Go.Joins.ownsRow_forms hpr with ⟨_, h0⟩ | ⟨g1, c1, h0⟩
   · omega
   · simp only [Value.slice.injEq] at h0; exact ⟨g1, h0.1⟩
  have hpr2 := hpr
  rw [HNL.out] at hpr2
  obtain ⟨a0, a1, a2, a3, a4, a5, a6, a7⟩ := nd_at hpr2 hz
  dsimp only at a0 a1 a2 a3 a4 a5 a6 a7
  have hG := (hpr2.lt G rfl).2
  have hj0 : 0 ≤ (j : Int) := by omega
  have hjn : (j : Int) < (nl : Int) := by have := HNL.out; omega
  have HTOT2 := Lib.hid htot
  rw [show qau ns (g0 + 1) (j : Int) sn' = (qay ns g0 za sn' ++ qaO (qay ns g0) (qau ns g0) j ⟨zk, za, zb, zc, zx, zi, zs, zt⟩ sn') ++ qau ns g0 zx (if zk = 20 then sn' ++ [zs] else sn') from by rw [qau, if_neg hi, Int.toNat_natCast, hz]] at HTOT2
  have PR := Lib.hid (fun W' (hw : Ext W0 W') => HP.out W' (XW0.out.trans hw))
  have CA := Lib.hid (fun W' (hw : Ext W0 W') sv' (hs : W'.ownsRow 0 9 1 sv' sn'.length (strV sn')) => qdC fi g0 za na sn' sv' W' ta zaf zaf (PR.out W' hw) hs)
  have lea := qaY ns g0 za na sn' ta
  obtain ⟨EA, hEA⟩ : ∃ EA, qay ns g0 za sn' = EA := ⟨_, rfl⟩
  rw [hEA] at CA lea HTOT2
  rw [HNL.out] at CA
  obtain ⟨sp, sc, hsv⟩ := qag hse
  obtain ⟨sl, hsl2⟩ : ∃ sl, sn'.length = sl := ⟨_, rfl⟩
  rw [hsl2] at hsv
  subst hsv
  have HT2 := Lib.hid (show Tr ns zb nb ∧ Tr ns zc nc ∧ Tr ns zx nx from ⟨tb, tc, tx⟩)
  have HG2 := Lib.hid (show 1 + (na + (nb + (nc + nx))) ≤ g0 + 1 ∧ g0 + 1 ≤ f ∧ 1 + (na + (nb + (nc + nx))) ≤ 600 ∧ sn'.length + 2 * (1 + (na + (nb + (nc + nx)))) ≤ 2000 from ⟨hg1, hg2, hn6, hsl⟩)
  have HBD := Lib.hid (show acc.length + 2 * (1 + (na + (nb + (nc + nx)))) ≤ 1300 ∧ EA.length ≤ na from ⟨hbd, lea⟩)
  have R0 := Lib.hid (show RS W0 BQ wr.heap.size #[.int .i64 zk, .int .i64 za, .int .i64 zb, .int .i64 zc, .int .i64 zx, .int .i64 zi, .string zs, .string zt] u7 acc (.slice sp sl sc) sn' (wr.alloc (.cells #[.int .i64 zk, .int .i64 za, .int .i64 zb, .int .i64 zc, .int .i64 zx, .int .i64 zi, .string zs, .string zt] 42 (0, 0))) from ⟨hst.ext ((Ext.refl _).alloc _), KB.new _ _ _, hse.alloc _, hx.alloc _⟩)
  have XL := Lib.hid (show Ext W0 (wr.alloc (.cells #[.int .i64 zk, .int .i64 za, .int .i64 zb, .int .i64 zc, .int .i64 zx, .int .i64 zi, .string zs, .string zt] 42 (0, 0))) from hx.alloc _)
  generalize hkn : wr.heap.size = kn at *
  have HKN := Lib.hid hkn
  clear t ta tb tc tx hz hg1 hg2 hn6 htot hst hse hx hbd hsl hsl2 hpr hpr2 hEA lea hi hjl
  go_wp2_with (first
   | ((with_reducible refine (CA.out _ XL.out _ R0.out.seen).mono ?_); rintro e' w1 ⟨u1, rfl, hu1, hx1⟩; have R1 := Lib.hid (R0.out.of_ext hx1); obtain ⟨us1, hv1, ho1, hs1⟩ := hu1; have UV1 := Lib.hid hv1; have UO1 := Lib.hid ho1; have US1 := Lib.hid hs1; clear hx1 hv1 ho1 hs1; obtain ⟨vs1, hv1, ho1, hs1⟩ := R1.out.steps; have V1 := Lib.hid hv1; have O1 := Lib.hid ho1; have S1 := Lib.hid hs1; clear hv1 ho1 hs1)
   | (at_builtin; refine qas _ rfl _ _ 78 78 rfl BQ 81 j0 (.agg #[.int .i64 0, .bool false, .string ⟨#[]⟩, .slice none 0 0]) 4 56 Tryz.underlying78 hj hy0 hy1 hy2 rfl zax u7 acc.length (qap vs1) rfl O1.out u1 EA.length (qap us1) rfl (qbu Tryz.underlying78 UO1.out (qcH US1.out)) zbj zbr (Nat.le_trans (Nat.le_of_eq HBQ2.out.symm) (R1.out.ext).size) ?_))
  intro v2 w2 hown hgrow _
  have R2 := Lib.hid (R1.out.app HBQ.out V1.out UV1.out O1.out S1.out US1.out hown hgrow)
  clear hown hgrow
  obtain ⟨vs2, hv2, ho2, hs2⟩ := R2.out.steps
  have V2 := Lib.hid hv2
  have O2 := Lib.hid ho2
  have S2 := Lib.hid hs2
  clear hv2 ho2 hs2
  have KN2 := Lib.hid R2.out.node
  have xk2 := KN2.out.cell 0 _ rfl
  have xb2 := KN2.out.cell 2 _ rfl
  have xc2 := KN2.out.cell 3 _ rfl
  have xx2 := KN2.out.cell 4 _ rfl
  have xs2 := KN2.out.cell 6 _ rfl
  have xt2 := KN2.out.cell 7 _ rfl
  have xl2 := KN2.out.lt
  have KP2 := Lib.hid (KPX.out _ R2.out.ext)
  have xp2 := KP2.out.cell 0 _ rfl
  have xq2 := KP2.out.cell 1 _ rfl
  have pl2 := KP2.out.lt
  have PN := Lib.hid (fun W' (hw : Ext W0 W') => show W'.ownsRow 0 42 8 (.slice (some ⟨G, 0, none⟩) nl cn) ns.length (qad ns) from by have := PR.out W' hw; rw [HNL.out] at this ⊢; exact this)
  have lss : sn'.length ≤ 2000 := by have := HG2.out; omega
  have LSS := Lib.hid lss
  clear lss
  by_cases k20 : zk = 20
  · subst k20
    have hK : qaO (qay ns g0) (qau ns g0) j ⟨20, za, zb, zc, zx, zi, zs, zt⟩ sn' = [⟨j, true, zs, sn'⟩] := by unfold qaO; simp
    have HT3 := Lib.hid HTOT2.out
    rw [hK, if_pos rfl] at HT3
    clear hK HTOT2
    go_wp2_with (at_builtin; refine wpList_append_own_at _ rfl _ _ 78 rfl BQ 81 j0 (.agg #[.int .i64 0, .bool false, .string ⟨#[]⟩, .slice none 0 0]) 4 56 Tryz.underlying78 hj hy0 hy1 hy2 rfl zax v2 (acc ++ EA).length (qap vs2) rfl (O2.out.alloc _) ⟨_, 0, none⟩ 1 1 [.int .i64 (j : Int), .bool true, .string zs, .slice sp sl sc] rfl rfl (qam (by first | (simp; done) | simp [more_size])) zde zbj zbr (Nat.le_trans (Nat.le_of_eq HBQ2.out.symm) (R2.out.ext.alloc _).size) ?_)
    intro v3 w3 hown hgrow _ _
    have R3 := Lib.hid ((R2.out.of_ext ((Ext.refl _).alloc _)).app HBQ.out (k := [⟨j, true, zs, sn'⟩]) V2.out (ms := [(⟨j, true, zs, sn'⟩, (.slice sp sl sc))]) rfl (O2.out.alloc _) (fun q hq => (S2.out q hq).alloc _) (fun q hq => by rcases List.mem_singleton.1 hq with rfl; exact R2.out.seen.alloc _) (qbD hown zck) hgrow)
    clear hown hgrow
    obtain ⟨vs3, hv3, ho3, hs3⟩ := R3.out.steps; have V3 := Lib.hid hv3; have O3 := Lib.hid ho3; have S3 := Lib.hid hs3; clear hv3 ho3 hs3
    have KN3 := Lib.hid R3.out.node; have xk3 := KN3.out.cell 0 _ rfl; have xb3 := KN3.out.cell 2 _ rfl; have xc3 := KN3.out.cell 3 _ rfl; have xx3 := KN3.out.cell 4 _ rfl; have xs3 := KN3.out.cell 6 _ rfl; have xt3 := KN3.out.cell 7 _ rfl; have xl3 := KN3.out.lt; have KP3 := Lib.hid (KPX.out _ R3.out.ext); have xp3 := KP3.out.cell 0 _ rfl; have xq3 := KP3.out.cell 1 _ rfl; have pl3 := KP3.out.lt
    go_wp2_with ((with_reducible refine (qcn R3.out.seen (by have := LSS.out; omega) zs).mono ?_); rintro e' w4 ⟨v4, rfl, hv4, hx4⟩; have R4 := Lib.hid (R3.out.of_ext hx4); have SN := Lib.hid (hv4.mono (Nat.zero_le _)); clear hv4 hx4; have KN4 := Lib.hid R4.out.node; have xx4 := KN4.out.cell 4 _ rfl; have xl4 := KN4.out.lt)
    go_wp2_with fail
    go_roundg g0
    case measure => omega
    case rel => exact ⟨zx, sn' ++ [zs], (acc ++ EA) ++ [⟨j, true, zs, sn'⟩], nx, rfl, HT2.out.2.2, by have := HG2.out; omega, by have := HG2.out; omega, by have := HG2.out; omega, by rw [← HT3.out]; simp [List.append_assoc], R4.out.steps, SN.out, R4.out.ext, by have := HBD.out; simp only [List.length_append, List.length_cons, List.length_nil] at this ⊢; omega, by have := HG2.out; (try simp only [List.length_append, List.length_cons, List.length_nil] at this ⊢); omega⟩
  by_cases k21 : zk = 21
  · subst k21
    have hK : qaO (qay ns g0) (qau ns g0) j ⟨21, za, zb, zc, zx, zi, zs, zt⟩ sn' = [⟨j, false, zs, sn'⟩] := by unfold qaO; simp
    have HT3 := Lib.hid HTOT2.out
    rw [hK, if_neg zax] at HT3
    clear hK HTOT2
    go_wp2_with (at_builtin; refine wpList_append_own_at _ rfl _ _ 78 rfl BQ 81 j0 (.agg #[.int .i64 0, .bool false, .string ⟨#[]⟩, .slice none 0 0]) 4 56 Tryz.underlying78 hj hy0 hy1 hy2 rfl zax v2 (acc ++ EA).length (qap vs2) rfl (O2.out.alloc _) ⟨_, 0, none⟩ 1 1 [.int .i64 (j : Int), .bool false, .string zs, .slice sp sl sc] rfl rfl (qam (by first | (simp; done) | simp [more_size])) zde zbj zbr (Nat.le_trans (Nat.le_of_eq HBQ2.out.symm) (R2.out.ext.alloc _).size) ?_)
    intro v3 w3 hown hgrow _ _
    have R3 := Lib.hid ((R2.out.of_ext ((Ext.refl _).alloc _)).app HBQ.out (k := [⟨j, false, zs, sn'⟩]) V2.out (ms := [(⟨j, false, zs, sn'⟩, (.slice sp sl sc))]) rfl (O2.out.alloc _) (fun q hq => (S2.out q hq).alloc _) (fun q hq => by rcases List.mem_singleton.1 hq with rfl; exact R2.out.seen.alloc _) (qbD hown zck) hgrow)
    clear hown hgrow
    obtain ⟨vs3, hv3, ho3, hs3⟩ := R3.out.steps; have V3 := Lib.hid hv3; have O3 := Lib.hid ho3; have S3 := Lib.hid hs3; clear hv3 ho3 hs3
    have KN3 := Lib.hid R3.out.node; have xk3 := KN3.out.cell 0 _ rfl; have xb3 := KN3.out.cell 2 _ rfl; have xc3 := KN3.out.cell 3 _ rfl; have xx3 := KN3.out.cell 4 _ rfl; have xs3 := KN3.out.cell 6 _ rfl; have xt3 := KN3.out.cell 7 _ rfl; have xl3 := KN3.out.lt; have KP3 := Lib.hid (KPX.out _ R3.out.ext); have xp3 := KP3.out.cell 0 _ rfl; have xq3 := KP3.out.cell 1 _ rfl; have pl3 := KP3.out.lt
    go_wp2_with fail
    go_roundg g0
    case measure => omega
    case rel => exact ⟨zx, sn', (acc ++ EA) ++ [⟨j, false, zs, sn'⟩], nx, rfl, HT2.out.2.2, by have := HG2.out; omega, by have := HG2.out; omega, by have := HG2.out; omega, by rw [← HT3.out]; simp [List.append_assoc], R3.out.steps, R3.out.seen, R3.out.ext, by have := HBD.out; simp only [List.length_append, List.length_cons, List.length_nil] at this ⊢; omega, by have := HG2.out; (try simp only [List.length_append, List.length_cons, List.length_nil] at this ⊢); omega⟩
  by_cases k22 : zk = 22
  · subst k22
    have hK : qaO (qay ns g0) (qau ns g0) j ⟨22, za, zb, zc, zx, zi, zs, zt⟩ sn' = qay ns g0 zb sn' := by unfold qaO; simp
    have HT3 := Lib.hid HTOT2.out
    rw [hK, if_neg zax] at HT3
    clear hK HTOT2
    have CB := Lib.hid (fun W' (hw : Ext W0 W') sv' (hs : W'.ownsRow 0 9 1 sv' sn'.length (strV sn')) => qdC fi g0 zb nb sn' sv' W' HT2.out.1 zdg zdg (PR.out W' hw) hs)
    rw [HNL.out] at CB
    have leB := qaY ns g0 zb nb sn' HT2.out.1
    obtain ⟨EB, hEB⟩ : ∃ x, qay ns g0 zb sn' = x := ⟨_, rfl⟩
    rw [hEB] at CB leB HT3
    clear hEB
    have HBD := Lib.hid (And.intro HBD.out leB)
    clear leB
    go_wp2_with (first
     | ((with_reducible refine (CB.out _ R2.out.ext _ R2.out.seen).mono ?_); rintro e' w5 ⟨u5, rfl, hu5, hx5⟩; have R5 := Lib.hid (R2.out.of_ext hx5); obtain ⟨us5, hv5, ho5, hs5⟩ := hu5; have UV5 := Lib.hid hv5; have UO5 := Lib.hid ho5; have US5 := Lib.hid hs5; clear hx5 hv5 ho5 hs5; obtain ⟨vs5, hv5, ho5, hs5⟩ := R5.out.steps; have V5 := Lib.hid hv5; have O5 := Lib.hid ho5; have S5 := Lib.hid hs5; clear hv5 ho5 hs5)
     | (at_builtin; refine qas _ rfl _ _ 78 78 rfl BQ 81 j0 (.agg #[.int .i64 0, .bool false, .string ⟨#[]⟩, .slice none 0 0]) 4 56 Tryz.underlying78 hj hy0 hy1 hy2 rfl zax v2 (acc ++ EA).length (qap vs5) rfl O5.out u5 EB.length (qap us5) rfl (qbu Tryz.underlying78 UO5.out (qcH US5.out)) zbj zbr (Nat.le_trans (Nat.le_of_eq HBQ2.out.symm) (R5.out.ext).size) ?_))
    intro v3 w3 hown hgrow _
    have R3 := Lib.hid (R5.out.app HBQ.out V5.out UV5.out O5.out S5.out US5.out (qbD hown zck) hgrow)
    clear hown hgrow
    obtain ⟨vs3, hv3, ho3, hs3⟩ := R3.out.steps; have V3 := Lib.hid hv3; have O3 := Lib.hid ho3; have S3 := Lib.hid hs3; clear hv3 ho3 hs3
    have KN3 := Lib.hid R3.out.node; have xk3 := KN3.out.cell 0 _ rfl; have xb3 := KN3.out.cell 2 _ rfl; have xc3 := KN3.out.cell 3 _ rfl; have xx3 := KN3.out.cell 4 _ rfl; have xs3 := KN3.out.cell 6 _ rfl; have xt3 := KN3.out.cell 7 _ rfl; have xl3 := KN3.out.lt; have KP3 := Lib.hid (KPX.out _ R3.out.ext); have xp3 := KP3.out.cell 0 _ rfl; have xq3 := KP3.out.cell 1 _ rfl; have pl3 := KP3.out.lt
    go_wp2_with fail
    go_roundg g0
    case measure => omega
    case rel => exact ⟨zx, sn', (acc ++ EA) ++ EB, nx, rfl, HT2.out.2.2, by have := HG2.out; omega, by have := HG2.out; omega, by have := HG2.out; omega, by rw [← HT3.out]; simp [List.append_assoc], R3.out.steps, R3.out.seen, R3.out.ext, by have := HBD.out; simp only [List.length_append, List.length_cons, List.length_nil] at this ⊢; omega, by have := HG2.out; (try simp only [List.length_append, List.length_cons, List.length_nil] at this ⊢); omega⟩
  by_cases k24 : zk = 24
  · subst k24
    have hK : qaO (qay ns g0) (qau ns g0) j ⟨24, za, zb, zc, zx, zi, zs, zt⟩ sn' = qau ns g0 zb sn' ++ qau ns g0 zc sn' := by unfold qaO; simp
    have HT3 := Lib.hid HTOT2.out
    rw [hK, if_neg zax] at HT3
    clear hK HTOT2
    have CB := Lib.hid (fun W' (hw : Ext W0 W') sv' (hs : W'.ownsRow 0 9 1 sv' (sn').length (strV (sn'))) => IH.out g0 zdg zb nb (sn') sv' W' HT2.out.1 zdg zdg zdc (PN.out W' hw) hs)
    have leB := stepsB_len ns g0 zb nb (sn') HT2.out.1
    obtain ⟨EB, hEB⟩ : ∃ x, qau ns g0 zb (sn') = x := ⟨_, rfl⟩
    rw [hEB] at CB leB HT3
    clear hEB
    have HBD := Lib.hid (And.intro HBD.out leB)
    clear leB
    have CC := Lib.hid (fun W' (hw : Ext W0 W') sv' (hs : W'.ownsRow 0 9 1 sv' (sn').length (strV (sn'))) => IH.out g0 zdg zc nc (sn') sv' W' HT2.out.2.1 zdg zdg zdc (PN.out W' hw) hs)
    have leC := stepsB_len ns g0 zc nc (sn') HT2.out.2.1
    obtain ⟨EC, hEC⟩ : ∃ x, qau ns g0 zc (sn') = x := ⟨_, rfl⟩
    rw [hEC] at CC leC HT3
    clear hEC
    have HBD := Lib.hid (And.intro HBD.out leC)
    clear leC
    go_wp2_with (first
     | ((with_reducible refine (CB.out _ R2.out.ext _ R2.out.seen).mono ?_); rintro e' w5 ⟨u5, rfl, hu5, hx5⟩; have R5 := Lib.hid (R2.out.of_ext hx5); obtain ⟨us5, hv5, ho5, hs5⟩ := hu5; have UV5 := Lib.hid hv5; have UO5 := Lib.hid ho5; have US5 := Lib.hid hs5; clear hx5 hv5 ho5 hs5; obtain ⟨vs5, hv5, ho5, hs5⟩ := R5.out.steps; have V5 := Lib.hid hv5; have O5 := Lib.hid ho5; have S5 := Lib.hid hs5; clear hv5 ho5 hs5)
     | (at_builtin; refine qas _ rfl _ _ 78 78 rfl BQ 81 j0 (.agg #[.int .i64 0, .bool false, .string ⟨#[]⟩, .slice none 0 0]) 4 56 Tryz.underlying78 hj hy0 hy1 hy2 rfl zax v2 (acc ++ EA).length (qap vs5) rfl O5.out u5 EB.length (qap us5) rfl (qbu Tryz.underlying78 UO5.out (qcH US5.out)) zbj zbr (Nat.le_trans (Nat.le_of_eq HBQ2.out.symm) (R5.out.ext).size) ?_))
    intro v3 w3 hown hgrow _
    have R3 := Lib.hid (R5.out.app HBQ.out V5.out UV5.out O5.out S5.out US5.out (qbD hown zck) hgrow)
    clear hown hgrow
    obtain ⟨vs3, hv3, ho3, hs3⟩ := R3.out.steps; have V3 := Lib.hid hv3; have O3 := Lib.hid ho3; have S3 := Lib.hid hs3; clear hv3 ho3 hs3
    have KN3 := Lib.hid R3.out.node; have xk3 := KN3.out.cell 0 _ rfl; have xb3 := KN3.out.cell 2 _ rfl; have xc3 := KN3.out.cell 3 _ rfl; have xx3 := KN3.out.cell 4 _ rfl; have xs3 := KN3.out.cell 6 _ rfl; have xt3 := KN3.out.cell 7 _ rfl; have xl3 := KN3.out.lt; have KP3 := Lib.hid (KPX.out _ R3.out.ext); have xp3 := KP3.out.cell 0 _ rfl; have xq3 := KP3.out.cell 1 _ rfl; have pl3 := KP3.out.lt
    go_wp2_with (first
     | ((with_reducible refine (CC.out _ R3.out.ext _ R3.out.seen).mono ?_); rintro e' w6 ⟨u6, rfl, hu6, hx6⟩; have R6 := Lib.hid (R3.out.of_ext hx6); obtain ⟨us6, hv6, ho6, hs6⟩ := hu6; have UV6 := Lib.hid hv6; have UO6 := Lib.hid ho6; have US6 := Lib.hid hs6; clear hx6 hv6 ho6 hs6; obtain ⟨vs6, hv6, ho6, hs6⟩ := R6.out.steps; have V6 := Lib.hid hv6; have O6 := Lib.hid ho6; have S6 := Lib.hid hs6; clear hv6 ho6 hs6)
     | (at_builtin; refine qas _ rfl _ _ 78 78 rfl BQ 81 j0 (.agg #[.int .i64 0, .bool false, .string ⟨#[]⟩, .slice none 0 0]) 4 56 Tryz.underlying78 hj hy0 hy1 hy2 rfl zax v3 (acc ++ EA ++ EB).length (qap vs6) rfl O6.out u6 EC.length (qap us6) rfl (qbu Tryz.underlying78 UO6.out (qcH US6.out)) zbj zbr (Nat.le_trans (Nat.le_of_eq HBQ2.out.symm) (R6.out.ext).size) ?_))
    intro v4 w4 hown hgrow _
    have R4 := Lib.hid (R6.out.app HBQ.out V6.out UV6.out O6.out S6.out US6.out (qbD hown zck) hgrow)
    clear hown hgrow
    obtain ⟨vs4, hv4, ho4, hs4⟩ := R4.out.steps; have V4 := Lib.hid hv4; have O4 := Lib.hid ho4; have S4 := Lib.hid hs4; clear hv4 ho4 hs4
    have KN4 := Lib.hid R4.out.node; have xk4 := KN4.out.cell 0 _ rfl; have xb4 := KN4.out.cell 2 _ rfl; have xc4 := KN4.out.cell 3 _ rfl; have xx4 := KN4.out.cell 4 _ rfl; have xs4 := KN4.out.cell 6 _ rfl; have xt4 := KN4.out.cell 7 _ rfl; have xl4 := KN4.out.lt; have KP4 := Lib.hid (KPX.out _ R4.out.ext); have xp4 := KP4.out.cell 0 _ rfl; have xq4 := KP4.out.cell 1 _ rfl; have pl4 := KP4.out.lt
    go_wp2_with fail
    go_roundg g0
    case measure => omega
    case rel => exact ⟨zx, sn', (acc ++ EA ++ EB) ++ EC, nx, rfl, HT2.out.2.2, by have := HG2.out; omega, by have := HG2.out; omega, by have := HG2.out; omega, by rw [← HT3.out]; simp [List.append_assoc], R4.out.steps, R4.out.seen, R4.out.ext, by have := HBD.out; simp only [List.length_append, List.length_cons, List.length_nil] at this ⊢; omega, by have := HG2.out; (try simp only [List.length_append, List.length_cons, List.length_nil] at this ⊢); omega⟩
  by_cases k26 : zk = 26
  · subst k26
    have hK : qaO (qay ns g0) (qau ns g0) j ⟨26, za, zb, zc, zx, zi, zs, zt⟩ sn' = qau ns g0 zb sn' := by unfold qaO; simp
    have HT3 := Lib.hid HTOT2.out
    rw [hK, if_neg zax] at HT3
    clear hK HTOT2
    have CB := Lib.hid (fun W' (hw : Ext W0 W') sv' (hs : W'.ownsRow 0 9 1 sv' (sn').length (strV (sn'))) => IH.out g0 zdg zb nb (sn') sv' W' HT2.out.1 zdg zdg zdc (PN.out W' hw) hs)
    have leB := stepsB_len ns g0 zb nb (sn') HT2.out.1
    obtain ⟨EB, hEB⟩ : ∃ x, qau ns g0 zb (sn') = x := ⟨_, rfl⟩
    rw [hEB] at CB leB HT3
    clear hEB
    have HBD := Lib.hid (And.intro HBD.out leB)
    clear leB
    go_wp2_with (first
     | ((with_reducible refine (CB.out _ R2.out.ext _ R2.out.seen).mono ?_); rintro e' w5 ⟨u5, rfl, hu5, hx5⟩; have R5 := Lib.hid (R2.out.of_ext hx5); obtain ⟨us5, hv5, ho5, hs5⟩ := hu5; have UV5 := Lib.hid hv5; have UO5 := Lib.hid ho5; have US5 := Lib.hid hs5; clear hx5 hv5 ho5 hs5; obtain ⟨vs5, hv5, ho5, hs5⟩ := R5.out.steps; have V5 := Lib.hid hv5; have O5 := Lib.hid ho5; have S5 := Lib.hid hs5; clear hv5 ho5 hs5)
     | (at_builtin; refine qas _ rfl _ _ 78 78 rfl BQ 81 j0 (.agg #[.int .i64 0, .bool false, .string ⟨#[]⟩, .slice none 0 0]) 4 56 Tryz.underlying78 hj hy0 hy1 hy2 rfl zax v2 (acc ++ EA).length (qap vs5) rfl O5.out u5 EB.length (qap us5) rfl (qbu Tryz.underlying78 UO5.out (qcH US5.out)) zbj zbr (Nat.le_trans (Nat.le_of_eq HBQ2.out.symm) (R5.out.ext).size) ?_))
    intro v3 w3 hown hgrow _
    have R3 := Lib.hid (R5.out.app HBQ.out V5.out UV5.out O5.out S5.out US5.out (qbD hown zck) hgrow)
    clear hown hgrow
    obtain ⟨vs3, hv3, ho3, hs3⟩ := R3.out.steps; have V3 := Lib.hid hv3; have O3 := Lib.hid ho3; have S3 := Lib.hid hs3; clear hv3 ho3 hs3
    have KN3 := Lib.hid R3.out.node; have xk3 := KN3.out.cell 0 _ rfl; have xb3 := KN3.out.cell 2 _ rfl; have xc3 := KN3.out.cell 3 _ rfl; have xx3 := KN3.out.cell 4 _ rfl; have xs3 := KN3.out.cell 6 _ rfl; have xt3 := KN3.out.cell 7 _ rfl; have xl3 := KN3.out.lt; have KP3 := Lib.hid (KPX.out _ R3.out.ext); have xp3 := KP3.out.cell 0 _ rfl; have xq3 := KP3.out.cell 1 _ rfl; have pl3 := KP3.out.lt
    go_wp2_with fail
    go_roundg g0
    case measure => omega
    case rel => exact ⟨zx, sn', (acc ++ EA) ++ EB, nx, rfl, HT2.out.2.2, by have := HG2.out; omega, by have := HG2.out; omega, by have := HG2.out; omega, by rw [← HT3.out]; simp [List.append_assoc], R3.out.steps, R3.out.seen, R3.out.ext, by have := HBD.out; simp only [List.length_append, List.length_cons, List.length_nil] at this ⊢; omega, by have := HG2.out; (try simp only [List.length_append, List.length_cons, List.length_nil] at this ⊢); omega⟩
  by_cases k25 : zk = 25
  · subst k25
    have hK : qaO (qay ns g0) (qau ns g0) j ⟨25, za, zb, zc, zx, zi, zs, zt⟩ sn' = ([⟨j, true, zs, sn'⟩] ++ [⟨j, true, zt, sn' ++ [zs]⟩]) ++ qau ns g0 zb (sn' ++ [zs, zt]) := by unfold qaO; simp
    have HT3 := Lib.hid HTOT2.out
    rw [hK, if_neg zax] at HT3
    clear hK HTOT2
    have CB := Lib.hid (fun W' (hw : Ext W0 W') sv' (hs : W'.ownsRow 0 9 1 sv' (sn' ++ [zs, zt]).length (strV (sn' ++ [zs, zt]))) => IH.out g0 zdg zb nb (sn' ++ [zs, zt]) sv' W' HT2.out.1 zdg zdg zdc (PN.out W' hw) hs)
    have leB := stepsB_len ns g0 zb nb (sn' ++ [zs, zt]) HT2.out.1
    obtain ⟨EB, hEB⟩ : ∃ x, qau ns g0 zb (sn' ++ [zs, zt]) = x := ⟨_, rfl⟩
    rw [hEB] at CB leB HT3
    clear hEB
    have HBD := Lib.hid (And.intro HBD.out leB)
    clear leB
    go_wp2_with (at_builtin; refine wpList_append_own_at _ rfl _ _ 78 rfl BQ 81 j0 (.agg #[.int .i64 0, .bool false, .string ⟨#[]⟩, .slice none 0 0]) 4 56 Tryz.underlying78 hj hy0 hy1 hy2 rfl zax v2 (acc ++ EA).length (qap vs2) rfl (O2.out.alloc _) ⟨_, 0, none⟩ 1 1 [.int .i64 (j : Int), .bool true, .string zs, .slice sp sl sc] rfl rfl (qam (by first | (simp; done) | simp [more_size])) zde zbj zbr (Nat.le_trans (Nat.le_of_eq HBQ2.out.symm) (R2.out.ext.alloc _).size) ?_)
    intro v3 w3 hown hgrow _ _
    have R3 := Lib.hid ((R2.out.of_ext ((Ext.refl _).alloc _)).app HBQ.out (k := [⟨j, true, zs, sn'⟩]) V2.out (ms := [(⟨j, true, zs, sn'⟩, (.slice sp sl sc))]) rfl (O2.out.alloc _) (fun q hq => (S2.out q hq).alloc _) (fun q hq => by rcases List.mem_singleton.1 hq with rfl; exact R2.out.seen.alloc _) (qbD hown zck) hgrow)
    clear hown hgrow
    obtain ⟨vs3, hv3, ho3, hs3⟩ := R3.out.steps; have V3 := Lib.hid hv3; have O3 := Lib.hid ho3; have S3 := Lib.hid hs3; clear hv3 ho3 hs3
    have KN3 := Lib.hid R3.out.node; have xk3 := KN3.out.cell 0 _ rfl; have xb3 := KN3.out.cell 2 _ rfl; have xc3 := KN3.out.cell 3 _ rfl; have xx3 := KN3.out.cell 4 _ rfl; have xs3 := KN3.out.cell 6 _ rfl; have xt3 := KN3.out.cell 7 _ rfl; have xl3 := KN3.out.lt; have KP3 := Lib.hid (KPX.out _ R3.out.ext); have xp3 := KP3.out.cell 0 _ rfl; have xq3 := KP3.out.cell 1 _ rfl; have pl3 := KP3.out.lt
    go_wp2_with fail
    refine qaa 10 120 [false, false, false, false, false, false, false, false, false, false] zae zae rfl ?_
    refine yac ?_
    iterate 7 (refine Lex.step rfl ?_; intro K hK; unfold StepG; go_simp; refine hK _ ?_; clear hK K)
    refine Lex.gap 91 (fun v W' => W'.ownsRow 0 9 1 v (sn'.length + 1) (strV (sn' ++ [zs]))) rfl (fun v W W' hx h => own_ext h hx) rfl (fun d os => ?_) ?_
    · unfold StepG
      go_simp
      exact (qcn (own_ext R3.out.seen ((Ext.refl _).more d os)) (by have := LSS.out; omega) zs).mono fun e w' ⟨v, he, h, hx⟩ => ⟨v, he, hx, by have h' := h.mono (Nat.zero_le _); rw [List.length_append] at h'; exact h'⟩
    refine Lex.gap1 92 (StAgg (j : Int) zt (sn' ++ [zs]) (sn'.length + 1)) 91 (fun v W' => W'.ownsRow 0 9 1 v (sn'.length + 1) (strV (sn' ++ [zs]))) rfl (fun v W W' hx h => h.ext hx) rfl (fun u d os hu => ?_) ?_
    · have HU := Lib.hid hu
      obtain ⟨up, uc, huv⟩ := qag hu
      subst huv
      clear hu
      unfold StepG
      go_simp
      exact ⟨_, rfl, HU.out⟩
    refine Lex.gap1 93 (StNew (j : Int) zt (sn' ++ [zs]) (sn'.length + 1)) 92 (StAgg (j : Int) zt (sn' ++ [zs]) (sn'.length + 1)) rfl (fun v W W' hx h => h.ext hx) rfl (fun u d os hu => ?_) ?_
    · obtain ⟨u2, rfl, hu⟩ := hu
      have HU := Lib.hid hu
      obtain ⟨up, uc, huv⟩ := qag hu
      subst huv
      clear hu
      unfold StepG
      go_simp
      exact ⟨(Ext.refl _).alloc _, _, _, rfl, (by have := heap_alloc_new (more w3 d os) (.cells #[.int .i64 (j : Int), .bool true, .string zt, .slice up (sn'.length + 1) uc] 81 (0, 0)); simp only [more_size] at this; exact this), HU.out.alloc _⟩
    refine Lex.nil fun WW hE => ?_
    obtain ⟨dd, oo, rfl⟩ := hE
    intro u93 hu93 u92 _ u91 _
    obtain ⟨u, g93, rfl, hg93, hu⟩ := hu93
    have HU := Lib.hid hu
    have UO93 := Lib.hid (stNew_row (sn := sn' ++ [zs]) hg93 (own_one hu))
    clear hu hg93
    have R3 := Lib.hid (R3.out.of_ext ((Ext.refl _).more dd oo))
    obtain ⟨vs3, hv3, ho3, hs3⟩ := R3.out.steps; have V3 := Lib.hid hv3; have O3 := Lib.hid ho3; have S3 := Lib.hid hs3; clear hv3 ho3 hs3
    unfold FillH
    go_simp
    go_wp2_with (at_builtin; refine qas _ rfl _ _ 78 78 rfl BQ 81 j0 (.agg #[.int .i64 0, .bool false, .string ⟨#[]⟩, .slice none 0 0]) 4 56 Tryz.underlying78 hj hy0 hy1 hy2 rfl zax v3 ((acc ++ EA) ++ [(⟨j, true, zs, sn'⟩ : Stp)]).length (qap vs3) rfl O3.out (.slice (some ⟨g93, 0, none⟩) 1 1) [(⟨j, true, zt, sn' ++ [zs]⟩ : Stp)].length (qap [((⟨j, true, zt, sn' ++ [zs]⟩ : Stp), u)]) rfl (qbu Tryz.underlying78 UO93.out (qcH (B := 0) (fun q hq => by rcases List.mem_singleton.1 hq with rfl; rw [List.length_append]; exact HU.out))) zbj zbr (Nat.le_trans (Nat.le_of_eq HBQ2.out.symm) (R3.out.ext).size) ?_)
    intro v4 w4 hown hgrow _
    have R4 := Lib.hid (R3.out.app HBQ.out (k := [⟨j, true, zt, sn' ++ [zs]⟩]) V3.out (ms := [(⟨j, true, zt, sn' ++ [zs]⟩, u)]) rfl O3.out S3.out (fun q hq => by rcases List.mem_singleton.1 hq with rfl; rw [List.length_append]; exact HU.out) (qbD hown zck) hgrow)
    clear hown hgrow
    obtain ⟨vs4, hv4, ho4, hs4⟩ := R4.out.steps; have V4 := Lib.hid hv4; have O4 := Lib.hid ho4; have S4 := Lib.hid hs4; clear hv4 ho4 hs4
    have KN4 := Lib.hid R4.out.node; have xk4 := KN4.out.cell 0 _ rfl; have xb4 := KN4.out.cell 2 _ rfl; have xc4 := KN4.out.cell 3 _ rfl; have xx4 := KN4.out.cell 4 _ rfl; have xs4 := KN4.out.cell 6 _ rfl; have xt4 := KN4.out.cell 7 _ rfl; have xl4 := KN4.out.lt; have KP4 := Lib.hid (KPX.out _ R4.out.ext); have xp4 := KP4.out.cell 0 _ rfl; have xq4 := KP4.out.cell 1 _ rfl; have pl4 := KP4.out.lt
    go_wp2_with fail
    rw [ends_normal]
    go_wp2_with fail
    refine qaa 11 120 [true, false, false, false, false, false, false, false, false, false, false] zae zae rfl ?_
    refine yac ?_
    (refine Lex.stepP rfl rfl ?_; intro K hK; go_simp; refine hK _ ?_; clear hK K)
    iterate 6 (refine Lex.step rfl ?_; intro K hK; unfold StepG; go_simp; refine hK _ ?_; clear hK K)
    refine Lex.gap 102 (fun v W' => W'.ownsRow 0 9 1 v (sn'.length + 1) (strV (sn' ++ [zs]))) rfl (fun v W W' hx h => own_ext h hx) rfl (fun d os => ?_) ?_
    · unfold StepG
      go_simp
      exact (qcn (own_ext R4.out.seen ((Ext.refl _).more d os)) (by have := LSS.out; omega) zs).mono fun e w' ⟨v, he, h, hx⟩ => ⟨v, he, hx, by have h' := h.mono (Nat.zero_le _); rw [List.length_append] at h'; exact h'⟩
    iterate 2 (refine Lex.step rfl ?_; intro K hK; unfold StepG; go_simp; refine hK _ ?_; clear hK K)
    refine Lex.gap1 105 (fun v W' => W'.ownsRow 0 9 1 v (sn'.length + 1 + 1) (strV (sn' ++ [zs, zt]))) 102 (fun v W' => W'.ownsRow 0 9 1 v (sn'.length + 1) (strV (sn' ++ [zs]))) rfl (fun v W W' hx h => own_ext h hx) rfl (fun u d os hu => ?_) ?_
    · have HU := Lib.hid hu
      clear hu
      unfold StepG
      go_simp
      exact (qcn (l := sn' ++ [zs]) (by rw [List.length_append]; exact HU.out) (by have := LSS.out; rw [List.length_append]; simp; omega) zt).mono fun e w' ⟨v, he, h, hx⟩ => ⟨v, he, hx, by have h' := h.mono (Nat.zero_le _); rw [List.append_assoc, List.length_append] at h'; exact h'⟩
    refine Lex.nil fun WW hE => ?_
    obtain ⟨dd2, oo2, rfl⟩ := hE
    intro u105 hu105 u102 hu102
    have U105 := Lib.hid (show (more w4 dd2 oo2).ownsRow 0 9 1 u105 (sn' ++ [zs, zt]).length (strV (sn' ++ [zs, zt])) from by rw [List.length_append]; exact hu105)
    clear hu105 hu102
    unfold FillH
    go_simp
    have R4 := Lib.hid (R4.out.of_ext ((Ext.refl _).more dd2 oo2))
    go_wp2_with (first
     | ((with_reducible refine (CB.out _ R4.out.ext u105 U105.out).mono ?_); rintro e' w5 ⟨u5, rfl, hu5, hx5⟩; have R5 := Lib.hid (R4.out.of_ext hx5); obtain ⟨us5, hv5, ho5, hs5⟩ := hu5; have UV5 := Lib.hid hv5; have UO5 := Lib.hid ho5; have US5 := Lib.hid hs5; clear hx5 hv5 ho5 hs5; obtain ⟨vs5, hv5, ho5, hs5⟩ := R5.out.steps; have V5 := Lib.hid hv5; have O5 := Lib.hid ho5; have S5 := Lib.hid hs5; clear hv5 ho5 hs5)
     | (at_builtin; refine qas _ rfl _ _ 78 78 rfl BQ 81 j0 (.agg #[.int .i64 0, .bool false, .string ⟨#[]⟩, .slice none 0 0]) 4 56 Tryz.underlying78 hj hy0 hy1 hy2 rfl zax v4 (((acc ++ EA) ++ [(⟨j, true, zs, sn'⟩ : Stp)]) ++ [(⟨j, true, zt, sn' ++ [zs]⟩ : Stp)]).length (qap vs5) rfl O5.out u5 EB.length (qap us5) rfl (qbu Tryz.underlying78 UO5.out (qcH US5.out)) zbj zbr (Nat.le_trans (Nat.le_of_eq HBQ2.out.symm) (R5.out.ext).size) ?_))
    intro v6 w6 hown hgrow _
    have R6 := Lib.hid (R5.out.app HBQ.out V5.out UV5.out O5.out S5.out US5.out (qbD hown zck) hgrow)
    clear hown hgrow
    obtain ⟨vs6, hv6, ho6, hs6⟩ := R6.out.steps; have V6 := Lib.hid hv6; have O6 := Lib.hid ho6; have S6 := Lib.hid hs6; clear hv6 ho6 hs6
    have KN6 := Lib.hid R6.out.node; have xk6 := KN6.out.cell 0 _ rfl; have xb6 := KN6.out.cell 2 _ rfl; have xc6 := KN6.out.cell 3 _ rfl; have xx6 := KN6.out.cell 4 _ rfl; have xs6 := KN6.out.cell 6 _ rfl; have xt6 := KN6.out.cell 7 _ rfl; have xl6 := KN6.out.lt; have KP6 := Lib.hid (KPX.out _ R6.out.ext); have xp6 := KP6.out.cell 0 _ rfl; have xq6 := KP6.out.cell 1 _ rfl; have pl6 := KP6.out.lt
    go_wp2_with fail
    rw [ends_normal]
    go_wp2_with fail
    go_roundg g0
    case measure => omega
    case rel => exact ⟨zx, sn', (((acc ++ EA) ++ [⟨j, true, zs, sn'⟩]) ++ [⟨j, true, zt, sn' ++ [zs]⟩]) ++ EB, nx, rfl, HT2.out.2.2, by have := HG2.out; omega, by have := HG2.out; omega, by have := HG2.out; omega, by rw [← HT3.out]; simp [List.append_assoc], R6.out.steps, R6.out.seen, R6.out.ext, by have := HBD.out; simp only [List.length_append, List.length_cons, List.length_nil] at this ⊢; omega, by have := HG2.out; (try simp only [List.length_append, List.length_cons, List.length_nil] at this ⊢); omega⟩
  · have hK : qaO (qay ns g0) (qau ns g0) j ⟨zk, za, zb, zc, zx, zi, zs, zt⟩ sn' = [] := by unfold qaO; simp [k20, k21, k22, k24, k25, k26]
    have HT3 := Lib.hid HTOT2.out
    rw [hK, if_neg k20] at HT3
    clear hK HTOT2
    have p22 : (zk == 22) = false := by simpa using k22
    have p20 : (zk == 20) = false := by simpa using k20
    have p21 : (zk == 21) = false := by simpa using k21
    have p24 : (zk == 24) = false := by simpa using k24
    have p25 : (zk == 25) = false := by simpa using k25
    have p26 : (zk == 26) = false := by simpa using k26
    clear k20 k21 k22 k24 k25 k26
    go_wp2_with fail
    go_roundg g0
    case measure => omega
    case rel => exact ⟨zx, sn', acc ++ EA, nx, rfl, HT2.out.2.2, by have := HG2.out; omega, by have := HG2.out; omega, by have := HG2.out; omega, by rw [← HT3.out]; simp [List.append_assoc], R2.out.steps, R2.out.seen, R2.out.ext, by have := HBD.out; simp only [List.length_append, List.length_cons, List.length_nil] at this ⊢; omega, by have := HG2.out; (try simp only [List.length_append, List.length_cons, List.length_nil] at this ⊢); omega⟩
end Go.Proofs.YtpoeknndkccbaaaGreat

namespace Go.Proofs.YtpoeknndkccbaaaGreat
open Go.RowKit
attribute [go_sem] more_more Array.size_append
theorem srblock_all {ns : List Nd} {nv : Value} (fi : Int) : ∀ f, RB nv fi ns f := by
 intro f
 induction f using Nat.strongRecOn with
 | _ f ih => exact srblock_of fi f ih
end Go.Proofs.YtpoeknndkccbaaaGreat
