/- Lemmas for the claim (texts Sc7, RWd, Rar1, Rar2, what its proof uses of them). -/
import Derived.Test.YtoaaklcbcbjaiaaQ10
import Derived.LoopTactic
import Derived.Outline
set_option linter.unusedSimpArgs false
set_option linter.unusedVariables false
namespace Go.Proofs.Ytoaaklcbcbjaiaa
open Go.RowKit
attribute [go_sem] more_more Array.size_append
theorem own_len {w : World} {b : Nat} {e : TypeId} {s n m : Nat} {v : Value} {x : List Value} (h : w.ownsRow b e s v n x) (hn : n = m) : w.ownsRow b e s v m x := hn ▸ h
theorem own_kb_apart {w : World} {b1 : Nat} {e1 : TypeId} {s1 n1 : Nat} {v1 : Value} {x1 : List Value} {k : Nat} {cs : Array Value} {T : TypeId} (h1 : w.ownsRow b1 e1 s1 v1 n1 x1) (h2 : KB k cs T w) (hne : e1 ≠ T) : v1.ownBlock ≠ some k := by
  rcases h1.2 with ⟨rfl, _⟩ | ⟨g1, c1, u1, rfl, _, k1, _⟩
  · intro h; cases h
  · intro h
    simp only [Value.ownBlock, Option.some.injEq] at h
    subst h
    unfold KB at h2
    rw [h2] at k1
    simp only [Option.some.injEq, Obj.cells.injEq] at k1
    exact hne k1.2.1.symm
/-- within a round: the row so far, the node, what is seen -/
structure RS (W0 : World) (B kn : Nat) (cs : Array Value) (v : Value) (acc : List Stp) (sv : Value) (sn : List ByteArray) (w : World) : Prop where
  steps : StepsAt B v acc w
  node : KB kn cs 52 w
  seen : w.ownsRow 0 9 1 sv sn.length (strV sn)
  ext : Ext W0 w
theorem RS.of_ext {W0 : World} {B kn : Nat} {cs : Array Value} {v : Value} {acc : List Stp} {sv : Value} {sn : List ByteArray} {w w' : World} (h : RS W0 B kn cs v acc sv sn w) (hx : Ext w w') : RS W0 B kn cs v acc sv sn w' :=
  ⟨h.steps.ext hx, h.node.of_ext hx, own_ext h.seen hx, h.ext.trans hx⟩
theorem RS.app {W0 : World} {B kn : Nat} {cs : Array Value} {v v' : Value} {l k : List Stp} {vs ms : List (Stp × Value)} {sv : Value} {sn : List ByteArray} {w w1 : World} (h : RS W0 B kn cs v l sv sn w) (hB : W0.heap.size ≤ B) (hl : vs.map Prod.fst = l) (hk : ms.map Prod.fst = k)
    (h2 : w.ownsRow B 37 4 v l.length (stCells vs)) (h3 : ∀ q ∈ vs, w.ownsRow 0 9 1 q.2 q.1.sn.length (strV q.1.sn)) (hm : ∀ q ∈ ms, w.ownsRow 0 9 1 q.2 q.1.sn.length (strV q.1.sn))
    (hr : w1.ownsRow B 37 4 v' (l.length + k.length) (stCells vs ++ stCells ms)) (hg : w.grownBy w1 v.ownBlock) : RS W0 B kn cs v' (l ++ k) sv sn w1 :=
  ⟨steps_more hl hk h2 h3 hm hr hg, (hg.block kn h.node.lt (Ne.symm (own_kb_apart h2 h.node (by decide)))).trans h.node,
    own_block h.seen fun k hk hlt => hg.block k hlt fun e => own_apart h2 h.seen (by decide) k e.symm hk, h.ext.grown hg fun k hk => Nat.le_trans hB (h2.lt k hk).1⟩
def StAgg (j : Int) (t : ByteArray) (sn : List ByteArray) (m : Nat) (v : Value) (W : World) : Prop := ∃ u, v = .agg #[.int .i64 j, .bool true, .string t, u] ∧ W.ownsRow 0 9 1 u m (strV sn)
theorem StAgg.ext {j : Int} {t : ByteArray} {sn : List ByteArray} {m : Nat} {v : Value} {W W' : World} (h : StAgg j t sn m v W) (hx : Ext W W') : StAgg j t sn m v W' := by
  obtain ⟨u, h1, h2⟩ := h
  exact ⟨u, h1, own_ext h2 hx⟩
def StNew (j : Int) (t : ByteArray) (sn : List ByteArray) (m : Nat) (v : Value) (W : World) : Prop := ∃ u g, v = .slice (some ⟨g, 0, none⟩) 1 1 ∧ KB g #[.int .i64 j, .bool true, .string t, u] 37 W ∧ W.ownsRow 0 9 1 u m (strV sn)
theorem StNew.ext {j : Int} {t : ByteArray} {sn : List ByteArray} {m : Nat} {v : Value} {W W' : World} (h : StNew j t sn m v W) (hx : Ext W W') : StNew j t sn m v W' := by
  obtain ⟨u, g, h1, h2, h3⟩ := h
  exact ⟨u, g, h1, h2.of_ext hx, own_ext h3 hx⟩
theorem stNew_row {g : Nat} {j : Nat} {t : ByteArray} {sn : List ByteArray} {u : Value} {W : World} (h : KB g #[.int .i64 (j : Int), .bool true, .string t, u] 37 W) (hu : u.oneCell' = true) : W.ownsRow 0 37 4 (.slice (some ⟨g, 0, none⟩) 1 1) [(⟨j, true, t, sn⟩ : Stp)].length (stCells [((⟨j, true, t, sn⟩ : Stp), u)]) :=
  ⟨rfl, Or.inr ⟨g, 1, _, rfl, Nat.zero_le _, h, Nat.le_refl _, by unfold maxLen; omega, rfl, rfl⟩⟩
def RB (nv : Value) (fi : Int) (ns : List Nd) (f : Nat) : Prop := ∀ (i : Int) (n : Nat) (sn : List ByteArray) (sv : Value) (w : World), Tr ns i n → n ≤ f → n ≤ 600 → sn.length + 2 * n ≤ 2000 → w.ownsRow 0 52 8 nv ns.length (ndCells ns) → w.ownsRow 0 9 1 sv sn.length (strV sn) →
    Calls Try.prog 14 #[.agg #[nv, .int .i64 fi], .int .i64 i, sv] w fun e w' => ∃ v, e = .returned v ∧ StepsAt w.heap.size v (stepsB ns f i sn) w' ∧ Ext w w'
set_option maxHeartbeats 16000000 in
set_option maxRecDepth 20000 in
theorem srblock_of {ns : List Nd} {nv : Value} (fi : Int) (f : Nat) (ih : ∀ g, g < f → RB nv fi ns g) : RB nv fi ns f := by
  intro i n sn sv w t hf hn hsn hp hs
  obtain ⟨j0, hj, hy0, hy1, hy2⟩ := info_parts stInfo
  obtain ⟨pn, cn, hnv⟩ := row_formO hp
  subst hnv
  obtain ⟨nl, hnl⟩ : ∃ nl, ns.length = nl := ⟨_, rfl⟩
  have HNL := Lib.hid hnl
  rw [hnl] at ih ⊢
  have IH := Lib.hid ih
  have HP := Lib.hid (fun W' (hx : Ext w W') => (own_ext hp hx))
  have HS := Lib.hid hs
  have HT := Lib.hid t
  have HLB := Lib.hid (stepsB_len ns f i n sn t)
  obtain ⟨TOT, hTOT⟩ : ∃ TOT, stepsB ns f i sn = TOT := ⟨_, rfl⟩
  rw [hTOT] at HLB ⊢
  have HTOT := Lib.hid hTOT
  have HFN := Lib.hid (show n ≤ f ∧ n ≤ 600 ∧ sn.length + 2 * n ≤ 2000 from ⟨hf, hn, hsn⟩)
  clear ih hp hs t hTOT hf hn hsn hnl
  go_enter Try.func14, Try.ntmps14
  go_wp2_with fail
  have XW0 := Lib.hid (show Ext w (w.alloc (.cells #[.slice pn nl cn, .int .i64 fi] 24 (0, 0))) from (by repeat (first | (with_reducible exact Ext.refl _) | (with_reducible apply Ext.alloc) | (with_reducible apply Ext.more) | (with_reducible apply Ext.drew))))
  have KPX := Lib.hid (show ∀ wr, Ext (w.alloc (.cells #[.slice pn nl cn, .int .i64 fi] 24 (0, 0))) wr → KB w.heap.size #[.slice pn nl cn, .int .i64 fi] 24 wr from fun wr hx => (KB.new w _ _).of_ext hx)
  have hszB : (w.alloc (.cells #[.slice pn nl cn, .int .i64 fi] 24 (0, 0))).heap.size = w.heap.size + 1 := by simp
  have HBW := Lib.hid (Nat.le_succ w.heap.size)
  generalize hBQ : w.heap.size + 1 = BQ at *
  generalize hW0 : w.alloc (.cells #[.slice pn nl cn, .int .i64 fi] 24 (0, 0)) = W0 at *
  have HBQ := Lib.hid (Nat.le_of_eq hszB)
  have HBQ2 := Lib.hid hszB
  generalize hk1 : w.heap.size = k1 at *
  have HK1 := Lib.hid hk1
  have HKB := Lib.hid (show k1 ≤ BQ from by omega)
  clear hBQ hW0 hk1 hszB
  go_loopg [1, 2, 7] f (fun g yi ys yl wr => ∃ (i' : Int) (sn' : List ByteArray) (acc : List Stp) (n' : Nat), yi = .int .i64 i' ∧ Tr ns i' n' ∧ n' ≤ g ∧ g ≤ f ∧ n' ≤ 600 ∧ acc ++ stepsB ns g i' sn' = TOT ∧ StepsAt BQ yl acc wr ∧ wr.ownsRow 0 9 1 ys sn'.length (strV sn') ∧ Ext W0 wr ∧ acc.length + 2 * n' ≤ 1300 ∧ sn'.length + 2 * n' ≤ 2000)
  case atStart => exact ⟨i, sn, [], n, rfl, HT.out, HFN.out.1, Nat.le_refl _, HFN.out.2.1, HTOT.out, StepsAt.nil _ _, own_ext HS.out XW0.out, Ext.refl _, by have := HFN.out; simp; omega, HFN.out.2.2⟩
  case round =>
    obtain ⟨i', sn', acc, n', rfl, t, hg1, hg2, hn6, htot, hst, hse, hx, hbd, hsl⟩ := hrel
    have KP := Lib.hid (KPX.out _ hx)
    have xp := KP.out.cell 0 _ rfl
    have xq := KP.out.cell 1 _ rfl
    have pl := KP.out.lt
    by_cases hi : i' < 0
    · have HR := Lib.hid (show acc = TOT from by rw [← htot]; cases gk <;> (unfold stepsB; try rw [if_pos hi]) <;> simp)
      have HST := Lib.hid hst
      have HX := Lib.hid hx
      clear t hg1 hg2 hn6 htot hst hse hx hbd hsl
      go_wp2_with fail
      go_ret
      exact ⟨_, rfl, by rw [← HR.out]; exact HST.out.mono (by rw [HK1.out]; exact HKB.out), XW0.out.trans HX.out⟩
    obtain ⟨j, ⟨zk, za, zb, zc, zx, zi, zs, zt⟩, na, nb, nc, nx, rfl, hz, ta, tb, tc, tx, rfl⟩ := tr_pos t (by omega)
    obtain ⟨g0, rfl⟩ : ∃ g0, gk = g0 + 1 := ⟨gk - 1, by omega⟩
    dsimp only at ta tb tc tx
    have hjl := (List.getElem?_eq_some_iff.1 hz).1
    have hpr := HP.out wr (XW0.out.trans hx)
    obtain ⟨G, rfl⟩ : ∃ G, pn = some ⟨G, 0, none⟩ := by
      rcases Go.Joins.ownsRow_forms hpr with ⟨_, h0⟩ | ⟨g1, c1, h0⟩
      · omega
      · simp only [Value.slice.injEq] at h0; exact ⟨g1, h0.1⟩
    have hpr2 := hpr
    rw [HNL.out] at hpr2
    obtain ⟨a0, a1, a2, a3, a4, a5, a6, a7⟩ := nd_at hpr2 hz
    dsimp only at a0 a1 a2 a3 a4 a5 a6 a7
    have hG := (hpr2.lt G rfl).2
    have hj0 : 0 ≤ (j : Int) := by omega
    have hjn : (j : Int) < (nl : Int) := by have := HNL.out; omega
    have HTOT2 := Lib.hid htot
    rw [show stepsB ns (g0 + 1) (j : Int) sn' = (stepsE ns g0 za sn' ++ stepsK (stepsE ns g0) (stepsB ns g0) j ⟨zk, za, zb, zc, zx, zi, zs, zt⟩ sn') ++ stepsB ns g0 zx (if zk = 20 then sn' ++ [zs] else sn') from by rw [stepsB, if_neg hi, Int.toNat_natCast, hz]] at HTOT2
    have PR := Lib.hid (fun W' (hw : Ext W0 W') => HP.out W' (XW0.out.trans hw))
    have CA := Lib.hid (fun W' (hw : Ext W0 W') sv' (hs : W'.ownsRow 0 9 1 sv' sn'.length (strV sn')) => srexpr_any fi g0 za na sn' sv' W' ta (by omega) (by omega) (PR.out W' hw) hs)
    have lea := stepsE_len ns g0 za na sn' ta
    obtain ⟨EA, hEA⟩ : ∃ EA, stepsE ns g0 za sn' = EA := ⟨_, rfl⟩
    rw [hEA] at CA lea HTOT2
    rw [HNL.out] at CA
    obtain ⟨sp, sc, hsv⟩ := row_formO hse
    obtain ⟨sl, hsl2⟩ : ∃ sl, sn'.length = sl := ⟨_, rfl⟩
    rw [hsl2] at hsv
    subst hsv
    have HT2 := Lib.hid (show Tr ns zb nb ∧ Tr ns zc nc ∧ Tr ns zx nx from ⟨tb, tc, tx⟩)
    have HG2 := Lib.hid (show 1 + (na + (nb + (nc + nx))) ≤ g0 + 1 ∧ g0 + 1 ≤ f ∧ 1 + (na + (nb + (nc + nx))) ≤ 600 ∧ sn'.length + 2 * (1 + (na + (nb + (nc + nx)))) ≤ 2000 from ⟨hg1, hg2, hn6, hsl⟩)
    have HBD := Lib.hid (show acc.length + 2 * (1 + (na + (nb + (nc + nx)))) ≤ 1300 ∧ EA.length ≤ na from ⟨hbd, lea⟩)
    have R0 := Lib.hid (show RS W0 BQ wr.heap.size #[.int .i64 zk, .int .i64 za, .int .i64 zb, .int .i64 zc, .int .i64 zx, .int .i64 zi, .string zs, .string zt] u7 acc (.slice sp sl sc) sn' (wr.alloc (.cells #[.int .i64 zk, .int .i64 za, .int .i64 zb, .int .i64 zc, .int .i64 zx, .int .i64 zi, .string zs, .string zt] 52 (0, 0))) from ⟨hst.ext ((Ext.refl _).alloc _), KB.new _ _ _, hse.alloc _, hx.alloc _⟩)
    have XL := Lib.hid (show Ext W0 (wr.alloc (.cells #[.int .i64 zk, .int .i64 za, .int .i64 zb, .int .i64 zc, .int .i64 zx, .int .i64 zi, .string zs, .string zt] 52 (0, 0))) from hx.alloc _)
    generalize hkn : wr.heap.size = kn at *
    have HKN := Lib.hid hkn
    clear t ta tb tc tx hz hg1 hg2 hn6 htot hst hse hx hbd hsl hsl2 hpr hpr2 hEA lea hi hjl
    go_wp2_with (first
      | (go_at_call 28; (with_reducible refine (CA.out _ XL.out _ R0.out.seen).mono ?_); rintro e' w1 ⟨u1, rfl, hu1, hx1⟩; have R1 := Lib.hid (R0.out.of_ext hx1); obtain ⟨us1, hv1, ho1, hs1⟩ := hu1; have UV1 := Lib.hid hv1; have UO1 := Lib.hid ho1; have US1 := Lib.hid hs1; clear hx1 hv1 ho1 hs1; obtain ⟨vs1, hv1, ho1, hs1⟩ := R1.out.steps; have V1 := Lib.hid hv1; have O1 := Lib.hid ho1; have S1 := Lib.hid hs1; clear hv1 ho1 hs1)
      | (at_builtin; refine wpList_append_src _ rfl _ _ 34 34 rfl BQ 37 j0 (.agg #[.int .i64 0, .bool false, .string ⟨#[]⟩, .slice none 0 0]) 4 56 Try.underlying34 hj hy0 hy1 hy2 rfl (by decide) u7 acc.length (stCells vs1) rfl O1.out u1 EA.length (stCells us1) rfl (src_row Try.underlying34 UO1.out (st_one US1.out)) (by have := HBD.out; (try simp only [List.length_append, List.length_cons, List.length_nil] at this ⊢); unfold maxLen; omega) (by have := HBD.out; (try simp only [List.length_append, List.length_cons, List.length_nil] at this ⊢); omega) (Nat.le_trans (Nat.le_of_eq HBQ2.out.symm) (R1.out.ext).size) ?_))
    intro v2 w2 hown hgrow _
    have R2 := Lib.hid (R1.out.app HBQ.out V1.out UV1.out O1.out S1.out US1.out hown hgrow)
    clear hown hgrow
    obtain ⟨vs2, hv2, ho2, hs2⟩ := R2.out.steps
    have V2 := Lib.hid hv2
    have O2 := Lib.hid ho2
    have S2 := Lib.hid hs2
    clear hv2 ho2 hs2
    have KN2 := Lib.hid R2.out.node
    have xk2 := KN2.out.cell 0 _ rfl
    have xb2 := KN2.out.cell 2 _ rfl
    have xc2 := KN2.out.cell 3 _ rfl
    have xx2 := KN2.out.cell 4 _ rfl
    have xs2 := KN2.out.cell 6 _ rfl
    have xt2 := KN2.out.cell 7 _ rfl
    have xl2 := KN2.out.lt
    have KP2 := Lib.hid (KPX.out _ R2.out.ext)
    have xp2 := KP2.out.cell 0 _ rfl
    have xq2 := KP2.out.cell 1 _ rfl
    have pl2 := KP2.out.lt
    have PN := Lib.hid (fun W' (hw : Ext W0 W') => show W'.ownsRow 0 52 8 (.slice (some ⟨G, 0, none⟩) nl cn) ns.length (ndCells ns) from by have := PR.out W' hw; rw [HNL.out] at this ⊢; exact this)
    have lss : sn'.length ≤ 2000 := by have := HG2.out; omega
    have LSS := Lib.hid lss
    clear lss
    by_cases k20 : zk = 20
    · subst k20
      have hK : stepsK (stepsE ns g0) (stepsB ns g0) j ⟨20, za, zb, zc, zx, zi, zs, zt⟩ sn' = [⟨j, true, zs, sn'⟩] := by unfold stepsK; simp
      have HT3 := Lib.hid HTOT2.out
      rw [hK, if_pos rfl] at HT3
      clear hK HTOT2
      go_wp2_with (at_builtin; refine wpList_append_own_at _ rfl _ _ 34 rfl BQ 37 j0 (.agg #[.int .i64 0, .bool false, .string ⟨#[]⟩, .slice none 0 0]) 4 56 Try.underlying34 hj hy0 hy1 hy2 rfl (by decide) v2 (acc ++ EA).length (stCells vs2) rfl (O2.out.alloc _) ⟨_, 0, none⟩ 1 1 [.int .i64 (j : Int), .bool true, .string zs, .slice sp sl sc] rfl rfl (news_alloc (by first | (simp; done) | simp [more_size])) (by intro u hu; simp at hu; rcases hu with rfl | rfl | rfl | rfl <;> rfl) (by have := HBD.out; (try simp only [List.length_append, List.length_cons, List.length_nil] at this ⊢); unfold maxLen; omega) (by have := HBD.out; (try simp only [List.length_append, List.length_cons, List.length_nil] at this ⊢); omega) (Nat.le_trans (Nat.le_of_eq HBQ2.out.symm) (R2.out.ext.alloc _).size) ?_)
      intro v3 w3 hown hgrow _ _
      have R3 := Lib.hid ((R2.out.of_ext ((Ext.refl _).alloc _)).app HBQ.out (k := [⟨j, true, zs, sn'⟩]) V2.out (ms := [(⟨j, true, zs, sn'⟩, (.slice sp sl sc))]) rfl (O2.out.alloc _) (fun q hq => (S2.out q hq).alloc _) (fun q hq => by rcases List.mem_singleton.1 hq with rfl; exact R2.out.seen.alloc _) (own_len hown (by simp only [List.length_append, List.length_cons, List.length_nil] <;> omega)) hgrow)
      clear hown hgrow
      obtain ⟨vs3, hv3, ho3, hs3⟩ := R3.out.steps; have V3 := Lib.hid hv3; have O3 := Lib.hid ho3; have S3 := Lib.hid hs3; clear hv3 ho3 hs3
      have KN3 := Lib.hid R3.out.node; have xk3 := KN3.out.cell 0 _ rfl; have xb3 := KN3.out.cell 2 _ rfl; have xc3 := KN3.out.cell 3 _ rfl; have xx3 := KN3.out.cell 4 _ rfl; have xs3 := KN3.out.cell 6 _ rfl; have xt3 := KN3.out.cell 7 _ rfl; have xl3 := KN3.out.lt; have KP3 := Lib.hid (KPX.out _ R3.out.ext); have xp3 := KP3.out.cell 0 _ rfl; have xq3 := KP3.out.cell 1 _ rfl; have pl3 := KP3.out.lt
      go_wp2_with (go_at_call 29; (with_reducible refine (smore_any R3.out.seen (by have := LSS.out; omega) zs).mono ?_); rintro e' w4 ⟨v4, rfl, hv4, hx4⟩; have R4 := Lib.hid (R3.out.of_ext hx4); have SN := Lib.hid (hv4.mono (Nat.zero_le _)); clear hv4 hx4; have KN4 := Lib.hid R4.out.node; have xx4 := KN4.out.cell 4 _ rfl; have xl4 := KN4.out.lt)
      go_wp2_with fail
      go_roundg g0
      case measure => omega
      case rel => exact ⟨zx, sn' ++ [zs], (acc ++ EA) ++ [⟨j, true, zs, sn'⟩], nx, rfl, HT2.out.2.2, by have := HG2.out; omega, by have := HG2.out; omega, by have := HG2.out; omega, by rw [← HT3.out]; simp [List.append_assoc], R4.out.steps, SN.out, R4.out.ext, by have := HBD.out; simp only [List.length_append, List.length_cons, List.length_nil] at this ⊢; omega, by have := HG2.out; (try simp only [List.length_append, List.length_cons, List.length_nil] at this ⊢); omega⟩
    by_cases k21 : zk = 21
    · subst k21
      have hK : stepsK (stepsE ns g0) (stepsB ns g0) j ⟨21, za, zb, zc, zx, zi, zs, zt⟩ sn' = [⟨j, false, zs, sn'⟩] := by unfold stepsK; simp
      have HT3 := Lib.hid HTOT2.out
      rw [hK, if_neg (by decide)] at HT3
      clear hK HTOT2
      go_wp2_with (at_builtin; refine wpList_append_own_at _ rfl _ _ 34 rfl BQ 37 j0 (.agg #[.int .i64 0, .bool false, .string ⟨#[]⟩, .slice none 0 0]) 4 56 Try.underlying34 hj hy0 hy1 hy2 rfl (by decide) v2 (acc ++ EA).length (stCells vs2) rfl (O2.out.alloc _) ⟨_, 0, none⟩ 1 1 [.int .i64 (j : Int), .bool false, .string zs, .slice sp sl sc] rfl rfl (news_alloc (by first | (simp; done) | simp [more_size])) (by intro u hu; simp at hu; rcases hu with rfl | rfl | rfl | rfl <;> rfl) (by have := HBD.out; (try simp only [List.length_append, List.length_cons, List.length_nil] at this ⊢); unfold maxLen; omega) (by have := HBD.out; (try simp only [List.length_append, List.length_cons, List.length_nil] at this ⊢); omega) (Nat.le_trans (Nat.le_of_eq HBQ2.out.symm) (R2.out.ext.alloc _).size) ?_)
      intro v3 w3 hown hgrow _ _
      have R3 := Lib.hid ((R2.out.of_ext ((Ext.refl _).alloc _)).app HBQ.out (k := [⟨j, false, zs, sn'⟩]) V2.out (ms := [(⟨j, false, zs, sn'⟩, (.slice sp sl sc))]) rfl (O2.out.alloc _) (fun q hq => (S2.out q hq).alloc _) (fun q hq => by rcases List.mem_singleton.1 hq with rfl; exact R2.out.seen.alloc _) (own_len hown (by simp only [List.length_append, List.length_cons, List.length_nil] <;> omega)) hgrow)
      clear hown hgrow
      obtain ⟨vs3, hv3, ho3, hs3⟩ := R3.out.steps; have V3 := Lib.hid hv3; have O3 := Lib.hid ho3; have S3 := Lib.hid hs3; clear hv3 ho3 hs3
      have KN3 := Lib.hid R3.out.node; have xk3 := KN3.out.cell 0 _ rfl; have xb3 := KN3.out.cell 2 _ rfl; have xc3 := KN3.out.cell 3 _ rfl; have xx3 := KN3.out.cell 4 _ rfl; have xs3 := KN3.out.cell 6 _ rfl; have xt3 := KN3.out.cell 7 _ rfl; have xl3 := KN3.out.lt; have KP3 := Lib.hid (KPX.out _ R3.out.ext); have xp3 := KP3.out.cell 0 _ rfl; have xq3 := KP3.out.cell 1 _ rfl; have pl3 := KP3.out.lt
      go_wp2_with fail
      go_roundg g0
      case measure => omega
      case rel => exact ⟨zx, sn', (acc ++ EA) ++ [⟨j, false, zs, sn'⟩], nx, rfl, HT2.out.2.2, by have := HG2.out; omega, by have := HG2.out; omega, by have := HG2.out; omega, by rw [← HT3.out]; simp [List.append_assoc], R3.out.steps, R3.out.seen, R3.out.ext, by have := HBD.out; simp only [List.length_append, List.length_cons, List.length_nil] at this ⊢; omega, by have := HG2.out; (try simp only [List.length_append, List.length_cons, List.length_nil] at this ⊢); omega⟩
    by_cases k22 : zk = 22
    · subst k22
      have hK : stepsK (stepsE ns g0) (stepsB ns g0) j ⟨22, za, zb, zc, zx, zi, zs, zt⟩ sn' = stepsE ns g0 zb sn' := by unfold stepsK; simp
      have HT3 := Lib.hid HTOT2.out
      rw [hK, if_neg (by decide)] at HT3
      clear hK HTOT2
      have CB := Lib.hid (fun W' (hw : Ext W0 W') sv' (hs : W'.ownsRow 0 9 1 sv' sn'.length (strV sn')) => srexpr_any fi g0 zb nb sn' sv' W' HT2.out.1 (by have := HG2.out; omega) (by have := HG2.out; omega) (PR.out W' hw) hs)
      rw [HNL.out] at CB
      have leB := stepsE_len ns g0 zb nb sn' HT2.out.1
      obtain ⟨EB, hEB⟩ : ∃ x, stepsE ns g0 zb sn' = x := ⟨_, rfl⟩
      rw [hEB] at CB leB HT3
      clear hEB
      have HBD := Lib.hid (And.intro HBD.out leB)
      clear leB
      go_wp2_with (first
        | (go_at_call 28; (with_reducible refine (CB.out _ R2.out.ext _ R2.out.seen).mono ?_); rintro e' w5 ⟨u5, rfl, hu5, hx5⟩; have R5 := Lib.hid (R2.out.of_ext hx5); obtain ⟨us5, hv5, ho5, hs5⟩ := hu5; have UV5 := Lib.hid hv5; have UO5 := Lib.hid ho5; have US5 := Lib.hid hs5; clear hx5 hv5 ho5 hs5; obtain ⟨vs5, hv5, ho5, hs5⟩ := R5.out.steps; have V5 := Lib.hid hv5; have O5 := Lib.hid ho5; have S5 := Lib.hid hs5; clear hv5 ho5 hs5)
        | (at_builtin; refine wpList_append_src _ rfl _ _ 34 34 rfl BQ 37 j0 (.agg #[.int .i64 0, .bool false, .string ⟨#[]⟩, .slice none 0 0]) 4 56 Try.underlying34 hj hy0 hy1 hy2 rfl (by decide) v2 (acc ++ EA).length (stCells vs5) rfl O5.out u5 EB.length (stCells us5) rfl (src_row Try.underlying34 UO5.out (st_one US5.out)) (by have := HBD.out; (try simp only [List.length_append, List.length_cons, List.length_nil] at this ⊢); unfold maxLen; omega) (by have := HBD.out; (try simp only [List.length_append, List.length_cons, List.length_nil] at this ⊢); omega) (Nat.le_trans (Nat.le_of_eq HBQ2.out.symm) (R5.out.ext).size) ?_))
      intro v3 w3 hown hgrow _
      have R3 := Lib.hid (R5.out.app HBQ.out V5.out UV5.out O5.out S5.out US5.out (own_len hown (by simp only [List.length_append, List.length_cons, List.length_nil] <;> omega)) hgrow)
      clear hown hgrow
      obtain ⟨vs3, hv3, ho3, hs3⟩ := R3.out.steps; have V3 := Lib.hid hv3; have O3 := Lib.hid ho3; have S3 := Lib.hid hs3; clear hv3 ho3 hs3
      have KN3 := Lib.hid R3.out.node; have xk3 := KN3.out.cell 0 _ rfl; have xb3 := KN3.out.cell 2 _ rfl; have xc3 := KN3.out.cell 3 _ rfl; have xx3 := KN3.out.cell 4 _ rfl; have xs3 := KN3.out.cell 6 _ rfl; have xt3 := KN3.out.cell 7 _ rfl; have xl3 := KN3.out.lt; have KP3 := Lib.hid (KPX.out _ R3.out.ext); have xp3 := KP3.out.cell 0 _ rfl; have xq3 := KP3.out.cell 1 _ rfl; have pl3 := KP3.out.lt
      go_wp2_with fail
      go_roundg g0
      case measure => omega
      case rel => exact ⟨zx, sn', (acc ++ EA) ++ EB, nx, rfl, HT2.out.2.2, by have := HG2.out; omega, by have := HG2.out; omega, by have := HG2.out; omega, by rw [← HT3.out]; simp [List.append_assoc], R3.out.steps, R3.out.seen, R3.out.ext, by have := HBD.out; simp only [List.length_append, List.length_cons, List.length_nil] at this ⊢; omega, by have := HG2.out; (try simp only [List.length_append, List.length_cons, List.length_nil] at this ⊢); omega⟩
    by_cases k24 : zk = 24
    · subst k24
      have hK : stepsK (stepsE ns g0) (stepsB ns g0) j ⟨24, za, zb, zc, zx, zi, zs, zt⟩ sn' = stepsB ns g0 zb sn' ++ stepsB ns g0 zc sn' := by unfold stepsK; simp
      have HT3 := Lib.hid HTOT2.out
      rw [hK, if_neg (by decide)] at HT3
      clear hK HTOT2
      have CB := Lib.hid (fun W' (hw : Ext W0 W') sv' (hs : W'.ownsRow 0 9 1 sv' (sn').length (strV (sn'))) => IH.out g0 (by have := HG2.out; omega) zb nb (sn') sv' W' HT2.out.1 (by have := HG2.out; omega) (by have := HG2.out; omega) (by have := HG2.out; (try simp only [List.length_append, List.length_cons, List.length_nil] at this ⊢); omega) (PN.out W' hw) hs)
      have leB := stepsB_len ns g0 zb nb (sn') HT2.out.1
      obtain ⟨EB, hEB⟩ : ∃ x, stepsB ns g0 zb (sn') = x := ⟨_, rfl⟩
      rw [hEB] at CB leB HT3
      clear hEB
      have HBD := Lib.hid (And.intro HBD.out leB)
      clear leB
      have CC := Lib.hid (fun W' (hw : Ext W0 W') sv' (hs : W'.ownsRow 0 9 1 sv' (sn').length (strV (sn'))) => IH.out g0 (by have := HG2.out; omega) zc nc (sn') sv' W' HT2.out.2.1 (by have := HG2.out; omega) (by have := HG2.out; omega) (by have := HG2.out; (try simp only [List.length_append, List.length_cons, List.length_nil] at this ⊢); omega) (PN.out W' hw) hs)
      have leC := stepsB_len ns g0 zc nc (sn') HT2.out.2.1
      obtain ⟨EC, hEC⟩ : ∃ x, stepsB ns g0 zc (sn') = x := ⟨_, rfl⟩
      rw [hEC] at CC leC HT3
      clear hEC
      have HBD := Lib.hid (And.intro HBD.out leC)
      clear leC
      go_wp2_with (first
        | (go_at_call 14; (with_reducible refine (CB.out _ R2.out.ext _ R2.out.seen).mono ?_); rintro e' w5 ⟨u5, rfl, hu5, hx5⟩; have R5 := Lib.hid (R2.out.of_ext hx5); obtain ⟨us5, hv5, ho5, hs5⟩ := hu5; have UV5 := Lib.hid hv5; have UO5 := Lib.hid ho5; have US5 := Lib.hid hs5; clear hx5 hv5 ho5 hs5; obtain ⟨vs5, hv5, ho5, hs5⟩ := R5.out.steps; have V5 := Lib.hid hv5; have O5 := Lib.hid ho5; have S5 := Lib.hid hs5; clear hv5 ho5 hs5)
        | (at_builtin; refine wpList_append_src _ rfl _ _ 34 34 rfl BQ 37 j0 (.agg #[.int .i64 0, .bool false, .string ⟨#[]⟩, .slice none 0 0]) 4 56 Try.underlying34 hj hy0 hy1 hy2 rfl (by decide) v2 (acc ++ EA).length (stCells vs5) rfl O5.out u5 EB.length (stCells us5) rfl (src_row Try.underlying34 UO5.out (st_one US5.out)) (by have := HBD.out; (try simp only [List.length_append, List.length_cons, List.length_nil] at this ⊢); unfold maxLen; omega) (by have := HBD.out; (try simp only [List.length_append, List.length_cons, List.length_nil] at this ⊢); omega) (Nat.le_trans (Nat.le_of_eq HBQ2.out.symm) (R5.out.ext).size) ?_))
      intro v3 w3 hown hgrow _
      have R3 := Lib.hid (R5.out.app HBQ.out V5.out UV5.out O5.out S5.out US5.out (own_len hown (by simp only [List.length_append, List.length_cons, List.length_nil] <;> omega)) hgrow)
      clear hown hgrow
      obtain ⟨vs3, hv3, ho3, hs3⟩ := R3.out.steps; have V3 := Lib.hid hv3; have O3 := Lib.hid ho3; have S3 := Lib.hid hs3; clear hv3 ho3 hs3
      have KN3 := Lib.hid R3.out.node; have xk3 := KN3.out.cell 0 _ rfl; have xb3 := KN3.out.cell 2 _ rfl; have xc3 := KN3.out.cell 3 _ rfl; have xx3 := KN3.out.cell 4 _ rfl; have xs3 := KN3.out.cell 6 _ rfl; have xt3 := KN3.out.cell 7 _ rfl; have xl3 := KN3.out.lt; have KP3 := Lib.hid (KPX.out _ R3.out.ext); have xp3 := KP3.out.cell 0 _ rfl; have xq3 := KP3.out.cell 1 _ rfl; have pl3 := KP3.out.lt
      go_wp2_with (first
        | (go_at_call 14; (with_reducible refine (CC.out _ R3.out.ext _ R3.out.seen).mono ?_); rintro e' w6 ⟨u6, rfl, hu6, hx6⟩; have R6 := Lib.hid (R3.out.of_ext hx6); obtain ⟨us6, hv6, ho6, hs6⟩ := hu6; have UV6 := Lib.hid hv6; have UO6 := Lib.hid ho6; have US6 := Lib.hid hs6; clear hx6 hv6 ho6 hs6; obtain ⟨vs6, hv6, ho6, hs6⟩ := R6.out.steps; have V6 := Lib.hid hv6; have O6 := Lib.hid ho6; have S6 := Lib.hid hs6; clear hv6 ho6 hs6)
        | (at_builtin; refine wpList_append_src _ rfl _ _ 34 34 rfl BQ 37 j0 (.agg #[.int .i64 0, .bool false, .string ⟨#[]⟩, .slice none 0 0]) 4 56 Try.underlying34 hj hy0 hy1 hy2 rfl (by decide) v3 (acc ++ EA ++ EB).length (stCells vs6) rfl O6.out u6 EC.length (stCells us6) rfl (src_row Try.underlying34 UO6.out (st_one US6.out)) (by have := HBD.out; (try simp only [List.length_append, List.length_cons, List.length_nil] at this ⊢); unfold maxLen; omega) (by have := HBD.out; (try simp only [List.length_append, List.length_cons, List.length_nil] at this ⊢); omega) (Nat.le_trans (Nat.le_of_eq HBQ2.out.symm) (R6.out.ext).size) ?_))
      intro v4 w4 hown hgrow _
      have R4 := Lib.hid (R6.out.app HBQ.out V6.out UV6.out O6.out S6.out US6.out (own_len hown (by simp only [List.length_append, List.length_cons, List.length_nil] <;> omega)) hgrow)
      clear hown hgrow
      obtain ⟨vs4, hv4, ho4, hs4⟩ := R4.out.steps; have V4 := Lib.hid hv4; have O4 := Lib.hid ho4; have S4 := Lib.hid hs4; clear hv4 ho4 hs4
      have KN4 := Lib.hid R4.out.node; have xk4 := KN4.out.cell 0 _ rfl; have xb4 := KN4.out.cell 2 _ rfl; have xc4 := KN4.out.cell 3 _ rfl; have xx4 := KN4.out.cell 4 _ rfl; have xs4 := KN4.out.cell 6 _ rfl; have xt4 := KN4.out.cell 7 _ rfl; have xl4 := KN4.out.lt; have KP4 := Lib.hid (KPX.out _ R4.out.ext); have xp4 := KP4.out.cell 0 _ rfl; have xq4 := KP4.out.cell 1 _ rfl; have pl4 := KP4.out.lt
      go_wp2_with fail
      go_roundg g0
      case measure => omega
      case rel => exact ⟨zx, sn', (acc ++ EA ++ EB) ++ EC, nx, rfl, HT2.out.2.2, by have := HG2.out; omega, by have := HG2.out; omega, by have := HG2.out; omega, by rw [← HT3.out]; simp [List.append_assoc], R4.out.steps, R4.out.seen, R4.out.ext, by have := HBD.out; simp only [List.length_append, List.length_cons, List.length_nil] at this ⊢; omega, by have := HG2.out; (try simp only [List.length_append, List.length_cons, List.length_nil] at this ⊢); omega⟩
    by_cases k26 : zk = 26
    · subst k26
      have hK : stepsK (stepsE ns g0) (stepsB ns g0) j ⟨26, za, zb, zc, zx, zi, zs, zt⟩ sn' = stepsB ns g0 zb sn' := by unfold stepsK; simp
      have HT3 := Lib.hid HTOT2.out
      rw [hK, if_neg (by decide)] at HT3
      clear hK HTOT2
      have CB := Lib.hid (fun W' (hw : Ext W0 W') sv' (hs : W'.ownsRow 0 9 1 sv' (sn').length (strV (sn'))) => IH.out g0 (by have := HG2.out; omega) zb nb (sn') sv' W' HT2.out.1 (by have := HG2.out; omega) (by have := HG2.out; omega) (by have := HG2.out; (try simp only [List.length_append, List.length_cons, List.length_nil] at this ⊢); omega) (PN.out W' hw) hs)
      have leB := stepsB_len ns g0 zb nb (sn') HT2.out.1
      obtain ⟨EB, hEB⟩ : ∃ x, stepsB ns g0 zb (sn') = x := ⟨_, rfl⟩
      rw [hEB] at CB leB HT3
      clear hEB
      have HBD := Lib.hid (And.intro HBD.out leB)
      clear leB
      go_wp2_with (first
        | (go_at_call 14; (with_reducible refine (CB.out _ R2.out.ext _ R2.out.seen).mono ?_); rintro e' w5 ⟨u5, rfl, hu5, hx5⟩; have R5 := Lib.hid (R2.out.of_ext hx5); obtain ⟨us5, hv5, ho5, hs5⟩ := hu5; have UV5 := Lib.hid hv5; have UO5 := Lib.hid ho5; have US5 := Lib.hid hs5; clear hx5 hv5 ho5 hs5; obtain ⟨vs5, hv5, ho5, hs5⟩ := R5.out.steps; have V5 := Lib.hid hv5; have O5 := Lib.hid ho5; have S5 := Lib.hid hs5; clear hv5 ho5 hs5)
        | (at_builtin; refine wpList_append_src _ rfl _ _ 34 34 rfl BQ 37 j0 (.agg #[.int .i64 0, .bool false, .string ⟨#[]⟩, .slice none 0 0]) 4 56 Try.underlying34 hj hy0 hy1 hy2 rfl (by decide) v2 (acc ++ EA).length (stCells vs5) rfl O5.out u5 EB.length (stCells us5) rfl (src_row Try.underlying34 UO5.out (st_one US5.out)) (by have := HBD.out; (try simp only [List.length_append, List.length_cons, List.length_nil] at this ⊢); unfold maxLen; omega) (by have := HBD.out; (try simp only [List.length_append, List.length_cons, List.length_nil] at this ⊢); omega) (Nat.le_trans (Nat.le_of_eq HBQ2.out.symm) (R5.out.ext).size) ?_))
      intro v3 w3 hown hgrow _
      have R3 := Lib.hid (R5.out.app HBQ.out V5.out UV5.out O5.out S5.out US5.out (own_len hown (by simp only [List.length_append, List.length_cons, List.length_nil] <;> omega)) hgrow)
      clear hown hgrow
      obtain ⟨vs3, hv3, ho3, hs3⟩ := R3.out.steps; have V3 := Lib.hid hv3; have O3 := Lib.hid ho3; have S3 := Lib.hid hs3; clear hv3 ho3 hs3
      have KN3 := Lib.hid R3.out.node; have xk3 := KN3.out.cell 0 _ rfl; have xb3 := KN3.out.cell 2 _ rfl; have xc3 := KN3.out.cell 3 _ rfl; have xx3 := KN3.out.cell 4 _ rfl; have xs3 := KN3.out.cell 6 _ rfl; have xt3 := KN3.out.cell 7 _ rfl; have xl3 := KN3.out.lt; have KP3 := Lib.hid (KPX.out _ R3.out.ext); have xp3 := KP3.out.cell 0 _ rfl; have xq3 := KP3.out.cell 1 _ rfl; have pl3 := KP3.out.lt
      go_wp2_with fail
      go_roundg g0
      case measure => omega
      case rel => exact ⟨zx, sn', (acc ++ EA) ++ EB, nx, rfl, HT2.out.2.2, by have := HG2.out; omega, by have := HG2.out; omega, by have := HG2.out; omega, by rw [← HT3.out]; simp [List.append_assoc], R3.out.steps, R3.out.seen, R3.out.ext, by have := HBD.out; simp only [List.length_append, List.length_cons, List.length_nil] at this ⊢; omega, by have := HG2.out; (try simp only [List.length_append, List.length_cons, List.length_nil] at this ⊢); omega⟩
    by_cases k25 : zk = 25
    · subst k25
      have hK : stepsK (stepsE ns g0) (stepsB ns g0) j ⟨25, za, zb, zc, zx, zi, zs, zt⟩ sn' = ([⟨j, true, zs, sn'⟩] ++ [⟨j, true, zt, sn' ++ [zs]⟩]) ++ stepsB ns g0 zb (sn' ++ [zs, zt]) := by unfold stepsK; simp
      have HT3 := Lib.hid HTOT2.out
      rw [hK, if_neg (by decide)] at HT3
      clear hK HTOT2
      have CB := Lib.hid (fun W' (hw : Ext W0 W') sv' (hs : W'.ownsRow 0 9 1 sv' (sn' ++ [zs, zt]).length (strV (sn' ++ [zs, zt]))) => IH.out g0 (by have := HG2.out; omega) zb nb (sn' ++ [zs, zt]) sv' W' HT2.out.1 (by have := HG2.out; omega) (by have := HG2.out; omega) (by have := HG2.out; (try simp only [List.length_append, List.length_cons, List.length_nil] at this ⊢); omega) (PN.out W' hw) hs)
      have leB := stepsB_len ns g0 zb nb (sn' ++ [zs, zt]) HT2.out.1
      obtain ⟨EB, hEB⟩ : ∃ x, stepsB ns g0 zb (sn' ++ [zs, zt]) = x := ⟨_, rfl⟩
      rw [hEB] at CB leB HT3
      clear hEB
      have HBD := Lib.hid (And.intro HBD.out leB)
      clear leB
      go_wp2_with (at_builtin; refine wpList_append_own_at _ rfl _ _ 34 rfl BQ 37 j0 (.agg #[.int .i64 0, .bool false, .string ⟨#[]⟩, .slice none 0 0]) 4 56 Try.underlying34 hj hy0 hy1 hy2 rfl (by decide) v2 (acc ++ EA).length (stCells vs2) rfl (O2.out.alloc _) ⟨_, 0, none⟩ 1 1 [.int .i64 (j : Int), .bool true, .string zs, .slice sp sl sc] rfl rfl (news_alloc (by first | (simp; done) | simp [more_size])) (by intro u hu; simp at hu; rcases hu with rfl | rfl | rfl | rfl <;> rfl) (by have := HBD.out; (try simp only [List.length_append, List.length_cons, List.length_nil] at this ⊢); unfold maxLen; omega) (by have := HBD.out; (try simp only [List.length_append, List.length_cons, List.length_nil] at this ⊢); omega) (Nat.le_trans (Nat.le_of_eq HBQ2.out.symm) (R2.out.ext.alloc _).size) ?_)
      intro v3 w3 hown hgrow _ _
      have R3 := Lib.hid ((R2.out.of_ext ((Ext.refl _).alloc _)).app HBQ.out (k := [⟨j, true, zs, sn'⟩]) V2.out (ms := [(⟨j, true, zs, sn'⟩, (.slice sp sl sc))]) rfl (O2.out.alloc _) (fun q hq => (S2.out q hq).alloc _) (fun q hq => by rcases List.mem_singleton.1 hq with rfl; exact R2.out.seen.alloc _) (own_len hown (by simp only [List.length_append, List.length_cons, List.length_nil] <;> omega)) hgrow)
      clear hown hgrow
      obtain ⟨vs3, hv3, ho3, hs3⟩ := R3.out.steps; have V3 := Lib.hid hv3; have O3 := Lib.hid ho3; have S3 := Lib.hid hs3; clear hv3 ho3 hs3
      have KN3 := Lib.hid R3.out.node; have xk3 := KN3.out.cell 0 _ rfl; have xb3 := KN3.out.cell 2 _ rfl; have xc3 := KN3.out.cell 3 _ rfl; have xx3 := KN3.out.cell 4 _ rfl; have xs3 := KN3.out.cell 6 _ rfl; have xt3 := KN3.out.cell 7 _ rfl; have xl3 := KN3.out.lt; have KP3 := Lib.hid (KPX.out _ R3.out.ext); have xp3 := KP3.out.cell 0 _ rfl; have xq3 := KP3.out.cell 1 _ rfl; have pl3 := KP3.out.lt
      go_wp2_with fail
      refine wp_region_grow 10 120 [false, false, false, false, false, false, false, false, false, false] (by kernel_rfl) (by kernel_rfl) rfl ?_
      simp only [List.take_succ_cons, List.take_zero, List.drop_succ_cons, List.drop_zero]
      iterate 7 (refine Lex.step rfl ?_; intro K hK; unfold StepG; go_simp; refine hK _ ?_; clear hK K)
      refine Lex.gap 91 (fun v W' => W'.ownsRow 0 9 1 v (sn'.length + 1) (strV (sn' ++ [zs]))) rfl (fun v W W' hx h => own_ext h hx) rfl (fun d os => ?_) ?_
      · unfold StepG
        go_simp
        exact (smore_any (own_ext R3.out.seen ((Ext.refl _).more d os)) (by have := LSS.out; omega) zs).mono fun e w' ⟨v, he, h, hx⟩ => ⟨v, he, hx, by have h' := h.mono (Nat.zero_le _); rw [List.length_append] at h'; exact h'⟩
      refine Lex.gap1 92 (StAgg (j : Int) zt (sn' ++ [zs]) (sn'.length + 1)) 91 (fun v W' => W'.ownsRow 0 9 1 v (sn'.length + 1) (strV (sn' ++ [zs]))) rfl (fun v W W' hx h => h.ext hx) rfl (fun u d os hu => ?_) ?_
      · have HU := Lib.hid hu
        obtain ⟨up, uc, huv⟩ := row_formO hu
        subst huv
        clear hu
        unfold StepG
        go_simp
        exact ⟨_, rfl, HU.out⟩
      refine Lex.gap1 93 (StNew (j : Int) zt (sn' ++ [zs]) (sn'.length + 1)) 92 (StAgg (j : Int) zt (sn' ++ [zs]) (sn'.length + 1)) rfl (fun v W W' hx h => h.ext hx) rfl (fun u d os hu => ?_) ?_
      · obtain ⟨u2, rfl, hu⟩ := hu
        have HU := Lib.hid hu
        obtain ⟨up, uc, huv⟩ := row_formO hu
        subst huv
        clear hu
        unfold StepG
        go_simp
        exact ⟨(Ext.refl _).alloc _, _, _, rfl, (by have := heap_alloc_new (more w3 d os) (.cells #[.int .i64 (j : Int), .bool true, .string zt, .slice up (sn'.length + 1) uc] 37 (0, 0)); simp only [more_size] at this; exact this), HU.out.alloc _⟩
      refine Lex.nil fun WW hE => ?_
      obtain ⟨dd, oo, rfl⟩ := hE
      intro u93 hu93 u92 _ u91 _
      obtain ⟨u, g93, rfl, hg93, hu⟩ := hu93
      have HU := Lib.hid hu
      have UO93 := Lib.hid (stNew_row (sn := sn' ++ [zs]) hg93 (own_one hu))
      clear hu hg93
      have R3 := Lib.hid (R3.out.of_ext ((Ext.refl _).more dd oo))
      obtain ⟨vs3, hv3, ho3, hs3⟩ := R3.out.steps; have V3 := Lib.hid hv3; have O3 := Lib.hid ho3; have S3 := Lib.hid hs3; clear hv3 ho3 hs3
      unfold FillH
      go_simp
      go_wp2_with (at_builtin; refine wpList_append_src _ rfl _ _ 34 34 rfl BQ 37 j0 (.agg #[.int .i64 0, .bool false, .string ⟨#[]⟩, .slice none 0 0]) 4 56 Try.underlying34 hj hy0 hy1 hy2 rfl (by decide) v3 ((acc ++ EA) ++ [(⟨j, true, zs, sn'⟩ : Stp)]).length (stCells vs3) rfl O3.out (.slice (some ⟨g93, 0, none⟩) 1 1) [(⟨j, true, zt, sn' ++ [zs]⟩ : Stp)].length (stCells [((⟨j, true, zt, sn' ++ [zs]⟩ : Stp), u)]) rfl (src_row Try.underlying34 UO93.out (st_one (B := 0) (fun q hq => by rcases List.mem_singleton.1 hq with rfl; rw [List.length_append]; exact HU.out))) (by have := HBD.out; (try simp only [List.length_append, List.length_cons, List.length_nil] at this ⊢); unfold maxLen; omega) (by have := HBD.out; (try simp only [List.length_append, List.length_cons, List.length_nil] at this ⊢); omega) (Nat.le_trans (Nat.le_of_eq HBQ2.out.symm) (R3.out.ext).size) ?_)
      intro v4 w4 hown hgrow _
      have R4 := Lib.hid (R3.out.app HBQ.out (k := [⟨j, true, zt, sn' ++ [zs]⟩]) V3.out (ms := [(⟨j, true, zt, sn' ++ [zs]⟩, u)]) rfl O3.out S3.out (fun q hq => by rcases List.mem_singleton.1 hq with rfl; rw [List.length_append]; exact HU.out) (own_len hown (by simp only [List.length_append, List.length_cons, List.length_nil] <;> omega)) hgrow)
      clear hown hgrow
      obtain ⟨vs4, hv4, ho4, hs4⟩ := R4.out.steps; have V4 := Lib.hid hv4; have O4 := Lib.hid ho4; have S4 := Lib.hid hs4; clear hv4 ho4 hs4
      have KN4 := Lib.hid R4.out.node; have xk4 := KN4.out.cell 0 _ rfl; have xb4 := KN4.out.cell 2 _ rfl; have xc4 := KN4.out.cell 3 _ rfl; have xx4 := KN4.out.cell 4 _ rfl; have xs4 := KN4.out.cell 6 _ rfl; have xt4 := KN4.out.cell 7 _ rfl; have xl4 := KN4.out.lt; have KP4 := Lib.hid (KPX.out _ R4.out.ext); have xp4 := KP4.out.cell 0 _ rfl; have xq4 := KP4.out.cell 1 _ rfl; have pl4 := KP4.out.lt
      go_wp2_with fail
      rw [ends_normal]
      go_wp2_with fail
      refine wp_region_grow 11 120 [true, false, false, false, false, false, false, false, false, false, false] (by kernel_rfl) (by kernel_rfl) rfl ?_
      simp only [List.take_succ_cons, List.take_zero, List.drop_succ_cons, List.drop_zero]
      (refine Lex.stepP rfl rfl ?_; intro K hK; go_simp; refine hK _ ?_; clear hK K)
      iterate 6 (refine Lex.step rfl ?_; intro K hK; unfold StepG; go_simp; refine hK _ ?_; clear hK K)
      refine Lex.gap 102 (fun v W' => W'.ownsRow 0 9 1 v (sn'.length + 1) (strV (sn' ++ [zs]))) rfl (fun v W W' hx h => own_ext h hx) rfl (fun d os => ?_) ?_
      · unfold StepG
        go_simp
        exact (smore_any (own_ext R4.out.seen ((Ext.refl _).more d os)) (by have := LSS.out; omega) zs).mono fun e w' ⟨v, he, h, hx⟩ => ⟨v, he, hx, by have h' := h.mono (Nat.zero_le _); rw [List.length_append] at h'; exact h'⟩
      iterate 2 (refine Lex.step rfl ?_; intro K hK; unfold StepG; go_simp; refine hK _ ?_; clear hK K)
      refine Lex.gap1 105 (fun v W' => W'.ownsRow 0 9 1 v (sn'.length + 1 + 1) (strV (sn' ++ [zs, zt]))) 102 (fun v W' => W'.ownsRow 0 9 1 v (sn'.length + 1) (strV (sn' ++ [zs]))) rfl (fun v W W' hx h => own_ext h hx) rfl (fun u d os hu => ?_) ?_
      · have HU := Lib.hid hu
        clear hu
        unfold StepG
        go_simp
        exact (smore_any (l := sn' ++ [zs]) (by rw [List.length_append]; exact HU.out) (by have := LSS.out; rw [List.length_append]; simp; omega) zt).mono fun e w' ⟨v, he, h, hx⟩ => ⟨v, he, hx, by have h' := h.mono (Nat.zero_le _); rw [List.append_assoc, List.length_append] at h'; exact h'⟩
      refine Lex.nil fun WW hE => ?_
      obtain ⟨dd2, oo2, rfl⟩ := hE
      intro u105 hu105 u102 hu102
      have U105 := Lib.hid (show (more w4 dd2 oo2).ownsRow 0 9 1 u105 (sn' ++ [zs, zt]).length (strV (sn' ++ [zs, zt])) from by rw [List.length_append]; exact hu105)
      clear hu105 hu102
      unfold FillH
      go_simp
      have R4 := Lib.hid (R4.out.of_ext ((Ext.refl _).more dd2 oo2))
      go_wp2_with (first
        | (go_at_call 14; (with_reducible refine (CB.out _ R4.out.ext u105 U105.out).mono ?_); rintro e' w5 ⟨u5, rfl, hu5, hx5⟩; have R5 := Lib.hid (R4.out.of_ext hx5); obtain ⟨us5, hv5, ho5, hs5⟩ := hu5; have UV5 := Lib.hid hv5; have UO5 := Lib.hid ho5; have US5 := Lib.hid hs5; clear hx5 hv5 ho5 hs5; obtain ⟨vs5, hv5, ho5, hs5⟩ := R5.out.steps; have V5 := Lib.hid hv5; have O5 := Lib.hid ho5; have S5 := Lib.hid hs5; clear hv5 ho5 hs5)
        | (at_builtin; refine wpList_append_src _ rfl _ _ 34 34 rfl BQ 37 j0 (.agg #[.int .i64 0, .bool false, .string ⟨#[]⟩, .slice none 0 0]) 4 56 Try.underlying34 hj hy0 hy1 hy2 rfl (by decide) v4 (((acc ++ EA) ++ [(⟨j, true, zs, sn'⟩ : Stp)]) ++ [(⟨j, true, zt, sn' ++ [zs]⟩ : Stp)]).length (stCells vs5) rfl O5.out u5 EB.length (stCells us5) rfl (src_row Try.underlying34 UO5.out (st_one US5.out)) (by have := HBD.out; (try simp only [List.length_append, List.length_cons, List.length_nil] at this ⊢); unfold maxLen; omega) (by have := HBD.out; (try simp only [List.length_append, List.length_cons, List.length_nil] at this ⊢); omega) (Nat.le_trans (Nat.le_of_eq HBQ2.out.symm) (R5.out.ext).size) ?_))
      intro v6 w6 hown hgrow _
      have R6 := Lib.hid (R5.out.app HBQ.out V5.out UV5.out O5.out S5.out US5.out (own_len hown (by simp only [List.length_append, List.length_cons, List.length_nil] <;> omega)) hgrow)
      clear hown hgrow
      obtain ⟨vs6, hv6, ho6, hs6⟩ := R6.out.steps; have V6 := Lib.hid hv6; have O6 := Lib.hid ho6; have S6 := Lib.hid hs6; clear hv6 ho6 hs6
      have KN6 := Lib.hid R6.out.node; have xk6 := KN6.out.cell 0 _ rfl; have xb6 := KN6.out.cell 2 _ rfl; have xc6 := KN6.out.cell 3 _ rfl; have xx6 := KN6.out.cell 4 _ rfl; have xs6 := KN6.out.cell 6 _ rfl; have xt6 := KN6.out.cell 7 _ rfl; have xl6 := KN6.out.lt; have KP6 := Lib.hid (KPX.out _ R6.out.ext); have xp6 := KP6.out.cell 0 _ rfl; have xq6 := KP6.out.cell 1 _ rfl; have pl6 := KP6.out.lt
      go_wp2_with fail
      rw [ends_normal]
      go_wp2_with fail
      go_roundg g0
      case measure => omega
      case rel => exact ⟨zx, sn', (((acc ++ EA) ++ [⟨j, true, zs, sn'⟩]) ++ [⟨j, true, zt, sn' ++ [zs]⟩]) ++ EB, nx, rfl, HT2.out.2.2, by have := HG2.out; omega, by have := HG2.out; omega, by have := HG2.out; omega, by rw [← HT3.out]; simp [List.append_assoc], R6.out.steps, R6.out.seen, R6.out.ext, by have := HBD.out; simp only [List.length_append, List.length_cons, List.length_nil] at this ⊢; omega, by have := HG2.out; (try simp only [List.length_append, List.length_cons, List.length_nil] at this ⊢); omega⟩
    · have hK : stepsK (stepsE ns g0) (stepsB ns g0) j ⟨zk, za, zb, zc, zx, zi, zs, zt⟩ sn' = [] := by unfold stepsK; simp [k20, k21, k22, k24, k25, k26]
      have HT3 := Lib.hid HTOT2.out
      rw [hK, if_neg k20] at HT3
      clear hK HTOT2
      have p22 : (zk == 22) = false := by simpa using k22
      have p20 : (zk == 20) = false := by simpa using k20
      have p21 : (zk == 21) = false := by simpa using k21
      have p24 : (zk == 24) = false := by simpa using k24
      have p25 : (zk == 25) = false := by simpa using k25
      have p26 : (zk == 26) = false := by simpa using k26
      clear k20 k21 k22 k24 k25 k26
      go_wp2_with fail
      go_roundg g0
      case measure => omega
      case rel => exact ⟨zx, sn', acc ++ EA, nx, rfl, HT2.out.2.2, by have := HG2.out; omega, by have := HG2.out; omega, by have := HG2.out; omega, by rw [← HT3.out]; simp [List.append_assoc], R2.out.steps, R2.out.seen, R2.out.ext, by have := HBD.out; simp only [List.length_append, List.length_cons, List.length_nil] at this ⊢; omega, by have := HG2.out; (try simp only [List.length_append, List.length_cons, List.length_nil] at this ⊢); omega⟩
end Go.Proofs.Ytoaaklcbcbjaiaa

namespace Go.Proofs.Ytoaaklcbcbjaiaa
open Go.RowKit
def wordsT : List UInt8 := [32, 97, 98, 111, 114, 116, 32, 97, 110, 100, 32, 100, 101, 108, 101, 116, 101, 32, 101, 108, 115, 101, 32, 102, 97, 108, 115, 101, 32, 102, 111, 114, 32, 103, 101, 116, 32, 104, 97, 115, 32, 105, 102, 32, 105, 110, 32, 108, 101, 110, 32, 108, 101, 116, 32, 110, 105, 108, 32, 110, 111, 116, 32, 111, 114, 32, 112, 117, 116, 32, 114, 101, 112, 101, 97, 116, 32, 114, 101, 116, 117, 114, 110, 32, 115, 99, 97, 110, 32, 115, 101, 116, 32, 115, 104, 111, 119, 32, 116, 114, 117, 101, 32]
def lowB (c : UInt8) : Bool := decide (97 ≤ c.toNat ∧ c.toNat ≤ 122)
def isWord (l : List UInt8) : Bool := wordL.any (fun x => l == x.data.toList) || l == [116, 114, 117, 101]
theorem wordB_eq (s : ByteArray) : wordB s = isWord s.data.toList := by
  unfold wordB isWord
  simp only [Lib.toList_data]
def hitL (l : List UInt8) (k : Nat) : Bool := (wordsT.drop k).take (l.length + 2) == 32 :: l ++ [32]
theorem hit_eq (s : ByteArray) (k : Nat) (h : k + s.size + 2 ≤ 103) : ((({ data := #[32, 97, 98, 111, 114, 116, 32, 97, 110, 100, 32, 100, 101, 108, 101, 116, 101, 32, 101, 108, 115, 101, 32, 102, 97, 108, 115, 101, 32, 102, 111, 114, 32, 103, 101, 116, 32, 104, 97, 115, 32, 105, 102, 32, 105, 110, 32, 108, 101, 110, 32, 108, 101, 116, 32, 110, 105, 108, 32, 110, 111, 116, 32, 111, 114, 32, 112, 117, 116, 32, 114, 101, 112, 101, 97, 116, 32, 114, 101, 116, 117, 114, 110, 32, 115, 99, 97, 110, 32, 115, 101, 116, 32, 115, 104, 111, 119, 32, 116, 114, 117, 101, 32] } : ByteArray).extract k (k + s.size + 2)).toList == (({ data := #[32] } : ByteArray) ++ s ++ { data := #[32] }).toList) = hitL s.data.toList k := by
  unfold hitL wordsT
  simp only [Lib.toList_data]
  have e1 : (({ data := #[32, 97, 98, 111, 114, 116, 32, 97, 110, 100, 32, 100, 101, 108, 101, 116, 101, 32, 101, 108, 115, 101, 32, 102, 97, 108, 115, 101, 32, 102, 111, 114, 32, 103, 101, 116, 32, 104, 97, 115, 32, 105, 102, 32, 105, 110, 32, 108, 101, 110, 32, 108, 101, 116, 32, 110, 105, 108, 32, 110, 111, 116, 32, 111, 114, 32, 112, 117, 116, 32, 114, 101, 112, 101, 97, 116, 32, 114, 101, 116, 117, 114, 110, 32, 115, 99, 97, 110, 32, 115, 101, 116, 32, 115, 104, 111, 119, 32, 116, 114, 117, 101, 32] } : ByteArray).extract k (k + s.size + 2)).data.toList = (wordsT.drop k).take (s.data.toList.length + 2) := by
    have hl : s.data.toList.length = s.size := by simp
    have e : k + s.size + 2 - k = s.size + 2 := by omega
    rw [hl]
    simp only [ByteArray.data_extract, Array.toList_extract, List.extract_eq_take_drop, e]
    rfl
  rw [e1]
  have e2 : (({ data := #[32] } : ByteArray) ++ s ++ { data := #[32] }).data.toList = 32 :: s.data.toList ++ [32] := by simp
  rw [e2]
  rfl
def chk : Bool := (List.range 103).all fun k => (List.range 102).all fun n => !(wordsT.getD k 0 == 32 && wordsT.getD (k + n + 1) 0 == 32 && ((wordsT.drop (k + 1)).take n).all lowB) || (n == 0 || isWord ((wordsT.drop (k + 1)).take n))
theorem chk_true : chk = true := by kernel_rfl
def chk2 : Bool := (wordL.map (fun x : ByteArray => x.data.toList) ++ [[116, 114, 117, 101]]).all fun l : List UInt8 => l.all lowB && !l.isEmpty && (List.range 103).any fun k => decide (k + l.length + 2 ≤ 103) && hitL l k
theorem chk2_true : chk2 = true := by kernel_rfl
theorem isWord_mem (l : List UInt8) (h : isWord l = true) : l ∈ wordL.map (fun x : ByteArray => x.data.toList) ++ [[116, 114, 117, 101]] := by
  unfold isWord at h
  simp only [Bool.or_eq_true, List.any_eq_true, beq_iff_eq] at h
  rcases h with ⟨x, hx, rfl⟩ | rfl
  · exact List.mem_append_left _ (List.mem_map.2 ⟨x, hx, rfl⟩)
  · exact List.mem_append_right _ (by simp)
theorem isWord_facts (l : List UInt8) (h : isWord l = true) : l.all lowB = true ∧ l ≠ [] ∧ ∃ k, k + l.length + 2 ≤ 103 ∧ hitL l k = true := by
  have := List.all_eq_true.1 chk2_true l (isWord_mem l h)
  simp only [Bool.and_eq_true, List.any_eq_true, decide_eq_true_eq] at this
  obtain ⟨⟨h1, h2⟩, k, _, h3, h4⟩ := this
  exact ⟨h1, by simpa using h2, k, h3, h4⟩
theorem hit_word (l : List UInt8) (k : Nat) (hk : k + l.length + 2 ≤ 103) (hl : l.all lowB = true) (hne : l ≠ []) (h : hitL l k = true) : isWord l = true := by
  have hpos : 0 < l.length := by cases l <;> simp at hne ⊢
  have h1 := List.all_eq_true.1 chk_true k (List.mem_range.2 (by omega))
  have h2 := List.all_eq_true.1 h1 l.length (List.mem_range.2 (by omega))
  have he : (wordsT.drop k).take (l.length + 2) = 32 :: l ++ [32] := by simpa [hitL] using h
  have hg : ∀ j, j < l.length + 2 → wordsT[k + j]? = (32 :: l ++ [32])[j]? := by
    intro j hj
    rw [← he, List.getElem?_take, if_pos hj, List.getElem?_drop]
  have g0 : wordsT[k]? = some 32 := by have := hg 0 (by omega); simpa using this
  have g1 : wordsT[k + l.length + 1]? = some 32 := by
    have := hg (l.length + 1) (by omega)
    rw [Nat.add_assoc, this]
    simp
  have gm : (wordsT.drop (k + 1)).take l.length = l := by
    have e : wordsT.drop (k + 1) = (wordsT.drop k).drop 1 := by rw [List.drop_drop]
    rw [e, List.take_drop]
    have e2 : ((wordsT.drop k).take (1 + l.length)) = ((wordsT.drop k).take (l.length + 2)).take (1 + l.length) := by rw [List.take_take]; congr 1; omega
    rw [e2, he]
    simp [List.take_append, Nat.add_comm 1]
  rw [gm, hl] at h2
  simp only [List.getD, g0, g1, Option.getD_some] at h2
  have hn0 : (l.length == 0) = false := by simpa using hne
  simpa [hn0] using h2
theorem lows_bad (s : ByteArray) (k : Nat) (h : k < s.size) (hb : lowB (s[k]'h) = false) : wordB s = false := by
  rw [wordB_eq]
  cases hw : isWord s.data.toList
  · rfl
  · have h1 := (isWord_facts _ hw).1
    have hu : s.data.toList[k]? = some (s[k]'h) := by rw [List.getElem?_eq_getElem (by simpa using h)]; rfl
    have := List.all_eq_true.1 h1 _ (List.mem_of_getElem? hu)
    rw [hb] at this; cases this
theorem lows_step (s : ByteArray) (k : Nat) (h : k < s.size) (ha : (s.data.toList.take k).all lowB = true) (hb : lowB (s[k]'h) = true) : (s.data.toList.take (k + 1)).all lowB = true := by
  have hu : s.data.toList[k]? = some (s[k]'h) := by rw [List.getElem?_eq_getElem (by simpa using h)]; rfl
  rw [List.take_add_one, hu, List.all_append, ha]
  simpa using hb
theorem word_hit (s : ByteArray) (k : Nat) (hk : k + s.size + 2 ≤ 103) (hl : (s.data.toList.take s.size).all lowB = true) (hne : ¬ s.toList = []) (h : hitL s.data.toList k = true) : wordB s = true := by
  rw [wordB_eq]
  have e : s.data.toList.take s.size = s.data.toList := List.take_of_length_le (by simp)
  rw [e] at hl
  exact hit_word _ k (by simpa using hk) hl (by rw [Lib.toList_data] at hne; exact hne) h
theorem word_nohit (s : ByteArray) (h : ∀ k, k + s.size + 2 ≤ 103 → hitL s.data.toList k = false) : wordB s = false := by
  rw [wordB_eq]
  cases hw : isWord s.data.toList
  · rfl
  · obtain ⟨_, _, k, hk, hh⟩ := isWord_facts _ hw
    rw [h k (by simpa using hk)] at hh; cases hh
theorem word_none (s : ByteArray) (h : s.toList = []) : wordB s = false := by
  rw [wordB_eq]
  rw [Lib.toList_data] at h
  rw [h]; rfl
set_option maxHeartbeats 2000000 in
set_option maxRecDepth 20000 in
theorem rword_big (s : ByteArray) (hs : (s.size : Int) ≤ 100000) (w : World) : Calls Try.prog 50 #[.string s] w fun e w' => e = .returned (.bool (wordB s)) ∧ Ext w w' := by
  have HB := Lib.hid (lows_bad s)
  have HSt := Lib.hid (lows_step s)
  have HH := Lib.hid (word_hit s)
  have HNH := Lib.hid (word_nohit s)
  have HE := Lib.hid (hit_eq s)
  have HWN := Lib.hid (word_none s)
  generalize wordB s = B at *
  go_enter Try.func50, Try.ntmps50
  go_wp2_with fail
  go_loop [3] (fun ii => ∃ k : Nat, ii = .int .i64 k ∧ k ≤ s.size ∧ (s.data.toList.take k).all lowB = true) (fun ii => s.size - (intOf ii).toNat)
  case atStart => exact ⟨0, rfl, by omega, rfl⟩
  case round =>
    obtain ⟨k, rfl, hk, hn⟩ := hrel
    have HN := Lib.hid hn
    clear hn
    by_cases hlt : k < s.size
    · cases hlow : lowB (s[k]'hlt)
      · have hf := Lib.hid (HB.out k hlt hlow)
        by_cases q1 : (s[k]'hlt).toNat < 97
        · have e1 : (((s[k]'hlt).toNat : Int) < 97) = True := by simp; omega
          clear q1 hlow
          go_wp2_with fail
          go_ret
          exact ⟨ret_bool hf.out.symm, Ext.refl _⟩
        · have e1 : (((s[k]'hlt).toNat : Int) < 97) = False := by simp; omega
          have e2 : (122 < ((s[k]'hlt).toNat : Int)) = True := by simp [lowB] at hlow ⊢; omega
          clear q1 hlow
          go_wp2_with fail
          go_ret
          exact ⟨ret_bool hf.out.symm, Ext.refl _⟩
      · have HST := Lib.hid (HSt.out k hlt HN.out hlow)
        have e1 : (((s[k]'hlt).toNat : Int) < 97) = False := by simp [lowB] at hlow ⊢; omega
        have e2 : (122 < ((s[k]'hlt).toNat : Int)) = False := by simp [lowB] at hlow ⊢; omega
        clear hlow
        go_wp2_with fail
        go_round
        case rel => exact ⟨k + 1, by go_num, by omega, HST.out⟩
        case measure => simp [intOf]; omega
    · have hks : k = s.size := by omega
      subst hks
      go_wp2_with fail
      go_loop [4] (fun ii => ∃ k : Nat, ii = .int .i64 k ∧ k ≤ 103 ∧ ∀ j, j < k → j + s.size + 2 ≤ 103 → hitL s.data.toList j = false) (fun ii => 103 - (intOf ii).toNat)
      case atStart => exact ⟨0, rfl, by omega, fun j hj => absurd hj (by omega)⟩
      case round =>
        obtain ⟨k, rfl, hk, hno⟩ := hrel
        have HNO := Lib.hid hno
        clear hno
        by_cases hlt : k + s.size + 2 ≤ 103
        · by_cases hnil : s.toList = []
          · have hf := Lib.hid (HWN.out hnil)
            go_wp2_with fail
            go_round
            case rel =>
              refine ⟨k + 1, by go_num, by omega, fun j hj hj2 => ?_⟩
              rcases Nat.lt_or_ge j k with h | h
              · exact HNO.out j h hj2
              · have e : j = k := by omega
                subst e
                cases hh : hitL s.data.toList j
                · rfl
                · exfalso
                  have hl : s.data.toList = [] := by rw [Lib.toList_data] at hnil; exact hnil
                  rw [hl] at hh
                  have e2 : s.size = 0 := by rw [← ByteArray.size_data, ← Array.length_toList, hl]; rfl
                  exact absurd hh (by
                    have : ∀ j, j < 103 → hitL [] j = false := by decide +kernel
                    simp [this j (by omega)])
            case measure => simp [intOf]; omega
          · cases hh : hitL s.data.toList k
            · have hx := HE.out k hlt
              rw [hh] at hx
              have HHH := Lib.hid hh
              clear hh
              go_wp2_with fail
              go_round
              case rel =>
                refine ⟨k + 1, by go_num, by omega, fun j hj hj2 => ?_⟩
                rcases Nat.lt_or_ge j k with h | h
                · exact HNO.out j h hj2
                · have e : j = k := by omega
                  subst e
                  exact HHH.out
              case measure => simp [intOf]; omega
            · have hx := HE.out k hlt
              rw [hh] at hx
              have hf := Lib.hid (HH.out k hlt HN.out hnil hh)
              have hne : (!s.toList.isEmpty) = true := by simpa using hnil
              clear hh
              go_wp2_with fail
              go_ret
              exact ⟨ret_bool hf.out.symm, Ext.refl _⟩
        · have hf := Lib.hid (HNH.out fun j hj => HNO.out j (by omega) hj)
          go_wp2_with fail
          go_ret
          exact ⟨ret_bool hf.out.symm, Ext.refl _⟩
theorem rword_any (s : ByteArray) (hs : (s.size : Int) ≤ 100) (w : World) : Calls Try.prog 50 #[.string s] w fun e w' => e = .returned (.bool (wordB s)) ∧ Ext w w' := rword_big s (by omega) w
end Go.Proofs.Ytoaaklcbcbjaiaa

namespace Go.Proofs.Ytoaaklcbcbjaiaa
open Go.RowKit
/-- the parser's block, and what hangs on it -/
structure Rt (b lb lo cap : Nat) (nv : Value) (L : Toks) (m : Nat) (N : List Nd) (e wh : Int) (w : World) : Prop where
  ends : Ends L
  blk : w.heap[b]? = some (.cells #[.slice (some ⟨lb, lo, none⟩) L.length cap, .int .i64 (m : Int), nv, .int .i64 e, .int .i64 wh] 75 (0, 0))
  toks : ToksAt lb lo L w
  row : w.ownsRow (b + 1) 52 8 nv N.length (ndCells N)
  low : lb < b
  pos : m < L.length
  cnt : N.length ≤ 512
theorem Rt.lt {b lb lo cap : Nat} {nv : Value} {L : Toks} {m : Nat} {N : List Nd} {ee wh : Int} {w : World} (h : Rt b lb lo cap nv L m N ee wh w) : b < w.heap.size :=
  (Array.getElem?_eq_some_iff.1 h.blk).1
theorem Rt.ext {b lb lo cap : Nat} {nv : Value} {L : Toks} {m : Nat} {N : List Nd} {ee wh : Int} {w w1 : World} (h : Rt b lb lo cap nv L m N ee wh w) (hx : Ext w w1) : Rt b lb lo cap nv L m N ee wh w1 := by
  have hb := hx.below
  refine ⟨h.ends, (hb.block b h.lt).trans h.blk, h.toks.of_block (hb.block lb (Nat.lt_trans h.low h.lt)), own_ext h.row hx, h.low, h.pos, h.cnt⟩
theorem Rt.alloc {b lb lo cap : Nat} {nv : Value} {L : Toks} {m : Nat} {N : List Nd} {ee wh : Int} {w : World} (h : Rt b lb lo cap nv L m N ee wh w) (o : Obj) : Rt b lb lo cap nv L m N ee wh (w.alloc o) := h.ext ((Ext.refl _).alloc o)
theorem Rt.more {b lb lo cap : Nat} {nv : Value} {L : Toks} {m : Nat} {N : List Nd} {ee wh : Int} {w : World} (h : Rt b lb lo cap nv L m N ee wh w) (d : Nat) (os : Array Obj) : Rt b lb lo cap nv L m N ee wh (more w d os) := h.ext ((Ext.refl _).more d os)
theorem Rt.rowNe {b lb lo cap : Nat} {nv : Value} {L : Toks} {m : Nat} {N : List Nd} {ee wh : Int} {w : World} (h : Rt b lb lo cap nv L m N ee wh w) {k : Nat} (hk : w.heap.size ≤ k) : nv.ownBlock ≠ some k := by
  intro e; have := (h.row.lt k e).2; omega
/-- a block that was just made -/
theorem Rt.loc {b lb lo cap : Nat} {nv : Value} {L : Toks} {m : Nat} {N : List Nd} {ee wh : Int} {w : World} (h : Rt b lb lo cap nv L m N ee wh w) (o : Obj) : Loc b nv w.heap.size o (w.alloc o) :=
  ⟨heap_alloc_new _ _, by have := h.lt; omega, h.rowNe (Nat.le_refl _)⟩
/-- how far is read is written down -/
theorem Rt.setAt {b lb lo cap : Nat} {nv : Value} {L : Toks} {m : Nat} {N : List Nd} {ee wh : Int} {w : World} (h : Rt b lb lo cap nv L m N ee wh w) (m' : Nat) (z : Int) (hz : z = m') (hm : m' < L.length) : Rt b lb lo cap nv L m' N ee wh (w.setCell ⟨b, 1, none⟩ (.int .i64 z)) := by
  subst hz
  refine ⟨h.ends, ?_, h.toks.of_block (heap_set_other _ _ _ _ _ (by have := h.low; omega)), ?_, h.low, hm, h.cnt⟩
  · simp [World.setCell, Array.getElem?_modify, h.blk]
  · refine h.row.kept (row := some b) ⟨rfl, rfl, rfl, by simp [World.setCell], fun j hj hn => heap_set_other _ _ _ _ _ (fun e => hn (by rw [e]))⟩ (Or.inr fun e => ?_)
    have := (h.row.lt b e).1; omega
/-- a node more is laid -/
theorem Rt.push {b lb lo cap : Nat} {nv v' : Value} {L : Toks} {m : Nat} {N : List Nd} {ee wh : Int} {w w1 : World} (h : Rt b lb lo cap nv L m N ee wh w) {z : Nd} (hown : w1.ownsRow (b + 1) 52 8 v' (N.length + 1) (ndCells N ++ ndL z)) (hg : w.grownBy w1 nv.ownBlock) (hn : N.length < 512) :
    Rt b lb lo cap v' L m (N ++ [z]) ee wh (w1.setCell ⟨b, 2, none⟩ v') := by
  have hb : nv.ownBlock ≠ some b := fun e => by have := (h.row.lt b e).1; omega
  have hl : nv.ownBlock ≠ some lb := fun e => by have := (h.row.lt lb e).1; have := h.low; omega
  have e1 : w1.heap[b]? = w.heap[b]? := ownBlock_kept hg h.lt hb
  have e2 : w1.heap[lb]? = w.heap[lb]? := ownBlock_kept hg (Nat.lt_trans h.low h.lt) hl
  refine ⟨h.ends, ?_, (h.toks.of_block e2).of_block (heap_set_other _ _ _ _ _ (by have := h.low; omega)), ?_, h.low, h.pos, by simp; omega⟩
  · have := h.blk
    simp [World.setCell, Array.getElem?_modify, e1, this]
  · have hc : ndCells (N ++ [z]) = ndCells N ++ ndL z := by rw [ndCells_append]; simp [ndCells]
    rw [hc, List.length_append]
    refine hown.kept (row := some b) ⟨rfl, rfl, rfl, by simp [World.setCell], fun j hj hn => heap_set_other _ _ _ _ _ (fun e => hn (by rw [e]))⟩ (Or.inr fun e => ?_)
    have := (hown.lt b e).1; omega
theorem Rt.grownFacts {b lb lo cap : Nat} {nv : Value} {L : Toks} {m : Nat} {N : List Nd} {ee wh : Int} {w w1 : World} (h : Rt b lb lo cap nv L m N ee wh w) (hg : w.grownBy w1 nv.ownBlock) :
    w1.cell? ⟨b, 2, none⟩ = some nv ∧ w1.frozen? ⟨b, 2, none⟩ = false ∧ b < w1.heap.size := by
  have hb : nv.ownBlock ≠ some b := fun e => by have := (h.row.lt b e).1; omega
  have e1 : w1.heap[b]? = w.heap[b]? := ownBlock_kept hg h.lt hb
  have := h.blk
  refine ⟨?_, ?_, Nat.lt_of_lt_of_le h.lt hg.size⟩ <;> simp [World.cell?, World.frozen?, e1, this]
/-- what the walk reads of the block -/
theorem Rt.facts {b lb lo cap : Nat} {nv : Value} {L : Toks} {m : Nat} {N : List Nd} {ee wh : Int} {w : World} (h : Rt b lb lo cap nv L m N ee wh w) :
    w.cell? ⟨b, 0, none⟩ = some (.slice (some ⟨lb, lo, none⟩) L.length cap) ∧ w.cell? ⟨b, 1, none⟩ = some (.int .i64 (m : Int)) ∧ w.cell? ⟨b, 2, none⟩ = some nv ∧ w.cell? ⟨b, 3, none⟩ = some (.int .i64 ee) ∧ w.cell? ⟨b, 4, none⟩ = some (.int .i64 wh) ∧
    w.frozen? ⟨b, 1, none⟩ = false ∧ w.frozen? ⟨b, 2, none⟩ = false ∧ w.frozen? ⟨b, 3, none⟩ = false ∧ w.frozen? ⟨b, 4, none⟩ = false ∧ b < w.heap.size := by
  have := h.blk
  refine ⟨?_, ?_, ?_, ?_, ?_, ?_, ?_, ?_, ?_, h.lt⟩ <;> simp [World.cell?, World.frozen?, this]
theorem Rt.tokFacts {b lb lo cap : Nat} {nv : Value} {L : Toks} {m : Nat} {N : List Nd} {ee wh : Int} {w : World} (h : Rt b lb lo cap nv L m N ee wh w) :
    w.cell? ⟨lb, lo + m * 4, none⟩ = some (.int .i64 (tk L m).1.k) ∧ w.cell? ⟨lb, lo + m * 4 + 1, none⟩ = some (.int .i64 (tk L m).2) ∧
    w.cell? ⟨lb, lo + m * 4 + 2, none⟩ = some (.string (tk L m).1.s) ∧ w.cell? ⟨lb, lo + m * 4 + 3, none⟩ = some (.int .i64 (tk L m).1.i) ∧ lb < w.heap.size :=
  ⟨(h.toks m h.pos).1, (h.toks m h.pos).2.1, (h.toks m h.pos).2.2.1, (h.toks m h.pos).2.2.2, Nat.lt_trans h.low h.lt⟩
theorem Rt.next {b lb lo cap : Nat} {nv : Value} {L : Toks} {m : Nat} {N : List Nd} {ee wh : Int} {w : World} (h : Rt b lb lo cap nv L m N ee wh w) (hk : (tk L m).1.k ≠ 0) : m + 1 < L.length := by
  have h1 := h.ends.at_ m h.pos
  have h2 := h.pos
  rcases Nat.lt_or_ge (m + 1) L.length with h3 | h3
  · exact h3
  · exact absurd (h1.2 (by omega)) hk
/-- what is wrong is written down -/
theorem Rt.setErr {b lb lo cap : Nat} {nv : Value} {L : Toks} {m : Nat} {N : List Nd} {ee wh : Int} {w : World} (h : Rt b lb lo cap nv L m N ee wh w) (c a : Int) (hc : c ≠ 0) :
    Rt b lb lo cap nv L m N c a ((w.setCell ⟨b, 3, none⟩ (.int .i64 c)).setCell ⟨b, 4, none⟩ (.int .i64 a)) := by
  refine ⟨h.ends, ?_, (h.toks.of_block (heap_set_other _ _ _ _ _ (by have := h.low; omega))).of_block (heap_set_other _ _ _ _ _ (by have := h.low; omega)), ?_, h.low, h.pos, h.cnt⟩
  · simp [World.setCell, Array.getElem?_modify, h.blk]
  · exact ownsRow_setCell_below (ownsRow_setCell_below h.row (by simp) _) (by simp) _
theorem Rt.cast {b lb lo cap : Nat} {nv : Value} {L : Toks} {m : Nat} {N N' : List Nd} {ee wh : Int} {w : World} (h : Rt b lb lo cap nv L m N ee wh w) (e : N = N') : Rt b lb lo cap nv L m N' ee wh w := e ▸ h
/-- what a way through tokens does to the document's parser -/
def RPost {α : Type} (V : α → Value) (Q : Value → Prop) (b lb lo cap : Nat) (nv : Value) (L : Toks) (m : Nat) (N : List Nd) (w : World) (r : PR α) (e : Ending) (w' : World) : Prop :=
  match r with
  | .error (c, a) => c ≠ 0 ∧ (∃ v, e = .returned v ∧ Q v) ∧ ∃ nv' m' N', Rt b lb lo cap nv' L m' N' c a w' ∧ Kp b nv nv' w w'
  | .ok (v, m', ns) => e = .returned (V v) ∧ ∃ nv', Rt b lb lo cap nv' L m' (N ++ ns) 0 0 w' ∧ Kp b nv nv' w w' ∧ m ≤ m'
theorem RPost.err {α : Type} {V : α → Value} {Q : Value → Prop} {b lb lo cap : Nat} {nv nv' : Value} {L : Toks} {m m' : Nat} {N N' : List Nd} {w w' : World} {c a : Int} {v : Value} (hc : c ≠ 0) (hq : Q v) (hs : Rt b lb lo cap nv' L m' N' c a w') (hk : Kp b nv nv' w w') : RPost V Q b lb lo cap nv L m N w (.error (c, a)) (.returned v) w' := ⟨hc, ⟨v, rfl, hq⟩, nv', m', N', hs, hk⟩
theorem RPost.res {α : Type} {V : α → Value} {Q : Value → Prop} {b lb lo cap : Nat} {nv nv' : Value} {L : Toks} {m m' : Nat} {N ns : List Nd} {w w' : World} {v : α} {e : Ending} (he : e = .returned (V v)) (hs : Rt b lb lo cap nv' L m' (N ++ ns) 0 0 w') (hk : Kp b nv nv' w w') (hm : m ≤ m') :
    RPost V Q b lb lo cap nv L m N w (.ok (v, m', ns)) e w' := ⟨he, nv', hs, hk, hm⟩
def isInt (v : Value) : Prop := ∃ z : Int, v = .int .i64 z
def isUnit (v : Value) : Prop := v = .tuple #[]
def isTok (v : Value) : Prop := ∃ (k a : Int) (s : ByteArray) (i : Int), v = .agg #[.int .i64 k, .int .i64 a, .string s, .int .i64 i]
end Go.Proofs.Ytoaaklcbcbjaiaa

namespace Go.Proofs.Ytoaaklcbcbjaiaa
open Go.RowKit
attribute [go_sem] more_more Array.size_append
set_option maxHeartbeats 1000000 in
theorem rfail_alive {b lb lo cap : Nat} {nv : Value} {L : Toks} {m : Nat} {N : List Nd} {w : World} {wh : Int} (h : Rt b lb lo cap nv L m N 0 wh w) (c : Int) :
    Calls Try.prog 34 #[.pointer (some ⟨b, 0, none⟩), .int .i64 c] w fun e w' => e = .returned (.tuple #[]) ∧ ∃ w1, Ext w w1 ∧ w' = (w1.setCell ⟨b, 3, none⟩ (.int .i64 c)).setCell ⟨b, 4, none⟩ (.int .i64 (tk L m).2) := by
  obtain ⟨c0, c1, c2, c3, c4, f1, f2, f3, f4, hb⟩ := h.facts
  obtain ⟨t0, t1, t2, t3, hlb⟩ := h.tokFacts
  have hp : (m : Int) < (L.length : Int) := by have := h.pos; omega
  have hp0 : 0 ≤ (m : Int) := by omega
  have hmx : (m : Int) ≤ 5000 := by have := h.ends.few; have := h.pos; omega
  have hne1 : lb ≠ b := by have := h.low; omega
  obtain ⟨⟨⟨k, ts, i⟩, a⟩, htt⟩ : ∃ tt, tk L m = tt := ⟨_, rfl⟩
  rw [htt] at t0 t1 t2 t3 ⊢
  dsimp only at t0 t1 t2 t3 ⊢
  clear htt h c2 f1 f2
  go_enter Try.func34, Try.ntmps34
  go_wp2_with fail
  refine wp_region_grow 14 27 [false, false, false, false, false, false, false, false, false, false, false, false, false, false] (by kernel_rfl) (by kernel_rfl) rfl ?_
  simp only [List.take_succ_cons, List.take_zero, List.drop_succ_cons, List.drop_zero]
  repeat (refine Lex.step rfl ?_; intro K hK; unfold StepG; go_simp; (first
      | refine hK _ ?_); clear hK K)
  refine Lex.nil fun WW hE => ?_
  obtain ⟨dd, oo, rfl⟩ := hE
  unfold FillH
  go_wp2_with fail
  rw [ends_normal]
  go_wp2_with fail
  go_end0
  exact ⟨rfl, more w dd oo, by repeat (first | exact Ext.refl _ | apply Ext.alloc | apply Ext.more), by rw [more_setCell _ _ _ _ _ _ hb, more_setCell _ _ _ _ _ _ (by simpa using hb)]⟩
set_option maxHeartbeats 1000000 in
theorem rfail_dead {b lb lo cap : Nat} {nv : Value} {L : Toks} {m : Nat} {N : List Nd} {w : World} {wh : Int} {ee : Int} (hee : ee ≠ 0) (h : Rt b lb lo cap nv L m N ee wh w) (c : Int) :
    Calls Try.prog 34 #[.pointer (some ⟨b, 0, none⟩), .int .i64 c] w fun e w' => e = .returned (.tuple #[]) ∧ Ext w w' := by
  obtain ⟨c0, c1, c2, c3, c4, f1, f2, f3, f4, hb⟩ := h.facts
  have q : (ee == 0) = false := by simpa using hee
  clear h c0 c1 c2 c4 f1 f2 f3 f4 hee
  go_enter Try.func34, Try.ntmps34
  go_wp2_with fail
  go_end0
  exact ⟨rfl, by repeat (first | exact Ext.refl _ | apply Ext.alloc | apply Ext.more)⟩
set_option maxHeartbeats 2000000 in
theorem sees_alive {b lb lo cap : Nat} {nv : Value} {L : Toks} {m : Nat} {N : List Nd} {w : World} {wh : Int} (h : Rt b lb lo cap nv L m N 0 wh w) (s : ByteArray) (hs : (s.size : Int) ≤ 100) :
    Calls Try.prog 97 #[.pointer (some ⟨b, 0, none⟩), .string s] w fun e w' => e = .returned (.bool (isP L s m)) ∧ Ext w w' := by
  obtain ⟨c0, c1, c2, c3, c4, f1, f2, f3, f4, hb⟩ := h.facts
  obtain ⟨t0, t1, t2, t3, hlb⟩ := h.tokFacts
  have hp : (m : Int) < (L.length : Int) := by have := h.pos; omega
  have hp0 : 0 ≤ (m : Int) := by omega
  have hmx : (m : Int) ≤ 5000 := by have := h.ends.few; have := h.pos; omega
  have hne1 : lb ≠ b := by have := h.low; omega
  obtain ⟨⟨⟨k, ts, i⟩, a⟩, htt⟩ : ∃ tt, tk L m = tt := ⟨_, rfl⟩
  have W := Lib.hid (rword_any s hs)
  cases hw : wordB s
  all_goals
    rw [hw] at W
    rw [isP_eq htt s _ hw]
    rw [htt] at t0 t1 t2 t3
    dsimp only at t0 t1 t2 t3 ⊢
    clear htt hw h c2 c4 f1 f2 f3 f4 hmx
  · by_cases hk : (k == 4) = true
    · rw [if_neg (by simp), hk]
      go_enter Try.func97, Try.ntmps97
      go_wp2_with fail
      refine wp_region_grow 11 36 [false, false, false, false, false, false, false, false, false, false, false] (by kernel_rfl) (by kernel_rfl) rfl ?_
      simp only [List.take_succ_cons, List.take_zero, List.drop_succ_cons, List.drop_zero]
      iterate 10 (refine Lex.step rfl ?_; intro K hK; unfold StepG; go_simp; refine hK _ ?_; clear hK K)
      refine Lex.alloc 5 (.cells #[.int .i64 0, .int .i64 0, .string ⟨#[]⟩, .int .i64 0] 57) rfl rfl (fun d os => ?_) ?_
      · unfold StepG
        go_simp
        exact ⟨(Ext.refl _).alloc _, NewBlk.of_alloc _ _ _ _ _ (by simp [more_size])⟩
      refine Lex.nil fun WW hE => ?_
      intro u hu
      obtain ⟨dt1, ot1, dt2, ot2, rfl, rfl⟩ := hu.split hE
      clear hu hE
      go_simp
      unfold FillH
      go_wp2_with fail
      rw [ends_normal]
      go_wp2_with (go_at_call 50; refine (W.out _).mono ?_; rintro e _ ⟨rfl, d, os, rfl⟩)
      go_ret
      exact ⟨ret_bool (by simp), by repeat (first | exact Ext.refl _ | apply Ext.alloc | apply Ext.more)⟩
    · have hk2 : (k == 4) = false := by simpa using hk
      clear hk
      rw [if_neg (by simp), hk2]
      go_enter Try.func97, Try.ntmps97
      go_wp2_with fail
      refine wp_region_grow 11 36 [false, false, false, false, false, false, false, false, false, false, false] (by kernel_rfl) (by kernel_rfl) rfl ?_
      simp only [List.take_succ_cons, List.take_zero, List.drop_succ_cons, List.drop_zero]
      iterate 10 (refine Lex.step rfl ?_; intro K hK; unfold StepG; go_simp; refine hK _ ?_; clear hK K)
      refine Lex.alloc 5 (.cells #[.int .i64 0, .int .i64 0, .string ⟨#[]⟩, .int .i64 0] 57) rfl rfl (fun d os => ?_) ?_
      · unfold StepG
        go_simp
        exact ⟨(Ext.refl _).alloc _, NewBlk.of_alloc _ _ _ _ _ (by simp [more_size])⟩
      refine Lex.nil fun WW hE => ?_
      intro u hu
      obtain ⟨dt1, ot1, dt2, ot2, rfl, rfl⟩ := hu.split hE
      clear hu hE
      go_simp
      unfold FillH
      go_wp2_with fail
      rw [ends_normal]
      go_wp2_with (go_at_call 50; refine (W.out _).mono ?_; rintro e _ ⟨rfl, d, os, rfl⟩)
      go_ret
      exact ⟨ret_bool (by simp), by repeat (first | exact Ext.refl _ | apply Ext.alloc | apply Ext.more)⟩
  · by_cases hk : (k == 5) = true
    · rw [if_pos rfl, hk]
      go_enter Try.func97, Try.ntmps97
      go_wp2_with fail
      refine wp_region_grow 11 36 [false, false, false, false, false, false, false, false, false, false, false] (by kernel_rfl) (by kernel_rfl) rfl ?_
      simp only [List.take_succ_cons, List.take_zero, List.drop_succ_cons, List.drop_zero]
      iterate 10 (refine Lex.step rfl ?_; intro K hK; unfold StepG; go_simp; refine hK _ ?_; clear hK K)
      refine Lex.alloc 5 (.cells #[.int .i64 0, .int .i64 0, .string ⟨#[]⟩, .int .i64 0] 57) rfl rfl (fun d os => ?_) ?_
      · unfold StepG
        go_simp
        exact ⟨(Ext.refl _).alloc _, NewBlk.of_alloc _ _ _ _ _ (by simp [more_size])⟩
      refine Lex.nil fun WW hE => ?_
      intro u hu
      obtain ⟨dt1, ot1, dt2, ot2, rfl, rfl⟩ := hu.split hE
      clear hu hE
      go_simp
      unfold FillH
      go_wp2_with fail
      rw [ends_normal]
      go_wp2_with (go_at_call 50; refine (W.out _).mono ?_; rintro e _ ⟨rfl, d, os, rfl⟩)
      go_ret
      exact ⟨ret_bool (by simp), by repeat (first | exact Ext.refl _ | apply Ext.alloc | apply Ext.more)⟩
    · have hk2 : (k == 5) = false := by simpa using hk
      clear hk
      rw [if_pos rfl, hk2]
      go_enter Try.func97, Try.ntmps97
      go_wp2_with fail
      refine wp_region_grow 11 36 [false, false, false, false, false, false, false, false, false, false, false] (by kernel_rfl) (by kernel_rfl) rfl ?_
      simp only [List.take_succ_cons, List.take_zero, List.drop_succ_cons, List.drop_zero]
      iterate 10 (refine Lex.step rfl ?_; intro K hK; unfold StepG; go_simp; refine hK _ ?_; clear hK K)
      refine Lex.alloc 5 (.cells #[.int .i64 0, .int .i64 0, .string ⟨#[]⟩, .int .i64 0] 57) rfl rfl (fun d os => ?_) ?_
      · unfold StepG
        go_simp
        exact ⟨(Ext.refl _).alloc _, NewBlk.of_alloc _ _ _ _ _ (by simp [more_size])⟩
      refine Lex.nil fun WW hE => ?_
      intro u hu
      obtain ⟨dt1, ot1, dt2, ot2, rfl, rfl⟩ := hu.split hE
      clear hu hE
      go_simp
      unfold FillH
      go_wp2_with fail
      rw [ends_normal]
      go_wp2_with (go_at_call 50; refine (W.out _).mono ?_; rintro e _ ⟨rfl, d, os, rfl⟩)
      go_ret
      exact ⟨ret_bool (by simp), by repeat (first | exact Ext.refl _ | apply Ext.alloc | apply Ext.more)⟩
set_option maxHeartbeats 2000000 in
theorem sees_dead {b lb lo cap : Nat} {nv : Value} {L : Toks} {m : Nat} {N : List Nd} {w : World} {wh : Int} {ee : Int} (hee : ee ≠ 0) (h : Rt b lb lo cap nv L m N ee wh w) (s : ByteArray) (hs : (s.size : Int) ≤ 100) :
    Calls Try.prog 97 #[.pointer (some ⟨b, 0, none⟩), .string s] w fun e w' => e = .returned (.bool false) ∧ Ext w w' := by
  obtain ⟨c0, c1, c2, c3, c4, f1, f2, f3, f4, hb⟩ := h.facts
  obtain ⟨t0, t1, t2, t3, hlb⟩ := h.tokFacts
  have hp : (m : Int) < (L.length : Int) := by have := h.pos; omega
  have hp0 : 0 ≤ (m : Int) := by omega
  have hmx : (m : Int) ≤ 5000 := by have := h.ends.few; have := h.pos; omega
  have hne1 : lb ≠ b := by have := h.low; omega
  obtain ⟨⟨⟨k, ts, i⟩, a⟩, htt⟩ : ∃ tt, tk L m = tt := ⟨_, rfl⟩
  have W := Lib.hid (rword_any s hs)
  have q : (ee == 0) = false := by simpa using hee
  cases hw : wordB s
  all_goals
    rw [hw] at W
    rw [htt] at t0 t1 t2 t3
    dsimp only at t0 t1 t2 t3 ⊢
    clear htt hw h c2 c4 f1 f2 f3 f4 hmx hee
    go_enter Try.func97, Try.ntmps97
    go_wp2_with fail
    refine wp_region_grow 11 36 [false, false, false, false, false, false, false, false, false, false, false] (by kernel_rfl) (by kernel_rfl) rfl ?_
    simp only [List.take_succ_cons, List.take_zero, List.drop_succ_cons, List.drop_zero]
    iterate 10 (refine Lex.step rfl ?_; intro K hK; unfold StepG; go_simp; refine hK _ ?_; clear hK K)
    refine Lex.alloc 5 (.cells #[.int .i64 0, .int .i64 0, .string ⟨#[]⟩, .int .i64 0] 57) rfl rfl (fun d os => ?_) ?_
    · unfold StepG
      go_simp
      exact ⟨(Ext.refl _).alloc _, NewBlk.of_alloc _ _ _ _ _ (by simp [more_size])⟩
    refine Lex.nil fun WW hE => ?_
    intro u hu
    obtain ⟨dt1, ot1, dt2, ot2, rfl, rfl⟩ := hu.split hE
    clear hu hE
    go_simp
    unfold FillH
    go_wp2_with fail
    rw [ends_normal]
    go_wp2_with (go_at_call 50; refine (W.out _).mono ?_; rintro e _ ⟨rfl, d, os, rfl⟩)
    go_ret
    exact ⟨rfl, by repeat (first | exact Ext.refl _ | apply Ext.alloc | apply Ext.more)⟩
theorem rfail_st {b lb lo cap : Nat} {nv : Value} {L : Toks} {m : Nat} {N : List Nd} {w : World} (h : Rt b lb lo cap nv L m N 0 0 w) (c : Int) (hc : c ≠ 0) :
    Calls Try.prog 34 #[.pointer (some ⟨b, 0, none⟩), .int .i64 c] w fun e w' => e = .returned (.tuple #[]) ∧ Rt b lb lo cap nv L m N c (tk L m).2 w' ∧ Kp b nv nv w w' :=
  (rfail_alive h c).mono fun e w' ⟨he, w1, hx, hw⟩ => ⟨he, hw ▸ (h.ext hx).setErr c _ hc, hw ▸ (((Kp.refl b nv w).ext hx).setB 3 _).setB 4 _⟩
set_option maxHeartbeats 1000000 in
theorem take_dead {b lb lo cap : Nat} {nv : Value} {L : Toks} {m : Nat} {N : List Nd} {w : World} {wh : Int} {ee : Int} (hee : ee ≠ 0) (h : Rt b lb lo cap nv L m N ee wh w) (s : ByteArray) (hs : (s.size : Int) ≤ 100) :
    Calls Try.prog 75 #[.pointer (some ⟨b, 0, none⟩), .string s] w fun e w' => e = .returned (.bool false) ∧ Ext w w' := by
  have I := Lib.hid (sees_dead hee h s hs)
  clear h hee
  go_enter Try.func75, Try.ntmps75
  go_wp2_with ((go_at_call 97; (with_reducible refine I.out.mono ?_); rintro e _ ⟨rfl, d, os, rfl⟩))
  go_ret
  exact ⟨rfl, by repeat (first | exact Ext.refl _ | apply Ext.alloc | apply Ext.more)⟩
set_option maxHeartbeats 1000000 in
theorem take_no {b lb lo cap : Nat} {nv : Value} {L : Toks} {m : Nat} {N : List Nd} {w : World} (h : Rt b lb lo cap nv L m N 0 0 w) (s : ByteArray) (hs : (s.size : Int) ≤ 100) (hn : isP L s m = false) :
    Calls Try.prog 75 #[.pointer (some ⟨b, 0, none⟩), .string s] w fun e w' => e = .returned (.bool false) ∧ Ext w w' := by
  have I := Lib.hid (sees_alive h s hs)
  rw [hn] at I
  clear hn h
  go_enter Try.func75, Try.ntmps75
  go_wp2_with ((go_at_call 97; (with_reducible refine I.out.mono ?_); rintro e _ ⟨rfl, d, os, rfl⟩))
  go_ret
  exact ⟨rfl, by repeat (first | exact Ext.refl _ | apply Ext.alloc | apply Ext.more)⟩
set_option maxHeartbeats 1000000 in
theorem take_yes {b lb lo cap : Nat} {nv : Value} {L : Toks} {m : Nat} {N : List Nd} {w : World} (h : Rt b lb lo cap nv L m N 0 0 w) (s : ByteArray) (hs : (s.size : Int) ≤ 100) (hn : isP L s m = true) :
    Calls Try.prog 75 #[.pointer (some ⟨b, 0, none⟩), .string s] w fun e w' => e = .returned (.bool true) ∧ Rt b lb lo cap nv L (m + 1) N 0 0 w' ∧ Kp b nv nv w w' := by
  have I := Lib.hid (sees_alive h s hs)
  have H := Lib.hid h
  have NX := Lib.hid (h.next (isP_ne hn))
  rw [hn] at I
  have hm : (m : Int) ≤ 5000 := by have := h.ends.few; have := h.pos; omega
  have hm0 : 0 ≤ (m : Int) := by omega
  obtain ⟨c0, c1, c2, c3, c4, f1, f2, f3, f4, hb⟩ := h.facts
  clear hn h c0 c2 c3 c4 f2 f3 f4
  go_enter Try.func75, Try.ntmps75
  go_wp2_with ((go_at_call 97; (with_reducible refine I.out.mono ?_); rintro e _ ⟨rfl, d, os, rfl⟩))
  go_ret
  exact ⟨rfl, by rw [← more_setCell _ _ _ _ _ _ hb]; exact (H.out.more d os).setAt (m + 1) _ (by omega) NX.out, by rw [← more_setCell _ _ _ _ _ _ hb]; exact ((Kp.refl b nv w).more d os).setB 1 _⟩
set_option maxHeartbeats 1000000 in
theorem need_dead {b lb lo cap : Nat} {nv : Value} {L : Toks} {m : Nat} {N : List Nd} {w : World} {wh : Int} {ee : Int} (hee : ee ≠ 0) (h : Rt b lb lo cap nv L m N ee wh w) (s : ByteArray) (hs : (s.size : Int) ≤ 100) :
    Calls Try.prog 71 #[.pointer (some ⟨b, 0, none⟩), .string s] w fun e w' => e = .returned (.tuple #[]) ∧ Ext w w' := by
  have I := Lib.hid (take_dead hee h s hs)
  have FL : RowKit.Hid (∀ (c : Int) w1, Ext w w1 → Calls Try.prog 34 #[.pointer (some ⟨b, 0, none⟩), .int .i64 c] w1 fun e w' => e = .returned (.tuple #[]) ∧ Ext w1 w') := Lib.hid fun c w1 hx => rfail_dead hee (h.ext hx) c
  clear h hee
  go_enter Try.func71, Try.ntmps71
  go_wp2_with (first
    | ((go_at_call 75; (with_reducible refine I.out.mono ?_); rintro e _ ⟨rfl, d, os, rfl⟩))
    | ((go_at_call 34; (with_reducible refine (FL.out _ _ (by repeat (first | exact Ext.refl _ | apply Ext.alloc | apply Ext.more))).mono ?_); rintro e _ ⟨rfl, d2, os2, rfl⟩)))
  go_end0
  exact ⟨rfl, by repeat (first | exact Ext.refl _ | apply Ext.alloc | apply Ext.more)⟩
set_option maxHeartbeats 1000000 in
theorem need_any {b lb lo cap : Nat} {nv : Value} {L : Toks} {m : Nat} {N : List Nd} {w : World} (h : Rt b lb lo cap nv L m N 0 0 w) (s : ByteArray) (hs : (s.size : Int) ≤ 100) (r : PR Unit) (hr : must1 L s m N.length = r) :
    Calls Try.prog 71 #[.pointer (some ⟨b, 0, none⟩), .string s] w (RPost unitV isUnit b lb lo cap nv L m N w r) := by
  unfold must1 at hr
  cases hn : isP L s m
  · rw [hn, if_neg (by simp)] at hr
    subst hr
    have I := Lib.hid (take_no h s hs hn)
    have FL : RowKit.Hid (∀ w1, Ext w w1 → Calls Try.prog 34 #[.pointer (some ⟨b, 0, none⟩), .int .i64 3] w1 fun e w' => e = .returned (.tuple #[]) ∧ Rt b lb lo cap nv L m N 3 (tk L m).2 w' ∧ Kp b nv nv w1 w') := Lib.hid fun w1 hx => rfail_st (h.ext hx) 3 (by decide)
    clear h hn
    go_enter Try.func71, Try.ntmps71
    go_wp2_with (first
      | ((go_at_call 75; (with_reducible refine I.out.mono ?_); rintro e _ ⟨rfl, d, os, rfl⟩))
      | ((go_at_call 34; (with_reducible refine (FL.out _ (by repeat (first | exact Ext.refl _ | apply Ext.alloc | apply Ext.more))).mono ?_); rintro e w2 ⟨rfl, hs2, hk2⟩; have HS2 := Lib.hid hs2; have HK2 := Lib.hid hk2; clear hs2 hk2)))
    go_end0
    exact RPost.err (by decide) rfl HS2.out (((Kp.refl b nv w).more _ _).trans HK2.out)
  · rw [hn, if_pos rfl] at hr
    subst hr
    have I := Lib.hid (take_yes h s hs hn)
    clear h hn
    go_enter Try.func71, Try.ntmps71
    go_wp2_with ((go_at_call 75; (with_reducible refine I.out.mono ?_); rintro e w2 ⟨rfl, hs2, hk2⟩; have HS2 := Lib.hid hs2; have HK2 := Lib.hid hk2; clear hs2 hk2))
    go_end0
    exact RPost.res rfl (HS2.out.cast (List.append_nil N).symm) HK2.out (Nat.le_succ _)
set_option maxHeartbeats 1000000 in
theorem new_any (k a c : Int) (w : World) : Calls Try.prog 70 #[.int .i64 k, .int .i64 a, .int .i64 c] w fun e w' => e = .returned (.agg #[.int .i64 k, .int .i64 a, .int .i64 c, .int .i64 (-1), .int .i64 (-1), .int .i64 0, .string ⟨#[]⟩, .string ⟨#[]⟩]) ∧ Ext w w' := by
  go_enter Try.func70, Try.ntmps70
  go_wp2_with fail
  exact bodyPost_ret (v := .agg #[.int .i64 k, .int .i64 a, .int .i64 c, .int .i64 (-1), .int .i64 (-1), .int .i64 0, .string ⟨#[]⟩, .string ⟨#[]⟩]) (by simp [results, Try.results70, go_sem]) rfl ⟨rfl, by repeat (first | exact Ext.refl _ | apply Ext.alloc | apply Ext.more)⟩
end Go.Proofs.Ytoaaklcbcbjaiaa
