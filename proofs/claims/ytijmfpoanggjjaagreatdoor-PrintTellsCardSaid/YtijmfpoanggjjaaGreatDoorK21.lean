/- Lemmas for the claim (texts Wr5, Wr6, what its proof uses of them). -/
import Derived.Test.YtijmfpoanggjjaaGreatDoorK20
import Derived.Deep.QuietTactic
import Derived.Shelf.RegionOpenPlain
import Derived.Lib.UnsafeStr
set_option linter.unusedSimpArgs false
set_option linter.unusedVariables false
namespace Go.Proofs.YtijmfpoanggjjaaGreatDoor
open Go.RowKit
attribute [go_sem] more_more Array.size_append
theorem statement_of {W : World} {b : Nat} {nv : Value} {fi : Int} {ns : List Nd} (hs : Sz ns) (hb : ∀ (j : Nat) (z : Nd), ns[j]? = some z → nodeB ns j z = true) (f : Nat) (ih : ∀ (i : Int) (n : Nat), Tr ns i n → n ≤ f → n ≤ ns.length → SK ns i → BlkC W b nv fi ns i (11000 * n) (txB ns f i))
  {j : Nat} {z : Nd} {na nb nc : Nat} (hz : ns[j]? = some z) (hk : 20 ≤ qaD ns (j : Int)) (ta : Tr ns z.a na) (tb : Tr ns z.b nb) (tc : Tr ns z.c nc) (hn : na + nb + nc ≤ f) (hnl : na + nb + nc ≤ ns.length) {L : List Own} {acc : List UInt8} {w : World} (hl : acc.length + 11000 * na + 11000 * nb + 11000 * nc + 11000 ≤ 90000000) (h : Wr W b nv fi ns L acc w) :
  Calls Tryz.prog 37 #[.pointer (some ⟨b, 0, none⟩), .agg #[.int .i64 z.k, .int .i64 z.a, .int .i64 z.b, .int .i64 z.c, .int .i64 z.x, .int .i64 z.i, .string z.s, .string z.t]] w fun e w' => e = .returned (.tuple #[]) ∧ Wr W b nv fi ns L (acc ++ stmZ (txE ns ns.length) (txB ns f) z) w' := by
 obtain ⟨k0, k1, ka, kb, kbb, kc, kx⟩ := qbj hz (hb j z hz) hk
 obtain ⟨s1, s2, s3⟩ := hs z (List.mem_of_getElem? hz)
 obtain ⟨zk, za, zb, zc, zx, zi, zs, zt⟩ := z
 dsimp only at ta tb tc k0 k1 ka kb kbb kc s1 s2 s3 ⊢
 have XA := fun h => qdb (W := W) (b := b) (nv := nv) (fi := fi) hs hb ns.length za na ta zal (ka h)
 have LA := fun h => qbt hs hb ns.length za na ta (ka h)
 have h9 : zk = 20 ∨ zk = 21 ∨ zk = 22 ∨ zk = 23 ∨ zk = 24 ∨ zk = 25 ∨ zk = 26 ∨ zk = 27 ∨ zk = 28 := by omega
 rcases h9 with rfl | rfl | rfl | rfl | rfl | rfl | rfl | rfl | rfl
 · exact wst20 (E := txE ns ns.length) (B := txB ns f) (mb := 0) (mc := 0) zal s3 (XA zaq) (LA zaq) s1 s2 h
 · exact wst21 (E := txE ns ns.length) (B := txB ns f) (mb := 0) (mc := 0) zal s3 (XA zaq) (LA zaq) s1 s2 h
 · exact wst22 (E := txE ns ns.length) (B := txB ns f) (mc := 0) zal s3 (XA zaq) (LA zaq) (qdb hs hb ns.length zb nb tb zal (kb rfl)) (qbt hs hb ns.length zb nb tb (kb rfl)) h
 · exact wst23 (E := txE ns ns.length) (B := txB ns f) (mb := 0) (mc := 0) zal s3 (XA zaq) (LA zaq) h
 · by_cases e1 : zi = 1
   · have hE : stmZ (txE ns ns.length) (txB ns f) ⟨24, za, zb, zc, zx, zi, zs, zt⟩ = [105, 102, 32] ++ (txE ns ns.length za ++ (qas (txB ns f) zb ++ ([32, 101, 108, 115, 101] ++ qas (txB ns f) zc))) := by unfold stmZ; simp [e1]
     rw [hE]
     exact wst24b (E := txE ns ns.length) (B := txB ns f) zal s3 (XA zaq) (LA zaq) (ih zb nb tb zal zal (kbb (Or.inl rfl))) (qbC hs hb f zb nb tb (kbb (Or.inl rfl))) (ih zc nc tc zal zal kc) (qbC hs hb f zc nc tc kc) (by simpa using e1) h
   · have hE : stmZ (txE ns ns.length) (txB ns f) ⟨24, za, zb, zc, zx, zi, zs, zt⟩ = [105, 102, 32] ++ (txE ns ns.length za ++ (qas (txB ns f) zb)) := by unfold stmZ; simp [e1]
     rw [hE]
     exact wst24a (E := txE ns ns.length) (B := txB ns f) (mc := 0) zal s3 (XA zaq) (LA zaq) (ih zb nb tb zal zal (kbb (Or.inl rfl))) (qbC hs hb f zb nb tb (kbb (Or.inl rfl))) (by simpa using e1) h
 · exact wst25 (E := txE ns ns.length) (B := txB ns f) (mc := 0) zal s3 (XA zaq) (LA zaq) (ih zb nb tb zal zal (kbb (Or.inr (Or.inl rfl)))) (qbC hs hb f zb nb tb (kbb (Or.inr (Or.inl rfl)))) s1 s2 h
 · exact wst26 (E := txE ns ns.length) (B := txB ns f) (ma := 0) (mc := 0) zal s3 (ih zb nb tb zal zal (kbb (Or.inr (Or.inr rfl)))) (qbC hs hb f zb nb tb (kbb (Or.inr (Or.inr rfl)))) h
 · exact wst27 (E := txE ns ns.length) (B := txB ns f) (mb := 0) (mc := 0) zal s3 (XA zaq) (LA zaq) h
 · exact wst28 (E := txE ns ns.length) (B := txB ns f) (mb := 0) (mc := 0) zal s3 (XA zaq) (LA zaq) h
/-- where a block's loop stands -/
def BlkRel (W : World) (b : Nat) (nv : Value) (fi : Int) (ns : List Nd) (L : List Own) (T : List UInt8) (F : Nat) (n : Nat) (i : Value) (wr : World) : Prop := ∃ (f : Nat) (k : Int) (acc : List UInt8), i = .int .i64 k ∧ f ≤ F ∧ Tr ns k n ∧ n ≤ f ∧ SK ns k ∧ acc.length + 11000 * n ≤ 90000000 ∧ acc ++ txB ns f k = T ∧ Wr W b nv fi ns L acc wr
set_option maxHeartbeats 4000000 in
set_option maxRecDepth 20000 in
theorem wblock_any {W : World} {b : Nat} {nv : Value} {fi : Int} {ns : List Nd} (hs : Sz ns) (hb : ∀ (j : Nat) (z : Nd), ns[j]? = some z → nodeB ns j z = true) (hlen : ns.length ≤ 512) : ∀ (F : Nat) (i : Int) (n : Nat), Tr ns i n → n ≤ F → n ≤ ns.length → SK ns i → BlkC W b nv fi ns i (11000 * n) (txB ns F i) := by
 intro F
 induction F using Nat.strongRecOn with
 | ind F ih =>
  intro i n t hn hnl hk L acc w hl h
  have IH := Lib.hid ih
  have HS := Lib.hid hs
  have HB := Lib.hid hb
  have HN := Lib.hid hnl
  have H0 := Lib.hid (show BlkRel W b nv fi ns L (acc ++ txB ns F i) F n (.int .i64 i) w from ⟨F, i, acc, rfl, Nat.le_refl _, t, hn, hk, hl, rfl, h⟩)
  obtain ⟨T, hT⟩ : ∃ T, acc ++ txB ns F i = T := ⟨_, rfl⟩
  rw [hT] at H0 ⊢
  clear ih hs hb t hn hnl hk hl h hT hlen
  go_enter Tryz.func19, Tryz.ntmps19
  go_wp2_with fail
  go_loopg [1] n (fun g iv wr => ∃ gg : Nat, gg = g ∧ gg ≤ n ∧ BlkRel W b nv fi ns L T F gg iv wr)
  case atStart => exact ⟨n, rfl, Nat.le_refl _, H0.out⟩
  case round =>
   obtain ⟨g, rfl, hgn, f, k, acc', rfl, hfF, tk, hgf, hsk, hla, hT2, hw⟩ := hrel
   have HW := Lib.hid hw
   by_cases hk0 : k < 0
   · have hk1 : (0 ≤ k) = False := by simp; omega
     have e : acc' = T := by rw [txB_neg ns f hk0, List.append_nil] at hT2; exact hT2
     have HE := Lib.hid e
     clear e hT2 hw tk hsk hla hfF hgf hgn
     go_wp2_with fail
     (first | go_end0 | refine bodyPost_ret (results_none rfl _ _ _) rfl ?_)
     exact ⟨rfl, HW.out.congr HE.out⟩
   · obtain ⟨j, z, na, nb, nc, nx, rfl, hz, ta, tb, tc, tx, hge⟩ := qcj tk zal
     obtain ⟨f', rfl⟩ : ∃ f', f = f' + 1 := ⟨f - 1, by omega⟩
     obtain ⟨k0, k1, _, _, _, _, kx⟩ := qbj hz (HB.out j z hz) (hsk.resolve_left hk0)
     have hHN := HN.out
     have SC := Lib.hid (statement_of HS.out HB.out f' (fun i n ti hi hi2 hki => IH.out f' zal i n ti hi hi2 hki) hz (hsk.resolve_left hk0) ta tb tc zal zal zal HW.out)
     rw [txB_at hz] at hT2
     have hlen1 := qec (E := txE ns ns.length) (B := txB ns f') (na := na) (nb := nb) (nc := nc) (HS.out z (List.mem_of_getElem? hz)).1 (HS.out z (List.mem_of_getElem? hz)).2.1 (HS.out z (List.mem_of_getElem? hz)).2.2
      (fun h => qbt HS.out HB.out _ _ _ ta ((qbj hz (HB.out j z hz) (hsk.resolve_left hk0)).2.2.1 h)) (fun h => qbt HS.out HB.out _ _ _ tb ((qbj hz (HB.out j z hz) (hsk.resolve_left hk0)).2.2.2.1 h)) (fun h => qbC HS.out HB.out _ _ _ tb ((qbj hz (HB.out j z hz) (hsk.resolve_left hk0)).2.2.2.2.1 h)) (qbC HS.out HB.out _ _ _ tc (qbj hz (HB.out j z hz) (hsk.resolve_left hk0)).2.2.2.2.2.1)
     obtain ⟨tt, htt⟩ : ∃ tt, stmZ (txE ns ns.length) (txB ns f') z = tt := ⟨_, rfl⟩
     rw [htt] at hT2 SC hlen1
     obtain ⟨zk, za, zb, zc, zx, zi, zs, zt⟩ := z
     dsimp only at kx tx hT2
     obtain ⟨G, len, cap, rfl, hG, hj, lb, c0, a0, a1, a2, a3, a4, a5, a6, a7⟩ := HW.out.node hz
     dsimp only at a0 a1 a2 a3 a4 a5 a6 a7
     have HT := Lib.hid hT2
     have HL := Lib.hid (show acc'.length + tt.length + 11000 * nx + 500 ≤ 90000000 ∧ nx < g ∧ nx ≤ f' ∧ f' ≤ F by omega)
     have HG := Lib.hid hgn
     have HX := Lib.hid (And.intro tx kx)
     have HZ := Lib.hid hz
     have hj0 : 0 ≤ (j : Int) := by omega
     have hjn : (j : Int) < (len : Int) := by omega
     clear hT2 hgn hfF tk hgf hsk hla hw hk0 hz ta tb tc tx hge k0 k1 kx hHN hlen1 htt hj
     go_wp2_with ((go_at_call 37; (with_reducible refine SC.out.mono ?_); rintro e' w1 ⟨rfl, h1⟩; have H1 := Lib.hid h1; clear h1))
     go_at_call 38
     refine (say1 (H1.out.locNewAt _ _ zaq zbb) zap).mono ?_
     rintro e' h2w ⟨rfl, h2⟩
     have H2 := Lib.hid h2
     clear h2
     obtain ⟨G2, len2, cap2, hvv, hG2, hj2, lb2, c02, _, _, _, _, a42, _⟩ := H2.out.node HZ.out
     cases hvv
     dsimp only at a42
     clear hj2
     go_wp2_with fail
     go_roundg nx
     case measure => exact HL.out.2.1
     case rel => exact ⟨nx, rfl, by have := HL.out; have := HG.out; omega, f', zx, acc' ++ tt ++ [10], rfl, HL.out.2.2.2, HX.out.1, HL.out.2.2.1, HX.out.2, by have := HL.out; simp only [List.length_append, List.length_cons, List.length_nil]; omega, by rw [← HT.out]; simp only [List.append_assoc], H2.out⟩
end Go.Proofs.YtijmfpoanggjjaaGreatDoor

namespace Go.Proofs.YtijmfpoanggjjaaGreatDoor
open Go.RowKit
attribute [go_sem] more_more Array.size_append
theorem byte1 : Tryz.prog.cellsOf 5 = 1 := by kernel_rfl
set_option maxHeartbeats 2000000 in
set_option maxRecDepth 100000 in
theorem wstring_some {W : World} {b : Nat} {nv : Value} {fi : Int} {ns : List Nd} {L : List Own} {acc : List UInt8} {w : World} (h : Wr W b nv fi ns L acc w) (h0 : acc ≠ []) :
  Calls Tryz.prog 20 #[.pointer (some ⟨b, 2, none⟩)] w fun e w' => e = .returned (.string ⟨acc.toArray⟩) ∧ Below W.heap.size w w' := by
 obtain ⟨p, bv, h⟩ := h
 have hl0 : acc.length ≠ 0 := by simpa using h0
 have hown := h.buf
 have kb := h.kb
 obtain ⟨g, cap, cur, rfl, hbg, hg, hnc, hcm, hcs, htake⟩ : ∃ g cap cur, bv = .slice (some ⟨g, 0, none⟩) acc.length cap ∧ W.heap.size ≤ g ∧ w.heap[g]? = some (.cells cur 5 (0, 0)) ∧ acc.length ≤ cap ∧ cap ≤ maxLen ∧ cur.size = cap * 1 ∧ True := by
  rcases hown.2 with ⟨_, hz⟩ | ⟨g, cap, cur, hv, r⟩
  · exact absurd hz hl0
  · exact ⟨g, cap, cur, hv, r.1, r.2.1, r.2.2.1, r.2.2.2.1, r.2.2.2.2.1, trivial⟩
 have c1 : w.drew.cell? ⟨b, 3, none⟩ = some (.slice (some ⟨g, 0, none⟩) acc.length cap) := (kb.cell 3 _ rfl : w.cell? ⟨b, 3, none⟩ = _)
 have hSD : (Builtin.unsafeSliceData_ #[44] 75 #[.slice (some ⟨g, 0, none⟩) acc.length cap]).run Tryz.prog w.drew = .ok (.pointer (some ⟨g, 0, none⟩)) w.drew :=
  Lib.run_unsafeSliceData_row _ _ _ _ _ _ zal
 have hUS : (Builtin.unsafeString_ #[75, 3] 9 #[.pointer (some ⟨g, 0, none⟩), .int .i64 acc.length]).run Tryz.prog w.drew = .ok (.string ⟨acc.toArray⟩) (w.drew.freeze ⟨g, 0, none⟩ acc.length) := by
  refine Lib.run_unsafeString_row w.drew 75 3 9 5 Tryz.underlying75 byte1 g cur.size (by have hg' : w.drew.heap[g]? = some (.cells cur 5 (0, 0)) := hg; simp [World.shape?, hg']) acc h0 zal (by unfold maxLen at hcm; omega) ?_
  intro j x hx
  exact hown.cells (g := g) rfl j (.int .u8 x.toNat) (by simp [qax, hx])
 have lb := kb.lt
 clear hown kb hl0 hg hnc hcm hcs htake h0
 have mixed : Tryz.prog.follows .mixedOrders = true := by kernel_rfl
 go_enter Tryz.func20, Tryz.ntmps20
 go_wp2
 go_region_o
 all_goals (go_wp2; go_ret; exact ⟨rfl, Lib.below_freeze (Below.drew (Below.refl W.heap.size w)) (p := ⟨g, 0, none⟩) hbg _⟩)
set_option maxHeartbeats 2000000 in
set_option maxRecDepth 100000 in
theorem wstring_none {W : World} {b : Nat} {nv : Value} {fi : Int} {ns : List Nd} {L : List Own} {w : World} (h : Wr W b nv fi ns L [] w) :
  Calls Tryz.prog 20 #[.pointer (some ⟨b, 2, none⟩)] w fun e w' => e = .returned (.string ⟨#[]⟩) ∧ Below W.heap.size w w' := by
 obtain ⟨p, bv, h⟩ := h
 have hz := h.zero rfl
 subst hz
 have kb := h.kb
 have c1 : w.drew.cell? ⟨b, 3, none⟩ = some (.slice none 0 0) := (kb.cell 3 _ rfl : w.cell? ⟨b, 3, none⟩ = _)
 have hSD : (Builtin.unsafeSliceData_ #[44] 75 #[.slice none 0 0]).run Tryz.prog w.drew = .ok (.pointer none) w.drew := rfl
 have hUS : ∀ (w : World) (q : Option Addr), (Builtin.unsafeString_ #[75, 3] 9 #[.pointer q, .int .i64 0]).run Tryz.prog w = .ok (.string .empty) w := fun w q => Lib.run_unsafeString_none w _ _ _ q
 have lb := kb.lt
 clear kb h
 have mixed : Tryz.prog.follows .mixedOrders = true := by kernel_rfl
 go_enter Tryz.func20, Tryz.ntmps20
 go_wp2
 go_region_o
 all_goals (go_wp2; go_ret; exact ⟨rfl, Below.drew (Below.refl W.heap.size w)⟩)
theorem qcY {W : World} {b : Nat} {nv : Value} {fi : Int} {ns : List Nd} {L : List Own} {acc : List UInt8} {w : World} (h : Wr W b nv fi ns L acc w) :
  Calls Tryz.prog 20 #[.pointer (some ⟨b, 2, none⟩)] w fun e w' => e = .returned (.string ⟨acc.toArray⟩) ∧ Below W.heap.size w w' := by
 by_cases h0 : acc = []
 · subst h0; exact wstring_none h
 · exact wstring_some h h0
theorem Wr.start {W : World} {nv : Value} {fi : Int} {ns : List Nd} (hr : W.ownsRow 0 34 8 nv ns.length (qac ns)) (hP : Pow10 W.heap.size W) :
  Wr W W.heap.size nv fi ns [] [] (W.alloc (.cells #[nv, .int .i64 fi, .pointer none, .slice none 0 0] 48 (0, 0))) :=
 ⟨_, _, (Ext.refl W).alloc _, KB.new _ _ _, Or.inl rfl, own_ext hr ((Ext.refl W).alloc _), World.ownsRow_nil _ _ _ _, ⟨Nat.le_refl _, fun g q => (hr.lt g q).2⟩, fun _ => rfl, (fun q hq => by cases hq), hP⟩
/-- what Source hands back -/
def srcF (ns : List Nd) (fi : Int) : List UInt8 × Int := if mayB ns fi = true then (txB ns ns.length fi, 0) else ([], 1)
def exF (ns : List Nd) (fi i : Int) : List UInt8 × Int := if mayB ns fi = true then (if 0 ≤ i ∧ i < ns.length ∧ qaD ns i < 20 then (txE ns ns.length i, 0) else ([], 4)) else ([], 1)
theorem wend {W w w2 w' : World} {b : Nat} {nv : Value} {fi : Int} {ns : List Nd} {L : List Own} {acc : List UInt8} (hx : Ext w W) (h : Wr W b nv fi ns L acc w2) (hb : Below W.heap.size w2 w') : Ext w w' := by
 obtain ⟨p, bv, h⟩ := h
 exact hx.trans (Ext.of_below (h.ext.below.trans hb))
theorem Pow10.ext {B : Nat} {w w' : World} (h : Pow10 w.heap.size w) (hx : Ext w w') : Pow10 w'.heap.size w' := by
 obtain ⟨⟨g, hg, hlt⟩, h2⟩ := h.below hx.below (Nat.le_refl _)
 exact ⟨⟨g, hg, Nat.lt_of_lt_of_le hlt hx.size⟩, h2⟩
set_option maxHeartbeats 4000000 in
set_option maxRecDepth 20000 in
theorem qbG {ns : List Nd} {nv : Value} {n base : Nat} (fi : Int) (w : World) (hr : w.ownsRow base 34 8 nv n (qac ns)) (hl : ns.length = n) (hs : Sz ns) (hP : Pow10 w.heap.size w) :
  Calls Tryz.prog 7 #[.agg #[nv, .int .i64 fi]] w fun e w' => e = .returned (.tuple #[.string ⟨(srcF ns fi).1.toArray⟩, .int .i64 (srcF ns fi).2]) ∧ Ext w w' := by
 subst hl
 have hz : ∀ z ∈ ns, z.s.size ≤ maxLen := fun z hz => by have := (hs z hz).1; unfold maxLen; omega
 have hr0 := hr.mono (Nat.zero_le _)
 have M := Lib.hid (fun W' (hx : Ext w W') => qcK fi W' (own_ext hr hx) rfl hz)
 obtain ⟨pv, pc, rfl⟩ := qau hr
 by_cases hm : mayB ns fi = true
 · have hrr : srcF ns fi = (txB ns ns.length fi, 0) := by unfold srcF; rw [if_pos hm]
   rw [hrr]
   obtain ⟨m, hm1, ht⟩ := qcW hm
   obtain ⟨c1, c2, c3, _⟩ := qbk hm
   have HR := Lib.hid (fun W' (hx : Ext w W') => Wr.start (fi := fi) (own_ext hr0 hx) (Pow10.ext (B := 0) hP hx))
   have BC := Lib.hid (fun (W : World) (b : Nat) (L : List Own) (acc : List UInt8) (w : World) h1 h2 => wblock_any (W := W) (b := b) (nv := .slice pv ns.length pc) (fi := fi) hs c2 c1 ns.length fi m ht hm1 hm1 (qdG c3) L acc w h1 h2)
   have HM := Lib.hid (show ([] : List UInt8).length + 11000 * m ≤ 90000000 by simp only [List.length_nil]; omega)
   rw [hm] at M
   clear hr hr0 hrr hs hz hm ht hm1 c1 c2 c3 hP
   go_enter Tryz.func7, Tryz.ntmps7
   go_wp2_with (first
    | (go_at_call 13; (with_reducible refine (M.out _ zac).mono ?_); rintro e' W1 ⟨rfl, hx⟩; have HX := Lib.hid hx; have KP := Lib.hid (KB.of_ext (KB.new w #[.slice pv ns.length pc, .int .i64 fi] 24) hx); have xp0 := KP.out.cell 0 _ rfl; have xp1 := KP.out.cell 1 _ rfl; have lp := KP.out.lt; clear hx)
    | (go_at_call 19; (with_reducible refine (BC.out W1 W1.heap.size [] [] _ HM.out (HR.out W1 (((Ext.refl w).alloc _).trans HX.out))).mono ?_); rintro e' w2 ⟨rfl, h2⟩; have H2 := Lib.hid h2; have lb2 := h2.lt.1; clear h2)
    | (go_at_call 20; (with_reducible refine (qcY H2.out).mono ?_); rintro e' w3 ⟨rfl, h3⟩; have H3 := Lib.hid h3; clear h3))
   go_ret2
   exact ⟨rfl, wend (((Ext.refl w).alloc _).trans HX.out) H2.out H3.out⟩
 · have hm0 : mayB ns fi = false := by simpa using hm
   have hrr : srcF ns fi = ([], 1) := by unfold srcF; rw [hm0]; rfl
   rw [hrr]
   rw [hm0] at M
   clear hr hr0 hrr hs hz hm hm0 hP
   go_enter Tryz.func7, Tryz.ntmps7
   go_wp2_with (go_at_call 13; (with_reducible refine (M.out _ zac).mono ?_); rintro e' W1 ⟨rfl, hx⟩; have HX := Lib.hid hx; have KP := Lib.hid (KB.of_ext (KB.new w #[.slice pv ns.length pc, .int .i64 fi] 24) hx); have xp0 := KP.out.cell 0 _ rfl; have xp1 := KP.out.cell 1 _ rfl; have lp := KP.out.lt; clear hx)
   go_ret2
   exact ⟨rfl, ((Ext.refl w).alloc _).trans HX.out⟩
/-- an expr's text: refused, where the program may not be -/
theorem pexpr_no {ns : List Nd} {nv : Value} {n base : Nat} (fi : Int) (i : Int) (w : World) (hr : w.ownsRow base 34 8 nv n (qac ns)) (hl : ns.length = n) (hs : Sz ns) (hm : mayB ns fi = false) :
  Calls Tryz.prog 8 #[.agg #[nv, .int .i64 fi], .int .i64 i] w fun e w' => e = .returned (.tuple #[.string ⟨(exF ns fi i).1.toArray⟩, .int .i64 (exF ns fi i).2]) ∧ Ext w w' := by
 subst hl
 have hz : ∀ z ∈ ns, z.s.size ≤ maxLen := fun z hz => by have := (hs z hz).1; unfold maxLen; omega
 have hr0 := hr.mono (Nat.zero_le _)
 have M := Lib.hid (fun W' (hx : Ext w W') => qcK fi W' (own_ext hr hx) rfl hz)
 obtain ⟨pv, pc, rfl⟩ := qau hr
 have hrr : exF ns fi i = ([], 1) := by unfold exF; rw [hm]; rfl
 rw [hrr]
 rw [hm] at M
 clear hr hr0 hrr hs hz hm
 go_enter Tryz.func8, Tryz.ntmps8
 go_wp2_with (go_at_call 13; (with_reducible refine (M.out _ zac).mono ?_); rintro e' W1 ⟨rfl, hx⟩; have HX := Lib.hid hx; have KP := Lib.hid (KB.of_ext (KB.new w #[.slice pv ns.length pc, .int .i64 fi] 24) hx); have xp0 := KP.out.cell 0 _ rfl; have xp1 := KP.out.cell 1 _ rfl; have lp := KP.out.lt; clear hx)
 go_ret2
 exact ⟨rfl, ((Ext.refl w).alloc _).trans HX.out⟩
/-- .. where the place is none of it -/
theorem pexpr_out {ns : List Nd} {nv : Value} {n base : Nat} (fi : Int) (i : Int) (w : World) (hr : w.ownsRow base 34 8 nv n (qac ns)) (hl : ns.length = n) (hs : Sz ns) (hm : mayB ns fi = true) (hi : i < 0 ∨ (n : Int) ≤ i) :
  Calls Tryz.prog 8 #[.agg #[nv, .int .i64 fi], .int .i64 i] w fun e w' => e = .returned (.tuple #[.string ⟨(exF ns fi i).1.toArray⟩, .int .i64 (exF ns fi i).2]) ∧ Ext w w' := by
 subst hl
 have hz : ∀ z ∈ ns, z.s.size ≤ maxLen := fun z hz => by have := (hs z hz).1; unfold maxLen; omega
 have hr0 := hr.mono (Nat.zero_le _)
 have M := Lib.hid (fun W' (hx : Ext w W') => qcK fi W' (own_ext hr hx) rfl hz)
 obtain ⟨pv, pc, rfl⟩ := qau hr
 have hrr : exF ns fi i = ([], 4) := by unfold exF; rw [if_pos hm, if_neg zal]
 rw [hrr]
 rw [hm] at M
 clear hr hr0 hrr hs hz hm
 rcases hi with hi | hi
 · go_enter Tryz.func8, Tryz.ntmps8
   go_wp2_with (go_at_call 13; (with_reducible refine (M.out _ zac).mono ?_); rintro e' W1 ⟨rfl, hx⟩; have HX := Lib.hid hx; have KP := Lib.hid (KB.of_ext (KB.new w #[.slice pv ns.length pc, .int .i64 fi] 24) hx); have xp0 := KP.out.cell 0 _ rfl; have xp1 := KP.out.cell 1 _ rfl; have lp := KP.out.lt; clear hx)
   go_ret2
   exact ⟨rfl, ((Ext.refl w).alloc _).trans HX.out⟩
 · have hi0 : (i < 0) = False := by simp; omega
   go_enter Tryz.func8, Tryz.ntmps8
   go_wp2_with (go_at_call 13; (with_reducible refine (M.out _ zac).mono ?_); rintro e' W1 ⟨rfl, hx⟩; have HX := Lib.hid hx; have KP := Lib.hid (KB.of_ext (KB.new w #[.slice pv ns.length pc, .int .i64 fi] 24) hx); have xp0 := KP.out.cell 0 _ rfl; have xp1 := KP.out.cell 1 _ rfl; have lp := KP.out.lt; clear hx)
   go_ret2
   exact ⟨rfl, ((Ext.refl w).alloc _).trans HX.out⟩
/-- .. of a place that is a statement's, and of one that is an expr's -/
theorem pexpr_in {ns : List Nd} {nv : Value} {n base : Nat} (fi : Int) (j : Nat) (w : World) (hr : w.ownsRow base 34 8 nv n (qac ns)) (hl : ns.length = n) (hs : Sz ns) (hP : Pow10 w.heap.size w) (hm : mayB ns fi = true) (hj : j < n) :
  Calls Tryz.prog 8 #[.agg #[nv, .int .i64 fi], .int .i64 (j : Int)] w fun e w' => e = .returned (.tuple #[.string ⟨(exF ns fi j).1.toArray⟩, .int .i64 (exF ns fi j).2]) ∧ Ext w w' := by
 subst hl
 have hz : ∀ z ∈ ns, z.s.size ≤ maxLen := fun z hz => by have := (hs z hz).1; unfold maxLen; omega
 have hr0 := hr.mono (Nat.zero_le _)
 have M := Lib.hid (fun W' (hx : Ext w W') => qcK fi W' (own_ext hr hx) rfl hz)
 obtain ⟨pv, pc, rfl⟩ := qau hr
 obtain ⟨z, hzj⟩ : ∃ z, ns[j]? = some z := ⟨ns[j]'hj, List.getElem?_eq_getElem hj⟩
 have hkz : qaD ns (j : Int) = z.k := by unfold qaD; rw [Int.toNat_natCast, hzj]
 obtain ⟨G, rfl⟩ : ∃ G, pv = some ⟨G, 0, none⟩ := by
  rcases Go.Joins.ownsRow_forms hr with ⟨h1, h0⟩ | ⟨g1, c1, h0⟩
  · omega
  · simp only [Value.slice.injEq] at h0; exact ⟨g1, h0.1⟩
 have NA := Lib.hid (fun W' (hx : Ext w W') => (nd_at (own_ext hr hx) hzj).1)
 have hG := (hr.lt G rfl).2
 have HG := Lib.hid (fun W' (hx : Ext w W') => Nat.lt_of_lt_of_le hG hx.size)
 have hj0 : (0 : Int) ≤ (j : Int) := by omega
 have hj0' : ((j : Int) < 0) = False := by simp
 have hjn : (j : Int) < (ns.length : Int) := by omega
 obtain ⟨zk, hzk⟩ : ∃ zk, z.k = zk := ⟨_, rfl⟩
 rw [hzk] at NA hkz
 by_cases hk : 20 ≤ zk
 · have hrr : exF ns fi j = ([], 4) := by unfold exF; rw [if_pos hm, if_neg (by rw [hkz]; omega)]
   rw [hrr]
   rw [hm] at M
   clear hr hr0 hrr hs hz hm hzj hkz hzk hj hP hG
   go_enter Tryz.func8, Tryz.ntmps8
   go_wp2_with ((go_at_call 13; (with_reducible refine (M.out _ zac).mono ?_); rintro e' W1 ⟨rfl, hx⟩; have HX := Lib.hid hx; have KP := Lib.hid (KB.of_ext (KB.new w #[.slice (some ⟨G, 0, none⟩) ns.length pc, .int .i64 fi] 24) hx); have xp0 := KP.out.cell 0 _ rfl; have xp1 := KP.out.cell 1 _ rfl; have lp := KP.out.lt; clear hx); have xk := NA.out W1 (((Ext.refl w).alloc _).trans HX.out); have lg := HG.out W1 (((Ext.refl w).alloc _).trans HX.out))
   go_ret2
   exact ⟨rfl, ((Ext.refl w).alloc _).trans HX.out⟩
 · have hrr : exF ns fi j = (txE ns ns.length j, 0) := by unfold exF; rw [if_pos hm, if_pos (by rw [hkz]; omega)]
   rw [hrr]
   have hek : EK ns (j : Int) := ⟨by omega, by rw [hkz]; omega⟩
   obtain ⟨m, hm1, ht⟩ := tr_at hm hj hek.2
   obtain ⟨c1, c2, c3, _⟩ := qbk hm
   have HR := Lib.hid (fun W' (hx : Ext w W') => Wr.start (fi := fi) (own_ext hr0 hx) (Pow10.ext (B := 0) hP hx))
   have BC := Lib.hid (fun (W : World) (b : Nat) (L : List Own) (acc : List UInt8) (w : World) h1 h2 => qdb (W := W) (b := b) (nv := .slice (some ⟨G, 0, none⟩) ns.length pc) (fi := fi) hs c2 ns.length j m ht hm1 hek L acc w h1 h2)
   have HM := Lib.hid (show ([] : List UInt8).length + 11000 * m ≤ 90000000 by simp only [List.length_nil]; omega)
   rw [hm] at M
   have hk2 : (20 ≤ zk) = False := by simpa using hk
   clear hr hr0 hrr hs hz hm ht hm1 c1 c2 c3 hP hzj hkz hzk hj hG hek hk
   go_enter Tryz.func8, Tryz.ntmps8
   go_wp2_with (first
    | ((go_at_call 13; (with_reducible refine (M.out _ zac).mono ?_); rintro e' W1 ⟨rfl, hx⟩; have HX := Lib.hid hx; have KP := Lib.hid (KB.of_ext (KB.new w #[.slice (some ⟨G, 0, none⟩) ns.length pc, .int .i64 fi] 24) hx); have xp0 := KP.out.cell 0 _ rfl; have xp1 := KP.out.cell 1 _ rfl; have lp := KP.out.lt; clear hx); have xk := NA.out W1 (((Ext.refl w).alloc _).trans HX.out); have lg := HG.out W1 (((Ext.refl w).alloc _).trans HX.out))
    | (go_at_call 21; (with_reducible refine (BC.out W1 W1.heap.size [] [] _ HM.out (HR.out W1 (((Ext.refl w).alloc _).trans HX.out))).mono ?_); rintro e' w2 ⟨rfl, h2⟩; have H2 := Lib.hid h2; have lb2 := h2.lt.1; clear h2)
    | (go_at_call 20; (with_reducible refine (qcY H2.out).mono ?_); rintro e' w3 ⟨rfl, h3⟩; have H3 := Lib.hid h3; clear h3))
   go_ret2
   exact ⟨rfl, wend (((Ext.refl w).alloc _).trans HX.out) H2.out H3.out⟩
theorem qbV {ns : List Nd} {nv : Value} {n base : Nat} (fi : Int) (i : Int) (w : World) (hr : w.ownsRow base 34 8 nv n (qac ns)) (hl : ns.length = n) (hs : Sz ns) (hP : Pow10 w.heap.size w) :
  Calls Tryz.prog 8 #[.agg #[nv, .int .i64 fi], .int .i64 i] w fun e w' => e = .returned (.tuple #[.string ⟨(exF ns fi i).1.toArray⟩, .int .i64 (exF ns fi i).2]) ∧ Ext w w' := by
 by_cases hm : mayB ns fi = true
 · by_cases hi : i < 0 ∨ (n : Int) ≤ i
   · exact pexpr_out fi i w hr hl hs hm hi
   · obtain ⟨j, rfl⟩ : ∃ j : Nat, i = (j : Int) := ⟨i.toNat, by omega⟩
     exact pexpr_in fi j w hr hl hs hP hm zal
 · exact pexpr_no fi i w hr hl hs (by simpa using hm)
end Go.Proofs.YtijmfpoanggjjaaGreatDoor
