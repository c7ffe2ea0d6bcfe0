/- Lemmas for the claim (texts Sc5, Sc8s, what its proof uses of them). -/
import Derived.Test.YtpnabjopfpdkhaaGreatDoorB11
import Derived.Defers
import Derived.RegionTactic
set_option linter.unusedSimpArgs false
set_option linter.unusedVariables false
namespace Go.Proofs.YtpnabjopfpdkhaaGreatDoor
open Go.RowKit
attribute [go_sem] more_more Array.size_append
theorem own_take {w : World} {base : Nat} {e : TypeId} {size : Nat} {p : Option Addr} {n c : Nat} {xs : List Value} (h : w.ownsRow base e size (.slice p n c) n xs) {m : Nat} (hm : m ≤ n) : w.ownsRow base e size (.slice p m c) m (xs.take (m * size)) := by
 obtain ⟨h1, h2⟩ := h
 have hle : m * size ≤ n * size := Nat.mul_le_mul_right _ hm
 refine ⟨by rw [List.length_take, h1]; omega, ?_⟩
 rcases h2 with ⟨h2, h3⟩ | ⟨g, cap, cur, h2, hb, hg, hn, hx, hc, ht⟩
 · simp only [Value.slice.injEq] at h2
   obtain ⟨rfl, _, rfl⟩ := h2
   obtain rfl : m = 0 := by omega
   exact Or.inl ⟨rfl, rfl⟩
 · simp only [Value.slice.injEq] at h2
   obtain ⟨rfl, _, rfl⟩ := h2
   exact Or.inr ⟨g, c, cur, rfl, hb, hg, by omega, hx, hc, by rw [← ht, List.take_take, Nat.min_eq_left hle]⟩
/-- what is seen is cut -/
theorem WkV.cutSeen {W : World} {b : Nat} {nv : Value} {fi : Int} {ns : List Nd} {L : List (Nat × Obj)} {S : Sc} {w : World} {tv mv fv : Value} {p : Option Addr} {n c : Nat} (h : WkV W b nv fi ns L S (.slice p n c) tv mv fv w) (hn : S.seen.length = n) (m : Nat) (hm : m ≤ n) :
  WkV W b nv fi ns L { S with seen := S.seen.take m } (.slice p m c) tv mv fv (w.setCell ⟨b, 2, none⟩ (.slice p m c)) := by
 have hA := h.apart
 have ho : (Value.slice p m c).ownBlock = (Value.slice p n c).ownBlock := by cases p <;> rfl
 have hk : ∀ (x : Value) (k : Nat), (∀ g, x.ownBlock = some g → g ≠ b) → x.ownBlock = some k → (w.setCell ⟨b, 2, none⟩ (.slice p m c)).heap[k]? = w.heap[k]? := fun x k hx hk => heap_set_other _ _ _ _ _ (hx k hk)
 have hs := h.seen
 rw [hn] at hs
 have hs2 := own_take hs hm
 rw [Nat.mul_one] at hs2
 have et : (strV S.seen).take m = strV (S.seen.take m) := by unfold strV; rw [List.map_take]
 have el : (S.seen.take m).length = m := by rw [List.length_take]; omega
 rw [et] at hs2
 refine ⟨h.ext.setCell h.base.1 _, KB.setAt (show KB b _ _ w from h.cell) 2 (.slice p m c) zal, qad h.row fun k q _ => hk nv k (fun g q => by have := h.base.2 g q; have := h.base.1; omega) q, ?_, ?_, ?_, ?_, h.base, fun g => by rw [ho]; exact hA g, fun q hq => ⟨(heap_set_other _ _ _ _ _ (h.loc q hq).2.1).trans (h.loc q hq).1, by rw [ho]; exact (h.loc q hq).2⟩⟩
 · dsimp only; rw [el]; exact qad hs2 fun k q _ => hk _ k (fun g q => by rw [ho] at q; exact ((hA g).1 q).1) q
 · exact qad h.slots fun k q _ => hk tv k (fun g q => ((hA g).2.1 q).1) q
 · exact qad h.made fun k q _ => hk mv k (fun g q => ((hA g).2.2.1 q).1) q
 · exact qad h.free fun k q _ => hk fv k (fun g q => (hA g).2.2.2 q) q
set_option maxHeartbeats 2000000 in
set_option maxRecDepth 20000 in
theorem cut_d {W : World} {b : Nat} {nv : Value} {fi : Int} {ns : List Nd} {L : List (Nat × Obj)} {S : Sc} {w : World} (h : Wk W b nv fi ns L S w) {k1 k2 m : Nat} {T1 T2 : TypeId} (h1 : KB k1 #[.pointer (some ⟨b, 0, none⟩)] T1 w) (h2 : KB k2 #[.int .i64 (m : Int)] T2 w) (hm : m ≤ S.seen.length) (u : FrameMode) :
  CallsD Tryz.prog 173 #[.pointer (some ⟨k1, 0, none⟩), .pointer (some ⟨k2, 0, none⟩)] u w fun e u' w' => u' = u ∧ (e = .returned (.tuple #[]) ∧ Wk W b nv fi ns L { S with seen := S.seen.take m } w') := by
 obtain ⟨sv, tv, mv, fv, h⟩ := h
 obtain ⟨n, hn⟩ : ∃ n, S.seen.length = n := ⟨_, rfl⟩
 obtain ⟨p, c, hv⟩ := qag h.seen
 rw [hn] at hv hm
 subst hv
 have hnc : n ≤ c := by
  have hs := h.seen
  rw [hn] at hs
  rcases hs.2 with ⟨e, e0⟩ | ⟨g, cap, cur, e, _, _, e1, _⟩
  · omega
  · simp only [Value.slice.injEq] at e; omega
 have H := Lib.hid h
 have HN := Lib.hid hn
 have HM := Lib.hid hm
 have kb : KB b _ _ w := h.cell
 have x2 := kb.cell 2 _ rfl
 have f2 := kb.frozen 2
 have lb := kb.lt
 have c1 := h1.cell 0 _ rfl
 have c2 := h2.cell 0 _ rfl
 have hm0 : 0 ≤ (m : Int) := by omega
 have hmc : (m : Int) ≤ (c : Int) := by omega
 have hmn : m ≤ c := by omega
 clear kb h h1 h2 hn hm hnc
 go_enter_d Tryz.func173, Tryz.ntmps173
 go_region
 all_goals
  go_end0
  exact ⟨rfl, _, _, _, _, (H.out.cutSeen HN.out m HM.out).of_ext ((Ext.refl _).drew)⟩
def NamesAt (L : List (Nat × Obj)) (v : Value) (l : List ByteArray) : Prop := (l = [] ∧ v = .slice none 0 0) ∨ ∃ g, l.length ≤ 2000 ∧ v = .slice (some ⟨g, 0, none⟩) l.length l.length ∧ (g, Obj.cells (strV l).toArray 9 (0, 0)) ∈ L
def BlockC (W : World) (b : Nat) (nv : Value) (fi : Int) (ns : List Nd) (f : Nat) : Prop := ∀ (L : List (Nat × Obj)) (S R : Sc) (w : World) (first i : Int) (names : List ByteArray) (v : Value), NamesAt L v names → qba (blkS ns f) first i names S = some R → Wk W b nv fi ns L S w →
  Calls Tryz.prog 135 #[.pointer (some ⟨b, 0, none⟩), .int .i64 first, .int .i64 i, v] w fun r w' => r = .returned (.tuple #[]) ∧ Wk W b nv fi ns L R w'
def StmC (W : World) (b : Nat) (nv : Value) (fi : Int) (ns : List Nd) (f : Nat) : Prop := ∀ (L : List (Nat × Obj)) (S R : Sc) (w : World) (j : Nat) (z : Nd), ns[j]? = some z → stmS (exprS ns f) (blkS ns f) j z S = some R → Wk W b nv fi ns L S w →
  Calls Tryz.prog 175 #[.pointer (some ⟨b, 0, none⟩), .int .i64 (j : Int)] w fun r w' => r = .returned (.tuple #[]) ∧ Wk W b nv fi ns L R w'
theorem seesO_cons {i : Int} {s : ByteArray} {l : List ByteArray} {S R : Sc} (h : seesO i (s :: l) S = some R) : ∃ S1, S.seeO s i = some S1 ∧ seesO i l S1 = some R := qac h
theorem Wk.seen_le {W : World} {b : Nat} {nv : Value} {fi : Int} {ns : List Nd} {L : List (Nat × Obj)} {S : Sc} {w : World} (h : Wk W b nv fi ns L S w) : ∃ p n c, S.seen.length = n ∧ n ≤ maxLen ∧ w.cell? ⟨b, 2, none⟩ = some (.slice p n c) ∧ b < w.heap.size := by
 obtain ⟨sv, tv, mv, fv, h⟩ := h
 obtain ⟨p, c, hv⟩ := qag h.seen
 have kb : KB b _ _ w := h.cell
 refine ⟨p, S.seen.length, c, rfl, ?_, by have := kb.cell 2 _ rfl; rw [hv] at this; exact this, kb.lt⟩
 rcases h.seen.2 with ⟨e, e0⟩ | ⟨g, cap, cur, e, _, _, e1, e2, _⟩
 · omega
 · omega
theorem blkS_pos {ns : List Nd} {f : Nat} {i : Int} {S R : Sc} (h : 0 ≤ i) (hR : blkS ns f i S = some R) : ∃ g j z S1, f = g + 1 ∧ i = ((j : Nat) : Int) ∧ ns[j]? = some z ∧ stmS (exprS ns g) (blkS ns g) j z S = some S1 ∧ blkS ns g z.x S1 = some R := by
 cases f with
 | zero => unfold blkS at hR; rw [if_neg zae] at hR; cases hR
 | succ g =>
  unfold blkS at hR
  rw [if_neg zae] at hR
  obtain ⟨j, rfl⟩ : ∃ j : Nat, i = (j : Int) := ⟨i.toNat, by omega⟩
  rw [Int.toNat_natCast] at hR
  split at hR
  · cases hR
  · rename_i z hz
    obtain ⟨S1, h1, hR⟩ := qac hR
    exact ⟨g, j, z, S1, rfl, rfl, hz, h1, hR⟩
set_option maxHeartbeats 8000000 in
set_option maxRecDepth 20000 in
theorem block_of {W : World} {b : Nat} {nv : Value} {fi : Int} {ns : List Nd} (f : Nat) (hS : ∀ g, g < f → StmC W b nv fi ns g) : BlockC W b nv fi ns f := by
 intro L S R w first i names v hv hR h
 unfold qba at hR
 obtain ⟨S1, hR1, hR⟩ := qac hR
 obtain ⟨S2, hR2, hR⟩ := qac hR
 split at hR
 rotate_left
 · cases hR
 rename_i hle
 have hRR := Option.some.inj hR
 obtain ⟨p, n, c, hn, hnm, x2, lb⟩ := h.seen_le
 have hn0 : (n : Int) ≤ 9223372036854775807 := by unfold maxLen at hnm; omega
 have HN := Lib.hid hn
 have HLE := Lib.hid hle
 have HRR := Lib.hid hRR
 have HR1 := Lib.hid hR1
 have HR2 := Lib.hid hR2
 have HSS := Lib.hid hS
 have H0 := Lib.hid ((h.locNew (.cells #[.pointer (some ⟨b, 0, none⟩)] 196 (0, 0))).locNew (.cells #[.int .i64 (n : Int)] 3 (0, 0)))
 rw [World.size_alloc] at H0
 have HV := Lib.hid hv
 obtain ⟨vp, vn, vc, hvf, hvn, hv2⟩ : ∃ vp vn vc, v = .slice vp vn vc ∧ names.length = vn ∧ (vn : Int) ≤ 2000 := by
  rcases hv with ⟨rfl, rfl⟩ | ⟨g, _, rfl, _⟩
  · exact ⟨_, _, _, rfl, rfl, by simp⟩
  · exact ⟨_, _, _, rfl, rfl, by omega⟩
 subst hvf
 have HVN := Lib.hid hvn
 have hmf : ∀ (fn : Fn) (first cap : Array Value) (w : World), (Instr.makeFunc fn first cap).run Tryz.prog w = .ok (.func fn first cap) w := fun _ _ _ _ => rfl
 clear hS hR hle hRR hR1 hR2 h hn hnm hv hvn
 go_enter_defers Tryz.func135, Tryz.ntmps135
 go_wp2_with fail
 obtain ⟨LL, hLL⟩ : ∃ LL, (w.heap.size + 1, Obj.cells #[.int .i64 (n : Int)] 3 (0, 0)) :: (w.heap.size, Obj.cells #[.pointer (some ⟨b, 0, none⟩)] 196 (0, 0)) :: L = LL := ⟨_, rfl⟩
 rw [hLL] at H0
 have M1 : (w.heap.size, Obj.cells #[.pointer (some ⟨b, 0, none⟩)] 196 (0, 0)) ∈ LL := by rw [← hLL]; simp
 have M2 : (w.heap.size + 1, Obj.cells #[.int .i64 (n : Int)] 3 (0, 0)) ∈ LL := by rw [← hLL]; simp
 have M3 := Lib.hid (fun q (hq : q ∈ L) => show q ∈ LL from by rw [← hLL]; simp [hq])
 have HOUT := Lib.hid (fun S w (h : Wk W b nv fi ns LL S w) => show Wk W b nv fi ns L S w from by rw [← hLL] at h; exact h.locOut.locOut)
 have HM1 := Lib.hid M1
 have HM2 := Lib.hid M2
 clear hLL M1 M2
 generalize hk1 : w.heap.size = k1 at *
 generalize hW0 : (w.alloc (.cells #[.pointer (some ⟨b, 0, none⟩)] 196 (0, 0))).alloc (.cells #[.int .i64 (n : Int)] 3 (0, 0)) = W0 at *
 clear hk1 hW0 x2
 go_loopw [20] (fun y wr => ∃ k : Nat, y = .int .i64 (k : Int) ∧ k ≤ vn ∧ ∃ Sk, seesO i (names.drop k) Sk = some S1 ∧ Wk W b nv fi ns LL Sk wr) (fun y _ => vn - (intOf y).toNat)
 case atStart => exact ⟨0, rfl, Nat.zero_le _, S, HR1.out, H0.out⟩
 case round =>
  obtain ⟨k, rfl, hk, Sk, hsk, hwk⟩ := hrel
  have HK := Lib.hid hwk
  have HSK := Lib.hid hsk
  have KP := Lib.hid (hwk.locAt HM1.out)
  have kc := KP.out.cell 0 _ rfl
  have kl := KP.out.lt
  have hk0 : 0 ≤ (k : Int) := by omega
  clear hwk hsk
  by_cases hlt : k < vn
  · have hkn : (k : Int) < (vn : Int) := by omega
    have hv2 : ∃ g, vp = some ⟨g, 0, none⟩ ∧ (g, Obj.cells (strV names).toArray 9 (0, 0)) ∈ L := by
     rcases HV.out with ⟨e, _⟩ | ⟨g, _, e, hm⟩
     · have := HVN.out; rw [e] at this; simp at this; omega
     · simp only [Value.slice.injEq] at e; exact ⟨g, e.1, hm⟩
    obtain ⟨g, rfl, hgm⟩ := hv2
    have KN := Lib.hid (HK.out.locAt (M3.out _ hgm))
    have hnk : k < names.length := by have := HVN.out; omega
    obtain ⟨s, hs⟩ : ∃ s, names.getD k ByteArray.empty = s := ⟨_, rfl⟩
    have nc := KN.out.cell k (.string s) (by rw [← hs, List.getElem?_toArray]; exact qdO names k hnk)
    have nl := KN.out.lt
    have hdr : names.drop k = s :: names.drop (k + 1) := by rw [List.drop_eq_getElem_cons hnk, ← hs, List.getD_eq_getElem?_getD, List.getElem?_eq_getElem hnk]; rfl
    obtain ⟨S3, h3, h4⟩ := seesO_cons (by have := HSK.out; rw [hdr] at this; exact this)
    have SE := Lib.hid (seeO_any HK.out s i h3)
    have H4 := Lib.hid h4
    have HLT := Lib.hid hlt
    clear hs hdr h3 h4 hlt hgm hnk
    go_wp2_with (go_at_call 174; (with_reducible refine SE.out.mono ?_); rintro e' w2 ⟨rfl, h2⟩; have H2 := Lib.hid h2; clear h2)
    go_roundw
    case rel => exact ⟨k + 1, by go_num, by have := HLT.out; omega, S3, H4.out, H2.out⟩
    case measure => have := HLT.out; simp [intOf]; omega
  · have hke : k = vn := by omega
    subst hke
    have e0 : Sk = S1 := by
     have := HSK.out
     rw [List.drop_eq_nil_of_le (by have := HVN.out; omega)] at this
     exact Option.some.inj this
    subst e0
    clear hlt hk
    go_wp2_with fail
    clear kc kl
    go_loopg [11] f (fun g x wr => ∃ (i' : Int) (S' : Sc), x = .int .i64 i' ∧ g ≤ f ∧ blkS ns g i' S' = some S2 ∧ Wk W b nv fi ns LL S' wr)
    case atStart => exact ⟨first, Sk, rfl, Nat.le_refl _, HR2.out, HK.out⟩
    case round =>
     obtain ⟨i', S', rfl, hg, hb, hwk⟩ := hrel
     have HG := Lib.hid hg
     have KP2 := Lib.hid (hwk.locAt HM1.out)
     have kc := KP2.out.cell 0 _ rfl
     have kl := KP2.out.lt
     by_cases hi : i' < 0
     · rw [blkS_neg _ _ _ _ hi] at hb
       have e2 := Option.some.inj hb
       subst e2
       have HK2 := Lib.hid hwk
       clear hb hwk hg
       go_wp2_with fail
       have HLN : n ≤ S'.seen.length := by have := HLE.out; have := HN.out; omega
       have HCUT := Lib.hid (cut_d HK2.out KP2.out (HK2.out.locAt HM2.out) HLN .returning)
       clear HLN
       refine leaves_cons (f := 173) (args := #[.pointer (some ⟨k1, 0, none⟩), .pointer (some ⟨k1 + 1, 0, none⟩)]) zal (by simp [go_sem]) ?_
       refine HCUT.out.mono ?_
       rintro e u' w2 ⟨rfl, rfl, h3⟩
       exact ⟨_, results_none rfl _ _ _, rfl, HOUT.out _ _ (by rw [← HRR.out, HN.out]; exact h3)⟩
     · obtain ⟨g0, j, z, S3, rfl, rfl, hz, h1, h2⟩ := blkS_pos zae hb
       have ST := Lib.hid (HSS.out g0 zae LL S' S3 _ j z hz h1 hwk)
       have HZ := Lib.hid hz
       have HB := Lib.hid h2
       have hj0 : 0 ≤ (j : Int) := by omega
       clear hb hwk hg h1 h2 hz hi
       go_wp2_with (go_at_call 175; (with_reducible refine ST.out.mono ?_); rintro e' w2 ⟨rfl, h2⟩; have H2 := Lib.hid h2; clear h2; obtain ⟨G2, n2, cap2, rfl, hG2, hj2, lb2, c02, _, _, _, _, a42, _, _, _⟩ := H2.out.node HZ.out; have hj3 : (j : Int) < (n2 : Int) := zae; have KP3 := Lib.hid (H2.out.locAt HM1.out); have kc3 := KP3.out.cell 0 _ rfl; have kl3 := KP3.out.lt)
       go_roundg g0
       case measure => omega
       case rel => exact ⟨z.x, S3, rfl, by have := HG.out; omega, HB.out, H2.out⟩
/-- a slot is laid -/
theorem WkV.slotRow {W : World} {b : Nat} {nv : Value} {fi : Int} {ns : List Nd} {L : List (Nat × Obj)} {S R : Sc} {w : World} (h : Wk W b nv fi ns L S w) {i : Nat} (hR : S.slot i = some R) : ∃ g n2 c2 p n c, i < n2 ∧ n2 ≤ maxLen ∧ n ≤ maxLen ∧ w.cell? ⟨b, 4, none⟩ = some (.slice (some ⟨g, 0, none⟩) n2 c2) ∧ w.cell? ⟨b, 2, none⟩ = some (.slice p n c) ∧ (∃ v, w.cell? ⟨g, i, none⟩ = some v) ∧ w.frozen? ⟨g, i, none⟩ = false ∧ g < w.heap.size ∧ b < w.heap.size ∧ Wk W b nv fi ns L R (w.setCell ⟨g, i, none⟩ (.int .i64 (n : Int))) := by
 obtain ⟨sv, tv, mv, fv, h⟩ := h
 obtain ⟨hi, rfl⟩ := qcI hR
 obtain ⟨p, c, hv⟩ := qag h.seen
 have hnc : S.seen.length ≤ maxLen := by
  rcases h.seen.2 with ⟨e, e0⟩ | ⟨g, cap, cur, e, _, _, e1, e2, _⟩ <;> omega
 obtain ⟨g2, c2, htv, _, hg2⟩ := h.slots.form zae
 have hn2 : S.slots.length ≤ maxLen := by
  rcases h.slots.2 with ⟨e, e0⟩ | ⟨g, cap, cur, e, _, _, e1, e2, _⟩ <;> omega
 subst htv
 have kb : KB b _ _ w := h.cell
 have y0 := h.slots.cells (g := g2) rfl i _ (qcE S.slots i hi)
 rw [Addr.add_lit, Nat.zero_add] at y0
 refine ⟨g2, S.slots.length, c2, p, S.seen.length, c, hi, hn2, hnc, kb.cell 4 _ rfl, by have := kb.cell 2 _ rfl; rw [hv] at this; exact this, ⟨_, y0⟩, own_fz h.slots i, hg2, kb.lt, _, _, _, _, h.setSlot i _ hi rfl⟩
set_option maxHeartbeats 8000000 in
set_option maxRecDepth 20000 in
theorem stm_of {W : World} {b : Nat} {nv : Value} {fi : Int} {ns : List Nd} (f : Nat) (hB : BlockC W b nv fi ns f) : StmC W b nv fi ns f := by
 intro L S R w j z hz hR h
 obtain ⟨zk, za, zb, zc, zx, zi, zs, zt⟩ := z
 obtain ⟨G, n, cap, rfl, hG, hj, lb, c0, a0, a1, a2, a3, a4, a5, a6, a7⟩ := h.node hz
 dsimp only at a0 a1 a2 a3 a4 a5 a6 a7
 unfold stmS at hR
 obtain ⟨S1, h1, hR⟩ := qac hR
 dsimp only at h1 hR
 obtain ⟨LL, hLL⟩ : ∃ LL, (w.heap.size, .cells #[.int .i64 zk, .int .i64 za, .int .i64 zb, .int .i64 zc, .int .i64 zx, .int .i64 zi, .string zs, .string zt] 166 (0, 0)) :: L = LL := ⟨_, rfl⟩
 have H0 := Lib.hid (h.locNew (.cells #[.int .i64 zk, .int .i64 za, .int .i64 zb, .int .i64 zc, .int .i64 zx, .int .i64 zi, .string zs, .string zt] 166 (0, 0)))
 rw [hLL] at H0
 have HM := Lib.hid (show (w.heap.size, .cells #[.int .i64 zk, .int .i64 za, .int .i64 zb, .int .i64 zc, .int .i64 zx, .int .i64 zi, .string zs, .string zt] 166 (0, 0)) ∈ LL from by rw [← hLL]; simp)
 have HOUT := Lib.hid (fun S w (h : Wk W b (.slice (some ⟨G, 0, none⟩) n cap) fi ns LL S w) => show Wk W b (.slice (some ⟨G, 0, none⟩) n cap) fi ns L S w from by rw [← hLL] at h; exact h.locOut)
 have C1 := Lib.hid (fun w1 (hw : Wk W b (.slice (some ⟨G, 0, none⟩) n cap) fi ns LL S w1) => sexpr_any f _ S S1 w1 za h1 hw)
 have HB := Lib.hid hB
 have hj0 : 0 ≤ (j : Int) := by omega
 have hjn : (j : Int) < (n : Int) := by omega
 clear hB h hz h1 hj hLL
 by_cases k22 : zk = 22
 · subst k22
   rw [if_pos rfl] at hR
   have C2 := Lib.hid (fun w1 (hw : Wk W b (.slice (some ⟨G, 0, none⟩) n cap) fi ns LL S1 w1) => sexpr_any f _ S1 R w1 zb hR hw)
   clear hR HB
   go_enter Tryz.func175, Tryz.ntmps175
   go_wp2_with (first
    | (go_at_call 204; (with_reducible refine (C1.out _ H0.out).mono ?_); rintro e' w1 ⟨rfl, h1⟩; have H1 := Lib.hid h1; clear h1; have KX := Lib.hid (H1.out.locAt HM.out); have x0 := KX.out.cell 0 _ rfl; have lx := KX.out.lt; have x2 := KX.out.cell 2 _ rfl)
    | (go_at_call 204; (with_reducible refine (C2.out _ H1.out).mono ?_); rintro e' w2 ⟨rfl, h2⟩; have H2 := Lib.hid h2; clear h2))
   (first | go_end0 | refine bodyPost_ret (results_none rfl _ _ _) rfl ?_)
   exact ⟨rfl, HOUT.out _ _ H2.out⟩
 by_cases k20 : zk = 20
 · subst k20
   rw [if_neg zae, if_pos rfl] at hR
   obtain ⟨S2, h2, hR⟩ := qac hR
   have HSL := Lib.hid h2
   have C3 := Lib.hid (fun w1 (hw : Wk W b (.slice (some ⟨G, 0, none⟩) n cap) fi ns LL S2 w1) => seeO_any hw zs (j : Int) hR)
   clear hR HB h2
   go_enter Tryz.func175, Tryz.ntmps175
   go_wp2_with (first
    | (go_at_call 204; (with_reducible refine (C1.out _ H0.out).mono ?_); rintro e' w1 ⟨rfl, h1⟩; have H1 := Lib.hid h1; clear h1; have KX := Lib.hid (H1.out.locAt HM.out); have x0 := KX.out.cell 0 _ rfl; have lx := KX.out.lt; have x6 := KX.out.cell 6 _ rfl))
   obtain ⟨g2, n2, c2, p2, n1, c1, q1, q2, q3, q4, q5, ⟨q6v, q6⟩, q7, q8, q9, q10⟩ := WkV.slotRow H1.out HSL.out
   have HQ := Lib.hid (q10.of_ext ((Ext.refl _).drew))
   have q11 : (j : Int) < (n2 : Int) := by omega
   have q12 : (n1 : Int) ≤ 9223372036854775807 := by unfold maxLen at q3; omega
   have HX6 := Lib.hid (HQ.out.locAt HM.out)
   have q13 := HX6.out.cell 6 _ rfl
   clear q1 q2 q3 q10
   go_region
   go_wp2_with (go_at_call 174; (with_reducible refine (C3.out _ HQ.out).mono ?_); rintro e' w2 ⟨rfl, h2⟩; have H2 := Lib.hid h2; clear h2)
   (first | go_end0 | refine bodyPost_ret (results_none rfl _ _ _) rfl ?_)
   exact ⟨rfl, HOUT.out _ _ H2.out⟩
 by_cases k21 : zk = 21
 · subst k21
   rw [if_neg zae, if_neg zae, if_pos rfl] at hR
   have C3 := Lib.hid (fun w1 (hw : Wk W b (.slice (some ⟨G, 0, none⟩) n cap) fi ns LL S1 w1) => useO_any hw zs j hR)
   clear hR HB
   go_enter Tryz.func175, Tryz.ntmps175
   go_wp2_with (first
    | (go_at_call 204; (with_reducible refine (C1.out _ H0.out).mono ?_); rintro e' w1 ⟨rfl, h1⟩; have H1 := Lib.hid h1; clear h1; have KX := Lib.hid (H1.out.locAt HM.out); have x0 := KX.out.cell 0 _ rfl; have lx := KX.out.lt; have x6 := KX.out.cell 6 _ rfl)
    | (go_at_call 205; (with_reducible refine (C3.out _ H1.out).mono ?_); rintro e' w2 ⟨rfl, h2⟩; have H2 := Lib.hid h2; clear h2))
   (first | go_end0 | refine bodyPost_ret (results_none rfl _ _ _) rfl ?_)
   exact ⟨rfl, HOUT.out _ _ H2.out⟩
 by_cases k24 : zk = 24
 · subst k24
   rw [if_neg zae, if_neg zae, if_neg zae, if_pos rfl] at hR
   obtain ⟨S2, h2, h3⟩ := qac hR
   have C2 := Lib.hid (fun w1 (hw : Wk W b (.slice (some ⟨G, 0, none⟩) n cap) fi ns LL S1 w1) => HB.out LL S1 S2 w1 zb (j : Int) [] (.slice none 0 0) (Or.inl ⟨rfl, rfl⟩) h2 hw)
   have C3 := Lib.hid (fun w1 (hw : Wk W b (.slice (some ⟨G, 0, none⟩) n cap) fi ns LL S2 w1) => HB.out LL S2 R w1 zc (j : Int) [] (.slice none 0 0) (Or.inl ⟨rfl, rfl⟩) h3 hw)
   clear hR HB h2 h3
   go_enter Tryz.func175, Tryz.ntmps175
   go_wp2_with (first
    | (go_at_call 204; (with_reducible refine (C1.out _ H0.out).mono ?_); rintro e' w1 ⟨rfl, h1⟩; have H1 := Lib.hid h1; clear h1; have KX := Lib.hid (H1.out.locAt HM.out); have x0 := KX.out.cell 0 _ rfl; have lx := KX.out.lt; have x2 := KX.out.cell 2 _ rfl)
    | (go_at_call 135; (with_reducible refine (C2.out _ H1.out).mono ?_); rintro e' w2 ⟨rfl, h2⟩; have H2 := Lib.hid h2; clear h2; have KX2 := Lib.hid (H2.out.locAt HM.out); have x3 := KX2.out.cell 3 _ rfl; have lx2 := KX2.out.lt)
    | (go_at_call 135; (with_reducible refine (C3.out _ H2.out).mono ?_); rintro e' w3 ⟨rfl, h3⟩; have H3 := Lib.hid h3; clear h3))
   (first | go_end0 | refine bodyPost_ret (results_none rfl _ _ _) rfl ?_)
   exact ⟨rfl, HOUT.out _ _ H3.out⟩
 by_cases k25 : zk = 25
 · subst k25
   rw [if_neg zae, if_neg zae, if_neg zae, if_neg zae, if_pos rfl] at hR
   obtain ⟨S2, h2, h3⟩ := qac hR
   have HSL := Lib.hid h2
   have HR3 := Lib.hid h3
   clear hR h2 h3
   go_enter Tryz.func175, Tryz.ntmps175
   go_wp2_with (first
    | (go_at_call 204; (with_reducible refine (C1.out _ H0.out).mono ?_); rintro e' w1 ⟨rfl, h1⟩; have H1 := Lib.hid h1; clear h1; have KX := Lib.hid (H1.out.locAt HM.out); have x0 := KX.out.cell 0 _ rfl; have lx := KX.out.lt; have x6 := KX.out.cell 6 _ rfl))
   obtain ⟨g2, n2, c2, p2, n1, c1, q1, q2, q3, q4, q5, ⟨q6v, q6⟩, q7, q8, q9, q10⟩ := WkV.slotRow H1.out HSL.out
   have q20 := (q10.locNew (.cells #[.string zs, .string zt] 9 (0, 0))).of_ext ((Ext.refl _).drew)
   rw [World.size_setCell] at q20
   have HQ := Lib.hid q20
   clear q20
   have HNM := Lib.hid (fun (kk : Nat) w1 (hw : Wk W b (.slice (some ⟨G, 0, none⟩) n cap) fi ns ((kk, Obj.cells #[.string zs, .string zt] 9 (0, 0)) :: LL) S2 w1) => HB.out _ S2 R w1 zb (j : Int) [zs, zt] (.slice (some ⟨kk, 0, none⟩) 2 2) (Or.inr ⟨kk, by simp, rfl, List.mem_cons_self⟩) HR3.out hw)
   have q11 : (j : Int) < (n2 : Int) := by omega
   have q12 : (n1 : Int) ≤ 9223372036854775807 := by unfold maxLen at q3; omega
   have HX6 := Lib.hid ((q10.of_ext ((Ext.refl _).drew)).locAt HM.out)
   have q13 := HX6.out.cell 6 _ rfl
   have q14 := HX6.out.cell 7 _ rfl
   have q15 := HX6.out.cell 2 _ rfl
   clear q1 q2 q3 q10
   go_region
   go_wp2_with (go_at_call 135; (with_reducible refine (HNM.out _ _ HQ.out).mono ?_); rintro e' w2 ⟨rfl, h2⟩; have H2 := Lib.hid h2.locOut; clear h2)
   (first | go_end0 | refine bodyPost_ret (results_none rfl _ _ _) rfl ?_)
   exact ⟨rfl, HOUT.out _ _ H2.out⟩
 by_cases k26 : zk = 26
 · subst k26
   rw [if_neg zae, if_neg zae, if_neg zae, if_neg zae, if_neg zae, if_pos rfl] at hR
   have C2 := Lib.hid (fun w1 (hw : Wk W b (.slice (some ⟨G, 0, none⟩) n cap) fi ns LL S1 w1) => HB.out LL S1 R w1 zb (j : Int) [] (.slice none 0 0) (Or.inl ⟨rfl, rfl⟩) hR hw)
   clear hR HB
   go_enter Tryz.func175, Tryz.ntmps175
   go_wp2_with (first
    | (go_at_call 204; (with_reducible refine (C1.out _ H0.out).mono ?_); rintro e' w1 ⟨rfl, h1⟩; have H1 := Lib.hid h1; clear h1; have KX := Lib.hid (H1.out.locAt HM.out); have x0 := KX.out.cell 0 _ rfl; have lx := KX.out.lt; have x2 := KX.out.cell 2 _ rfl)
    | (go_at_call 135; (with_reducible refine (C2.out _ H1.out).mono ?_); rintro e' w2 ⟨rfl, h2⟩; have H2 := Lib.hid h2; clear h2))
   (first | go_end0 | refine bodyPost_ret (results_none rfl _ _ _) rfl ?_)
   exact ⟨rfl, HOUT.out _ _ H2.out⟩
 · rw [if_neg k22, if_neg k20, if_neg k21, if_neg k24, if_neg k25, if_neg k26] at hR
   have e1 := Option.some.inj hR
   subst e1
   have p22 : (zk == 22) = false := by simpa using k22
   have p20 : (zk == 20) = false := by simpa using k20
   have p21 : (zk == 21) = false := by simpa using k21
   have p24 : (zk == 24) = false := by simpa using k24
   have p25 : (zk == 25) = false := by simpa using k25
   have p26 : (zk == 26) = false := by simpa using k26
   clear hR HB k22 k20 k21 k24 k25 k26
   go_enter Tryz.func175, Tryz.ntmps175
   go_wp2_with (first
    | (go_at_call 204; (with_reducible refine (C1.out _ H0.out).mono ?_); rintro e' w1 ⟨rfl, h1⟩; have H1 := Lib.hid h1; clear h1; have KX := Lib.hid (H1.out.locAt HM.out); have x0 := KX.out.cell 0 _ rfl; have lx := KX.out.lt; skip))
   (first | go_end0 | refine bodyPost_ret (results_none rfl _ _ _) rfl ?_)
   exact ⟨rfl, HOUT.out _ _ H1.out⟩
end Go.Proofs.YtpnabjopfpdkhaaGreatDoor

namespace Go.Proofs.YtpnabjopfpdkhaaGreatDoor
open Go.RowKit
attribute [go_sem] more_more Array.size_append
theorem WkV.push_slots {W : World} {b : Nat} {nv : Value} {fi : Int} {ns : List Nd} {L : List (Nat × Obj)} {S : Sc} {w : World} {sv tv mv fv v' : Value} {w1 : World} {s : Int} (h : WkV W b nv fi ns L S sv tv mv fv w) (hr : w1.ownsRow W.heap.size 3 1 v' (S.slots.length + 1) (intL S.slots ++ [.int .i64 s])) (hg : w.grownBy w1 tv.ownBlock) (hv : v'.ownBlock = tv.ownBlock ∨ v'.ownBlock = some w.heap.size) :
  WkV W b nv fi ns L { S with slots := S.slots ++ [s] } sv v' mv fv (w1.setCell ⟨b, 4, none⟩ v') := by
 have hA := h.apart
 have lb := (Array.getElem?_eq_some_iff.1 h.cell).1
 have hold : ∀ k, k < w.heap.size → tv.ownBlock ≠ some k → w1.heap[k]? = w.heap[k]? := fun k hk hn => hg.block k hk (Ne.symm hn)
 have L1 := fun g q => (h.seen.lt g q).2
 have L2 := fun g q => (h.slots.lt g q).2
 have L3 := fun g q => (h.made.lt g q).2
 have L4 := fun g q => (h.free.lt g q).2
 have hvn : ∀ g, v'.ownBlock = some g → tv.ownBlock = some g ∨ g = w.heap.size := fun g q => by
  rcases hv with e | e
  · exact Or.inl (e ▸ q)
  · rw [e] at q; exact Or.inr (Option.some.inj q).symm
 have hx1 : Ext W w1 := h.ext.grown hg fun k hk => (h.slots.lt k hk).1
 have hnb : tv.ownBlock ≠ some b := fun q => by have := hA b; simp_all
 have kb : KB b _ _ w1 := (hold b lb hnb).trans h.cell
 have keep : ∀ (x : Value) (n : Nat) (xs : List Value) (e : TypeId) (sz bs : Nat), w.ownsRow bs e sz x n xs → (∀ g, x.ownBlock = some g → g ≠ b) → (∀ g, x.ownBlock = some g → tv.ownBlock ≠ some g) → (w1.setCell ⟨b, 4, none⟩ v').ownsRow bs e sz x n xs := fun x n xs e sz bs hx h1 h2 =>
  qad hx fun k q hk => (heap_set_other _ _ _ _ _ (h1 k q)).trans (hold k hk (h2 k q))
 refine ⟨hx1.setCell h.base.1 _, KB.setAt kb 4 v' zal, keep _ _ _ _ _ _ h.row (fun g q => by have := h.base.2 g q; have := h.base.1; omega) (fun g q e => by have := h.base.2 g q; have := (h.slots.lt g e).1; omega), ?_, ?_, ?_, ?_, h.base, ?_, ?_⟩
 · exact keep _ _ _ _ _ _ h.seen (fun g q => by have := hA g; simp_all) (fun g q e => by have := hA g; simp_all)
 · dsimp only; rw [List.length_append]; unfold intL; rw [List.map_append]; exact qad hr fun k q _ => heap_set_other _ _ _ _ _ (fun e => by rcases hvn k q with e1 | e1; exact hnb (e ▸ e1); omega)
 · exact keep _ _ _ _ _ _ h.made (fun g q => by have := hA g; simp_all) (fun g q e => by have := hA g; simp_all)
 · exact keep _ _ _ _ _ _ h.free (fun g q => by have := hA g; simp_all) (fun g q e => by have := hA g; simp_all)
 · intro g
   have a := hA g
   have b1 := hA w.heap.size
   have n1 : sv.ownBlock ≠ some w.heap.size := fun q => absurd (L1 _ q) (Nat.lt_irrefl _)
   have n2 : tv.ownBlock ≠ some w.heap.size := fun q => absurd (L2 _ q) (Nat.lt_irrefl _)
   have n3 : mv.ownBlock ≠ some w.heap.size := fun q => absurd (L3 _ q) (Nat.lt_irrefl _)
   have n4 : fv.ownBlock ≠ some w.heap.size := fun q => absurd (L4 _ q) (Nat.lt_irrefl _)
   have nb : w.heap.size ≠ b := by omega
   rcases hv with e | e
   · rw [e]; exact a
   · by_cases hgs : g = w.heap.size
     · subst hgs
       simp_all
     · have q : v'.ownBlock ≠ some g := by rw [e]; intro e2; exact hgs (Option.some.inj e2).symm
       simp_all
 · intro q hq
   have hl := h.loc q hq
   have hlt := (Array.getElem?_eq_some_iff.1 hl.1).1
   have e1 : (w1.setCell ⟨b, 4, none⟩ v').heap[q.1]? = some q.2 := (heap_set_other _ _ _ _ _ hl.2.1).trans ((hold q.1 hlt (by have := hl.2; simp_all)).trans hl.1)
   have e2 : v'.ownBlock ≠ some q.1 := by
    intro e
    rcases hvn q.1 e with e3 | e3
    · have := hl.2; simp_all
    · omega
   have := hl.2
   refine ⟨e1, this.1, ?_⟩
   simp_all
theorem blocks_all {W : World} {b : Nat} {nv : Value} {fi : Int} {ns : List Nd} : ∀ f, BlockC W b nv fi ns f ∧ StmC W b nv fi ns f := by
 intro f
 induction f using Nat.strongRecOn with
 | _ f ih =>
  have h1 : BlockC W b nv fi ns f := block_of f fun g hg => (ih g hg).2
  exact ⟨h1, stm_of f h1⟩
theorem intInfo2 : (Tryz.prog.info? 3).map (fun i => (i.zero, i.size, i.bytes)) = some (some (.int .i64 0), 1, 8) := by kernel_rfl
theorem WkV.start {fi : Int} {W : World} {nv : Value} {ns : List Nd} (hr : W.ownsRow 0 166 8 nv ns.length (qae ns)) : WkV W W.heap.size nv fi ns [] ⟨[], 0, [], [], [], 0, 0⟩ (.slice none 0 0) (.slice none 0 0) (.slice none 0 0) (.slice none 0 0) (W.alloc (.cells #[nv, .int .i64 fi, .slice none 0 0, .int .i64 0, .slice none 0 0, .slice none 0 0, .slice none 0 0, .int .i64 0, .int .i64 0] 200 (0, 0))) :=
 ⟨(Ext.refl W).alloc _, heap_alloc_new _ _, hr.alloc _, World.ownsRow_nil _ _ _ _, World.ownsRow_nil _ _ _ _, World.ownsRow_nil _ _ _ _, World.ownsRow_nil _ _ _ _, ⟨Nat.le_refl _, fun g hg => (hr.lt g hg).2⟩, fun g => by simp [Value.ownBlock], fun q hq => by cases hq⟩
def Sc.sl (k : Nat) : Sc := ⟨[], 0, List.replicate k (-1), [], [], 0, 0⟩
set_option maxHeartbeats 2000000 in
theorem walk_no {ns : List Nd} {nv : Value} {n base : Nat} (fi : Int) (w : World) (hr : w.ownsRow base 166 8 nv n (qae ns)) (hl : ns.length = n) (hs : ∀ z ∈ ns, z.s.size ≤ maxLen) (hm : mayB ns fi = false) :
  Calls Tryz.prog 113 #[.agg #[nv, .int .i64 fi]] w fun e w' => e = .returned (.tuple #[.pointer none, .int .i64 1]) ∧ Ext w w' := by
 obtain ⟨p1, c1, rfl⟩ := qag hr
 have MY := Lib.hid (fun W' (hx : Ext w W') => may_any fi W' (own_ext hr hx) hl hs)
 rw [hm] at MY
 clear hr hl hs hm
 go_enter Tryz.func113, Tryz.ntmps113
 go_wp2_with (go_at_call 134; (with_reducible refine (MY.out _ zaa).mono ?_); rintro e' _ ⟨rfl, d1, os1, rfl⟩)
 go_ret2
 exact ⟨rfl, zaa⟩
set_option maxHeartbeats 8000000 in
set_option maxRecDepth 20000 in
theorem walk_yes {ns : List Nd} {nv : Value} {n base : Nat} (fi : Int) (w : World) (hr : w.ownsRow base 166 8 nv n (qae ns)) (hl : ns.length = n) (hs : ∀ z ∈ ns, z.s.size ≤ maxLen) (hm : mayB ns fi = true) (R : Sc) (hR : qba (blkS ns n) fi (-1) [] (Sc.start n) = some R) :
  Calls Tryz.prog 113 #[.agg #[nv, .int .i64 fi]] w fun e w' => ∃ b W, e = .returned (.tuple #[.pointer (some ⟨b, 0, none⟩), .int .i64 0]) ∧ Wk W b nv fi ns [] R w' ∧ Ext w W := by
 obtain ⟨p1, c1, rfl⟩ := qag hr
 have hn := (qbF hm).1
 rw [hl] at hn
 have hni : (n : Int) ≤ 512 := by omega
 have MY := Lib.hid (fun W' (hx : Ext w W') => may_any fi W' (own_ext hr hx) hl hs)
 rw [hm] at MY
 have HP := Lib.hid (hr.mono (Nat.zero_le _))
 have HL := Lib.hid hl
 have HR := Lib.hid hR
 obtain ⟨i0, hi, hz0, hz1, hz2⟩ := info_parts intInfo2
 clear hr hl hs hm hR hn
 go_enter Tryz.func113, Tryz.ntmps113
 go_wp2_with (go_at_call 134; (with_reducible refine (MY.out _ zaa).mono ?_); rintro e' _ ⟨rfl, d1, os1, rfl⟩)
 have HW := Lib.hid (WkV.start (fi := fi) (W := more (w.alloc (.cells #[.slice p1 n c1, .int .i64 fi] 132 (0, 0))) d1 os1) (show (more (w.alloc (.cells #[.slice p1 n c1, .int .i64 fi] 132 (0, 0))) d1 os1).ownsRow 0 166 8 (.slice p1 n c1) ns.length (qae ns) from own_ext (by have := HP.out; rw [HL.out]; exact this) zaa))
 have hsz : (more (w.alloc (.cells #[.slice p1 n c1, .int .i64 fi] 132 (0, 0))) d1 os1).heap.size = w.heap.size + 1 + os1.size := by simp [more_size]
 have XE := Lib.hid (show Ext w (more (w.alloc (.cells #[.slice p1 n c1, .int .i64 fi] 132 (0, 0))) d1 os1) from zaa)
 have KP := Lib.hid (show ∀ wr, Ext (more (w.alloc (.cells #[.slice p1 n c1, .int .i64 fi] 132 (0, 0))) d1 os1) wr → KB w.heap.size #[.slice p1 n c1, .int .i64 fi] 132 wr from fun wr hx => (KB.new w _ _).of_ext (Ext.trans zaa hx))
 rw [hsz] at HW
 generalize hb : w.heap.size + 1 + os1.size = b at *
 generalize hW : more (w.alloc (.cells #[.slice p1 n c1, .int .i64 fi] 132 (0, 0))) d1 os1 = W at *
 generalize hk1 : w.heap.size = k1 at *
 clear hb hW hk1 hsz MY
 go_loopw [14] (fun y wr => ∃ k : Nat, y = .int .i64 (k : Int) ∧ k ≤ n ∧ Wk W b (.slice p1 n c1) fi ns [] (Sc.sl k) wr) (fun y _ => n - (intOf y).toNat)
 case atStart => exact ⟨0, rfl, Nat.zero_le _, _, _, _, _, HW.out⟩
 case round =>
  obtain ⟨k, rfl, hk, sv, tv, mv, fv, hwk⟩ := hrel
  have H := Lib.hid hwk
  have HK := Lib.hid hk
  have KX := Lib.hid (show KB b _ _ wr from hwk.cell)
  have x4 := KX.out.cell 4 tv rfl
  have lb := KX.out.lt
  have hk0 : 0 ≤ (k : Int) := by omega
  have hlen : (Sc.sl k).slots.length = k := by simp [Sc.sl]
  have HLN := Lib.hid hlen
  have KB1 := Lib.hid (KP.out wr hwk.ext)
  by_cases hlt : k < n
  · have hkn : (k : Int) < (n : Int) := by omega
    have htb : tv.ownBlock ≠ some b := fun q => ((H.out.apart b).2.1 q).1 rfl
    have hf4 := KX.out.frozen 4
    clear hwk hk hlen hlt
    go_wp2_with (at_builtin; refine wpList_append_own_at _ rfl _ _ 160 rfl W.heap.size 3 i0 (.int .i64 0) 1 8 Tryz.underlying160 hi hz0 hz1 hz2 rfl zaj tv (Sc.sl k).slots.length (intL (Sc.sl k).slots) rfl (H.out.slots.alloc _) ⟨_, 0, none⟩ 1 1 [.int .i64 (-1)] rfl rfl (qaB zal) zax (by rw [HLN.out]; unfold maxLen; have := HK.out; omega) (by rw [HLN.out]; have := HK.out; omega) (by simp; have := H.out.ext.size; omega) ?_)
    intro v' w1 hown hgrow _ hblk
    obtain ⟨g3, cap3, rfl, _, _⟩ := hown.form zae
    have HPU := Lib.hid (WkV.push_slots (s := -1) (H.out.of_ext ((Ext.refl _).alloc _)) hown hgrow (by rw [World.size_alloc]; exact hblk))
    have KX3 := Lib.hid (show KB b _ _ w1 from (hgrow.block b (by rw [World.size_alloc]; omega) (Ne.symm htb)).trans (KX.out.alloc _))
    have z4 := KX3.out.cell 4 tv rfl
    have z4f := KX3.out.frozen 4
    have lb3 := KX3.out.lt
    clear hown hgrow hblk htb
    go_wp2_with fail
    go_roundw
    case rel => exact ⟨k + 1, by go_num, by omega, _, _, _, _, by have := HPU.out; rw [show ({ Sc.sl k with slots := (Sc.sl k).slots ++ [-1] } : Sc) = Sc.sl (k + 1) from by unfold Sc.sl; rw [List.replicate_succ']] at this; exact this⟩
    case measure => simp [intOf]; omega
  · have hke : k = n := by omega
    subst hke
    have q1 := KB1.out.cell 1 _ rfl
    have l1 := KB1.out.lt
    have CB := Lib.hid ((blocks_all (W := W) (b := b) (nv := .slice p1 k c1) (fi := fi) (ns := ns) k).1 [] (Sc.start k) R wr fi (-1) [] (.slice none 0 0) (Or.inl ⟨rfl, rfl⟩) HR.out ⟨_, _, _, _, hwk⟩)
    clear hwk hlt hlen hk x4
    go_wp2_with (go_at_call 135; (with_reducible refine CB.out.mono ?_); rintro e' w2 ⟨rfl, h2⟩; have H2 := Lib.hid h2; clear h2)
    go_ret2
    exact ⟨b, W, rfl, H2.out, XE.out⟩
def qbp (ns : List Nd) (fi : Int) : List Int × Int × Int × Int :=
 if mayB ns fi = true then
  match qba (blkS ns ns.length) fi (-1) [] (Sc.start ns.length) with
  | some R => if R.e = 0 then (R.slots, R.most, 0, -1) else ([], 0, R.e, R.a)
  | none => ([], 0, 1, -1)
 else ([], 0, 1, -1)
set_option maxHeartbeats 4000000 in
set_option maxRecDepth 20000 in
theorem slots_any {ns : List Nd} {nv : Value} {n base : Nat} (fi : Int) (w : World) (hr : w.ownsRow base 166 8 nv n (qae ns)) (hl : ns.length = n) (hs : ∀ z ∈ ns, z.s.size ≤ maxLen) (l : List Int) (m e a : Int) (hf : qbp ns fi = (l, m, e, a)) :
  Calls Tryz.prog 98 #[.agg #[nv, .int .i64 fi]] w fun r w' => ∃ v, r = .returned (.tuple #[v, .int .i64 m, .int .i64 e, .int .i64 a]) ∧ w'.ownsRow w.heap.size 3 1 v l.length (intL l) ∧ Ext w w' := by
 obtain ⟨p1, c1, rfl⟩ := qag hr
 unfold qbp at hf
 cases hm : mayB ns fi
 · rw [hm, if_neg zal] at hf
   simp only [Prod.mk.injEq] at hf
   obtain ⟨rfl, rfl, rfl, rfl⟩ := hf
   have WN := Lib.hid (fun W' (hx : Ext w W') => walk_no fi W' (own_ext hr hx) hl hs hm)
   clear hr hl hs hm
   go_enter Tryz.func98, Tryz.ntmps98
   go_wp2_with (go_at_call 113; (with_reducible refine (WN.out _ zaa).mono ?_); rintro e' _ ⟨rfl, d1, os1, rfl⟩)
   exact bodyPost_ret (v := .tuple #[.slice none 0 0, .int .i64 0, .int .i64 1, .int .i64 (-1)]) (by simp [results, Tryz.results98, go_sem]) rfl ⟨_, rfl, World.ownsRow_nil _ _ _ _, zaa⟩
 · rw [hm, if_pos rfl] at hf
   obtain ⟨R, hR, h1, h2, h3⟩ := walk_law hm
   rw [hR] at hf
   dsimp only at hf
   have WY := Lib.hid (fun W' (hx : Ext w W') => walk_yes fi W' (own_ext hr hx) hl hs hm R (by rw [← hl]; exact hR))
   obtain ⟨rs, rm, rt, rd, rf, re, ra⟩ := R
   dsimp only at hf
   clear hr hl hs hm h1 h2 h3 hR
   by_cases he : re = 0
   · subst he
     rw [if_pos rfl] at hf
     simp only [Prod.mk.injEq] at hf
     obtain ⟨rfl, rfl, rfl, rfl⟩ := hf
     go_enter Tryz.func98, Tryz.ntmps98
     go_wp2_with (go_at_call 113; (with_reducible refine (WY.out _ zaa).mono ?_); rintro e' w2 ⟨b, W2, rfl, ⟨sv, tv, mv, fv, h2⟩, hx⟩; have KX := Lib.hid (show KB b _ _ w2 from h2.cell); have x7 := KX.out.cell 7 _ rfl; have x4 := KX.out.cell 4 _ rfl; have x3 := KX.out.cell 3 _ rfl; have lb := KX.out.lt; have H2 := Lib.hid h2; have HX := Lib.hid (((Ext.refl w).alloc _).trans hx); clear h2 hx)
     go_region
     go_wp2_with fail
     exact bodyPost_ret (v := .tuple #[tv, .int .i64 rm, .int .i64 0, .int .i64 (-1)]) (by simp [results, Tryz.results98, go_sem]) rfl ⟨tv, rfl, own_ext (H2.out.slots.mono HX.out.size) ((Ext.refl _).drew), Ext.trans HX.out (H2.out.ext.trans ((Ext.refl _).drew))⟩
   · rw [if_neg he] at hf
     simp only [Prod.mk.injEq] at hf
     obtain ⟨rfl, rfl, rfl, rfl⟩ := hf
     have he2 : (re != 0) = true := by simpa using he
     clear he
     go_enter Tryz.func98, Tryz.ntmps98
     go_wp2_with (go_at_call 113; (with_reducible refine (WY.out _ zaa).mono ?_); rintro e' w2 ⟨b, W2, rfl, ⟨sv, tv, mv, fv, h2⟩, hx⟩; have KX := Lib.hid (show KB b _ _ w2 from h2.cell); have x7 := KX.out.cell 7 _ rfl; have x8 := KX.out.cell 8 _ rfl; have lb := KX.out.lt; have HX := Lib.hid ((((Ext.refl w).alloc _).trans hx).trans h2.ext); clear h2 hx)
     go_region
     go_wp2_with fail
     exact bodyPost_ret (v := .tuple #[.slice none 0 0, .int .i64 0, .int .i64 re, .int .i64 ra]) (by simp [results, Tryz.results98, go_sem]) rfl ⟨_, rfl, World.ownsRow_nil _ _ _ _, HX.out.trans ((Ext.refl _).drew)⟩
end Go.Proofs.YtpnabjopfpdkhaaGreatDoor
