/- Lemmas for the claim (texts Wr2, what its proof uses of them). -/
import Derived.Test.YtijmfpoanggjjaaGreatDoorK11
import Derived.Test.YtijmfpoanggjjaaGreatDoorK17
set_option linter.unusedSimpArgs false
set_option linter.unusedVariables false
namespace Go.Proofs.YtijmfpoanggjjaaGreatDoor
open Go.RowKit
attribute [go_sem] more_more Array.size_append
theorem say1 {W : World} {b : Nat} {nv : Value} {fi : Int} {ns : List Nd} {L : List Own} {acc : List UInt8} {w : World} {g : Nat} {s0 : ByteArray} (h : Wr W b nv fi ns ((g, #[.string s0], 9) :: L) acc w) (hlen : acc.length + (s0.data.toList).length ≤ 100000000) :
  Calls Tryz.prog 38 #[.pointer (some ⟨b, 0, none⟩), .slice (some ⟨g, 0, none⟩) 1 1] w fun e w' => e = .returned (.tuple #[]) ∧ Wr W b nv fi ns L (acc ++ (s0.data.toList)) w' := by
 have e : catS [s0] = s0.data.toList := by simp [catS]
 have := qed (l := [s0]) (n := 1) rfl zaq h (by rw [e]; exact hlen)
 rwa [e] at this
theorem say2 {W : World} {b : Nat} {nv : Value} {fi : Int} {ns : List Nd} {L : List Own} {acc : List UInt8} {w : World} {g : Nat} {s0 s1 : ByteArray} (h : Wr W b nv fi ns ((g, #[.string s0, .string s1], 9) :: L) acc w) (hlen : acc.length + (s0.data.toList ++ (s1.data.toList)).length ≤ 100000000) :
  Calls Tryz.prog 38 #[.pointer (some ⟨b, 0, none⟩), .slice (some ⟨g, 0, none⟩) 2 2] w fun e w' => e = .returned (.tuple #[]) ∧ Wr W b nv fi ns L (acc ++ (s0.data.toList ++ (s1.data.toList))) w' := by
 have e : catS [s0, s1] = s0.data.toList ++ (s1.data.toList) := by simp [catS]
 have := qed (l := [s0, s1]) (n := 2) rfl zaq h (by rw [e]; exact hlen)
 rwa [e] at this
theorem say3 {W : World} {b : Nat} {nv : Value} {fi : Int} {ns : List Nd} {L : List Own} {acc : List UInt8} {w : World} {g : Nat} {s0 s1 s2 : ByteArray} (h : Wr W b nv fi ns ((g, #[.string s0, .string s1, .string s2], 9) :: L) acc w) (hlen : acc.length + (s0.data.toList ++ (s1.data.toList ++ (s2.data.toList))).length ≤ 100000000) :
  Calls Tryz.prog 38 #[.pointer (some ⟨b, 0, none⟩), .slice (some ⟨g, 0, none⟩) 3 3] w fun e w' => e = .returned (.tuple #[]) ∧ Wr W b nv fi ns L (acc ++ (s0.data.toList ++ (s1.data.toList ++ (s2.data.toList)))) w' := by
 have e : catS [s0, s1, s2] = s0.data.toList ++ (s1.data.toList ++ (s2.data.toList)) := by simp [catS]
 have := qed (l := [s0, s1, s2]) (n := 3) rfl zaq h (by rw [e]; exact hlen)
 rwa [e] at this
theorem say5 {W : World} {b : Nat} {nv : Value} {fi : Int} {ns : List Nd} {L : List Own} {acc : List UInt8} {w : World} {g : Nat} {s0 s1 s2 s3 s4 : ByteArray} (h : Wr W b nv fi ns ((g, #[.string s0, .string s1, .string s2, .string s3, .string s4], 9) :: L) acc w) (hlen : acc.length + (s0.data.toList ++ (s1.data.toList ++ (s2.data.toList ++ (s3.data.toList ++ (s4.data.toList))))).length ≤ 100000000) :
  Calls Tryz.prog 38 #[.pointer (some ⟨b, 0, none⟩), .slice (some ⟨g, 0, none⟩) 5 5] w fun e w' => e = .returned (.tuple #[]) ∧ Wr W b nv fi ns L (acc ++ (s0.data.toList ++ (s1.data.toList ++ (s2.data.toList ++ (s3.data.toList ++ (s4.data.toList)))))) w' := by
 have e : catS [s0, s1, s2, s3, s4] = s0.data.toList ++ (s1.data.toList ++ (s2.data.toList ++ (s3.data.toList ++ (s4.data.toList)))) := by simp [catS]
 have := qed (l := [s0, s1, s2, s3, s4]) (n := 5) rfl zaq h (by rw [e]; exact hlen)
 rwa [e] at this
theorem Wr.tab {W : World} {b : Nat} {nv : Value} {fi : Int} {ns : List Nd} {L : List Own} {acc : List UInt8} {w : World} (h : Wr W b nv fi ns L acc w) : Lib.TabIs Tryz.prog w "internal/strconv.uint64pow10" .u64 Lib.pow10Tab := h.pow.2
theorem Wr.congr {W : World} {b : Nat} {nv : Value} {fi : Int} {ns : List Nd} {L : List Own} {acc acc' : List UInt8} {w : World} (h : Wr W b nv fi ns L acc w) (e : acc = acc') : Wr W b nv fi ns L acc' w := e ▸ h
/-- the node's cells, behind the writer's block -/
theorem Wr.node {W : World} {b : Nat} {nv : Value} {fi : Int} {ns : List Nd} {L : List Own} {acc : List UInt8} {w : World} (h : Wr W b nv fi ns L acc w) {j : Nat} {z : Nd} (hz : ns[j]? = some z) :
  ∃ G n cap, nv = .slice (some ⟨G, 0, none⟩) n cap ∧ G < w.heap.size ∧ j < n ∧ b < w.heap.size ∧ w.cell? ⟨b, 0, none⟩ = some (.slice (some ⟨G, 0, none⟩) n cap) ∧
  w.cell? ⟨G, j * 8, none⟩ = some (.int .i64 z.k) ∧ w.cell? ⟨G, j * 8 + 1, none⟩ = some (.int .i64 z.a) ∧ w.cell? ⟨G, j * 8 + 2, none⟩ = some (.int .i64 z.b) ∧ w.cell? ⟨G, j * 8 + 3, none⟩ = some (.int .i64 z.c) ∧ w.cell? ⟨G, j * 8 + 4, none⟩ = some (.int .i64 z.x) ∧ w.cell? ⟨G, j * 8 + 5, none⟩ = some (.int .i64 z.i) ∧ w.cell? ⟨G, j * 8 + 6, none⟩ = some (.string z.s) ∧ w.cell? ⟨G, j * 8 + 7, none⟩ = some (.string z.t) := by
 obtain ⟨p, bv, h⟩ := h
 have hj := (List.getElem?_eq_some_iff.1 hz).1
 rcases Go.Joins.ownsRow_forms h.row with ⟨_, h0⟩ | ⟨g1, c1, h0⟩
 · omega
 · have hr := h.row
   subst h0
   have kb := h.kb
   exact ⟨g1, ns.length, c1, rfl, (hr.lt g1 rfl).2, hj, kb.lt, kb.cell 0 _ rfl, nd_at hr hz⟩
/-- an expr is written: what its contract says of one -/
def ExprC (W : World) (b : Nat) (nv : Value) (fi : Int) (ns : List Nd) (i : Int) (m : Nat) (t : List UInt8) : Prop := ∀ (L : List Own) (acc : List UInt8) (w : World), acc.length + m ≤ 90000000 → Wr W b nv fi ns L acc w →
 Calls Tryz.prog 21 #[.pointer (some ⟨b, 0, none⟩), .int .i64 i] w fun e w' => e = .returned (.tuple #[]) ∧ Wr W b nv fi ns L (acc ++ t) w'
set_option maxHeartbeats 4000000 in
set_option maxRecDepth 20000 in
theorem qcc {W : World} {b : Nat} {nv : Value} {fi : Int} {ns : List Nd} {L : List Own} {acc : List UInt8} {w : World} {m : Nat} {j : Nat} {E : Int → List UInt8} {z : Nd} (hz : ns[j]? = some z) (hs : z.s.size ≤ 5000) (least : Int) (X : ExprC W b nv fi ns (j : Int) m (E (j : Int))) (hE : (E (j : Int)).length ≤ m) (hl : acc.length + m + 2 ≤ 90000000) (h : Wr W b nv fi ns L acc w) :
  Calls Tryz.prog 42 #[.pointer (some ⟨b, 0, none⟩), .int .i64 (j : Int), .int .i64 least] w fun e w' => e = .returned (.tuple #[]) ∧ Wr W b nv fi ns L (acc ++ qaN E ns (j : Int) least) w' := by
 obtain ⟨zk, za, zb, zc, zx, zi, zs, zt⟩ := z
 have hcl := closeN_at hz
 obtain ⟨G, n, cap, rfl, hG, hj, lb, c0, a0, a1, a2, a3, a4, a5, a6, a7⟩ := h.node hz
 dsimp only at a0 a1 a2 a3 a4 a5 a6 a7 hcl hs
 have C := Lib.hid (fun w => close_any zk za zb zc zx zi zs zt zcw w)
 have X1 := Lib.hid (fun (L : List Own) (acc : List UInt8) (w : World) (h1 : acc.length + m ≤ 90000000) (h2 : Wr W b (.slice (some ⟨G, 0, none⟩) n cap) fi ns L acc w) => X L acc w h1 h2)
 have H := Lib.hid h
 have HL := Lib.hid hl
 have HE := Lib.hid hE
 obtain ⟨c, hc⟩ : ∃ c, qar zk zs = c := ⟨_, rfl⟩
 rw [hc] at C hcl
 have HB := Lib.hid (show qaN E ns (j : Int) least = if least ≤ c then E (j : Int) else [40] ++ (E (j : Int) ++ [41]) by unfold qaN; rw [hcl])
 have hj0 : 0 ≤ (j : Int) := by omega
 have hjn : (j : Int) < (n : Int) := by omega
 clear hz h X hl hE hc hcl hs hj
 by_cases hle : least ≤ c
 · have h1 := HB.out
   rw [if_pos hle] at h1
   have HB1 := Lib.hid h1
   clear h1
   go_enter Tryz.func42, Tryz.ntmps42
   go_wp2_with (first
    | ((go_at_call 14; (with_reducible refine (C.out _).mono ?_); rintro e' _ ⟨rfl, d1, os1, rfl⟩; have H1 := Lib.hid (H.out.of_ext ⟨d1, os1, rfl⟩)))
    | ((go_at_call 21; (with_reducible refine (X1.out _ _ _ (by have := HL.out; omega) H1.out).mono ?_); rintro e' w2 ⟨rfl, h2⟩; have H2 := Lib.hid h2; clear h2)))
   (first | go_end0 | refine bodyPost_ret (results_none rfl _ _ _) rfl ?_)
   exact ⟨rfl, H2.out.congr (by rw [HB1.out])⟩
 · have h1 := HB.out
   rw [if_neg hle] at h1
   have HB1 := Lib.hid h1
   have hle2 : (least ≤ c) = False := by simpa using hle
   clear h1 hle
   go_enter Tryz.func42, Tryz.ntmps42
   go_wp2_with ((go_at_call 14; (with_reducible refine (C.out _).mono ?_); rintro e' _ ⟨rfl, d1, os1, rfl⟩; have H1 := Lib.hid (H.out.of_ext ⟨d1, os1, rfl⟩)))
   go_at_call 38
   refine (say1 (H1.out.locNewAt _ _ zaq zbb) (by have := HL.out; simp only [List.length_cons, List.length_nil]; omega)).mono ?_
   rintro e' w2 ⟨rfl, h2⟩
   have H2 := Lib.hid h2
   clear h2
   go_wp2_with ((go_at_call 21; (with_reducible refine (X1.out _ _ _ (by have := HL.out; simp only [List.length_append, List.length_cons, List.length_nil]; omega) H2.out).mono ?_); rintro e' w3 ⟨rfl, h3⟩; have H3 := Lib.hid h3; clear h3))
   go_at_call 38
   refine (say1 (H3.out.locNewAt _ _ zaq zbb) (by have := HL.out; have := HE.out; simp only [List.length_append, List.length_cons, List.length_nil]; omega)).mono ?_
   rintro e' w4 ⟨rfl, h4⟩
   have H4 := Lib.hid h4
   clear h4
   go_wp2_with fail
   (first | go_end0 | refine bodyPost_ret (results_none rfl _ _ _) rfl ?_)
   exact ⟨rfl, H4.out.congr (by rw [HB1.out]; simp only [List.append_assoc])⟩
end Go.Proofs.YtijmfpoanggjjaaGreatDoor
