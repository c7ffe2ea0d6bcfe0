/- Lemmas for the claim (texts May2, May4, May5, what its proof uses of them). -/
import Derived.Test.YtpoeknndkccbaaaGreatS05
import Derived.Test.YtpoeknndkccbaaaGreatS09
import Derived.Deep.OwnRows
set_option linter.unusedSimpArgs false
set_option linter.unusedVariables false
namespace Go.Proofs.YtpoeknndkccbaaaGreat
open Go.RowKit
attribute [go_sem] more_more Array.size_append
def qcO (s : ByteArray) : Bool := (quoteF s.data.toList).2 == 0
set_option maxHeartbeats 1000000 in
theorem quoted_any (s : ByteArray) (w : World) : Calls Tryz.prog 125 #[.string s] w fun e w' => e = .returned (.bool (qcO s)) ∧ Ext w w' := by
 unfold qcO
 obtain ⟨q, er, hq⟩ : ∃ q er, quoteF s.data.toList = (q, er) := ⟨_, _, rfl⟩
 have Q := Lib.hid (quote_any s q er hq)
 rw [hq]
 dsimp only
 clear hq
 cases h : (er == 0)
 all_goals
  go_enter Tryz.func125, Tryz.ntmps125
  go_wp2_with ((go_at_call 137; (with_reducible refine (Q.out _).mono ?_); rintro e' _ ⟨rfl, d1, os1, rfl⟩))
  go_ret
  exact ⟨rfl, zam⟩
/-- what stands at S -/
def txt2 (k : Int) (s : ByteArray) (bS : Bool) : Bool := if (k == 3) = true then qcO s else if (k == 11) = true then decide (0 ≤ qbC k s) else if bS = true then qcQ s else s.toList.isEmpty
/-- what stands at T -/
def txt1 (t : ByteArray) (bT : Bool) : Bool := if bT = true then (!t.toList.isEmpty && qcQ t) else t.toList.isEmpty
set_option maxHeartbeats 4000000 in
set_option maxRecDepth 20000 in
theorem qbF (zk za zb zc zx zi : Int) (zs zt : ByteArray) (hs : zs.size ≤ maxLen) (b0 b1 b2 b3 bS bT : Bool) (w : World) :
  Calls Tryz.prog 90 #[.agg #[.int .i64 zk, .int .i64 za, .int .i64 zb, .int .i64 zc, .int .i64 zx, .int .i64 zi, .string zs, .string zt], .agg #[.bool b0, .bool b1, .bool b2, .bool b3, .bool bS, .bool bT]] w fun e w' => e = .returned (.bool (txt1 zt bT && txt2 zk zs bS)) ∧ Ext w w' := by
 have NMT := Lib.hid (fun w1 => name1_ok zt w1)
 have NMS := Lib.hid (fun w1 => name1_ok zs w1)
 have QS := Lib.hid (fun w1 => quoted_any zs w1)
 have CL := Lib.hid (fun w1 => close_any zk za zb zc zx zi zs zt hs w1)
 obtain ⟨NT, hNT⟩ : ∃ NT, qcQ zt = NT := ⟨_, rfl⟩
 obtain ⟨NS, hNS⟩ : ∃ NS, qcQ zs = NS := ⟨_, rfl⟩
 obtain ⟨QQ, hQ⟩ : ∃ QQ, qcO zs = QQ := ⟨_, rfl⟩
 obtain ⟨CC, hC⟩ : ∃ CC, qbC zk zs = CC := ⟨_, rfl⟩
 rw [hNT] at NMT
 rw [hNS] at NMS
 rw [hQ] at QS
 rw [hC] at CL
 have ht : txt1 zt bT = (if bT = true then (!zt.toList.isEmpty && NT) else zt.toList.isEmpty) := by unfold txt1; rw [hNT]
 rw [ht]
 clear ht hNT
 cases bT
 · rw [if_neg zbj]
   cases qt : zt.toList.isEmpty
   · rw [Bool.false_and]
     go_enter Tryz.func90, Tryz.ntmps90
     go_wp2_with ((go_at_call 124; (with_reducible refine (NMT.out _).mono ?_); rintro e' _ ⟨rfl, d1, os1, rfl⟩))
     go_ret
     exact ⟨ret_bool zbs, zam⟩
   · rw [Bool.true_and]
     cases q3 : (zk == 3)
     rotate_left
     · rw [show txt2 zk zs bS = QQ from by unfold txt2; rw [q3, hQ]; rfl]
       go_enter Tryz.func90, Tryz.ntmps90
       go_wp2_with (first | ((go_at_call 124; (with_reducible refine (NMT.out _).mono ?_); rintro e' _ ⟨rfl, d1, os1, rfl⟩)) | ((go_at_call 125; (with_reducible refine (QS.out _).mono ?_); rintro e' _ ⟨rfl, d3, os3, rfl⟩)))
       go_ret
       exact ⟨ret_bool zbs, zam⟩
     cases q11 : (zk == 11)
     rotate_left
     · rw [show txt2 zk zs bS = decide (0 ≤ CC) from by unfold txt2; rw [q3, q11, hC]; rfl]
       by_cases hc0 : 0 ≤ CC
       · rw [decide_eq_true hc0]
         go_enter Tryz.func90, Tryz.ntmps90
         go_wp2_with (first | ((go_at_call 124; (with_reducible refine (NMT.out _).mono ?_); rintro e' _ ⟨rfl, d1, os1, rfl⟩)) | ((go_at_call 126; (with_reducible refine (CL.out _).mono ?_); rintro e' _ ⟨rfl, d4, os4, rfl⟩)))
         go_ret
         exact ⟨ret_bool zbs, zam⟩
       · rw [decide_eq_false hc0]
         have hc1 : CC < 0 := by omega
         clear hc0
         go_enter Tryz.func90, Tryz.ntmps90
         go_wp2_with (first | ((go_at_call 124; (with_reducible refine (NMT.out _).mono ?_); rintro e' _ ⟨rfl, d1, os1, rfl⟩)) | ((go_at_call 126; (with_reducible refine (CL.out _).mono ?_); rintro e' _ ⟨rfl, d4, os4, rfl⟩)))
         go_ret
         exact ⟨ret_bool zbs, zam⟩
     cases bS
     · rw [show txt2 zk zs false = zs.toList.isEmpty from by unfold txt2; rw [q3, q11]; rfl]
       cases qs : zs.toList.isEmpty
       all_goals
        go_enter Tryz.func90, Tryz.ntmps90
        go_wp2_with ((go_at_call 124; (with_reducible refine (NMT.out _).mono ?_); rintro e' _ ⟨rfl, d1, os1, rfl⟩))
        go_ret
        exact ⟨ret_bool zbs, zam⟩
     · rw [show txt2 zk zs true = NS from by unfold txt2; rw [q3, q11, hNS]; rfl]
       go_enter Tryz.func90, Tryz.ntmps90
       go_wp2_with (first | ((go_at_call 124; (with_reducible refine (NMT.out _).mono ?_); rintro e' _ ⟨rfl, d1, os1, rfl⟩)) | ((go_at_call 124; (with_reducible refine (NMS.out _).mono ?_); rintro e' _ ⟨rfl, d2, os2, rfl⟩)))
       go_ret
       exact ⟨ret_bool zbs, zam⟩
 · rw [if_pos rfl]
   cases qt : zt.toList.isEmpty
   · rw [Bool.not_false, Bool.true_and]
     cases NT
     · rw [Bool.false_and]
       go_enter Tryz.func90, Tryz.ntmps90
       go_wp2_with ((go_at_call 124; (with_reducible refine (NMT.out _).mono ?_); rintro e' _ ⟨rfl, d1, os1, rfl⟩))
       go_ret
       exact ⟨ret_bool zbs, zam⟩
     · rw [Bool.true_and]
       cases q3 : (zk == 3)
       rotate_left
       · rw [show txt2 zk zs bS = QQ from by unfold txt2; rw [q3, hQ]; rfl]
         go_enter Tryz.func90, Tryz.ntmps90
         go_wp2_with (first | ((go_at_call 124; (with_reducible refine (NMT.out _).mono ?_); rintro e' _ ⟨rfl, d1, os1, rfl⟩)) | ((go_at_call 125; (with_reducible refine (QS.out _).mono ?_); rintro e' _ ⟨rfl, d3, os3, rfl⟩)))
         go_ret
         exact ⟨ret_bool zbs, zam⟩
       cases q11 : (zk == 11)
       rotate_left
       · rw [show txt2 zk zs bS = decide (0 ≤ CC) from by unfold txt2; rw [q3, q11, hC]; rfl]
         by_cases hc0 : 0 ≤ CC
         · rw [decide_eq_true hc0]
           go_enter Tryz.func90, Tryz.ntmps90
           go_wp2_with (first | ((go_at_call 124; (with_reducible refine (NMT.out _).mono ?_); rintro e' _ ⟨rfl, d1, os1, rfl⟩)) | ((go_at_call 126; (with_reducible refine (CL.out _).mono ?_); rintro e' _ ⟨rfl, d4, os4, rfl⟩)))
           go_ret
           exact ⟨ret_bool zbs, zam⟩
         · rw [decide_eq_false hc0]
           have hc1 : CC < 0 := by omega
           clear hc0
           go_enter Tryz.func90, Tryz.ntmps90
           go_wp2_with (first | ((go_at_call 124; (with_reducible refine (NMT.out _).mono ?_); rintro e' _ ⟨rfl, d1, os1, rfl⟩)) | ((go_at_call 126; (with_reducible refine (CL.out _).mono ?_); rintro e' _ ⟨rfl, d4, os4, rfl⟩)))
           go_ret
           exact ⟨ret_bool zbs, zam⟩
       cases bS
       · rw [show txt2 zk zs false = zs.toList.isEmpty from by unfold txt2; rw [q3, q11]; rfl]
         cases qs : zs.toList.isEmpty
         all_goals
          go_enter Tryz.func90, Tryz.ntmps90
          go_wp2_with ((go_at_call 124; (with_reducible refine (NMT.out _).mono ?_); rintro e' _ ⟨rfl, d1, os1, rfl⟩))
          go_ret
          exact ⟨ret_bool zbs, zam⟩
       · rw [show txt2 zk zs true = NS from by unfold txt2; rw [q3, q11, hNS]; rfl]
         go_enter Tryz.func90, Tryz.ntmps90
         go_wp2_with (first | ((go_at_call 124; (with_reducible refine (NMT.out _).mono ?_); rintro e' _ ⟨rfl, d1, os1, rfl⟩)) | ((go_at_call 124; (with_reducible refine (NMS.out _).mono ?_); rintro e' _ ⟨rfl, d2, os2, rfl⟩)))
         go_ret
         exact ⟨ret_bool zbs, zam⟩
   · rw [Bool.not_true, Bool.false_and, Bool.false_and]
     go_enter Tryz.func90, Tryz.ntmps90
     go_wp2_with ((go_at_call 124; (with_reducible refine (NMT.out _).mono ?_); rintro e' _ ⟨rfl, d1, os1, rfl⟩))
     go_ret
     exact ⟨ret_bool zbs, zam⟩
end Go.Proofs.YtpoeknndkccbaaaGreat

namespace Go.Proofs.YtpoeknndkccbaaaGreat
open Go.RowKit
attribute [go_sem] more_more Array.size_append
theorem addB_id (A : Bool) (a : Int) (g : Nat → Nat) (h : A = true → a = -1) (j : Nat) : g j = addB A a g j := by
 unfold addB pone
 cases A
 · simp
 · rw [h rfl, if_pos rfl, if_neg zah]; rfl
theorem CkSt.idB {W : World} {c H : Nat} {nv : Value} {ns : List Nd} {fi : Int} {n : Nat} {g : Nat → Nat} {w : World} (h : CkSt W c H nv ns fi n g w) (A : Bool) (a : Int) (e : A = true → a = -1) : CkSt W c H nv ns fi n (addB A a g) w := h.congr fun j _ => addB_id A a g e j
theorem KB.alloc {k : Nat} {cs : Array Value} {T : TypeId} {w : World} (h : KB k cs T w) (b : Obj) : KB k cs T (w.alloc b) := h.of_ext ((Ext.refl w).alloc b)
theorem KB.more {k : Nat} {cs : Array Value} {T : TypeId} {w : World} (h : KB k cs T w) (d : Nat) (os : Array Obj) : KB k cs T (more w d os) := h.of_ext ((Ext.refl w).more d os)
theorem KB.newAt {k : Nat} (w : World) (cs : Array Value) (T : TypeId) (h : k = w.heap.size) : KB k cs T (w.alloc (.cells cs T (0, 0))) := by subst h; exact KB.new w cs T
def qcP (z : Nd) : Bool := qba z.k && numOk z.k z.c z.i && (txt1 z.t (shT z.k) && txt2 z.k z.s (shS z.k))
def aB (ns : List Nd) (i : Nat) (z : Nd) : Bool := if shA z.k = true then qae ns z.a 0 i false else z.a == -1
def bB (ns : List Nd) (i : Nat) (z : Nd) : Bool := if shB z.k = true then qae ns z.b 0 i false else if shBB z.k = true then blkB ns z.b i else z.b == -1
def cB (ns : List Nd) (i : Nat) (z : Nd) : Bool := z.c == -1 || (shBC z.k && blkB ns z.c i)
def xB (ns : List Nd) (i : Nat) (z : Nd) : Bool := z.x == -1 || (decide (20 ≤ z.k) && qae ns z.x ((i : Int) + 1) ns.length true)
def nodeB (ns : List Nd) (i : Nat) (z : Nd) : Bool := qcP z && (aB ns i z && bB ns i z && cB ns i z && xB ns i z)
end Go.Proofs.YtpoeknndkccbaaaGreat

namespace Go.Proofs.YtpoeknndkccbaaaGreat
open Go.RowKit
attribute [go_sem] more_more Array.size_append
set_option maxHeartbeats 16000000 in
set_option maxRecDepth 20000 in
theorem node_c0 {W : World} {c H : Nat} {nv : Value} {ns : List Nd} {fi : Int} {n : Nat} {g : Nat → Nat} {w : World} (h : CkSt W c H nv ns fi n g w) (j : Nat) (zk za zb zc zx zi : Int) (zs zt : ByteArray) (hz : ns[j]? = some ⟨zk, za, zb, zc, zx, zi, zs, zt⟩) (hs : zs.size ≤ maxLen) (hb : ∀ j, j < n → g j ≤ 8000) (hn : n ≤ 512)
  (k1 : qba zk = true) (k2 : numOk zk zc zi = true) (k3 : (txt1 zt (shT zk) && txt2 zk zs (shS zk)) = true) (sA : shA zk = false) (sB : shB zk = false) (sBB : shBB zk = false) (sBC : shBC zk = false) :
  Calls Tryz.prog 55 #[.pointer (some ⟨c, 0, none⟩), .int .i64 (j : Int)] w fun e w' => e = .returned (.bool ((za == -1) && (zb == -1) && (zc == -1) && (zx == -1 || (decide (20 ≤ zk) && qae ns zx ((j : Int) + 1) n true)))) ∧
   CkSt W c H nv ns fi n (addB (zx == -1 || (decide (20 ≤ zk) && qae ns zx ((j : Int) + 1) n true)) zx (addB (zc == -1) zc (addB (zb == -1) zb (addB (za == -1) za g)))) w' := by
 have hj : j < n := by have := (List.getElem?_eq_some_iff.1 hz).1; have := h.base.2.2.2; omega
 have hp : ∃ G cap, nv = .slice (some ⟨G, 0, none⟩) n cap := by
  rcases Go.Joins.ownsRow_forms h.row with ⟨_, h0⟩ | ⟨g1, c1, h0⟩
  · omega
  · exact ⟨g1, c1, h0⟩
 obtain ⟨G, cap, rfl⟩ := hp
 obtain ⟨a0, a1, a2, a3, a4, a5, a6, a7⟩ := nd_at h.row hz
 dsimp only at a0 a1 a2 a3 a4 a5 a6 a7
 have hG := (h.row.lt G rfl).2
 obtain ⟨c0, c1, c2, lc, lH⟩ := h.facts
 have HS0 := Lib.hid h
 have HB0 := Lib.hid hb
 have SH := Lib.hid (fun w1 => qaS zk w1)
 rw [k1, sA, sB, sBB, sBC] at SH
 have NM := Lib.hid (fun w1 => qbE zk za zb zc zx zi zs zt w1)
 rw [k2] at NM
 have TX := Lib.hid (fun w1 => qbF zk za zb zc zx zi zs zt hs false false false false (shS zk) (shT zk) w1)
 rw [k3] at TX
 obtain ⟨bS, hS⟩ : ∃ bS, shS zk = bS := ⟨_, rfl⟩
 obtain ⟨bT, hT⟩ : ∃ bT, shT zk = bT := ⟨_, rfl⟩
 rw [hS, hT] at SH TX
 have hj0 : 0 ≤ (j : Int) := by omega
 have hjn : (j : Int) < (n : Int) := by omega
 have hjs : (j : Int) ≤ (n : Int) := by omega
 have hn0 : (n : Int) ≤ 512 := by omega
 clear h hb hz hs k1 k2 k3 sA sB sBB sBC hS hT hj c1 c2
 have HNE := Lib.hid (show w.heap.size ≠ H from by omega)
 obtain ⟨A, hA⟩ : ∃ A, (za == -1) = A := ⟨_, rfl⟩
 obtain ⟨B, hBq⟩ : ∃ B, (zb == -1) = B := ⟨_, rfl⟩
 have HA := Lib.hid hA
 have HBq := Lib.hid hBq
 clear hA hBq
 have HLH := Lib.hid lH
 cases qc : (zc == -1)
 · go_enter Tryz.func55, Tryz.ntmps55
   go_wp2_with (first
    | ((go_at_call 88; (with_reducible refine (SH.out _).mono ?_); rintro e' _ ⟨rfl, d1, os1, rfl⟩))
    | ((go_at_call 89; (with_reducible refine (NM.out _).mono ?_); rintro e' _ ⟨rfl, d2, os2, rfl⟩))
    | ((go_at_call 90; (with_reducible refine (TX.out _).mono ?_); rintro e' _ ⟨rfl, d3, os3, rfl⟩)))
   have HS1 := Lib.hid (HS0.out.idB A za (by rw [← HA.out]; simp))
   have HB1 := Lib.hid (fun q hq => qad A za g q 8000 (HB0.out q hq))
   have HS2 := Lib.hid (HS1.out.idB B zb (by rw [← HBq.out]; simp))
   have HB2 := Lib.hid (fun q hq => qad B zb (addB A za g) q 8001 (HB1.out q hq))
   have HS3 := Lib.hid (HS2.out.idB false zc zbj)
   have HB3 := Lib.hid (fun q hq => qad false zc (addB B zb (addB A za g)) q 8002 (HB2.out q hq))
   cases qx : (zx == -1)
   rotate_left
   · have HXq := Lib.hid (show (zx == -1 || (decide (20 ≤ zk) && qae ns zx ((j : Int) + 1) n true)) = true from by rw [qx, Bool.true_or])
     have HS4 := Lib.hid (HS3.out.idB true zx (fun _ => by simpa using qx))
     have HB4 := Lib.hid (fun q hq => qad true zx (addB false zc (addB B zb (addB A za g))) q 8003 (HB3.out q hq))
     refine qaa 19 114 [false, false, false, false, false, false, false, false, false, false, false, false, false, false, false, false, false, false, false] zad zad rfl ?_
     simp only [List.take_succ_cons, List.take_zero, List.drop_succ_cons, List.drop_zero]
     repeat (refine Lex.step rfl ?_; intro K hK; unfold StepG; go_simp; (first
       | refine hK _ ?_); clear hK K)
     refine Lex.nil fun WW hE => ?_
     obtain ⟨dd, oo, rfl⟩ := hE
     unfold FillH
     go_wp2_with fail
     try rw [ends_normal]
     try go_wp2_with fail
     all_goals
      go_ret
      exact ⟨ret_bool zaa, by rw [HA.out, HBq.out, HXq.out]; exact (show CkSt W c H (.slice (some ⟨G, 0, none⟩) n cap) ns fi n (addB true zx (addB false zc (addB B zb (addB A za g)))) _ from zai)⟩
   by_cases hz20 : 20 ≤ zk
   rotate_left
   · have HXq := Lib.hid (show (zx == -1 || (decide (20 ≤ zk) && qae ns zx ((j : Int) + 1) n true)) = false from by rw [qx, decide_eq_false hz20]; rfl)
     have hzd : decide (20 ≤ zk) = false := decide_eq_false hz20
     have HS4 := Lib.hid (HS3.out.idB false zx zbj)
     have HB4 := Lib.hid (fun q hq => qad false zx (addB false zc (addB B zb (addB A za g))) q 8003 (HB3.out q hq))
     refine qaa 19 114 [false, false, false, false, false, false, false, false, false, false, false, false, false, false, false, false, false, false, false] zad zad rfl ?_
     simp only [List.take_succ_cons, List.take_zero, List.drop_succ_cons, List.drop_zero]
     repeat (refine Lex.step rfl ?_; intro K hK; unfold StepG; go_simp; (first
       | refine hK _ ?_); clear hK K)
     refine Lex.nil fun WW hE => ?_
     obtain ⟨dd, oo, rfl⟩ := hE
     unfold FillH
     go_wp2_with fail
     try rw [ends_normal]
     try go_wp2_with fail
     all_goals
      go_ret
      exact ⟨ret_bool zaa, by rw [HA.out, HBq.out, HXq.out]; exact (show CkSt W c H (.slice (some ⟨G, 0, none⟩) n cap) ns fi n (addB false zx (addB false zc (addB B zb (addB A za g)))) _ from zai)⟩
   · obtain ⟨X, hX⟩ : ∃ X, qae ns zx ((j : Int) + 1) n true = X := ⟨_, rfl⟩
     have HXq := Lib.hid (show (zx == -1 || (decide (20 ≤ zk) && qae ns zx ((j : Int) + 1) n true)) = X from by rw [qx, decide_eq_true hz20, hX]; rfl)
     have HXr := Lib.hid hX
     have hzd : decide (20 ≤ zk) = true := decide_eq_true hz20
     clear hX
     refine qaa 19 114 [false, false, false, false, false, false, false, false, false, false, false, false, false, false, false, false, false, false, false] zad zad rfl ?_
     simp only [List.take_succ_cons, List.take_zero, List.drop_succ_cons, List.drop_zero]
     repeat (refine Lex.step rfl ?_; intro K hK; unfold StepG; go_simp; (first
       | refine hK _ ?_); clear hK K)
     refine Lex.nil fun WW hE => ?_
     obtain ⟨dd, oo, rfl⟩ := hE
     unfold FillH
     go_wp2_with fail
     refine (qak (show CkSt W c H (.slice (some ⟨G, 0, none⟩) n cap) ns fi n (addB false zc (addB B zb (addB A za g))) _ from zba) zx ((j : Int) + 1) (n : Int) true zah zah (fun q hq => Nat.le_trans (HB3.out q hq) zah)).mono ?_
     rintro e4 w4 ⟨rfl, hck, hfr⟩
     rw [HXr.out] at hck ⊢
     have HS4 := Lib.hid hck
     have K5 := Lib.hid (KB.kept (show KB w.heap.size #[.int .i64 zk, .int .i64 za, .int .i64 zb, .int .i64 zc, .int .i64 zx, .int .i64 zi, .string zs, .string zt] 42 _ from zbv) hfr HNE.out)
     have K6 := Lib.hid (KB.kept (show KB (w.heap.size + 1 + os1.size) #[.bool false, .bool false, .bool false, .bool false, .bool bS, .bool bT] 137 _ from zbk) hfr (show w.heap.size + 1 + os1.size ≠ H from by have := HLH.out; omega))
     clear hck hfr
     have HN6 := Lib.hid (show w.heap.size + 1 + os1.size ≠ H from by have := HLH.out; omega)
     have HN5 := Lib.hid HNE.out
     obtain ⟨k6, hk6⟩ : ∃ k6, w.heap.size + 1 + os1.size = k6 := ⟨_, rfl⟩
     rw [hk6] at K6 HN6 ⊢
     obtain ⟨k5, hk5⟩ : ∃ k5, w.heap.size = k5 := ⟨_, rfl⟩
     rw [hk5] at K5 HN5 ⊢
     clear hk5 hk6 a0 a1 a2 a3 a4 a5 a6 a7 hG
     clear c0 lc lH
     obtain ⟨c0, c1, c2, lc, lH⟩ := HS4.out.facts
     clear c1 c2
     have n0 := K5.out.cell 0 _ rfl
     have n1 := K5.out.cell 1 _ rfl
     have n2 := K5.out.cell 2 _ rfl
     have n3 := K5.out.cell 3 _ rfl
     have n4 := K5.out.cell 4 _ rfl
     have l5 := K5.out.lt
     have s0 := K6.out.cell 0 _ rfl
     have s1 := K6.out.cell 1 _ rfl
     have s2 := K6.out.cell 2 _ rfl
     have s3 := K6.out.cell 3 _ rfl
     have l6 := K6.out.lt
     have HB4 := Lib.hid (fun q hq => qad X zx (addB false zc (addB B zb (addB A za g))) q 8003 (HB3.out q hq))
     go_wp2_with fail
     try rw [ends_normal]
     try go_wp2_with fail
     all_goals
      go_ret
      exact ⟨ret_bool zaa, by rw [HA.out, HBq.out, HXq.out]; exact (show CkSt W c H (.slice (some ⟨G, 0, none⟩) n cap) ns fi n (addB X zx (addB false zc (addB B zb (addB A za g)))) _ from zai)⟩
 · go_enter Tryz.func55, Tryz.ntmps55
   go_wp2_with (first
    | ((go_at_call 88; (with_reducible refine (SH.out _).mono ?_); rintro e' _ ⟨rfl, d1, os1, rfl⟩))
    | ((go_at_call 89; (with_reducible refine (NM.out _).mono ?_); rintro e' _ ⟨rfl, d2, os2, rfl⟩))
    | ((go_at_call 90; (with_reducible refine (TX.out _).mono ?_); rintro e' _ ⟨rfl, d3, os3, rfl⟩)))
   have HS1 := Lib.hid (HS0.out.idB A za (by rw [← HA.out]; simp))
   have HB1 := Lib.hid (fun q hq => qad A za g q 8000 (HB0.out q hq))
   have HS2 := Lib.hid (HS1.out.idB B zb (by rw [← HBq.out]; simp))
   have HB2 := Lib.hid (fun q hq => qad B zb (addB A za g) q 8001 (HB1.out q hq))
   have HS3 := Lib.hid (HS2.out.idB true zc (fun _ => by simpa using qc))
   have HB3 := Lib.hid (fun q hq => qad true zc (addB B zb (addB A za g)) q 8002 (HB2.out q hq))
   cases qx : (zx == -1)
   rotate_left
   · have HXq := Lib.hid (show (zx == -1 || (decide (20 ≤ zk) && qae ns zx ((j : Int) + 1) n true)) = true from by rw [qx, Bool.true_or])
     have HS4 := Lib.hid (HS3.out.idB true zx (fun _ => by simpa using qx))
     have HB4 := Lib.hid (fun q hq => qad true zx (addB true zc (addB B zb (addB A za g))) q 8003 (HB3.out q hq))
     refine qaa 19 114 [false, false, false, false, false, false, false, false, false, false, false, false, false, false, false, false, false, false, false] zad zad rfl ?_
     simp only [List.take_succ_cons, List.take_zero, List.drop_succ_cons, List.drop_zero]
     repeat (refine Lex.step rfl ?_; intro K hK; unfold StepG; go_simp; (first
       | refine hK _ ?_); clear hK K)
     refine Lex.nil fun WW hE => ?_
     obtain ⟨dd, oo, rfl⟩ := hE
     unfold FillH
     go_wp2_with fail
     try rw [ends_normal]
     try go_wp2_with fail
     all_goals
      go_ret
      exact ⟨ret_bool zaa, by rw [HA.out, HBq.out, HXq.out]; exact (show CkSt W c H (.slice (some ⟨G, 0, none⟩) n cap) ns fi n (addB true zx (addB true zc (addB B zb (addB A za g)))) _ from zai)⟩
   by_cases hz20 : 20 ≤ zk
   rotate_left
   · have HXq := Lib.hid (show (zx == -1 || (decide (20 ≤ zk) && qae ns zx ((j : Int) + 1) n true)) = false from by rw [qx, decide_eq_false hz20]; rfl)
     have hzd : decide (20 ≤ zk) = false := decide_eq_false hz20
     have HS4 := Lib.hid (HS3.out.idB false zx zbj)
     have HB4 := Lib.hid (fun q hq => qad false zx (addB true zc (addB B zb (addB A za g))) q 8003 (HB3.out q hq))
     refine qaa 19 114 [false, false, false, false, false, false, false, false, false, false, false, false, false, false, false, false, false, false, false] zad zad rfl ?_
     simp only [List.take_succ_cons, List.take_zero, List.drop_succ_cons, List.drop_zero]
     repeat (refine Lex.step rfl ?_; intro K hK; unfold StepG; go_simp; (first
       | refine hK _ ?_); clear hK K)
     refine Lex.nil fun WW hE => ?_
     obtain ⟨dd, oo, rfl⟩ := hE
     unfold FillH
     go_wp2_with fail
     try rw [ends_normal]
     try go_wp2_with fail
     all_goals
      go_ret
      exact ⟨ret_bool zaa, by rw [HA.out, HBq.out, HXq.out]; exact (show CkSt W c H (.slice (some ⟨G, 0, none⟩) n cap) ns fi n (addB false zx (addB true zc (addB B zb (addB A za g)))) _ from zai)⟩
   · obtain ⟨X, hX⟩ : ∃ X, qae ns zx ((j : Int) + 1) n true = X := ⟨_, rfl⟩
     have HXq := Lib.hid (show (zx == -1 || (decide (20 ≤ zk) && qae ns zx ((j : Int) + 1) n true)) = X from by rw [qx, decide_eq_true hz20, hX]; rfl)
     have HXr := Lib.hid hX
     have hzd : decide (20 ≤ zk) = true := decide_eq_true hz20
     clear hX
     refine qaa 19 114 [false, false, false, false, false, false, false, false, false, false, false, false, false, false, false, false, false, false, false] zad zad rfl ?_
     simp only [List.take_succ_cons, List.take_zero, List.drop_succ_cons, List.drop_zero]
     repeat (refine Lex.step rfl ?_; intro K hK; unfold StepG; go_simp; (first
       | refine hK _ ?_); clear hK K)
     refine Lex.nil fun WW hE => ?_
     obtain ⟨dd, oo, rfl⟩ := hE
     unfold FillH
     go_wp2_with fail
     refine (qak (show CkSt W c H (.slice (some ⟨G, 0, none⟩) n cap) ns fi n (addB true zc (addB B zb (addB A za g))) _ from zba) zx ((j : Int) + 1) (n : Int) true zah zah (fun q hq => Nat.le_trans (HB3.out q hq) zah)).mono ?_
     rintro e4 w4 ⟨rfl, hck, hfr⟩
     rw [HXr.out] at hck ⊢
     have HS4 := Lib.hid hck
     have K5 := Lib.hid (KB.kept (show KB w.heap.size #[.int .i64 zk, .int .i64 za, .int .i64 zb, .int .i64 zc, .int .i64 zx, .int .i64 zi, .string zs, .string zt] 42 _ from zbv) hfr HNE.out)
     have K6 := Lib.hid (KB.kept (show KB (w.heap.size + 1 + os1.size) #[.bool false, .bool false, .bool false, .bool false, .bool bS, .bool bT] 137 _ from zbk) hfr (show w.heap.size + 1 + os1.size ≠ H from by have := HLH.out; omega))
     clear hck hfr
     have HN6 := Lib.hid (show w.heap.size + 1 + os1.size ≠ H from by have := HLH.out; omega)
     have HN5 := Lib.hid HNE.out
     obtain ⟨k6, hk6⟩ : ∃ k6, w.heap.size + 1 + os1.size = k6 := ⟨_, rfl⟩
     rw [hk6] at K6 HN6 ⊢
     obtain ⟨k5, hk5⟩ : ∃ k5, w.heap.size = k5 := ⟨_, rfl⟩
     rw [hk5] at K5 HN5 ⊢
     clear hk5 hk6 a0 a1 a2 a3 a4 a5 a6 a7 hG
     clear c0 lc lH
     obtain ⟨c0, c1, c2, lc, lH⟩ := HS4.out.facts
     clear c1 c2
     have n0 := K5.out.cell 0 _ rfl
     have n1 := K5.out.cell 1 _ rfl
     have n2 := K5.out.cell 2 _ rfl
     have n3 := K5.out.cell 3 _ rfl
     have n4 := K5.out.cell 4 _ rfl
     have l5 := K5.out.lt
     have s0 := K6.out.cell 0 _ rfl
     have s1 := K6.out.cell 1 _ rfl
     have s2 := K6.out.cell 2 _ rfl
     have s3 := K6.out.cell 3 _ rfl
     have l6 := K6.out.lt
     have HB4 := Lib.hid (fun q hq => qad X zx (addB true zc (addB B zb (addB A za g))) q 8003 (HB3.out q hq))
     go_wp2_with fail
     try rw [ends_normal]
     try go_wp2_with fail
     all_goals
      go_ret
      exact ⟨ret_bool zaa, by rw [HA.out, HBq.out, HXq.out]; exact (show CkSt W c H (.slice (some ⟨G, 0, none⟩) n cap) ns fi n (addB X zx (addB true zc (addB B zb (addB A za g)))) _ from zai)⟩
set_option maxHeartbeats 16000000 in
set_option maxRecDepth 20000 in
theorem node_c1 {W : World} {c H : Nat} {nv : Value} {ns : List Nd} {fi : Int} {n : Nat} {g : Nat → Nat} {w : World} (h : CkSt W c H nv ns fi n g w) (j : Nat) (zk za zb zc zx zi : Int) (zs zt : ByteArray) (hz : ns[j]? = some ⟨zk, za, zb, zc, zx, zi, zs, zt⟩) (hs : zs.size ≤ maxLen) (hb : ∀ j, j < n → g j ≤ 8000) (hn : n ≤ 512)
  (k1 : qba zk = true) (k2 : numOk zk zc zi = true) (k3 : (txt1 zt (shT zk) && txt2 zk zs (shS zk)) = true) (sA : shA zk = true) (sB : shB zk = false) (sBB : shBB zk = false) (sBC : shBC zk = false) :
  Calls Tryz.prog 55 #[.pointer (some ⟨c, 0, none⟩), .int .i64 (j : Int)] w fun e w' => e = .returned (.bool ((qae ns za 0 j false) && (zb == -1) && (zc == -1) && (zx == -1 || (decide (20 ≤ zk) && qae ns zx ((j : Int) + 1) n true)))) ∧
   CkSt W c H nv ns fi n (addB (zx == -1 || (decide (20 ≤ zk) && qae ns zx ((j : Int) + 1) n true)) zx (addB (zc == -1) zc (addB (zb == -1) zb (addB (qae ns za 0 j false) za g)))) w' := by
 have hj : j < n := by have := (List.getElem?_eq_some_iff.1 hz).1; have := h.base.2.2.2; omega
 have hp : ∃ G cap, nv = .slice (some ⟨G, 0, none⟩) n cap := by
  rcases Go.Joins.ownsRow_forms h.row with ⟨_, h0⟩ | ⟨g1, c1, h0⟩
  · omega
  · exact ⟨g1, c1, h0⟩
 obtain ⟨G, cap, rfl⟩ := hp
 obtain ⟨a0, a1, a2, a3, a4, a5, a6, a7⟩ := nd_at h.row hz
 dsimp only at a0 a1 a2 a3 a4 a5 a6 a7
 have hG := (h.row.lt G rfl).2
 obtain ⟨c0, c1, c2, lc, lH⟩ := h.facts
 have HS0 := Lib.hid h
 have HB0 := Lib.hid hb
 have SH := Lib.hid (fun w1 => qaS zk w1)
 rw [k1, sA, sB, sBB, sBC] at SH
 have NM := Lib.hid (fun w1 => qbE zk za zb zc zx zi zs zt w1)
 rw [k2] at NM
 have TX := Lib.hid (fun w1 => qbF zk za zb zc zx zi zs zt hs true false false false (shS zk) (shT zk) w1)
 rw [k3] at TX
 obtain ⟨bS, hS⟩ : ∃ bS, shS zk = bS := ⟨_, rfl⟩
 obtain ⟨bT, hT⟩ : ∃ bT, shT zk = bT := ⟨_, rfl⟩
 rw [hS, hT] at SH TX
 have hj0 : 0 ≤ (j : Int) := by omega
 have hjn : (j : Int) < (n : Int) := by omega
 have hjs : (j : Int) ≤ (n : Int) := by omega
 have hn0 : (n : Int) ≤ 512 := by omega
 clear h hb hz hs k1 k2 k3 sA sB sBB sBC hS hT hj c1 c2
 have HNE := Lib.hid (show w.heap.size ≠ H from by omega)
 obtain ⟨A, hA⟩ : ∃ A, (qae ns za 0 j false) = A := ⟨_, rfl⟩
 obtain ⟨B, hBq⟩ : ∃ B, (zb == -1) = B := ⟨_, rfl⟩
 have HA := Lib.hid hA
 have HBq := Lib.hid hBq
 clear hA hBq
 have HLH := Lib.hid lH
 cases qc : (zc == -1)
 · go_enter Tryz.func55, Tryz.ntmps55
   go_wp2_with (first
    | ((go_at_call 88; (with_reducible refine (SH.out _).mono ?_); rintro e' _ ⟨rfl, d1, os1, rfl⟩))
    | ((go_at_call 89; (with_reducible refine (NM.out _).mono ?_); rintro e' _ ⟨rfl, d2, os2, rfl⟩))
    | ((go_at_call 90; (with_reducible refine (TX.out _).mono ?_); rintro e' _ ⟨rfl, d3, os3, rfl⟩)))
   refine (qak (show CkSt W c H (.slice (some ⟨G, 0, none⟩) n cap) ns fi n g _ from zbc) za 0 (j : Int) false zah hjs (fun q hq => Nat.le_trans (HB0.out q hq) zah)).mono ?_
   rintro e1 w1 ⟨rfl, hck, hfr⟩
   rw [HA.out] at hck ⊢
   have HS1 := Lib.hid hck
   have K5 := Lib.hid (KB.kept (show KB w.heap.size #[.int .i64 zk, .int .i64 za, .int .i64 zb, .int .i64 zc, .int .i64 zx, .int .i64 zi, .string zs, .string zt] 42 _ from zbv) hfr HNE.out)
   have K6 := Lib.hid (KB.kept (show KB (w.heap.size + 1 + os1.size) #[.bool true, .bool false, .bool false, .bool false, .bool bS, .bool bT] 137 _ from zbk) hfr (show w.heap.size + 1 + os1.size ≠ H from by have := HLH.out; omega))
   clear hck hfr
   have HN6 := Lib.hid (show w.heap.size + 1 + os1.size ≠ H from by have := HLH.out; omega)
   have HN5 := Lib.hid HNE.out
   obtain ⟨k6, hk6⟩ : ∃ k6, w.heap.size + 1 + os1.size = k6 := ⟨_, rfl⟩
   rw [hk6] at K6 HN6 ⊢
   obtain ⟨k5, hk5⟩ : ∃ k5, w.heap.size = k5 := ⟨_, rfl⟩
   rw [hk5] at K5 HN5 ⊢
   clear hk5 hk6 a0 a1 a2 a3 a4 a5 a6 a7 hG
   clear c0 lc lH
   obtain ⟨c0, c1, c2, lc, lH⟩ := HS1.out.facts
   clear c1 c2
   have n0 := K5.out.cell 0 _ rfl
   have n1 := K5.out.cell 1 _ rfl
   have n2 := K5.out.cell 2 _ rfl
   have n3 := K5.out.cell 3 _ rfl
   have n4 := K5.out.cell 4 _ rfl
   have l5 := K5.out.lt
   have s0 := K6.out.cell 0 _ rfl
   have s1 := K6.out.cell 1 _ rfl
   have s2 := K6.out.cell 2 _ rfl
   have s3 := K6.out.cell 3 _ rfl
   have l6 := K6.out.lt
   have HB1 := Lib.hid (fun q hq => qad A za g q 8000 (HB0.out q hq))
   go_wp2_with fail
   have HS2 := Lib.hid (HS1.out.idB B zb (by rw [← HBq.out]; simp))
   have HB2 := Lib.hid (fun q hq => qad B zb (addB A za g) q 8001 (HB1.out q hq))
   have HS3 := Lib.hid (HS2.out.idB false zc zbj)
   have HB3 := Lib.hid (fun q hq => qad false zc (addB B zb (addB A za g)) q 8002 (HB2.out q hq))
   cases qx : (zx == -1)
   rotate_left
   · have HXq := Lib.hid (show (zx == -1 || (decide (20 ≤ zk) && qae ns zx ((j : Int) + 1) n true)) = true from by rw [qx, Bool.true_or])
     have HS4 := Lib.hid (HS3.out.idB true zx (fun _ => by simpa using qx))
     have HB4 := Lib.hid (fun q hq => qad true zx (addB false zc (addB B zb (addB A za g))) q 8003 (HB3.out q hq))
     refine qaa 19 114 [false, false, false, false, false, false, false, false, false, false, false, false, false, false, false, false, false, false, false] zad zad rfl ?_
     simp only [List.take_succ_cons, List.take_zero, List.drop_succ_cons, List.drop_zero]
     repeat (refine Lex.step rfl ?_; intro K hK; unfold StepG; go_simp; (first
       | refine hK _ ?_); clear hK K)
     refine Lex.nil fun WW hE => ?_
     obtain ⟨dd, oo, rfl⟩ := hE
     unfold FillH
     go_wp2_with fail
     try rw [ends_normal]
     try go_wp2_with fail
     all_goals
      go_ret
      exact ⟨ret_bool zaa, by rw [HA.out, HBq.out, HXq.out]; exact (show CkSt W c H (.slice (some ⟨G, 0, none⟩) n cap) ns fi n (addB true zx (addB false zc (addB B zb (addB A za g)))) _ from zai)⟩
   by_cases hz20 : 20 ≤ zk
   rotate_left
   · have HXq := Lib.hid (show (zx == -1 || (decide (20 ≤ zk) && qae ns zx ((j : Int) + 1) n true)) = false from by rw [qx, decide_eq_false hz20]; rfl)
     have hzd : decide (20 ≤ zk) = false := decide_eq_false hz20
     have HS4 := Lib.hid (HS3.out.idB false zx zbj)
     have HB4 := Lib.hid (fun q hq => qad false zx (addB false zc (addB B zb (addB A za g))) q 8003 (HB3.out q hq))
     refine qaa 19 114 [false, false, false, false, false, false, false, false, false, false, false, false, false, false, false, false, false, false, false] zad zad rfl ?_
     simp only [List.take_succ_cons, List.take_zero, List.drop_succ_cons, List.drop_zero]
     repeat (refine Lex.step rfl ?_; intro K hK; unfold StepG; go_simp; (first
       | refine hK _ ?_); clear hK K)
     refine Lex.nil fun WW hE => ?_
     obtain ⟨dd, oo, rfl⟩ := hE
     unfold FillH
     go_wp2_with fail
     try rw [ends_normal]
     try go_wp2_with fail
     all_goals
      go_ret
      exact ⟨ret_bool zaa, by rw [HA.out, HBq.out, HXq.out]; exact (show CkSt W c H (.slice (some ⟨G, 0, none⟩) n cap) ns fi n (addB false zx (addB false zc (addB B zb (addB A za g)))) _ from zai)⟩
   · obtain ⟨X, hX⟩ : ∃ X, qae ns zx ((j : Int) + 1) n true = X := ⟨_, rfl⟩
     have HXq := Lib.hid (show (zx == -1 || (decide (20 ≤ zk) && qae ns zx ((j : Int) + 1) n true)) = X from by rw [qx, decide_eq_true hz20, hX]; rfl)
     have HXr := Lib.hid hX
     have hzd : decide (20 ≤ zk) = true := decide_eq_true hz20
     clear hX
     refine qaa 19 114 [false, false, false, false, false, false, false, false, false, false, false, false, false, false, false, false, false, false, false] zad zad rfl ?_
     simp only [List.take_succ_cons, List.take_zero, List.drop_succ_cons, List.drop_zero]
     repeat (refine Lex.step rfl ?_; intro K hK; unfold StepG; go_simp; (first
       | refine hK _ ?_); clear hK K)
     refine Lex.nil fun WW hE => ?_
     obtain ⟨dd, oo, rfl⟩ := hE
     unfold FillH
     go_wp2_with fail
     refine (qak (show CkSt W c H (.slice (some ⟨G, 0, none⟩) n cap) ns fi n (addB false zc (addB B zb (addB A za g))) _ from zba) zx ((j : Int) + 1) (n : Int) true zah zah (fun q hq => Nat.le_trans (HB3.out q hq) zah)).mono ?_
     rintro e4 w4 ⟨rfl, hck, hfr⟩
     rw [HXr.out] at hck ⊢
     have HS4 := Lib.hid hck
     have K5 := Lib.hid (KB.kept (show KB k5 #[.int .i64 zk, .int .i64 za, .int .i64 zb, .int .i64 zc, .int .i64 zx, .int .i64 zi, .string zs, .string zt] 42 _ from zbn) hfr HN5.out)
     have K6 := Lib.hid (KB.kept (show KB k6 #[.bool true, .bool false, .bool false, .bool false, .bool bS, .bool bT] 137 _ from zbo) hfr HN6.out)
     clear hck hfr
     clear c0 lc lH
     obtain ⟨c0, c1, c2, lc, lH⟩ := HS4.out.facts
     clear c1 c2
     clear n0 n1 n2 n3 n4 l5 s0 s1 s2 s3 l6
     have n0 := K5.out.cell 0 _ rfl
     have n1 := K5.out.cell 1 _ rfl
     have n2 := K5.out.cell 2 _ rfl
     have n3 := K5.out.cell 3 _ rfl
     have n4 := K5.out.cell 4 _ rfl
     have l5 := K5.out.lt
     have s0 := K6.out.cell 0 _ rfl
     have s1 := K6.out.cell 1 _ rfl
     have s2 := K6.out.cell 2 _ rfl
     have s3 := K6.out.cell 3 _ rfl
     have l6 := K6.out.lt
     have HB4 := Lib.hid (fun q hq => qad X zx (addB false zc (addB B zb (addB A za g))) q 8003 (HB3.out q hq))
     go_wp2_with fail
     try rw [ends_normal]
     try go_wp2_with fail
     all_goals
      go_ret
      exact ⟨ret_bool zaa, by rw [HA.out, HBq.out, HXq.out]; exact (show CkSt W c H (.slice (some ⟨G, 0, none⟩) n cap) ns fi n (addB X zx (addB false zc (addB B zb (addB A za g)))) _ from zai)⟩
 · go_enter Tryz.func55, Tryz.ntmps55
   go_wp2_with (first
    | ((go_at_call 88; (with_reducible refine (SH.out _).mono ?_); rintro e' _ ⟨rfl, d1, os1, rfl⟩))
    | ((go_at_call 89; (with_reducible refine (NM.out _).mono ?_); rintro e' _ ⟨rfl, d2, os2, rfl⟩))
    | ((go_at_call 90; (with_reducible refine (TX.out _).mono ?_); rintro e' _ ⟨rfl, d3, os3, rfl⟩)))
   refine (qak (show CkSt W c H (.slice (some ⟨G, 0, none⟩) n cap) ns fi n g _ from zbc) za 0 (j : Int) false zah hjs (fun q hq => Nat.le_trans (HB0.out q hq) zah)).mono ?_
   rintro e1 w1 ⟨rfl, hck, hfr⟩
   rw [HA.out] at hck ⊢
   have HS1 := Lib.hid hck
   have K5 := Lib.hid (KB.kept (show KB w.heap.size #[.int .i64 zk, .int .i64 za, .int .i64 zb, .int .i64 zc, .int .i64 zx, .int .i64 zi, .string zs, .string zt] 42 _ from zbv) hfr HNE.out)
   have K6 := Lib.hid (KB.kept (show KB (w.heap.size + 1 + os1.size) #[.bool true, .bool false, .bool false, .bool false, .bool bS, .bool bT] 137 _ from zbk) hfr (show w.heap.size + 1 + os1.size ≠ H from by have := HLH.out; omega))
   clear hck hfr
   have HN6 := Lib.hid (show w.heap.size + 1 + os1.size ≠ H from by have := HLH.out; omega)
   have HN5 := Lib.hid HNE.out
   obtain ⟨k6, hk6⟩ : ∃ k6, w.heap.size + 1 + os1.size = k6 := ⟨_, rfl⟩
   rw [hk6] at K6 HN6 ⊢
   obtain ⟨k5, hk5⟩ : ∃ k5, w.heap.size = k5 := ⟨_, rfl⟩
   rw [hk5] at K5 HN5 ⊢
   clear hk5 hk6 a0 a1 a2 a3 a4 a5 a6 a7 hG
   clear c0 lc lH
   obtain ⟨c0, c1, c2, lc, lH⟩ := HS1.out.facts
   clear c1 c2
   have n0 := K5.out.cell 0 _ rfl
   have n1 := K5.out.cell 1 _ rfl
   have n2 := K5.out.cell 2 _ rfl
   have n3 := K5.out.cell 3 _ rfl
   have n4 := K5.out.cell 4 _ rfl
   have l5 := K5.out.lt
   have s0 := K6.out.cell 0 _ rfl
   have s1 := K6.out.cell 1 _ rfl
   have s2 := K6.out.cell 2 _ rfl
   have s3 := K6.out.cell 3 _ rfl
   have l6 := K6.out.lt
   have HB1 := Lib.hid (fun q hq => qad A za g q 8000 (HB0.out q hq))
   go_wp2_with fail
   have HS2 := Lib.hid (HS1.out.idB B zb (by rw [← HBq.out]; simp))
   have HB2 := Lib.hid (fun q hq => qad B zb (addB A za g) q 8001 (HB1.out q hq))
   have HS3 := Lib.hid (HS2.out.idB true zc (fun _ => by simpa using qc))
   have HB3 := Lib.hid (fun q hq => qad true zc (addB B zb (addB A za g)) q 8002 (HB2.out q hq))
   cases qx : (zx == -1)
   rotate_left
   · have HXq := Lib.hid (show (zx == -1 || (decide (20 ≤ zk) && qae ns zx ((j : Int) + 1) n true)) = true from by rw [qx, Bool.true_or])
     have HS4 := Lib.hid (HS3.out.idB true zx (fun _ => by simpa using qx))
     have HB4 := Lib.hid (fun q hq => qad true zx (addB true zc (addB B zb (addB A za g))) q 8003 (HB3.out q hq))
     refine qaa 19 114 [false, false, false, false, false, false, false, false, false, false, false, false, false, false, false, false, false, false, false] zad zad rfl ?_
     simp only [List.take_succ_cons, List.take_zero, List.drop_succ_cons, List.drop_zero]
     repeat (refine Lex.step rfl ?_; intro K hK; unfold StepG; go_simp; (first
       | refine hK _ ?_); clear hK K)
     refine Lex.nil fun WW hE => ?_
     obtain ⟨dd, oo, rfl⟩ := hE
     unfold FillH
     go_wp2_with fail
     try rw [ends_normal]
     try go_wp2_with fail
     all_goals
      go_ret
      exact ⟨ret_bool zaa, by rw [HA.out, HBq.out, HXq.out]; exact (show CkSt W c H (.slice (some ⟨G, 0, none⟩) n cap) ns fi n (addB true zx (addB true zc (addB B zb (addB A za g)))) _ from zai)⟩
   by_cases hz20 : 20 ≤ zk
   rotate_left
   · have HXq := Lib.hid (show (zx == -1 || (decide (20 ≤ zk) && qae ns zx ((j : Int) + 1) n true)) = false from by rw [qx, decide_eq_false hz20]; rfl)
     have hzd : decide (20 ≤ zk) = false := decide_eq_false hz20
     have HS4 := Lib.hid (HS3.out.idB false zx zbj)
     have HB4 := Lib.hid (fun q hq => qad false zx (addB true zc (addB B zb (addB A za g))) q 8003 (HB3.out q hq))
     refine qaa 19 114 [false, false, false, false, false, false, false, false, false, false, false, false, false, false, false, false, false, false, false] zad zad rfl ?_
     simp only [List.take_succ_cons, List.take_zero, List.drop_succ_cons, List.drop_zero]
     repeat (refine Lex.step rfl ?_; intro K hK; unfold StepG; go_simp; (first
       | refine hK _ ?_); clear hK K)
     refine Lex.nil fun WW hE => ?_
     obtain ⟨dd, oo, rfl⟩ := hE
     unfold FillH
     go_wp2_with fail
     try rw [ends_normal]
     try go_wp2_with fail
     all_goals
      go_ret
      exact ⟨ret_bool zaa, by rw [HA.out, HBq.out, HXq.out]; exact (show CkSt W c H (.slice (some ⟨G, 0, none⟩) n cap) ns fi n (addB false zx (addB true zc (addB B zb (addB A za g)))) _ from zai)⟩
   · obtain ⟨X, hX⟩ : ∃ X, qae ns zx ((j : Int) + 1) n true = X := ⟨_, rfl⟩
     have HXq := Lib.hid (show (zx == -1 || (decide (20 ≤ zk) && qae ns zx ((j : Int) + 1) n true)) = X from by rw [qx, decide_eq_true hz20, hX]; rfl)
     have HXr := Lib.hid hX
     have hzd : decide (20 ≤ zk) = true := decide_eq_true hz20
     clear hX
     refine qaa 19 114 [false, false, false, false, false, false, false, false, false, false, false, false, false, false, false, false, false, false, false] zad zad rfl ?_
     simp only [List.take_succ_cons, List.take_zero, List.drop_succ_cons, List.drop_zero]
     repeat (refine Lex.step rfl ?_; intro K hK; unfold StepG; go_simp; (first
       | refine hK _ ?_); clear hK K)
     refine Lex.nil fun WW hE => ?_
     obtain ⟨dd, oo, rfl⟩ := hE
     unfold FillH
     go_wp2_with fail
     refine (qak (show CkSt W c H (.slice (some ⟨G, 0, none⟩) n cap) ns fi n (addB true zc (addB B zb (addB A za g))) _ from zba) zx ((j : Int) + 1) (n : Int) true zah zah (fun q hq => Nat.le_trans (HB3.out q hq) zah)).mono ?_
     rintro e4 w4 ⟨rfl, hck, hfr⟩
     rw [HXr.out] at hck ⊢
     have HS4 := Lib.hid hck
     have K5 := Lib.hid (KB.kept (show KB k5 #[.int .i64 zk, .int .i64 za, .int .i64 zb, .int .i64 zc, .int .i64 zx, .int .i64 zi, .string zs, .string zt] 42 _ from zbn) hfr HN5.out)
     have K6 := Lib.hid (KB.kept (show KB k6 #[.bool true, .bool false, .bool false, .bool false, .bool bS, .bool bT] 137 _ from zbo) hfr HN6.out)
     clear hck hfr
     clear c0 lc lH
     obtain ⟨c0, c1, c2, lc, lH⟩ := HS4.out.facts
     clear c1 c2
     clear n0 n1 n2 n3 n4 l5 s0 s1 s2 s3 l6
     have n0 := K5.out.cell 0 _ rfl
     have n1 := K5.out.cell 1 _ rfl
     have n2 := K5.out.cell 2 _ rfl
     have n3 := K5.out.cell 3 _ rfl
     have n4 := K5.out.cell 4 _ rfl
     have l5 := K5.out.lt
     have s0 := K6.out.cell 0 _ rfl
     have s1 := K6.out.cell 1 _ rfl
     have s2 := K6.out.cell 2 _ rfl
     have s3 := K6.out.cell 3 _ rfl
     have l6 := K6.out.lt
     have HB4 := Lib.hid (fun q hq => qad X zx (addB true zc (addB B zb (addB A za g))) q 8003 (HB3.out q hq))
     go_wp2_with fail
     try rw [ends_normal]
     try go_wp2_with fail
     all_goals
      go_ret
      exact ⟨ret_bool zaa, by rw [HA.out, HBq.out, HXq.out]; exact (show CkSt W c H (.slice (some ⟨G, 0, none⟩) n cap) ns fi n (addB X zx (addB true zc (addB B zb (addB A za g)))) _ from zai)⟩
end Go.Proofs.YtpoeknndkccbaaaGreat
