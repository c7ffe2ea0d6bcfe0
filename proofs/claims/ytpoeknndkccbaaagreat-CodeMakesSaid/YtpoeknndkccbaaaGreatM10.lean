/- Lemmas for the claim (texts May2, May4, May5, what its proof uses of them). -/
import Derived.Test.YtpoeknndkccbaaaGreatM05
import Derived.Test.YtpoeknndkccbaaaGreatM09
import Derived.Deep.OwnRows
set_option linter.unusedSimpArgs false
set_option linter.unusedVariables false
set_option maxHeartbeats 16000000
set_option maxRecDepth 20000
namespace Go.Proofs.YtpoeknndkccbaaaGreat
open Go.RowKit
attribute [go_sem] more_more Array.size_append
def qcE (s : ByteArray) : Bool := (qcI s.data.toList).2 == 0
theorem quoted_any (s : ByteArray) (w : World) : Calls Tryz.prog 125 #[.string s] w fun e w' => e = .returned (.bool (qcE s)) ∧ Ext w w' := by
 unfold qcE
 obtain ⟨q, er, hq⟩ : ∃ q er, qcI s.data.toList = (q, er) := ⟨_, _, rfl⟩
 have Q := Lib.hid (quote_any s q er hq)
 rw [hq]
 dsimp only
 clear hq
 cases h : (er == 0)
 all_goals
  go_enter Tryz.func125, Tryz.ntmps125
  go_wp2_with (((with_reducible refine (Q.out _).mono ?_); rintro e' _ ⟨rfl, d1, os1, rfl⟩))
  go_ret
  exact ⟨rfl, zag⟩
/-- what stands at S -/
def txt2 (k : Int) (s : ByteArray) (bS : Bool) : Bool := if (k == 3) = true then qcE s else if (k == 11) = true then decide (0 ≤ qaZ k s) else if bS = true then nameOk s else s.toList.isEmpty
/-- what stands at T -/
def txt1 (t : ByteArray) (bT : Bool) : Bool := if bT = true then (!t.toList.isEmpty && nameOk t) else t.toList.isEmpty
theorem qcb (zk za zb zc zx zi : Int) (zs zt : ByteArray) (hs : zs.size ≤ maxLen) (b0 b1 b2 b3 bS bT : Bool) (w : World) :
  Calls Tryz.prog 90 #[.agg #[.int .i64 zk, .int .i64 za, .int .i64 zb, .int .i64 zc, .int .i64 zx, .int .i64 zi, .string zs, .string zt], .agg #[.bool b0, .bool b1, .bool b2, .bool b3, .bool bS, .bool bT]] w fun e w' => e = .returned (.bool (txt1 zt bT && txt2 zk zs bS)) ∧ Ext w w' := by
 have NMT := Lib.hid (fun w1 => name1_ok zt w1)
 have NMS := Lib.hid (fun w1 => name1_ok zs w1)
 have QS := Lib.hid (fun w1 => quoted_any zs w1)
 have CL := Lib.hid (fun w1 => close_any zk za zb zc zx zi zs zt hs w1)
 obtain ⟨NT, hNT⟩ : ∃ NT, nameOk zt = NT := ⟨_, rfl⟩
 obtain ⟨NS, hNS⟩ : ∃ NS, nameOk zs = NS := ⟨_, rfl⟩
 obtain ⟨QQ, hQ⟩ : ∃ QQ, qcE zs = QQ := ⟨_, rfl⟩
 obtain ⟨CC, hC⟩ : ∃ CC, qaZ zk zs = CC := ⟨_, rfl⟩
 rw [hNT] at NMT
 rw [hNS] at NMS
 rw [hQ] at QS
 rw [hC] at CL
 have ht : txt1 zt bT = (if bT = true then (!zt.toList.isEmpty && NT) else zt.toList.isEmpty) := by unfold txt1; rw [hNT]
 rw [ht]
 clear ht hNT
 cases bT
 · rw [if_neg zay]
   cases qt : zt.toList.isEmpty
   · rw [Bool.false_and]
     go_enter Tryz.func90, Tryz.ntmps90
     go_wp2_with (((with_reducible refine (NMT.out _).mono ?_); rintro e' _ ⟨rfl, d1, os1, rfl⟩))
     go_ret
     exact ⟨ret_bool zbw, zag⟩
   · rw [Bool.true_and]
     cases q3 : (zk == 3)
     rotate_left
     · rw [show txt2 zk zs bS = QQ from by unfold txt2; rw [q3, hQ]; rfl]
       go_enter Tryz.func90, Tryz.ntmps90
       go_wp2_with (first | (((with_reducible refine (NMT.out _).mono ?_); rintro e' _ ⟨rfl, d1, os1, rfl⟩)) | (((with_reducible refine (QS.out _).mono ?_); rintro e' _ ⟨rfl, d3, os3, rfl⟩)))
       go_ret
       exact ⟨ret_bool zbw, zag⟩
     cases q11 : (zk == 11)
     rotate_left
     · rw [show txt2 zk zs bS = decide (0 ≤ CC) from by unfold txt2; rw [q3, q11, hC]; rfl]
       by_cases hc0 : 0 ≤ CC
       · rw [decide_eq_true hc0]
         go_enter Tryz.func90, Tryz.ntmps90
         go_wp2_with (first | (((with_reducible refine (NMT.out _).mono ?_); rintro e' _ ⟨rfl, d1, os1, rfl⟩)) | (((with_reducible refine (CL.out _).mono ?_); rintro e' _ ⟨rfl, d4, os4, rfl⟩)))
         go_ret
         exact ⟨ret_bool zbw, zag⟩
       · rw [decide_eq_false hc0]
         have hc1 : CC < 0 := by omega
         clear hc0
         go_enter Tryz.func90, Tryz.ntmps90
         go_wp2_with (first | (((with_reducible refine (NMT.out _).mono ?_); rintro e' _ ⟨rfl, d1, os1, rfl⟩)) | (((with_reducible refine (CL.out _).mono ?_); rintro e' _ ⟨rfl, d4, os4, rfl⟩)))
         go_ret
         exact ⟨ret_bool zbw, zag⟩
     cases bS
     · rw [show txt2 zk zs false = zs.toList.isEmpty from by unfold txt2; rw [q3, q11]; rfl]
       cases qs : zs.toList.isEmpty
       all_goals
        go_enter Tryz.func90, Tryz.ntmps90
        go_wp2_with (((with_reducible refine (NMT.out _).mono ?_); rintro e' _ ⟨rfl, d1, os1, rfl⟩))
        go_ret
        exact ⟨ret_bool zbw, zag⟩
     · rw [show txt2 zk zs true = NS from by unfold txt2; rw [q3, q11, hNS]; rfl]
       go_enter Tryz.func90, Tryz.ntmps90
       go_wp2_with (first | (((with_reducible refine (NMT.out _).mono ?_); rintro e' _ ⟨rfl, d1, os1, rfl⟩)) | (((with_reducible refine (NMS.out _).mono ?_); rintro e' _ ⟨rfl, d2, os2, rfl⟩)))
       go_ret
       exact ⟨ret_bool zbw, zag⟩
 · rw [if_pos rfl]
   cases qt : zt.toList.isEmpty
   · rw [Bool.not_false, Bool.true_and]
     cases NT
     · rw [Bool.false_and]
       go_enter Tryz.func90, Tryz.ntmps90
       go_wp2_with (((with_reducible refine (NMT.out _).mono ?_); rintro e' _ ⟨rfl, d1, os1, rfl⟩))
       go_ret
       exact ⟨ret_bool zbw, zag⟩
     · rw [Bool.true_and]
       cases q3 : (zk == 3)
       rotate_left
       · rw [show txt2 zk zs bS = QQ from by unfold txt2; rw [q3, hQ]; rfl]
         go_enter Tryz.func90, Tryz.ntmps90
         go_wp2_with (first | (((with_reducible refine (NMT.out _).mono ?_); rintro e' _ ⟨rfl, d1, os1, rfl⟩)) | (((with_reducible refine (QS.out _).mono ?_); rintro e' _ ⟨rfl, d3, os3, rfl⟩)))
         go_ret
         exact ⟨ret_bool zbw, zag⟩
       cases q11 : (zk == 11)
       rotate_left
       · rw [show txt2 zk zs bS = decide (0 ≤ CC) from by unfold txt2; rw [q3, q11, hC]; rfl]
         by_cases hc0 : 0 ≤ CC
         · rw [decide_eq_true hc0]
           go_enter Tryz.func90, Tryz.ntmps90
           go_wp2_with (first | (((with_reducible refine (NMT.out _).mono ?_); rintro e' _ ⟨rfl, d1, os1, rfl⟩)) | (((with_reducible refine (CL.out _).mono ?_); rintro e' _ ⟨rfl, d4, os4, rfl⟩)))
           go_ret
           exact ⟨ret_bool zbw, zag⟩
         · rw [decide_eq_false hc0]
           have hc1 : CC < 0 := by omega
           clear hc0
           go_enter Tryz.func90, Tryz.ntmps90
           go_wp2_with (first | (((with_reducible refine (NMT.out _).mono ?_); rintro e' _ ⟨rfl, d1, os1, rfl⟩)) | (((with_reducible refine (CL.out _).mono ?_); rintro e' _ ⟨rfl, d4, os4, rfl⟩)))
           go_ret
           exact ⟨ret_bool zbw, zag⟩
       cases bS
       · rw [show txt2 zk zs false = zs.toList.isEmpty from by unfold txt2; rw [q3, q11]; rfl]
         cases qs : zs.toList.isEmpty
         all_goals
          go_enter Tryz.func90, Tryz.ntmps90
          go_wp2_with (((with_reducible refine (NMT.out _).mono ?_); rintro e' _ ⟨rfl, d1, os1, rfl⟩))
          go_ret
          exact ⟨ret_bool zbw, zag⟩
       · rw [show txt2 zk zs true = NS from by unfold txt2; rw [q3, q11, hNS]; rfl]
         go_enter Tryz.func90, Tryz.ntmps90
         go_wp2_with (first | (((with_reducible refine (NMT.out _).mono ?_); rintro e' _ ⟨rfl, d1, os1, rfl⟩)) | (((with_reducible refine (NMS.out _).mono ?_); rintro e' _ ⟨rfl, d2, os2, rfl⟩)))
         go_ret
         exact ⟨ret_bool zbw, zag⟩
   · rw [Bool.not_true, Bool.false_and, Bool.false_and]
     go_enter Tryz.func90, Tryz.ntmps90
     go_wp2_with (((with_reducible refine (NMT.out _).mono ?_); rintro e' _ ⟨rfl, d1, os1, rfl⟩))
     go_ret
     exact ⟨ret_bool zbw, zag⟩
end Go.Proofs.YtpoeknndkccbaaaGreat

namespace Go.Proofs.YtpoeknndkccbaaaGreat
open Go.RowKit
variable {w : World} {k : Nat}
attribute [go_sem] more_more Array.size_append
theorem addB_id (A : Bool) (a : Int) (g : Nat → Nat) (h : A = true → a = -1) (j : Nat) : g j = addB A a g j := by
 unfold addB pone
 cases A
 · simp
 · rw [h rfl, if_pos rfl, if_neg zaf]; rfl
theorem CkSt.idB {W : World} {c H : Nat} {nv : Value} {ns : List Nd} {fi : Int} {n : Nat} {g : Nat → Nat} (h : CkSt W c H nv ns fi n g w) (A : Bool) (a : Int) (e : A = true → a = -1) : CkSt W c H nv ns fi n (addB A a g) w := h.congr fun j _ => addB_id A a g e j
theorem KB.alloc {cs : Array Value} {T : TypeId} (h : KB k cs T w) (b : Obj) : KB k cs T (w.alloc b) := h.of_ext ((Ext.refl w).alloc b)
theorem KB.more {cs : Array Value} {T : TypeId} (h : KB k cs T w) (d : Nat) (os : Array Obj) : KB k cs T (more w d os) := h.of_ext ((Ext.refl w).more d os)
theorem KB.newAt (w : World) (cs : Array Value) (T : TypeId) (h : k = w.heap.size) : KB k cs T (w.alloc (.cells cs T (0, 0))) := by subst h; exact KB.new w cs T
def qaf (z : Nd) : Bool := qae z.k && numOk z.k z.c z.i && (txt1 z.t (shT z.k) && txt2 z.k z.s (shS z.k))
def aB (ns : List Nd) (i : Nat) (z : Nd) : Bool := if shA z.k = true then qab ns z.a 0 i false else z.a == -1
def bB (ns : List Nd) (i : Nat) (z : Nd) : Bool := if shB z.k = true then qab ns z.b 0 i false else if shBB z.k = true then blkB ns z.b i else z.b == -1
def cB (ns : List Nd) (i : Nat) (z : Nd) : Bool := z.c == -1 || (shBC z.k && blkB ns z.c i)
def xB (ns : List Nd) (i : Nat) (z : Nd) : Bool := z.x == -1 || (decide (20 ≤ z.k) && qab ns z.x ((i : Int) + 1) ns.length true)
def nodeB (ns : List Nd) (i : Nat) (z : Nd) : Bool := qaf z && (aB ns i z && bB ns i z && cB ns i z && xB ns i z)
end Go.Proofs.YtpoeknndkccbaaaGreat

namespace Go.Proofs.YtpoeknndkccbaaaGreat
open Go.RowKit
attribute [go_sem] more_more Array.size_append
theorem node_c0 {W : World} {c H : Nat} {nv : Value} {ns : List Nd} {fi : Int} {n : Nat} {g : Nat → Nat} {w : World} (h : CkSt W c H nv ns fi n g w) (j : Nat) (zk za zb zc zx zi : Int) (zs zt : ByteArray) (hz : ns[j]? = some ⟨zk, za, zb, zc, zx, zi, zs, zt⟩) (hs : zs.size ≤ maxLen) (hb : ∀ j, j < n → g j ≤ 8000) (hn : n ≤ 512)
  (k1 : qae zk = true) (k2 : numOk zk zc zi = true) (k3 : (txt1 zt (shT zk) && txt2 zk zs (shS zk)) = true) (sA : shA zk = false) (sB : shB zk = false) (sBB : shBB zk = false) (sBC : shBC zk = false) :
  Calls Tryz.prog 55 #[.pointer (some ⟨c, 0, none⟩), .int .i64 (j : Int)] w fun e w' => e = .returned (.bool ((za == -1) && (zb == -1) && (zc == -1) && (zx == -1 || (decide (20 ≤ zk) && qab ns zx ((j : Int) + 1) n true)))) ∧
   CkSt W c H nv ns fi n (addB (zx == -1 || (decide (20 ≤ zk) && qab ns zx ((j : Int) + 1) n true)) zx (addB (zc == -1) zc (addB (zb == -1) zb (addB (za == -1) za g)))) w' := by
 have hj : j < n := by have := (List.getElem?_eq_some_iff.1 hz).1; have := h.base.2.2.2; omega
 have hp : ∃ G cap, nv = .slice (some ⟨G, 0, none⟩) n cap := by
  rcases Go.Joins.ownsRow_forms h.row with ⟨_, h0⟩ | ⟨g1, c1, h0⟩
  · omega
  · exact ⟨g1, c1, h0⟩
 obtain ⟨G, cap, rfl⟩ := hp
 obtain ⟨a0, a1, a2, a3, a4, a5, a6, a7⟩ := nd_at h.row hz
 dsimp only at a0 a1 a2 a3 a4 a5 a6 a7
 have hG := (h.row.lt G rfl).2
 obtain ⟨c0, c1, c2, lc, lH⟩ := h.facts
 have HS0 := Lib.hid h
 have HB0 := Lib.hid hb
 have SH := Lib.hid (fun w1 => qbn zk w1)
 rw [k1, sA, sB, sBB, sBC] at SH
 refine ydw ?_; intro NM
 rw [k2] at NM
 have TX := Lib.hid (fun w1 => qcb zk za zb zc zx zi zs zt hs false false false false (shS zk) (shT zk) w1)
 rw [k3] at TX
 obtain ⟨bS, hS⟩ : ∃ bS, shS zk = bS := ⟨_, rfl⟩
 obtain ⟨bT, hT⟩ : ∃ bT, shT zk = bT := ⟨_, rfl⟩
 rw [hS, hT] at SH TX
 have hj0 : 0 ≤ (j : Int) := by omega
 refine ycs ?_; intro hjn
 have hjs : (j : Int) ≤ (n : Int) := by omega
 have hn0 : (n : Int) ≤ 512 := by omega
 clear h hb hz hs k1 k2 k3 sA sB sBB sBC hS hT hj c1 c2
 have HNE := Lib.hid (show w.heap.size ≠ H from by omega)
 obtain ⟨A, hA⟩ : ∃ A, (za == -1) = A := ⟨_, rfl⟩
 obtain ⟨B, hBq⟩ : ∃ B, (zb == -1) = B := ⟨_, rfl⟩
 have HA := Lib.hid hA
 have HBq := Lib.hid hBq
 clear hA hBq
 have HLH := Lib.hid lH
 cases qc : (zc == -1)
 · go_enter Tryz.func55, Tryz.ntmps55
   go_wp2_with (first
    | (((with_reducible refine (SH.out _).mono ?_); rintro e' _ ⟨rfl, d1, os1, rfl⟩))
    | (((with_reducible refine (NM.out _).mono ?_); rintro e' _ ⟨rfl, d2, os2, rfl⟩))
    | (((with_reducible refine (TX.out _).mono ?_); rintro e' _ ⟨rfl, d3, os3, rfl⟩)))
   have HS1 := Lib.hid (HS0.out.idB A za (by rw [← HA.out]; simp))
   refine ybp ?_; intro HB1
   have HS2 := Lib.hid (HS1.out.idB B zb (by rw [← HBq.out]; simp))
   refine ybf ?_; intro HB2
   have HS3 := Lib.hid (HS2.out.idB false zc zay)
   refine ydm ?_; intro HB3
   cases qx : (zx == -1)
   rotate_left
   · have HXq := Lib.hid (show (zx == -1 || (decide (20 ≤ zk) && qab ns zx ((j : Int) + 1) n true)) = true from by rw [qx, Bool.true_or])
     refine ybl ?_; intro HS4
     refine yda ?_; intro HB4
     refine qaa 19 114 [false, false, false, false, false, false, false, false, false, false, false, false, false, false, false, false, false, false, false] zae zae rfl ?_
     refine yac ?_
     repeat (refine Lex.step rfl ?_; intro K hK; unfold StepG; go_simp; (first
       | refine hK _ ?_); clear hK K)
     refine yaa ?_; intro dd oo
     go_wp2_with fail
     try rw [ends_normal]
     try go_wp2_with fail
     all_goals
      go_ret
      exact ybe
   by_cases hz20 : 20 ≤ zk
   rotate_left
   · have HXq := Lib.hid (show (zx == -1 || (decide (20 ≤ zk) && qab ns zx ((j : Int) + 1) n true)) = false from by rw [qx, decide_eq_false hz20]; rfl)
     refine ybr ?_; intro hzd
     have HS4 := Lib.hid (HS3.out.idB false zx zay)
     refine ycx ?_; intro HB4
     refine qaa 19 114 [false, false, false, false, false, false, false, false, false, false, false, false, false, false, false, false, false, false, false] zae zae rfl ?_
     refine yac ?_
     repeat (refine Lex.step rfl ?_; intro K hK; unfold StepG; go_simp; (first
       | refine hK _ ?_); clear hK K)
     refine yaa ?_; intro dd oo
     go_wp2_with fail
     try rw [ends_normal]
     try go_wp2_with fail
     all_goals
      go_ret
      exact ybd
   · obtain ⟨X, hX⟩ : ∃ X, qab ns zx ((j : Int) + 1) n true = X := ⟨_, rfl⟩
     have HXq := Lib.hid (show (zx == -1 || (decide (20 ≤ zk) && qab ns zx ((j : Int) + 1) n true)) = X from by rw [qx, decide_eq_true hz20, hX]; rfl)
     have HXr := Lib.hid hX
     refine yby ?_; intro hzd
     clear hX
     refine qaa 19 114 [false, false, false, false, false, false, false, false, false, false, false, false, false, false, false, false, false, false, false] zae zae rfl ?_
     refine yac ?_
     repeat (refine Lex.step rfl ?_; intro K hK; unfold StepG; go_simp; (first
       | refine hK _ ?_); clear hK K)
     refine yaa ?_; intro dd oo
     go_wp2_with fail
     refine (qan (show CkSt W c H (.slice (some ⟨G, 0, none⟩) n cap) ns fi n (addB false zc (addB B zb (addB A za g))) _ from zaz) zx ((j : Int) + 1) (n : Int) true zaf zaf (fun q hq => Nat.le_trans (HB3.out q hq) zaf)).mono ?_
     rintro e4 w4 ⟨rfl, hck, hfr⟩
     rw [HXr.out] at hck ⊢
     have HS4 := Lib.hid hck
     have K5 := Lib.hid (KB.kept (show KB w.heap.size #[.int .i64 zk, .int .i64 za, .int .i64 zb, .int .i64 zc, .int .i64 zx, .int .i64 zi, .string zs, .string zt] 42 _ from zca) hfr HNE.out)
     have K6 := Lib.hid (KB.kept (show KB (w.heap.size + 1 + os1.size) #[.bool false, .bool false, .bool false, .bool false, .bool bS, .bool bT] 137 _ from zbm) hfr (show w.heap.size + 1 + os1.size ≠ H from by have := HLH.out; omega))
     clear hck hfr
     have HN6 := Lib.hid (show w.heap.size + 1 + os1.size ≠ H from by have := HLH.out; omega)
     have HN5 := Lib.hid HNE.out
     obtain ⟨k6, hk6⟩ : ∃ k6, w.heap.size + 1 + os1.size = k6 := ⟨_, rfl⟩
     rw [hk6] at K6 HN6 ⊢
     obtain ⟨k5, hk5⟩ : ∃ k5, w.heap.size = k5 := ⟨_, rfl⟩
     rw [hk5] at K5 HN5 ⊢
     clear hk5 hk6 a0 a1 a2 a3 a4 a5 a6 a7 hG
     clear c0 lc lH
     obtain ⟨c0, c1, c2, lc, lH⟩ := HS4.out.facts
     clear c1 c2
     have n0 := K5.out.cell 0 _ rfl
     have n1 := K5.out.cell 1 _ rfl
     have n2 := K5.out.cell 2 _ rfl
     have n3 := K5.out.cell 3 _ rfl
     have n4 := K5.out.cell 4 _ rfl
     have l5 := K5.out.lt
     have s0 := K6.out.cell 0 _ rfl
     have s1 := K6.out.cell 1 _ rfl
     have s2 := K6.out.cell 2 _ rfl
     have s3 := K6.out.cell 3 _ rfl
     have l6 := K6.out.lt
     refine ydd ?_; intro HB4
     go_wp2_with fail
     try rw [ends_normal]
     try go_wp2_with fail
     all_goals
      go_ret
      exact ybg
 · go_enter Tryz.func55, Tryz.ntmps55
   go_wp2_with (first
    | (((with_reducible refine (SH.out _).mono ?_); rintro e' _ ⟨rfl, d1, os1, rfl⟩))
    | (((with_reducible refine (NM.out _).mono ?_); rintro e' _ ⟨rfl, d2, os2, rfl⟩))
    | (((with_reducible refine (TX.out _).mono ?_); rintro e' _ ⟨rfl, d3, os3, rfl⟩)))
   have HS1 := Lib.hid (HS0.out.idB A za (by rw [← HA.out]; simp))
   refine ybp ?_; intro HB1
   have HS2 := Lib.hid (HS1.out.idB B zb (by rw [← HBq.out]; simp))
   refine ybf ?_; intro HB2
   refine ydx ?_; intro HS3
   refine ycu ?_; intro HB3
   cases qx : (zx == -1)
   rotate_left
   · have HXq := Lib.hid (show (zx == -1 || (decide (20 ≤ zk) && qab ns zx ((j : Int) + 1) n true)) = true from by rw [qx, Bool.true_or])
     refine ybl ?_; intro HS4
     refine ycf ?_; intro HB4
     refine qaa 19 114 [false, false, false, false, false, false, false, false, false, false, false, false, false, false, false, false, false, false, false] zae zae rfl ?_
     refine yac ?_
     repeat (refine Lex.step rfl ?_; intro K hK; unfold StepG; go_simp; (first
       | refine hK _ ?_); clear hK K)
     refine yaa ?_; intro dd oo
     go_wp2_with fail
     try rw [ends_normal]
     try go_wp2_with fail
     all_goals
      go_ret
      exact yaw
   by_cases hz20 : 20 ≤ zk
   rotate_left
   · have HXq := Lib.hid (show (zx == -1 || (decide (20 ≤ zk) && qab ns zx ((j : Int) + 1) n true)) = false from by rw [qx, decide_eq_false hz20]; rfl)
     refine ybr ?_; intro hzd
     have HS4 := Lib.hid (HS3.out.idB false zx zay)
     refine ycc ?_; intro HB4
     refine qaa 19 114 [false, false, false, false, false, false, false, false, false, false, false, false, false, false, false, false, false, false, false] zae zae rfl ?_
     refine yac ?_
     repeat (refine Lex.step rfl ?_; intro K hK; unfold StepG; go_simp; (first
       | refine hK _ ?_); clear hK K)
     refine yaa ?_; intro dd oo
     go_wp2_with fail
     try rw [ends_normal]
     try go_wp2_with fail
     all_goals
      go_ret
      exact yau
   · obtain ⟨X, hX⟩ : ∃ X, qab ns zx ((j : Int) + 1) n true = X := ⟨_, rfl⟩
     have HXq := Lib.hid (show (zx == -1 || (decide (20 ≤ zk) && qab ns zx ((j : Int) + 1) n true)) = X from by rw [qx, decide_eq_true hz20, hX]; rfl)
     have HXr := Lib.hid hX
     refine yby ?_; intro hzd
     clear hX
     refine qaa 19 114 [false, false, false, false, false, false, false, false, false, false, false, false, false, false, false, false, false, false, false] zae zae rfl ?_
     refine yac ?_
     repeat (refine Lex.step rfl ?_; intro K hK; unfold StepG; go_simp; (first
       | refine hK _ ?_); clear hK K)
     refine yaa ?_; intro dd oo
     go_wp2_with fail
     refine (qan (show CkSt W c H (.slice (some ⟨G, 0, none⟩) n cap) ns fi n (addB true zc (addB B zb (addB A za g))) _ from zaz) zx ((j : Int) + 1) (n : Int) true zaf zaf (fun q hq => Nat.le_trans (HB3.out q hq) zaf)).mono ?_
     rintro e4 w4 ⟨rfl, hck, hfr⟩
     rw [HXr.out] at hck ⊢
     have HS4 := Lib.hid hck
     have K5 := Lib.hid (KB.kept (show KB w.heap.size #[.int .i64 zk, .int .i64 za, .int .i64 zb, .int .i64 zc, .int .i64 zx, .int .i64 zi, .string zs, .string zt] 42 _ from zca) hfr HNE.out)
     have K6 := Lib.hid (KB.kept (show KB (w.heap.size + 1 + os1.size) #[.bool false, .bool false, .bool false, .bool false, .bool bS, .bool bT] 137 _ from zbm) hfr (show w.heap.size + 1 + os1.size ≠ H from by have := HLH.out; omega))
     clear hck hfr
     have HN6 := Lib.hid (show w.heap.size + 1 + os1.size ≠ H from by have := HLH.out; omega)
     have HN5 := Lib.hid HNE.out
     obtain ⟨k6, hk6⟩ : ∃ k6, w.heap.size + 1 + os1.size = k6 := ⟨_, rfl⟩
     rw [hk6] at K6 HN6 ⊢
     obtain ⟨k5, hk5⟩ : ∃ k5, w.heap.size = k5 := ⟨_, rfl⟩
     rw [hk5] at K5 HN5 ⊢
     clear hk5 hk6 a0 a1 a2 a3 a4 a5 a6 a7 hG
     clear c0 lc lH
     obtain ⟨c0, c1, c2, lc, lH⟩ := HS4.out.facts
     clear c1 c2
     have n0 := K5.out.cell 0 _ rfl
     have n1 := K5.out.cell 1 _ rfl
     have n2 := K5.out.cell 2 _ rfl
     have n3 := K5.out.cell 3 _ rfl
     have n4 := K5.out.cell 4 _ rfl
     have l5 := K5.out.lt
     have s0 := K6.out.cell 0 _ rfl
     have s1 := K6.out.cell 1 _ rfl
     have s2 := K6.out.cell 2 _ rfl
     have s3 := K6.out.cell 3 _ rfl
     have l6 := K6.out.lt
     refine ycl ?_; intro HB4
     go_wp2_with fail
     try rw [ends_normal]
     try go_wp2_with fail
     all_goals
      go_ret
      exact yax
theorem node_c1 {W : World} {c H : Nat} {nv : Value} {ns : List Nd} {fi : Int} {n : Nat} {g : Nat → Nat} {w : World} (h : CkSt W c H nv ns fi n g w) (j : Nat) (zk za zb zc zx zi : Int) (zs zt : ByteArray) (hz : ns[j]? = some ⟨zk, za, zb, zc, zx, zi, zs, zt⟩) (hs : zs.size ≤ maxLen) (hb : ∀ j, j < n → g j ≤ 8000) (hn : n ≤ 512)
  (k1 : qae zk = true) (k2 : numOk zk zc zi = true) (k3 : (txt1 zt (shT zk) && txt2 zk zs (shS zk)) = true) (sA : shA zk = true) (sB : shB zk = false) (sBB : shBB zk = false) (sBC : shBC zk = false) :
  Calls Tryz.prog 55 #[.pointer (some ⟨c, 0, none⟩), .int .i64 (j : Int)] w fun e w' => e = .returned (.bool ((qab ns za 0 j false) && (zb == -1) && (zc == -1) && (zx == -1 || (decide (20 ≤ zk) && qab ns zx ((j : Int) + 1) n true)))) ∧
   CkSt W c H nv ns fi n (addB (zx == -1 || (decide (20 ≤ zk) && qab ns zx ((j : Int) + 1) n true)) zx (addB (zc == -1) zc (addB (zb == -1) zb (addB (qab ns za 0 j false) za g)))) w' := by
 have hj : j < n := by have := (List.getElem?_eq_some_iff.1 hz).1; have := h.base.2.2.2; omega
 have hp : ∃ G cap, nv = .slice (some ⟨G, 0, none⟩) n cap := by
  rcases Go.Joins.ownsRow_forms h.row with ⟨_, h0⟩ | ⟨g1, c1, h0⟩
  · omega
  · exact ⟨g1, c1, h0⟩
 obtain ⟨G, cap, rfl⟩ := hp
 obtain ⟨a0, a1, a2, a3, a4, a5, a6, a7⟩ := nd_at h.row hz
 dsimp only at a0 a1 a2 a3 a4 a5 a6 a7
 have hG := (h.row.lt G rfl).2
 obtain ⟨c0, c1, c2, lc, lH⟩ := h.facts
 have HS0 := Lib.hid h
 have HB0 := Lib.hid hb
 have SH := Lib.hid (fun w1 => qbn zk w1)
 rw [k1, sA, sB, sBB, sBC] at SH
 refine ydw ?_; intro NM
 rw [k2] at NM
 have TX := Lib.hid (fun w1 => qcb zk za zb zc zx zi zs zt hs true false false false (shS zk) (shT zk) w1)
 rw [k3] at TX
 obtain ⟨bS, hS⟩ : ∃ bS, shS zk = bS := ⟨_, rfl⟩
 obtain ⟨bT, hT⟩ : ∃ bT, shT zk = bT := ⟨_, rfl⟩
 rw [hS, hT] at SH TX
 have hj0 : 0 ≤ (j : Int) := by omega
 refine ycs ?_; intro hjn
 have hjs : (j : Int) ≤ (n : Int) := by omega
 have hn0 : (n : Int) ≤ 512 := by omega
 clear h hb hz hs k1 k2 k3 sA sB sBB sBC hS hT hj c1 c2
 have HNE := Lib.hid (show w.heap.size ≠ H from by omega)
 obtain ⟨A, hA⟩ : ∃ A, (qab ns za 0 j false) = A := ⟨_, rfl⟩
 obtain ⟨B, hBq⟩ : ∃ B, (zb == -1) = B := ⟨_, rfl⟩
 have HA := Lib.hid hA
 have HBq := Lib.hid hBq
 clear hA hBq
 have HLH := Lib.hid lH
 cases qc : (zc == -1)
 · go_enter Tryz.func55, Tryz.ntmps55
   go_wp2_with (first
    | (((with_reducible refine (SH.out _).mono ?_); rintro e' _ ⟨rfl, d1, os1, rfl⟩))
    | (((with_reducible refine (NM.out _).mono ?_); rintro e' _ ⟨rfl, d2, os2, rfl⟩))
    | (((with_reducible refine (TX.out _).mono ?_); rintro e' _ ⟨rfl, d3, os3, rfl⟩)))
   refine (qan (show CkSt W c H (.slice (some ⟨G, 0, none⟩) n cap) ns fi n g _ from zbc) za 0 (j : Int) false zaf hjs (fun q hq => Nat.le_trans (HB0.out q hq) zaf)).mono ?_
   rintro e1 w1 ⟨rfl, hck, hfr⟩
   rw [HA.out] at hck ⊢
   have HS1 := Lib.hid hck
   have K5 := Lib.hid (KB.kept (show KB w.heap.size #[.int .i64 zk, .int .i64 za, .int .i64 zb, .int .i64 zc, .int .i64 zx, .int .i64 zi, .string zs, .string zt] 42 _ from zca) hfr HNE.out)
   have K6 := Lib.hid (KB.kept (show KB (w.heap.size + 1 + os1.size) #[.bool true, .bool false, .bool false, .bool false, .bool bS, .bool bT] 137 _ from zbm) hfr (show w.heap.size + 1 + os1.size ≠ H from by have := HLH.out; omega))
   clear hck hfr
   have HN6 := Lib.hid (show w.heap.size + 1 + os1.size ≠ H from by have := HLH.out; omega)
   have HN5 := Lib.hid HNE.out
   obtain ⟨k6, hk6⟩ : ∃ k6, w.heap.size + 1 + os1.size = k6 := ⟨_, rfl⟩
   rw [hk6] at K6 HN6 ⊢
   obtain ⟨k5, hk5⟩ : ∃ k5, w.heap.size = k5 := ⟨_, rfl⟩
   rw [hk5] at K5 HN5 ⊢
   clear hk5 hk6 a0 a1 a2 a3 a4 a5 a6 a7 hG
   clear c0 lc lH
   obtain ⟨c0, c1, c2, lc, lH⟩ := HS1.out.facts
   clear c1 c2
   have n0 := K5.out.cell 0 _ rfl
   have n1 := K5.out.cell 1 _ rfl
   have n2 := K5.out.cell 2 _ rfl
   have n3 := K5.out.cell 3 _ rfl
   have n4 := K5.out.cell 4 _ rfl
   have l5 := K5.out.lt
   have s0 := K6.out.cell 0 _ rfl
   have s1 := K6.out.cell 1 _ rfl
   have s2 := K6.out.cell 2 _ rfl
   have s3 := K6.out.cell 3 _ rfl
   have l6 := K6.out.lt
   refine ybp ?_; intro HB1
   go_wp2_with fail
   have HS2 := Lib.hid (HS1.out.idB B zb (by rw [← HBq.out]; simp))
   refine ybf ?_; intro HB2
   have HS3 := Lib.hid (HS2.out.idB false zc zay)
   refine ydm ?_; intro HB3
   cases qx : (zx == -1)
   rotate_left
   · have HXq := Lib.hid (show (zx == -1 || (decide (20 ≤ zk) && qab ns zx ((j : Int) + 1) n true)) = true from by rw [qx, Bool.true_or])
     refine ybl ?_; intro HS4
     refine yda ?_; intro HB4
     refine qaa 19 114 [false, false, false, false, false, false, false, false, false, false, false, false, false, false, false, false, false, false, false] zae zae rfl ?_
     refine yac ?_
     repeat (refine Lex.step rfl ?_; intro K hK; unfold StepG; go_simp; (first
       | refine hK _ ?_); clear hK K)
     refine yaa ?_; intro dd oo
     go_wp2_with fail
     try rw [ends_normal]
     try go_wp2_with fail
     all_goals
      go_ret
      exact ybe
   by_cases hz20 : 20 ≤ zk
   rotate_left
   · have HXq := Lib.hid (show (zx == -1 || (decide (20 ≤ zk) && qab ns zx ((j : Int) + 1) n true)) = false from by rw [qx, decide_eq_false hz20]; rfl)
     refine ybr ?_; intro hzd
     have HS4 := Lib.hid (HS3.out.idB false zx zay)
     refine ycx ?_; intro HB4
     refine qaa 19 114 [false, false, false, false, false, false, false, false, false, false, false, false, false, false, false, false, false, false, false] zae zae rfl ?_
     refine yac ?_
     repeat (refine Lex.step rfl ?_; intro K hK; unfold StepG; go_simp; (first
       | refine hK _ ?_); clear hK K)
     refine yaa ?_; intro dd oo
     go_wp2_with fail
     try rw [ends_normal]
     try go_wp2_with fail
     all_goals
      go_ret
      exact ybd
   · obtain ⟨X, hX⟩ : ∃ X, qab ns zx ((j : Int) + 1) n true = X := ⟨_, rfl⟩
     have HXq := Lib.hid (show (zx == -1 || (decide (20 ≤ zk) && qab ns zx ((j : Int) + 1) n true)) = X from by rw [qx, decide_eq_true hz20, hX]; rfl)
     have HXr := Lib.hid hX
     refine yby ?_; intro hzd
     clear hX
     refine qaa 19 114 [false, false, false, false, false, false, false, false, false, false, false, false, false, false, false, false, false, false, false] zae zae rfl ?_
     refine yac ?_
     repeat (refine Lex.step rfl ?_; intro K hK; unfold StepG; go_simp; (first
       | refine hK _ ?_); clear hK K)
     refine yaa ?_; intro dd oo
     go_wp2_with fail
     refine (qan (show CkSt W c H (.slice (some ⟨G, 0, none⟩) n cap) ns fi n (addB false zc (addB B zb (addB A za g))) _ from zaz) zx ((j : Int) + 1) (n : Int) true zaf zaf (fun q hq => Nat.le_trans (HB3.out q hq) zaf)).mono ?_
     rintro e4 w4 ⟨rfl, hck, hfr⟩
     rw [HXr.out] at hck ⊢
     have HS4 := Lib.hid hck
     have K5 := Lib.hid (KB.kept (show KB k5 #[.int .i64 zk, .int .i64 za, .int .i64 zb, .int .i64 zc, .int .i64 zx, .int .i64 zi, .string zs, .string zt] 42 _ from zbp) hfr HN5.out)
     have K6 := Lib.hid (KB.kept (show KB k6 #[.bool true, .bool false, .bool false, .bool false, .bool bS, .bool bT] 137 _ from zbq) hfr HN6.out)
     clear hck hfr
     clear c0 lc lH
     obtain ⟨c0, c1, c2, lc, lH⟩ := HS4.out.facts
     clear c1 c2
     clear n0 n1 n2 n3 n4 l5 s0 s1 s2 s3 l6
     have n0 := K5.out.cell 0 _ rfl
     have n1 := K5.out.cell 1 _ rfl
     have n2 := K5.out.cell 2 _ rfl
     have n3 := K5.out.cell 3 _ rfl
     have n4 := K5.out.cell 4 _ rfl
     have l5 := K5.out.lt
     have s0 := K6.out.cell 0 _ rfl
     have s1 := K6.out.cell 1 _ rfl
     have s2 := K6.out.cell 2 _ rfl
     have s3 := K6.out.cell 3 _ rfl
     have l6 := K6.out.lt
     refine ydd ?_; intro HB4
     go_wp2_with fail
     try rw [ends_normal]
     try go_wp2_with fail
     all_goals
      go_ret
      exact ybg
 · go_enter Tryz.func55, Tryz.ntmps55
   go_wp2_with (first
    | (((with_reducible refine (SH.out _).mono ?_); rintro e' _ ⟨rfl, d1, os1, rfl⟩))
    | (((with_reducible refine (NM.out _).mono ?_); rintro e' _ ⟨rfl, d2, os2, rfl⟩))
    | (((with_reducible refine (TX.out _).mono ?_); rintro e' _ ⟨rfl, d3, os3, rfl⟩)))
   refine (qan (show CkSt W c H (.slice (some ⟨G, 0, none⟩) n cap) ns fi n g _ from zbc) za 0 (j : Int) false zaf hjs (fun q hq => Nat.le_trans (HB0.out q hq) zaf)).mono ?_
   rintro e1 w1 ⟨rfl, hck, hfr⟩
   rw [HA.out] at hck ⊢
   have HS1 := Lib.hid hck
   have K5 := Lib.hid (KB.kept (show KB w.heap.size #[.int .i64 zk, .int .i64 za, .int .i64 zb, .int .i64 zc, .int .i64 zx, .int .i64 zi, .string zs, .string zt] 42 _ from zca) hfr HNE.out)
   have K6 := Lib.hid (KB.kept (show KB (w.heap.size + 1 + os1.size) #[.bool true, .bool false, .bool false, .bool false, .bool bS, .bool bT] 137 _ from zbm) hfr (show w.heap.size + 1 + os1.size ≠ H from by have := HLH.out; omega))
   clear hck hfr
   have HN6 := Lib.hid (show w.heap.size + 1 + os1.size ≠ H from by have := HLH.out; omega)
   have HN5 := Lib.hid HNE.out
   obtain ⟨k6, hk6⟩ : ∃ k6, w.heap.size + 1 + os1.size = k6 := ⟨_, rfl⟩
   rw [hk6] at K6 HN6 ⊢
   obtain ⟨k5, hk5⟩ : ∃ k5, w.heap.size = k5 := ⟨_, rfl⟩
   rw [hk5] at K5 HN5 ⊢
   clear hk5 hk6 a0 a1 a2 a3 a4 a5 a6 a7 hG
   clear c0 lc lH
   obtain ⟨c0, c1, c2, lc, lH⟩ := HS1.out.facts
   clear c1 c2
   have n0 := K5.out.cell 0 _ rfl
   have n1 := K5.out.cell 1 _ rfl
   have n2 := K5.out.cell 2 _ rfl
   have n3 := K5.out.cell 3 _ rfl
   have n4 := K5.out.cell 4 _ rfl
   have l5 := K5.out.lt
   have s0 := K6.out.cell 0 _ rfl
   have s1 := K6.out.cell 1 _ rfl
   have s2 := K6.out.cell 2 _ rfl
   have s3 := K6.out.cell 3 _ rfl
   have l6 := K6.out.lt
   refine ybp ?_; intro HB1
   go_wp2_with fail
   have HS2 := Lib.hid (HS1.out.idB B zb (by rw [← HBq.out]; simp))
   refine ybf ?_; intro HB2
   refine ydx ?_; intro HS3
   refine ycu ?_; intro HB3
   cases qx : (zx == -1)
   rotate_left
   · have HXq := Lib.hid (show (zx == -1 || (decide (20 ≤ zk) && qab ns zx ((j : Int) + 1) n true)) = true from by rw [qx, Bool.true_or])
     refine ybl ?_; intro HS4
     refine ycf ?_; intro HB4
     refine qaa 19 114 [false, false, false, false, false, false, false, false, false, false, false, false, false, false, false, false, false, false, false] zae zae rfl ?_
     refine yac ?_
     repeat (refine Lex.step rfl ?_; intro K hK; unfold StepG; go_simp; (first
       | refine hK _ ?_); clear hK K)
     refine yaa ?_; intro dd oo
     go_wp2_with fail
     try rw [ends_normal]
     try go_wp2_with fail
     all_goals
      go_ret
      exact yaw
   by_cases hz20 : 20 ≤ zk
   rotate_left
   · have HXq := Lib.hid (show (zx == -1 || (decide (20 ≤ zk) && qab ns zx ((j : Int) + 1) n true)) = false from by rw [qx, decide_eq_false hz20]; rfl)
     refine ybr ?_; intro hzd
     have HS4 := Lib.hid (HS3.out.idB false zx zay)
     refine ycc ?_; intro HB4
     refine qaa 19 114 [false, false, false, false, false, false, false, false, false, false, false, false, false, false, false, false, false, false, false] zae zae rfl ?_
     refine yac ?_
     repeat (refine Lex.step rfl ?_; intro K hK; unfold StepG; go_simp; (first
       | refine hK _ ?_); clear hK K)
     refine yaa ?_; intro dd oo
     go_wp2_with fail
     try rw [ends_normal]
     try go_wp2_with fail
     all_goals
      go_ret
      exact yau
   · obtain ⟨X, hX⟩ : ∃ X, qab ns zx ((j : Int) + 1) n true = X := ⟨_, rfl⟩
     have HXq := Lib.hid (show (zx == -1 || (decide (20 ≤ zk) && qab ns zx ((j : Int) + 1) n true)) = X from by rw [qx, decide_eq_true hz20, hX]; rfl)
     have HXr := Lib.hid hX
     refine yby ?_; intro hzd
     clear hX
     refine qaa 19 114 [false, false, false, false, false, false, false, false, false, false, false, false, false, false, false, false, false, false, false] zae zae rfl ?_
     refine yac ?_
     repeat (refine Lex.step rfl ?_; intro K hK; unfold StepG; go_simp; (first
       | refine hK _ ?_); clear hK K)
     refine yaa ?_; intro dd oo
     go_wp2_with fail
     refine (qan (show CkSt W c H (.slice (some ⟨G, 0, none⟩) n cap) ns fi n (addB true zc (addB B zb (addB A za g))) _ from zaz) zx ((j : Int) + 1) (n : Int) true zaf zaf (fun q hq => Nat.le_trans (HB3.out q hq) zaf)).mono ?_
     rintro e4 w4 ⟨rfl, hck, hfr⟩
     rw [HXr.out] at hck ⊢
     have HS4 := Lib.hid hck
     have K5 := Lib.hid (KB.kept (show KB k5 #[.int .i64 zk, .int .i64 za, .int .i64 zb, .int .i64 zc, .int .i64 zx, .int .i64 zi, .string zs, .string zt] 42 _ from zbp) hfr HN5.out)
     have K6 := Lib.hid (KB.kept (show KB k6 #[.bool true, .bool false, .bool false, .bool false, .bool bS, .bool bT] 137 _ from zbq) hfr HN6.out)
     clear hck hfr
     clear c0 lc lH
     obtain ⟨c0, c1, c2, lc, lH⟩ := HS4.out.facts
     clear c1 c2
     clear n0 n1 n2 n3 n4 l5 s0 s1 s2 s3 l6
     have n0 := K5.out.cell 0 _ rfl
     have n1 := K5.out.cell 1 _ rfl
     have n2 := K5.out.cell 2 _ rfl
     have n3 := K5.out.cell 3 _ rfl
     have n4 := K5.out.cell 4 _ rfl
     have l5 := K5.out.lt
     have s0 := K6.out.cell 0 _ rfl
     have s1 := K6.out.cell 1 _ rfl
     have s2 := K6.out.cell 2 _ rfl
     have s3 := K6.out.cell 3 _ rfl
     have l6 := K6.out.lt
     refine ycl ?_; intro HB4
     go_wp2_with fail
     try rw [ends_normal]
     try go_wp2_with fail
     all_goals
      go_ret
      exact yax
end Go.Proofs.YtpoeknndkccbaaaGreat
