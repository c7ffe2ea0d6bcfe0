/- Lemmas. -/
import Derived.Test.YtpoeknndkccbaaaGreatO39
import Derived.Test.YtpoeknndkccbaaaGreatO47
set_option linter.unusedSimpArgs false
set_option linter.unusedVariables false
namespace Go.Proofs.YtpoeknndkccbaaaGreat
open Go.RowKit
variable {L : Toks} {m : Nat}
attribute [go_sem] more_more Array.size_append
theorem nine_not {l : List UInt8} {t : ByteArray} (ht : t.toList = l) (h0 : l ≠ [108, 101, 116]) (h1 : l ≠ [115, 101, 116]) (h2 : l ≠ [112, 117, 116]) (h3 : l ≠ [100, 101, 108, 101, 116, 101]) (h4 : l ≠ [97, 98, 111, 114, 116]) (h5 : l ≠ [114, 101, 116, 117, 114, 110]) (h6 : l ≠ [105, 102]) (h7 : l ≠ [102, 111, 114]) (h8 : l ≠ [114, 101, 112, 101, 97, 116]) : nine.any (fun s => t.toList == s.toList) = false := by
 have e : nine.map (fun s => s.toList) = [[108, 101, 116], [115, 101, 116], [112, 117, 116], [100, 101, 108, 101, 116, 101], [97, 98, 111, 114, 116], [114, 101, 116, 117, 114, 110], [105, 102], [102, 111, 114], [114, 101, 112, 101, 97, 116]] := by kernel_rfl
 have e2 : nine.any (fun s => t.toList == s.toList) = (nine.map (fun s => s.toList)).any (fun x => l == x) := by rw [List.any_map, ht]; rfl
 rw [e2, e]
 have b : ∀ x : List UInt8, l ≠ x → (l == x) = false := fun x hx => by simpa using hx
 simp only [List.any_cons, List.any_nil, b _ h0, b _ h1, b _ h2, b _ h3, b _ h4, b _ h5, b _ h6, b _ h7, b _ h8, Bool.or_self]
theorem qdP (h : qbf L m = true) : (tk L m).1.k = 5 := by
 unfold qbf at h; rw [Bool.and_eq_true, beq_iff_eq] at h; exact h.1
theorem rstmt_any {b lb lo cap : Nat} {nv : Value} {N : List Nd} {w : World} (h : Rt b lb lo cap nv L m N 0 0 w) (hbg : qbf L m = true) (d : Nat) (hd : d ≤ 16) (ex bk : PM Int) (he : RDp b lb lo cap L 119 (d : Int) ex) (hb : RDp b lb lo cap L 53 ((d : Int) + 1) bk) (r : PR Int) (hr : stmtP L ex (qaz L bk) m N.length = r) :
  Calls Tryz.prog 87 #[.pointer (some ⟨b, 0, none⟩), .int .i64 (d : Int)] w (RPost intV isInt b lb lo cap nv L m N w r) := by
 have hk5 := qdP hbg
 unfold stmtP sIs at hr
 rw [if_neg (by rw [hk5]; simp)] at hr
 by_cases q_let : (tk L m).1.s.toList = [108, 101, 116]
 · rw [if_pos (by rw [q_let]; rfl)] at hr
   exact rstmt_let h hk5 q_let _ _ he r hr
 rw [if_neg (by simpa using q_let)] at hr
 by_cases q_set : (tk L m).1.s.toList = [115, 101, 116]
 · rw [if_pos (by rw [q_set]; rfl)] at hr
   exact rstmt_set h hk5 q_set _ _ he r hr
 rw [if_neg (by simpa using q_set)] at hr
 by_cases q_put : (tk L m).1.s.toList = [112, 117, 116]
 · rw [if_pos (by rw [q_put]; rfl)] at hr
   exact rstmt_put h hk5 q_put d hd _ he r hr
 rw [if_neg (by simpa using q_put)] at hr
 by_cases q_delete : (tk L m).1.s.toList = [100, 101, 108, 101, 116, 101]
 · rw [if_pos (by rw [q_delete]; rfl)] at hr
   exact rstmt_delete h hk5 q_delete d hd _ he r hr
 rw [if_neg (by simpa using q_delete)] at hr
 by_cases q_abort : (tk L m).1.s.toList = [97, 98, 111, 114, 116]
 · rw [if_pos (by rw [q_abort]; rfl)] at hr
   exact rstmt_abort h hk5 q_abort d hd _ he r hr
 rw [if_neg (by simpa using q_abort)] at hr
 by_cases q_return : (tk L m).1.s.toList = [114, 101, 116, 117, 114, 110]
 · rw [if_pos (by rw [q_return]; rfl)] at hr
   exact rstmt_return h hk5 q_return d hd _ he r hr
 rw [if_neg (by simpa using q_return)] at hr
 by_cases q_if : (tk L m).1.s.toList = [105, 102]
 · rw [if_pos (by rw [q_if]; rfl)] at hr
   exact rstmt_if h hk5 q_if d hd _ he _ hb r hr
 rw [if_neg (by simpa using q_if)] at hr
 by_cases q_for : (tk L m).1.s.toList = [102, 111, 114]
 · rw [if_pos (by rw [q_for]; rfl)] at hr
   exact rstmt_for h hk5 q_for d hd _ he _ hb r hr
 rw [if_neg (by simpa using q_for)] at hr
 by_cases q_repeat : (tk L m).1.s.toList = [114, 101, 112, 101, 97, 116]
 · rw [if_pos (by rw [q_repeat]; rfl)] at hr
   exact rstmt_repeat h hk5 q_repeat d hd _ hb r hr
 rw [if_neg (by simpa using q_repeat)] at hr
 exfalso
 unfold qbf at hbg
 rw [nine_not rfl q_let q_set q_put q_delete q_abort q_return q_if q_for q_repeat] at hbg
 simp at hbg
theorem stmt_none {ex br : PM Int} {n : Nat} (hbg : qbf L m = false) : stmtP L ex br m n = .ok (-1, m, []) := by
 unfold stmtP sIs
 by_cases hk : (tk L m).1.k = 5
 · rw [if_neg (by rw [hk]; simp)]
   unfold qbf at hbg
   rw [hk] at hbg
   have hn : ∀ x ∈ nine, ((tk L m).1.s.toList == x.toList) = false := by
    have h2 : nine.any (fun s => (tk L m).1.s.toList == s.toList) = false := by simpa using hbg
    rw [List.any_eq_false] at h2
    intro x hx
    simpa using h2 x hx
   have e : nine.map (fun s => s.toList) = [[108, 101, 116], [115, 101, 116], [112, 117, 116], [100, 101, 108, 101, 116, 101], [97, 98, 111, 114, 116], [114, 101, 116, 117, 114, 110], [105, 102], [102, 111, 114], [114, 101, 112, 101, 97, 116]] := by kernel_rfl
   have hl : ∀ y ∈ nine.map (fun s => s.toList), ((tk L m).1.s.toList == y) = false := by
    intro y hy
    obtain ⟨x, hx, rfl⟩ := List.mem_map.1 hy
    exact hn x hx
   rw [e] at hl
   rw [if_neg (by rw [hl [108, 101, 116] zan]; simp)]
   rw [if_neg (by rw [hl [115, 101, 116] zan]; simp)]
   rw [if_neg (by rw [hl [112, 117, 116] zan]; simp)]
   rw [if_neg (by rw [hl [100, 101, 108, 101, 116, 101] zan]; simp)]
   rw [if_neg (by rw [hl [97, 98, 111, 114, 116] zan]; simp)]
   rw [if_neg (by rw [hl [114, 101, 116, 117, 114, 110] zan]; simp)]
   rw [if_neg (by rw [hl [105, 102] zan]; simp)]
   rw [if_neg (by rw [hl [102, 111, 114] zan]; simp)]
   rw [if_neg (by rw [hl [114, 101, 112, 101, 97, 116] zan]; simp)]
   rfl
 · rw [if_pos hk]; rfl
end Go.Proofs.YtpoeknndkccbaaaGreat
