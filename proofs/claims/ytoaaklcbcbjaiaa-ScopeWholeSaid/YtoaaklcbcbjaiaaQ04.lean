/- Lemmas for the claim (texts Par7, Par8, Lex5, Lex6, Lex7, Lex8, LexP, what its proof uses of them). -/
import Derived.Test.YtoaaklcbcbjaiaaQ03
import Derived.Defers
import Derived.Recover
import Derived.RegionTactic
import Derived.ChangeAlike
set_option linter.unusedSimpArgs false
set_option linter.unusedVariables false
namespace Go.Proofs.Ytoaaklcbcbjaiaa
open Go.RowKit
attribute [go_sem] more_more Array.size_append
theorem ownsRow_set {w : World} {base : Nat} {e : TypeId} {size : Nat} {n g cap : Nat} {xs : List Value} (h : w.ownsRow base e size (.slice (some ⟨g, 0, none⟩) n cap) n xs) {i : Nat} (hi : i < n * size) (u : Value) :
    (w.setCell ⟨g, i, none⟩ u).ownsRow base e size (.slice (some ⟨g, 0, none⟩) n cap) n (xs.set i u) := by
  obtain ⟨h1, h2⟩ := h
  refine ⟨by simpa using h1, ?_⟩
  rcases h2 with ⟨h2, _⟩ | ⟨g', cap', cur, h2, hb, hg, hn, hm, hc, ht⟩
  · simp at h2
  · simp only [Value.slice.injEq, Option.some.injEq, Addr.mk.injEq, true_and, and_true] at h2
    obtain ⟨rfl, rfl⟩ := h2
    refine Or.inr ⟨g, cap, cur.setIfInBounds i u, rfl, hb, ?_, hn, hm, by simpa using hc, ?_⟩
    · simp [World.setCell, Array.getElem?_modify, hg]
    · rw [Array.toList_setIfInBounds, List.take_set, ht]
theorem ndCells_set : ∀ (l : List Nd) (j : Nat) (v : Int), j < l.length → ndCells (setNext l j v) = (ndCells l).set (j * 8 + 4) (.int .i64 v)
  | [], j, v, h => by simp at h
  | z :: l, 0, v, _ => by simp [setNext, ndCells, ndL]
  | z :: l, j + 1, v, h => by
    have := ndCells_set l j v (by simpa using h)
    have e1 : setNext (z :: l) (j + 1) v = z :: setNext l j v := by simp [setNext]
    have e2 : ∀ l, ndCells (z :: l) = ndL z ++ ndCells l := fun _ => rfl
    rw [e1, e2, e2, this, List.set_append_right _ _ (by simp [ndL]; omega)]
    congr 2
    simp [ndL]; omega
theorem setNext_length (l : List Nd) (j : Nat) (v : Int) : (setNext l j v).length = l.length := by simp [setNext]
theorem setNext_append (a l : List Nd) (j : Nat) (v : Int) : setNext (a ++ l) (a.length + j) v = a ++ setNext l j v := by
  simp only [setNext]
  induction a with
  | nil => simp
  | cons z a ih =>
    have e : (z :: a).length + j = (a.length + j) + 1 := by simp; omega
    rw [e, List.cons_append, List.modify_succ_cons, ih]; rfl
theorem Kp.setRow {b : Nat} {nv nv1 : Value} {w w1 : World} (h : Kp b nv nv1 w w1) {g : Nat} (hg : nv1.ownBlock = some g) (i : Nat) (v : Value) : Kp b nv nv1 w (w1.setCell ⟨g, i, none⟩ v) := by
  refine ⟨h.os, h.tape, h.output, by simpa [World.setCell] using h.size, fun j hj hb hn => ?_, h.row⟩
  rw [heap_set_other _ _ _ _ _ ?_]
  · exact h.block j hj hb hn
  · intro e
    subst e
    rcases h.row with e | e
    · exact hn (e ▸ hg)
    · have := e _ hg; omega
end Go.Proofs.Ytoaaklcbcbjaiaa

namespace Go.Proofs.Ytoaaklcbcbjaiaa
open Go.RowKit
attribute [go_sem] more_more Array.size_append
/-- what Tokens hands back -/
def ParsePost (w : World) (r : Except (Int × Int) (List Nd × Int)) (e : Ending) (w' : World) : Prop :=
  match r with
  | .error (c, a) => e = .returned (.tuple #[.agg #[.slice none 0 0, .int .i64 0], .int .i64 c, .int .i64 a]) ∧ Ext w w'
  | .ok (ns, f) => ∃ nv, e = .returned (.tuple #[.agg #[nv, .int .i64 f], .int .i64 0, .int .i64 0]) ∧ w'.ownsRow w.heap.size 52 8 nv ns.length (ndCells ns) ∧ Ext w w'
def okAt (L : Toks) (j : Nat) : Bool := ((tk L j).1.k == 0) == decide (j + 1 = L.length)
theorem ends_yes {L : Toks} (h0 : 0 < L.length) (hf : L.length ≤ 5000) (h : ∀ j, j < L.length → okAt L j = true) : Ends L ∧ parseF L = progP L := by
  have he : endsOk L = true := by
    unfold endsOk
    rw [Bool.and_eq_true, List.all_eq_true]
    refine ⟨by cases L with | nil => simp at h0 | cons a l => simp, fun j hj => ?_⟩
    have := h j (by simpa using hj)
    unfold okAt at this
    exact this
  refine ⟨⟨h0, hf, fun j hj => ?_⟩, by unfold parseF; rw [he]; rfl⟩
  have := h j hj
  unfold okAt at this
  rw [beq_iff_eq] at this
  constructor
  · intro e; rw [e] at this; simpa using this.symm
  · intro e; have e2 := decide_eq_true e; rw [e2] at this; simpa using this
theorem ext_kp {b : Nat} {nv nv' : Value} {w w1 w2 : World} (hx : Ext w w1) (h : Kp b nv nv' w1 w2) (hb : w.heap.size ≤ b) (hn : nv.ownBlock = none) : Ext w w2 := by
  have h1 := hx.below
  refine Ext.of_below ⟨h.os.trans h1.os, h.tape.trans h1.tape, h.output.trans h1.output, Nat.le_trans h1.size h.size, fun k hk => ?_⟩
  rw [h.block k (Nat.lt_of_lt_of_le hk h1.size) (by omega) (by rw [hn]; simp)]
  exact h1.block k hk
theorem Loc.two {b : Nat} {nv : Value} {k : Nat} {w : World} {v0 v1 : Value} {t : TypeId} (h : Loc b nv k (.cells #[v0, v1] t (0, 0)) w) : w.cell? ⟨k, 0, none⟩ = some v0 ∧ w.cell? ⟨k, 1, none⟩ = some v1 ∧ w.frozen? ⟨k, 0, none⟩ = false ∧ w.frozen? ⟨k, 1, none⟩ = false ∧ k < w.heap.size := by
  have := h.is
  refine ⟨?_, ?_, ?_, ?_, h.lt⟩ <;> simp [World.cell?, World.frozen?, this]
end Go.Proofs.Ytoaaklcbcbjaiaa

namespace Go.Proofs.Ytoaaklcbcbjaiaa
open Go.RowKit
def twoL : List ByteArray := [⟨#[61, 61]⟩, ⟨#[33, 61]⟩, ⟨#[60, 61]⟩, ⟨#[62, 61]⟩, ⟨#[46, 46]⟩]
def twoV : Value := .agg (twoL.map Value.string).toArray
def singles : ByteArray := ⟨#[40, 41, 123, 125, 44, 59, 61, 60, 62, 43, 45, 42, 47, 37]⟩
/-- the sign with which bytes begin, how many bytes it has, and the error -/
def signF (l : List UInt8) : Tok × Nat × Int :=
  match twoL.find? (fun p => Lib.hasPrefix l p.data.toList) with
  | some p => (⟨4, p, 0⟩, 2, 0)
  | none => (match l with
    | [] => (tok0, 0, 3)
    | c :: _ => if singles.data.toList.contains c = true then (⟨4, ⟨#[c]⟩, 0⟩, 1, 0) else (tok0, 0, 3))
theorem two_index (k : Nat) (hk : k < 5) (w : World) : (Instr.index 122 twoV (.int .i64 (k : Int))).run Try.prog w = .ok (.string (twoL.getD k ⟨#[]⟩)) w := by
  have h : k = 0 ∨ k = 1 ∨ k = 2 ∨ k = 3 ∨ k = 4 := by omega
  rcases h with rfl | rfl | rfl | rfl | rfl
  all_goals
    clear hk
    show (Instr.index _ _ _).run _ _ = _
    kernel_rfl
theorem lex_same {b : Nat} {s : ByteArray} {k : Nat} {lv : Value} {w : World} (h : LexAt b s k lv w) : w.setCell ⟨b, 1, none⟩ (.int .i64 (k : Int)) = w := by
  have h2 := h.set k (k : Int) rfl
  have e : (w.setCell ⟨b, 1, none⟩ (.int .i64 (k : Int))).heap = w.heap := by
    apply Array.ext_getElem?
    intro j
    by_cases hj : b = j
    · subst hj
      unfold LexAt at h h2
      rw [h, h2]
    · exact Below.heap_setCell _ _ _ _ (fun e => hj e.symm)
  unfold World.setCell at e ⊢
  simp only at e
  rw [e]
theorem first_byte (t : ByteArray) (h : 0 < t.size) : t.extract 0 1 = ⟨#[t[0]]⟩ := by
  apply ByteArray.ext
  apply Array.ext'
  have hl : 0 < t.data.toList.length := by simpa using h
  have e1 : (t.extract 0 1).data.toList = t.data.toList.take 1 := by simp [List.extract_eq_take_drop]
  rw [e1]
  have h2 := List.drop_eq_getElem_cons hl
  rw [List.drop_zero] at h2
  rw [h2]; rfl
theorem single_eq (u : UInt8) (j : Nat) (h : j < 14) (e : (u.toNat : Int) = ((singles[j]'h).toNat : Int)) : u = singles[j]'h := UInt8.toNat_inj.1 (by omega)
theorem single_ne (u : UInt8) (j : Nat) (h : j < 14) (e : ¬ (u.toNat : Int) = ((singles[j]'h).toNat : Int)) : ¬ u = singles[j]'h := fun e' => e (by rw [e'])
theorem single_in (u : UInt8) (j : Nat) (h : j < 14) (e : u = singles[j]'h) : singles.data.toList.contains u = true := by
  have hl : j < singles.data.toList.length := h
  rw [List.contains_iff_mem, e]
  exact List.getElem_mem hl
theorem single_step (u : UInt8) (j : Nat) (h : j < 14) (hf : (singles.data.toList.take j).contains u = false) (e : ¬ u = singles[j]'h) : (singles.data.toList.take (j + 1)).contains u = false := by
  have hl : j < singles.data.toList.length := h
  rw [List.take_succ_eq_append_getElem hl, List.contains_eq_mem] at *
  simp only [List.mem_append, List.mem_singleton, decide_eq_false_iff_not, not_or] at *
  exact ⟨hf, e⟩
theorem find_none (l : List UInt8) (k : Nat) (hk : k < 5) (h : (twoL.take k).find? (fun p => Lib.hasPrefix l p.data.toList) = none) (hn : Lib.hasPrefix l (twoL.getD k ⟨#[]⟩).data.toList = false) : (twoL.take (k + 1)).find? (fun p => Lib.hasPrefix l p.data.toList) = none := by
  have hl : k < twoL.length := hk
  have e : twoL.take (k + 1) = twoL.take k ++ [twoL.getD k ⟨#[]⟩] := by
    rw [List.take_succ_eq_append_getElem hl]
    congr 2
    simp [List.getD, List.getElem?_eq_getElem hl]
  rw [e, List.find?_append, h]
  simp only [Option.none_or, List.find?_cons, hn, List.find?_nil]
theorem find_some (l : List UInt8) (k : Nat) (hk : k < 5) (h : (twoL.take k).find? (fun p => Lib.hasPrefix l p.data.toList) = none) (hn : Lib.hasPrefix l (twoL.getD k ⟨#[]⟩).data.toList = true) : twoL.find? (fun p => Lib.hasPrefix l p.data.toList) = some (twoL.getD k ⟨#[]⟩) := by
  have hl : k < twoL.length := hk
  have e : twoL = twoL.take k ++ (twoL.getD k ⟨#[]⟩ :: twoL.drop (k + 1)) := by
    have h1 := List.take_append_drop k twoL
    rw [List.drop_eq_getElem_cons hl] at h1
    have h2 : twoL.getD k ⟨#[]⟩ = twoL[k] := by simp [List.getD, List.getElem?_eq_getElem hl]
    rw [h2]; exact h1.symm
  rw [e, List.find?_append, h]
  simp only [Option.none_or, List.find?_cons]
  rw [← e, hn]
set_option maxHeartbeats 2000000 in
set_option maxRecDepth 20000 in
theorem sign_any (b : Nat) (s t : ByteArray) (k n : Nat) (lv : Value) (hk : k < s.size) (hs : (s.size : Int) ≤ 4611686018427387904) (ht : s.extract k s.size = t) (h0 : 0 < t.size) (r : Tok) (e : Int) (hr : signF t.data.toList = (r, n, e)) (w : World) (h : LexAt b s k lv w) :
    Calls Try.prog 78 #[.pointer (some ⟨b, 0, none⟩)] w fun e' w' => e' = .returned (.tuple #[tokV r 0, .int .i64 e]) ∧ Ext (w.setCell ⟨b, 1, none⟩ (.int .i64 ((k + n : Nat) : Int))) w' := by
  have HL := Lib.hid h
  have hb := h.lt
  obtain ⟨c0, c1, c2, f1, f2⟩ := h.cells
  have hk2 : (k : Int) ≤ 9223372036854775800 := by omega
  have hs3 : s.size ≤ maxLen := by unfold maxLen; omega
  unfold maxLen at hs3
  clear hs
  unfold tokV
  have HR := Lib.hid hr
  obtain ⟨V, hV⟩ : ∃ V, twoV = V := ⟨_, rfl⟩
  have hV2 : (Value.agg #[.string ⟨#[61, 61]⟩, .string ⟨#[33, 61]⟩, .string ⟨#[60, 61]⟩, .string ⟨#[62, 61]⟩, .string ⟨#[46, 46]⟩]) = V := by rw [← hV]; rfl
  have HI := Lib.hid two_index
  rw [hV] at HI
  clear h hr hV
  go_enter Try.func78, Try.ntmps78
  go_wp2_with fail
  refine wp_region_grow 8 54 [false, false, false, false, false, false, false, false] (by kernel_rfl) (by kernel_rfl) rfl ?_
  simp only [List.take_succ_cons, List.take_zero, List.drop_succ_cons, List.drop_zero]
  repeat (refine Lex.step rfl ?_; intro K hK; unfold StepG; go_simp; (first
      | refine hK _ ?_); clear hK K)
  refine Lex.nil fun WW hE => ?_
  obtain ⟨dd, oo, rfl⟩ := hE
  unfold FillH
  go_wp2_with fail
  rw [ends_normal]
  go_wp2_with fail
  clear hV2 ht
  go_loop [18] (fun ii => ∃ j : Nat, ii = .int .i64 j ∧ j ≤ 5 ∧ (twoL.take j).find? (fun p => Lib.hasPrefix t.data.toList p.data.toList) = none) (fun ii => 5 - (intOf ii).toNat)
  case atStart => exact ⟨0, rfl, by omega, rfl⟩
  case round =>
    obtain ⟨j, rfl, hj, hf⟩ := hrel
    have HF := Lib.hid hf
    clear hf
    by_cases hlt : j < 5
    · have hi := HI.out j hlt
      have hno := Lib.hid (find_none t.data.toList j hlt HF.out)
      have hso := Lib.hid (find_some t.data.toList j hlt HF.out)
      generalize twoL.getD j ⟨#[]⟩ = x at hi hno hso
      cases hq : Lib.hasPrefix t.data.toList x.data.toList
      · clear HR
        go_wp2_with (go_at_call 100; refine (Try.strings_HasPrefix _ _ _).mono ?_; rintro e _ ⟨rfl, rfl⟩)
        go_round
        case rel => exact ⟨j + 1, by go_num, by omega, hno.out hq⟩
        case measure => simp [intOf] <;> omega
      · have h1 := HR.out
        unfold signF at h1
        rw [hso.out hq] at h1
        simp only [Prod.mk.injEq] at h1
        obtain ⟨rfl, rfl, rfl⟩ := h1
        clear HR
        go_wp2_with (go_at_call 100; refine (Try.strings_HasPrefix _ _ _).mono ?_; rintro e _ ⟨rfl, rfl⟩)
        refine bodyPost_ret (v := .tuple #[.agg #[.int .i64 4, .int .i64 0, .string x, .int .i64 0], .int .i64 0]) (by simp [results, Try.results78, go_sem]) rfl ?_
        exact ⟨rfl, by repeat (first | exact Ext.refl _ | apply Ext.alloc | apply Ext.more)⟩
    · have hj5 : j = 5 := by omega
      subst hj5
      have hfn : twoL.find? (fun p => Lib.hasPrefix t.data.toList p.data.toList) = none := HF.out
      have h1 := HR.out
      unfold signF at h1
      rw [hfn] at h1
      have hct : t.data.toList = t[0] :: t.data.toList.drop 1 := by
        have hl' : 0 < t.data.toList.length := by simpa using h0
        have := List.drop_eq_getElem_cons hl'
        rw [List.drop_zero] at this
        exact this
      rw [hct] at h1
      dsimp only at h1
      have H1 := Lib.hid h1
      obtain ⟨u, hu⟩ : ∃ u, t[0] = u := ⟨_, rfl⟩
      clear HR hfn HF HI h1 hct
      rw [hu] at H1
      cases hct : singles.data.toList.contains u
      · have h1 := H1.out
        rw [hct] at h1
        rw [if_neg (by simp)] at h1
        simp only [Prod.mk.injEq] at h1
        obtain ⟨rfl, rfl, rfl⟩ := h1
        have HC := Lib.hid hct
        clear H1 hct
        go_wp2
        go_loopw [34] (fun ii wr => ∃ (j : Nat) (d : Nat) (os : Array Obj), ii = .int .i64 j ∧ j ≤ 14 ∧ (singles.data.toList.take j).contains u = false ∧ wr = more (w.alloc (.cells #[.int .i64 0, .int .i64 0, .string ⟨#[]⟩, .int .i64 0] 57)) d os) (fun ii _ => 14 - (intOf ii).toNat)
        case atStart => exact ⟨0, _, _, rfl, by omega, rfl, rfl⟩
        case round =>
          obtain ⟨j, d, os, rfl, hj, hf, rfl⟩ := hrel
          have HF := Lib.hid hf
          clear hf
          by_cases hlt : j < 14
          · go_wp2_with fail
            refine wp_region_grow 4 54 [false, false, false, false] (by kernel_rfl) (by kernel_rfl) rfl ?_
            simp only [List.take_succ_cons, List.take_zero, List.drop_succ_cons, List.drop_zero]
            repeat (refine Lex.step rfl ?_; intro K hK; unfold StepG; go_simp; (first
                | refine hK _ ?_); clear hK K)
            refine Lex.nil fun WW hE => ?_
            obtain ⟨dd, oo, rfl⟩ := hE
            unfold FillH
            go_wp2_with fail
            rw [ends_normal]
            go_wp2_with fail
            · rename_i hqt
              have hq := single_eq u j hlt (by simp only [beq_iff_eq] at hqt; exact hqt)
              exact absurd (single_in u j hlt hq) (by rw [HC.out]; simp)
            · rename_i hqt
              have hq := single_ne u j hlt (by simp only [beq_eq_false_iff_ne, ne_eq] at hqt; exact hqt)
              go_roundw
              case rel => exact ⟨j + 1, _, _, by go_num, by omega, single_step u j hlt HF.out hq, rfl⟩
              case measure => simp [intOf] <;> omega
          · have hj14 : j = 14 := by omega
            subst hj14
            go_wp2
            refine bodyPost_ret (v := .tuple #[.agg #[.int .i64 0, .int .i64 0, .string ⟨#[]⟩, .int .i64 0], .int .i64 3]) (by simp [results, Try.results78, go_sem]) rfl ?_
            refine ⟨rfl, ?_⟩
            rw [Nat.add_zero, lex_same HL.out]
            repeat (first | exact Ext.refl _ | apply Ext.alloc | apply Ext.more)
      · have h1 := H1.out
        rw [hct] at h1
        rw [if_pos rfl] at h1
        simp only [Prod.mk.injEq] at h1
        obtain ⟨rfl, rfl, rfl⟩ := h1
        have HC := Lib.hid hct
        have hx : t.extract 0 1 = ⟨#[u]⟩ := by rw [← hu]; exact first_byte t h0
        clear H1 hct
        go_wp2
        go_loopw [34] (fun ii wr => ∃ (j : Nat) (d : Nat) (os : Array Obj), ii = .int .i64 j ∧ j ≤ 14 ∧ (singles.data.toList.take j).contains u = false ∧ wr = more (w.alloc (.cells #[.int .i64 0, .int .i64 0, .string ⟨#[]⟩, .int .i64 0] 57)) d os) (fun ii _ => 14 - (intOf ii).toNat)
        case atStart => exact ⟨0, _, _, rfl, by omega, rfl, rfl⟩
        case round =>
          obtain ⟨j, d, os, rfl, hj, hf, rfl⟩ := hrel
          have HF := Lib.hid hf
          clear hf
          by_cases hlt : j < 14
          · go_wp2_with fail
            refine wp_region_grow 4 54 [false, false, false, false] (by kernel_rfl) (by kernel_rfl) rfl ?_
            simp only [List.take_succ_cons, List.take_zero, List.drop_succ_cons, List.drop_zero]
            repeat (refine Lex.step rfl ?_; intro K hK; unfold StepG; go_simp; (first
                | refine hK _ ?_); clear hK K)
            refine Lex.nil fun WW hE => ?_
            obtain ⟨dd, oo, rfl⟩ := hE
            unfold FillH
            go_wp2_with fail
            rw [ends_normal]
            go_wp2_with fail
            · rename_i hqt
              have hq := single_eq u j hlt (by simp only [beq_iff_eq] at hqt; exact hqt)
              refine bodyPost_ret (v := .tuple #[.agg #[.int .i64 4, .int .i64 0, .string ⟨#[u]⟩, .int .i64 0], .int .i64 0]) (by simp [results, Try.results78, hx, go_sem]) rfl ?_
              exact ⟨rfl, by repeat (first | exact Ext.refl _ | apply Ext.alloc | apply Ext.more)⟩
            · rename_i hqt
              have hq := single_ne u j hlt (by simp only [beq_eq_false_iff_ne, ne_eq] at hqt; exact hqt)
              go_roundw
              case rel => exact ⟨j + 1, _, _, by go_num, by omega, single_step u j hlt HF.out hq, rfl⟩
              case measure => simp [intOf] <;> omega
          · have hj14 : j = 14 := by omega
            subst hj14
            exact absurd HC.out (by rw [show singles.data.toList = singles.data.toList.take 14 from rfl, HF.out]; simp)
end Go.Proofs.Ytoaaklcbcbjaiaa

namespace Go.Proofs.Ytoaaklcbcbjaiaa
open Go.RowKit
/-- the text that begins behind a quotation mark: it, how many bytes it has behind that, and the error -/
def textG : List UInt8 → List UInt8 → Tok × Nat × Int
  | [], _ => (tok0, 0, 2)
  | c :: l, acc =>
    if c.toNat = 34 then (if 64 < acc.length then (tok0, 0, 5) else (⟨3, ⟨acc.toArray⟩, 0⟩, 1, 0))
    else if c.toNat < 32 ∨ 126 < c.toNat then (tok0, 0, 3)
    else if c.toNat ≠ 92 then (let r := textG l (acc ++ [c]); (r.1, r.2.1 + 1, r.2.2))
    else match l with
      | [] => (tok0, 0, 2)
      | d :: l' => if escZ (d.toNat : Int) = 0 then (tok0, 0, 3) else (let r := textG l' (acc ++ [UInt8.ofNat (escZ (d.toNat : Int)).toNat]); (r.1, r.2.1 + 2, r.2.2))
def TextPost (b k n : Nat) (r : Tok) (e : Int) (w : World) (e' : Ending) (w' : World) : Prop :=
  e' = .returned (.tuple #[.agg #[.int .i64 r.k, .int .i64 0, .string r.s, .int .i64 r.i], .int .i64 e]) ∧ ∃ k' : Nat, (e = 0 → k' = k + 1 + n) ∧ Ext (w.setCell ⟨b, 1, none⟩ (.int .i64 (k' : Int))) w'
theorem escZ_range (c : Int) (h0 : 0 ≤ c) (h1 : c < 256) : 0 ≤ escZ c ∧ escZ c < 256 := by unfold escZ; (repeat' split) <;> omega
theorem bld_snoc_of {B b : Nat} {acc : List UInt8} {c : Int} {u : UInt8} {w : World} (h : Bld B b (cellsB acc ++ [.int .u8 c]) w) (hu : (u.toNat : Int) = c) : Bld B b (cellsB (acc ++ [u])) w := by
  rw [cellsB_append]
  have e : cellsB [u] = [.int .u8 c] := by rw [← hu]; rfl
  rw [e]; exact h
theorem grown_new {w0 w : World} {row : Option Nat} (h : w0.grownBy w row) {p : Addr} (hp : w0.heap.size ≤ p.block) (v : Value) : w0.grownBy (w.setCell p v) row := by
  obtain ⟨h1, h2, h3, h4, h5⟩ := h
  refine ⟨h1, h2, h3, by simpa [World.setCell] using h4, fun k hk hne => ?_⟩
  rw [← h5 k hk hne]
  exact Below.heap_setCell _ _ _ _ (fun e => by omega)
theorem setCell_same {w : World} {b i : Nat} {v : Value} (h : w.cell? ⟨b, i, none⟩ = some v) : w.setCell ⟨b, i, none⟩ v = w := by
  have e : (w.setCell ⟨b, i, none⟩ v).heap = w.heap := by
    apply Array.ext_getElem?
    intro j
    by_cases hj : b = j
    · subst hj
      unfold World.cell? at h
      unfold World.setCell
      simp only [Array.getElem?_modify, if_true]
      cases hb : w.heap[b]? with
      | none => rfl
      | some o =>
        rw [hb] at h
        cases o with
        | cells c t fr =>
          have hi : c[i]? = some v := by simpa using h
          obtain ⟨hlt, hv⟩ := Array.getElem?_eq_some_iff.1 hi
          have hs : c.setIfInBounds i v = c := by
            apply Array.ext_getElem?
            intro q
            rw [Array.getElem?_setIfInBounds]
            by_cases h3 : i = q
            · subst h3; rw [if_pos rfl, if_pos hlt, hi]
            · rw [if_neg h3]
          simp [hs]
        | _ => first | (simp at h; done) | cases h
    · exact Below.heap_setCell _ _ _ _ (fun e => hj e.symm)
  unfold World.setCell at e ⊢
  simp only at e
  rw [e]
attribute [go_sem] setCell_same
def TokBlk (N : Nat) (w : World) : Prop := w.heap[N]? = some (.cells #[.int .i64 0, .int .i64 0, .string ⟨#[]⟩, .int .i64 0] 57 (0, 0))
theorem TokBlk.cells {N : Nat} {w : World} (h : TokBlk N w) : w.cell? ⟨N, 0, none⟩ = some (.int .i64 0) ∧ w.cell? ⟨N, 1, none⟩ = some (.int .i64 0) ∧ w.cell? ⟨N, 2, none⟩ = some (.string ⟨#[]⟩) ∧ w.cell? ⟨N, 3, none⟩ = some (.int .i64 0) ∧ (∀ o, w.frozen? ⟨N, o, none⟩ = false) ∧ N < w.heap.size := by
  unfold TokBlk at h
  refine ⟨by simp [World.cell?, h], by simp [World.cell?, h], by simp [World.cell?, h], by simp [World.cell?, h], fun o => by simp [World.frozen?, h], ?_⟩
  exact (Array.getElem?_eq_some_iff.1 h).1
theorem TokBlk.start {N : Nat} {w : World} (h : w.heap.size = N) (o : Obj) : TokBlk N ((w.alloc (.cells #[.int .i64 0, .int .i64 0, .string ⟨#[]⟩, .int .i64 0] 57)).alloc o) := by
  subst h
  unfold TokBlk
  rw [Lib.alloc_old _ o _ (by simp)]
  exact heap_alloc_new _ _
theorem TokBlk.below {N B : Nat} {w w' : World} (h : TokBlk N w) (hb : Below B w w') (hN : N < B) : TokBlk N w' := by
  unfold TokBlk; rw [hb.block N hN]; exact h
theorem TokBlk.set {N : Nat} {w : World} (h : TokBlk N w) {p : Addr} (hp : p.block ≠ N) (v : Value) : TokBlk N (w.setCell p v) := by
  unfold TokBlk; rw [Below.heap_setCell _ _ _ _ (fun e => hp e.symm)]; exact h
theorem TokBlk.more {N : Nat} {w : World} (h : TokBlk N w) (d : Nat) (os : Array Obj) : TokBlk N (more w d os) := by
  unfold TokBlk; rw [more_heap _ _ _ _ h.cells.2.2.2.2.2]; exact h
theorem bld_set {B b b0 i : Nat} {bs : List Value} {w : World} (h : Bld B b bs w) (hb : b0 < B) (v : Value) : Bld B b bs (w.setCell ⟨b0, i, none⟩ v) := bld_kept h (grown_set (grown_refl w _) i v) hb
theorem bld_more {B b : Nat} {bs : List Value} {w : World} (h : Bld B b bs w) (d : Nat) (os : Array Obj) : Bld B b bs (more w d os) := bld_ext h (Ext.more (Ext.refl _) _ _)
set_option maxHeartbeats 8000000 in
set_option maxRecDepth 20000 in
theorem text_any (b : Nat) (s : ByteArray) (k n : Nat) (lv : Value) (hk : k < s.size) (hs : s.size ≤ 140737488351232) (r : Tok) (e : Int) (hr : textG (s.data.toList.drop (k + 1)) [] = (r, n, e)) (w : World) (h : LexAt b s k lv w) :
    Calls Try.prog 83 #[.pointer (some ⟨b, 0, none⟩)] w (TextPost b k n r e w) := by
  have HL := Lib.hid h
  have HR := Lib.hid hr
  have hbw := h.lt
  obtain ⟨c0, c1, c2, f1, f2⟩ := h.cells
  have HSZ := Lib.hid hs
  have hs3 : s.size ≤ maxLen := by unfold maxLen; omega
  unfold maxLen at hs3
  clear h hr hs
  go_enter Try.func83, Try.ntmps83
  go_wp2_with fail
  clear c0 c1 c2 f1 f2
  go_loopg [] (s.size - (k + 1)) (fun g wr => ∃ (m : Nat) (acc : List UInt8) (n' : Nat), k < m ∧ m ≤ s.size ∧ acc.length ≤ m ∧ g = s.size - m ∧ textG (s.data.toList.drop m) acc = (r, n', e) ∧ (e = 0 → m + n' = k + 1 + n) ∧ LexAt b s m lv wr ∧ TokBlk w.heap.size wr ∧ Bld (w.heap.size + 1) (w.heap.size + 1) (cellsB acc) wr ∧ w.grownBy wr (some b))
  case atStart =>
    have hsz : (w.setCell ⟨b, 1, none⟩ (.int .i64 ((k : Int) + 1))).heap.size = w.heap.size := by simp [World.setCell]
    refine ⟨k + 1, [], n, by omega, by omega, by simp, rfl, HR.out, fun _ => by omega, ((HL.out.set (k + 1) _ (by omega)).alloc _).alloc _, ?_, ?_, ?_⟩
    · exact TokBlk.start hsz _
    · have h := Lib.fresh_isBuilder 128 5 ((w.setCell ⟨b, 1, none⟩ (.int .i64 ((k : Int) + 1))).alloc (.cells #[.int .i64 0, .int .i64 0, .string ⟨#[]⟩, .int .i64 0] 57))
      have e2 : ((w.setCell ⟨b, 1, none⟩ (.int .i64 ((k : Int) + 1))).alloc (.cells #[.int .i64 0, .int .i64 0, .string ⟨#[]⟩, .int .i64 0] 57)).heap.size = w.heap.size + 1 := by simp [World.setCell]
      rw [e2] at h
      exact h
    · exact grown_ext (grown_set (grown_refl _ _) _ _) (((Ext.refl _).alloc _).alloc _)
  case round =>
    obtain ⟨m, acc, n', hkm, hms, hal, hgk, hx, hsn, hL, hT, hB, hg⟩ := hrel
    have HLL := Lib.hid hL
    have HT := Lib.hid hT
    have HB := Lib.hid hB
    have HG := Lib.hid hg
    have HGK := Lib.hid hgk
    have HS := Lib.hid hsn
    obtain ⟨c0, c1, c2, f1, f2⟩ := hL.cells
    have hb := hL.lt
    obtain ⟨t0, t1, t2, t3, tf, ht⟩ := hT.cells
    have hne : (w.heap.size = b) = False := by simp; omega
    have hne2 : (b = w.heap.size) = False := by simp; omega
    clear hL hT hB hg hgk hsn HR
    by_cases hlt : m < s.size
    · have hml : m < s.data.toList.length := by simpa using hlt
      have hd : s.data.toList.drop m = s[m]'hlt :: s.data.toList.drop (m + 1) := List.drop_eq_getElem_cons hml
      rw [hd] at hx
      have h256 := (s[m]'hlt).toNat_lt
      unfold textG at hx
      by_cases q1 : (s[m]'hlt).toNat = 34
      · rw [if_pos q1] at hx
        by_cases h64 : 64 < acc.length
        · rw [if_pos h64] at hx
          simp only [Prod.mk.injEq, tok0] at hx
          obtain ⟨rfl, rfl, rfl⟩ := hx
          have q1' : (((s[m]'hlt).toNat : Int)) = 34 := by omega
          clear hd hml h256 q1
          go_wp2_with fail
          refine wp_region_grow 9 100 [false, false, false, false, false, false, false, false, false] (by kernel_rfl) (by kernel_rfl) rfl ?_
          simp only [List.take_succ_cons, List.take_zero, List.drop_succ_cons, List.drop_zero]
          repeat (refine Lex.step rfl ?_; intro K hK; unfold StepG; go_simp; (first
              | refine hK _ ?_); clear hK K)
          refine Lex.nil fun WW hE => ?_
          obtain ⟨dd, oo, rfl⟩ := hE
          unfold FillH
          go_wp2_with fail
          rw [ends_normal]
          go_wp2_with fail
          refine wp_region_grow 8 100 [false, false, false, false, false, false, false, false] (by kernel_rfl) (by kernel_rfl) rfl ?_
          simp only [List.take_succ_cons, List.take_zero, List.drop_succ_cons, List.drop_zero]
          repeat (refine Lex.step rfl ?_; intro K hK; unfold StepG; go_simp; (first
              | refine hK _ ?_); clear hK K)
          refine Lex.nil fun WW hE => ?_
          obtain ⟨dd, oo, rfl⟩ := hE
          unfold FillH
          go_wp2_with fail
          rw [ends_normal]
          go_wp2_with (go_at_call 103; refine (Try.Builder_Len (w.heap.size + 1) (w.heap.size + 1) (cellsB acc) _ (by repeat (first | (with_reducible exact HB.out) | (with_reducible apply bld_more) | ((with_reducible refine bld_set ?_ ?_ _); rotate_left; omega)))).mono ?_; rw [cellsB_length]; rintro e _ ⟨rfl, rfl⟩)
          refine bodyPost_ret (v := .tuple #[.agg #[.int .i64 0, .int .i64 0, .string ⟨#[]⟩, .int .i64 0], .int .i64 5]) (by simp [results, Try.results83, t0, t1, t2, t3, tf, hne, hne2, ht, hb, go_sem]) rfl ?_
          refine ⟨rfl, (m + 1), fun h => absurd h (by decide), ?_⟩
          exact lex_form HL.out (k' := (m + 1)) (by repeat (first | (with_reducible exact HLL.out) | (with_reducible apply LexAt.more) | (with_reducible apply LexAt.alloc) | ((with_reducible refine LexAt.other ?_ ?_ _); rotate_left; (show w.heap.size ≠ b; omega)) | ((with_reducible refine LexAt.set HLL.out _ _ ?_); omega))) (by repeat (first | (with_reducible exact HG.out) | (with_reducible refine grown_ext ?_ (Ext.more (Ext.refl _) _ _)) | ((with_reducible refine grown_new ?_ ?_ _); rotate_left; exact Nat.le_refl w.heap.size) | (with_reducible refine grown_set ?_ _ _)))
        · rw [if_neg h64] at hx
          simp only [Prod.mk.injEq] at hx
          obtain ⟨rfl, rfl, rfl⟩ := hx
          have q1' : (((s[m]'hlt).toNat : Int)) = 34 := by omega
          have h64' : ((acc.length : Int) ≤ 64) := by omega
          clear hd hml h256 q1
          go_wp2_with fail
          refine wp_region_grow 9 100 [false, false, false, false, false, false, false, false, false] (by kernel_rfl) (by kernel_rfl) rfl ?_
          simp only [List.take_succ_cons, List.take_zero, List.drop_succ_cons, List.drop_zero]
          repeat (refine Lex.step rfl ?_; intro K hK; unfold StepG; go_simp; (first
              | refine hK _ ?_); clear hK K)
          refine Lex.nil fun WW hE => ?_
          obtain ⟨dd, oo, rfl⟩ := hE
          unfold FillH
          go_wp2_with fail
          rw [ends_normal]
          go_wp2_with fail
          refine wp_region_grow 8 100 [false, false, false, false, false, false, false, false] (by kernel_rfl) (by kernel_rfl) rfl ?_
          simp only [List.take_succ_cons, List.take_zero, List.drop_succ_cons, List.drop_zero]
          repeat (refine Lex.step rfl ?_; intro K hK; unfold StepG; go_simp; (first
              | refine hK _ ?_); clear hK K)
          refine Lex.nil fun WW hE => ?_
          obtain ⟨dd, oo, rfl⟩ := hE
          unfold FillH
          go_wp2_with fail
          rw [ends_normal]
          go_wp2_with (go_at_call 103; refine (Try.Builder_Len (w.heap.size + 1) (w.heap.size + 1) (cellsB acc) _ (by repeat (first | (with_reducible exact HB.out) | (with_reducible apply bld_more) | ((with_reducible refine bld_set ?_ ?_ _); rotate_left; omega)))).mono ?_; rw [cellsB_length]; rintro e _ ⟨rfl, rfl⟩)
          refine (Try.Builder_String_any (w.heap.size + 1) (w.heap.size + 1) acc _ (show Bld (w.heap.size + 1) (w.heap.size + 1) (cellsB acc) _ from by repeat (first | (with_reducible exact HB.out) | (with_reducible apply bld_more) | ((with_reducible refine bld_set ?_ ?_ _); rotate_left; omega))) (by simp only [more_size, World.setCell, Array.size_modify]; omega)).mono ?_
          rintro e w2 ⟨rfl, hbl⟩
          have hL1 := LexAt.below (k := (m + 1)) (by repeat (first | (with_reducible exact HLL.out) | (with_reducible apply LexAt.more) | (with_reducible apply LexAt.alloc) | ((with_reducible refine LexAt.other ?_ ?_ _); rotate_left; (show w.heap.size ≠ b; omega)) | ((with_reducible refine LexAt.set HLL.out _ _ ?_); omega))) hbl (by omega)
          have hT1 := TokBlk.below (N := w.heap.size) (by repeat (first | (with_reducible exact HT.out) | (with_reducible apply TokBlk.more) | ((with_reducible refine TokBlk.set ?_ ?_ _); rotate_left; (show b ≠ w.heap.size; omega)))) hbl (by omega)
          have hG1 := grown_below (w := w) (row := some b) (by repeat (first | (with_reducible exact HG.out) | (with_reducible refine grown_ext ?_ (Ext.more (Ext.refl _) _ _)) | ((with_reducible refine grown_new ?_ ?_ _); rotate_left; exact Nat.le_refl w.heap.size) | (with_reducible refine grown_set ?_ _ _))) (hbl.mono (by omega))
          clear c0 c1 c2 f1 f2 t0 t1 t2 t3 tf ht
          obtain ⟨c0, c1, c2, f1, f2⟩ := hL1.cells
          have hb1 := hL1.lt
          obtain ⟨t0, t1, t2, t3, tf, ht⟩ := hT1.cells
          have HL1 := Lib.hid hL1
          have HT1 := Lib.hid hT1
          have HG1 := Lib.hid hG1
          clear hbl hL1 hT1 hG1
          go_wp2_with fail
          refine bodyPost_ret (v := .tuple #[.agg #[.int .i64 3, .int .i64 0, .string ⟨acc.toArray⟩, .int .i64 0], .int .i64 0]) (by simp [results, Try.results83, t0, t1, t2, t3, tf, hne, hne2, ht, hb1, go_sem]) rfl ?_
          refine ⟨rfl, (m + 1), fun _ => by have := HS.out (by trivial); omega, ?_⟩
          exact lex_form HL.out (k' := (m + 1)) (by repeat (first | (with_reducible exact HL1.out) | (with_reducible apply LexAt.more) | (with_reducible apply LexAt.alloc) | ((with_reducible refine LexAt.other ?_ ?_ _); rotate_left; (show w.heap.size ≠ b; omega)) | ((with_reducible refine LexAt.set HL1.out _ _ ?_); omega))) (by repeat (first | (with_reducible exact HG1.out) | (with_reducible refine grown_ext ?_ (Ext.more (Ext.refl _) _ _)) | ((with_reducible refine grown_new ?_ ?_ _); rotate_left; exact Nat.le_refl w.heap.size) | (with_reducible refine grown_set ?_ _ _)))
      · rw [if_neg q1] at hx
        have p1 : (((s[m]'hlt).toNat : Int) == 34) = false := by simp; omega
        by_cases q2 : (s[m]'hlt).toNat < 32 ∨ 126 < (s[m]'hlt).toNat
        · rw [if_pos q2] at hx
          simp only [Prod.mk.injEq, tok0] at hx
          obtain ⟨rfl, rfl, rfl⟩ := hx
          clear hd hml h256 q1
          rcases q2 with q2 | q2
          · have q3 : (((s[m]'hlt).toNat : Int) < 32) = True := by simp; omega
            clear q2
            go_wp2_with fail
            refine wp_region_grow 9 100 [false, false, false, false, false, false, false, false, false] (by kernel_rfl) (by kernel_rfl) rfl ?_
            simp only [List.take_succ_cons, List.take_zero, List.drop_succ_cons, List.drop_zero]
            repeat (refine Lex.step rfl ?_; intro K hK; unfold StepG; go_simp; (first
                | refine hK _ ?_); clear hK K)
            refine Lex.nil fun WW hE => ?_
            obtain ⟨dd, oo, rfl⟩ := hE
            unfold FillH
            go_wp2_with fail
            rw [ends_normal]
            go_wp2_with fail
            refine wp_region_grow 8 100 [false, false, false, false, false, false, false, false] (by kernel_rfl) (by kernel_rfl) rfl ?_
            simp only [List.take_succ_cons, List.take_zero, List.drop_succ_cons, List.drop_zero]
            repeat (refine Lex.step rfl ?_; intro K hK; unfold StepG; go_simp; (first
                | refine hK _ ?_); clear hK K)
            refine Lex.nil fun WW hE => ?_
            obtain ⟨dd, oo, rfl⟩ := hE
            unfold FillH
            go_wp2_with fail
            rw [ends_normal]
            go_wp2_with fail
            refine bodyPost_ret (v := .tuple #[.agg #[.int .i64 0, .int .i64 0, .string ⟨#[]⟩, .int .i64 0], .int .i64 3]) (by simp [results, Try.results83, t0, t1, t2, t3, tf, hne, hne2, ht, hb, go_sem]) rfl ?_
            refine ⟨rfl, m, fun h => absurd h (by decide), ?_⟩
            exact lex_form HL.out (k' := m) (by repeat (first | (with_reducible exact HLL.out) | (with_reducible apply LexAt.more) | (with_reducible apply LexAt.alloc) | ((with_reducible refine LexAt.other ?_ ?_ _); rotate_left; (show w.heap.size ≠ b; omega)) | ((with_reducible refine LexAt.set HLL.out _ _ ?_); omega))) (by repeat (first | (with_reducible exact HG.out) | (with_reducible refine grown_ext ?_ (Ext.more (Ext.refl _) _ _)) | ((with_reducible refine grown_new ?_ ?_ _); rotate_left; exact Nat.le_refl w.heap.size) | (with_reducible refine grown_set ?_ _ _)))
          · have q3 : (((s[m]'hlt).toNat : Int) < 32) = False := by simp; omega
            have q4 : (126 < ((s[m]'hlt).toNat : Int)) = True := by simp; omega
            clear q2
            go_wp2_with fail
            refine wp_region_grow 9 100 [false, false, false, false, false, false, false, false, false] (by kernel_rfl) (by kernel_rfl) rfl ?_
            simp only [List.take_succ_cons, List.take_zero, List.drop_succ_cons, List.drop_zero]
            repeat (refine Lex.step rfl ?_; intro K hK; unfold StepG; go_simp; (first
                | refine hK _ ?_); clear hK K)
            refine Lex.nil fun WW hE => ?_
            obtain ⟨dd, oo, rfl⟩ := hE
            unfold FillH
            go_wp2_with fail
            rw [ends_normal]
            go_wp2_with fail
            refine wp_region_grow 8 100 [false, false, false, false, false, false, false, false] (by kernel_rfl) (by kernel_rfl) rfl ?_
            simp only [List.take_succ_cons, List.take_zero, List.drop_succ_cons, List.drop_zero]
            repeat (refine Lex.step rfl ?_; intro K hK; unfold StepG; go_simp; (first
                | refine hK _ ?_); clear hK K)
            refine Lex.nil fun WW hE => ?_
            obtain ⟨dd, oo, rfl⟩ := hE
            unfold FillH
            go_wp2_with fail
            rw [ends_normal]
            go_wp2_with fail
            refine bodyPost_ret (v := .tuple #[.agg #[.int .i64 0, .int .i64 0, .string ⟨#[]⟩, .int .i64 0], .int .i64 3]) (by simp [results, Try.results83, t0, t1, t2, t3, tf, hne, hne2, ht, hb, go_sem]) rfl ?_
            refine ⟨rfl, m, fun h => absurd h (by decide), ?_⟩
            exact lex_form HL.out (k' := m) (by repeat (first | (with_reducible exact HLL.out) | (with_reducible apply LexAt.more) | (with_reducible apply LexAt.alloc) | ((with_reducible refine LexAt.other ?_ ?_ _); rotate_left; (show w.heap.size ≠ b; omega)) | ((with_reducible refine LexAt.set HLL.out _ _ ?_); omega))) (by repeat (first | (with_reducible exact HG.out) | (with_reducible refine grown_ext ?_ (Ext.more (Ext.refl _) _ _)) | ((with_reducible refine grown_new ?_ ?_ _); rotate_left; exact Nat.le_refl w.heap.size) | (with_reducible refine grown_set ?_ _ _)))
        · rw [if_neg q2] at hx
          have q3 : (((s[m]'hlt).toNat : Int) < 32) = False := by simp; omega
          have q4 : (126 < ((s[m]'hlt).toNat : Int)) = False := by simp; omega
          by_cases q5 : (s[m]'hlt).toNat = 92
          · have q6 : (((s[m]'hlt).toNat : Int) == 92) = true := by simp; omega
            have q7 : (((s[m]'hlt).toNat : Int) != 92) = false := by simp; omega
            rw [if_neg (by omega)] at hx
            by_cases hl2 : m + 1 < s.size
            · have hd2 : s.data.toList.drop (m + 1) = s[m + 1]'hl2 :: s.data.toList.drop (m + 1 + 1) := List.drop_eq_getElem_cons (by simpa using hl2)
              rw [hd2] at hx
              dsimp only at hx
              have h256b := (s[m + 1]'hl2).toNat_lt
              have es := esc_any ((s[m + 1]'hl2).toNat : Int) (by omega) (by omega)
              have er := escZ_range ((s[m + 1]'hl2).toNat : Int) (by omega) (by omega)
              have hle : (((m : Int) + 1) == (s.size : Int)) = false := by simp; omega
              by_cases hz : escZ ((s[m + 1]'hl2).toNat : Int) = 0
              · rw [if_pos hz] at hx
                simp only [Prod.mk.injEq, tok0] at hx
                obtain ⟨rfl, rfl, rfl⟩ := hx
                rw [hz] at es
                have ES := Lib.hid es
                clear hd hml h256 q1 q2 q5 hd2 h256b es er hz
                go_wp2_with fail
                refine wp_region_grow 9 100 [false, false, false, false, false, false, false, false, false] (by kernel_rfl) (by kernel_rfl) rfl ?_
                simp only [List.take_succ_cons, List.take_zero, List.drop_succ_cons, List.drop_zero]
                repeat (refine Lex.step rfl ?_; intro K hK; unfold StepG; go_simp; (first
                    | refine hK _ ?_); clear hK K)
                refine Lex.nil fun WW hE => ?_
                obtain ⟨dd, oo, rfl⟩ := hE
                unfold FillH
                go_wp2_with fail
                rw [ends_normal]
                go_wp2_with fail
                refine wp_region_grow 8 100 [false, false, false, false, false, false, false, false] (by kernel_rfl) (by kernel_rfl) rfl ?_
                simp only [List.take_succ_cons, List.take_zero, List.drop_succ_cons, List.drop_zero]
                repeat (refine Lex.step rfl ?_; intro K hK; unfold StepG; go_simp; (first
                    | refine hK _ ?_); clear hK K)
                refine Lex.nil fun WW hE => ?_
                obtain ⟨dd, oo, rfl⟩ := hE
                unfold FillH
                go_wp2_with fail
                rw [ends_normal]
                go_wp2_with fail
                refine wp_region_grow 9 100 [false, false, false, false, false, false, false, false, false] (by kernel_rfl) (by kernel_rfl) rfl ?_
                simp only [List.take_succ_cons, List.take_zero, List.drop_succ_cons, List.drop_zero]
                repeat (refine Lex.step rfl ?_; intro K hK; unfold StepG; go_simp; (first
                    | refine hK _ ?_); clear hK K)
                refine Lex.nil fun WW hE => ?_
                obtain ⟨dd, oo, rfl⟩ := hE
                unfold FillH
                go_wp2_with fail
                rw [ends_normal]
                go_wp2_with fail
                refine wp_region_grow 8 100 [false, false, false, false, false, false, false, false] (by kernel_rfl) (by kernel_rfl) rfl ?_
                simp only [List.take_succ_cons, List.take_zero, List.drop_succ_cons, List.drop_zero]
                repeat (refine Lex.step rfl ?_; intro K hK; unfold StepG; go_simp; (first
                    | refine hK _ ?_); clear hK K)
                refine Lex.nil fun WW hE => ?_
                obtain ⟨dd, oo, rfl⟩ := hE
                unfold FillH
                go_wp2_with (go_at_call 106; refine (ES.out _).mono ?_; rintro e _ ⟨rfl, rfl⟩)
                rw [ends_normal]
                go_wp2_with fail
                refine bodyPost_ret (v := .tuple #[.agg #[.int .i64 0, .int .i64 0, .string ⟨#[]⟩, .int .i64 0], .int .i64 3]) (by simp [results, Try.results83, t0, t1, t2, t3, tf, hne, hne2, ht, hb, go_sem]) rfl ?_
                refine ⟨rfl, (m + 1), fun h => absurd h (by decide), ?_⟩
                exact lex_form HL.out (k' := (m + 1)) (by repeat (first | (with_reducible exact HLL.out) | (with_reducible apply LexAt.more) | (with_reducible apply LexAt.alloc) | ((with_reducible refine LexAt.other ?_ ?_ _); rotate_left; (show w.heap.size ≠ b; omega)) | ((with_reducible refine LexAt.set HLL.out _ _ ?_); omega))) (by repeat (first | (with_reducible exact HG.out) | (with_reducible refine grown_ext ?_ (Ext.more (Ext.refl _) _ _)) | ((with_reducible refine grown_new ?_ ?_ _); rotate_left; exact Nat.le_refl w.heap.size) | (with_reducible refine grown_set ?_ _ _)))
              · rw [if_neg hz] at hx
                obtain ⟨r1, n1, e1, hx1⟩ : ∃ r1 n1 e1, textG (s.data.toList.drop (m + 1 + 1)) (acc ++ [UInt8.ofNat (escZ ((s[m + 1]'hl2).toNat : Int)).toNat]) = (r1, n1, e1) := ⟨_, _, _, rfl⟩
                rw [hx1] at hx
                simp only [Prod.mk.injEq] at hx
                obtain ⟨rfl, rfl, rfl⟩ := hx
                obtain ⟨z, hzz⟩ : ∃ z, escZ ((s[m + 1]'hl2).toNat : Int) = z := ⟨_, rfl⟩
                rw [hzz] at es er hz hx1
                have ES := Lib.hid es
                have HX1 := Lib.hid hx1
                have hz' : (z == 0) = false := by simpa using hz
                clear hd hml h256 q1 q2 q5 hd2 h256b es hz hzz hx1
                go_wp2_with fail
                refine wp_region_grow 9 100 [false, false, false, false, false, false, false, false, false] (by kernel_rfl) (by kernel_rfl) rfl ?_
                simp only [List.take_succ_cons, List.take_zero, List.drop_succ_cons, List.drop_zero]
                repeat (refine Lex.step rfl ?_; intro K hK; unfold StepG; go_simp; (first
                    | refine hK _ ?_); clear hK K)
                refine Lex.nil fun WW hE => ?_
                obtain ⟨dd, oo, rfl⟩ := hE
                unfold FillH
                go_wp2_with fail
                rw [ends_normal]
                go_wp2_with fail
                refine wp_region_grow 8 100 [false, false, false, false, false, false, false, false] (by kernel_rfl) (by kernel_rfl) rfl ?_
                simp only [List.take_succ_cons, List.take_zero, List.drop_succ_cons, List.drop_zero]
                repeat (refine Lex.step rfl ?_; intro K hK; unfold StepG; go_simp; (first
                    | refine hK _ ?_); clear hK K)
                refine Lex.nil fun WW hE => ?_
                obtain ⟨dd, oo, rfl⟩ := hE
                unfold FillH
                go_wp2_with fail
                rw [ends_normal]
                go_wp2_with fail
                refine wp_region_grow 9 100 [false, false, false, false, false, false, false, false, false] (by kernel_rfl) (by kernel_rfl) rfl ?_
                simp only [List.take_succ_cons, List.take_zero, List.drop_succ_cons, List.drop_zero]
                repeat (refine Lex.step rfl ?_; intro K hK; unfold StepG; go_simp; (first
                    | refine hK _ ?_); clear hK K)
                refine Lex.nil fun WW hE => ?_
                obtain ⟨dd, oo, rfl⟩ := hE
                unfold FillH
                go_wp2_with fail
                rw [ends_normal]
                go_wp2_with fail
                refine wp_region_grow 8 100 [false, false, false, false, false, false, false, false] (by kernel_rfl) (by kernel_rfl) rfl ?_
                simp only [List.take_succ_cons, List.take_zero, List.drop_succ_cons, List.drop_zero]
                repeat (refine Lex.step rfl ?_; intro K hK; unfold StepG; go_simp; (first
                    | refine hK _ ?_); clear hK K)
                refine Lex.nil fun WW hE => ?_
                obtain ⟨dd, oo, rfl⟩ := hE
                unfold FillH
                go_wp2_with (go_at_call 106; refine (ES.out _).mono ?_; rintro e _ ⟨rfl, rfl⟩)
                rw [ends_normal]
                go_wp2_with fail
                refine (writeByte_any (w.heap.size + 1) (w.heap.size + 1) (cellsB acc) z _ (by repeat (first | (with_reducible exact HB.out) | (with_reducible apply bld_more) | ((with_reducible refine bld_set ?_ ?_ _); rotate_left; omega))) (by rw [cellsB_length]; have := HSZ.out; omega) (by simp only [more_size, World.setCell, Array.size_modify]; omega)).mono ?_
                rintro e w2 ⟨rfl, hB1, hbl⟩
                have HB1 := Lib.hid hB1
                clear hB1
                have hL1 := LexAt.below (k := (m + 1)) (by repeat (first | (with_reducible exact HLL.out) | (with_reducible apply LexAt.more) | (with_reducible apply LexAt.alloc) | ((with_reducible refine LexAt.other ?_ ?_ _); rotate_left; (show w.heap.size ≠ b; omega)) | ((with_reducible refine LexAt.set HLL.out _ _ ?_); omega))) hbl (by omega)
                have hT1 := TokBlk.below (N := w.heap.size) (by repeat (first | (with_reducible exact HT.out) | (with_reducible apply TokBlk.more) | ((with_reducible refine TokBlk.set ?_ ?_ _); rotate_left; (show b ≠ w.heap.size; omega)))) hbl (by omega)
                have hG1 := grown_below (w := w) (row := some b) (by repeat (first | (with_reducible exact HG.out) | (with_reducible refine grown_ext ?_ (Ext.more (Ext.refl _) _ _)) | ((with_reducible refine grown_new ?_ ?_ _); rotate_left; exact Nat.le_refl w.heap.size) | (with_reducible refine grown_set ?_ _ _))) (hbl.mono (by omega))
                clear c0 c1 c2 f1 f2 t0 t1 t2 t3 tf ht
                obtain ⟨c0, c1, c2, f1, f2⟩ := hL1.cells
                have hb1 := hL1.lt
                obtain ⟨t0, t1, t2, t3, tf, ht⟩ := hT1.cells
                have HL1 := Lib.hid hL1
                have HT1 := Lib.hid hT1
                have HG1 := Lib.hid hG1
                clear hbl hL1 hT1 hG1
                go_wp2_with fail
                go_roundg (s.size - (m + 1 + 1))
                case measure => have := HGK.out; omega
                case rel => exact ⟨(m + 1 + 1), acc ++ [(UInt8.ofNat z.toNat)], n1, by omega, by omega, by simp; omega, rfl, HX1.out, fun h => by have := HS.out h; omega, (by repeat (first | (with_reducible exact HL1.out) | ((with_reducible refine LexAt.set HL1.out _ _ ?_); omega) | (with_reducible apply LexAt.more))), (by repeat (first | (with_reducible exact HT1.out) | (with_reducible apply TokBlk.more) | ((with_reducible refine TokBlk.set ?_ ?_ _); rotate_left; (show b ≠ w.heap.size; omega)))), bld_snoc_of (by repeat (first | (with_reducible exact HB1.out) | (with_reducible apply bld_more) | ((with_reducible refine bld_set ?_ ?_ _); rotate_left; omega))) (by first | rfl | (simp; omega)), (by repeat (first | (with_reducible exact HG1.out) | (with_reducible refine grown_ext ?_ (Ext.more (Ext.refl _) _ _)) | ((with_reducible refine grown_new ?_ ?_ _); rotate_left; exact Nat.le_refl w.heap.size) | (with_reducible refine grown_set ?_ _ _)))⟩
            · have hnil : s.data.toList.drop (m + 1) = [] := by apply List.drop_eq_nil_of_le; simp; omega
              rw [hnil] at hx
              simp only [Prod.mk.injEq, tok0] at hx
              obtain ⟨rfl, rfl, rfl⟩ := hx
              have hle : (((m : Int) + 1) == (s.size : Int)) = true := by simp; omega
              clear hd hml h256 q1 q2 q5 hnil
              go_wp2_with fail
              refine wp_region_grow 9 100 [false, false, false, false, false, false, false, false, false] (by kernel_rfl) (by kernel_rfl) rfl ?_
              simp only [List.take_succ_cons, List.take_zero, List.drop_succ_cons, List.drop_zero]
              repeat (refine Lex.step rfl ?_; intro K hK; unfold StepG; go_simp; (first
                  | refine hK _ ?_); clear hK K)
              refine Lex.nil fun WW hE => ?_
              obtain ⟨dd, oo, rfl⟩ := hE
              unfold FillH
              go_wp2_with fail
              rw [ends_normal]
              go_wp2_with fail
              refine wp_region_grow 8 100 [false, false, false, false, false, false, false, false] (by kernel_rfl) (by kernel_rfl) rfl ?_
              simp only [List.take_succ_cons, List.take_zero, List.drop_succ_cons, List.drop_zero]
              repeat (refine Lex.step rfl ?_; intro K hK; unfold StepG; go_simp; (first
                  | refine hK _ ?_); clear hK K)
              refine Lex.nil fun WW hE => ?_
              obtain ⟨dd, oo, rfl⟩ := hE
              unfold FillH
              go_wp2_with fail
              rw [ends_normal]
              go_wp2_with fail
              refine wp_region_grow 9 100 [false, false, false, false, false, false, false, false, false] (by kernel_rfl) (by kernel_rfl) rfl ?_
              simp only [List.take_succ_cons, List.take_zero, List.drop_succ_cons, List.drop_zero]
              repeat (refine Lex.step rfl ?_; intro K hK; unfold StepG; go_simp; (first
                  | refine hK _ ?_); clear hK K)
              refine Lex.nil fun WW hE => ?_
              obtain ⟨dd, oo, rfl⟩ := hE
              unfold FillH
              go_wp2_with fail
              rw [ends_normal]
              go_wp2_with fail
              refine bodyPost_ret (v := .tuple #[.agg #[.int .i64 0, .int .i64 0, .string ⟨#[]⟩, .int .i64 0], .int .i64 2]) (by simp [results, Try.results83, t0, t1, t2, t3, tf, hne, hne2, ht, hb, go_sem]) rfl ?_
              refine ⟨rfl, (m + 1), fun h => absurd h (by decide), ?_⟩
              exact lex_form HL.out (k' := (m + 1)) (by repeat (first | (with_reducible exact HLL.out) | (with_reducible apply LexAt.more) | (with_reducible apply LexAt.alloc) | ((with_reducible refine LexAt.other ?_ ?_ _); rotate_left; (show w.heap.size ≠ b; omega)) | ((with_reducible refine LexAt.set HLL.out _ _ ?_); omega))) (by repeat (first | (with_reducible exact HG.out) | (with_reducible refine grown_ext ?_ (Ext.more (Ext.refl _) _ _)) | ((with_reducible refine grown_new ?_ ?_ _); rotate_left; exact Nat.le_refl w.heap.size) | (with_reducible refine grown_set ?_ _ _)))
          · have q6 : (((s[m]'hlt).toNat : Int) == 92) = false := by simp; omega
            have q7 : (((s[m]'hlt).toNat : Int) != 92) = true := by simp; omega
            rw [if_pos q5] at hx
            obtain ⟨r1, n1, e1, hx1⟩ : ∃ r1 n1 e1, textG (s.data.toList.drop (m + 1)) (acc ++ [s[m]'hlt]) = (r1, n1, e1) := ⟨_, _, _, rfl⟩
            rw [hx1] at hx
            simp only [Prod.mk.injEq] at hx
            obtain ⟨rfl, rfl, rfl⟩ := hx
            have HX1 := Lib.hid hx1
            clear hd hml h256 q1 q2 q5 hx1
            go_wp2_with fail
            refine wp_region_grow 9 100 [false, false, false, false, false, false, false, false, false] (by kernel_rfl) (by kernel_rfl) rfl ?_
            simp only [List.take_succ_cons, List.take_zero, List.drop_succ_cons, List.drop_zero]
            repeat (refine Lex.step rfl ?_; intro K hK; unfold StepG; go_simp; (first
                | refine hK _ ?_); clear hK K)
            refine Lex.nil fun WW hE => ?_
            obtain ⟨dd, oo, rfl⟩ := hE
            unfold FillH
            go_wp2_with fail
            rw [ends_normal]
            go_wp2_with fail
            refine wp_region_grow 8 100 [false, false, false, false, false, false, false, false] (by kernel_rfl) (by kernel_rfl) rfl ?_
            simp only [List.take_succ_cons, List.take_zero, List.drop_succ_cons, List.drop_zero]
            repeat (refine Lex.step rfl ?_; intro K hK; unfold StepG; go_simp; (first
                | refine hK _ ?_); clear hK K)
            refine Lex.nil fun WW hE => ?_
            obtain ⟨dd, oo, rfl⟩ := hE
            unfold FillH
            go_wp2_with fail
            rw [ends_normal]
            go_wp2_with fail
            refine (writeByte_any (w.heap.size + 1) (w.heap.size + 1) (cellsB acc) ((s[m]'hlt).toNat : Int) _ (by repeat (first | (with_reducible exact HB.out) | (with_reducible apply bld_more) | ((with_reducible refine bld_set ?_ ?_ _); rotate_left; omega))) (by rw [cellsB_length]; have := HSZ.out; omega) (by simp only [more_size, World.setCell, Array.size_modify]; omega)).mono ?_
            rintro e w2 ⟨rfl, hB1, hbl⟩
            have HB1 := Lib.hid hB1
            clear hB1
            have hL1 := LexAt.below (k := m) (by repeat (first | (with_reducible exact HLL.out) | (with_reducible apply LexAt.more) | (with_reducible apply LexAt.alloc) | ((with_reducible refine LexAt.other ?_ ?_ _); rotate_left; (show w.heap.size ≠ b; omega)) | ((with_reducible refine LexAt.set HLL.out _ _ ?_); omega))) hbl (by omega)
            have hT1 := TokBlk.below (N := w.heap.size) (by repeat (first | (with_reducible exact HT.out) | (with_reducible apply TokBlk.more) | ((with_reducible refine TokBlk.set ?_ ?_ _); rotate_left; (show b ≠ w.heap.size; omega)))) hbl (by omega)
            have hG1 := grown_below (w := w) (row := some b) (by repeat (first | (with_reducible exact HG.out) | (with_reducible refine grown_ext ?_ (Ext.more (Ext.refl _) _ _)) | ((with_reducible refine grown_new ?_ ?_ _); rotate_left; exact Nat.le_refl w.heap.size) | (with_reducible refine grown_set ?_ _ _))) (hbl.mono (by omega))
            clear c0 c1 c2 f1 f2 t0 t1 t2 t3 tf ht
            obtain ⟨c0, c1, c2, f1, f2⟩ := hL1.cells
            have hb1 := hL1.lt
            obtain ⟨t0, t1, t2, t3, tf, ht⟩ := hT1.cells
            have HL1 := Lib.hid hL1
            have HT1 := Lib.hid hT1
            have HG1 := Lib.hid hG1
            clear hbl hL1 hT1 hG1
            go_wp2_with fail
            go_roundg (s.size - (m + 1))
            case measure => have := HGK.out; omega
            case rel => exact ⟨(m + 1), acc ++ [(s[m]'hlt)], n1, by omega, by omega, by simp; omega, rfl, HX1.out, fun h => by have := HS.out h; omega, (by repeat (first | (with_reducible exact HL1.out) | ((with_reducible refine LexAt.set HL1.out _ _ ?_); omega) | (with_reducible apply LexAt.more))), (by repeat (first | (with_reducible exact HT1.out) | (with_reducible apply TokBlk.more) | ((with_reducible refine TokBlk.set ?_ ?_ _); rotate_left; (show b ≠ w.heap.size; omega)))), bld_snoc_of (by repeat (first | (with_reducible exact HB1.out) | (with_reducible apply bld_more) | ((with_reducible refine bld_set ?_ ?_ _); rotate_left; omega))) (by first | rfl | (simp; omega)), (by repeat (first | (with_reducible exact HG1.out) | (with_reducible refine grown_ext ?_ (Ext.more (Ext.refl _) _ _)) | ((with_reducible refine grown_new ?_ ?_ _); rotate_left; exact Nat.le_refl w.heap.size) | (with_reducible refine grown_set ?_ _ _)))⟩
    · have hme : m = s.size := by omega
      have hnil : s.data.toList.drop m = [] := by apply List.drop_eq_nil_of_le; simp; omega
      rw [hnil] at hx
      unfold textG at hx
      simp only [Prod.mk.injEq, tok0] at hx
      obtain ⟨rfl, rfl, rfl⟩ := hx
      clear hnil
      have hlt' : ((m : Int) < s.size) = False := by simp; omega
      clear hme
      go_wp2_with fail
      refine wp_region_grow 9 100 [false, false, false, false, false, false, false, false, false] (by kernel_rfl) (by kernel_rfl) rfl ?_
      simp only [List.take_succ_cons, List.take_zero, List.drop_succ_cons, List.drop_zero]
      repeat (refine Lex.step rfl ?_; intro K hK; unfold StepG; go_simp; (first
          | refine hK _ ?_); clear hK K)
      refine Lex.nil fun WW hE => ?_
      obtain ⟨dd, oo, rfl⟩ := hE
      unfold FillH
      go_wp2_with fail
      rw [ends_normal]
      go_wp2_with fail
      refine bodyPost_ret (v := .tuple #[.agg #[.int .i64 0, .int .i64 0, .string ⟨#[]⟩, .int .i64 0], .int .i64 2]) (by simp [results, Try.results83, t0, t1, t2, t3, tf, hne, hne2, ht, hb, go_sem]) rfl ?_
      refine ⟨rfl, m, fun h => absurd h (by decide), ?_⟩
      exact lex_form HL.out (k' := m) (by repeat (first | (with_reducible exact HLL.out) | (with_reducible apply LexAt.more) | (with_reducible apply LexAt.alloc) | ((with_reducible refine LexAt.other ?_ ?_ _); rotate_left; (show w.heap.size ≠ b; omega)) | ((with_reducible refine LexAt.set HLL.out _ _ ?_); omega))) (by repeat (first | (with_reducible exact HG.out) | (with_reducible refine grown_ext ?_ (Ext.more (Ext.refl _) _ _)) | ((with_reducible refine grown_new ?_ ?_ _); rotate_left; exact Nat.le_refl w.heap.size) | (with_reducible refine grown_set ?_ _ _)))
end Go.Proofs.Ytoaaklcbcbjaiaa

namespace Go.Proofs.Ytoaaklcbcbjaiaa
open Go.RowKit
set_option maxHeartbeats 2000000 in
set_option maxRecDepth 20000 in
theorem next_end (b : Nat) (s : ByteArray) (k n : Nat) (lv : Value) (hk : k ≤ s.size) (hs : s.size ≤ maxLen) (hn : skipL false (s.data.toList.drop k) = n) (hlt : k + n = s.size) (w : World) (h : LexAt b s k lv w) :
    Calls Try.prog 47 #[.pointer (some ⟨b, 0, none⟩)] w fun e' w' => e' = .returned (.tuple #[tokV tok0 0, .int .i64 0, .bool false]) ∧ Ext (w.setCell ⟨b, 1, none⟩ (.int .i64 ((k + n : Nat) : Int))) w' := by
  have HL := Lib.hid h
  have C := Lib.hid (blank_x b s k n lv hk hs hn)
  have hb := h.lt
  obtain ⟨c0, c1, c2, f1, f2⟩ := h.cells
  unfold maxLen at hs
  clear h hn
  have hle : (((k : Int) + n) == (s.size : Int)) = true := by simp; omega
  unfold tokV tok0
  go_enter Try.func47, Try.ntmps47
  go_wp2_with (go_at_call 77; refine (C.out _ (by repeat (first | (with_reducible exact HL.out) | (with_reducible apply LexAt.alloc) | (with_reducible apply LexAt.more)))).mono ?_; rintro e _ ⟨rfl, d, os, rfl⟩)
  refine wp_region_grow 9 62 [false, false, false, false, false, false, false, false, false] (by kernel_rfl) (by kernel_rfl) rfl ?_
  simp only [List.take_succ_cons, List.take_zero, List.drop_succ_cons, List.drop_zero]
  repeat (refine Lex.step rfl ?_; intro K hK; unfold StepG; go_simp; (first
      | refine hK _ ?_); clear hK K)
  refine Lex.nil fun WW hE => ?_
  obtain ⟨dd, oo, rfl⟩ := hE
  unfold FillH
  go_wp2_with fail
  rw [ends_normal]
  go_wp2_with fail
  refine bodyPost_ret (v := .tuple #[.agg #[.int .i64 0, .int .i64 0, .string ⟨#[]⟩, .int .i64 0], .int .i64 0, .bool false]) (by simp [results, Try.results47, go_sem]) rfl ?_
  refine ⟨rfl, ?_⟩
  rw [hlt]
  repeat (first | exact Ext.refl _ | apply Ext.alloc | apply Ext.more)
/-- what a token's function hands back: the token, the error, and how far it has gone -/
def TakePost (b K : Nat) (r : Tok) (e : Int) (w : World) (e' : Ending) (w' : World) : Prop :=
  e' = .returned (.tuple #[.agg #[.int .i64 r.k, .int .i64 0, .string r.s, .int .i64 r.i], .int .i64 e]) ∧ ∃ k' : Nat, (e = 0 → k' = K) ∧ Ext (w.setCell ⟨b, 1, none⟩ (.int .i64 (k' : Int))) w'
def NextPost (b A K : Nat) (r : Tok) (e : Int) (w : World) (e' : Ending) (w' : World) : Prop :=
  e' = .returned (.tuple #[.agg #[.int .i64 r.k, .int .i64 (A : Int), .string r.s, .int .i64 r.i], .int .i64 e, .bool true]) ∧ ∃ k' : Nat, (e = 0 → k' = K) ∧ Ext (w.setCell ⟨b, 1, none⟩ (.int .i64 (k' : Int))) w'
set_option maxHeartbeats 2000000 in
set_option maxRecDepth 20000 in
theorem next_name (b : Nat) (s : ByteArray) (k n : Nat) (lv : Value) (hk : k ≤ s.size) (hs : s.size ≤ maxLen) (hn : skipL false (s.data.toList.drop k) = n) (hlt : k + n < s.size) (hc : letterB ((s[k + n]'hlt).toNat : Int) = true) (K : Nat) (r : Tok) (e : Int)
    (T : RowKit.Hid (∀ w, LexAt b s (k + n) lv w → Calls Try.prog 80 #[.pointer (some ⟨b, 0, none⟩)] w (TakePost b K r e w))) (w : World) (h : LexAt b s k lv w) :
    Calls Try.prog 47 #[.pointer (some ⟨b, 0, none⟩)] w (NextPost b (k + n) K r e w) := by
  have HL := Lib.hid h
  have C := Lib.hid (blank_x b s k n lv hk hs hn)
  have hb := h.lt
  obtain ⟨c0, c1, c2, f1, f2⟩ := h.cells
  unfold maxLen at hs
  clear h hn
  have hle : (((k : Int) + n) == (s.size : Int)) = false := by simp; omega
  have h256 := (s[k + n]'hlt).toNat_lt
  have le := letter_any ((s[k + n]'hlt).toNat : Int) (by omega) (by omega)
  rw [hc] at le
  have LE := Lib.hid le
  clear le hc
  clear h256
  have hz : ((k : Int) + n < s.size) := by omega
  go_enter Try.func47, Try.ntmps47
  go_wp2_with (go_at_call 77; refine (C.out _ (by repeat (first | (with_reducible exact HL.out) | (with_reducible apply LexAt.alloc) | (with_reducible apply LexAt.more)))).mono ?_; rintro e _ ⟨rfl, d, os, rfl⟩)
  refine wp_region_grow 9 62 [false, false, false, false, false, false, false, false, false] (by kernel_rfl) (by kernel_rfl) rfl ?_
  simp only [List.take_succ_cons, List.take_zero, List.drop_succ_cons, List.drop_zero]
  repeat (refine Lex.step rfl ?_; intro K hK; unfold StepG; go_simp; (first
      | refine hK _ ?_); clear hK K)
  refine Lex.nil fun WW hE => ?_
  obtain ⟨dd, oo, rfl⟩ := hE
  unfold FillH
  go_wp2_with fail
  rw [ends_normal]
  go_wp2_with fail
  refine wp_region_grow 8 62 [false, false, false, false, false, false, false, false] (by kernel_rfl) (by kernel_rfl) rfl ?_
  simp only [List.take_succ_cons, List.take_zero, List.drop_succ_cons, List.drop_zero]
  repeat (refine Lex.step rfl ?_; intro K hK; unfold StepG; go_simp; (first
      | refine hK _ ?_); clear hK K)
  refine Lex.nil fun WW hE => ?_
  obtain ⟨dd, oo, rfl⟩ := hE
  unfold FillH
  go_wp2_with (go_at_call 79; refine (LE.out _).mono ?_; rintro e _ ⟨rfl, rfl⟩)
  first | rw [ends_normal] | skip
  go_wp2_with (go_at_call 79; refine (LE.out _).mono ?_; rintro e _ ⟨rfl, rfl⟩)
  refine (T.out _ (by repeat (first | (with_reducible apply LexAt.more) | (with_reducible apply LexAt.alloc) | ((with_reducible refine LexAt.set HL.out _ _ ?_); omega)))).mono ?_
  rintro e _ ⟨rfl, k2, hk2, d3, os3, rfl⟩
  have HK2 := Lib.hid hk2
  clear hk2
  go_wp2_with fail
  refine bodyPost_ret (v := .tuple #[.agg #[.int .i64 r.k, .int .i64 ((k : Int) + n), .string r.s, .int .i64 r.i], .int .i64 e, .bool true]) (by simp [results, Try.results47, go_sem]) rfl ?_
  exact ⟨rfl, k2, HK2.out, by repeat (first | exact Ext.refl _ | apply Ext.alloc | apply Ext.more)⟩
set_option maxHeartbeats 2000000 in
set_option maxRecDepth 20000 in
theorem next_number (b : Nat) (s : ByteArray) (k n : Nat) (lv : Value) (hk : k ≤ s.size) (hs : s.size ≤ maxLen) (hn : skipL false (s.data.toList.drop k) = n) (hlt : k + n < s.size) (hc : letterB ((s[k + n]'hlt).toNat : Int) = false) (hd : digitB ((s[k + n]'hlt).toNat : Int) = true) (K : Nat) (r : Tok) (e : Int)
    (T : RowKit.Hid (∀ w, LexAt b s (k + n) lv w → Calls Try.prog 82 #[.pointer (some ⟨b, 0, none⟩)] w (TakePost b K r e w))) (w : World) (h : LexAt b s k lv w) :
    Calls Try.prog 47 #[.pointer (some ⟨b, 0, none⟩)] w (NextPost b (k + n) K r e w) := by
  have HL := Lib.hid h
  have C := Lib.hid (blank_x b s k n lv hk hs hn)
  have hb := h.lt
  obtain ⟨c0, c1, c2, f1, f2⟩ := h.cells
  unfold maxLen at hs
  clear h hn
  have hle : (((k : Int) + n) == (s.size : Int)) = false := by simp; omega
  have h256 := (s[k + n]'hlt).toNat_lt
  have le := letter_any ((s[k + n]'hlt).toNat : Int) (by omega) (by omega)
  rw [hc] at le
  have LE := Lib.hid le
  clear le hc
  have de := digit_any ((s[k + n]'hlt).toNat : Int) (by omega) (by omega)
  rw [hd] at de
  have DE := Lib.hid de
  clear de hd
  clear h256
  have hz : ((k : Int) + n < s.size) := by omega
  go_enter Try.func47, Try.ntmps47
  go_wp2_with (go_at_call 77; refine (C.out _ (by repeat (first | (with_reducible exact HL.out) | (with_reducible apply LexAt.alloc) | (with_reducible apply LexAt.more)))).mono ?_; rintro e _ ⟨rfl, d, os, rfl⟩)
  refine wp_region_grow 9 62 [false, false, false, false, false, false, false, false, false] (by kernel_rfl) (by kernel_rfl) rfl ?_
  simp only [List.take_succ_cons, List.take_zero, List.drop_succ_cons, List.drop_zero]
  repeat (refine Lex.step rfl ?_; intro K hK; unfold StepG; go_simp; (first
      | refine hK _ ?_); clear hK K)
  refine Lex.nil fun WW hE => ?_
  obtain ⟨dd, oo, rfl⟩ := hE
  unfold FillH
  go_wp2_with fail
  rw [ends_normal]
  go_wp2_with fail
  refine wp_region_grow 8 62 [false, false, false, false, false, false, false, false] (by kernel_rfl) (by kernel_rfl) rfl ?_
  simp only [List.take_succ_cons, List.take_zero, List.drop_succ_cons, List.drop_zero]
  repeat (refine Lex.step rfl ?_; intro K hK; unfold StepG; go_simp; (first
      | refine hK _ ?_); clear hK K)
  refine Lex.nil fun WW hE => ?_
  obtain ⟨dd, oo, rfl⟩ := hE
  unfold FillH
  go_wp2_with (first
    | (go_at_call 79; refine (LE.out _).mono ?_; rintro e _ ⟨rfl, rfl⟩)
    | (go_at_call 81; refine (DE.out _).mono ?_; rintro e _ ⟨rfl, rfl⟩))
  first | rw [ends_normal] | skip
  go_wp2_with (first
    | (go_at_call 79; refine (LE.out _).mono ?_; rintro e _ ⟨rfl, rfl⟩)
    | (go_at_call 81; refine (DE.out _).mono ?_; rintro e _ ⟨rfl, rfl⟩))
  refine (T.out _ (by repeat (first | (with_reducible apply LexAt.more) | (with_reducible apply LexAt.alloc) | ((with_reducible refine LexAt.set HL.out _ _ ?_); omega)))).mono ?_
  rintro e _ ⟨rfl, k2, hk2, d3, os3, rfl⟩
  have HK2 := Lib.hid hk2
  clear hk2
  go_wp2_with fail
  refine bodyPost_ret (v := .tuple #[.agg #[.int .i64 r.k, .int .i64 ((k : Int) + n), .string r.s, .int .i64 r.i], .int .i64 e, .bool true]) (by simp [results, Try.results47, go_sem]) rfl ?_
  exact ⟨rfl, k2, HK2.out, by repeat (first | exact Ext.refl _ | apply Ext.alloc | apply Ext.more)⟩
set_option maxHeartbeats 2000000 in
set_option maxRecDepth 20000 in
theorem next_text (b : Nat) (s : ByteArray) (k n : Nat) (lv : Value) (hk : k ≤ s.size) (hs : s.size ≤ maxLen) (hn : skipL false (s.data.toList.drop k) = n) (hlt : k + n < s.size) (hc : letterB ((s[k + n]'hlt).toNat : Int) = false) (hd : digitB ((s[k + n]'hlt).toNat : Int) = false) (hq : (((s[k + n]'hlt).toNat : Int) == 34) = true) (K : Nat) (r : Tok) (e : Int)
    (T : RowKit.Hid (∀ w, LexAt b s (k + n) lv w → Calls Try.prog 83 #[.pointer (some ⟨b, 0, none⟩)] w (TakePost b K r e w))) (w : World) (h : LexAt b s k lv w) :
    Calls Try.prog 47 #[.pointer (some ⟨b, 0, none⟩)] w (NextPost b (k + n) K r e w) := by
  have HL := Lib.hid h
  have C := Lib.hid (blank_x b s k n lv hk hs hn)
  have hb := h.lt
  obtain ⟨c0, c1, c2, f1, f2⟩ := h.cells
  unfold maxLen at hs
  clear h hn
  have hle : (((k : Int) + n) == (s.size : Int)) = false := by simp; omega
  have h256 := (s[k + n]'hlt).toNat_lt
  have le := letter_any ((s[k + n]'hlt).toNat : Int) (by omega) (by omega)
  rw [hc] at le
  have LE := Lib.hid le
  clear le hc
  have de := digit_any ((s[k + n]'hlt).toNat : Int) (by omega) (by omega)
  rw [hd] at de
  have DE := Lib.hid de
  clear de hd
  clear h256
  have hz : ((k : Int) + n < s.size) := by omega
  go_enter Try.func47, Try.ntmps47
  go_wp2_with (go_at_call 77; refine (C.out _ (by repeat (first | (with_reducible exact HL.out) | (with_reducible apply LexAt.alloc) | (with_reducible apply LexAt.more)))).mono ?_; rintro e _ ⟨rfl, d, os, rfl⟩)
  refine wp_region_grow 9 62 [false, false, false, false, false, false, false, false, false] (by kernel_rfl) (by kernel_rfl) rfl ?_
  simp only [List.take_succ_cons, List.take_zero, List.drop_succ_cons, List.drop_zero]
  repeat (refine Lex.step rfl ?_; intro K hK; unfold StepG; go_simp; (first
      | refine hK _ ?_); clear hK K)
  refine Lex.nil fun WW hE => ?_
  obtain ⟨dd, oo, rfl⟩ := hE
  unfold FillH
  go_wp2_with fail
  rw [ends_normal]
  go_wp2_with fail
  refine wp_region_grow 8 62 [false, false, false, false, false, false, false, false] (by kernel_rfl) (by kernel_rfl) rfl ?_
  simp only [List.take_succ_cons, List.take_zero, List.drop_succ_cons, List.drop_zero]
  repeat (refine Lex.step rfl ?_; intro K hK; unfold StepG; go_simp; (first
      | refine hK _ ?_); clear hK K)
  refine Lex.nil fun WW hE => ?_
  obtain ⟨dd, oo, rfl⟩ := hE
  unfold FillH
  go_wp2_with (first
    | (go_at_call 79; refine (LE.out _).mono ?_; rintro e _ ⟨rfl, rfl⟩)
    | (go_at_call 81; refine (DE.out _).mono ?_; rintro e _ ⟨rfl, rfl⟩))
  first | rw [ends_normal] | skip
  go_wp2_with (first
    | (go_at_call 79; refine (LE.out _).mono ?_; rintro e _ ⟨rfl, rfl⟩)
    | (go_at_call 81; refine (DE.out _).mono ?_; rintro e _ ⟨rfl, rfl⟩))
  refine (T.out _ (by repeat (first | (with_reducible apply LexAt.more) | (with_reducible apply LexAt.alloc) | ((with_reducible refine LexAt.set HL.out _ _ ?_); omega)))).mono ?_
  rintro e _ ⟨rfl, k2, hk2, d3, os3, rfl⟩
  have HK2 := Lib.hid hk2
  clear hk2
  go_wp2_with fail
  refine bodyPost_ret (v := .tuple #[.agg #[.int .i64 r.k, .int .i64 ((k : Int) + n), .string r.s, .int .i64 r.i], .int .i64 e, .bool true]) (by simp [results, Try.results47, go_sem]) rfl ?_
  exact ⟨rfl, k2, HK2.out, by repeat (first | exact Ext.refl _ | apply Ext.alloc | apply Ext.more)⟩
set_option maxHeartbeats 2000000 in
set_option maxRecDepth 20000 in
theorem next_sign (b : Nat) (s : ByteArray) (k n : Nat) (lv : Value) (hk : k ≤ s.size) (hs : s.size ≤ maxLen) (hn : skipL false (s.data.toList.drop k) = n) (hlt : k + n < s.size) (hc : letterB ((s[k + n]'hlt).toNat : Int) = false) (hd : digitB ((s[k + n]'hlt).toNat : Int) = false) (hq : (((s[k + n]'hlt).toNat : Int) == 34) = false) (K : Nat) (r : Tok) (e : Int)
    (T : RowKit.Hid (∀ w, LexAt b s (k + n) lv w → Calls Try.prog 78 #[.pointer (some ⟨b, 0, none⟩)] w (TakePost b K r e w))) (w : World) (h : LexAt b s k lv w) :
    Calls Try.prog 47 #[.pointer (some ⟨b, 0, none⟩)] w (NextPost b (k + n) K r e w) := by
  have HL := Lib.hid h
  have C := Lib.hid (blank_x b s k n lv hk hs hn)
  have hb := h.lt
  obtain ⟨c0, c1, c2, f1, f2⟩ := h.cells
  unfold maxLen at hs
  clear h hn
  have hle : (((k : Int) + n) == (s.size : Int)) = false := by simp; omega
  have h256 := (s[k + n]'hlt).toNat_lt
  have le := letter_any ((s[k + n]'hlt).toNat : Int) (by omega) (by omega)
  rw [hc] at le
  have LE := Lib.hid le
  clear le hc
  have de := digit_any ((s[k + n]'hlt).toNat : Int) (by omega) (by omega)
  rw [hd] at de
  have DE := Lib.hid de
  clear de hd
  clear h256
  have hz : ((k : Int) + n < s.size) := by omega
  go_enter Try.func47, Try.ntmps47
  go_wp2_with (go_at_call 77; refine (C.out _ (by repeat (first | (with_reducible exact HL.out) | (with_reducible apply LexAt.alloc) | (with_reducible apply LexAt.more)))).mono ?_; rintro e _ ⟨rfl, d, os, rfl⟩)
  refine wp_region_grow 9 62 [false, false, false, false, false, false, false, false, false] (by kernel_rfl) (by kernel_rfl) rfl ?_
  simp only [List.take_succ_cons, List.take_zero, List.drop_succ_cons, List.drop_zero]
  repeat (refine Lex.step rfl ?_; intro K hK; unfold StepG; go_simp; (first
      | refine hK _ ?_); clear hK K)
  refine Lex.nil fun WW hE => ?_
  obtain ⟨dd, oo, rfl⟩ := hE
  unfold FillH
  go_wp2_with fail
  rw [ends_normal]
  go_wp2_with fail
  refine wp_region_grow 8 62 [false, false, false, false, false, false, false, false] (by kernel_rfl) (by kernel_rfl) rfl ?_
  simp only [List.take_succ_cons, List.take_zero, List.drop_succ_cons, List.drop_zero]
  repeat (refine Lex.step rfl ?_; intro K hK; unfold StepG; go_simp; (first
      | refine hK _ ?_); clear hK K)
  refine Lex.nil fun WW hE => ?_
  obtain ⟨dd, oo, rfl⟩ := hE
  unfold FillH
  go_wp2_with (first
    | (go_at_call 79; refine (LE.out _).mono ?_; rintro e _ ⟨rfl, rfl⟩)
    | (go_at_call 81; refine (DE.out _).mono ?_; rintro e _ ⟨rfl, rfl⟩))
  first | rw [ends_normal] | skip
  go_wp2_with (first
    | (go_at_call 79; refine (LE.out _).mono ?_; rintro e _ ⟨rfl, rfl⟩)
    | (go_at_call 81; refine (DE.out _).mono ?_; rintro e _ ⟨rfl, rfl⟩))
  refine (T.out _ (by repeat (first | (with_reducible apply LexAt.more) | (with_reducible apply LexAt.alloc) | ((with_reducible refine LexAt.set HL.out _ _ ?_); omega)))).mono ?_
  rintro e _ ⟨rfl, k2, hk2, d3, os3, rfl⟩
  have HK2 := Lib.hid hk2
  clear hk2
  go_wp2_with fail
  refine bodyPost_ret (v := .tuple #[.agg #[.int .i64 r.k, .int .i64 ((k : Int) + n), .string r.s, .int .i64 r.i], .int .i64 e, .bool true]) (by simp [results, Try.results47, go_sem]) rfl ?_
  exact ⟨rfl, k2, HK2.out, by repeat (first | exact Ext.refl _ | apply Ext.alloc | apply Ext.more)⟩
end Go.Proofs.Ytoaaklcbcbjaiaa

namespace Go.Proofs.Ytoaaklcbcbjaiaa
open Go.RowKit
def headLetter : List UInt8 → Bool
  | [] => false
  | c :: _ => letterB (c.toNat : Int)
/-- the token with which bytes begin: it, how many bytes it has, and the error -/
def oneF : List UInt8 → Tok × Nat × Int
  | [] => (tok0, 0, 3)
  | c :: l =>
    if letterB (c.toNat : Int) = true then ((nameF ⟨((c :: l).take (spanN nameB (c :: l))).toArray⟩).1, spanN nameB (c :: l), (nameF ⟨((c :: l).take (spanN nameB (c :: l))).toArray⟩).2)
    else if digitB (c.toNat : Int) = true then
      (if (1 < spanN digitB (c :: l) ∧ c.toNat = 48) ∨ headLetter ((c :: l).drop (spanN digitB (c :: l))) = true then (tok0, spanN digitB (c :: l), 3)
       else ((numF ⟨((c :: l).take (spanN digitB (c :: l))).toArray⟩).1, spanN digitB (c :: l), (numF ⟨((c :: l).take (spanN digitB (c :: l))).toArray⟩).2))
    else if c.toNat = 34 then ((textG l []).1, 1 + (textG l []).2.1, (textG l []).2.2)
    else signF (c :: l)
theorem extract_take (s : ByteArray) (m n : Nat) : s.extract m (m + n) = ⟨((s.data.toList.drop m).take n).toArray⟩ := by
  apply ByteArray.ext
  apply Array.ext'
  simp [List.extract_eq_take_drop]
theorem take_name (b : Nat) (s : ByteArray) (m n : Nat) (lv : Value) (hk : m ≤ s.size) (hs : s.size ≤ maxLen) (hn : spanN nameB (s.data.toList.drop m) = n) (r : Tok) (e : Int) (hr : nameF (s.extract m (m + n)) = (r, e)) (w : World) (h : LexAt b s m lv w) :
    Calls Try.prog 80 #[.pointer (some ⟨b, 0, none⟩)] w (TakePost b (m + n) r e w) :=
  (name_any b s _ m n lv hk hs hn rfl r e hr w h).mono fun e' w' ⟨he, hx⟩ => ⟨he, m + n, fun _ => rfl, hx⟩
theorem take_sign (b : Nat) (s : ByteArray) (m n : Nat) (lv : Value) (hk : m < s.size) (hs : (s.size : Int) ≤ 4611686018427387904) (r : Tok) (e : Int) (hr : signF (s.data.toList.drop m) = (r, n, e)) (w : World) (h : LexAt b s m lv w) :
    Calls Try.prog 78 #[.pointer (some ⟨b, 0, none⟩)] w (TakePost b (m + n) r e w) := by
  have e1 : (s.extract m s.size).data.toList = s.data.toList.drop m := by
    have h1 : (s.extract m s.size).data.toList = (s.data.toList.drop m).take (s.size - m) := by simp [List.extract_eq_take_drop]
    rw [h1, List.take_of_length_le (by simp)]
  refine (sign_any b s _ m n lv hk hs rfl (by simp; omega) r e (by rw [e1]; exact hr) w h).mono fun e' w' ⟨he, hx⟩ => ⟨he, m + n, fun _ => rfl, hx⟩
theorem take_text (b : Nat) (s : ByteArray) (m n : Nat) (lv : Value) (hk : m < s.size) (hs : s.size ≤ 140737488351232) (r : Tok) (e : Int) (hr : textG (s.data.toList.drop (m + 1)) [] = (r, n, e)) (w : World) (h : LexAt b s m lv w) :
    Calls Try.prog 83 #[.pointer (some ⟨b, 0, none⟩)] w (TakePost b (m + (1 + n)) r e w) :=
  (text_any b s m n lv hk hs r e hr w h).mono fun e' w' ⟨he, k', h1, hx⟩ => ⟨he, k', fun h0 => by rw [h1 h0]; omega, hx⟩
theorem span_digits (s : ByteArray) (m n : Nat) (hm : m ≤ s.size) (hn : spanN digitB (s.data.toList.drop m) = n) (hmn : m + n ≤ s.size) :
    ∀ (j : Nat) (h : j < (s.extract m (m + n)).size), 48 ≤ (((s.extract m (m + n))[j]'h).toNat : Int) ∧ (((s.extract m (m + n))[j]'h).toNat : Int) ≤ 57 := by
  intro j h
  have hl : (s.extract m (m + n)).data.toList = (s.data.toList.drop m).take n := by rw [extract_take]
  have hj : ((s.data.toList.drop m).take (spanN digitB (s.data.toList.drop m)))[j]? = some ((s.extract m (m + n))[j]'h) := by
    rw [hn, ← hl]
    exact List.getElem?_eq_getElem (by simp at h ⊢; omega)
  have := span_all digitB _ j _ hj
  simpa [digitB] using this
theorem take_number (b : Nat) (s : ByteArray) (m n : Nat) (lv : Value) (hk : m < s.size) (hs : s.size ≤ maxLen) (hn : spanN digitB (s.data.toList.drop m) = n) (r : Tok) (e : Int)
    (hr : (if (1 < n ∧ (s[m]'hk).toNat = 48) ∨ headLetter (s.data.toList.drop (m + n)) = true then (tok0, 3) else numF (s.extract m (m + n))) = (r, e)) (w : World) (h : LexAt b s m lv w) :
    Calls Try.prog 82 #[.pointer (some ⟨b, 0, none⟩)] w (TakePost b (m + n) r e w) := by
  have hle := spanN_le digitB (s.data.toList.drop m)
  rw [hn] at hle
  have hmn : m + n ≤ s.size := by simp at hle; omega
  have htn : (s.extract m (m + n)).size = n := by simp; omega
  have h0 : ∀ h : 0 < (s.extract m (m + n)).size, (s.extract m (m + n))[0]'h = s[m]'hk := by
    intro h
    simp [ByteArray.getElem_extract]
  have hlet : headLetter (s.data.toList.drop (m + n)) = true ↔ ∃ h : m + n < s.size, letterB ((s[m + n]'h).toNat : Int) = true := by
    by_cases hlt : m + n < s.size
    · have hd : s.data.toList.drop (m + n) = s[m + n]'hlt :: s.data.toList.drop (m + n + 1) := List.drop_eq_getElem_cons (by simpa using hlt)
      rw [hd]
      exact ⟨fun h => ⟨hlt, h⟩, fun ⟨_, h⟩ => h⟩
    · have hd : s.data.toList.drop (m + n) = [] := List.drop_eq_nil_of_le (by simp; omega)
      rw [hd]
      exact ⟨fun h => by simp [headLetter] at h, fun ⟨h, _⟩ => absurd h hlt⟩
  by_cases hc : (1 < n ∧ (s[m]'hk).toNat = 48) ∨ headLetter (s.data.toList.drop (m + n)) = true
  · rw [if_pos hc] at hr
    simp only [Prod.mk.injEq] at hr
    obtain ⟨rfl, rfl⟩ := hr
    refine (number_err b s _ m n lv (by omega) hs hmn hn rfl htn ?_ w h).mono fun e' w' ⟨he, hx⟩ => ⟨he, m + n, fun _ => rfl, hx⟩
    by_cases h1 : 1 < n ∧ (s[m]'hk).toNat = 48
    · exact Or.inl ⟨h1.1, by omega, by rw [h0]; omega⟩
    · have h2 := hlet.1 (hc.resolve_left h1)
      refine Or.inr ⟨?_, h2⟩
      by_cases h3 : 1 < n
      · exact Or.inr ⟨h3, by omega, by rw [h0]; omega⟩
      · exact Or.inl (by omega)
  · rw [if_neg hc] at hr
    refine (number_ok b s _ m n lv (by omega) hs hmn hn rfl htn ?_ ?_ (span_digits s m n (by omega) hn hmn) r e hr w h).mono fun e' w' ⟨he, hx⟩ => ⟨he, m + n, fun _ => rfl, hx⟩
    · by_cases h3 : 1 < n
      · exact Or.inr ⟨h3, by omega, by rw [h0]; omega⟩
      · exact Or.inl (by omega)
    · by_cases hlt : m + n < s.size
      · refine Or.inr ⟨hlt, ?_⟩
        cases hb : letterB ((s[m + n]'hlt).toNat : Int)
        · rfl
        · exact absurd (Or.inr (hlet.2 ⟨hlt, hb⟩)) hc
      · exact Or.inl (by omega)
theorem next_any (b : Nat) (s : ByteArray) (k n : Nat) (lv : Value) (hk : k ≤ s.size) (hs : s.size ≤ 140737488351232) (hn : skipL false (s.data.toList.drop k) = n) (hlt : k + n < s.size) (n1 : Nat) (r : Tok) (e : Int) (hr : oneF (s.data.toList.drop (k + n)) = (r, n1, e)) (w : World) (h : LexAt b s k lv w) :
    Calls Try.prog 47 #[.pointer (some ⟨b, 0, none⟩)] w (NextPost b (k + n) (k + n + n1) r e w) := by
  have hm : s.size ≤ maxLen := by unfold maxLen; omega
  obtain ⟨m, hmm⟩ : ∃ m, k + n = m := ⟨_, rfl⟩
  have hlt' : m < s.size := by omega
  have hd : s.data.toList.drop m = s[m]'hlt' :: s.data.toList.drop (m + 1) := List.drop_eq_getElem_cons (by simpa using hlt')
  subst hmm
  have hr0 := hr
  rw [hd] at hr
  unfold oneF at hr
  dsimp only at hr
  rw [← hd] at hr
  by_cases c1 : letterB ((s[k + n]'hlt).toNat : Int) = true
  · rw [if_pos c1] at hr
    simp only [Prod.mk.injEq] at hr
    obtain ⟨rfl, rfl, rfl⟩ := hr
    refine next_name b s k n lv hk hm hn hlt c1 _ _ _ (Lib.hid fun w h => take_name b s (k + n) _ lv (by omega) hm rfl _ _ ?_ w h) w h
    rw [extract_take]
  rw [if_neg c1] at hr
  have c1' : letterB ((s[k + n]'hlt).toNat : Int) = false := by simpa using c1
  by_cases c2 : digitB ((s[k + n]'hlt).toNat : Int) = true
  · rw [if_pos c2] at hr
    have hnum : ∀ n2, spanN digitB (s.data.toList.drop (k + n)) = n2 → n2 = n1 ∧ (if (1 < n2 ∧ (s[k + n]'hlt).toNat = 48) ∨ headLetter (s.data.toList.drop (k + n + n2)) = true then (tok0, 3) else numF (s.extract (k + n) (k + n + n2))) = (r, e) := by
      intro n2 h2
      rw [h2, List.drop_drop] at hr
      rw [extract_take]
      split at hr
      · next hc => rw [if_pos hc]; simp only [Prod.mk.injEq] at hr ⊢; exact ⟨hr.2.1, hr.1, hr.2.2⟩
      · next hc => rw [if_neg hc]; simp only [Prod.mk.injEq] at hr; exact ⟨hr.2.1, by rw [← hr.1, ← hr.2.2]⟩
    obtain ⟨h3, h4⟩ := hnum _ rfl
    rw [← h3]
    exact next_number b s k n lv hk hm hn hlt c1' c2 _ _ _ (Lib.hid fun w h => take_number b s (k + n) _ lv hlt hm rfl _ _ h4 w h) w h
  rw [if_neg c2] at hr
  have c2' : digitB ((s[k + n]'hlt).toNat : Int) = false := by simpa using c2
  by_cases c3 : (s[k + n]'hlt).toNat = 34
  · rw [if_pos c3] at hr
    simp only [Prod.mk.injEq] at hr
    obtain ⟨rfl, rfl, rfl⟩ := hr
    exact next_text b s k n lv hk hm hn hlt c1' c2' (by simp; omega) _ _ _ (Lib.hid fun w h => take_text b s (k + n) _ lv hlt hs _ _ rfl w h) w h
  · rw [if_neg c3] at hr
    exact next_sign b s k n lv hk hm hn hlt c1' c2' (by simp; omega) _ _ _ (Lib.hid fun w h => take_sign b s (k + n) _ lv hlt (by omega) _ _ hr w h) w h
end Go.Proofs.Ytoaaklcbcbjaiaa

namespace Go.Proofs.Ytoaaklcbcbjaiaa
open Go.RowKit
/-- the tokens from place k on, behind those that there are: them, or the error and its place -/
def lexG (s : List UInt8) : Nat → Nat → List (Tok × Nat) → List (Tok × Nat) × Int × Nat
  | 0, _, _ => ([], 0, 0)
  | g + 1, k, acc =>
    if s.length ≤ k + skipL false (s.drop k) then (acc ++ [(tok0, s.length)], 0, 0)
    else if (oneF (s.drop (k + skipL false (s.drop k)))).2.2 ≠ 0 then ([], (oneF (s.drop (k + skipL false (s.drop k)))).2.2, k + skipL false (s.drop k))
    else if acc.length = 1024 then ([], 5, k + skipL false (s.drop k))
    else lexG s g (k + skipL false (s.drop k) + (oneF (s.drop (k + skipL false (s.drop k)))).2.1) (acc ++ [((oneF (s.drop (k + skipL false (s.drop k)))).1, k + skipL false (s.drop k))])
/-- a source's tokens -/
def lexF (s : List UInt8) : List (Tok × Nat) × Int × Nat := if 4096 < s.length then ([], 5, 4096) else lexG s (s.length + 1) 0 []
/-- a token's cells -/
def tokCells (l : List (Tok × Nat)) : List Value := l.flatMap fun t => [.int .i64 t.1.k, .int .i64 (t.2 : Int), .string t.1.s, .int .i64 t.1.i]
theorem tokCells_append (l m : List (Tok × Nat)) : tokCells (l ++ m) = tokCells l ++ tokCells m := by simp [tokCells]
theorem textG_bd (l acc : List UInt8) : (textG l acc).2.2 = 0 → 1 ≤ (textG l acc).2.1 ∧ (textG l acc).2.1 ≤ l.length := by
  fun_induction textG l acc
  all_goals intro h
  all_goals first
    | (exfalso; exact absurd h (by decide))
    | (refine ⟨?_, ?_⟩ <;> simp only [List.length_cons] <;> omega)
    | (rename_i ih; have h2 := ih h; exact ⟨Nat.succ_le_succ (Nat.zero_le _), Nat.succ_le_succ h2.2⟩)
    | (rename_i ih; have h2 := ih h; exact ⟨Nat.succ_le_succ (Nat.zero_le _), Nat.succ_le_succ (Nat.succ_le_succ h2.2)⟩)
theorem signF_bd (l : List UInt8) (r : Tok) (n : Nat) (h : signF l = (r, n, 0)) : 1 ≤ n ∧ n ≤ l.length := by
  unfold signF at h
  cases hf : twoL.find? (fun p => Lib.hasPrefix l p.data.toList) with
  | some p =>
    rw [hf] at h
    simp only [Prod.mk.injEq] at h
    obtain ⟨_, rfl, _⟩ := h
    have h1 := List.find?_some hf
    have h2 := List.mem_of_find?_eq_some hf
    have h3 : p.data.toList.length = 2 := by
      simp only [twoL, List.mem_cons, List.not_mem_nil, or_false] at h2
      rcases h2 with rfl | rfl | rfl | rfl | rfl <;> rfl
    have h4 := (List.isPrefixOf_iff_prefix.1 h1).length_le
    omega
  | none =>
    rw [hf] at h
    cases l with
    | nil => simp at h
    | cons c l =>
      dsimp only at h
      split at h
      · simp only [Prod.mk.injEq] at h
        obtain ⟨_, rfl, _⟩ := h
        simp
      · simp at h
/-- a token has a byte at least, and no more than there are -/
theorem oneF_bd (l : List UInt8) (r : Tok) (n : Nat) (hl : 0 < l.length) (h : oneF l = (r, n, 0)) : 1 ≤ n ∧ n ≤ l.length := by
  cases l with
  | nil => simp at hl
  | cons c l =>
    unfold oneF at h
    dsimp only at h
    by_cases c1 : letterB (c.toNat : Int) = true
    · rw [if_pos c1] at h
      simp only [Prod.mk.injEq] at h
      obtain ⟨_, rfl, _⟩ := h
      have hb : nameB (c.toNat : Int) = true := by simp [nameB, c1]
      refine ⟨?_, spanN_le _ _⟩
      rw [spanN, if_pos hb]; omega
    rw [if_neg c1] at h
    by_cases c2 : digitB (c.toNat : Int) = true
    · rw [if_pos c2] at h
      have key : n = spanN digitB (c :: l) := by
        split at h <;> simp only [Prod.mk.injEq] at h <;> exact h.2.1.symm
      rw [key]
      refine ⟨?_, spanN_le _ _⟩
      rw [spanN, if_pos c2]; omega
    rw [if_neg c2] at h
    by_cases c3 : c.toNat = 34
    · rw [if_pos c3] at h
      simp only [Prod.mk.injEq] at h
      obtain ⟨_, rfl, h3⟩ := h
      have := textG_bd l [] h3
      simp only [List.length_cons]
      omega
    · rw [if_neg c3] at h
      exact signF_bd _ r n h
end Go.Proofs.Ytoaaklcbcbjaiaa
