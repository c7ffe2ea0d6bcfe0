/- Lemmas for the claim (texts Lex6, what its proof uses of them). -/
import Derived.Test.YtpnabjopfpdkhaaGreatDoorB03
set_option linter.unusedSimpArgs false
set_option linter.unusedVariables false
namespace Go.Proofs.YtpnabjopfpdkhaaGreatDoor
open Go.RowKit
/-- the text that begins behind a quotation mark: it, how many bytes it has behind that, and the error -/
def textG : List UInt8 → List UInt8 → Tok × Nat × Int
 | [], _ => (tok0, 0, 2)
 | c :: l, acc =>
  if c.toNat = 34 then (if 64 < acc.length then (tok0, 0, 5) else (⟨3, ⟨acc.toArray⟩, 0⟩, 1, 0))
  else if c.toNat < 32 ∨ 126 < c.toNat then (tok0, 0, 3)
  else if c.toNat ≠ 92 then (let r := textG l (acc ++ [c]); (r.1, r.2.1 + 1, r.2.2))
  else match l with
   | [] => (tok0, 0, 2)
   | d :: l' => if escZ (d.toNat : Int) = 0 then (tok0, 0, 3) else (let r := textG l' (acc ++ [UInt8.ofNat (escZ (d.toNat : Int)).toNat]); (r.1, r.2.1 + 2, r.2.2))
def TextPost (b k n : Nat) (r : Tok) (e : Int) (w : World) (e' : Ending) (w' : World) : Prop :=
 e' = .returned (.tuple #[.agg #[.int .i64 r.k, .int .i64 0, .string r.s, .int .i64 r.i], .int .i64 e]) ∧ ∃ k' : Nat, (e = 0 → k' = k + 1 + n) ∧ Ext (w.setCell ⟨b, 1, none⟩ (.int .i64 (k' : Int))) w'
theorem escZ_range (c : Int) (h0 : 0 ≤ c) (h1 : c < 256) : 0 ≤ escZ c ∧ escZ c < 256 := by unfold escZ; (repeat' split) <;> omega
theorem qcH {B b : Nat} {acc : List UInt8} {c : Int} {u : UInt8} {w : World} (h : Bld B b (qaf acc ++ [.int .u8 c]) w) (hu : (u.toNat : Int) = c) : Bld B b (qaf (acc ++ [u])) w := by
 rw [qbh]
 have e : qaf [u] = [.int .u8 c] := by rw [← hu]; rfl
 rw [e]; exact h
theorem grown_new {w0 w : World} {row : Option Nat} (h : w0.grownBy w row) {p : Addr} (hp : w0.heap.size ≤ p.block) (v : Value) : w0.grownBy (w.setCell p v) row := by
 obtain ⟨h1, h2, h3, h4, h5⟩ := h
 refine ⟨h1, h2, h3, by simpa [World.setCell] using h4, fun k hk hne => ?_⟩
 rw [← h5 k hk hne]
 exact Below.heap_setCell _ _ _ _ (fun e => by omega)
theorem setCell_same {w : World} {b i : Nat} {v : Value} (h : w.cell? ⟨b, i, none⟩ = some v) : w.setCell ⟨b, i, none⟩ v = w := by
 have e : (w.setCell ⟨b, i, none⟩ v).heap = w.heap := by
  apply Array.ext_getElem?
  intro j
  by_cases hj : b = j
  · subst hj
    unfold World.cell? at h
    unfold World.setCell
    simp only [Array.getElem?_modify, if_true]
    cases hb : w.heap[b]? with
    | none => rfl
    | some o =>
     rw [hb] at h
     cases o with
     | cells c t fr =>
      have hi : c[i]? = some v := by simpa using h
      obtain ⟨hlt, hv⟩ := Array.getElem?_eq_some_iff.1 hi
      have hs : c.setIfInBounds i v = c := by
       apply Array.ext_getElem?
       intro q
       rw [Array.getElem?_setIfInBounds]
       by_cases h3 : i = q
       · subst h3; rw [if_pos rfl, if_pos hlt, hi]
       · rw [if_neg h3]
      simp [hs]
     | _ => first | (simp at h; done) | cases h
  · exact Below.heap_setCell _ _ _ _ (fun e => hj e.symm)
 unfold World.setCell at e ⊢
 simp only at e
 rw [e]
attribute [go_sem] setCell_same
def TokBlk (N : Nat) (w : World) : Prop := w.heap[N]? = some (.cells #[.int .i64 0, .int .i64 0, .string ⟨#[]⟩, .int .i64 0] 186 (0, 0))
theorem TokBlk.cells {N : Nat} {w : World} (h : TokBlk N w) : w.cell? ⟨N, 0, none⟩ = some (.int .i64 0) ∧ w.cell? ⟨N, 1, none⟩ = some (.int .i64 0) ∧ w.cell? ⟨N, 2, none⟩ = some (.string ⟨#[]⟩) ∧ w.cell? ⟨N, 3, none⟩ = some (.int .i64 0) ∧ (∀ o, w.frozen? ⟨N, o, none⟩ = false) ∧ N < w.heap.size := by
 unfold TokBlk at h
 refine ⟨by simp [World.cell?, h], by simp [World.cell?, h], by simp [World.cell?, h], by simp [World.cell?, h], fun o => by simp [World.frozen?, h], ?_⟩
 exact (Array.getElem?_eq_some_iff.1 h).1
theorem TokBlk.start {N : Nat} {w : World} (h : w.heap.size = N) (o : Obj) : TokBlk N ((w.alloc (.cells #[.int .i64 0, .int .i64 0, .string ⟨#[]⟩, .int .i64 0] 186)).alloc o) := by
 subst h
 unfold TokBlk
 rw [Lib.alloc_old _ o _ zal]
 exact heap_alloc_new _ _
theorem TokBlk.below {N B : Nat} {w w' : World} (h : TokBlk N w) (hb : Below B w w') (hN : N < B) : TokBlk N w' := by
 unfold TokBlk; rw [hb.block N hN]; exact h
theorem TokBlk.set {N : Nat} {w : World} (h : TokBlk N w) {p : Addr} (hp : p.block ≠ N) (v : Value) : TokBlk N (w.setCell p v) := by
 unfold TokBlk; rw [Below.heap_setCell _ _ _ _ (fun e => hp e.symm)]; exact h
theorem TokBlk.more {N : Nat} {w : World} (h : TokBlk N w) (d : Nat) (os : Array Obj) : TokBlk N (more w d os) := by
 unfold TokBlk; rw [more_heap _ _ _ _ h.cells.2.2.2.2.2]; exact h
theorem bld_set {B b b0 i : Nat} {bs : List Value} {w : World} (h : Bld B b bs w) (hb : b0 < B) (v : Value) : Bld B b bs (w.setCell ⟨b0, i, none⟩ v) := bld_kept h (qaO (grown_refl w _) i v) hb
theorem qdH {B b : Nat} {bs : List Value} {w : World} (h : Bld B b bs w) (d : Nat) (os : Array Obj) : Bld B b bs (more w d os) := bld_ext h (Ext.more (Ext.refl _) _ _)
set_option maxHeartbeats 8000000 in
set_option maxRecDepth 20000 in
theorem text_any (b : Nat) (s : ByteArray) (k n : Nat) (lv : Value) (hk : k < s.size) (hs : s.size ≤ 140737488351232) (r : Tok) (e : Int) (hr : textG (s.data.toList.drop (k + 1)) [] = (r, n, e)) (w : World) (h : LexAt b s k lv w) :
  Calls Tryz.prog 129 #[.pointer (some ⟨b, 0, none⟩)] w (TextPost b k n r e w) := by
 have HL := Lib.hid h
 have HR := Lib.hid hr
 have hbw := h.lt
 obtain ⟨c0, c1, c2, f1, f2⟩ := h.cells
 have HSZ := Lib.hid hs
 have hs3 : s.size ≤ maxLen := by unfold maxLen; omega
 unfold maxLen at hs3
 clear h hr hs
 go_enter Tryz.func129, Tryz.ntmps129
 go_wp2_with fail
 clear c0 c1 c2 f1 f2
 go_loopg [] (s.size - (k + 1)) (fun g wr => ∃ (m : Nat) (acc : List UInt8) (n' : Nat), k < m ∧ m ≤ s.size ∧ acc.length ≤ m ∧ g = s.size - m ∧ textG (s.data.toList.drop m) acc = (r, n', e) ∧ (e = 0 → m + n' = k + 1 + n) ∧ LexAt b s m lv wr ∧ TokBlk w.heap.size wr ∧ Bld (w.heap.size + 1) (w.heap.size + 1) (qaf acc) wr ∧ w.grownBy wr (some b))
 case atStart =>
  have hsz : (w.setCell ⟨b, 1, none⟩ (.int .i64 ((k : Int) + 1))).heap.size = w.heap.size := by simp [World.setCell]
  refine ⟨k + 1, [], n, by omega, by omega, by simp, rfl, HR.out, fun _ => by omega, ((HL.out.set (k + 1) _ zae).alloc _).alloc _, ?_, ?_, ?_⟩
  · exact TokBlk.start hsz _
  · have h := Lib.fresh_isBuilder 236 5 ((w.setCell ⟨b, 1, none⟩ (.int .i64 ((k : Int) + 1))).alloc (.cells #[.int .i64 0, .int .i64 0, .string ⟨#[]⟩, .int .i64 0] 186))
    have e2 : ((w.setCell ⟨b, 1, none⟩ (.int .i64 ((k : Int) + 1))).alloc (.cells #[.int .i64 0, .int .i64 0, .string ⟨#[]⟩, .int .i64 0] 186)).heap.size = w.heap.size + 1 := by simp [World.setCell]
    rw [e2] at h
    exact h
  · exact qam (qaO (grown_refl _ _) _ _) (((Ext.refl _).alloc _).alloc _)
 case round =>
  obtain ⟨m, acc, n', hkm, hms, hal, hgk, hx, hsn, hL, hT, hB, hg⟩ := hrel
  have HLL := Lib.hid hL
  have HT := Lib.hid hT
  have HB := Lib.hid hB
  have HG := Lib.hid hg
  have HGK := Lib.hid hgk
  have HS := Lib.hid hsn
  obtain ⟨c0, c1, c2, f1, f2⟩ := hL.cells
  have hb := hL.lt
  obtain ⟨t0, t1, t2, t3, tf, ht⟩ := hT.cells
  have hne : (w.heap.size = b) = False := by simp; omega
  have hne2 : (b = w.heap.size) = False := by simp; omega
  clear hL hT hB hg hgk hsn HR
  by_cases hlt : m < s.size
  · have hml : m < s.data.toList.length := by simpa using hlt
    have hd : s.data.toList.drop m = s[m]'hlt :: s.data.toList.drop (m + 1) := List.drop_eq_getElem_cons hml
    rw [hd] at hx
    have h256 := (s[m]'hlt).toNat_lt
    unfold textG at hx
    by_cases q1 : (s[m]'hlt).toNat = 34
    · rw [if_pos q1] at hx
      by_cases h64 : 64 < acc.length
      · rw [if_pos h64] at hx
        simp only [Prod.mk.injEq, tok0] at hx
        obtain ⟨rfl, rfl, rfl⟩ := hx
        have q1' : (((s[m]'hlt).toNat : Int)) = 34 := by omega
        clear hd hml h256 q1
        go_wp2_with fail
        refine qaa 9 100 [false, false, false, false, false, false, false, false, false] zad zad rfl ?_
        simp only [List.take_succ_cons, List.take_zero, List.drop_succ_cons, List.drop_zero]
        repeat (refine Lex.step rfl ?_; intro K hK; unfold StepG; go_simp; (first
          | refine hK _ ?_); clear hK K)
        refine Lex.nil fun WW hE => ?_
        obtain ⟨dd, oo, rfl⟩ := hE
        unfold FillH
        go_wp2_with fail
        rw [ends_normal]
        go_wp2_with fail
        refine qaa 8 100 [false, false, false, false, false, false, false, false] zad zad rfl ?_
        simp only [List.take_succ_cons, List.take_zero, List.drop_succ_cons, List.drop_zero]
        repeat (refine Lex.step rfl ?_; intro K hK; unfold StepG; go_simp; (first
          | refine hK _ ?_); clear hK K)
        refine Lex.nil fun WW hE => ?_
        obtain ⟨dd, oo, rfl⟩ := hE
        unfold FillH
        go_wp2_with fail
        rw [ends_normal]
        go_wp2_with (go_at_call 157; refine (Tryz.Builder_Len (w.heap.size + 1) (w.heap.size + 1) (qaf acc) _ zar).mono ?_; rw [cellsB_length]; rintro e _ ⟨rfl, rfl⟩)
        refine bodyPost_ret (v := .tuple #[.agg #[.int .i64 0, .int .i64 0, .string ⟨#[]⟩, .int .i64 0], .int .i64 5]) zat rfl ?_
        refine ⟨rfl, (m + 1), fun h => absurd h zaj, ?_⟩
        exact lex_form HL.out (k' := (m + 1)) zah zai
      · rw [if_neg h64] at hx
        simp only [Prod.mk.injEq] at hx
        obtain ⟨rfl, rfl, rfl⟩ := hx
        have q1' : (((s[m]'hlt).toNat : Int)) = 34 := by omega
        have h64' : ((acc.length : Int) ≤ 64) := by omega
        clear hd hml h256 q1
        go_wp2_with fail
        refine qaa 9 100 [false, false, false, false, false, false, false, false, false] zad zad rfl ?_
        simp only [List.take_succ_cons, List.take_zero, List.drop_succ_cons, List.drop_zero]
        repeat (refine Lex.step rfl ?_; intro K hK; unfold StepG; go_simp; (first
          | refine hK _ ?_); clear hK K)
        refine Lex.nil fun WW hE => ?_
        obtain ⟨dd, oo, rfl⟩ := hE
        unfold FillH
        go_wp2_with fail
        rw [ends_normal]
        go_wp2_with fail
        refine qaa 8 100 [false, false, false, false, false, false, false, false] zad zad rfl ?_
        simp only [List.take_succ_cons, List.take_zero, List.drop_succ_cons, List.drop_zero]
        repeat (refine Lex.step rfl ?_; intro K hK; unfold StepG; go_simp; (first
          | refine hK _ ?_); clear hK K)
        refine Lex.nil fun WW hE => ?_
        obtain ⟨dd, oo, rfl⟩ := hE
        unfold FillH
        go_wp2_with fail
        rw [ends_normal]
        go_wp2_with (go_at_call 157; refine (Tryz.Builder_Len (w.heap.size + 1) (w.heap.size + 1) (qaf acc) _ zar).mono ?_; rw [cellsB_length]; rintro e _ ⟨rfl, rfl⟩)
        refine (Tryz.Builder_String_any (w.heap.size + 1) (w.heap.size + 1) acc _ (show Bld (w.heap.size + 1) (w.heap.size + 1) (qaf acc) _ from zar) (by simp only [more_size, World.setCell, Array.size_modify]; omega)).mono ?_
        rintro e w2 ⟨rfl, hbl⟩
        have hL1 := LexAt.below (k := (m + 1)) zah hbl zae
        have hT1 := TokBlk.below (N := w.heap.size) (by repeat (first | (with_reducible exact HT.out) | (with_reducible apply TokBlk.more) | ((with_reducible refine TokBlk.set ?_ ?_ _); rotate_left; (show b ≠ w.heap.size; omega)))) hbl zae
        have hG1 := qbO (w := w) (row := some b) zai (hbl.mono zae)
        clear c0 c1 c2 f1 f2 t0 t1 t2 t3 tf ht
        obtain ⟨c0, c1, c2, f1, f2⟩ := hL1.cells
        have hb1 := hL1.lt
        obtain ⟨t0, t1, t2, t3, tf, ht⟩ := hT1.cells
        have HL1 := Lib.hid hL1
        have HT1 := Lib.hid hT1
        have HG1 := Lib.hid hG1
        clear hbl hL1 hT1 hG1
        go_wp2_with fail
        refine bodyPost_ret (v := .tuple #[.agg #[.int .i64 3, .int .i64 0, .string ⟨acc.toArray⟩, .int .i64 0], .int .i64 0]) (by simp [results, Tryz.results129, t0, t1, t2, t3, tf, hne, hne2, ht, hb1, go_sem]) rfl ?_
        refine ⟨rfl, (m + 1), fun _ => by have := HS.out (by trivial); omega, ?_⟩
        exact lex_form HL.out (k' := (m + 1)) (by repeat (first | (with_reducible exact HL1.out) | (with_reducible apply LexAt.more) | (with_reducible apply LexAt.alloc) | ((with_reducible refine LexAt.other ?_ ?_ _); rotate_left; (show w.heap.size ≠ b; omega)) | ((with_reducible refine LexAt.set HL1.out _ _ ?_); omega))) zaq
    · rw [if_neg q1] at hx
      have p1 : (((s[m]'hlt).toNat : Int) == 34) = false := by simp; omega
      by_cases q2 : (s[m]'hlt).toNat < 32 ∨ 126 < (s[m]'hlt).toNat
      · rw [if_pos q2] at hx
        simp only [Prod.mk.injEq, tok0] at hx
        obtain ⟨rfl, rfl, rfl⟩ := hx
        clear hd hml h256 q1
        rcases q2 with q2 | q2
        · have q3 : (((s[m]'hlt).toNat : Int) < 32) = True := by simp; omega
          clear q2
          go_wp2_with fail
          refine qaa 9 100 [false, false, false, false, false, false, false, false, false] zad zad rfl ?_
          simp only [List.take_succ_cons, List.take_zero, List.drop_succ_cons, List.drop_zero]
          repeat (refine Lex.step rfl ?_; intro K hK; unfold StepG; go_simp; (first
            | refine hK _ ?_); clear hK K)
          refine Lex.nil fun WW hE => ?_
          obtain ⟨dd, oo, rfl⟩ := hE
          unfold FillH
          go_wp2_with fail
          rw [ends_normal]
          go_wp2_with fail
          refine qaa 8 100 [false, false, false, false, false, false, false, false] zad zad rfl ?_
          simp only [List.take_succ_cons, List.take_zero, List.drop_succ_cons, List.drop_zero]
          repeat (refine Lex.step rfl ?_; intro K hK; unfold StepG; go_simp; (first
            | refine hK _ ?_); clear hK K)
          refine Lex.nil fun WW hE => ?_
          obtain ⟨dd, oo, rfl⟩ := hE
          unfold FillH
          go_wp2_with fail
          rw [ends_normal]
          go_wp2_with fail
          refine bodyPost_ret (v := .tuple #[.agg #[.int .i64 0, .int .i64 0, .string ⟨#[]⟩, .int .i64 0], .int .i64 3]) zat rfl ?_
          refine ⟨rfl, m, fun h => absurd h zaj, ?_⟩
          exact lex_form HL.out (k' := m) zah zai
        · have q3 : (((s[m]'hlt).toNat : Int) < 32) = False := by simp; omega
          have q4 : (126 < ((s[m]'hlt).toNat : Int)) = True := by simp; omega
          clear q2
          go_wp2_with fail
          refine qaa 9 100 [false, false, false, false, false, false, false, false, false] zad zad rfl ?_
          simp only [List.take_succ_cons, List.take_zero, List.drop_succ_cons, List.drop_zero]
          repeat (refine Lex.step rfl ?_; intro K hK; unfold StepG; go_simp; (first
            | refine hK _ ?_); clear hK K)
          refine Lex.nil fun WW hE => ?_
          obtain ⟨dd, oo, rfl⟩ := hE
          unfold FillH
          go_wp2_with fail
          rw [ends_normal]
          go_wp2_with fail
          refine qaa 8 100 [false, false, false, false, false, false, false, false] zad zad rfl ?_
          simp only [List.take_succ_cons, List.take_zero, List.drop_succ_cons, List.drop_zero]
          repeat (refine Lex.step rfl ?_; intro K hK; unfold StepG; go_simp; (first
            | refine hK _ ?_); clear hK K)
          refine Lex.nil fun WW hE => ?_
          obtain ⟨dd, oo, rfl⟩ := hE
          unfold FillH
          go_wp2_with fail
          rw [ends_normal]
          go_wp2_with fail
          refine bodyPost_ret (v := .tuple #[.agg #[.int .i64 0, .int .i64 0, .string ⟨#[]⟩, .int .i64 0], .int .i64 3]) zat rfl ?_
          refine ⟨rfl, m, fun h => absurd h zaj, ?_⟩
          exact lex_form HL.out (k' := m) zah zai
      · rw [if_neg q2] at hx
        have q3 : (((s[m]'hlt).toNat : Int) < 32) = False := by simp; omega
        have q4 : (126 < ((s[m]'hlt).toNat : Int)) = False := by simp; omega
        by_cases q5 : (s[m]'hlt).toNat = 92
        · have q6 : (((s[m]'hlt).toNat : Int) == 92) = true := by simp; omega
          have q7 : (((s[m]'hlt).toNat : Int) != 92) = false := by simp; omega
          rw [if_neg zae] at hx
          by_cases hl2 : m + 1 < s.size
          · have hd2 : s.data.toList.drop (m + 1) = s[m + 1]'hl2 :: s.data.toList.drop (m + 1 + 1) := List.drop_eq_getElem_cons (by simpa using hl2)
            rw [hd2] at hx
            dsimp only at hx
            have h256b := (s[m + 1]'hl2).toNat_lt
            have es := esc_any ((s[m + 1]'hl2).toNat : Int) zae zae
            have er := escZ_range ((s[m + 1]'hl2).toNat : Int) zae zae
            have hle : (((m : Int) + 1) == (s.size : Int)) = false := by simp; omega
            by_cases hz : escZ ((s[m + 1]'hl2).toNat : Int) = 0
            · rw [if_pos hz] at hx
              simp only [Prod.mk.injEq, tok0] at hx
              obtain ⟨rfl, rfl, rfl⟩ := hx
              rw [hz] at es
              have ES := Lib.hid es
              clear hd hml h256 q1 q2 q5 hd2 h256b es er hz
              go_wp2_with fail
              refine qaa 9 100 [false, false, false, false, false, false, false, false, false] zad zad rfl ?_
              simp only [List.take_succ_cons, List.take_zero, List.drop_succ_cons, List.drop_zero]
              repeat (refine Lex.step rfl ?_; intro K hK; unfold StepG; go_simp; (first
                | refine hK _ ?_); clear hK K)
              refine Lex.nil fun WW hE => ?_
              obtain ⟨dd, oo, rfl⟩ := hE
              unfold FillH
              go_wp2_with fail
              rw [ends_normal]
              go_wp2_with fail
              refine qaa 8 100 [false, false, false, false, false, false, false, false] zad zad rfl ?_
              simp only [List.take_succ_cons, List.take_zero, List.drop_succ_cons, List.drop_zero]
              repeat (refine Lex.step rfl ?_; intro K hK; unfold StepG; go_simp; (first
                | refine hK _ ?_); clear hK K)
              refine Lex.nil fun WW hE => ?_
              obtain ⟨dd, oo, rfl⟩ := hE
              unfold FillH
              go_wp2_with fail
              rw [ends_normal]
              go_wp2_with fail
              refine qaa 9 100 [false, false, false, false, false, false, false, false, false] zad zad rfl ?_
              simp only [List.take_succ_cons, List.take_zero, List.drop_succ_cons, List.drop_zero]
              repeat (refine Lex.step rfl ?_; intro K hK; unfold StepG; go_simp; (first
                | refine hK _ ?_); clear hK K)
              refine Lex.nil fun WW hE => ?_
              obtain ⟨dd, oo, rfl⟩ := hE
              unfold FillH
              go_wp2_with fail
              rw [ends_normal]
              go_wp2_with fail
              refine qaa 8 100 [false, false, false, false, false, false, false, false] zad zad rfl ?_
              simp only [List.take_succ_cons, List.take_zero, List.drop_succ_cons, List.drop_zero]
              repeat (refine Lex.step rfl ?_; intro K hK; unfold StepG; go_simp; (first
                | refine hK _ ?_); clear hK K)
              refine Lex.nil fun WW hE => ?_
              obtain ⟨dd, oo, rfl⟩ := hE
              unfold FillH
              go_wp2_with (go_at_call 160; refine (ES.out _).mono ?_; rintro e _ ⟨rfl, rfl⟩)
              rw [ends_normal]
              go_wp2_with fail
              refine bodyPost_ret (v := .tuple #[.agg #[.int .i64 0, .int .i64 0, .string ⟨#[]⟩, .int .i64 0], .int .i64 3]) zat rfl ?_
              refine ⟨rfl, (m + 1), fun h => absurd h zaj, ?_⟩
              exact lex_form HL.out (k' := (m + 1)) zah zai
            · rw [if_neg hz] at hx
              obtain ⟨r1, n1, e1, hx1⟩ : ∃ r1 n1 e1, textG (s.data.toList.drop (m + 1 + 1)) (acc ++ [UInt8.ofNat (escZ ((s[m + 1]'hl2).toNat : Int)).toNat]) = (r1, n1, e1) := ⟨_, _, _, rfl⟩
              rw [hx1] at hx
              simp only [Prod.mk.injEq] at hx
              obtain ⟨rfl, rfl, rfl⟩ := hx
              obtain ⟨z, hzz⟩ : ∃ z, escZ ((s[m + 1]'hl2).toNat : Int) = z := ⟨_, rfl⟩
              rw [hzz] at es er hz hx1
              have ES := Lib.hid es
              have HX1 := Lib.hid hx1
              have hz' : (z == 0) = false := by simpa using hz
              clear hd hml h256 q1 q2 q5 hd2 h256b es hz hzz hx1
              go_wp2_with fail
              refine qaa 9 100 [false, false, false, false, false, false, false, false, false] zad zad rfl ?_
              simp only [List.take_succ_cons, List.take_zero, List.drop_succ_cons, List.drop_zero]
              repeat (refine Lex.step rfl ?_; intro K hK; unfold StepG; go_simp; (first
                | refine hK _ ?_); clear hK K)
              refine Lex.nil fun WW hE => ?_
              obtain ⟨dd, oo, rfl⟩ := hE
              unfold FillH
              go_wp2_with fail
              rw [ends_normal]
              go_wp2_with fail
              refine qaa 8 100 [false, false, false, false, false, false, false, false] zad zad rfl ?_
              simp only [List.take_succ_cons, List.take_zero, List.drop_succ_cons, List.drop_zero]
              repeat (refine Lex.step rfl ?_; intro K hK; unfold StepG; go_simp; (first
                | refine hK _ ?_); clear hK K)
              refine Lex.nil fun WW hE => ?_
              obtain ⟨dd, oo, rfl⟩ := hE
              unfold FillH
              go_wp2_with fail
              rw [ends_normal]
              go_wp2_with fail
              refine qaa 9 100 [false, false, false, false, false, false, false, false, false] zad zad rfl ?_
              simp only [List.take_succ_cons, List.take_zero, List.drop_succ_cons, List.drop_zero]
              repeat (refine Lex.step rfl ?_; intro K hK; unfold StepG; go_simp; (first
                | refine hK _ ?_); clear hK K)
              refine Lex.nil fun WW hE => ?_
              obtain ⟨dd, oo, rfl⟩ := hE
              unfold FillH
              go_wp2_with fail
              rw [ends_normal]
              go_wp2_with fail
              refine qaa 8 100 [false, false, false, false, false, false, false, false] zad zad rfl ?_
              simp only [List.take_succ_cons, List.take_zero, List.drop_succ_cons, List.drop_zero]
              repeat (refine Lex.step rfl ?_; intro K hK; unfold StepG; go_simp; (first
                | refine hK _ ?_); clear hK K)
              refine Lex.nil fun WW hE => ?_
              obtain ⟨dd, oo, rfl⟩ := hE
              unfold FillH
              go_wp2_with (go_at_call 160; refine (ES.out _).mono ?_; rintro e _ ⟨rfl, rfl⟩)
              rw [ends_normal]
              go_wp2_with fail
              refine (qan (w.heap.size + 1) (w.heap.size + 1) (qaf acc) z _ zar (by rw [cellsB_length]; have := HSZ.out; omega) (by simp only [more_size, World.setCell, Array.size_modify]; omega)).mono ?_
              rintro e w2 ⟨rfl, hB1, hbl⟩
              have HB1 := Lib.hid hB1
              clear hB1
              have hL1 := LexAt.below (k := (m + 1)) zah hbl zae
              have hT1 := TokBlk.below (N := w.heap.size) (by repeat (first | (with_reducible exact HT.out) | (with_reducible apply TokBlk.more) | ((with_reducible refine TokBlk.set ?_ ?_ _); rotate_left; (show b ≠ w.heap.size; omega)))) hbl zae
              have hG1 := qbO (w := w) (row := some b) zai (hbl.mono zae)
              clear c0 c1 c2 f1 f2 t0 t1 t2 t3 tf ht
              obtain ⟨c0, c1, c2, f1, f2⟩ := hL1.cells
              have hb1 := hL1.lt
              obtain ⟨t0, t1, t2, t3, tf, ht⟩ := hT1.cells
              have HL1 := Lib.hid hL1
              have HT1 := Lib.hid hT1
              have HG1 := Lib.hid hG1
              clear hbl hL1 hT1 hG1
              go_wp2_with fail
              go_roundg (s.size - (m + 1 + 1))
              case measure => have := HGK.out; omega
              case rel => exact ⟨(m + 1 + 1), acc ++ [(UInt8.ofNat z.toNat)], n1, by omega, by omega, by simp; omega, rfl, HX1.out, fun h => by have := HS.out h; omega, (by repeat (first | (with_reducible exact HL1.out) | ((with_reducible refine LexAt.set HL1.out _ _ ?_); omega) | (with_reducible apply LexAt.more))), (by repeat (first | (with_reducible exact HT1.out) | (with_reducible apply TokBlk.more) | ((with_reducible refine TokBlk.set ?_ ?_ _); rotate_left; (show b ≠ w.heap.size; omega)))), qcH (by repeat (first | (with_reducible exact HB1.out) | (with_reducible apply qdH) | ((with_reducible refine bld_set ?_ ?_ _); rotate_left; omega))) (by first | rfl | (simp; omega)), zaq⟩
          · have hnil : s.data.toList.drop (m + 1) = [] := by apply List.drop_eq_nil_of_le; simp; omega
            rw [hnil] at hx
            simp only [Prod.mk.injEq, tok0] at hx
            obtain ⟨rfl, rfl, rfl⟩ := hx
            have hle : (((m : Int) + 1) == (s.size : Int)) = true := by simp; omega
            clear hd hml h256 q1 q2 q5 hnil
            go_wp2_with fail
            refine qaa 9 100 [false, false, false, false, false, false, false, false, false] zad zad rfl ?_
            simp only [List.take_succ_cons, List.take_zero, List.drop_succ_cons, List.drop_zero]
            repeat (refine Lex.step rfl ?_; intro K hK; unfold StepG; go_simp; (first
              | refine hK _ ?_); clear hK K)
            refine Lex.nil fun WW hE => ?_
            obtain ⟨dd, oo, rfl⟩ := hE
            unfold FillH
            go_wp2_with fail
            rw [ends_normal]
            go_wp2_with fail
            refine qaa 8 100 [false, false, false, false, false, false, false, false] zad zad rfl ?_
            simp only [List.take_succ_cons, List.take_zero, List.drop_succ_cons, List.drop_zero]
            repeat (refine Lex.step rfl ?_; intro K hK; unfold StepG; go_simp; (first
              | refine hK _ ?_); clear hK K)
            refine Lex.nil fun WW hE => ?_
            obtain ⟨dd, oo, rfl⟩ := hE
            unfold FillH
            go_wp2_with fail
            rw [ends_normal]
            go_wp2_with fail
            refine qaa 9 100 [false, false, false, false, false, false, false, false, false] zad zad rfl ?_
            simp only [List.take_succ_cons, List.take_zero, List.drop_succ_cons, List.drop_zero]
            repeat (refine Lex.step rfl ?_; intro K hK; unfold StepG; go_simp; (first
              | refine hK _ ?_); clear hK K)
            refine Lex.nil fun WW hE => ?_
            obtain ⟨dd, oo, rfl⟩ := hE
            unfold FillH
            go_wp2_with fail
            rw [ends_normal]
            go_wp2_with fail
            refine bodyPost_ret (v := .tuple #[.agg #[.int .i64 0, .int .i64 0, .string ⟨#[]⟩, .int .i64 0], .int .i64 2]) zat rfl ?_
            refine ⟨rfl, (m + 1), fun h => absurd h zaj, ?_⟩
            exact lex_form HL.out (k' := (m + 1)) zah zai
        · have q6 : (((s[m]'hlt).toNat : Int) == 92) = false := by simp; omega
          have q7 : (((s[m]'hlt).toNat : Int) != 92) = true := by simp; omega
          rw [if_pos q5] at hx
          obtain ⟨r1, n1, e1, hx1⟩ : ∃ r1 n1 e1, textG (s.data.toList.drop (m + 1)) (acc ++ [s[m]'hlt]) = (r1, n1, e1) := ⟨_, _, _, rfl⟩
          rw [hx1] at hx
          simp only [Prod.mk.injEq] at hx
          obtain ⟨rfl, rfl, rfl⟩ := hx
          have HX1 := Lib.hid hx1
          clear hd hml h256 q1 q2 q5 hx1
          go_wp2_with fail
          refine qaa 9 100 [false, false, false, false, false, false, false, false, false] zad zad rfl ?_
          simp only [List.take_succ_cons, List.take_zero, List.drop_succ_cons, List.drop_zero]
          repeat (refine Lex.step rfl ?_; intro K hK; unfold StepG; go_simp; (first
            | refine hK _ ?_); clear hK K)
          refine Lex.nil fun WW hE => ?_
          obtain ⟨dd, oo, rfl⟩ := hE
          unfold FillH
          go_wp2_with fail
          rw [ends_normal]
          go_wp2_with fail
          refine qaa 8 100 [false, false, false, false, false, false, false, false] zad zad rfl ?_
          simp only [List.take_succ_cons, List.take_zero, List.drop_succ_cons, List.drop_zero]
          repeat (refine Lex.step rfl ?_; intro K hK; unfold StepG; go_simp; (first
            | refine hK _ ?_); clear hK K)
          refine Lex.nil fun WW hE => ?_
          obtain ⟨dd, oo, rfl⟩ := hE
          unfold FillH
          go_wp2_with fail
          rw [ends_normal]
          go_wp2_with fail
          refine (qan (w.heap.size + 1) (w.heap.size + 1) (qaf acc) ((s[m]'hlt).toNat : Int) _ zar (by rw [cellsB_length]; have := HSZ.out; omega) (by simp only [more_size, World.setCell, Array.size_modify]; omega)).mono ?_
          rintro e w2 ⟨rfl, hB1, hbl⟩
          have HB1 := Lib.hid hB1
          clear hB1
          have hL1 := LexAt.below (k := m) zah hbl zae
          have hT1 := TokBlk.below (N := w.heap.size) (by repeat (first | (with_reducible exact HT.out) | (with_reducible apply TokBlk.more) | ((with_reducible refine TokBlk.set ?_ ?_ _); rotate_left; (show b ≠ w.heap.size; omega)))) hbl zae
          have hG1 := qbO (w := w) (row := some b) zai (hbl.mono zae)
          clear c0 c1 c2 f1 f2 t0 t1 t2 t3 tf ht
          obtain ⟨c0, c1, c2, f1, f2⟩ := hL1.cells
          have hb1 := hL1.lt
          obtain ⟨t0, t1, t2, t3, tf, ht⟩ := hT1.cells
          have HL1 := Lib.hid hL1
          have HT1 := Lib.hid hT1
          have HG1 := Lib.hid hG1
          clear hbl hL1 hT1 hG1
          go_wp2_with fail
          go_roundg (s.size - (m + 1))
          case measure => have := HGK.out; omega
          case rel => exact ⟨(m + 1), acc ++ [(s[m]'hlt)], n1, by omega, by omega, by simp; omega, rfl, HX1.out, fun h => by have := HS.out h; omega, (by repeat (first | (with_reducible exact HL1.out) | ((with_reducible refine LexAt.set HL1.out _ _ ?_); omega) | (with_reducible apply LexAt.more))), (by repeat (first | (with_reducible exact HT1.out) | (with_reducible apply TokBlk.more) | ((with_reducible refine TokBlk.set ?_ ?_ _); rotate_left; (show b ≠ w.heap.size; omega)))), qcH (by repeat (first | (with_reducible exact HB1.out) | (with_reducible apply qdH) | ((with_reducible refine bld_set ?_ ?_ _); rotate_left; omega))) (by first | rfl | (simp; omega)), zaq⟩
  · have hme : m = s.size := by omega
    have hnil : s.data.toList.drop m = [] := by apply List.drop_eq_nil_of_le; simp; omega
    rw [hnil] at hx
    unfold textG at hx
    simp only [Prod.mk.injEq, tok0] at hx
    obtain ⟨rfl, rfl, rfl⟩ := hx
    clear hnil
    have hlt' : ((m : Int) < s.size) = False := by simp; omega
    clear hme
    go_wp2_with fail
    refine qaa 9 100 [false, false, false, false, false, false, false, false, false] zad zad rfl ?_
    simp only [List.take_succ_cons, List.take_zero, List.drop_succ_cons, List.drop_zero]
    repeat (refine Lex.step rfl ?_; intro K hK; unfold StepG; go_simp; (first
      | refine hK _ ?_); clear hK K)
    refine Lex.nil fun WW hE => ?_
    obtain ⟨dd, oo, rfl⟩ := hE
    unfold FillH
    go_wp2_with fail
    rw [ends_normal]
    go_wp2_with fail
    refine bodyPost_ret (v := .tuple #[.agg #[.int .i64 0, .int .i64 0, .string ⟨#[]⟩, .int .i64 0], .int .i64 2]) zat rfl ?_
    refine ⟨rfl, m, fun h => absurd h zaj, ?_⟩
    exact lex_form HL.out (k' := m) zah zai
end Go.Proofs.YtpnabjopfpdkhaaGreatDoor
