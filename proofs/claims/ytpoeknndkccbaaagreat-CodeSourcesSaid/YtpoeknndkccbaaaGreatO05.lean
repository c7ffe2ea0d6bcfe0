/- Lemmas. -/
import Derived.Test.YtpoeknndkccbaaaGreatO04
set_option linter.unusedSimpArgs false
set_option linter.unusedVariables false
set_option maxHeartbeats 8000000
set_option maxRecDepth 20000
namespace Go.Proofs.YtpoeknndkccbaaaGreat
open Go.RowKit
variable {B N b : Nat} {w : World}
def textG : List UInt8 → List UInt8 → Tok × Nat × Int
 | [], _ => (tok0, 0, 2)
 | c :: l, acc =>
  if c.toNat = 34 then (if 64 < acc.length then (tok0, 0, 5) else (⟨3, ⟨acc.toArray⟩, 0⟩, 1, 0))
  else if c.toNat < 32 ∨ 126 < c.toNat then (tok0, 0, 3)
  else if c.toNat ≠ 92 then (let r := textG l (acc ++ [c]); (r.1, r.2.1 + 1, r.2.2))
  else match l with
   | [] => (tok0, 0, 2)
   | d :: l' => if escZ (d.toNat : Int) = 0 then (tok0, 0, 3) else (let r := textG l' (acc ++ [UInt8.ofNat (escZ (d.toNat : Int)).toNat]); (r.1, r.2.1 + 2, r.2.2))
def TextPost (b k n : Nat) (r : Tok) (e : Int) (w : World) (e' : Ending) (w' : World) : Prop :=
 e' = .returned (.tuple #[.agg #[.int .i64 r.k, .int .i64 0, .string r.s, .int .i64 r.i], .int .i64 e]) ∧ ∃ k' : Nat, (e = 0 → k' = k + 1 + n) ∧ Ext (w.setCell ⟨b, 1, none⟩ (.int .i64 (k' : Int))) w'
theorem escZ_range (c : Int) (h0 : 0 ≤ c) (h1 : c < 256) : 0 ≤ escZ c ∧ escZ c < 256 := by unfold escZ; (repeat' split) <;> omega
theorem qej {acc : List UInt8} {c : Int} {u : UInt8} (h : Bld B b (qaA acc ++ [.int .u8 c]) w) (hu : (u.toNat : Int) = c) : Bld B b (qaA (acc ++ [u])) w := by
 rw [qdf]
 have e : qaA [u] = [.int .u8 c] := by rw [← hu]; rfl
 rw [e]; exact h
theorem grown_new {w0 : World} {row : Option Nat} (h : w0.grownBy w row) {p : Addr} (hp : w0.heap.size ≤ p.block) (v : Value) : w0.grownBy (w.setCell p v) row := by
 obtain ⟨h1, h2, h3, h4, h5⟩ := h
 refine ⟨h1, h2, h3, by simpa [World.setCell] using h4, fun k hk hne => ?_⟩
 rw [← h5 k hk hne]
 exact Below.heap_setCell _ _ _ _ (fun e => by omega)
theorem setCell_same {i : Nat} {v : Value} (h : w.cell? ⟨b, i, none⟩ = some v) : w.setCell ⟨b, i, none⟩ v = w := by
 have e : (w.setCell ⟨b, i, none⟩ v).heap = w.heap := by
  apply Array.ext_getElem?
  intro j
  by_cases hj : b = j
  · subst hj
    unfold World.cell? at h
    unfold World.setCell
    simp only [Array.getElem?_modify, if_true]
    cases hb : w.heap[b]? with
    | none => rfl
    | some o =>
     rw [hb] at h
     cases o with
     | cells c t fr =>
      have hi : c[i]? = some v := by simpa using h
      obtain ⟨hlt, hv⟩ := Array.getElem?_eq_some_iff.1 hi
      have hs : c.setIfInBounds i v = c := by
       apply Array.ext_getElem?
       intro q
       rw [Array.getElem?_setIfInBounds]
       by_cases h3 : i = q
       · subst h3; rw [if_pos rfl, if_pos hlt, hi]
       · rw [if_neg h3]
      simp [hs]
     | _ => first | (simp at h; done) | cases h
  · exact Below.heap_setCell _ _ _ _ (fun e => hj e.symm)
 unfold World.setCell at e ⊢
 simp only at e
 rw [e]
attribute [go_sem] setCell_same
def TokBlk (N : Nat) (w : World) : Prop := w.heap[N]? = some (.cells #[.int .i64 0, .int .i64 0, .string ⟨#[]⟩, .int .i64 0] 100 (0, 0))
theorem TokBlk.cells (h : TokBlk N w) : w.cell? ⟨N, 0, none⟩ = some (.int .i64 0) ∧ w.cell? ⟨N, 1, none⟩ = some (.int .i64 0) ∧ w.cell? ⟨N, 2, none⟩ = some (.string ⟨#[]⟩) ∧ w.cell? ⟨N, 3, none⟩ = some (.int .i64 0) ∧ (∀ o, w.frozen? ⟨N, o, none⟩ = false) ∧ N < w.heap.size := by
 unfold TokBlk at h
 refine ⟨by simp [World.cell?, h], by simp [World.cell?, h], by simp [World.cell?, h], by simp [World.cell?, h], fun o => by simp [World.frozen?, h], ?_⟩
 exact (Array.getElem?_eq_some_iff.1 h).1
theorem TokBlk.start (h : w.heap.size = N) (o : Obj) : TokBlk N ((w.alloc (.cells #[.int .i64 0, .int .i64 0, .string ⟨#[]⟩, .int .i64 0] 100)).alloc o) := by
 subst h
 unfold TokBlk
 rw [Lib.alloc_old _ o _ zan]
 exact heap_alloc_new _ _
theorem TokBlk.below {w' : World} (h : TokBlk N w) (hb : Below B w w') (hN : N < B) : TokBlk N w' := by
 unfold TokBlk; rw [hb.block N hN]; exact h
theorem TokBlk.set (h : TokBlk N w) {p : Addr} (hp : p.block ≠ N) (v : Value) : TokBlk N (w.setCell p v) := by
 unfold TokBlk; rw [Below.heap_setCell _ _ _ _ (fun e => hp e.symm)]; exact h
theorem TokBlk.more (h : TokBlk N w) (d : Nat) (os : Array Obj) : TokBlk N (more w d os) := by
 unfold TokBlk; rw [more_heap _ _ _ _ h.cells.2.2.2.2.2]; exact h
theorem bld_set {b0 i : Nat} {bs : List Value} (h : Bld B b bs w) (hb : b0 < B) (v : Value) : Bld B b bs (w.setCell ⟨b0, i, none⟩ v) := bld_kept h (qbr (grown_refl w _) i v) hb
theorem qfj {bs : List Value} (h : Bld B b bs w) (d : Nat) (os : Array Obj) : Bld B b bs (more w d os) := bld_ext h (Ext.more (Ext.refl _) _ _)
theorem text_any (b : Nat) (s : ByteArray) (k n : Nat) (lv : Value) (hk : k < s.size) (hs : s.size ≤ 140737488351232) (r : Tok) (e : Int) (hr : textG (s.data.toList.drop (k + 1)) [] = (r, n, e)) (w : World) (h : LexAt b s k lv w) :
  Calls Tryz.prog 75 #[.pointer (some ⟨b, 0, none⟩)] w (TextPost b k n r e w) := by
 have HL := Lib.hid h
 have HR := Lib.hid hr
 have hbw := h.lt
 obtain ⟨c0, c1, c2, f1, f2⟩ := h.cells
 have HSZ := Lib.hid hs
 have hs3 : s.size ≤ maxLen := by unfold maxLen; omega
 unfold maxLen at hs3
 clear h hr hs
 go_enter Tryz.func75, Tryz.ntmps75
 go_wp2_with fail
 clear c0 c1 c2 f1 f2
 go_loopg [] (s.size - (k + 1)) (fun g wr => ∃ (m : Nat) (acc : List UInt8) (n' : Nat), k < m ∧ m ≤ s.size ∧ acc.length ≤ m ∧ g = s.size - m ∧ textG (s.data.toList.drop m) acc = (r, n', e) ∧ (e = 0 → m + n' = k + 1 + n) ∧ LexAt b s m lv wr ∧ TokBlk w.heap.size wr ∧ Bld (w.heap.size + 1) (w.heap.size + 1) (qaA acc) wr ∧ w.grownBy wr (some b))
 case atStart =>
  have hsz : (w.setCell ⟨b, 1, none⟩ (.int .i64 ((k : Int) + 1))).heap.size = w.heap.size := by simp [World.setCell]
  refine ⟨k + 1, [], n, by omega, by omega, by simp, rfl, HR.out, fun _ => by omega, ((HL.out.set (k + 1) _ zae).alloc _).alloc _, ?_, ?_, ?_⟩
  · exact TokBlk.start hsz _
  · have h := Lib.fresh_isBuilder 155 5 ((w.setCell ⟨b, 1, none⟩ (.int .i64 ((k : Int) + 1))).alloc (.cells #[.int .i64 0, .int .i64 0, .string ⟨#[]⟩, .int .i64 0] 100))
    have e2 : ((w.setCell ⟨b, 1, none⟩ (.int .i64 ((k : Int) + 1))).alloc (.cells #[.int .i64 0, .int .i64 0, .string ⟨#[]⟩, .int .i64 0] 100)).heap.size = w.heap.size + 1 := by simp [World.setCell]
    rw [e2] at h
    exact h
  · exact qau (qbr (grown_refl _ _) _ _) (((Ext.refl _).alloc _).alloc _)
 case round =>
  obtain ⟨m, acc, n', hkm, hms, hal, hgk, hx, hsn, hL, hT, hB, hg⟩ := hrel
  have HLL := Lib.hid hL
  have HT := Lib.hid hT
  have HB := Lib.hid hB
  have HG := Lib.hid hg
  have HGK := Lib.hid hgk
  have HS := Lib.hid hsn
  obtain ⟨c0, c1, c2, f1, f2⟩ := hL.cells
  have hb := hL.lt
  obtain ⟨t0, t1, t2, t3, tf, ht⟩ := hT.cells
  have hne : (w.heap.size = b) = False := by simp; omega
  have hne2 : (b = w.heap.size) = False := by simp; omega
  clear hL hT hB hg hgk hsn HR
  by_cases hlt : m < s.size
  · have hml : m < s.data.toList.length := by simpa using hlt
    refine ycj ?_; intro hd
    rw [hd] at hx
    have h256 := (s[m]'hlt).toNat_lt
    unfold textG at hx
    by_cases q1 : (s[m]'hlt).toNat = 34
    · rw [if_pos q1] at hx
      by_cases h64 : 64 < acc.length
      · rw [if_pos h64] at hx
        simp only [Prod.mk.injEq, tok0] at hx
        obtain ⟨rfl, rfl, rfl⟩ := hx
        have q1' : (((s[m]'hlt).toNat : Int)) = 34 := by omega
        clear hd hml h256 q1
        go_wp2_with fail
        refine yan ⟨?_⟩
        refine yac ?_
        repeat (refine Lex.step rfl ?_; intro K hK; unfold StepG; go_simp; (first
          | refine hK _ ?_); clear hK K)
        refine yaa ?_; intro dd oo
        go_wp2_with fail
        rw [ends_normal]
        go_wp2_with fail
        refine ybc ⟨?_⟩
        refine yac ?_
        repeat (refine Lex.step rfl ?_; intro K hK; unfold StepG; go_simp; (first
          | refine hK _ ?_); clear hK K)
        refine yaa ?_; intro dd oo
        go_wp2_with fail
        rw [ends_normal]
        go_wp2_with (go_at_call 104; refine (Tryz.Builder_Len (w.heap.size + 1) (w.heap.size + 1) (qaA acc) _ zbf).mono ?_; rw [cellsB_length]; rintro e _ ⟨rfl, rfl⟩)
        refine bodyPost_ret (v := .tuple #[.agg #[.int .i64 0, .int .i64 0, .string ⟨#[]⟩, .int .i64 0], .int .i64 5]) zbn rfl ?_
        refine ⟨rfl, (m + 1), fun h => absurd h zal, ?_⟩
        exact lex_form HL.out (k' := (m + 1)) zaj zak
      · rw [if_neg h64] at hx
        simp only [Prod.mk.injEq] at hx
        obtain ⟨rfl, rfl, rfl⟩ := hx
        have q1' : (((s[m]'hlt).toNat : Int)) = 34 := by omega
        have h64' : ((acc.length : Int) ≤ 64) := by omega
        clear hd hml h256 q1
        go_wp2_with fail
        refine yan ⟨?_⟩
        refine yac ?_
        repeat (refine Lex.step rfl ?_; intro K hK; unfold StepG; go_simp; (first
          | refine hK _ ?_); clear hK K)
        refine yaa ?_; intro dd oo
        go_wp2_with fail
        rw [ends_normal]
        go_wp2_with fail
        refine ybc ⟨?_⟩
        refine yac ?_
        repeat (refine Lex.step rfl ?_; intro K hK; unfold StepG; go_simp; (first
          | refine hK _ ?_); clear hK K)
        refine yaa ?_; intro dd oo
        go_wp2_with fail
        rw [ends_normal]
        go_wp2_with (go_at_call 104; refine (Tryz.Builder_Len (w.heap.size + 1) (w.heap.size + 1) (qaA acc) _ zbf).mono ?_; rw [cellsB_length]; rintro e _ ⟨rfl, rfl⟩)
        refine (Tryz.Builder_String_any (w.heap.size + 1) (w.heap.size + 1) acc _ (show Bld (w.heap.size + 1) (w.heap.size + 1) (qaA acc) _ from zbf) (by simp only [more_size, World.setCell, Array.size_modify]; omega)).mono ?_
        rintro e w2 ⟨rfl, hbl⟩
        have hL1 := LexAt.below (k := (m + 1)) zaj hbl zae
        have hT1 := TokBlk.below (N := w.heap.size) (by repeat (first | (with_reducible exact HT.out) | (with_reducible apply TokBlk.more) | ((with_reducible refine TokBlk.set ?_ ?_ _); rotate_left; (show b ≠ w.heap.size; omega)))) hbl zae
        have hG1 := qcI (w := w) (row := some b) zak (hbl.mono zae)
        clear c0 c1 c2 f1 f2 t0 t1 t2 t3 tf ht
        obtain ⟨c0, c1, c2, f1, f2⟩ := hL1.cells
        have hb1 := hL1.lt
        obtain ⟨t0, t1, t2, t3, tf, ht⟩ := hT1.cells
        have HL1 := Lib.hid hL1
        have HT1 := Lib.hid hT1
        have HG1 := Lib.hid hG1
        clear hbl hL1 hT1 hG1
        go_wp2_with fail
        refine bodyPost_ret (v := .tuple #[.agg #[.int .i64 3, .int .i64 0, .string ⟨acc.toArray⟩, .int .i64 0], .int .i64 0]) (by simp [results, Tryz.results75, t0, t1, t2, t3, tf, hne, hne2, ht, hb1, go_sem]) rfl ?_
        refine ⟨rfl, (m + 1), fun _ => by have := HS.out (by trivial); omega, ?_⟩
        exact lex_form HL.out (k' := (m + 1)) (by repeat (first | (with_reducible exact HL1.out) | (with_reducible apply LexAt.more) | (with_reducible apply LexAt.alloc) | ((with_reducible refine LexAt.other ?_ ?_ _); rotate_left; (show w.heap.size ≠ b; omega)) | ((with_reducible refine LexAt.set HL1.out _ _ ?_); omega))) zbe
    · rw [if_neg q1] at hx
      have p1 : (((s[m]'hlt).toNat : Int) == 34) = false := by simp; omega
      by_cases q2 : (s[m]'hlt).toNat < 32 ∨ 126 < (s[m]'hlt).toNat
      · rw [if_pos q2] at hx
        simp only [Prod.mk.injEq, tok0] at hx
        obtain ⟨rfl, rfl, rfl⟩ := hx
        clear hd hml h256 q1
        rcases q2 with q2 | q2
        · have q3 : (((s[m]'hlt).toNat : Int) < 32) = True := by simp; omega
          clear q2
          go_wp2_with fail
          refine yan ⟨?_⟩
          refine yac ?_
          repeat (refine Lex.step rfl ?_; intro K hK; unfold StepG; go_simp; (first
            | refine hK _ ?_); clear hK K)
          refine yaa ?_; intro dd oo
          go_wp2_with fail
          rw [ends_normal]
          go_wp2_with fail
          refine ybc ⟨?_⟩
          refine yac ?_
          repeat (refine Lex.step rfl ?_; intro K hK; unfold StepG; go_simp; (first
            | refine hK _ ?_); clear hK K)
          refine yaa ?_; intro dd oo
          go_wp2_with fail
          rw [ends_normal]
          go_wp2_with fail
          refine bodyPost_ret (v := .tuple #[.agg #[.int .i64 0, .int .i64 0, .string ⟨#[]⟩, .int .i64 0], .int .i64 3]) zbn rfl ?_
          refine ⟨rfl, m, fun h => absurd h zal, ?_⟩
          exact lex_form HL.out (k' := m) zaj zak
        · have q3 : (((s[m]'hlt).toNat : Int) < 32) = False := by simp; omega
          have q4 : (126 < ((s[m]'hlt).toNat : Int)) = True := by simp; omega
          clear q2
          go_wp2_with fail
          refine yan ⟨?_⟩
          refine yac ?_
          repeat (refine Lex.step rfl ?_; intro K hK; unfold StepG; go_simp; (first
            | refine hK _ ?_); clear hK K)
          refine yaa ?_; intro dd oo
          go_wp2_with fail
          rw [ends_normal]
          go_wp2_with fail
          refine ybc ⟨?_⟩
          refine yac ?_
          repeat (refine Lex.step rfl ?_; intro K hK; unfold StepG; go_simp; (first
            | refine hK _ ?_); clear hK K)
          refine yaa ?_; intro dd oo
          go_wp2_with fail
          rw [ends_normal]
          go_wp2_with fail
          refine bodyPost_ret (v := .tuple #[.agg #[.int .i64 0, .int .i64 0, .string ⟨#[]⟩, .int .i64 0], .int .i64 3]) zbn rfl ?_
          refine ⟨rfl, m, fun h => absurd h zal, ?_⟩
          exact lex_form HL.out (k' := m) zaj zak
      · rw [if_neg q2] at hx
        have q3 : (((s[m]'hlt).toNat : Int) < 32) = False := by simp; omega
        have q4 : (126 < ((s[m]'hlt).toNat : Int)) = False := by simp; omega
        by_cases q5 : (s[m]'hlt).toNat = 92
        · have q6 : (((s[m]'hlt).toNat : Int) == 92) = true := by simp; omega
          have q7 : (((s[m]'hlt).toNat : Int) != 92) = false := by simp; omega
          rw [if_neg zae] at hx
          by_cases hl2 : m + 1 < s.size
          · have hd2 : s.data.toList.drop (m + 1) = s[m + 1]'hl2 :: s.data.toList.drop (m + 1 + 1) := List.drop_eq_getElem_cons (by simpa using hl2)
            rw [hd2] at hx
            dsimp only at hx
            have h256b := (s[m + 1]'hl2).toNat_lt
            have es := esc_any ((s[m + 1]'hl2).toNat : Int) zae zae
            have er := escZ_range ((s[m + 1]'hl2).toNat : Int) zae zae
            have hle : (((m : Int) + 1) == (s.size : Int)) = false := by simp; omega
            by_cases hz : escZ ((s[m + 1]'hl2).toNat : Int) = 0
            · rw [if_pos hz] at hx
              simp only [Prod.mk.injEq, tok0] at hx
              obtain ⟨rfl, rfl, rfl⟩ := hx
              rw [hz] at es
              have ES := Lib.hid es
              clear hd hml h256 q1 q2 q5 hd2 h256b es er hz
              go_wp2_with fail
              refine yan ⟨?_⟩
              refine yac ?_
              repeat (refine Lex.step rfl ?_; intro K hK; unfold StepG; go_simp; (first
                | refine hK _ ?_); clear hK K)
              refine yaa ?_; intro dd oo
              go_wp2_with fail
              rw [ends_normal]
              go_wp2_with fail
              refine ybc ⟨?_⟩
              refine yac ?_
              repeat (refine Lex.step rfl ?_; intro K hK; unfold StepG; go_simp; (first
                | refine hK _ ?_); clear hK K)
              refine yaa ?_; intro dd oo
              go_wp2_with fail
              rw [ends_normal]
              go_wp2_with fail
              refine yan ⟨?_⟩
              refine yac ?_
              repeat (refine Lex.step rfl ?_; intro K hK; unfold StepG; go_simp; (first
                | refine hK _ ?_); clear hK K)
              refine yaa ?_; intro dd oo
              go_wp2_with fail
              rw [ends_normal]
              go_wp2_with fail
              refine ybc ⟨?_⟩
              refine yac ?_
              repeat (refine Lex.step rfl ?_; intro K hK; unfold StepG; go_simp; (first
                | refine hK _ ?_); clear hK K)
              refine yaa ?_; intro dd oo
              go_wp2_with (go_at_call 107; refine (ES.out _).mono ?_; rintro e _ ⟨rfl, rfl⟩)
              rw [ends_normal]
              go_wp2_with fail
              refine bodyPost_ret (v := .tuple #[.agg #[.int .i64 0, .int .i64 0, .string ⟨#[]⟩, .int .i64 0], .int .i64 3]) zbn rfl ?_
              refine ⟨rfl, (m + 1), fun h => absurd h zal, ?_⟩
              exact lex_form HL.out (k' := (m + 1)) zaj zak
            · rw [if_neg hz] at hx
              obtain ⟨r1, n1, e1, hx1⟩ : ∃ r1 n1 e1, textG (s.data.toList.drop (m + 1 + 1)) (acc ++ [UInt8.ofNat (escZ ((s[m + 1]'hl2).toNat : Int)).toNat]) = (r1, n1, e1) := ⟨_, _, _, rfl⟩
              rw [hx1] at hx
              simp only [Prod.mk.injEq] at hx
              obtain ⟨rfl, rfl, rfl⟩ := hx
              obtain ⟨z, hzz⟩ : ∃ z, escZ ((s[m + 1]'hl2).toNat : Int) = z := ⟨_, rfl⟩
              rw [hzz] at es er hz hx1
              have ES := Lib.hid es
              have HX1 := Lib.hid hx1
              have hz' : (z == 0) = false := by simpa using hz
              clear hd hml h256 q1 q2 q5 hd2 h256b es hz hzz hx1
              go_wp2_with fail
              refine yan ⟨?_⟩
              refine yac ?_
              repeat (refine Lex.step rfl ?_; intro K hK; unfold StepG; go_simp; (first
                | refine hK _ ?_); clear hK K)
              refine yaa ?_; intro dd oo
              go_wp2_with fail
              rw [ends_normal]
              go_wp2_with fail
              refine ybc ⟨?_⟩
              refine yac ?_
              repeat (refine Lex.step rfl ?_; intro K hK; unfold StepG; go_simp; (first
                | refine hK _ ?_); clear hK K)
              refine yaa ?_; intro dd oo
              go_wp2_with fail
              rw [ends_normal]
              go_wp2_with fail
              refine yan ⟨?_⟩
              refine yac ?_
              repeat (refine Lex.step rfl ?_; intro K hK; unfold StepG; go_simp; (first
                | refine hK _ ?_); clear hK K)
              refine yaa ?_; intro dd oo
              go_wp2_with fail
              rw [ends_normal]
              go_wp2_with fail
              refine ybc ⟨?_⟩
              refine yac ?_
              repeat (refine Lex.step rfl ?_; intro K hK; unfold StepG; go_simp; (first
                | refine hK _ ?_); clear hK K)
              refine yaa ?_; intro dd oo
              go_wp2_with (go_at_call 107; refine (ES.out _).mono ?_; rintro e _ ⟨rfl, rfl⟩)
              rw [ends_normal]
              go_wp2_with fail
              refine (qaw (w.heap.size + 1) (w.heap.size + 1) (qaA acc) z _ zbf (by rw [cellsB_length]; have := HSZ.out; omega) (by simp only [more_size, World.setCell, Array.size_modify]; omega)).mono ?_
              rintro e w2 ⟨rfl, hB1, hbl⟩
              have HB1 := Lib.hid hB1
              clear hB1
              have hL1 := LexAt.below (k := (m + 1)) zaj hbl zae
              have hT1 := TokBlk.below (N := w.heap.size) (by repeat (first | (with_reducible exact HT.out) | (with_reducible apply TokBlk.more) | ((with_reducible refine TokBlk.set ?_ ?_ _); rotate_left; (show b ≠ w.heap.size; omega)))) hbl zae
              have hG1 := qcI (w := w) (row := some b) zak (hbl.mono zae)
              clear c0 c1 c2 f1 f2 t0 t1 t2 t3 tf ht
              obtain ⟨c0, c1, c2, f1, f2⟩ := hL1.cells
              have hb1 := hL1.lt
              obtain ⟨t0, t1, t2, t3, tf, ht⟩ := hT1.cells
              have HL1 := Lib.hid hL1
              have HT1 := Lib.hid hT1
              have HG1 := Lib.hid hG1
              clear hbl hL1 hT1 hG1
              go_wp2_with fail
              go_roundg (s.size - (m + 1 + 1))
              case measure => have := HGK.out; omega
              case rel => exact ⟨(m + 1 + 1), acc ++ [(UInt8.ofNat z.toNat)], n1, by omega, by omega, by simp; omega, rfl, HX1.out, fun h => by have := HS.out h; omega, (by repeat (first | (with_reducible exact HL1.out) | ((with_reducible refine LexAt.set HL1.out _ _ ?_); omega) | (with_reducible apply LexAt.more))), (by repeat (first | (with_reducible exact HT1.out) | (with_reducible apply TokBlk.more) | ((with_reducible refine TokBlk.set ?_ ?_ _); rotate_left; (show b ≠ w.heap.size; omega)))), qej (by repeat (first | (with_reducible exact HB1.out) | (with_reducible apply qfj) | ((with_reducible refine bld_set ?_ ?_ _); rotate_left; omega))) (by first | rfl | (simp; omega)), zbe⟩
          · have hnil : s.data.toList.drop (m + 1) = [] := by apply List.drop_eq_nil_of_le; simp; omega
            rw [hnil] at hx
            simp only [Prod.mk.injEq, tok0] at hx
            obtain ⟨rfl, rfl, rfl⟩ := hx
            have hle : (((m : Int) + 1) == (s.size : Int)) = true := by simp; omega
            clear hd hml h256 q1 q2 q5 hnil
            go_wp2_with fail
            refine yan ⟨?_⟩
            refine yac ?_
            repeat (refine Lex.step rfl ?_; intro K hK; unfold StepG; go_simp; (first
              | refine hK _ ?_); clear hK K)
            refine yaa ?_; intro dd oo
            go_wp2_with fail
            rw [ends_normal]
            go_wp2_with fail
            refine ybc ⟨?_⟩
            refine yac ?_
            repeat (refine Lex.step rfl ?_; intro K hK; unfold StepG; go_simp; (first
              | refine hK _ ?_); clear hK K)
            refine yaa ?_; intro dd oo
            go_wp2_with fail
            rw [ends_normal]
            go_wp2_with fail
            refine yan ⟨?_⟩
            refine yac ?_
            repeat (refine Lex.step rfl ?_; intro K hK; unfold StepG; go_simp; (first
              | refine hK _ ?_); clear hK K)
            refine yaa ?_; intro dd oo
            go_wp2_with fail
            rw [ends_normal]
            go_wp2_with fail
            refine bodyPost_ret (v := .tuple #[.agg #[.int .i64 0, .int .i64 0, .string ⟨#[]⟩, .int .i64 0], .int .i64 2]) zbn rfl ?_
            refine ⟨rfl, (m + 1), fun h => absurd h zal, ?_⟩
            exact lex_form HL.out (k' := (m + 1)) zaj zak
        · have q6 : (((s[m]'hlt).toNat : Int) == 92) = false := by simp; omega
          have q7 : (((s[m]'hlt).toNat : Int) != 92) = true := by simp; omega
          rw [if_pos q5] at hx
          obtain ⟨r1, n1, e1, hx1⟩ : ∃ r1 n1 e1, textG (s.data.toList.drop (m + 1)) (acc ++ [s[m]'hlt]) = (r1, n1, e1) := ⟨_, _, _, rfl⟩
          rw [hx1] at hx
          simp only [Prod.mk.injEq] at hx
          obtain ⟨rfl, rfl, rfl⟩ := hx
          have HX1 := Lib.hid hx1
          clear hd hml h256 q1 q2 q5 hx1
          go_wp2_with fail
          refine yan ⟨?_⟩
          refine yac ?_
          repeat (refine Lex.step rfl ?_; intro K hK; unfold StepG; go_simp; (first
            | refine hK _ ?_); clear hK K)
          refine yaa ?_; intro dd oo
          go_wp2_with fail
          rw [ends_normal]
          go_wp2_with fail
          refine ybc ⟨?_⟩
          refine yac ?_
          repeat (refine Lex.step rfl ?_; intro K hK; unfold StepG; go_simp; (first
            | refine hK _ ?_); clear hK K)
          refine yaa ?_; intro dd oo
          go_wp2_with fail
          rw [ends_normal]
          go_wp2_with fail
          refine (qaw (w.heap.size + 1) (w.heap.size + 1) (qaA acc) ((s[m]'hlt).toNat : Int) _ zbf (by rw [cellsB_length]; have := HSZ.out; omega) (by simp only [more_size, World.setCell, Array.size_modify]; omega)).mono ?_
          rintro e w2 ⟨rfl, hB1, hbl⟩
          have HB1 := Lib.hid hB1
          clear hB1
          have hL1 := LexAt.below (k := m) zaj hbl zae
          have hT1 := TokBlk.below (N := w.heap.size) (by repeat (first | (with_reducible exact HT.out) | (with_reducible apply TokBlk.more) | ((with_reducible refine TokBlk.set ?_ ?_ _); rotate_left; (show b ≠ w.heap.size; omega)))) hbl zae
          have hG1 := qcI (w := w) (row := some b) zak (hbl.mono zae)
          clear c0 c1 c2 f1 f2 t0 t1 t2 t3 tf ht
          obtain ⟨c0, c1, c2, f1, f2⟩ := hL1.cells
          have hb1 := hL1.lt
          obtain ⟨t0, t1, t2, t3, tf, ht⟩ := hT1.cells
          have HL1 := Lib.hid hL1
          have HT1 := Lib.hid hT1
          have HG1 := Lib.hid hG1
          clear hbl hL1 hT1 hG1
          go_wp2_with fail
          go_roundg (s.size - (m + 1))
          case measure => have := HGK.out; omega
          case rel => exact ⟨(m + 1), acc ++ [(s[m]'hlt)], n1, by omega, by omega, by simp; omega, rfl, HX1.out, fun h => by have := HS.out h; omega, (by repeat (first | (with_reducible exact HL1.out) | ((with_reducible refine LexAt.set HL1.out _ _ ?_); omega) | (with_reducible apply LexAt.more))), (by repeat (first | (with_reducible exact HT1.out) | (with_reducible apply TokBlk.more) | ((with_reducible refine TokBlk.set ?_ ?_ _); rotate_left; (show b ≠ w.heap.size; omega)))), qej (by repeat (first | (with_reducible exact HB1.out) | (with_reducible apply qfj) | ((with_reducible refine bld_set ?_ ?_ _); rotate_left; omega))) (by first | rfl | (simp; omega)), zbe⟩
  · have hme : m = s.size := by omega
    have hnil : s.data.toList.drop m = [] := by apply List.drop_eq_nil_of_le; simp; omega
    rw [hnil] at hx
    unfold textG at hx
    simp only [Prod.mk.injEq, tok0] at hx
    obtain ⟨rfl, rfl, rfl⟩ := hx
    clear hnil
    have hlt' : ((m : Int) < s.size) = False := by simp; omega
    clear hme
    go_wp2_with fail
    refine yan ⟨?_⟩
    refine yac ?_
    repeat (refine Lex.step rfl ?_; intro K hK; unfold StepG; go_simp; (first
      | refine hK _ ?_); clear hK K)
    refine yaa ?_; intro dd oo
    go_wp2_with fail
    rw [ends_normal]
    go_wp2_with fail
    refine bodyPost_ret (v := .tuple #[.agg #[.int .i64 0, .int .i64 0, .string ⟨#[]⟩, .int .i64 0], .int .i64 2]) zbn rfl ?_
    refine ⟨rfl, m, fun h => absurd h zal, ?_⟩
    exact lex_form HL.out (k' := m) zaj zak
end Go.Proofs.YtpoeknndkccbaaaGreat

namespace Go.Proofs.YtpoeknndkccbaaaGreat
open Go.RowKit
theorem next_end (b : Nat) (s : ByteArray) (k n : Nat) (lv : Value) (hk : k ≤ s.size) (hs : s.size ≤ maxLen) (hn : skipL false (s.data.toList.drop k) = n) (hlt : k + n = s.size) (w : World) (h : LexAt b s k lv w) :
  Calls Tryz.prog 47 #[.pointer (some ⟨b, 0, none⟩)] w fun e' w' => e' = .returned (.tuple #[tokV tok0 0, .int .i64 0, .bool false]) ∧ Ext (w.setCell ⟨b, 1, none⟩ (.int .i64 ((k + n : Nat) : Int))) w' := by
 have HL := Lib.hid h
 have C := Lib.hid (qeq b s k n lv hk hs hn)
 have hb := h.lt
 obtain ⟨c0, c1, c2, f1, f2⟩ := h.cells
 unfold maxLen at hs
 clear h hn
 have hle : (((k : Int) + n) == (s.size : Int)) = true := by simp; omega
 unfold tokV tok0
 go_enter Tryz.func47, Tryz.ntmps47
 go_wp2_with (go_at_call 69; refine (C.out _ zbq).mono ?_; rintro e _ ⟨rfl, d, os, rfl⟩)
 refine ycm ⟨?_⟩
 refine yac ?_
 repeat (refine Lex.step rfl ?_; intro K hK; unfold StepG; go_simp; (first
   | refine hK _ ?_); clear hK K)
 refine yaa ?_; intro dd oo
 go_wp2_with fail
 rw [ends_normal]
 go_wp2_with fail
 refine bodyPost_ret (v := .tuple #[.agg #[.int .i64 0, .int .i64 0, .string ⟨#[]⟩, .int .i64 0], .int .i64 0, .bool false]) zbx rfl ?_
 refine ⟨rfl, ?_⟩
 rw [hlt]
 repeat (first | exact Ext.refl _ | apply Ext.alloc | apply Ext.more)
def qbI (b K : Nat) (r : Tok) (e : Int) (w : World) (e' : Ending) (w' : World) : Prop :=
 e' = .returned (.tuple #[.agg #[.int .i64 r.k, .int .i64 0, .string r.s, .int .i64 r.i], .int .i64 e]) ∧ ∃ k' : Nat, (e = 0 → k' = K) ∧ Ext (w.setCell ⟨b, 1, none⟩ (.int .i64 (k' : Int))) w'
def qcN (b A K : Nat) (r : Tok) (e : Int) (w : World) (e' : Ending) (w' : World) : Prop :=
 e' = .returned (.tuple #[.agg #[.int .i64 r.k, .int .i64 (A : Int), .string r.s, .int .i64 r.i], .int .i64 e, .bool true]) ∧ ∃ k' : Nat, (e = 0 → k' = K) ∧ Ext (w.setCell ⟨b, 1, none⟩ (.int .i64 (k' : Int))) w'
theorem next_name (b : Nat) (s : ByteArray) (k n : Nat) (lv : Value) (hk : k ≤ s.size) (hs : s.size ≤ maxLen) (hn : skipL false (s.data.toList.drop k) = n) (hlt : k + n < s.size) (hc : qat ((s[k + n]'hlt).toNat : Int) = true) (K : Nat) (r : Tok) (e : Int)
  (T : RowKit.Hid (∀ w, LexAt b s (k + n) lv w → Calls Tryz.prog 72 #[.pointer (some ⟨b, 0, none⟩)] w (qbI b K r e w))) (w : World) (h : LexAt b s k lv w) :
  Calls Tryz.prog 47 #[.pointer (some ⟨b, 0, none⟩)] w (qcN b (k + n) K r e w) := by
 have HL := Lib.hid h
 have C := Lib.hid (qeq b s k n lv hk hs hn)
 have hb := h.lt
 obtain ⟨c0, c1, c2, f1, f2⟩ := h.cells
 unfold maxLen at hs
 clear h hn
 have hle : (((k : Int) + n) == (s.size : Int)) = false := by simp; omega
 have h256 := (s[k + n]'hlt).toNat_lt
 have le := qaY ((s[k + n]'hlt).toNat : Int) zae zae
 rw [hc] at le
 have LE := Lib.hid le
 clear le hc
 clear h256
 have hz : ((k : Int) + n < s.size) := by omega
 go_enter Tryz.func47, Tryz.ntmps47
 go_wp2_with (go_at_call 69; refine (C.out _ zbq).mono ?_; rintro e _ ⟨rfl, d, os, rfl⟩)
 refine ycm ⟨?_⟩
 refine yac ?_
 repeat (refine Lex.step rfl ?_; intro K hK; unfold StepG; go_simp; (first
   | refine hK _ ?_); clear hK K)
 refine yaa ?_; intro dd oo
 go_wp2_with fail
 rw [ends_normal]
 go_wp2_with fail
 refine qaa 8 62 [false, false, false, false, false, false, false, false] zad zad rfl ?_
 refine yac ?_
 repeat (refine Lex.step rfl ?_; intro K hK; unfold StepG; go_simp; (first
   | refine hK _ ?_); clear hK K)
 refine yaa ?_; intro dd oo
 go_wp2_with (go_at_call 71; refine (LE.out _).mono ?_; rintro e _ ⟨rfl, rfl⟩)
 first | rw [ends_normal] | skip
 go_wp2_with (go_at_call 71; refine (LE.out _).mono ?_; rintro e _ ⟨rfl, rfl⟩)
 refine (T.out _ zbr).mono ?_
 rintro e _ ⟨rfl, k2, hk2, d3, os3, rfl⟩
 have HK2 := Lib.hid hk2
 clear hk2
 go_wp2_with fail
 refine yby ⟨?_⟩
 exact ⟨rfl, k2, HK2.out, zac⟩
theorem next_number (b : Nat) (s : ByteArray) (k n : Nat) (lv : Value) (hk : k ≤ s.size) (hs : s.size ≤ maxLen) (hn : skipL false (s.data.toList.drop k) = n) (hlt : k + n < s.size) (hc : qat ((s[k + n]'hlt).toNat : Int) = false) (hd : qaj ((s[k + n]'hlt).toNat : Int) = true) (K : Nat) (r : Tok) (e : Int)
  (T : RowKit.Hid (∀ w, LexAt b s (k + n) lv w → Calls Tryz.prog 74 #[.pointer (some ⟨b, 0, none⟩)] w (qbI b K r e w))) (w : World) (h : LexAt b s k lv w) :
  Calls Tryz.prog 47 #[.pointer (some ⟨b, 0, none⟩)] w (qcN b (k + n) K r e w) := by
 have HL := Lib.hid h
 have C := Lib.hid (qeq b s k n lv hk hs hn)
 have hb := h.lt
 obtain ⟨c0, c1, c2, f1, f2⟩ := h.cells
 unfold maxLen at hs
 clear h hn
 have hle : (((k : Int) + n) == (s.size : Int)) = false := by simp; omega
 have h256 := (s[k + n]'hlt).toNat_lt
 have le := qaY ((s[k + n]'hlt).toNat : Int) zae zae
 rw [hc] at le
 have LE := Lib.hid le
 clear le hc
 have de := qcn ((s[k + n]'hlt).toNat : Int) zae zae
 rw [hd] at de
 have DE := Lib.hid de
 clear de hd
 clear h256
 have hz : ((k : Int) + n < s.size) := by omega
 go_enter Tryz.func47, Tryz.ntmps47
 go_wp2_with (go_at_call 69; refine (C.out _ zbq).mono ?_; rintro e _ ⟨rfl, d, os, rfl⟩)
 refine ycm ⟨?_⟩
 refine yac ?_
 repeat (refine Lex.step rfl ?_; intro K hK; unfold StepG; go_simp; (first
   | refine hK _ ?_); clear hK K)
 refine yaa ?_; intro dd oo
 go_wp2_with fail
 rw [ends_normal]
 go_wp2_with fail
 refine qaa 8 62 [false, false, false, false, false, false, false, false] zad zad rfl ?_
 refine yac ?_
 repeat (refine Lex.step rfl ?_; intro K hK; unfold StepG; go_simp; (first
   | refine hK _ ?_); clear hK K)
 refine yaa ?_; intro dd oo
 go_wp2_with (first
  | (go_at_call 71; refine (LE.out _).mono ?_; rintro e _ ⟨rfl, rfl⟩)
  | (go_at_call 73; refine (DE.out _).mono ?_; rintro e _ ⟨rfl, rfl⟩))
 first | rw [ends_normal] | skip
 go_wp2_with (first
  | (go_at_call 71; refine (LE.out _).mono ?_; rintro e _ ⟨rfl, rfl⟩)
  | (go_at_call 73; refine (DE.out _).mono ?_; rintro e _ ⟨rfl, rfl⟩))
 refine (T.out _ zbr).mono ?_
 rintro e _ ⟨rfl, k2, hk2, d3, os3, rfl⟩
 have HK2 := Lib.hid hk2
 clear hk2
 go_wp2_with fail
 refine yby ⟨?_⟩
 exact ⟨rfl, k2, HK2.out, zac⟩
theorem next_text (b : Nat) (s : ByteArray) (k n : Nat) (lv : Value) (hk : k ≤ s.size) (hs : s.size ≤ maxLen) (hn : skipL false (s.data.toList.drop k) = n) (hlt : k + n < s.size) (hc : qat ((s[k + n]'hlt).toNat : Int) = false) (hd : qaj ((s[k + n]'hlt).toNat : Int) = false) (hq : (((s[k + n]'hlt).toNat : Int) == 34) = true) (K : Nat) (r : Tok) (e : Int)
  (T : RowKit.Hid (∀ w, LexAt b s (k + n) lv w → Calls Tryz.prog 75 #[.pointer (some ⟨b, 0, none⟩)] w (qbI b K r e w))) (w : World) (h : LexAt b s k lv w) :
  Calls Tryz.prog 47 #[.pointer (some ⟨b, 0, none⟩)] w (qcN b (k + n) K r e w) := by
 have HL := Lib.hid h
 have C := Lib.hid (qeq b s k n lv hk hs hn)
 have hb := h.lt
 obtain ⟨c0, c1, c2, f1, f2⟩ := h.cells
 unfold maxLen at hs
 clear h hn
 have hle : (((k : Int) + n) == (s.size : Int)) = false := by simp; omega
 have h256 := (s[k + n]'hlt).toNat_lt
 have le := qaY ((s[k + n]'hlt).toNat : Int) zae zae
 rw [hc] at le
 have LE := Lib.hid le
 clear le hc
 have de := qcn ((s[k + n]'hlt).toNat : Int) zae zae
 rw [hd] at de
 have DE := Lib.hid de
 clear de hd
 clear h256
 have hz : ((k : Int) + n < s.size) := by omega
 go_enter Tryz.func47, Tryz.ntmps47
 go_wp2_with (go_at_call 69; refine (C.out _ zbq).mono ?_; rintro e _ ⟨rfl, d, os, rfl⟩)
 refine ycm ⟨?_⟩
 refine yac ?_
 repeat (refine Lex.step rfl ?_; intro K hK; unfold StepG; go_simp; (first
   | refine hK _ ?_); clear hK K)
 refine yaa ?_; intro dd oo
 go_wp2_with fail
 rw [ends_normal]
 go_wp2_with fail
 refine qaa 8 62 [false, false, false, false, false, false, false, false] zad zad rfl ?_
 refine yac ?_
 repeat (refine Lex.step rfl ?_; intro K hK; unfold StepG; go_simp; (first
   | refine hK _ ?_); clear hK K)
 refine yaa ?_; intro dd oo
 go_wp2_with (first
  | (go_at_call 71; refine (LE.out _).mono ?_; rintro e _ ⟨rfl, rfl⟩)
  | (go_at_call 73; refine (DE.out _).mono ?_; rintro e _ ⟨rfl, rfl⟩))
 first | rw [ends_normal] | skip
 go_wp2_with (first
  | (go_at_call 71; refine (LE.out _).mono ?_; rintro e _ ⟨rfl, rfl⟩)
  | (go_at_call 73; refine (DE.out _).mono ?_; rintro e _ ⟨rfl, rfl⟩))
 refine (T.out _ zbr).mono ?_
 rintro e _ ⟨rfl, k2, hk2, d3, os3, rfl⟩
 have HK2 := Lib.hid hk2
 clear hk2
 go_wp2_with fail
 refine yby ⟨?_⟩
 exact ⟨rfl, k2, HK2.out, zac⟩
theorem next_sign (b : Nat) (s : ByteArray) (k n : Nat) (lv : Value) (hk : k ≤ s.size) (hs : s.size ≤ maxLen) (hn : skipL false (s.data.toList.drop k) = n) (hlt : k + n < s.size) (hc : qat ((s[k + n]'hlt).toNat : Int) = false) (hd : qaj ((s[k + n]'hlt).toNat : Int) = false) (hq : (((s[k + n]'hlt).toNat : Int) == 34) = false) (K : Nat) (r : Tok) (e : Int)
  (T : RowKit.Hid (∀ w, LexAt b s (k + n) lv w → Calls Tryz.prog 70 #[.pointer (some ⟨b, 0, none⟩)] w (qbI b K r e w))) (w : World) (h : LexAt b s k lv w) :
  Calls Tryz.prog 47 #[.pointer (some ⟨b, 0, none⟩)] w (qcN b (k + n) K r e w) := by
 have HL := Lib.hid h
 have C := Lib.hid (qeq b s k n lv hk hs hn)
 have hb := h.lt
 obtain ⟨c0, c1, c2, f1, f2⟩ := h.cells
 unfold maxLen at hs
 clear h hn
 have hle : (((k : Int) + n) == (s.size : Int)) = false := by simp; omega
 have h256 := (s[k + n]'hlt).toNat_lt
 have le := qaY ((s[k + n]'hlt).toNat : Int) zae zae
 rw [hc] at le
 have LE := Lib.hid le
 clear le hc
 have de := qcn ((s[k + n]'hlt).toNat : Int) zae zae
 rw [hd] at de
 have DE := Lib.hid de
 clear de hd
 clear h256
 have hz : ((k : Int) + n < s.size) := by omega
 go_enter Tryz.func47, Tryz.ntmps47
 go_wp2_with (go_at_call 69; refine (C.out _ zbq).mono ?_; rintro e _ ⟨rfl, d, os, rfl⟩)
 refine ycm ⟨?_⟩
 refine yac ?_
 repeat (refine Lex.step rfl ?_; intro K hK; unfold StepG; go_simp; (first
   | refine hK _ ?_); clear hK K)
 refine yaa ?_; intro dd oo
 go_wp2_with fail
 rw [ends_normal]
 go_wp2_with fail
 refine qaa 8 62 [false, false, false, false, false, false, false, false] zad zad rfl ?_
 refine yac ?_
 repeat (refine Lex.step rfl ?_; intro K hK; unfold StepG; go_simp; (first
   | refine hK _ ?_); clear hK K)
 refine yaa ?_; intro dd oo
 go_wp2_with (first
  | (go_at_call 71; refine (LE.out _).mono ?_; rintro e _ ⟨rfl, rfl⟩)
  | (go_at_call 73; refine (DE.out _).mono ?_; rintro e _ ⟨rfl, rfl⟩))
 first | rw [ends_normal] | skip
 go_wp2_with (first
  | (go_at_call 71; refine (LE.out _).mono ?_; rintro e _ ⟨rfl, rfl⟩)
  | (go_at_call 73; refine (DE.out _).mono ?_; rintro e _ ⟨rfl, rfl⟩))
 refine (T.out _ zbr).mono ?_
 rintro e _ ⟨rfl, k2, hk2, d3, os3, rfl⟩
 have HK2 := Lib.hid hk2
 clear hk2
 go_wp2_with fail
 refine yby ⟨?_⟩
 exact ⟨rfl, k2, HK2.out, zac⟩
end Go.Proofs.YtpoeknndkccbaaaGreat

namespace Go.Proofs.YtpoeknndkccbaaaGreat
open Go.RowKit
def headLetter : List UInt8 → Bool
 | [] => false
 | c :: _ => qat (c.toNat : Int)
def oneF : List UInt8 → Tok × Nat × Int
  | [] => (tok0, 0, 3)
  | c :: l =>
    if qat (c.toNat : Int) = true then ((nameF ⟨((c :: l).take (spanN nameB (c :: l))).toArray⟩).1, spanN nameB (c :: l), (nameF ⟨((c :: l).take (spanN nameB (c :: l))).toArray⟩).2)
    else if qaj (c.toNat : Int) = true then
      (if (1 < spanN qaj (c :: l) ∧ c.toNat = 48) ∨ headLetter ((c :: l).drop (spanN qaj (c :: l))) = true then (tok0, spanN qaj (c :: l), 3)
       else ((numF ⟨((c :: l).take (spanN qaj (c :: l))).toArray⟩).1, spanN qaj (c :: l), (numF ⟨((c :: l).take (spanN qaj (c :: l))).toArray⟩).2))
    else if c.toNat = 34 then ((textG l []).1, 1 + (textG l []).2.1, (textG l []).2.2)
    else signF (c :: l)
theorem qaO (s : ByteArray) (m n : Nat) : s.extract m (m + n) = ⟨((s.data.toList.drop m).take n).toArray⟩ := by
 apply ByteArray.ext
 apply Array.ext'
 simp [List.extract_eq_take_drop]
theorem take_name (b : Nat) (s : ByteArray) (m n : Nat) (lv : Value) (hk : m ≤ s.size) (hs : s.size ≤ maxLen) (hn : spanN nameB (s.data.toList.drop m) = n) (r : Tok) (e : Int) (hr : nameF (s.extract m (m + n)) = (r, e)) (w : World) (h : LexAt b s m lv w) :
  Calls Tryz.prog 72 #[.pointer (some ⟨b, 0, none⟩)] w (qbI b (m + n) r e w) :=
 (name_any b s _ m n lv hk hs hn rfl r e hr w h).mono fun e' w' ⟨he, hx⟩ => ⟨he, m + n, fun _ => rfl, hx⟩
theorem take_sign (b : Nat) (s : ByteArray) (m n : Nat) (lv : Value) (hk : m < s.size) (hs : (s.size : Int) ≤ 4611686018427387904) (r : Tok) (e : Int) (hr : signF (s.data.toList.drop m) = (r, n, e)) (w : World) (h : LexAt b s m lv w) :
  Calls Tryz.prog 70 #[.pointer (some ⟨b, 0, none⟩)] w (qbI b (m + n) r e w) := by
 have e1 : (s.extract m s.size).data.toList = s.data.toList.drop m := by
  have h1 : (s.extract m s.size).data.toList = (s.data.toList.drop m).take (s.size - m) := by simp [List.extract_eq_take_drop]
  rw [h1, List.take_of_length_le zan]
 refine (sign_any b s _ m n lv hk hs rfl zba r e (by rw [e1]; exact hr) w h).mono fun e' w' ⟨he, hx⟩ => ⟨he, m + n, fun _ => rfl, hx⟩
theorem take_text (b : Nat) (s : ByteArray) (m n : Nat) (lv : Value) (hk : m < s.size) (hs : s.size ≤ 140737488351232) (r : Tok) (e : Int) (hr : textG (s.data.toList.drop (m + 1)) [] = (r, n, e)) (w : World) (h : LexAt b s m lv w) :
  Calls Tryz.prog 75 #[.pointer (some ⟨b, 0, none⟩)] w (qbI b (m + (1 + n)) r e w) :=
 (text_any b s m n lv hk hs r e hr w h).mono fun e' w' ⟨he, k', h1, hx⟩ => ⟨he, k', fun h0 => by rw [h1 h0]; omega, hx⟩
theorem qdY (s : ByteArray) (m n : Nat) (hm : m ≤ s.size) (hn : spanN qaj (s.data.toList.drop m) = n) (hmn : m + n ≤ s.size) :
  ∀ (j : Nat) (h : j < (s.extract m (m + n)).size), 48 ≤ (((s.extract m (m + n))[j]'h).toNat : Int) ∧ (((s.extract m (m + n))[j]'h).toNat : Int) ≤ 57 := by
 intro j h
 have hl : (s.extract m (m + n)).data.toList = (s.data.toList.drop m).take n := by rw [qaO]
 have hj : ((s.data.toList.drop m).take (spanN qaj (s.data.toList.drop m)))[j]? = some ((s.extract m (m + n))[j]'h) := by
  rw [hn, ← hl]
  exact List.getElem?_eq_getElem (by simp at h ⊢; omega)
 have := span_all qaj _ j _ hj
 simpa [qaj] using this
theorem take_number (b : Nat) (s : ByteArray) (m n : Nat) (lv : Value) (hk : m < s.size) (hs : s.size ≤ maxLen) (hn : spanN qaj (s.data.toList.drop m) = n) (r : Tok) (e : Int)
  (hr : (if (1 < n ∧ (s[m]'hk).toNat = 48) ∨ headLetter (s.data.toList.drop (m + n)) = true then (tok0, 3) else numF (s.extract m (m + n))) = (r, e)) (w : World) (h : LexAt b s m lv w) :
  Calls Tryz.prog 74 #[.pointer (some ⟨b, 0, none⟩)] w (qbI b (m + n) r e w) := by
 have hle := spanN_le qaj (s.data.toList.drop m)
 rw [hn] at hle
 have hmn : m + n ≤ s.size := by simp at hle; omega
 have htn : (s.extract m (m + n)).size = n := by simp; omega
 have h0 : ∀ h : 0 < (s.extract m (m + n)).size, (s.extract m (m + n))[0]'h = s[m]'hk := by
  intro h
  simp [ByteArray.getElem_extract]
 have hlet : headLetter (s.data.toList.drop (m + n)) = true ↔ ∃ h : m + n < s.size, qat ((s[m + n]'h).toNat : Int) = true := by
  by_cases hlt : m + n < s.size
  · have hd : s.data.toList.drop (m + n) = s[m + n]'hlt :: s.data.toList.drop (m + n + 1) := List.drop_eq_getElem_cons (by simpa using hlt)
    rw [hd]
    exact ⟨fun h => ⟨hlt, h⟩, fun ⟨_, h⟩ => h⟩
  · have hd : s.data.toList.drop (m + n) = [] := List.drop_eq_nil_of_le zba
    rw [hd]
    exact ⟨fun h => by simp [headLetter] at h, fun ⟨h, _⟩ => absurd h hlt⟩
 by_cases hc : (1 < n ∧ (s[m]'hk).toNat = 48) ∨ headLetter (s.data.toList.drop (m + n)) = true
 · rw [if_pos hc] at hr
   simp only [Prod.mk.injEq] at hr
   obtain ⟨rfl, rfl⟩ := hr
   refine (number_err b s _ m n lv zae hs hmn hn rfl htn ?_ w h).mono fun e' w' ⟨he, hx⟩ => ⟨he, m + n, fun _ => rfl, hx⟩
   by_cases h1 : 1 < n ∧ (s[m]'hk).toNat = 48
   · exact Or.inl ⟨h1.1, by omega, by rw [h0]; omega⟩
   · have h2 := hlet.1 (hc.resolve_left h1)
     refine Or.inr ⟨?_, h2⟩
     by_cases h3 : 1 < n
     · exact Or.inr ⟨h3, by omega, by rw [h0]; omega⟩
     · exact Or.inl zae
 · rw [if_neg hc] at hr
   refine (number_ok b s _ m n lv zae hs hmn hn rfl htn ?_ ?_ (qdY s m n zae hn hmn) r e hr w h).mono fun e' w' ⟨he, hx⟩ => ⟨he, m + n, fun _ => rfl, hx⟩
   · by_cases h3 : 1 < n
     · exact Or.inr ⟨h3, by omega, by rw [h0]; omega⟩
     · exact Or.inl zae
   · by_cases hlt : m + n < s.size
     · refine Or.inr ⟨hlt, ?_⟩
       cases hb : qat ((s[m + n]'hlt).toNat : Int)
       · rfl
       · exact absurd (Or.inr (hlet.2 ⟨hlt, hb⟩)) hc
     · exact Or.inl zae
theorem next_any (b : Nat) (s : ByteArray) (k n : Nat) (lv : Value) (hk : k ≤ s.size) (hs : s.size ≤ 140737488351232) (hn : skipL false (s.data.toList.drop k) = n) (hlt : k + n < s.size) (n1 : Nat) (r : Tok) (e : Int) (hr : oneF (s.data.toList.drop (k + n)) = (r, n1, e)) (w : World) (h : LexAt b s k lv w) :
  Calls Tryz.prog 47 #[.pointer (some ⟨b, 0, none⟩)] w (qcN b (k + n) (k + n + n1) r e w) := by
 have hm : s.size ≤ maxLen := by unfold maxLen; omega
 obtain ⟨m, hmm⟩ : ∃ m, k + n = m := ⟨_, rfl⟩
 have hlt' : m < s.size := by omega
 have hd : s.data.toList.drop m = s[m]'hlt' :: s.data.toList.drop (m + 1) := List.drop_eq_getElem_cons (by simpa using hlt')
 subst hmm
 have hr0 := hr
 rw [hd] at hr
 unfold oneF at hr
 dsimp only at hr
 rw [← hd] at hr
 by_cases c1 : qat ((s[k + n]'hlt).toNat : Int) = true
 · rw [if_pos c1] at hr
   simp only [Prod.mk.injEq] at hr
   obtain ⟨rfl, rfl, rfl⟩ := hr
   refine next_name b s k n lv hk hm hn hlt c1 _ _ _ (Lib.hid fun w h => take_name b s (k + n) _ lv zae hm rfl _ _ ?_ w h) w h
   rw [qaO]
 rw [if_neg c1] at hr
 have c1' : qat ((s[k + n]'hlt).toNat : Int) = false := by simpa using c1
 by_cases c2 : qaj ((s[k + n]'hlt).toNat : Int) = true
 · rw [if_pos c2] at hr
   have hnum : ∀ n2, spanN qaj (s.data.toList.drop (k + n)) = n2 → n2 = n1 ∧ (if (1 < n2 ∧ (s[k + n]'hlt).toNat = 48) ∨ headLetter (s.data.toList.drop (k + n + n2)) = true then (tok0, 3) else numF (s.extract (k + n) (k + n + n2))) = (r, e) := by
    intro n2 h2
    rw [h2, List.drop_drop] at hr
    rw [qaO]
    split at hr
    · next hc => rw [if_pos hc]; simp only [Prod.mk.injEq] at hr ⊢; exact ⟨hr.2.1, hr.1, hr.2.2⟩
    · next hc => rw [if_neg hc]; simp only [Prod.mk.injEq] at hr; exact ⟨hr.2.1, by rw [← hr.1, ← hr.2.2]⟩
   obtain ⟨h3, h4⟩ := hnum _ rfl
   rw [← h3]
   exact next_number b s k n lv hk hm hn hlt c1' c2 _ _ _ (Lib.hid fun w h => take_number b s (k + n) _ lv hlt hm rfl _ _ h4 w h) w h
 rw [if_neg c2] at hr
 have c2' : qaj ((s[k + n]'hlt).toNat : Int) = false := by simpa using c2
 by_cases c3 : (s[k + n]'hlt).toNat = 34
 · rw [if_pos c3] at hr
   simp only [Prod.mk.injEq] at hr
   obtain ⟨rfl, rfl, rfl⟩ := hr
   exact next_text b s k n lv hk hm hn hlt c1' c2' zba _ _ _ (Lib.hid fun w h => take_text b s (k + n) _ lv hlt hs _ _ rfl w h) w h
 · rw [if_neg c3] at hr
   exact next_sign b s k n lv hk hm hn hlt c1' c2' zba _ _ _ (Lib.hid fun w h => take_sign b s (k + n) _ lv hlt zae _ _ hr w h) w h
end Go.Proofs.YtpoeknndkccbaaaGreat

namespace Go.Proofs.YtpoeknndkccbaaaGreat
open Go.RowKit
def lexG (s : List UInt8) : Nat → Nat → List (Tok × Nat) → List (Tok × Nat) × Int × Nat
 | 0, _, _ => ([], 0, 0)
 | g + 1, k, acc =>
  if s.length ≤ k + skipL false (s.drop k) then (acc ++ [(tok0, s.length)], 0, 0)
  else if (oneF (s.drop (k + skipL false (s.drop k)))).2.2 ≠ 0 then ([], (oneF (s.drop (k + skipL false (s.drop k)))).2.2, k + skipL false (s.drop k))
  else if acc.length = 1024 then ([], 5, k + skipL false (s.drop k))
  else lexG s g (k + skipL false (s.drop k) + (oneF (s.drop (k + skipL false (s.drop k)))).2.1) (acc ++ [((oneF (s.drop (k + skipL false (s.drop k)))).1, k + skipL false (s.drop k))])
def lexF (s : List UInt8) : List (Tok × Nat) × Int × Nat := if 4096 < s.length then ([], 5, 4096) else lexG s (s.length + 1) 0 []
def qas (l : List (Tok × Nat)) : List Value := l.flatMap fun t => [.int .i64 t.1.k, .int .i64 (t.2 : Int), .string t.1.s, .int .i64 t.1.i]
theorem qdO (l m : List (Tok × Nat)) : qas (l ++ m) = qas l ++ qas m := by simp [qas]
theorem textG_bd (l acc : List UInt8) : (textG l acc).2.2 = 0 → 1 ≤ (textG l acc).2.1 ∧ (textG l acc).2.1 ≤ l.length := by
 fun_induction textG l acc
 all_goals intro h
 all_goals first
  | (exfalso; exact absurd h zal)
  | (refine ⟨?_, ?_⟩ <;> simp only [List.length_cons] <;> omega)
  | (rename_i ih; have h2 := ih h; exact ⟨Nat.succ_le_succ (Nat.zero_le _), Nat.succ_le_succ h2.2⟩)
  | (rename_i ih; have h2 := ih h; exact ⟨Nat.succ_le_succ (Nat.zero_le _), Nat.succ_le_succ (Nat.succ_le_succ h2.2)⟩)
theorem signF_bd (l : List UInt8) (r : Tok) (n : Nat) (h : signF l = (r, n, 0)) : 1 ≤ n ∧ n ≤ l.length := by
 unfold signF at h
 cases hf : twoL.find? (fun p => Lib.hasPrefix l p.data.toList) with
 | some p =>
  rw [hf] at h
  simp only [Prod.mk.injEq] at h
  obtain ⟨_, rfl, _⟩ := h
  have h1 := List.find?_some hf
  have h2 := List.mem_of_find?_eq_some hf
  have h3 : p.data.toList.length = 2 := by
   simp only [twoL, List.mem_cons, List.not_mem_nil, or_false] at h2
   rcases h2 with rfl | rfl | rfl | rfl | rfl <;> rfl
  have h4 := (List.isPrefixOf_iff_prefix.1 h1).length_le
  omega
 | none =>
  rw [hf] at h
  cases l with
  | nil => simp at h
  | cons c l =>
   dsimp only at h
   split at h
   · simp only [Prod.mk.injEq] at h
     obtain ⟨_, rfl, _⟩ := h
     simp
   · simp at h
theorem oneF_bd (l : List UInt8) (r : Tok) (n : Nat) (hl : 0 < l.length) (h : oneF l = (r, n, 0)) : 1 ≤ n ∧ n ≤ l.length := by
 cases l with
 | nil => simp at hl
 | cons c l =>
  unfold oneF at h
  dsimp only at h
  by_cases c1 : qat (c.toNat : Int) = true
  · rw [if_pos c1] at h
    simp only [Prod.mk.injEq] at h
    obtain ⟨_, rfl, _⟩ := h
    have hb : nameB (c.toNat : Int) = true := by simp [nameB, c1]
    refine ⟨?_, spanN_le _ _⟩
    rw [spanN, if_pos hb]; omega
  rw [if_neg c1] at h
  by_cases c2 : qaj (c.toNat : Int) = true
  · rw [if_pos c2] at h
    have key : n = spanN qaj (c :: l) := by
     split at h <;> simp only [Prod.mk.injEq] at h <;> exact h.2.1.symm
    rw [key]
    refine ⟨?_, spanN_le _ _⟩
    rw [spanN, if_pos c2]; omega
  rw [if_neg c2] at h
  by_cases c3 : c.toNat = 34
  · rw [if_pos c3] at h
    simp only [Prod.mk.injEq] at h
    obtain ⟨_, rfl, h3⟩ := h
    have := textG_bd l [] h3
    simp only [List.length_cons]
    omega
  · rw [if_neg c3] at h
    exact signF_bd _ r n h
end Go.Proofs.YtpoeknndkccbaaaGreat

namespace Go.Proofs.YtpoeknndkccbaaaGreat
open Go.RowKit
def quo1 (c : UInt8) : List UInt8 := if c.toNat = 10 then [92, 110] else if c.toNat = 34 ∨ c.toNat = 92 then [92, c] else [c]
def okQ (c : UInt8) : Bool := decide (c.toNat = 10 ∨ (32 ≤ c.toNat ∧ c.toNat ≤ 126))
def qbQ (s : List UInt8) : List UInt8 × Int := if 64 < s.length then ([], 5) else if s.all okQ = true then (34 :: s.flatMap quo1 ++ [34], 0) else ([], 3)
theorem textG_cons (c : UInt8) (l acc : List UInt8) : textG (c :: l) acc =
  if c.toNat = 34 then (if 64 < acc.length then (tok0, 0, 5) else (⟨3, ⟨acc.toArray⟩, 0⟩, 1, 0))
  else if c.toNat < 32 ∨ 126 < c.toNat then (tok0, 0, 3)
  else if c.toNat ≠ 92 then (let r := textG l (acc ++ [c]); (r.1, r.2.1 + 1, r.2.2))
  else match l with
   | [] => (tok0, 0, 2)
   | d :: l' => if escZ (d.toNat : Int) = 0 then (tok0, 0, 3) else (let r := textG l' (acc ++ [UInt8.ofNat (escZ (d.toNat : Int)).toNat]); (r.1, r.2.1 + 2, r.2.2)) := by
 cases l <;> rw [textG.eq_def]
theorem quo1_len (s : List UInt8) : (s.flatMap quo1).length ≤ 2 * s.length := by
 induction s with
 | nil => simp
 | cons c s ih =>
  have : (quo1 c).length ≤ 2 := by unfold quo1; (repeat' split) <;> simp
  simp only [List.flatMap_cons, List.length_append, List.length_cons]
  omega
end Go.Proofs.YtpoeknndkccbaaaGreat
