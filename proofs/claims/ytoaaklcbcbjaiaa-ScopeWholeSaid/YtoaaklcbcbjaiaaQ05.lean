/- Lemmas for the claim (texts Lex9, PSrc, RSame, LexQ, Quo, May1, May2, May3, May4, Row, what its proof uses of them). -/
import Derived.Test.YtoaaklcbcbjaiaaQ04
import Derived.Outline
import Derived.Lib.SmallJoins
import Derived.Deep.OwnRows
import Derived.Maps.Own
import Derived.Maps.OwnSet
import Derived.Maps.Views
import Derived.StringKeys
import Derived.Carry
import Derived.SizedLaws
import Derived.ChangeSlices
set_option linter.unusedSimpArgs false
set_option linter.unusedVariables false
namespace Go.Proofs.Ytoaaklcbcbjaiaa
open Go.RowKit
theorem ltV1 {a n x : Nat} (h : a < n) : (a < n + x) = True := by simp; omega
theorem ltV2 {a n x y : Nat} (h : a < n) : (a < n + x + y) = True := by simp; omega
theorem ltV3 {a n x y z : Nat} (h : a < n) : (a < n + x + y + z) = True := by simp; omega
theorem ltV4 {a n x y z u : Nat} (h : a < n) : (a < n + x + y + z + u) = True := by simp; omega
theorem ltV5 {a n x y z u v : Nat} (h : a < n) : (a < n + x + y + z + u + v) = True := by simp; omega
attribute [go_sem] ltV1 ltV2 ltV3 ltV4 ltV5
theorem tokInfo : (Try.prog.info? 57).map (fun i => (i.zero, i.size, i.bytes)) = some (some (.agg #[.int .i64 0, .int .i64 0, .string ⟨#[]⟩, .int .i64 0]), 4, 40) := by kernel_rfl
set_option maxHeartbeats 2000000 in
set_option maxRecDepth 20000 in
theorem tokens_big (s : ByteArray) (hs : 4096 < (s.size : Int)) (w : World) :
    Calls Try.prog 35 #[.string s] w fun e w' => e = .returned (.tuple #[.slice none 0 0, .int .i64 5, .int .i64 4096]) ∧ Ext w w' := by
  go_enter Try.func35, Try.ntmps35
  go_wp2
  go_ret3
  exact ⟨rfl, by repeat (first | exact Ext.refl _ | apply Ext.alloc | apply Ext.more)⟩
/-- what Tokens hands back -/
def TokensPost (w : World) (r : List (Tok × Nat) × Int × Nat) (e : Ending) (w' : World) : Prop :=
  (r.2.1 = 0 ∧ ∃ g cap, e = .returned (.tuple #[.slice (some ⟨g, 0, none⟩) r.1.length cap, .int .i64 0, .int .i64 0]) ∧ w'.ownsRow w.heap.size 57 4 (.slice (some ⟨g, 0, none⟩) r.1.length cap) r.1.length (tokCells r.1) ∧ Ext w w') ∨
  (r.2.1 ≠ 0 ∧ e = .returned (.tuple #[.slice none 0 0, .int .i64 r.2.1, .int .i64 (r.2.2 : Int)]) ∧ Ext w w')
theorem tokensPost_ok {w w' : World} {r : List (Tok × Nat) × Int × Nat} {v : Value} (h0 : r.2.1 = 0) (hl : 0 < r.1.length) (hown : w'.ownsRow (w.heap.size + 1) 57 4 v r.1.length (tokCells r.1)) (hx : Ext w w') :
    TokensPost w r (.returned (.tuple #[v, .int .i64 0, .int .i64 0])) w' := by
  obtain ⟨g, cap, rfl, _, _⟩ := hown.form hl
  exact Or.inl ⟨h0, g, cap, rfl, hown.mono (by omega), hx⟩
theorem tokCells_snoc (l : List (Tok × Nat)) (t : Tok) (k : Nat) : tokCells (l ++ [(t, k)]) = tokCells l ++ [.int .i64 t.k, .int .i64 (k : Int), .string t.s, .int .i64 t.i] := by rw [tokCells_append]; rfl
theorem ext_through {w wr w1 w2 : World} {N : Nat} {v : Value} {lv : Value} (hN : N = w.heap.size) (hb : Below N w wr) (hx : Ext (wr.setCell ⟨N, 1, none⟩ v) w1) (hg : w1.grownBy w2 lv.ownBlock) (hl : ∀ k, lv.ownBlock = some k → N < k) : Ext w w2 := by
  subst hN
  have h1 : Ext w wr := Ext.of_below hb
  have h2 : Ext w (wr.setCell ⟨w.heap.size, 1, none⟩ v) := h1.setCell (Nat.le_refl _) v
  exact (h2.trans hx).grown hg (fun k hk => Nat.le_of_lt (hl k hk))
theorem news_split {w : World} {N d1 d2 : Nat} {os1 os2 : Array Obj} {cs : Array Value} {t : TypeId} (hN : N = w.heap.size + os1.size) :
    ∀ j u, cs.toList[j]? = some u → (more ((more w d1 os1).alloc (.cells cs t)) d2 os2).cell? ((⟨N, 0, none⟩ : Addr).add j) = some u := by
  intro j u h
  have hN' : N = (more w d1 os1).heap.size := by rw [more_size]; exact hN
  subst hN'
  rw [Addr.add_lit, more_cell _ _ _ _ _ (by simp)]
  simp only [World.cell?, heap_alloc_new]
  simpa using h
theorem lex_grown {b : Nat} {s : ByteArray} {k : Nat} {lv : Value} {w w' : World} {row : Option Nat} (h : LexAt b s k lv w) (hg : w.grownBy w' row) (hne : row ≠ some b) : LexAt b s k lv w' := by
  obtain ⟨h1, h2, h3, h4, h5⟩ := hg
  unfold LexAt; rw [h5 b h.lt (fun e => hne e.symm)]; exact h
theorem LexAt.setL {b : Nat} {s : ByteArray} {k : Nat} {lv : Value} {w : World} (h : LexAt b s k lv w) (v : Value) : LexAt b s k v (w.setCell ⟨b, 2, none⟩ v) := by
  unfold LexAt at h ⊢
  simp [World.setCell, Array.getElem?_modify, h]
theorem news_alloc {w : World} {N : Nat} {cs : Array Value} {t : TypeId} (hN : N = w.heap.size) : ∀ j u, cs.toList[j]? = some u → (w.alloc (.cells cs t)).cell? ((⟨N, 0, none⟩ : Addr).add j) = some u := by
  intro j u h
  subst hN
  rw [Addr.add_lit]
  simp only [World.cell?, heap_alloc_new]
  simpa using h
set_option maxHeartbeats 2000000 in
set_option maxRecDepth 20000 in
theorem tokens_x (s : ByteArray) (hs : (s.size : Int) ≤ 4096) (res : List (Tok × Nat) × Int × Nat) (HR : RowKit.Hid (lexG s.data.toList (s.size + 1) 0 [] = res)) (w : World) : Calls Try.prog 35 #[.string s] w (TokensPost w res) := by
  go_enter Try.func35, Try.ntmps35
  go_wp2_with fail
  go_loopg [] (s.size + 1) (fun g wr => ∃ (k : Nat) (acc : List (Tok × Nat)) (lv : Value), k ≤ s.size ∧ s.size + 1 ≤ k + g ∧ acc.length ≤ 1024 ∧ lexG s.data.toList g k acc = res ∧ LexAt w.heap.size s k lv wr ∧ wr.ownsRow (w.heap.size + 1) 57 4 lv acc.length (tokCells acc) ∧ Below w.heap.size w wr)
  case atStart => exact ⟨0, [], .slice none 0 0, Nat.zero_le _, by omega, by simp, HR.out, (by unfold LexAt; exact heap_alloc_new _ _), World.ownsRow_nil _ _ _ _, (Below.refl _ _).alloc (Nat.le_refl _) _⟩
  case round =>
    obtain ⟨k, acc, lv, hk, hkg, hac, hlex, hL, hown, hbl⟩ := hrel
    have hb := hL.lt
    have hs' : s.size ≤ maxLen := by unfold maxLen; omega
    have hlen : s.data.toList.length = s.size := by simp
    obtain ⟨g, rfl⟩ : ∃ g, gk = g + 1 := ⟨gk - 1, by omega⟩
    rw [lexG, hlen] at hlex
    obtain ⟨i0, hi, hz0, hz1, hz2⟩ := info_parts tokInfo
    have HOWN := Lib.hid hown
    have HBL := Lib.hid hbl
    have HL := Lib.hid hL
    by_cases hend : k + skipL false (s.data.toList.drop k) = s.size
    · rw [if_pos (by omega)] at hlex
      have N := Lib.hid (next_end w.heap.size s k _ lv hk hs' rfl hend wr hL)
      have HLEX := Lib.hid hlex
      obtain ⟨c0, c1, c2, f1, f2⟩ := hL.cells
      unfold tokV tok0 at N
      rw [hend] at N
      clear hL hown hbl hend hlex hlen
      go_wp2_with (first
        | (go_at_call 47; refine N.out.mono ?_; rintro e _ ⟨rfl, d, os, rfl⟩)
        | (at_builtin; refine wpList_append_own_at _ rfl _ _ 39 rfl (w.heap.size + 1) 57 i0 (.agg #[.int .i64 0, .int .i64 0, .string ⟨#[]⟩, .int .i64 0]) 4 40 Try.underlying39 hi hz0 hz1 hz2 rfl (by decide) lv acc.length (tokCells acc) rfl ?c0 ⟨wr.heap.size + os.size + 1, 0, none⟩ 1 1 [.int .i64 0, .int .i64 (s.size : Int), .string ⟨#[]⟩, .int .i64 0] rfl rfl ?c1 ?c2 ?c3 ?c4 ?c5 ?_))
      case c0 => exact ((own_more (ownsRow_setCell_below HOWN.out (by simp) _) _ _).alloc _).alloc _
      case c1 => exact news_alloc (by simp [more_size])
      case c2 => intro u hu; simp at hu; rcases hu with rfl | rfl | rfl | rfl <;> rfl
      case c3 => unfold maxLen; omega
      case c4 => omega
      case c5 => simp [more_size]; omega
      intro v' w1 hown' hgrow _ hblk
      go_wp2
      go_ret3
      have hl := HLEX.out
      subst hl
      refine tokensPost_ok rfl (by simp) ?_ (ext_through rfl HBL.out (by repeat (first | exact Ext.refl _ | apply Ext.alloc | apply Ext.more)) hgrow (fun k hk => (HOWN.out.lt k hk).1))
      rw [tokCells_snoc]
      simpa [tok0] using hown'
    · -- MORE
      have hle := skipL_le false (s.data.toList.drop k)
      obtain ⟨sk, hsk⟩ : ∃ sk, skipL false (s.data.toList.drop k) = sk := ⟨_, rfl⟩
      rw [hsk] at hlex hend hle
      have hlt : k + sk < s.size := by simp at hle; omega
      obtain ⟨r, n1, er, hr⟩ : ∃ r n1 er, oneF (s.data.toList.drop (k + sk)) = (r, n1, er) := ⟨_, _, _, rfl⟩
      rw [if_neg (by omega), hr] at hlex
      dsimp only at hlex
      have N := Lib.hid (next_any w.heap.size s k sk lv hk (by omega) hsk hlt n1 r er hr wr hL)
      obtain ⟨m, hm⟩ : ∃ m, k + sk = m := ⟨_, rfl⟩
      rw [hm] at N hlex hlt hr
      obtain ⟨c0, c1, c2, f1, f2⟩ := hL.cells
      by_cases her : er = 0
      · subst her
        rw [if_neg (by simp)] at hlex
        by_cases hfull : acc.length = 1024
        · rw [if_pos hfull] at hlex
          have HLEX := Lib.hid hlex
          have HF := Lib.hid hfull
          rw [hfull] at hown
          rcases Go.Joins.ownsRow_forms hown with ⟨rfl, h0⟩ | ⟨g1, cap, rfl⟩
          · omega
          clear hL hown hbl hlex hlen hm hr hsk hfull HOWN
          go_wp2_with (go_at_call 47; refine N.out.mono ?_; rintro e _ ⟨rfl, k2, hk2, d, os, rfl⟩; have HK2 := Lib.hid hk2; clear hk2)
          refine wp_region_grow 5 58 [false, false, false, false, false] (by kernel_rfl) (by kernel_rfl) rfl ?_
          simp only [List.take_succ_cons, List.take_zero, List.drop_succ_cons, List.drop_zero]
          repeat (refine Lex.step rfl ?_; intro K hK; unfold StepG; go_simp; (first
              | refine hK _ ?_); clear hK K)
          refine Lex.nil fun WW hE => ?_
          obtain ⟨dd, oo, rfl⟩ := hE
          unfold FillH
          go_wp2_with fail
          rw [ends_normal]
          go_wp2_with fail
          go_ret3
          have hl := HLEX.out
          subst hl
          exact Or.inr ⟨by simp, rfl, ext_through rfl HBL.out (by repeat (first | exact Ext.refl _ | apply Ext.alloc | apply Ext.more)) (lv := .slice none 0 0) (grown_refl _ _) (by intro k hk; simp [Value.ownBlock] at hk)⟩
        · rw [if_neg hfull] at hlex
          have HLEX := Lib.hid hlex
          have hF : ((acc.length : Int) == 1024) = false := by simp; omega
          have hbd := oneF_bd _ r n1 (by simp; omega) hr
          have HBD : RowKit.Hid (1 ≤ n1 ∧ m + n1 ≤ s.size ∧ s.size + 1 ≤ k + g + 1 ∧ k ≤ m ∧ acc.length + 1 ≤ 1024) := Lib.hid ⟨hbd.1, by have := hbd.2; simp at this; omega, by omega, by omega, by omega⟩
          obtain ⟨len, cap, p, rfl, hlen2⟩ : ∃ len cap p, lv = .slice p len cap ∧ len = acc.length := by
            rcases Go.Joins.ownsRow_forms hown with ⟨rfl, h0⟩ | ⟨g1, cap, rfl⟩
            · exact ⟨_, _, _, rfl, h0.symm⟩
            · exact ⟨_, _, _, rfl, rfl⟩
          subst hlen2
          clear hL hown hbl hlex hlen hm hr hsk hfull hbd
          go_wp2_with (go_at_call 47; refine N.out.mono ?_; rintro e _ ⟨rfl, k2, hk2, d, os, rfl⟩; have HK2 := Lib.hid hk2; clear hk2)
          refine wp_region_grow 7 58 [true, false, false, false, false, false, false] (by kernel_rfl) (by kernel_rfl) rfl ?_
          simp only [List.take_succ_cons, List.take_zero, List.drop_succ_cons, List.drop_zero]
          refine Lex.stepP rfl rfl ?_; intro K hK; go_simp; refine hK _ ?_; clear hK K
          iterate 5 (refine Lex.step rfl ?_; intro K hK; unfold StepG; go_simp; refine hK _ ?_; clear hK K)
          refine Lex.sliceLit 54 (.cells #[.int .i64 r.k, .int .i64 (m : Int), .string r.s, .int .i64 r.i] 57) 1 1 rfl rfl (fun d os => ?_) ?_
          · unfold StepG
            go_simp
            exact ⟨(Ext.refl _).alloc _, NewSl.of_alloc _ _ _ _ _ _ _ (by simp [more_size])⟩
          refine Lex.nil fun WW hE => ?_
          intro u hu
          obtain ⟨d1, os1, d2, os2, rfl, rfl⟩ := hu.split hE
          clear hu hE
          go_simp
          unfold FillH
          go_wp2_with (at_builtin; refine wpList_append_own_at _ rfl _ _ 39 rfl (w.heap.size + 1) 57 i0 (.agg #[.int .i64 0, .int .i64 0, .string ⟨#[]⟩, .int .i64 0]) 4 40 Try.underlying39 hi hz0 hz1 hz2 rfl (by decide) (.slice p acc.length cap) acc.length (tokCells acc) rfl ?c0 ⟨_, 0, none⟩ 1 1 [.int .i64 r.k, .int .i64 (m : Int), .string r.s, .int .i64 r.i] rfl rfl ?c1 ?c2 ?c3 ?c4 ?c5 ?_)
          case c0 => repeat (first | (with_reducible exact ownsRow_setCell_below HOWN.out (by simp) _) | (with_reducible apply own_more) | (with_reducible refine World.ownsRow.alloc ?_ _))
          case c1 => exact news_split (by simp [more_size])
          case c2 => intro u hu; simp at hu; rcases hu with rfl | rfl | rfl | rfl <;> rfl
          case c3 => have := HBD.out; unfold maxLen; omega
          case c4 => have := HBD.out; omega
          case c5 => simp [more_size]; omega
          intro v' w1 hown' hgrow _ hblk
          have k2e := HK2.out trivial
          subst k2e
          have HL1 : LexAt w.heap.size s (m + n1) (.slice p acc.length cap) w1 := by
            refine lex_grown ?_ hgrow (fun e => Nat.lt_irrefl _ ((HOWN.out.lt _ e).1))
            repeat (first | (with_reducible apply LexAt.more) | (with_reducible apply LexAt.alloc) | (with_reducible exact LexAt.set HL.out _ _ rfl))
          obtain ⟨c0, c1, c2, f1, f2⟩ := HL1.cells
          have hb1 := HL1.lt
          have hx : Ext w w1 := ext_through rfl HBL.out (by repeat (first | exact Ext.refl _ | apply Ext.alloc | apply Ext.more)) hgrow (fun k hk => (HOWN.out.lt k hk).1)
          obtain ⟨g1, cap1, rfl, _, _⟩ := hown'.form (by omega)
          have HOWN1 := Lib.hid hown'
          have HX := Lib.hid hx
          have HLL := Lib.hid HL1
          clear hown' hgrow hblk HL1 hx HL HOWN HBL N
          go_wp2_with fail
          first | rw [ends_normal] | skip
          go_wp2_with fail
          go_roundg g
          case measure => omega
          case rel =>
            have hq := HBD.out
            refine ⟨m + n1, acc ++ [(r, m)], _, by omega, by omega, by simp; omega, HLEX.out, HLL.out.setL _, ?_, (HX.out.setCell (Nat.le_refl _) _).below⟩
            rw [tokCells_snoc]
            have := ownsRow_setCell_below HOWN1.out (a := ⟨w.heap.size, 2, none⟩) (by simp) (.slice (some ⟨g1, 0, none⟩) (acc.length + 1) cap1)
            simpa using this
      · rw [if_pos her] at hlex
        have HLEX := Lib.hid hlex
        have he1 : (er == 0) = false := by simpa using her
        have he2 : (er != 0) = true := by simpa using her
        have HE := Lib.hid her
        clear hL hown hbl hlex hlen hm hr hsk her
        go_wp2_with (go_at_call 47; refine N.out.mono ?_; rintro e _ ⟨rfl, k2, hk2, d, os, rfl⟩; have HK2 := Lib.hid hk2; clear hk2)
        refine wp_region_grow 6 58 [false, false, false, false, false, false] (by kernel_rfl) (by kernel_rfl) rfl ?_
        simp only [List.take_succ_cons, List.take_zero, List.drop_succ_cons, List.drop_zero]
        repeat (refine Lex.step rfl ?_; intro K hK; unfold StepG; go_simp; (first
            | refine hK _ ?_); clear hK K)
        refine Lex.nil fun WW hE => ?_
        obtain ⟨dd, oo, rfl⟩ := hE
        unfold FillH
        go_wp2_with fail
        rw [ends_normal]
        go_wp2_with fail
        go_ret3
        have hl := HLEX.out
        subst hl
        exact Or.inr ⟨HE.out, rfl, ext_through rfl HBL.out (by repeat (first | exact Ext.refl _ | apply Ext.alloc | apply Ext.more)) (lv := .slice none 0 0) (grown_refl _ _) (by intro k hk; simp [Value.ownBlock] at hk)⟩
/-- Tokens' contract -/
theorem tokens_any (s : ByteArray) (res : List (Tok × Nat) × Int × Nat) (hr : lexF s.data.toList = res) (w : World) : Calls Try.prog 35 #[.string s] w (TokensPost w res) := by
  have hl : s.data.toList.length = s.size := by simp
  unfold lexF at hr
  by_cases h : 4096 < s.data.toList.length
  · rw [if_pos h] at hr
    subst hr
    exact (tokens_big s (by omega) w).mono fun e w' ⟨h1, h2⟩ => Or.inr ⟨by simp, h1, h2⟩
  · rw [if_neg h, hl] at hr
    exact tokens_x s (by omega) res (Lib.hid hr) w
end Go.Proofs.Ytoaaklcbcbjaiaa

namespace Go.Proofs.Ytoaaklcbcbjaiaa
open Go.RowKit
attribute [go_sem] more_more Array.size_append
/-- a source's tokens with their places -/
def toksOf (l : List (Tok × Nat)) : Toks := l.map fun t => (t.1, (t.2 : Int))
theorem toksOf_length (l : List (Tok × Nat)) : (toksOf l).length = l.length := by simp [toksOf]
theorem toksOf_cells (l : List (Tok × Nat)) : tkCells (toksOf l) = tokCells l := by
  induction l with
  | nil => rfl
  | cons t l ih =>
    have e1 : tkCells (toksOf (t :: l)) = tkL (t.1, (t.2 : Int)) ++ tkCells (toksOf l) := rfl
    have e2 : tokCells (t :: l) = [.int .i64 t.1.k, .int .i64 (t.2 : Int), .string t.1.s, .int .i64 t.1.i] ++ tokCells l := rfl
    rw [e1, e2, ih]; rfl
/-- the program of a source, or the error and its place -/
def sourceF (s : List UInt8) : Except (Int × Int) (List Nd × Int) :=
  if (lexF s).2.1 = 0 then parseF (toksOf (lexF s).1) else .error ((lexF s).2.1, ((lexF s).2.2 : Int))
theorem lexG_len (s : List UInt8) : ∀ (g k : Nat) (acc l : List (Tok × Nat)) (x : Nat), k ≤ s.length → s.length + 1 ≤ k + g → acc.length ≤ 1024 → lexG s g k acc = (l, 0, x) → 0 < l.length ∧ l.length ≤ 1025
  | 0, k, acc, l, x, hk, hg, _, _ => by omega
  | g + 1, k, acc, l, x, hk, hg, ha, h => by
    rw [lexG] at h
    split at h
    · simp only [Prod.mk.injEq] at h
      obtain ⟨rfl, _, _⟩ := h
      simp; omega
    split at h
    · rename_i h1 h2
      simp only [Prod.mk.injEq] at h
      exact absurd h.2.1 h2
    split at h
    · simp only [Prod.mk.injEq] at h
      omega
    · rename_i h1 h2 h3
      have hd : 0 < (s.drop (k + skipL false (s.drop k))).length := by simp; omega
      obtain ⟨r, n1, er, hr⟩ : ∃ r n1 er, oneF (s.drop (k + skipL false (s.drop k))) = (r, n1, er) := ⟨_, _, _, rfl⟩
      rw [hr] at h h2
      dsimp only at h h2
      have h2' : er = 0 := by simpa using h2
      subst h2'
      have hb := oneF_bd _ r n1 hd hr
      simp only [List.length_drop] at hb
      exact lexG_len s g _ _ l x (by omega) (by omega) (by simp; omega) h
theorem lexF_len (s : List UInt8) (h : (lexF s).2.1 = 0) : 0 < (lexF s).1.length ∧ (lexF s).1.length ≤ 1025 := by
  unfold lexF at h ⊢
  split at h
  · simp at h
  · rename_i hs
    rw [if_neg hs]
    obtain ⟨l, e, x, hx⟩ : ∃ l e x, lexG s (s.length + 1) 0 [] = (l, e, x) := ⟨_, _, _, rfl⟩
    rw [hx] at h ⊢
    dsimp only at h ⊢
    subst h
    exact lexG_len s _ 0 [] l x (Nat.zero_le _) (by omega) (by simp) hx
theorem toks_at {w : World} {base g cap n : Nat} {l : List (Tok × Nat)} (h : w.ownsRow base 57 4 (.slice (some ⟨g, 0, none⟩) n cap) n (tokCells l)) (hn : n = l.length) : ToksAt g 0 (toksOf l) w := by
  intro j hj
  have hc := h.cells (g := g) rfl
  rw [← toksOf_cells] at hc
  obtain ⟨h1, h2, h3, h4⟩ := tkCells_get (toksOf l) j hj
  have e : ∀ i v, (tkCells (toksOf l))[i]? = some v → w.cell? ⟨g, i, none⟩ = some v := fun i v hi => by
    have := hc i v hi
    rwa [Addr.add_lit, Nat.zero_add] at this
  refine ⟨?_, ?_, ?_, ?_⟩
  · rw [Nat.zero_add]; exact e _ _ h1
  · rw [Nat.zero_add]; exact e _ _ h2
  · rw [Nat.zero_add]; exact e _ _ h3
  · rw [Nat.zero_add]; exact e _ _ h4
theorem own_swap {w : World} {o o' : Obj} {d d2 : Nat} {os os2 : Array Obj} {base : Nat} {e : TypeId} {size : Nat} {v : Value} {n : Nat} {xs : List Value} (h : (more (more (w.alloc o) d os) d2 os2).ownsRow base e size v n xs) (hb : w.heap.size < base) : (more (w.alloc o') d2 (os ++ os2)).ownsRow base e size v n xs := by
  refine h.kept (row := some w.heap.size) ⟨rfl, rfl, rfl, by simp only [more_size, World.size_alloc, Array.size_append]; omega, fun k hk hne => ?_⟩ (Or.inr fun e => by have := (h.lt _ e).1; omega)
  have hne : k ≠ w.heap.size := fun e => hne (by rw [e])
  simp only [more, World.alloc, Array.append_assoc]
  simp only [Array.getElem?_append, Array.size_push, Array.getElem?_push, if_neg hne]
end Go.Proofs.Ytoaaklcbcbjaiaa

namespace Go.Proofs.Ytoaaklcbcbjaiaa
open Go.RowKit
attribute [go_sem] more_more Array.size_append
theorem ndCells_get : ∀ (l : List Nd) (j : Nat) (z : Nd), l[j]? = some z → (ndCells l)[j * 8 + 0]? = some (.int .i64 z.k) ∧ (ndCells l)[j * 8 + 1]? = some (.int .i64 z.a) ∧ (ndCells l)[j * 8 + 2]? = some (.int .i64 z.b) ∧ (ndCells l)[j * 8 + 3]? = some (.int .i64 z.c) ∧ (ndCells l)[j * 8 + 4]? = some (.int .i64 z.x) ∧ (ndCells l)[j * 8 + 5]? = some (.int .i64 z.i) ∧ (ndCells l)[j * 8 + 6]? = some (.string z.s) ∧ (ndCells l)[j * 8 + 7]? = some (.string z.t)
  | [], j, z, h => by simp at h
  | y :: l, 0, z, h => by
    simp at h
    subst h
    exact ⟨rfl, rfl, rfl, rfl, rfl, rfl, rfl, rfl⟩
  | y :: l, j + 1, z, h => by
    have := ndCells_get l j z (by simpa using h)
    have e : ∀ r, (ndCells (y :: l))[(j + 1) * 8 + r]? = (ndCells l)[j * 8 + r]? := by
      intro r
      have h1 : ndCells (y :: l) = ndL y ++ ndCells l := rfl
      rw [h1, List.getElem?_append_right (by simp [ndL]; omega)]
      congr 1
      simp [ndL]; omega
    rw [e 0, e 1, e 2, e 3, e 4, e 5, e 6, e 7]
    exact this
theorem row_formO {w : World} {base : Nat} {e : TypeId} {size : Nat} {v : Value} {n : Nat} {xs : List Value} (h : w.ownsRow base e size v n xs) : ∃ p c, v = .slice p n c := by
  rcases Go.Joins.ownsRow_forms h with ⟨rfl, h0⟩ | ⟨g1, c, rfl⟩
  · exact ⟨none, 0, by rw [h0]⟩
  · exact ⟨_, _, rfl⟩
theorem own_block {w w' : World} {base : Nat} {e : TypeId} {size : Nat} {v : Value} {n : Nat} {xs : List Value} (h : w.ownsRow base e size v n xs) (hb : ∀ k, v.ownBlock = some k → k < w.heap.size → w'.heap[k]? = w.heap[k]?) : w'.ownsRow base e size v n xs := by
  obtain ⟨h1, h2⟩ := h
  refine ⟨h1, ?_⟩
  rcases h2 with h2 | ⟨g, cap, cur, rfl, hg, hh, r⟩
  · exact Or.inl h2
  · exact Or.inr ⟨g, cap, cur, rfl, hg, (hb g rfl (Array.getElem?_eq_some_iff.1 hh).1).trans hh, r⟩
theorem intInfo : (Try.prog.info? 3).map (fun i => (i.zero, i.size, i.bytes)) = some (some (.int .i64 0), 1, 8) := by kernel_rfl
/-- a node's cells in memory -/
theorem nd_at {w : World} {base g cap n : Nat} {ns : List Nd} (h : w.ownsRow base 52 8 (.slice (some ⟨g, 0, none⟩) n cap) n (ndCells ns)) {j : Nat} {z : Nd} (hj : ns[j]? = some z) :
    w.cell? ⟨g, j * 8, none⟩ = some (.int .i64 z.k) ∧ w.cell? ⟨g, j * 8 + 1, none⟩ = some (.int .i64 z.a) ∧ w.cell? ⟨g, j * 8 + 2, none⟩ = some (.int .i64 z.b) ∧ w.cell? ⟨g, j * 8 + 3, none⟩ = some (.int .i64 z.c) ∧ w.cell? ⟨g, j * 8 + 4, none⟩ = some (.int .i64 z.x) ∧ w.cell? ⟨g, j * 8 + 5, none⟩ = some (.int .i64 z.i) ∧ w.cell? ⟨g, j * 8 + 6, none⟩ = some (.string z.s) ∧ w.cell? ⟨g, j * 8 + 7, none⟩ = some (.string z.t) := by
  have hc := h.cells (g := g) rfl
  obtain ⟨h0, h1, h2, h3, h4, h5, h6, h7⟩ := ndCells_get ns j z hj
  have e : ∀ i v, (ndCells ns)[i]? = some v → w.cell? ⟨g, i, none⟩ = some v := fun i v hi => by
    have := hc i v hi
    rwa [Addr.add_lit, Nat.zero_add] at this
  exact ⟨e _ _ h0, e _ _ h1, e _ _ h2, e _ _ h3, e _ _ h4, e _ _ h5, e _ _ h6, e _ _ h7⟩
end Go.Proofs.Ytoaaklcbcbjaiaa

namespace Go.Proofs.Ytoaaklcbcbjaiaa
open Go.RowKit
/-- what a byte is quoted as -/
def quo1 (c : UInt8) : List UInt8 := if c.toNat = 10 then [92, 110] else if c.toNat = 34 ∨ c.toNat = 92 then [92, c] else [c]
/-- may it be quoted? -/
def okQ (c : UInt8) : Bool := decide (c.toNat = 10 ∨ (32 ≤ c.toNat ∧ c.toNat ≤ 126))
/-- the token that says a text, and the error -/
def quoteF (s : List UInt8) : List UInt8 × Int := if 64 < s.length then ([], 5) else if s.all okQ = true then (34 :: s.flatMap quo1 ++ [34], 0) else ([], 3)
theorem textG_cons (c : UInt8) (l acc : List UInt8) : textG (c :: l) acc =
    if c.toNat = 34 then (if 64 < acc.length then (tok0, 0, 5) else (⟨3, ⟨acc.toArray⟩, 0⟩, 1, 0))
    else if c.toNat < 32 ∨ 126 < c.toNat then (tok0, 0, 3)
    else if c.toNat ≠ 92 then (let r := textG l (acc ++ [c]); (r.1, r.2.1 + 1, r.2.2))
    else match l with
      | [] => (tok0, 0, 2)
      | d :: l' => if escZ (d.toNat : Int) = 0 then (tok0, 0, 3) else (let r := textG l' (acc ++ [UInt8.ofNat (escZ (d.toNat : Int)).toNat]); (r.1, r.2.1 + 2, r.2.2)) := by
  cases l <;> rw [textG.eq_def]
theorem quo1_len (s : List UInt8) : (s.flatMap quo1).length ≤ 2 * s.length := by
  induction s with
  | nil => simp
  | cons c s ih =>
    have : (quo1 c).length ≤ 2 := by unfold quo1; (repeat' split) <;> simp
    simp only [List.flatMap_cons, List.length_append, List.length_cons]
    omega
end Go.Proofs.Ytoaaklcbcbjaiaa

namespace Go.Proofs.Ytoaaklcbcbjaiaa
open Go.RowKit
theorem bld_acc {B b : Nat} {acc : List UInt8} {l : List Value} {m : List UInt8} {w : World} (h : Bld B b (cellsB acc ++ l) w) (hl : l = cellsB m) : Bld B b (cellsB (acc ++ m)) w := by
  rw [cellsB_append, ← hl]; exact h
theorem quo_step (L : List UInt8) (k : Nat) (u : UInt8) (hu : L[k]? = some u) : (L.take (k + 1)).flatMap quo1 = (L.take k).flatMap quo1 ++ quo1 u := by
  rw [List.take_add_one, hu]; simp [List.flatMap_append]
theorem ok_step (L : List UInt8) (k : Nat) (u : UInt8) (hu : L[k]? = some u) (h : (L.take k).all okQ = true) : (L.take (k + 1)).all okQ = okQ u := by
  rw [List.take_add_one, hu, List.all_append, h]; simp
theorem ok_bad (L : List UInt8) (k : Nat) (u : UInt8) (hu : L[k]? = some u) (h : okQ u = false) : L.all okQ = false := by
  have hk := (List.getElem?_eq_some_iff.1 hu)
  rw [List.all_eq_false]
  exact ⟨u, List.mem_of_getElem? hu, by simp [h]⟩
theorem ok_done (L : List UInt8) (k : Nat) (hk : L.length ≤ k) (h : (L.take k).all okQ = true) : L.all okQ = true := by rwa [List.take_of_length_le hk] at h
set_option maxHeartbeats 2000000 in
set_option maxRecDepth 20000 in
theorem quote_any (s : ByteArray) (q : List UInt8) (er : Int) (hr : quoteF s.data.toList = (q, er)) (w : World) :
    Calls Try.prog 125 #[.string s] w fun e w' => e = .returned (.tuple #[.string ⟨q.toArray⟩, .int .i64 er]) ∧ Ext w w' := by
  have hl : s.data.toList.length = s.size := by simp
  unfold quoteF at hr
  by_cases h64 : 64 < s.data.toList.length
  · rw [if_pos h64] at hr
    simp only [Prod.mk.injEq] at hr
    obtain ⟨rfl, rfl⟩ := hr
    have h64' : (64 : Int) < s.size := by omega
    clear h64 hl
    go_enter Try.func125, Try.ntmps125
    go_wp2_with fail
    go_ret2
    exact ⟨rfl, by repeat (first | exact Ext.refl _ | apply Ext.alloc | apply Ext.more)⟩
  rw [if_neg h64] at hr
  have h64' : (s.size : Int) ≤ 64 := by omega
  clear h64 hl
  go_enter Try.func125, Try.ntmps125
  go_wp2_with fail
  refine (writeByte_any w.heap.size w.heap.size (cellsB []) 34 _ (Lib.fresh_isBuilder 128 5 w) (by simp [cellsB]) (by simp)).mono ?_
  rintro e w1 ⟨rfl, hB1, hbl1⟩
  have HB1 := Lib.hid hB1
  have HBL1 := Lib.hid (((Below.refl _ _).alloc (Nat.le_refl _) _).trans hbl1)
  clear hB1 hbl1
  go_wp2_with fail
  go_loopw [13] (fun ii wr => ∃ (k : Nat) (acc : List UInt8), ii = .int .i64 (k : Int) ∧ k ≤ s.size ∧ (s.data.toList.take k).all okQ = true ∧ acc = 34 :: (s.data.toList.take k).flatMap quo1 ∧ Bld w.heap.size w.heap.size (cellsB acc) wr ∧ Below w.heap.size w wr) (fun ii _ => s.size - (intOf ii).toNat)
  case atStart => exact ⟨0, [34], rfl, Nat.zero_le _, rfl, rfl, HB1.out, HBL1.out⟩
  case round =>
    obtain ⟨k, acc, rfl, hk, hok, hacc, hg, hbl⟩ := hrel
    have hal : acc.length ≤ 200 := by
      have := quo1_len (s.data.toList.take k)
      rw [hacc]; simp at this ⊢; omega
    have HAL := Lib.hid hal
    have HBL := Lib.hid hbl
    have HB := Lib.hid hg
    clear hal hbl HB1 HBL1
    have HK := Lib.hid hok
    have HAC := Lib.hid hacc
    have HGX := Lib.hid hg
    clear hok hacc hg
    by_cases hlt : k < s.size
    · have hu : s.data.toList[k]? = some (s[k]'hlt) := by rw [List.getElem?_eq_getElem (by simpa using hlt)]; rfl
      have h256 := (s[k]'hlt).toNat_lt
      have HU := Lib.hid hu
      clear hu
      by_cases c1 : (s[k]'hlt).toNat = 10
      · have e1 : ((s[k]'hlt).toNat : Int) = 10 := by first | omega | (simp; omega)
        have hq1 : quo1 (s[k]'hlt) = [92, 110] := by rw [quo1, if_pos c1]
        have hst := quo_step _ k _ HU.out
        rw [hq1] at hst
        have HST := Lib.hid hst
        have HOK := Lib.hid (by rw [ok_step _ k _ HU.out HK.out]; simp [okQ]; omega : (s.data.toList.take (k + 1)).all okQ = true)
        clear hq1 hst
        go_wp2_with fail
        refine (writeString_any w.heap.size w.heap.size (cellsB acc) ⟨#[92, 110]⟩ _ HB.out (by rw [cellsB_length]; have := HAL.out; have e : (⟨#[92, 110]⟩ : ByteArray).size = 2 := rfl; omega) (by have := HBL.out.size; omega)).mono ?_
        rintro e w2 ⟨rfl, hB2, hbl2⟩
        have HB2 := Lib.hid hB2
        have HBL2 := Lib.hid (HBL.out.trans hbl2)
        clear hB2 hbl2
        go_wp2_with fail
        go_roundw
        case rel =>
          refine ⟨k + 1, _, by go_num, by omega, HOK.out, ?_, bld_acc HB2.out (m := [92, 110]) (by rfl), HBL2.out⟩
          rw [HST.out, HAC.out]; simp
        case measure => simp [intOf]; omega
      by_cases c2 : (s[k]'hlt).toNat < 32
      · have e1 : (((s[k]'hlt).toNat : Int) == 10) = false := by first | omega | (simp; omega)
        have e2 : (((s[k]'hlt).toNat : Int) < 32) = True := by first | omega | (simp; omega)
        have hbad := Lib.hid (ok_bad _ k _ HU.out (by simp [okQ]; omega))
        go_wp2_with fail
        go_ret2
        rw [hbad.out] at hr
        simp only [Bool.false_eq_true, if_false, Prod.mk.injEq] at hr
        obtain ⟨rfl, rfl⟩ := hr
        exact ⟨rfl, Ext.of_below HBL.out⟩
      by_cases c3 : 126 < (s[k]'hlt).toNat
      · have e1 : (((s[k]'hlt).toNat : Int) == 10) = false := by first | omega | (simp; omega)
        have e2 : (((s[k]'hlt).toNat : Int) < 32) = False := by first | omega | (simp; omega)
        have e3 : (126 < ((s[k]'hlt).toNat : Int)) = True := by first | omega | (simp; omega)
        have hbad := Lib.hid (ok_bad _ k _ HU.out (by simp [okQ]; omega))
        go_wp2_with fail
        go_ret2
        rw [hbad.out] at hr
        simp only [Bool.false_eq_true, if_false, Prod.mk.injEq] at hr
        obtain ⟨rfl, rfl⟩ := hr
        exact ⟨rfl, Ext.of_below HBL.out⟩
      by_cases c4 : (s[k]'hlt).toNat = 34
      · have e1 : ((s[k]'hlt).toNat : Int) = 34 := by first | omega | (simp; omega)
        have hq1 : quo1 (s[k]'hlt) = [92, s[k]'hlt] := by rw [quo1, if_neg c1, if_pos (Or.inl c4)]
        have hst := quo_step _ k _ HU.out
        rw [hq1] at hst
        have HST := Lib.hid hst
        have HOK := Lib.hid (by rw [ok_step _ k _ HU.out HK.out]; simp [okQ]; omega : (s.data.toList.take (k + 1)).all okQ = true)
        clear hq1 hst
        go_wp2_with fail
        refine (writeByte_any w.heap.size w.heap.size (cellsB acc) _ _ HB.out (by simp only [cellsB_length, List.length_append, List.length_cons, List.length_nil]; have := HAL.out; omega) (by have := HBL.out.size; omega)).mono ?_
        rintro e w2 ⟨rfl, hB2, hbl2⟩
        have HB2 := Lib.hid hB2
        have HBL2 := Lib.hid (HBL.out.trans hbl2)
        clear hB2 hbl2
        go_wp2_with fail
        refine (writeByte_any w.heap.size w.heap.size (cellsB acc ++ [.int .u8 92]) 34 _ HB2.out (by simp only [cellsB_length, List.length_append, List.length_cons, List.length_nil]; have := HAL.out; omega) (by have := HBL2.out.size; omega)).mono ?_
        rintro e w3 ⟨rfl, hB3, hbl3⟩
        have HB3 := Lib.hid hB3
        have HBL3 := Lib.hid (HBL2.out.trans hbl3)
        clear hB3 hbl3
        go_wp2_with fail
        go_roundw
        case rel =>
          refine ⟨k + 1, _, by go_num, by omega, HOK.out, ?_, bld_acc (l := [.int .u8 92, .int .u8 34]) (by simpa using HB3.out) (m := [92, s[k]'hlt]) (by simp [cellsB, c4]), HBL3.out⟩
          rw [HST.out, HAC.out]; simp
        case measure => simp [intOf]; omega
      by_cases c5 : (s[k]'hlt).toNat = 92
      · have e1 : ((s[k]'hlt).toNat : Int) = 92 := by first | omega | (simp; omega)
        have hq1 : quo1 (s[k]'hlt) = [92, s[k]'hlt] := by rw [quo1, if_neg c1, if_pos (Or.inr c5)]
        have hst := quo_step _ k _ HU.out
        rw [hq1] at hst
        have HST := Lib.hid hst
        have HOK := Lib.hid (by rw [ok_step _ k _ HU.out HK.out]; simp [okQ]; omega : (s.data.toList.take (k + 1)).all okQ = true)
        clear hq1 hst
        go_wp2_with fail
        refine (writeByte_any w.heap.size w.heap.size (cellsB acc) _ _ HB.out (by simp only [cellsB_length, List.length_append, List.length_cons, List.length_nil]; have := HAL.out; omega) (by have := HBL.out.size; omega)).mono ?_
        rintro e w2 ⟨rfl, hB2, hbl2⟩
        have HB2 := Lib.hid hB2
        have HBL2 := Lib.hid (HBL.out.trans hbl2)
        clear hB2 hbl2
        go_wp2_with fail
        refine (writeByte_any w.heap.size w.heap.size (cellsB acc ++ [.int .u8 92]) 92 _ HB2.out (by simp only [cellsB_length, List.length_append, List.length_cons, List.length_nil]; have := HAL.out; omega) (by have := HBL2.out.size; omega)).mono ?_
        rintro e w3 ⟨rfl, hB3, hbl3⟩
        have HB3 := Lib.hid hB3
        have HBL3 := Lib.hid (HBL2.out.trans hbl3)
        clear hB3 hbl3
        go_wp2_with fail
        go_roundw
        case rel =>
          refine ⟨k + 1, _, by go_num, by omega, HOK.out, ?_, bld_acc (l := [.int .u8 92, .int .u8 92]) (by simpa using HB3.out) (m := [92, s[k]'hlt]) (by simp [cellsB, c5]), HBL3.out⟩
          rw [HST.out, HAC.out]; simp
        case measure => simp [intOf]; omega
      · have e1 : (((s[k]'hlt).toNat : Int) == 10) = false := by first | omega | (simp; omega)
        have e2 : (((s[k]'hlt).toNat : Int) < 32) = False := by first | omega | (simp; omega)
        have e3 : (126 < ((s[k]'hlt).toNat : Int)) = False := by first | omega | (simp; omega)
        have e4 : (((s[k]'hlt).toNat : Int) == 34) = false := by first | omega | (simp; omega)
        have e5 : (((s[k]'hlt).toNat : Int) == 92) = false := by first | omega | (simp; omega)
        have hq1 : quo1 (s[k]'hlt) = [s[k]'hlt] := by rw [quo1, if_neg c1, if_neg (by omega)]
        have hst := quo_step _ k _ HU.out
        rw [hq1] at hst
        have HST := Lib.hid hst
        have HOK := Lib.hid (by rw [ok_step _ k _ HU.out HK.out]; simp [okQ]; omega : (s.data.toList.take (k + 1)).all okQ = true)
        clear hq1 hst
        go_wp2_with fail
        refine (writeByte_any w.heap.size w.heap.size (cellsB acc) _ _ HB.out (by simp only [cellsB_length, List.length_append, List.length_cons, List.length_nil]; have := HAL.out; omega) (by have := HBL.out.size; omega)).mono ?_
        rintro e w2 ⟨rfl, hB2, hbl2⟩
        have HB2 := Lib.hid hB2
        have HBL2 := Lib.hid (HBL.out.trans hbl2)
        clear hB2 hbl2
        go_wp2_with fail
        go_roundw
        case rel =>
          refine ⟨k + 1, _, by go_num, by omega, HOK.out, ?_, bld_acc HB2.out (m := [s[k]'hlt]) (by rfl), HBL2.out⟩
          rw [HST.out, HAC.out]; simp
        case measure => simp [intOf]; omega
    · have hks : k = s.size := by omega
      have hd := ok_done s.data.toList k (by simp; omega) HK.out
      rw [if_pos hd] at hr
      simp only [Prod.mk.injEq] at hr
      obtain ⟨rfl, rfl⟩ := hr
      have he : acc = 34 :: s.data.toList.flatMap quo1 := by have := HAC.out; rwa [List.take_of_length_le (by simp; omega)] at this
      have HE := Lib.hid he
      subst hks
      clear hd he
      go_wp2_with fail
      refine (writeByte_any w.heap.size w.heap.size (cellsB acc) _ _ HB.out (by simp only [cellsB_length, List.length_append, List.length_cons, List.length_nil]; have := HAL.out; omega) (by have := HBL.out.size; omega)).mono ?_
      rintro e w2 ⟨rfl, hB2, hbl2⟩
      have hB3 : Bld w.heap.size w.heap.size (cellsB (acc ++ [34])) w2 := bld_acc hB2 rfl
      have HB2 := Lib.hid hB3
      have HBL2 := Lib.hid (HBL.out.trans hbl2)
      clear hB2 hbl2 hB3
      go_wp2_with fail
      refine (Try.Builder_String_any w.heap.size w.heap.size (acc ++ [34]) _ HB2.out (by have := HBL2.out.size; omega)).mono ?_
      rintro e w3 ⟨rfl, hbl3⟩
      have HBL3 := Lib.hid (HBL2.out.trans hbl3)
      clear hbl3
      go_wp2_with fail
      go_ret2
      rw [HE.out]
      exact ⟨rfl, Ext.of_below HBL3.out⟩
end Go.Proofs.Ytoaaklcbcbjaiaa

namespace Go.Proofs.Ytoaaklcbcbjaiaa
open Go.RowKit
attribute [go_sem] more_more Array.size_append
open Go.Maps (Keyed string_keyed IsMap)
def closeTab : List (List UInt8 × Int) := [([111, 114], 0), ([97, 110, 100], 1), ([61, 61], 2), ([33, 61], 2), ([60], 2), ([60, 61], 2), ([62], 2), ([62, 61], 2), ([46, 46], 3), ([43], 4), ([45], 4), ([42], 5), ([47], 5), ([37], 5)]
/-- how close a sign or a word binds -/
def closeO (l : List UInt8) : Option Int := (closeTab.find? fun p => p.1 == l).map fun p => p.2
def closeD : DataW Unit := closeTab.foldl (fun D p => D.put (.string p.1) (.lit (.int .i64 p.2))) (.map [])
theorem lawSM : Keyed Try.prog 9 := string_keyed Try.underlying9
theorem zeroIM (w : World) : (zeroValue 3).run Try.prog w = .ok (.int .i64 0) w := by kernel_rfl
theorem close_mem (l : List UInt8) : (l = [111, 114] ∨ l = [97, 110, 100] ∨ l = [61, 61] ∨ l = [33, 61] ∨ l = [60] ∨ l = [60, 61] ∨ l = [62] ∨ l = [62, 61] ∨ l = [46, 46] ∨ l = [43] ∨ l = [45] ∨ l = [42] ∨ l = [47] ∨ l = [37]) ∨ (([111, 114] == l) = false ∧ ([97, 110, 100] == l) = false ∧ ([61, 61] == l) = false ∧ ([33, 61] == l) = false ∧ ([60] == l) = false ∧ ([60, 61] == l) = false ∧ ([62] == l) = false ∧ ([62, 61] == l) = false ∧ ([46, 46] == l) = false ∧ ([43] == l) = false ∧ ([45] == l) = false ∧ ([42] == l) = false ∧ ([47] == l) = false ∧ ([37] == l) = false) := by
  by_cases h : l = [111, 114] ∨ l = [97, 110, 100] ∨ l = [61, 61] ∨ l = [33, 61] ∨ l = [60] ∨ l = [60, 61] ∨ l = [62] ∨ l = [62, 61] ∨ l = [46, 46] ∨ l = [43] ∨ l = [45] ∨ l = [42] ∨ l = [47] ∨ l = [37]
  · exact Or.inl h
  · right
    have k : ∀ x : List UInt8, l ≠ x → (x == l) = false := fun x hx => by simpa using fun e => hx e.symm
    simp only [not_or] at h
    obtain ⟨a0, a1, a2, a3, a4, a5, a6, a7, a8, a9, a10, a11, a12, a13⟩ := h
    exact ⟨k _ a0, k _ a1, k _ a2, k _ a3, k _ a4, k _ a5, k _ a6, k _ a7, k _ a8, k _ a9, k _ a10, k _ a11, k _ a12, k _ a13⟩
def closeKeys : Bool := match closeD with
  | .map es => es.all fun p => match p.1 with
    | .string a => closeTab.any fun q => q.1 == a
    | _ => false
  | _ => false
theorem closeKeys_ok : closeKeys = true := by kernel_rfl
theorem close_key (l : List UInt8) : Maps.has closeD (.string l) = (closeO l).isSome ∧ closeD.atKey (.string l) (.lit (.int .i64 0)) = .lit (.int .i64 ((closeO l).getD 0)) := by
  rcases close_mem l with h | h
  · rcases h with rfl | rfl | rfl | rfl | rfl | rfl | rfl | rfl | rfl | rfl | rfl | rfl | rfl | rfl <;> exact ⟨by kernel_rfl, by kernel_rfl⟩
  obtain ⟨a0, a1, a2, a3, a4, a5, a6, a7, a8, a9, a10, a11, a12, a13⟩ := h
  have hn : closeO l = none := by
    unfold closeO closeTab
    simp only [List.find?_cons, List.find?_nil, a0, a1, a2, a3, a4, a5, a6, a7, a8, a9, a10, a11, a12, a13]
    rfl
  rw [hn]
  have hno : ∀ a : List UInt8, (closeTab.any fun q => q.1 == a) = true → (a == l) = false := by
    intro a ha
    simp only [closeTab, List.any_cons, List.any_nil, Bool.or_false, Bool.or_eq_true, beq_iff_eq] at ha
    rcases ha with rfl | rfl | rfl | rfl | rfl | rfl | rfl | rfl | rfl | rfl | rfl | rfl | rfl | rfl
    all_goals assumption
  have hk := closeKeys_ok
  unfold closeKeys at hk
  cases hD : closeD with
  | map es =>
    rw [hD] at hk
    have hf : ∀ p ∈ es, p.1.sameKey (.string l) = false := by
      intro p hp
      have h1 := List.all_eq_true.1 hk p hp
      rcases p with ⟨k, d⟩
      cases k with
      | string a => exact hno a h1
      | _ => cases h1
    refine ⟨?_, ?_⟩
    · rw [Maps.has_eq]
      rw [List.any_eq_false.2 (fun p hp => by rw [hf p hp]; simp)]; rfl
    · unfold DataW.atKey
      dsimp only
      rw [List.find?_eq_none.2 (fun p hp => by rw [hf p hp]; simp)]; rfl
  | _ => rw [hD] at hk; cases hk
set_option maxHeartbeats 1000000 in
set_option maxRecDepth 20000 in
theorem closeness_any (w : World) : Calls Try.prog 126 #[] w fun e w' => ∃ B, e = .returned (.map (some B)) ∧ w'.ownsMap Try.prog 9 (plainElem Try.prog 3) B 14 closeD ∧ Ext w w' := by
  have hmm := @run_makeMap Try.prog
  have HO0 := World.ownsMap_made w Try.prog 9 (plainElem (H := Unit) Try.prog 3)
  have HX0 : Ext w (w.alloc (.map #[] 0)) := (Ext.refl w).alloc _
  obtain ⟨w1, hr1, HO1, hg1⟩ := HO0.update lawSM Try.underlying146 (by unfold maxLen; omega) (key := .string ⟨#[111, 114]⟩) (val := .int .i64 0) (WideMaps.keyOf_string_mk Try.underlying9 (by decide)) (plainElem_int Try.underlying3 (by decide))
  have HX1 : Ext w w1 := HX0.grown hg1 (fun k hk => by simp at hk; omega)
  obtain ⟨w2, hr2, HO2, hg2⟩ := HO1.update lawSM Try.underlying146 (by unfold maxLen; omega) (key := .string ⟨#[97, 110, 100]⟩) (val := .int .i64 1) (WideMaps.keyOf_string_mk Try.underlying9 (by decide)) (plainElem_int Try.underlying3 (by decide))
  have HX2 : Ext w w2 := HX1.grown hg2 (fun k hk => by simp at hk; omega)
  obtain ⟨w3, hr3, HO3, hg3⟩ := HO2.update lawSM Try.underlying146 (by unfold maxLen; omega) (key := .string ⟨#[61, 61]⟩) (val := .int .i64 2) (WideMaps.keyOf_string_mk Try.underlying9 (by decide)) (plainElem_int Try.underlying3 (by decide))
  have HX3 : Ext w w3 := HX2.grown hg3 (fun k hk => by simp at hk; omega)
  obtain ⟨w4, hr4, HO4, hg4⟩ := HO3.update lawSM Try.underlying146 (by unfold maxLen; omega) (key := .string ⟨#[33, 61]⟩) (val := .int .i64 2) (WideMaps.keyOf_string_mk Try.underlying9 (by decide)) (plainElem_int Try.underlying3 (by decide))
  have HX4 : Ext w w4 := HX3.grown hg4 (fun k hk => by simp at hk; omega)
  obtain ⟨w5, hr5, HO5, hg5⟩ := HO4.update lawSM Try.underlying146 (by unfold maxLen; omega) (key := .string ⟨#[60]⟩) (val := .int .i64 2) (WideMaps.keyOf_string_mk Try.underlying9 (by decide)) (plainElem_int Try.underlying3 (by decide))
  have HX5 : Ext w w5 := HX4.grown hg5 (fun k hk => by simp at hk; omega)
  obtain ⟨w6, hr6, HO6, hg6⟩ := HO5.update lawSM Try.underlying146 (by unfold maxLen; omega) (key := .string ⟨#[60, 61]⟩) (val := .int .i64 2) (WideMaps.keyOf_string_mk Try.underlying9 (by decide)) (plainElem_int Try.underlying3 (by decide))
  have HX6 : Ext w w6 := HX5.grown hg6 (fun k hk => by simp at hk; omega)
  obtain ⟨w7, hr7, HO7, hg7⟩ := HO6.update lawSM Try.underlying146 (by unfold maxLen; omega) (key := .string ⟨#[62]⟩) (val := .int .i64 2) (WideMaps.keyOf_string_mk Try.underlying9 (by decide)) (plainElem_int Try.underlying3 (by decide))
  have HX7 : Ext w w7 := HX6.grown hg7 (fun k hk => by simp at hk; omega)
  obtain ⟨w8, hr8, HO8, hg8⟩ := HO7.update lawSM Try.underlying146 (by unfold maxLen; omega) (key := .string ⟨#[62, 61]⟩) (val := .int .i64 2) (WideMaps.keyOf_string_mk Try.underlying9 (by decide)) (plainElem_int Try.underlying3 (by decide))
  have HX8 : Ext w w8 := HX7.grown hg8 (fun k hk => by simp at hk; omega)
  obtain ⟨w9, hr9, HO9, hg9⟩ := HO8.update lawSM Try.underlying146 (by unfold maxLen; omega) (key := .string ⟨#[46, 46]⟩) (val := .int .i64 3) (WideMaps.keyOf_string_mk Try.underlying9 (by decide)) (plainElem_int Try.underlying3 (by decide))
  have HX9 : Ext w w9 := HX8.grown hg9 (fun k hk => by simp at hk; omega)
  obtain ⟨w10, hr10, HO10, hg10⟩ := HO9.update lawSM Try.underlying146 (by unfold maxLen; omega) (key := .string ⟨#[43]⟩) (val := .int .i64 4) (WideMaps.keyOf_string_mk Try.underlying9 (by decide)) (plainElem_int Try.underlying3 (by decide))
  have HX10 : Ext w w10 := HX9.grown hg10 (fun k hk => by simp at hk; omega)
  obtain ⟨w11, hr11, HO11, hg11⟩ := HO10.update lawSM Try.underlying146 (by unfold maxLen; omega) (key := .string ⟨#[45]⟩) (val := .int .i64 4) (WideMaps.keyOf_string_mk Try.underlying9 (by decide)) (plainElem_int Try.underlying3 (by decide))
  have HX11 : Ext w w11 := HX10.grown hg11 (fun k hk => by simp at hk; omega)
  obtain ⟨w12, hr12, HO12, hg12⟩ := HO11.update lawSM Try.underlying146 (by unfold maxLen; omega) (key := .string ⟨#[42]⟩) (val := .int .i64 5) (WideMaps.keyOf_string_mk Try.underlying9 (by decide)) (plainElem_int Try.underlying3 (by decide))
  have HX12 : Ext w w12 := HX11.grown hg12 (fun k hk => by simp at hk; omega)
  obtain ⟨w13, hr13, HO13, hg13⟩ := HO12.update lawSM Try.underlying146 (by unfold maxLen; omega) (key := .string ⟨#[47]⟩) (val := .int .i64 5) (WideMaps.keyOf_string_mk Try.underlying9 (by decide)) (plainElem_int Try.underlying3 (by decide))
  have HX13 : Ext w w13 := HX12.grown hg13 (fun k hk => by simp at hk; omega)
  obtain ⟨w14, hr14, HO14, hg14⟩ := HO13.update lawSM Try.underlying146 (by unfold maxLen; omega) (key := .string ⟨#[37]⟩) (val := .int .i64 5) (WideMaps.keyOf_string_mk Try.underlying9 (by decide)) (plainElem_int Try.underlying3 (by decide))
  have HX14 : Ext w w14 := HX13.grown hg14 (fun k hk => by simp at hk; omega)
  clear HO0 HO1 HO2 HO3 HO4 HO5 HO6 HO7 HO8 HO9 HO10 HO11 HO12 HO13 HX0 HX1 HX2 HX3 HX4 HX5 HX6 HX7 HX8 HX9 HX10 HX11 HX12 HX13 hg1 hg2 hg3 hg4 hg5 hg6 hg7 hg8 hg9 hg10 hg11 hg12 hg13 hg14
  have H1 := Lib.hid HO14
  have H2 := Lib.hid HX14
  clear HO14 HX14
  go_enter Try.func126, Try.ntmps126
  go_wp2_with fail
  go_ret
  exact ⟨_, rfl, H1.out, H2.out⟩
/-- how close a node binds -/
def closeF (k : Int) (s : ByteArray) : Int := if k < 0 ∨ 11 < k then -1 else if k < 11 then 6 else (closeO s.data.toList).getD (-1)
theorem look_close {w : World} {B : Nat} (h : w.ownsMap Try.prog 9 (plainElem (H := Unit) Try.prog 3) B 14 closeD) (s : ByteArray) (hs : s.size ≤ maxLen) :
    (Instr.lookup 146 (.map (some B)) (.string s) true).run Try.prog w = .ok (.tuple #[.int .i64 ((closeO s.data.toList).getD 0), .bool (closeO s.data.toList).isSome]) w := by
  obtain ⟨v, ps, hr, hv⟩ := h.look_ok lawSM Try.underlying146 (zeroIM w) (plainElem_int Try.underlying3 (by decide)) (WideMaps.keyOf_string_mk Try.underlying9 hs)
  obtain ⟨h7, h8⟩ := close_key s.data.toList
  rw [h7] at hr
  rw [h8] at hv
  obtain ⟨a, rfl, ha, _⟩ := plainElem_int_inv Try.underlying3 hv
  simp only [Prod.mk.injEq, DataW.lit.injEq, Lit.int.injEq, true_and] at ha
  rw [hr, ← ha.1]
def CloMap : Fact := fun v W => ∃ B, v = .map (some B) ∧ W.ownsMap Try.prog 9 (plainElem (H := Unit) Try.prog 3) B 14 closeD
theorem CloMap.upc : Upc CloMap := by
  rintro v W W' hx ⟨B, hv, ho⟩
  have hb := hx.below
  exact ⟨B, hv, ho.kept (row := none) ⟨hb.os, hb.tape, hb.output, hb.size, fun k hk _ => hb.block k hk⟩ (by simp)⟩
set_option maxHeartbeats 2000000 in
set_option maxRecDepth 20000 in
theorem close_any (zk za zb zc zx zi : Int) (zs zt : ByteArray) (hs : zs.size ≤ maxLen) (w : World) : Calls Try.prog 109 #[.agg #[.int .i64 zk, .int .i64 za, .int .i64 zb, .int .i64 zc, .int .i64 zx, .int .i64 zi, .string zs, .string zt]] w fun e w' => e = .returned (.int .i64 (closeF zk zs)) ∧ Ext w w' := by
  by_cases h0 : zk < 0
  · have hc : closeF zk zs = -1 := by unfold closeF; rw [if_pos (Or.inl h0)]
    rw [hc]
    go_enter Try.func109, Try.ntmps109
    go_wp2_with fail
    go_ret
    exact ⟨rfl, (by repeat (first | exact Ext.refl _ | apply Ext.alloc | apply Ext.more | (refine Ext.setCell ?_ (by simp) _)))⟩
  by_cases h1 : 11 < zk
  · have hc : closeF zk zs = -1 := by unfold closeF; rw [if_pos (Or.inr h1)]
    rw [hc]
    have h2 : 0 ≤ zk := by omega
    clear h0
    go_enter Try.func109, Try.ntmps109
    go_wp2_with fail
    go_ret
    exact ⟨rfl, (by repeat (first | exact Ext.refl _ | apply Ext.alloc | apply Ext.more | (refine Ext.setCell ?_ (by simp) _)))⟩
  by_cases h3 : zk < 11
  · have hc : closeF zk zs = 6 := by unfold closeF; rw [if_neg (by omega), if_pos h3]
    rw [hc]
    have h2 : 0 ≤ zk := by omega
    have h4 : zk ≤ 11 := by omega
    clear h0 h1
    go_enter Try.func109, Try.ntmps109
    go_wp2_with fail
    go_ret
    exact ⟨rfl, (by repeat (first | exact Ext.refl _ | apply Ext.alloc | apply Ext.more | (refine Ext.setCell ?_ (by simp) _)))⟩
  have h5 : zk = 11 := by omega
  subst h5
  have hc : closeF 11 zs = (closeO zs.data.toList).getD (-1) := rfl
  rw [hc]
  have CL := Lib.hid closeness_any
  obtain ⟨O, hO⟩ : ∃ O, closeO zs.data.toList = O := ⟨_, rfl⟩
  have LK := Lib.hid (fun (w : World) (B : Nat) h => look_close (w := w) (B := B) h zs hs)
  rw [hO] at LK ⊢
  clear hO h0 h1 h3 hc hs
  go_enter Try.func109, Try.ntmps109
  go_wp2_with fail
  refine wp_region_grow 9 28 [false, false, false, false, false, false, false, false, false] (by kernel_rfl) (by kernel_rfl) rfl ?_
  simp only [List.take_succ_cons, List.take_zero, List.drop_succ_cons, List.drop_zero]
  refine Lex.gap 19 CloMap rfl CloMap.upc rfl (fun d os => ?_) ?_
  · unfold StepG
    go_simp
    exact (CL.out _).mono fun e w' ⟨B, he, ho, hx⟩ => ⟨_, he, hx, B, rfl, ho⟩
  iterate 2 (refine Lex.step rfl ?_; intro K hK; unfold StepG; go_simp; refine hK _ ?_; clear hK K)
  refine Lex.go1 (.tuple #[.int .i64 (O.getD 0), .bool O.isSome]) 19 CloMap rfl (fun u d os hu => ?_) ?_
  · obtain ⟨B, rfl, ho⟩ := hu
    have hlk := LK.out _ _ ho
    clear ho
    unfold StepG
    go_simp
  go_simp
  iterate 5 (refine Lex.step rfl ?_; intro K hK; unfold StepG; go_simp; refine hK _ ?_; clear hK K)
  refine Lex.nil fun WW hE => ?_
  intro u hu
  obtain ⟨dd, oo, rfl⟩ := hE
  clear hu
  go_simp
  unfold FillH
  go_wp2_with fail
  try rw [ends_normal]
  cases O with
  | none =>
    go_wp2_with fail
    go_ret
    exact ⟨rfl, (by repeat (first | exact Ext.refl _ | apply Ext.alloc | apply Ext.more | (refine Ext.setCell ?_ (by simp) _)))⟩
  | some v =>
    go_wp2_with fail
    go_ret
    exact ⟨rfl, (by repeat (first | exact Ext.refl _ | apply Ext.alloc | apply Ext.more | (refine Ext.setCell ?_ (by simp) _)))⟩
def shA (k : Int) : Bool := [5, 6, 7, 8, 9, 10, 23, 27, 28, 11, 22, 20, 21, 24, 25].contains k
def shB (k : Int) : Bool := [11, 22].contains k
def shBB (k : Int) : Bool := [24, 25, 26].contains k
def shBC (k : Int) : Bool := [24].contains k
def shS (k : Int) : Bool := [4, 20, 21, 25].contains k
def shT (k : Int) : Bool := [25].contains k
def isKind (k : Int) : Bool := [0, 1, 2, 3, 4, 5, 6, 7, 8, 9, 10, 11, 20, 21, 22, 23, 24, 25, 26, 27, 28].contains k
theorem kind_cases (k : Int) : (k = 0 ∨ k = 1 ∨ k = 2 ∨ k = 3 ∨ k = 4 ∨ k = 5 ∨ k = 6 ∨ k = 7 ∨ k = 8 ∨ k = 9 ∨ k = 10 ∨ k = 11 ∨ k = 20 ∨ k = 21 ∨ k = 22 ∨ k = 23 ∨ k = 24 ∨ k = 25 ∨ k = 26 ∨ k = 27 ∨ k = 28) ∨ ((k == 0) = false ∧ (k == 1) = false ∧ (k == 2) = false ∧ (k == 3) = false ∧ (k == 4) = false ∧ (k == 5) = false ∧ (k == 6) = false ∧ (k == 7) = false ∧ (k == 8) = false ∧ (k == 9) = false ∧ (k == 10) = false ∧ (k == 11) = false ∧ (k == 20) = false ∧ (k == 21) = false ∧ (k == 22) = false ∧ (k == 23) = false ∧ (k == 24) = false ∧ (k == 25) = false ∧ (k == 26) = false ∧ (k == 27) = false ∧ (k == 28) = false) := by
  by_cases h : k = 0 ∨ k = 1 ∨ k = 2 ∨ k = 3 ∨ k = 4 ∨ k = 5 ∨ k = 6 ∨ k = 7 ∨ k = 8 ∨ k = 9 ∨ k = 10 ∨ k = 11 ∨ k = 20 ∨ k = 21 ∨ k = 22 ∨ k = 23 ∨ k = 24 ∨ k = 25 ∨ k = 26 ∨ k = 27 ∨ k = 28
  · exact Or.inl h
  · right
    simp only [not_or] at h
    simp only [beq_eq_false_iff_ne, ne_eq]
    exact h
theorem sh_none (k : Int) (h : (k == 0) = false ∧ (k == 1) = false ∧ (k == 2) = false ∧ (k == 3) = false ∧ (k == 4) = false ∧ (k == 5) = false ∧ (k == 6) = false ∧ (k == 7) = false ∧ (k == 8) = false ∧ (k == 9) = false ∧ (k == 10) = false ∧ (k == 11) = false ∧ (k == 20) = false ∧ (k == 21) = false ∧ (k == 22) = false ∧ (k == 23) = false ∧ (k == 24) = false ∧ (k == 25) = false ∧ (k == 26) = false ∧ (k == 27) = false ∧ (k == 28) = false) : isKind k = false ∧ shA k = false ∧ shB k = false ∧ shBB k = false ∧ shBC k = false ∧ shS k = false ∧ shT k = false := by
  obtain ⟨a0, a1, a2, a3, a4, a5, a6, a7, a8, a9, a10, a11, a20, a21, a22, a23, a24, a25, a26, a27, a28⟩ := h
  have c : ∀ (x : Int) (l : List Int), (x :: l).contains k = (k == x || l.contains k) := fun x l => by rw [List.contains_cons]
  have n : ([] : List Int).contains k = false := rfl
  refine ⟨?_, ?_, ?_, ?_, ?_, ?_, ?_⟩
  · unfold isKind; simp only [c, n, a0, a1, a2, a3, a4, a5, a6, a7, a8, a9, a10, a11, a20, a21, a22, a23, a24, a25, a26, a27, a28, Bool.or_self]
  · unfold shA; simp only [c, n, a5, a6, a7, a8, a9, a10, a23, a27, a28, a11, a22, a20, a21, a24, a25, Bool.or_self]
  · unfold shB; simp only [c, n, a11, a22, Bool.or_self]
  · unfold shBB; simp only [c, n, a24, a25, a26, Bool.or_self]
  · unfold shBC; simp only [c, n, a24, Bool.or_self]
  · unfold shS; simp only [c, n, a4, a20, a21, a25, Bool.or_self]
  · unfold shT; simp only [c, n, a25, Bool.or_self]
set_option maxHeartbeats 4000000 in
set_option maxRecDepth 20000 in
theorem shape_any (k : Int) (w : World) : Calls Try.prog 84 #[.int .i64 k] w fun e w' => e = .returned (.tuple #[.agg #[.bool (shA k), .bool (shB k), .bool (shBB k), .bool (shBC k), .bool (shS k), .bool (shT k)], .bool (isKind k)]) ∧ Ext w w' := by
  rcases kind_cases k with h | h
  · rcases h with rfl | rfl | rfl | rfl | rfl | rfl | rfl | rfl | rfl | rfl | rfl | rfl | rfl | rfl | rfl | rfl | rfl | rfl | rfl | rfl | rfl
    all_goals
      go_enter Try.func84, Try.ntmps84
      go_wp2_with fail
      refine bodyPost_ret (by simp [results, Try.results84, go_sem]; rfl) rfl ⟨?_, (by repeat (first | exact Ext.refl _ | apply Ext.alloc | apply Ext.more | (refine Ext.setCell ?_ (by simp) _)))⟩
      kernel_rfl
  · obtain ⟨s0, s1, s2, s3, s4, s5, s6⟩ := sh_none k h
    rw [s0, s1, s2, s3, s4, s5, s6]
    obtain ⟨a0, a1, a2, a3, a4, a5, a6, a7, a8, a9, a10, a11, a20, a21, a22, a23, a24, a25, a26, a27, a28⟩ := h
    go_enter Try.func84, Try.ntmps84
    go_wp2_with fail
    exact bodyPost_ret (v := .tuple #[.agg #[.bool false, .bool false, .bool false, .bool false, .bool false, .bool false], .bool false]) (by simp [results, Try.results84, go_sem]) rfl ⟨rfl, (by repeat (first | exact Ext.refl _ | apply Ext.alloc | apply Ext.more | (refine Ext.setCell ?_ (by simp) _)))⟩
/-- may a node have its number? -/
def numOk (k c i : Int) : Bool :=
  if k = 2 then decide (0 ≤ i) else if k = 1 then (i == 0 || i == 1) else if k = 24 then (i == 1 || (i == 0 && c == -1)) else if k = 25 ∨ k = 26 then (decide (0 ≤ i) && decide (i ≤ 64)) else i == 0
set_option maxHeartbeats 4000000 in
set_option maxRecDepth 20000 in
theorem num_any (zk za zb zc zx zi : Int) (zs zt : ByteArray) (w : World) : Calls Try.prog 85 #[.agg #[.int .i64 zk, .int .i64 za, .int .i64 zb, .int .i64 zc, .int .i64 zx, .int .i64 zi, .string zs, .string zt]] w fun e w' => e = .returned (.bool (numOk zk zc zi)) ∧ Ext w w' := by
  by_cases h2 : zk = 2
  · subst h2
    have hr : numOk 2 zc zi = decide (0 ≤ zi) := rfl
    rw [hr]
    by_cases hi : 0 ≤ zi
    · rw [decide_eq_true hi]
      go_enter Try.func85, Try.ntmps85
      go_wp2_with fail
      go_ret
      exact ⟨ret_bool (by first | rfl | (simp; done) | (simp; omega)), (by repeat (first | exact Ext.refl _ | apply Ext.alloc | apply Ext.more | (refine Ext.setCell ?_ (by simp) _)))⟩
    · rw [decide_eq_false hi]
      have hi2 : zi < 0 := by omega
      clear hi
      go_enter Try.func85, Try.ntmps85
      go_wp2_with fail
      go_ret
      exact ⟨ret_bool (by first | rfl | (simp; done) | (simp; omega)), (by repeat (first | exact Ext.refl _ | apply Ext.alloc | apply Ext.more | (refine Ext.setCell ?_ (by simp) _)))⟩
  by_cases h1 : zk = 1
  · subst h1
    have hr : numOk 1 zc zi = (zi == 0 || zi == 1) := rfl
    rw [hr]
    cases q0 : (zi == 0) <;> cases q1 : (zi == 1)
    all_goals
      go_enter Try.func85, Try.ntmps85
      go_wp2_with fail
      go_ret
      exact ⟨ret_bool (by first | rfl | (simp; done) | (simp; omega)), (by repeat (first | exact Ext.refl _ | apply Ext.alloc | apply Ext.more | (refine Ext.setCell ?_ (by simp) _)))⟩
  by_cases h24 : zk = 24
  · subst h24
    have hr : numOk 24 zc zi = (zi == 1 || (zi == 0 && zc == -1)) := rfl
    rw [hr]
    cases q1 : (zi == 1) <;> cases q0 : (zi == 0) <;> cases qc : (zc == -1)
    all_goals
      go_enter Try.func85, Try.ntmps85
      go_wp2_with fail
      go_ret
      exact ⟨ret_bool (by first | rfl | (simp; done) | (simp; omega)), (by repeat (first | exact Ext.refl _ | apply Ext.alloc | apply Ext.more | (refine Ext.setCell ?_ (by simp) _)))⟩
  have q2 : (zk == 2) = false := by simpa using h2
  have q1 : (zk == 1) = false := by simpa using h1
  have q24 : (zk == 24) = false := by simpa using h24
  by_cases h25 : zk = 25 ∨ zk = 26
  · have hr : numOk zk zc zi = (decide (0 ≤ zi) && decide (zi ≤ 64)) := by unfold numOk; rw [if_neg h2, if_neg h1, if_neg h24, if_pos h25]
    rw [hr]
    clear q2 q1 q24 h2 h1 h24 hr
    by_cases hi : 0 ≤ zi
    · rw [decide_eq_true hi]
      by_cases hj : zi ≤ 64
      · rw [decide_eq_true hj]
        rcases h25 with rfl | rfl
        all_goals
          go_enter Try.func85, Try.ntmps85
          go_wp2_with fail
          go_ret
          exact ⟨ret_bool (by first | rfl | (simp; done) | (simp; omega)), (by repeat (first | exact Ext.refl _ | apply Ext.alloc | apply Ext.more | (refine Ext.setCell ?_ (by simp) _)))⟩
      · rw [decide_eq_false hj]
        have hj2 : 64 < zi := by omega
        clear hj
        rcases h25 with rfl | rfl
        all_goals
          go_enter Try.func85, Try.ntmps85
          go_wp2_with fail
          go_ret
          exact ⟨ret_bool (by first | rfl | (simp; done) | (simp; omega)), (by repeat (first | exact Ext.refl _ | apply Ext.alloc | apply Ext.more | (refine Ext.setCell ?_ (by simp) _)))⟩
    · rw [decide_eq_false hi]
      have hi2 : zi < 0 := by omega
      clear hi
      rcases h25 with rfl | rfl
      all_goals
        go_enter Try.func85, Try.ntmps85
        go_wp2_with fail
        go_ret
        exact ⟨ret_bool (by first | rfl | (simp; done) | (simp; omega)), (by repeat (first | exact Ext.refl _ | apply Ext.alloc | apply Ext.more | (refine Ext.setCell ?_ (by simp) _)))⟩
  have hr : numOk zk zc zi = (zi == 0) := by unfold numOk; rw [if_neg h2, if_neg h1, if_neg h24, if_neg h25]
  rw [hr]
  have q25 : (zk == 25) = false := by simp; exact fun e => h25 (Or.inl e)
  have q26 : (zk == 26) = false := by simp; exact fun e => h25 (Or.inr e)
  clear h2 h1 h24 h25 hr
  cases q0 : (zi == 0)
  all_goals
    go_enter Try.func85, Try.ntmps85
    go_wp2_with fail
    go_ret
    exact ⟨ret_bool (by first | rfl | (simp; done) | (simp; omega)), (by repeat (first | exact Ext.refl _ | apply Ext.alloc | apply Ext.more | (refine Ext.setCell ?_ (by simp) _)))⟩
theorem tokcM {w : World} {base g cap n : Nat} {l : List (Tok × Nat)} (h : w.ownsRow base 57 4 (.slice (some ⟨g, 0, none⟩) n cap) n (tokCells l)) (j : Nat) (u : Value) (hj : (tokCells l)[j]? = some u) : w.cell? ⟨g, j, none⟩ = some u := by
  have := h.cells (g := g) rfl j u hj
  rwa [Addr.add_lit, Nat.zero_add] at this
/-- is it a name? -/
def nameR (r : List (Tok × Nat) × Int × Nat) (s : ByteArray) : Bool := r.2.1 == 0 && (match r.1 with | [t, _] => t.1.k == 1 && t.1.s.toList == s.toList | _ => false)
def nameOk (s : ByteArray) : Bool := nameR (lexF s.data.toList) s
set_option maxHeartbeats 4000000 in
set_option maxRecDepth 20000 in
theorem name1_ok (s : ByteArray) (w : World) : Calls Try.prog 107 #[.string s] w fun e w' => e = .returned (.bool (nameOk s)) ∧ Ext w w' := by
  unfold nameOk
  obtain ⟨l, e, x, hl⟩ : ∃ l e x, lexF s.data.toList = (l, e, x) := ⟨_, _, _, rfl⟩
  have T := Lib.hid (tokens_any s _ hl)
  rw [hl]
  clear hl
  by_cases he : e = 0
  rotate_left
  · have q0 : (e == 0) = false := by simpa using he
    have hr : nameR (l, e, x) s = false := by
      unfold nameR
      dsimp only
      rw [q0, Bool.false_and]
    clear q0
    rw [hr]
    have HE := Lib.hid he
    have q : (e == 0) = false := by simpa using he
    clear hr he
    go_enter Try.func107, Try.ntmps107
    go_wp2_with ((go_at_call 35; (with_reducible refine (T.out _).mono ?_); rintro e' w1 (⟨h2, _⟩ | ⟨_, he, d1, os1, rfl⟩); exact absurd h2 HE.out; dsimp only at he; subst he))
    go_ret
    exact ⟨rfl, (by repeat (first | exact Ext.refl _ | apply Ext.alloc | apply Ext.more | (refine Ext.setCell ?_ (by simp) _)))⟩
  subst he
  by_cases h2 : l.length = 2
  rotate_left
  · have hr : nameR (l, 0, x) s = false := by
      unfold nameR
      match l, h2 with
      | [], _ => rfl
      | [_], _ => rfl
      | [_, _], h => exact absurd rfl h
      | _ :: _ :: _ :: _, _ => rfl
    rw [hr]
    have q : (((l.length : Nat) : Int) == 2) = false := beq_eq_false_iff_ne.2 (by omega)
    clear hr h2
    go_enter Try.func107, Try.ntmps107
    go_wp2_with ((go_at_call 35; (with_reducible refine (T.out _).mono ?_); rintro e' w1 (⟨_, g, cap, he, hrow, d1, os1, rfl⟩ | ⟨h2, _⟩); rotate_left; exact absurd rfl h2; dsimp only at he; subst he; clear hrow))
    go_ret
    exact ⟨rfl, (by repeat (first | exact Ext.refl _ | apply Ext.alloc | apply Ext.more | (refine Ext.setCell ?_ (by simp) _)))⟩
  match l, h2 with
  | [((⟨tk, ts, ti⟩ : Tok), p0), t1], _ =>
    have hr : nameR ([((⟨tk, ts, ti⟩ : Tok), p0), t1], 0, x) s = (tk == 1 && ts.toList == s.toList) := rfl
    rw [hr]
    cases q1 : (tk == 1) <;> cases q2 : (ts.toList == s.toList)
    all_goals
      go_enter Try.func107, Try.ntmps107
      go_wp2_with ((go_at_call 35; (with_reducible refine (T.out _).mono ?_); rintro e' w1 (⟨_, g, cap, he, hrow, hx⟩ | ⟨h2, _⟩); rotate_left; exact absurd rfl h2; dsimp only [List.length_cons, List.length_nil] at he hrow; subst he; have hgs := (hrow.lt g rfl).2; have k0 := tokcM hrow 0 _ rfl; have k2 := tokcM hrow 2 _ rfl; clear hrow; have HX := Lib.hid hx; clear hx))
      go_ret
      exact ⟨rfl, HX.out.trans (by repeat (first | exact Ext.refl _ | apply Ext.alloc | apply Ext.more))⟩
end Go.Proofs.Ytoaaklcbcbjaiaa

namespace Go.Proofs.Ytoaaklcbcbjaiaa
open Go.RowKit
attribute [go_sem] more_more Array.size_append
def quotOk (s : ByteArray) : Bool := (quoteF s.data.toList).2 == 0
set_option maxHeartbeats 1000000 in
theorem quoted_any (s : ByteArray) (w : World) : Calls Try.prog 108 #[.string s] w fun e w' => e = .returned (.bool (quotOk s)) ∧ Ext w w' := by
  unfold quotOk
  obtain ⟨q, er, hq⟩ : ∃ q er, quoteF s.data.toList = (q, er) := ⟨_, _, rfl⟩
  have Q := Lib.hid (quote_any s q er hq)
  rw [hq]
  dsimp only
  clear hq
  cases h : (er == 0)
  all_goals
    go_enter Try.func108, Try.ntmps108
    go_wp2_with ((go_at_call 125; (with_reducible refine (Q.out _).mono ?_); rintro e' _ ⟨rfl, d1, os1, rfl⟩))
    go_ret
    exact ⟨rfl, (by repeat (first | exact Ext.refl _ | apply Ext.alloc | apply Ext.more | (refine Ext.setCell ?_ (by simp) _)))⟩
/-- what stands at S -/
def txt2 (k : Int) (s : ByteArray) (bS : Bool) : Bool := if (k == 3) = true then quotOk s else if (k == 11) = true then decide (0 ≤ closeF k s) else if bS = true then nameOk s else s.toList.isEmpty
/-- what stands at T -/
def txt1 (t : ByteArray) (bT : Bool) : Bool := if bT = true then (!t.toList.isEmpty && nameOk t) else t.toList.isEmpty
set_option maxHeartbeats 4000000 in
set_option maxRecDepth 20000 in
theorem texts_x (zk za zb zc zx zi : Int) (zs zt : ByteArray) (hs : zs.size ≤ maxLen) (b0 b1 b2 b3 bS bT : Bool) (w : World) :
    Calls Try.prog 86 #[.agg #[.int .i64 zk, .int .i64 za, .int .i64 zb, .int .i64 zc, .int .i64 zx, .int .i64 zi, .string zs, .string zt], .agg #[.bool b0, .bool b1, .bool b2, .bool b3, .bool bS, .bool bT]] w fun e w' => e = .returned (.bool (txt1 zt bT && txt2 zk zs bS)) ∧ Ext w w' := by
  have NMT := Lib.hid (fun w1 => name1_ok zt w1)
  have NMS := Lib.hid (fun w1 => name1_ok zs w1)
  have QS := Lib.hid (fun w1 => quoted_any zs w1)
  have CL := Lib.hid (fun w1 => close_any zk za zb zc zx zi zs zt hs w1)
  obtain ⟨NT, hNT⟩ : ∃ NT, nameOk zt = NT := ⟨_, rfl⟩
  obtain ⟨NS, hNS⟩ : ∃ NS, nameOk zs = NS := ⟨_, rfl⟩
  obtain ⟨QQ, hQ⟩ : ∃ QQ, quotOk zs = QQ := ⟨_, rfl⟩
  obtain ⟨CC, hC⟩ : ∃ CC, closeF zk zs = CC := ⟨_, rfl⟩
  rw [hNT] at NMT
  rw [hNS] at NMS
  rw [hQ] at QS
  rw [hC] at CL
  have ht : txt1 zt bT = (if bT = true then (!zt.toList.isEmpty && NT) else zt.toList.isEmpty) := by unfold txt1; rw [hNT]
  rw [ht]
  clear ht hNT
  cases bT
  · rw [if_neg (by simp)]
    cases qt : zt.toList.isEmpty
    · rw [Bool.false_and]
      go_enter Try.func86, Try.ntmps86
      go_wp2_with ((go_at_call 107; (with_reducible refine (NMT.out _).mono ?_); rintro e' _ ⟨rfl, d1, os1, rfl⟩))
      go_ret
      exact ⟨ret_bool (by first | rfl | (simp; done) | (simp; omega)), (by repeat (first | exact Ext.refl _ | apply Ext.alloc | apply Ext.more | (refine Ext.setCell ?_ (by simp) _)))⟩
    · rw [Bool.true_and]
      cases q3 : (zk == 3)
      rotate_left
      · rw [show txt2 zk zs bS = QQ from by unfold txt2; rw [q3, hQ]; rfl]
        go_enter Try.func86, Try.ntmps86
        go_wp2_with (first | ((go_at_call 107; (with_reducible refine (NMT.out _).mono ?_); rintro e' _ ⟨rfl, d1, os1, rfl⟩)) | ((go_at_call 108; (with_reducible refine (QS.out _).mono ?_); rintro e' _ ⟨rfl, d3, os3, rfl⟩)))
        go_ret
        exact ⟨ret_bool (by first | rfl | (simp; done) | (simp; omega)), (by repeat (first | exact Ext.refl _ | apply Ext.alloc | apply Ext.more | (refine Ext.setCell ?_ (by simp) _)))⟩
      cases q11 : (zk == 11)
      rotate_left
      · rw [show txt2 zk zs bS = decide (0 ≤ CC) from by unfold txt2; rw [q3, q11, hC]; rfl]
        by_cases hc0 : 0 ≤ CC
        · rw [decide_eq_true hc0]
          go_enter Try.func86, Try.ntmps86
          go_wp2_with (first | ((go_at_call 107; (with_reducible refine (NMT.out _).mono ?_); rintro e' _ ⟨rfl, d1, os1, rfl⟩)) | ((go_at_call 109; (with_reducible refine (CL.out _).mono ?_); rintro e' _ ⟨rfl, d4, os4, rfl⟩)))
          go_ret
          exact ⟨ret_bool (by first | rfl | (simp; done) | (simp; omega)), (by repeat (first | exact Ext.refl _ | apply Ext.alloc | apply Ext.more | (refine Ext.setCell ?_ (by simp) _)))⟩
        · rw [decide_eq_false hc0]
          have hc1 : CC < 0 := by omega
          clear hc0
          go_enter Try.func86, Try.ntmps86
          go_wp2_with (first | ((go_at_call 107; (with_reducible refine (NMT.out _).mono ?_); rintro e' _ ⟨rfl, d1, os1, rfl⟩)) | ((go_at_call 109; (with_reducible refine (CL.out _).mono ?_); rintro e' _ ⟨rfl, d4, os4, rfl⟩)))
          go_ret
          exact ⟨ret_bool (by first | rfl | (simp; done) | (simp; omega)), (by repeat (first | exact Ext.refl _ | apply Ext.alloc | apply Ext.more | (refine Ext.setCell ?_ (by simp) _)))⟩
      cases bS
      · rw [show txt2 zk zs false = zs.toList.isEmpty from by unfold txt2; rw [q3, q11]; rfl]
        cases qs : zs.toList.isEmpty
        all_goals
          go_enter Try.func86, Try.ntmps86
          go_wp2_with ((go_at_call 107; (with_reducible refine (NMT.out _).mono ?_); rintro e' _ ⟨rfl, d1, os1, rfl⟩))
          go_ret
          exact ⟨ret_bool (by first | rfl | (simp; done) | (simp; omega)), (by repeat (first | exact Ext.refl _ | apply Ext.alloc | apply Ext.more | (refine Ext.setCell ?_ (by simp) _)))⟩
      · rw [show txt2 zk zs true = NS from by unfold txt2; rw [q3, q11, hNS]; rfl]
        go_enter Try.func86, Try.ntmps86
        go_wp2_with (first | ((go_at_call 107; (with_reducible refine (NMT.out _).mono ?_); rintro e' _ ⟨rfl, d1, os1, rfl⟩)) | ((go_at_call 107; (with_reducible refine (NMS.out _).mono ?_); rintro e' _ ⟨rfl, d2, os2, rfl⟩)))
        go_ret
        exact ⟨ret_bool (by first | rfl | (simp; done) | (simp; omega)), (by repeat (first | exact Ext.refl _ | apply Ext.alloc | apply Ext.more | (refine Ext.setCell ?_ (by simp) _)))⟩
  · rw [if_pos rfl]
    cases qt : zt.toList.isEmpty
    · rw [Bool.not_false, Bool.true_and]
      cases NT
      · rw [Bool.false_and]
        go_enter Try.func86, Try.ntmps86
        go_wp2_with ((go_at_call 107; (with_reducible refine (NMT.out _).mono ?_); rintro e' _ ⟨rfl, d1, os1, rfl⟩))
        go_ret
        exact ⟨ret_bool (by first | rfl | (simp; done) | (simp; omega)), (by repeat (first | exact Ext.refl _ | apply Ext.alloc | apply Ext.more | (refine Ext.setCell ?_ (by simp) _)))⟩
      · rw [Bool.true_and]
        cases q3 : (zk == 3)
        rotate_left
        · rw [show txt2 zk zs bS = QQ from by unfold txt2; rw [q3, hQ]; rfl]
          go_enter Try.func86, Try.ntmps86
          go_wp2_with (first | ((go_at_call 107; (with_reducible refine (NMT.out _).mono ?_); rintro e' _ ⟨rfl, d1, os1, rfl⟩)) | ((go_at_call 108; (with_reducible refine (QS.out _).mono ?_); rintro e' _ ⟨rfl, d3, os3, rfl⟩)))
          go_ret
          exact ⟨ret_bool (by first | rfl | (simp; done) | (simp; omega)), (by repeat (first | exact Ext.refl _ | apply Ext.alloc | apply Ext.more | (refine Ext.setCell ?_ (by simp) _)))⟩
        cases q11 : (zk == 11)
        rotate_left
        · rw [show txt2 zk zs bS = decide (0 ≤ CC) from by unfold txt2; rw [q3, q11, hC]; rfl]
          by_cases hc0 : 0 ≤ CC
          · rw [decide_eq_true hc0]
            go_enter Try.func86, Try.ntmps86
            go_wp2_with (first | ((go_at_call 107; (with_reducible refine (NMT.out _).mono ?_); rintro e' _ ⟨rfl, d1, os1, rfl⟩)) | ((go_at_call 109; (with_reducible refine (CL.out _).mono ?_); rintro e' _ ⟨rfl, d4, os4, rfl⟩)))
            go_ret
            exact ⟨ret_bool (by first | rfl | (simp; done) | (simp; omega)), (by repeat (first | exact Ext.refl _ | apply Ext.alloc | apply Ext.more | (refine Ext.setCell ?_ (by simp) _)))⟩
          · rw [decide_eq_false hc0]
            have hc1 : CC < 0 := by omega
            clear hc0
            go_enter Try.func86, Try.ntmps86
            go_wp2_with (first | ((go_at_call 107; (with_reducible refine (NMT.out _).mono ?_); rintro e' _ ⟨rfl, d1, os1, rfl⟩)) | ((go_at_call 109; (with_reducible refine (CL.out _).mono ?_); rintro e' _ ⟨rfl, d4, os4, rfl⟩)))
            go_ret
            exact ⟨ret_bool (by first | rfl | (simp; done) | (simp; omega)), (by repeat (first | exact Ext.refl _ | apply Ext.alloc | apply Ext.more | (refine Ext.setCell ?_ (by simp) _)))⟩
        cases bS
        · rw [show txt2 zk zs false = zs.toList.isEmpty from by unfold txt2; rw [q3, q11]; rfl]
          cases qs : zs.toList.isEmpty
          all_goals
            go_enter Try.func86, Try.ntmps86
            go_wp2_with ((go_at_call 107; (with_reducible refine (NMT.out _).mono ?_); rintro e' _ ⟨rfl, d1, os1, rfl⟩))
            go_ret
            exact ⟨ret_bool (by first | rfl | (simp; done) | (simp; omega)), (by repeat (first | exact Ext.refl _ | apply Ext.alloc | apply Ext.more | (refine Ext.setCell ?_ (by simp) _)))⟩
        · rw [show txt2 zk zs true = NS from by unfold txt2; rw [q3, q11, hNS]; rfl]
          go_enter Try.func86, Try.ntmps86
          go_wp2_with (first | ((go_at_call 107; (with_reducible refine (NMT.out _).mono ?_); rintro e' _ ⟨rfl, d1, os1, rfl⟩)) | ((go_at_call 107; (with_reducible refine (NMS.out _).mono ?_); rintro e' _ ⟨rfl, d2, os2, rfl⟩)))
          go_ret
          exact ⟨ret_bool (by first | rfl | (simp; done) | (simp; omega)), (by repeat (first | exact Ext.refl _ | apply Ext.alloc | apply Ext.more | (refine Ext.setCell ?_ (by simp) _)))⟩
    · rw [Bool.not_true, Bool.false_and, Bool.false_and]
      go_enter Try.func86, Try.ntmps86
      go_wp2_with ((go_at_call 107; (with_reducible refine (NMT.out _).mono ?_); rintro e' _ ⟨rfl, d1, os1, rfl⟩))
      go_ret
      exact ⟨ret_bool (by first | rfl | (simp; done) | (simp; omega)), (by repeat (first | exact Ext.refl _ | apply Ext.alloc | apply Ext.more | (refine Ext.setCell ?_ (by simp) _)))⟩
end Go.Proofs.Ytoaaklcbcbjaiaa

namespace Go.Proofs.Ytoaaklcbcbjaiaa
open Go.RowKit
attribute [go_sem] more_more Array.size_append
/-- the checker's memory: the program, how often each node is had -/
structure CkSt (W : World) (c H : Nat) (nv : Value) (ns : List Nd) (fi : Int) (n : Nat) (g : Nat → Nat) (w : World) : Prop where
  ext : Ext W w
  cell : w.heap[c]? = some (.cells #[nv, .int .i64 fi, .slice (some ⟨H, 0, none⟩) n n] 98 (0, 0))
  had : w.rowIs H 3 n (fun j => .int .i64 (g j : Int))
  row : w.ownsRow 0 52 8 nv n (ndCells ns)
  base : W.heap.size ≤ H ∧ H ≠ c ∧ nv.ownBlock ≠ some H ∧ ns.length = n
theorem CkSt.of_ext {W : World} {c H : Nat} {nv : Value} {ns : List Nd} {fi : Int} {n : Nat} {g : Nat → Nat} {w : World} {w' : World} (h : CkSt W c H nv ns fi n g w) (hx : Ext w w') : CkSt W c H nv ns fi n g w' :=
  ⟨h.ext.trans hx, (hx.below.block _ (Array.getElem?_eq_some_iff.1 h.cell).1).trans h.cell, h.had.of_block (hx.below.block _ h.had.lt), own_ext h.row hx, h.base⟩
theorem CkSt.alloc {W : World} {c H : Nat} {nv : Value} {ns : List Nd} {fi : Int} {n : Nat} {g : Nat → Nat} {w : World} (h : CkSt W c H nv ns fi n g w) (b : Obj) : CkSt W c H nv ns fi n g (w.alloc b) := h.of_ext ((Ext.refl w).alloc b)
theorem CkSt.more {W : World} {c H : Nat} {nv : Value} {ns : List Nd} {fi : Int} {n : Nat} {g : Nat → Nat} {w : World} (h : CkSt W c H nv ns fi n g w) (d : Nat) (os : Array Obj) : CkSt W c H nv ns fi n g (more w d os) := h.of_ext ((Ext.refl w).more d os)
theorem CkSt.facts {W : World} {c H : Nat} {nv : Value} {ns : List Nd} {fi : Int} {n : Nat} {g : Nat → Nat} {w : World} (h : CkSt W c H nv ns fi n g w) :
    w.cell? ⟨c, 0, none⟩ = some nv ∧ w.cell? ⟨c, 1, none⟩ = some (.int .i64 fi) ∧ w.cell? ⟨c, 2, none⟩ = some (.slice (some ⟨H, 0, none⟩) n n) ∧ c < w.heap.size ∧ H < w.heap.size := by
  have h1 := h.cell
  refine ⟨?_, ?_, ?_, (Array.getElem?_eq_some_iff.1 h1).1, h.had.lt⟩ <;> simp [World.cell?, h1]
theorem CkSt.set {W : World} {c H : Nat} {nv : Value} {ns : List Nd} {fi : Int} {n : Nat} {g : Nat → Nat} {w : World} (h : CkSt W c H nv ns fi n g w) (k : Nat) (v : Int) (g' : Nat → Nat) (hg : ∀ j, (g' j : Int) = if j = k then v else (g j : Int)) :
    CkSt W c H nv ns fi n g' (w.setCell ⟨H, k, none⟩ (.int .i64 v)) := by
  obtain ⟨b1, b2, b4, b5⟩ := h.base
  refine ⟨h.ext.setCell b1 _, by rw [heap_set_other _ _ _ _ _ (Ne.symm b2)]; exact h.cell, (h.had.set k _).congr fun j _ => ?_, ?_, h.base⟩
  · rw [hg j]; split <;> rfl
  · exact own_block h.row fun j hj _ => heap_set_other _ _ _ _ _ (fun e => b4 (by rw [← e]; exact hj))
theorem CkSt.congr {W : World} {c H : Nat} {nv : Value} {ns : List Nd} {fi : Int} {n : Nat} {g : Nat → Nat} {w : World} {g' : Nat → Nat} (h : CkSt W c H nv ns fi n g w) (e : ∀ j, j < n → g j = g' j) : CkSt W c H nv ns fi n g' w :=
  ⟨h.ext, h.cell, h.had.congr fun j hj => by rw [e j hj], h.row, h.base⟩
/-- all but one block as it was -/
def Fr (H : Nat) (w w' : World) : Prop := ∀ q, q < w.heap.size → q ≠ H → w'.heap[q]? = w.heap[q]?
theorem Fr.refl (H : Nat) (w : World) : Fr H w w := fun _ _ _ => rfl
/-- a block -/
def KB (k : Nat) (cs : Array Value) (T : TypeId) (w : World) : Prop := w.heap[k]? = some (.cells cs T (0, 0))
theorem KB.lt {k : Nat} {cs : Array Value} {T : TypeId} {w : World} (h : KB k cs T w) : k < w.heap.size := (Array.getElem?_eq_some_iff.1 h).1
theorem KB.kept {k H : Nat} {cs : Array Value} {T : TypeId} {w w' : World} (h : KB k cs T w) (hf : Fr H w w') (hn : k ≠ H) : KB k cs T w' := (hf k h.lt hn).trans h
theorem KB.of_ext {k : Nat} {cs : Array Value} {T : TypeId} {w w' : World} (h : KB k cs T w) (hx : Ext w w') : KB k cs T w' := (hx.below.block _ h.lt).trans h
theorem KB.new (w : World) (cs : Array Value) (T : TypeId) : KB w.heap.size cs T (w.alloc (.cells cs T (0, 0))) := heap_alloc_new _ _
theorem KB.cell {k : Nat} {cs : Array Value} {T : TypeId} {w : World} (h : KB k cs T w) (j : Nat) (v : Value) (hj : cs[j]? = some v) : w.cell? ⟨k, j, none⟩ = some v := by
  unfold KB at h
  simp [World.cell?, h, hj]
def kindAt (ns : List Nd) (k : Int) : Int := match ns[k.toNat]? with | some z => z.k | none => 0
def takesB (ns : List Nd) (k f t : Int) (st : Bool) : Bool := decide (f ≤ k) && decide (k < t) && (st == decide (20 ≤ kindAt ns k))
def blkB (ns : List Nd) (k i : Int) : Bool := k == -1 || takesB ns k 0 i true
def pone (a k : Int) : Nat := if a = k then 1 else 0
def addB (A : Bool) (k : Int) (g : Nat → Nat) : Nat → Nat := fun j => g j + if A = true then pone k j else 0
theorem addB_le (A : Bool) (k : Int) (g : Nat → Nat) (j m : Nat) (h : g j ≤ m) : addB A k g j ≤ m + 1 := by
  unfold addB pone; split <;> (try split) <;> omega
set_option maxHeartbeats 4000000 in
set_option maxRecDepth 20000 in
theorem ptakes_any {W : World} {c H : Nat} {nv : Value} {ns : List Nd} {fi : Int} {n : Nat} {g : Nat → Nat} {w : World} (h : CkSt W c H nv ns fi n g w) (k f t : Int) (st : Bool) (h0 : 0 ≤ f) (ht : t ≤ (n : Int)) (hb : ∀ j, j < n → g j ≤ 9000) :
    Calls Try.prog 87 #[.pointer (some ⟨c, 0, none⟩), .int .i64 k, .int .i64 f, .int .i64 t, .bool st] w fun e w' => e = .returned (.bool (takesB ns k f t st)) ∧ CkSt W c H nv ns fi n (addB (takesB ns k f t st) k g) w' ∧ Fr H w w' := by
  have HS := Lib.hid h
  have HC0 := Lib.hid (h.congr (g' := addB false k g) fun j _ => by simp [addB])
  obtain ⟨c0, c1, c2, lc, lH⟩ := h.facts
  by_cases hf : f ≤ k
  rotate_left
  · have hr : takesB ns k f t st = false := by unfold takesB; rw [decide_eq_false hf]; rfl
    rw [hr]
    have q1 : k < f := by omega
    clear h hb c0 c1 c2 hf hr h0 ht
    go_enter Try.func87, Try.ntmps87
    go_wp2_with fail
    go_ret
    exact ⟨rfl, HC0.out, Fr.refl _ _⟩
  by_cases hk : k < t
  rotate_left
  · have hr : takesB ns k f t st = false := by unfold takesB; rw [decide_eq_false hk]; simp
    rw [hr]
    have q1 : f ≤ k := hf
    have q2 : t ≤ k := by omega
    clear h hb c0 c1 c2 hf hr h0 ht hk
    go_enter Try.func87, Try.ntmps87
    go_wp2_with fail
    go_ret
    exact ⟨rfl, HC0.out, Fr.refl _ _⟩
  obtain ⟨j, rfl⟩ : ∃ j : Nat, k = (j : Int) := ⟨k.toNat, by omega⟩
  have hj : j < n := by omega
  obtain ⟨z, hz⟩ : ∃ z, ns[j]? = some z := ⟨_, List.getElem?_eq_getElem (by rw [h.base.2.2.2]; exact hj)⟩
  have hp : ∃ G cap, nv = .slice (some ⟨G, 0, none⟩) n cap := by
    rcases Go.Joins.ownsRow_forms h.row with ⟨_, h0⟩ | ⟨g1, c1, h0⟩
    · omega
    · exact ⟨g1, c1, h0⟩
  obtain ⟨G, cap, rfl⟩ := hp
  have a0 := (nd_at h.row hz).1
  have hG := (h.row.lt G rfl).2
  have hkd : kindAt ns (j : Int) = z.k := by unfold kindAt; rw [show ((j : Int)).toNat = j from rfl, hz]
  obtain ⟨zk, hzk⟩ : ∃ zk, z.k = zk := ⟨_, rfl⟩
  rw [hzk] at a0 hkd
  have hr : takesB ns (j : Int) f t st = (st == decide (20 ≤ zk)) := by unfold takesB; rw [decide_eq_true hf, decide_eq_true hk, hkd]; simp
  rw [hr]
  have hc := h.had.cell hj
  have hfz := h.had.frozen j
  have hgj : (g j : Int) ≤ 9000 := by have := hb j hj; omega
  have hgj0 : 0 ≤ (g j : Int) := by omega
  obtain ⟨q, hq⟩ : ∃ q : Nat, g j = q := ⟨_, rfl⟩
  have HQ := Lib.hid hq
  simp only [hq] at hc hgj hgj0
  have hj0 : 0 ≤ (j : Int) := by omega
  have hjn : (j : Int) < (n : Int) := by omega
  clear h hb hq hj hz hzk hkd hr c1 ht h0
  cases st <;> by_cases hz20 : 20 ≤ zk
  · rw [decide_eq_true hz20, show ((false : Bool) == true) = false from rfl]
    go_enter Try.func87, Try.ntmps87
    go_wp2_with fail
    go_ret
    exact ⟨rfl, HC0.out, Fr.refl _ _⟩
  · rw [decide_eq_false hz20, show ((false : Bool) == false) = true from rfl]
    have hz2 : zk < 20 := by omega
    clear hz20
    go_enter Try.func87, Try.ntmps87
    go_wp2_with fail
    go_ret
    refine ⟨rfl, HS.out.set j _ _ fun i => ?_, fun q _ hq => heap_set_other _ _ _ _ _ hq⟩
    unfold addB pone
    rw [if_pos rfl]
    by_cases e : i = j
    · subst e; rw [if_pos rfl, if_pos rfl, HQ.out]; omega
    · rw [if_neg e, if_neg (by omega)]; rfl
  · rw [decide_eq_true hz20, show ((true : Bool) == true) = true from rfl]
    go_enter Try.func87, Try.ntmps87
    go_wp2_with fail
    go_ret
    refine ⟨rfl, HS.out.set j _ _ fun i => ?_, fun q _ hq => heap_set_other _ _ _ _ _ hq⟩
    unfold addB pone
    rw [if_pos rfl]
    by_cases e : i = j
    · subst e; rw [if_pos rfl, if_pos rfl, HQ.out]; omega
    · rw [if_neg e, if_neg (by omega)]; rfl
  · rw [decide_eq_false hz20, show ((true : Bool) == false) = false from rfl]
    have hzd : decide (20 ≤ zk) = false := decide_eq_false hz20
    have hz2 : zk < 20 := by omega
    clear hz20
    go_enter Try.func87, Try.ntmps87
    go_wp2_with fail
    go_ret
    exact ⟨rfl, HC0.out, Fr.refl _ _⟩
set_option maxHeartbeats 2000000 in
theorem pblock_any {W : World} {c H : Nat} {nv : Value} {ns : List Nd} {fi : Int} {n : Nat} {g : Nat → Nat} {w : World} (h : CkSt W c H nv ns fi n g w) (k i : Int) (ht : i ≤ (n : Int)) (hb : ∀ j, j < n → g j ≤ 9000) :
    Calls Try.prog 55 #[.pointer (some ⟨c, 0, none⟩), .int .i64 k, .int .i64 i] w fun e w' => e = .returned (.bool (blkB ns k i)) ∧ CkSt W c H nv ns fi n (addB (blkB ns k i) k g) w' ∧ Fr H w w' := by
  by_cases hk : k = -1
  · subst hk
    have HC0 := Lib.hid (h.congr (g' := addB true (-1) g) fun j _ => by unfold addB pone; rw [if_pos rfl, if_neg (by omega)]; rfl)
    rw [show blkB ns (-1) i = true from rfl]
    clear h hb ht
    go_enter Try.func55, Try.ntmps55
    go_wp2_with fail
    go_ret
    exact ⟨rfl, HC0.out, Fr.refl _ _⟩
  · have T := Lib.hid (ptakes_any h k 0 i true (by omega) ht hb)
    rw [show blkB ns k i = takesB ns k 0 i true from by unfold blkB; rw [show (k == -1) = false from by simpa using hk]; rfl]
    obtain ⟨A, hA⟩ : ∃ A, takesB ns k 0 i true = A := ⟨_, rfl⟩
    rw [hA] at T ⊢
    have q : (k == -1) = false := by simpa using hk
    clear h hb ht hA hk
    go_enter Try.func55, Try.ntmps55
    go_wp2_with ((go_at_call 87; (with_reducible refine T.out.mono ?_); rintro e' w1 ⟨rfl, h1, h2⟩; have H1 := Lib.hid h1; have H2 := Lib.hid h2; clear h1 h2))
    go_ret
    exact ⟨rfl, H1.out, H2.out⟩
end Go.Proofs.Ytoaaklcbcbjaiaa

namespace Go.Proofs.Ytoaaklcbcbjaiaa
open Go.RowKit
attribute [go_sem] more_more Array.size_append
theorem addB_id (A : Bool) (a : Int) (g : Nat → Nat) (h : A = true → a = -1) (j : Nat) : g j = addB A a g j := by
  unfold addB pone
  cases A
  · simp
  · rw [h rfl, if_pos rfl, if_neg (by omega)]; rfl
theorem CkSt.idB {W : World} {c H : Nat} {nv : Value} {ns : List Nd} {fi : Int} {n : Nat} {g : Nat → Nat} {w : World} (h : CkSt W c H nv ns fi n g w) (A : Bool) (a : Int) (e : A = true → a = -1) : CkSt W c H nv ns fi n (addB A a g) w := h.congr fun j _ => addB_id A a g e j
theorem KB.alloc {k : Nat} {cs : Array Value} {T : TypeId} {w : World} (h : KB k cs T w) (b : Obj) : KB k cs T (w.alloc b) := h.of_ext ((Ext.refl w).alloc b)
theorem KB.more {k : Nat} {cs : Array Value} {T : TypeId} {w : World} (h : KB k cs T w) (d : Nat) (os : Array Obj) : KB k cs T (more w d os) := h.of_ext ((Ext.refl w).more d os)
theorem KB.newAt {k : Nat} (w : World) (cs : Array Value) (T : TypeId) (h : k = w.heap.size) : KB k cs T (w.alloc (.cells cs T (0, 0))) := by subst h; exact KB.new w cs T
def nheadB (z : Nd) : Bool := isKind z.k && numOk z.k z.c z.i && (txt1 z.t (shT z.k) && txt2 z.k z.s (shS z.k))
def aB (ns : List Nd) (i : Nat) (z : Nd) : Bool := if shA z.k = true then takesB ns z.a 0 i false else z.a == -1
def bB (ns : List Nd) (i : Nat) (z : Nd) : Bool := if shB z.k = true then takesB ns z.b 0 i false else if shBB z.k = true then blkB ns z.b i else z.b == -1
def cB (ns : List Nd) (i : Nat) (z : Nd) : Bool := z.c == -1 || (shBC z.k && blkB ns z.c i)
def xB (ns : List Nd) (i : Nat) (z : Nd) : Bool := z.x == -1 || (decide (20 ≤ z.k) && takesB ns z.x ((i : Int) + 1) ns.length true)
def nodeB (ns : List Nd) (i : Nat) (z : Nd) : Bool := nheadB z && (aB ns i z && bB ns i z && cB ns i z && xB ns i z)
end Go.Proofs.Ytoaaklcbcbjaiaa

namespace Go.Proofs.Ytoaaklcbcbjaiaa
open Go.RowKit Go.ChangeShapes Go.WideShapes Go.ChangeAt Go.Joins
/-- what came in reads as it did -/
theorem trodAll_below {H : Type} {enc : TypeId × Value → H} {P : Program} (hl : laidOutB P = true) {W W' : World} (hb : Below W.heap.size W W') :
    ∀ {ts : List TypeId} {vs : List Value} {ds : List (DataW H)} {ps : List MemPlace}, ts.all (fun t => P.readableRec t && decide (t < P.types.size)) = true → DataW.TrodAll enc P W 0 (fun _ => true) true ts vs ds ps → (∀ x ∈ ps, x.block < W.heap.size) → DataW.TrodAll enc P W' 0 (fun b => decide (b < W.heap.size)) true ts vs ds ps
  | [], [], [], _, _, h, _ => h
  | [], _ :: _, _, _, _, h, _ => h.elim
  | [], [], _ :: _, _, _, h, _ => h.elim
  | _ :: _, [], _, _, _, h, _ => h.elim
  | _ :: _, _ :: _, [], _, _, h, _ => h.elim
  | t :: ts, v :: vs, d :: ds, ps, hr, ⟨p, q, h1, h2, e⟩, hlt => by
    simp only [List.all_cons, Bool.and_eq_true, decide_eq_true_eq] at hr
    exact ⟨p, q, Below.trod hl hr.1.1 hr.1.2 h1 hb (fun x hx => hlt x (by rw [e]; simp [hx])), trodAll_below hl hb hr.2 h2 (fun x hx => hlt x (by rw [e]; simp [hx])), e⟩
end Go.Proofs.Ytoaaklcbcbjaiaa
