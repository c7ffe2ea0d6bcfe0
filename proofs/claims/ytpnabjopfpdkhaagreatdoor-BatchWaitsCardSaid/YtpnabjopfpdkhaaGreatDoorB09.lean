/- Lemmas for the claim (texts Lex9, May1, R16b, what its proof uses of them). -/
import Derived.Test.YtpnabjopfpdkhaaGreatDoorB04
import Derived.Test.YtpnabjopfpdkhaaGreatDoorB08
import Derived.Outline
import Derived.Lib.SmallJoins
import Derived.Maps.Own
import Derived.Maps.OwnSet
import Derived.Maps.Views
import Derived.StringKeys
import Derived.LoopTactic
set_option linter.unusedSimpArgs false
set_option linter.unusedVariables false
namespace Go.Proofs.YtpnabjopfpdkhaaGreatDoor
open Go.RowKit
theorem ltV1 {a n x : Nat} (h : a < n) : (a < n + x) = True := by simp; omega
theorem ltV2 {a n x y : Nat} (h : a < n) : (a < n + x + y) = True := by simp; omega
theorem ltV3 {a n x y z : Nat} (h : a < n) : (a < n + x + y + z) = True := by simp; omega
theorem ltV4 {a n x y z u : Nat} (h : a < n) : (a < n + x + y + z + u) = True := by simp; omega
theorem ltV5 {a n x y z u v : Nat} (h : a < n) : (a < n + x + y + z + u + v) = True := by simp; omega
attribute [go_sem] ltV1 ltV2 ltV3 ltV4 ltV5
theorem tokInfo : (Tryz.prog.info? 186).map (fun i => (i.zero, i.size, i.bytes)) = some (some (.agg #[.int .i64 0, .int .i64 0, .string ⟨#[]⟩, .int .i64 0]), 4, 40) := by kernel_rfl
set_option maxHeartbeats 2000000 in
set_option maxRecDepth 20000 in
theorem tokens_big (s : ByteArray) (hs : 4096 < (s.size : Int)) (w : World) :
  Calls Tryz.prog 96 #[.string s] w fun e w' => e = .returned (.tuple #[.slice none 0 0, .int .i64 5, .int .i64 4096]) ∧ Ext w w' := by
 go_enter Tryz.func96, Tryz.ntmps96
 go_wp2
 go_ret3
 exact ⟨rfl, zab⟩
/-- what Tokens hands back -/
def qcv (w : World) (r : List (Tok × Nat) × Int × Nat) (e : Ending) (w' : World) : Prop :=
 (r.2.1 = 0 ∧ ∃ g cap, e = .returned (.tuple #[.slice (some ⟨g, 0, none⟩) r.1.length cap, .int .i64 0, .int .i64 0]) ∧ w'.ownsRow w.heap.size 186 4 (.slice (some ⟨g, 0, none⟩) r.1.length cap) r.1.length (qap r.1) ∧ Ext w w') ∨
 (r.2.1 ≠ 0 ∧ e = .returned (.tuple #[.slice none 0 0, .int .i64 r.2.1, .int .i64 (r.2.2 : Int)]) ∧ Ext w w')
theorem qea {w w' : World} {r : List (Tok × Nat) × Int × Nat} {v : Value} (h0 : r.2.1 = 0) (hl : 0 < r.1.length) (hown : w'.ownsRow (w.heap.size + 1) 186 4 v r.1.length (qap r.1)) (hx : Ext w w') :
  qcv w r (.returned (.tuple #[v, .int .i64 0, .int .i64 0])) w' := by
 obtain ⟨g, cap, rfl, _, _⟩ := hown.form hl
 exact Or.inl ⟨h0, g, cap, rfl, hown.mono zae, hx⟩
theorem qbV (l : List (Tok × Nat)) (t : Tok) (k : Nat) : qap (l ++ [(t, k)]) = qap l ++ [.int .i64 t.k, .int .i64 (k : Int), .string t.s, .int .i64 t.i] := by rw [qcS]; rfl
theorem qbj {w wr w1 w2 : World} {N : Nat} {v : Value} {lv : Value} (hN : N = w.heap.size) (hb : Below N w wr) (hx : Ext (wr.setCell ⟨N, 1, none⟩ v) w1) (hg : w1.grownBy w2 lv.ownBlock) (hl : ∀ k, lv.ownBlock = some k → N < k) : Ext w w2 := by
 subst hN
 have h1 : Ext w wr := Ext.of_below hb
 have h2 : Ext w (wr.setCell ⟨w.heap.size, 1, none⟩ v) := h1.setCell (Nat.le_refl _) v
 exact (h2.trans hx).grown hg (fun k hk => Nat.le_of_lt (hl k hk))
theorem news_split {w : World} {N d1 d2 : Nat} {os1 os2 : Array Obj} {cs : Array Value} {t : TypeId} (hN : N = w.heap.size + os1.size) :
  ∀ j u, cs.toList[j]? = some u → (more ((more w d1 os1).alloc (.cells cs t)) d2 os2).cell? ((⟨N, 0, none⟩ : Addr).add j) = some u := by
 intro j u h
 have hN' : N = (more w d1 os1).heap.size := by rw [more_size]; exact hN
 subst hN'
 rw [Addr.add_lit, qcc _ _ _ _ _ zal]
 simp only [World.cell?, heap_alloc_new]
 simpa using h
theorem lex_grown {b : Nat} {s : ByteArray} {k : Nat} {lv : Value} {w w' : World} {row : Option Nat} (h : LexAt b s k lv w) (hg : w.grownBy w' row) (hne : row ≠ some b) : LexAt b s k lv w' := by
 obtain ⟨h1, h2, h3, h4, h5⟩ := hg
 unfold LexAt; rw [h5 b h.lt (fun e => hne e.symm)]; exact h
theorem LexAt.setL {b : Nat} {s : ByteArray} {k : Nat} {lv : Value} {w : World} (h : LexAt b s k lv w) (v : Value) : LexAt b s k v (w.setCell ⟨b, 2, none⟩ v) := by
 unfold LexAt at h ⊢
 simp [World.setCell, Array.getElem?_modify, h]
theorem qaB {w : World} {N : Nat} {cs : Array Value} {t : TypeId} (hN : N = w.heap.size) : ∀ j u, cs.toList[j]? = some u → (w.alloc (.cells cs t)).cell? ((⟨N, 0, none⟩ : Addr).add j) = some u := by
 intro j u h
 subst hN
 rw [Addr.add_lit]
 simp only [World.cell?, heap_alloc_new]
 simpa using h
set_option maxHeartbeats 2000000 in
set_option maxRecDepth 20000 in
theorem tokens_x (s : ByteArray) (hs : (s.size : Int) ≤ 4096) (res : List (Tok × Nat) × Int × Nat) (HR : RowKit.Hid (lexG s.data.toList (s.size + 1) 0 [] = res)) (w : World) : Calls Tryz.prog 96 #[.string s] w (qcv w res) := by
 go_enter Tryz.func96, Tryz.ntmps96
 go_wp2_with fail
 go_loopg [] (s.size + 1) (fun g wr => ∃ (k : Nat) (acc : List (Tok × Nat)) (lv : Value), k ≤ s.size ∧ s.size + 1 ≤ k + g ∧ acc.length ≤ 1024 ∧ lexG s.data.toList g k acc = res ∧ LexAt w.heap.size s k lv wr ∧ wr.ownsRow (w.heap.size + 1) 186 4 lv acc.length (qap acc) ∧ Below w.heap.size w wr)
 case atStart => exact ⟨0, [], .slice none 0 0, Nat.zero_le _, by omega, by simp, HR.out, (by unfold LexAt; exact heap_alloc_new _ _), World.ownsRow_nil _ _ _ _, (Below.refl _ _).alloc (Nat.le_refl _) _⟩
 case round =>
  obtain ⟨k, acc, lv, hk, hkg, hac, hlex, hL, hown, hbl⟩ := hrel
  have hb := hL.lt
  have hs' : s.size ≤ maxLen := by unfold maxLen; omega
  have hlen : s.data.toList.length = s.size := by simp
  obtain ⟨g, rfl⟩ : ∃ g, gk = g + 1 := ⟨gk - 1, by omega⟩
  rw [lexG, hlen] at hlex
  obtain ⟨i0, hi, hz0, hz1, hz2⟩ := info_parts tokInfo
  have HOWN := Lib.hid hown
  have HBL := Lib.hid hbl
  have HL := Lib.hid hL
  by_cases hend : k + skipL false (s.data.toList.drop k) = s.size
  · rw [if_pos zae] at hlex
    have N := Lib.hid (next_end w.heap.size s k _ lv hk hs' rfl hend wr hL)
    have HLEX := Lib.hid hlex
    obtain ⟨c0, c1, c2, f1, f2⟩ := hL.cells
    unfold tokV tok0 at N
    rw [hend] at N
    clear hL hown hbl hend hlex hlen
    go_wp2_with (first
     | (go_at_call 109; refine N.out.mono ?_; rintro e _ ⟨rfl, d, os, rfl⟩)
     | (at_builtin; refine wpList_append_own_at _ rfl _ _ 156 rfl (w.heap.size + 1) 186 i0 (.agg #[.int .i64 0, .int .i64 0, .string ⟨#[]⟩, .int .i64 0]) 4 40 Tryz.underlying156 hi hz0 hz1 hz2 rfl zaj lv acc.length (qap acc) rfl ?c0 ⟨wr.heap.size + os.size + 1, 0, none⟩ 1 1 [.int .i64 0, .int .i64 (s.size : Int), .string ⟨#[]⟩, .int .i64 0] rfl rfl ?c1 ?c2 ?c3 ?c4 ?c5 ?_))
    case c0 => exact ((own_more (ownsRow_setCell_below HOWN.out zal _) _ _).alloc _).alloc _
    case c1 => exact qaB zbb
    case c2 => intro u hu; simp at hu; rcases hu with rfl | rfl | rfl | rfl <;> rfl
    case c3 => unfold maxLen; omega
    case c4 => omega
    case c5 => simp [more_size]; omega
    intro v' w1 hown' hgrow _ hblk
    go_wp2
    go_ret3
    have hl := HLEX.out
    subst hl
    refine qea rfl zal ?_ (qbj rfl HBL.out zab hgrow (fun k hk => (HOWN.out.lt k hk).1))
    rw [qbV]
    simpa [tok0] using hown'
  · -- MORE
    have hle := qch false (s.data.toList.drop k)
    obtain ⟨sk, hsk⟩ : ∃ sk, skipL false (s.data.toList.drop k) = sk := ⟨_, rfl⟩
    rw [hsk] at hlex hend hle
    have hlt : k + sk < s.size := by simp at hle; omega
    obtain ⟨r, n1, er, hr⟩ : ∃ r n1 er, oneF (s.data.toList.drop (k + sk)) = (r, n1, er) := ⟨_, _, _, rfl⟩
    rw [if_neg zae, hr] at hlex
    dsimp only at hlex
    have N := Lib.hid (next_any w.heap.size s k sk lv hk zae hsk hlt n1 r er hr wr hL)
    obtain ⟨m, hm⟩ : ∃ m, k + sk = m := ⟨_, rfl⟩
    rw [hm] at N hlex hlt hr
    obtain ⟨c0, c1, c2, f1, f2⟩ := hL.cells
    by_cases her : er = 0
    · subst her
      rw [if_neg zal] at hlex
      by_cases hfull : acc.length = 1024
      · rw [if_pos hfull] at hlex
        have HLEX := Lib.hid hlex
        have HF := Lib.hid hfull
        rw [hfull] at hown
        rcases Go.Joins.ownsRow_forms hown with ⟨rfl, h0⟩ | ⟨g1, cap, rfl⟩
        · omega
        clear hL hown hbl hlex hlen hm hr hsk hfull HOWN
        go_wp2_with (go_at_call 109; refine N.out.mono ?_; rintro e _ ⟨rfl, k2, hk2, d, os, rfl⟩; have HK2 := Lib.hid hk2; clear hk2)
        refine qaa 5 58 [false, false, false, false, false] zad zad rfl ?_
        simp only [List.take_succ_cons, List.take_zero, List.drop_succ_cons, List.drop_zero]
        repeat (refine Lex.step rfl ?_; intro K hK; unfold StepG; go_simp; (first
          | refine hK _ ?_); clear hK K)
        refine Lex.nil fun WW hE => ?_
        obtain ⟨dd, oo, rfl⟩ := hE
        unfold FillH
        go_wp2_with fail
        rw [ends_normal]
        go_wp2_with fail
        go_ret3
        have hl := HLEX.out
        subst hl
        exact Or.inr ⟨by simp, rfl, qbj rfl HBL.out zab (lv := .slice none 0 0) (grown_refl _ _) (by intro k hk; simp [Value.ownBlock] at hk)⟩
      · rw [if_neg hfull] at hlex
        have HLEX := Lib.hid hlex
        have hF : ((acc.length : Int) == 1024) = false := by simp; omega
        have hbd := oneF_bd _ r n1 zaw hr
        have HBD : RowKit.Hid (1 ≤ n1 ∧ m + n1 ≤ s.size ∧ s.size + 1 ≤ k + g + 1 ∧ k ≤ m ∧ acc.length + 1 ≤ 1024) := Lib.hid ⟨hbd.1, by have := hbd.2; simp at this; omega, by omega, by omega, by omega⟩
        obtain ⟨len, cap, p, rfl, hlen2⟩ : ∃ len cap p, lv = .slice p len cap ∧ len = acc.length := by
         rcases Go.Joins.ownsRow_forms hown with ⟨rfl, h0⟩ | ⟨g1, cap, rfl⟩
         · exact ⟨_, _, _, rfl, h0.symm⟩
         · exact ⟨_, _, _, rfl, rfl⟩
        subst hlen2
        clear hL hown hbl hlex hlen hm hr hsk hfull hbd
        go_wp2_with (go_at_call 109; refine N.out.mono ?_; rintro e _ ⟨rfl, k2, hk2, d, os, rfl⟩; have HK2 := Lib.hid hk2; clear hk2)
        refine qaa 7 58 [true, false, false, false, false, false, false] zad zad rfl ?_
        simp only [List.take_succ_cons, List.take_zero, List.drop_succ_cons, List.drop_zero]
        refine Lex.stepP rfl rfl ?_; intro K hK; go_simp; refine hK _ ?_; clear hK K
        iterate 5 (refine Lex.step rfl ?_; intro K hK; unfold StepG; go_simp; refine hK _ ?_; clear hK K)
        refine Lex.sliceLit 54 (.cells #[.int .i64 r.k, .int .i64 (m : Int), .string r.s, .int .i64 r.i] 186) 1 1 rfl rfl (fun d os => ?_) ?_
        · unfold StepG
          go_simp
          exact ⟨(Ext.refl _).alloc _, NewSl.of_alloc _ _ _ _ _ _ _ zbb⟩
        refine Lex.nil fun WW hE => ?_
        intro u hu
        obtain ⟨d1, os1, d2, os2, rfl, rfl⟩ := hu.split hE
        clear hu hE
        go_simp
        unfold FillH
        go_wp2_with (at_builtin; refine wpList_append_own_at _ rfl _ _ 156 rfl (w.heap.size + 1) 186 i0 (.agg #[.int .i64 0, .int .i64 0, .string ⟨#[]⟩, .int .i64 0]) 4 40 Tryz.underlying156 hi hz0 hz1 hz2 rfl zaj (.slice p acc.length cap) acc.length (qap acc) rfl ?c0 ⟨_, 0, none⟩ 1 1 [.int .i64 r.k, .int .i64 (m : Int), .string r.s, .int .i64 r.i] rfl rfl ?c1 ?c2 ?c3 ?c4 ?c5 ?_)
        case c0 => repeat (first | (with_reducible exact ownsRow_setCell_below HOWN.out zal _) | (with_reducible apply own_more) | (with_reducible refine World.ownsRow.alloc ?_ _))
        case c1 => exact news_split zbb
        case c2 => intro u hu; simp at hu; rcases hu with rfl | rfl | rfl | rfl <;> rfl
        case c3 => have := HBD.out; unfold maxLen; omega
        case c4 => have := HBD.out; omega
        case c5 => simp [more_size]; omega
        intro v' w1 hown' hgrow _ hblk
        have k2e := HK2.out trivial
        subst k2e
        have HL1 : LexAt w.heap.size s (m + n1) (.slice p acc.length cap) w1 := by
         refine lex_grown ?_ hgrow (fun e => Nat.lt_irrefl _ ((HOWN.out.lt _ e).1))
         repeat (first | (with_reducible apply LexAt.more) | (with_reducible apply LexAt.alloc) | (with_reducible exact LexAt.set HL.out _ _ rfl))
        obtain ⟨c0, c1, c2, f1, f2⟩ := HL1.cells
        have hb1 := HL1.lt
        have hx : Ext w w1 := qbj rfl HBL.out zab hgrow (fun k hk => (HOWN.out.lt k hk).1)
        obtain ⟨g1, cap1, rfl, _, _⟩ := hown'.form zae
        have HOWN1 := Lib.hid hown'
        have HX := Lib.hid hx
        have HLL := Lib.hid HL1
        clear hown' hgrow hblk HL1 hx HL HOWN HBL N
        go_wp2_with fail
        first | rw [ends_normal] | skip
        go_wp2_with fail
        go_roundg g
        case measure => omega
        case rel =>
         have hq := HBD.out
         refine ⟨m + n1, acc ++ [(r, m)], _, by omega, by omega, by simp; omega, HLEX.out, HLL.out.setL _, ?_, (HX.out.setCell (Nat.le_refl _) _).below⟩
         rw [qbV]
         have := ownsRow_setCell_below HOWN1.out (a := ⟨w.heap.size, 2, none⟩) zal (.slice (some ⟨g1, 0, none⟩) (acc.length + 1) cap1)
         simpa using this
    · rw [if_pos her] at hlex
      have HLEX := Lib.hid hlex
      have he1 : (er == 0) = false := by simpa using her
      have he2 : (er != 0) = true := by simpa using her
      have HE := Lib.hid her
      clear hL hown hbl hlex hlen hm hr hsk her
      go_wp2_with (go_at_call 109; refine N.out.mono ?_; rintro e _ ⟨rfl, k2, hk2, d, os, rfl⟩; have HK2 := Lib.hid hk2; clear hk2)
      refine qaa 6 58 [false, false, false, false, false, false] zad zad rfl ?_
      simp only [List.take_succ_cons, List.take_zero, List.drop_succ_cons, List.drop_zero]
      repeat (refine Lex.step rfl ?_; intro K hK; unfold StepG; go_simp; (first
        | refine hK _ ?_); clear hK K)
      refine Lex.nil fun WW hE => ?_
      obtain ⟨dd, oo, rfl⟩ := hE
      unfold FillH
      go_wp2_with fail
      rw [ends_normal]
      go_wp2_with fail
      go_ret3
      have hl := HLEX.out
      subst hl
      exact Or.inr ⟨HE.out, rfl, qbj rfl HBL.out zab (lv := .slice none 0 0) (grown_refl _ _) (by intro k hk; simp [Value.ownBlock] at hk)⟩
/-- Tokens' contract -/
theorem qdE (s : ByteArray) (res : List (Tok × Nat) × Int × Nat) (hr : lexF s.data.toList = res) (w : World) : Calls Tryz.prog 96 #[.string s] w (qcv w res) := by
 have hl : s.data.toList.length = s.size := by simp
 unfold lexF at hr
 by_cases h : 4096 < s.data.toList.length
 · rw [if_pos h] at hr
   subst hr
   exact (tokens_big s zae w).mono fun e w' ⟨h1, h2⟩ => Or.inr ⟨by simp, h1, h2⟩
 · rw [if_neg h, hl] at hr
   exact tokens_x s zae res (Lib.hid hr) w
end Go.Proofs.YtpnabjopfpdkhaaGreatDoor

namespace Go.Proofs.YtpnabjopfpdkhaaGreatDoor
open Go.RowKit
attribute [go_sem] more_more Array.size_append
open Go.Maps (Keyed string_keyed IsMap)
def closeTab : List (List UInt8 × Int) := [([111, 114], 0), ([97, 110, 100], 1), ([61, 61], 2), ([33, 61], 2), ([60], 2), ([60, 61], 2), ([62], 2), ([62, 61], 2), ([46, 46], 3), ([43], 4), ([45], 4), ([42], 5), ([47], 5), ([37], 5)]
/-- how close a sign or a word binds -/
def qbU (l : List UInt8) : Option Int := (closeTab.find? fun p => p.1 == l).map fun p => p.2
def closeD : DataW Unit := closeTab.foldl (fun D p => D.put (.string p.1) (.lit (.int .i64 p.2))) (.map [])
theorem lawSM : Keyed Tryz.prog 9 := string_keyed Tryz.underlying9
theorem zeroIM (w : World) : (zeroValue 3).run Tryz.prog w = .ok (.int .i64 0) w := by kernel_rfl
theorem close_mem (l : List UInt8) : (l = [111, 114] ∨ l = [97, 110, 100] ∨ l = [61, 61] ∨ l = [33, 61] ∨ l = [60] ∨ l = [60, 61] ∨ l = [62] ∨ l = [62, 61] ∨ l = [46, 46] ∨ l = [43] ∨ l = [45] ∨ l = [42] ∨ l = [47] ∨ l = [37]) ∨ (([111, 114] == l) = false ∧ ([97, 110, 100] == l) = false ∧ ([61, 61] == l) = false ∧ ([33, 61] == l) = false ∧ ([60] == l) = false ∧ ([60, 61] == l) = false ∧ ([62] == l) = false ∧ ([62, 61] == l) = false ∧ ([46, 46] == l) = false ∧ ([43] == l) = false ∧ ([45] == l) = false ∧ ([42] == l) = false ∧ ([47] == l) = false ∧ ([37] == l) = false) := by
 by_cases h : l = [111, 114] ∨ l = [97, 110, 100] ∨ l = [61, 61] ∨ l = [33, 61] ∨ l = [60] ∨ l = [60, 61] ∨ l = [62] ∨ l = [62, 61] ∨ l = [46, 46] ∨ l = [43] ∨ l = [45] ∨ l = [42] ∨ l = [47] ∨ l = [37]
 · exact Or.inl h
 · right
   have k : ∀ x : List UInt8, l ≠ x → (x == l) = false := fun x hx => by simpa using fun e => hx e.symm
   simp only [not_or] at h
   obtain ⟨a0, a1, a2, a3, a4, a5, a6, a7, a8, a9, a10, a11, a12, a13⟩ := h
   exact ⟨k _ a0, k _ a1, k _ a2, k _ a3, k _ a4, k _ a5, k _ a6, k _ a7, k _ a8, k _ a9, k _ a10, k _ a11, k _ a12, k _ a13⟩
def closeKeys : Bool := match closeD with
 | .map es => es.all fun p => match p.1 with
  | .string a => closeTab.any fun q => q.1 == a
  | _ => false
 | _ => false
theorem closeKeys_ok : closeKeys = true := by kernel_rfl
theorem close_key (l : List UInt8) : Maps.has closeD (.string l) = (qbU l).isSome ∧ closeD.atKey (.string l) (.lit (.int .i64 0)) = .lit (.int .i64 ((qbU l).getD 0)) := by
 rcases close_mem l with h | h
 · rcases h with rfl | rfl | rfl | rfl | rfl | rfl | rfl | rfl | rfl | rfl | rfl | rfl | rfl | rfl <;> exact ⟨by kernel_rfl, by kernel_rfl⟩
 obtain ⟨a0, a1, a2, a3, a4, a5, a6, a7, a8, a9, a10, a11, a12, a13⟩ := h
 have hn : qbU l = none := by
  unfold qbU closeTab
  simp only [List.find?_cons, List.find?_nil, a0, a1, a2, a3, a4, a5, a6, a7, a8, a9, a10, a11, a12, a13]
  rfl
 rw [hn]
 have hno : ∀ a : List UInt8, (closeTab.any fun q => q.1 == a) = true → (a == l) = false := by
  intro a ha
  simp only [closeTab, List.any_cons, List.any_nil, Bool.or_false, Bool.or_eq_true, beq_iff_eq] at ha
  rcases ha with rfl | rfl | rfl | rfl | rfl | rfl | rfl | rfl | rfl | rfl | rfl | rfl | rfl | rfl
  all_goals assumption
 have hk := closeKeys_ok
 unfold closeKeys at hk
 cases hD : closeD with
 | map es =>
  rw [hD] at hk
  have hf : ∀ p ∈ es, p.1.sameKey (.string l) = false := by
   intro p hp
   have h1 := List.all_eq_true.1 hk p hp
   rcases p with ⟨k, d⟩
   cases k with
   | string a => exact hno a h1
   | _ => cases h1
  refine ⟨?_, ?_⟩
  · rw [Maps.has_eq]
    rw [List.any_eq_false.2 (fun p hp => by rw [hf p hp]; simp)]; rfl
  · unfold DataW.atKey
    dsimp only
    rw [List.find?_eq_none.2 (fun p hp => by rw [hf p hp]; simp)]; rfl
 | _ => rw [hD] at hk; cases hk
set_option maxHeartbeats 1000000 in
set_option maxRecDepth 20000 in
theorem qdR (w : World) : Calls Tryz.prog 230 #[] w fun e w' => ∃ B, e = .returned (.map (some B)) ∧ w'.ownsMap Tryz.prog 9 (plainElem Tryz.prog 3) B 14 closeD ∧ Ext w w' := by
 have hmm := @run_makeMap Tryz.prog
 have HO0 := World.ownsMap_made w Tryz.prog 9 (plainElem (H := Unit) Tryz.prog 3)
 have HX0 : Ext w (w.alloc (.map #[] 0)) := (Ext.refl w).alloc _
 obtain ⟨w1, hr1, HO1, hg1⟩ := HO0.update lawSM Tryz.underlying283 zaz (key := .string ⟨#[111, 114]⟩) (val := .int .i64 0) (WideMaps.keyOf_string_mk Tryz.underlying9 zaj) (plainElem_int Tryz.underlying3 zaj)
 have HX1 : Ext w w1 := HX0.grown hg1 (fun k hk => by simp at hk; omega)
 obtain ⟨w2, hr2, HO2, hg2⟩ := HO1.update lawSM Tryz.underlying283 zaz (key := .string ⟨#[97, 110, 100]⟩) (val := .int .i64 1) (WideMaps.keyOf_string_mk Tryz.underlying9 zaj) (plainElem_int Tryz.underlying3 zaj)
 have HX2 : Ext w w2 := HX1.grown hg2 (fun k hk => by simp at hk; omega)
 obtain ⟨w3, hr3, HO3, hg3⟩ := HO2.update lawSM Tryz.underlying283 zaz (key := .string ⟨#[61, 61]⟩) (val := .int .i64 2) (WideMaps.keyOf_string_mk Tryz.underlying9 zaj) (plainElem_int Tryz.underlying3 zaj)
 have HX3 : Ext w w3 := HX2.grown hg3 (fun k hk => by simp at hk; omega)
 obtain ⟨w4, hr4, HO4, hg4⟩ := HO3.update lawSM Tryz.underlying283 zaz (key := .string ⟨#[33, 61]⟩) (val := .int .i64 2) (WideMaps.keyOf_string_mk Tryz.underlying9 zaj) (plainElem_int Tryz.underlying3 zaj)
 have HX4 : Ext w w4 := HX3.grown hg4 (fun k hk => by simp at hk; omega)
 obtain ⟨w5, hr5, HO5, hg5⟩ := HO4.update lawSM Tryz.underlying283 zaz (key := .string ⟨#[60]⟩) (val := .int .i64 2) (WideMaps.keyOf_string_mk Tryz.underlying9 zaj) (plainElem_int Tryz.underlying3 zaj)
 have HX5 : Ext w w5 := HX4.grown hg5 (fun k hk => by simp at hk; omega)
 obtain ⟨w6, hr6, HO6, hg6⟩ := HO5.update lawSM Tryz.underlying283 zaz (key := .string ⟨#[60, 61]⟩) (val := .int .i64 2) (WideMaps.keyOf_string_mk Tryz.underlying9 zaj) (plainElem_int Tryz.underlying3 zaj)
 have HX6 : Ext w w6 := HX5.grown hg6 (fun k hk => by simp at hk; omega)
 obtain ⟨w7, hr7, HO7, hg7⟩ := HO6.update lawSM Tryz.underlying283 zaz (key := .string ⟨#[62]⟩) (val := .int .i64 2) (WideMaps.keyOf_string_mk Tryz.underlying9 zaj) (plainElem_int Tryz.underlying3 zaj)
 have HX7 : Ext w w7 := HX6.grown hg7 (fun k hk => by simp at hk; omega)
 obtain ⟨w8, hr8, HO8, hg8⟩ := HO7.update lawSM Tryz.underlying283 zaz (key := .string ⟨#[62, 61]⟩) (val := .int .i64 2) (WideMaps.keyOf_string_mk Tryz.underlying9 zaj) (plainElem_int Tryz.underlying3 zaj)
 have HX8 : Ext w w8 := HX7.grown hg8 (fun k hk => by simp at hk; omega)
 obtain ⟨w9, hr9, HO9, hg9⟩ := HO8.update lawSM Tryz.underlying283 zaz (key := .string ⟨#[46, 46]⟩) (val := .int .i64 3) (WideMaps.keyOf_string_mk Tryz.underlying9 zaj) (plainElem_int Tryz.underlying3 zaj)
 have HX9 : Ext w w9 := HX8.grown hg9 (fun k hk => by simp at hk; omega)
 obtain ⟨w10, hr10, HO10, hg10⟩ := HO9.update lawSM Tryz.underlying283 zaz (key := .string ⟨#[43]⟩) (val := .int .i64 4) (WideMaps.keyOf_string_mk Tryz.underlying9 zaj) (plainElem_int Tryz.underlying3 zaj)
 have HX10 : Ext w w10 := HX9.grown hg10 (fun k hk => by simp at hk; omega)
 obtain ⟨w11, hr11, HO11, hg11⟩ := HO10.update lawSM Tryz.underlying283 zaz (key := .string ⟨#[45]⟩) (val := .int .i64 4) (WideMaps.keyOf_string_mk Tryz.underlying9 zaj) (plainElem_int Tryz.underlying3 zaj)
 have HX11 : Ext w w11 := HX10.grown hg11 (fun k hk => by simp at hk; omega)
 obtain ⟨w12, hr12, HO12, hg12⟩ := HO11.update lawSM Tryz.underlying283 zaz (key := .string ⟨#[42]⟩) (val := .int .i64 5) (WideMaps.keyOf_string_mk Tryz.underlying9 zaj) (plainElem_int Tryz.underlying3 zaj)
 have HX12 : Ext w w12 := HX11.grown hg12 (fun k hk => by simp at hk; omega)
 obtain ⟨w13, hr13, HO13, hg13⟩ := HO12.update lawSM Tryz.underlying283 zaz (key := .string ⟨#[47]⟩) (val := .int .i64 5) (WideMaps.keyOf_string_mk Tryz.underlying9 zaj) (plainElem_int Tryz.underlying3 zaj)
 have HX13 : Ext w w13 := HX12.grown hg13 (fun k hk => by simp at hk; omega)
 obtain ⟨w14, hr14, HO14, hg14⟩ := HO13.update lawSM Tryz.underlying283 zaz (key := .string ⟨#[37]⟩) (val := .int .i64 5) (WideMaps.keyOf_string_mk Tryz.underlying9 zaj) (plainElem_int Tryz.underlying3 zaj)
 have HX14 : Ext w w14 := HX13.grown hg14 (fun k hk => by simp at hk; omega)
 clear HO0 HO1 HO2 HO3 HO4 HO5 HO6 HO7 HO8 HO9 HO10 HO11 HO12 HO13 HX0 HX1 HX2 HX3 HX4 HX5 HX6 HX7 HX8 HX9 HX10 HX11 HX12 HX13 hg1 hg2 hg3 hg4 hg5 hg6 hg7 hg8 hg9 hg10 hg11 hg12 hg13 hg14
 have H1 := Lib.hid HO14
 have H2 := Lib.hid HX14
 clear HO14 HX14
 go_enter Tryz.func230, Tryz.ntmps230
 go_wp2_with fail
 go_ret
 exact ⟨_, rfl, H1.out, H2.out⟩
/-- how close a node binds -/
def qbL (k : Int) (s : ByteArray) : Int := if k < 0 ∨ 11 < k then -1 else if k < 11 then 6 else (qbU s.data.toList).getD (-1)
theorem look_close {w : World} {B : Nat} (h : w.ownsMap Tryz.prog 9 (plainElem (H := Unit) Tryz.prog 3) B 14 closeD) (s : ByteArray) (hs : s.size ≤ maxLen) :
  (Instr.lookup 283 (.map (some B)) (.string s) true).run Tryz.prog w = .ok (.tuple #[.int .i64 ((qbU s.data.toList).getD 0), .bool (qbU s.data.toList).isSome]) w := by
 obtain ⟨v, ps, hr, hv⟩ := h.look_ok lawSM Tryz.underlying283 (zeroIM w) (plainElem_int Tryz.underlying3 zaj) (WideMaps.keyOf_string_mk Tryz.underlying9 hs)
 obtain ⟨h7, h8⟩ := close_key s.data.toList
 rw [h7] at hr
 rw [h8] at hv
 obtain ⟨a, rfl, ha, _⟩ := plainElem_int_inv Tryz.underlying3 hv
 simp only [Prod.mk.injEq, DataW.lit.injEq, Lit.int.injEq, true_and] at ha
 rw [hr, ← ha.1]
def CloMap : Fact := fun v W => ∃ B, v = .map (some B) ∧ W.ownsMap Tryz.prog 9 (plainElem (H := Unit) Tryz.prog 3) B 14 closeD
theorem CloMap.upc : Upc CloMap := by
 rintro v W W' hx ⟨B, hv, ho⟩
 have hb := hx.below
 exact ⟨B, hv, ho.kept (row := none) ⟨hb.os, hb.tape, hb.output, hb.size, fun k hk _ => hb.block k hk⟩ zal⟩
set_option maxHeartbeats 2000000 in
set_option maxRecDepth 20000 in
theorem close_any (zk za zb zc zx zi : Int) (zs zt : ByteArray) (hs : zs.size ≤ maxLen) (w : World) : Calls Tryz.prog 222 #[.agg #[.int .i64 zk, .int .i64 za, .int .i64 zb, .int .i64 zc, .int .i64 zx, .int .i64 zi, .string zs, .string zt]] w fun e w' => e = .returned (.int .i64 (qbL zk zs)) ∧ Ext w w' := by
 by_cases h0 : zk < 0
 · have hc : qbL zk zs = -1 := by unfold qbL; rw [if_pos (Or.inl h0)]
   rw [hc]
   go_enter Tryz.func222, Tryz.ntmps222
   go_wp2_with fail
   go_ret
   exact ⟨rfl, zaf⟩
 by_cases h1 : 11 < zk
 · have hc : qbL zk zs = -1 := by unfold qbL; rw [if_pos (Or.inr h1)]
   rw [hc]
   have h2 : 0 ≤ zk := by omega
   clear h0
   go_enter Tryz.func222, Tryz.ntmps222
   go_wp2_with fail
   go_ret
   exact ⟨rfl, zaf⟩
 by_cases h3 : zk < 11
 · have hc : qbL zk zs = 6 := by unfold qbL; rw [if_neg zae, if_pos h3]
   rw [hc]
   have h2 : 0 ≤ zk := by omega
   have h4 : zk ≤ 11 := by omega
   clear h0 h1
   go_enter Tryz.func222, Tryz.ntmps222
   go_wp2_with fail
   go_ret
   exact ⟨rfl, zaf⟩
 have h5 : zk = 11 := by omega
 subst h5
 have hc : qbL 11 zs = (qbU zs.data.toList).getD (-1) := rfl
 rw [hc]
 have CL := Lib.hid qdR
 obtain ⟨O, hO⟩ : ∃ O, qbU zs.data.toList = O := ⟨_, rfl⟩
 have LK := Lib.hid (fun (w : World) (B : Nat) h => look_close (w := w) (B := B) h zs hs)
 rw [hO] at LK ⊢
 clear hO h0 h1 h3 hc hs
 go_enter Tryz.func222, Tryz.ntmps222
 go_wp2_with fail
 refine qaa 9 28 [false, false, false, false, false, false, false, false, false] zad zad rfl ?_
 simp only [List.take_succ_cons, List.take_zero, List.drop_succ_cons, List.drop_zero]
 refine Lex.gap 19 CloMap rfl CloMap.upc rfl (fun d os => ?_) ?_
 · unfold StepG
   go_simp
   exact (CL.out _).mono fun e w' ⟨B, he, ho, hx⟩ => ⟨_, he, hx, B, rfl, ho⟩
 iterate 2 (refine Lex.step rfl ?_; intro K hK; unfold StepG; go_simp; refine hK _ ?_; clear hK K)
 refine Lex.go1 (.tuple #[.int .i64 (O.getD 0), .bool O.isSome]) 19 CloMap rfl (fun u d os hu => ?_) ?_
 · obtain ⟨B, rfl, ho⟩ := hu
   have hlk := LK.out _ _ ho
   clear ho
   unfold StepG
   go_simp
 go_simp
 iterate 5 (refine Lex.step rfl ?_; intro K hK; unfold StepG; go_simp; refine hK _ ?_; clear hK K)
 refine Lex.nil fun WW hE => ?_
 intro u hu
 obtain ⟨dd, oo, rfl⟩ := hE
 clear hu
 go_simp
 unfold FillH
 go_wp2_with fail
 try rw [ends_normal]
 cases O with
 | none =>
  go_wp2_with fail
  go_ret
  exact ⟨rfl, zaf⟩
 | some v =>
  go_wp2_with fail
  go_ret
  exact ⟨rfl, zaf⟩
def shA (k : Int) : Bool := [5, 6, 7, 8, 9, 10, 23, 27, 28, 11, 22, 20, 21, 24, 25].contains k
def shB (k : Int) : Bool := [11, 22].contains k
def shBB (k : Int) : Bool := [24, 25, 26].contains k
def shBC (k : Int) : Bool := [24].contains k
def shS (k : Int) : Bool := [4, 20, 21, 25].contains k
def shT (k : Int) : Bool := [25].contains k
def qca (k : Int) : Bool := [0, 1, 2, 3, 4, 5, 6, 7, 8, 9, 10, 11, 20, 21, 22, 23, 24, 25, 26, 27, 28].contains k
theorem kind_cases (k : Int) : (k = 0 ∨ k = 1 ∨ k = 2 ∨ k = 3 ∨ k = 4 ∨ k = 5 ∨ k = 6 ∨ k = 7 ∨ k = 8 ∨ k = 9 ∨ k = 10 ∨ k = 11 ∨ k = 20 ∨ k = 21 ∨ k = 22 ∨ k = 23 ∨ k = 24 ∨ k = 25 ∨ k = 26 ∨ k = 27 ∨ k = 28) ∨ ((k == 0) = false ∧ (k == 1) = false ∧ (k == 2) = false ∧ (k == 3) = false ∧ (k == 4) = false ∧ (k == 5) = false ∧ (k == 6) = false ∧ (k == 7) = false ∧ (k == 8) = false ∧ (k == 9) = false ∧ (k == 10) = false ∧ (k == 11) = false ∧ (k == 20) = false ∧ (k == 21) = false ∧ (k == 22) = false ∧ (k == 23) = false ∧ (k == 24) = false ∧ (k == 25) = false ∧ (k == 26) = false ∧ (k == 27) = false ∧ (k == 28) = false) := by
 by_cases h : k = 0 ∨ k = 1 ∨ k = 2 ∨ k = 3 ∨ k = 4 ∨ k = 5 ∨ k = 6 ∨ k = 7 ∨ k = 8 ∨ k = 9 ∨ k = 10 ∨ k = 11 ∨ k = 20 ∨ k = 21 ∨ k = 22 ∨ k = 23 ∨ k = 24 ∨ k = 25 ∨ k = 26 ∨ k = 27 ∨ k = 28
 · exact Or.inl h
 · right
   simp only [not_or] at h
   simp only [beq_eq_false_iff_ne, ne_eq]
   exact h
theorem sh_none (k : Int) (h : (k == 0) = false ∧ (k == 1) = false ∧ (k == 2) = false ∧ (k == 3) = false ∧ (k == 4) = false ∧ (k == 5) = false ∧ (k == 6) = false ∧ (k == 7) = false ∧ (k == 8) = false ∧ (k == 9) = false ∧ (k == 10) = false ∧ (k == 11) = false ∧ (k == 20) = false ∧ (k == 21) = false ∧ (k == 22) = false ∧ (k == 23) = false ∧ (k == 24) = false ∧ (k == 25) = false ∧ (k == 26) = false ∧ (k == 27) = false ∧ (k == 28) = false) : qca k = false ∧ shA k = false ∧ shB k = false ∧ shBB k = false ∧ shBC k = false ∧ shS k = false ∧ shT k = false := by
 obtain ⟨a0, a1, a2, a3, a4, a5, a6, a7, a8, a9, a10, a11, a20, a21, a22, a23, a24, a25, a26, a27, a28⟩ := h
 have c : ∀ (x : Int) (l : List Int), (x :: l).contains k = (k == x || l.contains k) := fun x l => by rw [List.contains_cons]
 have n : ([] : List Int).contains k = false := rfl
 refine ⟨?_, ?_, ?_, ?_, ?_, ?_, ?_⟩
 · unfold qca; simp only [c, n, a0, a1, a2, a3, a4, a5, a6, a7, a8, a9, a10, a11, a20, a21, a22, a23, a24, a25, a26, a27, a28, Bool.or_self]
 · unfold shA; simp only [c, n, a5, a6, a7, a8, a9, a10, a23, a27, a28, a11, a22, a20, a21, a24, a25, Bool.or_self]
 · unfold shB; simp only [c, n, a11, a22, Bool.or_self]
 · unfold shBB; simp only [c, n, a24, a25, a26, Bool.or_self]
 · unfold shBC; simp only [c, n, a24, Bool.or_self]
 · unfold shS; simp only [c, n, a4, a20, a21, a25, Bool.or_self]
 · unfold shT; simp only [c, n, a25, Bool.or_self]
set_option maxHeartbeats 4000000 in
set_option maxRecDepth 20000 in
theorem shape_any (k : Int) (w : World) : Calls Tryz.prog 197 #[.int .i64 k] w fun e w' => e = .returned (.tuple #[.agg #[.bool (shA k), .bool (shB k), .bool (shBB k), .bool (shBC k), .bool (shS k), .bool (shT k)], .bool (qca k)]) ∧ Ext w w' := by
 rcases kind_cases k with h | h
 · rcases h with rfl | rfl | rfl | rfl | rfl | rfl | rfl | rfl | rfl | rfl | rfl | rfl | rfl | rfl | rfl | rfl | rfl | rfl | rfl | rfl | rfl
   all_goals
    go_enter Tryz.func197, Tryz.ntmps197
    go_wp2_with fail
    refine bodyPost_ret (by simp [results, Tryz.results197, go_sem]; rfl) rfl ⟨?_, zaf⟩
    kernel_rfl
 · obtain ⟨s0, s1, s2, s3, s4, s5, s6⟩ := sh_none k h
   rw [s0, s1, s2, s3, s4, s5, s6]
   obtain ⟨a0, a1, a2, a3, a4, a5, a6, a7, a8, a9, a10, a11, a20, a21, a22, a23, a24, a25, a26, a27, a28⟩ := h
   go_enter Tryz.func197, Tryz.ntmps197
   go_wp2_with fail
   exact bodyPost_ret (v := .tuple #[.agg #[.bool false, .bool false, .bool false, .bool false, .bool false, .bool false], .bool false]) (by simp [results, Tryz.results197, go_sem]) rfl ⟨rfl, zaf⟩
/-- may a node have its number? -/
def numOk (k c i : Int) : Bool :=
 if k = 2 then decide (0 ≤ i) else if k = 1 then (i == 0 || i == 1) else if k = 24 then (i == 1 || (i == 0 && c == -1)) else if k = 25 ∨ k = 26 then (decide (0 ≤ i) && decide (i ≤ 64)) else i == 0
set_option maxHeartbeats 4000000 in
set_option maxRecDepth 20000 in
theorem num_any (zk za zb zc zx zi : Int) (zs zt : ByteArray) (w : World) : Calls Tryz.prog 198 #[.agg #[.int .i64 zk, .int .i64 za, .int .i64 zb, .int .i64 zc, .int .i64 zx, .int .i64 zi, .string zs, .string zt]] w fun e w' => e = .returned (.bool (numOk zk zc zi)) ∧ Ext w w' := by
 by_cases h2 : zk = 2
 · subst h2
   have hr : numOk 2 zc zi = decide (0 ≤ zi) := rfl
   rw [hr]
   by_cases hi : 0 ≤ zi
   · rw [decide_eq_true hi]
     go_enter Tryz.func198, Tryz.ntmps198
     go_wp2_with fail
     go_ret
     exact ⟨ret_bool zan, zaf⟩
   · rw [decide_eq_false hi]
     have hi2 : zi < 0 := by omega
     clear hi
     go_enter Tryz.func198, Tryz.ntmps198
     go_wp2_with fail
     go_ret
     exact ⟨ret_bool zan, zaf⟩
 by_cases h1 : zk = 1
 · subst h1
   have hr : numOk 1 zc zi = (zi == 0 || zi == 1) := rfl
   rw [hr]
   cases q0 : (zi == 0) <;> cases q1 : (zi == 1)
   all_goals
    go_enter Tryz.func198, Tryz.ntmps198
    go_wp2_with fail
    go_ret
    exact ⟨ret_bool zan, zaf⟩
 by_cases h24 : zk = 24
 · subst h24
   have hr : numOk 24 zc zi = (zi == 1 || (zi == 0 && zc == -1)) := rfl
   rw [hr]
   cases q1 : (zi == 1) <;> cases q0 : (zi == 0) <;> cases qc : (zc == -1)
   all_goals
    go_enter Tryz.func198, Tryz.ntmps198
    go_wp2_with fail
    go_ret
    exact ⟨ret_bool zan, zaf⟩
 have q2 : (zk == 2) = false := by simpa using h2
 have q1 : (zk == 1) = false := by simpa using h1
 have q24 : (zk == 24) = false := by simpa using h24
 by_cases h25 : zk = 25 ∨ zk = 26
 · have hr : numOk zk zc zi = (decide (0 ≤ zi) && decide (zi ≤ 64)) := by unfold numOk; rw [if_neg h2, if_neg h1, if_neg h24, if_pos h25]
   rw [hr]
   clear q2 q1 q24 h2 h1 h24 hr
   by_cases hi : 0 ≤ zi
   · rw [decide_eq_true hi]
     by_cases hj : zi ≤ 64
     · rw [decide_eq_true hj]
       rcases h25 with rfl | rfl
       all_goals
        go_enter Tryz.func198, Tryz.ntmps198
        go_wp2_with fail
        go_ret
        exact ⟨ret_bool zan, zaf⟩
     · rw [decide_eq_false hj]
       have hj2 : 64 < zi := by omega
       clear hj
       rcases h25 with rfl | rfl
       all_goals
        go_enter Tryz.func198, Tryz.ntmps198
        go_wp2_with fail
        go_ret
        exact ⟨ret_bool zan, zaf⟩
   · rw [decide_eq_false hi]
     have hi2 : zi < 0 := by omega
     clear hi
     rcases h25 with rfl | rfl
     all_goals
      go_enter Tryz.func198, Tryz.ntmps198
      go_wp2_with fail
      go_ret
      exact ⟨ret_bool zan, zaf⟩
 have hr : numOk zk zc zi = (zi == 0) := by unfold numOk; rw [if_neg h2, if_neg h1, if_neg h24, if_neg h25]
 rw [hr]
 have q25 : (zk == 25) = false := by simp; exact fun e => h25 (Or.inl e)
 have q26 : (zk == 26) = false := by simp; exact fun e => h25 (Or.inr e)
 clear h2 h1 h24 h25 hr
 cases q0 : (zi == 0)
 all_goals
  go_enter Tryz.func198, Tryz.ntmps198
  go_wp2_with fail
  go_ret
  exact ⟨ret_bool zan, zaf⟩
theorem tokcM {w : World} {base g cap n : Nat} {l : List (Tok × Nat)} (h : w.ownsRow base 186 4 (.slice (some ⟨g, 0, none⟩) n cap) n (qap l)) (j : Nat) (u : Value) (hj : (qap l)[j]? = some u) : w.cell? ⟨g, j, none⟩ = some u := by
 have := h.cells (g := g) rfl j u hj
 rwa [Addr.add_lit, Nat.zero_add] at this
/-- is it a name? -/
def nameR (r : List (Tok × Nat) × Int × Nat) (s : ByteArray) : Bool := r.2.1 == 0 && (match r.1 with | [t, _] => t.1.k == 1 && t.1.s.toList == s.toList | _ => false)
def qdA (s : ByteArray) : Bool := nameR (lexF s.data.toList) s
set_option maxHeartbeats 4000000 in
set_option maxRecDepth 20000 in
theorem name1_ok (s : ByteArray) (w : World) : Calls Tryz.prog 220 #[.string s] w fun e w' => e = .returned (.bool (qdA s)) ∧ Ext w w' := by
 unfold qdA
 obtain ⟨l, e, x, hl⟩ : ∃ l e x, lexF s.data.toList = (l, e, x) := ⟨_, _, _, rfl⟩
 have T := Lib.hid (qdE s _ hl)
 rw [hl]
 clear hl
 by_cases he : e = 0
 rotate_left
 · have q0 : (e == 0) = false := by simpa using he
   have hr : nameR (l, e, x) s = false := by
    unfold nameR
    dsimp only
    rw [q0, Bool.false_and]
   clear q0
   rw [hr]
   have HE := Lib.hid he
   have q : (e == 0) = false := by simpa using he
   clear hr he
   go_enter Tryz.func220, Tryz.ntmps220
   go_wp2_with ((go_at_call 96; (with_reducible refine (T.out _).mono ?_); rintro e' w1 (⟨h2, _⟩ | ⟨_, he, d1, os1, rfl⟩); exact absurd h2 HE.out; dsimp only at he; subst he))
   go_ret
   exact ⟨rfl, zaf⟩
 subst he
 by_cases h2 : l.length = 2
 rotate_left
 · have hr : nameR (l, 0, x) s = false := by
     unfold nameR
     match l, h2 with
     | [], _ => rfl
     | [_], _ => rfl
     | [_, _], h => exact absurd rfl h
     | _ :: _ :: _ :: _, _ => rfl
   rw [hr]
   have q : (((l.length : Nat) : Int) == 2) = false := beq_eq_false_iff_ne.2 zae
   clear hr h2
   go_enter Tryz.func220, Tryz.ntmps220
   go_wp2_with ((go_at_call 96; (with_reducible refine (T.out _).mono ?_); rintro e' w1 (⟨_, g, cap, he, hrow, d1, os1, rfl⟩ | ⟨h2, _⟩); rotate_left; exact absurd rfl h2; dsimp only at he; subst he; clear hrow))
   go_ret
   exact ⟨rfl, zaf⟩
 match l, h2 with
 | [((⟨tk, ts, ti⟩ : Tok), p0), t1], _ =>
  have hr : nameR ([((⟨tk, ts, ti⟩ : Tok), p0), t1], 0, x) s = (tk == 1 && ts.toList == s.toList) := rfl
  rw [hr]
  cases q1 : (tk == 1) <;> cases q2 : (ts.toList == s.toList)
  all_goals
   go_enter Tryz.func220, Tryz.ntmps220
   go_wp2_with ((go_at_call 96; (with_reducible refine (T.out _).mono ?_); rintro e' w1 (⟨_, g, cap, he, hrow, hx⟩ | ⟨h2, _⟩); rotate_left; exact absurd rfl h2; dsimp only [List.length_cons, List.length_nil] at he hrow; subst he; have hgs := (hrow.lt g rfl).2; have k0 := tokcM hrow 0 _ rfl; have k2 := tokcM hrow 2 _ rfl; clear hrow; have HX := Lib.hid hx; clear hx))
   go_ret
   exact ⟨rfl, HX.out.trans zab⟩
end Go.Proofs.YtpnabjopfpdkhaaGreatDoor

namespace Go.Proofs.YtpnabjopfpdkhaaGreatDoor
open Go.RowKit
attribute [go_sem] more_more Array.size_append
end Go.Proofs.YtpnabjopfpdkhaaGreatDoor
