/- Lemmas. -/
import Derived.Test.YtpoeknndkccbaaaGreatO02
import Derived.Test.YtpoeknndkccbaaaGreatO05
import Derived.Outline
import Derived.Lib.SmallJoins
set_option linter.unusedSimpArgs false
set_option linter.unusedVariables false
set_option maxHeartbeats 2000000
set_option maxRecDepth 20000
namespace Go.Proofs.YtpoeknndkccbaaaGreat
open Go.RowKit
variable {N a n x y z : Nat} {w : World} {lv : Value}
theorem ltV1 (h : a < n) : (a < n + x) = True := by simp; omega
theorem ltV2 (h : a < n) : (a < n + x + y) = True := by simp; omega
theorem ltV3 (h : a < n) : (a < n + x + y + z) = True := by simp; omega
theorem ltV4 {u : Nat} (h : a < n) : (a < n + x + y + z + u) = True := by simp; omega
theorem ltV5 {u v : Nat} (h : a < n) : (a < n + x + y + z + u + v) = True := by simp; omega
attribute [go_sem] ltV1 ltV2 ltV3 ltV4 ltV5
theorem tokInfo : (Tryz.prog.info? 100).map (fun i => (i.zero, i.size, i.bytes)) = some (some (.agg #[.int .i64 0, .int .i64 0, .string ⟨#[]⟩, .int .i64 0]), 4, 40) := by kernel_rfl
theorem tokens_big (s : ByteArray) (hs : 4096 < (s.size : Int)) (w : World) :
  Calls Tryz.prog 33 #[.string s] w fun e w' => e = .returned (.tuple #[.slice none 0 0, .int .i64 5, .int .i64 4096]) ∧ Ext w w' := by
 go_enter Tryz.func33, Tryz.ntmps33
 go_wp2
 go_ret3
 exact ⟨rfl, zac⟩
def qdm (w : World) (r : List (Tok × Nat) × Int × Nat) (e : Ending) (w' : World) : Prop :=
 (r.2.1 = 0 ∧ ∃ g cap, e = .returned (.tuple #[.slice (some ⟨g, 0, none⟩) r.1.length cap, .int .i64 0, .int .i64 0]) ∧ w'.ownsRow w.heap.size 100 4 (.slice (some ⟨g, 0, none⟩) r.1.length cap) r.1.length (qas r.1) ∧ Ext w w') ∨
 (r.2.1 ≠ 0 ∧ e = .returned (.tuple #[.slice none 0 0, .int .i64 r.2.1, .int .i64 (r.2.2 : Int)]) ∧ Ext w w')
theorem qfr {w' : World} {r : List (Tok × Nat) × Int × Nat} {v : Value} (h0 : r.2.1 = 0) (hl : 0 < r.1.length) (hown : w'.ownsRow (w.heap.size + 1) 100 4 v r.1.length (qas r.1)) (hx : Ext w w') :
  qdm w r (.returned (.tuple #[v, .int .i64 0, .int .i64 0])) w' := by
 obtain ⟨g, cap, rfl, _, _⟩ := hown.form hl
 exact Or.inl ⟨h0, g, cap, rfl, hown.mono zae, hx⟩
theorem qby (l : List (Tok × Nat)) (t : Tok) (k : Nat) : qas (l ++ [(t, k)]) = qas l ++ [.int .i64 t.k, .int .i64 (k : Int), .string t.s, .int .i64 t.i] := by rw [qdO]; rfl
theorem qbT {wr w1 w2 : World} {v : Value} (hN : N = w.heap.size) (hb : Below N w wr) (hx : Ext (wr.setCell ⟨N, 1, none⟩ v) w1) (hg : w1.grownBy w2 lv.ownBlock) (hl : ∀ k, lv.ownBlock = some k → N < k) : Ext w w2 := by
 subst hN
 have h1 : Ext w wr := Ext.of_below hb
 have h2 : Ext w (wr.setCell ⟨w.heap.size, 1, none⟩ v) := h1.setCell (Nat.le_refl _) v
 exact (h2.trans hx).grown hg (fun k hk => Nat.le_of_lt (hl k hk))
theorem news_split {d1 d2 : Nat} {os1 os2 : Array Obj} {cs : Array Value} {t : TypeId} (hN : N = w.heap.size + os1.size) :
  ∀ j u, cs.toList[j]? = some u → (more ((more w d1 os1).alloc (.cells cs t)) d2 os2).cell? ((⟨N, 0, none⟩ : Addr).add j) = some u := by
 intro j u h
 have hN' : N = (more w d1 os1).heap.size := by rw [more_size]; exact hN
 subst hN'
 rw [Addr.add_lit, qdX _ _ _ _ _ zan]
 simp only [World.cell?, heap_alloc_new]
 simpa using h
theorem lex_grown {b : Nat} {s : ByteArray} {k : Nat} {w' : World} {row : Option Nat} (h : LexAt b s k lv w) (hg : w.grownBy w' row) (hne : row ≠ some b) : LexAt b s k lv w' := by
 obtain ⟨h1, h2, h3, h4, h5⟩ := hg
 unfold LexAt; rw [h5 b h.lt (fun e => hne e.symm)]; exact h
theorem LexAt.setL {b : Nat} {s : ByteArray} {k : Nat} (h : LexAt b s k lv w) (v : Value) : LexAt b s k v (w.setCell ⟨b, 2, none⟩ v) := by
 unfold LexAt at h ⊢
 simp [World.setCell, Array.getElem?_modify, h]
theorem qao {cs : Array Value} {t : TypeId} (hN : N = w.heap.size) : ∀ j u, cs.toList[j]? = some u → (w.alloc (.cells cs t)).cell? ((⟨N, 0, none⟩ : Addr).add j) = some u := by
 intro j u h
 subst hN
 rw [Addr.add_lit]
 simp only [World.cell?, heap_alloc_new]
 simpa using h
theorem tokens_x (s : ByteArray) (hs : (s.size : Int) ≤ 4096) (res : List (Tok × Nat) × Int × Nat) (HR : RowKit.Hid (lexG s.data.toList (s.size + 1) 0 [] = res)) (w : World) : Calls Tryz.prog 33 #[.string s] w (qdm w res) := by
 go_enter Tryz.func33, Tryz.ntmps33
 go_wp2_with fail
 go_loopg [] (s.size + 1) (fun g wr => ∃ (k : Nat) (acc : List (Tok × Nat)) (lv : Value), k ≤ s.size ∧ s.size + 1 ≤ k + g ∧ acc.length ≤ 1024 ∧ lexG s.data.toList g k acc = res ∧ LexAt w.heap.size s k lv wr ∧ wr.ownsRow (w.heap.size + 1) 100 4 lv acc.length (qas acc) ∧ Below w.heap.size w wr)
 case atStart => exact ⟨0, [], .slice none 0 0, Nat.zero_le _, by omega, by simp, HR.out, (by unfold LexAt; exact heap_alloc_new _ _), World.ownsRow_nil _ _ _ _, (Below.refl _ _).alloc (Nat.le_refl _) _⟩
 case round =>
  obtain ⟨k, acc, lv, hk, hkg, hac, hlex, hL, hown, hbl⟩ := hrel
  have hb := hL.lt
  have hs' : s.size ≤ maxLen := by unfold maxLen; omega
  have hlen : s.data.toList.length = s.size := by simp
  obtain ⟨g, rfl⟩ : ∃ g, gk = g + 1 := ⟨gk - 1, by omega⟩
  rw [lexG, hlen] at hlex
  obtain ⟨i0, hi, hz0, hz1, hz2⟩ := info_parts tokInfo
  have HOWN := Lib.hid hown
  have HBL := Lib.hid hbl
  have HL := Lib.hid hL
  by_cases hend : k + skipL false (s.data.toList.drop k) = s.size
  · rw [if_pos zae] at hlex
    have N := Lib.hid (next_end w.heap.size s k _ lv hk hs' rfl hend wr hL)
    have HLEX := Lib.hid hlex
    obtain ⟨c0, c1, c2, f1, f2⟩ := hL.cells
    unfold tokV tok0 at N
    rw [hend] at N
    clear hL hown hbl hend hlex hlen
    go_wp2_with (first
     | (go_at_call 47; refine N.out.mono ?_; rintro e _ ⟨rfl, d, os, rfl⟩)
     | (at_builtin; refine wpList_append_own_at _ rfl _ _ 83 rfl (w.heap.size + 1) 100 i0 (.agg #[.int .i64 0, .int .i64 0, .string ⟨#[]⟩, .int .i64 0]) 4 40 Tryz.underlying83 hi hz0 hz1 hz2 rfl zal lv acc.length (qas acc) rfl ?c0 ⟨wr.heap.size + os.size + 1, 0, none⟩ 1 1 [.int .i64 0, .int .i64 (s.size : Int), .string ⟨#[]⟩, .int .i64 0] rfl rfl ?c1 ?c2 ?c3 ?c4 ?c5 ?_))
    case c0 => exact ((own_more (ownsRow_setCell_below HOWN.out zan _) _ _).alloc _).alloc _
    case c1 => exact qao zbl
    case c2 => intro u hu; simp at hu; rcases hu with rfl | rfl | rfl | rfl <;> rfl
    case c3 => unfold maxLen; omega
    case c4 => omega
    case c5 => simp [more_size]; omega
    intro v' w1 hown' hgrow _ hblk
    go_wp2
    go_ret3
    have hl := HLEX.out
    subst hl
    refine qfr rfl zan ?_ (qbT rfl HBL.out zac hgrow (fun k hk => (HOWN.out.lt k hk).1))
    rw [qby]
    simpa [tok0] using hown'
  · -- MORE
    have hle := qbZ false (s.data.toList.drop k)
    obtain ⟨sk, hsk⟩ : ∃ sk, skipL false (s.data.toList.drop k) = sk := ⟨_, rfl⟩
    rw [hsk] at hlex hend hle
    have hlt : k + sk < s.size := by simp at hle; omega
    obtain ⟨r, n1, er, hr⟩ : ∃ r n1 er, oneF (s.data.toList.drop (k + sk)) = (r, n1, er) := ⟨_, _, _, rfl⟩
    rw [if_neg zae, hr] at hlex
    dsimp only at hlex
    have N := Lib.hid (next_any w.heap.size s k sk lv hk zae hsk hlt n1 r er hr wr hL)
    obtain ⟨m, hm⟩ : ∃ m, k + sk = m := ⟨_, rfl⟩
    rw [hm] at N hlex hlt hr
    obtain ⟨c0, c1, c2, f1, f2⟩ := hL.cells
    by_cases her : er = 0
    · subst her
      rw [if_neg zan] at hlex
      by_cases hfull : acc.length = 1024
      · rw [if_pos hfull] at hlex
        have HLEX := Lib.hid hlex
        have HF := Lib.hid hfull
        rw [hfull] at hown
        rcases Go.Joins.ownsRow_forms hown with ⟨rfl, h0⟩ | ⟨g1, cap, rfl⟩
        · omega
        clear hL hown hbl hlex hlen hm hr hsk hfull HOWN
        go_wp2_with (go_at_call 47; refine N.out.mono ?_; rintro e _ ⟨rfl, k2, hk2, d, os, rfl⟩; have HK2 := Lib.hid hk2; clear hk2)
        refine qaa 5 58 [false, false, false, false, false] zad zad rfl ?_
        refine yac ?_
        repeat (refine Lex.step rfl ?_; intro K hK; unfold StepG; go_simp; (first
          | refine hK _ ?_); clear hK K)
        refine yaa ?_; intro dd oo
        go_wp2_with fail
        rw [ends_normal]
        go_wp2_with fail
        go_ret3
        have hl := HLEX.out
        subst hl
        exact Or.inr ⟨by simp, rfl, qbT rfl HBL.out zac (lv := .slice none 0 0) (grown_refl _ _) (by intro k hk; simp [Value.ownBlock] at hk)⟩
      · rw [if_neg hfull] at hlex
        have HLEX := Lib.hid hlex
        have hF : ((acc.length : Int) == 1024) = false := by simp; omega
        have hbd := oneF_bd _ r n1 zba hr
        have HBD : RowKit.Hid (1 ≤ n1 ∧ m + n1 ≤ s.size ∧ s.size + 1 ≤ k + g + 1 ∧ k ≤ m ∧ acc.length + 1 ≤ 1024) := Lib.hid ⟨hbd.1, by have := hbd.2; simp at this; omega, by omega, by omega, by omega⟩
        obtain ⟨len, cap, p, rfl, hlen2⟩ : ∃ len cap p, lv = .slice p len cap ∧ len = acc.length := by
         rcases Go.Joins.ownsRow_forms hown with ⟨rfl, h0⟩ | ⟨g1, cap, rfl⟩
         · exact ⟨_, _, _, rfl, h0.symm⟩
         · exact ⟨_, _, _, rfl, rfl⟩
        subst hlen2
        clear hL hown hbl hlex hlen hm hr hsk hfull hbd
        go_wp2_with (go_at_call 47; refine N.out.mono ?_; rintro e _ ⟨rfl, k2, hk2, d, os, rfl⟩; have HK2 := Lib.hid hk2; clear hk2)
        refine qaa 7 58 [true, false, false, false, false, false, false] zad zad rfl ?_
        refine yac ?_
        refine Lex.stepP rfl rfl ?_; intro K hK; go_simp; refine hK _ ?_; clear hK K
        iterate 5 (refine Lex.step rfl ?_; intro K hK; unfold StepG; go_simp; refine hK _ ?_; clear hK K)
        refine Lex.sliceLit 54 (.cells #[.int .i64 r.k, .int .i64 (m : Int), .string r.s, .int .i64 r.i] 100) 1 1 rfl rfl (fun d os => ?_) ?_
        · unfold StepG
          go_simp
          exact ⟨(Ext.refl _).alloc _, NewSl.of_alloc _ _ _ _ _ _ _ zbl⟩
        refine Lex.nil fun WW hE => ?_
        intro u hu
        obtain ⟨d1, os1, d2, os2, rfl, rfl⟩ := hu.split hE
        clear hu hE
        go_simp
        unfold FillH
        go_wp2_with (at_builtin; refine wpList_append_own_at _ rfl _ _ 83 rfl (w.heap.size + 1) 100 i0 (.agg #[.int .i64 0, .int .i64 0, .string ⟨#[]⟩, .int .i64 0]) 4 40 Tryz.underlying83 hi hz0 hz1 hz2 rfl zal (.slice p acc.length cap) acc.length (qas acc) rfl ?c0 ⟨_, 0, none⟩ 1 1 [.int .i64 r.k, .int .i64 (m : Int), .string r.s, .int .i64 r.i] rfl rfl ?c1 ?c2 ?c3 ?c4 ?c5 ?_)
        case c0 => repeat (first | (with_reducible exact ownsRow_setCell_below HOWN.out zan _) | (with_reducible apply own_more) | (with_reducible refine World.ownsRow.alloc ?_ _))
        case c1 => exact news_split zbl
        case c2 => intro u hu; simp at hu; rcases hu with rfl | rfl | rfl | rfl <;> rfl
        case c3 => have := HBD.out; unfold maxLen; omega
        case c4 => have := HBD.out; omega
        case c5 => simp [more_size]; omega
        intro v' w1 hown' hgrow _ hblk
        have k2e := HK2.out trivial
        subst k2e
        have HL1 : LexAt w.heap.size s (m + n1) (.slice p acc.length cap) w1 := by
         refine lex_grown ?_ hgrow (fun e => Nat.lt_irrefl _ ((HOWN.out.lt _ e).1))
         repeat (first | (with_reducible apply LexAt.more) | (with_reducible apply LexAt.alloc) | (with_reducible exact LexAt.set HL.out _ _ rfl))
        obtain ⟨c0, c1, c2, f1, f2⟩ := HL1.cells
        have hb1 := HL1.lt
        have hx : Ext w w1 := qbT rfl HBL.out zac hgrow (fun k hk => (HOWN.out.lt k hk).1)
        obtain ⟨g1, cap1, rfl, _, _⟩ := hown'.form zae
        have HOWN1 := Lib.hid hown'
        have HX := Lib.hid hx
        have HLL := Lib.hid HL1
        clear hown' hgrow hblk HL1 hx HL HOWN HBL N
        go_wp2_with fail
        first | rw [ends_normal] | skip
        go_wp2_with fail
        go_roundg g
        case measure => omega
        case rel =>
         have hq := HBD.out
         refine ⟨m + n1, acc ++ [(r, m)], _, by omega, by omega, by simp; omega, HLEX.out, HLL.out.setL _, ?_, (HX.out.setCell (Nat.le_refl _) _).below⟩
         rw [qby]
         have := ownsRow_setCell_below HOWN1.out (a := ⟨w.heap.size, 2, none⟩) zan (.slice (some ⟨g1, 0, none⟩) (acc.length + 1) cap1)
         simpa using this
    · rw [if_pos her] at hlex
      have HLEX := Lib.hid hlex
      have he1 : (er == 0) = false := by simpa using her
      have he2 : (er != 0) = true := by simpa using her
      have HE := Lib.hid her
      clear hL hown hbl hlex hlen hm hr hsk her
      go_wp2_with (go_at_call 47; refine N.out.mono ?_; rintro e _ ⟨rfl, k2, hk2, d, os, rfl⟩; have HK2 := Lib.hid hk2; clear hk2)
      refine qaa 6 58 [false, false, false, false, false, false] zad zad rfl ?_
      refine yac ?_
      repeat (refine Lex.step rfl ?_; intro K hK; unfold StepG; go_simp; (first
        | refine hK _ ?_); clear hK K)
      refine yaa ?_; intro dd oo
      go_wp2_with fail
      rw [ends_normal]
      go_wp2_with fail
      go_ret3
      have hl := HLEX.out
      subst hl
      exact Or.inr ⟨HE.out, rfl, qbT rfl HBL.out zac (lv := .slice none 0 0) (grown_refl _ _) (by intro k hk; simp [Value.ownBlock] at hk)⟩
theorem qeE (s : ByteArray) (res : List (Tok × Nat) × Int × Nat) (hr : lexF s.data.toList = res) (w : World) : Calls Tryz.prog 33 #[.string s] w (qdm w res) := by
 have hl : s.data.toList.length = s.size := by simp
 unfold lexF at hr
 by_cases h : 4096 < s.data.toList.length
 · rw [if_pos h] at hr
   subst hr
   exact (tokens_big s zae w).mono fun e w' ⟨h1, h2⟩ => Or.inr ⟨by simp, h1, h2⟩
 · rw [if_neg h, hl] at hr
   exact tokens_x s zae res (Lib.hid hr) w
end Go.Proofs.YtpoeknndkccbaaaGreat
