/- Lemmas for the claim (texts Bld, Lex2, Lex3, Lex4, ParP, what its proof uses of them). -/
import Derived.Test.YtpnabjopfpdkhaaGreatDoorB02
import Derived.Test.YtpnabjopfpdkhaaGreatDoorShelf
import Derived.Lib.Builder
import Derived.Lib.AppendStr
import Derived.Deep.WholeRow
import Derived.Laws.Tables
import Derived.Laws.Rows
import Derived.Outline
set_option linter.unusedSimpArgs false
set_option linter.unusedVariables false
namespace Go.Proofs.YtpnabjopfpdkhaaGreatDoor
open Go.RowKit
abbrev Bld (B b : Nat) (bs : List Value) (w : World) : Prop := Lib.IsBuilder 236 5 B b bs w
abbrev BldU (B b : Nat) (bs : List Value) (w : World) : Prop := Lib.BuilderAt 236 5 B b (.pointer (some ⟨b, 0, none⟩)) bs w
theorem bldInfo : (Tryz.prog.info? 236).map (·.size) = some 2 := by kernel_rfl
theorem bldLies : liesAt Tryz.prog Tryz.prog.depth 236 (2 / Tryz.prog.cellsOf 236) 0 236 1 = true := by kernel_rfl
theorem u8info : (Tryz.prog.info? 5).map (fun i => (i.zero, i.size, i.bytes)) = some (some (.int .u8 0), 1, 1) := by kernel_rfl
theorem qdC {T e : TypeId} {B b b0 : Nat} {p : Value} {bs : List Value} {w w' : World} (h : Lib.BuilderAt T e B b p bs w) (hg : w.grownBy w' (some b0)) (hb : b0 < B) : Lib.BuilderAt T e B b p bs w' := by
 have hlt := Lib.BuilderAt.lt h
 obtain ⟨hB, v, hbk, hown, hne⟩ := h
 refine ⟨hB, v, ?_, ?_, hne⟩
 · rw [hg.block b hlt zaw]; exact hbk
 · refine hown.kept hg ?_
   cases hv : v.ownBlock with
   | none => exact Or.inl rfl
   | some k =>
    refine Or.inr ?_
    have := (hown.lt k hv).1
    simp; omega
theorem bld_kept {B b b0 : Nat} {bs : List Value} {w w' : World} (h : Bld B b bs w) (hg : w.grownBy w' (some b0)) (hb : b0 < B) : Bld B b bs w' := by
 rcases h with h | h
 · exact Or.inl (qdC h hg hb)
 · exact Or.inr (qdC h hg hb)
theorem bldAt_ext {T e : TypeId} {B b : Nat} {p : Value} {bs : List Value} {w w' : World} (h : Lib.BuilderAt T e B b p bs w) (hx : Ext w w') : Lib.BuilderAt T e B b p bs w' := by
 have hlt := Lib.BuilderAt.lt h
 obtain ⟨d, os, rfl⟩ := hx
 obtain ⟨hB, v, hbk, hown, hne⟩ := h
 refine ⟨hB, v, ?_, own_more hown d os, hne⟩
 rw [more_heap _ _ _ _ hlt]; exact hbk
theorem bld_ext {B b : Nat} {bs : List Value} {w w' : World} (h : Bld B b bs w) (hx : Ext w w') : Bld B b bs w' := by
 rcases h with h | h
 · exact Or.inl (bldAt_ext h hx)
 · exact Or.inr (bldAt_ext h hx)
theorem qbO {w wr w' : World} {row : Option Nat} (h : w.grownBy wr row) (hb : Below w.heap.size wr w') : w.grownBy w' row := by
 obtain ⟨h1, h2, h3, h4, h5⟩ := h
 obtain ⟨k1, k2, k3, k4, k5⟩ := hb
 refine ⟨k1.trans h1, k2.trans h2, k3.trans h3, by omega, fun j hj hne => ?_⟩
 rw [k5 j hj, h5 j hj hne]
theorem LexAt.below {b : Nat} {s : ByteArray} {k B : Nat} {lv : Value} {w w' : World} (h : LexAt b s k lv w) (hb : Below B w w') (hB : b < B) : LexAt b s k lv w' := by
 unfold LexAt; rw [hb.block b hB]; exact h
set_option maxHeartbeats 1000000 in
set_option maxRecDepth 100000 in
theorem qdj (b : Nat) (w : World) (h0 : w.cell? ⟨b, 0, none⟩ = some (.pointer (some ⟨b, 0, none⟩))) :
  Calls Tryz.prog 193 #[.pointer (some ⟨b, 0, none⟩)] w fun e w' => e = .returned (.tuple #[]) ∧ w' = w := by
 obtain ⟨j, hj, _⟩ := Option.map_eq_some_iff.1 bldInfo
 go_enter Tryz.func193, Tryz.ntmps193
 go_wp2
 rw [Lib.run_neq_ptr_same w _ Tryz.underlying234 hj]
 go_wp2
 go_end0
 exact ⟨rfl, rfl⟩
set_option maxHeartbeats 1000000 in
set_option maxRecDepth 100000 in
theorem qcY (b : Nat) (w : World) (h0 : w.cell? ⟨b, 0, none⟩ = some (.pointer none)) (hsh : w.shape? b = some (236, 2)) (hfz : w.frozen? ⟨b, 0, none⟩ = false) :
  Calls Tryz.prog 193 #[.pointer (some ⟨b, 0, none⟩)] w fun e w' => e = .returned (.tuple #[]) ∧ w' = w.setCell ⟨b, 0, none⟩ (.pointer (some ⟨b, 0, none⟩)) := by
 obtain ⟨j, hj, hjs⟩ := Option.map_eq_some_iff.1 bldInfo
 go_enter Tryz.func193, Tryz.ntmps193
 go_wp2
 rw [Lib.run_to_unsafe w ⟨b, 0, none⟩ Tryz.underlying234 Tryz.underlying273 hj (by rw [hjs]; decide) hsh (Nat.zero_lt_succ 1)]
 simp only [Result.andThen]
 rw [Oper.upon_value]
 go_wp2
 rw [run_callFunc_extern Tryz.func210 zad zad zad (e := Extern.AbiNoEscape.same) zad]
 rw [Lib.run_noEscape]
 simp only [Result.andThen]
 rw [Oper.upon_value]
 go_wp2
 rw [Lib.run_from_unsafe w ⟨b, 0, none⟩ Tryz.underlying273 Tryz.underlying234 hj hsh bldLies]
 simp only [Result.andThen]
 rw [Oper.upon_value]
 go_wp2
 go_end0
 exact ⟨rfl, rfl⟩
theorem qbX (B b : Nat) (bs : List Value) (w : World) (h : Bld B b bs w) :
  Calls Tryz.prog 193 #[.pointer (some ⟨b, 0, none⟩)] w fun e w' => e = .returned (.tuple #[]) ∧ (BldU B b bs w' ∧ Below B w w') := by
 rcases h with h | h
 · refine (qcY b w h.cell0 h.shape h.frozen0).mono ?_
   rintro e w' ⟨rfl, rfl⟩
   exact ⟨rfl, h.used _, (Below.refl B w).setCell (p := ⟨b, 0, none⟩) h.1 _⟩
 · refine (qdj b w h.cell0).mono ?_
   rintro e w' ⟨rfl, rfl⟩
   exact ⟨rfl, h, Below.refl B _⟩
set_option maxHeartbeats 2000000 in
set_option maxRecDepth 100000 in
theorem qan (B b : Nat) (bs : List Value) (c : Int) (w : World) (h : Bld B b bs w) (hlen : bs.length + 1 ≤ 140737488355328) (hBw : B ≤ w.heap.size) :
  Calls Tryz.prog 159 #[.pointer (some ⟨b, 0, none⟩), .int .u8 c] w fun e w' => e = .returned .nilIface ∧ (Bld B b (bs ++ [.int .u8 c]) w' ∧ Below B w w') := by
 obtain ⟨i0, hi, hz0, hz1, hz2⟩ := info_parts u8info
 go_enter Tryz.func159, Tryz.ntmps159
 go_wp2_with (go_at_call 193; refine (qbX B b bs _ h).mono ?_)
 rintro e w1 ⟨rfl, h1, hb1⟩
 obtain ⟨hB, v, hbk, hown, hne⟩ := h1
 have c0 : w1.cell? ⟨b, 0, none⟩ = some (.pointer (some ⟨b, 0, none⟩)) := by rw [Lib.cell_of_heap hbk]; rfl
 have c1 : w1.cell? ⟨b, 1, none⟩ = some v := by rw [Lib.cell_of_heap hbk]; rfl
 go_wp2_with (at_builtin; refine wpList_append_own _ rfl _ _ 53 rfl B 5 i0 (.int .u8 0) 1 1 Tryz.underlying53 hi hz0 hz1 hz2 rfl zaj _ _ _ rfl (hown.alloc _) ⟨w1.heap.size, 0, none⟩ 1 1 [.int .u8 c] rfl rfl ?c1 ?c2 ?c3 ?c4 ?c5 ?_)
 case c1 =>
  intro j u hj
  match j, hj with
  | 0, hj => simp at hj; subst hj; simp [Addr.add]
 case c2 => intro u hu; simp at hu; subst hu; rfl
 case c3 => unfold maxLen; omega
 case c4 => omega
 case c5 => have := hb1.size; simp; omega
 intro v' w2 hown' hgrow _
 have hlt : b < w1.heap.size := by
  rcases Nat.lt_or_ge b w1.heap.size with h' | h'
  · exact h'
  · simp [Array.getElem?_eq_none h'] at hbk
 have hb2 : w2.heap[b]? = some (.cells #[.pointer (some ⟨b, 0, none⟩), v] 236 (0, 0)) := by
  rw [hgrow.block b zaw (fun e => hne e.symm), Lib.alloc_old w1 _ b hlt]
  exact hbk
 have d0 : w2.cell? ⟨b, 0, none⟩ = some (.pointer (some ⟨b, 0, none⟩)) := by rw [Lib.cell_of_heap hb2]; rfl
 have d1 : w2.cell? ⟨b, 1, none⟩ = some v := by rw [Lib.cell_of_heap hb2]; rfl
 have f1 : w2.frozen? ⟨b, 1, none⟩ = false := Lib.frozen_of_heap hb2 1
 obtain ⟨g, cap, rfl⟩ : ∃ g cap, v' = .slice (some ⟨g, 0, none⟩) (bs.length + 1) cap := by
  rcases hown'.2 with ⟨_, h0⟩ | ⟨g, cap, cur, hv, _⟩
  · omega
  · exact ⟨g, cap, hv⟩
 go_wp2
 go_ret
 refine ⟨rfl, Or.inr ?_, ?_⟩
 · exact Lib.BuilderAt.put (T := 236) (e := 5) hB hb2 (bs' := bs ++ [.int .u8 c]) (by simpa using hown') zaj
 · exact ((hb1.alloc (by have := hb1.size; omega) _).grown hgrow (by have := hb1.size; simp; omega) (fun k hk => (hown.lt k hk).1)).setCell (p := ⟨b, 1, none⟩) hB _
set_option maxHeartbeats 2000000 in
set_option maxRecDepth 100000 in
theorem qcO (B b : Nat) (bs : List Value) (s : ByteArray) (w : World) (h : Bld B b bs w) (hlen : bs.length + s.size ≤ 140737488355328) (hBw : B ≤ w.heap.size) :
  Calls Tryz.prog 235 #[.pointer (some ⟨b, 0, none⟩), .string s] w fun e w' => e = .returned (.tuple #[.int .i64 s.size, .nilIface]) ∧ (Bld B b (bs ++ Lib.strCells s) w' ∧ Below B w w') := by
 obtain ⟨i0, hi, hz0, hz1, hz2⟩ := info_parts u8info
 go_enter Tryz.func235, Tryz.ntmps235
 go_wp2_with (go_at_call 193; refine (qbX B b bs _ h).mono ?_)
 rintro e w1 ⟨rfl, h1, hb1⟩
 obtain ⟨hB, v, hbk, hown, hne⟩ := h1
 have c0 : w1.cell? ⟨b, 0, none⟩ = some (.pointer (some ⟨b, 0, none⟩)) := by rw [Lib.cell_of_heap hbk]; rfl
 have c1 : w1.cell? ⟨b, 1, none⟩ = some v := by rw [Lib.cell_of_heap hbk]; rfl
 go_wp2_with (at_builtin; refine Lib.wpList_append_own_string _ rfl _ _ 53 9 rfl B 5 i0 Tryz.underlying53 Tryz.underlying9 hi hz0 hz1 hz2 _ _ _ rfl hown s rfl ?c3 ?c4 ?c5 ?_)
 case c3 => unfold maxLen; omega
 case c4 => omega
 case c5 => have := hb1.size; omega
 intro v' w2 hown' hgrow _
 have hlt : b < w1.heap.size := by
  rcases Nat.lt_or_ge b w1.heap.size with h' | h'
  · exact h'
  · simp [Array.getElem?_eq_none h'] at hbk
 have hb2 : w2.heap[b]? = some (.cells #[.pointer (some ⟨b, 0, none⟩), v] 236 (0, 0)) := by
  rw [hgrow.block b hlt (fun e => hne e.symm)]
  exact hbk
 have d0 : w2.cell? ⟨b, 0, none⟩ = some (.pointer (some ⟨b, 0, none⟩)) := by rw [Lib.cell_of_heap hb2]; rfl
 have d1 : w2.cell? ⟨b, 1, none⟩ = some v := by rw [Lib.cell_of_heap hb2]; rfl
 have f1 : w2.frozen? ⟨b, 1, none⟩ = false := Lib.frozen_of_heap hb2 1
 obtain ⟨ao, n', cap, rfl⟩ : ∃ ao n' cap, v' = .slice ao n' cap := by
  rcases hown'.2 with ⟨hv, _⟩ | ⟨g, cap, cur, hv, _⟩
  · exact ⟨_, _, _, hv⟩
  · exact ⟨_, _, _, hv⟩
 go_wp2
 go_ret2
 have hl : (Lib.strCells s).length = s.size := by simp [Lib.strCells]
 refine ⟨rfl, Or.inr ?_, ?_⟩
 · refine Lib.BuilderAt.put (T := 236) (e := 5) hB hb2 (bs' := bs ++ Lib.strCells s) ?_ zaj
   rw [List.length_append, hl]; exact hown'
 · exact ((hb1.grown hgrow (by have := hb1.size; omega) (fun k hk => (hown.lt k hk).1)).setCell (p := ⟨b, 1, none⟩) hB _)
end Go.Proofs.YtpnabjopfpdkhaaGreatDoor

namespace Go.Proofs.YtpnabjopfpdkhaaGreatDoor
open Go.RowKit
/-- the words, as they stand in the array -/
def wordL : List ByteArray := [⟨#[97, 98, 111, 114, 116]⟩, ⟨#[97, 110, 100]⟩, ⟨#[100, 101, 108, 101, 116, 101]⟩, ⟨#[101, 108, 115, 101]⟩, ⟨#[102, 97, 108, 115, 101]⟩, ⟨#[102, 111, 114]⟩, ⟨#[103, 101, 116]⟩, ⟨#[104, 97, 115]⟩, ⟨#[105, 102]⟩, ⟨#[105, 110]⟩, ⟨#[108, 101, 110]⟩, ⟨#[108, 101, 116]⟩, ⟨#[110, 105, 108]⟩, ⟨#[110, 111, 116]⟩, ⟨#[111, 114]⟩, ⟨#[112, 117, 116]⟩, ⟨#[114, 101, 112, 101, 97, 116]⟩, ⟨#[114, 101, 116, 117, 114, 110]⟩, ⟨#[115, 99, 97, 110]⟩, ⟨#[115, 101, 116]⟩, ⟨#[115, 104, 111, 119]⟩]
def wordV : Value := .agg (wordL.map Value.string).toArray
/-- is it a word? -/
def wordB (s : ByteArray) : Bool := wordL.any (fun x => s.toList == x.toList) || s.toList == ((⟨#[116, 114, 117, 101]⟩ : ByteArray)).toList
theorem Ext.setRow {a w : World} (h : Ext a w) {g : Nat} (hg : a.heap.size ≤ g) (cs : Array Value) : Ext a (w.setRow g cs) := by
 have hb := h.below
 refine Ext.of_below ⟨hb.os, hb.tape, hb.output, ?_, fun k hk => ?_⟩
 · have := hb.size
   simp; omega
 · rw [setRow_other w g k _ zae]; exact hb.block k hk
set_option maxHeartbeats 1000000 in
set_option maxRecDepth 20000 in
theorem words_any (w : World) : Calls Tryz.prog 192 #[] w fun e w' => e = .returned wordV ∧ Ext w w' := by
 go_enter Tryz.func192, Tryz.ntmps192
 go_wp2_with (first
  | (refine wpList_build rfl _ _ rfl zad ?_; generalize hA : (Program.built _ _ _).getD #[] = A; have hA2 : A = (wordL.map Value.string).toArray := (by rw [← hA]; kernel_rfl); clear hA; have HA := Lib.hid hA2; clear hA2)
  | (refine wpList_store_row rfl _ _ _ rfl w.heap.size _ rfl rfl 256 _ (heap_alloc_new _ _) ?h1 ?h2 ?h3 ?_))
 case h1 => rw [HA.out]; kernel_rfl
 case h2 => rw [HA.out]; rfl
 case h3 => rw [HA.out]; simp [wordL, Value.oneCell']
 have hs : A.size = 21 := by rw [HA.out]; rfl
 have hld := fun Z : Array Value => run_loadVar_row (P := Tryz.prog) _ w.heap.size 256 256 A (0, 0) _ (setRow_heap _ _ _ A _ _ (heap_alloc_new w (.cells Z 256))) Tryz.underlying256 rfl (by rw [hs]; kernel_rfl)
 have hV : wordV = .agg A := by rw [HA.out]; rfl
 rw [hV]
 refine bodyPost_ret (v := .agg A) ?_ rfl ⟨rfl, (Ext.setRow ((Ext.refl _).alloc _) (Nat.le_refl _) _)⟩
 unfold results
 rw [Tryz.results192]
 simp [asAddr, Act.put, hld]
theorem word_index (k : Nat) (hk : k < 21) (w : World) : (Instr.index 256 wordV (.int .i64 (k : Int))).run Tryz.prog w = .ok (.string (wordL.getD k ⟨#[]⟩)) w := by
 have h : k = 0 ∨ k = 1 ∨ k = 2 ∨ k = 3 ∨ k = 4 ∨ k = 5 ∨ k = 6 ∨ k = 7 ∨ k = 8 ∨ k = 9 ∨ k = 10 ∨ k = 11 ∨ k = 12 ∨ k = 13 ∨ k = 14 ∨ k = 15 ∨ k = 16 ∨ k = 17 ∨ k = 18 ∨ k = 19 ∨ k = 20 := by omega
 rcases h with rfl | rfl | rfl | rfl | rfl | rfl | rfl | rfl | rfl | rfl | rfl | rfl | rfl | rfl | rfl | rfl | rfl | rfl | rfl | rfl | rfl
 all_goals
  clear hk
  show (Instr.index _ _ _).run _ _ = _
  kernel_rfl
theorem any_snoc (s : ByteArray) (k : Nat) (hk : k < 21) : (wordL.take (k + 1)).any (fun x => s.toList == x.toList) = ((wordL.take k).any (fun x => s.toList == x.toList) || s.toList == (wordL.getD k ⟨#[]⟩).toList) := by
 have hl : k < wordL.length := hk
 have h : wordL.take (k + 1) = wordL.take k ++ [wordL.getD k ⟨#[]⟩] := by
  rw [List.take_succ_eq_append_getElem hl]
  congr 2
  simp [List.getD, List.getElem?_eq_getElem hl]
 rw [h, List.any_append]
 simp
theorem any_done (s : ByteArray) (k : Nat) (hk : k < 21) (h : s.toList == (wordL.getD k ⟨#[]⟩).toList) : wordB s = true := by
 have hl : k < wordL.length := hk
 have : wordL.any (fun x => s.toList == x.toList) = true := List.any_eq_true.2 ⟨wordL.getD k ⟨#[]⟩, by simp [List.getD, List.getElem?_eq_getElem hl], h⟩
 simp [wordB, this]
theorem any_none (s : ByteArray) (h : (wordL.take 21).any (fun x => s.toList == x.toList) = false) : wordB s = (s.toList == (⟨#[116, 114, 117, 101]⟩ : ByteArray).toList) := by
 have e : wordL.take 21 = wordL := rfl
 rw [e] at h
 simp only [wordB, h, Bool.false_or]
set_option maxHeartbeats 1000000 in
set_option maxRecDepth 20000 in
theorem word_any (s : ByteArray) (w : World) : Calls Tryz.prog 156 #[.string s] w fun e w' => e = .returned (.bool (wordB s)) ∧ Ext w w' := by
 obtain ⟨V, hV⟩ : ∃ V, wordV = V := ⟨_, rfl⟩
 have HW := Lib.hid words_any
 have HI := Lib.hid word_index
 rw [hV] at HW HI
 clear hV
 go_enter Tryz.func156, Tryz.ntmps156
 go_wp2_with (go_at_call 192; refine (HW.out _).mono ?_; rintro e _ ⟨rfl, d, os, rfl⟩)
 go_loop [6] (fun ii => ∃ k : Nat, ii = .int .i64 k ∧ k ≤ 21 ∧ (wordL.take k).any (fun x => s.toList == x.toList) = false) (fun ii => 21 - (intOf ii).toNat)
 case atStart => exact ⟨0, rfl, by omega, rfl⟩
 case round =>
  obtain ⟨k, rfl, hk, hn⟩ := hrel
  have HN := Lib.hid hn
  clear hn
  by_cases hlt : k < 21
  · have hi := HI.out k hlt
    have hd := Lib.hid (any_done s k hlt)
    have hs := Lib.hid (any_snoc s k hlt)
    generalize wordL.getD k ⟨#[]⟩ = x at hi hd hs
    clear HI
    cases hq : s.toList == x.toList
    · go_wp2
      go_round
      case rel =>
       refine ⟨k + 1, by go_num, by omega, ?_⟩
       rw [hs.out, HN.out, hq]; rfl
      case measure => simp [intOf]; omega
    · have hd' := Lib.hid (hd.out hq)
      go_wp2
      go_ret
      exact ⟨ret_bool hd'.out.symm, zab⟩
  · have hk21 : k = 21 := by omega
    subst hk21
    have hd' := Lib.hid (any_none s HN.out)
    clear HI
    go_wp2
    go_ret
    exact ⟨ret_bool (by rw [hd'.out]; first | rfl | (simp [Lib.toList_data]; done)), zab⟩
end Go.Proofs.YtpnabjopfpdkhaaGreatDoor

namespace Go.Proofs.YtpnabjopfpdkhaaGreatDoor
open Go.RowKit
/-- how many bytes stand ahead of the next token; true: in a remark -/
def skipL : Bool → List UInt8 → Nat
 | _, [] => 0
 | true, c :: l => if c.toNat = 10 then skipL false l + 1 else skipL true l + 1
 | false, c :: l => if c.toNat = 32 ∨ c.toNat = 9 ∨ c.toNat = 10 then skipL false l + 1 else if c.toNat = 35 then skipL true l + 1 else 0
theorem qch : ∀ (q : Bool) (l : List UInt8), skipL q l ≤ l.length
  | _, [] => by simp [skipL]
  | true, c :: l => by have h1 := qch false l; have h2 := qch true l; simp only [skipL, List.length_cons]; split <;> omega
  | false, c :: l => by have h1 := qch false l; have h2 := qch true l; simp only [skipL, List.length_cons]; repeat' split
                        all_goals omega
theorem qdp : ∀ l : List UInt8, skipL true l = spanN noNl l + skipL false (l.drop (spanN noNl l))
 | [] => by simp [skipL, spanN]
 | c :: l => by
  have ih := qdp l
  by_cases h : c.toNat = 10
  · have e : noNl (c.toNat : Int) = false := by simp [noNl, h]
    rw [show spanN noNl (c :: l) = 0 from by rw [spanN, e]; rfl]
    simp [skipL, h]
  · have e : noNl (c.toNat : Int) = true := by simp [noNl]; omega
    rw [spanN, if_pos e]
    simp [skipL, h]
    omega
theorem skip_mark (l : List UInt8) (u : UInt8) (h : u.toNat = 35) : skipL false (u :: l) = spanN noNl (u :: l) + skipL false ((u :: l).drop (spanN noNl (u :: l))) := by
 have e : noNl (u.toNat : Int) = true := by simp [noNl]; omega
 have := qdp l
 rw [spanN, if_pos e]
 simp [skipL, h]
 omega
set_option maxHeartbeats 1000000 in
set_option maxRecDepth 20000 in
theorem blank_any (b : Nat) (s : ByteArray) (k n : Nat) (lv : Value) (w : World) (h : LexAt b s k lv w) (hk : k ≤ s.size) (hs : s.size ≤ maxLen) (hn : skipL false (s.data.toList.drop k) = n) :
  Calls Tryz.prog 123 #[.pointer (some ⟨b, 0, none⟩)] w fun e w' => e = .returned (.tuple #[]) ∧ LexAt b s (k + n) lv w' ∧ w.grownBy w' (some b) := by
 have hmx := hs
 unfold maxLen at hs
 have HN := Lib.hid hn
 have HL := Lib.hid h
 clear hn h
 go_enter Tryz.func123, Tryz.ntmps123
 go_wp2_with fail
 go_loopg [] (s.size - k) (fun g wr => ∃ m, k ≤ m ∧ m ≤ s.size ∧ g = s.size - m ∧ m + skipL false (s.data.toList.drop m) = k + n ∧ LexAt b s m lv wr ∧ w.grownBy wr (some b))
 case atStart => exact ⟨k, by omega, by omega, by omega, by have := HN.out; omega, HL.out, grown_refl _ _⟩
 case round =>
  obtain ⟨m, hkm, hms, hgk, hsp, hL, hg⟩ := hrel
  have HLL := Lib.hid hL
  have HG := Lib.hid hg
  have HGK := Lib.hid hgk
  obtain ⟨c0, c1, c2, f1, f2⟩ := hL.cells
  have hb := hL.lt
  clear hL hg hgk HN HL
  by_cases hlt : m < s.size
  · have hml : m < s.data.toList.length := by simpa using hlt
    have hd : s.data.toList.drop m = s[m]'hlt :: s.data.toList.drop (m + 1) := List.drop_eq_getElem_cons hml
    have h256 := (s[m]'hlt).toNat_lt
    by_cases q1 : ((s[m]'hlt).toNat : Int) = 32 ∨ ((s[m]'hlt).toNat : Int) = 9 ∨ ((s[m]'hlt).toNat : Int) = 10
    · rw [hd] at hsp
      rw [skipL, if_pos zae] at hsp
      have HS := Lib.hid hsp
      clear hsp hd h256 hml
      rcases q1 with q1 | q1 | q1
      all_goals
       go_wp2_with fail
       refine qaa 9 36 [false, false, false, false, false, false, false, false, false] zad zad rfl ?_
       simp only [List.take_succ_cons, List.take_zero, List.drop_succ_cons, List.drop_zero]
       repeat (refine Lex.step rfl ?_; intro K hK; unfold StepG; go_simp; (first
         | refine hK _ ?_); clear hK K)
       refine Lex.nil fun WW hE => ?_
       obtain ⟨dd, oo, rfl⟩ := hE
       unfold FillH
       go_wp2_with fail
       rw [ends_normal]
       go_wp2_with fail
       refine qaa 8 36 [false, false, false, false, false, false, false, false] zad zad rfl ?_
       simp only [List.take_succ_cons, List.take_zero, List.drop_succ_cons, List.drop_zero]
       repeat (refine Lex.step rfl ?_; intro K hK; unfold StepG; go_simp; (first
         | refine hK _ ?_); clear hK K)
       refine Lex.nil fun WW hE => ?_
       obtain ⟨dd, oo, rfl⟩ := hE
       unfold FillH
       go_wp2_with fail
       rw [ends_normal]
       go_wp2_with fail
       go_roundg (gk - 1)
       case measure => have := HGK.out; omega
       case rel => exact ⟨m + 1, by omega, by omega, by have := HGK.out; omega, by have := HS.out; omega, ((HLL.out.set (m + 1) _ zae).more _ _), qam (qaO HG.out _ _) (Ext.more (Ext.refl _) _ _)⟩
    · by_cases q2 : ((s[m]'hlt).toNat : Int) = 35
      · have hsk := skip_mark (s.data.toList.drop (m + 1)) (s[m]'hlt) zae
        rw [← hd] at hsk
        obtain ⟨n1, hn1⟩ : ∃ n1, spanN noNl (s.data.toList.drop m) = n1 := ⟨_, rfl⟩
        rw [hn1, List.drop_drop] at hsk
        have hle : n1 ≤ s.size - m := by rw [← hn1]; have := spanN_le noNl (s.data.toList.drop m); simp at this; omega
        have hn0 : 1 ≤ n1 := by rw [← hn1, hd, spanN, if_pos (by simp [noNl]; omega)]; omega
        have HS := Lib.hid hsp
        have HK := Lib.hid hsk
        have HN1 := Lib.hid hn1
        clear hsp hsk hn1 hd h256 hml q1
        go_wp2_with fail
        refine qaa 9 36 [false, false, false, false, false, false, false, false, false] zad zad rfl ?_
        simp only [List.take_succ_cons, List.take_zero, List.drop_succ_cons, List.drop_zero]
        repeat (refine Lex.step rfl ?_; intro K hK; unfold StepG; go_simp; (first
          | refine hK _ ?_); clear hK K)
        refine Lex.nil fun WW hE => ?_
        obtain ⟨dd, oo, rfl⟩ := hE
        unfold FillH
        go_wp2_with fail
        rw [ends_normal]
        go_wp2_with fail
        refine qaa 8 36 [false, false, false, false, false, false, false, false] zad zad rfl ?_
        simp only [List.take_succ_cons, List.take_zero, List.drop_succ_cons, List.drop_zero]
        repeat (refine Lex.step rfl ?_; intro K hK; unfold StepG; go_simp; (first
          | refine hK _ ?_); clear hK K)
        refine Lex.nil fun WW hE => ?_
        obtain ⟨dd, oo, rfl⟩ := hE
        unfold FillH
        go_wp2_with fail
        rw [ends_normal]
        go_wp2_with (go_at_call 152; refine (while_nonl b s m n1 lv _ (HLL.out.more _ _) hms hmx HN1.out).mono ?_; rintro e w1 ⟨rfl, hL1, hg1⟩)
        go_roundg (s.size - (m + n1))
        case measure => have := HGK.out; omega
        case rel => exact ⟨m + n1, by omega, by omega, rfl, by have h1 := HS.out; have h2 := HK.out; omega, hL1, grown_trans (qam HG.out zab) hg1⟩
      · have p1 : (((s[m]'hlt).toNat : Int) == 32) = false := by simp; omega
        have p2 : (((s[m]'hlt).toNat : Int) == 9) = false := by simp; omega
        have p3 : (((s[m]'hlt).toNat : Int) == 10) = false := by simp; omega
        have p4 : (((s[m]'hlt).toNat : Int) == 35) = false := by simp; omega
        rw [hd, skipL, if_neg zae, if_neg zae] at hsp
        have HMN := Lib.hid (show m = k + n by omega)
        clear hsp hd h256 hml q1 q2 HGK
        go_wp2_with fail
        refine qaa 9 36 [false, false, false, false, false, false, false, false, false] zad zad rfl ?_
        simp only [List.take_succ_cons, List.take_zero, List.drop_succ_cons, List.drop_zero]
        repeat (refine Lex.step rfl ?_; intro K hK; unfold StepG; go_simp; (first
          | refine hK _ ?_); clear hK K)
        refine Lex.nil fun WW hE => ?_
        obtain ⟨dd, oo, rfl⟩ := hE
        unfold FillH
        go_wp2_with fail
        rw [ends_normal]
        go_wp2_with fail
        refine qaa 8 36 [false, false, false, false, false, false, false, false] zad zad rfl ?_
        simp only [List.take_succ_cons, List.take_zero, List.drop_succ_cons, List.drop_zero]
        repeat (refine Lex.step rfl ?_; intro K hK; unfold StepG; go_simp; (first
          | refine hK _ ?_); clear hK K)
        refine Lex.nil fun WW hE => ?_
        obtain ⟨dd, oo, rfl⟩ := hE
        unfold FillH
        go_wp2_with fail
        rw [ends_normal]
        go_wp2_with fail
        refine bodyPost_ret (v := .tuple #[]) (by simp [results, Tryz.results123, go_sem]) rfl ?_
        refine ⟨rfl, ?_, ?_⟩
        · rw [← HMN.out]; exact HLL.out.more _ _
        · exact qam HG.out zab
  · have hme : m = s.size := by omega
    have hnil : s.data.toList.drop m = [] := by apply List.drop_eq_nil_of_le; simp; omega
    rw [hnil] at hsp
    simp only [skipL] at hsp
    have HMN := Lib.hid (show s.size = k + n by omega)
    clear hsp hnil hms HGK
    subst hme
    go_wp2_with fail
    refine qaa 9 36 [false, false, false, false, false, false, false, false, false] zad zad rfl ?_
    simp only [List.take_succ_cons, List.take_zero, List.drop_succ_cons, List.drop_zero]
    repeat (refine Lex.step rfl ?_; intro K hK; unfold StepG; go_simp; (first
      | refine hK _ ?_); clear hK K)
    refine Lex.nil fun WW hE => ?_
    obtain ⟨dd, oo, rfl⟩ := hE
    unfold FillH
    go_wp2_with fail
    rw [ends_normal]
    go_wp2_with fail
    go_end0
    refine ⟨rfl, ?_, ?_⟩
    · rw [← HMN.out]; exact HLL.out.more _ _
    · exact qam HG.out zab
end Go.Proofs.YtpnabjopfpdkhaaGreatDoor

namespace Go.Proofs.YtpnabjopfpdkhaaGreatDoor
open Go.RowKit
/-- a token but for its place -/
structure Tok where
 k : Int
 s : ByteArray
 i : Int
def tokV (t : Tok) (at' : Int) : Value := .agg #[.int .i64 t.k, .int .i64 at', .string t.s, .int .i64 t.i]
def tok0 : Tok := ⟨0, ⟨#[]⟩, 0⟩
def nameF (t : ByteArray) : Tok × Int := if wordB t = true then (⟨5, t, 0⟩, 0) else if 16 < t.size then (tok0, 5) else (⟨1, t, 0⟩, 0)
def numG : Int → List UInt8 → Option Int
 | v, [] => if 9223372036854775807 < v then none else some v
 | v, c :: l => if 922337203685477580 < v then none else numG (10 * v + ((c.toNat : Int) - 48)) l
theorem LexAt.alloc {b : Nat} {s : ByteArray} {k : Nat} {lv : Value} {w : World} (h : LexAt b s k lv w) (o : Obj) : LexAt b s k lv (w.alloc o) := by
 unfold LexAt; rw [Lib.alloc_old w o b h.lt]; exact h
theorem LexAt.other {b : Nat} {s : ByteArray} {k : Nat} {lv : Value} {w : World} (h : LexAt b s k lv w) {p : Addr} (hp : p.block ≠ b) (v : Value) : LexAt b s k lv (w.setCell p v) := by
 unfold LexAt
 rw [Below.heap_setCell _ _ _ _ (fun e => hp e.symm)]; exact h
/-- the lexer has gone on, no more: the world written out -/
theorem lex_form {b : Nat} {s : ByteArray} {k k' : Nat} {lv : Value} {w w' : World} (h : LexAt b s k lv w) (h' : LexAt b s k' lv w') (hg : w.grownBy w' (some b)) : Ext (w.setCell ⟨b, 1, none⟩ (.int .i64 (k' : Int))) w' := by
 obtain ⟨h1, h2, h3, h4, h5⟩ := hg
 have hsz : (w.setCell ⟨b, 1, none⟩ (.int .i64 (k' : Int))).heap.size = w.heap.size := by simp [World.setCell]
 have hS := h.set k' (k' : Int) rfl
 refine Ext.of_below ⟨h1, h2, h3, by rw [hsz]; exact h4, fun j hj => ?_⟩
 rw [hsz] at hj
 by_cases hjb : j = b
 · subst hjb
   unfold LexAt at h' hS
   rw [h', hS]
 · rw [h5 j hj (by simpa using hjb), Below.heap_setCell _ _ _ _ (fun e => hjb e)]
theorem qef (w : World) (b i : Nat) (v v' : Value) : (w.setCell ⟨b, i, none⟩ v).setCell ⟨b, i, none⟩ v' = w.setCell ⟨b, i, none⟩ v' := by
 unfold World.setCell
 congr 1
 apply Array.ext_getElem?
 intro k
 simp only [Array.getElem?_modify]
 by_cases hk : b = k
 · subst hk
   cases w.heap[b]? with
   | none => simp
   | some o => cases o <;> simp
 · simp [hk]
theorem skipped_no : Go.yielded.match_1 (fun _ => Option Bool) (some undef) (fun b => some b) (fun _ => none) = none := rfl
attribute [go_sem] qef skipped_no
theorem while_name_x (b : Nat) (s t : ByteArray) (k n : Nat) (lv : Value) (hk : k ≤ s.size) (hs : s.size ≤ maxLen) (hn : spanN nameB (s.data.toList.drop k) = n) (ht : s.extract k (k + n) = t) (w : World) (h : LexAt b s k lv w) :
  Calls Tryz.prog 152 #[.pointer (some ⟨b, 0, none⟩), .func (.func 155) #[] #[]] w fun e w' => e = .returned (.string t) ∧ Ext (w.setCell ⟨b, 1, none⟩ (.int .i64 ((k + n : Nat) : Int))) w' := by
 subst ht
 exact (while_name b s k n lv w h hk hs hn).mono fun e w' ⟨he, hL, hg⟩ => ⟨he, lex_form h hL hg⟩
theorem qcf (b : Nat) (s t : ByteArray) (k n : Nat) (lv : Value) (hk : k ≤ s.size) (hs : s.size ≤ maxLen) (hn : spanN qak (s.data.toList.drop k) = n) (ht : s.extract k (k + n) = t) (w : World) (h : LexAt b s k lv w) :
  Calls Tryz.prog 152 #[.pointer (some ⟨b, 0, none⟩), .func (.func 127) #[] #[]] w fun e w' => e = .returned (.string t) ∧ Ext (w.setCell ⟨b, 1, none⟩ (.int .i64 ((k + n : Nat) : Int))) w' := by
 subst ht
 exact (while_digit b s k n lv w h hk hs hn).mono fun e w' ⟨he, hL, hg⟩ => ⟨he, lex_form h hL hg⟩
theorem qdg (b : Nat) (s : ByteArray) (k n : Nat) (lv : Value) (hk : k ≤ s.size) (hs : s.size ≤ maxLen) (hn : skipL false (s.data.toList.drop k) = n) (w : World) (h : LexAt b s k lv w) :
  Calls Tryz.prog 123 #[.pointer (some ⟨b, 0, none⟩)] w fun e w' => e = .returned (.tuple #[]) ∧ Ext (w.setCell ⟨b, 1, none⟩ (.int .i64 ((k + n : Nat) : Int))) w' :=
 (blank_any b s k n lv w h hk hs hn).mono fun e w' ⟨he, hL, hg⟩ => ⟨he, lex_form h hL hg⟩
set_option maxHeartbeats 1000000 in
set_option maxRecDepth 20000 in
theorem name_any (b : Nat) (s t : ByteArray) (k n : Nat) (lv : Value) (hk : k ≤ s.size) (hs : s.size ≤ maxLen) (hn : spanN nameB (s.data.toList.drop k) = n) (ht : s.extract k (k + n) = t) (r : Tok) (e : Int) (hr : nameF t = (r, e)) (w : World) (h : LexAt b s k lv w) :
  Calls Tryz.prog 126 #[.pointer (some ⟨b, 0, none⟩)] w fun e' w' => e' = .returned (.tuple #[tokV r 0, .int .i64 e]) ∧ Ext (w.setCell ⟨b, 1, none⟩ (.int .i64 ((k + n : Nat) : Int))) w' := by
 have HL := Lib.hid h
 have C := Lib.hid (while_name_x b s t k n lv hk hs hn ht)
 have W := Lib.hid (fun w => word_any t w)
 have hb := h.lt
 have hsz : t.size ≤ s.size := by rw [← ht]; simp; omega
 unfold maxLen at hs
 unfold nameF at hr
 unfold tokV tok0 at *
 clear h hn ht
 cases hq : wordB t
 · rw [hq] at W hr
   rw [if_neg zal] at hr
   by_cases h16 : 16 < t.size
   · rw [if_pos h16] at hr
     simp only [Prod.mk.injEq] at hr
     obtain ⟨rfl, rfl⟩ := hr
     clear hq
     go_enter Tryz.func126, Tryz.ntmps126
     go_wp2_with (first
      | (go_at_call 152; refine (C.out _ zak).mono ?_; rintro e _ ⟨rfl, d, os, rfl⟩)
      | (go_at_call 156; refine (W.out _).mono ?_; rintro e _ ⟨rfl, d, os, rfl⟩))
     refine bodyPost_ret (v := .tuple #[.agg #[.int .i64 0, .int .i64 0, .string ⟨#[]⟩, .int .i64 0], .int .i64 5]) (by simp [results, Tryz.results126, go_sem]) rfl ?_
     exact ⟨rfl, zab⟩
   · rw [if_neg h16] at hr
     simp only [Prod.mk.injEq] at hr
     obtain ⟨rfl, rfl⟩ := hr
     clear hq
     go_enter Tryz.func126, Tryz.ntmps126
     go_wp2_with (first
      | (go_at_call 152; refine (C.out _ zak).mono ?_; rintro e _ ⟨rfl, d, os, rfl⟩)
      | (go_at_call 156; refine (W.out _).mono ?_; rintro e _ ⟨rfl, d, os, rfl⟩))
     refine bodyPost_ret (v := .tuple #[.agg #[.int .i64 1, .int .i64 0, .string t, .int .i64 0], .int .i64 0]) (by simp [results, Tryz.results126, go_sem]) rfl ?_
     exact ⟨rfl, zab⟩
 · rw [hq] at W hr
   rw [if_pos rfl] at hr
   simp only [Prod.mk.injEq] at hr
   obtain ⟨rfl, rfl⟩ := hr
   clear hq
   go_enter Tryz.func126, Tryz.ntmps126
   go_wp2_with (first
    | (go_at_call 152; refine (C.out _ zak).mono ?_; rintro e _ ⟨rfl, d, os, rfl⟩)
    | (go_at_call 156; refine (W.out _).mono ?_; rintro e _ ⟨rfl, d, os, rfl⟩))
   refine bodyPost_ret (v := .tuple #[.agg #[.int .i64 5, .int .i64 0, .string t, .int .i64 0], .int .i64 0]) (by simp [results, Tryz.results126, go_sem]) rfl ?_
   exact ⟨rfl, zab⟩
theorem span_all (p : Int → Bool) : ∀ (l : List UInt8) (j : Nat) (u : UInt8), (l.take (spanN p l))[j]? = some u → p (u.toNat : Int) = true
 | [], j, u, h => by simp [spanN] at h
 | c :: l, j, u, h => by
  by_cases hc : p (c.toNat : Int) = true
  · rw [spanN, if_pos hc] at h
    cases j with
    | zero => simp at h; subst h; exact hc
    | succ j => exact span_all p l j u (by simpa using h)
  · rw [spanN, if_neg hc] at h
    simp at h
def numE : Option Int → Tok × Int
 | none => (tok0, 8)
 | some v => (⟨2, ⟨#[]⟩, v⟩, 0)
def numF (t : ByteArray) : Tok × Int := numE (numG 0 t.data.toList)
set_option maxHeartbeats 2000000 in
set_option maxRecDepth 20000 in
theorem number_ok (b : Nat) (s t : ByteArray) (k n : Nat) (lv : Value) (hk : k ≤ s.size) (hs : s.size ≤ maxLen) (hkn : k + n ≤ s.size) (hn : spanN qak (s.data.toList.drop k) = n) (ht : s.extract k (k + n) = t) (htn : t.size = n)
  (hA : n ≤ 1 ∨ (1 < n ∧ ∃ h : 0 < t.size, ¬ ((t[0]'h).toNat : Int) = 48)) (hB : k + n = s.size ∨ ∃ h : k + n < s.size, qaw ((s[k + n]'h).toNat : Int) = false)
  (hd : ∀ (j : Nat) (h : j < t.size), 48 ≤ ((t[j]'h).toNat : Int) ∧ ((t[j]'h).toNat : Int) ≤ 57) (r : Tok) (e : Int) (hr : numF t = (r, e)) (w : World) (h : LexAt b s k lv w) :
  Calls Tryz.prog 128 #[.pointer (some ⟨b, 0, none⟩)] w fun e' w' => e' = .returned (.tuple #[tokV r 0, .int .i64 e]) ∧ Ext (w.setCell ⟨b, 1, none⟩ (.int .i64 ((k + n : Nat) : Int))) w' := by
 have HL := Lib.hid h
 have C := Lib.hid (qcf b s t k n lv hk hs hn ht)
 have hb := h.lt
 obtain ⟨c0, c1, c2, f1, f2⟩ := h.cells
 unfold maxLen at hs
 have HR := Lib.hid hr
 have HTN := Lib.hid htn
 have HD := Lib.hid hd
 unfold tokV
 clear h hn ht hr hd
 obtain ⟨R, hR⟩ : ∃ R, numG 0 t.data.toList = R := ⟨_, rfl⟩
 have HR2 := Lib.hid (show numE R = (r, e) from by rw [← hR]; exact HR.out)
 have HRR := Lib.hid hR
 clear HR hR
 have hts : t.size ≤ 9223372036854775807 := by omega
 rcases hA with hA | ⟨hA, hA0, hA1⟩
 · have hA2 : (1 < (t.size : Int)) = False := by simp; omega
   clear hA htn
   rcases hB with hB | ⟨hB, hB2⟩
   · have hB3 : ((k : Int) + n < s.size) = False := by simp; omega
     clear hB
     go_enter Tryz.func128, Tryz.ntmps128
     go_wp2_with (go_at_call 152; refine (C.out _ zak).mono ?_; rintro e _ ⟨rfl, d, os, rfl⟩)
     refine qaa 28 65 [false, false, false, false, false, false, false, false, false, false, false, false, false, false, false, false, false, false, false, false, false, false, false, false, false, false, false, false] zad zad rfl ?_
     simp only [List.take_succ_cons, List.take_zero, List.drop_succ_cons, List.drop_zero]
     repeat (refine Lex.step rfl ?_; intro K hK; unfold StepG; go_simp; (first
       | refine hK _ ?_); clear hK K)
     refine Lex.nil fun WW hE => ?_
     obtain ⟨dd, oo, rfl⟩ := hE
     unfold FillH
     go_wp2_with fail
     rw [ends_normal]
     go_wp2_with fail
     go_loop [5, 44] (fun vv ii => ∃ (i : Nat) (V : Int), i ≤ t.size ∧ ii = .int .i64 i ∧ vv = .int .u64 V ∧ 0 ≤ V ∧ V ≤ 9223372036854775809 ∧ numG V (t.data.toList.drop i) = R) (fun _ ii => t.size - (intOf ii).toNat)
     case atStart => exact ⟨0, 0, by omega, rfl, rfl, by omega, by omega, HRR.out⟩
     case round =>
      obtain ⟨i, V, hi, rfl, rfl, hV0, hV1, hG⟩ := hrel
      clear HRR
      by_cases hlt : i < t.size
      · have hml : i < t.data.toList.length := by simpa using hlt
        have hdd : t.data.toList.drop i = t[i]'hlt :: t.data.toList.drop (i + 1) := List.drop_eq_getElem_cons hml
        rw [hdd] at hG
        unfold numG at hG
        obtain ⟨hd1, hd2⟩ := HD.out i hlt
        clear hdd hml
        by_cases hbig : 922337203685477580 < V
        · rw [if_pos hbig] at hG
          subst hG
          have h := HR2.out
          simp only [numE, Prod.mk.injEq, tok0] at h
          obtain ⟨rfl, rfl⟩ := h
          clear HR2
          go_wp2
          refine bodyPost_ret (v := .tuple #[.agg #[.int .i64 0, .int .i64 0, .string ⟨#[]⟩, .int .i64 0], .int .i64 8]) zam rfl ?_
          exact ⟨rfl, zab⟩
        · rw [if_neg hbig] at hG
          have HGG := Lib.hid hG
          have hz1 : 10 * V + (((t[i]'hlt).toNat : Int) - 48) ≤ 9223372036854775809 := by omega
          have hz0 : 0 ≤ 10 * V + (((t[i]'hlt).toNat : Int) - 48) := by omega
          clear hG
          go_wp2
          go_round
          case rel => exact ⟨i + 1, 10 * V + (((t[i]'hlt).toNat : Int) - 48), by omega, by go_num, by first | rfl | go_num, by omega, by omega, HGG.out⟩
          case measure => simp [intOf] <;> omega
      · have hie : i = t.size := by omega
        have hnil : t.data.toList.drop i = [] := by apply List.drop_eq_nil_of_le; simp; omega
        rw [hnil] at hG
        unfold numG at hG
        clear hnil
        by_cases hbig : 9223372036854775807 < V
        · rw [if_pos hbig] at hG
          subst hG
          have h := HR2.out
          simp only [numE, Prod.mk.injEq, tok0] at h
          obtain ⟨rfl, rfl⟩ := h
          clear HR2
          subst hie
          go_wp2
          refine bodyPost_ret (v := .tuple #[.agg #[.int .i64 0, .int .i64 0, .string ⟨#[]⟩, .int .i64 0], .int .i64 8]) zam rfl ?_
          exact ⟨rfl, zab⟩
        · rw [if_neg hbig] at hG
          subst hG
          have h := HR2.out
          simp only [numE, Prod.mk.injEq] at h
          obtain ⟨rfl, rfl⟩ := h
          clear HR2
          subst hie
          go_wp2
          refine bodyPost_ret (v := .tuple #[.agg #[.int .i64 2, .int .i64 0, .string ⟨#[]⟩, .int .i64 V], .int .i64 0]) zam rfl ?_
          exact ⟨rfl, zab⟩
   · have hB3 : ((k : Int) + n < s.size) = True := by simp; omega
     have h256 := (s[k + n]'hB).toNat_lt
     have le := qaF ((s[k + n]'hB).toNat : Int) zae zae
     rw [hB2] at le
     have LE := Lib.hid le
     clear le h256 hB2
     go_enter Tryz.func128, Tryz.ntmps128
     go_wp2_with (go_at_call 152; refine (C.out _ zak).mono ?_; rintro e _ ⟨rfl, d, os, rfl⟩)
     refine qaa 28 65 [false, false, false, false, false, false, false, false, false, false, false, false, false, false, false, false, false, false, false, false, false, false, false, false, false, false, false, false] zad zad rfl ?_
     simp only [List.take_succ_cons, List.take_zero, List.drop_succ_cons, List.drop_zero]
     repeat (refine Lex.step rfl ?_; intro K hK; unfold StepG; go_simp; (first
       | refine hK _ ?_); clear hK K)
     refine Lex.nil fun WW hE => ?_
     obtain ⟨dd, oo, rfl⟩ := hE
     unfold FillH
     go_wp2_with (go_at_call 125; refine (LE.out _).mono ?_; rintro e _ ⟨rfl, rfl⟩)
     rw [ends_normal]
     go_wp2_with fail
     go_loop [5, 44] (fun vv ii => ∃ (i : Nat) (V : Int), i ≤ t.size ∧ ii = .int .i64 i ∧ vv = .int .u64 V ∧ 0 ≤ V ∧ V ≤ 9223372036854775809 ∧ numG V (t.data.toList.drop i) = R) (fun _ ii => t.size - (intOf ii).toNat)
     case atStart => exact ⟨0, 0, by omega, rfl, rfl, by omega, by omega, HRR.out⟩
     case round =>
      obtain ⟨i, V, hi, rfl, rfl, hV0, hV1, hG⟩ := hrel
      clear HRR
      by_cases hlt : i < t.size
      · have hml : i < t.data.toList.length := by simpa using hlt
        have hdd : t.data.toList.drop i = t[i]'hlt :: t.data.toList.drop (i + 1) := List.drop_eq_getElem_cons hml
        rw [hdd] at hG
        unfold numG at hG
        obtain ⟨hd1, hd2⟩ := HD.out i hlt
        clear hdd hml
        by_cases hbig : 922337203685477580 < V
        · rw [if_pos hbig] at hG
          subst hG
          have h := HR2.out
          simp only [numE, Prod.mk.injEq, tok0] at h
          obtain ⟨rfl, rfl⟩ := h
          clear HR2
          go_wp2
          refine bodyPost_ret (v := .tuple #[.agg #[.int .i64 0, .int .i64 0, .string ⟨#[]⟩, .int .i64 0], .int .i64 8]) zam rfl ?_
          exact ⟨rfl, zab⟩
        · rw [if_neg hbig] at hG
          have HGG := Lib.hid hG
          have hz1 : 10 * V + (((t[i]'hlt).toNat : Int) - 48) ≤ 9223372036854775809 := by omega
          have hz0 : 0 ≤ 10 * V + (((t[i]'hlt).toNat : Int) - 48) := by omega
          clear hG
          go_wp2
          go_round
          case rel => exact ⟨i + 1, 10 * V + (((t[i]'hlt).toNat : Int) - 48), by omega, by go_num, by first | rfl | go_num, by omega, by omega, HGG.out⟩
          case measure => simp [intOf] <;> omega
      · have hie : i = t.size := by omega
        have hnil : t.data.toList.drop i = [] := by apply List.drop_eq_nil_of_le; simp; omega
        rw [hnil] at hG
        unfold numG at hG
        clear hnil
        by_cases hbig : 9223372036854775807 < V
        · rw [if_pos hbig] at hG
          subst hG
          have h := HR2.out
          simp only [numE, Prod.mk.injEq, tok0] at h
          obtain ⟨rfl, rfl⟩ := h
          clear HR2
          subst hie
          go_wp2
          refine bodyPost_ret (v := .tuple #[.agg #[.int .i64 0, .int .i64 0, .string ⟨#[]⟩, .int .i64 0], .int .i64 8]) zam rfl ?_
          exact ⟨rfl, zab⟩
        · rw [if_neg hbig] at hG
          subst hG
          have h := HR2.out
          simp only [numE, Prod.mk.injEq] at h
          obtain ⟨rfl, rfl⟩ := h
          clear HR2
          subst hie
          go_wp2
          refine bodyPost_ret (v := .tuple #[.agg #[.int .i64 2, .int .i64 0, .string ⟨#[]⟩, .int .i64 V], .int .i64 0]) zam rfl ?_
          exact ⟨rfl, zab⟩
 · have hA2 : (1 < (t.size : Int)) = True := by simp; omega
   have hA3 : (((t[0]'hA0).toNat : Int) == 48) = false := by simpa using hA1
   clear hA htn hA1
   rcases hB with hB | ⟨hB, hB2⟩
   · have hB3 : ((k : Int) + n < s.size) = False := by simp; omega
     clear hB
     go_enter Tryz.func128, Tryz.ntmps128
     go_wp2_with (go_at_call 152; refine (C.out _ zak).mono ?_; rintro e _ ⟨rfl, d, os, rfl⟩)
     refine qaa 28 65 [false, false, false, false, false, false, false, false, false, false, false, false, false, false, false, false, false, false, false, false, false, false, false, false, false, false, false, false] zad zad rfl ?_
     simp only [List.take_succ_cons, List.take_zero, List.drop_succ_cons, List.drop_zero]
     repeat (refine Lex.step rfl ?_; intro K hK; unfold StepG; go_simp; (first
       | refine hK _ ?_); clear hK K)
     refine Lex.nil fun WW hE => ?_
     obtain ⟨dd, oo, rfl⟩ := hE
     unfold FillH
     go_wp2_with fail
     rw [ends_normal]
     go_wp2_with fail
     go_loop [5, 44] (fun vv ii => ∃ (i : Nat) (V : Int), i ≤ t.size ∧ ii = .int .i64 i ∧ vv = .int .u64 V ∧ 0 ≤ V ∧ V ≤ 9223372036854775809 ∧ numG V (t.data.toList.drop i) = R) (fun _ ii => t.size - (intOf ii).toNat)
     case atStart => exact ⟨0, 0, by omega, rfl, rfl, by omega, by omega, HRR.out⟩
     case round =>
      obtain ⟨i, V, hi, rfl, rfl, hV0, hV1, hG⟩ := hrel
      clear HRR
      by_cases hlt : i < t.size
      · have hml : i < t.data.toList.length := by simpa using hlt
        have hdd : t.data.toList.drop i = t[i]'hlt :: t.data.toList.drop (i + 1) := List.drop_eq_getElem_cons hml
        rw [hdd] at hG
        unfold numG at hG
        obtain ⟨hd1, hd2⟩ := HD.out i hlt
        clear hdd hml
        by_cases hbig : 922337203685477580 < V
        · rw [if_pos hbig] at hG
          subst hG
          have h := HR2.out
          simp only [numE, Prod.mk.injEq, tok0] at h
          obtain ⟨rfl, rfl⟩ := h
          clear HR2
          go_wp2
          refine bodyPost_ret (v := .tuple #[.agg #[.int .i64 0, .int .i64 0, .string ⟨#[]⟩, .int .i64 0], .int .i64 8]) zam rfl ?_
          exact ⟨rfl, zab⟩
        · rw [if_neg hbig] at hG
          have HGG := Lib.hid hG
          have hz1 : 10 * V + (((t[i]'hlt).toNat : Int) - 48) ≤ 9223372036854775809 := by omega
          have hz0 : 0 ≤ 10 * V + (((t[i]'hlt).toNat : Int) - 48) := by omega
          clear hG
          go_wp2
          go_round
          case rel => exact ⟨i + 1, 10 * V + (((t[i]'hlt).toNat : Int) - 48), by omega, by go_num, by first | rfl | go_num, by omega, by omega, HGG.out⟩
          case measure => simp [intOf] <;> omega
      · have hie : i = t.size := by omega
        have hnil : t.data.toList.drop i = [] := by apply List.drop_eq_nil_of_le; simp; omega
        rw [hnil] at hG
        unfold numG at hG
        clear hnil
        by_cases hbig : 9223372036854775807 < V
        · rw [if_pos hbig] at hG
          subst hG
          have h := HR2.out
          simp only [numE, Prod.mk.injEq, tok0] at h
          obtain ⟨rfl, rfl⟩ := h
          clear HR2
          subst hie
          go_wp2
          refine bodyPost_ret (v := .tuple #[.agg #[.int .i64 0, .int .i64 0, .string ⟨#[]⟩, .int .i64 0], .int .i64 8]) zam rfl ?_
          exact ⟨rfl, zab⟩
        · rw [if_neg hbig] at hG
          subst hG
          have h := HR2.out
          simp only [numE, Prod.mk.injEq] at h
          obtain ⟨rfl, rfl⟩ := h
          clear HR2
          subst hie
          go_wp2
          refine bodyPost_ret (v := .tuple #[.agg #[.int .i64 2, .int .i64 0, .string ⟨#[]⟩, .int .i64 V], .int .i64 0]) zam rfl ?_
          exact ⟨rfl, zab⟩
   · have hB3 : ((k : Int) + n < s.size) = True := by simp; omega
     have h256 := (s[k + n]'hB).toNat_lt
     have le := qaF ((s[k + n]'hB).toNat : Int) zae zae
     rw [hB2] at le
     have LE := Lib.hid le
     clear le h256 hB2
     go_enter Tryz.func128, Tryz.ntmps128
     go_wp2_with (go_at_call 152; refine (C.out _ zak).mono ?_; rintro e _ ⟨rfl, d, os, rfl⟩)
     refine qaa 28 65 [false, false, false, false, false, false, false, false, false, false, false, false, false, false, false, false, false, false, false, false, false, false, false, false, false, false, false, false] zad zad rfl ?_
     simp only [List.take_succ_cons, List.take_zero, List.drop_succ_cons, List.drop_zero]
     repeat (refine Lex.step rfl ?_; intro K hK; unfold StepG; go_simp; (first
       | refine hK _ ?_); clear hK K)
     refine Lex.nil fun WW hE => ?_
     obtain ⟨dd, oo, rfl⟩ := hE
     unfold FillH
     go_wp2_with (go_at_call 125; refine (LE.out _).mono ?_; rintro e _ ⟨rfl, rfl⟩)
     rw [ends_normal]
     go_wp2_with fail
     go_loop [5, 44] (fun vv ii => ∃ (i : Nat) (V : Int), i ≤ t.size ∧ ii = .int .i64 i ∧ vv = .int .u64 V ∧ 0 ≤ V ∧ V ≤ 9223372036854775809 ∧ numG V (t.data.toList.drop i) = R) (fun _ ii => t.size - (intOf ii).toNat)
     case atStart => exact ⟨0, 0, by omega, rfl, rfl, by omega, by omega, HRR.out⟩
     case round =>
      obtain ⟨i, V, hi, rfl, rfl, hV0, hV1, hG⟩ := hrel
      clear HRR
      by_cases hlt : i < t.size
      · have hml : i < t.data.toList.length := by simpa using hlt
        have hdd : t.data.toList.drop i = t[i]'hlt :: t.data.toList.drop (i + 1) := List.drop_eq_getElem_cons hml
        rw [hdd] at hG
        unfold numG at hG
        obtain ⟨hd1, hd2⟩ := HD.out i hlt
        clear hdd hml
        by_cases hbig : 922337203685477580 < V
        · rw [if_pos hbig] at hG
          subst hG
          have h := HR2.out
          simp only [numE, Prod.mk.injEq, tok0] at h
          obtain ⟨rfl, rfl⟩ := h
          clear HR2
          go_wp2
          refine bodyPost_ret (v := .tuple #[.agg #[.int .i64 0, .int .i64 0, .string ⟨#[]⟩, .int .i64 0], .int .i64 8]) zam rfl ?_
          exact ⟨rfl, zab⟩
        · rw [if_neg hbig] at hG
          have HGG := Lib.hid hG
          have hz1 : 10 * V + (((t[i]'hlt).toNat : Int) - 48) ≤ 9223372036854775809 := by omega
          have hz0 : 0 ≤ 10 * V + (((t[i]'hlt).toNat : Int) - 48) := by omega
          clear hG
          go_wp2
          go_round
          case rel => exact ⟨i + 1, 10 * V + (((t[i]'hlt).toNat : Int) - 48), by omega, by go_num, by first | rfl | go_num, by omega, by omega, HGG.out⟩
          case measure => simp [intOf] <;> omega
      · have hie : i = t.size := by omega
        have hnil : t.data.toList.drop i = [] := by apply List.drop_eq_nil_of_le; simp; omega
        rw [hnil] at hG
        unfold numG at hG
        clear hnil
        by_cases hbig : 9223372036854775807 < V
        · rw [if_pos hbig] at hG
          subst hG
          have h := HR2.out
          simp only [numE, Prod.mk.injEq, tok0] at h
          obtain ⟨rfl, rfl⟩ := h
          clear HR2
          subst hie
          go_wp2
          refine bodyPost_ret (v := .tuple #[.agg #[.int .i64 0, .int .i64 0, .string ⟨#[]⟩, .int .i64 0], .int .i64 8]) zam rfl ?_
          exact ⟨rfl, zab⟩
        · rw [if_neg hbig] at hG
          subst hG
          have h := HR2.out
          simp only [numE, Prod.mk.injEq] at h
          obtain ⟨rfl, rfl⟩ := h
          clear HR2
          subst hie
          go_wp2
          refine bodyPost_ret (v := .tuple #[.agg #[.int .i64 2, .int .i64 0, .string ⟨#[]⟩, .int .i64 V], .int .i64 0]) zam rfl ?_
          exact ⟨rfl, zab⟩
set_option maxHeartbeats 2000000 in
set_option maxRecDepth 20000 in
theorem number_err (b : Nat) (s t : ByteArray) (k n : Nat) (lv : Value) (hk : k ≤ s.size) (hs : s.size ≤ maxLen) (hkn : k + n ≤ s.size) (hn : spanN qak (s.data.toList.drop k) = n) (ht : s.extract k (k + n) = t) (htn : t.size = n)
  (hA : (1 < n ∧ ∃ h : 0 < t.size, ((t[0]'h).toNat : Int) = 48) ∨ ((n ≤ 1 ∨ (1 < n ∧ ∃ h : 0 < t.size, ¬ ((t[0]'h).toNat : Int) = 48)) ∧ ∃ h : k + n < s.size, qaw ((s[k + n]'h).toNat : Int) = true))
  (w : World) (h : LexAt b s k lv w) :
  Calls Tryz.prog 128 #[.pointer (some ⟨b, 0, none⟩)] w fun e' w' => e' = .returned (.tuple #[tokV tok0 0, .int .i64 3]) ∧ Ext (w.setCell ⟨b, 1, none⟩ (.int .i64 ((k + n : Nat) : Int))) w' := by
 have HL := Lib.hid h
 have C := Lib.hid (qcf b s t k n lv hk hs hn ht)
 have hb := h.lt
 obtain ⟨c0, c1, c2, f1, f2⟩ := h.cells
 unfold maxLen at hs
 have HTN := Lib.hid htn
 unfold tokV tok0
 clear h hn ht
 have hts : t.size ≤ 9223372036854775807 := by omega
 rcases hA with ⟨hA, hA0, hA1⟩ | ⟨hA, hB, hB2⟩
 · have hA2 : (1 < (t.size : Int)) = True := by simp; omega
   have hA3 : (((t[0]'hA0).toNat : Int) == 48) = true := by simpa using hA1
   clear hA htn hA1
   go_enter Tryz.func128, Tryz.ntmps128
   go_wp2_with (go_at_call 152; refine (C.out _ zak).mono ?_; rintro e _ ⟨rfl, d, os, rfl⟩)
   refine qaa 28 65 [false, false, false, false, false, false, false, false, false, false, false, false, false, false, false, false, false, false, false, false, false, false, false, false, false, false, false, false] zad zad rfl ?_
   simp only [List.take_succ_cons, List.take_zero, List.drop_succ_cons, List.drop_zero]
   repeat (refine Lex.step rfl ?_; intro K hK; unfold StepG; go_simp; (first
     | refine hK _ ?_); clear hK K)
   refine Lex.nil fun WW hE => ?_
   obtain ⟨dd, oo, rfl⟩ := hE
   unfold FillH
   go_wp2_with fail
   rw [ends_normal]
   go_wp2_with fail
   refine bodyPost_ret (v := .tuple #[.agg #[.int .i64 0, .int .i64 0, .string ⟨#[]⟩, .int .i64 0], .int .i64 3]) zam rfl ?_
   exact ⟨rfl, zab⟩
 · have hB3 : ((k : Int) + n < s.size) = True := by simp; omega
   have h256 := (s[k + n]'hB).toNat_lt
   have le := qaF ((s[k + n]'hB).toNat : Int) zae zae
   rw [hB2] at le
   have LE := Lib.hid le
   clear le h256 hB2
   rcases hA with hA | ⟨hA, hA0, hA1⟩
   · have hA2 : (1 < (t.size : Int)) = False := by simp; omega
     clear hA htn
     go_enter Tryz.func128, Tryz.ntmps128
     go_wp2_with (go_at_call 152; refine (C.out _ zak).mono ?_; rintro e _ ⟨rfl, d, os, rfl⟩)
     refine qaa 28 65 [false, false, false, false, false, false, false, false, false, false, false, false, false, false, false, false, false, false, false, false, false, false, false, false, false, false, false, false] zad zad rfl ?_
     simp only [List.take_succ_cons, List.take_zero, List.drop_succ_cons, List.drop_zero]
     repeat (refine Lex.step rfl ?_; intro K hK; unfold StepG; go_simp; (first
       | refine hK _ ?_); clear hK K)
     refine Lex.nil fun WW hE => ?_
     obtain ⟨dd, oo, rfl⟩ := hE
     unfold FillH
     go_wp2_with (go_at_call 125; refine (LE.out _).mono ?_; rintro e _ ⟨rfl, rfl⟩)
     rw [ends_normal]
     go_wp2_with fail
     refine bodyPost_ret (v := .tuple #[.agg #[.int .i64 0, .int .i64 0, .string ⟨#[]⟩, .int .i64 0], .int .i64 3]) zam rfl ?_
     exact ⟨rfl, zab⟩
   · have hA2 : (1 < (t.size : Int)) = True := by simp; omega
     have hA3 : (((t[0]'hA0).toNat : Int) == 48) = false := by simpa using hA1
     clear hA htn hA1
     go_enter Tryz.func128, Tryz.ntmps128
     go_wp2_with (go_at_call 152; refine (C.out _ zak).mono ?_; rintro e _ ⟨rfl, d, os, rfl⟩)
     refine qaa 28 65 [false, false, false, false, false, false, false, false, false, false, false, false, false, false, false, false, false, false, false, false, false, false, false, false, false, false, false, false] zad zad rfl ?_
     simp only [List.take_succ_cons, List.take_zero, List.drop_succ_cons, List.drop_zero]
     repeat (refine Lex.step rfl ?_; intro K hK; unfold StepG; go_simp; (first
       | refine hK _ ?_); clear hK K)
     refine Lex.nil fun WW hE => ?_
     obtain ⟨dd, oo, rfl⟩ := hE
     unfold FillH
     go_wp2_with (go_at_call 125; refine (LE.out _).mono ?_; rintro e _ ⟨rfl, rfl⟩)
     rw [ends_normal]
     go_wp2_with fail
     refine bodyPost_ret (v := .tuple #[.agg #[.int .i64 0, .int .i64 0, .string ⟨#[]⟩, .int .i64 0], .int .i64 3]) zam rfl ?_
     exact ⟨rfl, zab⟩
end Go.Proofs.YtpnabjopfpdkhaaGreatDoor

namespace Go.Proofs.YtpnabjopfpdkhaaGreatDoor
open Go.RowKit
/-- a node -/
structure Nd where
 k : Int
 a : Int
 b : Int
 c : Int
 x : Int
 i : Int
 s : ByteArray
 t : ByteArray
def nd (k : Int) : Nd := ⟨k, -1, -1, -1, -1, 0, ⟨#[]⟩, ⟨#[]⟩⟩
def ndL (z : Nd) : List Value := [.int .i64 z.k, .int .i64 z.a, .int .i64 z.b, .int .i64 z.c, .int .i64 z.x, .int .i64 z.i, .string z.s, .string z.t]
def qae (l : List Nd) : List Value := l.flatMap ndL
theorem qdk (l m : List Nd) : qae (l ++ m) = qae l ++ qae m := by simp [qae]
theorem ndCells_one (l : List Nd) : ∀ u ∈ qae l, u.oneCell' = true := by
 intro u hu
 simp only [qae, List.mem_flatMap] at hu
 obtain ⟨t, _, h⟩ := hu
 simp [ndL] at h
 rcases h with rfl | rfl | rfl | rfl | rfl | rfl | rfl | rfl <;> rfl
/-- tokens with their places -/
abbrev Toks := List (Tok × Int)
def tkL (t : Tok × Int) : List Value := [.int .i64 t.1.k, .int .i64 t.2, .string t.1.s, .int .i64 t.1.i]
def qaQ (l : Toks) : List Value := l.flatMap tkL
def tk (L : Toks) (m : Nat) : Tok × Int := L.getD m (tok0, 0)
theorem qcT : ∀ (l : Toks) (j : Nat), j < l.length →
  (qaQ l)[j * 4]? = some (.int .i64 (tk l j).1.k) ∧ (qaQ l)[j * 4 + 1]? = some (.int .i64 (tk l j).2) ∧ (qaQ l)[j * 4 + 2]? = some (.string (tk l j).1.s) ∧ (qaQ l)[j * 4 + 3]? = some (.int .i64 (tk l j).1.i)
 | [], j, h => by simp at h
 | t :: l, 0, _ => ⟨rfl, rfl, rfl, rfl⟩
 | t :: l, j + 1, h => by
  have := qcT l j (by simpa using h)
  have e : ∀ r, (qaQ (t :: l))[(j + 1) * 4 + r]? = (qaQ l)[j * 4 + r]? := by
   intro r
   have h1 : qaQ (t :: l) = tkL t ++ qaQ l := rfl
   rw [h1, List.getElem?_append_right (by simp [tkL]; omega)]
   congr 1
   simp [tkL]; omega
  have e2 : tk (t :: l) (j + 1) = tk l j := rfl
  rw [e2, e 1, e 2, e 3, ← Nat.add_zero ((j + 1) * 4), e 0]
  simpa using this
/-- what a way through tokens comes to: the error and its place, or a value, how far is read, and the nodes that are new -/
abbrev PR (α : Type) := Except (Int × Int) (α × Nat × List Nd)
/-- a way through tokens: from a place on, behind so many nodes -/
abbrev PM (α : Type) := Nat → Nat → PR α
def prep {α : Type} (ns : List Nd) : PR α → PR α
 | .error e => .error e
 | .ok (v, m, ns') => .ok (v, m, ns ++ ns')
def pok {α : Type} (v : α) : PM α := fun m _ => .ok (v, m, [])
def pbind {α β : Type} (p : PM α) (f : α → PM β) : PM β := fun m n => match p m n with
 | .error e => .error e
 | .ok (v, m1, ns) => prep ns (f v m1 (n + ns.length))
theorem qaJ {α β : Type} {p : PM α} {f : α → PM β} {m n : Nat} {e : Int × Int} (h : p m n = .error e) : pbind p f m n = .error e := by
 unfold pbind; rw [h]
theorem qal {α β : Type} {p : PM α} {f : α → PM β} {m n : Nat} {v : α} {m1 : Nat} {ns : List Nd} (h : p m n = .ok (v, m1, ns)) : pbind p f m n = prep ns (f v m1 (n + ns.length)) := by
 unfold pbind; rw [h]
theorem qaU {α : Type} (r : PR α) : prep [] r = r := by
 cases r with
 | error e => rfl
 | ok v => obtain ⟨v, m, ns⟩ := v; rfl
theorem qcR {α : Type} (a b : List Nd) (r : PR α) : prep a (prep b r) = prep (a ++ b) r := by
 cases r with
 | error e => rfl
 | ok v => obtain ⟨v, m, ns⟩ := v; simp [prep]
section
variable (L : Toks)
def pno {α : Type} (e : Int) : PM α := fun m _ => .error (e, (tk L m).2)
/-- does a sign or a word stand there? -/
def isP (s : ByteArray) (m : Nat) : Bool := (tk L m).1.k == (if wordB s = true then 5 else 4) && ((tk L m).1.s).toList == s.toList
def takesP (s : ByteArray) : PM Bool := fun m _ => if isP L s m = true then .ok (true, m + 1, []) else .ok (false, m, [])
def must1 (s : ByteArray) : PM Unit := fun m _ => if isP L s m = true then .ok ((), m + 1, []) else .error (3, (tk L m).2)
def mustP : List ByteArray → PM Unit
 | [] => pok ()
 | s :: r => pbind (must1 L s) fun _ => mustP r
def ofP (k : Int) : PM Tok := fun m _ => if (tk L m).1.k = k then .ok ((tk L m).1, m + 1, []) else .error (3, (tk L m).2)
def layP (z : Nd) : PM Int := fun m n => if n = 512 then .error (5, (tk L m).2) else .ok ((n : Int), m, [z])
def deepP (d : Nat) : PM Unit := fun m _ => if 16 < d then .error (14, (tk L m).2) else .ok ((), m, [])
def skipP : PM Unit := fun m _ => .ok ((), m + 1, [])
def qbq : PM Int := fun m n => if (tk L m).1.k = 2 ∧ 64 < (tk L m).1.i then .error (8, (tk L m).2) else pbind (ofP L 2) (fun t => pok t.i) m n
def qaL (ss : List ByteArray) : PM (Option ByteArray) := fun m _ => match ss.find? (fun s => isP L s m) with
 | none => .ok (none, m, [])
 | some s => .ok (some s, m + 1, [])
def twoNd (a b : Int) (s : ByteArray) : Nd := { nd 11 with a := a, b := b, s := s }
/-- what binds from the left by some signs -/
def qas (cl : PM Int) (ss : List ByteArray) : Nat → Int → PM Int
 | 0, a => pok a
 | g + 1, a => pbind (qaL L ss) fun o => match o with
  | none => pok a
  | some s => pbind cl fun b => pbind (layP L (twoNd a b s)) fun a' => qas cl ss g a'
def twoP (cl : PM Int) (ss : List ByteArray) : PM Int := pbind cl fun a => qas L cl ss (L.length + 1) a
def qdX : List ByteArray := [⟨#[42]⟩, ⟨#[47]⟩, ⟨#[37]⟩]
def ssSum : List ByteArray := [⟨#[43]⟩, ⟨#[45]⟩]
def ssJoin : List ByteArray := [⟨#[46, 46]⟩]
def ssIs : List ByteArray := [⟨#[61, 61]⟩, ⟨#[33, 61]⟩, ⟨#[60]⟩, ⟨#[60, 61]⟩, ⟨#[62]⟩, ⟨#[62, 61]⟩]
def ssAnd : List ByteArray := [⟨#[97, 110, 100]⟩]
def ssOr : List ByteArray := [⟨#[111, 114]⟩]
def timesP (one : PM Int) : PM Int := twoP L one qdX
def sumP (one : PM Int) : PM Int := twoP L (timesP L one) ssSum
def joinP (one : PM Int) : PM Int := twoP L (sumP L one) ssJoin
def compP (one : PM Int) : PM Int := pbind (joinP L one) fun a => pbind (qaL L ssIs) fun o => match o with
  | none => pok a
  | some s => pbind (joinP L one) fun b => layP L (twoNd a b s)
def andP (one : PM Int) : PM Int := twoP L (compP L one) ssAnd
def orP (one : PM Int) : PM Int := twoP L (andP L one) ssOr
def sIs (x : ByteArray) (l : List UInt8) : Bool := x.toList == l
/-- the kind of a node that a word calls -/
def callF (s : ByteArray) : Int :=
 if sIs s [103, 101, 116] = true then 5 else if sIs s [104, 97, 115] = true then 6 else if sIs s [108, 101, 110] = true then 7 else if sIs s [115, 104, 111, 119] = true then 8 else -1
def qaV (k : Int) (d : Nat) (o1 : PM Int) : PM Int := pbind (deepP L (d + 1)) fun _ => pbind o1 fun a => layP L { nd k with a := a }
def qaR (d : Nat) (e1 o1 : PM Int) : PM Int := fun m n =>
 if isP L ⟨#[45]⟩ m = true then pbind (skipP) (fun _ => qaV L 10 d o1) m n
 else if isP L ⟨#[40]⟩ m = true then pbind (skipP) (fun _ => pbind e1 fun a => pbind (mustP L [⟨#[41]⟩]) fun _ => pok a) m n
 else pno L 3 m n
def qaP (d : Nat) (e1 o1 : PM Int) : PM Int := fun m n =>
 if callF (tk L m).1.s = -1 then
  if isP L ⟨#[110, 111, 116]⟩ m = true then pbind (skipP) (fun _ => qaV L 9 d o1) m n
  else if isP L ⟨#[110, 105, 108]⟩ m = true then pbind (skipP) (fun _ => layP L (nd 0)) m n
  else if sIs (tk L m).1.s [116, 114, 117, 101] = true then pbind (skipP) (fun _ => layP L { nd 1 with i := 1 }) m n
  else if sIs (tk L m).1.s [102, 97, 108, 115, 101] = true then pbind (skipP) (fun _ => layP L (nd 1)) m n
  else pno L 3 m n
 else pbind (skipP) (fun _ => pbind (mustP L [⟨#[40]⟩]) fun _ => pbind e1 fun a => pbind (mustP L [⟨#[41]⟩]) fun _ => layP L { nd (callF (tk L m).1.s) with a := a }) m n
/-- what binds closest -/
def oneP (d : Nat) (e1 o1 : PM Int) : PM Int := fun m n =>
 if (tk L m).1.k = 2 then pbind (skipP) (fun _ => layP L { nd 2 with i := (tk L m).1.i }) m n
 else if (tk L m).1.k = 3 then pbind (skipP) (fun _ => layP L { nd 3 with s := (tk L m).1.s }) m n
 else if (tk L m).1.k = 1 then pbind (skipP) (fun _ => layP L { nd 4 with s := (tk L m).1.s }) m n
 else if (tk L m).1.k = 4 then qaR L d e1 o1 m n
 else if (tk L m).1.k = 5 then qaP L d e1 o1 m n
 else pno L 3 m n
/-- an expr, and what binds closest, so many places above the deepest -/
def exprD : Nat → PM Int × PM Int
 | 0 => (pno L 14, pno L 14)
 | D + 1 => (orP L (oneP L (16 - D) (exprD D).1 (exprD D).2), oneP L (16 - D) (exprD D).1 (exprD D).2)
def exprP (D : Nat) : PM Int := (exprD L D).1
def setNext (ns : List Nd) (j : Nat) (v : Int) : List Nd := ns.modify j fun z => { z with x := v }
/-- statements, one behind the other -/
def qai (st : PM Int) : Nat → Int → Int → List Nd → Nat → Nat → PR Int
 | 0, first, _, acc, m, _ => .ok (first, m, acc)
 | g + 1, first, last, acc, m, n => match st m (n + acc.length) with
  | .error e => .error e
  | .ok (i, m1, ns) =>
   if i = -1 then .ok (first, m1, acc ++ ns)
   else if first = -1 then qai st g i i (acc ++ ns) m1 n
   else qai st g first i (setNext (acc ++ ns) (last.toNat - n) i) m1 n
def qaM (bl : PM Int) : PM Int := pbind (mustP L [⟨#[123]⟩]) fun _ => pbind bl fun n => pbind (mustP L [⟨#[125]⟩]) fun _ => pok n
def qbf (k : Int) (ex : PM Int) : PM Int := pbind (skipP) fun _ => pbind (ofP L 1) fun t => pbind (mustP L [⟨#[61]⟩]) fun _ => pbind ex fun a => pbind (mustP L [⟨#[59]⟩]) fun _ => layP L { nd k with s := t.s, a := a }
def putP (ex : PM Int) : PM Int := pbind (skipP) fun _ => pbind ex fun a => pbind (mustP L [⟨#[44]⟩]) fun _ => pbind ex fun b => pbind (mustP L [⟨#[59]⟩]) fun _ => layP L { nd 22 with a := a, b := b }
def qax (k : Int) (ex : PM Int) : PM Int := pbind (skipP) fun _ => pbind ex fun a => pbind (mustP L [⟨#[59]⟩]) fun _ => layP L { nd k with a := a }
def whenP (ex br : PM Int) : PM Int := pbind (skipP) fun _ => pbind ex fun a => pbind br fun b => pbind (takesP L ⟨#[101, 108, 115, 101]⟩) fun e =>
 if e = true then pbind br fun c => layP L { nd 24 with a := a, b := b, i := 1, c := c } else layP L { nd 24 with a := a, b := b }
def eachP (ex br : PM Int) : PM Int := pbind (skipP) fun _ => pbind (ofP L 1) fun s => pbind (mustP L [⟨#[44]⟩]) fun _ => pbind (ofP L 1) fun t =>
 pbind (mustP L [⟨#[105, 110]⟩, ⟨#[115, 99, 97, 110]⟩, ⟨#[40]⟩]) fun _ => pbind ex fun a => pbind (mustP L [⟨#[44]⟩]) fun _ => pbind (qbq L) fun i => pbind (mustP L [⟨#[41]⟩]) fun _ =>
 pbind br fun b => layP L { nd 25 with s := s.s, t := t.s, a := a, i := i, b := b }
def qdK (br : PM Int) : PM Int := pbind (skipP) fun _ => pbind (qbq L) fun i => pbind br fun b => layP L { nd 26 with i := i, b := b }
/-- a statement; -1: none comes next -/
def stmtP (ex br : PM Int) : PM Int := fun m n =>
 if ¬ (tk L m).1.k = 5 then pok (-1) m n
 else if sIs (tk L m).1.s [108, 101, 116] = true then qbf L 20 ex m n
 else if sIs (tk L m).1.s [115, 101, 116] = true then qbf L 21 ex m n
 else if sIs (tk L m).1.s [112, 117, 116] = true then putP L ex m n
 else if sIs (tk L m).1.s [100, 101, 108, 101, 116, 101] = true then qax L 23 ex m n
 else if sIs (tk L m).1.s [97, 98, 111, 114, 116] = true then qax L 27 ex m n
 else if sIs (tk L m).1.s [114, 101, 116, 117, 114, 110] = true then qax L 28 ex m n
 else if sIs (tk L m).1.s [105, 102] = true then whenP L ex br m n
 else if sIs (tk L m).1.s [102, 111, 114] = true then eachP L ex br m n
 else if sIs (tk L m).1.s [114, 101, 112, 101, 97, 116] = true then qdK L br m n
 else pok (-1) m n
/-- a block so many places above the deepest -/
def blockD : Nat → PM Int
 | 0 => pno L 14
 | D + 1 => fun m n => qai (stmtP L (exprP L (D + 1)) (qaM L (blockD D))) (L.length + 1) (-1) (-1) [] m n
/-- the program of tokens: its nodes and the first, or the error and its place -/
def progP : Except (Int × Int) (List Nd × Int) := match pbind (blockD L 16) (fun f => pbind (ofP L 0) fun _ => pok f) 0 0 with
 | .error e => .error e
 | .ok (f, _, ns) => .ok (ns, f)
/-- the tokens end where they end, and nowhere else -/
def qdF : Bool := L ≠ [] && (List.range L.length).all fun j => ((tk L j).1.k == 0) == decide (j + 1 = L.length)
def qck : Except (Int × Int) (List Nd × Int) := if qdF L = true then progP L else .error (1, 0)
end
end Go.Proofs.YtpnabjopfpdkhaaGreatDoor
