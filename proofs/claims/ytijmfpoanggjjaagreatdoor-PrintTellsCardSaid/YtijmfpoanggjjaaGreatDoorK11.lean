/- Lemmas for the claim (texts Wr1, what its proof uses of them). -/
import Derived.Test.YtijmfpoanggjjaaGreatDoorK02
import Derived.Test.YtijmfpoanggjjaaGreatDoorK03
import Derived.Test.YtijmfpoanggjjaaGreatDoorK09
import Derived.Test.YtijmfpoanggjjaaGreatDoorK10
set_option linter.unusedSimpArgs false
set_option linter.unusedVariables false
namespace Go.Proofs.YtijmfpoanggjjaaGreatDoor
open Go.RowKit
attribute [go_sem] more_more Array.size_append
abbrev Own : Type := Nat × Array Value × TypeId
/-- the writer's block, its text, and blocks of a caller's own -/
structure WrV (W : World) (b : Nat) (nv : Value) (fi : Int) (ns : List Nd) (L : List Own) (acc : List UInt8) (p bv : Value) (w : World) : Prop where
 ext : Ext W w
 cell : w.heap[b]? = some (.cells #[nv, .int .i64 fi, p, bv] 48 (0, 0))
 ptr : p = .pointer none ∨ p = .pointer (some ⟨b, 2, none⟩)
 row : w.ownsRow 0 34 8 nv ns.length (qac ns)
 buf : w.ownsRow W.heap.size 5 1 bv acc.length (qax acc)
 base : W.heap.size ≤ b ∧ (∀ g, nv.ownBlock = some g → g < W.heap.size)
 zero : acc = [] → bv = .slice none 0 0
 loc : ∀ q, q ∈ L → KB q.1 q.2.1 q.2.2 w ∧ q.1 ≠ b ∧ q.2.2 ≠ 5
 pow : Pow10 W.heap.size W
def Wr (W : World) (b : Nat) (nv : Value) (fi : Int) (ns : List Nd) (L : List Own) (acc : List UInt8) (w : World) : Prop := ∃ p bv, WrV W b nv fi ns L acc p bv w
theorem qaF {w : World} {b1 : Nat} {e1 : TypeId} {s1 n1 : Nat} {v1 : Value} {x1 : List Value} {k : Nat} {cs : Array Value} {T : TypeId} (h1 : w.ownsRow b1 e1 s1 v1 n1 x1) (h2 : KB k cs T w) (hne : e1 ≠ T) : v1.ownBlock ≠ some k := by
 rcases h1.2 with ⟨rfl, _⟩ | ⟨g, cap, cur, rfl, _, hg, _⟩
 · simp [Value.ownBlock]
 · intro h
   simp only [Value.ownBlock, Option.some.injEq] at h
   subst h
   have h2' := h2
   unfold KB at h2'
   rw [hg] at h2'
   simp only [Option.some.injEq, Obj.cells.injEq] at h2'
   exact hne h2'.2.1
theorem WrV.kb {W : World} {b : Nat} {nv : Value} {fi : Int} {ns : List Nd} {L : List Own} {acc : List UInt8} {p bv : Value} {w : World} (h : WrV W b nv fi ns L acc p bv w) : KB b #[nv, .int .i64 fi, p, bv] 48 w := h.cell
theorem WrV.of_ext {W : World} {b : Nat} {nv : Value} {fi : Int} {ns : List Nd} {L : List Own} {acc : List UInt8} {p bv : Value} {w w' : World} (h : WrV W b nv fi ns L acc p bv w) (hx : Ext w w') : WrV W b nv fi ns L acc p bv w' :=
 ⟨h.ext.trans hx, h.kb.of_ext hx, h.ptr, own_ext h.row hx, own_ext h.buf hx, h.base, h.zero, fun q hq => ⟨(h.loc q hq).1.of_ext hx, (h.loc q hq).2⟩, h.pow⟩
theorem Wr.of_ext {W : World} {b : Nat} {nv : Value} {fi : Int} {ns : List Nd} {L : List Own} {acc : List UInt8} {w w' : World} (h : Wr W b nv fi ns L acc w) (hx : Ext w w') : Wr W b nv fi ns L acc w' := by
 obtain ⟨p, bv, h⟩ := h
 exact ⟨p, bv, h.of_ext hx⟩
theorem Wr.locNew {W : World} {b : Nat} {nv : Value} {fi : Int} {ns : List Nd} {L : List Own} {acc : List UInt8} {w : World} (h : Wr W b nv fi ns L acc w) (cs : Array Value) (T : TypeId) (hT : T ≠ 5) : Wr W b nv fi ns ((w.heap.size, cs, T) :: L) acc (w.alloc (.cells cs T (0, 0))) := by
 obtain ⟨p, bv, h⟩ := h
 have h' := h.of_ext ((Ext.refl w).alloc (.cells cs T (0, 0)))
 refine ⟨p, bv, h'.ext, h'.cell, h'.ptr, h'.row, h'.buf, h'.base, h'.zero, fun q hq => ?_, h'.pow⟩
 rcases List.mem_cons.1 hq with e | hq
 · subst e
   exact ⟨KB.new w cs T, by have := h.kb.lt; dsimp only; omega, hT⟩
 · exact h'.loc q hq
theorem Wr.locNewAt {W : World} {b : Nat} {nv : Value} {fi : Int} {ns : List Nd} {L : List Own} {acc : List UInt8} {w : World} (h : Wr W b nv fi ns L acc w) {k : Nat} (cs : Array Value) (T : TypeId) (hT : T ≠ 5) (hk : k = w.heap.size) : Wr W b nv fi ns ((k, cs, T) :: L) acc (w.alloc (.cells cs T (0, 0))) := by
 subst hk
 exact h.locNew cs T hT
theorem Wr.locOut {W : World} {b : Nat} {nv : Value} {fi : Int} {ns : List Nd} {L : List Own} {q : Own} {acc : List UInt8} {w : World} (h : Wr W b nv fi ns (q :: L) acc w) : Wr W b nv fi ns L acc w := by
 obtain ⟨p, bv, h⟩ := h
 exact ⟨p, bv, h.ext, h.cell, h.ptr, h.row, h.buf, h.base, h.zero, fun q hq => h.loc q (List.mem_cons_of_mem _ hq), h.pow⟩
theorem Wr.locAt {W : World} {b : Nat} {nv : Value} {fi : Int} {ns : List Nd} {L : List Own} {acc : List UInt8} {w : World} {k : Nat} {cs : Array Value} {T : TypeId} (h : Wr W b nv fi ns L acc w) (hq : (k, cs, T) ∈ L) : KB k cs T w := by
 obtain ⟨p, bv, h⟩ := h
 exact (h.loc _ hq).1
theorem Wr.lt {W : World} {b : Nat} {nv : Value} {fi : Int} {ns : List Nd} {L : List Own} {acc : List UInt8} {w : World} (h : Wr W b nv fi ns L acc w) : b < w.heap.size ∧ W.heap.size ≤ b := by
 obtain ⟨p, bv, h⟩ := h
 exact ⟨h.kb.lt, h.base.1⟩
theorem Wr.pow {W : World} {b : Nat} {nv : Value} {fi : Int} {ns : List Nd} {L : List Own} {acc : List UInt8} {w : World} (h : Wr W b nv fi ns L acc w) : Pow10 W.heap.size w := by
 obtain ⟨p, bv, h⟩ := h
 exact h.pow.below h.ext.below (Nat.le_refl _)
/-- a cell of the writer's block is set: where its builder lies -/
theorem WrV.setPtr {W : World} {b : Nat} {nv : Value} {fi : Int} {ns : List Nd} {L : List Own} {acc : List UInt8} {p bv : Value} {w : World} (h : WrV W b nv fi ns L acc p bv w) : WrV W b nv fi ns L acc (.pointer (some ⟨b, 2, none⟩)) bv (w.setCell ⟨b, 2, none⟩ (.pointer (some ⟨b, 2, none⟩))) := by
 refine ⟨h.ext.setCell h.base.1 _, KB.setAt h.kb 2 _ zbt, Or.inr rfl, qaQ h.row fun k q _ => heap_set_other _ _ _ _ _ (by have := h.base.2 k q; have := h.base.1; omega), qaQ h.buf fun k q _ => heap_set_other _ _ _ _ _ (fun e => qaF h.buf h.kb zaq (e ▸ q)), h.base, h.zero, fun q hq => ⟨KB.setOther (h.loc q hq).1 _ _ (h.loc q hq).2.1, (h.loc q hq).2⟩, h.pow⟩
/-- texts more -/
theorem WrV.write {W : World} {b : Nat} {nv : Value} {fi : Int} {ns : List Nd} {L : List Own} {acc : List UInt8} {p bv : Value} {w w1 : World} {v' : Value} {s : ByteArray} (h : WrV W b nv fi ns L acc p bv w) (hr : w1.ownsRow W.heap.size 5 1 v' (acc.length + s.size) (qax acc ++ Lib.strCells s)) (hg : w.grownBy w1 bv.ownBlock) (hz : v' = .slice none 0 0 ↔ bv = .slice none 0 0 ∧ s = ByteArray.empty) :
  WrV W b nv fi ns L (acc ++ s.data.toList) p v' (w1.setCell ⟨b, 3, none⟩ v') := by
 have hnb : bv.ownBlock ≠ some b := qaF h.buf h.kb zaq
 have hold : ∀ k, k < w.heap.size → bv.ownBlock ≠ some k → w1.heap[k]? = w.heap[k]? := fun k hk hn => hg.block k hk (Ne.symm hn)
 have kb : KB b _ _ w1 := (hold b h.kb.lt hnb).trans h.cell
 have hx1 : Ext W w1 := h.ext.grown hg fun k hk => (h.buf.lt k hk).1
 have hl : Lib.strCells s = qax s.data.toList := by simp [Lib.strCells, qax]
 refine ⟨hx1.setCell h.base.1 _, KB.setAt kb 3 v' zbt, h.ptr, qaQ h.row fun k q hk => (heap_set_other _ _ _ _ _ (by have := h.base.2 k q; have := h.base.1; omega)).trans (hold k hk fun e => by have := h.base.2 k q; have := (h.buf.lt k e).1; omega), ?_, h.base, fun e => ?_, fun q hq => ?_, h.pow⟩
 · have e1 : (acc ++ s.data.toList).length = acc.length + s.size := by simp
   have e2 : qax (acc ++ s.data.toList) = qax acc ++ Lib.strCells s := by rw [hl]; simp [qax]
   rw [e1, e2]
   exact qaQ hr fun k q _ => heap_set_other _ _ _ _ _ (fun e => qaF hr kb zaq (e ▸ q))
 · have ha : acc = [] := (List.append_eq_nil_iff.1 e).1
   have hs : s = ByteArray.empty := by
    have h2 := (List.append_eq_nil_iff.1 e).2
    cases s with
    | mk d => simp at h2; subst h2; rfl
   exact hz.2 ⟨h.zero ha, hs⟩
 · obtain ⟨k1, k2, k3⟩ := h.loc q hq
   have hq1 : bv.ownBlock ≠ some q.1 := qaF h.buf k1 (Ne.symm k3)
   have kq : KB q.1 q.2.1 q.2.2 w1 := (hold q.1 k1.lt hq1).trans k1
   exact ⟨KB.setOther kq _ _ k2, k2, k3⟩
theorem wrInfo : (Tryz.prog.info? 46).map (·.size) = some 2 := by kernel_rfl
theorem wrLies : liesAt Tryz.prog Tryz.prog.depth 48 (4 / Tryz.prog.cellsOf 48) 2 46 1 = true := by kernel_rfl
set_option maxHeartbeats 1000000 in
set_option maxRecDepth 100000 in
theorem wcopy_used (b : Nat) (w : World) (h0 : w.cell? ⟨b, 2, none⟩ = some (.pointer (some ⟨b, 2, none⟩))) :
  Calls Tryz.prog 76 #[.pointer (some ⟨b, 2, none⟩)] w fun e w' => e = .returned (.tuple #[]) ∧ w' = w := by
 obtain ⟨j, hj, _⟩ := Option.map_eq_some_iff.1 wrInfo
 go_enter Tryz.func76, Tryz.ntmps76
 go_wp2
 rw [Lib.run_neq_ptr_same w _ Tryz.underlying43 hj]
 go_wp2
 go_end0
 exact ⟨rfl, rfl⟩
set_option maxHeartbeats 1000000 in
set_option maxRecDepth 100000 in
theorem wcopy_fresh (b : Nat) (w : World) (h0 : w.cell? ⟨b, 2, none⟩ = some (.pointer none)) (hsh : w.shape? b = some (48, 4)) (hfz : w.frozen? ⟨b, 2, none⟩ = false) :
  Calls Tryz.prog 76 #[.pointer (some ⟨b, 2, none⟩)] w fun e w' => e = .returned (.tuple #[]) ∧ w' = w.setCell ⟨b, 2, none⟩ (.pointer (some ⟨b, 2, none⟩)) := by
 obtain ⟨j, hj, hjs⟩ := Option.map_eq_some_iff.1 wrInfo
 go_enter Tryz.func76, Tryz.ntmps76
 go_wp2
 rw [Lib.run_to_unsafe w ⟨b, 2, none⟩ Tryz.underlying43 Tryz.underlying140 hj (by rw [hjs]; decide) hsh (show 2 < 4 by decide)]
 simp only [Result.andThen]
 rw [Oper.upon_value]
 go_wp2
 rw [run_callFunc_extern Tryz.func100 zam zam zam (e := Extern.AbiNoEscape.same) zam]
 rw [Lib.run_noEscape]
 simp only [Result.andThen]
 rw [Oper.upon_value]
 go_wp2
 rw [Lib.run_from_unsafe w ⟨b, 2, none⟩ Tryz.underlying140 Tryz.underlying43 hj hsh wrLies]
 simp only [Result.andThen]
 rw [Oper.upon_value]
 go_wp2
 go_end0
 exact ⟨rfl, rfl⟩
theorem wcopy_any {W : World} {b : Nat} {nv : Value} {fi : Int} {ns : List Nd} {L : List Own} {acc : List UInt8} {p bv : Value} {w : World} (h : WrV W b nv fi ns L acc p bv w) :
  Calls Tryz.prog 76 #[.pointer (some ⟨b, 2, none⟩)] w fun e w' => e = .returned (.tuple #[]) ∧ WrV W b nv fi ns L acc (.pointer (some ⟨b, 2, none⟩)) bv w' := by
 have kb := h.kb
 rcases h.ptr with e | e
 · subst e
   refine (wcopy_fresh b w (kb.cell 2 _ rfl) (by simp [World.shape?, h.cell]) (kb.frozen 2)).mono ?_
   rintro e w' ⟨rfl, rfl⟩
   exact ⟨rfl, h.setPtr⟩
 · subst e
   refine (wcopy_used b w (kb.cell 2 _ rfl)).mono ?_
   rintro e w' ⟨rfl, rfl⟩
   exact ⟨rfl, h⟩
set_option maxHeartbeats 2000000 in
set_option maxRecDepth 100000 in
theorem wwrite_any {W : World} {b : Nat} {nv : Value} {fi : Int} {ns : List Nd} {L : List Own} {acc : List UInt8} {w : World} (h : Wr W b nv fi ns L acc w) (s : ByteArray) (hlen : acc.length + s.size ≤ 140737488355328) :
  Calls Tryz.prog 57 #[.pointer (some ⟨b, 2, none⟩), .string s] w fun e w' => e = .returned (.tuple #[.int .i64 s.size, .nilIface]) ∧ Wr W b nv fi ns L (acc ++ s.data.toList) w' := by
 obtain ⟨i0, hi, hz0, hz1, hz2⟩ := info_parts u8info
 obtain ⟨p, bv, h⟩ := h
 go_enter Tryz.func57, Tryz.ntmps57
 go_wp2_with (go_at_call 76; refine (wcopy_any h).mono ?_)
 rintro e w1 ⟨rfl, h1⟩
 have H := Lib.hid h1
 have kb := h1.kb
 have hown := h1.buf
 have c2 := kb.cell 2 _ rfl
 have c3 := kb.cell 3 _ rfl
 have hbl := h1.kb.lt
 have hbs := h1.base.1
 have hW := h1.ext.size
 clear h h1 kb
 go_wp2_with (at_builtin; refine Lib.wpList_append_own_string _ rfl _ _ 44 9 rfl W.heap.size 5 i0 Tryz.underlying44 Tryz.underlying9 hi hz0 hz1 hz2 _ _ _ rfl hown s rfl ?c3 ?c4 ?c5 ?_)
 case c3 => unfold maxLen; omega
 case c4 => omega
 case c5 => exact hW
 intro v' w2 hown' hgrow hz
 have HF := Lib.hid (H.out.write hown' hgrow hz)
 have hnb : bv.ownBlock ≠ some b := qaF hown H.out.kb zaq
 have kb2 : KB b _ _ w2 := (hgrow.block b hbl (Ne.symm hnb)).trans H.out.cell
 have d2 := kb2.cell 2 _ rfl
 have d3 := kb2.cell 3 _ rfl
 have f3 := kb2.frozen 3
 have hbl2 := kb2.lt
 obtain ⟨ao, n', cap, rfl⟩ : ∃ ao n' cap, v' = .slice ao n' cap := by
  rcases hown'.2 with ⟨hv, _⟩ | ⟨g, cap, cur, hv, _⟩
  · exact ⟨_, _, _, hv⟩
  · exact ⟨_, _, _, hv⟩
 clear hown' hgrow hz hown c2 c3 kb2 hnb
 go_wp2
 go_ret2
 exact ⟨rfl, _, _, HF.out⟩
/-- the texts of a row, one behind the other -/
def catS (l : List ByteArray) : List UInt8 := l.flatMap fun s => s.data.toList
theorem catS_take {l : List ByteArray} {k : Nat} {s : ByteArray} (h : l[k]? = some s) : catS (l.take (k + 1)) = catS (l.take k) ++ s.data.toList := by
 unfold catS
 rw [List.take_add_one, h]
 simp
theorem catS_le {l : List ByteArray} (k : Nat) : (catS (l.take k)).length ≤ (catS l).length := by
 have h : catS l = catS (l.take k) ++ catS (l.drop k) := by unfold catS; rw [← List.flatMap_append, List.take_append_drop]
 rw [h, List.length_append]; omega
def stArr (l : List ByteArray) : Array Value := (l.map Value.string).toArray
set_option maxHeartbeats 2000000 in
set_option maxRecDepth 100000 in
theorem qed {W : World} {b : Nat} {nv : Value} {fi : Int} {ns : List Nd} {L : List Own} {acc : List UInt8} {w : World} {g n : Nat} {l : List ByteArray} (hn : l.length = n) (hn9 : n ≤ 9) (h : Wr W b nv fi ns ((g, stArr l, 9) :: L) acc w) (hlen : acc.length + (catS l).length ≤ 100000000) :
  Calls Tryz.prog 38 #[.pointer (some ⟨b, 0, none⟩), .slice (some ⟨g, 0, none⟩) n n] w fun e w' => e = .returned (.tuple #[]) ∧ Wr W b nv fi ns L (acc ++ catS l) w' := by
 have H := Lib.hid h
 have HN := Lib.hid hn
 have HL := Lib.hid hlen
 have hn0 : (n : Int) ≤ 9 := by omega
 clear h hn hlen
 go_enter Tryz.func38, Tryz.ntmps38
 go_wp2_with fail
 go_loopw [5, 8] (fun _ i wr => ∃ k : Nat, k ≤ n ∧ i = .int .i64 (k : Int) ∧ Wr W b nv fi ns ((g, stArr l, 9) :: L) (acc ++ catS (l.take k)) wr) (fun _ i _ => n - (intOf i).toNat)
 case atStart => exact ⟨0, Nat.zero_le _, rfl, by simpa [catS] using H.out⟩
 case round =>
  obtain ⟨k, hk, rfl, hr⟩ := hrel
  have HR := Lib.hid hr
  have HK := Lib.hid hk
  clear hr
  by_cases hlt : k < n
  · obtain ⟨s, hs⟩ : ∃ s, l[k]? = some s := ⟨l[k]'(by have := HN.out; omega), List.getElem?_eq_getElem _⟩
    have kg := HR.out.locAt List.mem_cons_self
    have x := kg.cell k (.string s) (by simp [stArr, hs])
    have lx := kg.lt
    have lb := HR.out.lt.1
    have HLT := Lib.hid hlt
    have HT := Lib.hid (catS_take hs)
    have HC := Lib.hid (wwrite_any HR.out s (by
     have a1 := catS_le (l := l) (k + 1)
     rw [HT.out, List.length_append] at a1
     have := HL.out
     rw [List.length_append]
     have e : s.data.toList.length = s.size := by simp
     omega))
    have hlt2 : (k : Int) < (n : Int) := by omega
    clear hs kg hlt hk
    go_wp2_with ((go_at_call 57; (with_reducible refine HC.out.mono ?_); rintro e' w4 ⟨rfl, h4⟩; have H4 := Lib.hid h4; clear h4))
    go_roundw
    case rel => exact ⟨k + 1, by have := HLT.out; omega, by go_num, by rw [HT.out, ← List.append_assoc]; exact H4.out⟩
    case measure => have := HLT.out; simp [intOf]; omega
  · have hke : k = n := by omega
    subst hke
    clear hlt hk
    go_wp2_with fail
    (first | go_end0 | refine bodyPost_ret (results_none rfl _ _ _) rfl ?_)
    have e : l.take k = l := List.take_of_length_le (by have := HN.out; omega)
    have h2 := HR.out
    rw [e] at h2
    exact ⟨rfl, h2.locOut⟩
end Go.Proofs.YtijmfpoanggjjaaGreatDoor
