/- Lemmas for the claim (texts Sc8s, CdB, what its proof uses of them). -/
import Derived.Test.YtpoeknndkccbaaaGreatS19
import Derived.RegionTactic
set_option linter.unusedSimpArgs false
set_option linter.unusedVariables false
namespace Go.Proofs.YtpoeknndkccbaaaGreat
open Go.RowKit
attribute [go_sem] more_more Array.size_append
theorem WkV.push_slots {W : World} {b : Nat} {nv : Value} {fi : Int} {ns : List Nd} {L : List (Nat × Obj)} {S : Sc} {w : World} {sv tv mv fv v' : Value} {w1 : World} {s : Int} (h : WkV W b nv fi ns L S sv tv mv fv w) (hr : w1.ownsRow W.heap.size 3 1 v' (S.slots.length + 1) (intL S.slots ++ [.int .i64 s])) (hg : w.grownBy w1 tv.ownBlock) (hv : v'.ownBlock = tv.ownBlock ∨ v'.ownBlock = some w.heap.size) :
  WkV W b nv fi ns L { S with slots := S.slots ++ [s] } sv v' mv fv (w1.setCell ⟨b, 4, none⟩ v') := by
 have hA := h.apart
 have lb := (Array.getElem?_eq_some_iff.1 h.cell).1
 have hold : ∀ k, k < w.heap.size → tv.ownBlock ≠ some k → w1.heap[k]? = w.heap[k]? := fun k hk hn => hg.block k hk (Ne.symm hn)
 have L1 := fun g q => (h.seen.lt g q).2
 have L2 := fun g q => (h.slots.lt g q).2
 have L3 := fun g q => (h.made.lt g q).2
 have L4 := fun g q => (h.free.lt g q).2
 have hvn : ∀ g, v'.ownBlock = some g → tv.ownBlock = some g ∨ g = w.heap.size := fun g q => by
  rcases hv with e | e
  · exact Or.inl (e ▸ q)
  · rw [e] at q; exact Or.inr (Option.some.inj q).symm
 have hx1 : Ext W w1 := h.ext.grown hg fun k hk => (h.slots.lt k hk).1
 have hnb : tv.ownBlock ≠ some b := fun q => by have := hA b; simp_all
 have kb : KB b _ _ w1 := (hold b lb hnb).trans h.cell
 have keep : ∀ (x : Value) (n : Nat) (xs : List Value) (e : TypeId) (sz bs : Nat), w.ownsRow bs e sz x n xs → (∀ g, x.ownBlock = some g → g ≠ b) → (∀ g, x.ownBlock = some g → tv.ownBlock ≠ some g) → (w1.setCell ⟨b, 4, none⟩ v').ownsRow bs e sz x n xs := fun x n xs e sz bs hx h1 h2 =>
  qaf hx fun k q hk => (heap_set_other _ _ _ _ _ (h1 k q)).trans (hold k hk (h2 k q))
 refine ⟨hx1.setCell h.base.1 _, KB.setAt kb 4 v' zbj, keep _ _ _ _ _ _ h.row (fun g q => by have := h.base.2 g q; have := h.base.1; omega) (fun g q e => by have := h.base.2 g q; have := (h.slots.lt g e).1; omega), ?_, ?_, ?_, ?_, h.base, ?_, ?_⟩
 · exact keep _ _ _ _ _ _ h.seen (fun g q => by have := hA g; simp_all) (fun g q e => by have := hA g; simp_all)
 · dsimp only; rw [List.length_append]; unfold intL; rw [List.map_append]; exact qaf hr fun k q _ => heap_set_other _ _ _ _ _ (fun e => by rcases hvn k q with e1 | e1; exact hnb (e ▸ e1); omega)
 · exact keep _ _ _ _ _ _ h.made (fun g q => by have := hA g; simp_all) (fun g q e => by have := hA g; simp_all)
 · exact keep _ _ _ _ _ _ h.free (fun g q => by have := hA g; simp_all) (fun g q e => by have := hA g; simp_all)
 · intro g
   have a := hA g
   have b1 := hA w.heap.size
   have n1 : sv.ownBlock ≠ some w.heap.size := fun q => absurd (L1 _ q) (Nat.lt_irrefl _)
   have n2 : tv.ownBlock ≠ some w.heap.size := fun q => absurd (L2 _ q) (Nat.lt_irrefl _)
   have n3 : mv.ownBlock ≠ some w.heap.size := fun q => absurd (L3 _ q) (Nat.lt_irrefl _)
   have n4 : fv.ownBlock ≠ some w.heap.size := fun q => absurd (L4 _ q) (Nat.lt_irrefl _)
   have nb : w.heap.size ≠ b := by omega
   rcases hv with e | e
   · rw [e]; exact a
   · by_cases hgs : g = w.heap.size
     · subst hgs
       simp_all
     · have q : v'.ownBlock ≠ some g := by rw [e]; intro e2; exact hgs (Option.some.inj e2).symm
       simp_all
 · intro q hq
   have hl := h.loc q hq
   have hlt := (Array.getElem?_eq_some_iff.1 hl.1).1
   have e1 : (w1.setCell ⟨b, 4, none⟩ v').heap[q.1]? = some q.2 := (heap_set_other _ _ _ _ _ hl.2.1).trans ((hold q.1 hlt (by have := hl.2; simp_all)).trans hl.1)
   have e2 : v'.ownBlock ≠ some q.1 := by
    intro e
    rcases hvn q.1 e with e3 | e3
    · have := hl.2; simp_all
    · omega
   have := hl.2
   refine ⟨e1, this.1, ?_⟩
   simp_all
theorem blocks_all {W : World} {b : Nat} {nv : Value} {fi : Int} {ns : List Nd} : ∀ f, BlockC W b nv fi ns f ∧ StmC W b nv fi ns f := by
 intro f
 induction f using Nat.strongRecOn with
 | _ f ih =>
  have h1 : BlockC W b nv fi ns f := block_of f fun g hg => (ih g hg).2
  exact ⟨h1, stm_of f h1⟩
theorem intInfo2 : (Tryz.prog.info? 3).map (fun i => (i.zero, i.size, i.bytes)) = some (some (.int .i64 0), 1, 8) := by kernel_rfl
theorem WkV.start {fi : Int} {W : World} {nv : Value} {ns : List Nd} (hr : W.ownsRow 0 42 8 nv ns.length (qac ns)) : WkV W W.heap.size nv fi ns [] ⟨[], 0, [], [], [], 0, 0⟩ (.slice none 0 0) (.slice none 0 0) (.slice none 0 0) (.slice none 0 0) (W.alloc (.cells #[nv, .int .i64 fi, .slice none 0 0, .int .i64 0, .slice none 0 0, .slice none 0 0, .slice none 0 0, .int .i64 0, .int .i64 0] 76 (0, 0))) :=
 ⟨(Ext.refl W).alloc _, heap_alloc_new _ _, hr.alloc _, World.ownsRow_nil _ _ _ _, World.ownsRow_nil _ _ _ _, World.ownsRow_nil _ _ _ _, World.ownsRow_nil _ _ _ _, ⟨Nat.le_refl _, fun g hg => (hr.lt g hg).2⟩, fun g => by simp [Value.ownBlock], fun q hq => by cases hq⟩
def Sc.sl (k : Nat) : Sc := ⟨[], 0, List.replicate k (-1), [], [], 0, 0⟩
set_option maxHeartbeats 2000000 in
theorem walk_no {ns : List Nd} {nv : Value} {n base : Nat} (fi : Int) (w : World) (hr : w.ownsRow base 42 8 nv n (qac ns)) (hl : ns.length = n) (hs : ∀ z ∈ ns, z.s.size ≤ maxLen) (hm : mayB ns fi = false) :
  Calls Tryz.prog 28 #[.agg #[nv, .int .i64 fi]] w fun e w' => e = .returned (.tuple #[.pointer none, .int .i64 1]) ∧ Ext w w' := by
 obtain ⟨p1, c1, rfl⟩ := qaj hr
 have MY := Lib.hid (fun W' (hx : Ext w W') => may_any fi W' (own_ext hr hx) hl hs)
 rw [hm] at MY
 clear hr hl hs hm
 go_enter Tryz.func28, Tryz.ntmps28
 go_wp2_with (go_at_call 37; (with_reducible refine (MY.out _ zae).mono ?_); rintro e' _ ⟨rfl, d1, os1, rfl⟩)
 go_ret2
 exact ⟨rfl, zae⟩
set_option maxHeartbeats 8000000 in
set_option maxRecDepth 20000 in
theorem walk_yes {ns : List Nd} {nv : Value} {n base : Nat} (fi : Int) (w : World) (hr : w.ownsRow base 42 8 nv n (qac ns)) (hl : ns.length = n) (hs : ∀ z ∈ ns, z.s.size ≤ maxLen) (hm : mayB ns fi = true) (R : Sc) (hR : qbb (blkS ns n) fi (-1) [] (Sc.start n) = some R) :
  Calls Tryz.prog 28 #[.agg #[nv, .int .i64 fi]] w fun e w' => ∃ b W, e = .returned (.tuple #[.pointer (some ⟨b, 0, none⟩), .int .i64 0]) ∧ Wk W b nv fi ns [] R w' ∧ Ext w W := by
 obtain ⟨p1, c1, rfl⟩ := qaj hr
 have hn := (qbe hm).1
 rw [hl] at hn
 have hni : (n : Int) ≤ 512 := by omega
 have MY := Lib.hid (fun W' (hx : Ext w W') => may_any fi W' (own_ext hr hx) hl hs)
 rw [hm] at MY
 have HP := Lib.hid (hr.mono (Nat.zero_le _))
 have HL := Lib.hid hl
 have HR := Lib.hid hR
 obtain ⟨i0, hi, hz0, hz1, hz2⟩ := info_parts intInfo2
 clear hr hl hs hm hR hn
 go_enter Tryz.func28, Tryz.ntmps28
 go_wp2_with (go_at_call 37; (with_reducible refine (MY.out _ zae).mono ?_); rintro e' _ ⟨rfl, d1, os1, rfl⟩)
 have HW := Lib.hid (WkV.start (fi := fi) (W := more (w.alloc (.cells #[.slice p1 n c1, .int .i64 fi] 24 (0, 0))) d1 os1) (show (more (w.alloc (.cells #[.slice p1 n c1, .int .i64 fi] 24 (0, 0))) d1 os1).ownsRow 0 42 8 (.slice p1 n c1) ns.length (qac ns) from own_ext (by have := HP.out; rw [HL.out]; exact this) zae))
 have hsz : (more (w.alloc (.cells #[.slice p1 n c1, .int .i64 fi] 24 (0, 0))) d1 os1).heap.size = w.heap.size + 1 + os1.size := by simp [more_size]
 have XE := Lib.hid (show Ext w (more (w.alloc (.cells #[.slice p1 n c1, .int .i64 fi] 24 (0, 0))) d1 os1) from zae)
 have KP := Lib.hid (show ∀ wr, Ext (more (w.alloc (.cells #[.slice p1 n c1, .int .i64 fi] 24 (0, 0))) d1 os1) wr → KB w.heap.size #[.slice p1 n c1, .int .i64 fi] 24 wr from fun wr hx => (KB.new w _ _).of_ext (Ext.trans zae hx))
 rw [hsz] at HW
 generalize hb : w.heap.size + 1 + os1.size = b at *
 generalize hW : more (w.alloc (.cells #[.slice p1 n c1, .int .i64 fi] 24 (0, 0))) d1 os1 = W at *
 generalize hk1 : w.heap.size = k1 at *
 clear hb hW hk1 hsz MY
 go_loopw [14] (fun y wr => ∃ k : Nat, y = .int .i64 (k : Int) ∧ k ≤ n ∧ Wk W b (.slice p1 n c1) fi ns [] (Sc.sl k) wr) (fun y _ => n - (intOf y).toNat)
 case atStart => exact ⟨0, rfl, Nat.zero_le _, _, _, _, _, HW.out⟩
 case round =>
  obtain ⟨k, rfl, hk, sv, tv, mv, fv, hwk⟩ := hrel
  have H := Lib.hid hwk
  have HK := Lib.hid hk
  have KX := Lib.hid (show KB b _ _ wr from hwk.cell)
  have x4 := KX.out.cell 4 tv rfl
  have lb := KX.out.lt
  have hk0 : 0 ≤ (k : Int) := by omega
  have hlen : (Sc.sl k).slots.length = k := by simp [Sc.sl]
  have HLN := Lib.hid hlen
  have KB1 := Lib.hid (KP.out wr hwk.ext)
  by_cases hlt : k < n
  · have hkn : (k : Int) < (n : Int) := by omega
    have htb : tv.ownBlock ≠ some b := fun q => ((H.out.apart b).2.1 q).1 rfl
    have hf4 := KX.out.frozen 4
    clear hwk hk hlen hlt
    go_wp2_with (at_builtin; refine wpList_append_own_at _ rfl _ _ 54 rfl W.heap.size 3 i0 (.int .i64 0) 1 8 Tryz.underlying54 hi hz0 hz1 hz2 rfl zbf tv (Sc.sl k).slots.length (intL (Sc.sl k).slots) rfl (H.out.slots.alloc _) ⟨_, 0, none⟩ 1 1 [.int .i64 (-1)] rfl rfl (qao zbj) zcp (by rw [HLN.out]; unfold maxLen; have := HK.out; omega) (by rw [HLN.out]; have := HK.out; omega) (by simp; have := H.out.ext.size; omega) ?_)
    intro v' w1 hown hgrow _ hblk
    obtain ⟨g3, cap3, rfl, _, _⟩ := hown.form zah
    have HPU := Lib.hid (WkV.push_slots (s := -1) (H.out.of_ext ((Ext.refl _).alloc _)) hown hgrow (by rw [World.size_alloc]; exact hblk))
    have KX3 := Lib.hid (show KB b _ _ w1 from (hgrow.block b (by rw [World.size_alloc]; omega) (Ne.symm htb)).trans (KX.out.alloc _))
    have z4 := KX3.out.cell 4 tv rfl
    have z4f := KX3.out.frozen 4
    have lb3 := KX3.out.lt
    clear hown hgrow hblk htb
    go_wp2_with fail
    go_roundw
    case rel => exact ⟨k + 1, by go_num, by omega, _, _, _, _, by have := HPU.out; rw [show ({ Sc.sl k with slots := (Sc.sl k).slots ++ [-1] } : Sc) = Sc.sl (k + 1) from by unfold Sc.sl; rw [List.replicate_succ']] at this; exact this⟩
    case measure => simp [intOf]; omega
  · have hke : k = n := by omega
    subst hke
    have q1 := KB1.out.cell 1 _ rfl
    have l1 := KB1.out.lt
    have CB := Lib.hid ((blocks_all (W := W) (b := b) (nv := .slice p1 k c1) (fi := fi) (ns := ns) k).1 [] (Sc.start k) R wr fi (-1) [] (.slice none 0 0) (Or.inl ⟨rfl, rfl⟩) HR.out ⟨_, _, _, _, hwk⟩)
    clear hwk hlt hlen hk x4
    go_wp2_with (go_at_call 38; (with_reducible refine CB.out.mono ?_); rintro e' w2 ⟨rfl, h2⟩; have H2 := Lib.hid h2; clear h2)
    go_ret2
    exact ⟨b, W, rfl, H2.out, XE.out⟩
def qaV (ns : List Nd) (fi : Int) : List Int × Int × Int × Int :=
 if mayB ns fi = true then
  match qbb (blkS ns ns.length) fi (-1) [] (Sc.start ns.length) with
  | some R => if R.e = 0 then (R.slots, R.most, 0, -1) else ([], 0, R.e, R.a)
  | none => ([], 0, 1, -1)
 else ([], 0, 1, -1)
set_option maxHeartbeats 4000000 in
set_option maxRecDepth 20000 in
theorem slots_any {ns : List Nd} {nv : Value} {n base : Nat} (fi : Int) (w : World) (hr : w.ownsRow base 42 8 nv n (qac ns)) (hl : ns.length = n) (hs : ∀ z ∈ ns, z.s.size ≤ maxLen) (l : List Int) (m e a : Int) (hf : qaV ns fi = (l, m, e, a)) :
  Calls Tryz.prog 20 #[.agg #[nv, .int .i64 fi]] w fun r w' => ∃ v, r = .returned (.tuple #[v, .int .i64 m, .int .i64 e, .int .i64 a]) ∧ w'.ownsRow w.heap.size 3 1 v l.length (intL l) ∧ Ext w w' := by
 obtain ⟨p1, c1, rfl⟩ := qaj hr
 unfold qaV at hf
 cases hm : mayB ns fi
 · rw [hm, if_neg zbj] at hf
   simp only [Prod.mk.injEq] at hf
   obtain ⟨rfl, rfl, rfl, rfl⟩ := hf
   have WN := Lib.hid (fun W' (hx : Ext w W') => walk_no fi W' (own_ext hr hx) hl hs hm)
   clear hr hl hs hm
   go_enter Tryz.func20, Tryz.ntmps20
   go_wp2_with (go_at_call 28; (with_reducible refine (WN.out _ zae).mono ?_); rintro e' _ ⟨rfl, d1, os1, rfl⟩)
   exact bodyPost_ret (v := .tuple #[.slice none 0 0, .int .i64 0, .int .i64 1, .int .i64 (-1)]) (by simp [results, Tryz.results20, go_sem]) rfl ⟨_, rfl, World.ownsRow_nil _ _ _ _, zae⟩
 · rw [hm, if_pos rfl] at hf
   obtain ⟨R, hR, h1, h2, h3⟩ := walk_law hm
   rw [hR] at hf
   dsimp only at hf
   have WY := Lib.hid (fun W' (hx : Ext w W') => walk_yes fi W' (own_ext hr hx) hl hs hm R (by rw [← hl]; exact hR))
   obtain ⟨rs, rm, rt, rd, rf, re, ra⟩ := R
   dsimp only at hf
   clear hr hl hs hm h1 h2 h3 hR
   by_cases he : re = 0
   · subst he
     rw [if_pos rfl] at hf
     simp only [Prod.mk.injEq] at hf
     obtain ⟨rfl, rfl, rfl, rfl⟩ := hf
     go_enter Tryz.func20, Tryz.ntmps20
     go_wp2_with (go_at_call 28; (with_reducible refine (WY.out _ zae).mono ?_); rintro e' w2 ⟨b, W2, rfl, ⟨sv, tv, mv, fv, h2⟩, hx⟩; have KX := Lib.hid (show KB b _ _ w2 from h2.cell); have x7 := KX.out.cell 7 _ rfl; have x4 := KX.out.cell 4 _ rfl; have x3 := KX.out.cell 3 _ rfl; have lb := KX.out.lt; have H2 := Lib.hid h2; have HX := Lib.hid (((Ext.refl w).alloc _).trans hx); clear h2 hx)
     go_region
     go_wp2_with fail
     exact bodyPost_ret (v := .tuple #[tv, .int .i64 rm, .int .i64 0, .int .i64 (-1)]) (by simp [results, Tryz.results20, go_sem]) rfl ⟨tv, rfl, own_ext (H2.out.slots.mono HX.out.size) ((Ext.refl _).drew), Ext.trans HX.out (H2.out.ext.trans ((Ext.refl _).drew))⟩
   · rw [if_neg he] at hf
     simp only [Prod.mk.injEq] at hf
     obtain ⟨rfl, rfl, rfl, rfl⟩ := hf
     have he2 : (re != 0) = true := by simpa using he
     clear he
     go_enter Tryz.func20, Tryz.ntmps20
     go_wp2_with (go_at_call 28; (with_reducible refine (WY.out _ zae).mono ?_); rintro e' w2 ⟨b, W2, rfl, ⟨sv, tv, mv, fv, h2⟩, hx⟩; have KX := Lib.hid (show KB b _ _ w2 from h2.cell); have x7 := KX.out.cell 7 _ rfl; have x8 := KX.out.cell 8 _ rfl; have lb := KX.out.lt; have HX := Lib.hid ((((Ext.refl w).alloc _).trans hx).trans h2.ext); clear h2 hx)
     go_region
     go_wp2_with fail
     exact bodyPost_ret (v := .tuple #[.slice none 0 0, .int .i64 0, .int .i64 re, .int .i64 ra]) (by simp [results, Tryz.results20, go_sem]) rfl ⟨_, rfl, World.ownsRow_nil _ _ _ _, HX.out.trans ((Ext.refl _).drew)⟩
end Go.Proofs.YtpoeknndkccbaaaGreat

namespace Go.Proofs.YtpoeknndkccbaaaGreat
open Go.RowKit
attribute [go_sem] more_more Array.size_append
end Go.Proofs.YtpoeknndkccbaaaGreat
