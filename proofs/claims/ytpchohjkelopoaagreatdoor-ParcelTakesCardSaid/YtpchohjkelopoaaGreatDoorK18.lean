/- Lemmas for the claim (texts Pa6, Pa7, Pa8, Pa9, PaA, PaB, PaC, PaD, what its proof uses of them). -/
import Derived.Test.YtpchohjkelopoaaGreatDoorK16
import Derived.Test.YtpchohjkelopoaaGreatDoorK17
set_option linter.unusedSimpArgs false
set_option linter.unusedVariables false
set_option maxRecDepth 20000
namespace Go.Proofs.YtpchohjkelopoaaGreatDoor
open Go.RowKit
attribute [go_sem] more_more Array.size_append
set_option maxHeartbeats 1000000 in
theorem table15_any (v : Value) (ts : List ByteArray) (w : World) (h : StrsAt w v ts) (hs : ∀ s ∈ ts, s.size ≤ 140737488351232) :
    Calls Tryz.prog 9 #[v] w (TablePost 40 ts w) := by
  have NC := Lib.hid (new_any w)
  obtain ⟨n, hn⟩ : ∃ n, ts.length = n := ⟨_, rfl⟩
  have hform : ∃ p cap, v = .slice p n cap ∧ Hid (∀ j u, ts[j]? = some u → ∃ b off, p = some ⟨b, off, none⟩ ∧ w.cell? ⟨b, off + j, none⟩ = some (.string u)) := by
    rcases h with ⟨p, cap, rfl, rfl⟩ | ⟨b, off, cap, rfl, h1, h2⟩
    · simp at hn; subst hn; exact ⟨p, cap, rfl, fun j u hj => by simp at hj⟩
    · exact ⟨_, cap, by rw [hn], fun j u hj => ⟨b, off, rfl, h2 j u hj⟩⟩
  obtain ⟨p, cap, rfl, HC⟩ := hform
  have HN := Lib.hid hn
  have HS := Lib.hid hs
  clear hn hs h
  go_enter Tryz.func9, Tryz.ntmps9
  go_wp2_with (go_at_call 24; refine NC.out.mono ?_; rintro e w1 ⟨rfl, hT, hx⟩; have HT := Lib.hid hT; have HX := Lib.hid hx; clear hT hx)
  go_loopw [5, 6] (fun lv ii wr => ∃ (k : Nat) (tv : Value) (tl : List ByteArray), ii = .int .i64 (k : Int) ∧ k ≤ 40 ∧ k ≤ n ∧ Hid (tl = tabG [] (ts.take k) ∧ tl.length ≤ k ∧ Both w.heap.size (w.heap.size + 1) w.heap.size tv lv tl wr ∧ Below w.heap.size w wr)) (fun _ ii _ => 40 - (intOf ii).toNat)
  case atStart => exact ⟨0, .slice none 0 0, [], rfl, Nat.zero_le _, Nat.zero_le _, Lib.hid ⟨rfl, by simp, ⟨HT.out, World.ownsRow_nil _ _ _ _, by simp [Value.ownBlock], by simp [Value.ownBlock], Or.inl (by simp [Value.ownBlock])⟩, HX.out.below⟩⟩
  case round =>
    obtain ⟨k, tv, tl, rfl, hk40, hkn, hH⟩ := hrel
    obtain ⟨lv, hlv⟩ : ∃ x, x = u5 := ⟨_, rfl⟩
    subst hlv
    have hkI40 : (k : Int) ≤ 40 := by omega
    by_cases hlt : k < n
    · have hltI : (k : Int) < n := by omega
      by_cases h40 : k < 40
      · have hlt40 : (k : Int) < 40 := by omega
        have hk0 : (0 : Int) ≤ (k : Int) := by omega
        obtain ⟨s, hsx⟩ : ∃ s, ts[k]? = some s := ⟨_, List.getElem?_eq_getElem (by have := HN.out; omega)⟩
        obtain ⟨b, off, rfl, c0⟩ := HC.out k s hsx
        have c1 := cell_below c0 hH.out.2.2.2 rfl
        have hb1 := World.block_lt_of_cell? _ _ c1
        have hss := HS.out s (List.mem_of_getElem? hsx)
        have hsn : tabG [] (ts.take (k + 1)) = (ofF tl (cutS 600 s)).1 := by
          rw [List.take_add_one, hsx, show (some s).toList = [s] from rfl, tabG_snoc, ← hH.out.1]
        have HSN := Lib.hid hsn
        have HLEN := Lib.hid (ofF_len tl (cutS 600 s))
        obtain ⟨sc, hsc⟩ : ∃ sc, cutS 600 s = sc := ⟨_, rfl⟩
        have hscm : sc.size ≤ maxLen := by rw [← hsc]; have := cutS_le 600 s; unfold maxLen; omega
        obtain ⟨ro, hro⟩ : ∃ ro, ofF tl sc = ro := ⟨_, rfl⟩
        rw [hsc, hro] at HSN HLEN
        have OC := Lib.hid ((of_any _ _ _ tv tl sc hscm wr hH.out.2.2.1.1).mono fun e w' hp => mid_of hH.out.2.2.1 hp)
        have RC := Lib.hid fun (W : World) (tv' : Value) (hM : Mid w.heap.size (w.heap.size + 1) w.heap.size tv' lv tl ro.1 W) (hb : Below w.heap.size wr W) => (rof_any w.heap.size lv tl sc W (by have := hH.out.2.1; omega) hM.2.1 (Nat.le_trans hH.out.2.2.2.size hb.size)).mono fun e w' hp => both_of (l' := ro.1) (n := ro.2.1) (er := ro.2.2) hM (by rw [hro] at hp; exact hp)
        rw [hro] at OC
        have hal : ∀ (P : Prop) (h1 : P), P := fun _ h => h
        clear hsx hsn hro c0 hal
        by_cases hbig : 600 < s.size
        · have hI : (600 : Int) < s.size := by omega
          have hI2 : (600 : Int) ≤ s.size := by omega
          have hcut : s.extract 0 600 = sc := by rw [← hsc]; unfold cutS; rw [if_pos hbig]
          clear hsc
          go_wp2_with (first
            | (go_at_call 50; refine OC.out.mono ?_; rintro e w2 ⟨rfl, ⟨tv', hM⟩, hb2⟩; have HM := Lib.hid hM; have HB2 := Lib.hid hb2; clear hM hb2)
            | (go_at_call 51; refine (RC.out _ _ HM.out HB2.out).mono ?_; rintro e w3 ⟨⟨lv', rfl, hB⟩, hb3⟩; have HB := Lib.hid hB; have HB3 := Lib.hid hb3; clear hB hb3))
          go_roundw
          case rel => exact ⟨k + 1, _, ro.1, by go_num, by omega, by omega, Lib.hid ⟨HSN.out.symm, by have := hH.out.2.1; have := HLEN.out; omega, HB.out, (hH.out.2.2.2.trans HB2.out).trans HB3.out⟩⟩
          case measure => simp [intOf]; omega
        · have hI : ¬ ((600 : Int) < s.size) := by omega
          obtain rfl : s = sc := by rw [← hsc]; unfold cutS; rw [if_neg hbig]
          clear hsc
          go_wp2_with (first
            | (go_at_call 50; refine OC.out.mono ?_; rintro e w2 ⟨rfl, ⟨tv', hM⟩, hb2⟩; have HM := Lib.hid hM; have HB2 := Lib.hid hb2; clear hM hb2)
            | (go_at_call 51; refine (RC.out _ _ HM.out HB2.out).mono ?_; rintro e w3 ⟨⟨lv', rfl, hB⟩, hb3⟩; have HB := Lib.hid hB; have HB3 := Lib.hid hb3; clear hB hb3))
          go_roundw
          case rel => exact ⟨k + 1, _, ro.1, by go_num, by omega, by omega, Lib.hid ⟨HSN.out.symm, by have := hH.out.2.1; have := HLEN.out; omega, HB.out, (hH.out.2.2.2.trans HB2.out).trans HB3.out⟩⟩
          case measure => simp [intOf]; omega
      · have hk : k = 40 := by omega
        subst hk
        go_wp2_with fail
        go_ret2
        exact ⟨_, _, _, _, rfl, by have := hH.out.2.2.1; rw [hH.out.1] at this; exact this, hH.out.2.2.2⟩
    · have hk : k = n := by omega
      have hnl : ¬ ((k : Int) < (n : Int)) := by omega
      have hte : tl = tabF 40 ts := by
        rw [hH.out.1]
        unfold tabF
        rw [List.take_of_length_le (by have := HN.out; omega), List.take_of_length_le (by have := HN.out; omega)]
      subst hte
      clear hk
      go_wp2_with fail
      go_ret2
      exact ⟨_, _, _, _, rfl, hH.out.2.2.1, hH.out.2.2.2⟩
/-- cells laid into others from a place on -/
def putC (C : Array Value) : Nat → List Value → Array Value
  | _, [] => C
  | o, v :: r => putC (C.setIfInBounds o v) (o + 1) r
theorem setCells_row (g : Nat) (t : TypeId) (fr : Nat × Nat) : ∀ (vs : List Value) (o : Nat) (w : World) (C : Array Value), w.heap[g]? = some (.cells C t fr) → w.setCells g o vs = w.setRow g (putC C o vs)
  | [], o, w, C, h => (setRow_self w g C t fr h).symm
  | v :: r, o, w, C, h => by
    unfold World.setCells
    rw [setCell_eq_setRow w g o C t fr v h, setCells_row g t fr r (o + 1) _ _ (setRow_heap w g C _ t fr h), setRow_setRow]
    rfl
theorem st_there {N : Nat} {v : Nat → Value} {V : Nat → Int} {a b c : Int} {W : World} (h : StBlk W N v V a b c) : W.there N 0 32 := by
  intro j hj
  refine ⟨?_, ?_⟩
  · rw [Nat.zero_add, h.cell]
    have : j < (stC v V a b c).size := Nat.lt_of_lt_of_le hj (by simp [stC])
    rw [Array.getElem?_eq_getElem this]; rfl
  · unfold StBlk at h
    simp [World.frozen?, h]
theorem StBlk.setT {w : World} {N : Nat} {v v2 : Nat → Value} {V V2 : Nat → Int} {a b c a2 b2 c2 : Int} (h : StBlk w N v V a b c) : StBlk (w.setRow N (stC v2 V2 a2 b2 c2)) N v2 V2 a2 b2 c2 := by
  unfold StBlk at h ⊢
  exact setRow_heap w N _ _ _ _ h
theorem StBlk.otherRow {w : World} {N M : Nat} {v : Nat → Value} {V : Nat → Int} {a b c : Int} (h : StBlk w N v V a b c) (hne : N ≠ M) (x : Array Value) : StBlk (w.setRow M x) N v V a b c := by
  unfold StBlk at h ⊢
  rw [setRow_other _ _ _ _ hne]; exact h
theorem st_loadS {w : World} {N : Nat} {v : Nat → Value} {V : Nat → Int} {a b c : Int} (h : StBlk w N v V a b c) : (loadVar 56 ⟨N, 0, none⟩).run Tryz.prog w = .ok (.agg (stC v V a b c)) w :=
  run_loadVar_row (P := Tryz.prog) w N 56 _ _ _ _ h Tryz.underlying56 rfl (by kernel_rfl)
theorem stC_one (v : Nat → Value) (V : Nat → Int) (a b c : Int) (h : ∀ k, k < 16 → (v k).oneCell' = true) : (stC v V a b c).all (·.oneCell') = true := by
  rw [stC_ext, Array.all_append, trC_one v V h]; simp [Value.oneCell']
/-- leaves stay behind a row of another type -/
theorem LvsAt.rowT {w : World} {bs : Nat → Nat} {v : Nat → Value} {T : Nat → List It} (h : LvsAt w bs v T) (hy : LvTy w bs T) {M : Nat} {C : Array Value} {t : TypeId} {fr : Nat × Nat} (hM : w.heap[M]? = some (.cells C t fr)) (ht : t ≠ 152) (x : Array Value) : LvsAt (w.setRow M x) bs v T ∧ LvTy (w.setRow M x) bs T := by
  have hne : ∀ j, j < 16 → 0 < (T j).length → bs j ≠ M := fun j hj hl e => by
    obtain ⟨cur, fz, hc⟩ := hy j hj hl
    rw [e, hM] at hc
    simp at hc
    exact ht hc.2.1
  refine ⟨fun j hj => (h j hj).of_block fun hl => setRow_other _ _ _ _ (hne j hj hl), fun j hj hl => ?_⟩
  obtain ⟨cur, fz, hc⟩ := hy j hj hl
  exact ⟨cur, fz, by rw [setRow_other _ _ _ _ (hne j hj hl)]; exact hc⟩
/-- a part of a row stored: the row anew -/
theorem wpList_store_part {P : Program} {ops : Array Oper} {rest : List Oper} {op : Oper} {a : Act} {w : World} {Q : Exit → Act → World → Prop} (hgd : op.guard = none) (ty : TypeId) (x y : Operand) (ho : op.op = .store ty x y)
    (g off : Nat) (cells C C' : Array Value) (t : TypeId) (fr : Nat × Nat) (hx : a.eval x = .pointer (some ⟨g, off, none⟩)) (hy : a.eval y = .agg cells) (hg : w.heap[g]? = some (.cells C t fr))
    (ht : w.there g off cells.size) (hi : (P.info? ty).map (·.size) = some cells.size) (h1 : cells.all (·.oneCell') = true) (hC : putC C off cells.toList = C')
    (h : wpList P ops Q rest (a.put op.dst undef) (w.setRow g C')) : wpList P ops Q (op :: rest) a w :=
  wpList_store_mid hgd ty x y ho g off cells hx hy ht hi h1 (by rw [setCells_row g t fr _ _ _ _ hg, hC]; exact h)
end Go.Proofs.YtpchohjkelopoaaGreatDoor

set_option maxRecDepth 20000
namespace Go.Proofs.YtpchohjkelopoaaGreatDoor
open Go.RowKit
attribute [go_sem] more_more Array.size_append
end Go.Proofs.YtpchohjkelopoaaGreatDoor

set_option maxRecDepth 20000
namespace Go.Proofs.YtpchohjkelopoaaGreatDoor
open Go.RowKit
attribute [go_sem] more_more Array.size_append
set_option maxHeartbeats 2000000 in
theorem clone_any (b : Nat) (v : Value) (l : List It) (w : World) (h : LfAt w b v l) (hm : l.length ≤ 1000) :
    Calls Tryz.prog 85 #[v] w fun e w' => ∃ v', e = .returned v' ∧ w'.ownsRow w.heap.size 152 5 v' l.length (itCells l) ∧ Ext w w' := by
  obtain ⟨i1, hi1, hy0, hy1, hy2⟩ := info_parts itInfo
  have HSRC := Lib.hid fun (W : World) (hx : Ext w W) => lf_src (h.ext hx)
  obtain ⟨_, p, cap, rfl, hcap, hp⟩ := h
  obtain ⟨n, hn⟩ : ∃ n, l.length = n := ⟨_, rfl⟩
  have HN := Lib.hid hn
  have HP := Lib.hid hp
  have qe : ∀ (w : World) (a : Option Addr) (n c n' c' : Nat), (binOp .eql 26 (.slice a n c) (.slice none n' c')).run Tryz.prog w = .ok (.bool a.isNone) w := fun w a n c n' c' => Lib.run_eql_slice_nil w _ _ a n c n' c' Tryz.underlying26
  rw [hn] at HSRC hcap hm ⊢
  cases p with
  | none =>
    have h0 : l = [] := by
      cases l with
      | nil => rfl
      | cons x r => obtain ⟨off, e, _⟩ := hp (by simp); cases e
    subst h0
    obtain rfl : n = 0 := by simpa using hn.symm
    clear hn hp
    go_enter Tryz.func85, Tryz.ntmps85
    go_wp2_with fail
    go_ret
    exact ⟨_, rfl, World.ownsRow_nil _ _ _ _, Ext.refl _⟩
  | some a =>
    clear hn hp
    go_enter Tryz.func85, Tryz.ntmps85
    go_wp2_with (at_builtin; refine wpList_append_src _ rfl _ _ 26 26 rfl w.heap.size 152 i1 (.agg #[.string ⟨#[]⟩, .int .i64 0, .int .i64 0, .string ⟨#[]⟩, .int .i64 0]) 5 56 Tryz.underlying26 hi1 hy0 hy1 hy2 rfl (by decide) _ 0 _ rfl (World.ownsRow_made w #[] 0 (Nat.le_refl _) (Nat.zero_le _) rfl) _ n _ rfl (HSRC.out _ ((Ext.refl _).alloc _)) ?c3 ?c4 ?c5 ?_)
    case c3 => unfold maxLen; omega
    case c4 => omega
    case c5 => simp
    intro v1 w1 hown hgrow _
    go_wp2_with fail
    go_ret
    refine ⟨v1, rfl, by simpa using hown, Ext.grown ((Ext.refl w).alloc _) hgrow (fun k hk => ?_)⟩
    simp [Value.ownBlock] at hk; omega
end Go.Proofs.YtpchohjkelopoaaGreatDoor

set_option maxRecDepth 20000
namespace Go.Proofs.YtpchohjkelopoaaGreatDoor
open Go.RowKit
attribute [go_sem] more_more Array.size_append
theorem mk_func15 (fn : Fn) (first cap : Array Value) (w : World) : (Instr.makeFunc fn first cap).run Tryz.prog w = .ok (.func fn first cap) w := rfl
set_option maxHeartbeats 1000000 in
theorem rpl1_any (b : Nat) (v x : Value) (l : List It) (q : Nat) (w : World) (h : LfAt w b v l) (hm : l.length ≤ 1000) (hq : w.cell? ⟨q, 0, none⟩ = some v) :
    Calls Tryz.prog 84 #[x, .pointer (some ⟨q, 0, none⟩)] w fun e w' => ∃ v', e = .returned (.tuple #[v', .int .i64 0]) ∧ w'.ownsRow w.heap.size 152 5 v' l.length (itCells l) ∧ Ext w w' := by
  have CC := Lib.hid fun (W : World) (hx : Ext w W) => clone_any b v l W (h.ext hx) hm
  have hg := World.block_lt_of_cell? _ _ hq
  clear h
  go_enter Tryz.func84, Tryz.ntmps84
  go_wp2_with (go_at_call 85; refine (CC.out _ (Ext.refl _)).mono ?_; rintro e w1 ⟨v', rfl, ho, hx⟩; have HO := Lib.hid ho; have HX := Lib.hid hx; clear ho hx)
  go_ret2
  exact ⟨_, rfl, HO.out, HX.out⟩
theorem change_lvs {w w1 : World} {bs : Nat → Nat} {v : Nat → Value} {T : Nat → List It} (h : LvsAt w bs v T) (hy : LvTy w bs T) (hx : Ext w w1) (k b1 : Nat) (x : Value) (l : List It) (h1 : LfAt w1 b1 x l) (h2 : 0 < l.length → ∃ cur fz, w1.heap[b1]? = some (.cells cur 152 fz)) :
    LvsTo 16 w1 (upd bs k b1) (upd v k x) (upd T k l) := fun j hj => by
  unfold upd
  by_cases e : j = k
  · rw [if_pos e, if_pos e, if_pos e]; exact ⟨h1, h2⟩
  · rw [if_neg e, if_neg e, if_neg e]
    refine ⟨(h j hj).ext hx, fun hl => ?_⟩
    obtain ⟨cur, fz, hc⟩ := hy j hj hl
    exact ⟨cur, fz, by rw [hx.below.block _ (lt_of_heap hc)]; exact hc⟩
set_option maxHeartbeats 4000000 in
theorem change_any (bs : Nat → Nat) (v : Nat → Value) (T : Nat → List It) (V : Nat → Int) (k : Nat) (hk : k < 16) (ver : Int) (b : Nat) (lv : Value) (l : List It) (q : Nat) (w : World) (h : LvsAt w bs v T) (hy : LvTy w bs T) (hl : LfAt w b lv l) (hm : l.length ≤ 1000) (hq : w.cell? ⟨q, 0, none⟩ = some lv) :
    Calls Tryz.prog 83 #[.agg (trC v V), .int .i64 (k : Int), .int .i64 ver, .func (.func 84) #[] #[.pointer (some ⟨q, 0, none⟩)]] w fun e w' => ∃ bs' v', e = .returned (.tuple #[.agg (trC v' (upd V k ver)), .int .i64 0]) ∧ LvsAt w' bs' v' (upd T k l) ∧ LvTy w' bs' (upd T k l) ∧ Ext w w' := by
  have RC := Lib.hid fun (W : World) (hx : Ext w W) (x : Value) => rpl1_any b lv x l q W (hl.ext hx) hm (cell_ext hq hx)
  have HL := Lib.hid h
  have HY := Lib.hid hy
  have HOK := Lib.hid hl.1
  have hkI : (k : Int) < 16 := by omega
  have hk0 : (0 : Int) ≤ (k : Int) := by omega
  clear h hy hl hq
  have hcl0 : ∀ o, ((w.alloc (.cells (trC v V) 29)).alloc o).cell? ⟨w.heap.size, k, none⟩ = some (v k) := fun o => by
    have hb : TrBlk ((w.alloc (.cells (trC v V) 29)).alloc o) w.heap.size v V := (heap_alloc_old _ _ (by simp)).trans (heap_alloc_new w _)
    exact hb.leaf k hk
  go_enter Tryz.func83, Tryz.ntmps83
  go_wp2_with (first
    | (go_at_call 84; refine (RC.out _ (by repeat (first | exact Ext.refl _ | apply Ext.alloc | apply Ext.more | apply Ext.drewN)) _).mono ?_; rintro e w1 ⟨lv', rfl, ho, hx⟩; obtain ⟨p1, c1, rfl⟩ := own_sl ho; have HO := Lib.hid ho; have HX := Lib.hid (((Ext.refl w).alloc _).alloc _ |>.trans hx); have hb1 : TrBlk w1 w.heap.size v V := TrBlk.ext (show TrBlk ((w.alloc (.cells (trC v V) 29)).alloc _) w.heap.size v V from (heap_alloc_old _ _ (by simp)).trans (heap_alloc_new w _)) hx; have HB2 : Hid (TrBlk w1 (w.heap.size + 1) nilV zeroV) := Lib.hid (TrBlk.ext (by unfold TrBlk; have := heap_alloc_new (w.alloc (.cells (trC v V) 29)) (.cells (trC nilV zeroV) 29); rw [World.size_alloc] at this; exact this) hx); have hgw := lt_of_heap hb1; have hfz := hb1.frozen; have hc1 := hb1.leaf k hk; have hc2 := hb1.ver k hk; have HB1 := Lib.hid hb1; clear ho hx hb1)
    | (have HB3 := Lib.hid ((HB1.out.setLeaf k hk (.slice p1 l.length c1)).setVer k hk ver); refine wpList_load_row rfl 29 _ rfl w.heap.size rfl 29 (trC (upd v k (.slice p1 l.length c1)) (upd V k ver)) (0, 0) _ HB3.out Tryz.underlying29 rfl (by kernel_rfl) ?_)
    | (obtain ⟨b1, o1, o2, _⟩ := own_lf HO.out rfl HOK.out; have HLS : Hid (LvsTo 16 ((w1.setCell ⟨w.heap.size, k, none⟩ (.slice p1 l.length c1)).setCell ⟨w.heap.size, 16 + k, none⟩ (.int .i64 ver)) (upd bs k b1) (upd v k (.slice p1 l.length c1)) (upd T k l)) := Lib.hid (LvsTo.other (LvsTo.other (change_lvs HL.out HY.out HX.out k b1 _ l o1 o2) HB1.out _) (HB1.out.setLeaf k hk (.slice p1 l.length c1)) _); have HT2 : Hid (TrBlk ((w1.setCell ⟨w.heap.size, k, none⟩ (.slice p1 l.length c1)).setCell ⟨w.heap.size, 16 + k, none⟩ (.int .i64 ver)) (w.heap.size + 1) nilV zeroV) := Lib.hid ((HB2.out.other (Nat.succ_ne_self _) _).other (Nat.succ_ne_self _) _); clear o1 o2; refine wpList_store_rowTo rfl 29 _ _ rfl rfl (w.heap.size + 1) (trC (upd v k (.slice p1 l.length c1)) (upd V k ver)) rfl rfl 29 (trC nilV zeroV) HT2.out (by kernel_rfl) rfl (trC_one _ _ HLS.out.all.1.one) ?_))
  have hxx := ((HX.out.setCell (p := ⟨w.heap.size, k, none⟩) (Nat.le_refl _) (.slice p1 l.length c1)).setCell (p := ⟨w.heap.size, 16 + k, none⟩) (Nat.le_refl _) (.int .i64 ver)).setRow (g := w.heap.size + 1) (Nat.le_succ _) (trC (upd v k (.slice p1 l.length c1)) (upd V k ver))
  have hls := (HLS.out.otherRow HT2.out (trC (upd v k (.slice p1 l.length c1)) (upd V k ver))).all
  have hld := tr_load (HT2.out.setRow (upd v k (.slice p1 l.length c1)) (upd V k ver))
  exact bodyPost_ret (results_cell_slot (p := 8) (q := 9) (ty := 29) rfl _ _ ⟨w.heap.size + 1, 0, none⟩ _ rfl hld _ rfl) rfl ⟨_, _, rfl, hls.1, hls.2, hxx⟩
end Go.Proofs.YtpchohjkelopoaaGreatDoor

set_option maxRecDepth 20000
namespace Go.Proofs.YtpchohjkelopoaaGreatDoor
open Go.RowKit
attribute [go_sem] more_more Array.size_append
/-- the three new blocks at Replace's door -/
theorem repl_door (w : World) (v : Nat → Value) (V : Nat → Int) (lv : Value) (o2 o3 : Obj) (h2 : o2 = .cells #[lv] 26) (h3 : o3 = .cells (trC nilV zeroV) 29) :
    TrBlk (((w.alloc (.cells (trC v V) 29)).alloc o2).alloc o3) w.heap.size v V ∧ (((w.alloc (.cells (trC v V) 29)).alloc o2).alloc o3).heap[w.heap.size + 1]? = some (.cells #[lv] 26 (0, 0)) ∧ TrBlk (((w.alloc (.cells (trC v V) 29)).alloc o2).alloc o3) (w.heap.size + 2) nilV zeroV := by
  subst h2; subst h3
  have e1 : (w.alloc (.cells (trC v V) 29)).heap.size = w.heap.size + 1 := World.size_alloc _ _
  have e2 : ((w.alloc (.cells (trC v V) 29)).alloc (.cells #[lv] 26)).heap.size = w.heap.size + 2 := by rw [World.size_alloc, e1]
  refine ⟨?_, ?_, ?_⟩
  · exact (heap_alloc_old _ _ (by omega)).trans ((heap_alloc_old _ _ (by omega)).trans (heap_alloc_new w _))
  · have := heap_alloc_new (w.alloc (.cells (trC v V) 29)) (.cells #[lv] 26)
    rw [e1] at this
    exact (heap_alloc_old _ _ (by omega)).trans this
  · have := heap_alloc_new ((w.alloc (.cells (trC v V) 29)).alloc (.cells #[lv] 26)) (.cells (trC nilV zeroV) 29)
    rw [e2] at this
    exact this
set_option maxHeartbeats 4000000 in
theorem replace_no1 (bs : Nat → Nat) (v : Nat → Value) (T : Nat → List It) (V : Nat → Int) (k : Nat) (hk : k < 16) (ver : Int) (p : Option Addr) (n cap : Nat) (SB : Nat) (w : World) (hS : SignsAt SB w) (hSB : SB ≤ w.heap.size) (h : LvsAt w bs v T) (hno : trunkB T V = false) :
    Calls Tryz.prog 58 #[.agg (trC v V), .int .i64 (k : Int), .slice p n cap, .int .i64 ver] w fun e w' => e = .returned (.tuple #[.agg (trC nilV zeroV), .int .i64 1]) ∧ Ext w w' := by
  have TM := Lib.hid fun (W : World) (hx : Ext w W) => tmay_any bs v T V SB W (hS.ext hx hSB) (Nat.le_trans hSB hx.size) (h.ext hx)
  rw [hno] at TM
  have hd := fun o2 o3 h2 h3 => repl_door w v V (.slice p n cap) o2 o3 h2 h3
  have HD := Lib.hid hd
  clear h hno hd hS
  go_enter Tryz.func58, Tryz.ntmps58
  go_wp2_with (first
    | (refine wpList_load_row rfl 29 _ rfl w.heap.size rfl 29 (trC v V) (0, 0) _ (HD.out _ _ rfl rfl).1 Tryz.underlying29 rfl (by kernel_rfl) ?_)
    | (go_at_call 52; refine (TM.out _ (by repeat (first | exact Ext.refl _ | apply Ext.alloc | apply Ext.more | apply Ext.drewN))).mono ?_; rintro e w1 ⟨rfl, hx⟩; have HX := Lib.hid ((((Ext.refl w).alloc _).alloc _).alloc _ |>.trans hx); have HB := Lib.hid ((HD.out _ _ rfl rfl).2.2.ext hx); clear hx)
    | (refine wpList_buildTo rfl 29 #[] rfl _ rfl (trC nilV zeroV) (by kernel_rfl) ?_)
    | (refine wpList_store_rowTo rfl 29 _ _ rfl rfl (w.heap.size + 2) (trC nilV zeroV) rfl rfl 29 (trC nilV zeroV) HB.out (by kernel_rfl) rfl (by kernel_rfl) ?_))
  exact bodyPost_ret (results_cell_slot (p := 8) (q := 9) (ty := 29) rfl _ _ ⟨w.heap.size + 2, 0, none⟩ _ rfl (tr_load (HB.out.setRow nilV zeroV)) _ rfl) rfl ⟨rfl, HX.out.setRow (Nat.le_add_right _ _) _⟩
set_option maxHeartbeats 4000000 in
theorem replace_no2 (bs : Nat → Nat) (v : Nat → Value) (T : Nat → List It) (V : Nat → Int) (k : Nat) (hk : k < 16) (ver : Int) (b : Nat) (p : Option Addr) (n cap : Nat) (l : List It) (SB : Nat) (w : World) (hS : SignsAt SB w) (hSB : SB ≤ w.heap.size) (h : LvsAt w bs v T) (hl : LfAt w b (.slice p n cap) l) (hyes : trunkB T V = true) (hno : fitsB (k : Int) l ver = false) :
    Calls Tryz.prog 58 #[.agg (trC v V), .int .i64 (k : Int), .slice p n cap, .int .i64 ver] w fun e w' => e = .returned (.tuple #[.agg (trC nilV zeroV), .int .i64 1]) ∧ Ext w w' := by
  have TM := Lib.hid fun (W : World) (hx : Ext w W) => tmay_any bs v T V SB W (hS.ext hx hSB) (Nat.le_trans hSB hx.size) (h.ext hx)
  have ML := Lib.hid fun (W : World) (hx : Ext w W) => mayleaf_any b (k : Int) (.slice p n cap) l ver SB W (hS.ext hx hSB) (Nat.le_trans hSB hx.size) (hl.ext hx)
  rw [hyes] at TM
  rw [hno] at ML
  have hkI : (k : Int) < 16 := by omega
  have hk0 : (0 : Int) ≤ (k : Int) := by omega
  have hd := fun o2 o3 h2 h3 => repl_door w v V (.slice p n cap) o2 o3 h2 h3
  have HD := Lib.hid hd
  clear h hno hd hS hl hyes
  go_enter Tryz.func58, Tryz.ntmps58
  go_wp2_with (first
    | (refine wpList_load_row rfl 29 _ rfl w.heap.size rfl 29 (trC v V) (0, 0) _ (HD.out _ _ rfl rfl).1 Tryz.underlying29 rfl (by kernel_rfl) ?_)
    | (go_at_call 52; refine (TM.out _ (by repeat (first | exact Ext.refl _ | apply Ext.alloc | apply Ext.more | apply Ext.drewN))).mono ?_; rintro e w1 ⟨rfl, hx⟩; have HX := Lib.hid ((((Ext.refl w).alloc _).alloc _).alloc _ |>.trans hx); have HB := Lib.hid ((HD.out _ _ rfl rfl).2.2.ext hx); have hcl : w1.cell? ⟨w.heap.size + 1, 0, none⟩ = some (.slice p n cap) := cell_ext (cell_of_row _ _ 0 _ _ _ (HD.out _ _ rfl rfl).2.1) hx; have hg1 := World.block_lt_of_cell? _ _ hcl; clear hx)
    | (go_at_call 78; refine (ML.out _ HX.out).mono ?_; rintro e w2 ⟨rfl, hx⟩; have HX2 := Lib.hid (HX.out.trans hx); have HB2 := Lib.hid (HB.out.ext hx); clear hx)
    | (refine wpList_buildTo rfl 29 #[] rfl _ rfl (trC nilV zeroV) (by kernel_rfl) ?_)
    | (refine wpList_store_rowTo rfl 29 _ _ rfl rfl (w.heap.size + 2) (trC nilV zeroV) rfl rfl 29 (trC nilV zeroV) HB2.out (by kernel_rfl) rfl (by kernel_rfl) ?_))
  exact bodyPost_ret (results_cell_slot (p := 8) (q := 9) (ty := 29) rfl _ _ ⟨w.heap.size + 2, 0, none⟩ _ rfl (tr_load (HB2.out.setRow nilV zeroV)) _ rfl) rfl ⟨rfl, HX2.out.setRow (Nat.le_add_right _ _) _⟩
set_option maxHeartbeats 4000000 in
theorem replace_ok (bs : Nat → Nat) (v : Nat → Value) (T : Nat → List It) (V : Nat → Int) (k : Nat) (hk : k < 16) (ver : Int) (b : Nat) (p : Option Addr) (n cap : Nat) (l : List It) (SB : Nat) (w : World) (hS : SignsAt SB w) (hSB : SB ≤ w.heap.size) (h : LvsAt w bs v T) (hy : LvTy w bs T) (hl : LfAt w b (.slice p n cap) l) (hm : l.length ≤ 1000) (hyes : trunkB T V = true) (hfit : fitsB (k : Int) l ver = true) :
    Calls Tryz.prog 58 #[.agg (trC v V), .int .i64 (k : Int), .slice p n cap, .int .i64 ver] w fun e w' => ∃ bs' v', e = .returned (.tuple #[.agg (trC v' (upd V k ver)), .int .i64 0]) ∧ LvsAt w' bs' v' (upd T k l) ∧ LvTy w' bs' (upd T k l) ∧ Ext w w' := by
  have TM := Lib.hid fun (W : World) (hx : Ext w W) => tmay_any bs v T V SB W (hS.ext hx hSB) (Nat.le_trans hSB hx.size) (h.ext hx)
  have ML := Lib.hid fun (W : World) (hx : Ext w W) => mayleaf_any b (k : Int) (.slice p n cap) l ver SB W (hS.ext hx hSB) (Nat.le_trans hSB hx.size) (hl.ext hx)
  have CH := Lib.hid fun (W : World) (hx : Ext w W) (hq : W.cell? ⟨w.heap.size + 1, 0, none⟩ = some (.slice p n cap)) => change_any bs v T V k hk ver b (.slice p n cap) l (w.heap.size + 1) W (h.ext hx) (fun j hj hl => by obtain ⟨cur, fz, hc⟩ := hy j hj hl; exact ⟨cur, fz, by rw [hx.below.block _ (lt_of_heap hc)]; exact hc⟩) (hl.ext hx) hm hq
  have hmf := mk_func15
  rw [hyes] at TM
  rw [hfit] at ML
  have hkI : (k : Int) < 16 := by omega
  have hk0 : (0 : Int) ≤ (k : Int) := by omega
  have hd := fun o2 o3 h2 h3 => repl_door w v V (.slice p n cap) o2 o3 h2 h3
  have HD := Lib.hid hd
  clear h hfit hd hS hl hyes hy
  go_enter Tryz.func58, Tryz.ntmps58
  go_wp2_with (first
    | (refine wpList_load_row rfl 29 _ rfl w.heap.size rfl 29 (trC v V) (0, 0) _ (HD.out _ _ rfl rfl).1 Tryz.underlying29 rfl (by kernel_rfl) ?_)
    | (go_at_call 52; refine (TM.out _ (by repeat (first | exact Ext.refl _ | apply Ext.alloc | apply Ext.more | apply Ext.drewN))).mono ?_; rintro e w1 ⟨rfl, hx⟩; have HX := Lib.hid ((((Ext.refl w).alloc _).alloc _).alloc _ |>.trans hx); have HB := Lib.hid ((HD.out _ _ rfl rfl).2.2.ext hx); have HA := Lib.hid ((HD.out _ _ rfl rfl).1.ext hx); have hcl : w1.cell? ⟨w.heap.size + 1, 0, none⟩ = some (.slice p n cap) := cell_ext (cell_of_row _ _ 0 _ _ _ (HD.out _ _ rfl rfl).2.1) hx; have hg1 := World.block_lt_of_cell? _ _ hcl; clear hx)
    | (go_at_call 78; refine (ML.out _ HX.out).mono ?_; rintro e w2 ⟨rfl, hx⟩; have HX2 := Lib.hid (HX.out.trans hx); have HB2 := Lib.hid (HB.out.ext hx); have HA2 := Lib.hid (HA.out.ext hx); have hcl2 := cell_ext hcl hx; have CH2 := Lib.hid (CH.out w2 HX2.out hcl2); clear hx)
    | (refine wpList_load_row rfl 29 _ rfl w.heap.size rfl 29 (trC v V) (0, 0) _ HA2.out Tryz.underlying29 rfl (by kernel_rfl) ?_)
    | (go_at_call 83; refine CH2.out.mono ?_; rintro e w3 ⟨bs3, v3, rfl, h3, y3, hx⟩; have HX3 := Lib.hid (HX2.out.trans hx); have HB3 := Lib.hid (HB2.out.ext hx); have HL3 := Lib.hid h3; have HY3 := Lib.hid y3; clear h3 y3 hx)
    | (refine wpList_store_rowTo rfl 29 _ _ rfl rfl (w.heap.size + 2) (trC v3 (upd V k ver)) rfl rfl 29 (trC nilV zeroV) HB3.out (by kernel_rfl) rfl (trC_one _ _ HL3.out.one) ?_))
  have hls := LvsAt.otherRow HL3.out HY3.out HB3.out (trC v3 (upd V k ver))
  exact bodyPost_ret (results_cell_slot (p := 8) (q := 9) (ty := 29) rfl _ _ ⟨w.heap.size + 2, 0, none⟩ _ rfl (tr_load (HB3.out.setRow v3 (upd V k ver))) _ rfl) rfl ⟨_, _, rfl, hls.1, hls.2, HX3.out.setRow (Nat.le_add_right _ _) _⟩
end Go.Proofs.YtpchohjkelopoaaGreatDoor

set_option maxRecDepth 20000
namespace Go.Proofs.YtpchohjkelopoaaGreatDoor
open Go.RowKit
/-- a manifest's cells: version, bytes, keys, the leaves' terms -/
def mfC (a b c : Int) (L : Nat → Int) : Array Value := #[.int .i64 a, .int .i64 b, .int .i64 c, .int .i64 (L 0), .int .i64 (L 1), .int .i64 (L 2), .int .i64 (L 3), .int .i64 (L 4), .int .i64 (L 5), .int .i64 (L 6), .int .i64 (L 7), .int .i64 (L 8), .int .i64 (L 9), .int .i64 (L 10), .int .i64 (L 11), .int .i64 (L 12), .int .i64 (L 13), .int .i64 (L 14), .int .i64 (L 15)]
/-- what came, as cells -/
def gtC (g : Nat → Bool) : Array Value := #[.bool (g 0), .bool (g 1), .bool (g 2), .bool (g 3), .bool (g 4), .bool (g 5), .bool (g 6), .bool (g 7), .bool (g 8), .bool (g 9), .bool (g 10), .bool (g 11), .bool (g 12), .bool (g 13), .bool (g 14), .bool (g 15)]
/-- a crate's cells -/
def crC (a b c : Int) (L : Nat → Int) (g : Nat → Bool) (v : Nat → Value) (V : Nat → Int) : Array Value := #[.int .i64 a, .int .i64 b, .int .i64 c, .int .i64 (L 0), .int .i64 (L 1), .int .i64 (L 2), .int .i64 (L 3), .int .i64 (L 4), .int .i64 (L 5), .int .i64 (L 6), .int .i64 (L 7), .int .i64 (L 8), .int .i64 (L 9), .int .i64 (L 10), .int .i64 (L 11), .int .i64 (L 12), .int .i64 (L 13), .int .i64 (L 14), .int .i64 (L 15), .bool (g 0), .bool (g 1), .bool (g 2), .bool (g 3), .bool (g 4), .bool (g 5), .bool (g 6), .bool (g 7), .bool (g 8), .bool (g 9), .bool (g 10), .bool (g 11), .bool (g 12), .bool (g 13), .bool (g 14), .bool (g 15), v 0, v 1, v 2, v 3, v 4, v 5, v 6, v 7, v 8, v 9, v 10, v 11, v 12, v 13, v 14, v 15, .int .i64 (V 0), .int .i64 (V 1), .int .i64 (V 2), .int .i64 (V 3), .int .i64 (V 4), .int .i64 (V 5), .int .i64 (V 6), .int .i64 (V 7), .int .i64 (V 8), .int .i64 (V 9), .int .i64 (V 10), .int .i64 (V 11), .int .i64 (V 12), .int .i64 (V 13), .int .i64 (V 14), .int .i64 (V 15)]
theorem crC_eq (a b c : Int) (L : Nat → Int) (g : Nat → Bool) (v : Nat → Value) (V : Nat → Int) : crC a b c L g v V = mfC a b c L ++ gtC g ++ trC v V := by kernel_rfl
theorem mfC_get (a b c : Int) (L : Nat → Int) (k : Nat) (hk : k < 16) : (mfC a b c L)[3 + k]? = some (.int .i64 (L k)) := by
  match k, hk with
  | 0, _ => rfl
  | 1, _ => rfl
  | 2, _ => rfl
  | 3, _ => rfl
  | 4, _ => rfl
  | 5, _ => rfl
  | 6, _ => rfl
  | 7, _ => rfl
  | 8, _ => rfl
  | 9, _ => rfl
  | 10, _ => rfl
  | 11, _ => rfl
  | 12, _ => rfl
  | 13, _ => rfl
  | 14, _ => rfl
  | 15, _ => rfl
  | k + 16, h => exact absurd h (by omega)
theorem gtC_get (g : Nat → Bool) (k : Nat) (hk : k < 16) : (gtC g)[k]? = some (.bool (g k)) := by
  match k, hk with
  | 0, _ => rfl
  | 1, _ => rfl
  | 2, _ => rfl
  | 3, _ => rfl
  | 4, _ => rfl
  | 5, _ => rfl
  | 6, _ => rfl
  | 7, _ => rfl
  | 8, _ => rfl
  | 9, _ => rfl
  | 10, _ => rfl
  | 11, _ => rfl
  | 12, _ => rfl
  | 13, _ => rfl
  | 14, _ => rfl
  | 15, _ => rfl
  | k + 16, h => exact absurd h (by omega)
end Go.Proofs.YtpchohjkelopoaaGreatDoor

set_option maxRecDepth 20000
namespace Go.Proofs.YtpchohjkelopoaaGreatDoor
open Go.RowKit
theorem mfC_set (a b c : Int) (L : Nat → Int) (k : Nat) (hk : k < 16) (z : Int) : (mfC a b c L).setIfInBounds (3 + k) (.int .i64 z) = mfC a b c (upd L k z) := by
  match k, hk with
  | 0, _ => rfl
  | 1, _ => rfl
  | 2, _ => rfl
  | 3, _ => rfl
  | 4, _ => rfl
  | 5, _ => rfl
  | 6, _ => rfl
  | 7, _ => rfl
  | 8, _ => rfl
  | 9, _ => rfl
  | 10, _ => rfl
  | 11, _ => rfl
  | 12, _ => rfl
  | 13, _ => rfl
  | 14, _ => rfl
  | 15, _ => rfl
  | k + 16, h => exact absurd h (by omega)
theorem crC_setG (a b c : Int) (L : Nat → Int) (g : Nat → Bool) (v : Nat → Value) (V : Nat → Int) (k : Nat) (hk : k < 16) (z : Bool) : (crC a b c L g v V).setIfInBounds (19 + k) (.bool z) = crC a b c L (upd g k z) v V := by
  match k, hk with
  | 0, _ => rfl
  | 1, _ => rfl
  | 2, _ => rfl
  | 3, _ => rfl
  | 4, _ => rfl
  | 5, _ => rfl
  | 6, _ => rfl
  | 7, _ => rfl
  | 8, _ => rfl
  | 9, _ => rfl
  | 10, _ => rfl
  | 11, _ => rfl
  | 12, _ => rfl
  | 13, _ => rfl
  | 14, _ => rfl
  | 15, _ => rfl
  | k + 16, h => exact absurd h (by omega)
theorem crC_setLeaf (a b c : Int) (L : Nat → Int) (g : Nat → Bool) (v : Nat → Value) (V : Nat → Int) (k : Nat) (hk : k < 16) (z : Value) : (crC a b c L g v V).setIfInBounds (35 + k) z = crC a b c L g (upd v k z) V := by
  match k, hk with
  | 0, _ => rfl
  | 1, _ => rfl
  | 2, _ => rfl
  | 3, _ => rfl
  | 4, _ => rfl
  | 5, _ => rfl
  | 6, _ => rfl
  | 7, _ => rfl
  | 8, _ => rfl
  | 9, _ => rfl
  | 10, _ => rfl
  | 11, _ => rfl
  | 12, _ => rfl
  | 13, _ => rfl
  | 14, _ => rfl
  | 15, _ => rfl
  | k + 16, h => exact absurd h (by omega)
theorem crC_setVer (a b c : Int) (L : Nat → Int) (g : Nat → Bool) (v : Nat → Value) (V : Nat → Int) (k : Nat) (hk : k < 16) (z : Int) : (crC a b c L g v V).setIfInBounds (51 + k) (.int .i64 z) = crC a b c L g v (upd V k z) := by
  match k, hk with
  | 0, _ => rfl
  | 1, _ => rfl
  | 2, _ => rfl
  | 3, _ => rfl
  | 4, _ => rfl
  | 5, _ => rfl
  | 6, _ => rfl
  | 7, _ => rfl
  | 8, _ => rfl
  | 9, _ => rfl
  | 10, _ => rfl
  | 11, _ => rfl
  | 12, _ => rfl
  | 13, _ => rfl
  | 14, _ => rfl
  | 15, _ => rfl
  | k + 16, h => exact absurd h (by omega)
theorem crC_getL (a b c : Int) (L : Nat → Int) (g : Nat → Bool) (v : Nat → Value) (V : Nat → Int) (k : Nat) (hk : k < 16) : (crC a b c L g v V)[3 + k]? = some (.int .i64 (L k)) := by
  match k, hk with
  | 0, _ => rfl
  | 1, _ => rfl
  | 2, _ => rfl
  | 3, _ => rfl
  | 4, _ => rfl
  | 5, _ => rfl
  | 6, _ => rfl
  | 7, _ => rfl
  | 8, _ => rfl
  | 9, _ => rfl
  | 10, _ => rfl
  | 11, _ => rfl
  | 12, _ => rfl
  | 13, _ => rfl
  | 14, _ => rfl
  | 15, _ => rfl
  | k + 16, h => exact absurd h (by omega)
theorem crC_getG (a b c : Int) (L : Nat → Int) (g : Nat → Bool) (v : Nat → Value) (V : Nat → Int) (k : Nat) (hk : k < 16) : (crC a b c L g v V)[19 + k]? = some (.bool (g k)) := by
  match k, hk with
  | 0, _ => rfl
  | 1, _ => rfl
  | 2, _ => rfl
  | 3, _ => rfl
  | 4, _ => rfl
  | 5, _ => rfl
  | 6, _ => rfl
  | 7, _ => rfl
  | 8, _ => rfl
  | 9, _ => rfl
  | 10, _ => rfl
  | 11, _ => rfl
  | 12, _ => rfl
  | 13, _ => rfl
  | 14, _ => rfl
  | 15, _ => rfl
  | k + 16, h => exact absurd h (by omega)
theorem crC_getLeaf (a b c : Int) (L : Nat → Int) (g : Nat → Bool) (v : Nat → Value) (V : Nat → Int) (k : Nat) (hk : k < 16) : (crC a b c L g v V)[35 + k]? = some (v k) := by
  match k, hk with
  | 0, _ => rfl
  | 1, _ => rfl
  | 2, _ => rfl
  | 3, _ => rfl
  | 4, _ => rfl
  | 5, _ => rfl
  | 6, _ => rfl
  | 7, _ => rfl
  | 8, _ => rfl
  | 9, _ => rfl
  | 10, _ => rfl
  | 11, _ => rfl
  | 12, _ => rfl
  | 13, _ => rfl
  | 14, _ => rfl
  | 15, _ => rfl
  | k + 16, h => exact absurd h (by omega)
theorem crC_getVer (a b c : Int) (L : Nat → Int) (g : Nat → Bool) (v : Nat → Value) (V : Nat → Int) (k : Nat) (hk : k < 16) : (crC a b c L g v V)[51 + k]? = some (.int .i64 (V k)) := by
  match k, hk with
  | 0, _ => rfl
  | 1, _ => rfl
  | 2, _ => rfl
  | 3, _ => rfl
  | 4, _ => rfl
  | 5, _ => rfl
  | 6, _ => rfl
  | 7, _ => rfl
  | 8, _ => rfl
  | 9, _ => rfl
  | 10, _ => rfl
  | 11, _ => rfl
  | 12, _ => rfl
  | 13, _ => rfl
  | 14, _ => rfl
  | 15, _ => rfl
  | k + 16, h => exact absurd h (by omega)
theorem crC_tr (a b c : Int) (L : Nat → Int) (g : Nat → Bool) (v : Nat → Value) (V : Nat → Int) : ∀ j u, (trC v V).toList[j]? = some u → (crC a b c L g v V)[35 + j]? = some u := by
  intro j u h
  have hs : (mfC a b c L ++ gtC g).size = 35 := by kernel_rfl
  rw [crC_eq, Array.getElem?_append, hs, if_neg (by omega), Nat.add_sub_cancel_left, ← Array.getElem?_toList]; exact h
theorem crC_mf (a b c : Int) (L : Nat → Int) (g : Nat → Bool) (v : Nat → Value) (V : Nat → Int) : ∀ j u, (mfC a b c L).toList[j]? = some u → (crC a b c L g v V)[0 + j]? = some u := by
  intro j u h
  have hs : (mfC a b c L).size = 19 := by kernel_rfl
  have hj := (List.getElem?_eq_some_iff.1 h).1
  rw [Array.length_toList, hs] at hj
  rw [Array.getElem?_toList] at h
  rw [crC_eq, Array.append_assoc, Array.getElem?_append, hs, if_pos (by omega), Nat.zero_add]; exact h
theorem crC_gt (a b c : Int) (L : Nat → Int) (g : Nat → Bool) (v : Nat → Value) (V : Nat → Int) : ∀ j u, (gtC g).toList[j]? = some u → (crC a b c L g v V)[19 + j]? = some u := by
  intro j u h
  have hs : (mfC a b c L ++ gtC g).size = 35 := by kernel_rfl
  have hs1 : (mfC a b c L).size = 19 := by kernel_rfl
  have hs2 : (gtC g).size = 16 := by kernel_rfl
  have hj := (List.getElem?_eq_some_iff.1 h).1
  rw [Array.length_toList, hs2] at hj
  rw [Array.getElem?_toList] at h
  rw [crC_eq, Array.getElem?_append, hs, if_pos (by omega), Array.getElem?_append, hs1, if_neg (by omega), Nat.add_sub_cancel_left]; exact h
theorem putC_cr (a b c : Int) (L : Nat → Int) (g : Nat → Bool) (v v' : Nat → Value) (V V' : Nat → Int) : putC (crC a b c L g v V) 35 (trC v' V').toList = crC a b c L g v' V' := by kernel_rfl
/-- a manifest's block -/
def MfBlk (w : World) (N : Nat) (a b c : Int) (L : Nat → Int) : Prop := w.heap[N]? = some (.cells (mfC a b c L) 25 (0, 0))
theorem MfBlk.ext {w w' : World} {N : Nat} {a b c : Int} {L : Nat → Int} (h : MfBlk w N a b c L) (hx : Ext w w') : MfBlk w' N a b c L := by
  unfold MfBlk at h ⊢
  rw [hx.below.block N (lt_of_heap h)]; exact h
theorem MfBlk.cell {w : World} {N : Nat} {a b c : Int} {L : Nat → Int} (h : MfBlk w N a b c L) (j : Nat) : w.cell? ⟨N, j, none⟩ = (mfC a b c L)[j]? := cell_of_row w N j _ _ _ h
theorem MfBlk.frozen {w : World} {N : Nat} {a b c : Int} {L : Nat → Int} (h : MfBlk w N a b c L) (j : Nat) : w.frozen? ⟨N, j, none⟩ = false := by
  unfold MfBlk at h
  simp [World.frozen?, h]
theorem MfBlk.set {w : World} {N : Nat} {a b c : Int} {L : Nat → Int} (h : MfBlk w N a b c L) (k : Nat) (hk : k < 16) (z : Int) : MfBlk (w.setCell ⟨N, 3 + k, none⟩ (.int .i64 z)) N a b c (upd L k z) := by
  unfold MfBlk at h ⊢
  rw [← mfC_set a b c L k hk z]
  simp [World.setCell, Array.getElem?_modify, h]
theorem MfBlk.setRow {w : World} {N : Nat} {a b c : Int} {L : Nat → Int} (h : MfBlk w N a b c L) (a' b' c' : Int) (L' : Nat → Int) : MfBlk (w.setRow N (mfC a' b' c' L')) N a' b' c' L' := setRow_heap w N _ _ _ _ h
theorem MfBlk.otherRow {w : World} {N M : Nat} {a b c : Int} {L : Nat → Int} (h : MfBlk w N a b c L) (hne : N ≠ M) (x : Array Value) : MfBlk (w.setRow M x) N a b c L := by
  unfold MfBlk at h ⊢
  rw [setRow_other _ _ _ _ hne]; exact h
theorem MfBlk.other {w : World} {N M i : Nat} {a b c : Int} {L : Nat → Int} (h : MfBlk w N a b c L) (hne : N ≠ M) (x : Value) : MfBlk (w.setCell ⟨M, i, none⟩ x) N a b c L := by
  unfold MfBlk at h ⊢
  rw [Go.Deep.blk_setCell_other _ _ _ _ hne]; exact h
theorem mf_load {w : World} {N : Nat} {a b c : Int} {L : Nat → Int} (h : MfBlk w N a b c L) : (loadVar 25 ⟨N, 0, none⟩).run Tryz.prog w = .ok (.agg (mfC a b c L)) w :=
  run_loadVar_row w N 25 25 (mfC a b c L) (0, 0) _ h Tryz.underlying25 rfl (by kernel_rfl)
theorem mfC_one (a b c : Int) (L : Nat → Int) : (mfC a b c L).all (·.oneCell') = true := by kernel_rfl
theorem gtC_one (g : Nat → Bool) : (gtC g).all (·.oneCell') = true := by kernel_rfl
/-- a crate's block -/
def CrBlk (w : World) (N : Nat) (a b c : Int) (L : Nat → Int) (g : Nat → Bool) (v : Nat → Value) (V : Nat → Int) : Prop := w.heap[N]? = some (.cells (crC a b c L g v V) 39 (0, 0))
theorem CrBlk.ext {w w' : World} {N : Nat} {a b c : Int} {L : Nat → Int} {g : Nat → Bool} {v : Nat → Value} {V : Nat → Int} (h : CrBlk w N a b c L g v V) (hx : Ext w w') : CrBlk w' N a b c L g v V := by
  unfold CrBlk at h ⊢
  rw [hx.below.block N (lt_of_heap h)]; exact h
theorem CrBlk.cell {w : World} {N : Nat} {a b c : Int} {L : Nat → Int} {g : Nat → Bool} {v : Nat → Value} {V : Nat → Int} (h : CrBlk w N a b c L g v V) (j : Nat) : w.cell? ⟨N, j, none⟩ = (crC a b c L g v V)[j]? := cell_of_row w N j _ _ _ h
theorem CrBlk.cellL {w : World} {N : Nat} {a b c : Int} {L : Nat → Int} {g : Nat → Bool} {v : Nat → Value} {V : Nat → Int} (h : CrBlk w N a b c L g v V) (k : Nat) (hk : k < 16) : w.cell? ⟨N, 3 + k, none⟩ = some (.int .i64 (L k)) := by rw [h.cell, crC_getL _ _ _ _ _ _ _ k hk]
theorem CrBlk.cellG {w : World} {N : Nat} {a b c : Int} {L : Nat → Int} {g : Nat → Bool} {v : Nat → Value} {V : Nat → Int} (h : CrBlk w N a b c L g v V) (k : Nat) (hk : k < 16) : w.cell? ⟨N, 19 + k, none⟩ = some (.bool (g k)) := by rw [h.cell, crC_getG _ _ _ _ _ _ _ k hk]
theorem CrBlk.cellLeaf {w : World} {N : Nat} {a b c : Int} {L : Nat → Int} {g : Nat → Bool} {v : Nat → Value} {V : Nat → Int} (h : CrBlk w N a b c L g v V) (k : Nat) (hk : k < 16) : w.cell? ⟨N, 35 + k, none⟩ = some (v k) := by rw [h.cell, crC_getLeaf _ _ _ _ _ _ _ k hk]
theorem CrBlk.cellVer {w : World} {N : Nat} {a b c : Int} {L : Nat → Int} {g : Nat → Bool} {v : Nat → Value} {V : Nat → Int} (h : CrBlk w N a b c L g v V) (k : Nat) (hk : k < 16) : w.cell? ⟨N, 51 + k, none⟩ = some (.int .i64 (V k)) := by rw [h.cell, crC_getVer _ _ _ _ _ _ _ k hk]
theorem CrBlk.frozen {w : World} {N : Nat} {a b c : Int} {L : Nat → Int} {g : Nat → Bool} {v : Nat → Value} {V : Nat → Int} (h : CrBlk w N a b c L g v V) (j : Nat) : w.frozen? ⟨N, j, none⟩ = false := by
  unfold CrBlk at h
  simp [World.frozen?, h]
theorem CrBlk.setG {w : World} {N : Nat} {a b c : Int} {L : Nat → Int} {g : Nat → Bool} {v : Nat → Value} {V : Nat → Int} (h : CrBlk w N a b c L g v V) (k : Nat) (hk : k < 16) (z : Bool) : CrBlk (w.setCell ⟨N, 19 + k, none⟩ (.bool z)) N a b c L (upd g k z) v V := by
  unfold CrBlk at h ⊢
  rw [← crC_setG a b c L g v V k hk z]
  simp [World.setCell, Array.getElem?_modify, h]
theorem CrBlk.setLeaf {w : World} {N : Nat} {a b c : Int} {L : Nat → Int} {g : Nat → Bool} {v : Nat → Value} {V : Nat → Int} (h : CrBlk w N a b c L g v V) (k : Nat) (hk : k < 16) (z : Value) : CrBlk (w.setCell ⟨N, 35 + k, none⟩ z) N a b c L g (upd v k z) V := by
  unfold CrBlk at h ⊢
  rw [← crC_setLeaf a b c L g v V k hk z]
  simp [World.setCell, Array.getElem?_modify, h]
theorem CrBlk.setVer {w : World} {N : Nat} {a b c : Int} {L : Nat → Int} {g : Nat → Bool} {v : Nat → Value} {V : Nat → Int} (h : CrBlk w N a b c L g v V) (k : Nat) (hk : k < 16) (z : Int) : CrBlk (w.setCell ⟨N, 51 + k, none⟩ (.int .i64 z)) N a b c L g v (upd V k z) := by
  unfold CrBlk at h ⊢
  rw [← crC_setVer a b c L g v V k hk z]
  simp [World.setCell, Array.getElem?_modify, h]
theorem CrBlk.setRow {w : World} {N : Nat} {a b c : Int} {L : Nat → Int} {g : Nat → Bool} {v : Nat → Value} {V : Nat → Int} (h : CrBlk w N a b c L g v V) (a' b' c' : Int) (L' : Nat → Int) (g' : Nat → Bool) (v' : Nat → Value) (V' : Nat → Int) : CrBlk (w.setRow N (crC a' b' c' L' g' v' V')) N a' b' c' L' g' v' V' := setRow_heap w N _ _ _ _ h
theorem CrBlk.otherRow {w : World} {N M : Nat} {a b c : Int} {L : Nat → Int} {g : Nat → Bool} {v : Nat → Value} {V : Nat → Int} (h : CrBlk w N a b c L g v V) (hne : N ≠ M) (x : Array Value) : CrBlk (w.setRow M x) N a b c L g v V := by
  unfold CrBlk at h ⊢
  rw [setRow_other _ _ _ _ hne]; exact h
theorem CrBlk.other {w : World} {N M i : Nat} {a b c : Int} {L : Nat → Int} {g : Nat → Bool} {v : Nat → Value} {V : Nat → Int} (h : CrBlk w N a b c L g v V) (hne : N ≠ M) (x : Value) : CrBlk (w.setCell ⟨M, i, none⟩ x) N a b c L g v V := by
  unfold CrBlk at h ⊢
  rw [Go.Deep.blk_setCell_other _ _ _ _ hne]; exact h
theorem CrBlk.there {w : World} {N : Nat} {a b c : Int} {L : Nat → Int} {g : Nat → Bool} {v : Nat → Value} {V : Nat → Int} (h : CrBlk w N a b c L g v V) (o n : Nat) (hn : o + n ≤ 67) : w.there N o n := by
  intro j hj
  refine ⟨?_, h.frozen _⟩
  rw [h.cell]
  have : o + j < (crC a b c L g v V).size := Nat.lt_of_lt_of_le (Nat.add_lt_add_left hj o) (Nat.le_trans hn (Nat.le_refl 67))
  rw [Array.getElem?_eq_getElem this]; rfl
theorem cr_load {w : World} {N : Nat} {a b c : Int} {L : Nat → Int} {g : Nat → Bool} {v : Nat → Value} {V : Nat → Int} (h : CrBlk w N a b c L g v V) : (loadVar 39 ⟨N, 0, none⟩).run Tryz.prog w = .ok (.agg (crC a b c L g v V)) w :=
  run_loadVar_row w N 39 39 (crC a b c L g v V) (0, 0) _ h Tryz.underlying39 rfl (by kernel_rfl)
theorem crC_one (a b c : Int) (L : Nat → Int) (g : Nat → Bool) (v : Nat → Value) (V : Nat → Int) (h : ∀ k, k < 16 → (v k).oneCell' = true) : (crC a b c L g v V).all (·.oneCell') = true := by
  rw [crC_eq, Array.all_append, Array.all_append, trC_one v V h, mfC_one, gtC_one]; rfl
def noG : Nat → Bool := fun _ => false
end Go.Proofs.YtpchohjkelopoaaGreatDoor

set_option maxRecDepth 20000
namespace Go.Proofs.YtpchohjkelopoaaGreatDoor
open Go.RowKit
attribute [go_sem] more_more Array.size_append
theorem grown_cellw (w : World) (M i : Nat) (x : Value) : w.grownBy (w.setCell ⟨M, i, none⟩ x) (some M) := ⟨rfl, rfl, rfl, by simp [World.setCell], fun j hj hn => Go.Deep.blk_setCell_other _ _ _ _ (fun e => hn (by rw [e]))⟩
theorem grown_row (w : World) (M : Nat) (x : Array Value) : w.grownBy (w.setRow M x) (some M) := ⟨rfl, rfl, rfl, by simp [World.setRow], fun j hj hn => setRow_other _ _ _ _ (fun e => hn (by rw [e]))⟩
/-- a table stays behind a write into another block -/
theorem tab_after {B bt bm : Nat} {tv0 tv : Value} {l : List ByteArray} {w0 w w' : World} {M : Nat} (ht : TabAt B bt bm tv l w) (hs : TabStep bt bm tv0 w0 tv w) (hg : w.grownBy w' (some M)) (hM : w0.heap.size ≤ M) {cur : Array Value} {T : TypeId} {fz : Nat × Nat} (hb : w.heap[M]? = some (.cells cur T fz)) (h1 : T ≠ 132) (h2 : T ≠ 9) :
    TabAt B bt bm tv l w' ∧ TabStep bt bm tv0 w0 tv w' :=
  ⟨tab_grown ht hg (fun k hk => by obtain rfl := Option.some.inj hk; exact tab_other ht hb h1 h2), hs.grown hg (fun k hk => by obtain rfl := Option.some.inj hk; exact hM)⟩
/-- numbers, by their places -/
def nsF (ns : List Int) : Nat → Int := fun j => match ns[j]? with | some z => z | none => 0
theorem nsF_nil : nsF [] = zeroV := by funext j; simp [nsF, zeroV]
theorem nsF_snoc {ns : List Int} {k : Nat} (hk : ns.length = k) (z : Int) : nsF (ns ++ [z]) = upd (nsF ns) k z := by
  funext j
  unfold nsF upd
  by_cases h : j = k
  · rw [if_pos h, h, ← hk]; simp
  · rw [if_neg h]
    by_cases h2 : j < k
    · rw [List.getElem?_append_left (by omega)]
    · have e1 : (ns ++ [z])[j]? = none := List.getElem?_eq_none (by simp; omega)
      have e2 : ns[j]? = none := List.getElem?_eq_none (by omega)
      simp only [e1, e2]
/-- a manifest -/
structure Mf where
  a : Int
  b : Int
  c : Int
  L : Nat → Int
def Mf.cells (m : Mf) : Array Value := mfC m.a m.b m.c m.L
def Mf.none : Mf := ⟨0, 0, 0, zeroV⟩
def maniF (l : List ByteArray) (T : Nat → List It) (V : Nat → Int) (a b c : Int) : List ByteArray × Mf × Int :=
  if (leavesT T V (List.range 16) l).2.2 ≠ 0 then ((leavesT T V (List.range 16) l).1, Mf.none, (leavesT T V (List.range 16) l).2.2)
  else ((leavesT T V (List.range 16) l).1, ⟨a, b, c, nsF (leavesT T V (List.range 16) l).2.1⟩, 0)
/-- what parcel.Of hands back -/
def ManiPost (B bt bm : Nat) (tv : Value) (r : List ByteArray × Mf × Int) (w : World) (e : Ending) (w' : World) : Prop :=
  ∃ tv', e = .returned (.tuple #[.agg r.2.1.cells, .int .i64 r.2.2]) ∧ TabAt B bt bm tv' r.1 w' ∧ TabStep bt bm tv w tv' w'
theorem st_lv (v : Nat → Value) (V : Nat → Int) (a b c : Int) : ∀ j u, (lvL v)[j]? = some u → (stC v V a b c)[0 + j]? = some u := fun j u h => by
  have h1 := lvL_get v V j u h
  rw [Nat.zero_add] at h1
  exact stC_tr v V a b c j u (by rw [Array.getElem?_toList]; exact h1)
theorem pof_door (w : World) (v : Nat → Value) (V : Nat → Int) (a b c : Int) (o2 : Obj) (h2 : o2 = .cells (mfC 0 0 0 zeroV) 25) :
    StBlk ((w.alloc (.cells (stC v V a b c) 56)).alloc o2) w.heap.size v V a b c ∧ MfBlk ((w.alloc (.cells (stC v V a b c) 56)).alloc o2) (w.heap.size + 1) 0 0 0 zeroV := by
  subst h2
  refine ⟨(heap_alloc_old _ _ (by simp)).trans (heap_alloc_new w _), ?_⟩
  have := heap_alloc_new (w.alloc (.cells (stC v V a b c) 56)) (.cells (mfC 0 0 0 zeroV) 25)
  rw [World.size_alloc] at this
  exact this
set_option maxHeartbeats 4000000 in
theorem pof_any (B bt bm : Nat) (tv : Value) (l : List ByteArray) (bs : Nat → Nat) (v : Nat → Value) (T : Nat → List It) (V : Nat → Int) (a b c : Int) (SB PB : Nat) (w : World) (hT : TabAt B bt bm tv l w) (hS : SignsAt SB w) (hSB : SB ≤ B) (hP : Pow10 PB w) (hPB : PB ≤ B)
    (h : LvsAt w bs v T) (hy : LvTy w bs T) (hyes : storeB T V a b c = true) (hll : l.length ≤ 800) (r : List ByteArray × Mf × Int) (hr : maniF l T V a b c = r) :
    Calls Tryz.prog 25 #[.pointer (some ⟨bt, 0, none⟩), .agg (stC v V a b c)] w (ManiPost B bt bm tv r w) := by
  have hBw : B ≤ w.heap.size := by have h1 := hT.cells; obtain ⟨a1, _⟩ := hT; omega
  have SM := Lib.hid fun (W : World) (hx : Ext w W) => stmay_any bs v T V a b c SB W (hS.ext hx (Nat.le_trans hSB hBw)) (Nat.le_trans (Nat.le_trans hSB hBw) hx.size) (h.ext hx)
  rw [hyes] at SM
  have htr : trunkB T V = true := by
    unfold storeB at hyes
    simp only [Bool.and_eq_true] at hyes
    exact hyes.1.1.1.1.1.1
  obtain ⟨q, hq⟩ : ∃ q, leavesT T V (List.range 16) l = q := ⟨_, rfl⟩
  unfold maniF at hr
  rw [hq] at hr
  have hd := fun o2 h2 => pof_door w v V a b c o2 h2
  have HD := Lib.hid hd
  have HQ := Lib.hid hq
  have HR := Lib.hid hr
  have HT := Lib.hid hT
  have HS := Lib.hid hS
  have HP := Lib.hid hP
  have HL := Lib.hid h
  have HY := Lib.hid hy
  have HYES := Lib.hid htr
  clear h hy hyes hq hr hT hS hP hd htr
  go_enter Tryz.func25, Tryz.ntmps25
  go_wp2_with (first
    | (refine wpList_load_row rfl 56 _ rfl w.heap.size rfl 56 (stC v V a b c) (0, 0) _ (HD.out _ rfl).1 Tryz.underlying56 rfl (by kernel_rfl) ?_)
    | (go_at_call 60; refine (SM.out _ (by repeat (first | exact Ext.refl _ | apply Ext.alloc | apply Ext.more | apply Ext.drewN))).mono ?_; rintro e w1 ⟨rfl, hx⟩; have HX := Lib.hid (((Ext.refl w).alloc _).alloc _ |>.trans hx); have HA := Lib.hid ((HD.out _ rfl).1.ext hx); have HB := Lib.hid ((HD.out _ rfl).2.ext hx); obtain ⟨ca, cb, cc⟩ := HA.out.tail; have hwz := lt_of_heap HA.out; clear hx)
    | (refine wpList_buildTo rfl 25 _ rfl _ rfl (mfC a b c zeroV) (by kernel_rfl) ?_)
    | (refine wpList_store_rowTo rfl 25 _ _ rfl rfl w1.heap.size (mfC a b c zeroV) rfl rfl 25 (mfC 0 0 0 zeroV) (heap_alloc_new w1 _) (by kernel_rfl) rfl (mfC_one _ _ _ _) ?_)
    | (refine wpList_load_part rfl 27 _ rfl w.heap.size 0 rfl 56 (stC v V a b c) (lvL v) (0, 0) _ (HA.out.ext (((Ext.refl w1).alloc _).setRow (Nat.le_refl _) _)) Tryz.underlying27 rfl (by kernel_rfl) (st_lv v V a b c) ?_))
  obtain ⟨N, hN⟩ : ∃ N, w.heap.size = N := ⟨_, rfl⟩
  obtain ⟨M, hM⟩ : ∃ M, w1.heap.size = M := ⟨_, rfl⟩
  have HN := Lib.hid hN
  have HM := Lib.hid hM
  have hNM : N + 1 < M := by have := lt_of_heap HB.out; omega
  go_loopw [25] (fun ii wr => ∃ (k : Nat) (lk : List ByteArray) (tvk : Value) (ns : List Int), ii = .int .i64 (k : Int) ∧ k ≤ 16 ∧ Hid (TabAt B bt bm tvk lk wr ∧ TabStep bt bm tv w tvk wr ∧ StBlk wr N v V a b c ∧ MfBlk wr (N + 1) 0 0 0 zeroV ∧ MfBlk wr M a b c (nsF ns) ∧ ns.length = k ∧ (∀ z ∈ ns, 0 ≤ z ∧ z ≤ 1000) ∧ lk.length ≤ l.length + 9 * k ∧ preT ns (leavesT T V ((List.range 16).drop k) lk) = q)) (fun ii _ => 16 - (intOf ii).toNat)
  case atStart =>
    have hx1 := (Ext.refl w1).alloc (.cells (mfC 0 0 0 zeroV) 25)
    have hx2 := hx1.setRow (g := w1.heap.size) (Nat.le_refl _) (mfC a b c zeroV)
    have hm := MfBlk.setRow (heap_alloc_new w1 (.cells (mfC 0 0 0 zeroV) 25)) a b c zeroV
    refine ⟨0, l, tv, [], rfl, Nat.zero_le _, Lib.hid ⟨HT.out.ext (HX.out.trans hx2), (TabStep.refl bt bm tv w).ext (HX.out.trans hx2), ?_, ?_, ?_, rfl, by simp, by omega, by rw [List.drop_zero, ← preL_nil]; exact HQ.out⟩⟩
    · rw [← hN]; exact HA.out.ext hx2
    · rw [← hN]; exact HB.out.ext hx2
    · rw [← hM, nsF_nil]; exact hm
  case round =>
    obtain ⟨k, lk, tvk, ns, rfl, hk16, hH⟩ := hrel
    rw [hN, hM]
    clear hN hM
    have hbl := hH.out.2.1.below HT.out
    have hkI2 : (k : Int) ≤ 16 := by omega
    have hB3 := hH.out.2.2.2.1
    by_cases hk : k < 16
    · have hcv := hH.out.2.2.1.ver k hk
      have hNw : N < wr.heap.size := lt_of_heap hH.out.2.2.1
      have hix := fun W => idx_lv v k hk W
      have hkI : (k : Int) < 16 := by omega
      have hk0 : (0 : Int) ≤ (k : Int) := by omega
      obtain ⟨ro, hro⟩ : ∃ ro, leafT lk (T k) (V k) = ro := ⟨_, rfl⟩
      obtain ⟨fl, f0, f1⟩ := fits_parts (trunk_fits HYES.out k hk)
      have LC := Lib.hid (rleaf_any B bt bm tvk lk (bs k) (v k) (T k) (V k) SB PB wr hH.out.1 (HS.out.below hbl hSB) hSB (HP.out.below hbl hPB) hPB (lf_tab HT.out hH.out.2.1.1 HL.out HY.out hk) fl f0 f1 ro hro)
      have hbd := leafT_len lk (T k) (V k) (leafB_may fl).1
      rw [hro] at hbd
      have HRO := Lib.hid hro
      have HBD := Lib.hid hbd
      obtain ⟨l3, n3, e3⟩ := ro
      dsimp only at hbd
      have hn3 : (n3 : Int) ≤ 1000 := by have := hH.out.2.2.2.2.2.2.2.1; omega
      clear hro hbd fl f0 f1 hbl hB3
      by_cases he : e3 = 0
      case neg =>
        have he' : (e3 != 0) = true := by simpa using he
        have hre : r = (l3, Mf.none, e3) := by
          have h1 := hH.out.2.2.2.2.2.2.2.2
          rw [drop_range k hk, preL_err (by rw [HRO.out]; exact he), HRO.out] at h1
          have h2 := HR.out
          rw [← h1] at h2
          simp only [ne_eq, he, not_false_eq_true, if_true] at h2
          exact h2.symm
        have HRE := Lib.hid hre
        clear he hre
        go_wp2_with (first
          | (go_at_call 34; refine (LC.out).mono ?_; rintro e w3 ⟨rfl, tv3, ht3, hk3, ho3⟩; have H3 := Lib.hid (And.intro ht3 (And.intro hk3 ho3)); have HB3 : Hid (MfBlk w3 (N + 1) 0 0 0 zeroV) := Lib.hid (by unfold MfBlk; rw [kept_ty hH.out.1 hk3 hH.out.2.2.2.1 (by decide) (by decide)]; exact hH.out.2.2.2.1); clear ht3 hk3 ho3)
          | (refine wpList_buildTo rfl 25 #[] rfl _ rfl (mfC 0 0 0 zeroV) (by kernel_rfl) ?_)
          | (refine wpList_store_rowTo rfl 25 _ _ rfl rfl (N + 1) (mfC 0 0 0 zeroV) rfl rfl 25 (mfC 0 0 0 zeroV) HB3.out (by kernel_rfl) rfl (mfC_one _ _ _ _) ?_))
        rw [HRE.out]
        have hta := tab_after H3.out.1 (hH.out.2.1.trans ⟨H3.out.2.1, H3.out.2.2⟩) (grown_row w3 (N + 1) (mfC 0 0 0 zeroV)) (by rw [HN.out]; exact Nat.le_succ _) HB3.out (by decide) (by decide)
        exact bodyPost_ret (results_cell_slot (p := 4) (q := 5) (ty := 25) rfl _ _ ⟨N + 1, 0, none⟩ _ rfl (mf_load (HB3.out.setRow 0 0 0 zeroV)) _ rfl) rfl ⟨tv3, rfl, hta⟩
      subst he
      go_wp2_with (go_at_call 34; refine (LC.out).mono ?_; rintro e w3 ⟨rfl, tv3, ht3, hk3, ho3⟩; have H3 := Lib.hid (And.intro ht3 (And.intro hk3 ho3)); have HKT := Lib.hid (fun (g : Nat) (cur : Array Value) (ty : TypeId) (fz : Nat × Nat) (hb : wr.heap[g]? = some (.cells cur ty fz)) (h1 : ty ≠ 132) (h2 : ty ≠ 9) => (kept_ty hH.out.1 hk3 hb h1 h2).trans hb); have HMB : Hid (MfBlk w3 M a b c (nsF ns)) := Lib.hid (HKT.out _ _ _ _ hH.out.2.2.2.2.1 (by decide) (by decide)); have hc3 := (HMB.out.cell (3 + k)).trans (mfC_get a b c (nsF ns) k hk); have hf3 := HMB.out.frozen (3 + k); have hMw := lt_of_heap HMB.out; clear ht3 hk3 ho3)
      go_roundw
      case rel =>
        have hta := tab_after H3.out.1 (hH.out.2.1.trans ⟨H3.out.2.1, H3.out.2.2⟩) (grown_cellw w3 M (3 + k) (.int .i64 (n3 : Int))) (by rw [HN.out]; omega) HMB.out (by decide) (by decide)
        refine ⟨k + 1, l3, tv3, ns ++ [(n3 : Int)], by go_num, by omega, Lib.hid ⟨hta.1, hta.2, ?_, ?_, ?_, by simp [hH.out.2.2.2.2.2.1], ?_, ?_, ?_⟩⟩
        · exact (Go.Deep.blk_setCell_other _ _ _ _ (show N ≠ M by omega)).trans (HKT.out _ _ _ _ hH.out.2.2.1 (by decide) (by decide))
        · exact (Go.Deep.blk_setCell_other _ _ _ _ (show N + 1 ≠ M by omega)).trans (HKT.out _ _ _ _ hH.out.2.2.2.1 (by decide) (by decide))
        · rw [nsF_snoc hH.out.2.2.2.2.2.1]; exact HMB.out.set k hk _
        · intro z hz
          rcases List.mem_append.1 hz with h | h
          · exact hH.out.2.2.2.2.2.2.1 z h
          · simp at h; subst h; omega
        · have h1 := hH.out.2.2.2.2.2.2.2.1
          have h2 := HBD.out.1
          (try dsimp only at h2)
          omega
        · have h1 := hH.out.2.2.2.2.2.2.2.2
          rw [drop_range k hk, preL_step (by rw [HRO.out]), HRO.out] at h1
          exact h1
      case measure => simp [intOf]; omega
    have hkn : k = 16 := by omega
    have hqq : q = (lk, ns, 0) := by
      have h1 := hH.out.2.2.2.2.2.2.2.2
      rw [hkn] at h1
      rw [← h1, show (List.range 16).drop 16 = [] from rfl]
      simp [leavesT, preT]
    have hr2 := HR.out
    rw [hqq] at hr2
    simp only [ne_eq, not_true_eq_false, if_false] at hr2
    have HR2 := Lib.hid hr2
    clear hqq hr2 hbl
    subst hkn
    go_wp2_with (first
      | (refine wpList_load_row rfl 25 _ rfl M rfl 25 (mfC a b c (nsF ns)) (0, 0) _ hH.out.2.2.2.2.1 Tryz.underlying25 rfl (by kernel_rfl) ?_)
      | (refine wpList_store_rowTo rfl 25 _ _ rfl rfl (N + 1) (mfC a b c (nsF ns)) rfl rfl 25 (mfC 0 0 0 zeroV) hB3 (by kernel_rfl) rfl (mfC_one _ _ _ _) ?_))
    rw [← HR2.out]
    have hta := tab_after hH.out.1 hH.out.2.1 (grown_row wr (N + 1) (mfC a b c (nsF ns))) (by rw [HN.out]; exact Nat.le_succ _) hB3 (by decide) (by decide)
    exact bodyPost_ret (results_cell_slot (p := 4) (q := 5) (ty := 25) rfl _ _ ⟨N + 1, 0, none⟩ _ rfl (mf_load (hB3.setRow a b c (nsF ns))) _ rfl) rfl ⟨tvk, rfl, hta⟩
end Go.Proofs.YtpchohjkelopoaaGreatDoor
