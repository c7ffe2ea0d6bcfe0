/- Lemmas for the claim (texts Fw1, Fw2, Tb1, Pa1, Pa2, Pa3, Bk2, Bk3, Aw1, RRd, RmR, what its proof uses of them). -/
import Derived.Test.YtpchohjkelopoaaGreatDoorK14
import Derived.Great.BuildSlice
import Derived.Test.YtpchohjkelopoaaGreatDoorRows
import Derived.Deep.Strs
import Derived.Stop.LaidErr
import Derived.Stop.Joined
import Derived.LaidMore
import Derived.Lib.LaidTab
import Derived.LaidLaws
import Derived.ChangeSame
import Derived.ChangeVars
import Derived.JoinedOf
import Derived.RowKitTokens
import Derived.OpenShut
set_option linter.unusedSimpArgs false
set_option linter.unusedVariables false
set_option maxRecDepth 20000
namespace Go.Proofs.YtpchohjkelopoaaGreatDoor
open Go.RowKit
attribute [go_sem] more_more Array.size_append
/-- an item that came in -/
structure ItIn (x : It) : Prop where
  k : x.k.size ≤ 140737488351232
  vs : x.vs.size ≤ 140737488351232
  vk : In64I x.vk
  vi : In64I x.vi
  ver : In64I x.ver
/-- a leaf that came in -/
def LfIn (w : World) (b : Nat) (v : Value) (l : List It) : Prop :=
  (∀ x ∈ l, ItIn x) ∧ l.length ≤ 140737488351232 ∧ ∃ p cap, v = .slice p l.length cap ∧ l.length ≤ cap ∧ (0 < l.length → ∃ off, p = some ⟨b, off, none⟩ ∧ ItsAt w b off l)
theorem LfIn.ext {w w' : World} {b : Nat} {v : Value} {l : List It} (h : LfIn w b v l) (hx : Ext w w') : LfIn w' b v l := by
  obtain ⟨h0, h00, p, cap, h1, h2, h3⟩ := h
  exact ⟨h0, h00, p, cap, h1, h2, fun hl => by obtain ⟨off, e, hi⟩ := h3 hl; exact ⟨off, e, hi.ext hx⟩⟩
def cutS (n : Nat) (s : ByteArray) : ByteArray := if n < s.size then s.extract 0 n else s
theorem cutS_le (n : Nat) (s : ByteArray) : (cutS n s).size ≤ n := by
  unfold cutS
  split
  · simp; omega
  · omega
def oneF (x : It) : It := ⟨cutS 60 x.k, x.vk, x.vi, cutS 200 x.vs, x.ver⟩
theorem oneF_ok {x : It} (h : ItIn x) : ItOk (oneF x) := ⟨Nat.le_trans (cutS_le 60 _) (by decide), Nat.le_trans (cutS_le 200 _) (by decide), h.vk, h.vi, h.ver⟩
def fewF (l : List It) : List It := (l.take 66).map oneF
theorem fewF_ok {l : List It} (h : ∀ x ∈ l, ItIn x) : ∀ x ∈ fewF l, ItOk x := by
  intro x hx
  unfold fewF at hx
  obtain ⟨y, hy, rfl⟩ := List.mem_map.1 hx
  exact oneF_ok (h y (List.mem_of_mem_take hy))
theorem fewF_len (l : List It) : (fewF l).length ≤ 66 := by unfold fewF; simp; omega
set_option maxHeartbeats 1000000 in
theorem short_any (s : ByteArray) (hm : s.size ≤ 140737488351232) (w : World) : Calls Tryz.prog 104 #[.string s] w fun e w' => e = .returned (.string (cutS 60 s)) ∧ w = w' := by
  unfold cutS
  by_cases h : 60 < s.size
  · have hI : (60 : Int) < s.size := by omega
    have hI2 : (60 : Int) ≤ s.size := by omega
    rw [if_pos h]
    go_enter Tryz.func104, Tryz.ntmps104
    go_wp2_with fail
    go_ret
    exact ⟨rfl, rfl⟩
  · have hI : ¬ ((60 : Int) < s.size) := by omega
    rw [if_neg h]
    go_enter Tryz.func104, Tryz.ntmps104
    go_wp2_with fail
    go_ret
    exact ⟨rfl, rfl⟩
set_option maxHeartbeats 1000000 in
theorem one_any (x : It) (hx : ItIn x) (w : World) : Calls Tryz.prog 76 #[itV x] w fun e w' => e = .returned (itV (oneF x)) ∧ Ext w w' := by
  have SC := Lib.hid fun W => short_any x.k hx.k W
  have hm := hx.vs
  unfold oneF
  obtain ⟨xk, xvk, xvi, xvs, xver⟩ := x
  dsimp only at SC hm ⊢
  unfold itV
  obtain ⟨ck, hck⟩ : ∃ ck, cutS 60 xk = ck := ⟨_, rfl⟩
  rw [hck] at SC
  dsimp only
  rw [hck]
  clear hck hx
  unfold cutS
  by_cases h : 200 < xvs.size
  · have hI : (200 : Int) < xvs.size := by omega
    have hI2 : (200 : Int) ≤ xvs.size := by omega
    rw [if_pos h]
    go_enter Tryz.func76, Tryz.ntmps76
    go_wp2_with (go_at_call 104; refine (SC.out _).mono ?_; rintro e _ ⟨rfl, rfl⟩)
    refine bodyPost_ret (v := .agg #[.string ck, .int .i64 xvk, .int .i64 xvi, .string (xvs.extract 0 200), .int .i64 xver]) (by simp [results, Tryz.results76, go_sem]) rfl ⟨rfl, ?_⟩
    exact ((Ext.refl _).alloc _).alloc _
  · have hI : ¬ ((200 : Int) < xvs.size) := by omega
    rw [if_neg h]
    go_enter Tryz.func76, Tryz.ntmps76
    go_wp2_with (go_at_call 104; refine (SC.out _).mono ?_; rintro e _ ⟨rfl, rfl⟩)
    refine bodyPost_ret (v := .agg #[.string ck, .int .i64 xvk, .int .i64 xvi, .string xvs, .int .i64 xver]) (by simp [results, Tryz.results76, go_sem]) rfl ⟨rfl, ?_⟩
    exact ((Ext.refl _).alloc _).alloc _
set_option maxHeartbeats 2000000 in
theorem items_core {w0 : World} (b : Nat) (p : Option Addr) (n cap : Nat) (l : List It) (hn : l.length = n) (h0 : ∀ x ∈ l, ItIn x) (hm : n ≤ 140737488351232) (hcap : n ≤ cap) (hp : 0 < n → ∃ off, p = some ⟨b, off, none⟩ ∧ ItsAt w0 b off l) (n' : Nat) (hn' : n' = min n 66) (w : World) (hw : w0 = w) :
    Calls Tryz.prog 49 #[.slice p n cap] w fun e w' => ∃ v', e = .returned v' ∧ w'.ownsRow w.heap.size 152 5 v' n' (itCells (fewF l)) ∧ Ext w w' := by
  subst hw
  obtain ⟨i1, hi1, hy0, hy1, hy2⟩ := info_parts itInfo
  have HN := Lib.hid hn
  have HO := Lib.hid h0
  have HP := Lib.hid hp
  have HN' := Lib.hid hn'
  have hn66 : n' ≤ 66 := by omega
  have hnn : n' ≤ n := by omega
  have hnI : (n' : Int) ≤ 66 := by omega
  clear hn h0 hp
  have key : ∀ (_ : True), True := fun _ => trivial
  by_cases h66 : 66 < n
  · have hI : (66 : Int) < n := by omega
    have hI2 : (66 : Int) ≤ cap := by omega
    obtain rfl : n' = 66 := by omega
    clear hn' key
    go_enter Tryz.func49, Tryz.ntmps49
    go_wp2_with fail
    go_loopw [3, 4] (fun out ii wr => ∃ (k : Nat), ii = .int .i64 (k : Int) ∧ k ≤ 66 ∧ Hid (wr.ownsRow w0.heap.size 152 5 out k (itCells ((l.map oneF).take k)) ∧ Ext w0 wr)) (fun _ ii _ => 66 - (intOf ii).toNat)
    case atStart => exact ⟨0, rfl, Nat.zero_le _, Lib.hid ⟨World.ownsRow_nil _ _ _ _, Ext.refl _⟩⟩
    case round =>
      obtain ⟨k, rfl, hk, hH⟩ := hrel
      have HEX := Lib.hid hH.out.2
      by_cases hlt : k < 66
      · obtain ⟨x, hx⟩ := get_at HN.out (show k < n by omega)
        obtain ⟨off, rfl, hi⟩ := HP.out (by omega)
        obtain ⟨a0, a1, a2, a3, a4⟩ := (hi.ext HEX.out) k x hx
        have hg := rcell_lt a0
        have hxi := HO.out x (List.mem_of_getElem? hx)
        have OC := Lib.hid fun W => one_any x hxi W
        unfold itV at OC
        have hkI : (k : Int) < 66 := by omega
        have hk0 : (0 : Int) ≤ (k : Int) := by omega
        have HX := Lib.hid hx
        clear hx hi hxi
        go_wp2_with (first
          | (go_at_call 76; refine (OC.out _).mono ?_; rintro e _ ⟨rfl, d1, os1, rfl⟩)
          | (at_builtin; refine wpList_append_own_at _ rfl _ _ 26 rfl w0.heap.size 152 i1 (.agg #[.string ⟨#[]⟩, .int .i64 0, .int .i64 0, .string ⟨#[]⟩, .int .i64 0]) 5 56 Tryz.underlying26 hi1 hy0 hy1 hy2 rfl (by decide) _ k (itCells ((l.map oneF).take k)) rfl ((own_more hH.out.1 d1 os1).alloc _) ⟨wr.heap.size + os1.size, 0, none⟩ 1 1 (itL (oneF x)) rfl rfl ?c1 ?c2 ?c3 ?c4 ?c5 ?_))
        case c1 => exact news_it (by simp [more_size])
        case c2 => intro u hu; simp [itL] at hu; rcases hu with rfl | rfl | rfl | rfl | rfl <;> rfl
        case c3 => unfold maxLen; omega
        case c4 => omega
        case c5 => have := HEX.out.size; simp [more_size]; omega
        intro v' w1 hown' hgrow' _ _
        have HX1 : Hid (Ext w0 w1) := Lib.hid (((HEX.out.more d1 os1).alloc _).grown hgrow' (fun k hk => (hH.out.1.lt k hk).1))
        have HO1 := Lib.hid hown'
        clear hown' hgrow'
        go_wp2_with fail
        go_roundw
        case rel =>
          refine ⟨k + 1, by go_num, by omega, Lib.hid ⟨?_, HX1.out⟩⟩
          rw [show (l.map oneF).take (k + 1) = (l.map oneF).take k ++ [oneF x] by rw [List.take_add_one]; simp [HX.out], itCells_snoc]
          exact HO1.out
        case measure => simp [intOf]; omega
      · have hks : k = 66 := by omega
        subst hks
        have HFF := Lib.hid (show fewF l = (l.map oneF).take 66 by
          unfold fewF
          rw [List.map_take])
        go_wp2_with fail
        go_ret
        refine ⟨_, rfl, ?_, HEX.out⟩
        rw [HFF.out]
        exact hH.out.1
  · have hI : ¬ ((66 : Int) < n) := by omega
    obtain rfl : n' = n := by omega
    clear hn' key
    go_enter Tryz.func49, Tryz.ntmps49
    go_wp2_with fail
    go_loopw [3, 4] (fun out ii wr => ∃ (k : Nat), ii = .int .i64 (k : Int) ∧ k ≤ n' ∧ Hid (wr.ownsRow w0.heap.size 152 5 out k (itCells ((l.map oneF).take k)) ∧ Ext w0 wr)) (fun _ ii _ => n' - (intOf ii).toNat)
    case atStart => exact ⟨0, rfl, Nat.zero_le _, Lib.hid ⟨World.ownsRow_nil _ _ _ _, Ext.refl _⟩⟩
    case round =>
      obtain ⟨k, rfl, hk, hH⟩ := hrel
      have HEX := Lib.hid hH.out.2
      by_cases hlt : k < n'
      · obtain ⟨x, hx⟩ := get_at HN.out (show k < n' by omega)
        obtain ⟨off, rfl, hi⟩ := HP.out (by omega)
        obtain ⟨a0, a1, a2, a3, a4⟩ := (hi.ext HEX.out) k x hx
        have hg := rcell_lt a0
        have hxi := HO.out x (List.mem_of_getElem? hx)
        have OC := Lib.hid fun W => one_any x hxi W
        unfold itV at OC
        have hkI : (k : Int) < (n' : Int) := by omega
        have hk0 : (0 : Int) ≤ (k : Int) := by omega
        have HX := Lib.hid hx
        clear hx hi hxi
        go_wp2_with (first
          | (go_at_call 76; refine (OC.out _).mono ?_; rintro e _ ⟨rfl, d1, os1, rfl⟩)
          | (at_builtin; refine wpList_append_own_at _ rfl _ _ 26 rfl w0.heap.size 152 i1 (.agg #[.string ⟨#[]⟩, .int .i64 0, .int .i64 0, .string ⟨#[]⟩, .int .i64 0]) 5 56 Tryz.underlying26 hi1 hy0 hy1 hy2 rfl (by decide) _ k (itCells ((l.map oneF).take k)) rfl ((own_more hH.out.1 d1 os1).alloc _) ⟨wr.heap.size + os1.size, 0, none⟩ 1 1 (itL (oneF x)) rfl rfl ?c1 ?c2 ?c3 ?c4 ?c5 ?_))
        case c1 => exact news_it (by simp [more_size])
        case c2 => intro u hu; simp [itL] at hu; rcases hu with rfl | rfl | rfl | rfl | rfl <;> rfl
        case c3 => unfold maxLen; omega
        case c4 => omega
        case c5 => have := HEX.out.size; simp [more_size]; omega
        intro v' w1 hown' hgrow' _ _
        have HX1 : Hid (Ext w0 w1) := Lib.hid (((HEX.out.more d1 os1).alloc _).grown hgrow' (fun k hk => (hH.out.1.lt k hk).1))
        have HO1 := Lib.hid hown'
        clear hown' hgrow'
        go_wp2_with fail
        go_roundw
        case rel =>
          refine ⟨k + 1, by go_num, by omega, Lib.hid ⟨?_, HX1.out⟩⟩
          rw [show (l.map oneF).take (k + 1) = (l.map oneF).take k ++ [oneF x] by rw [List.take_add_one]; simp [HX.out], itCells_snoc]
          exact HO1.out
        case measure => simp [intOf]; omega
      · have hks : k = n' := by omega
        subst hks
        have HFF := Lib.hid (show fewF l = (l.map oneF).take k by
          unfold fewF
          rw [List.take_of_length_le (by have := HN.out; omega), List.take_of_length_le (by have := HN.out; simp; omega)])
        go_wp2_with fail
        go_ret
        refine ⟨_, rfl, ?_, HEX.out⟩
        rw [HFF.out]
        exact hH.out.1
theorem items_any (b : Nat) (v : Value) (l : List It) (w : World) (h : LfIn w b v l) : Calls Tryz.prog 49 #[v] w fun e w' => ∃ v', e = .returned v' ∧ w'.ownsRow w.heap.size 152 5 v' (fewF l).length (itCells (fewF l)) ∧ Ext w w' := by
  obtain ⟨h0, hm, p, cap, rfl, hcap, hp⟩ := h
  exact items_core b p l.length cap l rfl h0 hm hcap hp _ (by unfold fewF; simp; omega) w rfl
end Go.Proofs.YtpchohjkelopoaaGreatDoor

set_option maxRecDepth 20000
namespace Go.Proofs.YtpchohjkelopoaaGreatDoor
open Go.RowKit
attribute [go_sem] more_more Array.size_append
/-- the first leaves of a trunk -/
def LvsTo (k : Nat) (w : World) (bs : Nat → Nat) (v : Nat → Value) (T : Nat → List It) : Prop := ∀ j, j < k → LfAt w (bs j) (v j) (T j) ∧ (0 < (T j).length → ∃ cur fz, w.heap[bs j]? = some (.cells cur 152 fz))
theorem LvsTo.ext {k : Nat} {w w' : World} {bs : Nat → Nat} {v : Nat → Value} {T : Nat → List It} (h : LvsTo k w bs v T) (hx : Ext w w') : LvsTo k w' bs v T := fun j hj => ⟨(h j hj).1.ext hx, fun hl => by
  obtain ⟨cur, fz, hc⟩ := (h j hj).2 hl
  exact ⟨cur, fz, by rw [hx.below.block _ (lt_of_heap hc)]; exact hc⟩⟩
theorem LvsTo.other {k : Nat} {w : World} {bs : Nat → Nat} {v : Nat → Value} {T : Nat → List It} (h : LvsTo k w bs v T) {M i : Nat} {v2 : Nat → Value} {V2 : Nat → Int} (hM : TrBlk w M v2 V2) (x : Value) : LvsTo k (w.setCell ⟨M, i, none⟩ x) bs v T := fun j hj => by
  have hne : 0 < (T j).length → bs j ≠ M := fun hl e => by
    obtain ⟨cur, fz, hc⟩ := (h j hj).2 hl
    unfold TrBlk at hM
    rw [e, hM] at hc
    simp at hc
  refine ⟨(h j hj).1.of_block fun hl => Go.Deep.blk_setCell_other _ _ _ _ (hne hl), fun hl => ?_⟩
  obtain ⟨cur, fz, hc⟩ := (h j hj).2 hl
  exact ⟨cur, fz, by rw [Go.Deep.blk_setCell_other _ _ _ _ (hne hl)]; exact hc⟩
theorem LvsTo.otherRow {k : Nat} {w : World} {bs : Nat → Nat} {v : Nat → Value} {T : Nat → List It} (h : LvsTo k w bs v T) {M : Nat} {v2 : Nat → Value} {V2 : Nat → Int} (hM : TrBlk w M v2 V2) (x : Array Value) : LvsTo k (w.setRow M x) bs v T := fun j hj => by
  have hne : 0 < (T j).length → bs j ≠ M := fun hl e => by
    obtain ⟨cur, fz, hc⟩ := (h j hj).2 hl
    unfold TrBlk at hM
    rw [e, hM] at hc
    simp at hc
  refine ⟨(h j hj).1.of_block fun hl => setRow_other _ _ _ _ (hne hl), fun hl => ?_⟩
  obtain ⟨cur, fz, hc⟩ := (h j hj).2 hl
  exact ⟨cur, fz, by rw [setRow_other _ _ _ _ (hne hl)]; exact hc⟩
theorem LvsTo.snoc {k b : Nat} {w : World} {bs : Nat → Nat} {v : Nat → Value} {T : Nat → List It} {x : Value} (h : LvsTo k w bs v T) (h1 : LfAt w b x (T k)) (h2 : 0 < (T k).length → ∃ cur fz, w.heap[b]? = some (.cells cur 152 fz)) : LvsTo (k + 1) w (upd bs k b) (upd v k x) T := fun j hj => by
  unfold upd
  by_cases e : j = k
  · rw [if_pos e, if_pos e, e]; exact ⟨h1, h2⟩
  · rw [if_neg e, if_neg e]; exact h j (by omega)
theorem LvsTo.all {w : World} {bs : Nat → Nat} {v : Nat → Value} {T : Nat → List It} (h : LvsTo 16 w bs v T) : LvsAt w bs v T ∧ LvTy w bs T := ⟨fun k hk => (h k hk).1, fun k hk hl => (h k hk).2 hl⟩
theorem LvsAt.one {w : World} {bs : Nat → Nat} {v : Nat → Value} {T : Nat → List It} (h : LvsAt w bs v T) : ∀ k, k < 16 → (v k).oneCell' = true := fun k hk => by
  obtain ⟨_, p, cap, e, _⟩ := h k hk
  rw [e]; rfl
theorem TrBlk.otherRow {w : World} {N : Nat} {v : Nat → Value} {V : Nat → Int} (h : TrBlk w N v V) {M : Nat} (hne : N ≠ M) (x : Array Value) : TrBlk (w.setRow M x) N v V := by
  unfold TrBlk at h ⊢
  rw [setRow_other _ _ _ _ hne]; exact h
theorem own_sl {w : World} {base n size : Nat} {v : Value} {e : TypeId} {xs : List Value} (h : w.ownsRow base e size v n xs) : ∃ p c, v = .slice p n c := by
  rcases Go.Joins.ownsRow_forms h with ⟨rfl, h0⟩ | ⟨g1, c, rfl⟩
  · exact ⟨none, 0, by rw [h0]⟩
  · exact ⟨_, _, rfl⟩
/-- what a contract says of a trunk that it hands back -/
def TrunkPost (w w' : World) (e : Ending) (T : Nat → List It) (V : Nat → Int) : Prop :=
  ∃ bs v, e = .returned (.agg (trC v V)) ∧ LvsAt w' bs v T ∧ LvTy w' bs T ∧ Ext w w'
set_option maxHeartbeats 4000000 in
theorem few_any (bs : Nat → Nat) (v : Nat → Value) (T : Nat → List It) (V : Nat → Int) (w : World) (h : ∀ k, k < 16 → LfIn w (bs k) (v k) (T k)) :
    Calls Tryz.prog 8 #[.agg (trC v V)] w fun e w' => TrunkPost w w' e (fun k => fewF (T k)) V := by
  have HL := Lib.hid h
  clear h
  unfold trC
  go_enter Tryz.func8, Tryz.ntmps8
  go_wp2_with fail
  obtain ⟨N, hN⟩ : ∃ N, w.heap.size = N := ⟨_, rfl⟩
  have HN := Lib.hid hN
  go_loopw [3] (fun ii wr => ∃ (k : Nat) (bs' : Nat → Nat) (v' : Nat → Value), ii = .int .i64 (k : Int) ∧ k ≤ 16 ∧ Hid (TrBlk wr N v' V ∧ TrBlk wr (N + 1) nilV zeroV ∧ LvsTo k wr bs' v' (fun k => fewF (T k)) ∧ (∀ j, k ≤ j → v' j = v j) ∧ Ext w wr)) (fun ii _ => 16 - (intOf ii).toNat)
  case atStart =>
    refine ⟨0, bs, v, rfl, Nat.zero_le _, Lib.hid ⟨?_, ?_, fun j hj => absurd hj (Nat.not_lt_zero j), fun j _ => rfl, ((Ext.refl _).alloc _).alloc _⟩⟩
    · unfold TrBlk
      rw [← hN]
      exact (heap_alloc_old _ _ (by simp)).trans (heap_alloc_new w _)
    · unfold TrBlk
      rw [← hN]
      have := heap_alloc_new (w.alloc (.cells (trC v V) 29)) (.cells (trC nilV zeroV) 29)
      rw [World.size_alloc] at this
      exact this
  case round =>
    obtain ⟨k, bs', v', rfl, hk16, hH⟩ := hrel
    have HEX := Lib.hid hH.out.2.2.2.2
    rw [hN]
    have hNw : N < wr.heap.size := lt_of_heap hH.out.1
    by_cases hk : k < 16
    · have IC := Lib.hid fun (W : World) (hx : Ext w W) => items_any (bs k) (v k) (T k) W ((HL.out k hk).ext hx)
      have hcl := hH.out.1.leaf k hk
      rw [hH.out.2.2.2.1 k (Nat.le_refl _)] at hcl
      have hfz := hH.out.1.frozen k
      have hkI : (k : Int) < 16 := by omega
      have hk0 : (0 : Int) ≤ (k : Int) := by omega
      clear hN
      go_wp2_with (go_at_call 49; refine (IC.out _ HEX.out).mono ?_; rintro e w1 ⟨lv, rfl, hown, hx⟩; obtain ⟨p1, c1, rfl⟩ := own_sl hown; have HO := Lib.hid (own_lf hown rfl (fewF_ok (HL.out k hk).1)); have HX := Lib.hid hx; obtain ⟨d1, os1, rfl⟩ := hx; clear hown)
      go_roundw
      case rel =>
        obtain ⟨b1, h1, h2, _⟩ := HO.out
        have hb1 := hH.out.1.ext HX.out
        refine ⟨k + 1, upd bs' k b1, upd v' k (.slice p1 (fewF (T k)).length c1), by go_num, by omega, Lib.hid ⟨?_, ?_, ?_, ?_, ?_⟩⟩
        · exact (more_setCell _ _ _ _ _ _ hNw) ▸ hb1.setLeaf k hk _
        · exact (more_setCell _ _ _ _ _ _ hNw) ▸ (hH.out.2.1.ext HX.out).other (by omega) _
        · exact (more_setCell _ _ _ _ _ _ hNw) ▸ (((hH.out.2.2.1.ext HX.out).snoc (T := fun k => fewF (T k)) h1 h2).other hb1 _)
        · intro j hj
          unfold upd
          rw [if_neg (by omega)]
          exact hH.out.2.2.2.1 j (by omega)
        · exact (more_setCell _ _ _ _ _ _ hNw) ▸ (HEX.out.trans HX.out).setCell (by rw [HN.out]; exact Nat.le_refl _) _
      case measure => simp [intOf]; omega
    · have hkn : k = 16 := by omega
      subst hkn
      have HLA := Lib.hid hH.out.2.2.1.all
      have hb2 : N + 1 < wr.heap.size := lt_of_heap hH.out.2.1
      clear hN
      go_wp2_with (first
        | (refine wpList_load_row rfl 29 _ rfl N rfl 29 (trC v' V) (0, 0) _ hH.out.1 Tryz.underlying29 rfl (by kernel_rfl) ?_)
        | (refine wpList_store_rowTo rfl 29 _ _ rfl rfl (N + 1) (trC v' V) rfl rfl 29 (trC nilV zeroV) hH.out.2.1 (by kernel_rfl) rfl (trC_one v' V HLA.out.1.one) ?_))
      refine bodyPost_ret (v := .agg (trC v' V)) (results_cell rfl _ _ ⟨N + 1, 0, none⟩ _ rfl (tr_load (hH.out.2.1.setRow v' V))) rfl ⟨bs', v', rfl, ?_, ?_, HEX.out.setRow (by rw [HN.out]; omega) _⟩
      · exact (hH.out.2.2.1.otherRow hH.out.2.1 _).all.1
      · exact (hH.out.2.2.1.otherRow hH.out.2.1 _).all.2
end Go.Proofs.YtpchohjkelopoaaGreatDoor

set_option maxRecDepth 20000
namespace Go.Proofs.YtpchohjkelopoaaGreatDoor
open Go.RowKit
attribute [go_sem] more_more Array.size_append
theorem own_tabkept {B bt bm : Nat} {row : Option Nat} {w w' : World} {v : Value} {n : Nat} {xs : List Value} (h : w.ownsRow B 9 1 v n xs) (hk : TabKept bt bm row w w') (h1 : v.ownBlock ≠ some bt) (h2 : v.ownBlock ≠ some bm) (h3 : v.ownBlock = none ∨ v.ownBlock ≠ row) : w'.ownsRow B 9 1 v n xs := by
  obtain ⟨k1, k2, k3, k4, k5⟩ := hk
  obtain ⟨hl, h5⟩ := h
  refine ⟨hl, ?_⟩
  rcases h5 with h0 | ⟨g, cap, cur, hv, hb, hh, r⟩
  · exact Or.inl h0
  · refine Or.inr ⟨g, cap, cur, hv, hb, ?_, r⟩
    have hg : v.ownBlock = some g := by rw [hv]; rfl
    rw [k5 g (Array.getElem?_eq_some_iff.1 hh).1 (fun e => h1 (by rw [hg, e])) (fun e => h2 (by rw [hg, e])) (fun e => by
      rcases h3 with h3 | h3
      · rw [hg] at h3; cases h3
      · exact h3 (by rw [hg, e]))]
    exact hh
/-- the document's list lies apart from the table -/
def Sep (bt bm : Nat) (tv lv : Value) : Prop := lv.ownBlock ≠ some bt ∧ lv.ownBlock ≠ some bm ∧ (lv.ownBlock = none ∨ lv.ownBlock ≠ tv.ownBlock)
/-- a table, and the document's list, of the call's own -/
def Both (B bt bm : Nat) (tv lv : Value) (l : List ByteArray) (w : World) : Prop :=
  TabAt B bt bm tv l w ∧ w.ownsRow B 9 1 lv l.length (l.map Value.string) ∧ Sep bt bm tv lv
theorem Both.ext {B bt bm : Nat} {tv lv : Value} {l : List ByteArray} {w w' : World} (h : Both B bt bm tv lv l w) (hx : Ext w w') : Both B bt bm tv lv l w' := ⟨h.1.ext hx, own_ext h.2.1 hx, h.2.2⟩
theorem own_block_lt {w : World} {B : Nat} {v : Value} {n : Nat} {xs : List Value} {e : TypeId} {k g : Nat} (h : w.ownsRow B e k v n xs) (hg : v.ownBlock = some g) : g < w.heap.size := (h.lt g hg).2
/-- the state while one asks both for one text: behind the program's Of, ahead of the document's -/
def Mid (B bt bm : Nat) (tv lv : Value) (l l' : List ByteArray) (w : World) : Prop :=
  TabAt B bt bm tv l' w ∧ w.ownsRow B 9 1 lv l.length (l.map Value.string) ∧ Sep bt bm tv lv
theorem Mid.ext {B bt bm : Nat} {tv lv : Value} {l l' : List ByteArray} {w w' : World} (h : Mid B bt bm tv lv l l' w) (hx : Ext w w') : Mid B bt bm tv lv l l' w' := ⟨h.1.ext hx, own_ext h.2.1 hx, h.2.2⟩
theorem mid_of {B bt bm : Nat} {tv lv : Value} {l : List ByteArray} {r : List ByteArray × Nat × Int} {w w' : World} {e : Ending} (h : Both B bt bm tv lv l w) (hp : OfPost B bt bm tv r w e w') :
    e = .returned (.tuple #[.int .i64 (r.2.1 : Int), .int .i64 r.2.2]) ∧ (∃ tv', Mid B bt bm tv' lv l r.1 w') ∧ Below B w w' := by
  obtain ⟨ht, ho, h1, h2, h3⟩ := h
  obtain ⟨he, tv', k1, k2, k3⟩ := hp
  have hc := ht.cells
  have ht' := ht
  obtain ⟨a1, a2, _, _, _, a6, _⟩ := ht'
  refine ⟨he, ⟨tv', k1, own_tabkept ho k2 h1 h2 h3, h1, h2, ?_⟩, k2.below a1 a2 (fun k hk => (a6.lt k hk).1) (by omega)⟩
  cases hl : lv.ownBlock with
  | none => exact Or.inl rfl
  | some g =>
    right
    rcases k3 with k3 | ⟨k, k3, k4⟩
    · rw [k3, ← hl]
      rcases h3 with h3 | h3
      · rw [hl] at h3; cases h3
      · exact h3
    · rw [k3]
      intro e
      have := own_block_lt ho hl
      simp at e
      omega
theorem both_of {B bt bm : Nat} {tv lv : Value} {l l' : List ByteArray} {n : Nat} {er : Int} {w w' : World} {e : Ending} (h : Mid B bt bm tv lv l l' w) (hp : ROfPost B lv (l', n, er) w e w') :
    (∃ lv', e = .returned (.tuple #[lv', .int .i64 (n : Int), .int .i64 er]) ∧ Both B bt bm tv lv' l' w') ∧ Below B w w' := by
  obtain ⟨ht, ho, h1, h2, h3⟩ := h
  obtain ⟨lv', he, k1, k2, k3⟩ := hp
  have hc := ht.cells
  have hT : TabAt B bt bm tv l' w' := tab_grown ht k2 (fun k hk => ⟨fun e => h1 (by rw [hk, e]), fun e => h2 (by rw [hk, e]), fun e => by
    rcases h3 with h3 | h3
    · rw [h3] at hk; cases hk
    · exact h3 (by rw [hk, e])⟩)
  have ht' := ht
  obtain ⟨a1, a2, _, _, _, a6, _⟩ := ht'
  refine ⟨⟨lv', he, hT, k1, ?_⟩, ?_⟩
  · rcases k3 with k3 | ⟨k, k3, k4⟩
    · exact ⟨by rw [k3]; exact h1, by rw [k3]; exact h2, by rw [k3]; exact h3⟩
    · refine ⟨by rw [k3]; intro e; simp at e; omega, by rw [k3]; intro e; simp at e; omega, Or.inr ?_⟩
      rw [k3]
      intro e
      have := (a6.lt k e.symm).2
      omega
  · obtain ⟨g1, g2, g3, g4, g5⟩ := k2
    refine ⟨g1, g2, g3, g4, fun k hk => g5 k (by omega) (fun e => ?_)⟩
    have := (ho.lt k e.symm).1
    omega
/-- texts that came in -/
def StrsAt (w : World) (v : Value) (l : List ByteArray) : Prop :=
  (∃ p cap, v = .slice p 0 cap ∧ l = []) ∨ ∃ b off cap, v = .slice (some ⟨b, off, none⟩) l.length cap ∧ l.length ≤ cap ∧ ∀ j u, l[j]? = some u → w.cell? ⟨b, off + j, none⟩ = some (.string u)
/-- the table of texts -/
def tabG (l : List ByteArray) (ts : List ByteArray) : List ByteArray := ts.foldl (fun l s => (ofF l (cutS 600 s)).1) l
def tabF (M : Nat) (ts : List ByteArray) : List ByteArray := tabG [] (ts.take M)
theorem tabG_snoc (l ts : List ByteArray) (s : ByteArray) : tabG l (ts ++ [s]) = (ofF (tabG l ts) (cutS 600 s)).1 := by unfold tabG; rw [List.foldl_append]; rfl
theorem tabG_len : ∀ (ts l : List ByteArray), (tabG l ts).length ≤ l.length + ts.length
  | [], l => by simp [tabG]
  | s :: ts, l => by
    have h1 := ofF_len l (cutS 600 s)
    have h2 := tabG_len ts (ofF l (cutS 600 s)).1
    have e : tabG l (s :: ts) = tabG (ofF l (cutS 600 s)).1 ts := rfl
    rw [e]
    simp only [List.length_cons]
    omega
theorem tabF_len (M : Nat) (ts : List ByteArray) : (tabF M ts).length ≤ M := by
  have := tabG_len (ts.take M) []
  unfold tabF
  simp at this ⊢
  omega
/-- what table hands back -/
def TablePost (M : Nat) (ts : List ByteArray) (w : World) (e : Ending) (w' : World) : Prop :=
  ∃ bt bm tv lv, e = .returned (.tuple #[.pointer (some ⟨bt, 0, none⟩), lv]) ∧ Both w.heap.size bt bm tv lv (tabF M ts) w' ∧ Below w.heap.size w w'
theorem cell_below {w w' : World} {B : Nat} {b o : Nat} {v : Value} (h : w.cell? ⟨b, o, none⟩ = some v) (hb : Below B w w') (hB : B = w.heap.size) : w'.cell? ⟨b, o, none⟩ = some v := by
  have h1 := World.block_lt_of_cell? _ _ h
  rw [hb.cell (p := ⟨b, o, none⟩) (by rw [hB]; exact h1)]; exact h
end Go.Proofs.YtpchohjkelopoaaGreatDoor

set_option maxRecDepth 20000
namespace Go.Proofs.YtpchohjkelopoaaGreatDoor
open Go.RowKit
attribute [go_sem] more_more Array.size_append
/-- how many bytes an item's key and value have -/
def wtI (x : It) : Nat := x.k.size + (encB x.vk x.vi x.vs).length
def wtL : List It → Nat
  | [] => 0
  | x :: l => wtI x + wtL l
theorem wtL_app : ∀ (l m : List It), wtL (l ++ m) = wtL l + wtL m
  | [], m => by simp [wtL]
  | x :: l, m => by simp only [List.cons_append, wtL, wtL_app l m]; omega
theorem wtI_le {x : It} (ho : ItOk x) (hm : mayI x = true) : wtI x ≤ 400 := by
  have h1 := ho.k
  have h2 := encB_len x.vk x.vi x.vs (mayI_parts hm).1 ho.vi.1 ho.vi.2
  unfold wtI; omega
theorem wtL_le : ∀ (l : List It), (∀ x ∈ l, ItOk x) → (∀ x ∈ l, mayI x = true) → wtL l ≤ 400 * l.length
  | [], _, _ => by simp [wtL]
  | x :: l, h1, h2 => by
    have a := wtI_le (h1 x (by simp)) (h2 x (by simp))
    have b := wtL_le l (fun y hy => h1 y (by simp [hy])) (fun y hy => h2 y (by simp [hy]))
    simp only [wtL, List.length_cons]; omega
theorem wtL_snoc {l : List It} {k : Nat} {x : It} (h : l[k]? = some x) : wtL (l.take (k + 1)) = wtL (l.take k) + wtI x := by
  rw [List.take_add_one, h, show (some x).toList = [x] from rfl, wtL_app]; simp [wtL]
/-- a slice of so many elements -/
def SlFact (n : Nat) : Fact := fun v _ => ∃ g cap, v = .slice (some ⟨g, 0, none⟩) n cap
theorem SlFact.upc (n : Nat) : Upc (SlFact n) := fun _ _ _ _ h => h
set_option maxHeartbeats 2000000 in
theorem lweight_any (b : Nat) (v : Value) (l : List It) (SB : Nat) (w : World) (hS : SignsAt SB w) (hSB : SB ≤ w.heap.size) (h : LfAt w b v l) (hl : leafB l = true) :
    Calls Tryz.prog 115 #[v] w fun e w' => e = .returned (.int .i64 (wtL l : Int)) ∧ Ext w w' := by
  have H := Lib.hid (lis_any b v l SB w hS hSB h)
  rw [hl] at H
  obtain ⟨h64, hmay⟩ := leafB_may hl
  obtain ⟨ho, p, cap, rfl, hcap, hp⟩ := h
  obtain ⟨n, hn⟩ : ∃ n, l.length = n := ⟨_, rfl⟩
  rw [hn] at hcap hp h64 H ⊢
  have HN := Lib.hid hn
  have HO := Lib.hid ho
  have HM := Lib.hid hmay
  have HP := Lib.hid hp
  clear hp ho hn hmay hS hl
  go_enter Tryz.func115, Tryz.ntmps115
  go_wp2_with (go_at_call 91; refine H.out.mono ?_; rintro e _ ⟨rfl, d1, os1, rfl⟩)
  go_loopw [3, 11] (fun nv ii wr => ∃ k m : Nat, ii = .int .i64 (k : Int) ∧ nv = .int .i64 (m : Int) ∧ k ≤ n ∧ m ≤ 400 * k ∧ Hid (wtL (l.take k) = m ∧ Ext w wr)) (fun _ ii _ => n - (intOf ii).toNat)
  case atStart => exact ⟨0, 0, rfl, rfl, Nat.zero_le _, by omega, Lib.hid ⟨by simp [wtL], (Ext.refl _).more _ _⟩⟩
  case round =>
    obtain ⟨k, m, rfl, rfl, hk, hm, hH⟩ := hrel
    have HEX := Lib.hid hH.out.2
    by_cases hlt : k < n
    · obtain ⟨x, hx⟩ := get_at HN.out hlt
      obtain ⟨off, rfl, hi⟩ := HP.out (by omega)
      obtain ⟨a0, a1, a2, a3, a4⟩ := (hi.ext HEX.out) k x hx
      have hg := World.block_lt_of_cell? _ _ a0
      have hox := HO.out x (List.mem_of_getElem? hx)
      have hmx := HM.out x (List.mem_of_getElem? hx)
      have HW := Lib.hid (wtL_snoc hx)
      have hwle := wtI_le hox hmx
      unfold wtI at hwle
      have EC := Lib.hid fun W => enc_any x.vk x.vi x.vs (mayI_parts hmx).1 hox.vi.1 hox.vi.2 W
      have hkI : (k : Int) < (n : Int) := by omega
      have hk0 : (0 : Int) ≤ (k : Int) := by omega
      have hks := hox.k
      obtain ⟨xk, xvk, xvi, xvs, xver⟩ := x
      dsimp only at a0 a1 a2 a3 a4 hwle EC hks hg
      unfold wtI at HW
      dsimp only at HW
      obtain ⟨L, hL⟩ : ∃ L, (encB xvk xvi xvs).length = L := ⟨_, rfl⟩
      have ECL := Lib.hid fun (W : World) => (EC.out W).mono fun e w' ⟨g, cap, h1, _, h3⟩ => (⟨_, by rw [h1, hL], h3, g, cap, rfl⟩ : RetG W (SlFact L) e w')
      rw [hL] at HW hwle
      have HLT := Lib.hid hlt
      clear hx hlt hi hox hmx EC hL
      go_wp2_with fail
      have hI1 : (xk.size : Int) ≤ 255 := by omega
      have hI2 : (L : Int) ≤ 400 := by omega
      have hI3 : (m : Int) ≤ 25600 := by omega
      refine wp_region_grow 8 27 [true, false, false, false, false, false, false, false] (by kernel_rfl) (by kernel_rfl) rfl ?_
      simp only [List.take_succ_cons, List.take_zero, List.drop_succ_cons, List.drop_zero]
      refine Lex.stepP rfl rfl ?_; intro K hK; go_simp; refine hK _ ?_; clear hK K
      refine Lex.step rfl ?_; intro K hK; unfold StepG; go_simp; refine hK _ ?_; clear hK K
      refine Lex.step rfl ?_; intro K hK; unfold StepG; go_simp; refine hK _ ?_; clear hK K
      refine Lex.step rfl ?_; intro K hK; unfold StepG; go_simp; refine hK _ ?_; clear hK K
      refine Lex.step rfl ?_; intro K hK; unfold StepG; go_simp; refine hK _ ?_; clear hK K
      refine Lex.step rfl ?_; intro K hK; unfold StepG; go_simp; refine hK _ ?_; clear hK K
      refine Lex.gap 21 (SlFact L) rfl (SlFact.upc _) rfl (fun d os => ?_) ?_
      · unfold StepG
        go_simp
        exact ECL.out _
      refine Lex.go1 (.int .i64 (L : Int)) 21 _ rfl (fun u d os hu => ?_) ?_
      · obtain ⟨g1, cap1, rfl⟩ := hu
        unfold StepG
        go_simp
      refine Lex.nil fun WW hE => ?_
      obtain ⟨dd, oo, rfl⟩ := hE
      unfold FillH
      rintro _ ⟨g1, cap1, rfl⟩
      unfold FillH
      go_wp2_with fail
      rw [ends_normal]
      go_wp2_with fail
      go_roundw
      case rel =>
        refine ⟨k + 1, m + (xk.size + L), by go_num, by go_num, by have := HLT.out; omega, by omega, Lib.hid ⟨by rw [HW.out, hH.out.1], by repeat (first | exact HEX.out | apply Ext.alloc | apply Ext.more | apply Ext.drewN)⟩⟩
      case measure => have := HLT.out; simp [intOf]; omega
    · have hje : k = n := by omega
      subst hje
      have hre := hH.out.1
      rw [List.take_of_length_le (by have := HN.out; omega)] at hre
      have HRE := Lib.hid hre
      clear hlt hre
      go_wp2_with fail
      go_ret
      rw [HRE.out]
      exact ⟨rfl, HEX.out⟩
/-- how many bytes, and how many items, the first leaves have -/
def wtK (T : Nat → List It) : Nat → Nat
  | 0 => 0
  | k + 1 => wtK T k + wtL (T k)
def ctK (T : Nat → List It) : Nat → Nat
  | 0 => 0
  | k + 1 => ctK T k + (T k).length
set_option maxHeartbeats 4000000 in
theorem tweight_any (bs : Nat → Nat) (v : Nat → Value) (T : Nat → List It) (V : Nat → Int) (SB : Nat) (w : World) (hS : SignsAt SB w) (hSB : SB ≤ w.heap.size) (h : LvsAt w bs v T) (hl : trunkB T V = true) :
    Calls Tryz.prog 88 #[.agg (trC v V)] w fun e w' => e = .returned (.int .i64 (wtK T 16 : Int)) ∧ Ext w w' := by
  have HL := Lib.hid h
  have HS := Lib.hid hS
  have HTB := Lib.hid hl
  have TM := Lib.hid fun (W : World) (hx : Ext w W) => tmay_any bs v T V SB W (hS.ext hx hSB) (Nat.le_trans hSB hx.size) (h.ext hx)
  rw [hl] at TM
  clear hS h hl
  go_enter Tryz.func88, Tryz.ntmps88
  go_wp2_with (first
    | (refine wpList_load_row rfl 29 _ rfl w.heap.size rfl 29 (trC v V) (0, 0) _ (heap_alloc_new w _) Tryz.underlying29 rfl (by kernel_rfl) ?_)
    | (refine wpList_load_part rfl 27 _ rfl w.heap.size 0 rfl 29 (trC v V) (lvL v) (0, 0) _ HBK Tryz.underlying27 rfl (by kernel_rfl) (lvL_get v V) ?_)
    | (go_at_call 52; refine (TM.out _ (by repeat (first | exact Ext.refl _ | apply Ext.alloc | apply Ext.more | apply Ext.drewN))).mono ?_; rintro e _ ⟨rfl, d1, os1, rfl⟩; have HBK : (more (w.alloc (.cells (trC v V) 29)) d1 os1).heap[w.heap.size]? = some (.cells (trC v V) 29 (0, 0)) := by rw [more_heap _ _ _ _ (by simp)]; exact heap_alloc_new w _))
  go_loopw [3, 11] (fun nv ii wr => ∃ k m : Nat, ii = .int .i64 (k : Int) ∧ nv = .int .i64 (m : Int) ∧ k ≤ 16 ∧ m ≤ 25600 * k ∧ Hid (wtK T k = m ∧ Ext w wr)) (fun _ ii _ => 16 - (intOf ii).toNat)
  case atStart => exact ⟨0, 0, rfl, rfl, Nat.zero_le _, by omega, Lib.hid ⟨rfl, (((Ext.refl w).alloc _).more _ _)⟩⟩
  case round =>
    obtain ⟨k, m, rfl, rfl, hk16, hm, hH⟩ := hrel
    have HEX := Lib.hid hH.out.2
    by_cases hk : k < 16
    · have hix := fun W => idx_lv v k hk W
      have hkI : (k : Int) < 16 := by omega
      have hk0 : (0 : Int) ≤ (k : Int) := by omega
      have hmI : (m : Int) ≤ 16 * 25600 := by omega
      have hlb := (fits_parts (trunk_fits HTB.out k hk)).1
      have hzl := wtL_le (T k) (HL.out k hk).1 (leafB_may hlb).2
      have h64 := (leafB_may hlb).1
      obtain ⟨z, hz⟩ : ∃ z, wtL (T k) = z := ⟨_, rfl⟩
      have HZ := Lib.hid hz
      have WC := Lib.hid fun (W : World) (hx : Ext w W) => lweight_any (bs k) (v k) (T k) SB W (HS.out.ext hx hSB) (Nat.le_trans hSB hx.size) ((HL.out k hk).ext hx) hlb
      rw [hz] at WC hzl
      have hz2 : z ≤ 25600 := by omega
      have hzI : (z : Int) ≤ 25600 := by omega
      clear hlb hzl h64 hz
      go_wp2_with (go_at_call 115; refine (WC.out _ HEX.out).mono ?_; rintro e _ ⟨rfl, d2, os2, rfl⟩)
      go_roundw
      case rel => exact ⟨k + 1, m + z, by go_num, by go_num, by omega, by omega, Lib.hid ⟨by unfold wtK; rw [hH.out.1, HZ.out], (by repeat (first | exact HEX.out | apply Ext.alloc | apply Ext.more | apply Ext.drewN))⟩⟩
      case measure => simp [intOf]; omega
    have hkn : k = 16 := by omega
    subst hkn
    have HRE := Lib.hid hH.out.1
    go_wp2_with fail
    go_ret
    rw [HRE.out]
    exact ⟨rfl, HEX.out⟩
set_option maxHeartbeats 4000000 in
theorem tcount_any (bs : Nat → Nat) (v : Nat → Value) (T : Nat → List It) (V : Nat → Int) (SB : Nat) (w : World) (hS : SignsAt SB w) (hSB : SB ≤ w.heap.size) (h : LvsAt w bs v T) (hl : trunkB T V = true) :
    Calls Tryz.prog 89 #[.agg (trC v V)] w fun e w' => e = .returned (.int .i64 (ctK T 16 : Int)) ∧ Ext w w' := by
  have HL := Lib.hid h
  have HS := Lib.hid hS
  have HTB := Lib.hid hl
  have TM := Lib.hid fun (W : World) (hx : Ext w W) => tmay_any bs v T V SB W (hS.ext hx hSB) (Nat.le_trans hSB hx.size) (h.ext hx)
  rw [hl] at TM
  clear hS h hl
  go_enter Tryz.func89, Tryz.ntmps89
  go_wp2_with (first
    | (refine wpList_load_row rfl 29 _ rfl w.heap.size rfl 29 (trC v V) (0, 0) _ (heap_alloc_new w _) Tryz.underlying29 rfl (by kernel_rfl) ?_)
    | (refine wpList_load_part rfl 27 _ rfl w.heap.size 0 rfl 29 (trC v V) (lvL v) (0, 0) _ HBK Tryz.underlying27 rfl (by kernel_rfl) (lvL_get v V) ?_)
    | (go_at_call 52; refine (TM.out _ (by repeat (first | exact Ext.refl _ | apply Ext.alloc | apply Ext.more | apply Ext.drewN))).mono ?_; rintro e _ ⟨rfl, d1, os1, rfl⟩; have HBK : (more (w.alloc (.cells (trC v V) 29)) d1 os1).heap[w.heap.size]? = some (.cells (trC v V) 29 (0, 0)) := by rw [more_heap _ _ _ _ (by simp)]; exact heap_alloc_new w _))
  go_loopw [3, 11] (fun nv ii wr => ∃ k m : Nat, ii = .int .i64 (k : Int) ∧ nv = .int .i64 (m : Int) ∧ k ≤ 16 ∧ m ≤ 64 * k ∧ Hid (ctK T k = m ∧ Ext w wr)) (fun _ ii _ => 16 - (intOf ii).toNat)
  case atStart => exact ⟨0, 0, rfl, rfl, Nat.zero_le _, by omega, Lib.hid ⟨rfl, (((Ext.refl w).alloc _).more _ _)⟩⟩
  case round =>
    obtain ⟨k, m, rfl, rfl, hk16, hm, hH⟩ := hrel
    have HEX := Lib.hid hH.out.2
    by_cases hk : k < 16
    · have hix := fun W => idx_lv v k hk W
      have hkI : (k : Int) < 16 := by omega
      have hk0 : (0 : Int) ≤ (k : Int) := by omega
      have hmI : (m : Int) ≤ 16 * 64 := by omega
      have hlb := (fits_parts (trunk_fits HTB.out k hk)).1
      obtain ⟨hok, p1, c1, hvk, _, _⟩ := HL.out k hk
      obtain ⟨z, hz⟩ : ∃ z, (T k).length = z := ⟨_, rfl⟩
      have HZ := Lib.hid hz
      have hz2 : z ≤ 64 := by rw [← hz]; exact (leafB_may hlb).1
      rw [hz] at hvk
      rw [hvk] at hix
      have hzI : (z : Int) ≤ 64 := by omega
      clear hlb hz hok hvk
      go_wp2_with fail
      go_roundw
      case rel => exact ⟨k + 1, m + z, by go_num, by go_num, by omega, by omega, Lib.hid ⟨by unfold ctK; rw [hH.out.1, HZ.out], (by repeat (first | exact HEX.out | apply Ext.alloc | apply Ext.more | apply Ext.drewN))⟩⟩
      case measure => simp [intOf]; omega
    have hkn : k = 16 := by omega
    subst hkn
    have HRE := Lib.hid hH.out.1
    go_wp2_with fail
    go_ret
    rw [HRE.out]
    exact ⟨rfl, HEX.out⟩
end Go.Proofs.YtpchohjkelopoaaGreatDoor

set_option maxRecDepth 20000
namespace Go.Proofs.YtpchohjkelopoaaGreatDoor
open Go.RowKit
attribute [go_sem] more_more Array.size_append
theorem its_cells : ∀ (l : List It) (w : World) (b off : Nat), ItsAt w b off l → ∀ j u, (itCells l)[j]? = some u → w.cell? ⟨b, off + j, none⟩ = some u
  | [], w, b, off, h, j, u, hj => by simp [itCells] at hj
  | x :: l, w, b, off, h, j, u, hj => by
    have ht : ItsAt w b (off + 1 * 5) l := h.drop 1
    simp only [itCells] at hj
    by_cases h5 : j < 5
    · rw [List.getElem?_append_left (by simpa [itL] using h5)] at hj
      obtain ⟨a0, a1, a2, a3, a4⟩ := h 0 x rfl
      simp only [Nat.zero_mul, Nat.add_zero] at a0 a1 a2 a3 a4
      match j, h5, hj with
      | 0, _, hj => simp [itL] at hj; subst hj; exact a0
      | 1, _, hj => simp [itL] at hj; subst hj; exact a1
      | 2, _, hj => simp [itL] at hj; subst hj; exact a2
      | 3, _, hj => simp [itL] at hj; subst hj; exact a3
      | 4, _, hj => simp [itL] at hj; subst hj; exact a4
      | j + 5, h, _ => omega
    · rw [List.getElem?_append_right (by simp [itL]; omega)] at hj
      have := its_cells l w b _ ht _ u hj
      rw [show off + j = off + 1 * 5 + (j - (itL x).length) by simp [itL]; omega]
      exact this
/-- a leaf as the source of an append -/
theorem lf_src {w : World} {b : Nat} {v : Value} {l : List It} (h : LfAt w b v l) : Src Tryz.prog 5 26 v l.length (itCells l) w := by
  obtain ⟨_, p, cap, rfl, hcap, hp⟩ := h
  by_cases hl : 0 < l.length
  · obtain ⟨off, rfl, hi⟩ := hp hl
    exact Src.ofSlice w Tryz.underlying26 ⟨b, off, none⟩ _ cap _ (itCells_len l) (fun j u hj => by rw [Addr.add_lit]; exact its_cells l w b off hi j u hj) (it_one l)
  · have : l = [] := List.eq_nil_of_length_eq_zero (by omega)
    subst this
    cases p with
    | none => exact Src.ofNil w Tryz.underlying26 cap
    | some a => exact Src.ofSlice w Tryz.underlying26 a 0 cap [] rfl (fun j u hj => by simp at hj) (by simp)
theorem itCells_app : ∀ (l m : List It), itCells (l ++ m) = itCells l ++ itCells m
  | [], m => by simp [itCells]
  | x :: l, m => by simp [itCells, itCells_app l m]
/-- the items of the first leaves -/
def allK (T : Nat → List It) : Nat → List It
  | 0 => []
  | k + 1 => allK T k ++ T k
theorem allK_len (T : Nat → List It) : ∀ k, (allK T k).length = ctK T k
  | 0 => rfl
  | k + 1 => by simp [allK, ctK, allK_len T k]
theorem allK_wt (T : Nat → List It) : ∀ k, wtL (allK T k) = wtK T k
  | 0 => rfl
  | k + 1 => by simp [allK, wtK, wtL_app, allK_wt T k]
theorem allK_mem {T : Nat → List It} {x : It} : ∀ k, x ∈ allK T k → ∃ j, j < k ∧ x ∈ T j
  | 0, h => by simp [allK] at h
  | k + 1, h => by
    rcases List.mem_append.1 h with h | h
    · obtain ⟨j, h1, h2⟩ := allK_mem k h
      exact ⟨j, by omega, h2⟩
    · exact ⟨k, by omega, h⟩
set_option maxHeartbeats 4000000 in
theorem rall_any (bs : Nat → Nat) (v : Nat → Value) (T : Nat → List It) (V : Nat → Int) (w : World) (h : LvsAt w bs v T) (hl : trunkB T V = true) :
    Calls Tryz.prog 63 #[.agg (trC v V)] w fun e w' => ∃ v', e = .returned v' ∧ w'.ownsRow w.heap.size 152 5 v' (ctK T 16) (itCells (allK T 16)) ∧ Ext w w' := by
  obtain ⟨i1, hi1, hy0, hy1, hy2⟩ := info_parts itInfo
  have HL := Lib.hid h
  have HTB := Lib.hid hl
  clear h hl
  unfold trC
  go_enter Tryz.func63, Tryz.ntmps63
  go_wp2_with fail
  obtain ⟨N, hN⟩ : ∃ N, w.heap.size = N := ⟨_, rfl⟩
  have HN := Lib.hid hN
  go_loopw [3, 4] (fun out ii wr => ∃ k m : Nat, ii = .int .i64 (k : Int) ∧ k ≤ 16 ∧ m ≤ 64 * k ∧ Hid (ctK T k = m ∧ TrBlk wr N v V ∧ wr.ownsRow w.heap.size 152 5 out m (itCells (allK T k)) ∧ Ext w wr)) (fun _ ii _ => 16 - (intOf ii).toNat)
  case atStart => exact ⟨0, 0, rfl, Nat.zero_le _, by omega, Lib.hid ⟨rfl, by unfold TrBlk; rw [← hN]; exact heap_alloc_new w _, World.ownsRow_nil _ _ _ _, (Ext.refl _).alloc _⟩⟩
  case round =>
    obtain ⟨k, m, rfl, hk16, hm, hH⟩ := hrel
    have HEX := Lib.hid hH.out.2.2.2
    by_cases hk : k < 16
    · have hcl := hH.out.2.1.leaf k hk
      have hNw : N < wr.heap.size := lt_of_heap hH.out.2.1
      have hkI : (k : Int) < 16 := by omega
      have hk0 : (0 : Int) ≤ (k : Int) := by omega
      have hlf := (HL.out k hk).ext HEX.out
      have hsrc := lf_src hlf
      have h64 := (leafB_may (fits_parts (trunk_fits HTB.out k hk)).1).1
      obtain ⟨_, p1, c1, hvk, _, _⟩ := hlf
      obtain ⟨z, hz⟩ : ∃ z, (T k).length = z := ⟨_, rfl⟩
      rw [hz] at hsrc h64 hvk
      obtain ⟨vk, hvv⟩ : ∃ vk, v k = vk := ⟨_, rfl⟩
      rw [hvv] at hsrc hvk hcl
      subst hvk
      have HSRC := Lib.hid hsrc
      have HZ := Lib.hid hz
      rw [hN]
      clear hN hsrc hz hvv
      go_wp2_with (at_builtin; refine wpList_append_src _ rfl _ _ 26 26 rfl w.heap.size 152 i1 (.agg #[.string ⟨#[]⟩, .int .i64 0, .int .i64 0, .string ⟨#[]⟩, .int .i64 0]) 5 56 Tryz.underlying26 hi1 hy0 hy1 hy2 rfl (by decide) _ m _ rfl hH.out.2.2.1 _ z _ rfl HSRC.out ?c3 ?c4 ?c5 ?_)
      case c3 => unfold maxLen; omega
      case c4 => omega
      case c5 => exact HEX.out.size
      intro v4 w4 hown4 hgrow4 _
      have hx4 := Ext.grown HEX.out hgrow4 (fun k hk => (hH.out.2.2.1.lt k hk).1)
      have HX4 := Lib.hid hx4
      have hb4 : TrBlk w4 N v V := by
        unfold TrBlk
        rw [hgrow4.block N hNw (fun q => by
          obtain ⟨cur2, hcu2⟩ := own_type hH.out.2.2.1 q.symm
          have := hH.out.2.1
          unfold TrBlk at this
          rw [this] at hcu2; simp at hcu2)]
        exact hH.out.2.1
      have HB4 := Lib.hid hb4
      have HO4 := Lib.hid hown4
      clear hown4 hgrow4 hx4 hb4
      go_wp2_with fail
      go_roundw
      case rel =>
        refine ⟨k + 1, m + z, by go_num, by omega, by omega, Lib.hid ⟨by unfold ctK; rw [hH.out.1, HZ.out], HB4.out, ?_, HX4.out⟩⟩
        unfold allK
        rw [itCells_app]
        have := HO4.out
        rw [HN.out] at this
        exact this
      case measure => simp [intOf]; omega
    have hkn : k = 16 := by omega
    subst hkn
    have HRE := Lib.hid hH.out.1
    go_wp2_with fail
    go_ret
    refine ⟨_, rfl, ?_, HEX.out⟩
    rw [HRE.out]
    exact hH.out.2.2.1
theorem wtK_le {T : Nat → List It} {V : Nat → Int} (hl : trunkB T V = true) (ho : ∀ k, k < 16 → ∀ x ∈ T k, ItOk x) : ∀ k, k ≤ 16 → wtK T k ≤ 25600 * k
  | 0, _ => by simp [wtK]
  | k + 1, h => by
    have hlb := leafB_may (fits_parts (trunk_fits hl k (by omega))).1
    have h1 := wtL_le (T k) (ho k (by omega)) hlb.2
    have h2 := wtK_le hl ho k (by omega)
    have h3 := hlb.1
    unfold wtK; omega
theorem ctK_le {T : Nat → List It} {V : Nat → Int} (hl : trunkB T V = true) : ∀ k, k ≤ 16 → ctK T k ≤ 64 * k
  | 0, _ => by simp [ctK]
  | k + 1, h => by
    have h3 := (leafB_may (fits_parts (trunk_fits hl k (by omega))).1).1
    have h2 := ctK_le hl k (by omega)
    unfold ctK; omega
set_option maxHeartbeats 4000000 in
theorem rweight_any (bs : Nat → Nat) (v : Nat → Value) (T : Nat → List It) (V : Nat → Int) (w : World) (h : LvsAt w bs v T) (hl : trunkB T V = true) :
    Calls Tryz.prog 62 #[.agg (trC v V)] w fun e w' => e = .returned (.int .i64 (wtK T 16 : Int)) ∧ Ext w w' := by
  have HAC := Lib.hid fun (W : World) (hx : Ext w W) => rall_any bs v T V W (h.ext hx) hl
  have hok : ∀ x ∈ allK T 16, ItOk x ∧ mayI x = true := fun x hx => by
    obtain ⟨j, hj, hx2⟩ := allK_mem 16 hx
    exact ⟨(h j hj).1 x hx2, (leafB_may (fits_parts (trunk_fits hl j hj)).1).2 x hx2⟩
  have hlen := ctK_le hl 16 (by omega)
  rw [← allK_wt, ← allK_len] at *
  obtain ⟨l, hll⟩ : ∃ l, allK T 16 = l := ⟨_, rfl⟩
  rw [hll] at hok hlen ⊢
  obtain ⟨n, hn⟩ : ∃ n, l.length = n := ⟨_, rfl⟩
  have AC : Hid (∀ W, Ext w W → Calls Tryz.prog 63 #[.agg (trC v V)] W fun e w' => ∃ v', e = .returned v' ∧ w'.ownsRow W.heap.size 152 5 v' n (itCells l) ∧ Ext W w') := Lib.hid fun W hx => by
    have := HAC.out W hx
    rw [hll, hn] at this
    exact this
  rw [hn] at hlen
  have HOK := Lib.hid hok
  have HN := Lib.hid hn
  have hnI : (n : Int) ≤ 1024 := by omega
  clear h hl hok hll hn HAC
  go_enter Tryz.func62, Tryz.ntmps62
  go_wp2_with (first
    | (refine wpList_load_row rfl 29 _ rfl w.heap.size rfl 29 (trC v V) (0, 0) _ (heap_alloc_new w _) Tryz.underlying29 rfl (by kernel_rfl) ?_)
    | (go_at_call 63; refine (AC.out _ (by repeat (first | exact Ext.refl _ | apply Ext.alloc | apply Ext.more | apply Ext.drewN))).mono ?_; rintro e w1 ⟨lv, rfl, hown, hx⟩; obtain ⟨b1, hlf, _, _⟩ := own_lf hown HN.out (fun x hx => (HOK.out x hx).1); obtain ⟨_, p1, c1, hlv, _, hpp⟩ := hlf; rw [HN.out] at hlv hpp; subst hlv; have HP := Lib.hid hpp; have HX1 := Lib.hid (((Ext.refl w).alloc _).trans hx); clear hown hx hpp))
  go_loopw [3, 5] (fun nv ii wr => ∃ k m : Nat, ii = .int .i64 (k : Int) ∧ nv = .int .i64 (m : Int) ∧ k ≤ n ∧ m ≤ 400 * k ∧ Hid (wtL (l.take k) = m ∧ Ext w1 wr)) (fun _ ii _ => n - (intOf ii).toNat)
  case atStart => exact ⟨0, 0, rfl, rfl, Nat.zero_le _, by omega, Lib.hid ⟨by simp [wtL], Ext.refl _⟩⟩
  case round =>
    obtain ⟨k, m, rfl, rfl, hk, hm, hH⟩ := hrel
    have HEX := Lib.hid hH.out.2
    by_cases hlt : k < n
    · obtain ⟨x, hx⟩ := get_at HN.out hlt
      obtain ⟨off, rfl, hi⟩ := HP.out (by omega)
      obtain ⟨a0, a1, a2, a3, a4⟩ := (hi.ext HEX.out) k x hx
      have hg := World.block_lt_of_cell? _ _ a0
      obtain ⟨hox, hmx⟩ := HOK.out x (List.mem_of_getElem? hx)
      have HW := Lib.hid (wtL_snoc hx)
      have hwle := wtI_le hox hmx
      unfold wtI at hwle
      have EC := Lib.hid fun W => renc_any x.vk x.vi x.vs (mayI_parts hmx).1 hox.vi.1 hox.vi.2 W
      have hkI : (k : Int) < (n : Int) := by omega
      have hk0 : (0 : Int) ≤ (k : Int) := by omega
      have hks := hox.k
      obtain ⟨xk, xvk, xvi, xvs, xver⟩ := x
      dsimp only at a0 a1 a2 a3 a4 hwle EC hks hg
      unfold wtI at HW
      dsimp only at HW
      obtain ⟨se, hse⟩ : ∃ se : ByteArray, (⟨(encB xvk xvi xvs).toArray⟩ : ByteArray) = se := ⟨_, rfl⟩
      have hsl : (encB xvk xvi xvs).length = se.size := by rw [← hse]; rfl
      rw [hse] at EC
      rw [hsl] at HW hwle
      have HLT := Lib.hid hlt
      have hI1 : (xk.size : Int) ≤ 255 := by omega
      have hI2 : (se.size : Int) ≤ 400 := by omega
      have hI3 : (m : Int) ≤ 409600 := by omega
      clear hx hlt hi hox hmx hse hsl
      go_wp2_with fail
      refine wp_region_grow 14 31 [true, false, false, false, false, false, false, false, false, false, false, false, false, false] (by kernel_rfl) (by kernel_rfl) rfl ?_
      simp only [List.take_succ_cons, List.take_zero, List.drop_succ_cons, List.drop_zero]
      refine Lex.stepP rfl rfl ?_; intro K hK; go_simp; refine hK _ ?_; clear hK K
      repeat (refine Lex.step rfl ?_; intro K hK; unfold StepG; go_simp; (first
          | refine hK _ ?_
          | (with_reducible refine ⟨_, fun d os => (ret1 (EC.out _)), ?_⟩; go_simp; refine hK _ ?_)); clear hK K)
      refine Lex.nil fun WW hE => ?_
      obtain ⟨dd, oo, rfl⟩ := hE
      unfold FillH
      go_wp2_with fail
      rw [ends_normal]
      go_wp2_with fail
      go_roundw
      case rel =>
        refine ⟨k + 1, m + (xk.size + se.size), by go_num, by go_num, by have := HLT.out; omega, by omega, Lib.hid ⟨by rw [HW.out, hH.out.1], by repeat (first | exact HEX.out | apply Ext.alloc | apply Ext.more | apply Ext.drewN)⟩⟩
      case measure => have := HLT.out; simp [intOf]; omega
    · have hje : k = n := by omega
      subst hje
      have hre := hH.out.1
      rw [List.take_of_length_le (by have := HN.out; omega)] at hre
      have HRE := Lib.hid hre
      clear hlt hre
      go_wp2_with fail
      go_ret
      rw [HRE.out]
      exact ⟨rfl, HX1.out.trans HEX.out⟩
end Go.Proofs.YtpchohjkelopoaaGreatDoor

set_option maxRecDepth 20000
namespace Go.Proofs.YtpchohjkelopoaaGreatDoor
open Go.RowKit
attribute [go_sem] more_more Array.size_append
/-- a store's cells -/
def stC (v : Nat → Value) (V : Nat → Int) (a b c : Int) : Array Value := #[v 0, v 1, v 2, v 3, v 4, v 5, v 6, v 7, v 8, v 9, v 10, v 11, v 12, v 13, v 14, v 15, .int .i64 (V 0), .int .i64 (V 1), .int .i64 (V 2), .int .i64 (V 3), .int .i64 (V 4), .int .i64 (V 5), .int .i64 (V 6), .int .i64 (V 7), .int .i64 (V 8), .int .i64 (V 9), .int .i64 (V 10), .int .i64 (V 11), .int .i64 (V 12), .int .i64 (V 13), .int .i64 (V 14), .int .i64 (V 15), .int .i64 a, .int .i64 b, .int .i64 c]
def StBlk (w : World) (N : Nat) (v : Nat → Value) (V : Nat → Int) (a b c : Int) : Prop := w.heap[N]? = some (.cells (stC v V a b c) 56 (0, 0))
theorem StBlk.ext {w w' : World} {N : Nat} {v : Nat → Value} {V : Nat → Int} {a b c : Int} (h : StBlk w N v V a b c) (hx : Ext w w') : StBlk w' N v V a b c := by
  unfold StBlk at h ⊢
  rw [hx.below.block N (lt_of_heap h)]; exact h
theorem stC_ext (v : Nat → Value) (V : Nat → Int) (a b c : Int) : stC v V a b c = trC v V ++ #[.int .i64 a, .int .i64 b, .int .i64 c] := rfl
theorem stC_tr (v : Nat → Value) (V : Nat → Int) (a b c : Int) : ∀ j u, (trC v V).toList[j]? = some u → (stC v V a b c)[0 + j]? = some u := by
  intro j u h
  rw [Nat.zero_add, stC_ext, Array.getElem?_append, if_pos (by have := (List.getElem?_eq_some_iff.1 h).1; simpa using this)]
  rw [← Array.getElem?_toList]; exact h
theorem stC_ver (v : Nat → Value) (V : Nat → Int) (a b c : Int) (k : Nat) (hk : k < 16) : (stC v V a b c)[16 + k]? = some (.int .i64 (V k)) := by
  have h := trC_ver v V k hk
  rw [← Array.getElem?_toList] at h
  have := stC_tr v V a b c (16 + k) _ h
  rwa [Nat.zero_add] at this
theorem StBlk.cell {w : World} {N : Nat} {v : Nat → Value} {V : Nat → Int} {a b c : Int} (h : StBlk w N v V a b c) (j : Nat) : w.cell? ⟨N, j, none⟩ = (stC v V a b c)[j]? := cell_of_row w N j _ _ _ h
theorem StBlk.ver {w : World} {N : Nat} {v : Nat → Value} {V : Nat → Int} {a b c : Int} (h : StBlk w N v V a b c) (k : Nat) (hk : k < 16) : w.cell? ⟨N, 16 + k, none⟩ = some (.int .i64 (V k)) := by rw [h.cell, stC_ver v V a b c k hk]
theorem StBlk.tail {w : World} {N : Nat} {v : Nat → Value} {V : Nat → Int} {a b c : Int} (h : StBlk w N v V a b c) : w.cell? ⟨N, 32, none⟩ = some (.int .i64 a) ∧ w.cell? ⟨N, 33, none⟩ = some (.int .i64 b) ∧ w.cell? ⟨N, 34, none⟩ = some (.int .i64 c) := ⟨h.cell 32, h.cell 33, h.cell 34⟩
theorem wpList_load_sub {P : Program} {ops : Array Oper} {rest : List Oper} {o : Oper} {a : Act} {w : World} {Q : Exit → Act → World → Prop} (hgd : o.guard = none) (ty : TypeId) (x : Operand) (ho : o.op = .load ty x)
    (g off : Nat) (hx : a.eval x = .pointer (some ⟨g, off, none⟩)) (t : TypeId) (cs sub : Array Value) (fr : Nat × Nat) (d : TypeDesc) (hg : w.heap[g]? = some (.cells cs t fr))
    (hu : P.underlying ty = some d) (hd : (match d with | .struct _ | .array _ _ => true | _ => false) = true) (hi : (P.info? ty).map (·.size) = some sub.size) (hl : ∀ j v, sub.toList[j]? = some v → cs[off + j]? = some v)
    (h : wpList P ops Q rest (a.put o.dst (.agg sub)) w) : wpList P ops Q (o :: rest) a w :=
  wpList_load_part hgd ty x ho g off hx t cs sub.toList fr d hg hu hd (by simpa using hi) hl (by simpa using h)
def inB (v m : Int) : Bool := decide (0 ≤ v) && decide (v ≤ m)
def storeB (T : Nat → List It) (V : Nat → Int) (a b c : Int) : Bool :=
  trunkB T V && inB a 2147483647 && inB b 65536 && inB c 1024 && ((List.range 16).all fun k => decide (V k ≤ a)) && decide ((wtK T 16 : Int) ≤ b) && decide ((ctK T 16 : Int) ≤ c)
def versB (V : Nat → Int) (a : Int) : Bool := (List.range 16).all fun k => decide (V k ≤ a)
theorem versB_no {V : Nat → Int} {a : Int} {k : Nat} (hk : k < 16) (h : a < V k) : versB V a = false := by
  unfold versB
  rw [Bool.eq_false_iff]
  intro q
  have := List.all_eq_true.1 q k (List.mem_range.2 hk)
  simp at this; omega
theorem versB_yes {V : Nat → Int} {a : Int} (h : ∀ k, k < 16 → V k ≤ a) : versB V a = true := by
  unfold versB
  exact List.all_eq_true.2 fun k hk => by simpa using h k (List.mem_range.1 hk)
theorem storeB_eq (T : Nat → List It) (V : Nat → Int) (a b c : Int) : storeB T V a b c = (trunkB T V && inB a 2147483647 && inB b 65536 && inB c 1024 && versB V a && decide ((wtK T 16 : Int) ≤ b) && decide ((ctK T 16 : Int) ≤ c)) := rfl
set_option maxHeartbeats 400000 in
theorem within_any (v m : Int) (w : World) : Calls Tryz.prog 87 #[.int .i64 v, .int .i64 m] w fun e w' => e = .returned (.bool (inB v m)) ∧ w = w' := by
  unfold inB
  by_cases h : 0 ≤ v
  · have h1 : decide (0 ≤ v) = true := by simpa using h
    rw [h1, Bool.true_and]
    go_enter Tryz.func87, Tryz.ntmps87
    go_wp2_with fail
    go_ret
    exact ⟨rfl, rfl⟩
  · have h1 : decide (0 ≤ v) = false := by simpa using h
    rw [h1, Bool.false_and]
    go_enter Tryz.func87, Tryz.ntmps87
    go_wp2_with fail
    go_ret
    exact ⟨rfl, rfl⟩
set_option maxHeartbeats 400000 in
theorem rin_any (v m : Int) (w : World) : Calls Tryz.prog 61 #[.int .i64 v, .int .i64 m] w fun e w' => e = .returned (.bool (inB v m)) ∧ w = w' := by
  unfold inB
  by_cases h : 0 ≤ v
  · have h1 : decide (0 ≤ v) = true := by simpa using h
    rw [h1, Bool.true_and]
    go_enter Tryz.func61, Tryz.ntmps61
    go_wp2_with fail
    go_ret
    exact ⟨rfl, rfl⟩
  · have h1 : decide (0 ≤ v) = false := by simpa using h
    rw [h1, Bool.false_and]
    go_enter Tryz.func61, Tryz.ntmps61
    go_wp2_with fail
    go_ret
    exact ⟨rfl, rfl⟩
end Go.Proofs.YtpchohjkelopoaaGreatDoor

set_option maxRecDepth 20000
namespace Go.Proofs.YtpchohjkelopoaaGreatDoor
open Go.RowKit
attribute [go_sem] more_more Array.size_append
theorem nil_one : ∀ k, k < 16 → (nilV k).oneCell' = true := fun _ _ => rfl
theorem bysInfo' : (Tryz.prog.info? 135).map (fun i => (i.zero, i.size, i.bytes)) = some (some (.slice none 0 0), 1, 24) := by kernel_rfl
theorem LvsAt.otherRow {w : World} {bs : Nat → Nat} {v : Nat → Value} {T : Nat → List It} (h : LvsAt w bs v T) (hy : LvTy w bs T) {M : Nat} {v2 : Nat → Value} {V2 : Nat → Int} (hM : TrBlk w M v2 V2) (x : Array Value) : LvsAt (w.setRow M x) bs v T ∧ LvTy (w.setRow M x) bs T := by
  have h1 : LvsTo 16 w bs v T := fun j hj => ⟨h j hj, hy j hj⟩
  exact (h1.otherRow hM x).all
end Go.Proofs.YtpchohjkelopoaaGreatDoor

set_option maxRecDepth 20000
namespace Go.Proofs.YtpchohjkelopoaaGreatDoor
open Go.RowKit
attribute [go_sem] more_more Array.size_append
theorem txt_map (ts : List ByteArray) : (ts.map txt).map strC = ts.map Value.string := by simp [txt, strC]
end Go.Proofs.YtpchohjkelopoaaGreatDoor

set_option maxRecDepth 20000
namespace Go.Proofs.YtpchohjkelopoaaGreatDoor
open Go.RowKit
attribute [go_sem] more_more Array.size_append
theorem wpList_load_rowG {P : Program} {ops : Array Oper} {rest : List Oper} {o : Oper} {a : Act} {w : World} {Q : Exit → Act → World → Prop} (hw : Region.wanted o (yielded ops a.tmps) = true) (ty : TypeId) (x : Operand) (ho : o.op = .load ty x)
    (g : Nat) (hx : a.eval x = .pointer (some ⟨g, 0, none⟩)) (t : TypeId) (cs : Array Value) (fr : Nat × Nat) (d : TypeDesc) (hg : w.heap[g]? = some (.cells cs t fr))
    (hu : P.underlying ty = some d) (hd : (match d with | .struct _ | .array _ _ => true | _ => false) = true) (hi : (P.info? ty).map (·.size) = some cs.size)
    (h : wpList P ops Q rest (a.put o.dst (.agg cs)) w) : wpList P ops Q (o :: rest) a w := by
  unfold wpList
  rw [if_pos hw]
  exact Or.inl (wp_load_row ty x ho g hx t cs fr d hg hu hd hi h)
/-! ### the examples -/
theorem nil_trunk : trunkB (tOf []) zeroV = true := by decide +kernel
end Go.Proofs.YtpchohjkelopoaaGreatDoor

set_option maxRecDepth 20000
namespace Go.Proofs.YtpchohjkelopoaaGreatDoor
open Go.RowKit
attribute [go_sem] more_more Array.size_append
end Go.Proofs.YtpchohjkelopoaaGreatDoor

set_option maxRecDepth 100000
namespace Go.Proofs.YtpchohjkelopoaaGreatDoor
open Go.RowKit
open Go.ChangeShapes Go.WideShapes Go.ChangeAt Go.Joins
theorem weightsAll_mem {H : Type} {P : Program} {e : TypeId} {d : DataW H} {n : Nat} (hn : n ∈ d.weights P e) : ∀ (ds : List (DataW H)), d ∈ ds → n ∈ DataW.weightsAll P e ds
  | [], h => by simp at h
  | x :: ds, h => by
    simp only [DataW.weightsAll, List.mem_append]
    rcases List.mem_cons.1 h with rfl | h
    · exact Or.inl hn
    · exact Or.inr (weightsAll_mem hn ds h)
/-- the laid table of powers -/
theorem pow_of {r : List (String × DataW Unit)} {W : World} (h3 : laidMet Tryz.prog (("internal/strconv.uint64pow10", Rows.laid_internal_strconv_uint64pow10) :: r) W) : Pow10 W.heap.size W := by
  have hg : Tryz.prog.globalNamed "internal/strconv.uint64pow10" = some 4 := by kernel_rfl
  have hgt : (Tryz.prog.globals[4]?).map (·.type) = some 258 := by kernel_rfl
  have t := Lib.tabIs_of_head (k := .u64) (zs := Lib.pow10Tab) hg hgt Tryz.underlying258 Tryz.underlying191 (by kernel_rfl) (by kernel_rfl) h3
  refine ⟨⟨4, hg, ?_⟩, t⟩
  unfold Lib.TabIs World.var? at t
  rw [hg] at t
  simp only [Option.bind_some] at t
  rcases Nat.lt_or_ge 4 W.heap.size with h | h
  · exact h
  · rw [Array.getElem?_eq_none h] at t; cases t
/-- the laid table of signs -/
theorem signs_of {r : List (String × DataW Unit)} {W : World} (h : laidMet Tryz.prog (("plenum/key.signs", Rows.laid_plenum_key_signs) :: r) W) : SignsAt W.heap.size W := by
  have hg : Tryz.prog.globalNamed "plenum/key.signs" = some 3 := by kernel_rfl
  have hgt : (Tryz.prog.globals[3]?).map (·.type) = some 249 := by kernel_rfl
  have t := Lib.tabIs_of_head (k := .u64) (zs := [288195191779622912, 576460745860972544]) hg hgt Tryz.underlying249 Tryz.underlying191 (by kernel_rfl) (by kernel_rfl) h
  have c0 := t.cell hg 0 (by decide)
  have c1 := t.cell hg 1 (by decide)
  exact ⟨World.block_lt_of_cell? _ _ c0, c0, c1⟩
end Go.Proofs.YtpchohjkelopoaaGreatDoor
