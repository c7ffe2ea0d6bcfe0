/- Lemmas for the claim (texts Lf4, Lf5, Lf6, what its proof uses of them). -/
import Derived.Test.YtpchohjkelopoaaGreatDoorK06
set_option linter.unusedSimpArgs false
set_option linter.unusedVariables false
set_option maxRecDepth 20000
namespace Go.Proofs.YtpchohjkelopoaaGreatDoor
open Go.RowKit
attribute [go_sem] more_more Array.size_append
/-- a slice that reads as bytes; its block is one of bytes, behind base -/
def SlB (base : Nat) (w : World) (v : Value) (l : List UInt8) : Prop := ∃ b off cap, v = .slice (some ⟨b, off, none⟩) l.length cap ∧ l.length ≤ cap ∧ base ≤ b ∧ BytesAt w b off l ∧ ∃ cur fz, w.heap[b]? = some (.cells cur 5 fz)
theorem BytesAt.of_block {w w' : World} {b off : Nat} {l : List UInt8} (h : BytesAt w b off l) (e : w'.heap[b]? = w.heap[b]?) : BytesAt w' b off l := fun j u hj => (World.cell?_of_block e).trans (h j u hj)
theorem lt_of_heap {w : World} {b : Nat} {o : Obj} (h : w.heap[b]? = some o) : b < w.heap.size := (Array.getElem?_eq_some_iff.1 h).1
theorem SlB.kept {base : Nat} {w w' : World} {v : Value} {l : List UInt8} (h : SlB base w v l) (hk : ∀ b cur fz, base ≤ b → w.heap[b]? = some (.cells cur 5 fz) → w'.heap[b]? = w.heap[b]?) : SlB base w' v l := by
  obtain ⟨b, off, cap, h1, h2, h3, h4, cur, fz, h5⟩ := h
  have e := hk b cur fz h3 h5
  exact ⟨b, off, cap, h1, h2, h3, h4.of_block e, cur, fz, e.trans h5⟩
theorem SlB.ext {base : Nat} {w w' : World} {v : Value} {l : List UInt8} (h : SlB base w v l) (hx : Ext w w') : SlB base w' v l :=
  h.kept fun b cur fz _ hb => hx.below.block b (lt_of_heap hb)
theorem SlB.of_own {base : Nat} {w : World} {v : Value} {l : List UInt8} (hl : 0 < l.length) (h : w.ownsRow base 5 1 v l.length (cellsB l)) : SlB base w v l := by
  obtain ⟨g, cap, rfl, hg, hlt⟩ := h.form hl
  rcases h.2 with ⟨_, h0⟩ | ⟨g', cap', cur, hv, _, hh, hc, _⟩
  · omega
  · simp only [Value.slice.injEq, Option.some.injEq, Addr.mk.injEq, and_true, true_and] at hv
    obtain ⟨rfl, rfl⟩ := hv
    refine ⟨g, 0, cap, rfl, hc, hg, ?_, cur, (0, 0), hh⟩
    intro j u hj
    have := h.cells (g := g) rfl j (.int .u8 (u.toNat : Int)) (by simp [cellsB, hj])
    rwa [Addr.add_lit] at this
/-- slices that read as texts of bytes -/
def Bys (base : Nat) (w : World) (vs : List Value) (L : List (List UInt8)) : Prop := vs.length = L.length ∧ ∀ (i : Nat) (v : Value) (l : List UInt8), vs[i]? = some v → L[i]? = some l → SlB base w v l
theorem Bys.nil (base : Nat) (w : World) : Bys base w [] [] := ⟨rfl, fun i v l h => by simp at h⟩
theorem Bys.kept {base : Nat} {w w' : World} {vs : List Value} {L : List (List UInt8)} (h : Bys base w vs L) (hk : ∀ b cur fz, base ≤ b → w.heap[b]? = some (.cells cur 5 fz) → w'.heap[b]? = w.heap[b]?) : Bys base w' vs L :=
  ⟨h.1, fun i v l h1 h2 => (h.2 i v l h1 h2).kept hk⟩
theorem Bys.ext {base : Nat} {w w' : World} {vs : List Value} {L : List (List UInt8)} (h : Bys base w vs L) (hx : Ext w w') : Bys base w' vs L := ⟨h.1, fun i v l h1 h2 => (h.2 i v l h1 h2).ext hx⟩
theorem Bys.snoc {base : Nat} {w : World} {vs : List Value} {L : List (List UInt8)} {v : Value} {l : List UInt8} (h : Bys base w vs L) (hv : SlB base w v l) : Bys base w (vs ++ [v]) (L ++ [l]) := by
  refine ⟨by simp [h.1], fun i u m hu hm => ?_⟩
  by_cases hi : i < vs.length
  · rw [List.getElem?_append_left hi] at hu
    rw [List.getElem?_append_left (by rw [← h.1]; exact hi)] at hm
    exact h.2 i u m hu hm
  · rw [List.getElem?_append_right (by omega)] at hu
    rw [List.getElem?_append_right (by rw [← h.1]; omega)] at hm
    rw [← h.1] at hm
    obtain ⟨k, hk⟩ : ∃ k, i - vs.length = k := ⟨_, rfl⟩
    rw [hk] at hu hm
    cases k with
    | zero => simp at hu hm; subst hu hm; exact hv
    | succ k => simp at hu
/-- an append to a row of slices leaves rows of bytes -/
theorem Bys.grown {base base2 size n : Nat} {w w' : World} {vs xs : List Value} {L : List (List UInt8)} {v : Value} {e : TypeId} (h : Bys base w vs L) (hg : w.grownBy w' v.ownBlock) (hown : w.ownsRow base2 e size v n xs) (he : e ≠ 5) : Bys base w' vs L := by
  refine h.kept fun b cur fz hb hc => hg.block b (lt_of_heap hc) fun q => he ?_
  rcases hown.2 with ⟨rfl, _⟩ | ⟨g, cap, cur2, rfl, _, hh, _⟩
  · simp [Value.ownBlock] at q
  · simp only [Value.ownBlock, Option.some.injEq] at q
    subst q
    rw [hc] at hh
    simp at hh
    exact hh.2.1.symm
theorem chunk_len (l : List It) (ho : ∀ x ∈ l, ItOk x) (hm : ∀ x ∈ l, mayI x = true) (a k : Nat) : (((l.drop a).take k).flatMap itB).length ≤ 400 * k := by
  have : ∀ (m : List It), (∀ x ∈ m, ItOk x) → (∀ x ∈ m, mayI x = true) → (m.flatMap itB).length ≤ 400 * m.length := by
    intro m
    induction m with
    | nil => simp
    | cons x m ih =>
      intro h1 h2
      have q := itB_len x (h1 x (by simp)) (h2 x (by simp))
      have r := ih (fun y hy => h1 y (by simp [hy])) (fun y hy => h2 y (by simp [hy]))
      simp only [List.flatMap_cons, List.length_append, List.length_cons]
      omega
  have h1 := this ((l.drop a).take k) (fun x hx => ho x (List.mem_of_mem_drop (List.mem_of_mem_take hx))) (fun x hx => hm x (List.mem_of_mem_drop (List.mem_of_mem_take hx)))
  have h2 := List.length_take_le k (l.drop a)
  have := Nat.mul_le_mul_left 400 h2
  omega
theorem chkF_may : ∀ (l : List It) (p : Option It) (i : Nat), (chkF p i l).1 = 0 → ∀ x ∈ l, mayI x = true
  | [], _, _, _, x, hx => by simp at hx
  | y :: l, none, i, h, x, hx => by
    unfold chkF at h
    split at h
    · simp at h
    · next hy =>
      rcases List.mem_cons.1 hx with rfl | hx
      · simpa using hy
      · exact chkF_may l _ _ h x hx
  | y :: l, some z, i, h, x, hx => by
    unfold chkF at h
    split at h
    · simp at h
    · next hy =>
      split at h
      · simp at h
      · rcases List.mem_cons.1 hx with rfl | hx
        · simpa using hy
        · exact chkF_may l _ _ h x hx
theorem leafB_may {l : List It} (h : leafB l = true) : l.length ≤ 64 ∧ ∀ x ∈ l, mayI x = true := by
  unfold leafB leafF at h
  split at h
  · simp at h
  · exact ⟨by omega, chkF_may l none 0 (by simpa using h)⟩
theorem take_itB (l : List It) (a i : Nat) (x : It) (hx : l[a + i]? = some x) : ((l.drop a).take (i + 1)).flatMap itB = ((l.drop a).take i).flatMap itB ++ itB x := by
  rw [List.take_add_one, List.getElem?_drop, hx]
  simp
theorem range_snoc (l : List It) (j : Nat) : (List.range (j + 1)).map (chunkN l) = (List.range j).map (chunkN l) ++ [chunkN l j] := by simp [List.range_succ]
theorem chunkN_pos (l : List It) (j : Nat) : 0 < (chunkN l j).length := by simp [chunkN]
/-- what a contract says of slices of bytes that it hands back -/
def OwnBys (w w' : World) (e : Ending) (L : List (List UInt8)) : Prop :=
  ∃ v vs, e = .returned v ∧ w'.ownsRow w.heap.size 135 1 v L.length vs ∧ Bys w.heap.size w' vs L ∧ Ext w w'
theorem bysInfo : (Tryz.prog.info? 135).map (fun i => (i.zero, i.size, i.bytes)) = some (some (.slice none 0 0), 1, 24) := by kernel_rfl
set_option maxHeartbeats 1000000 in
theorem chunks_no (b : Nat) (v : Value) (l : List It) (B : Nat) (w : World) (hS : SignsAt B w) (hB : B ≤ w.heap.size) (h : LfAt w b v l) (hl : leafB l = false) : Calls Tryz.prog 64 #[v] w fun e w' => e = .returned (.slice none 0 0) ∧ Ext w w' := by
  have H := Lib.hid (lis_any b v l B w hS hB h)
  rw [hl] at H
  clear h hS hl
  go_enter Tryz.func64, Tryz.ntmps64
  go_wp2_with (go_at_call 91; refine H.out.mono ?_; rintro e _ ⟨rfl, d1, os1, rfl⟩)
  go_ret
  exact ⟨rfl, by repeat (first | exact Ext.refl _ | apply Ext.alloc | apply Ext.more | apply Ext.drewN)⟩
set_option maxHeartbeats 8000000 in
theorem chunks_any (b : Nat) (v : Value) (l : List It) (B : Nat) (w : World) (hS : SignsAt B w) (hB : B ≤ w.heap.size) (h : LfAt w b v l) (hl : leafB l = true) : Calls Tryz.prog 64 #[v] w fun e w' => OwnBys w w' e (chunksF l) := by
  have H := Lib.hid (lis_any b v l B w hS hB h)
  rw [hl] at H
  obtain ⟨h64, hmay⟩ := leafB_may hl
  obtain ⟨ho, p, cap, rfl, hcap, hp⟩ := h
  obtain ⟨i0, hi, hz0, hz1, hz2⟩ := info_parts u8info
  obtain ⟨i1, hi1, hy0, hy1, hy2⟩ := info_parts bysInfo
  obtain ⟨n, hn⟩ : ∃ n, l.length = n := ⟨_, rfl⟩
  rw [hn] at hcap hp h64 H ⊢
  have HN := Lib.hid hn
  have HO := Lib.hid ho
  have HM := Lib.hid hmay
  have HP := Lib.hid hp
  clear hp ho hn hmay hS hl
  go_enter Tryz.func64, Tryz.ntmps64
  go_wp2_with (go_at_call 91; refine H.out.mono ?_; rintro e _ ⟨rfl, d1, os1, rfl⟩)
  go_loopw [0, 3] (fun sv out wr => ∃ (j : Nat) (vs : List Value) (p' : Option Addr) (c' : Nat), j ≤ (n + 7) / 8 ∧ sv = .slice p' (n - 8 * j) c' ∧ n - 8 * j ≤ c' ∧ Hid (0 < n - 8 * j → ∃ off, p' = some ⟨b, off, none⟩ ∧ ItsAt w b off (l.drop (8 * j))) ∧ wr.ownsRow w.heap.size 135 1 out j vs ∧ Bys w.heap.size wr vs ((List.range j).map (chunkN l)) ∧ Ext w wr) (fun sv _ _ => match sv with | .slice _ n _ => n | _ => 0)
  case atStart => exact ⟨0, [], p, cap, Nat.zero_le _, rfl, hcap, Lib.hid (fun hh => by simpa using HP.out hh), World.ownsRow_nil _ _ _ _, Bys.nil _ _, by repeat (first | exact Ext.refl _ | apply Ext.alloc | apply Ext.more | apply Ext.drewN)⟩
  case round =>
    obtain ⟨j, vs, p', c', hj, rfl, hc', HQ, hown, hbys, hext⟩ := hrel
    obtain ⟨m, hm⟩ : ∃ m, n - 8 * j = m := ⟨_, rfl⟩
    rw [hm] at hc' HQ ⊢
    have HJ := Lib.hid (And.intro hm hj)
    have HOW := Lib.hid hown
    have HBY := Lib.hid hbys
    have HEX := Lib.hid hext
    clear hm hown hbys hext hj
    by_cases hpos : 0 < m
    case neg =>
      have hm0 : m = 0 := by omega
      subst hm0
      go_wp2_with fail
      go_ret
      refine ⟨_, vs, rfl, ?_, ?_, HEX.out⟩
      · have e : (chunksF l).length = j := by unfold chunksF; have := HJ.out; have := HN.out; simp; omega
        rw [e]; exact HOW.out
      · have e : chunksF l = (List.range j).map (chunkN l) := by unfold chunksF; have := HJ.out; have h2 := HN.out; rw [show (l.length + 7) / 8 = j by omega]
        rw [e]; exact HBY.out
    obtain ⟨off, rfl, hits⟩ := HQ.out hpos
    have hbs : b < w.heap.size := hits.lt (by have := HJ.out; have := HN.out; simp; omega)
    have HI := Lib.hid hits
    clear hits HQ
    have hm64 : m ≤ 64 := by have := HJ.out; omega
    have hmi64 : (m : Int) ≤ 64 := by omega
    obtain ⟨W1, rfl⟩ : ∃ W1, W1 = wr := ⟨_, rfl⟩
    rcases Nat.lt_or_ge m 8 with h8 | h8
    · have h8' : (m : Int) < 8 := by omega
      have hwb : IntKind.u8.wrap (m : Int) = (m : Int) := by simp [IntKind.wrap, IntKind.bits, IntKind.signed] <;> omega
      have hMc : m ≤ c' := by omega
      go_wp2_with fail
      go_loopw [5, 24] (fun bv ii wr => ∃ (i : Nat) (row : List UInt8), ii = .int .i64 (i : Int) ∧ i ≤ m ∧ Hid (row = UInt8.ofNat m :: ((l.drop (8 * j)).take i).flatMap itB) ∧ wr.ownsRow W1.heap.size 5 1 bv row.length (cellsB row) ∧ Ext W1 wr) (fun _ ii _ => m - (intOf ii).toNat)
      case atStart =>
        refine ⟨0, [UInt8.ofNat m], rfl, Nat.zero_le _, Lib.hid (by simp), ?_, by repeat (first | exact Ext.refl _ | apply Ext.alloc | apply Ext.more | apply Ext.drewN)⟩
        have e : cellsB [UInt8.ofNat m] = [.int .u8 (m : Int)] := by simp [cellsB] <;> omega
        rw [e]
        exact own_lit _ (Nat.le_refl _)
      case round =>
        obtain ⟨i, row, rfl, hi', hrow, hownb, hext⟩ := hrel
        have HOB := Lib.hid hownb
        have HEX2 := Lib.hid hext
        have hlen : row.length ≤ 3300 := by
          rw [hrow.out]
          have := chunk_len l HO.out HM.out (8 * j) i
          simp only [List.length_cons]; omega
        have HLN := Lib.hid hlen
        clear hownb hext hlen
        have hbw : b < wr.heap.size := by have := HEX.out.size; have := HEX2.out.size; omega
        by_cases hlt : i < m
        case neg =>
          have hiM : i = m := by omega
          have HEQ := Lib.hid hiM
          have hrc : row = chunkN l j := by
            rw [hrow.out, hiM]
            unfold chunkN
            have e1 : min 8 (l.length - 8 * j) = m := by have := HJ.out; have := HN.out; omega
            have e2 : (l.drop (8 * j)).take m = (l.drop (8 * j)).take 8 := by have h1 := HJ.out; have h2 := HN.out; rw [List.take_of_length_le (by simp; omega), List.take_of_length_le (by simp; omega)]
            rw [e1, e2]
          have HRC := Lib.hid hrc
          obtain ⟨gb, cb, rfl, hgb⟩ := HOB.out.form (by rw [hrc]; exact chunkN_pos l j)
          clear hiM hrc hi'
          have HOO := Lib.hid (own_ext HOW.out HEX2.out)
          by_cases hcm : m = c'
          · subst hcm
            go_wp2_with (at_builtin; refine wpList_append_own_at _ rfl _ _ 133 rfl w.heap.size 135 i1 (.slice none 0 0) 1 24 Tryz.underlying133 hi1 hy0 hy1 hy2 rfl (by decide) _ j vs rfl (HOO.out.alloc _) ⟨wr.heap.size, 0, none⟩ 1 1 [.slice (some ⟨gb, 0, none⟩) row.length cb] rfl rfl ?e1ay ?e2ay ?e3ay ?e4ay ?e5ay ?_)
            case e1ay => exact cell_one_new _ _ _
            case e2ay => first | rfl | (intro u hu; simp at hu; subst hu; rfl)
            case e3ay => have := HJ.out; unfold maxLen; omega
            case e4ay => have := HJ.out; omega
            case e5ay => have := HEX.out.size; have := HEX2.out.size; simp; omega
            intro v4 w4 hown4 hgrow4 _ _
            go_wp2_with fail
            go_roundw
            case rel =>
              refine ⟨j + 1, vs ++ [.slice (some ⟨gb, 0, none⟩) row.length cb], some ⟨b, off, none⟩, 0, by have := HJ.out; omega, by have := HJ.out; rw [show n - 8 * (j + 1) = 0 by omega], by have := HJ.out; omega, Lib.hid (fun hh => by have := HJ.out; omega), hown4, ?_, ?_⟩
              · rw [range_snoc]
                have q1 := (HBY.out.ext HEX2.out).snoc (v := .slice (some ⟨gb, 0, none⟩) row.length cb) (l := chunkN l j) (by
                  have := (HOB.out).mono (base' := w.heap.size) HEX.out.size
                  rw [HRC.out] at this ⊢
                  exact SlB.of_own (chunkN_pos l j) this)
                exact Bys.grown (q1.ext ((Ext.refl _).alloc _)) hgrow4 (HOO.out.alloc _) (by decide)
              · exact ((HEX.out.trans HEX2.out).alloc _).grown hgrow4 (fun k hk => (HOO.out.lt k hk).1)
            case measure => have := HJ.out; simp; omega
          · have hcn : ¬ c' = m := by omega
            go_wp2_with (at_builtin; refine wpList_append_own_at _ rfl _ _ 133 rfl w.heap.size 135 i1 (.slice none 0 0) 1 24 Tryz.underlying133 hi1 hy0 hy1 hy2 rfl (by decide) _ j vs rfl (HOO.out.alloc _) ⟨wr.heap.size, 0, none⟩ 1 1 [.slice (some ⟨gb, 0, none⟩) row.length cb] rfl rfl ?e1by ?e2by ?e3by ?e4by ?e5by ?_)
            case e1by => exact cell_one_new _ _ _
            case e2by => first | rfl | (intro u hu; simp at hu; subst hu; rfl)
            case e3by => have := HJ.out; unfold maxLen; omega
            case e4by => have := HJ.out; omega
            case e5by => have := HEX.out.size; have := HEX2.out.size; simp; omega
            intro v4 w4 hown4 hgrow4 _ _
            go_wp2_with fail
            go_roundw
            case rel =>
              refine ⟨j + 1, vs ++ [.slice (some ⟨gb, 0, none⟩) row.length cb], some ⟨b, off + m * 5, none⟩, c' - m, by have := HJ.out; omega, by have := HJ.out; first | (rw [show n - 8 * (j + 1) = m - m by omega]; done) | (rw [show n - 8 * (j + 1) = 0 by omega]; done), by have := HJ.out; omega, Lib.hid (fun hh => ⟨off + m * 5, rfl, by have := HI.out.drop m; rw [List.drop_drop] at this; have h1 := HJ.out; rw [show 8 * (j + 1) = 8 * j + m by omega]; exact this⟩), hown4, ?_, ?_⟩
              · rw [range_snoc]
                have q1 := (HBY.out.ext HEX2.out).snoc (v := .slice (some ⟨gb, 0, none⟩) row.length cb) (l := chunkN l j) (by
                  have := (HOB.out).mono (base' := w.heap.size) HEX.out.size
                  rw [HRC.out] at this ⊢
                  exact SlB.of_own (chunkN_pos l j) this)
                exact Bys.grown (q1.ext ((Ext.refl _).alloc _)) hgrow4 (HOO.out.alloc _) (by decide)
              · exact ((HEX.out.trans HEX2.out).alloc _).grown hgrow4 (fun k hk => (HOO.out.lt k hk).1)
            case measure => have := HJ.out; simp; omega
        obtain ⟨x, hx⟩ := get_at HN.out (show 8 * j + i < n by have := HJ.out; omega)
        obtain ⟨c0, c1, c2, c3, c4⟩ := HI.out i x (by rw [List.getElem?_drop]; exact hx)
        have hox := HO.out x (List.mem_of_getElem? hx)
        have hmx := HM.out x (List.mem_of_getElem? hx)
        have HIT := Lib.hid (itB_len x hox hmx)
        have BC := Lib.hid (fun W => bytes_any x hox hmx W)
        have HST := Lib.hid (take_itB l (8 * j) i x hx)
        have HPOS : Hid (0 < (itB x).length) := Lib.hid (by unfold itB; have := encB_pos x.vk x.vi x.vs; simp only [List.length_append]; omega)
        obtain ⟨c0', c1', c2', c3', c4'⟩ : wr.cell? ⟨b, off + i * 5, none⟩ = some (.string x.k) ∧ wr.cell? ⟨b, off + i * 5 + 1, none⟩ = some (.int .i64 x.vk) ∧ wr.cell? ⟨b, off + i * 5 + 2, none⟩ = some (.int .i64 x.vi) ∧ wr.cell? ⟨b, off + i * 5 + 3, none⟩ = some (.string x.vs) ∧ wr.cell? ⟨b, off + i * 5 + 4, none⟩ = some (.int .i64 x.ver) := by
          have hx2 : Ext w wr := HEX.out.trans HEX2.out
          exact (HI.out.ext hx2) i x (by rw [List.getElem?_drop]; exact hx)
        clear c0 c1 c2 c3 c4 hx hox hmx
        go_wp2_with (first
          | (go_at_call 92; refine (BC.out _).mono ?_; rintro e w2 ⟨g4, c4, rfl, o4, x4⟩)
          | (at_builtin; refine wpList_append_src _ rfl _ _ 135 135 rfl W1.heap.size 5 i0 (.int .u8 0) 1 1 Tryz.underlying135 hi hz0 hz1 hz2 rfl (by decide) _ _ _ rfl (own_ext (HOB.out.alloc _) x4) _ (itB x).length _ rfl (src_own Tryz.underlying135 o4 (cellsB_one _)) ?d3y ?d4y ?d5y ?_))
        case d3y => have := HLN.out; have := HIT.out; unfold maxLen; omega
        case d4y => have := HLN.out; have := HIT.out; omega
        case d5y => have h1 := x4.size; simp at h1; have := HEX2.out.size; omega
        intro v3 w3 hown3 hgrow3 _
        go_wp2_with fail
        go_roundw
        case rel =>
          refine ⟨i + 1, row ++ itB x, by go_num, by omega, Lib.hid (by rw [HST.out, hrow.out]; rfl), ?_, ?_⟩
          · rw [cellsB_append, List.length_append]; exact hown3
          · exact ((HEX2.out.alloc _).trans x4).grown hgrow3 (fun k hk => (HOB.out.lt k hk).1)
        case measure => simp [intOf]; omega
    · have h8' : (8 : Int) ≤ (m : Int) := by omega
      have hwb : IntKind.u8.wrap (8 : Int) = (8 : Int) := by simp [IntKind.wrap, IntKind.bits, IntKind.signed] <;> omega
      have hMc : 8 ≤ c' := by omega
      go_wp2_with fail
      go_loopw [5, 24] (fun bv ii wr => ∃ (i : Nat) (row : List UInt8), ii = .int .i64 (i : Int) ∧ i ≤ 8 ∧ Hid (row = UInt8.ofNat 8 :: ((l.drop (8 * j)).take i).flatMap itB) ∧ wr.ownsRow W1.heap.size 5 1 bv row.length (cellsB row) ∧ Ext W1 wr) (fun _ ii _ => 8 - (intOf ii).toNat)
      case atStart =>
        refine ⟨0, [UInt8.ofNat 8], rfl, Nat.zero_le _, Lib.hid (by simp), ?_, by repeat (first | exact Ext.refl _ | apply Ext.alloc | apply Ext.more | apply Ext.drewN)⟩
        have e : cellsB [UInt8.ofNat 8] = [.int .u8 (8 : Int)] := by simp [cellsB] <;> omega
        rw [e]
        exact own_lit _ (Nat.le_refl _)
      case round =>
        obtain ⟨i, row, rfl, hi', hrow, hownb, hext⟩ := hrel
        have HOB := Lib.hid hownb
        have HEX2 := Lib.hid hext
        have hlen : row.length ≤ 3300 := by
          rw [hrow.out]
          have := chunk_len l HO.out HM.out (8 * j) i
          simp only [List.length_cons]; omega
        have HLN := Lib.hid hlen
        clear hownb hext hlen
        have hbw : b < wr.heap.size := by have := HEX.out.size; have := HEX2.out.size; omega
        by_cases hlt : i < 8
        case neg =>
          have hiM : i = 8 := by omega
          have HEQ := Lib.hid hiM
          have hrc : row = chunkN l j := by
            rw [hrow.out, hiM]
            unfold chunkN
            have e1 : min 8 (l.length - 8 * j) = 8 := by have := HJ.out; have := HN.out; omega
            have e2 : (l.drop (8 * j)).take 8 = (l.drop (8 * j)).take 8 := by have h1 := HJ.out; have h2 := HN.out; rfl
            rw [e1, e2]
          have HRC := Lib.hid hrc
          obtain ⟨gb, cb, rfl, hgb⟩ := HOB.out.form (by rw [hrc]; exact chunkN_pos l j)
          clear hiM hrc hi'
          have HOO := Lib.hid (own_ext HOW.out HEX2.out)
          by_cases hcm : 8 = c'
          · subst hcm
            go_wp2_with (at_builtin; refine wpList_append_own_at _ rfl _ _ 133 rfl w.heap.size 135 i1 (.slice none 0 0) 1 24 Tryz.underlying133 hi1 hy0 hy1 hy2 rfl (by decide) _ j vs rfl (HOO.out.alloc _) ⟨wr.heap.size, 0, none⟩ 1 1 [.slice (some ⟨gb, 0, none⟩) row.length cb] rfl rfl ?e1ax ?e2ax ?e3ax ?e4ax ?e5ax ?_)
            case e1ax => exact cell_one_new _ _ _
            case e2ax => first | rfl | (intro u hu; simp at hu; subst hu; rfl)
            case e3ax => have := HJ.out; unfold maxLen; omega
            case e4ax => have := HJ.out; omega
            case e5ax => have := HEX.out.size; have := HEX2.out.size; simp; omega
            intro v4 w4 hown4 hgrow4 _ _
            go_wp2_with fail
            go_roundw
            case rel =>
              refine ⟨j + 1, vs ++ [.slice (some ⟨gb, 0, none⟩) row.length cb], some ⟨b, off, none⟩, 0, by have := HJ.out; omega, by have := HJ.out; rw [show n - 8 * (j + 1) = 0 by omega], by have := HJ.out; omega, Lib.hid (fun hh => by have := HJ.out; omega), hown4, ?_, ?_⟩
              · rw [range_snoc]
                have q1 := (HBY.out.ext HEX2.out).snoc (v := .slice (some ⟨gb, 0, none⟩) row.length cb) (l := chunkN l j) (by
                  have := (HOB.out).mono (base' := w.heap.size) HEX.out.size
                  rw [HRC.out] at this ⊢
                  exact SlB.of_own (chunkN_pos l j) this)
                exact Bys.grown (q1.ext ((Ext.refl _).alloc _)) hgrow4 (HOO.out.alloc _) (by decide)
              · exact ((HEX.out.trans HEX2.out).alloc _).grown hgrow4 (fun k hk => (HOO.out.lt k hk).1)
            case measure => have := HJ.out; simp; omega
          · have hcn : ¬ c' = 8 := by omega
            go_wp2_with (at_builtin; refine wpList_append_own_at _ rfl _ _ 133 rfl w.heap.size 135 i1 (.slice none 0 0) 1 24 Tryz.underlying133 hi1 hy0 hy1 hy2 rfl (by decide) _ j vs rfl (HOO.out.alloc _) ⟨wr.heap.size, 0, none⟩ 1 1 [.slice (some ⟨gb, 0, none⟩) row.length cb] rfl rfl ?e1bx ?e2bx ?e3bx ?e4bx ?e5bx ?_)
            case e1bx => exact cell_one_new _ _ _
            case e2bx => first | rfl | (intro u hu; simp at hu; subst hu; rfl)
            case e3bx => have := HJ.out; unfold maxLen; omega
            case e4bx => have := HJ.out; omega
            case e5bx => have := HEX.out.size; have := HEX2.out.size; simp; omega
            intro v4 w4 hown4 hgrow4 _ _
            go_wp2_with fail
            go_roundw
            case rel =>
              refine ⟨j + 1, vs ++ [.slice (some ⟨gb, 0, none⟩) row.length cb], some ⟨b, off + 8 * 5, none⟩, c' - 8, by have := HJ.out; omega, by have := HJ.out; first | (rw [show n - 8 * (j + 1) = m - 8 by omega]; done) | (rw [show n - 8 * (j + 1) = 0 by omega]; done), by have := HJ.out; omega, Lib.hid (fun hh => ⟨off + 8 * 5, rfl, by have := HI.out.drop 8; rw [List.drop_drop] at this; have h1 := HJ.out; rw [show 8 * (j + 1) = 8 * j + 8 by omega]; exact this⟩), hown4, ?_, ?_⟩
              · rw [range_snoc]
                have q1 := (HBY.out.ext HEX2.out).snoc (v := .slice (some ⟨gb, 0, none⟩) row.length cb) (l := chunkN l j) (by
                  have := (HOB.out).mono (base' := w.heap.size) HEX.out.size
                  rw [HRC.out] at this ⊢
                  exact SlB.of_own (chunkN_pos l j) this)
                exact Bys.grown (q1.ext ((Ext.refl _).alloc _)) hgrow4 (HOO.out.alloc _) (by decide)
              · exact ((HEX.out.trans HEX2.out).alloc _).grown hgrow4 (fun k hk => (HOO.out.lt k hk).1)
            case measure => have := HJ.out; simp; omega
        obtain ⟨x, hx⟩ := get_at HN.out (show 8 * j + i < n by have := HJ.out; omega)
        obtain ⟨c0, c1, c2, c3, c4⟩ := HI.out i x (by rw [List.getElem?_drop]; exact hx)
        have hox := HO.out x (List.mem_of_getElem? hx)
        have hmx := HM.out x (List.mem_of_getElem? hx)
        have HIT := Lib.hid (itB_len x hox hmx)
        have BC := Lib.hid (fun W => bytes_any x hox hmx W)
        have HST := Lib.hid (take_itB l (8 * j) i x hx)
        have HPOS : Hid (0 < (itB x).length) := Lib.hid (by unfold itB; have := encB_pos x.vk x.vi x.vs; simp only [List.length_append]; omega)
        obtain ⟨c0', c1', c2', c3', c4'⟩ : wr.cell? ⟨b, off + i * 5, none⟩ = some (.string x.k) ∧ wr.cell? ⟨b, off + i * 5 + 1, none⟩ = some (.int .i64 x.vk) ∧ wr.cell? ⟨b, off + i * 5 + 2, none⟩ = some (.int .i64 x.vi) ∧ wr.cell? ⟨b, off + i * 5 + 3, none⟩ = some (.string x.vs) ∧ wr.cell? ⟨b, off + i * 5 + 4, none⟩ = some (.int .i64 x.ver) := by
          have hx2 : Ext w wr := HEX.out.trans HEX2.out
          exact (HI.out.ext hx2) i x (by rw [List.getElem?_drop]; exact hx)
        clear c0 c1 c2 c3 c4 hx hox hmx
        go_wp2_with (first
          | (go_at_call 92; refine (BC.out _).mono ?_; rintro e w2 ⟨g4, c4, rfl, o4, x4⟩)
          | (at_builtin; refine wpList_append_src _ rfl _ _ 135 135 rfl W1.heap.size 5 i0 (.int .u8 0) 1 1 Tryz.underlying135 hi hz0 hz1 hz2 rfl (by decide) _ _ _ rfl (own_ext (HOB.out.alloc _) x4) _ (itB x).length _ rfl (src_own Tryz.underlying135 o4 (cellsB_one _)) ?d3x ?d4x ?d5x ?_))
        case d3x => have := HLN.out; have := HIT.out; unfold maxLen; omega
        case d4x => have := HLN.out; have := HIT.out; omega
        case d5x => have h1 := x4.size; simp at h1; have := HEX2.out.size; omega
        intro v3 w3 hown3 hgrow3 _
        go_wp2_with fail
        go_roundw
        case rel =>
          refine ⟨i + 1, row ++ itB x, by go_num, by omega, Lib.hid (by rw [HST.out, hrow.out]; rfl), ?_, ?_⟩
          · rw [cellsB_append, List.length_append]; exact hown3
          · exact ((HEX2.out.alloc _).trans x4).grown hgrow3 (fun k hk => (HOB.out.lt k hk).1)
        case measure => simp [intOf]; omega
end Go.Proofs.YtpchohjkelopoaaGreatDoor

set_option maxRecDepth 20000
namespace Go.Proofs.YtpchohjkelopoaaGreatDoor
open Go.RowKit
attribute [go_sem] more_more Array.size_append
/-- a store into a row of the call's own -/
theorem own_set {w : World} {base n g cap i : Nat} {e : TypeId} {xs : List Value} {v : Value} (h : w.ownsRow base e 1 (.slice (some ⟨g, 0, none⟩) n cap) n xs) (hi : i < n) :
    (w.setCell ⟨g, i, none⟩ v).ownsRow base e 1 (.slice (some ⟨g, 0, none⟩) n cap) n (xs.set i v) := by
  refine ⟨by simpa using h.1, ?_⟩
  rcases h.2 with ⟨q, _⟩ | ⟨g', cap', cur, hv, hb, hh, hc, hm, hz, ht⟩
  · simp at q
  · simp only [Value.slice.injEq, Option.some.injEq, Addr.mk.injEq, and_true, true_and] at hv
    obtain ⟨rfl, rfl⟩ := hv
    refine Or.inr ⟨g, cap, cur.setIfInBounds i v, rfl, hb, by simp [World.setCell, Array.getElem?_modify, hh], hc, hm, by simpa using hz, ?_⟩
    rw [Array.toList_setIfInBounds, List.take_set]
    rw [ht]
def strC (c : List UInt8) : Value := .string ⟨c.toArray⟩
def strsL (l : List It) (k i : Nat) : List Value := ((List.range k).map (chunkI l i)).map strC
theorem chunkI_snoc (l : List It) (i : Nat) (x : It) (hx : l[i]? = some x) : chunkI l (i + 1) (i / 8) = chunkI l i (i / 8) ++ itB x := by
  unfold chunkI
  have e1 : min 8 (i + 1 - 8 * (i / 8)) = i % 8 + 1 := by omega
  have e2 : min 8 (i - 8 * (i / 8)) = i % 8 := by omega
  have e3 : 8 * (i / 8) + i % 8 = i := by omega
  rw [e1, e2, take_itB l _ (i % 8) x (by rw [e3]; exact hx)]
  rfl
theorem chunkI_old (l : List It) (i j : Nat) (h : j < i / 8) : chunkI l (i + 1) j = chunkI l i j := by
  rw [chunkI_full l (i + 1) j (Or.inl (by omega)), chunkI_full l i j (Or.inl (by omega))]
theorem strs_set (l : List It) (i : Nat) (x : It) (hx : l[i]? = some x) : (strsL l (i / 8 + 1) i).set (i / 8) (strC (chunkI l i (i / 8) ++ itB x)) = strsL l ((i + 1 + 7) / 8) (i + 1) := by
  have e : (i + 1 + 7) / 8 = i / 8 + 1 := by omega
  unfold strsL
  rw [e, List.range_succ, List.map_append, List.map_append, List.map_append, List.map_append, List.set_append_right _ _ (by simp)]
  congr 1
  · rw [List.map_map, List.map_map]
    refine List.map_congr_left fun j hj => ?_
    simp [chunkI_old l i j (List.mem_range.1 hj)]
  · simp [chunkI_snoc l i x hx]
theorem strs_new (l : List It) (i : Nat) (h : i % 8 = 0) : strsL l (i / 8 + 1) i = strsL l ((i + 7) / 8) i ++ [strC [UInt8.ofNat (min 8 (l.length - i))]] := by
  have e : (i + 7) / 8 = i / 8 := by omega
  unfold strsL
  rw [e, List.range_succ, List.map_append, List.map_append]
  congr 1
  have e2 : min 8 (i - 8 * (i / 8)) = 0 := by omega
  have e3 : 8 * (i / 8) = i := by omega
  simp [chunkI, e2, e3]
theorem strs_all (l : List It) (n : Nat) (hn : l.length = n) : strsL l ((n + 7) / 8) n = (chunksF l).map strC := by
  unfold chunksF strsL
  subst hn
  congr 1
  exact List.map_congr_left fun j _ => chunkI_full l _ j (Or.inr rfl)
theorem strs_get (l : List It) (i : Nat) : (strsL l (i / 8 + 1) i)[i / 8]? = some (strC (chunkI l i (i / 8))) := by simp [strsL]
theorem chunkI_len (l : List It) (ho : ∀ x ∈ l, ItOk x) (hm : ∀ x ∈ l, mayI x = true) (i j : Nat) : (chunkI l i j).length ≤ 3300 := by
  unfold chunkI
  have := chunk_len l ho hm (8 * j) (min 8 (i - 8 * j))
  simp only [List.length_cons]; omega
/-- what a contract says of texts that it hands back -/
def OwnStrs (w w' : World) (e : Ending) (L : List (List UInt8)) : Prop :=
  ∃ v, e = .returned v ∧ w'.ownsRow w.heap.size 9 1 v L.length (L.map strC) ∧ Ext w w'
theorem strInfo' : (Tryz.prog.info? 9).map (fun i => (i.zero, i.size, i.bytes)) = some (some (.string ⟨#[]⟩), 1, 16) := by kernel_rfl
theorem strC_app (a b : List UInt8) : (⟨a.toArray⟩ : ByteArray) ++ ⟨b.toArray⟩ = ⟨(a ++ b).toArray⟩ := by
  apply ByteArray.ext
  simp [ByteArray.data_append]
theorem own_facts {w : World} {base n g cap i : Nat} {e : TypeId} {xs : List Value} {v : Value} (h : w.ownsRow base e 1 (.slice (some ⟨g, 0, none⟩) n cap) n xs) (hv : xs[i]? = some v) :
    w.cell? ⟨g, i, none⟩ = some v ∧ w.frozen? ⟨g, i, none⟩ = false := by
  have h1 := h.cells (g := g) rfl i v hv
  rw [Addr.add_lit, Nat.zero_add] at h1
  refine ⟨h1, ?_⟩
  rcases h.2 with ⟨q, _⟩ | ⟨g', cap', cur, hq, hb, hh, _⟩
  · simp at q
  · simp only [Value.slice.injEq, Option.some.injEq, Addr.mk.injEq, and_true, true_and] at hq
    obtain ⟨rfl, rfl⟩ := hq
    simp [World.frozen?, hh]
theorem news_at {w : World} {N : Nat} {x : Value} {t : TypeId} (hN : N = w.heap.size) : ∀ j u, [x][j]? = some u → (w.alloc (.cells #[x] t)).cell? ((⟨N, 0, none⟩ : Addr).add j) = some u := by
  intro j u hu
  subst hN
  match j, hu with
  | 0, hu =>
    simp at hu; subst hu
    rw [Addr.add_lit]
    simp only [World.cell?, heap_alloc_new]
    rfl
  | j + 1, hu => simp at hu
theorem conv1 (W : World) (z : Int) (h0 : 0 ≤ z) (h1 : z < 256) : (convert 135 9 (.slice (some ⟨W.heap.size, 0, none⟩) 1 1)).run Tryz.prog (W.alloc (.cells #[.int .u8 z] 5)) = .ok (.string ⟨#[UInt8.ofNat z.toNat]⟩) (W.alloc (.cells #[.int .u8 z] 5)) :=
  conv_own (P := Tryz.prog) (src := 135) (dst := 9) Tryz.underlying135 Tryz.underlying5 Tryz.underlying9
    (show (W.alloc (.cells #[.int .u8 z] 5)).ownsRow 0 5 1 (.slice (some ⟨W.heap.size, 0, none⟩) 1 1) 1 (cellsB [UInt8.ofNat z.toNat]) from by
      have e : cellsB [UInt8.ofNat z.toNat] = [.int .u8 z] := cellsB_snoc [] z h0 h1
      rw [e]; exact own_lit _ (Nat.zero_le _))
set_option maxHeartbeats 8000000 in
theorem rchunks_any (b : Nat) (v : Value) (l : List It) (w : World) (h : LfAt w b v l) (hl : leafB l = true) : Calls Tryz.prog 67 #[v] w fun e w' => OwnStrs w w' e (chunksF l) := by
  obtain ⟨h64, hmay⟩ := leafB_may hl
  obtain ⟨ho, p, cap, rfl, hcap, hp⟩ := h
  obtain ⟨i1, hi1, hy0, hy1, hy2⟩ := info_parts strInfo'
  obtain ⟨n, hn⟩ : ∃ n, l.length = n := ⟨_, rfl⟩
  rw [hn] at hcap hp h64 ⊢
  have hn64 : (n : Int) ≤ 64 := by omega
  have HN := Lib.hid hn
  have HO := Lib.hid ho
  have HM := Lib.hid hmay
  have HP := Lib.hid hp
  clear hp ho hn hmay hl
  go_enter Tryz.func67, Tryz.ntmps67
  go_wp2_with fail
  go_loopw [3, 4] (fun out ii wr => ∃ i : Nat, ii = .int .i64 (i : Int) ∧ i ≤ n ∧ wr.ownsRow w.heap.size 9 1 out ((i + 7) / 8) (strsL l ((i + 7) / 8) i) ∧ Ext w wr) (fun _ ii _ => n - (intOf ii).toNat)
  case atStart => exact ⟨0, rfl, Nat.zero_le _, World.ownsRow_nil _ _ _ _, Ext.refl _⟩
  case round =>
    obtain ⟨i, rfl, hi, hown, hext⟩ := hrel
    have HOW := Lib.hid hown
    have HEX := Lib.hid hext
    clear hown hext
    by_cases hlt : i < n
    case neg =>
      have hin : i = n := by omega
      subst hin
      go_wp2_with fail
      go_ret
      refine ⟨_, rfl, ?_, HEX.out⟩
      have h1 := HOW.out
      rw [strs_all l i HN.out] at h1
      have e : (chunksF l).length = (i + 7) / 8 := by unfold chunksF; have := HN.out; simp [this]
      rw [e]; exact h1
    obtain ⟨x, hx⟩ := get_at HN.out hlt
    obtain ⟨off, rfl, hits⟩ := HP.out (by omega)
    have hbw : b < w.heap.size := hits.lt (by have := HN.out; omega)
    have hox := HO.out x (List.mem_of_getElem? hx)
    have hmx := HM.out x (List.mem_of_getElem? hx)
    have HIT := Lib.hid (itB_len x hox hmx)
    have BC := Lib.hid (fun W => rbytes_any x hox hmx W)
    unfold itV at BC
    have HX := Lib.hid hx
    have HCL := Lib.hid (chunkI_len l HO.out HM.out i (i / 8))
    have HITS := Lib.hid hits
    have HBW := Lib.hid hbw
    clear hits hox hmx hx hbw
    obtain ⟨q, hq⟩ : ∃ q, i / 8 = q := ⟨_, rfl⟩
    have HQ := Lib.hid hq
    have hqn : q ≤ 8 := by omega
    obtain ⟨s0, hs0⟩ : ∃ s, (⟨(chunkI l i q).toArray⟩ : ByteArray) = s := ⟨_, rfl⟩
    obtain ⟨s1, hs1⟩ : ∃ s, (⟨(itB x).toArray⟩ : ByteArray) = s := ⟨_, rfl⟩
    have HSG : Hid ((strsL l (q + 1) i)[q]? = some (.string s0)) := Lib.hid (by have := strs_get l i; rw [hq] at this; rw [this, ← hs0]; rfl)
    have hz0 : (s0.size : Int) ≤ 3300 := by rw [← hs0, ba_size]; have := HCL.out; rw [hq] at this; omega
    have hz1 : (s1.size : Int) ≤ 400 := by rw [← hs1, ba_size]; have := HIT.out; omega
    rw [hs1] at BC
    have HS0 := Lib.hid hs0
    have HS1 := Lib.hid hs1
    clear hs0 hs1 hq HCL
    by_cases h8 : i % 8 = 0
    · have hr8' : ((i : Int) % 8 == 0) = true := by rw [beq_iff_eq]; omega
      have HNEW := Lib.hid (strs_new l i h8)
      have h7 : (i + 7) / 8 = q := by have := HQ.out; omega
      rw [h7, HQ.out] at HNEW
      rw [h7] at HOW
      have HR8 := Lib.hid h8
      clear h8 h7
      rcases Int.lt_or_le 8 ((n : Int) - (i : Int)) with hd | hd
      · have hcv := fun W => conv1 W 8 (by omega) (by omega)
        obtain ⟨sh, hsh⟩ : ∃ s, (⟨#[UInt8.ofNat (8 : Int).toNat]⟩ : ByteArray) = s := ⟨_, rfl⟩
        rw [hsh] at hcv
        have HSH := Lib.hid hsh
        clear hsh
        go_wp2_with (at_builtin; refine wpList_append_own_at _ rfl _ _ 22 rfl w.heap.size 9 i1 (.string ⟨#[]⟩) 1 16 Tryz.underlying22 hi1 hy0 hy1 hy2 rfl (by decide) _ q _ rfl ((HOW.out.alloc _).alloc _) ⟨wr.heap.size + 1, 0, none⟩ 1 1 [.string sh] rfl rfl ?e1a ?e2a ?e3a ?e4a ?e5a ?_)
        case e1a => exact news_at (by simp)
        case e2a => first | rfl | (intro u hu; simp at hu; subst hu; rfl)
        case e3a => unfold maxLen; omega
        case e4a => omega
        case e5a => have := HEX.out.size; simp; omega
        intro v3 w3 hown3 hgrow3 _ _
        have e9 : strC [UInt8.ofNat (min 8 (l.length - i))] = .string sh := by
          have := HN.out
          rw [← HSH.out]
          rw [show min 8 (l.length - i) = (8 : Int).toNat by omega]; rfl
        rw [← e9, ← HNEW.out] at hown3
        have HPR := Lib.hid hown3
        have HXW : Hid (Ext w w3) := Lib.hid (((HEX.out.alloc _).alloc _).grown hgrow3 (fun k hk => (HOW.out.lt k hk).1))
        clear hown3 hgrow3 e9 hcv
        go_wp2_with fail
        obtain ⟨gp, cp, rfl, hgp1, hgp2⟩ := HPR.out.form (Nat.succ_pos q)
        obtain ⟨hcp, hfp⟩ := own_facts HPR.out (HSG.out)
        obtain ⟨c0, c1, c2, c3, c4⟩ := (HITS.out.ext HXW.out) i x HX.out
        have hbw : b < w3.heap.size := by have := HBW.out; have := HXW.out.size; omega
        have hw1 : IntKind.i64.wrap (q : Int) = (q : Int) := IntWalk.i64_in _ (by omega)
        have hq0 : (0 : Int) ≤ (q : Int) := by omega
        have hq1 : (q : Int) < (q : Int) + 1 := by omega
        have hi0 : (0 : Int) ≤ (i : Int) := by omega
        have hi1' : (i : Int) < (n : Int) := by omega
        refine wp_region_grow 11 42 [false, false, false, false, false, false, false, false, false, false, false] (by kernel_rfl) (by kernel_rfl) rfl ?_
        simp only [List.take_succ_cons, List.take_zero, List.drop_succ_cons, List.drop_zero]
        repeat (refine Lex.step rfl ?_; intro K hK; unfold StepG; go_simp; (first
            | refine hK _ ?_
            | (with_reducible refine ⟨_, fun d os => (ret1 (BC.out _)), ?_⟩; go_simp; refine hK _ ?_)); clear hK K)
        refine Lex.nil fun WW hE => ?_
        obtain ⟨dd, oo, rfl⟩ := hE
        unfold FillH
        go_wp2_with fail
        rw [ends_normal]
        go_wp2_with fail
        go_roundw
        case rel =>
          refine ⟨i + 1, by go_num, by omega, ?_, ?_⟩
          · have h1 := own_more (own_set (v := .string (s0 ++ s1)) HPR.out (Nat.lt_succ_self q)) dd oo
            have h2 := strs_set l i x HX.out
            rw [HQ.out] at h2
            have h3 : strC (chunkI l i q ++ itB x) = .string (s0 ++ s1) := by rw [← HS0.out, ← HS1.out, strC_app]; rfl
            rw [h3] at h2
            rw [h2] at h1
            have h4 : (i + 1 + 7) / 8 = q + 1 := by have := HQ.out; omega
            rw [h4] at h1 ⊢
            exact h1
          · exact (HXW.out.setCell (p := ⟨gp, q, none⟩) hgp1 _).more _ _
        case measure => simp [intOf]; omega
      · have hcv := fun W => conv1 W ((n : Int) - (i : Int)) (by omega) (by omega)
        obtain ⟨sh, hsh⟩ : ∃ s, (⟨#[UInt8.ofNat (((n : Int) - (i : Int)) : Int).toNat]⟩ : ByteArray) = s := ⟨_, rfl⟩
        rw [hsh] at hcv
        have HSH := Lib.hid hsh
        clear hsh
        go_wp2_with (at_builtin; refine wpList_append_own_at _ rfl _ _ 22 rfl w.heap.size 9 i1 (.string ⟨#[]⟩) 1 16 Tryz.underlying22 hi1 hy0 hy1 hy2 rfl (by decide) _ q _ rfl ((HOW.out.alloc _).alloc _) ⟨wr.heap.size + 1, 0, none⟩ 1 1 [.string sh] rfl rfl ?e1b ?e2b ?e3b ?e4b ?e5b ?_)
        case e1b => exact news_at (by simp)
        case e2b => first | rfl | (intro u hu; simp at hu; subst hu; rfl)
        case e3b => unfold maxLen; omega
        case e4b => omega
        case e5b => have := HEX.out.size; simp; omega
        intro v3 w3 hown3 hgrow3 _ _
        have e9 : strC [UInt8.ofNat (min 8 (l.length - i))] = .string sh := by
          have := HN.out
          rw [← HSH.out]
          rw [show min 8 (l.length - i) = (((n : Int) - (i : Int)) : Int).toNat by omega]; rfl
        rw [← e9, ← HNEW.out] at hown3
        have HPR := Lib.hid hown3
        have HXW : Hid (Ext w w3) := Lib.hid (((HEX.out.alloc _).alloc _).grown hgrow3 (fun k hk => (HOW.out.lt k hk).1))
        clear hown3 hgrow3 e9 hcv
        go_wp2_with fail
        obtain ⟨gp, cp, rfl, hgp1, hgp2⟩ := HPR.out.form (Nat.succ_pos q)
        obtain ⟨hcp, hfp⟩ := own_facts HPR.out (HSG.out)
        obtain ⟨c0, c1, c2, c3, c4⟩ := (HITS.out.ext HXW.out) i x HX.out
        have hbw : b < w3.heap.size := by have := HBW.out; have := HXW.out.size; omega
        have hw1 : IntKind.i64.wrap (q : Int) = (q : Int) := IntWalk.i64_in _ (by omega)
        have hq0 : (0 : Int) ≤ (q : Int) := by omega
        have hq1 : (q : Int) < (q : Int) + 1 := by omega
        have hi0 : (0 : Int) ≤ (i : Int) := by omega
        have hi1' : (i : Int) < (n : Int) := by omega
        refine wp_region_grow 11 42 [false, false, false, false, false, false, false, false, false, false, false] (by kernel_rfl) (by kernel_rfl) rfl ?_
        simp only [List.take_succ_cons, List.take_zero, List.drop_succ_cons, List.drop_zero]
        repeat (refine Lex.step rfl ?_; intro K hK; unfold StepG; go_simp; (first
            | refine hK _ ?_
            | (with_reducible refine ⟨_, fun d os => (ret1 (BC.out _)), ?_⟩; go_simp; refine hK _ ?_)); clear hK K)
        refine Lex.nil fun WW hE => ?_
        obtain ⟨dd, oo, rfl⟩ := hE
        unfold FillH
        go_wp2_with fail
        rw [ends_normal]
        go_wp2_with fail
        go_roundw
        case rel =>
          refine ⟨i + 1, by go_num, by omega, ?_, ?_⟩
          · have h1 := own_more (own_set (v := .string (s0 ++ s1)) HPR.out (Nat.lt_succ_self q)) dd oo
            have h2 := strs_set l i x HX.out
            rw [HQ.out] at h2
            have h3 : strC (chunkI l i q ++ itB x) = .string (s0 ++ s1) := by rw [← HS0.out, ← HS1.out, strC_app]; rfl
            rw [h3] at h2
            rw [h2] at h1
            have h4 : (i + 1 + 7) / 8 = q + 1 := by have := HQ.out; omega
            rw [h4] at h1 ⊢
            exact h1
          · exact (HXW.out.setCell (p := ⟨gp, q, none⟩) hgp1 _).more _ _
        case measure => simp [intOf]; omega
    · have hr8' : ((i : Int) % 8 == 0) = false := by rw [beq_eq_false_iff_ne]; omega
      have h7 : (i + 7) / 8 = q + 1 := by have := HQ.out; omega
      rw [h7] at HOW
      have HPR := Lib.hid HOW.out
      have HXW : Hid (Ext w wr) := Lib.hid HEX.out
      clear h8 h7
      obtain ⟨gp, cp, rfl, hgp1, hgp2⟩ := HPR.out.form (Nat.succ_pos q)
      obtain ⟨hcp, hfp⟩ := own_facts HPR.out (HSG.out)
      obtain ⟨c0, c1, c2, c3, c4⟩ := (HITS.out.ext HXW.out) i x HX.out
      have hbw : b < wr.heap.size := by have := HBW.out; have := HXW.out.size; omega
      have hw1 : IntKind.i64.wrap (q : Int) = (q : Int) := IntWalk.i64_in _ (by omega)
      have hq0 : (0 : Int) ≤ (q : Int) := by omega
      have hq1 : (q : Int) < (q : Int) + 1 := by omega
      have hi0 : (0 : Int) ≤ (i : Int) := by omega
      have hi1' : (i : Int) < (n : Int) := by omega
      go_wp2_with fail
      refine wp_region_grow 11 42 [false, false, false, false, false, false, false, false, false, false, false] (by kernel_rfl) (by kernel_rfl) rfl ?_
      simp only [List.take_succ_cons, List.take_zero, List.drop_succ_cons, List.drop_zero]
      repeat (refine Lex.step rfl ?_; intro K hK; unfold StepG; go_simp; (first
          | refine hK _ ?_
          | (with_reducible refine ⟨_, fun d os => (ret1 (BC.out _)), ?_⟩; go_simp; refine hK _ ?_)); clear hK K)
      refine Lex.nil fun WW hE => ?_
      obtain ⟨dd, oo, rfl⟩ := hE
      unfold FillH
      go_wp2_with fail
      rw [ends_normal]
      go_wp2_with fail
      go_roundw
      case rel =>
        refine ⟨i + 1, by go_num, by omega, ?_, ?_⟩
        · have h1 := own_more (own_set (v := .string (s0 ++ s1)) HPR.out (Nat.lt_succ_self q)) dd oo
          have h2 := strs_set l i x HX.out
          rw [HQ.out] at h2
          have h3 : strC (chunkI l i q ++ itB x) = .string (s0 ++ s1) := by rw [← HS0.out, ← HS1.out, strC_app]; rfl
          rw [h3] at h2
          rw [h2] at h1
          have h4 : (i + 1 + 7) / 8 = q + 1 := by have := HQ.out; omega
          rw [h4] at h1 ⊢
          exact h1
        · exact (HXW.out.setCell (p := ⟨gp, q, none⟩) hgp1 _).more _ _
      case measure => simp [intOf]; omega
end Go.Proofs.YtpchohjkelopoaaGreatDoor

set_option maxRecDepth 20000
namespace Go.Proofs.YtpchohjkelopoaaGreatDoor
open Go.RowKit
attribute [go_sem] more_more Array.size_append
theorem cutT_ok {l t : List UInt8} {n : Nat} (h : cutT l = (t, n, 0)) : n ≤ l.length ∧ t.length ≤ 255 := by
  refine ⟨cutT_len h, ?_⟩
  unfold cutT at h
  repeat' split at h
  all_goals simp only [Prod.mk.injEq] at h
  · omega
  · omega
  · omega
  · rw [← h.1]
    simp only [List.length_take]; omega
theorem zagZ_bd (v : Int) (h0 : 0 ≤ v) (h1 : v < 18446744073709551616) : -9223372036854775808 ≤ zagZ v ∧ zagZ v ≤ 9223372036854775807 := by unfold zagZ; split <;> omega
theorem valC_ok {l : List UInt8} {v : Val} {n : Nat} (h : valC l = (v, n, 0)) : n ≤ l.length ∧ v.s.size ≤ 64 ∧ In64I v.k ∧ In64I v.i ∧ 0 < n := by
  cases l with
  | nil => simp [valC] at h
  | cons c l =>
    unfold valC at h
    dsimp only at h
    have bd : ∀ z : Int, -5 ≤ z → z ≤ 5 → In64I z := fun z a b => ⟨by omega, by omega⟩
    by_cases q0 : c.toNat = 0
    · rw [if_pos q0] at h
      simp only [Prod.mk.injEq] at h
      obtain ⟨rfl, rfl, _⟩ := h
      exact ⟨by simp, show (0 : Nat) ≤ 64 from by omega, bd _ (by simp) (by simp), bd _ (by simp) (by simp), by omega⟩
    rw [if_neg q0] at h
    by_cases q1 : c.toNat = 1
    · rw [if_pos q1] at h
      cases l with
      | nil => simp at h
      | cons d l =>
        by_cases q2 : 1 < d.toNat
        · simp [q2] at h
        · simp only [q2, if_false, Prod.mk.injEq] at h
          obtain ⟨rfl, rfl, _⟩ := h
          exact ⟨by simp, show (0 : Nat) ≤ 64 from by omega, bd _ (by simp) (by simp), bd _ (by simp <;> omega) (by simp <;> omega), by omega⟩
    rw [if_neg q1] at h
    by_cases q2 : c.toNat = 2
    · rw [if_pos q2] at h
      obtain ⟨x, m, e0, hg⟩ : ∃ x m e0, cutG 0 0 l = (x, m, e0) := ⟨_, _, _, rfl⟩
      rw [hg] at h
      dsimp only at h
      obtain ⟨g1, g2⟩ := cutG_lt hg
      by_cases h0 : e0 = 0
      · subst h0
        rw [if_neg (by simp)] at h
        simp only [Prod.mk.injEq] at h
        obtain ⟨rfl, rfl, _⟩ := h
        exact ⟨by simp; omega, show (0 : Nat) ≤ 64 from by omega, bd _ (by simp) (by simp), zagZ_bd _ (by omega) (by omega), by omega⟩
      · rw [if_pos h0] at h
        simp only [Prod.mk.injEq] at h
        exact absurd h.2.2 h0
    rw [if_neg q2] at h
    by_cases q3 : c.toNat = 3
    · rw [if_pos q3] at h
      obtain ⟨t, m, e0, hg⟩ : ∃ t m e0, cutT l = (t, m, e0) := ⟨_, _, _, rfl⟩
      rw [hg] at h
      dsimp only at h
      have g2 := cutT_len hg
      by_cases h0 : e0 = 0
      · subst h0
        rw [if_neg (by simp)] at h
        by_cases h64 : 64 < t.length
        · rw [if_pos h64] at h
          simp at h
        · rw [if_neg h64] at h
          simp only [Prod.mk.injEq] at h
          obtain ⟨rfl, rfl, _⟩ := h
          exact ⟨by simp; omega, by rw [ba_size]; omega, bd _ (by simp) (by simp), bd _ (by simp) (by simp), by omega⟩
      · rw [if_pos h0] at h
        simp only [Prod.mk.injEq] at h
        exact absurd h.2.2 h0
    rw [if_neg q3] at h
    simp at h
def zIt : It := ⟨⟨#[]⟩, 0, 0, ⟨#[]⟩, 0⟩
/-- what cutting an item comes to, part by part -/
theorem itemF_e1 {bad : Int} {l t : List UInt8} {n : Nat} {e : Int} (h : cutT l = (t, n, e)) (he : e ≠ 0) : itemF bad l = (zIt, 0, e) := by unfold itemF; rw [h]; simp [he, zIt]
theorem itemF_e2 {bad : Int} {l t : List UInt8} {n n2 : Nat} {v : Val} {e : Int} (h : cutT l = (t, n, 0)) (h2 : valC (l.drop n) = (v, n2, e)) (he : e ≠ 0) : itemF bad l = (zIt, 0, e) := by unfold itemF; rw [h]; simp [h2, he, zIt]
theorem itemF_e3 {bad : Int} {l t : List UInt8} {n n2 x n3 : Nat} {v : Val} {e : Int} (h : cutT l = (t, n, 0)) (h2 : valC (l.drop n) = (v, n2, 0)) (h3 : cutG 0 0 (l.drop (n + n2)) = (x, n3, e)) (he : e ≠ 0) : itemF bad l = (zIt, 0, e) := by
  unfold itemF; rw [h]; simp [h2, h3, he, zIt]
theorem itemF_ok {bad : Int} {l t : List UInt8} {n n2 x n3 : Nat} {v : Val} (h : cutT l = (t, n, 0)) (h2 : valC (l.drop n) = (v, n2, 0)) (h3 : cutG 0 0 (l.drop (n + n2)) = (x, n3, 0)) : itemF bad l = (⟨⟨t.toArray⟩, v.k, v.i, v.s, if 2147483647 < x then bad else (x : Int)⟩, n + n2 + n3, 0) := by
  unfold itemF; rw [h]; simp [h2, h3]
set_option maxHeartbeats 1000000 in
theorem item_any (b off cap : Nat) (l : List UInt8) (w : World) (hm : l.length ≤ 4611686018427387904) (hcap : l.length ≤ cap) (hb : BytesAt w b off l) (r : It × Nat × Int) (hr : itemF 2147483648 l = r) :
    Calls Tryz.prog 131 #[.slice (some ⟨b, off, none⟩) l.length cap] w fun e w' => e = .returned (.tuple #[itV r.1, .int .i64 (r.2.1 : Int), .int .i64 r.2.2]) ∧ Ext w w' := by
  obtain ⟨t, n1, e1, h1⟩ : ∃ t n e, cutT l = (t, n, e) := ⟨_, _, _, rfl⟩
  obtain ⟨n, hn⟩ : ∃ n, l.length = n := ⟨_, rfl⟩
  have C1 := Lib.hid fun (w' : World) (hx : Ext w w') => vcuttext_any b off cap l w' (by unfold maxLen; omega) hcap (hb.ext hx) t n1 e1 h1
  have HN := Lib.hid hn
  have HB := Lib.hid hb
  rw [hn] at hm hcap C1 ⊢
  clear hn hb
  by_cases q1 : e1 = 0
  case neg =>
    rw [itemF_e1 h1 q1] at hr
    subst hr
    have hq1 : (e1 != 0) = true := by simpa using q1
    unfold itV zIt
    dsimp only
    clear h1 q1
    go_enter Tryz.func131, Tryz.ntmps131
    go_wp2_with (go_at_call 146; refine (C1.out _ (by repeat (first | exact Ext.refl _ | apply Ext.alloc | apply Ext.more | apply Ext.drewN))).mono ?_; rintro e _ ⟨rfl, d1, os1, rfl⟩)
    refine bodyPost_ret (v := .tuple #[.agg #[.string ⟨#[]⟩, .int .i64 0, .int .i64 0, .string ⟨#[]⟩, .int .i64 0], .int .i64 0, .int .i64 e1]) (by simp [results, Tryz.results131, go_sem]) rfl ⟨rfl, by repeat (first | exact Ext.refl _ | apply Ext.alloc | apply Ext.more | apply Ext.drewN)⟩
  subst q1
  obtain ⟨hn1, ht⟩ := cutT_ok h1
  rw [HN.out] at hn1
  obtain ⟨v, n2, e2, h2⟩ : ∃ v n e, valC (l.drop n1) = (v, n, e) := ⟨_, _, _, rfl⟩
  have C2 := Lib.hid fun (o c : Nat) (w' : World) (ho : o = off + n1 ∨ n - n1 = 0) (hc : n - n1 ≤ c) (hx : Ext w w') => vc_any w' b o c (l.drop n1) (by have := HN.out; simp; omega) (by have := HN.out; simp; omega) (by
    rcases ho with rfl | h0
    · exact (HB.out.drop n1).ext hx
    · rw [List.drop_of_length_le (by have := HN.out; omega)]; intro j u hj; simp at hj) v n2 e2 h2
  have e7 : (l.drop n1).length = n - n1 := by have := HN.out; simp [this]
  rw [e7] at C2
  clear e7
  by_cases q2 : e2 = 0
  case neg =>
    rw [itemF_e2 h1 h2 q2] at hr
    subst hr
    have hq2 : (e2 != 0) = true := by simpa using q2
    unfold itV zIt
    dsimp only
    clear h1 h2 q2
    by_cases hcn : cap = n1
    · obtain rfl : n = n1 := by omega
      subst hcn
      rw [Nat.sub_self] at C2
      go_enter Tryz.func131, Tryz.ntmps131
      go_wp2_with (first
        | (go_at_call 146; refine (C1.out _ (by repeat (first | exact Ext.refl _ | apply Ext.alloc | apply Ext.more | apply Ext.drewN))).mono ?_; rintro e _ ⟨rfl, d1, os1, rfl⟩)
        | (go_at_call 147; refine (C2.out _ _ _ (by first | exact Or.inl rfl | exact Or.inr rfl | exact Or.inr trivial) (by omega) (by repeat (first | exact Ext.refl _ | apply Ext.alloc | apply Ext.more | apply Ext.drewN))).mono ?_; rintro e _ ⟨rfl, d2, os2, rfl⟩))
      refine bodyPost_ret (v := .tuple #[.agg #[.string ⟨#[]⟩, .int .i64 0, .int .i64 0, .string ⟨#[]⟩, .int .i64 0], .int .i64 0, .int .i64 e2]) (by simp [results, Tryz.results131, go_sem]) rfl ⟨rfl, by repeat (first | exact Ext.refl _ | apply Ext.alloc | apply Ext.more | apply Ext.drewN)⟩
    · have hn1' : (n1 : Int) ≤ n := by omega
      go_enter Tryz.func131, Tryz.ntmps131
      go_wp2_with (first
        | (go_at_call 146; refine (C1.out _ (by repeat (first | exact Ext.refl _ | apply Ext.alloc | apply Ext.more | apply Ext.drewN))).mono ?_; rintro e _ ⟨rfl, d1, os1, rfl⟩)
        | (go_at_call 147; refine (C2.out _ _ _ (by first | exact Or.inl rfl | exact Or.inr rfl | exact Or.inr trivial) (by omega) (by repeat (first | exact Ext.refl _ | apply Ext.alloc | apply Ext.more | apply Ext.drewN))).mono ?_; rintro e _ ⟨rfl, d2, os2, rfl⟩))
      refine bodyPost_ret (v := .tuple #[.agg #[.string ⟨#[]⟩, .int .i64 0, .int .i64 0, .string ⟨#[]⟩, .int .i64 0], .int .i64 0, .int .i64 e2]) (by simp [results, Tryz.results131, go_sem]) rfl ⟨rfl, by repeat (first | exact Ext.refl _ | apply Ext.alloc | apply Ext.more | apply Ext.drewN)⟩
  subst q2
  obtain ⟨hn2, hvs, hvk, hvi, hn2p⟩ := valC_ok h2
  have hn2' : n1 + n2 ≤ n := by have := HN.out; simp at hn2; omega
  have hn1c : ¬ cap = n1 := by omega
  obtain ⟨vk, vi, vs⟩ := v
  dsimp only at *
  obtain ⟨x, n3, e3, h3⟩ : ∃ x n e, cutG 0 0 (l.drop (n1 + n2)) = (x, n, e) := ⟨_, _, _, rfl⟩
  have C3 := Lib.hid fun (o c : Nat) (w' : World) (ho : o = off + (n1 + n2) ∨ n - (n1 + n2) = 0) (hc : n - (n1 + n2) ≤ c) (hx : Ext w w') => vcut_core b o c (l.drop (n1 + n2)) w' (by have := HN.out; unfold maxLen; simp; omega) (by
    rcases ho with rfl | h0
    · exact (HB.out.drop (n1 + n2)).ext hx
    · rw [List.drop_of_length_le (by have := HN.out; omega)]; intro j u hj; simp at hj) x n3 e3 h3
  have e7 : (l.drop (n1 + n2)).length = n - (n1 + n2) := by have := HN.out; simp [this]
  rw [e7] at C3
  clear e7
  by_cases q3 : e3 = 0
  case neg =>
    rw [itemF_e3 h1 h2 h3 q3] at hr
    subst hr
    have hq3 : (e3 != 0) = true := by simpa using q3
    unfold itV zIt
    dsimp only
    clear h1 h2 h3 q3 hn2
    by_cases hcn : cap = n1 + n2
    · have hnn : n = n1 + n2 := by omega
      subst hnn
      subst hcn
      rw [Nat.sub_self] at C3
      simp only [Nat.add_sub_cancel_left] at C2
      go_enter Tryz.func131, Tryz.ntmps131
      go_wp2_with (first
        | (go_at_call 146; refine (C1.out _ (by repeat (first | exact Ext.refl _ | apply Ext.alloc | apply Ext.more | apply Ext.drewN))).mono ?_; rintro e _ ⟨rfl, d1, os1, rfl⟩)
        | (go_at_call 147; refine (C2.out _ _ _ (by first | exact Or.inl rfl | exact Or.inr rfl | exact Or.inr trivial) (by omega) (by repeat (first | exact Ext.refl _ | apply Ext.alloc | apply Ext.more | apply Ext.drewN))).mono ?_; rintro e _ ⟨rfl, d2, os2, rfl⟩)
        | (go_at_call 148; refine (C3.out _ _ _ (by first | exact Or.inl rfl | exact Or.inr rfl | exact Or.inr trivial) (by omega) (by repeat (first | exact Ext.refl _ | apply Ext.alloc | apply Ext.more | apply Ext.drewN))).mono ?_; rintro e _ ⟨rfl, d3, os3, rfl⟩))
      refine bodyPost_ret (v := .tuple #[.agg #[.string ⟨#[]⟩, .int .i64 0, .int .i64 0, .string ⟨#[]⟩, .int .i64 0], .int .i64 0, .int .i64 e3]) (by simp [results, Tryz.results131, go_sem]) rfl ⟨rfl, by repeat (first | exact Ext.refl _ | apply Ext.alloc | apply Ext.more | apply Ext.drewN)⟩
    · have hn12 : (n1 : Int) + (n2 : Int) ≤ n := by omega
      go_enter Tryz.func131, Tryz.ntmps131
      go_wp2_with (first
        | (go_at_call 146; refine (C1.out _ (by repeat (first | exact Ext.refl _ | apply Ext.alloc | apply Ext.more | apply Ext.drewN))).mono ?_; rintro e _ ⟨rfl, d1, os1, rfl⟩)
        | (go_at_call 147; refine (C2.out _ _ _ (by first | exact Or.inl rfl | exact Or.inr rfl | exact Or.inr trivial) (by omega) (by repeat (first | exact Ext.refl _ | apply Ext.alloc | apply Ext.more | apply Ext.drewN))).mono ?_; rintro e _ ⟨rfl, d2, os2, rfl⟩)
        | (go_at_call 148; refine (C3.out _ _ _ (by first | exact Or.inl rfl | exact Or.inr rfl | exact Or.inr trivial) (by omega) (by repeat (first | exact Ext.refl _ | apply Ext.alloc | apply Ext.more | apply Ext.drewN))).mono ?_; rintro e _ ⟨rfl, d3, os3, rfl⟩))
      refine bodyPost_ret (v := .tuple #[.agg #[.string ⟨#[]⟩, .int .i64 0, .int .i64 0, .string ⟨#[]⟩, .int .i64 0], .int .i64 0, .int .i64 e3]) (by simp [results, Tryz.results131, go_sem]) rfl ⟨rfl, by repeat (first | exact Ext.refl _ | apply Ext.alloc | apply Ext.more | apply Ext.drewN)⟩
  subst q3
  obtain ⟨hx1, hn3⟩ := cutG_lt h3
  have hpos : n3 ≠ 0 := by
    intro h0
    cases hl : l.drop (n1 + n2) with
    | nil => rw [hl] at h3; simp [cutG] at h3
    | cons c tl =>
      obtain ⟨y, _, hk, _⟩ := cutG_back _ _ _ _ _ (by omega) h3
      omega
  have hn3' : n1 + n2 + n3 ≤ n := by have := HN.out; simp at hn3; omega
  have hn12c : ¬ cap = n1 + n2 := by omega
  rw [itemF_ok h1 h2 h3] at hr
  subst hr
  unfold itV
  dsimp only
  clear h1 h2 h3 hn2 hn3 hpos hn2p ht hvs hvk hvi
  have hn12 : (n1 : Int) + (n2 : Int) ≤ n := by omega
  have hn123 : (n1 : Int) + (n2 : Int) + (n3 : Int) ≤ n := by omega
  have hx0 : (x : Int) < 18446744073709551616 := by omega
  by_cases hbig : 2147483647 < x
  · rw [if_pos hbig]
    have hbig' : (2147483647 : Int) < (x : Int) := by omega
    go_enter Tryz.func131, Tryz.ntmps131
    go_wp2_with (first
      | (go_at_call 146; refine (C1.out _ (by repeat (first | exact Ext.refl _ | apply Ext.alloc | apply Ext.more | apply Ext.drewN))).mono ?_; rintro e _ ⟨rfl, d1, os1, rfl⟩)
      | (go_at_call 147; refine (C2.out _ _ _ (by first | exact Or.inl rfl | exact Or.inr rfl | exact Or.inr trivial) (by omega) (by repeat (first | exact Ext.refl _ | apply Ext.alloc | apply Ext.more | apply Ext.drewN))).mono ?_; rintro e _ ⟨rfl, d2, os2, rfl⟩)
      | (go_at_call 148; refine (C3.out _ _ _ (by first | exact Or.inl rfl | exact Or.inr rfl | exact Or.inr trivial) (by omega) (by repeat (first | exact Ext.refl _ | apply Ext.alloc | apply Ext.more | apply Ext.drewN))).mono ?_; rintro e _ ⟨rfl, d3, os3, rfl⟩))
    refine bodyPost_ret (v := .tuple #[.agg #[.string ⟨t.toArray⟩, .int .i64 vk, .int .i64 vi, .string vs, .int .i64 2147483648], .int .i64 ((n1 + n2 + n3 : Nat) : Int), .int .i64 0]) (by simp [results, Tryz.results131, go_sem]) rfl ⟨rfl, by repeat (first | exact Ext.refl _ | apply Ext.alloc | apply Ext.more | apply Ext.drewN)⟩
  · rw [if_neg hbig]
    have hwx : IntKind.i64.wrap (x : Int) = (x : Int) := IntWalk.i64_in _ (by omega)
    have hbig' : ((2147483647 : Int) < (x : Int)) = False := eq_false (by omega)
    clear hbig hx0 hx1
    go_enter Tryz.func131, Tryz.ntmps131
    go_wp2_with (first
      | (go_at_call 146; refine (C1.out _ (by repeat (first | exact Ext.refl _ | apply Ext.alloc | apply Ext.more | apply Ext.drewN))).mono ?_; rintro e _ ⟨rfl, d1, os1, rfl⟩)
      | (go_at_call 147; refine (C2.out _ _ _ (by first | exact Or.inl rfl | exact Or.inr rfl | exact Or.inr trivial) (by omega) (by repeat (first | exact Ext.refl _ | apply Ext.alloc | apply Ext.more | apply Ext.drewN))).mono ?_; rintro e _ ⟨rfl, d2, os2, rfl⟩)
      | (go_at_call 148; refine (C3.out _ _ _ (by first | exact Or.inl rfl | exact Or.inr rfl | exact Or.inr trivial) (by omega) (by repeat (first | exact Ext.refl _ | apply Ext.alloc | apply Ext.more | apply Ext.drewN))).mono ?_; rintro e _ ⟨rfl, d3, os3, rfl⟩))
    refine bodyPost_ret (v := .tuple #[.agg #[.string ⟨t.toArray⟩, .int .i64 vk, .int .i64 vi, .string vs, .int .i64 (x : Int)], .int .i64 ((n1 + n2 + n3 : Nat) : Int), .int .i64 0]) (by simp [results, Tryz.results131, go_sem]) rfl ⟨rfl, by repeat (first | exact Ext.refl _ | apply Ext.alloc | apply Ext.more | apply Ext.drewN)⟩
end Go.Proofs.YtpchohjkelopoaaGreatDoor
