/- Lemmas for the claim (texts Par8, what its proof uses of them). -/
import Derived.Test.YtpoeknndkccbaaaGreatM42
import Derived.Defers
import Derived.Recover
import Derived.RegionTactic
import Derived.ChangeAlike
set_option linter.unusedSimpArgs false
set_option linter.unusedVariables false
set_option maxHeartbeats 4000000
set_option maxRecDepth 20000
namespace Go.Proofs.YtpoeknndkccbaaaGreat
open Go.RowKit
variable {b cap lb lo : Nat} {L : Toks} {z : Int} {nv : Value} {w : World}
attribute [go_sem] more_more Array.size_append
theorem Dp.cast {F : FuncId} {z' : Int} {p : PM Int} (h : Dp b lb lo cap L F z p) (e : z = z') : Dp b lb lo cap L F z' p := e ▸ h
theorem Dp.clo {F : FuncId} {p : PM Int} (h : Dp b lb lo cap L F z p) : Clo b lb lo cap L F #[.pointer (some ⟨b, 0, none⟩), .int .i64 z] (fun _ _ => True) p := fun nv m N w hs _ => h nv m N w hs _ rfl
theorem expr_deep : Dp b lb lo cap L 134 (17 : Int) (pno L 14) := by
 intro nv m N w h r hr
 have D := Lib.hid (qcs (h.alloc (.cells #[.pointer (some ⟨b, 0, none⟩)] 105 (0, 0))) 17 zaf (.error (14, (tk L m).2)) (by unfold deepP; rw [if_pos zaf]))
 have R := Lib.hid hr
 clear h hr
 go_enter Tryz.func134, Tryz.ntmps134
 go_wp2_with ((go_at_call 76; refine D.out.mono ?_; rintro e w1 ⟨he, nv1, hk⟩; unfold noV at he; subst he; have HK := Lib.hid hk; clear hk))
 have := R.out
 subst this
 exact ⟨rfl, PPost.err rfl (((Kp.refl b nv w).alloc _).trans HK.out)⟩
theorem block_deep : Dp b lb lo cap L 49 (17 : Int) (pno L 14) := by
 intro nv m N w h r hr
 have D := Lib.hid (qcs h 17 zaf (.error (14, (tk L m).2)) (by unfold deepP; rw [if_pos zaf]))
 have R := Lib.hid hr
 clear h hr
 go_enter Tryz.func49, Tryz.ntmps49
 go_wp2_with ((go_at_call 76; refine D.out.mono ?_; rintro e w1 ⟨he, nv1, hk⟩; unfold noV at he; subst he; have HK := Lib.hid hk; clear hk))
 have := R.out
 subst this
 exact ⟨rfl, PPost.err rfl HK.out⟩
theorem exprs_any (b lb lo cap : Nat) (L : Toks) : ∀ D d : Nat, d + D = 17 → Dp b lb lo cap L 134 (d : Int) (exprD L D).1 ∧ (d ≤ 16 → Dp b lb lo cap L 143 (d : Int) (exprD L D).2)
 | 0, d, hd => by
  have e : d = 17 := by omega
  subst e
  exact ⟨expr_deep, fun h => by omega⟩
 | D + 1, d, hd => by
  obtain ⟨h1, h2⟩ := exprs_any b lb lo cap L D (d + 1) zaf
  have ec : ((d + 1 : Nat) : Int) = (d : Int) + 1 := by omega
  have ed : 16 - D = d := by omega
  have ho : Dp b lb lo cap L 143 (d : Int) (oneP L d (exprD L D).1 (exprD L D).2) := fun nv m N w hs r hr =>
   one_any hs d zaf _ _ (fun h => (h2 zaf).cast ec) (h1.cast ec) r hr
  have e2 : exprD L (D + 1) = (orP L (oneP L (16 - D) (exprD L D).1 (exprD L D).2), oneP L (16 - D) (exprD L D).1 (exprD L D).2) := rfl
  rw [e2, ed]
  refine ⟨fun nv m N w hs r hr => ?_, fun _ => ho⟩
  have := expr_any d zaf _ ho.clo nv m N w hs trivial
  rw [← hr]; exact this
theorem qdB (b lb lo cap : Nat) (L : Toks) : ∀ D d : Nat, d + D = 17 → Dp b lb lo cap L 49 (d : Int) (blockD L D)
 | 0, d, hd => by
  have e : d = 17 := by omega
  subst e
  exact block_deep
 | D + 1, d, hd => by
  have hb := qdB b lb lo cap L D (d + 1) zaf
  have he := (exprs_any b lb lo cap L (D + 1) d zaf).1
  have ec : ((d + 1 : Nat) : Int) = (d : Int) + 1 := by omega
  intro nv m N w hs r hr
  exact block_any hs d zaf _ (fun nv m N w hs r hr => stmt_any hs d zaf _ _ he (hb.cast ec) r hr)
   (fun m n v m1 ns h => stmt_ok (Fwd.exprD L (D + 1)).1 (Fwd.braced L (Fwd.blockD L D)) h) r hr
theorem of_end {m : Nat} {N : List Nd} (h : St b lb lo cap nv L m N w) :
  Calls Tryz.prog 50 #[.pointer (some ⟨b, 0, none⟩), .int .i64 0] w fun e w' => ((tk L m).1.k = 0 ∧ (∃ v, e = .returned v) ∧ ∃ w1, Ext w w1 ∧ Ext (w1.setCell ⟨b, 1, none⟩ (.int .i64 ((m : Int) + 1))) w') ∨ ((tk L m).1.k ≠ 0 ∧ e = noV 3 (tk L m).2 ∧ Ext w w') := by
 refine yav ?_; intro TK
 refine yah ?_; intro FL
 have hm : (m : Int) ≤ 5000 := by have := h.ends.few; have := h.pos; omega
 have hm0 : 0 ≤ (m : Int) := by omega
 obtain ⟨c0, c1, c2, c3, f1, f2, f3, hb⟩ := h.facts
 clear h c0 c2 c3 f2 f3
 obtain ⟨⟨⟨k, ts, i⟩, a⟩, htt⟩ : ∃ tt, tk L m = tt := ⟨_, rfl⟩
 rw [htt] at TK FL ⊢
 unfold tokV at TK
 dsimp only at TK FL ⊢
 clear htt
 by_cases hk : k = 0
 · subst hk
   refine Calls.mono (R := fun e w' => e = .returned (.agg #[.int .i64 0, .int .i64 a, .string ts, .int .i64 i]) ∧ ∃ w1, Ext w w1 ∧ Ext (w1.setCell ⟨b, 1, none⟩ (.int .i64 ((m : Int) + 1))) w') ?_
    fun e w' ⟨he, hw⟩ => Or.inl ⟨rfl, ⟨_, he⟩, hw⟩
   go_enter Tryz.func50, Tryz.ntmps50
   go_wp2_with (first | (go_at_call 78; refine (TK.out _ zac).mono ?_; rintro e _ ⟨rfl, d2, os2, rfl⟩) | (go_at_call 79; refine (FL.out _ _ zac).mono ?_; rintro e _ ⟨he, d3, os3, rfl⟩; unfold noV at he; subst he))
   exact bodyPost_ret (v := .agg #[.int .i64 0, .int .i64 a, .string ts, .int .i64 i]) (by simp [results, Tryz.results50, go_sem]) rfl ⟨rfl, _, Ext.refl _, zac⟩
 · have hkk : (k != 0) = true := by simpa using hk
   refine Calls.mono (R := fun e w' => e = noV 3 a ∧ Ext w w') ?_ fun e w' ⟨he, hx⟩ => Or.inr ⟨hk, he, hx⟩
   clear hk
   go_enter Tryz.func50, Tryz.ntmps50
   go_wp2_with (first | (go_at_call 78; refine (TK.out _ zac).mono ?_; rintro e _ ⟨rfl, d2, os2, rfl⟩) | (go_at_call 79; refine (FL.out _ _ zac).mono ?_; rintro e _ ⟨he, d3, os3, rfl⟩; unfold noV at he; subst he))
   exact ⟨rfl, rfl, zac⟩
theorem catch_idle (a1 a2 a3 : Addr) (w : World) :
  CallsD Tryz.prog 48 #[.pointer (some a1), .pointer (some a2), .pointer (some a3)] .returning w fun e u' w' => e = .returned (.tuple #[]) ∧ u' = .returning ∧ w' = w := by
 refine callsD_of_wpS Tryz.func48 rfl fun c₀ cs hu => ?_
 apply wpS_seq
 apply wpS_region
 simp [wpOpsS, go_sem, recoverD, hu, Tryz.ntmps48, Exit.thenS]
 refine wpS_of_wp ?_
 go_wp2_with fail
 cases c₀
 simp_all [bodyPostS, results, Tryz.results48]
theorem frame_lit (a b c x y : Value) : (#[a, b, c] ++ ((Array.replicate 12 undef).setIfInBounds 2 x).setIfInBounds 0 y) = #[a, b, c, y, undef, x, undef, undef, undef, undef, undef, undef, undef, undef, undef] := rfl
theorem qbN (kp ke ka : Nat) (c a : Int) (v0 v1 v2 v3 : Value) (older : List PanicEntry) (w : World) (h0 : w.cell? ⟨kp, 0, none⟩ = some v0) (h1 : w.cell? ⟨kp, 1, none⟩ = some v1) (h2 : w.cell? ⟨ke, 0, none⟩ = some v2) (h3 : w.cell? ⟨ka, 0, none⟩ = some v3)
  (z0 : w.frozen? ⟨kp, 0, none⟩ = false) (z1 : w.frozen? ⟨kp, 1, none⟩ = false) (z2 : w.frozen? ⟨ke, 0, none⟩ = false) (z3 : w.frozen? ⟨ka, 0, none⟩ = false) (l1 : kp < w.heap.size) (l2 : ke < w.heap.size) (l3 : ka < w.heap.size) (n1 : kp ≠ ke) (n2 : kp ≠ ka) (n3 : ke ≠ ka) :
  CallsD Tryz.prog 48 #[.pointer (some ⟨kp, 0, none⟩), .pointer (some ⟨ke, 0, none⟩), .pointer (some ⟨ka, 0, none⟩)] (.panicking ({ v := .iface 104 (.agg #[.int .i64 c, .int .i64 a]), recovered := false } :: older)) w fun e u' w' =>
   e = .returned (.tuple #[]) ∧ u' = .panicking ({ v := .iface 104 (.agg #[.int .i64 c, .int .i64 a]), recovered := true } :: older) ∧ w' = (((((w.setCell ⟨kp, 0, none⟩ (.slice none 0 0)).setCell ⟨kp, 1, none⟩ (.int .i64 0)).setCell ⟨ke, 0, none⟩ (.int .i64 c)).setCell ⟨ka, 0, none⟩ (.int .i64 a)).alloc (.cells #[.int .i64 c, .int .i64 a] 104 (0, 0))).drew := by
 refine callsD_of_wpS Tryz.func48 rfl fun c₀ cs hu => ?_
 apply wpS_seq
 apply wpS_region
 simp [wpOpsS, go_sem, recoverD, hu, Tryz.ntmps48, Exit.thenS]
 refine wpS_of_wp ?_
 rw [frame_lit]
 have n1' := n1.symm
 have n2' := n2.symm
 have n3' := n3.symm
 have hta : ∀ (c a : Int) (w : World), (Instr.typeAssert (.iface 104 (.agg #[.int .i64 c, .int .i64 a])) 20 104 false).run Tryz.prog w = .ok (.agg #[.int .i64 c, .int .i64 a]) w := fun c a w => by kernel_rfl
 go_wp2_with fail
 go_region
 cases c₀
 simp_all (config := { zetaDelta := true }) [bodyPostS, results, Tryz.results48]
/-- what Tokens hands back -/
def ParsePost (w : World) (r : Except (Int × Int) (List Nd × Int)) (e : Ending) (w' : World) : Prop :=
 match r with
 | .error (c, a) => e = .returned (.tuple #[.agg #[.slice none 0 0, .int .i64 0], .int .i64 c, .int .i64 a]) ∧ Ext w w'
 | .ok (ns, f) => ∃ nv, e = .returned (.tuple #[.agg #[nv, .int .i64 f], .int .i64 0, .int .i64 0]) ∧ w'.ownsRow w.heap.size 42 8 nv ns.length (qad ns) ∧ Ext w w'
def okAt (L : Toks) (j : Nat) : Bool := ((tk L j).1.k == 0) == decide (j + 1 = L.length)
theorem ends_no {j : Nat} (hj : j < L.length) (h : okAt L j = false) : qdx L = .error (1, 0) := by
 have : endsOk L = false := by
  unfold endsOk
  rw [Bool.and_eq_false_iff]
  right
  rw [List.all_eq_false]
  exact ⟨j, by simpa using hj, by unfold okAt at h; simp [h]⟩
 unfold qdx
 rw [this]; rfl
theorem ends_yes (h0 : 0 < L.length) (hf : L.length ≤ 5000) (h : ∀ j, j < L.length → okAt L j = true) : Ends L ∧ qdx L = progP L := by
 have he : endsOk L = true := by
  unfold endsOk
  rw [Bool.and_eq_true, List.all_eq_true]
  refine ⟨by cases L with | nil => simp at h0 | cons a l => simp, fun j hj => ?_⟩
  have := h j (by simpa using hj)
  unfold okAt at this
  exact this
 refine ⟨⟨h0, hf, fun j hj => ?_⟩, by unfold qdx; rw [he]; rfl⟩
 have := h j hj
 unfold okAt at this
 rw [beq_iff_eq] at this
 constructor
 · intro e; rw [e] at this; simpa using this.symm
 · intro e; have e2 := decide_eq_true e; rw [e2] at this; simpa using this
theorem blk_ext {w' : World} (h : Ext w w') (k : Nat) (hk : k < w.heap.size) : w'.heap[k]? = w.heap[k]? := h.below.block k hk
theorem ext_kp {nv' : Value} {w1 w2 : World} (hx : Ext w w1) (h : Kp b nv nv' w1 w2) (hb : w.heap.size ≤ b) (hn : nv.ownBlock = none) : Ext w w2 := by
 have h1 := hx.below
 refine Ext.of_below ⟨h.os.trans h1.os, h.tape.trans h1.tape, h.output.trans h1.output, Nat.le_trans h1.size h.size, fun k hk => ?_⟩
 rw [h.block k (Nat.lt_of_lt_of_le hk h1.size) zaf (by rw [hn]; simp)]
 exact h1.block k hk
theorem Loc.two {k : Nat} {v0 v1 : Value} {t : TypeId} (h : Loc b nv k (.cells #[v0, v1] t (0, 0)) w) : w.cell? ⟨k, 0, none⟩ = some v0 ∧ w.cell? ⟨k, 1, none⟩ = some v1 ∧ w.frozen? ⟨k, 0, none⟩ = false ∧ w.frozen? ⟨k, 1, none⟩ = false ∧ k < w.heap.size := by
 have := h.is
 refine ⟨?_, ?_, ?_, ?_, h.lt⟩ <;> simp [World.cell?, World.frozen?, this]
theorem Loc.oneF {k : Nat} {v0 : Value} {t : TypeId} (h : Loc b nv k (.cells #[v0] t (0, 0)) w) : w.cell? ⟨k, 0, none⟩ = some v0 ∧ w.frozen? ⟨k, 0, none⟩ = false ∧ k < w.heap.size := by
 have := h.is
 refine ⟨?_, ?_, h.lt⟩ <;> simp [World.cell?, World.frozen?, this]
theorem St.endFacts {m : Nat} {N : List Nd} {w1 w2 : World} (h : St b lb lo cap nv L m N w) (hx : Ext w w1) (hy : Ext (w1.setCell ⟨b, 1, none⟩ (.int .i64 z)) w2) :
  w2.cell? ⟨b, 2, none⟩ = some nv ∧ w2.cell? ⟨b, 3, none⟩ = some (.int .i64 0) ∧ w2.frozen? ⟨b, 3, none⟩ = false ∧ b < w2.heap.size ∧ w2.ownsRow (b + 1) 42 8 nv N.length (qad N) ∧ Kp b nv nv w w2 := by
 have h1 := h.ext hx
 have hb : b < (w1.setCell ⟨b, 1, none⟩ (.int .i64 z)).heap.size := by rw [World.size_setCell]; exact h1.lt
 have e : (w1.setCell ⟨b, 1, none⟩ (.int .i64 z)).heap[b]? = some (.cells #[.slice (some ⟨lb, lo, none⟩) L.length cap, .int .i64 z, nv, .int .i64 0] 107 (0, 0)) := by
  simp [World.setCell, Array.getElem?_modify, h1.blk]
 have e2 := (hy.below.block b hb).trans e
 refine ⟨?_, ?_, ?_, ?_, ?_, (((Kp.refl b nv w).ext hx).setB 1 _).ext hy⟩
 · simp [World.cell?, e2]
 · simp [World.cell?, e2]
 · simp [World.frozen?, e2]
 · have := hy.size; omega
 · exact own_ext (ownsRow_setCell_below h1.row zay _) hy
theorem parse_any (L : Toks) (lb lo cap : Nat) (h0 : 0 < L.length) (hf : L.length ≤ 5000) (w : World) (ht : ToksAt lb lo L w) (r : Except (Int × Int) (List Nd × Int)) (hr : qdx L = r) :
  Calls Tryz.prog 34 #[.slice (some ⟨lb, lo, none⟩) L.length cap] w (ParsePost w r) := by
 have hlb := ht.lt h0
 have HT := Lib.hid ht
 have HR := Lib.hid hr
 have hl0 : 0 < (L.length : Int) := by omega
 have hl1 : (L.length : Int) ≤ 5000 := by omega
 clear ht hr
 go_enter_defers Tryz.func34, Tryz.ntmps34
 go_wp2_with fail
 go_loopg [11] (L.length) (fun g x wr => ∃ j : Nat, x = .int .i64 (j : Int) ∧ j ≤ L.length ∧ L.length ≤ j + g ∧ (∀ i, i < j → okAt L i = true) ∧ ∃ d os, wr = more (((w.alloc (.cells #[.slice none 0 0, .int .i64 0] 24 (0, 0))).alloc (.cells #[.int .i64 0] 27 (0, 0))).alloc (.cells #[.int .i64 0] 3 (0, 0))) d os)
 case atStart => exact ⟨0, rfl, by omega, by omega, fun i h => by omega, Ext.refl _⟩
 case round =>
  obtain ⟨j, rfl, hj, hg, hall, d, os, rfl⟩ := hrel
  have HALL := Lib.hid hall
  clear hall
  by_cases hlt : j < L.length
  · obtain ⟨t0, t1, t2, t3⟩ := HT.out j hlt
    have hlt2 : (j : Int) < (L.length : Int) := by omega
    have hj0 : 0 ≤ (j : Int) := by omega
    have HLT := Lib.hid hlt
    have HG := Lib.hid hg
    have hok : okAt L j = (((tk L j).1.k == 0) == ((j : Int) == (L.length : Int) - 1)) := by
     unfold okAt
     congr 1
     rw [Bool.eq_iff_iff]
     simp
     omega
    have HOK := Lib.hid hok
    obtain ⟨⟨⟨k, ts, i⟩, a⟩, htt⟩ : ∃ tt, tk L j = tt := ⟨_, rfl⟩
    rw [htt] at t0 t1 t2 t3 HOK
    dsimp only at t0 t1 t2 t3 HOK
    clear hok hlt hg htt
    cases q1 : (k == 0) <;> cases q2 : ((j : Int) == (L.length : Int) - 1)
    · rw [q1, q2] at HOK
      go_wp2_with fail
      obtain ⟨g0, rfl⟩ : ∃ g0, gk = g0 + 1 := ⟨gk - 1, by have := HG.out; have := HLT.out; omega⟩
      go_roundg g0
      case measure => omega
      case rel =>
       have h1 := HG.out; have h2 := HLT.out
       exact ⟨j + 1, by go_num, by omega, by omega, fun i hi => by
        rcases Nat.lt_or_ge i j with h | h
        · exact HALL.out i h
        · have : i = j := by omega
          subst this; rw [HOK.out]; rfl, zac⟩
    · rw [q1, q2] at HOK
      have RR := Lib.hid (HR.out.symm.trans (ends_no HLT.out (HOK.out.trans rfl)))
      go_wp2_with fail
      have := RR.out
      subst this
      exact ⟨.tuple #[.agg #[.slice none 0 0, .int .i64 0], .int .i64 1, .int .i64 0], by simp [results, Tryz.results34, go_sem], rfl, zac⟩
    · rw [q1, q2] at HOK
      have RR := Lib.hid (HR.out.symm.trans (ends_no HLT.out (HOK.out.trans rfl)))
      go_wp2_with fail
      have := RR.out
      subst this
      exact ⟨.tuple #[.agg #[.slice none 0 0, .int .i64 0], .int .i64 1, .int .i64 0], by simp [results, Tryz.results34, go_sem], rfl, zac⟩
    · rw [q1, q2] at HOK
      go_wp2_with fail
      obtain ⟨g0, rfl⟩ : ∃ g0, gk = g0 + 1 := ⟨gk - 1, by have := HG.out; have := HLT.out; omega⟩
      go_roundg g0
      case measure => omega
      case rel =>
       have h1 := HG.out; have h2 := HLT.out
       exact ⟨j + 1, by go_num, by omega, by omega, fun i hi => by
        rcases Nat.lt_or_ge i j with h | h
        · exact HALL.out i h
        · have : i = j := by omega
          subst this; rw [HOK.out]; rfl, zac⟩
  · have hje : j = L.length := by omega
    subst hje
    obtain ⟨hE, hP⟩ := ends_yes h0 hf HALL.out
    have HE := Lib.hid hE
    have RR := Lib.hid (hP.symm.trans HR.out)
    have hz : ((L.length : Int) == 0) = false := beq_eq_false_iff_ne.2 zaf
    clear hlt hg hj hE hP
    go_wp2_with fail
    go_at_call 49
    have X1 : Ext w (more (((w.alloc (.cells #[.slice none 0 0, .int .i64 0] 24 (0, 0))).alloc (.cells #[.int .i64 0] 27 (0, 0))).alloc (.cells #[.int .i64 0] 3 (0, 0))) d os) := by repeat (first | exact Ext.refl _ | apply Ext.alloc | apply Ext.more)
    have hX1 := X1.size
    have hsz : (more (((w.alloc (.cells #[.slice none 0 0, .int .i64 0] 24 (0, 0))).alloc (.cells #[.int .i64 0] 27 (0, 0))).alloc (.cells #[.int .i64 0] 3 (0, 0))) d os).heap.size = w.heap.size + 1 + 1 + 1 + os.size := by simp only [more_size, World.size_alloc]
    have LP : Loc (more (((w.alloc (.cells #[.slice none 0 0, .int .i64 0] 24 (0, 0))).alloc (.cells #[.int .i64 0] 27 (0, 0))).alloc (.cells #[.int .i64 0] 3 (0, 0))) d os).heap.size (.slice none 0 0) w.heap.size (.cells #[.slice none 0 0, .int .i64 0] 24 (0, 0)) ((more (((w.alloc (.cells #[.slice none 0 0, .int .i64 0] 24 (0, 0))).alloc (.cells #[.int .i64 0] 27 (0, 0))).alloc (.cells #[.int .i64 0] 3 (0, 0))) d os).alloc (.cells #[.slice (some ⟨lb, lo, none⟩) L.length cap, .int .i64 0, .slice none 0 0, .int .i64 0] 107 (0, 0))) :=
     ⟨(blk_ext (w := w.alloc (.cells #[.slice none 0 0, .int .i64 0] 24 (0, 0))) zac _ zay).trans (heap_alloc_new _ _), by omega, by simp [Value.ownBlock]⟩
    have LE : Loc (more (((w.alloc (.cells #[.slice none 0 0, .int .i64 0] 24 (0, 0))).alloc (.cells #[.int .i64 0] 27 (0, 0))).alloc (.cells #[.int .i64 0] 3 (0, 0))) d os).heap.size (.slice none 0 0) (w.heap.size + 1) (.cells #[.int .i64 0] 27 (0, 0)) ((more (((w.alloc (.cells #[.slice none 0 0, .int .i64 0] 24 (0, 0))).alloc (.cells #[.int .i64 0] 27 (0, 0))).alloc (.cells #[.int .i64 0] 3 (0, 0))) d os).alloc (.cells #[.slice (some ⟨lb, lo, none⟩) L.length cap, .int .i64 0, .slice none 0 0, .int .i64 0] 107 (0, 0))) :=
     ⟨(blk_ext (w := (w.alloc (.cells #[.slice none 0 0, .int .i64 0] 24 (0, 0))).alloc (.cells #[.int .i64 0] 27 (0, 0))) zac _ zay).trans (by have := heap_alloc_new (w.alloc (.cells #[.slice none 0 0, .int .i64 0] 24 (0, 0))) (.cells #[.int .i64 0] 27 (0, 0)); rwa [World.size_alloc] at this), by omega, by simp [Value.ownBlock]⟩
    have LA : Loc (more (((w.alloc (.cells #[.slice none 0 0, .int .i64 0] 24 (0, 0))).alloc (.cells #[.int .i64 0] 27 (0, 0))).alloc (.cells #[.int .i64 0] 3 (0, 0))) d os).heap.size (.slice none 0 0) (w.heap.size + 1 + 1) (.cells #[.int .i64 0] 3 (0, 0)) ((more (((w.alloc (.cells #[.slice none 0 0, .int .i64 0] 24 (0, 0))).alloc (.cells #[.int .i64 0] 27 (0, 0))).alloc (.cells #[.int .i64 0] 3 (0, 0))) d os).alloc (.cells #[.slice (some ⟨lb, lo, none⟩) L.length cap, .int .i64 0, .slice none 0 0, .int .i64 0] 107 (0, 0))) :=
     ⟨(blk_ext (w := (((w.alloc (.cells #[.slice none 0 0, .int .i64 0] 24 (0, 0))).alloc (.cells #[.int .i64 0] 27 (0, 0))).alloc (.cells #[.int .i64 0] 3 (0, 0)))) zac _ zay).trans (by have := heap_alloc_new ((w.alloc (.cells #[.slice none 0 0, .int .i64 0] 24 (0, 0))).alloc (.cells #[.int .i64 0] 27 (0, 0))) (.cells #[.int .i64 0] 3 (0, 0)); rwa [World.size_alloc, World.size_alloc] at this), by omega, by simp [Value.ownBlock]⟩
    have S0 : St (more (((w.alloc (.cells #[.slice none 0 0, .int .i64 0] 24 (0, 0))).alloc (.cells #[.int .i64 0] 27 (0, 0))).alloc (.cells #[.int .i64 0] 3 (0, 0))) d os).heap.size lb lo cap (.slice none 0 0) L 0 [] ((more (((w.alloc (.cells #[.slice none 0 0, .int .i64 0] 24 (0, 0))).alloc (.cells #[.int .i64 0] 27 (0, 0))).alloc (.cells #[.int .i64 0] 3 (0, 0))) d os).alloc (.cells #[.slice (some ⟨lb, lo, none⟩) L.length cap, .int .i64 0, .slice none 0 0, .int .i64 0] 107 (0, 0))) :=
     ⟨HE.out, heap_alloc_new _ _, HT.out.of_block ((X1.alloc _).below.block lb hlb), World.ownsRow_nil _ _ _ _, by omega, h0, by simp⟩
    have X2 := Lib.hid (X1.alloc (.cells #[.slice (some ⟨lb, lo, none⟩) L.length cap, .int .i64 0, .slice none 0 0, .int .i64 0] 107 (0, 0)))
    obtain ⟨kb, hkb⟩ : ∃ kb, (more (((w.alloc (.cells #[.slice none 0 0, .int .i64 0] 24 (0, 0))).alloc (.cells #[.int .i64 0] 27 (0, 0))).alloc (.cells #[.int .i64 0] 3 (0, 0))) d os).heap.size = kb := ⟨_, rfl⟩
    rw [hkb] at LP LE LA S0
    have hkw : w.heap.size + 3 ≤ kb := by omega
    rw [hkb] at hsz
    rw [← hsz]
    clear hkb hsz X1 hX1
    obtain ⟨W1, hW1⟩ : ∃ W1, (more (((w.alloc (.cells #[.slice none 0 0, .int .i64 0] 24 (0, 0))).alloc (.cells #[.int .i64 0] 27 (0, 0))).alloc (.cells #[.int .i64 0] 3 (0, 0))) d os).alloc (.cells #[.slice (some ⟨lb, lo, none⟩) L.length cap, .int .i64 0, .slice none 0 0, .int .i64 0] 107 (0, 0)) = W1 := ⟨_, rfl⟩
    rw [hW1] at LP LE LA S0 X2
    rw [hW1]
    clear hW1
    have LP := Lib.hid LP
    have LE := Lib.hid LE
    have LA := Lib.hid LA
    obtain ⟨r1, h1⟩ : ∃ r1, blockD L 16 0 0 = r1 := ⟨_, rfl⟩
    refine ((qdB kb lb lo cap L 16 1 rfl).cast (z' := 1) rfl _ _ _ _ S0 r1 h1).mono ?_
    clear S0
    rcases r1 with ⟨c1, a1⟩ | ⟨fv, m1, ns1⟩
    · have R2 : RowKit.Hid (.error (c1, a1) = r) := Lib.hid (by rw [← RR.out]; unfold progP; rw [qba h1])
      clear h1 RR
      rintro e w1 ⟨he, nv1, hk⟩
      unfold noV at he
      subst he
      have XK := Lib.hid (ext_kp X2.out hk zaf rfl)
      have LP1 := LP.out.kp hk
      have LE1 := LE.out.kp hk
      have LA1 := LA.out.kp hk
      obtain ⟨p0, p1, y0, y1, lp⟩ := LP1.two
      obtain ⟨p2, y2, le⟩ := LE1.oneF
      obtain ⟨p3, y3, la⟩ := LA1.oneF
      clear LP1 LE1 LA1 hk
      go_wp2_with fail
      refine leaves_cons (f := 48) (args := #[.pointer (some ⟨w.heap.size, 0, none⟩), .pointer (some ⟨w.heap.size + 1, 0, none⟩), .pointer (some ⟨w.heap.size + 1 + 1, 0, none⟩)]) zay (by simp [go_sem]) ?_
      refine (qbN w.heap.size (w.heap.size + 1) (w.heap.size + 1 + 1) c1 a1 _ _ _ _ [] _ p0 p1 p2 p3 y0 y1 y2 y3 lp le la zaf zaf zaf).mono ?_
      rintro e u' w'' ⟨rfl, rfl, rfl⟩
      have := R2.out
      subst this
      refine ⟨.tuple #[.agg #[.slice none 0 0, .int .i64 0], .int .i64 c1, .int .i64 a1], ?_, rfl, (((((XK.out.setCell (by dsimp only; omega) _).setCell (by dsimp only; omega) _).setCell (by dsimp only; omega) _).setCell (by dsimp only; omega) _).alloc _).drew⟩
      simp [results, Tryz.results34, go_sem, p0, p1, p2, p3, lp, le, la]
    · rintro e w1 ⟨he, nv1, hs, hk, _⟩
      unfold intV at he
      subst he
      have hs := hs.cast (List.nil_append _)
      have OE := Lib.hid (of_end hs)
      go_wp2_with fail
      go_at_call 50
      refine OE.out.mono ?_
      rintro e w2 (⟨hk0, ⟨v, rfl⟩, wx, hx, hy⟩ | ⟨hk0, he, hx⟩)
      · have R2 : RowKit.Hid (.ok (ns1, fv) = r) := Lib.hid (by
          rw [← RR.out]
          unfold progP
          rw [qaJ h1, qaJ (v := (tk L m1).1) (m1 := m1 + 1) (ns := []) (by unfold ofP; rw [if_pos hk0])]
          simp [pok, prep])
        obtain ⟨b2, b3, g3, hb2, hrow, hk2⟩ := hs.endFacts hx hy
        have hk3 := hk.trans hk2
        have XK := Lib.hid (ext_kp X2.out hk3 zaf rfl)
        have LP1 := LP.out.kp hk3
        have LE1 := LE.out.kp hk3
        have LA1 := LA.out.kp hk3
        obtain ⟨p0, p1, y0, y1, lp⟩ := LP1.two
        obtain ⟨p2, y2, le⟩ := LE1.oneF
        obtain ⟨p3, y3, la⟩ := LA1.oneF
        obtain ⟨len, cc, pp, rfl, hlen⟩ := nv_form hs
        have HROW := Lib.hid hrow
        have hne1 : kb ≠ w.heap.size := by omega
        have hne2 : kb ≠ w.heap.size + 1 := by omega
        have hne3 : kb ≠ w.heap.size + 1 + 1 := by omega
        have HKW := Lib.hid hkw
        clear hs hk hk2 hk3 LP1 LE1 LA1 hx hy hrow h1 RR hk0 OE hkw hlen
        go_wp2_with fail
        refine leaves_cons (f := 48) (args := #[.pointer (some ⟨w.heap.size, 0, none⟩), .pointer (some ⟨w.heap.size + 1, 0, none⟩), .pointer (some ⟨w.heap.size + 1 + 1, 0, none⟩)]) zay (by simp [go_sem]) ?_
        refine (catch_idle _ _ _ _).mono ?_
        rintro e u' w'' ⟨rfl, rfl, rfl⟩
        have := R2.out
        subst this
        have hkw := HKW.out
        refine ⟨.tuple #[.agg #[.slice pp len cc, .int .i64 fv], .int .i64 0, .int .i64 0], ?_, .slice pp len cc, rfl, ?_, ?_⟩
        · simp [results, Tryz.results34, go_sem, p0, p1, p2, p3, lp, le, la, hne1, hne2, hne3]
        · refine World.ownsRow.mono (base := kb + 1) ?_ zaf
          repeat (first | (with_reducible exact HROW.out) | (with_reducible refine ownsRow_setCell_below ?_ (by dsimp only; omega) _))
        · repeat (first | (with_reducible exact XK.out) | (with_reducible refine Ext.setCell ?_ (by dsimp only; omega) _))
      · have R2 : RowKit.Hid (.error (3, (tk L m1).2) = r) := Lib.hid (by rw [← RR.out]; unfold progP; rw [qaJ h1, qba (e := (3, (tk L m1).2)) (by unfold ofP; rw [if_neg hk0])]; rfl)
        have hk3 := hk.trans ((Kp.refl _ _ _).ext hx)
        unfold noV at he
        subst he
        clear hs hk hx h1 RR hk0 OE
        have XK := Lib.hid (ext_kp X2.out hk3 zaf rfl)
        have LP1 := LP.out.kp hk3
        have LE1 := LE.out.kp hk3
        have LA1 := LA.out.kp hk3
        obtain ⟨p0, p1, y0, y1, lp⟩ := LP1.two
        obtain ⟨p2, y2, le⟩ := LE1.oneF
        obtain ⟨p3, y3, la⟩ := LA1.oneF
        clear LP1 LE1 LA1 hk3
        go_wp2_with fail
        refine leaves_cons (f := 48) (args := #[.pointer (some ⟨w.heap.size, 0, none⟩), .pointer (some ⟨w.heap.size + 1, 0, none⟩), .pointer (some ⟨w.heap.size + 1 + 1, 0, none⟩)]) zay (by simp [go_sem]) ?_
        refine (qbN w.heap.size (w.heap.size + 1) (w.heap.size + 1 + 1) 3 (tk L m1).2 _ _ _ _ [] _ p0 p1 p2 p3 y0 y1 y2 y3 lp le la zaf zaf zaf).mono ?_
        rintro e u' w'' ⟨rfl, rfl, rfl⟩
        have := R2.out
        subst this
        refine ⟨.tuple #[.agg #[.slice none 0 0, .int .i64 0], .int .i64 3, .int .i64 (tk L m1).2], ?_, rfl, (((((XK.out.setCell (by dsimp only; omega) _).setCell (by dsimp only; omega) _).setCell (by dsimp only; omega) _).setCell (by dsimp only; omega) _).alloc _).drew⟩
        simp [results, Tryz.results34, go_sem, p0, p1, p2, p3, lp, le, la]
end Go.Proofs.YtpoeknndkccbaaaGreat
