/- Lemmas for the claim (texts Tm2, TmP, TmQ, TmD, what its proof uses of them). -/
import Derived.Test.YtpchohjkelopoaaGreatDoorK11
import Derived.Test.YtpchohjkelopoaaGreatDoorK12
import Derived.Lib.ItoaLen
import Derived.Lib.LaidTab
set_option linter.unusedSimpArgs false
set_option linter.unusedVariables false
set_option maxRecDepth 20000
namespace Go.Proofs.YtpchohjkelopoaaGreatDoor
open Go.RowKit
/-- ints that lie in a row, or an empty slice -/
def IntsAt (w : World) (v : Value) (l : List Int) : Prop :=
  (∃ p cap, v = .slice p 0 cap ∧ l = []) ∨ ∃ b off cap, v = .slice (some ⟨b, off, none⟩) l.length cap ∧ l.length ≤ cap ∧ ∀ j u, l[j]? = some u → w.cell? ⟨b, off + j, none⟩ = some (.int .i64 u)
def In64L (l : List Int) : Prop := ∀ u ∈ l, -9223372036854775808 ≤ u ∧ u ≤ 9223372036854775807
/-- numbers as a text -/
def digF (l : List Int) : List UInt8 := l.flatMap fun n => Lib.itoa n ++ [44]
theorem digF_snoc (l : List Int) (k : Nat) (u : Int) (h : l[k]? = some u) : digF (l.take (k + 1)) = digF (l.take k) ++ Lib.itoa u ++ [44] := by
  rw [List.take_add_one, h]; simp [digF, List.flatMap_append]
theorem digF_len : ∀ (l : List Int), In64L l → (digF l).length ≤ 22 * l.length
  | [], _ => by simp [digF]
  | x :: l, h => by
    have h1 := Lib.itoa_length_le x (h x (by simp)).1 (h x (by simp)).2
    have h2 := digF_len l (fun u hu => h u (by simp [hu]))
    have e : digF (x :: l) = Lib.itoa x ++ [44] ++ digF l := by simp [digF]
    rw [e]; simp; omega
theorem In64L.take {l : List Int} (h : In64L l) (k : Nat) : In64L (l.take k) := fun u hu => h u (List.mem_of_mem_take hu)
/-- the table of powers of ten lies where it was laid -/
def Pow10 (B : Nat) (w : World) : Prop := (∃ g, Tryz.prog.globalNamed "internal/strconv.uint64pow10" = some g ∧ g < B) ∧ Lib.TabIs Tryz.prog w "internal/strconv.uint64pow10" .u64 Lib.pow10Tab
theorem Pow10.below {B B' : Nat} {w w' : World} (h : Pow10 B w) (hb : Below B' w w') (hB : B ≤ B') : Pow10 B w' := by
  obtain ⟨⟨g, hg, hlt⟩, h⟩ := h
  refine ⟨⟨g, hg, hlt⟩, ?_⟩
  unfold Lib.TabIs World.var? at h ⊢
  rw [hg] at h ⊢
  simp only [Option.bind_some] at h ⊢
  rw [hb.block _ (by omega)]; exact h
theorem ext_grow {w w' : World} {k : Nat} {os : Array Obj} (h : w' = Go.Sort.grow (w.drewN k) os) : Ext w w' := ⟨_, os, h⟩
theorem bld_app {B b : Nat} {acc m : List UInt8} {w : World} (h : Bld B b (cellsB acc ++ Lib.strCells ⟨m.toArray⟩) w) : Bld B b (cellsB (acc ++ m)) w := by
  rw [cellsB_append]; exact h
theorem bld_one {B b : Nat} {acc : List UInt8} {c : UInt8} {z : Int} {w : World} (h : Bld B b (cellsB acc ++ [.int .u8 z]) w) (hz : z = c.toNat) : Bld B b (cellsB (acc ++ [c])) w := by
  subst hz
  rw [cellsB_append]; exact h
set_option maxHeartbeats 2000000 in
set_option maxRecDepth 20000 in
theorem digits_some (b off cap : Nat) (l : List Int) (hcap : l.length ≤ cap) (hl : l.length ≤ 60) (h64 : In64L l) (w : World) (hc : ∀ j u, l[j]? = some u → w.cell? ⟨b, off + j, none⟩ = some (.int .i64 u)) (PB : Nat) (hP : Pow10 PB w) (hpg : PB ≤ w.heap.size) :
    Calls Tryz.prog 93 #[.slice (some ⟨b, off, none⟩) l.length cap] w fun e w' => e = .returned (.string ⟨(digF l).toArray⟩) ∧ Below w.heap.size w w' := by
  have HC := Lib.hid hc
  have H64 := Lib.hid h64
  have HP := Lib.hid hP
  obtain ⟨n, hn⟩ : ∃ n, l.length = n := ⟨_, rfl⟩
  rw [hn] at hcap hl ⊢
  have hn6 : (n : Int) ≤ 60 := by omega
  have HN := Lib.hid hn
  clear hc h64 hP hn
  go_enter Tryz.func93, Tryz.ntmps93
  go_wp2_with fail
  go_loopw [8] (fun ii wr => ∃ (k : Nat) (acc : List UInt8), ii = .int .i64 (k : Int) ∧ k ≤ n ∧ acc = digF (l.take k) ∧ Bld w.heap.size w.heap.size (cellsB acc) wr ∧ Below w.heap.size w wr) (fun ii _ => n - (intOf ii).toNat)
  case atStart => exact ⟨0, [], rfl, Nat.zero_le _, rfl, Lib.fresh_isBuilder 202 5 w, (Below.refl _ _).alloc (Nat.le_refl _) _⟩
  case round =>
    obtain ⟨k, acc, rfl, hk, hacc, hB, hbl⟩ := hrel
    have hal : acc.length ≤ 1500 := by
      have h1 := digF_len (l.take k) (H64.out.take k)
      rw [← hacc] at h1
      have := List.length_take_le k l
      omega
    have HAC := Lib.hid hacc
    have HB := Lib.hid hB
    have HBL := Lib.hid hbl
    have HAL := Lib.hid hal
    clear hacc hB hbl hal
    by_cases hlt : k < n
    · obtain ⟨u, hu⟩ : ∃ u, l[k]? = some u := ⟨_, List.getElem?_eq_getElem (by have := HN.out; omega)⟩
      obtain ⟨u0, u1⟩ := H64.out u (List.mem_of_getElem? hu)
      have hcw := HC.out k u hu
      have hbs : b < w.heap.size := by
        rcases Nat.lt_or_ge b w.heap.size with h | h
        · exact h
        · simp [World.cell?, Array.getElem?_eq_none h] at hcw
      have hcr : wr.cell? ⟨b, off + k, none⟩ = some (.int .i64 u) := by rw [HBL.out.cell (p := ⟨b, off + k, none⟩) hbs]; exact hcw
      have HST := Lib.hid (digF_snoc l k u hu)
      have HPR := Lib.hid (HP.out.below HBL.out hpg)
      have HI := Lib.hid (Tryz.strconv_Itoa u u0 u1)
      have hil := Lib.itoa_length_le u u0 u1
      have HIL := Lib.hid hil
      clear hu hcw hil u0 u1
      go_wp2_with (go_at_call 101; refine (HI.out _ HPR.out.2).mono ?_; rintro e w2 ⟨rfl, kk, oo, hw2⟩; have HX2 := Lib.hid (ext_grow hw2); clear hw2)
      refine (writeString_any w.heap.size w.heap.size (cellsB acc) _ _ (bld_ext HB.out HX2.out) (by rw [cellsB_length]; have := HAL.out; have h2 := HIL.out; have e : (⟨(Lib.itoa u).toArray⟩ : ByteArray).size = (Lib.itoa u).length := rfl; omega) (by have := HBL.out.size; have := HX2.out.size; omega)).mono ?_
      rintro e w3 ⟨rfl, hB3, hbl3⟩
      have HB3 := Lib.hid (bld_app hB3)
      have HBL3 := Lib.hid ((HBL.out.trans (HX2.out.below.mono HBL.out.size)).trans hbl3)
      clear hB3 hbl3
      go_wp2_with fail
      refine (writeByte_any w.heap.size w.heap.size (cellsB (acc ++ Lib.itoa u)) 44 _ HB3.out (by rw [cellsB_length]; have := HAL.out; have h2 := HIL.out; simp; omega) (by have := HBL3.out.size; omega)).mono ?_
      rintro e w4 ⟨rfl, hB4, hbl4⟩
      have HB4 := Lib.hid (bld_one (c := 44) hB4 rfl)
      have HBL4 := Lib.hid (HBL3.out.trans hbl4)
      clear hB4 hbl4
      go_wp2_with fail
      go_roundw
      case rel => exact ⟨k + 1, _, by go_num, by omega, by rw [HST.out, ← HAC.out], HB4.out, HBL4.out⟩
      case measure => simp [intOf]; omega
    · have hkn : k = n := by omega
      subst hkn
      have hall : l.take k = l := List.take_of_length_le (by have := HN.out; omega)
      have he : acc = digF l := by rw [HAC.out, hall]
      have HE := Lib.hid he
      clear hall he
      go_wp2_with fail
      refine (Tryz.Builder_String_any w.heap.size w.heap.size acc _ HB.out (by have := HBL.out.size; omega)).mono ?_
      rintro e w2 ⟨rfl, hbl2⟩
      have HBL2 := Lib.hid (HBL.out.trans hbl2)
      clear hbl2
      go_wp2_with fail
      go_ret
      rw [HE.out]
      exact ⟨rfl, HBL2.out⟩
set_option maxHeartbeats 2000000 in
theorem digits_none (p : Option Addr) (cap : Nat) (w : World) :
    Calls Tryz.prog 93 #[.slice p 0 cap] w fun e w' => e = .returned (.string ⟨(digF []).toArray⟩) ∧ Below w.heap.size w w' := by
  go_enter Tryz.func93, Tryz.ntmps93
  go_wp2_with fail
  go_loopw [8] (fun ii wr => ii = .int .i64 0 ∧ Bld w.heap.size w.heap.size (cellsB []) wr ∧ Below w.heap.size w wr) (fun ii _ => 0)
  case atStart => exact ⟨rfl, Lib.fresh_isBuilder 202 5 w, (Below.refl _ _).alloc (Nat.le_refl _) _⟩
  case round =>
    obtain ⟨rfl, hB, hbl⟩ := hrel
    have HB := Lib.hid hB
    have HBL := Lib.hid hbl
    clear hB hbl
    go_wp2_with fail
    refine (Tryz.Builder_String_any w.heap.size w.heap.size [] _ HB.out (by have := HBL.out.size; omega)).mono ?_
    rintro e w2 ⟨rfl, hbl2⟩
    have HBL2 := Lib.hid (HBL.out.trans hbl2)
    clear hbl2
    go_wp2_with fail
    go_ret
    exact ⟨rfl, HBL2.out⟩
theorem digits_any (v : Value) (l : List Int) (hl : l.length ≤ 60) (h64 : In64L l) (w : World) (hc : IntsAt w v l) (PB : Nat) (hP : Pow10 PB w) (hpg : PB ≤ w.heap.size) :
    Calls Tryz.prog 93 #[v] w fun e w' => e = .returned (.string ⟨(digF l).toArray⟩) ∧ Ext w w' := by
  rcases hc with ⟨p, cap, rfl, rfl⟩ | ⟨b, off, cap, rfl, h1, h2⟩
  · exact (digits_none p cap w).mono fun e w' ⟨h1, h2⟩ => ⟨h1, Ext.of_below h2⟩
  · exact (digits_some b off cap l h1 hl h64 w h2 PB hP hpg).mono fun e w' ⟨h1, h2⟩ => ⟨h1, Ext.of_below h2⟩
set_option maxHeartbeats 1000000 in
theorem list_any (B bt bm : Nat) (tv : Value) (l : List ByteArray) (v : Value) (zs : List Int) (hl : zs.length ≤ 60) (h64 : In64L zs) (w : World) (hc : IntsAt w v zs) (PB : Nat) (hP : Pow10 PB w) (hpg : PB ≤ w.heap.size) (h : TabAt B bt bm tv l w) :
    Calls Tryz.prog 65 #[.pointer (some ⟨bt, 0, none⟩), v] w (OfPost B bt bm tv (ofF l ⟨(digF zs).toArray⟩) w) := by
  have hsz : (⟨(digF zs).toArray⟩ : ByteArray).size ≤ maxLen := by
    have := digF_len zs h64
    have e : (⟨(digF zs).toArray⟩ : ByteArray).size = (digF zs).length := rfl
    unfold maxLen; omega
  have HD := Lib.hid (digits_any v zs hl h64 w hc PB hP hpg)
  have HT := Lib.hid h
  have HS := Lib.hid hsz
  obtain ⟨r, hr⟩ : ∃ r, ofF l ⟨(digF zs).toArray⟩ = r := ⟨_, rfl⟩
  rw [hr]
  have HR := Lib.hid hr
  obtain ⟨t, ht⟩ : ∃ t : ByteArray, (⟨(digF zs).toArray⟩ : ByteArray) = t := ⟨_, rfl⟩
  rw [ht] at HD HS HR
  clear hc hP h hsz hr ht h64
  go_enter Tryz.func65, Tryz.ntmps65
  go_wp2_with (go_at_call 93; refine HD.out.mono ?_; rintro e w1 ⟨rfl, hx⟩; have HX := Lib.hid hx; clear hx)
  refine (of_any B bt bm tv l t HS.out w1 (HT.out.ext HX.out)).mono ?_
  rintro e w2 ⟨rfl, tv', h1, h2, h3⟩
  rw [HR.out] at h1 ⊢
  have H1 := Lib.hid h1
  have H2 := Lib.hid h2
  have H3 := Lib.hid h3
  clear h1 h2 h3
  go_wp2_with fail
  go_ret2
  obtain ⟨k1, k2, k3, k4, k5⟩ := H2.out
  have hb := HX.out.below
  have := HX.out.size
  refine ⟨rfl, tv', H1.out, ⟨k1.trans hb.os, k2.trans hb.tape, k3.trans hb.output, by omega, fun k hk a1 a2 a3 => by rw [k5 k (by omega) a1 a2 a3, hb.block k hk]⟩, ?_⟩
  rcases H3.out with h | ⟨k, h, hk⟩
  · exact Or.inl h
  · exact Or.inr ⟨k, h, by omega⟩
end Go.Proofs.YtpchohjkelopoaaGreatDoor

namespace Go.Proofs.YtpchohjkelopoaaGreatDoor
open Go.RowKit
def decV (l : List UInt8) : Nat := l.foldl (fun a c => 10 * a + (c.toNat - 48)) 0
theorem decV_dec : ∀ (n u : Nat), u < n → decV (Lib.decDigits u) = u ∧ (∀ c ∈ Lib.decDigits u, 48 ≤ c.toNat ∧ c.toNat ≤ 57) ∧ Lib.decDigits u ≠ []
  | 0, u, h => by omega
  | n + 1, u, h => by
    rw [Lib.decDigits]
    split
    · next h1 =>
      have e : (UInt8.ofNat (48 + u)).toNat = 48 + u := by simp; omega
      refine ⟨?_, ?_, by simp⟩
      · simp only [decV, List.foldl_cons, List.foldl_nil, e]; omega
      · intro c hc; simp only [List.mem_singleton] at hc; subst hc; rw [e]; omega
    · next h1 =>
      obtain ⟨h2, h3, _⟩ := decV_dec n (u / 10) (by omega)
      have e : (UInt8.ofNat (48 + u % 10)).toNat = 48 + u % 10 := by simp; omega
      refine ⟨?_, ?_, by simp⟩
      · unfold decV at h2 ⊢
        rw [List.foldl_append, h2]
        simp only [List.foldl_cons, List.foldl_nil, e]; omega
      · intro c hc
        rcases List.mem_append.1 hc with hc | hc
        · exact h3 c hc
        · simp only [List.mem_singleton] at hc; subst hc; rw [e]; omega
theorem itoa_inj (a b : Int) (h : Lib.itoa a = Lib.itoa b) : a = b := by
  have key : ∀ u, decV (Lib.decDigits u) = u ∧ (∀ c ∈ Lib.decDigits u, 48 ≤ c.toNat ∧ c.toNat ≤ 57) ∧ Lib.decDigits u ≠ [] := fun u => decV_dec (u + 1) u (by omega)
  have no45 : ∀ (u : Nat) (l : List UInt8), Lib.decDigits u = 45 :: l → False := fun u l e => by
    have := (key u).2.1 45 (by rw [e]; simp)
    simp at this
  unfold Lib.itoa at h
  split at h
  · split at h
    · simp only [List.cons.injEq, true_and] at h
      have := congrArg decV h
      rw [(key _).1, (key _).1] at this
      omega
    · exact (no45 _ _ h.symm).elim
  · split at h
    · exact (no45 _ _ h).elim
    · have := congrArg decV h
      rw [(key _).1, (key _).1] at this
      omega
theorem itoa_comma (a : Int) : ∀ c ∈ Lib.itoa a, c ≠ 44 := by
  intro c hc e
  subst e
  unfold Lib.itoa at hc
  split at hc
  · rcases List.mem_cons.1 hc with h | h
    · exact absurd h (by decide)
    · have := (decV_dec _ _ (Nat.lt_succ_self _)).2.1 44 h; simp at this
  · have := (decV_dec _ _ (Nat.lt_succ_self _)).2.1 44 hc; simp at this
theorem cut_comma : ∀ (u v r s : List UInt8), (∀ c ∈ u, c ≠ 44) → (∀ c ∈ v, c ≠ 44) → u ++ 44 :: r = v ++ 44 :: s → u = v ∧ r = s
  | [], [], r, s, _, _, h => by simp at h; exact ⟨rfl, h⟩
  | [], y :: v, r, s, _, hv, h => by simp at h; exact absurd h.1.symm (hv y (by simp))
  | x :: u, [], r, s, hu, _, h => by simp at h; exact absurd h.1 (hu x (by simp))
  | x :: u, y :: v, r, s, hu, hv, h => by
    simp at h
    obtain ⟨h1, h2⟩ := cut_comma u v r s (fun c hc => hu c (by simp [hc])) (fun c hc => hv c (by simp [hc])) h.2
    exact ⟨by rw [h.1, h1], h2⟩
theorem digF_inj : ∀ (l m : List Int), digF l = digF m → l = m
  | [], [], _ => rfl
  | [], y :: m, h => by
    have e : digF (y :: m) = Lib.itoa y ++ 44 :: digF m := by simp [digF]
    rw [e] at h
    have := congrArg List.length h
    simp [digF] at this
  | x :: l, [], h => by
    have e : digF (x :: l) = Lib.itoa x ++ 44 :: digF l := by simp [digF]
    rw [e] at h
    have := congrArg List.length h
    simp [digF] at this
  | x :: l, y :: m, h => by
    have e : ∀ x l, digF (x :: l) = Lib.itoa x ++ 44 :: digF l := fun x l => by simp [digF]
    rw [e, e] at h
    obtain ⟨h1, h2⟩ := cut_comma _ _ _ _ (itoa_comma x) (itoa_comma y) h
    rw [itoa_inj x y h1, digF_inj l m h2]
theorem dig_ba (l m : List Int) (h : (⟨(digF l).toArray⟩ : ByteArray) = ⟨(digF m).toArray⟩) : l = m := by
  apply digF_inj
  have := congrArg (fun z : ByteArray => z.data.toList) h
  simpa using this
end Go.Proofs.YtpchohjkelopoaaGreatDoor

set_option maxRecDepth 20000
namespace Go.Proofs.YtpchohjkelopoaaGreatDoor
open Go.RowKit
theorem rcell_lt {w : World} {a : Addr} {v : Value} (h : w.cell? a = some v) : a.block < w.heap.size := by
  rcases Nat.lt_or_ge a.block w.heap.size with h' | h'
  · exact h'
  · simp [World.cell?, Array.getElem?_eq_none h'] at h
theorem idxF_take : ∀ (l : List ByteArray) (s : ByteArray) (k : Nat), idxF (l.take k) s = 0 → l[k]? = some s → idxF l s = k + 1
  | [], s, k, _, h => by simp at h
  | x :: l, s, 0, _, h => by simp at h; simp [idxF, h]
  | x :: l, s, k + 1, h0, h => by
    simp only [List.take_succ_cons, idxF] at h0
    simp only [List.getElem?_cons_succ] at h
    split at h0
    · omega
    next hx =>
    split at h0
    · next hz =>
      have := idxF_take l s k hz h
      simp only [idxF]
      rw [if_neg hx, if_neg (by omega), this]
    · omega
theorem idxF_step (l : List ByteArray) (s u : ByteArray) (k : Nat) (h0 : idxF (l.take k) s = 0) (hu : l[k]? = some u) (hne : ¬ u = s) : idxF (l.take (k + 1)) s = 0 := by
  rw [List.take_add_one, hu]
  simp only [Option.toList_some]
  rw [idxF_snoc, if_pos h0, if_neg hne]
theorem ret_int0 {k : IntKind} {a b : Int} (h : a = b) : Ending.returned (.int k a) = .returned (.int k b) := by rw [h]
set_option maxHeartbeats 2000000 in
set_option maxRecDepth 20000 in
theorem rhas_core (p : Option Addr) (n cap : Nat) (l : List ByteArray) (s : ByteArray) (w : World) (hn : l.length = n) (hc : ∀ j u, l[j]? = some u → ∃ b off, p = some ⟨b, off, none⟩ ∧ w.cell? ⟨b, off + j, none⟩ = some (.string u)) (hn6 : n ≤ 100000) :
    Calls Tryz.prog 77 #[.slice p n cap, .string s] w fun e w' => e = .returned (.int .i64 (idxF l s : Int)) ∧ w = w' := by
  have HN := Lib.hid hn
  have HC := Lib.hid hc
  have hn7 : (n : Int) ≤ 100000 := by omega
  clear hn hc hn6
  go_enter Tryz.func77, Tryz.ntmps77
  go_wp2_with fail
  go_loop [5] (fun ii => ∃ k : Nat, ii = .int .i64 (k : Int) ∧ k ≤ n ∧ idxF (l.take k) s = 0) (fun ii => n - (intOf ii).toNat)
  case atStart => exact ⟨0, rfl, Nat.zero_le _, rfl⟩
  case round =>
    obtain ⟨k, rfl, hk, h0⟩ := hrel
    have H0 := Lib.hid h0
    clear h0
    by_cases hlt : k < n
    · obtain ⟨u, hu⟩ : ∃ u, l[k]? = some u := ⟨_, List.getElem?_eq_getElem (by have := HN.out; omega)⟩
      obtain ⟨b1, o1, rfl, cu⟩ := HC.out k u hu
      have hb1 := rcell_lt cu
      have HU := Lib.hid hu
      have hlt3 : (k : Int) < n := by omega
      clear hu
      by_cases hus : u = s
      · subst hus
        have HR := Lib.hid (idxF_take l u k H0.out HU.out)
        go_wp2_with fail
        go_ret
        rw [HR.out]
        exact ⟨ret_int0 (by omega), rfl⟩
      · have hab1 : (u.toList == s.toList) = false := by
          rw [beq_eq_false_iff_ne, Lib.toList_data, Lib.toList_data]
          intro e
          exact hus (ByteArray.ext (Array.toList_inj.1 e))
        have hab2 : (u.toList = s.toList) = False := by simpa using hab1
        have HST := Lib.hid (idxF_step l s u k H0.out HU.out hus)
        clear hus
        go_wp2_with fail
        go_round
        case rel => exact ⟨k + 1, by go_num, by omega, HST.out⟩
        case measure => simp [intOf]; omega
    · have hks : n = k := by omega
      subst hks
      have hall : l.take n = l := List.take_of_length_le (by have := HN.out; omega)
      have HZ := Lib.hid (show idxF l s = 0 by have := H0.out; rwa [hall] at this)
      clear hall
      go_wp2_with fail
      go_ret
      rw [HZ.out]
      exact ⟨rfl, rfl⟩
/-- a row of texts of the call's own, read -/
theorem own_texts {w : World} {B : Nat} {v : Value} {l : List ByteArray} (h : w.ownsRow B 9 1 v l.length (l.map Value.string)) : ∃ p cap, v = .slice p l.length cap ∧ l.length ≤ cap ∧ ∀ j u, l[j]? = some u → ∃ b off, p = some ⟨b, off, none⟩ ∧ w.cell? ⟨b, off + j, none⟩ = some (.string u) := by
  rcases h.2 with ⟨rfl, h0⟩ | ⟨g, cap, cur, rfl, _, _, hc, _⟩
  · exact ⟨none, 0, by rw [h0], by omega, fun j u hj => by have := (List.getElem?_eq_some_iff.1 hj).1; omega⟩
  · refine ⟨_, cap, rfl, hc, fun j u hj => ⟨g, 0, rfl, ?_⟩⟩
    have := h.cells (g := g) rfl j (.string u) (by simp [hj])
    rw [Addr.add_lit] at this
    exact this
/-- what the document's Of hands back: the list, as a row of the call's own -/
def ROfPost (B : Nat) (v : Value) (r : List ByteArray × Nat × Int) (w : World) (e : Ending) (w' : World) : Prop :=
  ∃ v', e = .returned (.tuple #[v', .int .i64 (r.2.1 : Int), .int .i64 r.2.2]) ∧ w'.ownsRow B 9 1 v' r.1.length (r.1.map Value.string) ∧ w.grownBy w' v.ownBlock ∧ (v'.ownBlock = v.ownBlock ∨ ∃ k, v'.ownBlock = some k ∧ w.heap.size ≤ k)
theorem grown_refl' (w : World) (row : Option Nat) : w.grownBy w row := ⟨rfl, rfl, rfl, Nat.le_refl _, fun _ _ _ => rfl⟩
set_option maxHeartbeats 2000000 in
set_option maxRecDepth 20000 in
theorem rof_any (B : Nat) (v : Value) (l : List ByteArray) (s : ByteArray) (w : World) (hl : l.length ≤ 1000) (h : w.ownsRow B 9 1 v l.length (l.map Value.string)) (hBw : B ≤ w.heap.size) :
    Calls Tryz.prog 51 #[v, .string s] w (ROfPost B v (ofF l s) w) := by
  obtain ⟨p, cap, rfl, hcap, hcells⟩ := own_texts h
  have HR := Lib.hid (rhas_core p _ cap l s w rfl hcells (by omega))
  have HO := Lib.hid h
  have hl7 : (65536 ≤ (l.length : Int)) = False := by simp; omega
  have HL := Lib.hid hl
  clear h hcells hl
  unfold ofF
  obtain ⟨n, hn⟩ : ∃ n, idxF l s = n := ⟨_, rfl⟩
  rw [hn] at HR ⊢
  by_cases h0 : n = 0
  · subst h0
    rw [if_neg (by simp), if_neg (by have := HL.out; omega)]
    obtain ⟨i0, hi, hz0, hz1, hz2⟩ := info_parts strInfo
    clear hn
    go_enter Tryz.func51, Tryz.ntmps51
    go_wp2_with (first
      | (go_at_call 77; refine HR.out.mono ?_; rintro e _ ⟨rfl, rfl⟩)
      | (at_builtin; refine wpList_append_own_at _ rfl _ _ 22 rfl B 9 i0 (.string ⟨#[]⟩) 1 16 Tryz.underlying22 hi hz0 hz1 hz2 rfl (by decide) (.slice p l.length cap) l.length (l.map Value.string) rfl (HO.out.alloc _) ⟨w.heap.size, 0, none⟩ 1 1 [.string s] rfl rfl ?c1 ?c2 ?c3 ?c4 ?c5 ?_))
    case c1 => exact news_one' rfl
    case c2 => intro u hu; simp at hu; subst hu; rfl
    case c3 => have := HL.out; unfold maxLen; omega
    case c4 => have := HL.out; omega
    case c5 => simp; omega
    intro v' w1 hown' hgrow _ hblk
    obtain ⟨g', cap', rfl, _, hgl⟩ := hown'.form (by omega)
    have HOW := Lib.hid hown'
    have HG := Lib.hid hgrow
    have HBK := Lib.hid hblk
    clear hown' hgrow hblk
    go_wp2_with fail
    go_ret3
    have hlen : (l ++ [s]).length = l.length + 1 := by simp
    refine ⟨_, rfl, ?_, ?_, ?_⟩
    · have := HOW.out
      rw [hlen]; simpa using this
    · obtain ⟨a1, a2, a3, a4, a5⟩ := HG.out
      refine ⟨a1, a2, a3, by simp at a4; omega, fun k hk hne => ?_⟩
      rw [a5 k (by simp; omega) hne, Lib.alloc_old w _ k hk]
    · rcases HBK.out with h | h
      · exact Or.inl h
      · exact Or.inr ⟨_, h, by simp⟩
  · rw [if_pos h0]
    have hn1 : (0 : Int) < n := by omega
    clear hn h0
    go_enter Tryz.func51, Tryz.ntmps51
    go_wp2_with (go_at_call 77; refine HR.out.mono ?_; rintro e _ ⟨rfl, rfl⟩)
    go_ret3
    exact ⟨_, rfl, HO.out, grown_refl' _ _, Or.inl rfl⟩
/-! ### numbers -/
theorem wrap_in {n : Int} (h0 : -9223372036854775808 ≤ n) (h1 : n ≤ 9223372036854775807) : wrap64 n = n := by
  unfold wrap64; omega
theorem dec_big {m : Nat} (h : ¬ m < 10) : Lib.decDigits m = Lib.decDigits (m / 10) ++ [UInt8.ofNat (48 + m % 10)] := by
  rw [Lib.decDigits, dif_neg h]
/-- what is left to be written of u: m, ahead of t -/
def NumRel (u m : Nat) (t : List UInt8) : Prop := (m ≠ 0 ∧ Lib.decDigits u = Lib.decDigits m ++ t) ∨ (m = 0 ∧ Lib.decDigits u = t)
theorem NumRel.step {u m : Nat} {t : List UInt8} (h : NumRel u m t) (h0 : m ≠ 0) : NumRel u (m / 10) (UInt8.ofNat (48 + m % 10) :: t) := by
  rcases h with ⟨_, h⟩ | ⟨h, _⟩
  · by_cases hb : m < 10
    · right
      refine ⟨by omega, ?_⟩
      rw [h, Lib.decDigits_one hb]
      have : m % 10 = m := by omega
      rw [this]; rfl
    · left
      refine ⟨by omega, ?_⟩
      rw [h, dec_big hb]; simp
  · exact absurd h h0
theorem digit_piece (d : Nat) (hd : d < 10) : (⟨#[48, 49, 50, 51, 52, 53, 54, 55, 56, 57]⟩ : ByteArray).extract d (d + 1) = ⟨#[UInt8.ofNat (48 + d)]⟩ := by
  have : ∀ d : Fin 10, ((⟨#[48, 49, 50, 51, 52, 53, 54, 55, 56, 57]⟩ : ByteArray).extract d.val (d.val + 1)) = ⟨#[UInt8.ofNat (48 + d.val)]⟩ := by decide +kernel
  exact this ⟨d, hd⟩
theorem ba_app2 (a b : List UInt8) : (⟨a.toArray⟩ : ByteArray) ++ ⟨b.toArray⟩ = ⟨(a ++ b).toArray⟩ := by
  apply ByteArray.ext
  simp
theorem dig_lt : ∀ (n u : Nat), u < 10 ^ (n + 1) → (Lib.decDigits u).length ≤ n + 1
  | 0, u, h => by rw [Lib.decDigits_one (by omega)]; simp
  | n + 1, u, h => by
    by_cases hb : u < 10
    · rw [Lib.decDigits_one hb]; simp
    · rw [dec_big hb]
      have := dig_lt n (u / 10) (by rw [Nat.pow_succ] at h; omega)
      simp; omega
theorem dig_len (u : Nat) (h : u ≤ 9223372036854775808) : (Lib.decDigits u).length ≤ 21 := by
  have := dig_lt 20 u (Nat.lt_of_le_of_lt h (by decide))
  omega
theorem numRel_len {u m : Nat} {t : List UInt8} (h : NumRel u m t) (hu : u ≤ 9223372036854775808) : t.length ≤ 21 := by
  have := dig_len u hu
  rcases h with ⟨_, h⟩ | ⟨_, h⟩ <;> rw [h] at this <;> (try simp only [List.length_append] at this) <;> omega
set_option maxHeartbeats 2000000 in
set_option maxRecDepth 20000 in
theorem rnum_pos (u : Nat) (hu : u ≤ 9223372036854775808) (h0 : u ≠ 0) (w : World) :
    Calls Tryz.prog 94 #[.int .i64 (u : Int)] w fun e w' => e = .returned (.string ⟨(Lib.decDigits u).toArray⟩) ∧ w = w' := by
  have HU := Lib.hid hu
  have e0 : ((u : Int) == 0) = false := by simp; omega
  have e1 : ((u : Int) < 0) = False := by first | (simp; done) | (simp; omega)
  have e4 : (0 < u) = True := by simp; omega
  clear hu
  go_enter Tryz.func94, Tryz.ntmps94
  go_wp2_with fail
  go_loopw [0, 3] (fun nv sv wr => ∃ (m : Nat) (t : List UInt8), m ≤ u ∧ nv = .int .i64 (m : Int) ∧ NumRel u m t ∧ sv = .string ⟨t.toArray⟩ ∧ w = wr) (fun nv _ _ => (intOf nv).natAbs)
  case atStart => exact ⟨u, [], Nat.le_refl _, rfl, Or.inl ⟨h0, by simp⟩, rfl, rfl⟩
  case round =>
    obtain ⟨m, t, hmu, rfl, hr, rfl, rfl⟩ := hrel
    have htl := numRel_len hr (by have := HU.out; omega)
    have HR := Lib.hid hr
    have HTL := Lib.hid htl
    have hm64 : m ≤ 9223372036854775808 := by have := HU.out; omega
    have hcat : (9223372036854775807 < 1 + t.length) = False := by simp; omega
    have HMU := Lib.hid hmu
    have HM64 := Lib.hid hm64
    clear hr htl e0 h0 hmu
    by_cases hm : m = 0
    · subst hm
      have hz : Lib.decDigits u = t := by
        rcases HR.out with ⟨h, _⟩ | ⟨_, h⟩
        · exact absurd rfl h
        · exact h
      have HZ := Lib.hid hz
      clear hz
      go_wp2_with fail
      go_ret
      rw [HZ.out]
      exact ⟨by first | rfl | exact congrArg (fun z => Ending.returned (.string z)) (ba_app2 [45] t), rfl⟩
    · obtain ⟨q, hq⟩ : ∃ q, m / 10 = q := ⟨_, rfl⟩
      obtain ⟨r, hrr⟩ : ∃ r, m % 10 = r := ⟨_, rfl⟩
      have hr10 : r < 10 := by omega
      have hst := HR.out.step hm
      rw [hq, hrr] at hst
      have hp := digit_piece r hr10
      obtain ⟨c, hc⟩ : ∃ c, UInt8.ofNat (48 + r) = c := ⟨_, rfl⟩
      rw [hc] at hst hp
      have HST := Lib.hid hst
      clear hc
      have e2 : ((m : Int) == 0) = false := by simp; omega
      have e3 : ((m : Int) != 0) = true := by simp; omega
      have hd : (m : Int) / 10 = (q : Int) := by omega
      have ht : (m : Int) % 10 = (r : Int) := by omega
      have hqm : q < m := by omega
      have HQ := Lib.hid hqm
      have hqb : q ≤ 922337203685477580 := by omega
      have hw1 : wrap64 (q : Int) = (q : Int) := wrap_in (by omega) (by omega)
      have hw2 : wrap64 (-(q : Int)) = -(q : Int) := wrap_in (by omega) (by omega)
      clear hst hq hrr hqm hm hqb
      have hr9 : (r : Int) ≤ 9 := by omega
      clear hm64
      go_wp2_with fail
      go_roundw
      case rel =>
        refine ⟨q, _, by have := HMU.out; have := HQ.out; omega, by first | (rw [hw1]; done) | (rw [hw2]; done), HST.out, ?_, by trivial⟩
        exact congrArg Value.string (ba_app2 [c] t)
      case measure => have := HQ.out; (try rw [hw1]); (try rw [hw2]); simp only [intOf]; omega
set_option maxHeartbeats 2000000 in
set_option maxRecDepth 20000 in
theorem rnum_neg (u : Nat) (hu : u ≤ 9223372036854775808) (h0 : u ≠ 0) (w : World) :
    Calls Tryz.prog 94 #[.int .i64 (-(u : Int))] w fun e w' => e = .returned (.string ⟨(45 :: Lib.decDigits u).toArray⟩) ∧ w = w' := by
  have HU := Lib.hid hu
  have e0 : ((-(u : Int)) == 0) = false := by simp; omega
  have e1 : ((-(u : Int)) < 0) = True := by first | (simp; done) | (simp; omega)
  have e4 : (0 < u) = True := by simp; omega
  clear hu
  go_enter Tryz.func94, Tryz.ntmps94
  go_wp2_with fail
  go_loopw [0, 3] (fun nv sv wr => ∃ (m : Nat) (t : List UInt8), m ≤ u ∧ nv = .int .i64 (-(m : Int)) ∧ NumRel u m t ∧ sv = .string ⟨t.toArray⟩ ∧ w = wr) (fun nv _ _ => (intOf nv).natAbs)
  case atStart => exact ⟨u, [], Nat.le_refl _, rfl, Or.inl ⟨h0, by simp⟩, rfl, rfl⟩
  case round =>
    obtain ⟨m, t, hmu, rfl, hr, rfl, rfl⟩ := hrel
    have htl := numRel_len hr (by have := HU.out; omega)
    have HR := Lib.hid hr
    have HTL := Lib.hid htl
    have hm64 : m ≤ 9223372036854775808 := by have := HU.out; omega
    have hcat : (9223372036854775807 < 1 + t.length) = False := by simp; omega
    have HMU := Lib.hid hmu
    have HM64 := Lib.hid hm64
    clear hr htl e0 h0 hmu
    by_cases hm : m = 0
    · subst hm
      have hz : Lib.decDigits u = t := by
        rcases HR.out with ⟨h, _⟩ | ⟨_, h⟩
        · exact absurd rfl h
        · exact h
      have HZ := Lib.hid hz
      clear hz
      go_wp2_with fail
      go_ret
      rw [HZ.out]
      exact ⟨by first | rfl | exact congrArg (fun z => Ending.returned (.string z)) (ba_app2 [45] t), rfl⟩
    · obtain ⟨q, hq⟩ : ∃ q, m / 10 = q := ⟨_, rfl⟩
      obtain ⟨r, hrr⟩ : ∃ r, m % 10 = r := ⟨_, rfl⟩
      have hr10 : r < 10 := by omega
      have hst := HR.out.step hm
      rw [hq, hrr] at hst
      have hp := digit_piece r hr10
      obtain ⟨c, hc⟩ : ∃ c, UInt8.ofNat (48 + r) = c := ⟨_, rfl⟩
      rw [hc] at hst hp
      have HST := Lib.hid hst
      clear hc
      have e2 : ((-(m : Int)) == 0) = false := by simp; omega
      have e3 : ((-(m : Int)) != 0) = true := by simp; omega
      have hd : (-(m : Int)).tdiv 10 = -(q : Int) := by rw [Int.neg_tdiv, Int.tdiv_eq_ediv_of_nonneg (by omega)]; omega
      have ht : (-(m : Int)).tmod 10 = -(r : Int) := by rw [Int.neg_tmod, Int.tmod_eq_emod_of_nonneg (by omega)]; omega
      have hqm : q < m := by omega
      have HQ := Lib.hid hqm
      have hqb : q ≤ 922337203685477580 := by omega
      have hw1 : wrap64 (q : Int) = (q : Int) := wrap_in (by omega) (by omega)
      have hw2 : wrap64 (-(q : Int)) = -(q : Int) := wrap_in (by omega) (by omega)
      clear hst hq hrr hqm hm hqb
      have hr9 : (r : Int) ≤ 9 := by omega
      clear hm64
      by_cases hr0 : r = 0
      · subst hr0
        go_wp2_with fail
        go_roundw
        case rel =>
          refine ⟨q, _, by have := HMU.out; have := HQ.out; omega, by first | (rw [hw1]; done) | (rw [hw2]; done), HST.out, ?_, by trivial⟩
          exact congrArg Value.string (ba_app2 [c] t)
        case measure => have := HQ.out; (try rw [hw1]); (try rw [hw2]); simp only [intOf]; omega
      · have hr1 : (0 : Int) < r := by omega
        have hr2 : (-(r : Int) < 0) = True := by simp; omega
        clear hr0
        go_wp2_with fail
        go_roundw
        case rel =>
          refine ⟨q, _, by have := HMU.out; have := HQ.out; omega, by first | (rw [hw1]; done) | (rw [hw2]; done), HST.out, ?_, by trivial⟩
          exact congrArg Value.string (ba_app2 [c] t)
        case measure => have := HQ.out; (try rw [hw1]); (try rw [hw2]); simp only [intOf]; omega
end Go.Proofs.YtpchohjkelopoaaGreatDoor

set_option maxRecDepth 20000
namespace Go.Proofs.YtpchohjkelopoaaGreatDoor
open Go.RowKit
theorem rnum_zero (w : World) : Calls Tryz.prog 94 #[.int .i64 0] w fun e w' => e = .returned (.string ⟨#[48]⟩) ∧ w = w' := by
  go_enter Tryz.func94, Tryz.ntmps94
  go_wp2_with fail
  go_ret
  exact ⟨rfl, rfl⟩
theorem rnum_any (z : Int) (h0 : -9223372036854775808 ≤ z) (h1 : z ≤ 9223372036854775807) (w : World) : Calls Tryz.prog 94 #[.int .i64 z] w fun e w' => e = .returned (.string ⟨(Lib.itoa z).toArray⟩) ∧ w = w' := by
  rcases Int.lt_trichotomy z 0 with h | h | h
  · have e1 : Lib.itoa z = 45 :: Lib.decDigits z.natAbs := by unfold Lib.itoa; rw [if_pos h]
    have e2 : z = -((z.natAbs : Nat) : Int) := by omega
    rw [e1]
    have := rnum_neg z.natAbs (by omega) (by omega) w
    rw [← e2] at this
    exact this
  · subst h
    have e1 : Lib.itoa 0 = [48] := by unfold Lib.itoa; rw [if_neg (by decide)]; rw [Lib.decDigits_one (by decide)]; rfl
    rw [e1]
    exact rnum_zero w
  · have e1 : Lib.itoa z = Lib.decDigits z.toNat := by unfold Lib.itoa; rw [if_neg (by omega)]
    have e2 : z = ((z.toNat : Nat) : Int) := by omega
    rw [e1]
    have := rnum_pos z.toNat (by omega) (by omega) w
    rw [← e2] at this
    exact this
set_option maxHeartbeats 2000000 in
set_option maxRecDepth 20000 in
theorem rdigs_core (p : Option Addr) (n cap : Nat) (l : List Int) (w : World) (hn : l.length = n) (hl : n ≤ 60) (h64 : In64L l) (hc : ∀ j u, l[j]? = some u → ∃ b off, p = some ⟨b, off, none⟩ ∧ w.cell? ⟨b, off + j, none⟩ = some (.int .i64 u)) :
    Calls Tryz.prog 66 #[.slice p n cap] w fun e w' => e = .returned (.string ⟨(digF l).toArray⟩) ∧ w = w' := by
  have HN := Lib.hid hn
  have HC := Lib.hid hc
  have H64 := Lib.hid h64
  have hn7 : (n : Int) ≤ 60 := by omega
  have HL := Lib.hid hl
  clear hn hc h64 hl
  go_enter Tryz.func66, Tryz.ntmps66
  go_wp2_with fail
  go_loopw [3, 4] (fun sv ii wr => ∃ (k : Nat) (acc : List UInt8), ii = .int .i64 (k : Int) ∧ k ≤ n ∧ acc = digF (l.take k) ∧ sv = .string ⟨acc.toArray⟩ ∧ w = wr) (fun _ ii _ => n - (intOf ii).toNat)
  case atStart => exact ⟨0, [], rfl, Nat.zero_le _, rfl, rfl, rfl⟩
  case round =>
    obtain ⟨k, acc, rfl, hk, hacc, rfl, rfl⟩ := hrel
    have hal : acc.length ≤ 1500 := by
      have h1 := digF_len (l.take k) (H64.out.take k)
      rw [← hacc] at h1
      have := List.length_take_le k l
      have := HL.out
      omega
    have HAC := Lib.hid hacc
    clear hacc
    by_cases hlt : k < n
    · obtain ⟨u, hu⟩ : ∃ u, l[k]? = some u := ⟨_, List.getElem?_eq_getElem (by have := HN.out; omega)⟩
      obtain ⟨b1, o1, rfl, cu⟩ := HC.out k u hu
      have hb1 := rcell_lt cu
      obtain ⟨u0, u1⟩ := H64.out u (List.mem_of_getElem? hu)
      have HNU := Lib.hid (rnum_any u u0 u1)
      have HST := Lib.hid (digF_snoc l k u hu)
      have hil := Lib.itoa_length_le u u0 u1
      have hc1 : (9223372036854775807 < (Lib.itoa u).length + 1) = False := by simp; omega
      have hc2 : (9223372036854775807 < acc.length + ((Lib.itoa u).length + 1)) = False := by simp; omega
      have hlt3 : (k : Int) < n := by omega
      have ez : (⟨(Lib.itoa u).toArray⟩ : ByteArray).size = (Lib.itoa u).length := rfl
      clear hu u0 u1 hil hal
      go_wp2_with (go_at_call 94; refine (HNU.out _).mono ?_; rintro e _ ⟨rfl, rfl⟩)
      go_roundw
      case rel =>
        refine ⟨k + 1, _, by go_num, by omega, HST.out.symm, ?_, by trivial⟩
        rw [← HAC.out]
        have e1 := ba_app2 (Lib.itoa u) [44]
        have e2 := ba_app2 acc (Lib.itoa u ++ [44])
        rw [← e1] at e2
        simpa using e2
      case measure => simp [intOf]; omega
    · have hks : n = k := by omega
      subst hks
      have hall : l.take n = l := List.take_of_length_le (by have := HN.out; omega)
      have HE := Lib.hid (show acc = digF l by rw [HAC.out, hall])
      clear hall
      go_wp2_with fail
      go_ret
      rw [HE.out]
      exact ⟨rfl, rfl⟩
theorem rdigs_any (v : Value) (l : List Int) (w : World) (hl : l.length ≤ 60) (h64 : In64L l) (h : IntsAt w v l) : Calls Tryz.prog 66 #[v] w fun e w' => e = .returned (.string ⟨(digF l).toArray⟩) ∧ w = w' := by
  rcases h with ⟨p, cap, rfl, rfl⟩ | ⟨b, off, cap, rfl, h1, h2⟩
  · exact rdigs_core p 0 cap [] w rfl hl h64 (fun j u hj => by simp at hj)
  · exact rdigs_core _ _ cap l w rfl hl h64 (fun j u hj => ⟨b, off, rfl, h2 j u hj⟩)
end Go.Proofs.YtpchohjkelopoaaGreatDoor
