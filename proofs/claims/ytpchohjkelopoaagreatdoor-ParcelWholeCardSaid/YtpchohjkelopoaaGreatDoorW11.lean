/- Lemmas for the claim (texts Tm2, TmP, TmQ, what its proof uses of them). -/
import Derived.Test.YtpchohjkelopoaaGreatDoorW09
import Derived.Test.YtpchohjkelopoaaGreatDoorW10
import Derived.Lib.ItoaLen
import Derived.Lib.LaidTab
set_option linter.unusedSimpArgs false
set_option linter.unusedVariables false
set_option maxRecDepth 20000
namespace Go.Proofs.YtpchohjkelopoaaGreatDoor
open Go.RowKit
/-- ints that lie in a row, or an empty slice -/
def IntsAt (w : World) (v : Value) (l : List Int) : Prop :=
  (∃ p cap, v = .slice p 0 cap ∧ l = []) ∨ ∃ b off cap, v = .slice (some ⟨b, off, none⟩) l.length cap ∧ l.length ≤ cap ∧ ∀ j u, l[j]? = some u → w.cell? ⟨b, off + j, none⟩ = some (.int .i64 u)
def In64L (l : List Int) : Prop := ∀ u ∈ l, -9223372036854775808 ≤ u ∧ u ≤ 9223372036854775807
/-- numbers as a text -/
def digF (l : List Int) : List UInt8 := l.flatMap fun n => Lib.itoa n ++ [44]
theorem digF_snoc (l : List Int) (k : Nat) (u : Int) (h : l[k]? = some u) : digF (l.take (k + 1)) = digF (l.take k) ++ Lib.itoa u ++ [44] := by
  rw [List.take_add_one, h]; simp [digF, List.flatMap_append]
theorem digF_len : ∀ (l : List Int), In64L l → (digF l).length ≤ 22 * l.length
  | [], _ => by simp [digF]
  | x :: l, h => by
    have h1 := Lib.itoa_length_le x (h x (by simp)).1 (h x (by simp)).2
    have h2 := digF_len l (fun u hu => h u (by simp [hu]))
    have e : digF (x :: l) = Lib.itoa x ++ [44] ++ digF l := by simp [digF]
    rw [e]; simp; omega
theorem In64L.take {l : List Int} (h : In64L l) (k : Nat) : In64L (l.take k) := fun u hu => h u (List.mem_of_mem_take hu)
/-- the table of powers of ten lies where it was laid -/
def Pow10 (B : Nat) (w : World) : Prop := (∃ g, Tryz.prog.globalNamed "internal/strconv.uint64pow10" = some g ∧ g < B) ∧ Lib.TabIs Tryz.prog w "internal/strconv.uint64pow10" .u64 Lib.pow10Tab
theorem Pow10.below {B B' : Nat} {w w' : World} (h : Pow10 B w) (hb : Below B' w w') (hB : B ≤ B') : Pow10 B w' := by
  obtain ⟨⟨g, hg, hlt⟩, h⟩ := h
  refine ⟨⟨g, hg, hlt⟩, ?_⟩
  unfold Lib.TabIs World.var? at h ⊢
  rw [hg] at h ⊢
  simp only [Option.bind_some] at h ⊢
  rw [hb.block _ (by omega)]; exact h
theorem ext_grow {w w' : World} {k : Nat} {os : Array Obj} (h : w' = Go.Sort.grow (w.drewN k) os) : Ext w w' := ⟨_, os, h⟩
theorem bld_app {B b : Nat} {acc m : List UInt8} {w : World} (h : Bld B b (cellsB acc ++ Lib.strCells ⟨m.toArray⟩) w) : Bld B b (cellsB (acc ++ m)) w := by
  rw [cellsB_append]; exact h
theorem bld_one {B b : Nat} {acc : List UInt8} {c : UInt8} {z : Int} {w : World} (h : Bld B b (cellsB acc ++ [.int .u8 z]) w) (hz : z = c.toNat) : Bld B b (cellsB (acc ++ [c])) w := by
  subst hz
  rw [cellsB_append]; exact h
set_option maxHeartbeats 2000000 in
set_option maxRecDepth 20000 in
theorem digits_some (b off cap : Nat) (l : List Int) (hcap : l.length ≤ cap) (hl : l.length ≤ 60) (h64 : In64L l) (w : World) (hc : ∀ j u, l[j]? = some u → w.cell? ⟨b, off + j, none⟩ = some (.int .i64 u)) (PB : Nat) (hP : Pow10 PB w) (hpg : PB ≤ w.heap.size) :
    Calls Tryz.prog 93 #[.slice (some ⟨b, off, none⟩) l.length cap] w fun e w' => e = .returned (.string ⟨(digF l).toArray⟩) ∧ Below w.heap.size w w' := by
  have HC := Lib.hid hc
  have H64 := Lib.hid h64
  have HP := Lib.hid hP
  obtain ⟨n, hn⟩ : ∃ n, l.length = n := ⟨_, rfl⟩
  rw [hn] at hcap hl ⊢
  have hn6 : (n : Int) ≤ 60 := by omega
  have HN := Lib.hid hn
  clear hc h64 hP hn
  go_enter Tryz.func93, Tryz.ntmps93
  go_wp2_with fail
  go_loopw [8] (fun ii wr => ∃ (k : Nat) (acc : List UInt8), ii = .int .i64 (k : Int) ∧ k ≤ n ∧ acc = digF (l.take k) ∧ Bld w.heap.size w.heap.size (cellsB acc) wr ∧ Below w.heap.size w wr) (fun ii _ => n - (intOf ii).toNat)
  case atStart => exact ⟨0, [], rfl, Nat.zero_le _, rfl, Lib.fresh_isBuilder 202 5 w, (Below.refl _ _).alloc (Nat.le_refl _) _⟩
  case round =>
    obtain ⟨k, acc, rfl, hk, hacc, hB, hbl⟩ := hrel
    have hal : acc.length ≤ 1500 := by
      have h1 := digF_len (l.take k) (H64.out.take k)
      rw [← hacc] at h1
      have := List.length_take_le k l
      omega
    have HAC := Lib.hid hacc
    have HB := Lib.hid hB
    have HBL := Lib.hid hbl
    have HAL := Lib.hid hal
    clear hacc hB hbl hal
    by_cases hlt : k < n
    · obtain ⟨u, hu⟩ : ∃ u, l[k]? = some u := ⟨_, List.getElem?_eq_getElem (by have := HN.out; omega)⟩
      obtain ⟨u0, u1⟩ := H64.out u (List.mem_of_getElem? hu)
      have hcw := HC.out k u hu
      have hbs : b < w.heap.size := by
        rcases Nat.lt_or_ge b w.heap.size with h | h
        · exact h
        · simp [World.cell?, Array.getElem?_eq_none h] at hcw
      have hcr : wr.cell? ⟨b, off + k, none⟩ = some (.int .i64 u) := by rw [HBL.out.cell (p := ⟨b, off + k, none⟩) hbs]; exact hcw
      have HST := Lib.hid (digF_snoc l k u hu)
      have HPR := Lib.hid (HP.out.below HBL.out hpg)
      have HI := Lib.hid (Tryz.strconv_Itoa u u0 u1)
      have hil := Lib.itoa_length_le u u0 u1
      have HIL := Lib.hid hil
      clear hu hcw hil u0 u1
      go_wp2_with (go_at_call 101; refine (HI.out _ HPR.out.2).mono ?_; rintro e w2 ⟨rfl, kk, oo, hw2⟩; have HX2 := Lib.hid (ext_grow hw2); clear hw2)
      refine (writeString_any w.heap.size w.heap.size (cellsB acc) _ _ (bld_ext HB.out HX2.out) (by rw [cellsB_length]; have := HAL.out; have h2 := HIL.out; have e : (⟨(Lib.itoa u).toArray⟩ : ByteArray).size = (Lib.itoa u).length := rfl; omega) (by have := HBL.out.size; have := HX2.out.size; omega)).mono ?_
      rintro e w3 ⟨rfl, hB3, hbl3⟩
      have HB3 := Lib.hid (bld_app hB3)
      have HBL3 := Lib.hid ((HBL.out.trans (HX2.out.below.mono HBL.out.size)).trans hbl3)
      clear hB3 hbl3
      go_wp2_with fail
      refine (writeByte_any w.heap.size w.heap.size (cellsB (acc ++ Lib.itoa u)) 44 _ HB3.out (by rw [cellsB_length]; have := HAL.out; have h2 := HIL.out; simp; omega) (by have := HBL3.out.size; omega)).mono ?_
      rintro e w4 ⟨rfl, hB4, hbl4⟩
      have HB4 := Lib.hid (bld_one (c := 44) hB4 rfl)
      have HBL4 := Lib.hid (HBL3.out.trans hbl4)
      clear hB4 hbl4
      go_wp2_with fail
      go_roundw
      case rel => exact ⟨k + 1, _, by go_num, by omega, by rw [HST.out, ← HAC.out], HB4.out, HBL4.out⟩
      case measure => simp [intOf]; omega
    · have hkn : k = n := by omega
      subst hkn
      have hall : l.take k = l := List.take_of_length_le (by have := HN.out; omega)
      have he : acc = digF l := by rw [HAC.out, hall]
      have HE := Lib.hid he
      clear hall he
      go_wp2_with fail
      refine (Tryz.Builder_String_any w.heap.size w.heap.size acc _ HB.out (by have := HBL.out.size; omega)).mono ?_
      rintro e w2 ⟨rfl, hbl2⟩
      have HBL2 := Lib.hid (HBL.out.trans hbl2)
      clear hbl2
      go_wp2_with fail
      go_ret
      rw [HE.out]
      exact ⟨rfl, HBL2.out⟩
set_option maxHeartbeats 2000000 in
theorem digits_none (p : Option Addr) (cap : Nat) (w : World) :
    Calls Tryz.prog 93 #[.slice p 0 cap] w fun e w' => e = .returned (.string ⟨(digF []).toArray⟩) ∧ Below w.heap.size w w' := by
  go_enter Tryz.func93, Tryz.ntmps93
  go_wp2_with fail
  go_loopw [8] (fun ii wr => ii = .int .i64 0 ∧ Bld w.heap.size w.heap.size (cellsB []) wr ∧ Below w.heap.size w wr) (fun ii _ => 0)
  case atStart => exact ⟨rfl, Lib.fresh_isBuilder 202 5 w, (Below.refl _ _).alloc (Nat.le_refl _) _⟩
  case round =>
    obtain ⟨rfl, hB, hbl⟩ := hrel
    have HB := Lib.hid hB
    have HBL := Lib.hid hbl
    clear hB hbl
    go_wp2_with fail
    refine (Tryz.Builder_String_any w.heap.size w.heap.size [] _ HB.out (by have := HBL.out.size; omega)).mono ?_
    rintro e w2 ⟨rfl, hbl2⟩
    have HBL2 := Lib.hid (HBL.out.trans hbl2)
    clear hbl2
    go_wp2_with fail
    go_ret
    exact ⟨rfl, HBL2.out⟩
theorem digits_any (v : Value) (l : List Int) (hl : l.length ≤ 60) (h64 : In64L l) (w : World) (hc : IntsAt w v l) (PB : Nat) (hP : Pow10 PB w) (hpg : PB ≤ w.heap.size) :
    Calls Tryz.prog 93 #[v] w fun e w' => e = .returned (.string ⟨(digF l).toArray⟩) ∧ Ext w w' := by
  rcases hc with ⟨p, cap, rfl, rfl⟩ | ⟨b, off, cap, rfl, h1, h2⟩
  · exact (digits_none p cap w).mono fun e w' ⟨h1, h2⟩ => ⟨h1, Ext.of_below h2⟩
  · exact (digits_some b off cap l h1 hl h64 w h2 PB hP hpg).mono fun e w' ⟨h1, h2⟩ => ⟨h1, Ext.of_below h2⟩
set_option maxHeartbeats 1000000 in
theorem list_any (B bt bm : Nat) (tv : Value) (l : List ByteArray) (v : Value) (zs : List Int) (hl : zs.length ≤ 60) (h64 : In64L zs) (w : World) (hc : IntsAt w v zs) (PB : Nat) (hP : Pow10 PB w) (hpg : PB ≤ w.heap.size) (h : TabAt B bt bm tv l w) :
    Calls Tryz.prog 65 #[.pointer (some ⟨bt, 0, none⟩), v] w (OfPost B bt bm tv (ofF l ⟨(digF zs).toArray⟩) w) := by
  have hsz : (⟨(digF zs).toArray⟩ : ByteArray).size ≤ maxLen := by
    have := digF_len zs h64
    have e : (⟨(digF zs).toArray⟩ : ByteArray).size = (digF zs).length := rfl
    unfold maxLen; omega
  have HD := Lib.hid (digits_any v zs hl h64 w hc PB hP hpg)
  have HT := Lib.hid h
  have HS := Lib.hid hsz
  obtain ⟨r, hr⟩ : ∃ r, ofF l ⟨(digF zs).toArray⟩ = r := ⟨_, rfl⟩
  rw [hr]
  have HR := Lib.hid hr
  obtain ⟨t, ht⟩ : ∃ t : ByteArray, (⟨(digF zs).toArray⟩ : ByteArray) = t := ⟨_, rfl⟩
  rw [ht] at HD HS HR
  clear hc hP h hsz hr ht h64
  go_enter Tryz.func65, Tryz.ntmps65
  go_wp2_with (go_at_call 93; refine HD.out.mono ?_; rintro e w1 ⟨rfl, hx⟩; have HX := Lib.hid hx; clear hx)
  refine (of_any B bt bm tv l t HS.out w1 (HT.out.ext HX.out)).mono ?_
  rintro e w2 ⟨rfl, tv', h1, h2, h3⟩
  rw [HR.out] at h1 ⊢
  have H1 := Lib.hid h1
  have H2 := Lib.hid h2
  have H3 := Lib.hid h3
  clear h1 h2 h3
  go_wp2_with fail
  go_ret2
  obtain ⟨k1, k2, k3, k4, k5⟩ := H2.out
  have hb := HX.out.below
  have := HX.out.size
  refine ⟨rfl, tv', H1.out, ⟨k1.trans hb.os, k2.trans hb.tape, k3.trans hb.output, by omega, fun k hk a1 a2 a3 => by rw [k5 k (by omega) a1 a2 a3, hb.block k hk]⟩, ?_⟩
  rcases H3.out with h | ⟨k, h, hk⟩
  · exact Or.inl h
  · exact Or.inr ⟨k, h, by omega⟩
end Go.Proofs.YtpchohjkelopoaaGreatDoor

namespace Go.Proofs.YtpchohjkelopoaaGreatDoor
open Go.RowKit
def decV (l : List UInt8) : Nat := l.foldl (fun a c => 10 * a + (c.toNat - 48)) 0
theorem decV_dec : ∀ (n u : Nat), u < n → decV (Lib.decDigits u) = u ∧ (∀ c ∈ Lib.decDigits u, 48 ≤ c.toNat ∧ c.toNat ≤ 57) ∧ Lib.decDigits u ≠ []
  | 0, u, h => by omega
  | n + 1, u, h => by
    rw [Lib.decDigits]
    split
    · next h1 =>
      have e : (UInt8.ofNat (48 + u)).toNat = 48 + u := by simp; omega
      refine ⟨?_, ?_, by simp⟩
      · simp only [decV, List.foldl_cons, List.foldl_nil, e]; omega
      · intro c hc; simp only [List.mem_singleton] at hc; subst hc; rw [e]; omega
    · next h1 =>
      obtain ⟨h2, h3, _⟩ := decV_dec n (u / 10) (by omega)
      have e : (UInt8.ofNat (48 + u % 10)).toNat = 48 + u % 10 := by simp; omega
      refine ⟨?_, ?_, by simp⟩
      · unfold decV at h2 ⊢
        rw [List.foldl_append, h2]
        simp only [List.foldl_cons, List.foldl_nil, e]; omega
      · intro c hc
        rcases List.mem_append.1 hc with hc | hc
        · exact h3 c hc
        · simp only [List.mem_singleton] at hc; subst hc; rw [e]; omega
theorem itoa_inj (a b : Int) (h : Lib.itoa a = Lib.itoa b) : a = b := by
  have key : ∀ u, decV (Lib.decDigits u) = u ∧ (∀ c ∈ Lib.decDigits u, 48 ≤ c.toNat ∧ c.toNat ≤ 57) ∧ Lib.decDigits u ≠ [] := fun u => decV_dec (u + 1) u (by omega)
  have no45 : ∀ (u : Nat) (l : List UInt8), Lib.decDigits u = 45 :: l → False := fun u l e => by
    have := (key u).2.1 45 (by rw [e]; simp)
    simp at this
  unfold Lib.itoa at h
  split at h
  · split at h
    · simp only [List.cons.injEq, true_and] at h
      have := congrArg decV h
      rw [(key _).1, (key _).1] at this
      omega
    · exact (no45 _ _ h.symm).elim
  · split at h
    · exact (no45 _ _ h).elim
    · have := congrArg decV h
      rw [(key _).1, (key _).1] at this
      omega
theorem itoa_comma (a : Int) : ∀ c ∈ Lib.itoa a, c ≠ 44 := by
  intro c hc e
  subst e
  unfold Lib.itoa at hc
  split at hc
  · rcases List.mem_cons.1 hc with h | h
    · exact absurd h (by decide)
    · have := (decV_dec _ _ (Nat.lt_succ_self _)).2.1 44 h; simp at this
  · have := (decV_dec _ _ (Nat.lt_succ_self _)).2.1 44 hc; simp at this
theorem cut_comma : ∀ (u v r s : List UInt8), (∀ c ∈ u, c ≠ 44) → (∀ c ∈ v, c ≠ 44) → u ++ 44 :: r = v ++ 44 :: s → u = v ∧ r = s
  | [], [], r, s, _, _, h => by simp at h; exact ⟨rfl, h⟩
  | [], y :: v, r, s, _, hv, h => by simp at h; exact absurd h.1.symm (hv y (by simp))
  | x :: u, [], r, s, hu, _, h => by simp at h; exact absurd h.1 (hu x (by simp))
  | x :: u, y :: v, r, s, hu, hv, h => by
    simp at h
    obtain ⟨h1, h2⟩ := cut_comma u v r s (fun c hc => hu c (by simp [hc])) (fun c hc => hv c (by simp [hc])) h.2
    exact ⟨by rw [h.1, h1], h2⟩
theorem digF_inj : ∀ (l m : List Int), digF l = digF m → l = m
  | [], [], _ => rfl
  | [], y :: m, h => by
    have e : digF (y :: m) = Lib.itoa y ++ 44 :: digF m := by simp [digF]
    rw [e] at h
    have := congrArg List.length h
    simp [digF] at this
  | x :: l, [], h => by
    have e : digF (x :: l) = Lib.itoa x ++ 44 :: digF l := by simp [digF]
    rw [e] at h
    have := congrArg List.length h
    simp [digF] at this
  | x :: l, y :: m, h => by
    have e : ∀ x l, digF (x :: l) = Lib.itoa x ++ 44 :: digF l := fun x l => by simp [digF]
    rw [e, e] at h
    obtain ⟨h1, h2⟩ := cut_comma _ _ _ _ (itoa_comma x) (itoa_comma y) h
    rw [itoa_inj x y h1, digF_inj l m h2]
theorem dig_ba (l m : List Int) (h : (⟨(digF l).toArray⟩ : ByteArray) = ⟨(digF m).toArray⟩) : l = m := by
  apply digF_inj
  have := congrArg (fun z : ByteArray => z.data.toList) h
  simpa using this
end Go.Proofs.YtpchohjkelopoaaGreatDoor

set_option maxRecDepth 20000
namespace Go.Proofs.YtpchohjkelopoaaGreatDoor
open Go.RowKit
theorem rcell_lt {w : World} {a : Addr} {v : Value} (h : w.cell? a = some v) : a.block < w.heap.size := by
  rcases Nat.lt_or_ge a.block w.heap.size with h' | h'
  · exact h'
  · simp [World.cell?, Array.getElem?_eq_none h'] at h
/-- a row of texts of the call's own, read -/
theorem own_texts {w : World} {B : Nat} {v : Value} {l : List ByteArray} (h : w.ownsRow B 9 1 v l.length (l.map Value.string)) : ∃ p cap, v = .slice p l.length cap ∧ l.length ≤ cap ∧ ∀ j u, l[j]? = some u → ∃ b off, p = some ⟨b, off, none⟩ ∧ w.cell? ⟨b, off + j, none⟩ = some (.string u) := by
  rcases h.2 with ⟨rfl, h0⟩ | ⟨g, cap, cur, rfl, _, _, hc, _⟩
  · exact ⟨none, 0, by rw [h0], by omega, fun j u hj => by have := (List.getElem?_eq_some_iff.1 hj).1; omega⟩
  · refine ⟨_, cap, rfl, hc, fun j u hj => ⟨g, 0, rfl, ?_⟩⟩
    have := h.cells (g := g) rfl j (.string u) (by simp [hj])
    rw [Addr.add_lit] at this
    exact this
/-! ### numbers -/
end Go.Proofs.YtpchohjkelopoaaGreatDoor
