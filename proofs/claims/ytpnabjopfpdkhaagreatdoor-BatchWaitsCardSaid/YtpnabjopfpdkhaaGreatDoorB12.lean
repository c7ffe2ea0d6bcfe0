/- Lemmas for the claim (texts Cd1, what its proof uses of them). -/
import Derived.Test.YtpnabjopfpdkhaaGreatDoorB11
set_option linter.unusedSimpArgs false
set_option linter.unusedVariables false
namespace Go.Proofs.YtpnabjopfpdkhaaGreatDoor
open Go.RowKit
/-! ### the code of a program -/
structure Cin where
 op : Int
 a : Int
 b : Int
 nd : Int
structure Mk where
 ins : List Cin
 vals : List (Int × Int × ByteArray)
 now : Int
 high : Int
def Mk.add (M : Mk) (op a b nd h : Int) : Option Mk :=
 if M.ins.length ≤ 100000 ∧ -100000 ≤ M.now ∧ M.now ≤ 100000 ∧ -10 ≤ h ∧ h ≤ 10 then some { M with ins := M.ins ++ [⟨op, a, b, nd⟩], now := M.now + h, high := max M.high (M.now + h) } else none
def Mk.setA (M : Mk) (j : Nat) : Option Mk :=
 match M.ins[j]? with
 | none => none
 | some x => if M.ins.length ≤ 100000 then some { M with ins := M.ins.set j { x with a := (M.ins.length : Int) } } else none
def Mk.setB (M : Mk) (j : Nat) : Option Mk :=
 match M.ins[j]? with
 | none => none
 | some x => if M.ins.length ≤ 100000 then some { M with ins := M.ins.set j { x with b := (M.ins.length : Int) } } else none
def veq (v u : Int × Int × ByteArray) : Bool := v.1 == u.1 && (v.2.1 == u.2.1 && (v.2.2.toList == u.2.2.toList))
def vidx (v : Int × Int × ByteArray) : List (Int × Int × ByteArray) → Int → Int
 | [], _ => -1
 | u :: l, j => if veq u v = true then j else vidx v l (j + 1)
def Mk.value (M : Mk) (v : Int × Int × ByteArray) : Option (Mk × Int) :=
 if M.vals.length ≤ 100000 then
  if 0 ≤ vidx v M.vals 0 then some (M, vidx v M.vals 0) else some ({ M with vals := M.vals ++ [v] }, (M.vals.length : Int))
 else none
def andS : ByteArray := ⟨#[97, 110, 100]⟩
def orS : ByteArray := ⟨#[111, 114]⟩
def signsL : List ByteArray := [⟨#[61, 61]⟩, ⟨#[33, 61]⟩, ⟨#[60]⟩, ⟨#[60, 61]⟩, ⟨#[62]⟩, ⟨#[62, 61]⟩, ⟨#[43]⟩, ⟨#[45]⟩, ⟨#[42]⟩, ⟨#[47]⟩, ⟨#[37]⟩, ⟨#[46, 46]⟩]
def sidx (s : ByteArray) : List ByteArray → Int → Int
 | [], _ => -1
 | u :: l, j => if (u.toList == s.toList) = true then j else sidx s l (j + 1)
def csgF (s : ByteArray) : Int := sidx s signsL 0
def twoM (E : Int → Mk → Option Mk) (i : Nat) (z : Nd) (M : Mk) : Option Mk :=
 (E z.a M).bind fun M0 =>
 if z.s = andS ∨ z.s = orS then
  (M0.add 5 0 (if z.s = orS then 1 else 0) i (-1)).bind fun M1 => (E z.b M1).bind fun M2 => (M2.add 6 0 0 i 0).bind fun M3 => M3.setA M0.ins.length
 else (E z.b M0).bind fun M1 => M1.add 4 (csgF z.s) 0 i (-1)
def exprM (ns : List Nd) (sl : List Int) : Nat → Int → Mk → Option Mk
 | 0, _, _ => none
 | f + 1, i, M =>
  if i < 0 then none else
  match ns[i.toNat]? with
  | none => none
  | some z =>
   if z.k = 0 ∨ z.k = 1 ∨ z.k = 2 ∨ z.k = 3 then (M.value (z.k, z.i, z.s)).bind fun q => q.1.add 0 q.2 0 (i.toNat : Nat) 1
   else if z.k = 4 then (sl[i.toNat]?).bind fun j => M.add 1 j 0 (i.toNat : Nat) 1
   else if z.k = 11 then twoM (exprM ns sl f) i.toNat z M
   else (exprM ns sl f z.a M).bind fun M1 => M1.add 3 z.k 0 (i.toNat : Nat) 0
def loopM (B : Int → Mk → Option Mk) (op a : Int) (i : Nat) (bl : Int) (M : Mk) : Option Mk :=
 (M.add op a 0 i 0).bind fun M1 => (B bl M1).bind fun M2 => (M2.add 9 M.ins.length 0 i 0).bind fun M3 => M3.setB M.ins.length
def ifM (B : Int → Mk → Option Mk) (i : Nat) (z : Nd) (M : Mk) : Option Mk :=
 (M.add 8 0 0 i (-1)).bind fun M1 => (B z.b M1).bind fun M2 =>
  if z.c < 0 then M2.setA M.ins.length
  else (M2.add 9 0 0 i 0).bind fun M3 => (M3.setA M.ins.length).bind fun M4 => (B z.c M4).bind fun M5 => M5.setA M2.ins.length
def stmKM (E B : Int → Mk → Option Mk) (sl : List Int) (i : Nat) (z : Nd) (M : Mk) : Option Mk :=
 if z.k = 20 ∨ z.k = 21 then (sl[i]?).bind fun j => M.add 2 j 0 i (-1)
 else if z.k = 22 then (E z.b M).bind fun M1 => M1.add 10 0 0 i (-2)
 else if z.k = 23 then M.add 11 0 0 i (-1)
 else if z.k = 27 then M.add 16 0 0 i (-1)
 else if z.k = 28 then M.add 17 0 0 i (-1)
 else if z.k = 24 then ifM B i z M
 else if z.k = 25 then (M.add 12 0 z.i i (-1)).bind fun M1 => (sl[i]?).bind fun j => loopM B 13 j i z.b M1
 else if z.k = 26 then (M.add 14 z.i 0 i 0).bind fun M1 => loopM B 15 0 i z.b M1
 else some M
def stmM (E B : Int → Mk → Option Mk) (sl : List Int) (i : Nat) (z : Nd) (M : Mk) : Option Mk :=
 (if z.k = 26 then some M else E z.a M).bind fun M1 => stmKM E B sl i z M1
def blkM (ns : List Nd) (sl : List Int) : Nat → Int → Mk → Option Mk
 | 0, i, M => if i < 0 then some M else none
 | f + 1, i, M => if i < 0 then some M else
  match ns[i.toNat]? with
  | none => none
  | some z => (M.add 7 0 0 (i.toNat : Nat) 0).bind fun M1 => (stmM (exprM ns sl f) (blkM ns sl f) sl i.toNat z M1).bind fun M2 => blkM ns sl f z.x M2
def Mk.start : Mk := ⟨[], [], 0, 0⟩
def codeF (ns : List Nd) (fi : Int) (sl : List Int) : Option Mk := (blkM ns sl ns.length fi Mk.start).bind fun M => M.add 18 0 0 (-1) 0
/-! ### its numbers -/
def VOk (v : Int × Int × ByteArray) : Prop := (v.1 = 0 ∧ v.2.1 = 0 ∧ v.2.2.size = 0) ∨ (v.1 = 1 ∧ (v.2.1 = 0 ∨ v.2.1 = 1) ∧ v.2.2.size = 0) ∨ (v.1 = 2 ∧ v.2.2.size = 0) ∨ (v.1 = 3 ∧ v.2.1 = 0 ∧ v.2.2.size ≤ 64)
def EK (ns : List Nd) (i : Int) : Prop := ∃ (j : Nat) (z : Nd), i = (j : Int) ∧ ns[j]? = some z ∧ z.k < 20
def SK (ns : List Nd) (i : Int) : Prop := i < 0 ∨ ∃ (j : Nat) (z : Nd), i = (j : Int) ∧ ns[j]? = some z ∧ 20 ≤ z.k
structure NK (ns : List Nd) (z : Nd) : Prop where
 kd : qca z.k = true
 ea : shA z.k = true → EK ns z.a
 eb : shB z.k = true → EK ns z.b
 sb : shBB z.k = true → SK ns z.b
 sc : SK ns z.c
 sx : SK ns z.x
 vv : z.k = 0 ∨ z.k = 1 ∨ z.k = 2 ∨ z.k = 3 → VOk (z.k, z.i, z.s)
/-- what has come behind is of the program -/
def Fine (N : Nat) (M : Mk) : Prop := (∀ x ∈ M.ins, -1 ≤ x.nd ∧ x.nd < (N : Int)) ∧ (∀ v ∈ M.vals, VOk v)
structure MG (N : Nat) (M R : Mk) (n : Nat) (h : Int) : Prop where
 l1 : M.ins.length ≤ R.ins.length
 l2 : R.ins.length ≤ M.ins.length + 4 * n
 v2 : R.vals.length ≤ M.vals.length + n
 nw : R.now = M.now + h
 h1 : M.high ≤ R.high
 h2 : R.high ≤ max M.high (M.now + n)
 fn : Fine N M → Fine N R
structure MR (M : Mk) (n : Nat) : Prop where
 l : M.ins.length + 4 * n ≤ 90000
 v : M.vals.length + n ≤ 90000
 n0 : 0 ≤ M.now
 n1 : M.now + n ≤ 90000
theorem MG.refl (N : Nat) (M : Mk) (n : Nat) : MG N M M n 0 := ⟨Nat.le_refl _, by omega, by omega, by omega, Int.le_refl _, by omega, id⟩
theorem qao {N : Nat} {M : Mk} (op a b nd h : Int) (hl : M.ins.length ≤ 100000) (h0 : -100000 ≤ M.now) (h1 : M.now ≤ 100000) (h2 : -10 ≤ h) (h3 : h ≤ 10) (hn : -1 ≤ nd ∧ nd < (N : Int)) :
  ∃ R, M.add op a b nd h = some R ∧ R.ins.length = M.ins.length + 1 ∧ R.vals = M.vals ∧ R.now = M.now + h ∧ R.high = max M.high (M.now + h) ∧ (Fine N M → Fine N R) := by
 refine ⟨{ M with ins := M.ins ++ [⟨op, a, b, nd⟩], now := M.now + h, high := max M.high (M.now + h) }, by unfold Mk.add; rw [if_pos ⟨hl, h0, h1, h2, h3⟩], by simp, rfl, rfl, rfl, fun hf => ⟨fun x hx => ?_, hf.2⟩⟩
 rcases List.mem_append.1 hx with h | h
 · exact hf.1 x h
 · obtain rfl := List.mem_singleton.1 h
   exact hn
theorem qbS {N : Nat} {M : Mk} (j : Nat) (hj : j < M.ins.length) (hl : M.ins.length ≤ 100000) : ∃ R, M.setA j = some R ∧ R.ins.length = M.ins.length ∧ R.vals = M.vals ∧ R.now = M.now ∧ R.high = M.high ∧ (Fine N M → Fine N R) := by
 have hx := List.getElem?_eq_getElem hj
 refine ⟨{ M with ins := M.ins.set j { M.ins[j] with a := (M.ins.length : Int) } }, by unfold Mk.setA; rw [hx]; dsimp only; rw [if_pos hl], by simp, rfl, rfl, rfl, fun hf => ⟨fun x hm => ?_, hf.2⟩⟩
 dsimp only at hm
 rcases List.mem_or_eq_of_mem_set hm with h | h
 · exact hf.1 x h
 · subst h; exact hf.1 M.ins[j] (List.mem_of_getElem? hx)
theorem setB_room {N : Nat} {M : Mk} (j : Nat) (hj : j < M.ins.length) (hl : M.ins.length ≤ 100000) : ∃ R, M.setB j = some R ∧ R.ins.length = M.ins.length ∧ R.vals = M.vals ∧ R.now = M.now ∧ R.high = M.high ∧ (Fine N M → Fine N R) := by
 have hx := List.getElem?_eq_getElem hj
 refine ⟨{ M with ins := M.ins.set j { M.ins[j] with b := (M.ins.length : Int) } }, by unfold Mk.setB; rw [hx]; dsimp only; rw [if_pos hl], by simp, rfl, rfl, rfl, fun hf => ⟨fun x hm => ?_, hf.2⟩⟩
 dsimp only at hm
 rcases List.mem_or_eq_of_mem_set hm with h | h
 · exact hf.1 x h
 · subst h; exact hf.1 M.ins[j] (List.mem_of_getElem? hx)
theorem value_room {N : Nat} {M : Mk} {v : Int × Int × ByteArray} (hl : M.vals.length ≤ 100000) (hv : VOk v) : ∃ R j, M.value v = some (R, j) ∧ R.ins = M.ins ∧ R.vals.length ≤ M.vals.length + 1 ∧ R.now = M.now ∧ R.high = M.high ∧ (Fine N M → Fine N R) := by
 unfold Mk.value
 rw [if_pos hl]
 by_cases h : 0 ≤ vidx v M.vals 0
 · exact ⟨M, vidx v M.vals 0, by rw [if_pos h], rfl, by omega, rfl, rfl, id⟩
 · refine ⟨{ M with vals := M.vals ++ [v] }, (M.vals.length : Int), by rw [if_neg h], rfl, by simp, rfl, rfl, fun hf => ⟨hf.1, fun u hu => ?_⟩⟩
   rcases List.mem_append.1 hu with h | h
   · exact hf.2 u h
   · obtain rfl := List.mem_singleton.1 h
     exact hv
theorem ek_tr {ns : List Nd} {i : Int} {n : Nat} (h : EK ns i) (t : Tr ns i n) : 1 ≤ n := by
 obtain ⟨j, z, rfl, _, _⟩ := h
 cases t with
 | neg h => omega
 | node => omega
theorem qdn (ns : List Nd) (sl : List Int) (hs : ns.length ≤ sl.length) (hk : ∀ (j : Nat) (z : Nd), ns[j]? = some z → NK ns z) : ∀ (f : Nat) (i : Int) (n : Nat) (M : Mk), EK ns i → Tr ns i n → n ≤ f → MR M n → ∃ R, exprM ns sl f i M = some R ∧ MG ns.length M R n 1 := by
 intro f
 induction f with
 | zero =>
  intro i n M e t hf hr
  have := ek_tr e t
  omega
 | succ f ih =>
  intro i n M e t hf hr
  obtain ⟨j, z, rfl, hz, h20⟩ := e
  have hj := (List.getElem?_eq_some_iff.1 hz).1
  obtain ⟨_, z', na, nb, nc, nx, e', hz', ta, tb, tc, tx, rfl⟩ := qcG t zae
  cases e'
  obtain rfl : z = z' := Option.some.inj (hz.symm.trans hz')
  have K := hk j z hz
  obtain ⟨r1, r2, r3, r4⟩ := hr
  have hnd : (-1 : Int) ≤ (j : Int) ∧ (j : Int) < (ns.length : Int) := by omega
  unfold exprM
  rw [if_neg zae, Int.toNat_natCast, hz]
  dsimp only
  split
  · rename_i hc
    obtain ⟨R1, q, e1, d1, d2, d3, d4, d5⟩ := value_room (N := ns.length) (M := M) zae (K.vv hc)
    rw [e1]
    dsimp only [Option.bind]
    obtain ⟨R, e2, c1, c2, c3, c4, c5⟩ := qao (N := ns.length) (M := R1) 0 q 0 j 1 (by rw [d1]; omega) zae zae zae zae hnd
    refine ⟨R, e2, by rw [c1, d1]; omega, by rw [c1, d1]; omega, by rw [c2]; omega, by rw [c3, d3], by rw [c4, d4]; omega, by rw [c4, d3, d4]; omega, fun hf => c5 (d5 hf)⟩
  split
  · obtain ⟨q, hq⟩ : ∃ q, sl[j]? = some q := ⟨_, List.getElem?_eq_getElem zae⟩
    rw [hq]
    dsimp only [Option.bind]
    obtain ⟨R, e2, c1, c2, c3, c4, c5⟩ := qao (N := ns.length) (M := M) 1 q 0 j 1 zae zae zae zae zae hnd
    exact ⟨R, e2, by omega, by omega, by rw [c2]; omega, c3, by omega, by omega, c5⟩
  rename_i hn hn4
  have hkd := K.kd
  unfold qca at hkd
  simp only [List.contains_iff_mem, List.mem_cons, List.not_mem_nil, or_false] at hkd
  split
  · rename_i h11
    have E1 := K.ea (by rw [h11]; decide)
    have E2 := K.eb (by rw [h11]; decide)
    have p1 := ek_tr E1 ta
    have p2 := ek_tr E2 tb
    unfold twoM
    obtain ⟨M0, e0, g0⟩ := ih _ na M E1 ta zae ⟨by omega, by omega, r3, by omega⟩
    obtain ⟨a1, a2, a3, a4, a5, a6, a7⟩ := g0
    rw [e0]
    dsimp only [Option.bind]
    split
    · obtain ⟨M1, e1, c1, c2, c3, c4, c5⟩ := qao (N := ns.length) (M := M0) 5 0 (if z.s = orS then 1 else 0) j (-1) zae zae zae zae zae hnd
      rw [e1]
      dsimp only
      obtain ⟨M2, e2, g2⟩ := ih _ nb M1 E2 tb zae ⟨by omega, by rw [c2]; omega, by omega, by omega⟩
      obtain ⟨b1, b2, b3, b4, b5, b6, b7⟩ := g2
      rw [e2]
      dsimp only
      obtain ⟨M3, e3, x1, x2, x3, x4, x5⟩ := qao (N := ns.length) (M := M2) 6 0 0 j 0 zae zae zae zae zae hnd
      rw [e3]
      dsimp only
      obtain ⟨R, e4, y1, y2, y3, y4, y5⟩ := qbS (N := ns.length) (M := M3) M0.ins.length zae zae
      refine ⟨R, e4, by omega, by omega, by rw [y2, x2]; rw [c2] at b3; omega, by omega, by omega, by omega, fun hf => y5 (x5 (b7 (c5 (a7 hf))))⟩
    · obtain ⟨M1, e1, g1⟩ := ih _ nb M0 E2 tb zae ⟨by omega, by omega, by omega, by omega⟩
      obtain ⟨b1, b2, b3, b4, b5, b6, b7⟩ := g1
      rw [e1]
      dsimp only
      obtain ⟨R, e2, c1, c2, c3, c4, c5⟩ := qao (N := ns.length) (M := M1) 4 (csgF z.s) 0 j (-1) zae zae zae zae zae hnd
      refine ⟨R, e2, by omega, by omega, by rw [c2]; omega, by omega, by omega, by omega, fun hf => c5 (b7 (a7 hf))⟩
  · rename_i h11
    have hA : shA z.k = true := by
     have : z.k = 5 ∨ z.k = 6 ∨ z.k = 7 ∨ z.k = 8 ∨ z.k = 9 ∨ z.k = 10 := by omega
     rcases this with h | h | h | h | h | h <;> rw [h] <;> decide
    have E1 := K.ea hA
    have p1 := ek_tr E1 ta
    obtain ⟨M0, e0, g0⟩ := ih _ na M E1 ta zae ⟨by omega, by omega, r3, by omega⟩
    obtain ⟨a1, a2, a3, a4, a5, a6, a7⟩ := g0
    rw [e0]
    dsimp only [Option.bind]
    obtain ⟨R, e2, c1, c2, c3, c4, c5⟩ := qao (N := ns.length) (M := M0) 3 z.k 0 j 0 zae zae zae zae zae hnd
    exact ⟨R, e2, by omega, by omega, by rw [c2]; omega, by omega, by omega, by omega, fun hf => c5 (a7 hf)⟩
/-- what the block's code may be used for within a node -/
def BR (ns : List Nd) (B : Int → Mk → Option Mk) (i : Int) (n : Nat) : Prop := ∀ M, MR M n → ∃ R, B i M = some R ∧ MG ns.length M R n 0
theorem qdu {ns : List Nd} {B : Int → Mk → Option Mk} {bl : Int} {n : Nat} (hB : BR ns B bl n) (op a : Int) (j : Nat) (hj : j < ns.length) (M : Mk) (hl : M.ins.length + 2 + 4 * n ≤ 90000) (hv : M.vals.length + n ≤ 90000) (n0 : 0 ≤ M.now) (n1 : M.now + n ≤ 90000) :
  ∃ R, loopM B op a j bl M = some R ∧ M.ins.length ≤ R.ins.length ∧ R.ins.length ≤ M.ins.length + 2 + 4 * n ∧ R.vals.length ≤ M.vals.length + n ∧ R.now = M.now ∧ M.high ≤ R.high ∧ R.high ≤ max M.high (M.now + n) ∧ (Fine ns.length M → Fine ns.length R) := by
 have hnd : (-1 : Int) ≤ (j : Int) ∧ (j : Int) < (ns.length : Int) := by omega
 unfold loopM
 obtain ⟨M1, e1, c1, c2, c3, c4, c5⟩ := qao (N := ns.length) (M := M) op a 0 j 0 zae zae zae zae zae hnd
 rw [e1]
 dsimp only [Option.bind]
 obtain ⟨M2, e2, b1, b2, b3, b4, b5, b6, b7⟩ := hB M1 ⟨by omega, by rw [c2]; omega, by omega, by omega⟩
 rw [e2]
 dsimp only
 obtain ⟨M3, e3, x1, x2, x3, x4, x5⟩ := qao (N := ns.length) (M := M2) 9 M.ins.length 0 j 0 zae zae zae zae zae hnd
 rw [e3]
 dsimp only
 obtain ⟨R, e4, y1, y2, y3, y4, y5⟩ := setB_room (N := ns.length) (M := M3) M.ins.length zae zae
 rw [c2] at b3
 exact ⟨R, e4, by omega, by omega, by rw [y2, x2]; omega, by omega, by omega, by omega, fun hf => y5 (x5 (b7 (c5 hf)))⟩
theorem stmM_room {ns : List Nd} {sl : List Int} (hs : ns.length ≤ sl.length) {E B : Int → Mk → Option Mk} {j : Nat} {z : Nd} (hj : j < ns.length) (K : NK ns z) (h20 : 20 ≤ z.k) {na nb nc : Nat}
  (hE : ∀ M, shA z.k = true → MR M na → ∃ R, E z.a M = some R ∧ MG ns.length M R na 1) (pa : shA z.k = true → 1 ≤ na) (hE2 : ∀ M, shB z.k = true → MR M nb → ∃ R, E z.b M = some R ∧ MG ns.length M R nb 1) (pb : shB z.k = true → 1 ≤ nb) (hB : shBB z.k = true → BR ns B z.b nb) (hC : BR ns B z.c nc)
  (M : Mk) (hl : M.ins.length + 3 + 4 * (na + nb + nc) ≤ 90000) (hv : M.vals.length + (na + nb + nc) ≤ 90000) (n0 : 0 ≤ M.now) (n1 : M.now + (na + nb + nc : Nat) ≤ 90000) :
  ∃ R, stmM E B sl j z M = some R ∧ M.ins.length ≤ R.ins.length ∧ R.ins.length ≤ M.ins.length + 3 + 4 * (na + nb + nc) ∧ R.vals.length ≤ M.vals.length + (na + nb + nc) ∧ R.now = M.now ∧ M.high ≤ R.high ∧ R.high ≤ max M.high (M.now + (na + nb + nc : Nat)) ∧ (Fine ns.length M → Fine ns.length R) := by
 have hnd : (-1 : Int) ≤ (j : Int) ∧ (j : Int) < (ns.length : Int) := by omega
 have hkd := K.kd
 unfold qca at hkd
 simp only [List.contains_iff_mem, List.mem_cons, List.not_mem_nil, or_false] at hkd
 obtain ⟨q, hq⟩ : ∃ q, sl[j]? = some q := ⟨_, List.getElem?_eq_getElem zae⟩
 unfold stmM stmKM
 by_cases h26 : z.k = 26
 · rw [if_pos h26]
   dsimp only [Option.bind]
   rw [if_neg zae, if_neg zae, if_neg zae, if_neg zae, if_neg zae, if_neg zae, if_neg zae, if_pos h26]
   obtain ⟨M1, e1, c1, c2, c3, c4, c5⟩ := qao (N := ns.length) (M := M) 14 z.i 0 j 0 zae zae zae zae zae hnd
   rw [e1]
   dsimp only
   obtain ⟨R, e2, b1, b2, b3, b4, b5, b6, b7⟩ := qdu (hB (by rw [h26]; decide)) 15 0 j hj M1 zae (by rw [c2]; omega) zae zae
   rw [c2] at b3
   exact ⟨R, e2, by omega, by omega, by omega, by omega, by omega, by omega, fun hf => b7 (c5 hf)⟩
 rw [if_neg h26]
 have hA : shA z.k = true := by
  have : z.k = 20 ∨ z.k = 21 ∨ z.k = 22 ∨ z.k = 23 ∨ z.k = 24 ∨ z.k = 25 ∨ z.k = 27 ∨ z.k = 28 := by omega
  rcases this with h | h | h | h | h | h | h | h <;> rw [h] <;> decide
 have p1 := pa hA
 obtain ⟨M0, e0, a1, a2, a3, a4, a5, a6, a7⟩ := hE M hA ⟨by omega, by omega, n0, by omega⟩
 rw [e0]
 dsimp only [Option.bind]
 by_cases h : z.k = 20 ∨ z.k = 21
 · rw [if_pos h, hq]
   dsimp only
   obtain ⟨R, e2, c1, c2, c3, c4, c5⟩ := qao (N := ns.length) (M := M0) 2 q 0 j (-1) zae zae zae zae zae hnd
   exact ⟨R, e2, by omega, by omega, by rw [c2]; omega, by omega, by omega, by omega, fun hf => c5 (a7 hf)⟩
 rw [if_neg h]
 have q1 := h
 clear h
 by_cases h : z.k = 22
 · rw [if_pos h]
   have hB2 : shB z.k = true := by rw [h]; decide
   have p2 := pb hB2
   obtain ⟨M1, e1, b1, b2, b3, b4, b5, b6, b7⟩ := hE2 M0 hB2 ⟨by omega, by omega, by omega, by omega⟩
   rw [e1]
   dsimp only
   obtain ⟨R, e2, c1, c2, c3, c4, c5⟩ := qao (N := ns.length) (M := M1) 10 0 0 j (-2) zae zae zae zae zae hnd
   exact ⟨R, e2, by omega, by omega, by rw [c2]; omega, by omega, by omega, by omega, fun hf => c5 (b7 (a7 hf))⟩
 rw [if_neg h]
 have q2 := h
 clear h
 have one : ∀ op, ∃ R, M0.add op 0 0 j (-1) = some R ∧ M.ins.length ≤ R.ins.length ∧ R.ins.length ≤ M.ins.length + 3 + 4 * (na + nb + nc) ∧ R.vals.length ≤ M.vals.length + (na + nb + nc) ∧ R.now = M.now ∧ M.high ≤ R.high ∧ R.high ≤ max M.high (M.now + (na + nb + nc : Nat)) ∧ (Fine ns.length M → Fine ns.length R) := fun op => by
  obtain ⟨R, e2, c1, c2, c3, c4, c5⟩ := qao (N := ns.length) (M := M0) op 0 0 j (-1) zae zae zae zae zae hnd
  exact ⟨R, e2, by omega, by omega, by rw [c2]; omega, by omega, by omega, by omega, fun hf => c5 (a7 hf)⟩
 by_cases h : z.k = 23
 · rw [if_pos h]; exact one 11
 rw [if_neg h]
 have q3 := h
 clear h
 by_cases h : z.k = 27
 · rw [if_pos h]; exact one 16
 rw [if_neg h]
 have q4 := h
 clear h
 by_cases h : z.k = 28
 · rw [if_pos h]; exact one 17
 rw [if_neg h]
 have q5 := h
 clear h one
 by_cases h : z.k = 24
 · rw [if_pos h]
   have HB := hB (by rw [h]; decide)
   unfold ifM
   obtain ⟨M1, e1, c1, c2, c3, c4, c5⟩ := qao (N := ns.length) (M := M0) 8 0 0 j (-1) zae zae zae zae zae hnd
   rw [e1]
   dsimp only [Option.bind]
   obtain ⟨M2, e2, b1, b2, b3, b4, b5, b6, b7⟩ := HB M1 ⟨by omega, by rw [c2]; omega, by omega, by omega⟩
   rw [c2] at b3
   rw [e2]
   dsimp only
   split
   · obtain ⟨R, e4, y1, y2, y3, y4, y5⟩ := qbS (N := ns.length) (M := M2) M0.ins.length zae zae
     exact ⟨R, e4, by omega, by omega, by rw [y2]; omega, by omega, by omega, by omega, fun hf => y5 (b7 (c5 (a7 hf)))⟩
   · obtain ⟨M3, e3, x1, x2, x3, x4, x5⟩ := qao (N := ns.length) (M := M2) 9 0 0 j 0 zae zae zae zae zae hnd
     rw [e3]
     dsimp only
     obtain ⟨M4, e4, y1, y2, y3, y4, y5⟩ := qbS (N := ns.length) (M := M3) M0.ins.length zae zae
     rw [e4]
     dsimp only
     obtain ⟨M5, e5, u1, u2, u3, u4, u5, u6, u7⟩ := hC M4 ⟨by omega, by rw [y2, x2]; omega, by omega, by omega⟩
     rw [e5]
     dsimp only
     obtain ⟨R, e6, t1, t2, t3, t4, t5⟩ := qbS (N := ns.length) (M := M5) M2.ins.length zae zae
     rw [y2, x2] at u3
     exact ⟨R, e6, by omega, by omega, by rw [t2]; omega, by omega, by omega, by omega, fun hf => t5 (u7 (y5 (x5 (b7 (c5 (a7 hf))))))⟩
 rw [if_neg h]
 have h25 : z.k = 25 := by omega
 rw [if_pos h25]
 obtain ⟨M1, e1, c1, c2, c3, c4, c5⟩ := qao (N := ns.length) (M := M0) 12 0 z.i j (-1) zae zae zae zae zae hnd
 rw [e1]
 dsimp only
 rw [hq]
 dsimp only
 obtain ⟨R, e2, b1, b2, b3, b4, b5, b6, b7⟩ := qdu (hB (by rw [h25]; decide)) 13 q j hj M1 zae (by rw [c2]; omega) zae zae
 rw [c2] at b3
 exact ⟨R, e2, by omega, by omega, by omega, by omega, by omega, by omega, fun hf => b7 (c5 (a7 hf))⟩
theorem blkM_neg (ns : List Nd) (sl : List Int) (f : Nat) (i : Int) (M : Mk) (h : i < 0) : blkM ns sl f i M = some M := by
 cases f <;> (unfold blkM; rw [if_pos h])
theorem blkM_room (ns : List Nd) (sl : List Int) (hs : ns.length ≤ sl.length) (hk : ∀ (j : Nat) (z : Nd), ns[j]? = some z → NK ns z) : ∀ (f : Nat) (i : Int) (n : Nat), SK ns i → Tr ns i n → n ≤ f → BR ns (blkM ns sl f) i n := by
 intro f
 induction f with
 | zero =>
  intro i n e t hf M hr
  rcases e with e | ⟨j, z, rfl, hz, h20⟩
  · exact ⟨M, blkM_neg _ _ _ _ _ e, MG.refl _ _ _⟩
  · obtain ⟨_, z', na, nb, nc, nx, e', hz', ta, tb, tc, tx, rfl⟩ := qcG t zae
    omega
 | succ f ih =>
  intro i n e t hf M hr
  rcases e with e | ⟨j, z, rfl, hz, h20⟩
  · exact ⟨M, blkM_neg _ _ _ _ _ e, MG.refl _ _ _⟩
  have hj := (List.getElem?_eq_some_iff.1 hz).1
  obtain ⟨_, z', na, nb, nc, nx, e', hz', ta, tb, tc, tx, rfl⟩ := qcG t zae
  cases e'
  obtain rfl : z = z' := Option.some.inj (hz.symm.trans hz')
  have K := hk j z hz
  obtain ⟨r1, r2, r3, r4⟩ := hr
  unfold blkM
  rw [if_neg zae, Int.toNat_natCast, hz]
  dsimp only
  obtain ⟨M1, e1, c1, c2, c3, c4, c5⟩ := qao (N := ns.length) (M := M) 7 0 0 j 0 zae zae zae zae zae ⟨by omega, by omega⟩
  rw [e1]
  dsimp only [Option.bind]
  obtain ⟨M2, e2, b1, b2, b3, b4, b5, b6, b7⟩ := stmM_room hs (E := exprM ns sl f) (B := blkM ns sl f) hj K h20 (na := na) (nb := nb) (nc := nc) (fun M ha hm => qdn ns sl hs hk f _ _ M (K.ea ha) ta zae hm) (fun ha => ek_tr (K.ea ha) ta) (fun M ha hm => qdn ns sl hs hk f _ _ M (K.eb ha) tb zae hm) (fun ha => ek_tr (K.eb ha) tb) (fun ha => ih _ _ (K.sb ha) tb zae) (ih _ _ K.sc tc zae) M1 zae (by rw [c2]; omega) zae zae
  rw [e2]
  dsimp only
  rw [c2] at b3
  obtain ⟨R, e3, x1, x2, x3, x4, x5, x6, x7⟩ := ih _ _ K.sx tx zae M2 ⟨by omega, by omega, by omega, by omega⟩
  exact ⟨R, e3, by omega, by omega, by omega, by omega, by omega, by omega, fun hf => x7 (b7 (c5 hf))⟩
/-- a program that may be has a code, and its numbers are these -/
theorem codeF_law {ns : List Nd} {fi : Int} {sl : List Int} (hs : ns.length ≤ sl.length) (hk : ∀ (j : Nat) (z : Nd), ns[j]? = some z → NK ns z) (hf : SK ns fi) {n : Nat} (t : Tr ns fi n) (hn : n ≤ ns.length) (h512 : ns.length ≤ 512) :
  ∃ M, codeF ns fi sl = some M ∧ 1 ≤ M.ins.length ∧ M.ins.length ≤ 4 * ns.length + 1 ∧ 0 ≤ M.high ∧ M.high ≤ (ns.length : Int) + 1 ∧ Fine ns.length M ∧ M.vals.length ≤ ns.length := by
 obtain ⟨M, e, b1, b2, b3, b4, b5, b6, b7⟩ := blkM_room ns sl hs hk ns.length fi n hf t hn Mk.start ⟨by simp [Mk.start]; omega, by simp [Mk.start]; omega, Int.le_refl _, by simp [Mk.start]; omega⟩
 simp only [Mk.start, List.length_nil] at b1 b2 b3 b4 b5 b6
 obtain ⟨R, e2, c1, c2, c3, c4, c5⟩ := qao (N := ns.length) (M := M) 18 0 0 (-1) 0 zae zae zae zae zae ⟨by omega, by omega⟩
 refine ⟨R, by unfold codeF; rw [e]; exact e2, by omega, by omega, by omega, by omega, c5 (b7 ⟨fun x hx => (by cases hx), fun x hx => (by cases hx)⟩), by rw [c2]; omega⟩
theorem takes_ek {ns : List Nd} {k : Int} {t : Int} (h : qaz ns k 0 t false = true) (ht : t ≤ (ns.length : Int)) : EK ns k := by
 have hl := qbe h
 unfold qaz kindAt at h
 simp only [Bool.and_eq_true] at h
 obtain ⟨j, rfl⟩ : ∃ j : Nat, k = (j : Int) := ⟨k.toNat, by omega⟩
 have hj : j < ns.length := by omega
 have hz := List.getElem?_eq_getElem hj
 refine ⟨j, ns[j], rfl, hz, ?_⟩
 have h2 := h.2
 rw [Int.toNat_natCast, hz] at h2
 dsimp only at h2
 have h3 := beq_iff_eq.1 h2
 have := decide_eq_false_iff_not.1 h3.symm
 omega
theorem takes_sk {ns : List Nd} {k f : Int} {t : Int} (h : qaz ns k f t true = true) (hf : 0 ≤ f) (ht : t ≤ (ns.length : Int)) : SK ns k := by
 have hl := qbe h
 unfold qaz kindAt at h
 simp only [Bool.and_eq_true] at h
 obtain ⟨j, rfl⟩ : ∃ j : Nat, k = (j : Int) := ⟨k.toNat, by omega⟩
 have hj : j < ns.length := by omega
 have hz := List.getElem?_eq_getElem hj
 refine Or.inr ⟨j, ns[j], rfl, hz, ?_⟩
 have h2 := h.2
 rw [Int.toNat_natCast, hz] at h2
 dsimp only at h2
 have h3 := beq_iff_eq.1 h2
 exact of_decide_eq_true h3.symm
theorem blk_sk {ns : List Nd} {k : Int} {t : Int} (h : blkB ns k t = true) (ht : t ≤ (ns.length : Int)) : SK ns k := by
 unfold blkB at h
 simp only [Bool.or_eq_true, beq_iff_eq] at h
 rcases h with h | h
 · exact Or.inl zae
 · exact takes_sk h (Int.le_refl _) ht
theorem quot_len {s : ByteArray} (h : qdv s = true) : s.size ≤ 64 := by
 unfold qdv quoteF at h
 split at h
 · simp at h
 · rename_i q
   have : s.size = s.data.toList.length := by rw [← ByteArray.size_data, ← Array.length_toList]
   omega
theorem qeb {s : ByteArray} (h : s.toList.isEmpty = true) : s.size = 0 := by
 have h1 := List.isEmpty_iff.1 h
 have h3 : (⟨#[]⟩ : ByteArray).toList = [] := by first | kernel_rfl | (unfold ByteArray.toList; unfold ByteArray.toList.loop; rfl)
 have h2 : (s.toList == (⟨#[]⟩ : ByteArray).toList) = true := by rw [h1, h3]; rfl
 rw [(Lib.bytes_beq_iff _ _).1 h2]; rfl
theorem node_nk {ns : List Nd} {j : Nat} {z : Nd} (hz : ns[j]? = some z) (h : nodeB ns j z = true) : NK ns z := by
 have hj := (List.getElem?_eq_some_iff.1 hz).1
 unfold nodeB at h
 simp only [Bool.and_eq_true] at h
 obtain ⟨hh, ⟨⟨ha, hb⟩, hc⟩, hx⟩ := h
 unfold qdw at hh
 simp only [Bool.and_eq_true] at hh
 obtain ⟨⟨hk, hn⟩, ht1, ht2⟩ := hh
 refine ⟨hk, fun q => ?_, fun q => ?_, fun q => ?_, ?_, ?_, fun q => ?_⟩
 · unfold aB at ha; rw [if_pos q] at ha; exact takes_ek ha zae
 · unfold bB at hb; rw [if_pos q] at hb; exact takes_ek hb zae
 · unfold bB at hb
   have q2 : ¬ shB z.k = true := by
    unfold shBB at q; unfold shB
    simp only [List.contains_iff_mem, List.mem_cons, List.not_mem_nil, or_false] at q ⊢
    omega
   rw [if_neg q2, if_pos q] at hb; exact blk_sk hb zae
 · unfold cB at hc
   simp only [Bool.or_eq_true, Bool.and_eq_true, beq_iff_eq] at hc
   rcases hc with h | ⟨_, h⟩
   · exact Or.inl zae
   · exact blk_sk h zae
 · unfold xB at hx
   simp only [Bool.or_eq_true, Bool.and_eq_true, beq_iff_eq] at hx
   rcases hx with h | ⟨_, h⟩
   · exact Or.inl zae
   · exact takes_sk h zae zae
 · unfold VOk
   dsimp only
   unfold numOk at hn
   unfold txt2 at ht2
   rcases q with h | h | h | h
   · rw [h] at hn ht2
     exact Or.inl ⟨h, by simpa using hn, qeb (by simpa [shS] using ht2)⟩
   · rw [h] at hn ht2
     exact Or.inr (Or.inl ⟨h, by simpa using hn, qeb (by simpa [shS] using ht2)⟩)
   · rw [h] at hn ht2
     exact Or.inr (Or.inr (Or.inl ⟨h, qeb (by simpa [shS] using ht2)⟩))
   · rw [h] at hn ht2
     exact Or.inr (Or.inr (Or.inr ⟨h, by simpa using hn, quot_len (by simpa using ht2)⟩))
end Go.Proofs.YtpnabjopfpdkhaaGreatDoor
