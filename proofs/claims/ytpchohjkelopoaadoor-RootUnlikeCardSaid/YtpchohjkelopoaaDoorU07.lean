/- Lemmas for the claim (texts LfA, Tr1, Sm1, what its proof uses of them). -/
import Derived.Test.YtpchohjkelopoaaDoorU06
set_option linter.unusedSimpArgs false
set_option linter.unusedVariables false
set_option maxRecDepth 20000
namespace Go.Proofs.YtpchohjkelopoaaDoor
open Go.RowKit
attribute [go_sem] more_more Array.size_append
theorem itemF_bad (a b : Int) (l : List UInt8) : (itemF a l).2 = (itemF b l).2 ∧ (itemF a l = itemF b l ∨ ((itemF a l).1.ver = a ∧ (itemF b l).1.ver = b)) := by
  unfold itemF
  (repeat' split) <;> first | exact ⟨rfl, Or.inl rfl⟩ | exact ⟨rfl, Or.inr ⟨rfl, rfl⟩⟩
theorem mayI_bad {x : It} (h : x.ver = 2147483648 ∨ x.ver = -1) : mayI x = false := by
  unfold mayI
  rcases h with h | h <;> simp [h]
theorem itemsF_bad : ∀ (n : Nat) (l : List UInt8), (itemsF 2147483648 n l).2 = (itemsF (-1) n l).2 ∧ (itemsF 2147483648 n l).1.length = (itemsF (-1) n l).1.length ∧ (itemsF 2147483648 n l = itemsF (-1) n l ∨ ((itemsF 2147483648 n l).1.all mayI = false ∧ (itemsF (-1) n l).1.all mayI = false))
  | 0, l => ⟨rfl, rfl, Or.inl rfl⟩
  | n + 1, l => by
    obtain ⟨h1, h2⟩ := itemF_bad 2147483648 (-1) l
    obtain ⟨i1, i2, i3⟩ := itemsF_bad n (l.drop (itemF (-1) l).2.1)
    unfold itemsF
    rw [h1]
    split
    · exact ⟨rfl, rfl, Or.inl rfl⟩
    · rw [i1]
      split
      · exact ⟨rfl, rfl, Or.inl rfl⟩
      · refine ⟨rfl, by simp [i2], ?_⟩
        rcases h2 with h2 | ⟨h2, h3⟩
        · rcases i3 with i3 | ⟨i3, i4⟩
          · left; rw [h2, i3]
          · right; simp [i3, i4]
        · right
          simp [mayI_bad (Or.inl h2), mayI_bad (Or.inr h3)]
theorem cutF_bad (l : List UInt8) : cutF 2147483648 l = cutF (-1) l := by
  cases l with
  | nil => rfl
  | cons c t =>
    obtain ⟨i1, i2, i3⟩ := itemsF_bad c.toNat t
    rw [cutF_items rfl, cutF_items rfl]
    rcases i3 with i3 | ⟨i3, i4⟩
    · rw [i3]
    · rw [i1]
      split
      · rfl
      · first | rfl | rw [if_pos i3, if_pos i4]
theorem itemsF_len (bad : Int) : ∀ (n : Nat) (l : List UInt8), (itemsF bad n l).2.2 = 0 → (itemsF bad n l).1.length = n
  | 0, l, _ => rfl
  | n + 1, l, h => by
    unfold itemsF at h ⊢
    split at h
    · next h1 => exact absurd h h1
    · next h1 =>
      rw [if_neg h1]
      split at h
      · next h2 => exact absurd h h2
      · next h2 =>
        rw [if_neg h2]
        simp only [List.length_cons]
        rw [itemsF_len bad n _ (by simpa using h2)]
theorem cutF_ok {bad : Int} {l : List UInt8} (h : (cutF bad l).2 = 0) : ∃ c t, l = c :: t ∧ (cutF bad l).1.length = c.toNat ∧ (cutF bad l).1.length ≤ 8 := by
  cases l with
  | nil => simp [cutF] at h
  | cons c t =>
    refine ⟨c, t, rfl, ?_⟩
    rw [cutF_items rfl] at h ⊢
    split at h
    · next h1 => exact absurd h h1
    · next h1 =>
      rw [if_neg h1]
      split at h
      · simp at h
      · next h2 =>
        rw [if_neg h2]
        split at h
        · simp at h
        · next h3 =>
          rw [if_neg h3]
          split at h
          · simp at h
          · next h4 =>
            rw [if_neg h4]
            split at h
            · simp at h
            · next h5 =>
              rw [if_neg h5]
              exact ⟨itemsF_len bad _ _ (by simpa using h1), by dsimp only; omega⟩
theorem cutAll_err : ∀ (L : List (List UInt8)) (a i : Nat) (c : List UInt8), L[i]? = some c → (∀ j d, j < i → L[j]? = some d → (cutF (-1) d).2 = 0) → (cutF (-1) c).2 ≠ 0 → cutAll a L = ([], (cutF (-1) c).2, ((a + i : Nat) : Int))
  | [], _, _, _, h, _, _ => by simp at h
  | d :: L, a, 0, c, h, _, he => by
    simp at h; subst h
    unfold cutAll
    rw [if_pos he]; rfl
  | d :: L, a, i + 1, c, h, ho, he => by
    have h0 := ho 0 d (Nat.succ_pos i) rfl
    have ih := cutAll_err L (a + 1) i c (by simpa using h) (fun j d hj hd => ho (j + 1) d (by omega) (by simpa using hd)) he
    unfold cutAll
    rw [if_neg (by simpa using h0), ih]
    simp only [ne_eq, he, not_false_eq_true, if_true]
    rw [show a + 1 + i = a + (i + 1) by omega]
theorem cutAll_ok : ∀ (L : List (List UInt8)) (a : Nat), (∀ (j : Nat) d, L[j]? = some d → (cutF (-1) d).2 = 0) → (cutAll a L).2 = (0, 0)
  | [], _, _ => rfl
  | d :: L, a, ho => by
    have ih := cutAll_ok L (a + 1) (fun j d hd => ho (j + 1) d (by simpa using hd))
    unfold cutAll
    rw [if_neg (by simpa using ho 0 d rfl), ih]
    simp
/-- the first list that is short, and not the last; -1: there is none -/
def shN (g : Nat → Nat) (n : Nat) : Nat → Int
  | 0 => -1
  | i + 1 => if shN g n i < 0 ∧ g i < 8 ∧ i + 1 < n then (i : Int) else shN g n i
theorem shN_bd (g : Nat → Nat) (n : Nat) : ∀ i, -1 ≤ shN g n i ∧ shN g n i ≤ i
  | 0 => by simp [shN]
  | i + 1 => by
    have := shN_bd g n i
    unfold shN
    split <;> omega
def lenAt (L : List (List UInt8)) (j : Nat) : Nat := match L[j]? with | some c => (cutF (-1) c).1.length | none => 0
theorem lenAt_some {L : List (List UInt8)} {j : Nat} {c : List UInt8} (h : L[j]? = some c) : lenAt L j = (cutF (-1) c).1.length := by unfold lenAt; rw [h]
def itsOf (L : List (List UInt8)) : List It := L.flatMap fun c => (cutF (-1) c).1
theorem itsOf_snoc {L : List (List UInt8)} {j : Nat} {c : List UInt8} (h : L[j]? = some c) : itsOf (L.take (j + 1)) = itsOf (L.take j) ++ (cutF (-1) c).1 := by
  unfold itsOf
  rw [List.take_add_one, h]; simp
/-- the leaf of chunks: the items, the error, and where -/
def leafOfF (L : List (List UInt8)) : List It × Int × Int :=
  if (cutAll 0 L).2.1 ≠ 0 then ([], (cutAll 0 L).2)
  else if 0 ≤ shN (lenAt L) L.length L.length then ([], 3, shN (lenAt L) L.length L.length)
  else if (leafF (itsOf L)).1 ≠ 0 then ([], (leafF (itsOf L)).1, (L.length : Int)) else (itsOf L, 0, 0)
theorem leafOfF_err {L : List (List UInt8)} {i : Nat} {c : List UInt8} (h : L[i]? = some c) (ho : ∀ j d, j < i → L[j]? = some d → (cutF (-1) d).2 = 0) (he : (cutF (-1) c).2 ≠ 0) : leafOfF L = ([], (cutF (-1) c).2, (i : Int)) := by
  unfold leafOfF
  rw [cutAll_err L 0 i c h ho he, if_pos he]
  simp
theorem leafOfF_ok {L : List (List UInt8)} {n : Nat} (hn : L.length = n) (ho : ∀ j d, j < n → L[j]? = some d → (cutF (-1) d).2 = 0) : leafOfF L = if 0 ≤ shN (lenAt L) n n then ([], 3, shN (lenAt L) n n) else if (leafF (itsOf L)).1 ≠ 0 then ([], (leafF (itsOf L)).1, (n : Int)) else (itsOf L, 0, 0) := by
  unfold leafOfF
  rw [cutAll_ok L 0 (fun j d hd => ho j d (by have := (List.getElem?_eq_some_iff.1 hd).1; omega) hd), hn]
  simp
theorem itsOf_len : ∀ (L : List (List UInt8)), (∀ c ∈ L, (cutF (-1) c).2 = 0) → (itsOf L).length ≤ 8 * L.length
  | [], _ => by simp [itsOf]
  | c :: L, h => by
    have h1 := itsOf_len L (fun d hd => h d (by simp [hd]))
    obtain ⟨_, _, _, _, h2⟩ := cutF_ok (h c (by simp))
    have e : itsOf (c :: L) = (cutF (-1) c).1 ++ itsOf L := by simp [itsOf]
    rw [e]
    simp only [List.length_append, List.length_cons]; omega
theorem ok_take {L : List (List UInt8)} {i : Nat} (ho : ∀ j d, j < i → L[j]? = some d → (cutF (-1) d).2 = 0) : ∀ c ∈ L.take i, (cutF (-1) c).2 = 0 := by
  intro c hc
  obtain ⟨j, hj⟩ := List.getElem?_of_mem hc
  rw [List.getElem?_take] at hj
  split at hj
  · next h => exact ho j c h hj
  · cases hj
/-- what a contract says of a leaf that it hands back -/
def LeafPost (w w' : World) (e : Ending) (r : List It × Int × Int) : Prop :=
  ∃ v, e = .returned (.tuple #[v, .int .i64 r.2.1, .int .i64 r.2.2]) ∧ (r.2.1 = 0 → w'.ownsRow w.heap.size 79 5 v r.1.length (itCells r.1) ∧ ∀ x ∈ r.1, ItOk x) ∧ (r.2.1 ≠ 0 → v = .slice none 0 0) ∧ Ext w w'
theorem LeafPost.err {w w' : World} {e p : Int} (he : e ≠ 0) (hx : Ext w w') : LeafPost w w' (.returned (.tuple #[.slice none 0 0, .int .i64 e, .int .i64 p])) ([], e, p) :=
  ⟨_, rfl, fun h => absurd h he, fun _ => rfl, hx⟩
theorem it_one (l : List It) : ∀ u ∈ itCells l, u.oneCell' = true := by
  induction l with
  | nil => simp [itCells]
  | cons x l ih =>
    intro u hu
    simp only [itCells, itL, List.cons_append, List.nil_append, List.mem_cons] at hu
    rcases hu with rfl | rfl | rfl | rfl | rfl | h
    all_goals first | rfl | exact ih u h
theorem src_items {w : World} {base n : Nat} {v : Value} {l : List It} (h : w.ownsRow base 79 5 v n (itCells l)) (hn : 0 < n) : ∃ g cap, v = .slice (some ⟨g, 0, none⟩) n cap ∧ Src Tryd.prog 5 36 v n (itCells l) w := by
  obtain ⟨g, cap, rfl, _⟩ := h.form hn
  exact ⟨g, cap, rfl, Src.ofSlice w Tryd.underlying36 ⟨g, 0, none⟩ n cap _ h.1 (h.cells (g := g) rfl) (it_one l)⟩
theorem ne_of_ok {c : List UInt8} {li : List It} (h : cutF (-1) c = (li, 0)) : li.length ≠ 0 := by
  cases c with
  | nil => simp [cutF] at h
  | cons c t =>
    rw [cutF_items rfl] at h
    repeat' split at h
    all_goals simp only [Prod.mk.injEq] at h
    · next h1 => exact absurd h.2 h1
    · simp at h
    · simp at h
    · simp at h
    · simp at h
    · next h4 _ => rw [← h.1]; omega
set_option maxHeartbeats 4000000 in
theorem lof_any (v : Value) (L : List (List UInt8)) (vs : List Value) (base B : Nat) (w : World) (hS : SignsAt B w) (hB : B ≤ w.heap.size) (hrow : w.ownsRow base 52 1 v L.length vs) (hb : Bys base w vs L) (hn5 : L.length ≤ 100000) (hlen : ∀ c ∈ L, c.length ≤ 1000000) (r : List It × Int × Int) (hr : leafOfF L = r) :
    Calls Tryd.prog 15 #[v] w fun e w' => LeafPost w w' e r := by
  obtain ⟨i1, hi1, hy0, hy1, hy2⟩ := info_parts itInfo
  obtain ⟨n, hn⟩ : ∃ n, L.length = n := ⟨_, rfl⟩
  rw [hn] at hrow hn5
  obtain ⟨p, cap, rfl, hcap, hp⟩ := own_form hrow
  have hn5I : (n : Int) ≤ 100000 := by omega
  have HROW := Lib.hid hrow
  have HN := Lib.hid hn
  have HP := Lib.hid hp
  have HLEN := Lib.hid hlen
  have HR := Lib.hid hr
  have HS := Lib.hid hS
  have HBY := Lib.hid hb
  clear hS hb
  clear hrow hn hp hlen hr
  go_enter Tryd.func15, Tryd.ntmps15
  go_wp2_with fail
  go_loopw [5, 6, 15] (fun out sh ii wr => ∃ (i m : Nat), ii = .int .i64 (i : Int) ∧ sh = .int .i64 (shN (lenAt L) n i) ∧ i ≤ n ∧ Hid ((∀ j d, j < i → L[j]? = some d → (cutF (-1) d).2 = 0) ∧ (itsOf (L.take i)).length = m ∧ ∀ x ∈ itsOf (L.take i), ItOk x) ∧ m ≤ 800000 ∧ wr.ownsRow w.heap.size 79 5 out m (itCells (itsOf (L.take i))) ∧ Ext w wr) (fun _ _ ii _ => n - (intOf ii).toNat)
  case atStart => exact ⟨0, 0, rfl, rfl, Nat.zero_le _, Lib.hid ⟨fun j d h => absurd h (Nat.not_lt_zero j), rfl, fun x hx => by simp [itsOf] at hx⟩, by omega, World.ownsRow_nil _ _ _ _, Ext.refl _⟩
  case round =>
    obtain ⟨i, m, rfl, rfl, hi, hH, hm8, hown, hext⟩ := hrel
    have HOW := Lib.hid hown
    have HEX := Lib.hid hext
    clear hown hext
    have hiI : (i : Int) ≤ 100000 := by omega
    have hm8I : (m : Int) ≤ 800000 := by omega
    by_cases hlt : i < n
    · obtain ⟨g, rfl⟩ := HP.out (by omega)
      obtain ⟨c, hc⟩ : ∃ c, L[i]? = some c := ⟨_, List.getElem?_eq_getElem (by have := HN.out; omega)⟩
      have hcl := HLEN.out c (List.mem_of_getElem? hc)
      obtain ⟨l, ec⟩ : ∃ l, cutF (-1) c = l := ⟨_, rfl⟩
      obtain ⟨li, e1⟩ := l
      have HEC := Lib.hid ec
      have HC := Lib.hid hc
      have hi0 : (0 : Int) ≤ (i : Int) := by omega
      have hi1' : (i : Int) < (n : Int) := by omega
      obtain ⟨vc, hvc⟩ : ∃ vc, vs[i]? = some vc := ⟨_, List.getElem?_eq_getElem (by have := HBY.out.1; have := HN.out; omega)⟩
      obtain ⟨b1, o1, c1, rfl, hcc, _, hbb, _⟩ := HBY.out.2 i vc c hvc HC.out
      have hcell : w.cell? ⟨g, i, none⟩ = some (.slice (some ⟨b1, o1, none⟩) c.length c1) := by have := HROW.out.cells (g := g) rfl i _ hvc; rwa [Addr.add_lit, Nat.zero_add] at this
      have hcell2 : wr.cell? ⟨g, i, none⟩ = some (.slice (some ⟨b1, o1, none⟩) c.length c1) := by rw [HEX.out.below.cell (p := ⟨g, i, none⟩) (HROW.out.lt g rfl).2]; exact hcell
      have CC := Lib.hid fun (W : World) (hx : Ext w W) => cut_any b1 o1 c1 c B W (HS.out.ext hx hB) (Nat.le_trans hB hx.size) (by omega) hcc (hbb.ext hx) (li, e1) (by rw [cutF_bad]; exact ec)
      clear hvc hcc hbb hcell
      clear ec hc
      by_cases he : e1 = 0
      case neg =>
        have hre : r = ([], e1, (i : Int)) := by
          have h1 := HR.out
          rw [leafOfF_err HC.out hH.out.1 (by rw [HEC.out]; exact he), HEC.out] at h1
          exact h1.symm
        subst hre
        have he' : (e1 != 0) = true := by simpa using he
        have HE := Lib.hid he
        clear he
        go_wp2_with (go_at_call 25; refine (CC.out _ (by repeat (first | exact HEX.out | apply Ext.alloc | apply Ext.more | apply Ext.drewN))).mono ?_; rintro e _ ⟨v1, rfl, _, hv1, d1, os1, rfl⟩; obtain rfl := hv1 HE.out; clear hv1)
        go_ret3
        exact LeafPost.err HE.out (by repeat (first | exact HEX.out | apply Ext.alloc | apply Ext.more | apply Ext.drewN))
      subst he
      obtain ⟨c0, tl, hc0, hlc, hl8⟩ := cutF_ok (show (cutF (-1) c).2 = 0 by rw [HEC.out])
      rw [HEC.out] at hlc hl8
      dsimp only at hlc hl8
      have HSN := Lib.hid (itsOf_snoc HC.out)
      rw [HEC.out] at HSN
      dsimp only at HSN
      obtain ⟨q, hq⟩ : ∃ q, li.length = q := ⟨_, rfl⟩
      have HLQ := Lib.hid hq
      have hqp : 0 < q := by
        have := ne_of_ok HEC.out
        omega
      have hq8 : q ≤ 8 := by omega
      have HOK : Hid (∀ j d, j < i + 1 → L[j]? = some d → (cutF (-1) d).2 = 0) := Lib.hid (by
        intro j d hj hd
        by_cases hji : j < i
        · exact hH.out.1 j d hji hd
        · have : j = i := by omega
          subst this
          rw [HC.out] at hd
          obtain rfl := Option.some.inj hd
          rw [HEC.out])
      have hmq : m + q ≤ 800000 := by
        have h1 := itsOf_len (L.take (i + 1)) (ok_take HOK.out)
        rw [HSN.out, List.length_append, hH.out.2.1, hq] at h1
        have := List.length_take_le (i + 1) L
        omega
      clear hc0 hlc hl8 hq
      have hlq : lenAt L i = q := by rw [lenAt_some HC.out, HEC.out]; exact HLQ.out
      obtain ⟨z, hz⟩ : ∃ z, shN (lenAt L) n i = z := ⟨_, rfl⟩
      have hzb := shN_bd (lenAt L) n i
      rw [hz] at hzb ⊢
      have hz1 : -1 ≤ z := hzb.1
      have hz2 : z ≤ 100000 := by omega
      by_cases hsh : z < 0 ∧ q < 8 ∧ i + 1 < n
      · have hnx : shN (lenAt L) n (i + 1) = (i : Int) := by unfold shN; rw [hz, hlq, if_pos hsh]
        have HNX := Lib.hid hnx
        obtain ⟨hs1, hs2, hs3⟩ := hsh
        have hq8I : (q : Int) < 8 := by omega
        have hnI : (i : Int) < (n : Int) - 1 := by omega
        clear hlq hz hzb hnx
        go_wp2_with (first
          | (go_at_call 25; refine (CC.out _ (by repeat (first | exact HEX.out | apply Ext.alloc | apply Ext.more | apply Ext.drewN))).mono ?_; rintro e w1 ⟨v1, rfl, hv1, _, hx1⟩; obtain ⟨hown1, hok1⟩ := hv1 rfl; clear hv1; rw [HLQ.out] at hown1; obtain ⟨g1, cap1, rfl, hsrc⟩ := src_items hown1 hqp; have HS1 := Lib.hid hsrc; have HX1 := Lib.hid hx1; have HOK1 := Lib.hid hok1; clear hown1 hok1 hsrc hx1)
          | (at_builtin; refine wpList_append_src _ rfl _ _ 36 36 rfl w.heap.size 79 i1 (.agg #[.string ⟨#[]⟩, .int .i64 0, .int .i64 0, .string ⟨#[]⟩, .int .i64 0]) 5 56 Tryd.underlying36 hi1 hy0 hy1 hy2 rfl (by decide) _ _ _ rfl (own_ext HOW.out HX1.out) _ q _ rfl HS1.out ?c3a ?c4a ?c5a ?_))
        case c3a => unfold maxLen; omega
        case c4a => omega
        case c5a => exact Nat.le_trans HEX.out.size HX1.out.size
        intro v3 w3 hown3 hgrow3 _
        have HO3 : Hid (w3.ownsRow w.heap.size 79 5 v3 (m + q) (itCells (itsOf (L.take (i + 1))))) := Lib.hid (by rw [HSN.out, itCells_append]; exact hown3)
        have HX3 : Hid (Ext w w3) := Lib.hid (Ext.grown (HEX.out.trans HX1.out) hgrow3 (fun k hk => (HOW.out.lt k hk).1))
        have HMQ : Hid ((itsOf (L.take (i + 1))).length = m + q) := Lib.hid (by rw [HSN.out, List.length_append, hH.out.2.1, HLQ.out])
        have HIO : Hid (∀ x ∈ itsOf (L.take (i + 1)), ItOk x) := Lib.hid (by
          intro x hx
          rw [HSN.out] at hx
          rcases List.mem_append.1 hx with h | h
          · exact hH.out.2.2 x h
          · exact HOK1.out x h)
        clear hown3 hgrow3
        go_wp2_with fail
        go_roundw
        case rel => exact ⟨i + 1, m + q, by go_num, by rw [HNX.out], by omega, Lib.hid ⟨HOK.out, HMQ.out, HIO.out⟩, hmq, HO3.out, HX3.out⟩
        case measure => simp [intOf]; omega
      · have hnx : shN (lenAt L) n (i + 1) = z := by unfold shN; rw [hz, hlq, if_neg hsh]
        have HNX := Lib.hid hnx
        clear hlq hz hzb hnx
        by_cases hs2 : q < 8
        · have hq8I : (q : Int) < 8 := by omega
          by_cases hs3 : i + 1 < n
          · have hnI : (i : Int) < (n : Int) - 1 := by omega
            have hs1 : ¬ z < 0 := fun h => hsh ⟨h, hs2, hs3⟩
            clear hsh
            go_wp2_with (first
              | (go_at_call 25; refine (CC.out _ (by repeat (first | exact HEX.out | apply Ext.alloc | apply Ext.more | apply Ext.drewN))).mono ?_; rintro e w1 ⟨v1, rfl, hv1, _, hx1⟩; obtain ⟨hown1, hok1⟩ := hv1 rfl; clear hv1; rw [HLQ.out] at hown1; obtain ⟨g1, cap1, rfl, hsrc⟩ := src_items hown1 hqp; have HS1 := Lib.hid hsrc; have HX1 := Lib.hid hx1; have HOK1 := Lib.hid hok1; clear hown1 hok1 hsrc hx1)
              | (at_builtin; refine wpList_append_src _ rfl _ _ 36 36 rfl w.heap.size 79 i1 (.agg #[.string ⟨#[]⟩, .int .i64 0, .int .i64 0, .string ⟨#[]⟩, .int .i64 0]) 5 56 Tryd.underlying36 hi1 hy0 hy1 hy2 rfl (by decide) _ _ _ rfl (own_ext HOW.out HX1.out) _ q _ rfl HS1.out ?c3b ?c4b ?c5b ?_))
            case c3b => unfold maxLen; omega
            case c4b => omega
            case c5b => exact Nat.le_trans HEX.out.size HX1.out.size
            intro v3 w3 hown3 hgrow3 _
            have HO3 : Hid (w3.ownsRow w.heap.size 79 5 v3 (m + q) (itCells (itsOf (L.take (i + 1))))) := Lib.hid (by rw [HSN.out, itCells_append]; exact hown3)
            have HX3 : Hid (Ext w w3) := Lib.hid (Ext.grown (HEX.out.trans HX1.out) hgrow3 (fun k hk => (HOW.out.lt k hk).1))
            have HMQ : Hid ((itsOf (L.take (i + 1))).length = m + q) := Lib.hid (by rw [HSN.out, List.length_append, hH.out.2.1, HLQ.out])
            have HIO : Hid (∀ x ∈ itsOf (L.take (i + 1)), ItOk x) := Lib.hid (by
              intro x hx
              rw [HSN.out] at hx
              rcases List.mem_append.1 hx with h | h
              · exact hH.out.2.2 x h
              · exact HOK1.out x h)
            clear hown3 hgrow3
            go_wp2_with fail
            go_roundw
            case rel => exact ⟨i + 1, m + q, by go_num, by rw [HNX.out], by omega, Lib.hid ⟨HOK.out, HMQ.out, HIO.out⟩, hmq, HO3.out, HX3.out⟩
            case measure => simp [intOf]; omega
          · have hnI : ¬ (i : Int) < (n : Int) - 1 := by omega
            clear hsh
            go_wp2_with (first
              | (go_at_call 25; refine (CC.out _ (by repeat (first | exact HEX.out | apply Ext.alloc | apply Ext.more | apply Ext.drewN))).mono ?_; rintro e w1 ⟨v1, rfl, hv1, _, hx1⟩; obtain ⟨hown1, hok1⟩ := hv1 rfl; clear hv1; rw [HLQ.out] at hown1; obtain ⟨g1, cap1, rfl, hsrc⟩ := src_items hown1 hqp; have HS1 := Lib.hid hsrc; have HX1 := Lib.hid hx1; have HOK1 := Lib.hid hok1; clear hown1 hok1 hsrc hx1)
              | (at_builtin; refine wpList_append_src _ rfl _ _ 36 36 rfl w.heap.size 79 i1 (.agg #[.string ⟨#[]⟩, .int .i64 0, .int .i64 0, .string ⟨#[]⟩, .int .i64 0]) 5 56 Tryd.underlying36 hi1 hy0 hy1 hy2 rfl (by decide) _ _ _ rfl (own_ext HOW.out HX1.out) _ q _ rfl HS1.out ?c3c ?c4c ?c5c ?_))
            case c3c => unfold maxLen; omega
            case c4c => omega
            case c5c => exact Nat.le_trans HEX.out.size HX1.out.size
            intro v3 w3 hown3 hgrow3 _
            have HO3 : Hid (w3.ownsRow w.heap.size 79 5 v3 (m + q) (itCells (itsOf (L.take (i + 1))))) := Lib.hid (by rw [HSN.out, itCells_append]; exact hown3)
            have HX3 : Hid (Ext w w3) := Lib.hid (Ext.grown (HEX.out.trans HX1.out) hgrow3 (fun k hk => (HOW.out.lt k hk).1))
            have HMQ : Hid ((itsOf (L.take (i + 1))).length = m + q) := Lib.hid (by rw [HSN.out, List.length_append, hH.out.2.1, HLQ.out])
            have HIO : Hid (∀ x ∈ itsOf (L.take (i + 1)), ItOk x) := Lib.hid (by
              intro x hx
              rw [HSN.out] at hx
              rcases List.mem_append.1 hx with h | h
              · exact hH.out.2.2 x h
              · exact HOK1.out x h)
            clear hown3 hgrow3
            go_wp2_with fail
            go_roundw
            case rel => exact ⟨i + 1, m + q, by go_num, by rw [HNX.out], by omega, Lib.hid ⟨HOK.out, HMQ.out, HIO.out⟩, hmq, HO3.out, HX3.out⟩
            case measure => simp [intOf]; omega
        · have hq8I : ¬ (q : Int) < 8 := by omega
          clear hsh
          go_wp2_with (first
            | (go_at_call 25; refine (CC.out _ (by repeat (first | exact HEX.out | apply Ext.alloc | apply Ext.more | apply Ext.drewN))).mono ?_; rintro e w1 ⟨v1, rfl, hv1, _, hx1⟩; obtain ⟨hown1, hok1⟩ := hv1 rfl; clear hv1; rw [HLQ.out] at hown1; obtain ⟨g1, cap1, rfl, hsrc⟩ := src_items hown1 hqp; have HS1 := Lib.hid hsrc; have HX1 := Lib.hid hx1; have HOK1 := Lib.hid hok1; clear hown1 hok1 hsrc hx1)
            | (at_builtin; refine wpList_append_src _ rfl _ _ 36 36 rfl w.heap.size 79 i1 (.agg #[.string ⟨#[]⟩, .int .i64 0, .int .i64 0, .string ⟨#[]⟩, .int .i64 0]) 5 56 Tryd.underlying36 hi1 hy0 hy1 hy2 rfl (by decide) _ _ _ rfl (own_ext HOW.out HX1.out) _ q _ rfl HS1.out ?c3d ?c4d ?c5d ?_))
          case c3d => unfold maxLen; omega
          case c4d => omega
          case c5d => exact Nat.le_trans HEX.out.size HX1.out.size
          intro v3 w3 hown3 hgrow3 _
          have HO3 : Hid (w3.ownsRow w.heap.size 79 5 v3 (m + q) (itCells (itsOf (L.take (i + 1))))) := Lib.hid (by rw [HSN.out, itCells_append]; exact hown3)
          have HX3 : Hid (Ext w w3) := Lib.hid (Ext.grown (HEX.out.trans HX1.out) hgrow3 (fun k hk => (HOW.out.lt k hk).1))
          have HMQ : Hid ((itsOf (L.take (i + 1))).length = m + q) := Lib.hid (by rw [HSN.out, List.length_append, hH.out.2.1, HLQ.out])
          have HIO : Hid (∀ x ∈ itsOf (L.take (i + 1)), ItOk x) := Lib.hid (by
            intro x hx
            rw [HSN.out] at hx
            rcases List.mem_append.1 hx with h | h
            · exact hH.out.2.2 x h
            · exact HOK1.out x h)
          clear hown3 hgrow3
          go_wp2_with fail
          go_roundw
          case rel => exact ⟨i + 1, m + q, by go_num, by rw [HNX.out], by omega, Lib.hid ⟨HOK.out, HMQ.out, HIO.out⟩, hmq, HO3.out, HX3.out⟩
          case measure => simp [intOf]; omega
    have hin : i = n := by omega
    have hall := hH.out.1
    rw [hin] at hall
    have hr2 := HR.out
    rw [leafOfF_ok HN.out hall] at hr2
    have hto : L.take i = L := List.take_of_length_le (by rw [HN.out]; omega)
    have HR2 := Lib.hid hr2
    have hH2 := hH.out.2
    rw [hto] at HOW hH2
    have HH := Lib.hid hH2
    have HIN := Lib.hid hin
    clear hin hall hr2 hto hH2
    obtain ⟨W1, rfl⟩ : ∃ W1, W1 = wr := ⟨_, rfl⟩
    have hzn : shN (lenAt L) n i = shN (lenAt L) n n := by rw [HIN.out]
    rw [hzn]
    obtain ⟨z, hz⟩ : ∃ z, shN (lenAt L) n n = z := ⟨_, rfl⟩
    have hzb := shN_bd (lenAt L) n n
    rw [hz] at hzb ⊢
    have hr3 := HR2.out
    rw [hz] at hr3
    clear hz hzn
    by_cases hz0 : 0 ≤ z
    · have hre : r = ([], 3, z) := by rw [if_pos hz0] at hr3; exact hr3.symm
      subst hre
      clear hr3 hzb
      go_wp2_with fail
      go_ret3
      exact LeafPost.err (by decide) (by repeat (first | exact HEX.out | apply Ext.alloc | apply Ext.more | apply Ext.drewN))
    rw [if_neg hz0] at hr3
    clear hzb
    have hrow1 : W1.ownsRow w.heap.size 79 5 u5 (itsOf L).length (itCells (itsOf L)) := by rw [HH.out.1]; exact HOW.out
    obtain ⟨b1, _, hlf⟩ := lf_own hrow1 HH.out.2
    have HLF := Lib.hid hlf
    clear hlf hrow1
    obtain ⟨ef, hef⟩ : ∃ ef, leafF (itsOf L) = ef := ⟨_, rfl⟩
    rw [hef] at hr3
    obtain ⟨e9, p9⟩ := ef
    dsimp only at hr3
    have HEF := Lib.hid hef
    clear hef
    by_cases h9 : e9 = 0
    · subst h9
      have hre : r = (itsOf L, 0, 0) := by simpa using hr3.symm
      subst hre
      clear hr3
      go_wp2_with (go_at_call 21; have hlf1 := HLF.out; refine (lcheck_any b1 _ _ B _ (HS.out.ext (by repeat (first | exact HEX.out | apply Ext.alloc | apply Ext.more | apply Ext.drewN)) hB) (Nat.le_trans hB (Ext.size (by repeat (first | exact HEX.out | apply Ext.alloc | apply Ext.more | apply Ext.drewN)))) (hlf1.ext (by repeat (first | exact Ext.refl _ | apply Ext.alloc | apply Ext.more | apply Ext.drewN)))).mono ?_; rw [HEF.out]; rintro e _ ⟨rfl, d1, os1, rfl⟩)
      go_ret3
      refine ⟨_, rfl, fun _ => ⟨?_, HH.out.2⟩, fun h => absurd rfl h, (by repeat (first | exact HEX.out | apply Ext.alloc | apply Ext.more | apply Ext.drewN))⟩
      have h1 := HOW.out
      dsimp only
      rw [HH.out.1]
      exact own_ext h1 (by repeat (first | exact Ext.refl _ | apply Ext.alloc | apply Ext.more | apply Ext.drewN))
    · have hre : r = ([], e9, (n : Int)) := by simpa [h9] using hr3.symm
      subst hre
      clear hr3
      have h9' : (e9 != 0) = true := by simpa using h9
      have H9 := Lib.hid h9
      clear h9
      go_wp2_with (go_at_call 21; have hlf1 := HLF.out; refine (lcheck_any b1 _ _ B _ (HS.out.ext (by repeat (first | exact HEX.out | apply Ext.alloc | apply Ext.more | apply Ext.drewN)) hB) (Nat.le_trans hB (Ext.size (by repeat (first | exact HEX.out | apply Ext.alloc | apply Ext.more | apply Ext.drewN)))) (hlf1.ext (by repeat (first | exact Ext.refl _ | apply Ext.alloc | apply Ext.more | apply Ext.drewN)))).mono ?_; rw [HEF.out]; rintro e _ ⟨rfl, d1, os1, rfl⟩)
      go_ret3
      exact LeafPost.err H9.out (by repeat (first | exact HEX.out | apply Ext.alloc | apply Ext.more | apply Ext.drewN))
end Go.Proofs.YtpchohjkelopoaaDoor

set_option maxRecDepth 20000
namespace Go.Proofs.YtpchohjkelopoaaDoor
open Go.RowKit
attribute [go_sem] more_more Array.size_append
/-- a trunk's cells -/
def trC (v : Nat → Value) (V : Nat → Int) : Array Value := #[v 0, v 1, v 2, v 3, v 4, v 5, v 6, v 7, v 8, v 9, v 10, v 11, v 12, v 13, v 14, v 15, .int .i64 (V 0), .int .i64 (V 1), .int .i64 (V 2), .int .i64 (V 3), .int .i64 (V 4), .int .i64 (V 5), .int .i64 (V 6), .int .i64 (V 7), .int .i64 (V 8), .int .i64 (V 9), .int .i64 (V 10), .int .i64 (V 11), .int .i64 (V 12), .int .i64 (V 13), .int .i64 (V 14), .int .i64 (V 15)]
theorem trC_leaf (v : Nat → Value) (V : Nat → Int) (k : Nat) (hk : k < 16) : (trC v V)[k]? = some (v k) := by
  match k, hk with
  | 0, _ => rfl
  | 1, _ => rfl
  | 2, _ => rfl
  | 3, _ => rfl
  | 4, _ => rfl
  | 5, _ => rfl
  | 6, _ => rfl
  | 7, _ => rfl
  | 8, _ => rfl
  | 9, _ => rfl
  | 10, _ => rfl
  | 11, _ => rfl
  | 12, _ => rfl
  | 13, _ => rfl
  | 14, _ => rfl
  | 15, _ => rfl
  | k + 16, h => exact absurd h (by omega)
theorem trC_ver (v : Nat → Value) (V : Nat → Int) (k : Nat) (hk : k < 16) : (trC v V)[16 + k]? = some (.int .i64 (V k)) := by
  match k, hk with
  | 0, _ => rfl
  | 1, _ => rfl
  | 2, _ => rfl
  | 3, _ => rfl
  | 4, _ => rfl
  | 5, _ => rfl
  | 6, _ => rfl
  | 7, _ => rfl
  | 8, _ => rfl
  | 9, _ => rfl
  | 10, _ => rfl
  | 11, _ => rfl
  | 12, _ => rfl
  | 13, _ => rfl
  | 14, _ => rfl
  | 15, _ => rfl
  | k + 16, h => exact absurd h (by omega)
theorem idx_leaf (v : Nat → Value) (k : Nat) (hk : k < 16) (W : World) : (Instr.index 37 (.agg #[v 0, v 1, v 2, v 3, v 4, v 5, v 6, v 7, v 8, v 9, v 10, v 11, v 12, v 13, v 14, v 15]) (.int .i64 (k : Int))).run Tryd.prog W = .ok (v k) W := by
  match k, hk with
  | 0, _ => exact (fun W => by kernel_rfl : ∀ W : World, (Instr.index 37 (.agg #[v 0, v 1, v 2, v 3, v 4, v 5, v 6, v 7, v 8, v 9, v 10, v 11, v 12, v 13, v 14, v 15]) (.int .i64 0)).run Tryd.prog W = .ok (v 0) W) W
  | 1, _ => exact (fun W => by kernel_rfl : ∀ W : World, (Instr.index 37 (.agg #[v 0, v 1, v 2, v 3, v 4, v 5, v 6, v 7, v 8, v 9, v 10, v 11, v 12, v 13, v 14, v 15]) (.int .i64 1)).run Tryd.prog W = .ok (v 1) W) W
  | 2, _ => exact (fun W => by kernel_rfl : ∀ W : World, (Instr.index 37 (.agg #[v 0, v 1, v 2, v 3, v 4, v 5, v 6, v 7, v 8, v 9, v 10, v 11, v 12, v 13, v 14, v 15]) (.int .i64 2)).run Tryd.prog W = .ok (v 2) W) W
  | 3, _ => exact (fun W => by kernel_rfl : ∀ W : World, (Instr.index 37 (.agg #[v 0, v 1, v 2, v 3, v 4, v 5, v 6, v 7, v 8, v 9, v 10, v 11, v 12, v 13, v 14, v 15]) (.int .i64 3)).run Tryd.prog W = .ok (v 3) W) W
  | 4, _ => exact (fun W => by kernel_rfl : ∀ W : World, (Instr.index 37 (.agg #[v 0, v 1, v 2, v 3, v 4, v 5, v 6, v 7, v 8, v 9, v 10, v 11, v 12, v 13, v 14, v 15]) (.int .i64 4)).run Tryd.prog W = .ok (v 4) W) W
  | 5, _ => exact (fun W => by kernel_rfl : ∀ W : World, (Instr.index 37 (.agg #[v 0, v 1, v 2, v 3, v 4, v 5, v 6, v 7, v 8, v 9, v 10, v 11, v 12, v 13, v 14, v 15]) (.int .i64 5)).run Tryd.prog W = .ok (v 5) W) W
  | 6, _ => exact (fun W => by kernel_rfl : ∀ W : World, (Instr.index 37 (.agg #[v 0, v 1, v 2, v 3, v 4, v 5, v 6, v 7, v 8, v 9, v 10, v 11, v 12, v 13, v 14, v 15]) (.int .i64 6)).run Tryd.prog W = .ok (v 6) W) W
  | 7, _ => exact (fun W => by kernel_rfl : ∀ W : World, (Instr.index 37 (.agg #[v 0, v 1, v 2, v 3, v 4, v 5, v 6, v 7, v 8, v 9, v 10, v 11, v 12, v 13, v 14, v 15]) (.int .i64 7)).run Tryd.prog W = .ok (v 7) W) W
  | 8, _ => exact (fun W => by kernel_rfl : ∀ W : World, (Instr.index 37 (.agg #[v 0, v 1, v 2, v 3, v 4, v 5, v 6, v 7, v 8, v 9, v 10, v 11, v 12, v 13, v 14, v 15]) (.int .i64 8)).run Tryd.prog W = .ok (v 8) W) W
  | 9, _ => exact (fun W => by kernel_rfl : ∀ W : World, (Instr.index 37 (.agg #[v 0, v 1, v 2, v 3, v 4, v 5, v 6, v 7, v 8, v 9, v 10, v 11, v 12, v 13, v 14, v 15]) (.int .i64 9)).run Tryd.prog W = .ok (v 9) W) W
  | 10, _ => exact (fun W => by kernel_rfl : ∀ W : World, (Instr.index 37 (.agg #[v 0, v 1, v 2, v 3, v 4, v 5, v 6, v 7, v 8, v 9, v 10, v 11, v 12, v 13, v 14, v 15]) (.int .i64 10)).run Tryd.prog W = .ok (v 10) W) W
  | 11, _ => exact (fun W => by kernel_rfl : ∀ W : World, (Instr.index 37 (.agg #[v 0, v 1, v 2, v 3, v 4, v 5, v 6, v 7, v 8, v 9, v 10, v 11, v 12, v 13, v 14, v 15]) (.int .i64 11)).run Tryd.prog W = .ok (v 11) W) W
  | 12, _ => exact (fun W => by kernel_rfl : ∀ W : World, (Instr.index 37 (.agg #[v 0, v 1, v 2, v 3, v 4, v 5, v 6, v 7, v 8, v 9, v 10, v 11, v 12, v 13, v 14, v 15]) (.int .i64 12)).run Tryd.prog W = .ok (v 12) W) W
  | 13, _ => exact (fun W => by kernel_rfl : ∀ W : World, (Instr.index 37 (.agg #[v 0, v 1, v 2, v 3, v 4, v 5, v 6, v 7, v 8, v 9, v 10, v 11, v 12, v 13, v 14, v 15]) (.int .i64 13)).run Tryd.prog W = .ok (v 13) W) W
  | 14, _ => exact (fun W => by kernel_rfl : ∀ W : World, (Instr.index 37 (.agg #[v 0, v 1, v 2, v 3, v 4, v 5, v 6, v 7, v 8, v 9, v 10, v 11, v 12, v 13, v 14, v 15]) (.int .i64 14)).run Tryd.prog W = .ok (v 14) W) W
  | 15, _ => exact (fun W => by kernel_rfl : ∀ W : World, (Instr.index 37 (.agg #[v 0, v 1, v 2, v 3, v 4, v 5, v 6, v 7, v 8, v 9, v 10, v 11, v 12, v 13, v 14, v 15]) (.int .i64 15)).run Tryd.prog W = .ok (v 15) W) W
  | k + 16, h => exact absurd h (by omega)
/-- a trunk's block -/
def TrBlk (w : World) (N : Nat) (v : Nat → Value) (V : Nat → Int) : Prop := w.heap[N]? = some (.cells (trC v V) 40 (0, 0))
theorem TrBlk.ext {w w' : World} {N : Nat} {v : Nat → Value} {V : Nat → Int} (h : TrBlk w N v V) (hx : Ext w w') : TrBlk w' N v V := by
  unfold TrBlk at h ⊢
  rw [hx.below.block N (lt_of_heap h)]; exact h
theorem TrBlk.leaf {w : World} {N : Nat} {v : Nat → Value} {V : Nat → Int} (h : TrBlk w N v V) (k : Nat) (hk : k < 16) : w.cell? ⟨N, k, none⟩ = some (v k) := by
  unfold TrBlk at h
  simp only [World.cell?, h]
  exact trC_leaf v V k hk
theorem TrBlk.ver {w : World} {N : Nat} {v : Nat → Value} {V : Nat → Int} (h : TrBlk w N v V) (k : Nat) (hk : k < 16) : w.cell? ⟨N, 16 + k, none⟩ = some (.int .i64 (V k)) := by
  unfold TrBlk at h
  simp only [World.cell?, h]
  exact trC_ver v V k hk
/-- the leaves of a trunk -/
def LvsAt (w : World) (bs : Nat → Nat) (v : Nat → Value) (T : Nat → List It) : Prop := ∀ k, k < 16 → LfAt w (bs k) (v k) (T k)
theorem LvsAt.ext {w w' : World} {bs : Nat → Nat} {v : Nat → Value} {T : Nat → List It} (h : LvsAt w bs v T) (hx : Ext w w') : LvsAt w' bs v T := fun k hk => (h k hk).ext hx
theorem fits_leaf {b : Int} {l : List It} {ver : Int} (h : leafB l = false) : fitsB b l ver = false := by unfold fitsB; simp [h]
theorem fits_neg {b : Int} {l : List It} {ver : Int} (h : decide (0 ≤ ver) = false) : fitsB b l ver = false := by unfold fitsB; rw [h]; simp
theorem fits_big {b : Int} {l : List It} {ver : Int} (h : decide (ver ≤ 2147483647) = false) : fitsB b l ver = false := by unfold fitsB; rw [h]; simp
def okI (b ver : Int) (x : It) : Bool := bucketF x.k == b && decide (x.ver ≤ ver)
theorem fits_item {b : Int} {l : List It} {ver : Int} {k : Nat} {x : It} (hx : l[k]? = some x) (h : okI b ver x = false) : fitsB b l ver = false := by
  have : (l.all fun x => bucketF x.k == b && decide (x.ver ≤ ver)) = false := by
    rw [Bool.eq_false_iff]
    intro q
    have := List.all_eq_true.1 q x (List.mem_of_getElem? hx)
    unfold okI at h
    rw [h] at this; cases this
  unfold fitsB; rw [this]; simp
theorem fits_yes {b : Int} {l : List It} {ver : Int} (h1 : leafB l = true) (h2 : decide (0 ≤ ver) = true) (h3 : decide (ver ≤ 2147483647) = true) (h4 : ∀ k x, k < l.length → l[k]? = some x → okI b ver x = true) : fitsB b l ver = true := by
  have : (l.all fun x => bucketF x.k == b && decide (x.ver ≤ ver)) = true := by
    rw [List.all_eq_true]
    intro x hx
    obtain ⟨k, hk⟩ := List.getElem?_of_mem hx
    exact h4 k x (List.getElem?_eq_some_iff.1 hk).1 hk
  unfold fitsB; rw [h1, h2, h3, this]; rfl
set_option maxHeartbeats 4000000 in
theorem mayleaf_any (b : Nat) (bk : Int) (v : Value) (l : List It) (ver : Int) (B : Nat) (w : World) (hS : SignsAt B w) (hB : B ≤ w.heap.size) (h : LfAt w b v l) :
    Calls Tryd.prog 20 #[.int .i64 bk, v, .int .i64 ver] w fun e w' => e = .returned (.bool (fitsB bk l ver)) ∧ Ext w w' := by
  have LC := Lib.hid (lcheck_any b v l B w hS hB h)
  obtain ⟨ho, p, cap, rfl, hcap, hp⟩ := h
  obtain ⟨n, hn⟩ : ∃ n, l.length = n := ⟨_, rfl⟩
  rw [hn] at hcap hp LC ⊢
  have HN := Lib.hid hn
  have HO := Lib.hid ho
  have HP := Lib.hid hp
  have HS := Lib.hid hS
  clear hp ho hn hS
  obtain ⟨lf, hlf⟩ : ∃ lf, leafF l = lf := ⟨_, rfl⟩
  obtain ⟨e1, p1⟩ := lf
  rw [hlf] at LC
  dsimp only at LC
  have hlb : leafB l = (e1 == 0) := by unfold leafB; rw [hlf]
  have HLB := Lib.hid hlb
  clear hlf hlb
  by_cases q1 : e1 = 0
  case neg =>
    rw [fits_leaf (by rw [HLB.out]; simpa using q1)]
    have q1' : (e1 != 0) = true := by simpa using q1
    clear q1
    go_enter Tryd.func20, Tryd.ntmps20
    go_wp2_with (go_at_call 21; refine (LC.out).mono ?_; rintro e _ ⟨rfl, d1, os1, rfl⟩)
    go_ret
    exact ⟨rfl, (by repeat (first | exact Ext.refl _ | apply Ext.alloc | apply Ext.more | apply Ext.drewN))⟩
  subst q1
  cases h2 : decide (0 ≤ ver) with
  | false =>
    rw [fits_neg h2]
    have h2' : ver < 0 := by have := of_decide_eq_false h2; omega
    go_enter Tryd.func20, Tryd.ntmps20
    go_wp2_with (go_at_call 21; refine (LC.out).mono ?_; rintro e _ ⟨rfl, d1, os1, rfl⟩)
    go_ret
    exact ⟨rfl, (by repeat (first | exact Ext.refl _ | apply Ext.alloc | apply Ext.more | apply Ext.drewN))⟩
  | true =>
    have h2' : ¬ ver < 0 := by have := of_decide_eq_true h2; omega
    cases h3 : decide (ver ≤ 2147483647) with
    | false =>
      rw [fits_big h3]
      have h3' : (2147483647 < ver) = True := eq_true (by have := of_decide_eq_false h3; omega)
      clear h3
      go_enter Tryd.func20, Tryd.ntmps20
      go_wp2_with (go_at_call 21; refine (LC.out).mono ?_; rintro e _ ⟨rfl, d1, os1, rfl⟩)
      go_ret
      exact ⟨rfl, (by repeat (first | exact Ext.refl _ | apply Ext.alloc | apply Ext.more | apply Ext.drewN))⟩
    | true =>
      have h3' : (2147483647 < ver) = False := eq_false (by have := of_decide_eq_true h3; omega)
      have H2 := Lib.hid h2
      have H3 := Lib.hid h3
      have hl64 := (leafB_may (show leafB l = true by rw [HLB.out]; rfl)).1
      rw [HN.out] at hl64
      have hn64 : (n : Int) ≤ 64 := by omega
      clear h2 h3 hl64
      obtain ⟨r, hr⟩ : ∃ r, fitsB bk l ver = r := ⟨_, rfl⟩
      rw [hr]
      have HR := Lib.hid hr
      clear hr
      go_enter Tryd.func20, Tryd.ntmps20
      go_wp2_with (go_at_call 21; refine (LC.out).mono ?_; rintro e _ ⟨rfl, d1, os1, rfl⟩)
      go_loopw [28] (fun ii wr => ∃ k : Nat, ii = .int .i64 (k : Int) ∧ k ≤ n ∧ Hid (∀ j x, j < k → l[j]? = some x → okI bk ver x = true) ∧ Ext w wr) (fun ii _ => n - (intOf ii).toNat)
      case atStart => exact ⟨0, rfl, Nat.zero_le _, Lib.hid (fun j x h => absurd h (Nat.not_lt_zero j)), (by repeat (first | exact Ext.refl _ | apply Ext.alloc | apply Ext.more | apply Ext.drewN))⟩
      case round =>
        obtain ⟨k, rfl, hk, hall, d, os, rfl⟩ := hrel
        by_cases hkl : k < n
        · obtain ⟨x, hx⟩ := get_at HN.out hkl
          obtain ⟨off, rfl, hits⟩ := HP.out (by omega)
          obtain ⟨c0, c1, c2, c3, c4⟩ := hits k x hx
          have hbs : b < w.heap.size := hits.lt (by have := HN.out; omega)
          have HOX := Lib.hid (HO.out x (List.mem_of_getElem? hx))
          have HX := Lib.hid hx
          clear hx hits
          obtain ⟨bx, hbx⟩ : ∃ bx, bucketF x.k = bx := ⟨_, rfl⟩
          have HBK := Lib.hid hbx
          cases hq : (bx == bk) with
          | false =>
            have hq' : (bx != bk) = true := by simpa using hq
            have hre : r = false := by rw [← HR.out]; exact fits_item HX.out (show okI bk ver x = false by unfold okI; rw [HBK.out, hq]; rfl)
            subst hre
            clear hbx hq
            go_wp2_with (go_at_call 29; refine (bucket_any _ (small_max HOX.out.k) B _ (HS.out.ext (by repeat (first | exact Ext.refl _ | apply Ext.alloc | apply Ext.more | apply Ext.drewN)) hB) (Nat.le_trans hB (Ext.size (by repeat (first | exact Ext.refl _ | apply Ext.alloc | apply Ext.more | apply Ext.drewN))))).mono ?_; rw [HBK.out]; rintro e _ ⟨rfl, d2, os2, rfl⟩)
            go_ret
            exact ⟨rfl, (by repeat (first | exact Ext.refl _ | apply Ext.alloc | apply Ext.more | apply Ext.drewN))⟩
          | true =>
            have hq' : (bx != bk) = false := by simpa using hq
            have HQ := Lib.hid hq
            clear hq
            by_cases hv : x.ver ≤ ver
            · have hv' : ¬ ver < x.ver := by omega
              have HOKX : Hid (okI bk ver x = true) := Lib.hid (by unfold okI; rw [HBK.out, HQ.out, decide_eq_true hv]; rfl)
              clear hbx hv
              go_wp2_with (go_at_call 29; refine (bucket_any _ (small_max HOX.out.k) B _ (HS.out.ext (by repeat (first | exact Ext.refl _ | apply Ext.alloc | apply Ext.more | apply Ext.drewN)) hB) (Nat.le_trans hB (Ext.size (by repeat (first | exact Ext.refl _ | apply Ext.alloc | apply Ext.more | apply Ext.drewN))))).mono ?_; rw [HBK.out]; rintro e _ ⟨rfl, d2, os2, rfl⟩)
              go_roundw
              case rel => exact ⟨k + 1, by go_num, by omega, Lib.hid (fun j y hj hy => by
                by_cases hjk : j < k
                · exact hall.out j y hjk hy
                · have : j = k := by omega
                  subst this
                  rw [HX.out] at hy
                  obtain rfl := Option.some.inj hy
                  exact HOKX.out), (by repeat (first | exact Ext.refl _ | apply Ext.alloc | apply Ext.more | apply Ext.drewN))⟩
              case measure => simp [intOf]; omega
            · have hv' : ver < x.ver := by omega
              have hre : r = false := by rw [← HR.out]; exact fits_item HX.out (show okI bk ver x = false by unfold okI; rw [HBK.out, HQ.out, decide_eq_false hv]; rfl)
              subst hre
              clear hbx hv
              go_wp2_with (go_at_call 29; refine (bucket_any _ (small_max HOX.out.k) B _ (HS.out.ext (by repeat (first | exact Ext.refl _ | apply Ext.alloc | apply Ext.more | apply Ext.drewN)) hB) (Nat.le_trans hB (Ext.size (by repeat (first | exact Ext.refl _ | apply Ext.alloc | apply Ext.more | apply Ext.drewN))))).mono ?_; rw [HBK.out]; rintro e _ ⟨rfl, d2, os2, rfl⟩)
              go_ret
              exact ⟨rfl, (by repeat (first | exact Ext.refl _ | apply Ext.alloc | apply Ext.more | apply Ext.drewN))⟩
        have hkn : k = n := by omega
        have hre : r = true := by rw [← HR.out]; exact fits_yes (show leafB l = true by rw [HLB.out]; rfl) H2.out H3.out (fun j x hj hx => hall.out j x (by have := HN.out; omega) hx)
        subst hre
        go_wp2_with fail
        go_ret
        exact ⟨rfl, (by repeat (first | exact Ext.refl _ | apply Ext.alloc | apply Ext.more | apply Ext.drewN))⟩
theorem trunk_no {T : Nat → List It} {V : Nat → Int} {k : Nat} (hk : k < 16) (h : fitsB (k : Int) (T k) (V k) = false) : trunkB T V = false := by
  unfold trunkB
  rw [Bool.eq_false_iff]
  intro q
  have := List.all_eq_true.1 q k (List.mem_range.2 hk)
  rw [h] at this; cases this
theorem trunk_yes {T : Nat → List It} {V : Nat → Int} (h : ∀ j : Nat, j < 16 → fitsB (j : Int) (T j) (V j) = true) : trunkB T V = true := by
  unfold trunkB
  exact List.all_eq_true.2 fun j hj => h j (List.mem_range.1 hj)
set_option maxHeartbeats 4000000 in
theorem tmay_any (bs : Nat → Nat) (v : Nat → Value) (T : Nat → List It) (V : Nat → Int) (B : Nat) (w : World) (hS : SignsAt B w) (hB : B ≤ w.heap.size) (h : LvsAt w bs v T) :
    Calls Tryd.prog 11 #[.agg (trC v V)] w fun e w' => e = .returned (.bool (trunkB T V)) ∧ Ext w w' := by
  have HL := Lib.hid h
  have HS := Lib.hid hS
  clear hS
  obtain ⟨r, hr⟩ : ∃ r, trunkB T V = r := ⟨_, rfl⟩
  rw [hr]
  have HR := Lib.hid hr
  clear h hr
  unfold trC
  go_enter Tryd.func11, Tryd.ntmps11
  go_wp2_with fail
  obtain ⟨N, hN⟩ : ∃ N, w.heap.size = N := ⟨_, rfl⟩
  go_loopw [7] (fun ii wr => ∃ k : Nat, ii = .int .i64 (k : Int) ∧ k ≤ 16 ∧ Hid (∀ j : Nat, j < k → fitsB (j : Int) (T j) (V j) = true) ∧ Hid (TrBlk wr N v V) ∧ Ext w wr) (fun ii _ => 16 - (intOf ii).toNat)
  case atStart => exact ⟨0, rfl, Nat.zero_le _, Lib.hid (fun j h => absurd h (Nat.not_lt_zero j)), Lib.hid (by unfold TrBlk; rw [← hN]; exact heap_alloc_new w _), (Ext.refl _).alloc _⟩
  case round =>
    obtain ⟨k, rfl, hk16, hall, hblk, hext⟩ := hrel
    have HEX := Lib.hid hext
    clear hext
    by_cases hk : k < 16
    · have FC := Lib.hid fun (W : World) (hx : Ext w W) => mayleaf_any (bs k) (k : Int) (v k) (T k) (V k) B W (HS.out.ext hx hB) (Nat.le_trans hB hx.size) ((HL.out k hk).ext hx)
      have hcv := hblk.out.ver k hk
      have hcl := hblk.out.leaf k hk
      have hNw : N < wr.heap.size := lt_of_heap hblk.out
      have hix := fun W => idx_leaf v k hk W
      have hkI : (k : Int) < 16 := by omega
      have hk0 : (0 : Int) ≤ (k : Int) := by omega
      rw [hN]
      cases hf : fitsB (k : Int) (T k) (V k) with
      | false =>
        have HF := Lib.hid hf
        have hre : r = false := by rw [← HR.out]; exact trunk_no hk hf
        subst hre
        clear hf
        go_wp2_with (go_at_call 20; refine (FC.out _ (by repeat (first | exact HEX.out | apply Ext.alloc | apply Ext.more | apply Ext.drewN))).mono ?_; rw [HF.out]; rintro e _ ⟨rfl, d2, os2, rfl⟩)
        go_ret
        exact ⟨rfl, (by repeat (first | exact HEX.out | apply Ext.alloc | apply Ext.more | apply Ext.drewN))⟩
      | true =>
        have HF := Lib.hid hf
        clear hf
        go_wp2_with (go_at_call 20; refine (FC.out _ (by repeat (first | exact HEX.out | apply Ext.alloc | apply Ext.more | apply Ext.drewN))).mono ?_; rw [HF.out]; rintro e _ ⟨rfl, d2, os2, rfl⟩)
        go_roundw
        case rel =>
          refine ⟨k + 1, by go_num, by omega, Lib.hid (fun j hj => ?_), Lib.hid (hblk.out.ext (by repeat (first | exact Ext.refl _ | apply Ext.alloc | apply Ext.more | apply Ext.drewN))), (by repeat (first | exact HEX.out | apply Ext.alloc | apply Ext.more | apply Ext.drewN))⟩
          by_cases hjk : j < k
          · exact hall.out j hjk
          · have : j = k := by omega
            subst this; exact HF.out
        case measure => simp [intOf]; omega
    have hkn : k = 16 := by omega
    subst hkn
    have hre : r = true := by rw [← HR.out]; exact trunk_yes hall.out
    subst hre
    go_wp2_with fail
    go_ret
    exact ⟨rfl, (by repeat (first | exact HEX.out | apply Ext.alloc | apply Ext.more | apply Ext.drewN))⟩
end Go.Proofs.YtpchohjkelopoaaDoor

set_option maxRecDepth 20000
namespace Go.Proofs.YtpchohjkelopoaaDoor
open Go.RowKit
attribute [go_sem] more_more Array.size_append
set_option maxHeartbeats 2000000 in
theorem lsame_any (b b' : Nat) (v v' : Value) (l : List It) (w : World) (h : LfAt w b v l) (h' : LfAt w b' v' l) (hlen : l.length ≤ 9223372036854775807) :
    Calls Tryd.prog 19 #[v, v'] w fun e w' => e = .returned (.bool true) ∧ Ext w w' := by
  obtain ⟨ho, p, cap, rfl, hcap, hp⟩ := h
  obtain ⟨_, p', cap', rfl, hcap', hp'⟩ := h'
  obtain ⟨n, hn⟩ : ∃ n, l.length = n := ⟨_, rfl⟩
  rw [hn] at hp hp' hcap hcap' hlen ⊢
  have hnI : (n : Int) ≤ 9223372036854775807 := by omega
  have HN := Lib.hid hn
  have HP := Lib.hid hp
  have HP' := Lib.hid hp'
  clear hp hp' hn ho
  go_enter Tryd.func19, Tryd.ntmps19
  go_wp2_with fail
  go_loopw [5] (fun ii wr => ∃ k : Nat, ii = .int .i64 (k : Int) ∧ k ≤ n ∧ Ext w wr) (fun ii _ => n - (intOf ii).toNat)
  case atStart => exact ⟨0, rfl, Nat.zero_le _, Ext.refl _⟩
  case round =>
    obtain ⟨k, rfl, hk, hext⟩ := hrel
    have HEX := Lib.hid hext
    clear hext
    by_cases hlt : k < n
    · obtain ⟨x, hx⟩ := get_at HN.out hlt
      obtain ⟨off, rfl, hi⟩ := HP.out (by omega)
      obtain ⟨off', rfl, hi'⟩ := HP'.out (by omega)
      obtain ⟨a0, a1, a2, a3, a4⟩ := (hi.ext HEX.out) k x hx
      obtain ⟨b0, b1, b2, b3, b4⟩ := (hi'.ext HEX.out) k x hx
      have hg := World.block_lt_of_cell? _ _ a0
      have hg' := World.block_lt_of_cell? _ _ b0
      have hkI : (k : Int) < (n : Int) := by omega
      have hk0 : (0 : Int) ≤ (k : Int) := by omega
      have HLT := Lib.hid hlt
      obtain ⟨xk, xvk, xvi, xvs, xver⟩ := x
      dsimp only at a0 a1 a2 a3 a4 b0 b1 b2 b3 b4 hg hg'
      clear hx hlt hi hi'
      go_wp2_with fail
      refine wp_region_grow 8 26 [false, false, false, false, false, false, false, false] (by kernel_rfl) (by kernel_rfl) rfl ?_
      simp only [List.take_succ_cons, List.take_zero, List.drop_succ_cons, List.drop_zero]
      repeat (refine Lex.step rfl ?_; intro K hK; unfold StepG; go_simp; (first
          | refine hK _ ?_); clear hK K)
      refine Lex.nil fun WW hE => ?_
      obtain ⟨dd, oo, rfl⟩ := hE
      unfold FillH
      go_wp2_with fail
      rw [ends_normal]
      go_wp2_with fail
      go_roundw
      case rel => exact ⟨k + 1, by go_num, by have := HLT.out; omega, by repeat (first | exact HEX.out | apply Ext.alloc | apply Ext.more | apply Ext.drewN)⟩
      case measure => have := HLT.out; simp [intOf]; omega
    · have hje : k = n := by omega
      subst hje
      clear hlt
      go_wp2_with fail
      go_ret
      exact ⟨rfl, HEX.out⟩
set_option maxHeartbeats 4000000 in
theorem tsame_any (bs bs' : Nat → Nat) (v v' : Nat → Value) (T : Nat → List It) (V : Nat → Int) (w : World) (h : LvsAt w bs v T) (h' : LvsAt w bs' v' T) (hlen : ∀ k, k < 16 → (T k).length ≤ 9223372036854775807) :
    Calls Tryd.prog 10 #[.agg (trC v V), .agg (trC v' V)] w fun e w' => e = .returned (.bool true) ∧ Ext w w' := by
  have HL := Lib.hid h
  have HL' := Lib.hid h'
  have HLEN := Lib.hid hlen
  clear h h' hlen
  unfold trC
  go_enter Tryd.func10, Tryd.ntmps10
  go_wp2_with fail
  obtain ⟨N, hN⟩ : ∃ N, w.heap.size = N := ⟨_, rfl⟩
  go_loopw [5] (fun ii wr => ∃ k : Nat, ii = .int .i64 (k : Int) ∧ k ≤ 16 ∧ Hid (TrBlk wr N v V) ∧ Hid (TrBlk wr (N + 1) v' V) ∧ Ext w wr) (fun ii _ => 16 - (intOf ii).toNat)
  case atStart =>
    refine ⟨0, rfl, Nat.zero_le _, Lib.hid ?_, Lib.hid ?_, ((Ext.refl _).alloc _).alloc _⟩
    · unfold TrBlk
      rw [← hN]
      exact (heap_alloc_old _ _ (by simp)).trans (heap_alloc_new w _)
    · unfold TrBlk
      rw [← hN]
      have := heap_alloc_new (w.alloc (.cells (trC v V) 40)) (.cells (trC v' V) 40)
      rw [World.size_alloc] at this
      exact this
  case round =>
    obtain ⟨k, rfl, hk16, hblk, hblk', hext⟩ := hrel
    have HEX := Lib.hid hext
    clear hext
    by_cases hk : k < 16
    · have FC := Lib.hid fun (W : World) (hx : Ext w W) => lsame_any (bs k) (bs' k) (v k) (v' k) (T k) W ((HL.out k hk).ext hx) ((HL'.out k hk).ext hx) (HLEN.out k hk)
      have hcv := hblk.out.ver k hk
      have hcl := hblk.out.leaf k hk
      have hcv' := hblk'.out.ver k hk
      have hcl' := hblk'.out.leaf k hk
      have hNw : N < wr.heap.size := lt_of_heap hblk.out
      have hNw' : N + 1 < wr.heap.size := lt_of_heap hblk'.out
      have hkI : (k : Int) < 16 := by omega
      have hk0 : (0 : Int) ≤ (k : Int) := by omega
      rw [hN]
      go_wp2_with fail
      refine wp_region_grow 18 31 [false, false, false, false, false, false, false, false, false, false, false, false, false, false, false, false, false, false] (by kernel_rfl) (by kernel_rfl) rfl ?_
      simp only [List.take_succ_cons, List.take_zero, List.drop_succ_cons, List.drop_zero]
      repeat (refine Lex.step rfl ?_; intro K hK; unfold StepG; go_simp; (first
          | refine hK _ ?_); clear hK K)
      refine Lex.nil fun WW hE => ?_
      obtain ⟨dd, oo, rfl⟩ := hE
      unfold FillH
      go_wp2_with (go_at_call 19; refine (FC.out _ (by repeat (first | exact HEX.out | apply Ext.alloc | apply Ext.more | apply Ext.drewN))).mono ?_; rintro e _ ⟨rfl, d2, os2, rfl⟩)
      rw [ends_normal]
      go_wp2_with fail
      go_roundw
      case rel =>
        exact ⟨k + 1, by go_num, by omega, Lib.hid (hblk.out.ext (by repeat (first | exact Ext.refl _ | apply Ext.alloc | apply Ext.more | apply Ext.drewN))), Lib.hid (hblk'.out.ext (by repeat (first | exact Ext.refl _ | apply Ext.alloc | apply Ext.more | apply Ext.drewN))), (by repeat (first | exact HEX.out | apply Ext.alloc | apply Ext.more | apply Ext.drewN))⟩
      case measure => simp [intOf]; omega
    have hkn : k = 16 := by omega
    subst hkn
    go_wp2_with fail
    go_ret
    exact ⟨rfl, HEX.out⟩
end Go.Proofs.YtpchohjkelopoaaDoor
