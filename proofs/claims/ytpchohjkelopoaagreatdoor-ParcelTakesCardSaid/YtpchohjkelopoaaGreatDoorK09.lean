/- Lemmas for the claim (texts LfA, Pw1, what its proof uses of them). -/
import Derived.Test.YtpchohjkelopoaaGreatDoorK08
set_option linter.unusedSimpArgs false
set_option linter.unusedVariables false
set_option maxRecDepth 20000
namespace Go.Proofs.YtpchohjkelopoaaGreatDoor
open Go.RowKit
attribute [go_sem] more_more Array.size_append
theorem itemF_bad (a b : Int) (l : List UInt8) : (itemF a l).2 = (itemF b l).2 ∧ (itemF a l = itemF b l ∨ ((itemF a l).1.ver = a ∧ (itemF b l).1.ver = b)) := by
  unfold itemF
  (repeat' split) <;> first | exact ⟨rfl, Or.inl rfl⟩ | exact ⟨rfl, Or.inr ⟨rfl, rfl⟩⟩
theorem mayI_bad {x : It} (h : x.ver = 2147483648 ∨ x.ver = -1) : mayI x = false := by
  unfold mayI
  rcases h with h | h <;> simp [h]
theorem itemsF_bad : ∀ (n : Nat) (l : List UInt8), (itemsF 2147483648 n l).2 = (itemsF (-1) n l).2 ∧ (itemsF 2147483648 n l).1.length = (itemsF (-1) n l).1.length ∧ (itemsF 2147483648 n l = itemsF (-1) n l ∨ ((itemsF 2147483648 n l).1.all mayI = false ∧ (itemsF (-1) n l).1.all mayI = false))
  | 0, l => ⟨rfl, rfl, Or.inl rfl⟩
  | n + 1, l => by
    obtain ⟨h1, h2⟩ := itemF_bad 2147483648 (-1) l
    obtain ⟨i1, i2, i3⟩ := itemsF_bad n (l.drop (itemF (-1) l).2.1)
    unfold itemsF
    rw [h1]
    split
    · exact ⟨rfl, rfl, Or.inl rfl⟩
    · rw [i1]
      split
      · exact ⟨rfl, rfl, Or.inl rfl⟩
      · refine ⟨rfl, by simp [i2], ?_⟩
        rcases h2 with h2 | ⟨h2, h3⟩
        · rcases i3 with i3 | ⟨i3, i4⟩
          · left; rw [h2, i3]
          · right; simp [i3, i4]
        · right
          simp [mayI_bad (Or.inl h2), mayI_bad (Or.inr h3)]
theorem cutF_bad (l : List UInt8) : cutF 2147483648 l = cutF (-1) l := by
  cases l with
  | nil => rfl
  | cons c t =>
    obtain ⟨i1, i2, i3⟩ := itemsF_bad c.toNat t
    rw [cutF_items rfl, cutF_items rfl]
    rcases i3 with i3 | ⟨i3, i4⟩
    · rw [i3]
    · rw [i1]
      split
      · rfl
      · first | rfl | rw [if_pos i3, if_pos i4]
theorem itemsF_len (bad : Int) : ∀ (n : Nat) (l : List UInt8), (itemsF bad n l).2.2 = 0 → (itemsF bad n l).1.length = n
  | 0, l, _ => rfl
  | n + 1, l, h => by
    unfold itemsF at h ⊢
    split at h
    · next h1 => exact absurd h h1
    · next h1 =>
      rw [if_neg h1]
      split at h
      · next h2 => exact absurd h h2
      · next h2 =>
        rw [if_neg h2]
        simp only [List.length_cons]
        rw [itemsF_len bad n _ (by simpa using h2)]
theorem cutF_ok {bad : Int} {l : List UInt8} (h : (cutF bad l).2 = 0) : ∃ c t, l = c :: t ∧ (cutF bad l).1.length = c.toNat ∧ (cutF bad l).1.length ≤ 8 := by
  cases l with
  | nil => simp [cutF] at h
  | cons c t =>
    refine ⟨c, t, rfl, ?_⟩
    rw [cutF_items rfl] at h ⊢
    split at h
    · next h1 => exact absurd h h1
    · next h1 =>
      rw [if_neg h1]
      split at h
      · simp at h
      · next h2 =>
        rw [if_neg h2]
        split at h
        · simp at h
        · next h3 =>
          rw [if_neg h3]
          split at h
          · simp at h
          · next h4 =>
            rw [if_neg h4]
            split at h
            · simp at h
            · next h5 =>
              rw [if_neg h5]
              exact ⟨itemsF_len bad _ _ (by simpa using h1), by dsimp only; omega⟩
theorem cutAll_err : ∀ (L : List (List UInt8)) (a i : Nat) (c : List UInt8), L[i]? = some c → (∀ j d, j < i → L[j]? = some d → (cutF (-1) d).2 = 0) → (cutF (-1) c).2 ≠ 0 → cutAll a L = ([], (cutF (-1) c).2, ((a + i : Nat) : Int))
  | [], _, _, _, h, _, _ => by simp at h
  | d :: L, a, 0, c, h, _, he => by
    simp at h; subst h
    unfold cutAll
    rw [if_pos he]; rfl
  | d :: L, a, i + 1, c, h, ho, he => by
    have h0 := ho 0 d (Nat.succ_pos i) rfl
    have ih := cutAll_err L (a + 1) i c (by simpa using h) (fun j d hj hd => ho (j + 1) d (by omega) (by simpa using hd)) he
    unfold cutAll
    rw [if_neg (by simpa using h0), ih]
    simp only [ne_eq, he, not_false_eq_true, if_true]
    rw [show a + 1 + i = a + (i + 1) by omega]
theorem cutAll_ok : ∀ (L : List (List UInt8)) (a : Nat), (∀ (j : Nat) d, L[j]? = some d → (cutF (-1) d).2 = 0) → (cutAll a L).2 = (0, 0)
  | [], _, _ => rfl
  | d :: L, a, ho => by
    have ih := cutAll_ok L (a + 1) (fun j d hd => ho (j + 1) d (by simpa using hd))
    unfold cutAll
    rw [if_neg (by simpa using ho 0 d rfl), ih]
    simp
/-- the first list that is short, and not the last; -1: there is none -/
def shN (g : Nat → Nat) (n : Nat) : Nat → Int
  | 0 => -1
  | i + 1 => if shN g n i < 0 ∧ g i < 8 ∧ i + 1 < n then (i : Int) else shN g n i
theorem shN_bd (g : Nat → Nat) (n : Nat) : ∀ i, -1 ≤ shN g n i ∧ shN g n i ≤ i
  | 0 => by simp [shN]
  | i + 1 => by
    have := shN_bd g n i
    unfold shN
    split <;> omega
theorem shN_none (g : Nat → Nat) (n : Nat) (h : ∀ j, j + 1 < n → ¬ g j < 8) : ∀ i, shN g n i = -1
  | 0 => rfl
  | i + 1 => by
    unfold shN
    rw [if_neg (fun q => h i q.2.2 q.2.1)]
    exact shN_none g n h i
theorem shN_keep (g : Nat → Nat) (n i : Nat) (h : 0 ≤ shN g n i) : ∀ k, shN g n (i + k) = shN g n i
  | 0 => rfl
  | k + 1 => by
    have ih := shN_keep g n i h k
    show (if shN g n (i + k) < 0 ∧ g (i + k) < 8 ∧ i + k + 1 < n then ((i + k : Nat) : Int) else shN g n (i + k)) = _
    rw [ih, if_neg (by omega)]
theorem shN_at (g : Nat → Nat) (n i : Nat) (hi : i + 1 < n) (hg : g i < 8) (h : ∀ j, j < i → ¬ g j < 8) : shN g n n = (i : Int) := by
  have e1 : ∀ k, k ≤ i → shN g n k = -1 := by
    intro k
    induction k with
    | zero => intro _; rfl
    | succ k ih =>
      intro hk
      unfold shN
      rw [if_neg (fun q => h k (by omega) q.2.1)]
      exact ih (by omega)
  have e2 : shN g n (i + 1) = (i : Int) := by
    unfold shN
    rw [e1 i (Nat.le_refl _), if_pos ⟨by omega, hg, hi⟩]
  have := shN_keep g n (i + 1) (by rw [e2]; omega) (n - (i + 1))
  rw [show i + 1 + (n - (i + 1)) = n by omega, e2] at this
  exact this
def lenAt (L : List (List UInt8)) (j : Nat) : Nat := match L[j]? with | some c => (cutF (-1) c).1.length | none => 0
theorem lenAt_some {L : List (List UInt8)} {j : Nat} {c : List UInt8} (h : L[j]? = some c) : lenAt L j = (cutF (-1) c).1.length := by unfold lenAt; rw [h]
def itsOf (L : List (List UInt8)) : List It := L.flatMap fun c => (cutF (-1) c).1
theorem itsOf_snoc {L : List (List UInt8)} {j : Nat} {c : List UInt8} (h : L[j]? = some c) : itsOf (L.take (j + 1)) = itsOf (L.take j) ++ (cutF (-1) c).1 := by
  unfold itsOf
  rw [List.take_add_one, h]; simp
/-- the leaf of chunks: the items, the error, and where -/
def leafOfF (L : List (List UInt8)) : List It × Int × Int :=
  if (cutAll 0 L).2.1 ≠ 0 then ([], (cutAll 0 L).2)
  else if 0 ≤ shN (lenAt L) L.length L.length then ([], 3, shN (lenAt L) L.length L.length)
  else if (leafF (itsOf L)).1 ≠ 0 then ([], (leafF (itsOf L)).1, (L.length : Int)) else (itsOf L, 0, 0)
theorem leafOfF_err {L : List (List UInt8)} {i : Nat} {c : List UInt8} (h : L[i]? = some c) (ho : ∀ j d, j < i → L[j]? = some d → (cutF (-1) d).2 = 0) (he : (cutF (-1) c).2 ≠ 0) : leafOfF L = ([], (cutF (-1) c).2, (i : Int)) := by
  unfold leafOfF
  rw [cutAll_err L 0 i c h ho he, if_pos he]
  simp
theorem leafOfF_ok {L : List (List UInt8)} {n : Nat} (hn : L.length = n) (ho : ∀ j d, j < n → L[j]? = some d → (cutF (-1) d).2 = 0) : leafOfF L = if 0 ≤ shN (lenAt L) n n then ([], 3, shN (lenAt L) n n) else if (leafF (itsOf L)).1 ≠ 0 then ([], (leafF (itsOf L)).1, (n : Int)) else (itsOf L, 0, 0) := by
  unfold leafOfF
  rw [cutAll_ok L 0 (fun j d hd => ho j d (by have := (List.getElem?_eq_some_iff.1 hd).1; omega) hd), hn]
  simp
theorem itsOf_len : ∀ (L : List (List UInt8)), (∀ c ∈ L, (cutF (-1) c).2 = 0) → (itsOf L).length ≤ 8 * L.length
  | [], _ => by simp [itsOf]
  | c :: L, h => by
    have h1 := itsOf_len L (fun d hd => h d (by simp [hd]))
    obtain ⟨_, _, _, _, h2⟩ := cutF_ok (h c (by simp))
    have e : itsOf (c :: L) = (cutF (-1) c).1 ++ itsOf L := by simp [itsOf]
    rw [e]
    simp only [List.length_append, List.length_cons]; omega
theorem ok_take {L : List (List UInt8)} {i : Nat} (ho : ∀ j d, j < i → L[j]? = some d → (cutF (-1) d).2 = 0) : ∀ c ∈ L.take i, (cutF (-1) c).2 = 0 := by
  intro c hc
  obtain ⟨j, hj⟩ := List.getElem?_of_mem hc
  rw [List.getElem?_take] at hj
  split at hj
  · next h => exact ho j c h hj
  · cases hj
/-- what a contract says of a leaf that it hands back -/
def LeafPost (w w' : World) (e : Ending) (r : List It × Int × Int) : Prop :=
  ∃ v, e = .returned (.tuple #[v, .int .i64 r.2.1, .int .i64 r.2.2]) ∧ (r.2.1 = 0 → w'.ownsRow w.heap.size 152 5 v r.1.length (itCells r.1) ∧ ∀ x ∈ r.1, ItOk x) ∧ (r.2.1 ≠ 0 → v = .slice none 0 0) ∧ Ext w w'
theorem LeafPost.err {w w' : World} {e p : Int} (he : e ≠ 0) (hx : Ext w w') : LeafPost w w' (.returned (.tuple #[.slice none 0 0, .int .i64 e, .int .i64 p])) ([], e, p) :=
  ⟨_, rfl, fun h => absurd h he, fun _ => rfl, hx⟩
theorem it_one (l : List It) : ∀ u ∈ itCells l, u.oneCell' = true := by
  induction l with
  | nil => simp [itCells]
  | cons x l ih =>
    intro u hu
    simp only [itCells, itL, List.cons_append, List.nil_append, List.mem_cons] at hu
    rcases hu with rfl | rfl | rfl | rfl | rfl | h
    all_goals first | rfl | exact ih u h
theorem src_items {w : World} {base n : Nat} {v : Value} {l : List It} (h : w.ownsRow base 152 5 v n (itCells l)) (hn : 0 < n) : ∃ g cap, v = .slice (some ⟨g, 0, none⟩) n cap ∧ Src Tryz.prog 5 26 v n (itCells l) w := by
  obtain ⟨g, cap, rfl, _⟩ := h.form hn
  exact ⟨g, cap, rfl, Src.ofSlice w Tryz.underlying26 ⟨g, 0, none⟩ n cap _ h.1 (h.cells (g := g) rfl) (it_one l)⟩
theorem ne_of_ok {c : List UInt8} {li : List It} (h : cutF (-1) c = (li, 0)) : li.length ≠ 0 := by
  cases c with
  | nil => simp [cutF] at h
  | cons c t =>
    rw [cutF_items rfl] at h
    repeat' split at h
    all_goals simp only [Prod.mk.injEq] at h
    · next h1 => exact absurd h.2 h1
    · simp at h
    · simp at h
    · simp at h
    · simp at h
    · next h4 _ => rw [← h.1]; omega
theorem leafOfF_allok {L : List (List UInt8)} {i n k : Nat} {c : List UInt8} (hin : i = n) (h : ∀ j d, j < i → L[j]? = some d → (cutF (-1) d).2 = 0) (hc : L[k]? = some c) (hk : k < n) : (cutF (-1) c).2 = 0 := h k c (by omega) hc
set_option maxHeartbeats 4000000 in
theorem lof_any (v : Value) (L : List (List UInt8)) (vs : List Value) (base B : Nat) (w : World) (hS : SignsAt B w) (hB : B ≤ w.heap.size) (hrow : w.ownsRow base 135 1 v L.length vs) (hb : Bys base w vs L) (hn5 : L.length ≤ 100000) (hlen : ∀ c ∈ L, c.length ≤ 1000000) (r : List It × Int × Int) (hr : leafOfF L = r) :
    Calls Tryz.prog 74 #[v] w fun e w' => LeafPost w w' e r := by
  obtain ⟨i1, hi1, hy0, hy1, hy2⟩ := info_parts itInfo
  obtain ⟨n, hn⟩ : ∃ n, L.length = n := ⟨_, rfl⟩
  rw [hn] at hrow hn5
  obtain ⟨p, cap, rfl, hcap, hp⟩ := own_form hrow
  have hn5I : (n : Int) ≤ 100000 := by omega
  have HROW := Lib.hid hrow
  have HN := Lib.hid hn
  have HP := Lib.hid hp
  have HLEN := Lib.hid hlen
  have HR := Lib.hid hr
  have HS := Lib.hid hS
  have HBY := Lib.hid hb
  clear hS hb
  clear hrow hn hp hlen hr
  go_enter Tryz.func74, Tryz.ntmps74
  go_wp2_with fail
  go_loopw [5, 6, 15] (fun out sh ii wr => ∃ (i m : Nat), ii = .int .i64 (i : Int) ∧ sh = .int .i64 (shN (lenAt L) n i) ∧ i ≤ n ∧ Hid ((∀ j d, j < i → L[j]? = some d → (cutF (-1) d).2 = 0) ∧ (itsOf (L.take i)).length = m ∧ ∀ x ∈ itsOf (L.take i), ItOk x) ∧ m ≤ 800000 ∧ wr.ownsRow w.heap.size 152 5 out m (itCells (itsOf (L.take i))) ∧ Ext w wr) (fun _ _ ii _ => n - (intOf ii).toNat)
  case atStart => exact ⟨0, 0, rfl, rfl, Nat.zero_le _, Lib.hid ⟨fun j d h => absurd h (Nat.not_lt_zero j), rfl, fun x hx => by simp [itsOf] at hx⟩, by omega, World.ownsRow_nil _ _ _ _, Ext.refl _⟩
  case round =>
    obtain ⟨i, m, rfl, rfl, hi, hH, hm8, hown, hext⟩ := hrel
    have HOW := Lib.hid hown
    have HEX := Lib.hid hext
    clear hown hext
    have hiI : (i : Int) ≤ 100000 := by omega
    have hm8I : (m : Int) ≤ 800000 := by omega
    by_cases hlt : i < n
    · obtain ⟨g, rfl⟩ := HP.out (by omega)
      obtain ⟨c, hc⟩ : ∃ c, L[i]? = some c := ⟨_, List.getElem?_eq_getElem (by have := HN.out; omega)⟩
      have hcl := HLEN.out c (List.mem_of_getElem? hc)
      obtain ⟨l, ec⟩ : ∃ l, cutF (-1) c = l := ⟨_, rfl⟩
      obtain ⟨li, e1⟩ := l
      have HEC := Lib.hid ec
      have HC := Lib.hid hc
      have hi0 : (0 : Int) ≤ (i : Int) := by omega
      have hi1' : (i : Int) < (n : Int) := by omega
      obtain ⟨vc, hvc⟩ : ∃ vc, vs[i]? = some vc := ⟨_, List.getElem?_eq_getElem (by have := HBY.out.1; have := HN.out; omega)⟩
      obtain ⟨b1, o1, c1, rfl, hcc, _, hbb, _⟩ := HBY.out.2 i vc c hvc HC.out
      have hcell : w.cell? ⟨g, i, none⟩ = some (.slice (some ⟨b1, o1, none⟩) c.length c1) := by have := HROW.out.cells (g := g) rfl i _ hvc; rwa [Addr.add_lit, Nat.zero_add] at this
      have hcell2 : wr.cell? ⟨g, i, none⟩ = some (.slice (some ⟨b1, o1, none⟩) c.length c1) := by rw [HEX.out.below.cell (p := ⟨g, i, none⟩) (HROW.out.lt g rfl).2]; exact hcell
      have CC := Lib.hid fun (W : World) (hx : Ext w W) => cut_any b1 o1 c1 c B W (HS.out.ext hx hB) (Nat.le_trans hB hx.size) (by omega) hcc (hbb.ext hx) (li, e1) (by rw [cutF_bad]; exact ec)
      clear hvc hcc hbb hcell
      clear ec hc
      by_cases he : e1 = 0
      case neg =>
        have hre : r = ([], e1, (i : Int)) := by
          have h1 := HR.out
          rw [leafOfF_err HC.out hH.out.1 (by rw [HEC.out]; exact he), HEC.out] at h1
          exact h1.symm
        subst hre
        have he' : (e1 != 0) = true := by simpa using he
        have HE := Lib.hid he
        clear he
        go_wp2_with (go_at_call 103; refine (CC.out _ (by repeat (first | exact HEX.out | apply Ext.alloc | apply Ext.more | apply Ext.drewN))).mono ?_; rintro e _ ⟨v1, rfl, _, hv1, d1, os1, rfl⟩; obtain rfl := hv1 HE.out; clear hv1)
        go_ret3
        exact LeafPost.err HE.out (by repeat (first | exact HEX.out | apply Ext.alloc | apply Ext.more | apply Ext.drewN))
      subst he
      obtain ⟨c0, tl, hc0, hlc, hl8⟩ := cutF_ok (show (cutF (-1) c).2 = 0 by rw [HEC.out])
      rw [HEC.out] at hlc hl8
      dsimp only at hlc hl8
      have HSN := Lib.hid (itsOf_snoc HC.out)
      rw [HEC.out] at HSN
      dsimp only at HSN
      obtain ⟨q, hq⟩ : ∃ q, li.length = q := ⟨_, rfl⟩
      have HLQ := Lib.hid hq
      have hqp : 0 < q := by
        have := ne_of_ok HEC.out
        omega
      have hq8 : q ≤ 8 := by omega
      have HOK : Hid (∀ j d, j < i + 1 → L[j]? = some d → (cutF (-1) d).2 = 0) := Lib.hid (by
        intro j d hj hd
        by_cases hji : j < i
        · exact hH.out.1 j d hji hd
        · have : j = i := by omega
          subst this
          rw [HC.out] at hd
          obtain rfl := Option.some.inj hd
          rw [HEC.out])
      have hmq : m + q ≤ 800000 := by
        have h1 := itsOf_len (L.take (i + 1)) (ok_take HOK.out)
        rw [HSN.out, List.length_append, hH.out.2.1, hq] at h1
        have := List.length_take_le (i + 1) L
        omega
      clear hc0 hlc hl8 hq
      have hlq : lenAt L i = q := by rw [lenAt_some HC.out, HEC.out]; exact HLQ.out
      obtain ⟨z, hz⟩ : ∃ z, shN (lenAt L) n i = z := ⟨_, rfl⟩
      have hzb := shN_bd (lenAt L) n i
      rw [hz] at hzb ⊢
      have hz1 : -1 ≤ z := hzb.1
      have hz2 : z ≤ 100000 := by omega
      by_cases hsh : z < 0 ∧ q < 8 ∧ i + 1 < n
      · have hnx : shN (lenAt L) n (i + 1) = (i : Int) := by unfold shN; rw [hz, hlq, if_pos hsh]
        have HNX := Lib.hid hnx
        obtain ⟨hs1, hs2, hs3⟩ := hsh
        have hq8I : (q : Int) < 8 := by omega
        have hnI : (i : Int) < (n : Int) - 1 := by omega
        clear hlq hz hzb hnx
        go_wp2_with (first
          | (go_at_call 103; refine (CC.out _ (by repeat (first | exact HEX.out | apply Ext.alloc | apply Ext.more | apply Ext.drewN))).mono ?_; rintro e w1 ⟨v1, rfl, hv1, _, hx1⟩; obtain ⟨hown1, hok1⟩ := hv1 rfl; clear hv1; rw [HLQ.out] at hown1; obtain ⟨g1, cap1, rfl, hsrc⟩ := src_items hown1 hqp; have HS1 := Lib.hid hsrc; have HX1 := Lib.hid hx1; have HOK1 := Lib.hid hok1; clear hown1 hok1 hsrc hx1)
          | (at_builtin; refine wpList_append_src _ rfl _ _ 26 26 rfl w.heap.size 152 i1 (.agg #[.string ⟨#[]⟩, .int .i64 0, .int .i64 0, .string ⟨#[]⟩, .int .i64 0]) 5 56 Tryz.underlying26 hi1 hy0 hy1 hy2 rfl (by decide) _ _ _ rfl (own_ext HOW.out HX1.out) _ q _ rfl HS1.out ?c3a ?c4a ?c5a ?_))
        case c3a => unfold maxLen; omega
        case c4a => omega
        case c5a => exact Nat.le_trans HEX.out.size HX1.out.size
        intro v3 w3 hown3 hgrow3 _
        have HO3 : Hid (w3.ownsRow w.heap.size 152 5 v3 (m + q) (itCells (itsOf (L.take (i + 1))))) := Lib.hid (by rw [HSN.out, itCells_append]; exact hown3)
        have HX3 : Hid (Ext w w3) := Lib.hid (Ext.grown (HEX.out.trans HX1.out) hgrow3 (fun k hk => (HOW.out.lt k hk).1))
        have HMQ : Hid ((itsOf (L.take (i + 1))).length = m + q) := Lib.hid (by rw [HSN.out, List.length_append, hH.out.2.1, HLQ.out])
        have HIO : Hid (∀ x ∈ itsOf (L.take (i + 1)), ItOk x) := Lib.hid (by
          intro x hx
          rw [HSN.out] at hx
          rcases List.mem_append.1 hx with h | h
          · exact hH.out.2.2 x h
          · exact HOK1.out x h)
        clear hown3 hgrow3
        go_wp2_with fail
        go_roundw
        case rel => exact ⟨i + 1, m + q, by go_num, by rw [HNX.out], by omega, Lib.hid ⟨HOK.out, HMQ.out, HIO.out⟩, hmq, HO3.out, HX3.out⟩
        case measure => simp [intOf]; omega
      · have hnx : shN (lenAt L) n (i + 1) = z := by unfold shN; rw [hz, hlq, if_neg hsh]
        have HNX := Lib.hid hnx
        clear hlq hz hzb hnx
        by_cases hs2 : q < 8
        · have hq8I : (q : Int) < 8 := by omega
          by_cases hs3 : i + 1 < n
          · have hnI : (i : Int) < (n : Int) - 1 := by omega
            have hs1 : ¬ z < 0 := fun h => hsh ⟨h, hs2, hs3⟩
            clear hsh
            go_wp2_with (first
              | (go_at_call 103; refine (CC.out _ (by repeat (first | exact HEX.out | apply Ext.alloc | apply Ext.more | apply Ext.drewN))).mono ?_; rintro e w1 ⟨v1, rfl, hv1, _, hx1⟩; obtain ⟨hown1, hok1⟩ := hv1 rfl; clear hv1; rw [HLQ.out] at hown1; obtain ⟨g1, cap1, rfl, hsrc⟩ := src_items hown1 hqp; have HS1 := Lib.hid hsrc; have HX1 := Lib.hid hx1; have HOK1 := Lib.hid hok1; clear hown1 hok1 hsrc hx1)
              | (at_builtin; refine wpList_append_src _ rfl _ _ 26 26 rfl w.heap.size 152 i1 (.agg #[.string ⟨#[]⟩, .int .i64 0, .int .i64 0, .string ⟨#[]⟩, .int .i64 0]) 5 56 Tryz.underlying26 hi1 hy0 hy1 hy2 rfl (by decide) _ _ _ rfl (own_ext HOW.out HX1.out) _ q _ rfl HS1.out ?c3b ?c4b ?c5b ?_))
            case c3b => unfold maxLen; omega
            case c4b => omega
            case c5b => exact Nat.le_trans HEX.out.size HX1.out.size
            intro v3 w3 hown3 hgrow3 _
            have HO3 : Hid (w3.ownsRow w.heap.size 152 5 v3 (m + q) (itCells (itsOf (L.take (i + 1))))) := Lib.hid (by rw [HSN.out, itCells_append]; exact hown3)
            have HX3 : Hid (Ext w w3) := Lib.hid (Ext.grown (HEX.out.trans HX1.out) hgrow3 (fun k hk => (HOW.out.lt k hk).1))
            have HMQ : Hid ((itsOf (L.take (i + 1))).length = m + q) := Lib.hid (by rw [HSN.out, List.length_append, hH.out.2.1, HLQ.out])
            have HIO : Hid (∀ x ∈ itsOf (L.take (i + 1)), ItOk x) := Lib.hid (by
              intro x hx
              rw [HSN.out] at hx
              rcases List.mem_append.1 hx with h | h
              · exact hH.out.2.2 x h
              · exact HOK1.out x h)
            clear hown3 hgrow3
            go_wp2_with fail
            go_roundw
            case rel => exact ⟨i + 1, m + q, by go_num, by rw [HNX.out], by omega, Lib.hid ⟨HOK.out, HMQ.out, HIO.out⟩, hmq, HO3.out, HX3.out⟩
            case measure => simp [intOf]; omega
          · have hnI : ¬ (i : Int) < (n : Int) - 1 := by omega
            clear hsh
            go_wp2_with (first
              | (go_at_call 103; refine (CC.out _ (by repeat (first | exact HEX.out | apply Ext.alloc | apply Ext.more | apply Ext.drewN))).mono ?_; rintro e w1 ⟨v1, rfl, hv1, _, hx1⟩; obtain ⟨hown1, hok1⟩ := hv1 rfl; clear hv1; rw [HLQ.out] at hown1; obtain ⟨g1, cap1, rfl, hsrc⟩ := src_items hown1 hqp; have HS1 := Lib.hid hsrc; have HX1 := Lib.hid hx1; have HOK1 := Lib.hid hok1; clear hown1 hok1 hsrc hx1)
              | (at_builtin; refine wpList_append_src _ rfl _ _ 26 26 rfl w.heap.size 152 i1 (.agg #[.string ⟨#[]⟩, .int .i64 0, .int .i64 0, .string ⟨#[]⟩, .int .i64 0]) 5 56 Tryz.underlying26 hi1 hy0 hy1 hy2 rfl (by decide) _ _ _ rfl (own_ext HOW.out HX1.out) _ q _ rfl HS1.out ?c3c ?c4c ?c5c ?_))
            case c3c => unfold maxLen; omega
            case c4c => omega
            case c5c => exact Nat.le_trans HEX.out.size HX1.out.size
            intro v3 w3 hown3 hgrow3 _
            have HO3 : Hid (w3.ownsRow w.heap.size 152 5 v3 (m + q) (itCells (itsOf (L.take (i + 1))))) := Lib.hid (by rw [HSN.out, itCells_append]; exact hown3)
            have HX3 : Hid (Ext w w3) := Lib.hid (Ext.grown (HEX.out.trans HX1.out) hgrow3 (fun k hk => (HOW.out.lt k hk).1))
            have HMQ : Hid ((itsOf (L.take (i + 1))).length = m + q) := Lib.hid (by rw [HSN.out, List.length_append, hH.out.2.1, HLQ.out])
            have HIO : Hid (∀ x ∈ itsOf (L.take (i + 1)), ItOk x) := Lib.hid (by
              intro x hx
              rw [HSN.out] at hx
              rcases List.mem_append.1 hx with h | h
              · exact hH.out.2.2 x h
              · exact HOK1.out x h)
            clear hown3 hgrow3
            go_wp2_with fail
            go_roundw
            case rel => exact ⟨i + 1, m + q, by go_num, by rw [HNX.out], by omega, Lib.hid ⟨HOK.out, HMQ.out, HIO.out⟩, hmq, HO3.out, HX3.out⟩
            case measure => simp [intOf]; omega
        · have hq8I : ¬ (q : Int) < 8 := by omega
          clear hsh
          go_wp2_with (first
            | (go_at_call 103; refine (CC.out _ (by repeat (first | exact HEX.out | apply Ext.alloc | apply Ext.more | apply Ext.drewN))).mono ?_; rintro e w1 ⟨v1, rfl, hv1, _, hx1⟩; obtain ⟨hown1, hok1⟩ := hv1 rfl; clear hv1; rw [HLQ.out] at hown1; obtain ⟨g1, cap1, rfl, hsrc⟩ := src_items hown1 hqp; have HS1 := Lib.hid hsrc; have HX1 := Lib.hid hx1; have HOK1 := Lib.hid hok1; clear hown1 hok1 hsrc hx1)
            | (at_builtin; refine wpList_append_src _ rfl _ _ 26 26 rfl w.heap.size 152 i1 (.agg #[.string ⟨#[]⟩, .int .i64 0, .int .i64 0, .string ⟨#[]⟩, .int .i64 0]) 5 56 Tryz.underlying26 hi1 hy0 hy1 hy2 rfl (by decide) _ _ _ rfl (own_ext HOW.out HX1.out) _ q _ rfl HS1.out ?c3d ?c4d ?c5d ?_))
          case c3d => unfold maxLen; omega
          case c4d => omega
          case c5d => exact Nat.le_trans HEX.out.size HX1.out.size
          intro v3 w3 hown3 hgrow3 _
          have HO3 : Hid (w3.ownsRow w.heap.size 152 5 v3 (m + q) (itCells (itsOf (L.take (i + 1))))) := Lib.hid (by rw [HSN.out, itCells_append]; exact hown3)
          have HX3 : Hid (Ext w w3) := Lib.hid (Ext.grown (HEX.out.trans HX1.out) hgrow3 (fun k hk => (HOW.out.lt k hk).1))
          have HMQ : Hid ((itsOf (L.take (i + 1))).length = m + q) := Lib.hid (by rw [HSN.out, List.length_append, hH.out.2.1, HLQ.out])
          have HIO : Hid (∀ x ∈ itsOf (L.take (i + 1)), ItOk x) := Lib.hid (by
            intro x hx
            rw [HSN.out] at hx
            rcases List.mem_append.1 hx with h | h
            · exact hH.out.2.2 x h
            · exact HOK1.out x h)
          clear hown3 hgrow3
          go_wp2_with fail
          go_roundw
          case rel => exact ⟨i + 1, m + q, by go_num, by rw [HNX.out], by omega, Lib.hid ⟨HOK.out, HMQ.out, HIO.out⟩, hmq, HO3.out, HX3.out⟩
          case measure => simp [intOf]; omega
    have hin : i = n := by omega
    have hall := hH.out.1
    rw [hin] at hall
    have hr2 := HR.out
    rw [leafOfF_ok HN.out hall] at hr2
    have hto : L.take i = L := List.take_of_length_le (by rw [HN.out]; omega)
    have HR2 := Lib.hid hr2
    have hH2 := hH.out.2
    rw [hto] at HOW hH2
    have HH := Lib.hid hH2
    have HIN := Lib.hid hin
    clear hin hall hr2 hto hH2
    obtain ⟨W1, rfl⟩ : ∃ W1, W1 = wr := ⟨_, rfl⟩
    have hzn : shN (lenAt L) n i = shN (lenAt L) n n := by rw [HIN.out]
    rw [hzn]
    obtain ⟨z, hz⟩ : ∃ z, shN (lenAt L) n n = z := ⟨_, rfl⟩
    have hzb := shN_bd (lenAt L) n n
    rw [hz] at hzb ⊢
    have hr3 := HR2.out
    rw [hz] at hr3
    clear hz hzn
    by_cases hz0 : 0 ≤ z
    · have hre : r = ([], 3, z) := by rw [if_pos hz0] at hr3; exact hr3.symm
      subst hre
      clear hr3 hzb
      go_wp2_with fail
      go_ret3
      exact LeafPost.err (by decide) (by repeat (first | exact HEX.out | apply Ext.alloc | apply Ext.more | apply Ext.drewN))
    rw [if_neg hz0] at hr3
    clear hzb
    have hrow1 : W1.ownsRow w.heap.size 152 5 u5 (itsOf L).length (itCells (itsOf L)) := by rw [HH.out.1]; exact HOW.out
    obtain ⟨b1, _, hlf⟩ := lf_own hrow1 HH.out.2
    have HLF := Lib.hid hlf
    clear hlf hrow1
    obtain ⟨ef, hef⟩ : ∃ ef, leafF (itsOf L) = ef := ⟨_, rfl⟩
    rw [hef] at hr3
    obtain ⟨e9, p9⟩ := ef
    dsimp only at hr3
    have HEF := Lib.hid hef
    clear hef
    by_cases h9 : e9 = 0
    · subst h9
      have hre : r = (itsOf L, 0, 0) := by simpa using hr3.symm
      subst hre
      clear hr3
      go_wp2_with (go_at_call 68; have hlf1 := HLF.out; refine (lcheck_any b1 _ _ B _ (HS.out.ext (by repeat (first | exact HEX.out | apply Ext.alloc | apply Ext.more | apply Ext.drewN)) hB) (Nat.le_trans hB (Ext.size (by repeat (first | exact HEX.out | apply Ext.alloc | apply Ext.more | apply Ext.drewN)))) (hlf1.ext (by repeat (first | exact Ext.refl _ | apply Ext.alloc | apply Ext.more | apply Ext.drewN)))).mono ?_; rw [HEF.out]; rintro e _ ⟨rfl, d1, os1, rfl⟩)
      go_ret3
      refine ⟨_, rfl, fun _ => ⟨?_, HH.out.2⟩, fun h => absurd rfl h, (by repeat (first | exact HEX.out | apply Ext.alloc | apply Ext.more | apply Ext.drewN))⟩
      have h1 := HOW.out
      dsimp only
      rw [HH.out.1]
      exact own_ext h1 (by repeat (first | exact Ext.refl _ | apply Ext.alloc | apply Ext.more | apply Ext.drewN))
    · have hre : r = ([], e9, (n : Int)) := by simpa [h9] using hr3.symm
      subst hre
      clear hr3
      have h9' : (e9 != 0) = true := by simpa using h9
      have H9 := Lib.hid h9
      clear h9
      go_wp2_with (go_at_call 68; have hlf1 := HLF.out; refine (lcheck_any b1 _ _ B _ (HS.out.ext (by repeat (first | exact HEX.out | apply Ext.alloc | apply Ext.more | apply Ext.drewN)) hB) (Nat.le_trans hB (Ext.size (by repeat (first | exact HEX.out | apply Ext.alloc | apply Ext.more | apply Ext.drewN)))) (hlf1.ext (by repeat (first | exact Ext.refl _ | apply Ext.alloc | apply Ext.more | apply Ext.drewN)))).mono ?_; rw [HEF.out]; rintro e _ ⟨rfl, d1, os1, rfl⟩)
      go_ret3
      exact LeafPost.err H9.out (by repeat (first | exact HEX.out | apply Ext.alloc | apply Ext.more | apply Ext.drewN))
set_option maxHeartbeats 4000000 in
theorem rlof_any (v : Value) (L : List (List UInt8)) (base : Nat) (w : World) (hrow : w.ownsRow base 9 1 v L.length (L.map strC)) (hn5 : L.length ≤ 100000) (hlen : ∀ c ∈ L, c.length ≤ 1000000) (r : List It × Int × Int) (hr : leafOfF L = r) :
    Calls Tryz.prog 59 #[v] w fun e w' => LeafPost w w' e r := by
  obtain ⟨i1, hi1, hy0, hy1, hy2⟩ := info_parts itInfo
  obtain ⟨n, hn⟩ : ∃ n, L.length = n := ⟨_, rfl⟩
  rw [hn] at hrow hn5
  obtain ⟨p, cap, rfl, hcap, hp⟩ := own_form hrow
  have hn5I : (n : Int) ≤ 100000 := by omega
  have HROW := Lib.hid hrow
  have HN := Lib.hid hn
  have HP := Lib.hid hp
  have HLEN := Lib.hid hlen
  have HR := Lib.hid hr
  clear hrow hn hp hlen hr
  go_enter Tryz.func59, Tryz.ntmps59
  go_wp2_with fail
  go_loopw [5, 6] (fun out ii wr => ∃ (i m : Nat), ii = .int .i64 (i : Int) ∧ i ≤ n ∧ Hid ((∀ j d, j < i → L[j]? = some d → (cutF (-1) d).2 = 0) ∧ (itsOf (L.take i)).length = m ∧ ∀ x ∈ itsOf (L.take i), ItOk x) ∧ m ≤ 800000 ∧ wr.ownsRow w.heap.size 152 5 out m (itCells (itsOf (L.take i))) ∧ Ext w wr) (fun _ ii _ => n - (intOf ii).toNat)
  case atStart => exact ⟨0, 0, rfl, Nat.zero_le _, Lib.hid ⟨fun j d h => absurd h (Nat.not_lt_zero j), rfl, fun x hx => by simp [itsOf] at hx⟩, by omega, World.ownsRow_nil _ _ _ _, Ext.refl _⟩
  case round =>
    obtain ⟨i, m, rfl, hi, hH, hm8, hown, hext⟩ := hrel
    have HOW := Lib.hid hown
    have HEX := Lib.hid hext
    clear hown hext
    have hiI : (i : Int) ≤ 100000 := by omega
    have hm8I : (m : Int) ≤ 800000 := by omega
    by_cases hlt : i < n
    · obtain ⟨g, rfl⟩ := HP.out (by omega)
      obtain ⟨c, hc⟩ : ∃ c, L[i]? = some c := ⟨_, List.getElem?_eq_getElem (by have := HN.out; omega)⟩
      have hcl := HLEN.out c (List.mem_of_getElem? hc)
      obtain ⟨l, ec⟩ : ∃ l, cutF (-1) c = l := ⟨_, rfl⟩
      obtain ⟨li, e1⟩ := l
      have HEC := Lib.hid ec
      have HC := Lib.hid hc
      have hi0 : (0 : Int) ≤ (i : Int) := by omega
      have hi1' : (i : Int) < (n : Int) := by omega
      have hcell : w.cell? ⟨g, i, none⟩ = some (strC c) := by have := HROW.out.cells (g := g) rfl i (strC c) (by rw [List.getElem?_map, hc]; rfl); rwa [Addr.add_lit, Nat.zero_add] at this
      have hcell2 : wr.cell? ⟨g, i, none⟩ = some (.string ⟨c.toArray⟩) := by rw [HEX.out.below.cell (p := ⟨g, i, none⟩) (HROW.out.lt g rfl).2]; exact hcell
      have CC := Lib.hid fun (W : World) (_ : Ext w W) => rcutl_any ⟨c.toArray⟩ W (by rw [ba_size]; omega) (li, e1) ec
      clear hcell
      clear ec hc
      by_cases he : e1 = 0
      case neg =>
        have hre : r = ([], e1, (i : Int)) := by
          have h1 := HR.out
          rw [leafOfF_err HC.out hH.out.1 (by rw [HEC.out]; exact he), HEC.out] at h1
          exact h1.symm
        subst hre
        have he' : (e1 != 0) = true := by simpa using he
        have HE := Lib.hid he
        clear he
        go_wp2_with (go_at_call 86; refine (CC.out _ (by repeat (first | exact HEX.out | apply Ext.alloc | apply Ext.more | apply Ext.drewN))).mono ?_; rintro e _ ⟨v1, rfl, _, hv1, d1, os1, rfl⟩; obtain rfl := hv1 HE.out; clear hv1)
        go_ret3
        exact LeafPost.err HE.out (by repeat (first | exact HEX.out | apply Ext.alloc | apply Ext.more | apply Ext.drewN))
      subst he
      obtain ⟨c0, tl, hc0, hlc, hl8⟩ := cutF_ok (show (cutF (-1) c).2 = 0 by rw [HEC.out])
      rw [HEC.out] at hlc hl8
      dsimp only at hlc hl8
      have HSN := Lib.hid (itsOf_snoc HC.out)
      rw [HEC.out] at HSN
      dsimp only at HSN
      obtain ⟨q, hq⟩ : ∃ q, li.length = q := ⟨_, rfl⟩
      have HLQ := Lib.hid hq
      have hqp : 0 < q := by
        have := ne_of_ok HEC.out
        omega
      have hq8 : q ≤ 8 := by omega
      have HOK : Hid (∀ j d, j < i + 1 → L[j]? = some d → (cutF (-1) d).2 = 0) := Lib.hid (by
        intro j d hj hd
        by_cases hji : j < i
        · exact hH.out.1 j d hji hd
        · have : j = i := by omega
          subst this
          rw [HC.out] at hd
          obtain rfl := Option.some.inj hd
          rw [HEC.out])
      have hmq : m + q ≤ 800000 := by
        have h1 := itsOf_len (L.take (i + 1)) (ok_take HOK.out)
        rw [HSN.out, List.length_append, hH.out.2.1, hq] at h1
        have := List.length_take_le (i + 1) L
        omega
      clear hc0 hlc hl8 hq
      go_wp2_with (first
        | (go_at_call 86; refine (CC.out _ (by repeat (first | exact HEX.out | apply Ext.alloc | apply Ext.more | apply Ext.drewN))).mono ?_; rintro e w1 ⟨v1, rfl, hv1, _, hx1⟩; obtain ⟨hown1, hok1⟩ := hv1 rfl; clear hv1; rw [HLQ.out] at hown1; obtain ⟨g1, cap1, rfl, hsrc⟩ := src_items hown1 hqp; have HS1 := Lib.hid hsrc; have HX1 := Lib.hid hx1; have HOK1 := Lib.hid hok1; clear hown1 hok1 hsrc hx1)
        | (at_builtin; refine wpList_append_src _ rfl _ _ 26 26 rfl w.heap.size 152 i1 (.agg #[.string ⟨#[]⟩, .int .i64 0, .int .i64 0, .string ⟨#[]⟩, .int .i64 0]) 5 56 Tryz.underlying26 hi1 hy0 hy1 hy2 rfl (by decide) _ _ _ rfl (own_ext HOW.out HX1.out) _ q _ rfl HS1.out ?c3a ?c4a ?c5a ?_))
      case c3a => unfold maxLen; omega
      case c4a => omega
      case c5a => exact Nat.le_trans HEX.out.size HX1.out.size
      intro v3 w3 hown3 hgrow3 _
      have HO3 : Hid (w3.ownsRow w.heap.size 152 5 v3 (m + q) (itCells (itsOf (L.take (i + 1))))) := Lib.hid (by rw [HSN.out, itCells_append]; exact hown3)
      have HX3 : Hid (Ext w w3) := Lib.hid (Ext.grown (HEX.out.trans HX1.out) hgrow3 (fun k hk => (HOW.out.lt k hk).1))
      have HMQ : Hid ((itsOf (L.take (i + 1))).length = m + q) := Lib.hid (by rw [HSN.out, List.length_append, hH.out.2.1, HLQ.out])
      have HIO : Hid (∀ x ∈ itsOf (L.take (i + 1)), ItOk x) := Lib.hid (by
        intro x hx
        rw [HSN.out] at hx
        rcases List.mem_append.1 hx with h | h
        · exact hH.out.2.2 x h
        · exact HOK1.out x h)
      clear hown3 hgrow3
      go_wp2_with fail
      go_roundw
      case rel => exact ⟨i + 1, m + q, by go_num, by omega, Lib.hid ⟨HOK.out, HMQ.out, HIO.out⟩, hmq, HO3.out, HX3.out⟩
      case measure => simp [intOf]; omega
    have hin : i = n := by omega
    have hall := hH.out.1
    rw [hin] at hall
    have hr2 := HR.out
    rw [leafOfF_ok HN.out hall] at hr2
    have hto : L.take i = L := List.take_of_length_le (by rw [HN.out]; omega)
    have HR2 := Lib.hid hr2
    have hH2 := hH.out.2
    rw [hto] at HOW hH2
    have HH := Lib.hid hH2
    have HIN := Lib.hid hin
    clear hin hall hr2 hto hH2
    obtain ⟨W1, rfl⟩ : ∃ W1, W1 = wr := ⟨_, rfl⟩
    go_wp2_with fail
    go_loopw [9] (fun ii wr => ∃ k : Nat, ii = .int .i64 (k : Int) ∧ (k + 1 ≤ n ∨ k = 0) ∧ Hid (∀ j, j < k → ¬ lenAt L j < 8) ∧ Ext W1 wr) (fun ii _ => n - (intOf ii).toNat)
    case atStart => exact ⟨0, rfl, Or.inr rfl, Lib.hid (fun j h => absurd h (Nat.not_lt_zero j)), (by repeat (first | exact Ext.refl _ | apply Ext.alloc | apply Ext.more | apply Ext.drewN))⟩
    case round =>
      obtain ⟨k, rfl, hk, hsh, d, os, rfl⟩ := hrel
      have hkI : (k : Int) ≤ 100000 := by omega
      by_cases hkl : k + 1 < n
      · obtain ⟨g, rfl⟩ := HP.out (by omega)
        have hkI2 : (k : Int) + 1 < (n : Int) := by omega
        have hk0 : (0 : Int) ≤ (k : Int) := by omega
        have hk1 : (k : Int) < (n : Int) := by omega
        obtain ⟨c, hc⟩ : ∃ c, L[k]? = some c := ⟨_, List.getElem?_eq_getElem (by have := HN.out; omega)⟩
        have hcell : w.cell? ⟨g, k, none⟩ = some (strC c) := by have := HROW.out.cells (g := g) rfl k (strC c) (by rw [List.getElem?_map, hc]; rfl); rwa [Addr.add_lit, Nat.zero_add] at this
        obtain ⟨s, hs⟩ : ∃ s : ByteArray, (⟨c.toArray⟩ : ByteArray) = s := ⟨_, rfl⟩
        have hcell2 : W1.cell? ⟨g, k, none⟩ = some (.string s) := by rw [HEX.out.below.cell (p := ⟨g, k, none⟩) (HROW.out.lt g rfl).2, ← hs]; exact hcell
        have hgW : g < W1.heap.size := by have := (HROW.out.lt g rfl).2; have := HEX.out.size; omega
        have hok := leafOfF_allok HIN.out hH.out.1 hc (by omega)
        obtain ⟨c0, tl, hc0, hlc, hl8⟩ := cutF_ok hok
        rw [← lenAt_some hc] at hlc hl8
        have hs0 : 0 < s.size := by rw [← hs, ba_size, hc0]; simp
        have hsb : s[0].toNat = lenAt L k := by rw [hlc]; subst hc0; subst hs; rfl
        have HSB := Lib.hid hsb
        clear hcell hs hok hc0 hlc hc
        by_cases h8 : lenAt L k < 8
        · have h8' : ((s[0].toNat : Int) != 8) = true := by rw [bne_iff_ne]; omega
          have hre : r = ([], 3, (k : Int)) := by
            have h1 := HR2.out
            rw [shN_at (lenAt L) n k hkl h8 hsh.out, if_pos (by omega)] at h1
            exact h1.symm
          subst hre
          clear h8
          clear hsb hl8
          go_wp2_with fail
          go_ret3
          exact LeafPost.err (by decide) (by repeat (first | exact HEX.out | apply Ext.alloc | apply Ext.more | apply Ext.drewN))
        · have h8' : ((s[0].toNat : Int) != 8) = false := by rw [bne_eq_false_iff_eq]; omega
          have H8 := Lib.hid h8
          clear hsb hl8 h8
          go_wp2_with fail
          go_roundw
          case rel => exact ⟨k + 1, by go_num, Or.inl (by omega), Lib.hid (fun j hj => by
            by_cases hjk : j < k
            · exact hsh.out j hjk
            · have : j = k := by omega
              subst this; exact H8.out), (by repeat (first | exact Ext.refl _ | apply Ext.alloc | apply Ext.more | apply Ext.drewN))⟩
          case measure => simp [intOf]; omega
      have hnone : shN (lenAt L) n n = -1 := shN_none (lenAt L) n (fun j hj => hsh.out j (by omega)) n
      have hkI3 : ¬ (k : Int) + 1 < (n : Int) := by omega
      have hr3 := HR2.out
      rw [hnone, if_neg (by decide)] at hr3
      clear hnone
      have hrow1 : W1.ownsRow w.heap.size 152 5 u5 (itsOf L).length (itCells (itsOf L)) := by rw [HH.out.1]; exact HOW.out
      obtain ⟨b1, _, hlf⟩ := lf_own hrow1 HH.out.2
      have HLF := Lib.hid hlf
      clear hlf hrow1
      obtain ⟨ef, hef⟩ : ∃ ef, leafF (itsOf L) = ef := ⟨_, rfl⟩
      rw [hef] at hr3
      obtain ⟨e9, p9⟩ := ef
      dsimp only at hr3
      have HEF := Lib.hid hef
      clear hef
      by_cases h9 : e9 = 0
      · subst h9
        have hre : r = (itsOf L, 0, 0) := by simpa using hr3.symm
        subst hre
        clear hr3
        go_wp2_with (go_at_call 69; have hlf1 := HLF.out; refine (rlcheck_any b1 _ _ _ (hlf1.ext (by repeat (first | exact Ext.refl _ | apply Ext.alloc | apply Ext.more | apply Ext.drewN)))).mono ?_; rw [HEF.out]; rintro e _ ⟨rfl, d1, os1, rfl⟩)
        go_ret3
        refine ⟨_, rfl, fun _ => ⟨?_, HH.out.2⟩, fun h => absurd rfl h, (by repeat (first | exact HEX.out | apply Ext.alloc | apply Ext.more | apply Ext.drewN))⟩
        have h1 := HOW.out
        dsimp only
        rw [HH.out.1]
        exact own_ext h1 (by repeat (first | exact Ext.refl _ | apply Ext.alloc | apply Ext.more | apply Ext.drewN))
      · have hre : r = ([], e9, (n : Int)) := by simpa [h9] using hr3.symm
        subst hre
        clear hr3
        have h9' : (e9 != 0) = true := by simpa using h9
        have H9 := Lib.hid h9
        clear h9
        go_wp2_with (go_at_call 69; have hlf1 := HLF.out; refine (rlcheck_any b1 _ _ _ (hlf1.ext (by repeat (first | exact Ext.refl _ | apply Ext.alloc | apply Ext.more | apply Ext.drewN)))).mono ?_; rw [HEF.out]; rintro e _ ⟨rfl, d1, os1, rfl⟩)
        go_ret3
        exact LeafPost.err H9.out (by repeat (first | exact HEX.out | apply Ext.alloc | apply Ext.more | apply Ext.drewN))
end Go.Proofs.YtpchohjkelopoaaGreatDoor

namespace Go.Proofs.YtpchohjkelopoaaGreatDoor
open Go.RowKit
theorem zag_zig (i : Int) : zagZ ((zigZ i).toNat : Nat) = i := by
  unfold zagZ zigZ
  split
  · split <;> omega
  · split <;> omega
theorem ba_empty {s : ByteArray} (h : s.size = 0) : s = ⟨#[]⟩ := ByteArray.ext (Array.eq_empty_of_size_eq_zero h)
theorem ba_back (s : ByteArray) : (⟨s.data.toList.toArray⟩ : ByteArray) = s := by
  apply ByteArray.ext; simp
theorem cutT_put (t tl : List UInt8) (h : t.length ≤ 255) : cutT (putB t.length ++ (t ++ tl)) = (t, (putB t.length).length + t.length, 0) := by
  have hg := cutG_put t.length t.length 0 0 (t ++ tl) (Nat.le_refl _) (by omega) (by omega) (by omega)
  simp only [Nat.zero_add, Nat.pow_zero, Nat.mul_one] at hg
  unfold cutT
  rw [hg]
  simp only [ne_eq, not_true_eq_false, if_false]
  rw [if_neg (by omega), if_neg (by simp)]
  simp
theorem valC_enc (k i : Int) (s : ByteArray) (h : mayB k i s = true) (h0 : -9223372036854775808 ≤ i) (h1 : i ≤ 9223372036854775807) (tl : List UInt8) :
    valC (encB k i s ++ tl) = (⟨k, i, s⟩, (encB k i s).length, 0) := by
  rcases may_cases h with ⟨rfl, rfl, h2⟩ | ⟨rfl, a, b, h2⟩ | ⟨rfl, h2⟩ | ⟨rfl, rfl, h2⟩
  · rw [ba_empty h2]; rfl
  · rw [ba_empty h2]
    have hi : i = 0 ∨ i = 1 := by omega
    rcases hi with rfl | rfl <;> rfl
  · rw [ba_empty h2]
    have hz := zigZ_bd i h0 h1
    have hg := cutG_put (zigZ i).toNat (zigZ i).toNat 0 0 tl (Nat.le_refl _) (by omega) (by omega) (by omega)
    simp only [Nat.zero_add, Nat.pow_zero, Nat.mul_one] at hg
    have e : encB 2 i ⟨#[]⟩ = 2 :: putB (zigZ i).toNat := by simp [encB]
    rw [e]
    simp only [List.cons_append, valC]
    rw [hg]
    dsimp only
    rw [zag_zig]
    have a1 : (2 : UInt8).toNat = 2 := rfl
    simp [a1]
    omega
  · have e : encB 3 0 s = 3 :: (putB s.size ++ s.data.toList) := by simp [encB]
    have hl : s.data.toList.length = s.size := by simp
    have hg := cutT_put s.data.toList tl (by omega)
    rw [hl] at hg
    rw [e]
    simp only [List.cons_append, valC, List.append_assoc]
    rw [hg]
    dsimp only
    rw [hl, if_neg (show ¬ 64 < s.size by omega), ba_back]
    have a1 : (3 : UInt8).toNat = 3 := rfl
    simp [a1]
    omega
theorem mayI_four {x : It} (h : mayI x = true) : keyB x.k = true ∧ mayB x.vk x.vi x.vs = true ∧ 0 ≤ x.ver ∧ x.ver ≤ 2147483647 := by
  unfold mayI at h
  simp only [Bool.and_eq_true, decide_eq_true_eq] at h
  exact ⟨h.1.1.1.1, h.1.1.1.2, h.1.2, h.2⟩
theorem itemF_back (x : It) (ho : ItOk x) (hm : mayI x = true) (tl : List UInt8) : itemF (-1) (itB x ++ tl) = (x, (itB x).length, 0) := by
  obtain ⟨_, hv, h0, h1⟩ := mayI_four hm
  have hk := ho.k
  have e1 := cutT_put x.k.data.toList (encB x.vk x.vi x.vs ++ (putB x.ver.toNat ++ tl)) (by rw [ba_len]; exact hk)
  rw [ba_len] at e1
  have e0 : itB x ++ tl = putB x.k.size ++ (x.k.data.toList ++ (encB x.vk x.vi x.vs ++ (putB x.ver.toNat ++ tl))) := by
    unfold itB; simp only [List.append_assoc]
  have d1 : (itB x ++ tl).drop ((putB x.k.size).length + x.k.size) = encB x.vk x.vi x.vs ++ (putB x.ver.toNat ++ tl) := by
    rw [e0, ← List.append_assoc]
    exact List.drop_left' (by rw [List.length_append, ba_len])
  have e2 := valC_enc x.vk x.vi x.vs hv ho.vi.1 ho.vi.2 (putB x.ver.toNat ++ tl)
  have d2 : (itB x ++ tl).drop ((putB x.k.size).length + x.k.size + (encB x.vk x.vi x.vs).length) = putB x.ver.toNat ++ tl := by
    rw [← List.drop_drop, d1]
    exact List.drop_left' rfl
  have e3 := cutG_put x.ver.toNat x.ver.toNat 0 0 tl (Nat.le_refl _) (by omega) (by omega) (by omega)
  simp only [Nat.zero_add, Nat.pow_zero, Nat.mul_one] at e3
  rw [← e0] at e1
  rw [itemF_ok (v := ⟨x.vk, x.vi, x.vs⟩) e1 (by rw [d1]; exact e2) (by rw [d2]; exact e3)]
  rw [if_neg (show ¬ 2147483647 < x.ver.toNat by omega), ba_back, show ((x.ver.toNat : Nat) : Int) = x.ver by omega]
  have hl : (itB x).length = (putB x.k.size).length + x.k.size + (encB x.vk x.vi x.vs).length + (putB x.ver.toNat).length := by
    unfold itB; simp only [List.length_append, ba_len]
  rw [hl]
theorem itemsF_back : ∀ (l : List It) (tl : List UInt8), (∀ x ∈ l, ItOk x) → (∀ x ∈ l, mayI x = true) → itemsF (-1) l.length (l.flatMap itB ++ tl) = (l, tl, 0)
  | [], tl, _, _ => rfl
  | x :: l, tl, ho, hm => by
    have ih := itemsF_back l tl (fun y hy => ho y (by simp [hy])) (fun y hy => hm y (by simp [hy]))
    have e := itemF_back x (ho x (by simp)) (hm x (by simp)) (l.flatMap itB ++ tl)
    have e0 : (x :: l).flatMap itB ++ tl = itB x ++ (l.flatMap itB ++ tl) := by simp
    rw [e0, List.length_cons]
    unfold itemsF
    rw [e]
    dsimp only
    rw [List.drop_left' rfl, ih]
    simp
theorem chkF_ord : ∀ (l : List It) (p : Option It) (i : Nat), (chkF p i l).1 = 0 → ordB l = true ∧ ∀ y, p = some y → ∀ x, l.head? = some x → ltB y.k x.k = true
  | [], _, _, _ => ⟨rfl, fun _ _ x hx => by simp at hx⟩
  | x :: l, none, i, h => by
    unfold chkF at h
    split at h
    · simp at h
    · obtain ⟨h1, h2⟩ := chkF_ord l (some x) (i + 1) h
      refine ⟨?_, fun y hy => by cases hy⟩
      cases l with
      | nil => rfl
      | cons z l => simp only [ordB, Bool.and_eq_true]; exact ⟨h2 x rfl z rfl, h1⟩
  | x :: l, some z, i, h => by
    unfold chkF at h
    split at h
    · simp at h
    · split at h
      · simp at h
      · next hlt =>
        obtain ⟨h1, h2⟩ := chkF_ord l (some x) (i + 1) h
        refine ⟨?_, fun y hy u hu => ?_⟩
        · cases l with
          | nil => rfl
          | cons u l => simp only [ordB, Bool.and_eq_true]; exact ⟨h2 x rfl u rfl, h1⟩
        · obtain rfl := Option.some.inj hy
          obtain rfl := Option.some.inj hu
          simpa using hlt
theorem leafB_ord {l : List It} (h : leafB l = true) : ordB l = true := by
  unfold leafB leafF at h
  split at h
  · simp at h
  · exact (chkF_ord l none 0 (by simpa using h)).1
theorem ordB_drop : ∀ (k : Nat) (l : List It), ordB l = true → ordB (l.drop k) = true
  | 0, l, h => h
  | k + 1, [], h => rfl
  | k + 1, [x], h => by simp [ordB]
  | k + 1, x :: y :: l, h => by
    simp only [ordB, Bool.and_eq_true] at h
    simpa using ordB_drop k (y :: l) h.2
theorem cutF_back {l : List It} (ho : ∀ x ∈ l, ItOk x) (hl : leafB l = true) (j : Nat) (hj : 8 * j < l.length) : cutF (-1) (chunkN l j) = ((l.drop (8 * j)).take 8, 0) := by
  have hm := (leafB_may hl).2
  have hn : ((l.drop (8 * j)).take 8).length = min 8 (l.length - 8 * j) := by rw [List.length_take, List.length_drop]
  have hsub : ∀ x, x ∈ (l.drop (8 * j)).take 8 → x ∈ l := fun x hx => List.mem_of_mem_drop (List.mem_of_mem_take hx)
  have hb := itemsF_back ((l.drop (8 * j)).take 8) [] (fun x hx => ho x (hsub x hx)) (fun x hx => hm x (hsub x hx))
  rw [List.append_nil, hn] at hb
  have hc : (UInt8.ofNat (min 8 (l.length - 8 * j))).toNat = min 8 (l.length - 8 * j) := by simp; omega
  unfold chunkN
  rw [cutF_items (q := ((l.drop (8 * j)).take 8, [], 0)) (by rw [hc]; exact hb)]
  dsimp only
  rw [if_neg (by simp), if_neg (by rw [List.all_eq_true.2 (fun x hx => hm x (hsub x hx))]; simp), if_neg (by rw [ordB_pre _ 8 (ordB_drop (8 * j) l (leafB_ord hl))]; simp), if_neg (by rw [hn]; omega), if_neg (by simp)]
theorem chunks_at {l : List It} {j : Nat} {d : List UInt8} (h : (chunksF l)[j]? = some d) : 8 * j < l.length ∧ d = chunkN l j := by
  unfold chunksF at h
  rw [List.getElem?_map] at h
  obtain ⟨i, hi, rfl⟩ := Option.map_eq_some_iff.1 h
  obtain ⟨hlt, he⟩ := List.getElem?_eq_some_iff.1 hi
  simp at hlt he
  subst he
  exact ⟨by omega, rfl⟩
theorem itsOf_range {l : List It} (ho : ∀ x ∈ l, ItOk x) (hl : leafB l = true) : ∀ k, k ≤ (l.length + 7) / 8 → itsOf ((List.range k).map (chunkN l)) = l.take (8 * k)
  | 0, _ => by simp [itsOf]
  | k + 1, hk => by
    have ih := itsOf_range ho hl k (by omega)
    rw [range_snoc]
    have e : itsOf ((List.range k).map (chunkN l) ++ [chunkN l k]) = itsOf ((List.range k).map (chunkN l)) ++ (cutF (-1) (chunkN l k)).1 := by unfold itsOf; simp
    rw [e, ih, cutF_back ho hl k (by omega)]
    dsimp only
    rw [show 8 * (k + 1) = 8 * k + 8 by omega, List.take_add]
/-- the leaf of a leaf's chunks is that leaf -/
theorem leafOfF_chunks {l : List It} (ho : ∀ x ∈ l, ItOk x) (hl : leafB l = true) : leafOfF (chunksF l) = (l, 0, 0) := by
  have hok : ∀ (j : Nat) d, (chunksF l)[j]? = some d → (cutF (-1) d).2 = 0 := fun j d hd => by
    obtain ⟨h1, rfl⟩ := chunks_at hd
    rw [cutF_back ho hl j h1]
  have hlen : (chunksF l).length = (l.length + 7) / 8 := by unfold chunksF; simp
  rw [leafOfF_ok hlen (fun j d _ hd => hok j d hd)]
  have hs : shN (lenAt (chunksF l)) ((l.length + 7) / 8) ((l.length + 7) / 8) = -1 := by
    apply shN_none
    intro j hj
    obtain ⟨d, hd⟩ : ∃ d, (chunksF l)[j]? = some d := ⟨_, List.getElem?_eq_getElem (by omega)⟩
    rw [lenAt_some hd]
    obtain ⟨h1, rfl⟩ := chunks_at hd
    rw [cutF_back ho hl j h1]
    simp only [List.length_take, List.length_drop]
    omega
  have hi : itsOf (chunksF l) = l := by
    unfold chunksF
    rw [itsOf_range ho hl _ (Nat.le_refl _)]
    exact List.take_of_length_le (by omega)
  rw [hs, if_neg (by omega), hi, if_neg]
  unfold leafB at hl
  simpa using hl
end Go.Proofs.YtpchohjkelopoaaGreatDoor
