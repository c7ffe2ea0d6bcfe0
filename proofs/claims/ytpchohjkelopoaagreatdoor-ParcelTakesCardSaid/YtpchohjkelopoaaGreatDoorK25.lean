/- Lemmas for the claim (texts Pw2, what its proof uses of them). -/
import Derived.Test.YtpchohjkelopoaaGreatDoorK09
import Derived.Test.YtpchohjkelopoaaGreatDoorK24
set_option linter.unusedSimpArgs false
set_option linter.unusedVariables false
namespace Go.Proofs.YtpchohjkelopoaaGreatDoor
open Go.RowKit
/-- one list goes on where the other one ends -/
def Pre (l l' : List ByteArray) : Prop := ∃ t, l' = l ++ t
theorem Pre.refl (l : List ByteArray) : Pre l l := ⟨[], by simp⟩
theorem Pre.trans {a b c : List ByteArray} (h : Pre a b) (k : Pre b c) : Pre a c := by
  obtain ⟨t, rfl⟩ := h; obtain ⟨u, rfl⟩ := k; exact ⟨t ++ u, by simp⟩
theorem idxF_app : ∀ (t l : List ByteArray) (s : ByteArray), idxF l s ≠ 0 → idxF (l ++ t) s = idxF l s
  | [], l, s, h => by simp
  | x :: t, l, s, h => by
    have e : l ++ x :: t = (l ++ [x]) ++ t := by simp
    have h1 : idxF (l ++ [x]) s = idxF l s := by rw [idxF_snoc, if_neg h]
    rw [e, idxF_app t (l ++ [x]) s (by rw [h1]; exact h), h1]
theorem Pre.idx {l l' : List ByteArray} (h : Pre l l') {s : ByteArray} (hs : idxF l s ≠ 0) : idxF l' s = idxF l s := by
  obtain ⟨t, rfl⟩ := h; exact idxF_app t l s hs
theorem ofF_ok {l : List ByteArray} (s : ByteArray) (hl : l.length < 65536) : (ofF l s).2.2 = 0 := by
  unfold ofF
  split
  · rfl
  · rw [if_neg (by omega)]
theorem ofF_pre (l : List ByteArray) (s : ByteArray) : Pre l (ofF l s).1 := by
  unfold ofF
  split
  · exact Pre.refl _
  · split
    · exact Pre.refl _
    · exact ⟨[s], rfl⟩
theorem ofF_idx {l : List ByteArray} {s : ByteArray} (h : (ofF l s).2.2 = 0) : idxF (ofF l s).1 s = (ofF l s).2.1 ∧ (ofF l s).2.1 ≠ 0 := by
  unfold ofF at h ⊢
  split at h
  · next h1 => rw [if_pos h1]; exact ⟨rfl, h1⟩
  · next h1 =>
    have h1 : idxF l s = 0 := by simpa using h1
    split at h
    · simp at h
    · next h2 =>
      rw [if_neg (by simpa using h1), if_neg h2]
      exact ⟨by rw [idxF_snoc, if_pos h1, if_pos rfl], by simp⟩
theorem ofAll_pre : ∀ (cs l : List ByteArray), Pre l (ofAll l cs).1
  | [], l => Pre.refl l
  | c :: cs, l => by
    have h1 := ofF_pre l c
    have h2 := ofAll_pre cs (ofF l c).1
    unfold ofAll
    split
    · exact h1
    · split
      · exact h1.trans h2
      · exact h1.trans h2
theorem ofAll_idx : ∀ (cs l : List ByteArray), (ofAll l cs).2.2 = 0 → (ofAll l cs).2.1 = cs.map (fun c => (idxF (ofAll l cs).1 c : Int)) ∧ ∀ c ∈ cs, idxF (ofAll l cs).1 c ≠ 0
  | [], l, _ => ⟨rfl, fun c hc => by simp at hc⟩
  | c :: cs, l, h => by
    unfold ofAll at h ⊢
    split at h
    · next h1 => exact absurd h h1
    · next h1 =>
      split at h
      · next h2 => exact absurd h h2
      · next h2 =>
        rw [if_neg h1, if_neg h2]
        have h1 : (ofF l c).2.2 = 0 := by simpa using h1
        have h2 : (ofAll (ofF l c).1 cs).2.2 = 0 := by simpa using h2
        obtain ⟨a1, a2⟩ := ofAll_idx cs (ofF l c).1 h2
        obtain ⟨b1, b2⟩ := ofF_idx h1
        have hp := ofAll_pre cs (ofF l c).1
        have hc := hp.idx (s := c) (by rw [b1]; exact b2)
        dsimp only
        refine ⟨?_, fun d hd => ?_⟩
        · rw [List.map_cons, ← a1, hc, b1]
        · rcases List.mem_cons.1 hd with rfl | hd
          · rw [hc, b1]; exact b2
          · exact a2 d hd
theorem ofAll_ok : ∀ (cs l : List ByteArray), l.length + cs.length < 65536 → (ofAll l cs).2.2 = 0
  | [], l, _ => rfl
  | c :: cs, l, h => by
    simp only [List.length_cons] at h
    have h1 := ofF_ok (l := l) c (by omega)
    have h2 := ofAll_ok cs (ofF l c).1 (by have := (ofF_len l c).1; omega)
    unfold ofAll
    rw [if_neg (by simpa using h1), if_neg (by simpa using h2)]
/-- a leaf's text, in a list of texts -/
def leafS (l : List ByteArray) (items : List It) (ver : Int) : ByteArray := ⟨(digF (ver :: (bas (chunksF items)).map (fun c => (idxF l c : Int)))).toArray⟩
/-- a leaf has a number in a list of texts -/
def LfNum (l : List ByteArray) (n : Nat) (items : List It) (ver : Int) : Prop :=
  n ≠ 0 ∧ idxF l (leafS l items ver) = n ∧ ∀ c ∈ bas (chunksF items), idxF l c ≠ 0
theorem LfNum.pre {l l' : List ByteArray} {n : Nat} {items : List It} {ver : Int} (h : LfNum l n items ver) (hp : Pre l l') : LfNum l' n items ver := by
  obtain ⟨h1, h2, h3⟩ := h
  have e : leafS l' items ver = leafS l items ver := by
    unfold leafS
    rw [List.map_congr_left (fun c hc => by rw [hp.idx (h3 c hc)])]
  exact ⟨h1, by rw [e, hp.idx (by rw [h2]; exact h1), h2], fun c hc => by rw [hp.idx (h3 c hc)]; exact h3 c hc⟩
theorem map_idx_inj (l : List ByteArray) : ∀ (a b : List ByteArray), (∀ c ∈ a, idxF l c ≠ 0) → a.map (fun c => (idxF l c : Int)) = b.map (fun c => (idxF l c : Int)) → a = b
  | [], [], _, _ => rfl
  | [], _ :: _, _, h => by simp at h
  | _ :: _, [], _, h => by simp at h
  | x :: a, y :: b, h0, h => by
    simp only [List.map_cons, List.cons.injEq] at h
    rw [idxF_inj l x y (by omega) (h0 x (by simp)), map_idx_inj l a b (fun c hc => h0 c (by simp [hc])) h.2]
theorem bas_inj : ∀ (a b : List (List UInt8)), bas a = bas b → a = b
  | [], [], _ => rfl
  | [], _ :: _, h => by simp [bas] at h
  | _ :: _, [], h => by simp [bas] at h
  | x :: a, y :: b, h => by
    simp only [bas, List.map_cons, List.cons.injEq] at h
    have e := congrArg (fun z : ByteArray => z.data.toList) h.1
    simp only at e
    rw [show x = y by simpa using e, bas_inj a b h.2]
/-- the number says the leaf -/
theorem LfNum.inj {l : List ByteArray} {n : Nat} {a b : List It} {va vb : Int} (h : LfNum l n a va) (k : LfNum l n b vb) (ha : leafB a = true) (hoa : ∀ x ∈ a, ItOk x) (hb : leafB b = true) (hob : ∀ x ∈ b, ItOk x) : a = b ∧ va = vb := by
  obtain ⟨h1, h2, h3⟩ := h
  obtain ⟨k1, k2, k3⟩ := k
  have e := idxF_inj l _ _ (h2.trans k2.symm) (by rw [h2]; exact h1)
  have e2 := dig_ba _ _ e
  simp only [List.cons.injEq] at e2
  have e3 := bas_inj _ _ (map_idx_inj l _ _ h3 e2.2)
  have q1 := leafOfF_chunks hoa ha
  have q2 := leafOfF_chunks hob hb
  rw [e3, q2] at q1
  exact ⟨(Prod.mk.inj q1).1.symm, e2.1⟩
/-- a leaf has one number -/
theorem LfNum.uniq {l : List ByteArray} {n m : Nat} {a : List It} {va : Int} (h : LfNum l n a va) (k : LfNum l m a va) : n = m := h.2.1.symm.trans k.2.1
theorem leafT_pre (l : List ByteArray) (a : List It) (va : Int) : Pre l (leafT l a va).1 := by
  unfold leafT
  split
  · exact ofAll_pre _ _
  · exact (ofAll_pre _ _).trans (ofF_pre _ _)
theorem leafT_num {l : List ByteArray} {a : List It} {va : Int} (h : (leafT l a va).2.2 = 0) : LfNum (leafT l a va).1 (leafT l a va).2.1 a va := by
  unfold leafT at h ⊢
  split at h
  · next h1 => exact absurd h h1
  · next h1 =>
    rw [if_neg h1]
    obtain ⟨a1, a2⟩ := ofAll_idx (bas (chunksF a)) l (by simpa using h1)
    obtain ⟨b1, b2⟩ := ofF_idx h
    have hp := ofF_pre (ofAll l (bas (chunksF a))).1 ⟨(digF (va :: (ofAll l (bas (chunksF a))).2.1)).toArray⟩
    refine ⟨b2, ?_, fun c hc => by rw [hp.idx (a2 c hc)]; exact a2 c hc⟩
    have e : leafS (ofF (ofAll l (bas (chunksF a))).1 ⟨(digF (va :: (ofAll l (bas (chunksF a))).2.1)).toArray⟩).1 a va = ⟨(digF (va :: (ofAll l (bas (chunksF a))).2.1)).toArray⟩ := by
      unfold leafS
      conv => rhs; rw [a1]
      rw [List.map_congr_left (fun c hc => by rw [hp.idx (a2 c hc)])]
    rw [e]; exact b1
theorem leafT_ok {l : List ByteArray} {a : List It} {va : Int} (h64 : a.length ≤ 64) (h : l.length + 9 < 65536) : (leafT l a va).2.2 = 0 := by
  have h2 : (bas (chunksF a)).length ≤ 8 := by unfold bas chunksF; simp; omega
  have h1 := ofAll_ok (bas (chunksF a)) l (by omega)
  unfold leafT
  rw [if_neg (by simpa using h1)]
  exact ofF_ok _ (by have := (ofAll_len (bas (chunksF a)) l).1; omega)
theorem leavesT_all (T : Nat → List It) (V : Nat → Int) : ∀ (bs : List Nat) (l : List ByteArray), (∀ b ∈ bs, (T b).length ≤ 64) → l.length + 9 * bs.length < 65536 →
    (leavesT T V bs l).2.2 = 0 ∧ (leavesT T V bs l).1.length ≤ l.length + 9 * bs.length ∧ Pre l (leavesT T V bs l).1 ∧ ∀ (i b : Nat) (n : Int), bs[i]? = some b → (leavesT T V bs l).2.1[i]? = some n → ∃ m : Nat, n = (m : Int) ∧ LfNum (leavesT T V bs l).1 m (T b) (V b)
  | [], l, _, _ => ⟨rfl, by simp [leavesT], Pre.refl l, fun i b n hi _ => by simp at hi⟩
  | b :: bs, l, h64, hl => by
    simp only [List.length_cons] at hl ⊢
    have h1 := leafT_ok (l := l) (va := V b) (h64 b (by simp)) (by omega)
    have h2 := leafT_len l (T b) (V b) (h64 b (by simp))
    have h3 := leafT_pre l (T b) (V b)
    have h4 := leafT_num h1
    obtain ⟨a1, a2, a3, a4⟩ := leavesT_all T V bs (leafT l (T b) (V b)).1 (fun c hc => h64 c (by simp [hc])) (by omega)
    unfold leavesT
    rw [if_neg (by simpa using h1), if_neg (by simpa using a1)]
    dsimp only
    refine ⟨rfl, by omega, h3.trans a3, fun i c n hi hn => ?_⟩
    cases i with
    | zero =>
      simp at hi hn
      subst hi hn
      exact ⟨_, rfl, h4.pre a3⟩
    | succ i => exact a4 i c n (by simpa using hi) (by simpa using hn)
/-- items that are cut are such as texts and numbers can say -/
theorem itemsF_itok : ∀ (n : Nat) (l : List UInt8), ∀ x ∈ (itemsF (-1) n l).1, ItOk x
  | 0, l, x, hx => by simp [itemsF] at hx
  | n + 1, l, x, hx => by
    unfold itemsF at hx
    split at hx
    · simp at hx
    · next h1 =>
      split at hx
      · simp at hx
      · rcases List.mem_cons.1 hx with rfl | hx
        · exact (itemF_len rfl (by simpa using h1) ⟨by decide, by decide⟩).2
        · exact itemsF_itok n _ x hx
theorem cutF_itok (c : List UInt8) : ∀ x ∈ (cutF (-1) c).1, ItOk x := by
  cases c with
  | nil => intro x hx; simp [cutF] at hx
  | cons c t =>
    intro x hx
    rw [cutF_items rfl] at hx
    (repeat' split at hx)
    all_goals first | (simp at hx; done) | exact itemsF_itok _ _ x hx
theorem leafOfF_itok (L : List (List UInt8)) : ∀ x ∈ (leafOfF L).1, ItOk x := by
  intro x hx
  unfold leafOfF at hx
  (repeat' split at hx)
  all_goals first
    | (simp at hx; done)
    | (unfold itsOf at hx; obtain ⟨c, _, hc⟩ := List.mem_flatMap.1 hx; exact cutF_itok c x hc)
theorem bas_txt (L : List (List UInt8)) : (bas L).map txt = L := by
  unfold bas txt
  rw [List.map_map]
  conv => rhs; rw [← List.map_id L]
  exact List.map_congr_left fun c _ => by simp
/-- a crate on its way to a store: what it has is the store's -/
structure Way (l : List ByteArray) (T : Nat → List It) (V : Nat → Int) (x : Cr) : Prop where
  num : ∀ k, k < 16 → ∃ n : Nat, x.m.L k = (n : Int) ∧ LfNum l n (T k) (V k)
  has : ∀ k, k < 16 → x.g k = true → x.T k = T k ∧ x.V k = V k
  not : ∀ k, k < 16 → x.g k = false → x.T k = [] ∧ x.V k = 0
theorem Way.pre {l l' : List ByteArray} {T : Nat → List It} {V : Nat → Int} {x : Cr} (h : Way l T V x) (hp : Pre l l') : Way l' T V x :=
  ⟨fun k hk => by obtain ⟨n, e, q⟩ := h.num k hk; exact ⟨n, e, q.pre hp⟩, h.has, h.not⟩
/-- a store's leaves -/
structure Own (T : Nat → List It) (V : Nat → Int) : Prop where
  ok : ∀ k, k < 16 → ∀ x ∈ T k, ItOk x
  fits : ∀ k : Nat, k < 16 → fitsB (k : Int) (T k) (V k) = true
theorem Own.leaf {T : Nat → List It} {V : Nat → Int} (h : Own T V) (k : Nat) (hk : k < 16) : leafB (T k) = true ∧ 0 ≤ V k ∧ V k ≤ 2147483647 := by
  have := fits_parts (h.fits k hk)
  exact this
theorem mani_way {l : List ByteArray} {T : Nat → List It} {V : Nat → Int} (hT : Own T V) (hl : l.length ≤ 60000) (a b c : Int) :
    (maniF l T V a b c).2.2 = 0 ∧ (maniF l T V a b c).1.length ≤ l.length + 144 ∧ (maniF l T V a b c).2.1.a = a ∧ (maniF l T V a b c).2.1.b = b ∧ (maniF l T V a b c).2.1.c = c ∧ ∀ k, k < 16 → ∃ n : Nat, (maniF l T V a b c).2.1.L k = (n : Int) ∧ LfNum (maniF l T V a b c).1 n (T k) (V k) := by
  obtain ⟨h1, h2, h3, h4⟩ := leavesT_all T V (List.range 16) l (fun k hk => (leafB_may (hT.leaf k (by simpa using hk)).1).1) (by simp; omega)
  have hn := leavesT_len T V (List.range 16) l h1
  simp only [List.length_range] at h2 hn
  unfold maniF
  rw [if_neg (by simpa using h1)]
  dsimp only
  refine ⟨rfl, by omega, rfl, rfl, rfl, fun k hk => ?_⟩
  obtain ⟨z, hz⟩ : ∃ z, (leavesT T V (List.range 16) l).2.1[k]? = some z := ⟨_, List.getElem?_eq_getElem (by omega)⟩
  obtain ⟨m, rfl, q⟩ := h4 k k z (by simp [hk]) hz
  exact ⟨m, by simp [nsF, hz], q⟩
theorem begin_way {l : List ByteArray} {T T2 : Nat → List It} {V V2 : Nat → Int} {m : Mf} (hT : Own T V) (hT2 : Own T2 V2) (hl : l.length ≤ 60000) (hm : ∀ k, k < 16 → ∃ n : Nat, m.L k = (n : Int) ∧ LfNum l n (T k) (V k)) :
    (beginF l m T2 V2).2.2 = 0 ∧ (beginF l m T2 V2).1.length ≤ l.length + 144 ∧ (beginF l m T2 V2).2.1.m = m ∧ Way (beginF l m T2 V2).1 T V (beginF l m T2 V2).2.1 := by
  obtain ⟨h1, h2, h3, h4⟩ := leavesT_all T2 V2 (List.range 16) l (fun k hk => (leafB_may (hT2.leaf k (by simpa using hk)).1).1) (by simp; omega)
  have hn := leavesT_len T2 V2 (List.range 16) l h1
  simp only [List.length_range] at h2 hn
  unfold beginF
  rw [if_neg (by simpa using h1)]
  dsimp only
  refine ⟨rfl, by omega, rfl, ⟨fun k hk => ?_, fun k hk hg => ?_, fun k hk hg => ?_⟩⟩
  · obtain ⟨n, e, q⟩ := hm k hk
    exact ⟨n, e, q.pre h3⟩
  · dsimp only at hg ⊢
    obtain ⟨z, hz⟩ : ∃ z, (leavesT T2 V2 (List.range 16) l).2.1[k]? = some z := ⟨_, List.getElem?_eq_getElem (by omega)⟩
    obtain ⟨i, rfl, q⟩ := h4 k k z (by simp [hk]) hz
    obtain ⟨n, e, q2⟩ := hm k hk
    have he : (i : Int) = (n : Int) := by
      have := hg
      simp only [gotG, hz, beq_iff_eq] at this
      rw [this, e]
    obtain rfl : i = n := by omega
    obtain ⟨e1, e2⟩ := q.inj (q2.pre h3) (hT2.leaf k hk).1 (hT2.ok k hk) (hT.leaf k hk).1 (hT.ok k hk)
    simp only [haveT, haveV, hg, if_true]
    exact ⟨e1, e2⟩
  · dsimp only at hg ⊢
    simp [haveT, haveV, hg]
theorem begin_got {l : List ByteArray} {T T2 : Nat → List It} {V V2 : Nat → Int} {m : Mf} (hT : Own T V) (hT2 : Own T2 V2) (hl : l.length ≤ 60000) (hm : ∀ k, k < 16 → ∃ n : Nat, m.L k = (n : Int) ∧ LfNum l n (T k) (V k)) (k : Nat) (hk : k < 16) :
    (beginF l m T2 V2).2.1.g k = true ↔ T2 k = T k ∧ V2 k = V k := by
  obtain ⟨h1, h2, h3, h4⟩ := leavesT_all T2 V2 (List.range 16) l (fun k hk => (leafB_may (hT2.leaf k (by simpa using hk)).1).1) (by simp; omega)
  have hn := leavesT_len T2 V2 (List.range 16) l h1
  simp only [List.length_range] at h2 hn
  unfold beginF
  rw [if_neg (by simpa using h1)]
  dsimp only
  obtain ⟨z, hz⟩ : ∃ z, (leavesT T2 V2 (List.range 16) l).2.1[k]? = some z := ⟨_, List.getElem?_eq_getElem (by omega)⟩
  obtain ⟨i, rfl, q⟩ := h4 k k z (by simp [hk]) hz
  obtain ⟨n, e, q2⟩ := hm k hk
  constructor
  · intro hg
    have he : (i : Int) = (n : Int) := by
      have := hg
      simp only [gotG, hz, beq_iff_eq] at this
      rw [this, e]
    obtain rfl : i = n := by omega
    exact q.inj (q2.pre h3) (hT2.leaf k hk).1 (hT2.ok k hk) (hT.leaf k hk).1 (hT.ok k hk)
  · rintro ⟨e1, e2⟩
    rw [e1, e2] at q
    have := q.uniq (q2.pre h3)
    simp only [gotG, hz, beq_iff_eq]
    rw [e, this]
theorem Way.fits {l : List ByteArray} {T : Nat → List It} {V : Nat → Int} {x : Cr} (h : Way l T V x) (hT : Own T V) : trunkB x.T x.V = true := trunk_yes fun k hk => by
  cases hg : x.g k with
  | true => rw [(h.has k hk hg).1, (h.has k hk hg).2]; exact hT.fits k hk
  | false => rw [(h.not k hk hg).1, (h.not k hk hg).2]; rfl
theorem upd_at {α : Type} (f : Nat → α) (k : Nat) (x : α) : upd f k x k = x := by simp [upd]
theorem upd_ne {α : Type} (f : Nat → α) {k j : Nat} (x : α) (h : j ≠ k) : upd f k x j = f j := by simp [upd, h]
theorem Way.put {l : List ByteArray} {T : Nat → List It} {V : Nat → Int} {x : Cr} (h : Way l T V x) (k : Nat) : Way l T V (x.put k (T k) (V k)) := by
  refine ⟨h.num, fun j hj hg => ?_, fun j hj hg => ?_⟩
  · unfold Cr.put at hg ⊢
    dsimp only at hg ⊢
    by_cases e : j = k
    · subst e; rw [upd_at, upd_at]; exact ⟨rfl, rfl⟩
    · rw [upd_ne _ _ e] at hg ⊢; rw [upd_ne _ _ e]; exact h.has j hj hg
  · unfold Cr.put at hg ⊢
    dsimp only at hg ⊢
    by_cases e : j = k
    · subst e; rw [upd_at] at hg; cases hg
    · rw [upd_ne _ _ e] at hg ⊢; rw [upd_ne _ _ e]; exact h.not j hj hg
/-- a parcel, whatever it is: the crate is on its way still -/
theorem take_way {l : List ByteArray} {T : Nat → List It} {V : Nat → Int} {x : Cr} (h : Way l T V x) (hT : Own T V) (bk ver : Int) (ts : List ByteArray) :
    Way (takeF l x bk ver ts).1 T V x ∧ (takeF l x bk ver ts).1.length ≤ l.length + 9 ∧ ((takeF l x bk ver ts).2.2 = 0 → Way (takeF l x bk ver ts).1 T V (takeF l x bk ver ts).2.1 ∧ (takeF l x bk ver ts).2.1.m = x.m ∧ ∀ j, x.g j = true → (takeF l x bk ver ts).2.1.g j = true) := by
  unfold takeF
  split
  · exact ⟨h, by simp, fun q => by simp at q⟩
  next hb =>
  split
  · exact ⟨h, by simp, fun q => by simp at q⟩
  next hg =>
  split
  · exact ⟨h, by simp, fun q => by simp at q⟩
  next hi =>
  simp only [Bool.not_eq_false, Bool.and_eq_true, beq_iff_eq, decide_eq_true_eq] at hi
  have fl := leafOfF_leafB hi.1.1
  have h64 := (leafB_may fl).1
  have hp := leafT_pre l (leafOfF (ts.map txt)).1 ver
  have hl := (leafT_len l (leafOfF (ts.map txt)).1 ver h64).1
  split
  · next he => exact ⟨h.pre hp, hl, fun q => absurd q he⟩
  next he =>
  have hn := leafT_num (by simpa using he)
  split
  · exact ⟨h.pre hp, hl, fun q => by simp at q⟩
  next hq =>
  split
  · exact ⟨h.pre hp, hl, fun q => by simp at q⟩
  refine ⟨h.pre hp, hl, fun _ => ?_⟩
  obtain ⟨k, rfl⟩ : ∃ k : Nat, bk = (k : Int) := ⟨bk.toNat, by omega⟩
  have hk : k < 16 := by omega
  simp only [Int.toNat_natCast] at hq ⊢
  have hq : ((leafT l (leafOfF (ts.map txt)).1 ver).2.1 : Int) = x.m.L k := by simpa using hq
  obtain ⟨n, e, q⟩ := (h.pre hp).num k hk
  have en : (leafT l (leafOfF (ts.map txt)).1 ver).2.1 = n := by omega
  rw [en] at hn
  obtain ⟨e1, e2⟩ := hn.inj q fl (leafOfF_itok _) (hT.leaf k hk).1 (hT.ok k hk)
  rw [e1, e2]
  rw [e1, e2] at hp
  refine ⟨(h.pre hp).put k, rfl, fun j hj => ?_⟩
  unfold Cr.put
  dsimp only
  by_cases ej : j = k
  · subst ej; rw [upd_at]
  · rw [upd_ne _ _ ej]; exact hj
/-- the store's own parcel is taken, or it is there -/
theorem take_own {l : List ByteArray} {T : Nat → List It} {V : Nat → Int} {x : Cr} (h : Way l T V x) (hT : Own T V) (hl : l.length ≤ 60000) (k : Nat) (hk : k < 16) :
    ((takeF l x (k : Int) (V k) (bas (chunksF (T k)))).2.2 = 16 ∧ x.g k = true) ∨ ((takeF l x (k : Int) (V k) (bas (chunksF (T k)))).2.2 = 0 ∧ (takeF l x (k : Int) (V k) (bas (chunksF (T k)))).2.1.g k = true) := by
  obtain ⟨fl, h0, h1⟩ := hT.leaf k hk
  have etx : (bas (chunksF (T k))).map txt = chunksF (T k) := bas_txt _
  have elf := leafOfF_chunks (hT.ok k hk) fl
  have h64 := (leafB_may fl).1
  have he := leafT_ok (l := l) (va := V k) h64 (by omega)
  unfold takeF
  rw [if_neg (by omega), Int.toNat_natCast, etx, elf]
  cases hg : x.g k with
  | true => rw [if_pos rfl]; exact Or.inl ⟨rfl, rfl⟩
  | false =>
    rw [if_neg (by simp)]
    dsimp only
    rw [if_neg (by simp [h0, h1]), if_neg (by simpa using he)]
    obtain ⟨n, e, q⟩ := (h.pre (leafT_pre l (T k) (V k))).num k hk
    have hn := (leafT_num he).uniq q
    rw [hn, if_neg (by simp [e]), h.fits hT, hT.fits k hk, if_neg (by simp)]
    right
    refine ⟨rfl, ?_⟩
    unfold Cr.put
    dsimp only
    rw [upd_at]
/-- of another version it is forged -/
theorem take_forged {l : List ByteArray} {T : Nat → List It} {V : Nat → Int} {x : Cr} (h : Way l T V x) (hT : Own T V) (hl : l.length ≤ 60000) (k : Nat) (hk : k < 16) (hg : x.g k = false) (ver : Int) (h0 : 0 ≤ ver) (h1 : ver ≤ 2147483647) (hne : ver ≠ V k) :
    (takeF l x (k : Int) ver (bas (chunksF (T k)))).2 = (Cr.none, 19) := by
  obtain ⟨fl, _, _⟩ := hT.leaf k hk
  have etx : (bas (chunksF (T k))).map txt = chunksF (T k) := bas_txt _
  have elf := leafOfF_chunks (hT.ok k hk) fl
  have h64 := (leafB_may fl).1
  have he := leafT_ok (l := l) (va := ver) h64 (by omega)
  unfold takeF
  rw [if_neg (by omega), Int.toNat_natCast, etx, elf, hg, if_neg (by simp)]
  dsimp only
  rw [if_neg (by simp [h0, h1]), if_neg (by simpa using he)]
  obtain ⟨n, e, q⟩ := (h.pre (leafT_pre l (T k) ver)).num k hk
  rw [if_pos]
  rw [e]
  intro hn
  have hn : (leafT l (T k) ver).2.1 = n := by omega
  have q2 := leafT_num he
  rw [hn] at q2
  exact hne (q2.inj q fl (hT.ok k hk) fl (hT.ok k hk)).2
/-- once all is there the store is that store -/
theorem done_way {l : List ByteArray} {T : Nat → List It} {V : Nat → Int} {x : Cr} (h : Way l T V x) (hg : ∀ k, k < 16 → x.g k = true) (a b c : Int) (hs : storeB T V a b c = true) :
    needK x.g 16 = [] ∧ doneF a b c x.g x.T x.V = (⟨x.T, x.V, a, b, c⟩, 0) ∧ (∀ k, k < 16 → x.T k = T k ∧ x.V k = V k) := by
  have e : ∀ k, k < 16 → x.T k = T k ∧ x.V k = V k := fun k hk => h.has k hk (hg k hk)
  have hn := needK_all (g := x.g) 16 hg
  refine ⟨hn, ?_, e⟩
  have hs2 : storeB x.T x.V a b c = true := by
    rw [← hs]
    have w : ∀ n, n ≤ 16 → wtK x.T n = wtK T n := by
      intro n
      induction n with
      | zero => intro _; rfl
      | succ n ih => intro hn; unfold wtK; rw [ih (by omega), (e n (by omega)).1]
    have c' : ∀ n, n ≤ 16 → ctK x.T n = ctK T n := by
      intro n
      induction n with
      | zero => intro _; rfl
      | succ n ih => intro hn; unfold ctK; rw [ih (by omega), (e n (by omega)).1]
    have v : versB x.V a = versB V a := by
      unfold versB
      rw [Bool.eq_iff_iff, List.all_eq_true, List.all_eq_true]
      constructor
      · intro q k hk; have := q k hk; rw [(e k (by simpa using hk)).2] at this; exact this
      · intro q k hk; have := q k hk; rw [(e k (by simpa using hk)).2]; exact this
    have t : trunkB x.T x.V = trunkB T V := by
      unfold trunkB
      rw [Bool.eq_iff_iff, List.all_eq_true, List.all_eq_true]
      constructor
      · intro q k hk; have := q k hk; rw [(e k (by simpa using hk)).1, (e k (by simpa using hk)).2] at this; exact this
      · intro q k hk; have := q k hk; rw [(e k (by simpa using hk)).1, (e k (by simpa using hk)).2]; exact this
    rw [storeB_eq, storeB_eq, w 16 (by omega), c' 16 (by omega), v, t]
  unfold doneF
  rw [if_neg (by rw [hn]; simp), if_pos hs2]
end Go.Proofs.YtpchohjkelopoaaGreatDoor
