/- Plain: of every program what a node has stands ahead of it: statements, blocks, the program. -/
import Derived.Test.YtoaaklcbcbjaiaaParO
set_option linter.unusedSimpArgs false
set_option linter.unusedVariables false
namespace Go.Proofs.Ytoaaklcbcbjaiaa
open Go.RowKit

section
variable (L : Toks)
theorem cntL_blk (v k : Int) (hk : 0 ≤ k) : cntL (blkOut v) k = one1 v k := by
  unfold blkOut
  by_cases h : v = -1
  · rw [if_pos h, h, one1_neg k hk]; rfl
  · rw [if_neg h, cntL_cons, cntL_nil, Nat.add_zero]
theorem mem_blk (v : Int) : v = -1 ∨ v ∈ blkOut v := by
  unfold blkOut
  by_cases h : v = -1
  · exact Or.inl h
  · rw [if_neg h]; exact Or.inr (by simp)
theorem Val.blk {p : PM Int} (h : Val p) : Blk p := by
  intro m n v m1 ns hp hw
  obtain ⟨o, w, c, s⟩ := h m n v m1 ns hp hw
  have hv := w v (by simp)
  have e : blkOut v = [v] := by unfold blkOut; rw [if_neg (by omega)]
  rw [e]; exact ⟨o, w, c, s⟩
theorem Val.skip {f : Unit → PM Int} (h : ∀ u, Val (f u)) : Val (pbind skipP f) := Inv.bind (Inv.quiet quiet_skip []) fun u => h u
theorem Inv.skip {α : Type} {β : Type} {p : PM α} {f : α → PM β} {fr : List Int} {pout : β → List Int} (hp : ∀ m n v m1 ns, p m n = .ok (v, m1, ns) → ns = []) (hf : ∀ a, Inv (f a) fr pout) : Inv (pbind p f) fr pout := Inv.bind (Inv.quiet hp fr) hf
variable {ex br : PM Int}
theorem Val.names (k : Int) (he : Val ex) : Val (namesP L k ex) :=
  Inv.skip quiet_skip fun _ => Inv.skip (quiet_of L 1) fun t => Inv.skip (quiet_must L _) fun _ => Inv.bind he fun a => Inv.skip (quiet_must L _) fun _ => Val.lay1 L _ a rfl rfl rfl rfl
theorem Val.put (he : Val ex) : Val (putP L ex) :=
  Inv.skip quiet_skip fun _ => Inv.bind he fun a => Inv.skip (quiet_must L _) fun _ => Inv.bind (pmid := fun b => [b] ++ [a]) (Inv.frame [a] he) fun b => Inv.skip (quiet_must L _) fun _ =>
    Inv.lay L _ _ rfl (Or.inr (by simp)) (Or.inr (by simp)) (Or.inl rfl) fun k hk => by
      simp only [cntL_append, cntL_cons, cntL_nil, nd, one1_neg k hk]; omega
theorem Val.simple (k : Int) (he : Val ex) : Val (simpleP L k ex) :=
  Inv.skip quiet_skip fun _ => Inv.bind he fun a => Inv.skip (quiet_must L _) fun _ => Val.lay1 L _ a rfl rfl rfl rfl
theorem Val.when (he : Val ex) (hb : Blk br) : Val (whenP L ex br) := by
  refine Inv.skip quiet_skip fun _ => Inv.bind he fun a => Inv.bind (pmid := fun b => blkOut b ++ [a]) (Inv.frame [a] hb) fun b => Inv.skip (quiet_takes L _) fun e => ?_
  by_cases h : e = true
  · rw [if_pos h]
    refine Inv.bind (pmid := fun c => blkOut c ++ (blkOut b ++ [a])) (Inv.frame _ hb) fun c => Inv.lay L _ _ rfl (Or.inr (by simp)) ?_ ?_ fun k hk => ?_
    · rcases mem_blk b with h | h
      · exact Or.inl h
      · exact Or.inr (by simp [h])
    · rcases mem_blk c with h | h
      · exact Or.inl h
      · exact Or.inr (by simp [h])
    · simp only [cntL_append, cntL_cons, cntL_nil, cntL_blk _ k hk]; omega
  · rw [if_neg h]
    refine Inv.lay L _ _ rfl (Or.inr (by simp)) ?_ (Or.inl rfl) fun k hk => ?_
    · rcases mem_blk b with h | h
      · exact Or.inl h
      · exact Or.inr (by simp [h])
    · simp only [cntL_append, cntL_cons, cntL_nil, cntL_blk _ k hk, nd, one1_neg k hk]; omega
theorem Val.each (he : Val ex) (hb : Blk br) : Val (eachP L ex br) := by
  refine Inv.skip quiet_skip fun _ => Inv.skip (quiet_of L 1) fun s => Inv.skip (quiet_must L _) fun _ => Inv.skip (quiet_of L 1) fun t => Inv.skip (quiet_must L _) fun _ => Inv.bind he fun a =>
    Inv.skip (quiet_must L _) fun _ => Inv.skip (quiet_turns L) fun i => Inv.skip (quiet_must L _) fun _ => Inv.bind (pmid := fun b => blkOut b ++ [a]) (Inv.frame [a] hb) fun b => Inv.lay L _ _ rfl (Or.inr (by simp)) ?_ (Or.inl rfl) fun k hk => ?_
  · rcases mem_blk b with h | h
    · exact Or.inl h
    · exact Or.inr (by simp [h])
  · simp only [cntL_append, cntL_cons, cntL_nil, cntL_blk _ k hk, nd, one1_neg k hk]; omega
theorem Val.repeat (hb : Blk br) : Val (repeatP L br) := by
  refine Inv.skip quiet_skip fun _ => Inv.skip (quiet_turns L) fun i => Inv.bind hb fun b => Inv.lay L _ _ rfl (Or.inl rfl) ?_ (Or.inl rfl) fun k hk => ?_
  · exact mem_blk b
  · simp only [cntL_blk _ k hk, nd, one1_neg k hk]; omega
theorem Blk.braced {bl : PM Int} (hb : Blk bl) : Blk (bracedP L bl) :=
  Inv.skip (quiet_must L _) fun _ => Inv.bind hb fun n => Inv.skip (quiet_must L _) fun _ => Inv.ok n _ _ rfl
theorem Blk.none : Blk (pok (-1)) := Inv.ok _ _ _ rfl
theorem Blk.stmt (he : Val ex) (hb : Blk br) : Blk (stmtP L ex br) := by
  intro m n v m1 ns h
  unfold stmtP at h
  split at h
  · exact Blk.none _ _ _ _ _ h
  split at h
  · exact (Val.names L _ he).blk _ _ _ _ _ h
  split at h
  · exact (Val.names L _ he).blk _ _ _ _ _ h
  split at h
  · exact (Val.put L he).blk _ _ _ _ _ h
  split at h
  · exact (Val.simple L _ he).blk _ _ _ _ _ h
  split at h
  · exact (Val.simple L _ he).blk _ _ _ _ _ h
  split at h
  · exact (Val.simple L _ he).blk _ _ _ _ _ h
  split at h
  · exact (Val.when L he hb).blk _ _ _ _ _ h
  split at h
  · exact (Val.each L he hb).blk _ _ _ _ _ h
  split at h
  · exact (Val.repeat L hb).blk _ _ _ _ _ h
  · exact Blk.none _ _ _ _ _ h
end

theorem setNext_at (l : List Nd) (j i : Nat) (v : Int) : (setNext l j v)[i]? = if i = j then (l[i]?).map (fun z => { z with x := v }) else l[i]? := by
  unfold setNext
  rw [List.getElem?_modify]
  by_cases h : i = j
  · subst h; simp
  · have h2 : ¬ j = i := fun e => h e.symm
    simp [h, h2]
theorem cnt_setNext : ∀ (l : List Nd) (j : Nat) (v k : Int), 0 ≤ k → (∃ z, l[j]? = some z ∧ z.x = -1) → cnt (setNext l j v) k = cnt l k + one1 v k
  | [], j, v, k, _, ⟨z, hz, _⟩ => by simp at hz
  | y :: l, 0, v, k, hk, ⟨z, hz, hx⟩ => by
    simp at hz
    subst hz
    have e1 : setNext (y :: l) 0 v = { y with x := v } :: l := by simp [setNext]
    have e2 : ∀ z l, cnt (z :: l) k = refs z k + cnt l k := fun z l => by simp [cnt]
    rw [e1, e2, e2]
    unfold refs
    rw [hx, one1_neg k hk]
    dsimp only
    omega
  | y :: l, j + 1, v, k, hk, ⟨z, hz, hx⟩ => by
    have e1 : setNext (y :: l) (j + 1) v = y :: setNext l j v := by simp [setNext]
    have e2 : ∀ z l, cnt (z :: l) k = refs z k + cnt l k := fun z l => by simp [cnt]
    rw [e1, e2, e2, cnt_setNext l j v k hk ⟨z, by simpa using hz, hx⟩]
    omega
/-- what holds of a block that is under way -/
structure Way (n : Nat) (first last : Int) (acc : List Nd) : Prop where
  ord : Ord n acc
  none : first = -1 → acc = []
  one : first ≠ -1 → (n : Int) ≤ first ∧ first < (n : Int) + acc.length ∧ (n : Int) ≤ last ∧ last < (n : Int) + acc.length ∧ ∃ z, acc[(last - n).toNat]? = some z ∧ z.x = -1
  cnt : ∀ k, 0 ≤ k → cnt acc k + one1 first k = inR n acc.length k
  few : n ≤ 512 → n + acc.length ≤ 512
theorem Ord.last {n : Nat} {ns : List Nd} (h : Ord n ns) (hl : 0 < ns.length) : ∃ z, ns[ns.length - 1]? = some z ∧ z.x = -1 := by
  obtain ⟨z, hz⟩ : ∃ z, ns[ns.length - 1]? = some z := ⟨_, List.getElem?_eq_getElem (by omega)⟩
  refine ⟨z, hz, ?_⟩
  obtain ⟨_, _, _, h4⟩ := h _ _ hz
  rcases h4 with h4 | h4
  · exact h4
  · omega
theorem Way.loop {st : PM Int} (hb : Blk st) (hok : ∀ m n v m1 ns, st m n = .ok (v, m1, ns) → (v = -1 ∧ m1 = m ∧ ns = []) ∨ (m < m1 ∧ v + 1 = (n : Int) + ns.length ∧ 0 < ns.length)) :
    ∀ (g : Nat) (first last : Int) (acc : List Nd) (m n : Nat) (v : Int) (m1 : Nat) (ns : List Nd), blockLoop st g first last acc m n = .ok (v, m1, ns) → Way n first last acc → ∃ la, Way n v la ns
  | 0, first, last, acc, m, n, v, m1, ns, h, hw => by
    simp [blockLoop] at h
    obtain ⟨rfl, _, rfl⟩ := h
    exact ⟨last, hw⟩
  | g + 1, first, last, acc, m, n, v, m1, ns, h, hw => by
    rw [blockLoop] at h
    cases hs : st m (n + acc.length) with
    | error e => rw [hs] at h; cases h
    | ok r =>
      obtain ⟨i, m2, l⟩ := r
      rw [hs] at h
      dsimp only at h
      obtain ⟨o, wi, c, sm⟩ := hb _ _ _ _ _ hs (Within.nil _)
      have hfew : n ≤ 512 → n + (acc ++ l).length ≤ 512 := fun h => by have := sm (hw.few h); simp only [List.length_append]; omega
      have hk := hok _ _ _ _ _ hs
      by_cases hi : i = -1
      · rw [if_pos hi] at h
        simp at h
        obtain ⟨rfl, _, rfl⟩ := h
        rcases hk with ⟨_, _, rfl⟩ | ⟨_, h2, _⟩
        · rw [List.append_nil]; exact ⟨last, hw⟩
        · omega
      · rw [if_neg hi] at h
        obtain ⟨hv, hl⟩ : i + 1 = ((n + acc.length : Nat) : Int) + l.length ∧ 0 < l.length := by
          rcases hk with ⟨h1, _⟩ | ⟨_, h2, h3⟩
          · exact absurd h1 hi
          · exact ⟨h2, h3⟩
        obtain ⟨z, hz, hx⟩ := o.last hl
        have hzz : (acc ++ l)[(i - n).toNat]? = some z := by
          rw [List.getElem?_append_right (by omega), ← hz]; congr 1; omega
        have oa : Ord n (acc ++ l) := hw.ord.append (by simpa using o)
        have ca : ∀ k, 0 ≤ k → Go.Proofs.Ytoaaklcbcbjaiaa.cnt (acc ++ l) k + one1 first k + one1 i k = inR n (acc ++ l).length k := by
          intro k hk
          have h1 := hw.cnt k hk
          have h2 := c k hk
          rw [cntL_blk _ k hk, cntL_nil] at h2
          have h3 := inR_add n acc.length l.length k
          rw [cnt_append, List.length_append]
          omega
        by_cases hf : first = -1
        · rw [if_pos hf] at h
          refine Way.loop hb hok g i i (acc ++ l) m2 n v m1 ns h ⟨oa, fun e => absurd e hi, fun _ => ⟨by omega, by simp only [List.length_append]; omega, by omega, by simp only [List.length_append]; omega, z, hzz, hx⟩, fun k hk => ?_, ?_⟩
          · have := ca k hk
            rw [hf, one1_neg k hk] at this
            omega
          · exact hfew
        · rw [if_neg hf] at h
          obtain ⟨f1, f2, l1, l2, y, hy, hyx⟩ := hw.one hf
          have hyy : (acc ++ l)[last.toNat - n]? = some y := by
            rw [List.getElem?_append_left (by omega), ← hy]; congr 1; omega
          refine Way.loop hb hok g first i (setNext (acc ++ l) (last.toNat - n) i) m2 n v m1 ns h ⟨?_, fun e => absurd e hf, fun _ => ?_, fun k hk => ?_, by simpa [setNext] using hfew⟩
          · intro j z' hj
            rw [setNext_at] at hj
            split at hj
            · next e =>
              subst e
              rw [hyy] at hj
              simp at hj
              subst hj
              obtain ⟨h1, h2, h3, _⟩ := oa _ _ hyy
              refine ⟨h1, h2, h3, Or.inr ⟨?_, ?_⟩⟩
              · show _ < i
                omega
              · show i < _
                simp only [setNext, List.length_modify, List.length_append]; omega
            · have := oa _ _ hj
              simpa [setNext] using this
          · simp only [setNext, List.length_modify, List.length_append]
            refine ⟨f1, by omega, by omega, by omega, z, ?_, hx⟩
            have := setNext_at (acc ++ l) (last.toNat - n) (i - n).toNat i
            rw [if_neg (by omega), hzz] at this
            exact this
          · rw [cnt_setNext _ _ _ _ hk ⟨y, hyy, hyx⟩]
            have := ca k hk
            simp only [setNext, List.length_modify]
            omega
theorem Way.start (n : Nat) : Way n (-1) (-1) [] := by
  refine ⟨Ord.nil _, fun _ => rfl, fun h => absurd rfl h, fun k hk => ?_, fun h => by simpa using h⟩
  rw [cnt_nil, one1_neg k hk]
  unfold inR; rw [if_neg (by simp)]
theorem Way.inv {n : Nat} {v la : Int} {ns : List Nd} (h : Way n v la ns) : Ord n ns ∧ Within (blkOut v) (n + ns.length) ∧ (∀ k, 0 ≤ k → Go.Proofs.Ytoaaklcbcbjaiaa.cnt ns k + cntL (blkOut v) k = cntL [] k + inR n ns.length k) ∧ (n ≤ 512 → n + ns.length ≤ 512) := by
  refine ⟨h.ord, fun x hx => ?_, fun k hk => ?_, h.few⟩
  · unfold blkOut at hx
    split at hx
    · simp at hx
    · next hv => simp at hx; subst hx; have := h.one hv; omega
  · rw [cntL_blk _ k hk, cntL_nil, h.cnt k hk]; omega
section
variable (L : Toks)
theorem Blk.blockD : ∀ D, Blk (blockD L D) ∧ ∀ m n v m1 ns, Go.Proofs.Ytoaaklcbcbjaiaa.blockD L D m n = .ok (v, m1, ns) → v = -1 → ns = []
  | 0 => ⟨fun m n v m1 ns h => by simp [Go.Proofs.Ytoaaklcbcbjaiaa.blockD, pno] at h, fun m n v m1 ns h => by simp [Go.Proofs.Ytoaaklcbcbjaiaa.blockD, pno] at h⟩
  | D + 1 => by
    have hb := (Blk.blockD D).1
    have he := (Val.exprD L (D + 1)).1
    have w : ∀ m n v m1 ns, Go.Proofs.Ytoaaklcbcbjaiaa.blockD L (D + 1) m n = .ok (v, m1, ns) → ∃ la, Way n v la ns := fun m n v m1 ns h =>
      Way.loop (Blk.stmt L he (Blk.braced L hb)) (fun m n v m1 ns h => stmt_ok (Fwd.exprD L (D + 1)).1 (Fwd.braced L (Fwd.blockD L D)) h) _ _ _ _ _ _ _ _ _ h (Way.start n)
    exact ⟨fun m n v m1 ns h _ => by obtain ⟨la, hw⟩ := w m n v m1 ns h; exact hw.inv, fun m n v m1 ns h hv => by obtain ⟨la, hw⟩ := w m n v m1 ns h; exact hw.none hv⟩
/-- what the law asks of a program -/
theorem order_law (ns : List Nd) (f : Int) (h : parseF L = .ok (ns, f)) : Ord 0 ns ∧ (∀ k : Nat, k < ns.length → one1 f k + cnt ns k = 1) ∧ -1 ≤ f ∧ f < ns.length ∧ (0 ≤ f ↔ 0 < ns.length) ∧ ns.length ≤ 512 := by
  unfold parseF at h
  by_cases he : endsOk L = true
  rotate_left
  · rw [if_neg he] at h; cases h
  rw [if_pos he] at h
  unfold progP at h
  split at h
  · simp at h
  next f' m1 ns' hp =>
  simp at h
  obtain ⟨rfl, rfl⟩ := h
  obtain ⟨a, m2, l1, l2, h1, h2, rfl⟩ := pbind_inv hp
  obtain ⟨t, m3, l3, l4, h3, h4, rfl⟩ := pbind_inv h2
  have e3 := quiet_of L 0 _ _ _ _ _ h3
  subst e3
  simp [pok] at h4
  obtain ⟨rfl, _, rfl⟩ := h4
  simp only [List.append_nil]
  obtain ⟨hB, hN⟩ := Blk.blockD L 16
  obtain ⟨o, w, c, s⟩ := hB _ _ _ _ _ h1 (Within.nil _)
  have hN' := hN _ _ _ _ _ h1
  have hr : -1 ≤ a ∧ a < l1.length := by
    by_cases ha : a = -1
    · subst ha; constructor <;> omega
    · have := w a (by unfold blkOut; rw [if_neg ha]; simp)
      simp at this
      omega
  refine ⟨o, fun k hk => ?_, hr.1, hr.2, ⟨fun h0 => by omega, fun h0 => ?_⟩, ?_⟩
  · have := c k (by omega)
    rw [cntL_blk _ _ (by omega), cntL_nil] at this
    have e : inR 0 l1.length k = 1 := by unfold inR; rw [if_pos (by omega)]
    omega
  · by_cases ha : a = -1
    · rw [hN' ha] at h0; simp at h0
    · omega
  · have := s (by omega); omega
end
end Go.Proofs.Ytoaaklcbcbjaiaa
