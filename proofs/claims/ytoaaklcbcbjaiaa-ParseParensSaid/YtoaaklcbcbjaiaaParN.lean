/- Plain: parentheses about an expr change no node. -/
import Derived.Test.YtoaaklcbcbjaiaaParS
import Derived.Test.YtoaaklcbcbjaiaaLexD
import Derived.Test.YtoaaklcbcbjaiaaPSrc
set_option linter.unusedSimpArgs false
set_option linter.unusedVariables false
namespace Go.Proofs.Ytoaaklcbcbjaiaa
open Go.RowKit

def tRet : Tok := ⟨5, ⟨#[114, 101, 116, 117, 114, 110]⟩, 0⟩
def retL : List UInt8 := [114, 101, 116, 117, 114, 110, 32]
theorem one_ret (r : List UInt8) : oneF ([114, 101, 116, 117, 114, 110] ++ (32 :: r)) = (tRet, 6, 0) := by
  have hs : spanN nameB ([114, 101, 116, 117, 114, 110] ++ (32 :: r)) = 6 := by simp [spanN, nameB, letterB, digitB]
  have hw : wordB ⟨#[114, 101, 116, 117, 114, 110]⟩ = true := by kernel_rfl
  simp only [List.cons_append, List.nil_append] at hs ⊢
  unfold oneF
  dsimp only
  rw [if_pos (by decide), hs]
  have : (List.take 6 (114 :: 101 :: 116 :: 117 :: 114 :: 110 :: 32 :: r)).toArray = #[114, 101, 116, 117, 114, 110] := by simp
  rw [this]
  unfold nameF
  rw [if_pos hw]
  rfl
theorem TL.ret {r : List UInt8} {T : List Tok} (h : TL (retL ++ r) T) : ∃ T', T = tRet :: T' ∧ TL r T' := by
  have e : retL ++ r = [114, 101, 116, 117, 114, 110] ++ (32 :: r) := rfl
  have h0 : skipL false (retL ++ r) = 0 := by simp [retL, skipL]
  obtain ⟨T', e1, e2⟩ := h.inv (by rw [h0]; simp [retL]) (t := tRet) (n := 6) (by rw [h0, List.drop_zero, e]; exact one_ret r)
  rw [h0, List.drop_zero, e] at e2
  exact ⟨T', e1, TL.blank (by simpa using e2)⟩
theorem tk_map (L : Toks) (T : List Tok) (h : L.map Prod.fst = T) (m : Nat) : (tk L m).1 = T.getD m tok0 := by
  subst h
  unfold tk
  rw [List.getD_eq_getElem?_getD, List.getD_eq_getElem?_getD, List.getElem?_map]
  cases L[m]? <;> rfl

section
variable {L : Toks}
theorem stmt_ret {ex br : PM Int} {m n : Nat} (h : (tk L m).1 = tRet) : stmtP L ex br m n = simpleP L 28 ex m n := by
  unfold stmtP
  rw [h, if_neg (by simp [tRet])]
  have k : ∀ l : List UInt8, (l == [114, 101, 116, 117, 114, 110]) = false → sIs tRet.s l = false := by
    intro l hl
    have e : tRet.s.toList = [114, 101, 116, 117, 114, 110] := by kernel_rfl
    unfold sIs
    rw [e]
    simp at hl ⊢
    exact fun x => hl x.symm
  have y : sIs tRet.s [114, 101, 116, 117, 114, 110] = true := by kernel_rfl
  rw [k _ (by decide), k _ (by decide), k _ (by decide), k _ (by decide), k _ (by decide), y]
  rfl
theorem loop_len {st : PM Int} : ∀ (g : Nat) (fi la : Int) (acc : List Nd) (m n : Nat) (v : Int) (m1 : Nat) (ns : List Nd), blockLoop st g fi la acc m n = .ok (v, m1, ns) → fi ≠ -1 → v = fi ∧ acc.length ≤ ns.length
  | 0, fi, la, acc, m, n, v, m1, ns, h, hf => by
    simp [blockLoop] at h
    obtain ⟨rfl, _, rfl⟩ := h
    exact ⟨rfl, Nat.le_refl _⟩
  | g + 1, fi, la, acc, m, n, v, m1, ns, h, hf => by
    rw [blockLoop] at h
    split at h
    · simp at h
    · split at h
      · simp at h
        obtain ⟨rfl, _, rfl⟩ := h
        exact ⟨rfl, by simp⟩
      · have := loop_len g _ _ _ _ _ _ _ _ h hf
        simp only [setNext, List.length_modify, List.length_append] at this
        exact ⟨this.1, by omega⟩
theorem funM (s : ByteArray) : mustP L [s] = must1 L s := by
  funext m n
  show pbind (must1 L s) (fun _ => pok ()) m n = must1 L s m n
  cases h : isP L s m <;> simp [pbind, must1, h, pok, prep]
def retNd (a : Int) : Nd := { nd 28 with a := a }
theorem block_ret {ex br : PM Int} (fe : Fwd ex) (fb : Fwd br) (h0 : (tk L 0).1 = tRet) {g : Nat} {v : Int} {m1 : Nat} {ns : List Nd} (h : blockLoop (stmtP L ex br) (g + 2) (-1) (-1) [] 0 0 = .ok (v, m1, ns)) (hv : v + 1 = ns.length) :
    ∃ a E N1, ex 1 0 = .ok (a, E, N1) ∧ isP L ⟨#[59]⟩ E = true ∧ N1.length ≠ 512 ∧ ns = N1 ++ [retNd a] ∧ v = N1.length ∧ m1 = E + 1 := by
  rw [blockLoop, List.length_nil, Nat.zero_add, stmt_ret h0] at h
  rcases hs : simpleP L 28 ex 0 0 with e | ⟨i, m2, l⟩
  · rw [hs] at h; simp at h
  rw [hs] at h
  dsimp only at h
  have st := strong_simple (L := L) 28 fe
  have hi := st.2 _ _ _ _ _ hs
  rw [if_neg (by omega), if_pos rfl, List.nil_append] at h
  unfold simpleP at hs
  have sk : ∀ f : Unit → PM Int, pbind skipP f 0 0 = f () 1 0 := fun f => by
    have : skipP 0 0 = .ok ((), 1, []) := rfl
    rw [pbind_ok this, prep_nil]; rfl
  rw [sk] at hs
  obtain ⟨a, E, l1, l2, h1, h2, rfl⟩ := pbind_inv hs
  obtain ⟨u, E2, l3, l4, h3, h4, rfl⟩ := pbind_inv h2
  have hE : isP L ⟨#[59]⟩ E = true ∧ E2 = E + 1 ∧ l3 = [] := by
    rw [funM] at h3
    unfold must1 at h3
    split at h3
    · next hp => simp at h3; exact ⟨hp, h3.1.symm, h3.2⟩
    · simp at h3
  obtain ⟨hE1, rfl, rfl⟩ := hE
  unfold layP at h4
  split at h4
  · simp at h4
  next h512 =>
  simp at h4
  obtain ⟨rfl, rfl, rfl⟩ := h4
  simp only [List.length_nil, Nat.zero_add, Nat.add_zero] at h512 hi h
  rw [blockLoop] at h
  rcases hs2 : stmtP L ex br (E + 1) (0 + (l1 ++ ([] ++ [retNd a])).length) with e | ⟨i2, m3, l5⟩
  · have e2 : stmtP L ex br (E + 1) (0 + (l1 ++ ([] ++ [{ nd 28 with a := a }])).length) = .error e := hs2
    rw [e2] at h; simp at h
  have e2 : stmtP L ex br (E + 1) (0 + (l1 ++ ([] ++ [{ nd 28 with a := a }])).length) = .ok (i2, m3, l5) := hs2
  rw [e2] at h
  dsimp only at h
  have ok2 := stmt_ok fe fb hs2
  split at h
  · next hi2 =>
    simp at h
    obtain ⟨rfl, rfl, rfl⟩ := h
    rcases ok2 with ⟨_, h5, h6⟩ | ⟨_, h5, _⟩
    · subst h6
      exact ⟨a, E, l1, h1, hE1, h512, by simp [retNd], rfl, h5⟩
    · omega
  · next hi2 =>
    exfalso
    rw [if_neg (by omega)] at h
    have := loop_len _ _ _ _ _ _ _ _ _ h (by omega)
    simp only [setNext, List.length_modify, List.length_append, List.length_cons, List.length_nil] at this
    rcases ok2 with ⟨h5, _⟩ | ⟨_, _, h5⟩
    · exact hi2 h5
    · omega
theorem ret_build {ex br : PM Int} (h0 : (tk L 0).1 = tRet) {g : Nat} {a : Int} {E : Nat} {N1 : List Nd} (h : ex 1 0 = .ok (a, E, N1)) (hE : isP L ⟨#[59]⟩ E = true) (h512 : N1.length ≠ 512) (hk : (tk L (E + 1)).1.k = 0) :
    blockLoop (stmtP L ex br) (g + 2) (-1) (-1) [] 0 0 = .ok (N1.length, E + 1, N1 ++ [retNd a]) := by
  have hs : stmtP L ex br 0 0 = .ok (N1.length, E + 1, N1 ++ [retNd a]) := by
    rw [stmt_ret h0]
    unfold simpleP
    have sk : ∀ f : Unit → PM Int, pbind skipP f 0 0 = f () 1 0 := fun f => by
      have : skipP 0 0 = .ok ((), 1, []) := rfl
      rw [pbind_ok this, prep_nil]; rfl
    rw [sk, pbind_ok h]
    have hm : mustP L [⟨#[59]⟩] E (0 + N1.length) = .ok ((), E + 1, []) := by
      rw [funM]; unfold must1; rw [hE]; rfl
    rw [pbind_ok hm]
    unfold layP
    simp only [List.length_nil, Nat.add_zero, Nat.zero_add]
    rw [if_neg h512]
    rfl
  rw [blockLoop, List.length_nil, Nat.zero_add, hs]
  dsimp only
  rw [if_neg (by omega), if_pos rfl, blockLoop]
  have hs2 : stmtP L ex br (E + 1) (0 + ([] ++ (N1 ++ [retNd a])).length) = .ok (-1, E + 1, []) := by
    unfold stmtP
    rw [hk, if_pos (by decide)]; rfl
  rw [hs2]
  simp
theorem ret_err {ex br : PM Int} (h0 : (tk L 0).1 = tRet) {g : Nat} (h : ∃ e, ex 1 0 = .error e) : ∃ e, blockLoop (stmtP L ex br) (g + 1) (-1) (-1) [] 0 0 = .error e := by
  obtain ⟨e, he⟩ := h
  refine ⟨e, ?_⟩
  rw [blockLoop, List.length_nil, Nat.zero_add, stmt_ret h0]
  unfold simpleP
  have sk : ∀ f : Unit → PM Int, pbind skipP f 0 0 = f () 1 0 := fun f => by
    have : skipP 0 0 = .ok ((), 1, []) := rfl
    rw [pbind_ok this, prep_nil]; rfl
  rw [sk, pbind_err he]
theorem chain_err {D n : Nat} : ∀ {j m : Nat}, (∀ i, i < j → (tk L (m + i)).1 = tOpen) → (∃ e, (exprD L D).1 (m + j) n = .error e) → ∃ e, (exprD L (D + j)).1 m n = .error e
  | 0, m, _, h => h
  | j + 1, m, ho, h => by
    have := chain_err (D := D) (n := n) (j := j) (m := m + 1) (fun i hi => by have := ho (i + 1) (by omega); rwa [Nat.add_comm i 1, ← Nat.add_assoc] at this) (by rwa [Nat.add_assoc, Nat.add_comm 1 j])
    exact (paren_step (D := D + j) (n := n) (ho 0 (by omega))).1 this
theorem isP_shut {m : Nat} (h : (tk L m).1 = tShut) : isP L ⟨#[41]⟩ m = true := by unfold isP; rw [h]; kernel_rfl
theorem neu_shut {t : Tok} (h : t = tShut) : Neu t := by subst h; exact ⟨rfl, Or.inr (by kernel_rfl)⟩
theorem chain_ok {D n : Nat} {v : Int} {m1 : Nat} {ns : List Nd} : ∀ {j m : Nat}, (∀ i, i < j → (tk L (m + i)).1 = tOpen) → (∀ i, i < j → (tk L (m1 + i)).1 = tShut) → Neu (tk L (m1 + j)).1 → (exprD L D).1 (m + j) n = .ok (v, m1, ns) → (exprD L (D + j)).1 m n = .ok (v, m1 + j, ns)
  | 0, m, _, _, _, h => h
  | j + 1, m, ho, hs, hl, h => by
    have := chain_ok (D := D) (n := n) (j := j) (m := m + 1) (fun i hi => by have := ho (i + 1) (by omega); rwa [Nat.add_comm i 1, ← Nat.add_assoc] at this) (fun i hi => hs i (by omega)) (neu_shut (hs j (by omega))) (by rwa [Nat.add_assoc, Nat.add_comm 1 j])
    exact ((paren_step (D := D + j) (n := n) (ho 0 (by omega))).2 _ _ _ this).2 (isP_shut (hs j (by omega))) hl
end
theorem isP_semi {L : Toks} {m : Nat} (h : isP L ⟨#[59]⟩ m = true) : Neu (tk L m).1 ∧ isP L ⟨#[41]⟩ m = false := by
  have hw : wordB ⟨#[59]⟩ = false := by kernel_rfl
  have hw2 : wordB ⟨#[41]⟩ = false := by kernel_rfl
  unfold isP at h ⊢
  rw [hw] at h
  rw [hw2]
  simp only [Bool.false_eq_true, if_false, Bool.and_eq_true, beq_iff_eq] at h ⊢
  have e : (⟨#[59]⟩ : ByteArray).toList = [59] := by kernel_rfl
  have e2 : (⟨#[41]⟩ : ByteArray).toList = [41] := by kernel_rfl
  rw [e] at h
  refine ⟨⟨h.1, Or.inl h.2⟩, ?_⟩
  rw [h.2, e2, h.1]; rfl
theorem ends_of {L : Toks} {x : List Nd × Int} (h : parseF L = .ok x) : endsOk L = true ∧ progP L = .ok x := by
  unfold parseF at h
  by_cases he : endsOk L = true
  · rw [if_pos he] at h; exact ⟨he, h⟩
  · rw [if_neg he] at h; cases h
theorem ends_at {L : Toks} (h : endsOk L = true) : 0 < L.length ∧ ∀ j, j < L.length → ((tk L j).1.k = 0 ↔ j + 1 = L.length) := by
  unfold endsOk at h
  rw [Bool.and_eq_true, List.all_eq_true] at h
  refine ⟨?_, fun j hj => ?_⟩
  · have : L ≠ [] := by simpa using h.1
    exact List.length_pos_iff.2 this
  · have := h.2 j (by simpa using hj)
    rw [beq_iff_eq] at this
    constructor
    · intro e; rw [e] at this; simpa using this.symm
    · intro e; have e2 := decide_eq_true e; rw [e2] at this; simpa using this
/-- the program of one return -/
theorem prog_ret {L : Toks} {N : List Nd} {f : Int} (h : parseF L = .ok (N, f)) (h0 : (tk L 0).1 = tRet) (hf : f + 1 = N.length) :
    ∃ a E N1, (exprD L 16).1 1 0 = .ok (a, E, N1) ∧ isP L ⟨#[59]⟩ E = true ∧ N1.length ≠ 512 ∧ N = N1 ++ [retNd a] ∧ f = N1.length ∧ E + 2 = L.length := by
  obtain ⟨he, hp⟩ := ends_of h
  obtain ⟨hl, hat⟩ := ends_at he
  unfold progP at hp
  split at hp
  · simp at hp
  next f' m1 ns' hq =>
  simp at hp
  obtain ⟨rfl, rfl⟩ := hp
  obtain ⟨v, m2, l1, l2, h1, h2, rfl⟩ := pbind_inv hq
  obtain ⟨t, m3, l3, l4, h3, h4, rfl⟩ := pbind_inv h2
  have hk : (tk L m2).1.k = 0 ∧ l3 = [] := by
    unfold ofP at h3
    split at h3
    · next hk => simp at h3; exact ⟨hk, h3.2.2⟩
    · simp at h3
  obtain ⟨hk, rfl⟩ := hk
  simp [pok] at h4
  obtain ⟨rfl, _, rfl⟩ := h4
  simp only [List.append_nil] at hf ⊢
  obtain ⟨g, hg⟩ : ∃ g, L.length + 1 = g + 2 := ⟨L.length - 1, by omega⟩
  have h1' : blockLoop (stmtP L (exprP L 16) (bracedP L (blockD L 15))) (g + 2) (-1) (-1) [] 0 0 = .ok (v, m2, l1) := by rw [← hg]; exact h1
  obtain ⟨a, E, N1, e1, e2, e3, e4, e5, e6⟩ := block_ret (Fwd.exprD L 16).1 (Fwd.braced L (Fwd.blockD L 15)) h0 h1' hf
  refine ⟨a, E, N1, e1, e2, e3, e4, e5, ?_⟩
  rw [e6] at hk
  have hE : E < L.length := by
    rcases Nat.lt_or_ge E L.length with h | h
    · exact h
    · have e : tk L E = (tok0, 0) := by unfold tk; rw [List.getD_eq_getElem?_getD, List.getElem?_eq_none h]; rfl
      have := (isP_semi e2).1.1
      rw [e] at this; simp [tok0] at this
  have hE1 : E + 1 < L.length := by
    rcases Nat.lt_or_ge (E + 1) L.length with h | h
    · exact h
    · have := (hat E hE).2 (by omega)
      have h4 := (isP_semi e2).1.1
      rw [this] at h4; simp at h4
  have := (hat (E + 1) hE1).1 hk
  omega
theorem prog_build {L : Toks} {a : Int} {E : Nat} {N1 : List Nd} (he : endsOk L = true) (h0 : (tk L 0).1 = tRet) (h : (exprD L 16).1 1 0 = .ok (a, E, N1)) (hE : isP L ⟨#[59]⟩ E = true) (h512 : N1.length ≠ 512) (hk : (tk L (E + 1)).1.k = 0) : parseF L = .ok (N1 ++ [retNd a], N1.length) := by
  obtain ⟨hl, hat⟩ := ends_at he
  unfold parseF progP
  rw [if_pos he]
  obtain ⟨g, hg⟩ : ∃ g, L.length + 1 = g + 2 := ⟨L.length - 1, by omega⟩
  have h1 : blockD L 16 0 0 = .ok ((N1.length : Int), E + 1, N1 ++ [retNd a]) := by
    show blockLoop (stmtP L (exprP L 16) (bracedP L (blockD L 15))) (L.length + 1) (-1) (-1) [] 0 0 = _
    rw [hg]
    exact ret_build h0 h hE h512 hk
  rw [pbind_ok h1]
  have h2 : ofP L 0 (E + 1) (0 + (N1 ++ [retNd a]).length) = .ok ((tk L (E + 1)).1, E + 1 + 1, []) := by unfold ofP; rw [if_pos hk]
  rw [pbind_ok h2]
  simp [pok, prep]
theorem prog_err {L : Toks} {x : List Nd × Int} (h0 : (tk L 0).1 = tRet) (h : ∃ e, (exprD L 16).1 1 0 = .error e) : parseF L ≠ .ok x := by
  intro hx
  obtain ⟨he, hp⟩ := ends_of hx
  obtain ⟨e, h1⟩ : ∃ e, blockLoop (stmtP L (exprP L 16) (bracedP L (blockD L 15))) (L.length + 1) (-1) (-1) [] 0 0 = .error e := ret_err h0 h
  have h2 : blockD L 16 0 0 = .error e := h1
  unfold progP at hp
  rw [pbind_err h2] at hp
  cases hp
/-- the plain law: parentheses about what is handed back -/
theorem parens_law (s : List UInt8) (j : Nat) (hj : 0 < j) (hj4 : j ≤ 16) (N M : List Nd) (f g : Int) (h1 : sourceF (retL ++ (s ++ [59])) = .ok (N, f)) (h2 : sourceF (retL ++ (List.replicate j 40 ++ (s ++ (List.replicate j 41 ++ [59])))) = .ok (M, g)) (hf : f + 1 = N.length) : M = N ∧ g = f := by
  have src : ∀ (r : List UInt8) (x : List Nd × Int), sourceF (retL ++ r) = .ok x → ∃ L T, L.map Prod.fst = (tRet :: T) ++ [tok0] ∧ TL r T ∧ parseF L = .ok x := by
    intro r x h
    unfold sourceF at h
    split at h
    · next he =>
      obtain ⟨l, e, y, hl⟩ : ∃ l e y, lexF (retL ++ r) = (l, e, y) := ⟨_, _, _, rfl⟩
      rw [hl] at he h
      dsimp only at he h
      subst he
      obtain ⟨T, e1, e2⟩ := lexF_tl _ _ _ hl
      obtain ⟨T', rfl, e3⟩ := TL.ret e2
      refine ⟨toksOf l, T', ?_, e3, h⟩
      rw [← e1]
      simp [toksOf]
    · cases h
  obtain ⟨L1, T1, m1, t1, p1⟩ := src _ _ h1
  obtain ⟨L2, T2, m2, t2, p2⟩ := src _ _ h2
  obtain ⟨T3, rfl, t3⟩ := TL.opens j t2
  have k1 := tk_map L1 _ m1
  have k2 := tk_map L2 _ m2
  have z1 : (tk L1 0).1 = tRet := by rw [k1]; rfl
  have z2 : (tk L2 0).1 = tRet := by rw [k2]; rfl
  have len1 : L1.length = T1.length + 2 := by have := congrArg List.length m1; simpa using this
  have len2 : L2.length = j + T3.length + 2 := by have := congrArg List.length m2; simp at this; omega
  obtain ⟨a, E, N1, e1, e2, e3, rfl, rfl, e6⟩ := prog_ret p1 z1 hf
  obtain ⟨he2, _⟩ := ends_of p2
  have gd : ∀ (A : List Tok) (i : Nat), (tRet :: A).getD (i + 1) tok0 = A.getD i tok0 := fun A i => rfl
  have opn : ∀ i, i < j → (tk L2 (1 + i)).1 = tOpen := by
    intro i hi
    rw [k2, Nat.add_comm 1 i, List.cons_append, gd, List.append_assoc, List.getD_eq_getElem?_getD, List.getElem?_append_left (by simpa using hi), List.getElem?_replicate, if_pos hi]
    rfl
  have inn : ∀ i, (tk L2 (1 + i + j)).1 = (T3 ++ [tok0]).getD i tok0 := by
    intro i
    have e : 1 + i + j = (j + i) + 1 := by omega
    rw [k2, e, List.cons_append, gd, List.append_assoc, List.getD_eq_getElem?_getD, List.getElem?_append_right (by simp), List.length_replicate, Nat.add_sub_cancel_left, List.getD_eq_getElem?_getD]
  have one : ∀ i, (tk L1 (1 + i)).1 = (T1 ++ [tok0]).getD i tok0 := by
    intro i
    rw [k1, Nat.add_comm 1 i, List.cons_append, gd]
  have hsem := isP_semi e2
  have E1 : E = 1 + (E - 1) := by
    have : E ≠ 0 := fun h => by subst h; have := hsem.1.1; rw [z1] at this; simp [tRet] at this
    omega
  have hE0 : 1 ≤ E := by omega
  have fin : ∀ e3', ¬ ((∃ e, (exprD L2 16).1 1 0 = .error e) ∧ e3' = ()) := fun _ ⟨h, _⟩ => prog_err z2 h p2
  have noerr : ¬ ∃ e, (exprD L2 (16 - j)).1 (1 + j) 0 = .error e := by
    intro h
    have := chain_err (L := L2) (D := 16 - j) (n := 0) (j := j) (m := 1) opn h
    rw [Nat.sub_add_cancel hj4] at this
    exact fin () ⟨this, rfl⟩
  rcases tl_swap j hj (s.length + 1) s T1 T3 (by omega) t1 t3 with ⟨X, rfl, rfl⟩ | hT
  · have hX : E = 1 + X.length := by simp at len1; omega
    have A : Agr L1 L2 j 1 E := by
      refine ⟨fun i hi hiE => ?_, hsem.1, ?_, by omega, by rw [len1, len2]; simp; omega⟩
      · obtain ⟨q, rfl⟩ : ∃ q, i = 1 + q := ⟨i - 1, by omega⟩
        rw [one, inn, List.getD_eq_getElem?_getD, List.getD_eq_getElem?_getD, List.append_assoc, List.append_assoc, List.getElem?_append_left (by omega), List.getElem?_append_left (by omega)]
      · rw [hX, inn]
        refine neu_shut ?_
        rw [List.getD_eq_getElem?_getD, List.append_assoc, List.getElem?_append_right (by omega), Nat.sub_self]
        obtain ⟨j', rfl⟩ : ∃ j', j = j' + 1 := ⟨j - 1, by omega⟩
        rfl
    rcases (Sim.exprD A (16 - j) 16 (by omega)).1 1 0 a E N1 (by omega) e1 (Nat.le_refl _) with h | h
    · exact absurd h noerr
    · have shu : ∀ i, i < j → (tk L2 (E + j + i)).1 = tShut := by
        intro i hi
        have e : E + j + i = 1 + (X.length + i) + j := by omega
        rw [e, inn, List.getD_eq_getElem?_getD, List.append_assoc, List.getElem?_append_right (by omega), Nat.add_sub_cancel_left, List.append_assoc, List.getElem?_append_left (by simpa using hi), List.getElem?_replicate, if_pos hi]
        rfl
      have sem : (tk L2 (E + j + j)).1 = tSemi := by
        have e : E + j + j = 1 + (X.length + j) + j := by omega
        rw [e, inn, List.getD_eq_getElem?_getD, List.append_assoc, List.getElem?_append_right (by omega), Nat.add_sub_cancel_left, List.append_assoc, List.getElem?_append_right (by simp), List.length_replicate, Nat.sub_self]
        rfl
      have endk : (tk L2 (E + j + j + 1)).1.k = 0 := by
        have e : E + j + j + 1 = 1 + (X.length + (j + 1)) + j := by omega
        rw [e, inn, List.getD_eq_getElem?_getD, List.append_assoc, List.getElem?_append_right (by omega), Nat.add_sub_cancel_left, List.append_assoc, List.getElem?_append_right (by simp), List.length_replicate, Nat.add_sub_cancel_left]
        rfl
      have hs : isP L2 ⟨#[59]⟩ (E + j + j) = true := by unfold isP; rw [sem]; kernel_rfl
      have := chain_ok (L := L2) (D := 16 - j) (n := 0) (j := j) (m := 1) opn shu (isP_semi hs).1 h
      rw [Nat.sub_add_cancel hj4] at this
      have := prog_build he2 z2 this hs e3 endk
      rw [p2] at this
      simp only [Except.ok.injEq, Prod.mk.injEq] at this
      exact this
  · subst hT
    exfalso
    have A : Agr L1 L2 j 1 E := by
      have tok : ∀ i, 1 ≤ i → (tk L1 i).1 = (tk L2 (i + j)).1 := by
        intro i hi
        obtain ⟨q, rfl⟩ : ∃ q, i = 1 + q := ⟨i - 1, by omega⟩
        rw [one, inn]
      refine ⟨fun i hi _ => tok i hi, hsem.1, ?_, by omega, by omega⟩
      rw [← tok E hE0]; exact hsem.1
    rcases (Sim.exprD A (16 - j) 16 (by omega)).1 1 0 a E N1 (by omega) e1 (Nat.le_refl _) with h | h
    · exact noerr h
    · obtain ⟨j', rfl⟩ : ∃ j', j = j' + 1 := ⟨j - 1, by omega⟩
      have hs : isP L2 ⟨#[59]⟩ (E + (j' + 1)) = true := by
        obtain ⟨q, hq⟩ : ∃ q, E = 1 + q := ⟨E - 1, by omega⟩
        have : (tk L2 (E + (j' + 1))).1 = (tk L1 E).1 := by rw [hq, one, inn]
        unfold isP; rw [this]; exact e2
      have hstep := paren_step (L := L2) (D := 16 - (j' + 1)) (m := 1 + j') (n := 0) (opn j' (by omega))
      have herr := (hstep.2 _ _ _ h).1 (isP_semi hs).2
      have hd : 16 - (j' + 1) + 1 = 16 - j' := by omega
      rw [hd] at herr
      have := chain_err (L := L2) (D := 16 - j') (n := 0) (j := j') (m := 1) (fun i hi => opn i (by omega)) herr
      rw [Nat.sub_add_cancel (by omega)] at this
      exact fin () ⟨this, rfl⟩
end Go.Proofs.Ytoaaklcbcbjaiaa
