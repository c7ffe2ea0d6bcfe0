/- Lemmas for the claim (texts PSrc, RSame, what its proof uses of them). -/
import Derived.Test.YtpoeknndkccbaaaGreatM08
import Derived.Test.YtpoeknndkccbaaaGreatM43
import Derived.Deep.OwnRows
set_option linter.unusedSimpArgs false
set_option linter.unusedVariables false
set_option maxHeartbeats 4000000
set_option maxRecDepth 20000
namespace Go.Proofs.YtpoeknndkccbaaaGreat
open Go.RowKit
attribute [go_sem] more_more Array.size_append
/-- a source's tokens with their places -/
def qca (l : List (Tok × Nat)) : Toks := l.map fun t => (t.1, (t.2 : Int))
theorem toksOf_length (l : List (Tok × Nat)) : (qca l).length = l.length := by simp [qca]
theorem toksOf_cells (l : List (Tok × Nat)) : qbh (qca l) = qaA l := by
 induction l with
 | nil => rfl
 | cons t l ih =>
  have e1 : qbh (qca (t :: l)) = tkL (t.1, (t.2 : Int)) ++ qbh (qca l) := rfl
  have e2 : qaA (t :: l) = [.int .i64 t.1.k, .int .i64 (t.2 : Int), .string t.1.s, .int .i64 t.1.i] ++ qaA l := rfl
  rw [e1, e2, ih]; rfl
/-- the program of a source, or the error and its place -/
def qbS (s : List UInt8) : Except (Int × Int) (List Nd × Int) :=
 if (lexF s).2.1 = 0 then qdx (qca (lexF s).1) else .error ((lexF s).2.1, ((lexF s).2.2 : Int))
theorem lexG_len (s : List UInt8) : ∀ (g k : Nat) (acc l : List (Tok × Nat)) (x : Nat), k ≤ s.length → s.length + 1 ≤ k + g → acc.length ≤ 1024 → lexG s g k acc = (l, 0, x) → 0 < l.length ∧ l.length ≤ 1025
 | 0, k, acc, l, x, hk, hg, _, _ => by omega
 | g + 1, k, acc, l, x, hk, hg, ha, h => by
  rw [lexG] at h
  split at h
  · simp only [Prod.mk.injEq] at h
    obtain ⟨rfl, _, _⟩ := h
    simp; omega
  split at h
  · rename_i h1 h2
    simp only [Prod.mk.injEq] at h
    exact absurd h.2.1 h2
  split at h
  · simp only [Prod.mk.injEq] at h
    omega
  · rename_i h1 h2 h3
    have hd : 0 < (s.drop (k + skipL false (s.drop k))).length := by simp; omega
    obtain ⟨r, n1, er, hr⟩ : ∃ r n1 er, oneF (s.drop (k + skipL false (s.drop k))) = (r, n1, er) := ⟨_, _, _, rfl⟩
    rw [hr] at h h2
    dsimp only at h h2
    have h2' : er = 0 := by simpa using h2
    subst h2'
    have hb := oneF_bd _ r n1 hd hr
    simp only [List.length_drop] at hb
    exact lexG_len s g _ _ l x zaf zaf zbl h
theorem lexF_len (s : List UInt8) (h : (lexF s).2.1 = 0) : 0 < (lexF s).1.length ∧ (lexF s).1.length ≤ 1025 := by
 unfold lexF at h ⊢
 split at h
 · simp at h
 · rename_i hs
   rw [if_neg hs]
   obtain ⟨l, e, x, hx⟩ : ∃ l e x, lexG s (s.length + 1) 0 [] = (l, e, x) := ⟨_, _, _, rfl⟩
   rw [hx] at h ⊢
   dsimp only at h ⊢
   subst h
   exact lexG_len s _ 0 [] l x (Nat.zero_le _) zaf zay hx
theorem toks_at {w : World} {base g cap n : Nat} {l : List (Tok × Nat)} (h : w.ownsRow base 100 4 (.slice (some ⟨g, 0, none⟩) n cap) n (qaA l)) (hn : n = l.length) : ToksAt g 0 (qca l) w := by
 intro j hj
 have hc := h.cells (g := g) rfl
 rw [← toksOf_cells] at hc
 obtain ⟨h1, h2, h3, h4⟩ := qcV (qca l) j hj
 have e : ∀ i v, (qbh (qca l))[i]? = some v → w.cell? ⟨g, i, none⟩ = some v := fun i v hi => by
  have := hc i v hi
  rwa [Addr.add_lit, Nat.zero_add] at this
 refine ⟨?_, ?_, ?_, ?_⟩
 · rw [Nat.zero_add]; exact e _ _ h1
 · rw [Nat.zero_add]; exact e _ _ h2
 · rw [Nat.zero_add]; exact e _ _ h3
 · rw [Nat.zero_add]; exact e _ _ h4
theorem own_swap {w : World} {o o' : Obj} {d d2 : Nat} {os os2 : Array Obj} {base : Nat} {e : TypeId} {size : Nat} {v : Value} {n : Nat} {xs : List Value} (h : (more (more (w.alloc o) d os) d2 os2).ownsRow base e size v n xs) (hb : w.heap.size < base) : (more (w.alloc o') d2 (os ++ os2)).ownsRow base e size v n xs := by
 refine h.kept (row := some w.heap.size) ⟨rfl, rfl, rfl, by simp only [more_size, World.size_alloc, Array.size_append]; omega, fun k hk hne => ?_⟩ (Or.inr fun e => by have := (h.lt _ e).1; omega)
 have hne : k ≠ w.heap.size := fun e => hne (by rw [e])
 simp only [more, World.alloc, Array.append_assoc]
 simp only [Array.getElem?_append, Array.size_push, Array.getElem?_push, if_neg hne]
theorem qcD (s : ByteArray) (r : Except (Int × Int) (List Nd × Int)) (hr : qbS s.data.toList = r) (w : World) : Calls Tryz.prog 26 #[.string s] w (ParsePost w r) := by
 obtain ⟨l, e, x, hx⟩ : ∃ l e x, lexF s.data.toList = (l, e, x) := ⟨_, _, _, rfl⟩
 unfold qbS at hr
 have hlen := lexF_len s.data.toList
 rw [hx] at hr hlen
 dsimp only at hr hlen
 have T := Lib.hid (qdO s _ hx)
 clear hx
 by_cases he : e = 0
 · subst he
   rw [if_pos rfl] at hr
   obtain ⟨h0, h1⟩ := hlen rfl
   have HR := Lib.hid hr
   have HL := Lib.hid (And.intro h0 h1)
   clear hr hlen h0 h1
   go_enter Tryz.func26, Tryz.ntmps26
   go_wp2_with fail
   go_at_call 33
   refine (T.out _).mono ?_
   rintro e w1 (⟨_, g, cap, he, hrow, hx⟩ | ⟨h2, _⟩)
   · dsimp only at he hrow
     subst he
     obtain ⟨d, os, rfl⟩ := hx
     have TA := Lib.hid (toks_at hrow rfl)
     clear hrow
     go_wp2_with fail
     go_at_call 34
     have P := parse_any (qca l) g 0 cap (by rw [toksOf_length]; exact HL.out.1) (by rw [toksOf_length]; have := HL.out.2; omega) _ TA.out _ HR.out
     rw [toksOf_length] at P
     refine P.mono ?_
     clear P
     rcases r with ⟨c1, a1⟩ | ⟨ns, f1⟩
     · rintro e w2 ⟨he, d2, os2, rfl⟩
       subst he
       go_wp2_with fail
       exact bodyPost_ret (v := .tuple #[.agg #[.slice none 0 0, .int .i64 0], .int .i64 c1, .int .i64 a1]) (by simp [results, Tryz.results26, go_sem]) rfl ⟨rfl, zac⟩
     · rintro e w2 ⟨nv, he, hrow2, hx2⟩
       obtain ⟨len, cc, pp, rfl⟩ : ∃ len cc pp, nv = .slice pp len cc := by
        rcases Go.Joins.ownsRow_forms hrow2 with ⟨rfl, h0⟩ | ⟨g1, c, rfl⟩
        · exact ⟨_, _, _, rfl⟩
        · exact ⟨_, _, _, rfl⟩
       have HROW := Lib.hid hrow2
       obtain ⟨d2, os2, rfl⟩ := hx2
       subst he
       clear hrow2
       go_wp2_with fail
       refine bodyPost_ret (v := .tuple #[.agg #[.slice pp len cc, .int .i64 f1], .int .i64 0, .int .i64 0]) (by simp [results, Tryz.results26, go_sem]) rfl ⟨.slice pp len cc, rfl, ?_, zac⟩
       exact (own_swap HROW.out (by simp only [more_size, World.size_alloc]; omega)).mono (by simp only [more_size, World.size_alloc]; omega)
   · exact absurd rfl h2
 · rw [if_neg he] at hr
   have he2 : (e != 0) = true := by simpa using he
   have HR := Lib.hid hr
   have HE := Lib.hid he
   clear hr hlen he
   go_enter Tryz.func26, Tryz.ntmps26
   go_wp2_with fail
   go_at_call 33
   refine (T.out _).mono ?_
   rintro e' w1 (⟨h0, _⟩ | ⟨_, he, hx⟩)
   · exact absurd h0 HE.out
   · dsimp only at he
     subst he
     obtain ⟨d, os, rfl⟩ := hx
     go_wp2_with fail
     have := HR.out
     subst this
     exact bodyPost_ret (v := .tuple #[.agg #[.slice none 0 0, .int .i64 0], .int .i64 e, .int .i64 (x : Int)]) (by simp [results, Tryz.results26, go_sem]) rfl ⟨rfl, zac⟩
end Go.Proofs.YtpoeknndkccbaaaGreat

namespace Go.Proofs.YtpoeknndkccbaaaGreat
open Go.RowKit
attribute [go_sem] more_more Array.size_append
theorem same_any (ns : List Nd) (nv nv' : Value) (base base' : Nat) (fi : Int) (w : World) (h1 : w.ownsRow base 42 8 nv ns.length (qad ns)) (h2 : w.ownsRow base' 42 8 nv' ns.length (qad ns)) (hn : ns.length ≤ 512) :
  Calls Tryz.prog 19 #[.agg #[nv, .int .i64 fi], .agg #[nv', .int .i64 fi]] w fun e w' => e = .returned (.bool true) ∧ Ext w w' := by
 have hnv : ∃ p c, nv = .slice p ns.length c := by
  rcases Go.Joins.ownsRow_forms h1 with ⟨rfl, h0⟩ | ⟨g1, c, rfl⟩
  · exact ⟨none, 0, by rw [h0]⟩
  · exact ⟨_, _, rfl⟩
 have hnv' : ∃ p c, nv' = .slice p ns.length c := by
  rcases Go.Joins.ownsRow_forms h2 with ⟨rfl, h0⟩ | ⟨g1, c, rfl⟩
  · exact ⟨none, 0, by rw [h0]⟩
  · exact ⟨_, _, rfl⟩
 obtain ⟨p, c, rfl⟩ := hnv
 obtain ⟨p', c', rfl⟩ := hnv'
 have H1 := Lib.hid h1
 have H2 := Lib.hid h2
 obtain ⟨n, hl⟩ : ∃ n, ns.length = n := ⟨_, rfl⟩
 have HL := Lib.hid hl
 rw [hl] at H1 H2 hn ⊢
 have hni : (n : Int) ≤ 512 := by omega
 clear h1 h2 hl
 go_enter Tryz.func19, Tryz.ntmps19
 go_wp2_with fail
 go_loopw [5] (fun y wr => ∃ j : Nat, y = .int .i64 (j : Int) ∧ j ≤ n ∧ ∃ d os, wr = more ((w.alloc (.cells #[.slice p n c, .int .i64 fi] 24 (0, 0))).alloc (.cells #[.slice p' n c', .int .i64 fi] 24 (0, 0))) d os) (fun y _ => n - (intOf y).toNat)
 case atStart => exact ⟨0, rfl, Nat.zero_le _, _, #[], by simp [more]; rfl⟩
 case round =>
  obtain ⟨j, rfl, hj, d, os, rfl⟩ := hrel
  by_cases hlt : j < n
  · obtain ⟨z, hz⟩ : ∃ z, ns[j]? = some z := ⟨_, List.getElem?_eq_getElem (by rw [HL.out]; exact hlt)⟩
    have hp : ∃ g, p = some ⟨g, 0, none⟩ := by
     rcases Go.Joins.ownsRow_forms H1.out with ⟨_, h0⟩ | ⟨g1, c1, h0⟩
     · omega
     · simp at h0; exact ⟨g1, h0.1⟩
    have hp' : ∃ g, p' = some ⟨g, 0, none⟩ := by
     rcases Go.Joins.ownsRow_forms H2.out with ⟨_, h0⟩ | ⟨g1, c1, h0⟩
     · omega
     · simp at h0; exact ⟨g1, h0.1⟩
    obtain ⟨g, rfl⟩ := hp
    obtain ⟨g', rfl⟩ := hp'
    have hg := (H1.out.lt g rfl).2
    have hg' := (H2.out.lt g' rfl).2
    obtain ⟨a0, a1, a2, a3, a4, a5, a6, a7⟩ := nd_at H1.out hz
    obtain ⟨b0, b1, b2, b3, b4, b5, b6, b7⟩ := nd_at H2.out hz
    have hji : (j : Int) < (n : Int) := by omega
    have hj0 : 0 ≤ (j : Int) := by omega
    have HLT := Lib.hid hlt
    obtain ⟨zk, za, zb, zc, zx, zi, zs, zt⟩ := z
    dsimp only at a0 a1 a2 a3 a4 a5 a6 a7 b0 b1 b2 b3 b4 b5 b6 b7
    clear hz hlt
    go_wp2_with fail
    refine qaa 11 38 [false, false, false, false, false, false, false, false, false, false, false] zae zae rfl ?_
    refine yac ?_
    repeat (refine Lex.step rfl ?_; intro K hK; unfold StepG; go_simp; (first
      | refine hK _ ?_); clear hK K)
    refine yaa ?_; intro dd oo
    go_wp2_with fail
    rw [ends_normal]
    go_wp2_with fail
    go_roundw
    case rel => exact ⟨j + 1, by go_num, by have := HLT.out; omega, _, _, rfl⟩
    case measure => have := HLT.out; simp [intOf]; omega
  · have hje : j = n := by omega
    subst hje
    clear hlt
    go_wp2_with fail
    go_ret
    exact ⟨rfl, zac⟩
end Go.Proofs.YtpoeknndkccbaaaGreat
