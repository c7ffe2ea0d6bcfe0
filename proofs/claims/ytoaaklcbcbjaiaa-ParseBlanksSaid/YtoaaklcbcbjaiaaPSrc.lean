/- parse.Source, and the chapter's examples. -/
import Derived.Test.YtoaaklcbcbjaiaaPar8
import Derived.Test.YtoaaklcbcbjaiaaLex9
set_option linter.unusedSimpArgs false
set_option linter.unusedVariables false
namespace Go.Proofs.Ytoaaklcbcbjaiaa
open Go.RowKit
attribute [go_sem] more_more Array.size_append

/-- a source's tokens with their places -/
def toksOf (l : List (Tok × Nat)) : Toks := l.map fun t => (t.1, (t.2 : Int))
theorem toksOf_length (l : List (Tok × Nat)) : (toksOf l).length = l.length := by simp [toksOf]
theorem toksOf_cells (l : List (Tok × Nat)) : tkCells (toksOf l) = tokCells l := by
  induction l with
  | nil => rfl
  | cons t l ih =>
    have e1 : tkCells (toksOf (t :: l)) = tkL (t.1, (t.2 : Int)) ++ tkCells (toksOf l) := rfl
    have e2 : tokCells (t :: l) = [.int .i64 t.1.k, .int .i64 (t.2 : Int), .string t.1.s, .int .i64 t.1.i] ++ tokCells l := rfl
    rw [e1, e2, ih]; rfl
/-- the program of a source, or the error and its place -/
def sourceF (s : List UInt8) : Except (Int × Int) (List Nd × Int) :=
  if (lexF s).2.1 = 0 then parseF (toksOf (lexF s).1) else .error ((lexF s).2.1, ((lexF s).2.2 : Int))

theorem lexG_len (s : List UInt8) : ∀ (g k : Nat) (acc l : List (Tok × Nat)) (x : Nat), k ≤ s.length → s.length + 1 ≤ k + g → acc.length ≤ 1024 → lexG s g k acc = (l, 0, x) → 0 < l.length ∧ l.length ≤ 1025
  | 0, k, acc, l, x, hk, hg, _, _ => by omega
  | g + 1, k, acc, l, x, hk, hg, ha, h => by
    rw [lexG] at h
    split at h
    · simp only [Prod.mk.injEq] at h
      obtain ⟨rfl, _, _⟩ := h
      simp; omega
    split at h
    · rename_i h1 h2
      simp only [Prod.mk.injEq] at h
      exact absurd h.2.1 h2
    split at h
    · simp only [Prod.mk.injEq] at h
      omega
    · rename_i h1 h2 h3
      have hd : 0 < (s.drop (k + skipL false (s.drop k))).length := by simp; omega
      obtain ⟨r, n1, er, hr⟩ : ∃ r n1 er, oneF (s.drop (k + skipL false (s.drop k))) = (r, n1, er) := ⟨_, _, _, rfl⟩
      rw [hr] at h h2
      dsimp only at h h2
      have h2' : er = 0 := by simpa using h2
      subst h2'
      have hb := oneF_bd _ r n1 hd hr
      simp only [List.length_drop] at hb
      exact lexG_len s g _ _ l x (by omega) (by omega) (by simp; omega) h
theorem lexF_len (s : List UInt8) (h : (lexF s).2.1 = 0) : 0 < (lexF s).1.length ∧ (lexF s).1.length ≤ 1025 := by
  unfold lexF at h ⊢
  split at h
  · simp at h
  · rename_i hs
    rw [if_neg hs]
    obtain ⟨l, e, x, hx⟩ : ∃ l e x, lexG s (s.length + 1) 0 [] = (l, e, x) := ⟨_, _, _, rfl⟩
    rw [hx] at h ⊢
    dsimp only at h ⊢
    subst h
    exact lexG_len s _ 0 [] l x (Nat.zero_le _) (by omega) (by simp) hx
theorem toks_at {w : World} {base g cap n : Nat} {l : List (Tok × Nat)} (h : w.ownsRow base 57 4 (.slice (some ⟨g, 0, none⟩) n cap) n (tokCells l)) (hn : n = l.length) : ToksAt g 0 (toksOf l) w := by
  intro j hj
  have hc := h.cells (g := g) rfl
  rw [← toksOf_cells] at hc
  obtain ⟨h1, h2, h3, h4⟩ := tkCells_get (toksOf l) j hj
  have e : ∀ i v, (tkCells (toksOf l))[i]? = some v → w.cell? ⟨g, i, none⟩ = some v := fun i v hi => by
    have := hc i v hi
    rwa [Addr.add_lit, Nat.zero_add] at this
  refine ⟨?_, ?_, ?_, ?_⟩
  · rw [Nat.zero_add]; exact e _ _ h1
  · rw [Nat.zero_add]; exact e _ _ h2
  · rw [Nat.zero_add]; exact e _ _ h3
  · rw [Nat.zero_add]; exact e _ _ h4

theorem ParsePost.ext {w w1 w' : World} {r : Except (Int × Int) (List Nd × Int)} {e : Ending} (hx : Ext w w1) (h : ParsePost w1 r e w') : ParsePost w r e w' := by
  rcases r with ⟨c, a⟩ | ⟨ns, f⟩
  · exact ⟨h.1, hx.trans h.2⟩
  · obtain ⟨nv, h1, h2, h3⟩ := h
    exact ⟨nv, h1, h2.mono hx.size, hx.trans h3⟩

theorem own_swap {w : World} {o o' : Obj} {d d2 : Nat} {os os2 : Array Obj} {base : Nat} {e : TypeId} {size : Nat} {v : Value} {n : Nat} {xs : List Value} (h : (more (more (w.alloc o) d os) d2 os2).ownsRow base e size v n xs) (hb : w.heap.size < base) : (more (w.alloc o') d2 (os ++ os2)).ownsRow base e size v n xs := by
  refine h.kept (row := some w.heap.size) ⟨rfl, rfl, rfl, by simp only [more_size, World.size_alloc, Array.size_append]; omega, fun k hk hne => ?_⟩ (Or.inr fun e => by have := (h.lt _ e).1; omega)
  have hne : k ≠ w.heap.size := fun e => hne (by rw [e])
  simp only [more, World.alloc, Array.append_assoc]
  simp only [Array.getElem?_append, Array.size_push, Array.getElem?_push, if_neg hne]

set_option maxHeartbeats 2000000 in
theorem source_any (s : ByteArray) (r : Except (Int × Int) (List Nd × Int)) (hr : sourceF s.data.toList = r) (w : World) : Calls Try.prog 20 #[.string s] w (ParsePost w r) := by
  obtain ⟨l, e, x, hx⟩ : ∃ l e x, lexF s.data.toList = (l, e, x) := ⟨_, _, _, rfl⟩
  unfold sourceF at hr
  have hlen := lexF_len s.data.toList
  rw [hx] at hr hlen
  dsimp only at hr hlen
  have T := Lib.hid (tokens_any s _ hx)
  clear hx
  by_cases he : e = 0
  · subst he
    rw [if_pos rfl] at hr
    obtain ⟨h0, h1⟩ := hlen rfl
    have HR := Lib.hid hr
    have HL := Lib.hid (And.intro h0 h1)
    clear hr hlen h0 h1
    go_enter Try.func20, Try.ntmps20
    go_wp2_with fail
    go_at_call 35
    refine (T.out _).mono ?_
    rintro e w1 (⟨_, g, cap, he, hrow, hx⟩ | ⟨h2, _⟩)
    · dsimp only at he hrow
      subst he
      obtain ⟨d, os, rfl⟩ := hx
      have TA := Lib.hid (toks_at hrow rfl)
      clear hrow
      go_wp2_with fail
      go_at_call 16
      have P := parse_any (toksOf l) g 0 cap (by rw [toksOf_length]; exact HL.out.1) (by rw [toksOf_length]; have := HL.out.2; omega) _ TA.out _ HR.out
      rw [toksOf_length] at P
      refine P.mono ?_
      clear P
      rcases r with ⟨c1, a1⟩ | ⟨ns, f1⟩
      · rintro e w2 ⟨he, d2, os2, rfl⟩
        subst he
        go_wp2_with fail
        exact bodyPost_ret (v := .tuple #[.agg #[.slice none 0 0, .int .i64 0], .int .i64 c1, .int .i64 a1]) (by simp [results, Try.results20, go_sem]) rfl ⟨rfl, by repeat (first | exact Ext.refl _ | apply Ext.alloc | apply Ext.more)⟩
      · rintro e w2 ⟨nv, he, hrow2, hx2⟩
        obtain ⟨len, cc, pp, rfl⟩ : ∃ len cc pp, nv = .slice pp len cc := by
          rcases Go.Joins.ownsRow_forms hrow2 with ⟨rfl, h0⟩ | ⟨g1, c, rfl⟩
          · exact ⟨_, _, _, rfl⟩
          · exact ⟨_, _, _, rfl⟩
        have HROW := Lib.hid hrow2
        obtain ⟨d2, os2, rfl⟩ := hx2
        subst he
        clear hrow2
        go_wp2_with fail
        refine bodyPost_ret (v := .tuple #[.agg #[.slice pp len cc, .int .i64 f1], .int .i64 0, .int .i64 0]) (by simp [results, Try.results20, go_sem]) rfl ⟨.slice pp len cc, rfl, ?_, by repeat (first | exact Ext.refl _ | apply Ext.alloc | apply Ext.more)⟩
        exact (own_swap HROW.out (by simp only [more_size, World.size_alloc]; omega)).mono (by simp only [more_size, World.size_alloc]; omega)
    · exact absurd rfl h2
  · rw [if_neg he] at hr
    have he2 : (e != 0) = true := by simpa using he
    have HR := Lib.hid hr
    have HE := Lib.hid he
    clear hr hlen he
    go_enter Try.func20, Try.ntmps20
    go_wp2_with fail
    go_at_call 35
    refine (T.out _).mono ?_
    rintro e' w1 (⟨h0, _⟩ | ⟨_, he, hx⟩)
    · exact absurd h0 HE.out
    · dsimp only at he
      subst he
      obtain ⟨d, os, rfl⟩ := hx
      go_wp2_with fail
      have := HR.out
      subst this
      exact bodyPost_ret (v := .tuple #[.agg #[.slice none 0 0, .int .i64 0], .int .i64 e, .int .i64 (x : Int)]) (by simp [results, Try.results20, go_sem]) rfl ⟨rfl, by repeat (first | exact Ext.refl _ | apply Ext.alloc | apply Ext.more)⟩

theorem ex1 : sourceF [112, 117, 116, 32, 34, 97, 34, 44, 32, 49, 32, 43, 32, 50, 32, 42, 32, 120, 59] = .ok ([⟨3, (-1), (-1), (-1), (-1), 0, ⟨#[97]⟩, ⟨#[]⟩⟩, ⟨2, (-1), (-1), (-1), (-1), 1, ⟨#[]⟩, ⟨#[]⟩⟩, ⟨2, (-1), (-1), (-1), (-1), 2, ⟨#[]⟩, ⟨#[]⟩⟩, ⟨4, (-1), (-1), (-1), (-1), 0, ⟨#[120]⟩, ⟨#[]⟩⟩, ⟨11, 2, 3, (-1), (-1), 0, ⟨#[42]⟩, ⟨#[]⟩⟩, ⟨11, 1, 4, (-1), (-1), 0, ⟨#[43]⟩, ⟨#[]⟩⟩, ⟨22, 0, 5, (-1), (-1), 0, ⟨#[]⟩, ⟨#[]⟩⟩], 6) := by kernel_rfl
theorem ex2 : sourceF [112, 117, 116, 32, 34, 97, 34, 32, 49, 59] = .error (3, 8) := by kernel_rfl
theorem ex3 : sourceF [114, 101, 112, 101, 97, 116, 32, 54, 53, 32, 123, 32, 125] = .error (8, 7) := by kernel_rfl

set_option maxHeartbeats 2000000 in
set_option maxRecDepth 20000 in
theorem awake_any (w : World) : Calls Try.prog 15 #[] w fun e w' => e = .returned (.bool true) ∧ Ext w w' := by
  have P1 := Lib.hid (source_any ⟨#[112, 117, 116, 32, 34, 97, 34, 44, 32, 49, 32, 43, 32, 50, 32, 42, 32, 120, 59]⟩ _ ex1)
  have P2 := Lib.hid (source_any ⟨#[112, 117, 116, 32, 34, 97, 34, 32, 49, 59]⟩ _ ex2)
  have P3 := Lib.hid (source_any ⟨#[114, 101, 112, 101, 97, 116, 32, 54, 53, 32, 123, 32, 125]⟩ _ ex3)
  go_enter Try.func15, Try.ntmps15
  go_wp2_with fail
  go_at_call 20
  refine (P1.out w).mono ?_
  rintro e w1 ⟨nv, he, hrow, hx⟩
  obtain ⟨g, cap, rfl, hg1, hg2⟩ := hrow.form (by decide)
  have hc := hrow.cells (g := g) rfl
  have hgl : g < w1.heap.size := (hrow.lt g rfl).2
  have hce : ∀ i v, (ndCells [⟨3, (-1), (-1), (-1), (-1), 0, ⟨#[97]⟩, ⟨#[]⟩⟩, ⟨2, (-1), (-1), (-1), (-1), 1, ⟨#[]⟩, ⟨#[]⟩⟩, ⟨2, (-1), (-1), (-1), (-1), 2, ⟨#[]⟩, ⟨#[]⟩⟩, ⟨4, (-1), (-1), (-1), (-1), 0, ⟨#[120]⟩, ⟨#[]⟩⟩, ⟨11, 2, 3, (-1), (-1), 0, ⟨#[42]⟩, ⟨#[]⟩⟩, ⟨11, 1, 4, (-1), (-1), 0, ⟨#[43]⟩, ⟨#[]⟩⟩, ⟨22, 0, 5, (-1), (-1), 0, ⟨#[]⟩, ⟨#[]⟩⟩])[i]? = some v → w1.cell? ⟨g, i, none⟩ = some v := fun i v hi => by
    have := hc i v hi
    rwa [Addr.add_lit, Nat.zero_add] at this
  have d33 : w1.cell? ⟨g, 33, none⟩ = some (.int .i64 2) := hce 33 _ rfl
  have d34 : w1.cell? ⟨g, 34, none⟩ = some (.int .i64 3) := hce 34 _ rfl
  have d38 : w1.cell? ⟨g, 38, none⟩ = some (.string ⟨#[42]⟩) := hce 38 _ rfl
  have d41 : w1.cell? ⟨g, 41, none⟩ = some (.int .i64 1) := hce 41 _ rfl
  have d42 : w1.cell? ⟨g, 42, none⟩ = some (.int .i64 4) := hce 42 _ rfl
  have d48 : w1.cell? ⟨g, 48, none⟩ = some (.int .i64 22) := hce 48 _ rfl
  have d50 : w1.cell? ⟨g, 50, none⟩ = some (.int .i64 5) := hce 50 _ rfl
  clear hce hc hrow hg1 hg2
  have HX := Lib.hid hx
  clear hx
  subst he
  go_wp2_with (first
    | ((go_at_call 20; (with_reducible refine (P2.out _).mono ?_); rintro e _ ⟨rfl, d2, os2, rfl⟩))
    | ((go_at_call 20; (with_reducible refine (P3.out _).mono ?_); rintro e _ ⟨rfl, d3, os3, rfl⟩)))
  go_ret
  exact ⟨rfl, HX.out.trans (by repeat (first | exact Ext.refl _ | apply Ext.alloc | apply Ext.more))⟩
end Go.Proofs.Ytoaaklcbcbjaiaa
