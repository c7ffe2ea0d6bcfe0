/- LexQuotes: what is quoted is one token that says it, whatever stands about it. No condition. -/
import Derived.Test.YtojejhmodaaoiaaLexA
import Derived.Test.YtojejhmodaaoiaaRWd
import Derived.Test.YtojejhmodaaoiaaRow
import Derived.Test.YtojejhmodaaoiaaRows
import Derived.OpenShut
set_option linter.unusedSimpArgs false
set_option linter.unusedVariables false
namespace Go.Proofs.Ytojejhmodaaoiaa
open Go.RowKit

def TqPost (s blk : ByteArray) (w : World) (e : Ending) (w' : World) : Prop :=
  ∃ g cap, e = .returned (.tuple #[.slice (some ⟨g, 0, none⟩) 2 cap, .int .i64 0, .int .i64 0]) ∧ 2 ≤ cap ∧ g < w'.heap.size ∧
    w'.cell? ⟨g, 0, none⟩ = some (.int .i64 3) ∧ w'.cell? ⟨g, 1, none⟩ = some (.int .i64 (blk.size : Int)) ∧ w'.cell? ⟨g, 2, none⟩ = some (.string s) ∧ w'.cell? ⟨g, 3, none⟩ = some (.int .i64 0) ∧
    w'.cell? ⟨g, 4, none⟩ = some (.int .i64 0) ∧ Ext w w'
theorem quote_bad (s : ByteArray) (q : List UInt8) (er : Int) (h : quoteF s.data.toList = (q, er)) (he : er ≠ 0) : q = [] := by
  unfold quoteF at h
  split at h
  · simp only [Prod.mk.injEq] at h; exact h.1.symm
  · split at h
    · simp only [Prod.mk.injEq] at h; exact absurd h.2.symm he
    · simp only [Prod.mk.injEq] at h; exact h.1.symm
theorem tq_any (s blk : ByteArray) (q : List UInt8) (h : quoteF s.data.toList = (q, 0)) (hb : blankL blk.data.toList = true) (hk : blk.size ≤ 100) (w : World) :
    Calls Try.prog 8 #[.string (blk ++ ⟨q.toArray⟩ ++ ⟨#[35]⟩)] w (TqPost s blk w) := by
  have hs : s.data.toList.length ≤ 64 := by
    unfold quoteF at h
    split at h
    · simp at h
    · omega
  have hok : s.data.toList.all okQ = true ∧ q = 34 :: s.data.toList.flatMap quo1 ++ [34] := by
    unfold quoteF at h
    rw [if_neg (by omega)] at h
    split at h
    · next h1 => simp only [Prod.mk.injEq] at h; exact ⟨h1, h.1.symm⟩
    · simp at h
  obtain ⟨h1, rfl⟩ := hok
  have hlex := lex_quote s.data.toList blk.data.toList hb (by simpa using hk) hs h1
  have e1 : (blk ++ ⟨(34 :: s.data.toList.flatMap quo1 ++ [34]).toArray⟩ ++ ⟨#[35]⟩ : ByteArray).data.toList = blk.data.toList ++ (34 :: s.data.toList.flatMap quo1 ++ [34]) ++ [35] := by simp
  rw [← e1] at hlex
  refine (tokens_any _ _ hlex w).mono ?_
  rintro e w' (⟨_, g, cap, rfl, ho, hx⟩ | ⟨h, _⟩)
  · have C := tok_cell ho
    have hbl : blk.data.toList.length = blk.size := by simp
    refine ⟨g, cap, rfl, tok_cap ho, (ho.lt g rfl).2, C _ _ rfl, C _ _ ?_, C _ _ rfl, C _ _ rfl, C _ _ rfl, hx⟩
    rw [← hbl]; rfl
  · exact absurd rfl h
theorem byte_of {z : Int} (h : (Lit.int .u8 z : Lit).wf = true) : 0 ≤ z ∧ z ≤ 255 := by
  simp only [Lit.wf, Bool.and_eq_true, decide_eq_true_eq] at h
  simp [IntKind.min, IntKind.max, IntKind.bits, IntKind.signed] at h
  omega
theorem blk_ok : ∀ r : Nat, r < 5 → blankL ((⟨#[32, 10, 9, 32]⟩ : ByteArray).extract 0 r).data.toList = true ∧ ((⟨#[32, 10, 9, 32]⟩ : ByteArray).extract 0 r).size ≤ 4 := by decide +kernel

set_option maxHeartbeats 2000000 in
set_option maxRecDepth 20000 in
theorem lquotes_walk (s : ByteArray) (a : Int) (ha : 0 ≤ a ∧ a ≤ 255) (hs : s.size ≤ 140737488351232) (w : World) : Calls Try.prog 6 #[.string s, .int .u8 a] w fun e w' => e = .returned (.bool true) ∧ Ext w w' := by
  obtain ⟨q, er, hq⟩ : ∃ q er, quoteF s.data.toList = (q, er) := ⟨_, _, rfl⟩
  by_cases he : er = 0
  · subst he
    obtain ⟨r, hr⟩ : ∃ r : Nat, a % 5 = (r : Int) := ⟨(a % 5).toNat, by omega⟩
    have hr5 : r < 5 := by omega
    obtain ⟨hb1, hb2⟩ := blk_ok r hr5
    obtain ⟨blk, hblk⟩ : ∃ blk, (⟨#[32, 10, 9, 32]⟩ : ByteArray).extract 0 r = blk := ⟨_, rfl⟩
    rw [hblk] at hb1 hb2
    have HT := Lib.hid (tq_any s blk q hq hb1 (by omega))
    have hql : q.length ≤ 200 := by
      have h := hq
      have h2 := quo1_len s.data.toList
      unfold quoteF at h
      split at h
      · simp at h
      · split at h <;> simp only [Prod.mk.injEq] at h
        · rw [← h.1]; simp at h2 ⊢; simp at *; omega
        · rw [← h.1]; simp
    have HQ := Lib.hid hq
    obtain ⟨h0, h255⟩ := ha
    clear hq hb1
    have hr4 : (r : Int) ≤ 4 := by omega
    go_enter Try.func6, Try.ntmps6
    go_wp2_with (first
      | (go_at_call 9; refine (quote_any s q 0 HQ.out _).mono ?_; rintro e _ ⟨rfl, d, os, rfl⟩)
      | (go_at_call 8; (with_reducible refine (HT.out _).mono ?_); rintro e w1 ⟨g, cap, rfl, hcap, hg, c0, c1, c2, c3, c4, hx1⟩; have HX1 := Lib.hid hx1; clear hx1)
      | (go_at_call 7; refine (awake_any _).mono ?_; rintro e _ ⟨rfl, d, os, rfl⟩))
    go_ret
    exact ⟨rfl, (((Ext.refl _).more _ _).trans HX1.out).more _ _⟩
  · have hq0 := quote_bad s q er hq he
    subst hq0
    have HQ := Lib.hid hq
    have he1 : (er == 0) = false := by simpa using he
    have he2 : (er != 0) = true := by simpa using he
    clear hq he ha
    go_enter Try.func6, Try.ntmps6
    go_wp2_with (first
      | (go_at_call 9; refine (quote_any s [] er HQ.out _).mono ?_; rintro e _ ⟨rfl, d, os, rfl⟩)
      | (go_at_call 7; refine (awake_any _).mono ?_; rintro e _ ⟨rfl, d, os, rfl⟩))
    go_ret
    exact ⟨rfl, by repeat (first | exact Ext.refl _ | apply Ext.alloc | apply Ext.more)⟩

namespace LexQuotesRow
/-! ### The row -/
section
open Go.ChangeShapes Go.WideShapes Go.ChangeAt Go.RowKit Go.Joins
open Go.ChangeMaps (open_string shut_string)
theorem own : ownKnob Try.prog.godebug = none := by kernel_rfl
theorem laid : laidOutB Try.prog = true := by kernel_rfl

set_option maxRecDepth 100000 in
theorem lifted (os : Os) (started : os.Started) (H : Type) (enc : TypeId × Value → H) :
    ReturnsInHanded {} Try.checked os 6 .any (Rows.lexQuotesSpec.pre6 enc Try.prog Try.f6 Rows.lexQuotesRow.domain false) (Rows.lexQuotesSpec.post enc Try.prog Try.f6 false true false false) := by
  refine returnsInHanded_of_change_sized (C := Try.checked) own started (by kernel_rfl) Try.func6
    (ChangeSpec.witness6 (enc := enc) (C := Try.checked) false ⟨#[], #[.string ⟨#[]⟩, .int .u8 0], []⟩ 8 (by kernel_rfl) (by kernel_rfl) (by kernel_rfl) (by kernel_rfl)) ?_
  intro W base args ds gs before hval0 hW hcnd hsz0 _
  have hval : ∀ (j : Nat) t v, Try.f6.params[j]? = some t → args[j]? = some v → Value.okWide Try.prog W .any base t v := hval0
  have hW' := hW
  obtain ⟨p, q, hA0, hV, rfl, hfz, hnd⟩ := hW
  have hA : DataW.TrodAll enc Try.prog W 0 (fun _ => true) true Try.f6.params.toList args.toList ds p := hA0
  have hAk := hA
  have hpr : Try.f6.params.toList.all (fun t => Try.prog.readableRec t && decide (t < Try.prog.types.size)) = true := by kernel_rfl
  have hlt := hA.lt
  obtain ⟨rfl, rfl⟩ := trodVars_none hV
  have hsz : (DataW.weightsEach Try.prog (Try.f6.params.toList ++ []) (ds ++ [])).all (· ≤ reachBytes) = true := hsz0
  rw [Try.params6] at hA hval hsz
  simp only [List.append_nil] at hsz
  obtain ⟨v0, vs0, d0, ds0, p0, q0, hargs, rfl, rfl, h0, r0⟩ := trodAll_cons hA
  obtain ⟨v1, vs1, d1, ds1, p1, q1, rfl, rfl, rfl, h1, r1⟩ := trodAll_cons r0
  obtain ⟨rfl, rfl, rfl⟩ := trodAll_nil r1
  obtain rfl : args = #[v0, v1] := by cases args; simp_all
  obtain ⟨s, rfl, rfl, rfl, ws⟩ := open_string Try.underlying9 (hval 0 9 v0 rfl rfl) h0
  have ss : s.size ≤ 140737488351232 := by
    have h := sized_string hsz (j := 0) rfl rfl
    have e : reachBytes = 140737488351232 := by decide
    rw [e] at h
    simpa using h
  obtain ⟨a, rfl, rfl, rfl, wa⟩ := open_int Try.underlying5 (hval 1 5 v1 rfl rfl) h1
  clear hA0 hval0 hsz0
  refine (lquotes_walk s a (byte_of wa) ss W).mono fun e W' ⟨he, hx⟩ => ?_
  subst he
  exact ⟨_, rfl, _, _, _, [], _, [], hW', trodAll_mk1 (shut_bool Try.underlying4 _), trodAll_below laid hx.below hpr hAk hlt, rfl, hx.below.frame _, fun h => by cases h⟩

theorem proved : Rows.LexQuotesSaid :=
  OpenClaim.holds_of_wide 6 Try.f6 rfl rfl rfl rfl rfl rfl rfl ⟨rfl, rfl, rfl, rfl, rfl⟩ rfl rfl rfl rfl rfl (by kernel_rfl) Try.func6 (by kernel_rfl)
    (of_decide_eq_true (by kernel_rfl)) (by unfold Func.isWrapper; first | (rw [if_pos (by decide +kernel)]; kernel_rfl) | (rw [if_neg (by decide +kernel)]; exact ⟨rfl, rfl⟩))
    (fun os started H enc _ => lifted os started H enc)
end
#print axioms proved
end LexQuotesRow
end Go.Proofs.Ytojejhmodaaoiaa
