/- Lemmas for the claim (texts Pon, Psm, what its proof uses of them). -/
import Derived.Test.YtpnabjopfpdkhaaGreatDoorB19
set_option linter.unusedSimpArgs false
set_option linter.unusedVariables false
set_option maxHeartbeats 4000000
set_option maxRecDepth 20000
namespace Go.Proofs.YtpnabjopfpdkhaaGreatDoor
open Go.RowKit
attribute [go_sem] more_more Array.size_append
variable {b lb lo cap m : Nat} {nv : Value} {L : Toks} {N : List Nd} {w : World}
theorem sg_eq (d : Nat) (e1 o1 : PM Int) (m n : Nat) : qaR L d e1 o1 m n = pbind (takesP L ⟨#[45]⟩) (fun x => if x = true then qaV L 10 d o1 else pbind (takesP L ⟨#[40]⟩) fun x => if x = true then pbind e1 fun a => pbind (mustP L [⟨#[41]⟩]) fun _ => pok a else pno L 3) m n := by
 unfold qaR
 cases h1 : isP L ⟨#[45]⟩ m
 · rw [takes_tn _ _ h1]
   cases h2 : isP L ⟨#[40]⟩ m
   · rw [takes_tn _ _ h2]; rfl
   · rw [takes_ty _ _ h2]; rfl
 · rw [takes_ty _ _ h1]; rfl
theorem qdG (h : St b lb lo cap nv L m N w) (k : Int) (d : Nat) (hd : d ≤ 16) (o1 : PM Int) (ho : d < 16 → Dp b lb lo cap L 214 ((d : Int) + 1) o1) (r : PR Int) (hr : qaV L k d o1 m N.length = r) :
  Calls Tryz.prog 233 #[.pointer (some ⟨b, 0, none⟩), .int .i64 k, .int .i64 (d : Int)] w (PPost intV b lb lo cap nv L m N w r) := by
 have H0 := PS.begin h
 have T0 := Lib.hid (show _ = _ from by have := rb_begin hr; unfold qaV at this; exact this)
 have HO := Lib.hid ho
 have hd0 : 0 ≤ (d : Int) := by omega
 have hd1 : (d : Int) ≤ 16 := by omega
 clear h hr ho
 go_enter Tryz.func233, Tryz.ntmps233
 go_wp2_with (first
  | (go_at_call 130; (with_reducible refine (pdeep H0 (d + 1) zae _ zae T0).mono ?_); rintro e w1 (⟨c9, a9, rfl, HP⟩ | ⟨hd9, r1, rfl, T1, H1⟩); rotate_left)
  | (go_at_call 165; (with_reducible refine (qar _ _).mono ?_); rintro e wn ⟨rfl, hx⟩; have HN := PS.new (PS.ext H1 hx) (.cells #[.int .i64 k, .int .i64 (-1), .int .i64 (-1), .int .i64 (-1), .int .i64 (-1), .int .i64 0, .string ⟨#[]⟩, .string ⟨#[]⟩] 166 (0, 0)); clear hx)
  | (go_at_call 214; (with_reducible refine (pdp HN (HO.out zae) T1).mono ?_); rintro e w2 (⟨c9, a9, rfl, HP⟩ | ⟨z2, r2, rfl, T2, H2⟩); rotate_left; obtain ⟨n0, n1, n2, n3, n4, n5, n6, n7, u0, u1, u2, u3, u5, u6, u7, hkl⟩ := PS.node H2; have S2 : Hid (PS b lb lo cap L m N nv w [(wn.heap.size, .cells #[.int .i64 k, .int .i64 z2, .int .i64 (-1), .int .i64 (-1), .int .i64 (-1), .int .i64 0, .string ⟨#[]⟩, .string ⟨#[]⟩] 166 (0, 0))] r2 (w2.setCell ⟨wn.heap.size, 1, none⟩ (.int .i64 z2))) := PS.set H2 1 (.int .i64 z2))
  | (go_at_call 168; (refine (play S2 _ _ _ _ _ _ _ _ T2).mono ?_); rintro e w3 (⟨c9, a9, rfl, HP⟩ | ⟨z3, rfl, HP⟩)))
 all_goals first | exact ⟨rfl, HP.out⟩ | (go_ret; exact HP.out)
theorem signed_any (h : St b lb lo cap nv L m N w) (d : Nat) (hd : d ≤ 16) (e1 o1 : PM Int) (ho : d < 16 → Dp b lb lo cap L 214 ((d : Int) + 1) o1) (he : Dp b lb lo cap L 196 ((d : Int) + 1) e1) (r : PR Int) (hr : qaR L d e1 o1 m N.length = r) :
  Calls Tryz.prog 227 #[.pointer (some ⟨b, 0, none⟩), .int .i64 (d : Int)] w (PPost intV b lb lo cap nv L m N w r) := by
 have H0 := PS.begin h
 have T0 := Lib.hid (rb_begin ((sg_eq d e1 o1 m N.length).symm.trans hr))
 have HW : RowKit.Hid (∀ nv m N w, St b lb lo cap nv L m N w → ∀ r, qaV L 10 d o1 m N.length = r → Calls Tryz.prog 233 #[.pointer (some ⟨b, 0, none⟩), .int .i64 10, .int .i64 (d : Int)] w (PPost intV b lb lo cap nv L m N w r)) := Lib.hid fun nv m N w h r hr => qdG h 10 d hd o1 ho r hr
 have HE := Lib.hid he
 have hd0 : 0 ≤ (d : Int) := by omega
 have hd1 : (d : Int) ≤ 16 := by omega
 clear h hr ho he
 go_enter Tryz.func227, Tryz.ntmps227
 go_wp2_with (first
  | (go_at_call 194; (with_reducible refine (ptakes H0 _ T0).mono ?_); rintro e w1 (⟨c9, a9, rfl, HP⟩ | ⟨x1, r1, rfl, T1, H1⟩); rotate_left; cases x1 <;> simp only [Bool.false_eq_true, if_false, if_true] at T1)
  | (go_at_call 194; (with_reducible refine (ptakes H1 _ T1).mono ?_); rintro e w2 (⟨c9, a9, rfl, HP⟩ | ⟨x2, r2, rfl, T2, H2⟩); rotate_left; cases x2 <;> simp only [Bool.false_eq_true, if_false, if_true] at T2)
  | (go_at_call 233; (refine (pend H1 (fun nv m N hs q hq => HW.out nv m N _ hs q hq) T1).mono ?_); rintro e w9 (⟨c9, a9, rfl, HP⟩ | ⟨z9, rfl, HP⟩))
  | (go_at_call 133; (refine (pfail H2 _ T2).mono ?_); rintro e w9 ⟨c9, a9, rfl, HP⟩)
  | (go_at_call 196; (with_reducible refine (pdp H2 HE.out T2).mono ?_); rintro e w3 (⟨c9, a9, rfl, HP⟩ | ⟨z3, r3, rfl, T3, H3⟩); rotate_left)
  | (go_at_call 195; (with_reducible refine (qaH H3 _ _ zag T3).mono ?_); rintro e w4 (⟨c9, a9, rfl, HP⟩ | ⟨r4, rfl, T4, H4⟩); rotate_left))
 all_goals first | exact ⟨rfl, HP.out⟩ | (go_ret; first | exact HP.out | exact PS.fin H4 T4)
theorem wd_cases {d : Nat} {e1 o1 : PM Int} {k i a : Int} {r : PR Int} {ts : ByteArray} {n : Nat} (ht : tk L m = (⟨k, ts, i⟩, a)) (hn : m + 1 < L.length) (hr : qaP L d e1 o1 m n = r) :
  ((callF ts == -1) = false ∧ r = rb n (.ok ((), m + 1, [])) (pbind (mustP L [⟨#[40]⟩]) fun _ => pbind e1 fun a => pbind (mustP L [⟨#[41]⟩]) fun _ => layP L { nd (callF ts) with a := a })) ∨ (callF ts = -1 ∧ ((isP L ⟨#[110, 111, 116]⟩ m = true ∧ r = rb n (.ok ((), m + 1, [])) (qaV L 9 d o1)) ∨ (isP L ⟨#[110, 111, 116]⟩ m = false ∧ isP L ⟨#[110, 105, 108]⟩ m = true ∧ r = rb n (.ok ((), m + 1, [])) (layP L (nd 0))) ∨
   (isP L ⟨#[110, 111, 116]⟩ m = false ∧ isP L ⟨#[110, 105, 108]⟩ m = false ∧ ∃ q1 q2 : Bool, (ts.toList == [116, 114, 117, 101]) = q1 ∧ (ts.toList == [102, 97, 108, 115, 101]) = q2 ∧ ((q1 = true ∧ r = rb n (.ok ((), m + 1, [])) (layP L { nd 1 with i := 1 })) ∨ (q1 = false ∧ q2 = true ∧ r = rb n (.ok ((), m + 1, [])) (layP L (nd 1))) ∨ (q1 = false ∧ q2 = false ∧ r = rb n (.ok ((), m, [])) (pno L 3)))))) := by
 unfold qaP sIs at hr
 rw [ht] at hr
 dsimp only at hr
 by_cases hc : callF ts = -1
 · rw [if_pos hc] at hr
   refine .inr ⟨hc, ?_⟩
   cases p1 : isP L ⟨#[110, 111, 116]⟩ m
   · rw [p1, if_neg zal] at hr
     cases p2 : isP L ⟨#[110, 105, 108]⟩ m
     · rw [p2, if_neg zal] at hr
       refine .inr (.inr ⟨rfl, rfl, _, _, rfl, rfl, ?_⟩)
       cases q1 : ts.toList == [116, 114, 117, 101]
       · rw [q1, if_neg zal] at hr
         cases q2 : ts.toList == [102, 97, 108, 115, 101]
         · rw [q2, if_neg zal] at hr
           exact .inr (.inr ⟨rfl, rfl, rb_begin hr⟩)
         · rw [q2, if_pos rfl] at hr
           exact .inr (.inl ⟨rfl, rfl, hr.symm⟩)
       · rw [q1, if_pos rfl] at hr
         exact .inl ⟨rfl, hr.symm⟩
     · rw [p2, if_pos rfl] at hr
       exact .inr (.inl ⟨rfl, rfl, hr.symm⟩)
   · rw [p1, if_pos rfl] at hr
     exact .inl ⟨rfl, hr.symm⟩
 · rw [if_neg hc] at hr
   exact .inl ⟨by simpa using hc, hr.symm⟩
theorem worded_any (h : St b lb lo cap nv L m N w) (hk5 : (tk L m).1.k = 5) (d : Nat) (hd : d ≤ 16) (e1 o1 : PM Int) (ho : d < 16 → Dp b lb lo cap L 214 ((d : Int) + 1) o1) (he : Dp b lb lo cap L 196 ((d : Int) + 1) e1) (r : PR Int) (hr : qaP L d e1 o1 m N.length = r) :
  Calls Tryz.prog 228 #[.pointer (some ⟨b, 0, none⟩), .int .i64 (d : Int)] w (PPost intV b lb lo cap nv L m N w r) := by
 have H0 := PS.begin h
 have hd0 : 0 ≤ (d : Int) := by omega
 have hd1 : (d : Int) ≤ 16 := by omega
 have NX := h.next (by rw [hk5]; decide)
 have HW : RowKit.Hid (∀ nv m N w, St b lb lo cap nv L m N w → ∀ r, qaV L 9 d o1 m N.length = r → Calls Tryz.prog 233 #[.pointer (some ⟨b, 0, none⟩), .int .i64 9, .int .i64 (d : Int)] w (PPost intV b lb lo cap nv L m N w r)) := Lib.hid fun nv m N w h r hr => qdG h 9 d hd o1 ho r hr
 have HE := Lib.hid he
 have hm : (m : Int) ≤ 5000 := by have := h.ends.few; have := h.pos; omega
 have hm0 : 0 ≤ (m : Int) := by omega
 have S := Lib.hid h
 obtain ⟨c0, c1, c2, c3, f1, f2, f3, hbb⟩ := h.facts
 clear c0 c2 c3 f2 f3
 have HS : RowKit.Hid (m + 1 < L.length → Hid (PS b lb lo cap L m N nv w [] (.ok ((), m + 1, [])) (w.setCell ⟨b, 1, none⟩ (.int .i64 ((m : Int) + 1))))) := Lib.hid fun hx => PS.step h (Ext.refl w) hx
 obtain ⟨⟨⟨k, ts, i⟩, a⟩, htt⟩ : ∃ tt, tk L m = tt := ⟨_, rfl⟩
 have TK : RowKit.Hid (∀ w1, Ext w w1 → Calls Tryz.prog 132 #[.pointer (some ⟨b, 0, none⟩)] w1 fun e w' => e = .returned (.agg #[.int .i64 k, .int .i64 a, .string ts, .int .i64 i]) ∧ Ext w1 w') := Lib.hid fun w1 hx => by have := qaS (h.ext hx); rw [htt] at this; exact this
 have CS := wd_cases htt NX hr
 have CA := Lib.hid (call_any ts)
 have TN : RowKit.Hid (∀ s, isP L s m = false → ∀ w1, Ext w w1 → Calls Tryz.prog 194 #[.pointer (some ⟨b, 0, none⟩), .string s] w1 fun e w' => e = .returned (.bool false) ∧ Ext w1 w') := Lib.hid fun s hp w1 hx => qcj (h.ext hx) _ hp
 have H1 := HS.out NX
 clear h hr ho he htt hk5 NX HS
 rcases CS with ⟨hc, tt⟩ | ⟨hc, ⟨p1, tt⟩ | ⟨p1, p2, tt⟩ | ⟨p1, p2, q1, q2, h1, h2, ⟨rfl, tt⟩ | ⟨rfl, rfl, tt⟩ | ⟨rfl, rfl, tt⟩⟩⟩
 all_goals
  have T0 := Lib.hid tt
  clear tt
  try rw [hc] at CA
  go_enter Tryz.func228, Tryz.ntmps228
  go_wp2_with (first
   | (go_at_call 132; (with_reducible refine (TK.out _ zaa).mono ?_); rintro e _ ⟨rfl, d2, os2, rfl⟩)
   | (go_at_call 234; (with_reducible refine (CA.out _).mono ?_); rintro e _ ⟨rfl, d5, os5, rfl⟩)
   | (go_at_call 194; (with_reducible refine (TN.out _ (by assumption) _ zaa).mono ?_); rintro e _ ⟨rfl, d7, os7, rfl⟩)
   | (go_at_call 194; (with_reducible refine (qdo (PS.ext H0 zaa) _ (by assumption)).mono ?_); rintro e w1 ⟨rfl, HY⟩)
   | (go_at_call 195; (with_reducible refine (qaH (PS.ext H1 zaa) _ _ zag T0).mono ?_); rintro e w2 (⟨c9, a9, rfl, HP⟩ | ⟨r2, rfl, T2, H2⟩); rotate_left)
   | (go_at_call 196; (with_reducible refine (pdp HN HE.out T2).mono ?_); rintro e w3 (⟨c9, a9, rfl, HP⟩ | ⟨z3, r3, rfl, T3, H3⟩); rotate_left; obtain ⟨n0, n1, n2, n3, n4, n5, n6, n7, u0, u1, u2, u3, u5, u6, u7, hkl⟩ := PS.node H3; have S3 : Hid (PS b lb lo cap L m N nv w [(wn.heap.size, .cells #[.int .i64 (callF ts), .int .i64 z3, .int .i64 (-1), .int .i64 (-1), .int .i64 (-1), .int .i64 0, .string ⟨#[]⟩, .string ⟨#[]⟩] 166 (0, 0))] r3 (w3.setCell ⟨wn.heap.size, 1, none⟩ (.int .i64 z3))) := PS.set H3 1 (.int .i64 z3))
   | (go_at_call 195; (with_reducible refine (qaH S3 _ _ zag T3).mono ?_); rintro e w4 (⟨c9, a9, rfl, HP⟩ | ⟨r4, rfl, T4, H4⟩); rotate_left; obtain ⟨n0, n1, n2, n3, n4, n5, n6, n7, u0, u1, u2, u3, u5, u6, u7, hkl⟩ := PS.node H4)
   | (go_at_call 168; (refine (play H4 _ _ _ _ _ _ _ _ T4).mono ?_); rintro e w5 (⟨c9, a9, rfl, HP⟩ | ⟨z5, rfl, HP⟩))
   | (go_at_call 165; (with_reducible refine (qar _ _).mono ?_); rintro e wn ⟨rfl, hx⟩; have HN := PS.new (PS.ext H2 hx) (.cells #[.int .i64 (callF ts), .int .i64 (-1), .int .i64 (-1), .int .i64 (-1), .int .i64 (-1), .int .i64 0, .string ⟨#[]⟩, .string ⟨#[]⟩] 166 (0, 0)); clear hx)
   | (go_at_call 165; (with_reducible refine (qar _ _).mono ?_); rintro e _ ⟨rfl, d3, os3, rfl⟩)
   | (go_at_call 233; (refine (pend HY (fun nv m N hs q hq => HW.out nv m N _ hs q hq) T0).mono ?_); rintro e w9 (⟨c9, a9, rfl, HP⟩ | ⟨z9, rfl, HP⟩))
   | (go_at_call 168; (refine (play (PS.ext HY zaa) _ _ _ _ _ _ _ _ T0).mono ?_); rintro e w9 (⟨c9, a9, rfl, HP⟩ | ⟨z9, rfl, HP⟩))
   | (go_at_call 168; (refine (play (PS.ext H1 zaa) _ _ _ _ _ _ _ _ T0).mono ?_); rintro e w9 (⟨c9, a9, rfl, HP⟩ | ⟨z9, rfl, HP⟩))
   | (go_at_call 133; (refine (pfail (PS.ext H0 zaa) _ T0).mono ?_); rintro e w9 ⟨c9, a9, rfl, HP⟩))
  all_goals first | exact ⟨rfl, HP.out⟩ | (go_ret; exact HP.out)
theorem on_cases {d : Nat} {e1 o1 : PM Int} {k i a : Int} {r : PR Int} {ts : ByteArray} {n : Nat} (ht : tk L m = (⟨k, ts, i⟩, a)) (hn : (tk L m).1.k ≠ 0 → m + 1 < L.length) (hr : oneP L d e1 o1 m n = r) :
  (k = 2 ∧ m + 1 < L.length ∧ r = rb n (.ok ((), m + 1, [])) (layP L { nd 2 with i := i })) ∨ (k = 3 ∧ m + 1 < L.length ∧ r = rb n (.ok ((), m + 1, [])) (layP L { nd 3 with s := ts })) ∨ (k = 1 ∧ m + 1 < L.length ∧ r = rb n (.ok ((), m + 1, [])) (layP L { nd 4 with s := ts })) ∨
  (k = 4 ∧ r = rb n (.ok ((), m, [])) (qaR L d e1 o1)) ∨ (k = 5 ∧ r = rb n (.ok ((), m, [])) (qaP L d e1 o1)) ∨ ((k == 2) = false ∧ (k == 3) = false ∧ (k == 1) = false ∧ (k == 4) = false ∧ (k == 5) = false ∧ r = rb n (.ok ((), m, [])) (pno L 3)) := by
 unfold oneP at hr
 rw [ht] at hr hn
 dsimp only at hr hn
 by_cases e2 : k = 2
 · rw [if_pos e2] at hr; exact .inl ⟨e2, hn zae, hr.symm⟩
 by_cases e3 : k = 3
 · rw [if_neg e2, if_pos e3] at hr; exact .inr (.inl ⟨e3, hn zae, hr.symm⟩)
 by_cases e1' : k = 1
 · rw [if_neg e2, if_neg e3, if_pos e1'] at hr; exact .inr (.inr (.inl ⟨e1', hn zae, hr.symm⟩))
 by_cases e4 : k = 4
 · rw [if_neg e2, if_neg e3, if_neg e1', if_pos e4] at hr; exact .inr (.inr (.inr (.inl ⟨e4, rb_begin hr⟩)))
 by_cases e5 : k = 5
 · rw [if_neg e2, if_neg e3, if_neg e1', if_neg e4, if_pos e5] at hr; exact .inr (.inr (.inr (.inr (.inl ⟨e5, rb_begin hr⟩))))
 rw [if_neg e2, if_neg e3, if_neg e1', if_neg e4, if_neg e5] at hr
 exact .inr (.inr (.inr (.inr (.inr ⟨by simpa using e2, by simpa using e3, by simpa using e1', by simpa using e4, by simpa using e5, rb_begin hr⟩))))
theorem one_any (h : St b lb lo cap nv L m N w) (d : Nat) (hd : d ≤ 16) (e1 o1 : PM Int) (ho : d < 16 → Dp b lb lo cap L 214 ((d : Int) + 1) o1) (he : Dp b lb lo cap L 196 ((d : Int) + 1) e1) (r : PR Int) (hr : oneP L d e1 o1 m N.length = r) :
  Calls Tryz.prog 214 #[.pointer (some ⟨b, 0, none⟩), .int .i64 (d : Int)] w (PPost intV b lb lo cap nv L m N w r) := by
 have H0 := PS.begin h
 have hm : (m : Int) ≤ 5000 := by have := h.ends.few; have := h.pos; omega
 have hm0 : 0 ≤ (m : Int) := by omega
 have S := Lib.hid h
 obtain ⟨c0, c1, c2, c3, f1, f2, f3, hbb⟩ := h.facts
 clear c0 c2 c3 f2 f3
 have HS : RowKit.Hid (m + 1 < L.length → Hid (PS b lb lo cap L m N nv w [] (.ok ((), m + 1, [])) (w.setCell ⟨b, 1, none⟩ (.int .i64 ((m : Int) + 1))))) := Lib.hid fun hx => PS.step h (Ext.refl w) hx
 obtain ⟨⟨⟨k, ts, i⟩, a⟩, htt⟩ : ∃ tt, tk L m = tt := ⟨_, rfl⟩
 have TK : RowKit.Hid (∀ w1, Ext w w1 → Calls Tryz.prog 132 #[.pointer (some ⟨b, 0, none⟩)] w1 fun e w' => e = .returned (.agg #[.int .i64 k, .int .i64 a, .string ts, .int .i64 i]) ∧ Ext w1 w') := Lib.hid fun w1 hx => by have := qaS (h.ext hx); rw [htt] at this; exact this
 have SG : RowKit.Hid (∀ nv w, St b lb lo cap nv L m N w → ∀ r, qaR L d e1 o1 m N.length = r → Calls Tryz.prog 227 #[.pointer (some ⟨b, 0, none⟩), .int .i64 (d : Int)] w (PPost intV b lb lo cap nv L m N w r)) := Lib.hid fun nv w h r hr => signed_any h d hd e1 o1 ho he r hr
 have WD : RowKit.Hid (k = 5 → ∀ nv w, St b lb lo cap nv L m N w → ∀ r, qaP L d e1 o1 m N.length = r → Calls Tryz.prog 228 #[.pointer (some ⟨b, 0, none⟩), .int .i64 (d : Int)] w (PPost intV b lb lo cap nv L m N w r)) := Lib.hid fun hk nv w h r hr => worded_any h (by rw [htt]; exact hk) d hd e1 o1 ho he r hr
 have CS := on_cases htt h.next hr
 clear h hr ho he htt
 rcases CS with ⟨rfl, nx, tt⟩ | ⟨rfl, nx, tt⟩ | ⟨rfl, nx, tt⟩ | ⟨rfl, tt⟩ | ⟨rfl, tt⟩ | ⟨q2, q3, q1, q4, q5, tt⟩
 all_goals
  have T0 := Lib.hid tt
  try have H1 := HS.out nx
  clear tt
  try clear nx
  go_enter Tryz.func214, Tryz.ntmps214
  go_wp2_with (first
   | (go_at_call 132; (with_reducible refine (TK.out _ zaa).mono ?_); rintro e _ ⟨rfl, d2, os2, rfl⟩)
   | (go_at_call 165; (with_reducible refine (qar _ _).mono ?_); rintro e _ ⟨rfl, d3, os3, rfl⟩)
   | (go_at_call 168; (refine (play (PS.ext H1 zaa) _ _ _ _ _ _ _ _ T0).mono ?_); rintro e w9 (⟨c9, a9, rfl, HP⟩ | ⟨z9, rfl, HP⟩))
   | (go_at_call 227; (refine (pend1 (PS.ext H0 zaa) (fun nv hs q hq => SG.out nv _ hs q hq) T0).mono ?_); rintro e w9 (⟨c9, a9, rfl, HP⟩ | ⟨z9, rfl, HP⟩))
   | (go_at_call 228; (refine (pend1 (PS.ext H0 zaa) (fun nv hs q hq => WD.out zal nv _ hs q hq) T0).mono ?_); rintro e w9 (⟨c9, a9, rfl, HP⟩ | ⟨z9, rfl, HP⟩))
   | (go_at_call 133; (refine (pfail (PS.ext H0 zaa) _ T0).mono ?_); rintro e w9 ⟨c9, a9, rfl, HP⟩))
  all_goals first | exact ⟨rfl, HP.out⟩ | (go_ret; exact HP.out)
end Go.Proofs.YtpnabjopfpdkhaaGreatDoor

set_option maxHeartbeats 4000000
set_option maxRecDepth 20000
namespace Go.Proofs.YtpnabjopfpdkhaaGreatDoor
open Go.RowKit
attribute [go_sem] more_more Array.size_append
variable {b lb lo cap m : Nat} {nv : Value} {L : Toks} {N : List Nd} {w : World}
theorem st_cases {ex br : PM Int} {k i a : Int} {r : PR Int} {ts : ByteArray} {n : Nat} (ht : tk L m = (⟨k, ts, i⟩, a)) (hr : stmtP L ex br m n = r) :
  ((k == 5) = false ∧ r = rb n (.ok ((), m, [])) (pok (-1))) ∨ (k = 5 ∧ ∃ q1 q2 q3 q4 q5 q6 q7 q8 q9 : Bool, (ts.toList == [108, 101, 116]) = q1 ∧ (ts.toList == [115, 101, 116]) = q2 ∧ (ts.toList == [112, 117, 116]) = q3 ∧ (ts.toList == [100, 101, 108, 101, 116, 101]) = q4 ∧ (ts.toList == [97, 98, 111, 114, 116]) = q5 ∧ (ts.toList == [114, 101, 116, 117, 114, 110]) = q6 ∧ (ts.toList == [105, 102]) = q7 ∧ (ts.toList == [102, 111, 114]) = q8 ∧ (ts.toList == [114, 101, 112, 101, 97, 116]) = q9 ∧ (
  (q1 = true ∧ r = rb n (.ok ((), m, [])) (qbf L 20 ex)) ∨
  (q1 = false ∧ q2 = true ∧ r = rb n (.ok ((), m, [])) (qbf L 21 ex)) ∨
  (q1 = false ∧ q2 = false ∧ q3 = true ∧ r = rb n (.ok ((), m, [])) (putP L ex)) ∨
  (q1 = false ∧ q2 = false ∧ q3 = false ∧ q4 = true ∧ r = rb n (.ok ((), m, [])) (qax L 23 ex)) ∨
  (q1 = false ∧ q2 = false ∧ q3 = false ∧ q4 = false ∧ q5 = true ∧ r = rb n (.ok ((), m, [])) (qax L 27 ex)) ∨
  (q1 = false ∧ q2 = false ∧ q3 = false ∧ q4 = false ∧ q5 = false ∧ q6 = true ∧ r = rb n (.ok ((), m, [])) (qax L 28 ex)) ∨
  (q1 = false ∧ q2 = false ∧ q3 = false ∧ q4 = false ∧ q5 = false ∧ q6 = false ∧ q7 = true ∧ r = rb n (.ok ((), m, [])) (whenP L ex br)) ∨
  (q1 = false ∧ q2 = false ∧ q3 = false ∧ q4 = false ∧ q5 = false ∧ q6 = false ∧ q7 = false ∧ q8 = true ∧ r = rb n (.ok ((), m, [])) (eachP L ex br)) ∨
  (q1 = false ∧ q2 = false ∧ q3 = false ∧ q4 = false ∧ q5 = false ∧ q6 = false ∧ q7 = false ∧ q8 = false ∧ q9 = true ∧ r = rb n (.ok ((), m + 1, [])) (pbind (qbq L) fun i => pbind br fun b => layP L { nd 26 with i := i, b := b })) ∨
  (q1 = false ∧ q2 = false ∧ q3 = false ∧ q4 = false ∧ q5 = false ∧ q6 = false ∧ q7 = false ∧ q8 = false ∧ q9 = false ∧ r = rb n (.ok ((), m, [])) (pok (-1))))) := by
 unfold stmtP sIs at hr
 rw [ht] at hr
 dsimp only at hr
 by_cases e5 : k = 5
 · rw [if_neg (by simp [e5])] at hr
   refine .inr ⟨e5, _, _, _, _, _, _, _, _, _, rfl, rfl, rfl, rfl, rfl, rfl, rfl, rfl, rfl, ?_⟩
   cases q1 : ts.toList == [108, 101, 116]
   rotate_left
   · rw [q1, if_pos rfl] at hr
     exact .inl ⟨rfl, rb_begin hr⟩
   · rw [q1, if_neg zal] at hr
     cases q2 : ts.toList == [115, 101, 116]
     rotate_left
     · rw [q2, if_pos rfl] at hr
       exact .inr (.inl ⟨rfl, rfl, rb_begin hr⟩)
     · rw [q2, if_neg zal] at hr
       cases q3 : ts.toList == [112, 117, 116]
       rotate_left
       · rw [q3, if_pos rfl] at hr
         exact .inr (.inr (.inl ⟨rfl, rfl, rfl, rb_begin hr⟩))
       · rw [q3, if_neg zal] at hr
         cases q4 : ts.toList == [100, 101, 108, 101, 116, 101]
         rotate_left
         · rw [q4, if_pos rfl] at hr
           exact .inr (.inr (.inr (.inl ⟨rfl, rfl, rfl, rfl, rb_begin hr⟩)))
         · rw [q4, if_neg zal] at hr
           cases q5 : ts.toList == [97, 98, 111, 114, 116]
           rotate_left
           · rw [q5, if_pos rfl] at hr
             exact .inr (.inr (.inr (.inr (.inl ⟨rfl, rfl, rfl, rfl, rfl, rb_begin hr⟩))))
           · rw [q5, if_neg zal] at hr
             cases q6 : ts.toList == [114, 101, 116, 117, 114, 110]
             rotate_left
             · rw [q6, if_pos rfl] at hr
               exact .inr (.inr (.inr (.inr (.inr (.inl ⟨rfl, rfl, rfl, rfl, rfl, rfl, rb_begin hr⟩)))))
             · rw [q6, if_neg zal] at hr
               cases q7 : ts.toList == [105, 102]
               rotate_left
               · rw [q7, if_pos rfl] at hr
                 exact .inr (.inr (.inr (.inr (.inr (.inr (.inl ⟨rfl, rfl, rfl, rfl, rfl, rfl, rfl, rb_begin hr⟩))))))
               · rw [q7, if_neg zal] at hr
                 cases q8 : ts.toList == [102, 111, 114]
                 rotate_left
                 · rw [q8, if_pos rfl] at hr
                   exact .inr (.inr (.inr (.inr (.inr (.inr (.inr (.inl ⟨rfl, rfl, rfl, rfl, rfl, rfl, rfl, rfl, rb_begin hr⟩)))))))
                 · rw [q8, if_neg zal] at hr
                   cases q9 : ts.toList == [114, 101, 112, 101, 97, 116]
                   rotate_left
                   · rw [q9, if_pos rfl] at hr
                     exact .inr (.inr (.inr (.inr (.inr (.inr (.inr (.inr (.inl ⟨rfl, rfl, rfl, rfl, rfl, rfl, rfl, rfl, rfl, hr.symm⟩))))))))
                   · rw [q9, if_neg zal] at hr
                     exact .inr (.inr (.inr (.inr (.inr (.inr (.inr (.inr (.inr (⟨rfl, rfl, rfl, rfl, rfl, rfl, rfl, rfl, rfl, rb_begin hr⟩)))))))))
 · rw [if_pos (by simpa using e5)] at hr
   exact .inl ⟨by simpa using e5, rb_begin hr⟩
theorem stmt_any (h : St b lb lo cap nv L m N w) (d : Nat) (hd : d ≤ 16) (ex bk : PM Int) (he : Dp b lb lo cap L 196 (d : Int) ex) (hb : Dp b lb lo cap L 111 ((d : Int) + 1) bk) (r : PR Int) (hr : stmtP L ex (qaM L bk) m N.length = r) :
  Calls Tryz.prog 131 #[.pointer (some ⟨b, 0, none⟩), .int .i64 (d : Int)] w (PPost intV b lb lo cap nv L m N w r) := by
 have H0 := PS.begin h
 have hd0 : 0 ≤ (d : Int) := by omega
 have hd1 : (d : Int) ≤ 16 := by omega
 have hm : (m : Int) ≤ 5000 := by have := h.ends.few; have := h.pos; omega
 have hm0 : 0 ≤ (m : Int) := by omega
 have S := Lib.hid h
 obtain ⟨c0, c1, c2, c3, f1, f2, f3, hbb⟩ := h.facts
 clear c0 c2 c3 f2 f3
 have HS : RowKit.Hid (m + 1 < L.length → Hid (PS b lb lo cap L m N nv w [] (.ok ((), m + 1, [])) (w.setCell ⟨b, 1, none⟩ (.int .i64 ((m : Int) + 1))))) := Lib.hid fun hx => PS.step h (Ext.refl w) hx
 obtain ⟨⟨⟨k, ts, i⟩, a⟩, htt⟩ : ∃ tt, tk L m = tt := ⟨_, rfl⟩
 have TK : RowKit.Hid (∀ w1, Ext w w1 → Calls Tryz.prog 132 #[.pointer (some ⟨b, 0, none⟩)] w1 fun e w' => e = .returned (.agg #[.int .i64 k, .int .i64 a, .string ts, .int .i64 i]) ∧ Ext w1 w') := Lib.hid fun w1 hx => by have := qaS (h.ext hx); rw [htt] at this; exact this
 have C_let : RowKit.Hid (k = 5 → (ts.toList == [108, 101, 116]) = true → ∀ nv w, St b lb lo cap nv L m N w → ∀ r, (qbf L 20 ex) m N.length = r → Calls Tryz.prog 161 #[.pointer (some ⟨b, 0, none⟩), .int .i64 (d : Int)] w (PPost intV b lb lo cap nv L m N w r)) := Lib.hid fun hk hs nv w h r hr => names_let h (by rw [htt]; exact hk) (by rw [htt]; simpa using hs) _ _ he r hr
 have C_set : RowKit.Hid (k = 5 → (ts.toList == [115, 101, 116]) = true → ∀ nv w, St b lb lo cap nv L m N w → ∀ r, (qbf L 21 ex) m N.length = r → Calls Tryz.prog 161 #[.pointer (some ⟨b, 0, none⟩), .int .i64 (d : Int)] w (PPost intV b lb lo cap nv L m N w r)) := Lib.hid fun hk hs nv w h r hr => names_set h (by rw [htt]; exact hk) (by rw [htt]; simpa using hs) _ _ he r hr
 have C_put : RowKit.Hid (k = 5 → (ts.toList == [112, 117, 116]) = true → ∀ nv w, St b lb lo cap nv L m N w → ∀ r, (putP L ex) m N.length = r → Calls Tryz.prog 162 #[.pointer (some ⟨b, 0, none⟩), .int .i64 (d : Int)] w (PPost intV b lb lo cap nv L m N w r)) := Lib.hid fun hk hs nv w h r hr => simple_put h (by rw [htt]; exact hk) (by rw [htt]; simpa using hs) _ _ he r hr
 have C_delete : RowKit.Hid (k = 5 → (ts.toList == [100, 101, 108, 101, 116, 101]) = true → ∀ nv w, St b lb lo cap nv L m N w → ∀ r, (qax L 23 ex) m N.length = r → Calls Tryz.prog 162 #[.pointer (some ⟨b, 0, none⟩), .int .i64 (d : Int)] w (PPost intV b lb lo cap nv L m N w r)) := Lib.hid fun hk hs nv w h r hr => qdT h (by rw [htt]; exact hk) (by rw [htt]; simpa using hs) _ _ he r hr
 have C_abort : RowKit.Hid (k = 5 → (ts.toList == [97, 98, 111, 114, 116]) = true → ∀ nv w, St b lb lo cap nv L m N w → ∀ r, (qax L 27 ex) m N.length = r → Calls Tryz.prog 162 #[.pointer (some ⟨b, 0, none⟩), .int .i64 (d : Int)] w (PPost intV b lb lo cap nv L m N w r)) := Lib.hid fun hk hs nv w h r hr => simple_abort h (by rw [htt]; exact hk) (by rw [htt]; simpa using hs) _ _ he r hr
 have C_return : RowKit.Hid (k = 5 → (ts.toList == [114, 101, 116, 117, 114, 110]) = true → ∀ nv w, St b lb lo cap nv L m N w → ∀ r, (qax L 28 ex) m N.length = r → Calls Tryz.prog 162 #[.pointer (some ⟨b, 0, none⟩), .int .i64 (d : Int)] w (PPost intV b lb lo cap nv L m N w r)) := Lib.hid fun hk hs nv w h r hr => qdN h (by rw [htt]; exact hk) (by rw [htt]; simpa using hs) _ _ he r hr
 have C_if : RowKit.Hid (k = 5 → (ts.toList == [105, 102]) = true → ∀ nv w, St b lb lo cap nv L m N w → ∀ r, (whenP L ex (qaM L bk)) m N.length = r → Calls Tryz.prog 163 #[.pointer (some ⟨b, 0, none⟩), .int .i64 (d : Int)] w (PPost intV b lb lo cap nv L m N w r)) := Lib.hid fun hk hs nv w h r hr => when_any h (by rw [htt]; exact hk) (by rw [htt]; simpa using hs) d hd _ _ he hb r hr
 have C_for : RowKit.Hid (k = 5 → (ts.toList == [102, 111, 114]) = true → ∀ nv w, St b lb lo cap nv L m N w → ∀ r, (eachP L ex (qaM L bk)) m N.length = r → Calls Tryz.prog 164 #[.pointer (some ⟨b, 0, none⟩), .int .i64 (d : Int)] w (PPost intV b lb lo cap nv L m N w r)) := Lib.hid fun hk hs nv w h r hr => each_any h (by rw [htt]; exact hk) (by rw [htt]; simpa using hs) d hd _ _ he hb r hr
 have HB : RowKit.Hid (Dp b lb lo cap L 167 ((d : Int) + 1) (qaM L bk)) := Lib.hid fun nv m N w h r hr => qcr h _ bk hb r hr
 have CS := st_cases htt hr
 have NX : k = 5 → m + 1 < L.length := fun e => h.next (by rw [htt]; dsimp only; omega)
 clear h hr he hb htt
 rcases CS with ⟨q5, tt⟩ | ⟨rfl, q1, q2, q3, q4, q5, q6, q7, q8, q9, h1, h2, h3, h4, h5, h6, h7, h8, h9, ⟨rfl, tt⟩ | ⟨rfl, rfl, tt⟩ | ⟨rfl, rfl, rfl, tt⟩ | ⟨rfl, rfl, rfl, rfl, tt⟩ | ⟨rfl, rfl, rfl, rfl, rfl, tt⟩ | ⟨rfl, rfl, rfl, rfl, rfl, rfl, tt⟩ | ⟨rfl, rfl, rfl, rfl, rfl, rfl, rfl, tt⟩ | ⟨rfl, rfl, rfl, rfl, rfl, rfl, rfl, rfl, tt⟩ | ⟨rfl, rfl, rfl, rfl, rfl, rfl, rfl, rfl, rfl, tt⟩ | ⟨rfl, rfl, rfl, rfl, rfl, rfl, rfl, rfl, rfl, tt⟩⟩
 all_goals
  have T0 := Lib.hid tt
  try have H1 := HS.out (NX rfl)
  clear tt NX
  go_enter Tryz.func131, Tryz.ntmps131
  go_wp2_with (first
   | (go_at_call 132; (with_reducible refine (TK.out _ zaa).mono ?_); rintro e _ ⟨rfl, d2, os2, rfl⟩)
   | (go_at_call 161; (refine (pend1 (PS.ext H0 zaa) (fun nv hs q hq => C_let.out zal (by assumption) nv _ hs q hq) T0).mono ?_); rintro e w9 (⟨c9, a9, rfl, HP⟩ | ⟨z9, rfl, HP⟩))
   | (go_at_call 161; (refine (pend1 (PS.ext H0 zaa) (fun nv hs q hq => C_set.out zal (by assumption) nv _ hs q hq) T0).mono ?_); rintro e w9 (⟨c9, a9, rfl, HP⟩ | ⟨z9, rfl, HP⟩))
   | (go_at_call 162; (refine (pend1 (PS.ext H0 zaa) (fun nv hs q hq => C_put.out zal (by assumption) nv _ hs q hq) T0).mono ?_); rintro e w9 (⟨c9, a9, rfl, HP⟩ | ⟨z9, rfl, HP⟩))
   | (go_at_call 162; (refine (pend1 (PS.ext H0 zaa) (fun nv hs q hq => C_delete.out zal (by assumption) nv _ hs q hq) T0).mono ?_); rintro e w9 (⟨c9, a9, rfl, HP⟩ | ⟨z9, rfl, HP⟩))
   | (go_at_call 162; (refine (pend1 (PS.ext H0 zaa) (fun nv hs q hq => C_abort.out zal (by assumption) nv _ hs q hq) T0).mono ?_); rintro e w9 (⟨c9, a9, rfl, HP⟩ | ⟨z9, rfl, HP⟩))
   | (go_at_call 162; (refine (pend1 (PS.ext H0 zaa) (fun nv hs q hq => C_return.out zal (by assumption) nv _ hs q hq) T0).mono ?_); rintro e w9 (⟨c9, a9, rfl, HP⟩ | ⟨z9, rfl, HP⟩))
   | (go_at_call 163; (refine (pend1 (PS.ext H0 zaa) (fun nv hs q hq => C_if.out zal (by assumption) nv _ hs q hq) T0).mono ?_); rintro e w9 (⟨c9, a9, rfl, HP⟩ | ⟨z9, rfl, HP⟩))
   | (go_at_call 164; (refine (pend1 (PS.ext H0 zaa) (fun nv hs q hq => C_for.out zal (by assumption) nv _ hs q hq) T0).mono ?_); rintro e w9 (⟨c9, a9, rfl, HP⟩ | ⟨z9, rfl, HP⟩))
   | (go_at_call 165; (with_reducible refine (qar _ _).mono ?_); rintro e wn ⟨rfl, hx⟩; have HN := PS.new (PS.ext (PS.ext H1 zaa) hx) (.cells #[.int .i64 26, .int .i64 (-1), .int .i64 (-1), .int .i64 (-1), .int .i64 (-1), .int .i64 0, .string ⟨#[]⟩, .string ⟨#[]⟩] 166 (0, 0)); clear hx)
   | (go_at_call 166; (with_reducible refine (pturns HN T0).mono ?_); rintro e w2 (⟨c9, a9, rfl, HP⟩ | ⟨z2, r2, rfl, T2, H2⟩); rotate_left; obtain ⟨n0, n1, n2, n3, n4, n5, n6, n7, u0, u1, u2, u3, u5, u6, u7, hkl⟩ := PS.node H2; have S2 : Hid (PS b lb lo cap L m N nv w [(wn.heap.size, .cells #[.int .i64 26, .int .i64 (-1), .int .i64 (-1), .int .i64 (-1), .int .i64 (-1), .int .i64 z2, .string ⟨#[]⟩, .string ⟨#[]⟩] 166 (0, 0))] r2 (w2.setCell ⟨wn.heap.size, 5, none⟩ (.int .i64 z2))) := PS.set H2 5 (.int .i64 z2))
   | (go_at_call 167; (with_reducible refine (pdp S2 HB.out T2).mono ?_); rintro e w3 (⟨c9, a9, rfl, HP⟩ | ⟨z3, r3, rfl, T3, H3⟩); rotate_left; obtain ⟨n0, n1, n2, n3, n4, n5, n6, n7, u0, u1, u2, u3, u5, u6, u7, hkl⟩ := PS.node H3; have S3 : Hid (PS b lb lo cap L m N nv w [(wn.heap.size, .cells #[.int .i64 26, .int .i64 (-1), .int .i64 z3, .int .i64 (-1), .int .i64 (-1), .int .i64 z2, .string ⟨#[]⟩, .string ⟨#[]⟩] 166 (0, 0))] r3 (w3.setCell ⟨wn.heap.size, 2, none⟩ (.int .i64 z3))) := PS.set H3 2 (.int .i64 z3))
   | (go_at_call 168; (refine (play S3 _ _ _ _ _ _ _ _ T3).mono ?_); rintro e w4 (⟨c9, a9, rfl, HP⟩ | ⟨z4, rfl, HP⟩)))
  all_goals first | exact ⟨rfl, HP.out⟩ | (go_ret; first | exact HP.out | exact PS.fin (PS.ext H0 zaa) T0)
end Go.Proofs.YtpnabjopfpdkhaaGreatDoor
