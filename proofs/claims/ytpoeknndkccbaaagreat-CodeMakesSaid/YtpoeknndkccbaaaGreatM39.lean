/- Lemmas for the claim (texts Par5, what its proof uses of them). -/
import Derived.Test.YtpoeknndkccbaaaGreatM38
set_option linter.unusedSimpArgs false
set_option linter.unusedVariables false
set_option maxHeartbeats 4000000
set_option maxRecDepth 20000
namespace Go.Proofs.YtpoeknndkccbaaaGreat
open Go.RowKit
variable {b cap lb lo m n : Nat} {N NS : List Nd} {nv : Value} {L : Toks} {w : World} {s : ByteArray}
attribute [go_sem] more_more Array.size_append
theorem qao {α : Type} {p : PM α} {r : PR α} (hr : p m N.length = r) : prep [] (p m (N.length + ([] : List Nd).length)) = r := by rw [qbt]; exact hr
theorem qal {α β : Type} {p : PM α} {f : α → PM β} {r : PR β} (hr : prep NS (pbind p f m n) = r) : ∃ r1, p m n = r1 := ⟨_, rfl⟩
theorem qar {α : Type} {p : PM α} {r : PR α} (hr : prep NS (p m n) = r) : ∃ r1, p m n = r1 := ⟨_, rfl⟩
theorem qak {α β : Type} {p : PM α} {f : α → PM β} {r : PR β} {c a : Int} (hr : prep NS (pbind p f m n) = r) (h : p m n = .error (c, a)) : .error (c, a) = r := by
 rw [qba h] at hr; exact hr
theorem qaj {α β : Type} {ns : List Nd} {p : PM α} {f : α → PM β} {m1 : Nat} {v : α} {r : PR β} (hr : prep NS (pbind p f m (N.length + NS.length)) = r) (h : p m (N.length + NS.length) = .ok (v, m1, ns)) :
  prep (NS ++ ns) (f v m1 (N.length + (NS ++ ns).length)) = r := by
 rw [qaJ h, qdd] at hr
 rw [List.length_append, ← Nat.add_assoc]; exact hr
theorem qax {α : Type} {p : PM α} {r : PR α} {c a : Int} (hr : prep NS (p m n) = r) (h : p m n = .error (c, a)) : .error (c, a) = r := by
 rw [h] at hr; exact hr
theorem qaK {α : Type} {ns : List Nd} {p : PM α} {m1 : Nat} {v : α} {r : PR α} (hr : prep NS (p m n) = r) (h : p m n = .ok (v, m1, ns)) : .ok (v, m1, NS ++ ns) = r := by
 rw [h] at hr; exact hr
theorem deep1_any (h : St b lb lo cap nv L m N w) (d : Nat) (hd : d ≤ 17) (z : Int) (hz : z = (d : Int)) (r : PR Unit) (hr : deepP L d m N.length = r) :
  Calls Tryz.prog 76 #[.pointer (some ⟨b, 0, none⟩), .int .i64 z] w (PPost unitV b lb lo cap nv L m N w r) := by subst hz; exact qcs h d hd r hr
/-- a call of expr, one or block, at whatever state -/
def Dp (b lb lo cap : Nat) (L : Toks) (F : FuncId) (z : Int) (p : PM Int) : Prop := ∀ nv m N w, St b lb lo cap nv L m N w → ∀ r, p m N.length = r → Calls Tryz.prog F #[.pointer (some ⟨b, 0, none⟩), .int .i64 z] w (PPost intV b lb lo cap nv L m N w r)
theorem deep_lt {d : Nat} {v : Unit × Nat × List Nd} (h : deepP L (d + 1) m n = .ok v) : d < 16 := by unfold deepP at h; split at h <;> simp at h <;> omega
theorem qdq (h : isP L s m = true) : mustP L [s] m n = .ok ((), m + 1, []) := by rw [mustP_yes h]; rfl
theorem qcN (hw : wordB s = true) (hk : (tk L m).1.k = 5) (hs : (tk L m).1.s.toList = s.toList) : isP L s m = true := by
 unfold isP; rw [hw, hk, hs]; simp
theorem strs_one (h : St b lb lo cap nv L m N w) (s : ByteArray) : Loc b nv w.heap.size (strs [s]) (w.alloc (.cells #[.string s] 9 (0, 0))) := h.loc (strs [s])
theorem qav (h : St b lb lo cap nv L m N w) (s : ByteArray) (z : Nat) (hz : z = w.heap.size) (r : PR Unit) (hr : mustP L [s] m N.length = r) :
  Calls Tryz.prog 133 #[.pointer (some ⟨b, 0, none⟩), .slice (some ⟨z, 0, none⟩) 1 1] (w.alloc (.cells #[.string s] 9 (0, 0))) (PPost unitV b lb lo cap nv L m N (w.alloc (.cells #[.string s] 9 (0, 0))) r) := by
 subst hz
 exact must_any (h.alloc _) [s] w.heap.size 1 (strs_one h s) zay r hr
theorem qdH (h : St b lb lo cap nv L m N w) (k : Int) (d : Nat) (hd : d ≤ 16) (o1 : PM Int) (ho : d < 16 → Dp b lb lo cap L 143 ((d : Int) + 1) o1) (r : PR Int) (hr : qdj L k d o1 m N.length = r) :
  Calls Tryz.prog 156 #[.pointer (some ⟨b, 0, none⟩), .int .i64 k, .int .i64 (d : Int)] w (PPost intV b lb lo cap nv L m N w r) := by
 refine yaj ?_; intro HS0
 have HK0 := Lib.hid (Kp.refl b nv w)
 have HM0 := Lib.hid (Nat.le_refl m)
 have HO := Lib.hid ho
 have HR0 := Lib.hid (qao hr)
 unfold qdj at HR0
 have hd0 : 0 ≤ (d : Int) := by omega
 have hd1 : (d : Int) ≤ 16 := by omega
 clear h hr ho
 go_enter Tryz.func156, Tryz.ntmps156
 go_wp2_with fail
 go_at_call 76
 obtain ⟨r1, h1⟩ := qal HR0.out
 refine (deep1_any (show St b lb lo cap nv L m (N ++ []) _ from zap) (d + 1) zaf _ zaf r1 (by rw [List.length_append]; exact h1)).mono ?_
 have HH := Lib.hid h1; clear h1
 try clear c1 f1 hb
 rcases r1 with ⟨e1, e2⟩ | ⟨v1, m1, ns1⟩
 · rintro e w1 ⟨he, nv1, hk⟩
   have HKE := Lib.hid (Kp.trans (show Kp b nv nv w _ from zai) hk)
   clear hk
   unfold noV at he
   subst he
   go_wp2_with fail
   have := qak HR0.out HH.out
   subst this
   exact ⟨rfl, PPost.err rfl HKE.out⟩
 rintro e w1 ⟨he, nv1, hs, hk, hm⟩
 unfold unitV at he
 subst he
 have HR1 := Lib.hid (qaj HR0.out HH.out)
 refine ycy ?_; intro HS1
 have HM1 := Lib.hid (Nat.le_trans HM0.out hm)
 have HK1 := Lib.hid (Kp.trans (show Kp b nv nv w _ from zai) hk)
 clear hs hk hm
 have HD := Lib.hid (deep_lt HH.out)
 go_wp2_with (((with_reducible refine (qaD _ _).mono ?_); rintro e _ ⟨rfl, d3, os3, rfl⟩))
 go_at_call 143
 obtain ⟨r2, h2⟩ := qal HR1.out
 have LCN := Lib.hid (St.loc (w := more w1 d3 os3) (lb := lb) (lo := lo) (cap := cap) (L := L) (nv := nv1) (show St b lb lo cap nv1 L m1 (N ++ ([] ++ ns1)) _ from zan) (.cells #[.int .i64 k, .int .i64 (-1), .int .i64 (-1), .int .i64 (-1), .int .i64 (-1), .int .i64 0, .string ⟨#[]⟩, .string ⟨#[]⟩] 42 (0, 0)))
 refine (HO.out HD.out _ _ _ _ (show St b lb lo cap nv1 L m1 (N ++ ([] ++ ns1)) _ from zan) r2 zcz).mono ?_
 have HH := Lib.hid h2; clear h2
 try clear c1 f1 hb
 rcases r2 with ⟨e1, e2⟩ | ⟨v2, m2, ns2⟩
 · rintro e w2 ⟨he, nv2, hk⟩
   have HKE := Lib.hid (Kp.trans (show Kp b nv nv1 w _ from zad) hk)
   clear hk
   unfold noV at he
   subst he
   go_wp2_with fail
   have := qak HR1.out HH.out
   subst this
   exact ⟨rfl, PPost.err rfl HKE.out⟩
 rintro e w2 ⟨he, nv2, hs, hk, hm⟩
 unfold intV at he
 subst he
 have HR2 := Lib.hid (qaj HR1.out HH.out)
 refine ybv ?_; intro HS2
 refine yco ?_; intro HM2
 have HK2 := Lib.hid (Kp.trans (show Kp b nv nv1 w _ from zad) hk)
 have LC2 := Lib.hid (Loc.kp (show Loc b nv1 (more w1 d3 os3).heap.size (.cells #[.int .i64 k, .int .i64 (-1), .int .i64 (-1), .int .i64 (-1), .int .i64 (-1), .int .i64 0, .string ⟨#[]⟩, .string ⟨#[]⟩] 42 (0, 0)) _ from zbe) hk)
 clear LCN
 obtain ⟨kn, hkn⟩ : ∃ kn, (more w1 d3 os3).heap.size = kn := ⟨_, rfl⟩
 rw [hkn] at LC2
 have HKW : RowKit.Hid (w.heap.size ≤ kn) := Lib.hid zby
 have HLK : RowKit.Hid (lb ≠ kn) := Lib.hid zbs
 simp only [more_size, World.size_setCell, World.size_alloc, Array.size_append] at hkn
 rw [hkn]
 clear hkn
 clear hs hk hm
 obtain ⟨n0, n1, n2, n3, n4, n5, n6, n7, z0, z1, z2, z3', z5, z6, z7, hkl⟩ := LC2.out.node
 go_wp2_with fail
 go_at_call 115
 obtain ⟨r9, h9⟩ := qar HR2.out
 refine (qaM (show St b lb lo cap nv2 L m2 (N ++ (([] ++ ns1) ++ ns2)) _ from zav) _ _ _ _ _ _ _ _ r9 zbo).mono ?_
 have HH := Lib.hid h9; clear h9
 rcases r9 with ⟨e1, e2⟩ | ⟨v9, m9, ns9⟩
 · rintro e w9 ⟨he, nv9, hk⟩
   have HKE := Lib.hid (Kp.trans (show Kp b nv nv2 w _ from zak) hk)
   clear hk
   unfold noV at he
   subst he
   go_wp2_with fail
   have := qax HR2.out HH.out
   subst this
   exact ⟨rfl, PPost.err rfl HKE.out⟩
 rintro e w9 ⟨he, nv9, hs, hk, hm⟩
 unfold intV at he
 subst he
 refine yai ?_; intro HS9
 have HM9 := Lib.hid (Nat.le_trans HM2.out hm)
 have HK9 := Lib.hid (Kp.trans (show Kp b nv nv2 w _ from zak) hk)
 clear hs hk hm
 go_wp2_with fail
 go_ret
 have := qaK HR2.out HH.out
 subst this
 exact yar
theorem call_any (s : ByteArray) (w : World) : Calls Tryz.prog 157 #[.string s] w fun e w' => e = .returned (.int .i64 (callF s)) ∧ Ext w w' := by
 unfold callF sIs
 cases h1 : (s.toList == [103, 101, 116])
 · cases h2 : (s.toList == [104, 97, 115])
   · cases h3 : (s.toList == [108, 101, 110])
     · cases h4 : (s.toList == [115, 104, 111, 119])
       all_goals
        go_enter Tryz.func157, Tryz.ntmps157
        go_wp2_with fail
        go_ret
        exact ⟨rfl, zac⟩
     · 
       go_enter Tryz.func157, Tryz.ntmps157
       go_wp2_with fail
       go_ret
       exact ⟨rfl, zac⟩
   · 
     go_enter Tryz.func157, Tryz.ntmps157
     go_wp2_with fail
     go_ret
     exact ⟨rfl, zac⟩
 · 
   go_enter Tryz.func157, Tryz.ntmps157
   go_wp2_with fail
   go_ret
   exact ⟨rfl, zac⟩
theorem qbC (h : isP L s m = true) : takesP L s m n = .ok (true, m + 1, []) := by unfold takesP; rw [if_pos h]
theorem signed_any (h : St b lb lo cap nv L m N w) (d : Nat) (hd : d ≤ 16) (e1 o1 : PM Int) (ho : d < 16 → Dp b lb lo cap L 143 ((d : Int) + 1) o1) (he : Dp b lb lo cap L 134 ((d : Int) + 1) e1) (r : PR Int) (hr : qcA L d e1 o1 m N.length = r) :
  Calls Tryz.prog 152 #[.pointer (some ⟨b, 0, none⟩), .int .i64 (d : Int)] w (PPost intV b lb lo cap nv L m N w r) := by
 have hd0 : 0 ≤ (d : Int) := by omega
 have hd1 : (d : Int) ≤ 16 := by omega
 unfold qcA at hr
 cases hp : isP L ⟨#[45]⟩ m
 · rw [hp, if_neg zay] at hr
   have TN : RowKit.Hid (∀ w1, Ext w w1 → Calls Tryz.prog 132 #[.pointer (some ⟨b, 0, none⟩), .string ⟨#[45]⟩] w1 fun e w' => e = .returned (.bool false) ∧ Ext w1 w') := Lib.hid fun w1 hx => qbr (h.ext hx) _ hp
   cases hq : isP L ⟨#[40]⟩ m
   · rw [hq, if_neg zay] at hr
     have TN2 : RowKit.Hid (∀ w1, Ext w w1 → Calls Tryz.prog 132 #[.pointer (some ⟨b, 0, none⟩), .string ⟨#[40]⟩] w1 fun e w' => e = .returned (.bool false) ∧ Ext w1 w') := Lib.hid fun w1 hx => qbr (h.ext hx) _ hq
     refine yah ?_; intro FL
     unfold pno at hr
     clear hp hq h ho he
     go_enter Tryz.func152, Tryz.ntmps152
     go_wp2_with (first | (((with_reducible refine (TN.out _ zac).mono ?_); rintro e _ ⟨rfl, d7, os7, rfl⟩)) | (((with_reducible refine (TN2.out _ zac).mono ?_); rintro e _ ⟨rfl, d7, os7, rfl⟩)) | (go_at_call 79; refine (FL.out _ _ zac).mono ?_; rintro e _ ⟨he, d3, os3, rfl⟩; unfold noV at he; subst he))
     subst hr
     exact ⟨rfl, PPost.err rfl ((Kp.refl b nv w).ext zac)⟩
   · rw [hq, if_pos rfl] at hr
     refine yaj ?_; intro HS0
     have HK0 := Lib.hid (Kp.refl b nv w)
     have HM0 := Lib.hid (Nat.le_refl m)
     have HO := Lib.hid ho
     have HE := Lib.hid he
     have HR0 := Lib.hid (qao hr)
     clear h hr ho he
     go_enter Tryz.func152, Tryz.ntmps152
     go_wp2_with (((with_reducible refine (TN.out _ zac).mono ?_); rintro e _ ⟨rfl, d7, os7, rfl⟩))
     first | skip
     go_at_call 132
     have h1 := qbC (n := N.length + ([] : List Nd).length) hq
     refine (qbB (show St b lb lo cap nv L m (N ++ []) _ from zap) _ _ (Eq.trans (by rw [List.length_append]) h1)).mono ?_
     have HH := Lib.hid h1; clear h1
     try clear c1 f1 hb
     rintro e w1 ⟨he, nv1, hs, hk, hm⟩
     subst he
     refine yam ?_; intro HR1
     refine ycy ?_; intro HS1
     have HM1 := Lib.hid (Nat.le_trans HM0.out hm)
     have HK1 := Lib.hid (Kp.trans (show Kp b nv nv w _ from zai) hk)
     clear hs hk hm
     go_wp2_with fail
     go_at_call 134
     obtain ⟨r2, h2⟩ := qal HR1.out
     refine (HE.out _ _ _ _ (show St b lb lo cap nv1 L (m + 1) (N ++ ([] ++ [])) _ from zan) r2 zcz).mono ?_
     have HH := Lib.hid h2; clear h2
     try clear c1 f1 hb
     rcases r2 with ⟨e1, e2⟩ | ⟨v2, m2, ns2⟩
     · rintro e w2 ⟨he, nv2, hk⟩
       have HKE := Lib.hid (Kp.trans (show Kp b nv nv1 w _ from zad) hk)
       clear hk
       unfold noV at he
       subst he
       go_wp2_with fail
       have := qak HR1.out HH.out
       subst this
       exact ⟨rfl, PPost.err rfl HKE.out⟩
     rintro e w2 ⟨he, nv2, hs, hk, hm⟩
     unfold intV at he
     subst he
     have HR2 := Lib.hid (qaj HR1.out HH.out)
     refine ybv ?_; intro HS2
     refine yco ?_; intro HM2
     have HK2 := Lib.hid (Kp.trans (show Kp b nv nv1 w _ from zad) hk)
     clear hs hk hm
     go_wp2_with fail
     go_at_call 133
     obtain ⟨r3, h3⟩ := qal HR2.out
     refine (qav (show St b lb lo cap nv2 L m2 (N ++ (([] ++ []) ++ ns2)) _ from zda) _ _ zaq r3 zdd).mono ?_
     have HH := Lib.hid h3; clear h3
     try clear c1 f1 hb
     rcases r3 with ⟨e1, e2⟩ | ⟨v3, m3, ns3⟩
     · rintro e w3 ⟨he, nv3, hk⟩
       have HKE := Lib.hid (Kp.trans (show Kp b nv nv2 w _ from zbh) hk)
       clear hk
       unfold noV at he
       subst he
       go_wp2_with fail
       have := qak HR2.out HH.out
       subst this
       exact ⟨rfl, PPost.err rfl HKE.out⟩
     rintro e w3 ⟨he, nv3, hs, hk, hm⟩
     unfold unitV at he
     subst he
     have HR3 := Lib.hid (qaj HR2.out HH.out)
     refine ycb ?_; intro HS3
     refine ydb ?_; intro HM3
     have HK3 := Lib.hid (Kp.trans (show Kp b nv nv2 w _ from zbh) hk)
     clear hs hk hm
     go_wp2_with fail
     go_ret
     have := HR3.out
     subst this
     exact PPost.res rfl (HS3.out.cast (by simp [pok, prep])) HK3.out HM3.out
 · rw [hp, if_pos rfl] at hr
   refine yaj ?_; intro HS0
   have HK0 := Lib.hid (Kp.refl b nv w)
   have HM0 := Lib.hid (Nat.le_refl m)
   have HO := Lib.hid ho
   have HE := Lib.hid he
   have HR0 := Lib.hid (qao hr)
   clear h hr ho he
   go_enter Tryz.func152, Tryz.ntmps152
   go_wp2_with fail
   go_at_call 132
   have h1 := qbC (n := N.length + ([] : List Nd).length) hp
   refine (qbB (show St b lb lo cap nv L m (N ++ []) _ from zap) _ _ (Eq.trans (by rw [List.length_append]) h1)).mono ?_
   have HH := Lib.hid h1; clear h1
   try clear c1 f1 hb
   rintro e w1 ⟨he, nv1, hs, hk, hm⟩
   subst he
   refine yam ?_; intro HR1
   refine ycy ?_; intro HS1
   have HM1 := Lib.hid (Nat.le_trans HM0.out hm)
   have HK1 := Lib.hid (Kp.trans (show Kp b nv nv w _ from zai) hk)
   clear hs hk hm
   go_wp2_with fail
   go_at_call 156
   obtain ⟨r9, h9⟩ := qar HR1.out
   refine (qdH (show St b lb lo cap nv1 L (m + 1) (N ++ ([] ++ [])) _ from zan) _ d hd _ HO.out r9 zbo).mono ?_
   have HH := Lib.hid h9; clear h9
   rcases r9 with ⟨e1, e2⟩ | ⟨v9, m9, ns9⟩
   · rintro e w9 ⟨he, nv9, hk⟩
     have HKE := Lib.hid (Kp.trans (show Kp b nv nv1 w _ from zad) hk)
     clear hk
     unfold noV at he
     subst he
     go_wp2_with fail
     have := qax HR1.out HH.out
     subst this
     exact ⟨rfl, PPost.err rfl HKE.out⟩
   rintro e w9 ⟨he, nv9, hs, hk, hm⟩
   unfold intV at he
   subst he
   refine yai ?_; intro HS9
   have HM9 := Lib.hid (Nat.le_trans HM1.out hm)
   have HK9 := Lib.hid (Kp.trans (show Kp b nv nv1 w _ from zad) hk)
   clear hs hk hm
   go_wp2_with fail
   go_ret
   have := qaK HR1.out HH.out
   subst this
   exact yar
theorem worded_any (h : St b lb lo cap nv L m N w) (hk5 : (tk L m).1.k = 5) (d : Nat) (hd : d ≤ 16) (e1 o1 : PM Int) (ho : d < 16 → Dp b lb lo cap L 143 ((d : Int) + 1) o1) (he : Dp b lb lo cap L 134 ((d : Int) + 1) e1) (r : PR Int) (hr : qcz L d e1 o1 m N.length = r) :
  Calls Tryz.prog 153 #[.pointer (some ⟨b, 0, none⟩), .int .i64 (d : Int)] w (PPost intV b lb lo cap nv L m N w r) := by
 have hd0 : 0 ≤ (d : Int) := by omega
 have hd1 : (d : Int) ≤ 16 := by omega
 have hm : (m : Int) ≤ 5000 := by have := h.ends.few; have := h.pos; omega
 have hm0 : 0 ≤ (m : Int) := by omega
 have NX := Lib.hid (h.next (by rw [hk5]; decide))
 refine yah ?_; intro FL
 unfold qcz pno at hr
 obtain ⟨⟨⟨k, ts, i⟩, a⟩, htt⟩ : ∃ tt, tk L m = tt := ⟨_, rfl⟩
 have TK : RowKit.Hid (∀ w1, Ext w w1 → Calls Tryz.prog 78 #[.pointer (some ⟨b, 0, none⟩)] w1 fun e w' => e = .returned (.agg #[.int .i64 k, .int .i64 a, .string ts, .int .i64 i]) ∧ Ext w1 w') := Lib.hid fun w1 hx => by have := qbg (h.ext hx); rw [htt] at this; exact this
 rw [htt] at hr FL
 dsimp only at hr FL
 have CA := Lib.hid (call_any ts)
 clear htt hk5
 by_cases hc : callF ts = -1
 · rw [if_pos hc] at hr
   rw [hc] at CA
   clear hc
   cases hp : isP L ⟨#[110, 111, 116]⟩ m
   · rw [hp, if_neg zay] at hr
     have TN : RowKit.Hid (∀ w1, Ext w w1 → Calls Tryz.prog 132 #[.pointer (some ⟨b, 0, none⟩), .string ⟨#[110, 111, 116]⟩] w1 fun e w' => e = .returned (.bool false) ∧ Ext w1 w') := Lib.hid fun w1 hx => qbr (h.ext hx) _ hp
     cases hq : isP L ⟨#[110, 105, 108]⟩ m
     · rw [hq, if_neg zay] at hr
       have TN2 : RowKit.Hid (∀ w1, Ext w w1 → Calls Tryz.prog 132 #[.pointer (some ⟨b, 0, none⟩), .string ⟨#[110, 105, 108]⟩] w1 fun e w' => e = .returned (.bool false) ∧ Ext w1 w') := Lib.hid fun w1 hx => qbr (h.ext hx) _ hq
       unfold sIs at hr
       cases h1 : (ts.toList == [116, 114, 117, 101])
       · rw [h1, if_neg zay] at hr
         cases h2 : (ts.toList == [102, 97, 108, 115, 101])
         · rw [h2, if_neg zay] at hr
           clear hp hq h ho he
           go_enter Tryz.func153, Tryz.ntmps153
           go_wp2_with (first
            | (((with_reducible refine (TK.out _ zac).mono ?_); rintro e _ ⟨rfl, d2, os2, rfl⟩))
            | (((with_reducible refine (CA.out _).mono ?_); rintro e _ ⟨rfl, d5, os5, rfl⟩))
            | (((with_reducible refine (TN.out _ zac).mono ?_); rintro e _ ⟨rfl, d7, os7, rfl⟩))
            | (((with_reducible refine (TN2.out _ zac).mono ?_); rintro e _ ⟨rfl, d7, os7, rfl⟩))
            | (((with_reducible refine (FL.out _ _ zac).mono ?_); rintro e _ ⟨he, d3, os3, rfl⟩; unfold noV at he; subst he)))
           subst hr
           exact ⟨rfl, PPost.err rfl ((Kp.refl b nv w).ext zac)⟩
         · rw [h2, if_pos rfl] at hr
           clear hp hq
           refine yaj ?_; intro HS0
           have HK0 := Lib.hid (Kp.refl b nv w)
           have HM0 := Lib.hid (Nat.le_refl m)
           have HO := Lib.hid ho
           have HE := Lib.hid he
           have HR0 := Lib.hid (qao hr)
           clear h hr ho he
           obtain ⟨c0, c1, c2, c3, f1, f2, f3, hb⟩ := HS0.out.facts
           clear c0 c2 c3 f2 f3
           (have HS1 := Lib.hid (St.cast (HS0.out.setAt (m + 1) ((m : Int) + 1) zaf NX.out) (show N ++ [] = N ++ ([] ++ []) by simp)))
           refine ybw ?_; intro HK1
           refine yck ?_; intro HM1
           refine yam ?_; intro HR1
           go_enter Tryz.func153, Tryz.ntmps153
           go_wp2_with (first
            | (((with_reducible refine (TK.out _ zac).mono ?_); rintro e _ ⟨rfl, d2, os2, rfl⟩))
            | (((with_reducible refine (CA.out _).mono ?_); rintro e _ ⟨rfl, d5, os5, rfl⟩))
            | (((with_reducible refine (TN.out _ zac).mono ?_); rintro e _ ⟨rfl, d7, os7, rfl⟩))
            | (((with_reducible refine (TN2.out _ zac).mono ?_); rintro e _ ⟨rfl, d7, os7, rfl⟩))
            | (((with_reducible refine (qaD _ _).mono ?_); rintro e _ ⟨rfl, d3, os3, rfl⟩)))
           go_at_call 115
           obtain ⟨r9, h9⟩ := qar HR1.out
           refine (qaM (show St b lb lo cap nv L (m + 1) (N ++ ([] ++ [])) _ from zan) _ _ _ _ _ _ _ _ r9 zbo).mono ?_
           have HH := Lib.hid h9; clear h9
           rcases r9 with ⟨e1, e2⟩ | ⟨v9, m9, ns9⟩
           · rintro e w9 ⟨he, nv9, hk⟩
             have HKE := Lib.hid (Kp.trans (show Kp b nv nv w _ from zad) hk)
             clear hk
             unfold noV at he
             subst he
             go_wp2_with fail
             have := qax HR1.out HH.out
             subst this
             exact ⟨rfl, PPost.err rfl HKE.out⟩
           rintro e w9 ⟨he, nv9, hs, hk, hm⟩
           unfold intV at he
           subst he
           refine yai ?_; intro HS9
           have HM9 := Lib.hid (Nat.le_trans HM1.out hm)
           have HK9 := Lib.hid (Kp.trans (show Kp b nv nv w _ from zad) hk)
           clear hs hk hm
           go_wp2_with fail
           go_ret
           have := qaK HR1.out HH.out
           subst this
           exact yar
       · rw [h1, if_pos rfl] at hr
         clear hp hq
         refine yaj ?_; intro HS0
         have HK0 := Lib.hid (Kp.refl b nv w)
         have HM0 := Lib.hid (Nat.le_refl m)
         have HO := Lib.hid ho
         have HE := Lib.hid he
         have HR0 := Lib.hid (qao hr)
         clear h hr ho he
         obtain ⟨c0, c1, c2, c3, f1, f2, f3, hb⟩ := HS0.out.facts
         clear c0 c2 c3 f2 f3
         (have HS1 := Lib.hid (St.cast (HS0.out.setAt (m + 1) ((m : Int) + 1) zaf NX.out) (show N ++ [] = N ++ ([] ++ []) by simp)))
         refine ybw ?_; intro HK1
         refine yck ?_; intro HM1
         refine yam ?_; intro HR1
         go_enter Tryz.func153, Tryz.ntmps153
         go_wp2_with (first
          | (((with_reducible refine (TK.out _ zac).mono ?_); rintro e _ ⟨rfl, d2, os2, rfl⟩))
          | (((with_reducible refine (CA.out _).mono ?_); rintro e _ ⟨rfl, d5, os5, rfl⟩))
          | (((with_reducible refine (TN.out _ zac).mono ?_); rintro e _ ⟨rfl, d7, os7, rfl⟩))
          | (((with_reducible refine (TN2.out _ zac).mono ?_); rintro e _ ⟨rfl, d7, os7, rfl⟩))
          | (((with_reducible refine (qaD _ _).mono ?_); rintro e _ ⟨rfl, d3, os3, rfl⟩)))
         go_at_call 115
         obtain ⟨r9, h9⟩ := qar HR1.out
         refine (qaM (show St b lb lo cap nv L (m + 1) (N ++ ([] ++ [])) _ from zan) _ _ _ _ _ _ _ _ r9 zbo).mono ?_
         have HH := Lib.hid h9; clear h9
         rcases r9 with ⟨e1, e2⟩ | ⟨v9, m9, ns9⟩
         · rintro e w9 ⟨he, nv9, hk⟩
           have HKE := Lib.hid (Kp.trans (show Kp b nv nv w _ from zad) hk)
           clear hk
           unfold noV at he
           subst he
           go_wp2_with fail
           have := qax HR1.out HH.out
           subst this
           exact ⟨rfl, PPost.err rfl HKE.out⟩
         rintro e w9 ⟨he, nv9, hs, hk, hm⟩
         unfold intV at he
         subst he
         refine yai ?_; intro HS9
         have HM9 := Lib.hid (Nat.le_trans HM1.out hm)
         have HK9 := Lib.hid (Kp.trans (show Kp b nv nv w _ from zad) hk)
         clear hs hk hm
         go_wp2_with fail
         go_ret
         have := qaK HR1.out HH.out
         subst this
         exact yar
     · rw [hq, if_pos rfl] at hr
       clear hp
       refine yaj ?_; intro HS0
       have HK0 := Lib.hid (Kp.refl b nv w)
       have HM0 := Lib.hid (Nat.le_refl m)
       have HO := Lib.hid ho
       have HE := Lib.hid he
       have HR0 := Lib.hid (qao hr)
       clear h hr ho he
       go_enter Tryz.func153, Tryz.ntmps153
       go_wp2_with (first
        | (((with_reducible refine (TK.out _ zac).mono ?_); rintro e _ ⟨rfl, d2, os2, rfl⟩))
        | (((with_reducible refine (CA.out _).mono ?_); rintro e _ ⟨rfl, d5, os5, rfl⟩))
        | (((with_reducible refine (TN.out _ zac).mono ?_); rintro e _ ⟨rfl, d7, os7, rfl⟩)))
       go_at_call 132
       have h1 := qbC (n := N.length + ([] : List Nd).length) hq
       refine (qbB (show St b lb lo cap nv L m (N ++ []) _ from zap) _ _ (Eq.trans (by rw [List.length_append]) h1)).mono ?_
       have HH := Lib.hid h1; clear h1
       try clear c1 f1 hb
       rintro e w1 ⟨he, nv1, hs, hk, hm⟩
       subst he
       refine yam ?_; intro HR1
       refine ycy ?_; intro HS1
       have HM1 := Lib.hid (Nat.le_trans HM0.out hm)
       have HK1 := Lib.hid (Kp.trans (show Kp b nv nv w _ from zai) hk)
       clear hs hk hm
       go_wp2_with (((with_reducible refine (qaD _ _).mono ?_); rintro e _ ⟨rfl, d3, os3, rfl⟩))
       go_at_call 115
       obtain ⟨r9, h9⟩ := qar HR1.out
       refine (qaM (show St b lb lo cap nv1 L (m + 1) (N ++ ([] ++ [])) _ from zan) _ _ _ _ _ _ _ _ r9 zbo).mono ?_
       have HH := Lib.hid h9; clear h9
       rcases r9 with ⟨e1, e2⟩ | ⟨v9, m9, ns9⟩
       · rintro e w9 ⟨he, nv9, hk⟩
         have HKE := Lib.hid (Kp.trans (show Kp b nv nv1 w _ from zad) hk)
         clear hk
         unfold noV at he
         subst he
         go_wp2_with fail
         have := qax HR1.out HH.out
         subst this
         exact ⟨rfl, PPost.err rfl HKE.out⟩
       rintro e w9 ⟨he, nv9, hs, hk, hm⟩
       unfold intV at he
       subst he
       refine yai ?_; intro HS9
       have HM9 := Lib.hid (Nat.le_trans HM1.out hm)
       have HK9 := Lib.hid (Kp.trans (show Kp b nv nv1 w _ from zad) hk)
       clear hs hk hm
       go_wp2_with fail
       go_ret
       have := qaK HR1.out HH.out
       subst this
       exact yar
   · rw [hp, if_pos rfl] at hr
     refine yaj ?_; intro HS0
     have HK0 := Lib.hid (Kp.refl b nv w)
     have HM0 := Lib.hid (Nat.le_refl m)
     have HO := Lib.hid ho
     have HE := Lib.hid he
     have HR0 := Lib.hid (qao hr)
     clear h hr ho he
     go_enter Tryz.func153, Tryz.ntmps153
     go_wp2_with (first
      | (((with_reducible refine (TK.out _ zac).mono ?_); rintro e _ ⟨rfl, d2, os2, rfl⟩))
      | (((with_reducible refine (CA.out _).mono ?_); rintro e _ ⟨rfl, d5, os5, rfl⟩)))
     go_at_call 132
     have h1 := qbC (n := N.length + ([] : List Nd).length) hp
     refine (qbB (show St b lb lo cap nv L m (N ++ []) _ from zap) _ _ (Eq.trans (by rw [List.length_append]) h1)).mono ?_
     have HH := Lib.hid h1; clear h1
     try clear c1 f1 hb
     rintro e w1 ⟨he, nv1, hs, hk, hm⟩
     subst he
     refine yam ?_; intro HR1
     refine ycy ?_; intro HS1
     have HM1 := Lib.hid (Nat.le_trans HM0.out hm)
     have HK1 := Lib.hid (Kp.trans (show Kp b nv nv w _ from zai) hk)
     clear hs hk hm
     go_wp2_with fail
     go_at_call 156
     obtain ⟨r9, h9⟩ := qar HR1.out
     refine (qdH (show St b lb lo cap nv1 L (m + 1) (N ++ ([] ++ [])) _ from zan) _ d hd _ HO.out r9 zbo).mono ?_
     have HH := Lib.hid h9; clear h9
     rcases r9 with ⟨e1, e2⟩ | ⟨v9, m9, ns9⟩
     · rintro e w9 ⟨he, nv9, hk⟩
       have HKE := Lib.hid (Kp.trans (show Kp b nv nv1 w _ from zad) hk)
       clear hk
       unfold noV at he
       subst he
       go_wp2_with fail
       have := qax HR1.out HH.out
       subst this
       exact ⟨rfl, PPost.err rfl HKE.out⟩
     rintro e w9 ⟨he, nv9, hs, hk, hm⟩
     unfold intV at he
     subst he
     refine yai ?_; intro HS9
     have HM9 := Lib.hid (Nat.le_trans HM1.out hm)
     have HK9 := Lib.hid (Kp.trans (show Kp b nv nv1 w _ from zad) hk)
     clear hs hk hm
     go_wp2_with fail
     go_ret
     have := qaK HR1.out HH.out
     subst this
     exact yar
 · rw [if_neg hc] at hr
   have hc2 : (callF ts != -1) = true := by simpa using hc
   obtain ⟨kk, hkk⟩ : ∃ kk, callF ts = kk := ⟨_, rfl⟩
   rw [hkk] at hr CA hc2
   clear hc hkk
   refine yaj ?_; intro HS0
   have HK0 := Lib.hid (Kp.refl b nv w)
   have HM0 := Lib.hid (Nat.le_refl m)
   have HO := Lib.hid ho
   have HE := Lib.hid he
   have HR0 := Lib.hid (qao hr)
   clear h hr ho he
   obtain ⟨c0, c1, c2, c3, f1, f2, f3, hb⟩ := HS0.out.facts
   clear c0 c2 c3 f2 f3
   (have HS1 := Lib.hid (St.cast (HS0.out.setAt (m + 1) ((m : Int) + 1) zaf NX.out) (show N ++ [] = N ++ ([] ++ []) by simp)))
   refine ybw ?_; intro HK1
   refine yck ?_; intro HM1
   refine yam ?_; intro HR1
   go_enter Tryz.func153, Tryz.ntmps153
   go_wp2_with (first
    | (((with_reducible refine (TK.out _ zac).mono ?_); rintro e _ ⟨rfl, d2, os2, rfl⟩))
    | (((with_reducible refine (CA.out _).mono ?_); rintro e _ ⟨rfl, d5, os5, rfl⟩)))
   go_at_call 133
   obtain ⟨r2, h2⟩ := qal HR1.out
   refine (qav (show St b lb lo cap nv L (m + 1) (N ++ ([] ++ [])) _ from zan) _ _ zaq r2 zcz).mono ?_
   have HH := Lib.hid h2; clear h2
   try clear c1 f1 hb
   rcases r2 with ⟨e1, e2⟩ | ⟨v2, m2, ns2⟩
   · rintro e w2 ⟨he, nv2, hk⟩
     have HKE := Lib.hid (Kp.trans (show Kp b nv nv w _ from zad) hk)
     clear hk
     unfold noV at he
     subst he
     go_wp2_with fail
     have := qak HR1.out HH.out
     subst this
     exact ⟨rfl, PPost.err rfl HKE.out⟩
   rintro e w2 ⟨he, nv2, hs, hk, hm⟩
   unfold unitV at he
   subst he
   have HR2 := Lib.hid (qaj HR1.out HH.out)
   refine ybv ?_; intro HS2
   refine yco ?_; intro HM2
   have HK2 := Lib.hid (Kp.trans (show Kp b nv nv w _ from zad) hk)
   clear hs hk hm
   go_wp2_with (((with_reducible refine (qaD _ _).mono ?_); rintro e _ ⟨rfl, d3, os3, rfl⟩))
   go_at_call 134
   obtain ⟨r3, h3⟩ := qal HR2.out
   have LCN := Lib.hid (St.loc (w := more w2 d3 os3) (lb := lb) (lo := lo) (cap := cap) (L := L) (nv := nv2) (show St b lb lo cap nv2 L m2 (N ++ (([] ++ []) ++ ns2)) _ from zda) (.cells #[.int .i64 kk, .int .i64 (-1), .int .i64 (-1), .int .i64 (-1), .int .i64 (-1), .int .i64 0, .string ⟨#[]⟩, .string ⟨#[]⟩] 42 (0, 0)))
   refine (HE.out _ _ _ _ (show St b lb lo cap nv2 L m2 (N ++ (([] ++ []) ++ ns2)) _ from zda) r3 zdd).mono ?_
   have HH := Lib.hid h3; clear h3
   try clear c1 f1 hb
   rcases r3 with ⟨e1, e2⟩ | ⟨v3, m3, ns3⟩
   · rintro e w3 ⟨he, nv3, hk⟩
     have HKE := Lib.hid (Kp.trans (show Kp b nv nv2 w _ from zbh) hk)
     clear hk
     unfold noV at he
     subst he
     go_wp2_with fail
     have := qak HR2.out HH.out
     subst this
     exact ⟨rfl, PPost.err rfl HKE.out⟩
   rintro e w3 ⟨he, nv3, hs, hk, hm⟩
   unfold intV at he
   subst he
   have HR3 := Lib.hid (qaj HR2.out HH.out)
   refine ycb ?_; intro HS3
   refine ydb ?_; intro HM3
   have HK3 := Lib.hid (Kp.trans (show Kp b nv nv2 w _ from zbh) hk)
   have LC3 := Lib.hid (Loc.kp (show Loc b nv2 (more w2 d3 os3).heap.size (.cells #[.int .i64 kk, .int .i64 (-1), .int .i64 (-1), .int .i64 (-1), .int .i64 (-1), .int .i64 0, .string ⟨#[]⟩, .string ⟨#[]⟩] 42 (0, 0)) _ from zbe) hk)
   clear LCN
   obtain ⟨kn, hkn⟩ : ∃ kn, (more w2 d3 os3).heap.size = kn := ⟨_, rfl⟩
   rw [hkn] at LC3
   have HKW : RowKit.Hid (w.heap.size ≤ kn) := Lib.hid (by rw [← hkn]; have := (Kp.more (w1 := w2) (b := b) (nv := nv) (nv1 := nv2) (show Kp b nv nv2 w _ from zbh) d3 os3).size; exact this)
   have HLK : RowKit.Hid (lb ≠ kn) := Lib.hid (by have h1 := HS2.out.low; have h2 := HS2.out.lt; have h3 := (Kp.more (w1 := w2) (b := b) (nv := nv) (nv1 := nv2) (show Kp b nv nv2 w _ from zbh) d3 os3).size; have h4 := HS0.out.lt; rw [hkn] at h3; omega)
   simp only [more_size, World.size_setCell, World.size_alloc, Array.size_append] at hkn
   rw [hkn]
   clear hkn
   clear hs hk hm
   obtain ⟨n0, n1, n2, n3, n4, n5, n6, n7, z0, z1, z2, z3', z5, z6, z7, hkl⟩ := LC3.out.node
   go_wp2_with fail
   go_at_call 133
   obtain ⟨r4, h4⟩ := qal HR3.out
   refine (qav (show St b lb lo cap nv3 L m3 (N ++ ((([] ++ []) ++ ns2) ++ ns3)) _ from zaw) _ _ zaq r4 (by rw [List.length_append]; exact h4)).mono ?_
   have HH := Lib.hid h4; clear h4
   try clear c1 f1 hb
   rcases r4 with ⟨e1, e2⟩ | ⟨v4, m4, ns4⟩
   · rintro e w4 ⟨he, nv4, hk⟩
     have HKE := Lib.hid (Kp.trans (show Kp b nv nv3 w _ from zal) hk)
     clear hk
     unfold noV at he
     subst he
     go_wp2_with fail
     have := qak HR3.out HH.out
     subst this
     exact ⟨rfl, PPost.err rfl HKE.out⟩
   rintro e w4 ⟨he, nv4, hs, hk, hm⟩
   unfold unitV at he
   subst he
   have HR4 := Lib.hid (qaj HR3.out HH.out)
   have HS4 := Lib.hid (hs.cast (List.append_assoc _ _ _))
   have HM4 := Lib.hid (Nat.le_trans HM3.out hm)
   have HK4 := Lib.hid (Kp.trans (show Kp b nv nv3 w _ from zal) hk)
   have LS : Loc b nv3 kn (.cells #[.int .i64 kk, .int .i64 v3, .int .i64 (-1), .int .i64 (-1), .int .i64 (-1), .int .i64 0, .string ⟨#[]⟩, .string ⟨#[]⟩] 42 (0, 0)) _ := (Loc.set LC3.out 1 (.int .i64 v3))
   have LC4 := Lib.hid (Loc.kp (show Loc b nv3 kn (.cells #[.int .i64 kk, .int .i64 v3, .int .i64 (-1), .int .i64 (-1), .int .i64 (-1), .int .i64 0, .string ⟨#[]⟩, .string ⟨#[]⟩] 42 (0, 0)) _ from zam) hk)
   clear LS
   clear hs hk hm
   clear n0 n1 n2 n3 n4 n5 n6 n7 z0 z1 z2 z3' z5 z6 z7
   obtain ⟨n0, n1, n2, n3, n4, n5, n6, n7, z0, z1, z2, z3', z5, z6, z7, hkl⟩ := LC4.out.node
   go_wp2_with fail
   go_at_call 115
   obtain ⟨r9, h9⟩ := qar HR4.out
   refine (qaM (show St b lb lo cap nv4 L m4 (N ++ (((([] ++ []) ++ ns2) ++ ns3) ++ ns4)) _ from zbn) _ _ _ _ _ _ _ _ r9 zbo).mono ?_
   have HH := Lib.hid h9; clear h9
   rcases r9 with ⟨e1, e2⟩ | ⟨v9, m9, ns9⟩
   · rintro e w9 ⟨he, nv9, hk⟩
     have HKE := Lib.hid (Kp.trans (show Kp b nv nv4 w _ from zao) hk)
     clear hk
     unfold noV at he
     subst he
     go_wp2_with fail
     have := qax HR4.out HH.out
     subst this
     exact ⟨rfl, PPost.err rfl HKE.out⟩
   rintro e w9 ⟨he, nv9, hs, hk, hm⟩
   unfold intV at he
   subst he
   refine yai ?_; intro HS9
   have HM9 := Lib.hid (Nat.le_trans HM4.out hm)
   have HK9 := Lib.hid (Kp.trans (show Kp b nv nv4 w _ from zao) hk)
   clear hs hk hm
   go_wp2_with fail
   go_ret
   have := qaK HR4.out HH.out
   subst this
   exact yar
theorem one_any (h : St b lb lo cap nv L m N w) (d : Nat) (hd : d ≤ 16) (e1 o1 : PM Int) (ho : d < 16 → Dp b lb lo cap L 143 ((d : Int) + 1) o1) (he : Dp b lb lo cap L 134 ((d : Int) + 1) e1) (r : PR Int) (hr : oneP L d e1 o1 m N.length = r) :
  Calls Tryz.prog 143 #[.pointer (some ⟨b, 0, none⟩), .int .i64 (d : Int)] w (PPost intV b lb lo cap nv L m N w r) := by
 have hm : (m : Int) ≤ 5000 := by have := h.ends.few; have := h.pos; omega
 have hm0 : 0 ≤ (m : Int) := by omega
 have NX0 : (tk L m).1.k ≠ 0 → m + 1 < L.length := h.next
 refine yah ?_; intro FL
 unfold oneP pno at hr
 have SG : (tk L m).1.k = 4 → ∀ nv w1 r, St b lb lo cap nv L m (N ++ []) w1 → qcA L d e1 o1 m (N ++ []).length = r → Calls Tryz.prog 152 #[.pointer (some ⟨b, 0, none⟩), .int .i64 (d : Int)] w1 (PPost intV b lb lo cap nv L m (N ++ []) w1 r) := fun _ nv w1 r hs hr => signed_any hs d hd e1 o1 ho he r hr
 have WG : (tk L m).1.k = 5 → ∀ nv w1 r, St b lb lo cap nv L m (N ++ []) w1 → qcz L d e1 o1 m (N ++ []).length = r → Calls Tryz.prog 153 #[.pointer (some ⟨b, 0, none⟩), .int .i64 (d : Int)] w1 (PPost intV b lb lo cap nv L m (N ++ []) w1 r) := fun hk nv w1 r hs hr => worded_any hs hk d hd e1 o1 ho he r hr
 obtain ⟨⟨⟨k, ts, i⟩, a⟩, htt⟩ : ∃ tt, tk L m = tt := ⟨_, rfl⟩
 have TK : RowKit.Hid (∀ w1, Ext w w1 → Calls Tryz.prog 78 #[.pointer (some ⟨b, 0, none⟩)] w1 fun e w' => e = .returned (.agg #[.int .i64 k, .int .i64 a, .string ts, .int .i64 i]) ∧ Ext w1 w') := Lib.hid fun w1 hx => by have := qbg (h.ext hx); rw [htt] at this; exact this
 rw [htt] at hr FL NX0 SG WG
 dsimp only at hr FL NX0 SG WG
 have SG := Lib.hid SG
 have WG := Lib.hid WG
 clear htt ho he
 by_cases e2 : k = 2
 · subst e2
   have NX := Lib.hid (NX0 zax)
   rw [if_pos rfl] at hr
   clear NX0
   refine yaj ?_; intro HS0
   have HK0 := Lib.hid (Kp.refl b nv w)
   have HM0 := Lib.hid (Nat.le_refl m)
   have HR0 := Lib.hid (qao hr)
   clear h hr 
   obtain ⟨c0, c1, c2, c3, f1, f2, f3, hb⟩ := HS0.out.facts
   clear c0 c2 c3 f2 f3
   (have HS1 := Lib.hid (St.cast (HS0.out.setAt (m + 1) ((m : Int) + 1) zaf NX.out) (show N ++ [] = N ++ ([] ++ []) by simp)))
   refine ybw ?_; intro HK1
   refine yck ?_; intro HM1
   refine yam ?_; intro HR1
   go_enter Tryz.func143, Tryz.ntmps143
   go_wp2_with (first
    | (((with_reducible refine (TK.out _ zac).mono ?_); rintro e _ ⟨rfl, d2, os2, rfl⟩))
    | (((with_reducible refine (qaD _ _).mono ?_); rintro e _ ⟨rfl, d3, os3, rfl⟩)))
   go_at_call 115
   obtain ⟨r9, h9⟩ := qar HR1.out
   refine (qaM (show St b lb lo cap nv L (m + 1) (N ++ ([] ++ [])) _ from zan) _ _ _ _ _ _ _ _ r9 zbo).mono ?_
   have HH := Lib.hid h9; clear h9
   rcases r9 with ⟨e1, e2⟩ | ⟨v9, m9, ns9⟩
   · rintro e w9 ⟨he, nv9, hk⟩
     have HKE := Lib.hid (Kp.trans (show Kp b nv nv w _ from zad) hk)
     clear hk
     unfold noV at he
     subst he
     go_wp2_with fail
     have := qax HR1.out HH.out
     subst this
     exact ⟨rfl, PPost.err rfl HKE.out⟩
   rintro e w9 ⟨he, nv9, hs, hk, hm⟩
   unfold intV at he
   subst he
   refine yai ?_; intro HS9
   have HM9 := Lib.hid (Nat.le_trans HM1.out hm)
   have HK9 := Lib.hid (Kp.trans (show Kp b nv nv w _ from zad) hk)
   clear hs hk hm
   go_wp2_with fail
   go_ret
   have := qaK HR1.out HH.out
   subst this
   exact yar
 · rw [if_neg e2] at hr
   have q2 : (k == 2) = false := by simpa using e2
   by_cases e3 : k = 3
   · subst e3
     have NX := Lib.hid (NX0 zax)
     rw [if_pos rfl] at hr
     clear NX0 e2
     refine yaj ?_; intro HS0
     have HK0 := Lib.hid (Kp.refl b nv w)
     have HM0 := Lib.hid (Nat.le_refl m)
     have HR0 := Lib.hid (qao hr)
     clear h hr 
     obtain ⟨c0, c1, c2, c3, f1, f2, f3, hb⟩ := HS0.out.facts
     clear c0 c2 c3 f2 f3
     (have HS1 := Lib.hid (St.cast (HS0.out.setAt (m + 1) ((m : Int) + 1) zaf NX.out) (show N ++ [] = N ++ ([] ++ []) by simp)))
     refine ybw ?_; intro HK1
     refine yck ?_; intro HM1
     refine yam ?_; intro HR1
     go_enter Tryz.func143, Tryz.ntmps143
     go_wp2_with (first
      | (((with_reducible refine (TK.out _ zac).mono ?_); rintro e _ ⟨rfl, d2, os2, rfl⟩))
      | (((with_reducible refine (qaD _ _).mono ?_); rintro e _ ⟨rfl, d3, os3, rfl⟩)))
     go_at_call 115
     obtain ⟨r9, h9⟩ := qar HR1.out
     refine (qaM (show St b lb lo cap nv L (m + 1) (N ++ ([] ++ [])) _ from zan) _ _ _ _ _ _ _ _ r9 zbo).mono ?_
     have HH := Lib.hid h9; clear h9
     rcases r9 with ⟨e1, e2⟩ | ⟨v9, m9, ns9⟩
     · rintro e w9 ⟨he, nv9, hk⟩
       have HKE := Lib.hid (Kp.trans (show Kp b nv nv w _ from zad) hk)
       clear hk
       unfold noV at he
       subst he
       go_wp2_with fail
       have := qax HR1.out HH.out
       subst this
       exact ⟨rfl, PPost.err rfl HKE.out⟩
     rintro e w9 ⟨he, nv9, hs, hk, hm⟩
     unfold intV at he
     subst he
     refine yai ?_; intro HS9
     have HM9 := Lib.hid (Nat.le_trans HM1.out hm)
     have HK9 := Lib.hid (Kp.trans (show Kp b nv nv w _ from zad) hk)
     clear hs hk hm
     go_wp2_with fail
     go_ret
     have := qaK HR1.out HH.out
     subst this
     exact yar
   · rw [if_neg e3] at hr
     have q3 : (k == 3) = false := by simpa using e3
     by_cases e1 : k = 1
     · subst e1
       have NX := Lib.hid (NX0 zax)
       rw [if_pos rfl] at hr
       clear NX0 e2 e3
       refine yaj ?_; intro HS0
       have HK0 := Lib.hid (Kp.refl b nv w)
       have HM0 := Lib.hid (Nat.le_refl m)
       have HR0 := Lib.hid (qao hr)
       clear h hr 
       obtain ⟨c0, c1, c2, c3, f1, f2, f3, hb⟩ := HS0.out.facts
       clear c0 c2 c3 f2 f3
       (have HS1 := Lib.hid (St.cast (HS0.out.setAt (m + 1) ((m : Int) + 1) zaf NX.out) (show N ++ [] = N ++ ([] ++ []) by simp)))
       refine ybw ?_; intro HK1
       refine yck ?_; intro HM1
       refine yam ?_; intro HR1
       go_enter Tryz.func143, Tryz.ntmps143
       go_wp2_with (first
        | (((with_reducible refine (TK.out _ zac).mono ?_); rintro e _ ⟨rfl, d2, os2, rfl⟩))
        | (((with_reducible refine (qaD _ _).mono ?_); rintro e _ ⟨rfl, d3, os3, rfl⟩)))
       go_at_call 115
       obtain ⟨r9, h9⟩ := qar HR1.out
       refine (qaM (show St b lb lo cap nv L (m + 1) (N ++ ([] ++ [])) _ from zan) _ _ _ _ _ _ _ _ r9 zbo).mono ?_
       have HH := Lib.hid h9; clear h9
       rcases r9 with ⟨e1, e2⟩ | ⟨v9, m9, ns9⟩
       · rintro e w9 ⟨he, nv9, hk⟩
         have HKE := Lib.hid (Kp.trans (show Kp b nv nv w _ from zad) hk)
         clear hk
         unfold noV at he
         subst he
         go_wp2_with fail
         have := qax HR1.out HH.out
         subst this
         exact ⟨rfl, PPost.err rfl HKE.out⟩
       rintro e w9 ⟨he, nv9, hs, hk, hm⟩
       unfold intV at he
       subst he
       refine yai ?_; intro HS9
       have HM9 := Lib.hid (Nat.le_trans HM1.out hm)
       have HK9 := Lib.hid (Kp.trans (show Kp b nv nv w _ from zad) hk)
       clear hs hk hm
       go_wp2_with fail
       go_ret
       have := qaK HR1.out HH.out
       subst this
       exact yar
     · rw [if_neg e1] at hr
       have q1 : (k == 1) = false := by simpa using e1
       by_cases e4 : k = 4
       · subst e4
         rw [if_pos rfl] at hr
         clear NX0 e1 e2 e3
         refine yaj ?_; intro HS0
         have HK0 := Lib.hid (Kp.refl b nv w)
         have HM0 := Lib.hid (Nat.le_refl m)
         have HR0 := Lib.hid (qao hr)
         clear h hr 
         go_enter Tryz.func143, Tryz.ntmps143
         go_wp2_with (((with_reducible refine (TK.out _ zac).mono ?_); rintro e _ ⟨rfl, d2, os2, rfl⟩))
         go_at_call 152
         obtain ⟨r9, h9⟩ := qar HR0.out
         refine (SG.out (by first | rfl | trivial) _ _ r9 (show St b lb lo cap nv L m (N ++ []) _ from zap) zbo).mono ?_
         have HH := Lib.hid h9; clear h9
         rcases r9 with ⟨e1, e2⟩ | ⟨v9, m9, ns9⟩
         · rintro e w9 ⟨he, nv9, hk⟩
           have HKE := Lib.hid (Kp.trans (show Kp b nv nv w _ from zai) hk)
           clear hk
           unfold noV at he
           subst he
           go_wp2_with fail
           have := qax HR0.out HH.out
           subst this
           exact ⟨rfl, PPost.err rfl HKE.out⟩
         rintro e w9 ⟨he, nv9, hs, hk, hm⟩
         unfold intV at he
         subst he
         refine yai ?_; intro HS9
         have HM9 := Lib.hid (Nat.le_trans HM0.out hm)
         have HK9 := Lib.hid (Kp.trans (show Kp b nv nv w _ from zai) hk)
         clear hs hk hm
         go_wp2_with fail
         go_ret
         have := qaK HR0.out HH.out
         subst this
         exact yar
       · rw [if_neg e4] at hr
         have q4 : (k == 4) = false := by simpa using e4
         by_cases e5 : k = 5
         · subst e5
           rw [if_pos rfl] at hr
           clear NX0 e1 e2 e3 e4
           refine yaj ?_; intro HS0
           have HK0 := Lib.hid (Kp.refl b nv w)
           have HM0 := Lib.hid (Nat.le_refl m)
           have HR0 := Lib.hid (qao hr)
           clear h hr 
           go_enter Tryz.func143, Tryz.ntmps143
           go_wp2_with (((with_reducible refine (TK.out _ zac).mono ?_); rintro e _ ⟨rfl, d2, os2, rfl⟩))
           go_at_call 153
           obtain ⟨r9, h9⟩ := qar HR0.out
           refine (WG.out (by first | rfl | trivial) _ _ r9 (show St b lb lo cap nv L m (N ++ []) _ from zap) zbo).mono ?_
           have HH := Lib.hid h9; clear h9
           rcases r9 with ⟨e1, e2⟩ | ⟨v9, m9, ns9⟩
           · rintro e w9 ⟨he, nv9, hk⟩
             have HKE := Lib.hid (Kp.trans (show Kp b nv nv w _ from zai) hk)
             clear hk
             unfold noV at he
             subst he
             go_wp2_with fail
             have := qax HR0.out HH.out
             subst this
             exact ⟨rfl, PPost.err rfl HKE.out⟩
           rintro e w9 ⟨he, nv9, hs, hk, hm⟩
           unfold intV at he
           subst he
           refine yai ?_; intro HS9
           have HM9 := Lib.hid (Nat.le_trans HM0.out hm)
           have HK9 := Lib.hid (Kp.trans (show Kp b nv nv w _ from zai) hk)
           clear hs hk hm
           go_wp2_with fail
           go_ret
           have := qaK HR0.out HH.out
           subst this
           exact yar
         · rw [if_neg e5] at hr
           have q5 : (k == 5) = false := by simpa using e5
           clear NX0 e1 e2 e3 e4 e5
           go_enter Tryz.func143, Tryz.ntmps143
           go_wp2_with (first
            | (((with_reducible refine (TK.out _ zac).mono ?_); rintro e _ ⟨rfl, d2, os2, rfl⟩))
            | (((with_reducible refine (FL.out _ _ zac).mono ?_); rintro e _ ⟨he, d3, os3, rfl⟩; unfold noV at he; subst he)))
           subst hr
           exact ⟨rfl, PPost.err rfl ((Kp.refl b nv w).ext zac)⟩
end Go.Proofs.YtpoeknndkccbaaaGreat
