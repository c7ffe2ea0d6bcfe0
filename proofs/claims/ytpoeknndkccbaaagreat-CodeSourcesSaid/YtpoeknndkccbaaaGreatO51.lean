/- Lemmas. -/
import Derived.Test.YtpoeknndkccbaaaGreatO38
import Derived.Test.YtpoeknndkccbaaaGreatO40
import Derived.Test.YtpoeknndkccbaaaGreatO41
import Derived.Test.YtpoeknndkccbaaaGreatO50
set_option linter.unusedSimpArgs false
set_option linter.unusedVariables false
set_option maxHeartbeats 8000000
set_option maxRecDepth 20000
namespace Go.Proofs.YtpoeknndkccbaaaGreat
open Go.RowKit
attribute [go_sem] more_more Array.size_append
theorem qeN {s : List UInt8} {c a : Int} (h : qav s = .error (c, a)) : c ≠ 0 := by
 unfold qav at h
 split at h
 · exact parse_nz _ c a h
 · rename_i hq
   simp only [Except.error.injEq, Prod.mk.injEq] at h
   rw [← h.1]; exact hq
theorem qcZ (s : ByteArray) (c a : Int) (hr : qav s.data.toList = .error (c, a)) (hc : c ≠ 0) (w : World) :
  Calls Tryz.prog 12 #[.string s] w fun r w' => r = .returned (.tuple #[.agg #[.slice none 0 0, .int .i64 0], .int .i64 c, .int .i64 a]) ∧ Ext w w' := by
 have SC := Lib.hid (fun W' => qdL s _ hr W')
 have he2 : (c != 0) = true := by simpa using hc
 clear hr hc
 go_enter Tryz.func12, Tryz.ntmps12
 go_wp2_with ((with_reducible refine (SC.out _).mono ?_); rintro e' _ ⟨rfl, d2, o2, rfl⟩)
 exact bodyPost_ret (v := .tuple #[.agg #[.slice none 0 0, .int .i64 0], .int .i64 c, .int .i64 a]) (by simp [results, Tryz.results12, go_sem]) rfl ⟨rfl, zaa⟩
theorem qbJ (s : ByteArray) (ns : List Nd) (fi : Int) (hr : qav s.data.toList = .ok (ns, fi)) (l : List Int) (mo e a : Int) (hf : qaT ns fi = (l, mo, e, a)) (w : World) :
  Calls Tryz.prog 12 #[.string s] w fun r w' => ∃ nv, r = .returned (.tuple #[.agg #[nv, .int .i64 fi], .int .i64 e, .int .i64 a]) ∧ w'.ownsRow w.heap.size 42 8 nv ns.length (qac ns) ∧ Ext w w' := by
 have SC := Lib.hid (fun W' => qdL s _ hr W')
 have RM := Lib.hid (fun (W' : World) nv (h : World.ownsRow W' 0 42 8 nv ns.length (qac ns)) => qew fi h l mo e a hf)
 clear hr hf
 go_enter Tryz.func12, Tryz.ntmps12
 go_wp2_with ((with_reducible refine (SC.out _).mono ?_); rintro e' w2 ⟨nv, rfl, hn, hx2⟩; obtain ⟨pn, kn, hvn⟩ := qae hn; subst hvn; have HN := Lib.hid hn; have HX2 := Lib.hid (Ext.trans ((Ext.refl w).alloc _) hx2); have KR := Lib.hid ((KB.new w #[.slice none 0 0, .int .i64 0] 24).of_ext hx2); have lr := KR.out.lt; clear hx2 hn)
 obtain ⟨Br, hBr⟩ : ∃ Br, w.heap.size = Br := ⟨_, rfl⟩
 have HBR := Lib.hid hBr
 rw [hBr] at KR lr ⊢
 clear hBr
 go_wp2_with ((with_reducible refine (RM.out _ _ (own_ext (HN.out.mono (Nat.zero_le _)) zaa)).mono ?_); rintro e' w3 ⟨rfl, hx3⟩; have HX3 := Lib.hid (Ext.trans ((Ext.refl w2).alloc _) hx3); have KP := Lib.hid ((KB.new w2 #[.slice pn ns.length kn, .int .i64 fi] 24).of_ext hx3); have p0 : w3.cell? ⟨w2.heap.size, 0, none⟩ = some (.slice pn ns.length kn) := KP.out.cell 0 _ rfl; have p1 : w3.cell? ⟨w2.heap.size, 1, none⟩ = some (.int .i64 fi) := KP.out.cell 1 _ rfl; have lp := KP.out.lt; have KR3 := Lib.hid (KR.out.of_ext (Ext.trans ((Ext.refl w2).alloc _) hx3)); have lr3 := KR3.out.lt; have r0f := KR3.out.frozen 0; have r1f := KR3.out.frozen 1; have r0c := KR3.out.cell 0 _ rfl; have r1c := KR3.out.cell 1 _ rfl; clear hx3)
 have KR4 := Lib.hid ((KR3.out.setAt 0 (.slice pn ns.length kn) zan).setAt 1 (.int .i64 fi) zan)
 have q0 : ((w3.setCell ⟨Br, 0, none⟩ (.slice pn ns.length kn)).setCell ⟨Br, 1, none⟩ (.int .i64 fi)).cell? ⟨Br, 0, none⟩ = some (.slice pn ns.length kn) := KR4.out.cell 0 _ rfl
 have q1 : ((w3.setCell ⟨Br, 0, none⟩ (.slice pn ns.length kn)).setCell ⟨Br, 1, none⟩ (.int .i64 fi)).cell? ⟨Br, 1, none⟩ = some (.int .i64 fi) := KR4.out.cell 1 _ rfl
 have HNB := Lib.hid (fun q (hq : (Value.slice pn ns.length kn).ownBlock = some q) => show q ≠ Br from by have := (HN.out.lt q hq).1; have := HBR.out; simp at *; omega)
 exact bodyPost_ret (v := .tuple #[.agg #[.slice pn ns.length kn, .int .i64 fi], .int .i64 e, .int .i64 a]) (by simp [results, Tryz.results12, go_sem, q0, q1]) rfl ⟨_, rfl, qag (own_ext (HN.out.mono (by have := HBR.out; first | omega | (simp; done) | (simp; omega))) HX3.out) (fun q hq _ => (heap_set_other _ _ _ _ _ (HNB.out q hq)).trans (heap_set_other _ _ _ _ _ (HNB.out q hq))), ((HX2.out.trans HX3.out).setCell (Nat.le_of_eq HBR.out) _).setCell (Nat.le_of_eq HBR.out) _⟩
theorem cso_err_l (s : ByteArray) (w : World) (hs0 : 2000 < (s.size : Int)) (hs1 : 2000 ≤ (s.size : Int))  (c a : Int) (hr : qav (s.extract 0 2000).data.toList = .error (c, a)) (hc : c ≠ 0) :
  Calls Tryz.prog 4 #[.string s] w fun e w' => e = .returned (.bool true) ∧ Ext w w' := by
 have A1 := Lib.hid (fun W' => csource_err (s.extract 0 2000) c a hr hc W')
 have A2 := Lib.hid (fun W' => qcZ (s.extract 0 2000) c a hr hc W')
 have he2 : (c != 0) = true := by simpa using hc
 clear hr hc
 go_enter Tryz.func4, Tryz.ntmps4
 go_wp2_with (first
  | ((with_reducible refine (A1.out _).mono ?_); rintro e' _ ⟨rfl, d2, o2, rfl⟩)
  | ((with_reducible refine (A2.out _).mono ?_); rintro e' _ ⟨rfl, d3, o3, rfl⟩)
  | ((with_reducible refine (qbB _).mono ?_); rintro e' _ ⟨rfl, d4, os4, rfl⟩))
 go_ret
 exact ⟨rfl, zaa⟩
theorem cso_no_l (s : ByteArray) (w : World) (hs0 : 2000 < (s.size : Int)) (hs1 : 2000 ≤ (s.size : Int))  (ns : List Nd) (fi : Int) (hr : qav (s.extract 0 2000).data.toList = .ok (ns, fi)) (l : List Int) (mo e a : Int) (hf : qaT ns fi = (l, mo, e, a)) (he : e ≠ 0) :
  Calls Tryz.prog 4 #[.string s] w fun e w' => e = .returned (.bool true) ∧ Ext w w' := by
 have hz : ∀ z ∈ ns, z.s.size ≤ maxLen := fun z h => by have := (qbU hr z h).1; unfold maxLen; omega
 have A1 := Lib.hid (fun W' => csource_no (s.extract 0 2000) ns fi hr hz l mo e a hf he W')
 have A2 := Lib.hid (fun W' => qbJ (s.extract 0 2000) ns fi hr l mo e a hf W')
 have he2 : (e != 0) = true := by simpa using he
 clear hr hf he hz
 go_enter Tryz.func4, Tryz.ntmps4
 go_wp2_with (first
  | ((with_reducible refine (A1.out _).mono ?_); rintro e' _ ⟨rfl, d2, o2, rfl⟩)
  | ((with_reducible refine (A2.out _).mono ?_); rintro e' w3 ⟨nv, rfl, hn, hx⟩; obtain ⟨pn, kn, hvn⟩ := qae hn; subst hvn; have HX := Lib.hid (Ext.trans (show Ext w _ from zaa) hx); clear hn hx)
  | ((with_reducible refine (qbB _).mono ?_); rintro e' _ ⟨rfl, d4, os4, rfl⟩))
 go_ret
 exact ⟨rfl, HX.out.trans zaa⟩
theorem cso_ok_l (s : ByteArray) (w : World) (hs0 : 2000 < (s.size : Int)) (hs1 : 2000 ≤ (s.size : Int))  (ns : List Nd) (fi : Int) (hr : qav (s.extract 0 2000).data.toList = .ok (ns, fi)) (l : List Int) (mo a : Int) (hf : qaT ns fi = (l, mo, 0, a)) :
  Calls Tryz.prog 4 #[.string s] w fun e w' => e = .returned (.bool true) ∧ Ext w w' := by
 have hz : ∀ z ∈ ns, z.s.size ≤ maxLen := fun z h => by have := (qbU hr z h).1; unfold maxLen; omega
 obtain ⟨R, hR, hsd⟩ := code_of hf
 have ha := (qcv hf).2.1
 subst ha
 have A1 := Lib.hid (fun W' => csource_ok (s.extract 0 2000) ns fi hr hz l mo (-1) hf R hR W')
 have A2 := Lib.hid (fun W' => qbJ (s.extract 0 2000) ns fi hr l mo 0 (-1) hf W')
 have RM := Lib.hid (fun (W' : World) nv (h : World.ownsRow W' 0 42 8 nv ns.length (qac ns)) => qew fi h l mo 0 (-1) hf)
 have HSD := Lib.hid hsd
 clear hr hf hz hR hsd
 go_enter Tryz.func4, Tryz.ntmps4
 go_wp2_with (first
  | ((with_reducible refine (A1.out _).mono ?_); rintro e' w2 ⟨c, rfl, hc2, hx2⟩; have HX2 := Lib.hid hx2; have HC2 := Lib.hid hc2; clear hx2 hc2)
  | ((with_reducible refine (A2.out _).mono ?_); rintro e' w3 ⟨nv, rfl, hn, hx3⟩; obtain ⟨pn, kn, hvn⟩ := qae hn; subst hvn; have HN3 := Lib.hid (hn.mono (Nat.zero_le _)); have HX3 := Lib.hid (HX2.out.trans hx3); have HC3 := Lib.hid (HC2.out.ext hx3); clear hn hx3)
  | ((with_reducible refine (RM.out _ _ (own_ext HN3.out zaa)).mono ?_); rintro e' w4 ⟨rfl, hx4⟩; have hx5 := Ext.trans (show Ext w3 _ from zaa) hx4; have HX4 := Lib.hid (HX3.out.trans hx5); have HN4 := Lib.hid (own_ext HN3.out hx5); have HC4 := Lib.hid (HC3.out.ext hx5); have KP := Lib.hid ((KB.new w3 #[.slice pn ns.length kn, .int .i64 fi] 24).of_ext hx4); have p0 : w4.cell? ⟨w3.heap.size, 0, none⟩ = some (.slice pn ns.length kn) := KP.out.cell 0 _ rfl; have p1 : w4.cell? ⟨w3.heap.size, 1, none⟩ = some (.int .i64 fi) := KP.out.cell 1 _ rfl; have lp := KP.out.lt; clear hx4 hx5)
  | ((with_reducible refine (sound_any HC4.out HN4.out HSD.out).mono ?_); rintro e' w5 ⟨rfl, hx5⟩; have HX5 := Lib.hid (HX4.out.trans hx5); clear hx5)
  | ((with_reducible refine (qbB _).mono ?_); rintro e' _ ⟨rfl, d4, os4, rfl⟩))
 go_ret
 exact ⟨rfl, HX5.out.trans zaa⟩
theorem cso_err_s (s : ByteArray) (w : World) (hs0 : (s.size : Int) ≤ 2000)  (c a : Int) (hr : qav s.data.toList = .error (c, a)) (hc : c ≠ 0) :
  Calls Tryz.prog 4 #[.string s] w fun e w' => e = .returned (.bool true) ∧ Ext w w' := by
 have A1 := Lib.hid (fun W' => csource_err s c a hr hc W')
 have A2 := Lib.hid (fun W' => qcZ s c a hr hc W')
 have he2 : (c != 0) = true := by simpa using hc
 clear hr hc
 go_enter Tryz.func4, Tryz.ntmps4
 go_wp2_with (first
  | ((with_reducible refine (A1.out _).mono ?_); rintro e' _ ⟨rfl, d2, o2, rfl⟩)
  | ((with_reducible refine (A2.out _).mono ?_); rintro e' _ ⟨rfl, d3, o3, rfl⟩)
  | ((with_reducible refine (qbB _).mono ?_); rintro e' _ ⟨rfl, d4, os4, rfl⟩))
 go_ret
 exact ⟨rfl, zaa⟩
theorem cso_no_s (s : ByteArray) (w : World) (hs0 : (s.size : Int) ≤ 2000)  (ns : List Nd) (fi : Int) (hr : qav s.data.toList = .ok (ns, fi)) (l : List Int) (mo e a : Int) (hf : qaT ns fi = (l, mo, e, a)) (he : e ≠ 0) :
  Calls Tryz.prog 4 #[.string s] w fun e w' => e = .returned (.bool true) ∧ Ext w w' := by
 have hz : ∀ z ∈ ns, z.s.size ≤ maxLen := fun z h => by have := (qbU hr z h).1; unfold maxLen; omega
 have A1 := Lib.hid (fun W' => csource_no s ns fi hr hz l mo e a hf he W')
 have A2 := Lib.hid (fun W' => qbJ s ns fi hr l mo e a hf W')
 have he2 : (e != 0) = true := by simpa using he
 clear hr hf he hz
 go_enter Tryz.func4, Tryz.ntmps4
 go_wp2_with (first
  | ((with_reducible refine (A1.out _).mono ?_); rintro e' _ ⟨rfl, d2, o2, rfl⟩)
  | ((with_reducible refine (A2.out _).mono ?_); rintro e' w3 ⟨nv, rfl, hn, hx⟩; obtain ⟨pn, kn, hvn⟩ := qae hn; subst hvn; have HX := Lib.hid (Ext.trans (show Ext w _ from zaa) hx); clear hn hx)
  | ((with_reducible refine (qbB _).mono ?_); rintro e' _ ⟨rfl, d4, os4, rfl⟩))
 go_ret
 exact ⟨rfl, HX.out.trans zaa⟩
theorem cso_ok_s (s : ByteArray) (w : World) (hs0 : (s.size : Int) ≤ 2000)  (ns : List Nd) (fi : Int) (hr : qav s.data.toList = .ok (ns, fi)) (l : List Int) (mo a : Int) (hf : qaT ns fi = (l, mo, 0, a)) :
  Calls Tryz.prog 4 #[.string s] w fun e w' => e = .returned (.bool true) ∧ Ext w w' := by
 have hz : ∀ z ∈ ns, z.s.size ≤ maxLen := fun z h => by have := (qbU hr z h).1; unfold maxLen; omega
 obtain ⟨R, hR, hsd⟩ := code_of hf
 have ha := (qcv hf).2.1
 subst ha
 have A1 := Lib.hid (fun W' => csource_ok s ns fi hr hz l mo (-1) hf R hR W')
 have A2 := Lib.hid (fun W' => qbJ s ns fi hr l mo 0 (-1) hf W')
 have RM := Lib.hid (fun (W' : World) nv (h : World.ownsRow W' 0 42 8 nv ns.length (qac ns)) => qew fi h l mo 0 (-1) hf)
 have HSD := Lib.hid hsd
 clear hr hf hz hR hsd
 go_enter Tryz.func4, Tryz.ntmps4
 go_wp2_with (first
  | ((with_reducible refine (A1.out _).mono ?_); rintro e' w2 ⟨c, rfl, hc2, hx2⟩; have HX2 := Lib.hid hx2; have HC2 := Lib.hid hc2; clear hx2 hc2)
  | ((with_reducible refine (A2.out _).mono ?_); rintro e' w3 ⟨nv, rfl, hn, hx3⟩; obtain ⟨pn, kn, hvn⟩ := qae hn; subst hvn; have HN3 := Lib.hid (hn.mono (Nat.zero_le _)); have HX3 := Lib.hid (HX2.out.trans hx3); have HC3 := Lib.hid (HC2.out.ext hx3); clear hn hx3)
  | ((with_reducible refine (RM.out _ _ (own_ext HN3.out zaa)).mono ?_); rintro e' w4 ⟨rfl, hx4⟩; have hx5 := Ext.trans (show Ext w3 _ from zaa) hx4; have HX4 := Lib.hid (HX3.out.trans hx5); have HN4 := Lib.hid (own_ext HN3.out hx5); have HC4 := Lib.hid (HC3.out.ext hx5); have KP := Lib.hid ((KB.new w3 #[.slice pn ns.length kn, .int .i64 fi] 24).of_ext hx4); have p0 : w4.cell? ⟨w3.heap.size, 0, none⟩ = some (.slice pn ns.length kn) := KP.out.cell 0 _ rfl; have p1 : w4.cell? ⟨w3.heap.size, 1, none⟩ = some (.int .i64 fi) := KP.out.cell 1 _ rfl; have lp := KP.out.lt; clear hx4 hx5)
  | ((with_reducible refine (sound_any HC4.out HN4.out HSD.out).mono ?_); rintro e' w5 ⟨rfl, hx5⟩; have HX5 := Lib.hid (HX4.out.trans hx5); clear hx5)
  | ((with_reducible refine (qbB _).mono ?_); rintro e' _ ⟨rfl, d4, os4, rfl⟩))
 go_ret
 exact ⟨rfl, HX5.out.trans zaa⟩
theorem qfk (W : World) (s : ByteArray) (ws : s.size ≤ maxLen) (hss : s.size ≤ 140737488351232) :
  Calls Tryz.prog 4 #[.string s] W fun e w' => e = .returned (.bool true) ∧ Ext W w' := by
 by_cases h : 2000 < (s.size : Int)
 · cases hr : qav (s.extract 0 2000).data.toList with
   | error e => obtain ⟨c, a⟩ := e; exact cso_err_l s W h zae c a hr (qeN hr)
   | ok q =>
    obtain ⟨ns, fi⟩ := q
    obtain ⟨l, m, e, a, hf⟩ : ∃ l m e a, qaT ns fi = (l, m, e, a) := ⟨_, _, _, _, rfl⟩
    by_cases he : e = 0
    · subst he; exact cso_ok_l s W h zae ns fi hr l m a hf
    · exact cso_no_l s W h zae ns fi hr l m e a hf he
 · cases hr : qav s.data.toList with
   | error e => obtain ⟨c, a⟩ := e; exact cso_err_s s W zae c a hr (qeN hr)
   | ok q =>
    obtain ⟨ns, fi⟩ := q
    obtain ⟨l, m, e, a, hf⟩ : ∃ l m e a, qaT ns fi = (l, m, e, a) := ⟨_, _, _, _, rfl⟩
    by_cases he : e = 0
    · subst he; exact cso_ok_s s W zae ns fi hr l m a hf
    · exact cso_no_s s W zae ns fi hr l m e a hf he
end Go.Proofs.YtpoeknndkccbaaaGreat
