/- The parser's expr and its closures. -/
import Derived.Test.YtoaaklcbcbjaiaaPar3
import Derived.Laws.EntriesVeiled
set_option linter.unusedSimpArgs false
set_option linter.unusedVariables false
namespace Go.Proofs.Ytoaaklcbcbjaiaa
open Go.RowKit
attribute [go_sem] more_more Array.size_append

theorem Loc.one {b : Nat} {nv : Value} {k : Nat} {w : World} {v : Value} {t : TypeId} (h : Loc b nv k (.cells #[v] t (0, 0)) w) : w.cell? ⟨k, 0, none⟩ = some v ∧ k < w.heap.size := by
  have := h.is
  exact ⟨by simp [World.cell?, this], h.lt⟩
theorem Stays.loc (b k : Nat) (o : Obj) : Stays b fun nv w => Loc b nv k o w := fun nv nv' w w' hk h => h.kp hk
theorem Stays.and {b : Nat} {E F : Value → World → Prop} (h : Stays b E) (k : Stays b F) : Stays b fun nv w => E nv w ∧ F nv w := fun nv nv' w w' hk ⟨h1, h2⟩ => ⟨h nv nv' w w' hk h1, k nv nv' w w' hk h2⟩
theorem Stays.true (b : Nat) : Stays b fun _ _ => True := fun _ _ _ _ _ _ => trivial
theorem mk_func (fn : Fn) (first cap : Array Value) (w : World) : (Instr.makeFunc fn first cap).run Try.prog w = .ok (.func fn first cap) w := rfl
attribute [go_sem] mk_func
theorem entersOne (args : Array Value) (w : World) : (callFunc 114 args).run Try.prog w = .ok (.enter 114 args) w := by kernel_rfl
theorem enters1 (args : Array Value) (w : World) : (callFunc 112 args).run Try.prog w = .ok (.enter 112 args) w := by kernel_rfl
theorem enters2 (args : Array Value) (w : World) : (callFunc 115 args).run Try.prog w = .ok (.enter 115 args) w := by kernel_rfl
theorem enters4 (args : Array Value) (w : World) : (callFunc 117 args).run Try.prog w = .ok (.enter 117 args) w := by kernel_rfl
theorem enters5 (args : Array Value) (w : World) : (callFunc 119 args).run Try.prog w = .ok (.enter 119 args) w := by kernel_rfl

set_option maxHeartbeats 1000000 in
set_option maxRecDepth 20000 in
theorem times_clo {b lb lo cap : Nat} {L : Toks} (d : Nat) (o : PM Int) (k2 : Nat) (Env : Value → World → Prop) (hE : Stays b Env)
    (hc : Clo b lb lo cap L 114 #[.pointer (some ⟨b, 0, none⟩), .int .i64 (d : Int)] Env (o)) :
    Clo b lb lo cap L 112 #[.int .i64 (d : Int), .pointer (some ⟨k2, 0, none⟩)] (fun nv w => Env nv w ∧ Loc b nv k2 (.cells #[.pointer (some ⟨b, 0, none⟩)] 68 (0, 0)) w) (timesP L o) := by
  intro nv m N w h he
  have H := Lib.hid h
  have HC := Lib.hid hc
  have HE := Lib.hid he
  have HS := Lib.hid hE
  obtain ⟨c2, l2⟩ := he.2.one
  clear h hc he hE
  obtain ⟨r, hr⟩ : ∃ r, timesP L o m N.length = r := ⟨_, rfl⟩
  have RR := Lib.hid hr
  rw [hr]
  clear hr
  go_enter Try.func112, Try.ntmps112
  go_wp2_with fail
  go_at_call 113
  refine (two_any (H.out.alloc _) d 114 #[.pointer (some ⟨b, 0, none⟩)] #[] Env HS.out _ HC.out entersOne (HS.out _ _ _ _ ((Kp.refl _ _ _).alloc _) HE.out.1) ssTimes _ _ (H.out.loc (strs ssTimes)) (by decide) r RR.out).mono ?_
  rcases r with ⟨e1, e2⟩ | ⟨a1, m1, ns1⟩
  · rintro e w1 ⟨he, nv1, hk1⟩
    have HK1 := Lib.hid hk1
    clear hk1
    unfold noV at he
    subst he
    go_wp2_with fail
    exact ⟨rfl, PPost.err rfl (((Kp.refl b nv w).alloc _).trans HK1.out)⟩
  · rintro e w1 ⟨he, nv1, hs1, hk1, hm1⟩
    have HK1 := Lib.hid hk1
    have HS1 := Lib.hid hs1
    have HM1 := Lib.hid hm1
    clear hk1 hs1 hm1
    unfold intV at he
    subst he
    go_wp2_with fail
    go_ret
    exact PPost.res rfl HS1.out (((Kp.refl b nv w).alloc _).trans HK1.out) HM1.out

set_option maxHeartbeats 1000000 in
set_option maxRecDepth 20000 in
theorem sum_clo {b lb lo cap : Nat} {L : Toks} (d : Nat) (o : PM Int) (k2 k5 : Nat) (Env : Value → World → Prop) (hE : Stays b (fun nv w => Env nv w ∧ Loc b nv k2 (.cells #[.pointer (some ⟨b, 0, none⟩)] 68 (0, 0)) w))
    (hc : Clo b lb lo cap L 112 #[.int .i64 (d : Int), .pointer (some ⟨k2, 0, none⟩)] (fun nv w => Env nv w ∧ Loc b nv k2 (.cells #[.pointer (some ⟨b, 0, none⟩)] 68 (0, 0)) w) (timesP L o)) :
    Clo b lb lo cap L 115 #[.int .i64 (d : Int), .pointer (some ⟨k2, 0, none⟩), .pointer (some ⟨k5, 0, none⟩)] (fun nv w => (Env nv w ∧ Loc b nv k2 (.cells #[.pointer (some ⟨b, 0, none⟩)] 68 (0, 0)) w) ∧ Loc b nv k5 (.cells #[(.func (.func 112) #[] #[.pointer (some ⟨k2, 0, none⟩)])] 71 (0, 0)) w) (sumP L o) := by
  intro nv m N w h he
  have H := Lib.hid h
  have HC := Lib.hid hc
  have HE := Lib.hid he
  have HS := Lib.hid hE
  obtain ⟨c2, l2⟩ := he.1.2.one
  obtain ⟨c5, l5⟩ := he.2.one
  clear h hc he hE
  obtain ⟨r, hr⟩ : ∃ r, sumP L o m N.length = r := ⟨_, rfl⟩
  have RR := Lib.hid hr
  rw [hr]
  clear hr
  go_enter Try.func115, Try.ntmps115
  go_wp2_with fail
  go_at_call 113
  refine (two_any (H.out.alloc _) d 112 #[] #[.pointer (some ⟨k2, 0, none⟩)] (fun nv w => Env nv w ∧ Loc b nv k2 (.cells #[.pointer (some ⟨b, 0, none⟩)] 68 (0, 0)) w) HS.out _ HC.out enters1 (HS.out _ _ _ _ ((Kp.refl _ _ _).alloc _) HE.out.1) ssSum _ _ (H.out.loc (strs ssSum)) (by decide) r RR.out).mono ?_
  rcases r with ⟨e1, e2⟩ | ⟨a1, m1, ns1⟩
  · rintro e w1 ⟨he, nv1, hk1⟩
    have HK1 := Lib.hid hk1
    clear hk1
    unfold noV at he
    subst he
    go_wp2_with fail
    exact ⟨rfl, PPost.err rfl (((Kp.refl b nv w).alloc _).trans HK1.out)⟩
  · rintro e w1 ⟨he, nv1, hs1, hk1, hm1⟩
    have HK1 := Lib.hid hk1
    have HS1 := Lib.hid hs1
    have HM1 := Lib.hid hm1
    clear hk1 hs1 hm1
    unfold intV at he
    subst he
    go_wp2_with fail
    go_ret
    exact PPost.res rfl HS1.out (((Kp.refl b nv w).alloc _).trans HK1.out) HM1.out

set_option maxHeartbeats 1000000 in
set_option maxRecDepth 20000 in
theorem join_clo {b lb lo cap : Nat} {L : Toks} (d : Nat) (o : PM Int) (k2 k5 k6 : Nat) (Env : Value → World → Prop) (hE : Stays b (fun nv w => (Env nv w ∧ Loc b nv k2 (.cells #[.pointer (some ⟨b, 0, none⟩)] 68 (0, 0)) w) ∧ Loc b nv k5 (.cells #[(.func (.func 112) #[] #[.pointer (some ⟨k2, 0, none⟩)])] 71 (0, 0)) w))
    (hc : Clo b lb lo cap L 115 #[.int .i64 (d : Int), .pointer (some ⟨k2, 0, none⟩), .pointer (some ⟨k5, 0, none⟩)] (fun nv w => (Env nv w ∧ Loc b nv k2 (.cells #[.pointer (some ⟨b, 0, none⟩)] 68 (0, 0)) w) ∧ Loc b nv k5 (.cells #[(.func (.func 112) #[] #[.pointer (some ⟨k2, 0, none⟩)])] 71 (0, 0)) w) (sumP L o)) :
    Clo b lb lo cap L 116 #[.int .i64 (d : Int), .pointer (some ⟨k2, 0, none⟩), .pointer (some ⟨k6, 0, none⟩)] (fun nv w => ((Env nv w ∧ Loc b nv k2 (.cells #[.pointer (some ⟨b, 0, none⟩)] 68 (0, 0)) w) ∧ Loc b nv k5 (.cells #[(.func (.func 112) #[] #[.pointer (some ⟨k2, 0, none⟩)])] 71 (0, 0)) w) ∧ Loc b nv k6 (.cells #[(.func (.func 115) #[] #[.pointer (some ⟨k2, 0, none⟩), .pointer (some ⟨k5, 0, none⟩)])] 71 (0, 0)) w) (joinP L o) := by
  intro nv m N w h he
  have H := Lib.hid h
  have HC := Lib.hid hc
  have HE := Lib.hid he
  have HS := Lib.hid hE
  obtain ⟨c2, l2⟩ := he.1.1.2.one
  obtain ⟨c5, l5⟩ := he.2.one
  clear h hc he hE
  obtain ⟨r, hr⟩ : ∃ r, joinP L o m N.length = r := ⟨_, rfl⟩
  have RR := Lib.hid hr
  rw [hr]
  clear hr
  go_enter Try.func116, Try.ntmps116
  go_wp2_with fail
  go_at_call 113
  refine (two_any (H.out.alloc _) d 115 #[] #[.pointer (some ⟨k2, 0, none⟩), .pointer (some ⟨k5, 0, none⟩)] (fun nv w => (Env nv w ∧ Loc b nv k2 (.cells #[.pointer (some ⟨b, 0, none⟩)] 68 (0, 0)) w) ∧ Loc b nv k5 (.cells #[(.func (.func 112) #[] #[.pointer (some ⟨k2, 0, none⟩)])] 71 (0, 0)) w) HS.out _ HC.out enters2 (HS.out _ _ _ _ ((Kp.refl _ _ _).alloc _) HE.out.1) ssJoin _ _ (H.out.loc (strs ssJoin)) (by decide) r RR.out).mono ?_
  rcases r with ⟨e1, e2⟩ | ⟨a1, m1, ns1⟩
  · rintro e w1 ⟨he, nv1, hk1⟩
    have HK1 := Lib.hid hk1
    clear hk1
    unfold noV at he
    subst he
    go_wp2_with fail
    exact ⟨rfl, PPost.err rfl (((Kp.refl b nv w).alloc _).trans HK1.out)⟩
  · rintro e w1 ⟨he, nv1, hs1, hk1, hm1⟩
    have HK1 := Lib.hid hk1
    have HS1 := Lib.hid hs1
    have HM1 := Lib.hid hm1
    clear hk1 hs1 hm1
    unfold intV at he
    subst he
    go_wp2_with fail
    go_ret
    exact PPost.res rfl HS1.out (((Kp.refl b nv w).alloc _).trans HK1.out) HM1.out

set_option maxHeartbeats 1000000 in
set_option maxRecDepth 20000 in
theorem and_clo {b lb lo cap : Nat} {L : Toks} (d : Nat) (o : PM Int) (k2 k5 k6 k7 k8 : Nat) (Env : Value → World → Prop) (hE : Stays b (fun nv w => (((Env nv w ∧ Loc b nv k2 (.cells #[.pointer (some ⟨b, 0, none⟩)] 68 (0, 0)) w) ∧ Loc b nv k5 (.cells #[(.func (.func 112) #[] #[.pointer (some ⟨k2, 0, none⟩)])] 71 (0, 0)) w) ∧ Loc b nv k6 (.cells #[(.func (.func 115) #[] #[.pointer (some ⟨k2, 0, none⟩), .pointer (some ⟨k5, 0, none⟩)])] 71 (0, 0)) w) ∧ Loc b nv k7 (.cells #[(.func (.func 116) #[] #[.pointer (some ⟨k2, 0, none⟩), .pointer (some ⟨k6, 0, none⟩)])] 71 (0, 0)) w))
    (hc : Clo b lb lo cap L 117 #[.int .i64 (d : Int), .pointer (some ⟨k7, 0, none⟩), .pointer (some ⟨k2, 0, none⟩)] (fun nv w => (((Env nv w ∧ Loc b nv k2 (.cells #[.pointer (some ⟨b, 0, none⟩)] 68 (0, 0)) w) ∧ Loc b nv k5 (.cells #[(.func (.func 112) #[] #[.pointer (some ⟨k2, 0, none⟩)])] 71 (0, 0)) w) ∧ Loc b nv k6 (.cells #[(.func (.func 115) #[] #[.pointer (some ⟨k2, 0, none⟩), .pointer (some ⟨k5, 0, none⟩)])] 71 (0, 0)) w) ∧ Loc b nv k7 (.cells #[(.func (.func 116) #[] #[.pointer (some ⟨k2, 0, none⟩), .pointer (some ⟨k6, 0, none⟩)])] 71 (0, 0)) w) (compP L o)) :
    Clo b lb lo cap L 119 #[.int .i64 (d : Int), .pointer (some ⟨k2, 0, none⟩), .pointer (some ⟨k8, 0, none⟩)] (fun nv w => ((((Env nv w ∧ Loc b nv k2 (.cells #[.pointer (some ⟨b, 0, none⟩)] 68 (0, 0)) w) ∧ Loc b nv k5 (.cells #[(.func (.func 112) #[] #[.pointer (some ⟨k2, 0, none⟩)])] 71 (0, 0)) w) ∧ Loc b nv k6 (.cells #[(.func (.func 115) #[] #[.pointer (some ⟨k2, 0, none⟩), .pointer (some ⟨k5, 0, none⟩)])] 71 (0, 0)) w) ∧ Loc b nv k7 (.cells #[(.func (.func 116) #[] #[.pointer (some ⟨k2, 0, none⟩), .pointer (some ⟨k6, 0, none⟩)])] 71 (0, 0)) w) ∧ Loc b nv k8 (.cells #[(.func (.func 117) #[] #[.pointer (some ⟨k7, 0, none⟩), .pointer (some ⟨k2, 0, none⟩)])] 71 (0, 0)) w) (andP L o) := by
  intro nv m N w h he
  have H := Lib.hid h
  have HC := Lib.hid hc
  have HE := Lib.hid he
  have HS := Lib.hid hE
  obtain ⟨c2, l2⟩ := he.1.1.1.1.2.one
  obtain ⟨c5, l5⟩ := he.2.one
  clear h hc he hE
  obtain ⟨r, hr⟩ : ∃ r, andP L o m N.length = r := ⟨_, rfl⟩
  have RR := Lib.hid hr
  rw [hr]
  clear hr
  go_enter Try.func119, Try.ntmps119
  go_wp2_with fail
  go_at_call 113
  refine (two_any (H.out.alloc _) d 117 #[] #[.pointer (some ⟨k7, 0, none⟩), .pointer (some ⟨k2, 0, none⟩)] (fun nv w => (((Env nv w ∧ Loc b nv k2 (.cells #[.pointer (some ⟨b, 0, none⟩)] 68 (0, 0)) w) ∧ Loc b nv k5 (.cells #[(.func (.func 112) #[] #[.pointer (some ⟨k2, 0, none⟩)])] 71 (0, 0)) w) ∧ Loc b nv k6 (.cells #[(.func (.func 115) #[] #[.pointer (some ⟨k2, 0, none⟩), .pointer (some ⟨k5, 0, none⟩)])] 71 (0, 0)) w) ∧ Loc b nv k7 (.cells #[(.func (.func 116) #[] #[.pointer (some ⟨k2, 0, none⟩), .pointer (some ⟨k6, 0, none⟩)])] 71 (0, 0)) w) HS.out _ HC.out enters4 (HS.out _ _ _ _ ((Kp.refl _ _ _).alloc _) HE.out.1) ssAnd _ _ (H.out.loc (strs ssAnd)) (by decide) r RR.out).mono ?_
  rcases r with ⟨e1, e2⟩ | ⟨a1, m1, ns1⟩
  · rintro e w1 ⟨he, nv1, hk1⟩
    have HK1 := Lib.hid hk1
    clear hk1
    unfold noV at he
    subst he
    go_wp2_with fail
    exact ⟨rfl, PPost.err rfl (((Kp.refl b nv w).alloc _).trans HK1.out)⟩
  · rintro e w1 ⟨he, nv1, hs1, hk1, hm1⟩
    have HK1 := Lib.hid hk1
    have HS1 := Lib.hid hs1
    have HM1 := Lib.hid hm1
    clear hk1 hs1 hm1
    unfold intV at he
    subst he
    go_wp2_with fail
    go_ret
    exact PPost.res rfl HS1.out (((Kp.refl b nv w).alloc _).trans HK1.out) HM1.out

theorem comp_err1 {L : Toks} {o : PM Int} {m n : Nat} {e : Int × Int} (h1 : joinP L o m n = .error e) : compP L o m n = .error e := pbind_err h1
theorem comp_none {L : Toks} {o : PM Int} {m n : Nat} {a : Int} {m1 : Nat} {ns : List Nd} (h1 : joinP L o m n = .ok (a, m1, ns)) (h2 : oneOfP L ssIs m1 (n + ns.length) = .ok (none, m1, [])) : compP L o m n = .ok (a, m1, ns) := by
  unfold compP
  rw [pbind_ok h1, pbind_ok h2, prep_nil]
  simp [pok, prep]
theorem comp_some {L : Toks} {o : PM Int} {m n : Nat} {a : Int} {m1 m2 : Nat} {ns : List Nd} {s : ByteArray} (h1 : joinP L o m n = .ok (a, m1, ns)) (h2 : oneOfP L ssIs m1 (n + ns.length) = .ok (some s, m2, [])) :
    compP L o m n = prep ns (thenR (joinP L o m2 (n + ns.length)) fun c m3 ns3 => prep ns3 (layP L (twoNd a c s) m3 (n + ns.length + ns3.length))) := by
  unfold compP
  rw [pbind_ok h1, pbind_ok h2, prep_nil]
  show prep ns (pbind (joinP L o) (fun b => layP L (twoNd a b s)) m2 (n + ns.length)) = _
  cases h3 : joinP L o m2 (n + ns.length) with
  | error e => rw [pbind_err h3]; rfl
  | ok v => obtain ⟨c, m3, ns3⟩ := v; rw [pbind_ok h3]; rfl

set_option maxHeartbeats 2000000 in
set_option maxRecDepth 20000 in
theorem comp_clo {b lb lo cap : Nat} {L : Toks} (d : Nat) (o : PM Int) (k2 k5 k6 k7 : Nat) (Env : Value → World → Prop) (hE : Stays b (fun nv w => (((Env nv w ∧ Loc b nv k2 (.cells #[.pointer (some ⟨b, 0, none⟩)] 68 (0, 0)) w) ∧ Loc b nv k5 (.cells #[(.func (.func 112) #[] #[.pointer (some ⟨k2, 0, none⟩)])] 71 (0, 0)) w) ∧ Loc b nv k6 (.cells #[(.func (.func 115) #[] #[.pointer (some ⟨k2, 0, none⟩), .pointer (some ⟨k5, 0, none⟩)])] 71 (0, 0)) w) ∧ Loc b nv k7 (.cells #[(.func (.func 116) #[] #[.pointer (some ⟨k2, 0, none⟩), .pointer (some ⟨k6, 0, none⟩)])] 71 (0, 0)) w)) (hc : Clo b lb lo cap L 116 #[.int .i64 (d : Int), .pointer (some ⟨k2, 0, none⟩), .pointer (some ⟨k6, 0, none⟩)] (fun nv w => ((Env nv w ∧ Loc b nv k2 (.cells #[.pointer (some ⟨b, 0, none⟩)] 68 (0, 0)) w) ∧ Loc b nv k5 (.cells #[(.func (.func 112) #[] #[.pointer (some ⟨k2, 0, none⟩)])] 71 (0, 0)) w) ∧ Loc b nv k6 (.cells #[(.func (.func 115) #[] #[.pointer (some ⟨k2, 0, none⟩), .pointer (some ⟨k5, 0, none⟩)])] 71 (0, 0)) w) (joinP L o)) :
    Clo b lb lo cap L 117 #[.int .i64 (d : Int), .pointer (some ⟨k7, 0, none⟩), .pointer (some ⟨k2, 0, none⟩)] (fun nv w => (((Env nv w ∧ Loc b nv k2 (.cells #[.pointer (some ⟨b, 0, none⟩)] 68 (0, 0)) w) ∧ Loc b nv k5 (.cells #[(.func (.func 112) #[] #[.pointer (some ⟨k2, 0, none⟩)])] 71 (0, 0)) w) ∧ Loc b nv k6 (.cells #[(.func (.func 115) #[] #[.pointer (some ⟨k2, 0, none⟩), .pointer (some ⟨k5, 0, none⟩)])] 71 (0, 0)) w) ∧ Loc b nv k7 (.cells #[(.func (.func 116) #[] #[.pointer (some ⟨k2, 0, none⟩), .pointer (some ⟨k6, 0, none⟩)])] 71 (0, 0)) w) (compP L o) := by
  intro nv m N w h he
  have H := Lib.hid h
  have HC := Lib.hid hc
  have HE := Lib.hid he
  have HS := Lib.hid hE
  obtain ⟨c7, l7⟩ := he.2.one
  obtain ⟨c2, l2⟩ := he.1.1.1.2.one
  clear h hc he hE
  obtain ⟨r, hr⟩ : ∃ r, compP L o m N.length = r := ⟨_, rfl⟩
  rw [hr]
  obtain ⟨r1, hr1⟩ : ∃ r1, joinP L o m N.length = r1 := ⟨_, rfl⟩
  have C1 := Lib.hid (HC.out nv m N w H.out HE.out.1)
  rw [hr1] at C1
  rcases r1 with ⟨e1, e2⟩ | ⟨a, m1, ns1⟩
  · rw [comp_err1 hr1] at hr
    subst hr
    clear hr1
    go_enter Try.func117, Try.ntmps117
    go_wp2_with ((go_at_call 116; (with_reducible refine C1.out.mono ?_); rintro e w1 ⟨he, nv_w1, hk⟩; have HK_w1 := Lib.hid hk; clear hk; unfold noV at he; subst he))
    exact ⟨rfl, PPost.err rfl HK_w1.out⟩
  rcases oneOf_cases L ssIs m1 (N ++ ns1).length with h2 | ⟨s, h2⟩
  · rw [comp_none hr1 (by rw [← List.length_append]; exact h2)] at hr
    subst hr
    have O := Lib.hid h2
    clear hr1 h2
    go_enter Try.func117, Try.ntmps117
    go_wp2_with ((go_at_call 116; (with_reducible refine C1.out.mono ?_); rintro e w1 ⟨he, nv_w1, hs, hk, hm⟩; have HS_w1 := Lib.hid hs; have HK_w1 := Lib.hid hk; have HM_w1 := Lib.hid hm; clear hs hk hm; unfold intV at he; subst he; have HE1 := Lib.hid (HS.out _ _ _ _ HK_w1.out HE.out); obtain ⟨c7a, l7a⟩ := HE1.out.2.one; obtain ⟨c2a, l2a⟩ := HE1.out.1.1.1.2.one))
    go_at_call 118
    refine (oneOf_any (HS_w1.out.alloc _) ssIs _ _ (HS_w1.out.loc (strs ssIs)) (by decide) _ O.out).mono ?_
    rintro e w2 ⟨he, nv_w2, hs, hk, hm⟩; have HS_w2 := Lib.hid hs; have HK_w2 := Lib.hid hk; have HM_w2 := Lib.hid hm; clear hs hk hm; unfold optV at he; subst he
    go_wp2_with fail
    go_ret
    exact PPost.res rfl (HS_w2.out.cast (by simp)) ((HK_w1.out.alloc _).trans HK_w2.out) HM_w1.out
  · rw [comp_some hr1 (by rw [← List.length_append]; exact h2)] at hr
    obtain ⟨r3, hr3⟩ : ∃ r3, joinP L o (m1 + 1) (N.length + ns1.length) = r3 := ⟨_, rfl⟩
    rw [hr3] at hr
    have O := Lib.hid h2
    have C3 : RowKit.Hid (∀ nv3 w3, St b lb lo cap nv3 L (m1 + 1) (N ++ ns1 ++ []) w3 → (fun nv w => ((Env nv w ∧ Loc b nv k2 (.cells #[.pointer (some ⟨b, 0, none⟩)] 68 (0, 0)) w) ∧ Loc b nv k5 (.cells #[(.func (.func 112) #[] #[.pointer (some ⟨k2, 0, none⟩)])] 71 (0, 0)) w) ∧ Loc b nv k6 (.cells #[(.func (.func 115) #[] #[.pointer (some ⟨k2, 0, none⟩), .pointer (some ⟨k5, 0, none⟩)])] 71 (0, 0)) w) nv3 w3 → Calls Try.prog 116 #[.int .i64 (d : Int), .pointer (some ⟨k2, 0, none⟩), .pointer (some ⟨k6, 0, none⟩)] w3 (PPost intV b lb lo cap nv3 L (m1 + 1) (N ++ ns1 ++ []) w3 r3)) :=
      Lib.hid fun nv3 w3 hs he => by have := HC.out nv3 (m1 + 1) _ w3 hs he; rw [List.append_nil, List.length_append, hr3] at this; rw [List.append_nil]; exact this
    have R := Lib.hid hr
    clear hr hr1 h2 hr3
    go_enter Try.func117, Try.ntmps117
    go_wp2_with ((go_at_call 116; (with_reducible refine C1.out.mono ?_); rintro e w1 ⟨he, nv_w1, hs, hk, hm⟩; have HS_w1 := Lib.hid hs; have HK_w1 := Lib.hid hk; have HM_w1 := Lib.hid hm; clear hs hk hm; unfold intV at he; subst he; have HE1 := Lib.hid (HS.out _ _ _ _ HK_w1.out HE.out); obtain ⟨c7a, l7a⟩ := HE1.out.2.one; obtain ⟨c2a, l2a⟩ := HE1.out.1.1.1.2.one))
    go_at_call 118
    refine (oneOf_any (HS_w1.out.alloc _) ssIs _ _ (HS_w1.out.loc (strs ssIs)) (by decide) _ O.out).mono ?_
    rintro e w2 ⟨he, nv_w2, hs, hk, hm⟩; have HS_w2 := Lib.hid hs; have HK_w2 := Lib.hid hk; have HM_w2 := Lib.hid hm; clear hs hk hm; unfold optV at he; subst he
    have HE2 := Lib.hid (HS.out _ _ _ _ (((Kp.refl _ _ _).alloc _).trans HK_w2.out) HE1.out)
    obtain ⟨c7b, l7b⟩ := HE2.out.2.one
    clear c7a l7a c2a l2a
    have KK := Lib.hid ((HK_w1.out.alloc (strs ssIs)).trans HK_w2.out)
    go_wp2_with ((go_at_call 65; (with_reducible refine (node_any _ _).mono ?_); rintro e _ ⟨rfl, d3, os3, rfl⟩))
    go_at_call 116
    have LC := Lib.hid ((HS_w2.out.more d3 os3).loc (.cells #[.int .i64 11, .int .i64 a, .int .i64 (-1), .int .i64 (-1), .int .i64 (-1), .int .i64 0, .string s, .string ⟨#[]⟩] 52 (0, 0)))
    have HE3 := Lib.hid (HS.out _ _ _ _ (((Kp.refl _ _ _).more d3 os3).alloc (.cells #[.int .i64 11, .int .i64 a, .int .i64 (-1), .int .i64 (-1), .int .i64 (-1), .int .i64 0, .string s, .string ⟨#[]⟩] 52 (0, 0))) HE2.out)
    refine (C3.out nv_w2 _ ((HS_w2.out.more _ _).alloc _) HE3.out.1).mono ?_
    rcases r3 with ⟨e1, e2⟩ | ⟨z3, m3, ns3⟩
    · rintro e w4 ⟨he, nv_w4, hk⟩; have HK_w4 := Lib.hid hk; clear hk; unfold noV at he; subst he
      go_wp2_with fail
      have := R.out
      subst this
      exact ⟨rfl, PPost.err rfl (((KK.out.more _ _).alloc _).trans HK_w4.out)⟩
    · rintro e w4 ⟨he, nv_w4, hs, hk, hm⟩; have HS_w4 := Lib.hid hs; have HK_w4 := Lib.hid hk; have HM_w4 := Lib.hid hm; clear hs hk hm; unfold intV at he; subst he
      obtain ⟨r4, hr4⟩ : ∃ r4, layP L (twoNd a z3 s) m3 (N.length + ns1.length + ns3.length) = r4 := ⟨_, rfl⟩
      have LA : RowKit.Hid (∀ nv4 w5, St b lb lo cap nv4 L m3 (N ++ ns1 ++ [] ++ ns3) w5 → Calls Try.prog 68 #[.pointer (some ⟨b, 0, none⟩), .agg #[.int .i64 11, .int .i64 a, .int .i64 z3, .int .i64 (-1), .int .i64 (-1), .int .i64 0, .string s, .string ⟨#[]⟩]] w5 (PPost intV b lb lo cap nv4 L m3 (N ++ ns1 ++ [] ++ ns3) w5 r4)) :=
        Lib.hid fun nv4 w5 hs => lay_any hs _ _ _ _ _ _ _ _ r4 (by rw [← hr4]; simp [twoNd, nd, Nat.add_assoc])
      have R4 : RowKit.Hid (prep ns1 (prep ns3 r4) = r) := Lib.hid (by rw [← R.out, ← hr4]; rfl)
      have LC4 := Lib.hid (LC.out.kp HK_w4.out)
      have HE4 := Lib.hid (HS.out _ _ _ _ HK_w4.out HE3.out)
      obtain ⟨c2b, l2b⟩ := HE4.out.1.1.1.2.one
      clear LC hr4 R C3
      obtain ⟨kn, hkn⟩ : ∃ kn, (more w2 d3 os3).heap.size = kn := ⟨_, rfl⟩
      rw [hkn] at LC4
      rw [more_size] at hkn
      have hkw : w.heap.size ≤ kn := by have := KK.out.size; omega
      have hlk : lb ≠ kn := by have := HS_w2.out.low; have := HS_w2.out.lt; omega
      have hk2 : k2 ≠ kn := by have := HE2.out.1.1.1.2.lt; omega
      rw [hkn]
      obtain ⟨n0, n1, n2, n3, n4, n5, n6, n7, z0, z1, z2, z3', z5, z6, z7, hkl⟩ := LC4.out.node
      have HKW := Lib.hid hkw
      have HLK := Lib.hid hlk
      clear hkn hkw hlk
      go_wp2_with fail
      refine (LA.out nv_w4 _ (HS_w4.out.setLoc LC4.out HLK.out 2 _)).mono ?_
      have K4 : RowKit.Hid (Kp b nv nv_w4 w (w4.setCell ⟨kn, 2, none⟩ (.int .i64 z3))) := Lib.hid ((((KK.out.more _ _).alloc _).trans HK_w4.out).setNew HKW.out 2 _)
      rcases r4 with ⟨e1, e2⟩ | ⟨a4, m4, ns4⟩
      · rintro e w5 ⟨he, nv_w5, hk⟩; have HK_w5 := Lib.hid hk; clear hk; unfold noV at he; subst he
        go_wp2_with fail
        have := R4.out
        subst this
        exact ⟨rfl, PPost.err rfl (K4.out.trans HK_w5.out)⟩
      · rintro e w5 ⟨he, nv_w5, hs, hk, hm⟩; have HS_w5 := Lib.hid hs; have HK_w5 := Lib.hid hk; have HM_w5 := Lib.hid hm; clear hs hk hm; unfold intV at he; subst he
        go_wp2_with fail
        go_ret
        have := R4.out
        subst this
        have q1 := HM_w5.out
        have q2 := HM_w4.out
        have q3 := HM_w1.out
        exact PPost.res rfl (HS_w5.out.cast (by simp)) (K4.out.trans HK_w5.out) (by omega)

set_option maxHeartbeats 2000000 in
set_option maxRecDepth 20000 in
theorem expr_any {b lb lo cap : Nat} {L : Toks} (d : Nat) (hd : d ≤ 16) (o : PM Int) (hone : Clo b lb lo cap L 114 #[.pointer (some ⟨b, 0, none⟩), .int .i64 (d : Int)] (fun _ _ => True) o) :
    Clo b lb lo cap L 95 #[.pointer (some ⟨b, 0, none⟩), .int .i64 (d : Int)] (fun _ _ => True) (orP L o) := by
  intro nv m N w h he
  have H := Lib.hid h
  have HC := Lib.hid hone
  clear h he hone
  obtain ⟨r, hr⟩ : ∃ r, orP L o m N.length = r := ⟨_, rfl⟩
  have RR := Lib.hid hr
  rw [hr]
  clear hr
  have D : RowKit.Hid (∀ nv1 w1, St b lb lo cap nv1 L m N w1 → Calls Try.prog 41 #[.pointer (some ⟨b, 0, none⟩), .int .i64 (d : Int)] w1 (PPost unitV b lb lo cap nv1 L m N w1 (.ok ((), m, [])))) :=
    Lib.hid fun nv1 w1 h1 => deep_any h1 d (by omega) _ (by unfold deepP; rw [if_neg (by omega)])
  go_enter Try.func95, Try.ntmps95
  go_wp2_with fail
  go_at_call 41
  have L2 := Lib.hid (H.out.loc (.cells #[.pointer (some ⟨b, 0, none⟩)] 68 (0, 0)))
  refine (D.out nv _ (H.out.alloc _)).mono ?_
  rintro e w1 ⟨he, nv_w1, hs, hk, hm⟩; have HS_w1 := Lib.hid hs; have HK_w1 := Lib.hid hk; have HM_w1 := Lib.hid hm; clear hs hk hm; unfold unitV at he; subst he
  have L2a := Lib.hid (L2.out.kp HK_w1.out)
  obtain ⟨k2, hk2⟩ : ∃ k2, w.heap.size = k2 := ⟨_, rfl⟩
  rw [hk2] at L2a
  rw [hk2]
  obtain ⟨c2, l2⟩ := L2a.out.one
  have KK := Lib.hid (((Kp.refl b nv w).alloc (.cells #[.pointer (some ⟨b, 0, none⟩)] 68 (0, 0))).trans HK_w1.out)
  have S0 := Lib.hid (HS_w1.out.cast (List.append_nil _))
  clear L2 hk2
  go_wp2_with fail

  go_at_call 113
  have Q5 := S0.out.loc (.cells #[.func (.func 112) #[] #[.pointer (some ⟨k2, 0, none⟩)]] 71 (0, 0))
  have Q6 := (S0.out.alloc (.cells #[.func (.func 112) #[] #[.pointer (some ⟨k2, 0, none⟩)]] 71 (0, 0))).loc (.cells #[.func (.func 115) #[] #[.pointer (some ⟨k2, 0, none⟩), .pointer (some ⟨w1.heap.size, 0, none⟩)]] 71 (0, 0))
  have Q7 := ((S0.out.alloc (.cells #[.func (.func 112) #[] #[.pointer (some ⟨k2, 0, none⟩)]] 71 (0, 0))).alloc (.cells #[.func (.func 115) #[] #[.pointer (some ⟨k2, 0, none⟩), .pointer (some ⟨w1.heap.size, 0, none⟩)]] 71 (0, 0))).loc (.cells #[.func (.func 116) #[] #[.pointer (some ⟨k2, 0, none⟩), .pointer (some ⟨w1.heap.size + 1, 0, none⟩)]] 71 (0, 0))
  have S8 := Lib.hid (((S0.out.alloc (.cells #[.func (.func 112) #[] #[.pointer (some ⟨k2, 0, none⟩)]] 71 (0, 0))).alloc (.cells #[.func (.func 115) #[] #[.pointer (some ⟨k2, 0, none⟩), .pointer (some ⟨w1.heap.size, 0, none⟩)]] 71 (0, 0))).alloc (.cells #[.func (.func 116) #[] #[.pointer (some ⟨k2, 0, none⟩), .pointer (some ⟨w1.heap.size + 1, 0, none⟩)]] 71 (0, 0)))
  have Q8 := S8.out.loc (.cells #[.func (.func 117) #[] #[.pointer (some ⟨w1.heap.size + 1 + 1, 0, none⟩), .pointer (some ⟨k2, 0, none⟩)]] 71 (0, 0))
  have Q9 := (S8.out.alloc (.cells #[.func (.func 117) #[] #[.pointer (some ⟨w1.heap.size + 1 + 1, 0, none⟩), .pointer (some ⟨k2, 0, none⟩)]] 71 (0, 0))).loc (strs ssOr)
  simp only [World.size_alloc] at Q6 Q7 Q8 Q9
  have Y0 := Stays.true b
  have Y1 := Y0.and (Stays.loc b k2 (.cells #[.pointer (some ⟨b, 0, none⟩)] 68 (0, 0)))
  have T1 := times_clo d o k2 _ Y0 HC.out
  have Y2 := Y1.and (Stays.loc b w1.heap.size (.cells #[.func (.func 112) #[] #[.pointer (some ⟨k2, 0, none⟩)]] 71 (0, 0)))
  have T2 := sum_clo d o k2 w1.heap.size _ Y1 T1
  have Y3 := Y2.and (Stays.loc b (w1.heap.size + 1) (.cells #[.func (.func 115) #[] #[.pointer (some ⟨k2, 0, none⟩), .pointer (some ⟨w1.heap.size, 0, none⟩)]] 71 (0, 0)))
  have T3 := join_clo d o k2 w1.heap.size (w1.heap.size + 1) _ Y2 T2
  have Y4 := Y3.and (Stays.loc b (w1.heap.size + 1 + 1) (.cells #[.func (.func 116) #[] #[.pointer (some ⟨k2, 0, none⟩), .pointer (some ⟨w1.heap.size + 1, 0, none⟩)]] 71 (0, 0)))
  have T4 := comp_clo d o k2 w1.heap.size (w1.heap.size + 1) (w1.heap.size + 1 + 1) _ Y4 T3
  have Y5 := Y4.and (Stays.loc b (w1.heap.size + 1 + 1 + 1) (.cells #[.func (.func 117) #[] #[.pointer (some ⟨w1.heap.size + 1 + 1, 0, none⟩), .pointer (some ⟨k2, 0, none⟩)]] 71 (0, 0)))
  have T5 := and_clo d o k2 w1.heap.size (w1.heap.size + 1) (w1.heap.size + 1 + 1) (w1.heap.size + 1 + 1 + 1) _ Y4 T4
  refine (two_any ((S8.out.alloc (.cells #[.func (.func 117) #[] #[.pointer (some ⟨w1.heap.size + 1 + 1, 0, none⟩), .pointer (some ⟨k2, 0, none⟩)]] 71 (0, 0))).alloc (strs ssOr)) d 119 #[] #[.pointer (some ⟨k2, 0, none⟩), .pointer (some ⟨w1.heap.size + 1 + 1 + 1, 0, none⟩)] _ Y5 _ T5 enters5 ?EN ssOr _ _ Q9 (by decide) r RR.out).mono ?_
  case EN => exact ⟨⟨⟨⟨⟨trivial, ((((L2a.out.alloc _).alloc _).alloc _).alloc _).alloc _⟩, (((Q5.alloc _).alloc _).alloc _).alloc _⟩, ((Q6.alloc _).alloc _).alloc _⟩, (Q7.alloc _).alloc _⟩, Q8.alloc _⟩
  have KZ := Lib.hid (((((KK.out.alloc (.cells #[.func (.func 112) #[] #[.pointer (some ⟨k2, 0, none⟩)]] 71 (0, 0))).alloc (.cells #[.func (.func 115) #[] #[.pointer (some ⟨k2, 0, none⟩), .pointer (some ⟨w1.heap.size, 0, none⟩)]] 71 (0, 0))).alloc (.cells #[.func (.func 116) #[] #[.pointer (some ⟨k2, 0, none⟩), .pointer (some ⟨w1.heap.size + 1, 0, none⟩)]] 71 (0, 0))).alloc (.cells #[.func (.func 117) #[] #[.pointer (some ⟨w1.heap.size + 1 + 1, 0, none⟩), .pointer (some ⟨k2, 0, none⟩)]] 71 (0, 0))).alloc (strs ssOr))
  clear Q5 Q6 Q7 Q8 Q9 Y0 Y1 Y2 Y3 Y4 Y5 T1 T2 T3 T4 T5
  rcases r with ⟨e1, e2⟩ | ⟨a1, m1, ns1⟩
  · rintro e w2 ⟨he, nv_w2, hk⟩; have HK_w2 := Lib.hid hk; clear hk; unfold noV at he; subst he
    go_wp2_with fail
    exact ⟨rfl, PPost.err rfl (KZ.out.trans HK_w2.out)⟩
  · rintro e w2 ⟨he, nv_w2, hs, hk, hm⟩; have HS_w2 := Lib.hid hs; have HK_w2 := Lib.hid hk; have HM_w2 := Lib.hid hm; clear hs hk hm; unfold intV at he; subst he
    go_wp2_with fail
    go_ret
    exact PPost.res rfl HS_w2.out (KZ.out.trans HK_w2.out) HM_w2.out
end Go.Proofs.Ytoaaklcbcbjaiaa
