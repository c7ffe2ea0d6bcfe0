/- The parser's two, over whatever binds closer. -/
import Derived.Test.YtoaaklcbcbjaiaaPar2
set_option linter.unusedSimpArgs false
set_option linter.unusedVariables false
namespace Go.Proofs.Ytoaaklcbcbjaiaa
open Go.RowKit
attribute [go_sem] more_more Array.size_append

theorem twoL_none {L : Toks} {cl : PM Int} {ss : List ByteArray} {g : Nat} {a : Int} {m n : Nat} (h1 : oneOfP L ss m n = .ok (none, m, [])) : twoLoop L cl ss (g + 1) a m n = .ok (a, m, []) := by
  rw [twoLoop, pbind_ok h1, prep_nil]; rfl
theorem twoL_err {L : Toks} {cl : PM Int} {ss : List ByteArray} {g : Nat} {a : Int} {m n : Nat} {s : ByteArray} {m1 : Nat} {e : Int × Int} (h1 : oneOfP L ss m n = .ok (some s, m1, [])) (h2 : cl m1 n = .error e) : twoLoop L cl ss (g + 1) a m n = .error e := by
  rw [twoLoop, pbind_ok h1, prep_nil]
  exact pbind_err h2
theorem twoL_lay {L : Toks} {cl : PM Int} {ss : List ByteArray} {g : Nat} {a c : Int} {m n : Nat} {s : ByteArray} {m1 m2 : Nat} {ns : List Nd} {e : Int × Int} (h1 : oneOfP L ss m n = .ok (some s, m1, [])) (h2 : cl m1 n = .ok (c, m2, ns)) (h3 : layP L (twoNd a c s) m2 (n + ns.length) = .error e) : twoLoop L cl ss (g + 1) a m n = .error e := by
  rw [twoLoop, pbind_ok h1, prep_nil]
  dsimp only [List.length_nil, Nat.add_zero]
  rw [pbind_ok h2, pbind_err h3]
  rfl
theorem twoL_ok {L : Toks} {cl : PM Int} {ss : List ByteArray} {g : Nat} {a c a1 : Int} {m n : Nat} {s : ByteArray} {m1 m2 m3 : Nat} {ns ns2 : List Nd} (h1 : oneOfP L ss m n = .ok (some s, m1, [])) (h2 : cl m1 n = .ok (c, m2, ns)) (h3 : layP L (twoNd a c s) m2 (n + ns.length) = .ok (a1, m3, ns2)) : twoLoop L cl ss (g + 1) a m n = prep (ns ++ ns2) (twoLoop L cl ss g a1 m3 (n + (ns ++ ns2).length)) := by
  rw [twoLoop, pbind_ok h1, prep_nil]
  dsimp only [List.length_nil, Nat.add_zero]
  rw [pbind_ok h2, pbind_ok h3, prep_prep, List.length_append, Nat.add_assoc]
def thenR {α β : Type} (r : PR α) (f : α → Nat → List Nd → PR β) : PR β := match r with
  | .error e => .error e
  | .ok (v, m, ns) => f v m ns
theorem oneOf_cases (L : Toks) (ss : List ByteArray) (m n : Nat) : oneOfP L ss m n = .ok (none, m, []) ∨ ∃ s, oneOfP L ss m n = .ok (some s, m + 1, []) := by
  unfold oneOfP
  cases ss.find? fun s => isP L s m with
  | none => exact Or.inl rfl
  | some s => exact Or.inr ⟨s, rfl⟩

/-- a function that goes a way through tokens, where what it captured stands -/
def Clo (b lb lo cap : Nat) (L : Toks) (F : FuncId) (args : Array Value) (Env : Value → World → Prop) (cl : PM Int) : Prop :=
  ∀ nv m N w, St b lb lo cap nv L m N w → Env nv w → Calls Try.prog F args w (PPost intV b lb lo cap nv L m N w (cl m N.length))
def Stays (b : Nat) (Env : Value → World → Prop) : Prop := ∀ nv nv' w w', Kp b nv nv' w w' → Env nv w → Env nv' w'

theorem St.cast {b lb lo cap : Nat} {nv : Value} {L : Toks} {m : Nat} {N N' : List Nd} {w : World} (h : St b lb lo cap nv L m N w) (e : N = N') : St b lb lo cap nv L m N' w := e ▸ h

set_option maxHeartbeats 2000000 in
set_option maxRecDepth 100000 in
theorem two_any {b lb lo cap : Nat} {nv : Value} {L : Toks} {m : Nat} {N : List Nd} {w : World} (h : St b lb lo cap nv L m N w) (d : Nat) (F : FuncId) (first cap2 : Array Value) (Env : Value → World → Prop) (hE : Stays b Env) (cl : PM Int)
    (hcl : Clo b lb lo cap L F (first.push (.int .i64 (d : Int)) ++ cap2) Env cl) (hF : ∀ args w, (Sem.run Try.prog (callFunc F args) w) = .ok (.enter F args) w) (he : Env nv w) (ss : List ByteArray) (gs c : Nat) (hg : Loc b nv gs (strs ss) w) (hss : ss.length ≤ 100) (r : PR Int) (hr : twoP L cl ss m N.length = r) :
    Calls Try.prog 113 #[.pointer (some ⟨b, 0, none⟩), .int .i64 (d : Int), .func (.func F) first cap2, .slice (some ⟨gs, 0, none⟩) ss.length c] w (PPost intV b lb lo cap nv L m N w r) := by
  have H := Lib.hid h
  have G := Lib.hid hg
  have CL := Lib.hid hcl
  have EN := Lib.hid he
  have HE := Lib.hid hE
  have R := Lib.hid hr
  clear h hg hcl he hE hr
  obtain ⟨r1, hr1⟩ : ∃ r1, cl m N.length = r1 := ⟨_, rfl⟩
  have C1 := Lib.hid (CL.out nv m N w H.out EN.out)
  rw [hr1] at C1
  rcases r1 with ⟨e1, e2⟩ | ⟨a1, m1, ns1⟩
  · have R2 : RowKit.Hid (.error (e1, e2) = r) := Lib.hid (by rw [← R.out]; unfold twoP; rw [pbind_err hr1])
    clear R hr1
    go_enter Try.func113, Try.ntmps113
    go_wp2_with ((with_reducible refine C1.out.mono ?_); rintro e w1 ⟨he, nv1, hk1⟩; have HK1 := Lib.hid hk1; clear hk1; unfold noV at he; subst he)
    have := R2.out
    subst this
    exact ⟨rfl, PPost.err rfl HK1.out⟩
  · have R2 : RowKit.Hid (prep ns1 (twoLoop L cl ss (L.length + 1) a1 m1 (N.length + ns1.length)) = r) := Lib.hid (by rw [← R.out]; unfold twoP; rw [pbind_ok hr1])
    clear R hr1
    go_enter Try.func113, Try.ntmps113
    go_wp2_with ((with_reducible refine C1.out.mono ?_); rintro e w1 ⟨he, nv1, hs1, hk1, hm1⟩; have HK1 := Lib.hid hk1; have HS1 := Lib.hid hs1; have HM1 := Lib.hid hm1; clear hk1 hs1 hm1; unfold intV at he; subst he)
    go_loopg [9] (L.length + 1) (fun g a wr => ∃ (z : Int) (m2 : Nat) (ns : List Nd) (nv2 : Value), a = .int .i64 z ∧ m ≤ m2 ∧ L.length + 1 ≤ m2 + g ∧ St b lb lo cap nv2 L m2 (N ++ ns) wr ∧ Kp b nv nv2 w wr ∧ prep ns (twoLoop L cl ss g z m2 (N.length + ns.length)) = r)
    case atStart => exact ⟨a1, m1, ns1, nv1, rfl, HM1.out, by omega, HS1.out, HK1.out, R2.out⟩
    case round =>
      obtain ⟨z, m2, ns, nv2, rfl, hm2, hg, hst, hkp, hres⟩ := hrel
      obtain ⟨g0, rfl⟩ : ∃ g0, gk = g0 + 1 := ⟨gk - 1, by have := hst.pos; omega⟩
      have GS := Lib.hid (G.out.kp hkp)
      have HK := Lib.hid hkp
      have HM := Lib.hid hm2
      have HG := Lib.hid hg
      rcases oneOf_cases L ss m2 (N ++ ns).length with h1 | ⟨s, h1⟩
      · rw [twoL_none (by rw [← List.length_append]; exact h1)] at hres
        have RR := Lib.hid hres
        have O := Lib.hid (oneOf_any hst ss gs c GS.out hss _ h1)
        clear hres h1 hst hkp hm2 hg
        go_wp2_with ((go_at_call 118; (with_reducible refine O.out.mono ?_); rintro e w2 ⟨he, nv3, hs3, hk3, _⟩; have HS3 := Lib.hid hs3; have HK3 := Lib.hid hk3; clear hs3 hk3; unfold optV at he; subst he))
        go_ret
        have := RR.out
        subst this
        exact PPost.res rfl (HS3.out.cast (by simp)) (HK.out.trans HK3.out) HM.out
      · obtain ⟨r3, hr3⟩ : ∃ r3, cl (m2 + 1) (N.length + ns.length) = r3 := ⟨_, rfl⟩
        have O := Lib.hid (oneOf_any hst ss gs c GS.out hss _ h1)
        rw [List.length_append] at h1
        rcases r3 with ⟨e1, e2⟩ | ⟨z3, m3, ns3⟩
        · rw [twoL_err h1 hr3] at hres
          have RR := Lib.hid hres
          have C3 : RowKit.Hid (∀ nv3 w3, St b lb lo cap nv3 L (m2 + 1) (N ++ ns ++ []) w3 → Env nv3 w3 → Calls Try.prog F (first.push (.int .i64 (d : Int)) ++ cap2) w3 (PPost intV b lb lo cap nv3 L (m2 + 1) (N ++ ns ++ []) w3 (.error (e1, e2)))) :=
            Lib.hid fun nv3 w3 hs he => by have := CL.out nv3 (m2 + 1) _ w3 hs he; rw [List.append_nil, List.length_append, hr3] at this; rw [List.append_nil]; exact this
          clear hres h1 hst hkp hm2 hg hr3
          go_wp2_with (first
            | ((go_at_call 118; (with_reducible refine O.out.mono ?_); rintro e w2 ⟨he, nv3, hs3, hk3, _⟩; have HS3 := Lib.hid hs3; have HK3 := Lib.hid hk3; clear hs3 hk3; unfold optV at he; subst he))
            | ((go_at_call 65; (with_reducible refine (node_any _ _).mono ?_); rintro e _ ⟨rfl, d3, os3, rfl⟩)))
          refine (C3.out nv3 _ ((HS3.out.more _ _).alloc _) (HE.out _ _ _ _ (((HK.out.trans HK3.out).more _ _).alloc _) EN.out)).mono ?_
          rintro e w4 ⟨he, nv4, hk4⟩
          unfold noV at he
          subst he
          have HK4 := Lib.hid hk4
          clear hk4
          go_wp2_with fail
          have := RR.out
          subst this
          exact ⟨rfl, PPost.err rfl ((((HK.out.trans HK3.out).more _ _).alloc _).trans HK4.out)⟩
        · obtain ⟨r4, hr4⟩ : ∃ r4, layP L (twoNd z z3 s) m3 (N.length + ns.length + ns3.length) = r4 := ⟨_, rfl⟩
          have C3 : RowKit.Hid (∀ nv3 w3, St b lb lo cap nv3 L (m2 + 1) (N ++ ns ++ []) w3 → Env nv3 w3 → Calls Try.prog F (first.push (.int .i64 (d : Int)) ++ cap2) w3 (PPost intV b lb lo cap nv3 L (m2 + 1) (N ++ ns ++ []) w3 (.ok (z3, m3, ns3)))) :=
            Lib.hid fun nv3 w3 hs he => by have := CL.out nv3 (m2 + 1) _ w3 hs he; rw [List.append_nil, List.length_append, hr3] at this; rw [List.append_nil]; exact this
          have LA : RowKit.Hid (∀ nv4 w5, St b lb lo cap nv4 L m3 (N ++ ns ++ [] ++ ns3) w5 → Calls Try.prog 68 #[.pointer (some ⟨b, 0, none⟩), .agg #[.int .i64 11, .int .i64 z, .int .i64 z3, .int .i64 (-1), .int .i64 (-1), .int .i64 0, .string s, .string ⟨#[]⟩]] w5 (PPost intV b lb lo cap nv4 L m3 (N ++ ns ++ [] ++ ns3) w5 r4)) :=
            Lib.hid fun nv4 w5 hs => lay_any hs _ _ _ _ _ _ _ _ r4 (by rw [← hr4]; simp [twoNd, nd, Nat.add_assoc])
          have RR : RowKit.Hid (prep ns (thenR r4 fun a1 m4 ns4 => prep (ns3 ++ ns4) (twoLoop L cl ss g0 a1 m4 (N.length + ns.length + (ns3 ++ ns4).length))) = r) := Lib.hid (by
            rw [← hres]
            congr 1
            rcases r4 with ⟨e1, e2⟩ | ⟨a1, m4, ns4⟩
            · rw [twoL_lay h1 hr3 hr4]; rfl
            · rw [twoL_ok h1 hr3 hr4]; rfl)
          clear hres h1 hst hkp hm2 hg hr3 hr4
          go_wp2_with (first
            | ((go_at_call 118; (with_reducible refine O.out.mono ?_); rintro e w2 ⟨he, nv3, hs3, hk3, _⟩; have HS3 := Lib.hid hs3; have HK3 := Lib.hid hk3; clear hs3 hk3; unfold optV at he; subst he))
            | ((go_at_call 65; (with_reducible refine (node_any _ _).mono ?_); rintro e _ ⟨rfl, d3, os3, rfl⟩)))
          have LC := Lib.hid ((HS3.out.more d3 os3).loc (.cells #[.int .i64 11, .int .i64 z, .int .i64 (-1), .int .i64 (-1), .int .i64 (-1), .int .i64 0, .string s, .string ⟨#[]⟩] 52 (0, 0)))
          refine (C3.out nv3 _ ((HS3.out.more _ _).alloc _) (HE.out _ _ _ _ (((HK.out.trans HK3.out).more _ _).alloc _) EN.out)).mono ?_
          rintro e w4 ⟨he, nv4, hs4, hk4, hm4⟩
          unfold intV at he
          subst he
          have LC4 := Lib.hid (LC.out.kp hk4)
          have HS4 := Lib.hid hs4
          have HK4 := Lib.hid hk4
          have HM4 := Lib.hid hm4
          clear hs4 hk4 hm4 LC
          obtain ⟨kn, hkn⟩ : ∃ kn, (more w2 d3 os3).heap.size = kn := ⟨_, rfl⟩
          rw [hkn] at LC4
          rw [more_size] at hkn
          have hkw : w.heap.size ≤ kn := by have := (HK.out.trans HK3.out).size; omega
          have hlk : lb ≠ kn := by have := HS3.out.low; have := HS3.out.lt; omega
          rw [hkn]
          obtain ⟨n0, n1, n2, n3, n4, n5, n6, n7, z0, z1, z2, z3', z5, z6, z7, hkl⟩ := LC4.out.node
          have HKN := Lib.hid hkn
          have HKW := Lib.hid hkw
          have HLK := Lib.hid hlk
          clear hkn hkw hlk
          go_wp2_with fail
          refine (LA.out nv4 _ (HS4.out.setLoc LC4.out HLK.out 2 _)).mono ?_
          have KK : RowKit.Hid (Kp b nv nv4 w (w4.setCell ⟨kn, 2, none⟩ (.int .i64 z3))) := Lib.hid (((((HK.out.trans HK3.out).more _ _).alloc _).trans HK4.out).setNew HKW.out 2 _)
          rcases r4 with ⟨e1, e2⟩ | ⟨a4, m4, ns4⟩
          · rintro e w5 ⟨he, nv5, hk5⟩
            unfold noV at he
            subst he
            have HK5 := Lib.hid hk5
            clear hk5
            go_wp2_with fail
            have := RR.out
            subst this
            exact ⟨rfl, PPost.err rfl (KK.out.trans HK5.out)⟩
          · rintro e w5 ⟨he, nv5, hs5, hk5, hm5⟩
            unfold intV at he
            subst he
            have HS5 := Lib.hid hs5
            have HK5 := Lib.hid hk5
            have HM5 := Lib.hid hm5
            clear hs5 hk5 hm5 n0 n1 n2 n3 n4 n5 n6 n7 z0 z1 z2 z3' z5 z6 z7
            go_wp2_with fail
            go_roundg g0
            case measure => omega
            case rel =>
              have q1 := HM5.out
              have q2 := HM4.out
              have q3 := HM.out
              have q4 := HG.out
              have q5 := RR.out
              exact ⟨a4, m4, ns ++ (ns3 ++ ns4), nv5, rfl, by omega, by omega, HS5.out.cast (by simp), KK.out.trans HK5.out, by rw [← q5]; unfold thenR; dsimp only; rw [prep_prep, List.length_append, Nat.add_assoc]⟩
end Go.Proofs.Ytoaaklcbcbjaiaa
