/- Lemmas for the claim (texts Par3, Par4, what its proof uses of them). -/
import Derived.Test.YtpoeknndkccbaaaGreatM05
import Derived.Laws.EntriesVeiled
set_option linter.unusedSimpArgs false
set_option linter.unusedVariables false
set_option maxHeartbeats 2000000
set_option maxRecDepth 100000
namespace Go.Proofs.YtpoeknndkccbaaaGreat
open Go.RowKit
variable {L : Toks} {cl : PM Int} {ss : List ByteArray} {g m m1 n : Nat} {a : Int} {s : ByteArray}
attribute [go_sem] more_more Array.size_append
theorem twoL_none (h1 : qbp L ss m n = .ok (none, m, [])) : qaU L cl ss (g + 1) a m n = .ok (a, m, []) := by
 rw [qaU, qaJ h1, qbt]; rfl
theorem twoL_err {e : Int × Int} (h1 : qbp L ss m n = .ok (some s, m1, [])) (h2 : cl m1 n = .error e) : qaU L cl ss (g + 1) a m n = .error e := by
 rw [qaU, qaJ h1, qbt]
 exact qba h2
theorem twoL_lay {c : Int} {m2 : Nat} {ns : List Nd} {e : Int × Int} (h1 : qbp L ss m n = .ok (some s, m1, [])) (h2 : cl m1 n = .ok (c, m2, ns)) (h3 : layP L (twoNd a c s) m2 (n + ns.length) = .error e) : qaU L cl ss (g + 1) a m n = .error e := by
 rw [qaU, qaJ h1, qbt]
 dsimp only [List.length_nil, Nat.add_zero]
 rw [qaJ h2, qba h3]
 rfl
theorem twoL_ok {c a1 : Int} {m2 m3 : Nat} {ns ns2 : List Nd} (h1 : qbp L ss m n = .ok (some s, m1, [])) (h2 : cl m1 n = .ok (c, m2, ns)) (h3 : layP L (twoNd a c s) m2 (n + ns.length) = .ok (a1, m3, ns2)) : qaU L cl ss (g + 1) a m n = prep (ns ++ ns2) (qaU L cl ss g a1 m3 (n + (ns ++ ns2).length)) := by
 rw [qaU, qaJ h1, qbt]
 dsimp only [List.length_nil, Nat.add_zero]
 rw [qaJ h2, qaJ h3, qdd, List.length_append, Nat.add_assoc]
def thenR {α β : Type} (r : PR α) (f : α → Nat → List Nd → PR β) : PR β := match r with
 | .error e => .error e
 | .ok (v, m, ns) => f v m ns
theorem oneOf_cases (L : Toks) (ss : List ByteArray) (m n : Nat) : qbp L ss m n = .ok (none, m, []) ∨ ∃ s, qbp L ss m n = .ok (some s, m + 1, []) := by
 unfold qbp
 cases ss.find? fun s => isP L s m with
 | none => exact Or.inl rfl
 | some s => exact Or.inr ⟨s, rfl⟩
/-- a function that goes a way through tokens, where what it captured stands -/
def Clo (b lb lo cap : Nat) (L : Toks) (F : FuncId) (args : Array Value) (Env : Value → World → Prop) (cl : PM Int) : Prop :=
 ∀ nv m N w, St b lb lo cap nv L m N w → Env nv w → Calls Tryz.prog F args w (PPost intV b lb lo cap nv L m N w (cl m N.length))
def Stays (b : Nat) (Env : Value → World → Prop) : Prop := ∀ nv nv' w w', Kp b nv nv' w w' → Env nv w → Env nv' w'
theorem St.cast {b lb lo cap : Nat} {nv : Value} {N N' : List Nd} {w : World} (h : St b lb lo cap nv L m N w) (e : N = N') : St b lb lo cap nv L m N' w := e ▸ h
theorem qcR {b lb lo cap : Nat} {nv : Value} {N : List Nd} {w : World} (h : St b lb lo cap nv L m N w) (d : Nat) (F : FuncId) (first cap2 : Array Value) (Env : Value → World → Prop) (hE : Stays b Env) (cl : PM Int)
  (hcl : Clo b lb lo cap L F (first.push (.int .i64 (d : Int)) ++ cap2) Env cl) (hF : ∀ args w, (Sem.run Tryz.prog (callFunc F args) w) = .ok (.enter F args) w) (he : Env nv w) (ss : List ByteArray) (gs c : Nat) (hg : Loc b nv gs (strs ss) w) (hss : ss.length ≤ 100) (r : PR Int) (hr : twoP L cl ss m N.length = r) :
  Calls Tryz.prog 142 #[.pointer (some ⟨b, 0, none⟩), .int .i64 (d : Int), .func (.func F) first cap2, .slice (some ⟨gs, 0, none⟩) ss.length c] w (PPost intV b lb lo cap nv L m N w r) := by
 have H := Lib.hid h
 have G := Lib.hid hg
 have CL := Lib.hid hcl
 have EN := Lib.hid he
 have HE := Lib.hid hE
 have R := Lib.hid hr
 clear h hg hcl he hE hr
 obtain ⟨r1, hr1⟩ : ∃ r1, cl m N.length = r1 := ⟨_, rfl⟩
 have C1 := Lib.hid (CL.out nv m N w H.out EN.out)
 rw [hr1] at C1
 rcases r1 with ⟨e1, e2⟩ | ⟨a1, m1, ns1⟩
 · have R2 : RowKit.Hid (.error (e1, e2) = r) := Lib.hid (by rw [← R.out]; unfold twoP; rw [qba hr1])
   clear R hr1
   go_enter Tryz.func142, Tryz.ntmps142
   go_wp2_with ((with_reducible refine C1.out.mono ?_); rintro e w1 ⟨he, nv1, hk1⟩; have HK1 := Lib.hid hk1; clear hk1; unfold noV at he; subst he)
   have := R2.out
   subst this
   exact ⟨rfl, PPost.err rfl HK1.out⟩
 · have R2 : RowKit.Hid (prep ns1 (qaU L cl ss (L.length + 1) a1 m1 (N.length + ns1.length)) = r) := Lib.hid (by rw [← R.out]; unfold twoP; rw [qaJ hr1])
   clear R hr1
   go_enter Tryz.func142, Tryz.ntmps142
   go_wp2_with ((with_reducible refine C1.out.mono ?_); rintro e w1 ⟨he, nv1, hs1, hk1, hm1⟩; have HK1 := Lib.hid hk1; have HS1 := Lib.hid hs1; have HM1 := Lib.hid hm1; clear hk1 hs1 hm1; unfold intV at he; subst he)
   go_loopg [9] (L.length + 1) (fun g a wr => ∃ (z : Int) (m2 : Nat) (ns : List Nd) (nv2 : Value), a = .int .i64 z ∧ m ≤ m2 ∧ L.length + 1 ≤ m2 + g ∧ St b lb lo cap nv2 L m2 (N ++ ns) wr ∧ Kp b nv nv2 w wr ∧ prep ns (qaU L cl ss g z m2 (N.length + ns.length)) = r)
   case atStart => exact ⟨a1, m1, ns1, nv1, rfl, HM1.out, by omega, HS1.out, HK1.out, R2.out⟩
   case round =>
    obtain ⟨z, m2, ns, nv2, rfl, hm2, hg, hst, hkp, hres⟩ := hrel
    obtain ⟨g0, rfl⟩ : ∃ g0, gk = g0 + 1 := ⟨gk - 1, by have := hst.pos; omega⟩
    have GS := Lib.hid (G.out.kp hkp)
    have HK := Lib.hid hkp
    have HM := Lib.hid hm2
    have HG := Lib.hid hg
    rcases oneOf_cases L ss m2 (N ++ ns).length with h1 | ⟨s, h1⟩
    · rw [twoL_none (by rw [← List.length_append]; exact h1)] at hres
      have RR := Lib.hid hres
      have O := Lib.hid (qcu hst ss gs c GS.out hss _ h1)
      clear hres h1 hst hkp hm2 hg
      go_wp2_with (((with_reducible refine O.out.mono ?_); rintro e w2 ⟨he, nv3, hs3, hk3, _⟩; have HS3 := Lib.hid hs3; have HK3 := Lib.hid hk3; clear hs3 hk3; unfold optV at he; subst he))
      go_ret
      have := RR.out
      subst this
      exact PPost.res rfl (HS3.out.cast zay) (HK.out.trans HK3.out) HM.out
    · obtain ⟨r3, hr3⟩ : ∃ r3, cl (m2 + 1) (N.length + ns.length) = r3 := ⟨_, rfl⟩
      have O := Lib.hid (qcu hst ss gs c GS.out hss _ h1)
      rw [List.length_append] at h1
      rcases r3 with ⟨e1, e2⟩ | ⟨z3, m3, ns3⟩
      · rw [twoL_err h1 hr3] at hres
        have RR := Lib.hid hres
        have C3 : RowKit.Hid (∀ nv3 w3, St b lb lo cap nv3 L (m2 + 1) (N ++ ns ++ []) w3 → Env nv3 w3 → Calls Tryz.prog F (first.push (.int .i64 (d : Int)) ++ cap2) w3 (PPost intV b lb lo cap nv3 L (m2 + 1) (N ++ ns ++ []) w3 (.error (e1, e2)))) :=
         Lib.hid fun nv3 w3 hs he => by have := CL.out nv3 (m2 + 1) _ w3 hs he; rw [List.append_nil, List.length_append, hr3] at this; rw [List.append_nil]; exact this
        clear hres h1 hst hkp hm2 hg hr3
        go_wp2_with (first
         | (((with_reducible refine O.out.mono ?_); rintro e w2 ⟨he, nv3, hs3, hk3, _⟩; have HS3 := Lib.hid hs3; have HK3 := Lib.hid hk3; clear hs3 hk3; unfold optV at he; subst he))
         | (((with_reducible refine (qaD _ _).mono ?_); rintro e _ ⟨rfl, d3, os3, rfl⟩)))
        refine (C3.out nv3 _ ((HS3.out.more _ _).alloc _) (HE.out _ _ _ _ (((HK.out.trans HK3.out).more _ _).alloc _) EN.out)).mono ?_
        rintro e w4 ⟨he, nv4, hk4⟩
        unfold noV at he
        subst he
        have HK4 := Lib.hid hk4
        clear hk4
        go_wp2_with fail
        have := RR.out
        subst this
        exact ⟨rfl, PPost.err rfl ((((HK.out.trans HK3.out).more _ _).alloc _).trans HK4.out)⟩
      · obtain ⟨r4, hr4⟩ : ∃ r4, layP L (twoNd z z3 s) m3 (N.length + ns.length + ns3.length) = r4 := ⟨_, rfl⟩
        have C3 : RowKit.Hid (∀ nv3 w3, St b lb lo cap nv3 L (m2 + 1) (N ++ ns ++ []) w3 → Env nv3 w3 → Calls Tryz.prog F (first.push (.int .i64 (d : Int)) ++ cap2) w3 (PPost intV b lb lo cap nv3 L (m2 + 1) (N ++ ns ++ []) w3 (.ok (z3, m3, ns3)))) :=
         Lib.hid fun nv3 w3 hs he => by have := CL.out nv3 (m2 + 1) _ w3 hs he; rw [List.append_nil, List.length_append, hr3] at this; rw [List.append_nil]; exact this
        have LA : RowKit.Hid (∀ nv4 w5, St b lb lo cap nv4 L m3 (N ++ ns ++ [] ++ ns3) w5 → Calls Tryz.prog 115 #[.pointer (some ⟨b, 0, none⟩), .agg #[.int .i64 11, .int .i64 z, .int .i64 z3, .int .i64 (-1), .int .i64 (-1), .int .i64 0, .string s, .string ⟨#[]⟩]] w5 (PPost intV b lb lo cap nv4 L m3 (N ++ ns ++ [] ++ ns3) w5 r4)) :=
         Lib.hid fun nv4 w5 hs => qaM hs _ _ _ _ _ _ _ _ r4 (by rw [← hr4]; simp [twoNd, nd, Nat.add_assoc])
        have RR : RowKit.Hid (prep ns (thenR r4 fun a1 m4 ns4 => prep (ns3 ++ ns4) (qaU L cl ss g0 a1 m4 (N.length + ns.length + (ns3 ++ ns4).length))) = r) := Lib.hid (by
         rw [← hres]
         congr 1
         rcases r4 with ⟨e1, e2⟩ | ⟨a1, m4, ns4⟩
         · rw [twoL_lay h1 hr3 hr4]; rfl
         · rw [twoL_ok h1 hr3 hr4]; rfl)
        clear hres h1 hst hkp hm2 hg hr3 hr4
        go_wp2_with (first
         | (((with_reducible refine O.out.mono ?_); rintro e w2 ⟨he, nv3, hs3, hk3, _⟩; have HS3 := Lib.hid hs3; have HK3 := Lib.hid hk3; clear hs3 hk3; unfold optV at he; subst he))
         | (((with_reducible refine (qaD _ _).mono ?_); rintro e _ ⟨rfl, d3, os3, rfl⟩)))
        have LC := Lib.hid ((HS3.out.more d3 os3).loc (.cells #[.int .i64 11, .int .i64 z, .int .i64 (-1), .int .i64 (-1), .int .i64 (-1), .int .i64 0, .string s, .string ⟨#[]⟩] 42 (0, 0)))
        refine (C3.out nv3 _ ((HS3.out.more _ _).alloc _) (HE.out _ _ _ _ (((HK.out.trans HK3.out).more _ _).alloc _) EN.out)).mono ?_
        rintro e w4 ⟨he, nv4, hs4, hk4, hm4⟩
        unfold intV at he
        subst he
        have LC4 := Lib.hid (LC.out.kp hk4)
        have HS4 := Lib.hid hs4
        have HK4 := Lib.hid hk4
        have HM4 := Lib.hid hm4
        clear hs4 hk4 hm4 LC
        obtain ⟨kn, hkn⟩ : ∃ kn, (more w2 d3 os3).heap.size = kn := ⟨_, rfl⟩
        rw [hkn] at LC4
        rw [more_size] at hkn
        have hkw : w.heap.size ≤ kn := by have := (HK.out.trans HK3.out).size; omega
        have hlk : lb ≠ kn := by have := HS3.out.low; have := HS3.out.lt; omega
        rw [hkn]
        obtain ⟨n0, n1, n2, n3, n4, n5, n6, n7, z0, z1, z2, z3', z5, z6, z7, hkl⟩ := LC4.out.node
        have HKN := Lib.hid hkn
        have HKW := Lib.hid hkw
        have HLK := Lib.hid hlk
        clear hkn hkw hlk
        go_wp2_with fail
        refine (LA.out nv4 _ (HS4.out.setLoc LC4.out HLK.out 2 _)).mono ?_
        have KK : RowKit.Hid (Kp b nv nv4 w (w4.setCell ⟨kn, 2, none⟩ (.int .i64 z3))) := Lib.hid (((((HK.out.trans HK3.out).more _ _).alloc _).trans HK4.out).setNew HKW.out 2 _)
        rcases r4 with ⟨e1, e2⟩ | ⟨a4, m4, ns4⟩
        · rintro e w5 ⟨he, nv5, hk5⟩
          unfold noV at he
          subst he
          have HK5 := Lib.hid hk5
          clear hk5
          go_wp2_with fail
          have := RR.out
          subst this
          exact ⟨rfl, PPost.err rfl (KK.out.trans HK5.out)⟩
        · rintro e w5 ⟨he, nv5, hs5, hk5, hm5⟩
          unfold intV at he
          subst he
          have HS5 := Lib.hid hs5
          have HK5 := Lib.hid hk5
          have HM5 := Lib.hid hm5
          clear hs5 hk5 hm5 n0 n1 n2 n3 n4 n5 n6 n7 z0 z1 z2 z3' z5 z6 z7
          go_wp2_with fail
          go_roundg g0
          case measure => omega
          case rel =>
           have q1 := HM5.out
           have q2 := HM4.out
           have q3 := HM.out
           have q4 := HG.out
           have q5 := RR.out
           exact ⟨a4, m4, ns ++ (ns3 ++ ns4), nv5, rfl, by omega, by omega, HS5.out.cast zay, KK.out.trans HK5.out, by rw [← q5]; unfold thenR; dsimp only; rw [qdd, List.length_append, Nat.add_assoc]⟩
end Go.Proofs.YtpoeknndkccbaaaGreat

namespace Go.Proofs.YtpoeknndkccbaaaGreat
open Go.RowKit
variable {b cap lb lo m n : Nat} {L : Toks} {o : PM Int}
attribute [go_sem] more_more Array.size_append
theorem Loc.one {nv : Value} {k : Nat} {w : World} {v : Value} {t : TypeId} (h : Loc b nv k (.cells #[v] t (0, 0)) w) : w.cell? ⟨k, 0, none⟩ = some v ∧ k < w.heap.size := by
 have := h.is
 exact ⟨by simp [World.cell?, this], h.lt⟩
theorem Stays.loc (b k : Nat) (o : Obj) : Stays b fun nv w => Loc b nv k o w := fun nv nv' w w' hk h => h.kp hk
theorem Stays.and {E F : Value → World → Prop} (h : Stays b E) (k : Stays b F) : Stays b fun nv w => E nv w ∧ F nv w := fun nv nv' w w' hk ⟨h1, h2⟩ => ⟨h nv nv' w w' hk h1, k nv nv' w w' hk h2⟩
theorem Stays.true (b : Nat) : Stays b fun _ _ => True := fun _ _ _ _ _ _ => trivial
theorem mk_func (fn : Fn) (first cap : Array Value) (w : World) : (Instr.makeFunc fn first cap).run Tryz.prog w = .ok (.func fn first cap) w := rfl
attribute [go_sem] mk_func
theorem entersOne (args : Array Value) (w : World) : (callFunc 143 args).run Tryz.prog w = .ok (.enter 143 args) w := by kernel_rfl
theorem enters1 (args : Array Value) (w : World) : (callFunc 141 args).run Tryz.prog w = .ok (.enter 141 args) w := by kernel_rfl
theorem enters2 (args : Array Value) (w : World) : (callFunc 144 args).run Tryz.prog w = .ok (.enter 144 args) w := by kernel_rfl
theorem enters4 (args : Array Value) (w : World) : (callFunc 146 args).run Tryz.prog w = .ok (.enter 146 args) w := by kernel_rfl
theorem enters5 (args : Array Value) (w : World) : (callFunc 148 args).run Tryz.prog w = .ok (.enter 148 args) w := by kernel_rfl
theorem times_clo (d : Nat) (o : PM Int) (k2 : Nat) (Env : Value → World → Prop) (hE : Stays b Env)
  (hc : Clo b lb lo cap L 143 #[.pointer (some ⟨b, 0, none⟩), .int .i64 (d : Int)] Env (o)) :
  Clo b lb lo cap L 141 #[.int .i64 (d : Int), .pointer (some ⟨k2, 0, none⟩)] (fun nv w => Env nv w ∧ Loc b nv k2 (.cells #[.pointer (some ⟨b, 0, none⟩)] 105 (0, 0)) w) (timesP L o) := by
 intro nv m N w h he
 have H := Lib.hid h
 have HC := Lib.hid hc
 have HE := Lib.hid he
 have HS := Lib.hid hE
 obtain ⟨c2, l2⟩ := he.2.one
 clear h hc he hE
 obtain ⟨r, hr⟩ : ∃ r, timesP L o m N.length = r := ⟨_, rfl⟩
 have RR := Lib.hid hr
 rw [hr]
 clear hr
 go_enter Tryz.func141, Tryz.ntmps141
 go_wp2_with fail
 go_at_call 142
 refine (qcR (H.out.alloc _) d 143 #[.pointer (some ⟨b, 0, none⟩)] #[] Env HS.out _ HC.out entersOne (HS.out _ _ _ _ ((Kp.refl _ _ _).alloc _) HE.out.1) ssTimes _ _ (H.out.loc (strs ssTimes)) zax r RR.out).mono ?_
 rcases r with ⟨e1, e2⟩ | ⟨a1, m1, ns1⟩
 · rintro e w1 ⟨he, nv1, hk1⟩
   have HK1 := Lib.hid hk1
   clear hk1
   unfold noV at he
   subst he
   go_wp2_with fail
   exact yed
 · rintro e w1 ⟨he, nv1, hs1, hk1, hm1⟩
   have HK1 := Lib.hid hk1
   have HS1 := Lib.hid hs1
   have HM1 := Lib.hid hm1
   clear hk1 hs1 hm1
   unfold intV at he
   subst he
   go_wp2_with fail
   go_ret
   exact yeb
theorem sum_clo (d : Nat) (o : PM Int) (k2 k5 : Nat) (Env : Value → World → Prop) (hE : Stays b (fun nv w => Env nv w ∧ Loc b nv k2 (.cells #[.pointer (some ⟨b, 0, none⟩)] 105 (0, 0)) w))
  (hc : Clo b lb lo cap L 141 #[.int .i64 (d : Int), .pointer (some ⟨k2, 0, none⟩)] (fun nv w => Env nv w ∧ Loc b nv k2 (.cells #[.pointer (some ⟨b, 0, none⟩)] 105 (0, 0)) w) (timesP L o)) :
  Clo b lb lo cap L 144 #[.int .i64 (d : Int), .pointer (some ⟨k2, 0, none⟩), .pointer (some ⟨k5, 0, none⟩)] (fun nv w => (Env nv w ∧ Loc b nv k2 (.cells #[.pointer (some ⟨b, 0, none⟩)] 105 (0, 0)) w) ∧ Loc b nv k5 (.cells #[(.func (.func 141) #[] #[.pointer (some ⟨k2, 0, none⟩)])] 108 (0, 0)) w) (sumP L o) := by
 intro nv m N w h he
 have H := Lib.hid h
 have HC := Lib.hid hc
 have HE := Lib.hid he
 have HS := Lib.hid hE
 obtain ⟨c2, l2⟩ := he.1.2.one
 obtain ⟨c5, l5⟩ := he.2.one
 clear h hc he hE
 obtain ⟨r, hr⟩ : ∃ r, sumP L o m N.length = r := ⟨_, rfl⟩
 have RR := Lib.hid hr
 rw [hr]
 clear hr
 go_enter Tryz.func144, Tryz.ntmps144
 go_wp2_with fail
 go_at_call 142
 refine (qcR (H.out.alloc _) d 141 #[] #[.pointer (some ⟨k2, 0, none⟩)] (fun nv w => Env nv w ∧ Loc b nv k2 (.cells #[.pointer (some ⟨b, 0, none⟩)] 105 (0, 0)) w) HS.out _ HC.out enters1 (HS.out _ _ _ _ ((Kp.refl _ _ _).alloc _) HE.out.1) ssSum _ _ (H.out.loc (strs ssSum)) zax r RR.out).mono ?_
 rcases r with ⟨e1, e2⟩ | ⟨a1, m1, ns1⟩
 · rintro e w1 ⟨he, nv1, hk1⟩
   have HK1 := Lib.hid hk1
   clear hk1
   unfold noV at he
   subst he
   go_wp2_with fail
   exact yed
 · rintro e w1 ⟨he, nv1, hs1, hk1, hm1⟩
   have HK1 := Lib.hid hk1
   have HS1 := Lib.hid hs1
   have HM1 := Lib.hid hm1
   clear hk1 hs1 hm1
   unfold intV at he
   subst he
   go_wp2_with fail
   go_ret
   exact yeb
theorem join_clo (d : Nat) (o : PM Int) (k2 k5 k6 : Nat) (Env : Value → World → Prop) (hE : Stays b (fun nv w => (Env nv w ∧ Loc b nv k2 (.cells #[.pointer (some ⟨b, 0, none⟩)] 105 (0, 0)) w) ∧ Loc b nv k5 (.cells #[(.func (.func 141) #[] #[.pointer (some ⟨k2, 0, none⟩)])] 108 (0, 0)) w))
  (hc : Clo b lb lo cap L 144 #[.int .i64 (d : Int), .pointer (some ⟨k2, 0, none⟩), .pointer (some ⟨k5, 0, none⟩)] (fun nv w => (Env nv w ∧ Loc b nv k2 (.cells #[.pointer (some ⟨b, 0, none⟩)] 105 (0, 0)) w) ∧ Loc b nv k5 (.cells #[(.func (.func 141) #[] #[.pointer (some ⟨k2, 0, none⟩)])] 108 (0, 0)) w) (sumP L o)) :
  Clo b lb lo cap L 145 #[.int .i64 (d : Int), .pointer (some ⟨k2, 0, none⟩), .pointer (some ⟨k6, 0, none⟩)] (fun nv w => ((Env nv w ∧ Loc b nv k2 (.cells #[.pointer (some ⟨b, 0, none⟩)] 105 (0, 0)) w) ∧ Loc b nv k5 (.cells #[(.func (.func 141) #[] #[.pointer (some ⟨k2, 0, none⟩)])] 108 (0, 0)) w) ∧ Loc b nv k6 (.cells #[(.func (.func 144) #[] #[.pointer (some ⟨k2, 0, none⟩), .pointer (some ⟨k5, 0, none⟩)])] 108 (0, 0)) w) (joinP L o) := by
 intro nv m N w h he
 have H := Lib.hid h
 have HC := Lib.hid hc
 have HE := Lib.hid he
 have HS := Lib.hid hE
 obtain ⟨c2, l2⟩ := he.1.1.2.one
 obtain ⟨c5, l5⟩ := he.2.one
 clear h hc he hE
 obtain ⟨r, hr⟩ : ∃ r, joinP L o m N.length = r := ⟨_, rfl⟩
 have RR := Lib.hid hr
 rw [hr]
 clear hr
 go_enter Tryz.func145, Tryz.ntmps145
 go_wp2_with fail
 go_at_call 142
 refine (qcR (H.out.alloc _) d 144 #[] #[.pointer (some ⟨k2, 0, none⟩), .pointer (some ⟨k5, 0, none⟩)] (fun nv w => (Env nv w ∧ Loc b nv k2 (.cells #[.pointer (some ⟨b, 0, none⟩)] 105 (0, 0)) w) ∧ Loc b nv k5 (.cells #[(.func (.func 141) #[] #[.pointer (some ⟨k2, 0, none⟩)])] 108 (0, 0)) w) HS.out _ HC.out enters2 (HS.out _ _ _ _ ((Kp.refl _ _ _).alloc _) HE.out.1) ssJoin _ _ (H.out.loc (strs ssJoin)) zax r RR.out).mono ?_
 rcases r with ⟨e1, e2⟩ | ⟨a1, m1, ns1⟩
 · rintro e w1 ⟨he, nv1, hk1⟩
   have HK1 := Lib.hid hk1
   clear hk1
   unfold noV at he
   subst he
   go_wp2_with fail
   exact yed
 · rintro e w1 ⟨he, nv1, hs1, hk1, hm1⟩
   have HK1 := Lib.hid hk1
   have HS1 := Lib.hid hs1
   have HM1 := Lib.hid hm1
   clear hk1 hs1 hm1
   unfold intV at he
   subst he
   go_wp2_with fail
   go_ret
   exact yeb
theorem and_clo (d : Nat) (o : PM Int) (k2 k5 k6 k7 k8 : Nat) (Env : Value → World → Prop) (hE : Stays b (fun nv w => (((Env nv w ∧ Loc b nv k2 (.cells #[.pointer (some ⟨b, 0, none⟩)] 105 (0, 0)) w) ∧ Loc b nv k5 (.cells #[(.func (.func 141) #[] #[.pointer (some ⟨k2, 0, none⟩)])] 108 (0, 0)) w) ∧ Loc b nv k6 (.cells #[(.func (.func 144) #[] #[.pointer (some ⟨k2, 0, none⟩), .pointer (some ⟨k5, 0, none⟩)])] 108 (0, 0)) w) ∧ Loc b nv k7 (.cells #[(.func (.func 145) #[] #[.pointer (some ⟨k2, 0, none⟩), .pointer (some ⟨k6, 0, none⟩)])] 108 (0, 0)) w))
  (hc : Clo b lb lo cap L 146 #[.int .i64 (d : Int), .pointer (some ⟨k7, 0, none⟩), .pointer (some ⟨k2, 0, none⟩)] (fun nv w => (((Env nv w ∧ Loc b nv k2 (.cells #[.pointer (some ⟨b, 0, none⟩)] 105 (0, 0)) w) ∧ Loc b nv k5 (.cells #[(.func (.func 141) #[] #[.pointer (some ⟨k2, 0, none⟩)])] 108 (0, 0)) w) ∧ Loc b nv k6 (.cells #[(.func (.func 144) #[] #[.pointer (some ⟨k2, 0, none⟩), .pointer (some ⟨k5, 0, none⟩)])] 108 (0, 0)) w) ∧ Loc b nv k7 (.cells #[(.func (.func 145) #[] #[.pointer (some ⟨k2, 0, none⟩), .pointer (some ⟨k6, 0, none⟩)])] 108 (0, 0)) w) (compP L o)) :
  Clo b lb lo cap L 148 #[.int .i64 (d : Int), .pointer (some ⟨k2, 0, none⟩), .pointer (some ⟨k8, 0, none⟩)] (fun nv w => ((((Env nv w ∧ Loc b nv k2 (.cells #[.pointer (some ⟨b, 0, none⟩)] 105 (0, 0)) w) ∧ Loc b nv k5 (.cells #[(.func (.func 141) #[] #[.pointer (some ⟨k2, 0, none⟩)])] 108 (0, 0)) w) ∧ Loc b nv k6 (.cells #[(.func (.func 144) #[] #[.pointer (some ⟨k2, 0, none⟩), .pointer (some ⟨k5, 0, none⟩)])] 108 (0, 0)) w) ∧ Loc b nv k7 (.cells #[(.func (.func 145) #[] #[.pointer (some ⟨k2, 0, none⟩), .pointer (some ⟨k6, 0, none⟩)])] 108 (0, 0)) w) ∧ Loc b nv k8 (.cells #[(.func (.func 146) #[] #[.pointer (some ⟨k7, 0, none⟩), .pointer (some ⟨k2, 0, none⟩)])] 108 (0, 0)) w) (andP L o) := by
 intro nv m N w h he
 have H := Lib.hid h
 have HC := Lib.hid hc
 have HE := Lib.hid he
 have HS := Lib.hid hE
 obtain ⟨c2, l2⟩ := he.1.1.1.1.2.one
 obtain ⟨c5, l5⟩ := he.2.one
 clear h hc he hE
 obtain ⟨r, hr⟩ : ∃ r, andP L o m N.length = r := ⟨_, rfl⟩
 have RR := Lib.hid hr
 rw [hr]
 clear hr
 go_enter Tryz.func148, Tryz.ntmps148
 go_wp2_with fail
 go_at_call 142
 refine (qcR (H.out.alloc _) d 146 #[] #[.pointer (some ⟨k7, 0, none⟩), .pointer (some ⟨k2, 0, none⟩)] (fun nv w => (((Env nv w ∧ Loc b nv k2 (.cells #[.pointer (some ⟨b, 0, none⟩)] 105 (0, 0)) w) ∧ Loc b nv k5 (.cells #[(.func (.func 141) #[] #[.pointer (some ⟨k2, 0, none⟩)])] 108 (0, 0)) w) ∧ Loc b nv k6 (.cells #[(.func (.func 144) #[] #[.pointer (some ⟨k2, 0, none⟩), .pointer (some ⟨k5, 0, none⟩)])] 108 (0, 0)) w) ∧ Loc b nv k7 (.cells #[(.func (.func 145) #[] #[.pointer (some ⟨k2, 0, none⟩), .pointer (some ⟨k6, 0, none⟩)])] 108 (0, 0)) w) HS.out _ HC.out enters4 (HS.out _ _ _ _ ((Kp.refl _ _ _).alloc _) HE.out.1) ssAnd _ _ (H.out.loc (strs ssAnd)) zax r RR.out).mono ?_
 rcases r with ⟨e1, e2⟩ | ⟨a1, m1, ns1⟩
 · rintro e w1 ⟨he, nv1, hk1⟩
   have HK1 := Lib.hid hk1
   clear hk1
   unfold noV at he
   subst he
   go_wp2_with fail
   exact yed
 · rintro e w1 ⟨he, nv1, hs1, hk1, hm1⟩
   have HK1 := Lib.hid hk1
   have HS1 := Lib.hid hs1
   have HM1 := Lib.hid hm1
   clear hk1 hs1 hm1
   unfold intV at he
   subst he
   go_wp2_with fail
   go_ret
   exact yeb
theorem comp_err1 {e : Int × Int} (h1 : joinP L o m n = .error e) : compP L o m n = .error e := qba h1
theorem comp_none {a : Int} {m1 : Nat} {ns : List Nd} (h1 : joinP L o m n = .ok (a, m1, ns)) (h2 : qbp L ssIs m1 (n + ns.length) = .ok (none, m1, [])) : compP L o m n = .ok (a, m1, ns) := by
 unfold compP
 rw [qaJ h1, qaJ h2, qbt]
 simp [pok, prep]
theorem comp_some {a : Int} {m1 m2 : Nat} {ns : List Nd} {s : ByteArray} (h1 : joinP L o m n = .ok (a, m1, ns)) (h2 : qbp L ssIs m1 (n + ns.length) = .ok (some s, m2, [])) :
  compP L o m n = prep ns (thenR (joinP L o m2 (n + ns.length)) fun c m3 ns3 => prep ns3 (layP L (twoNd a c s) m3 (n + ns.length + ns3.length))) := by
 unfold compP
 rw [qaJ h1, qaJ h2, qbt]
 show prep ns (pbind (joinP L o) (fun b => layP L (twoNd a b s)) m2 (n + ns.length)) = _
 cases h3 : joinP L o m2 (n + ns.length) with
 | error e => rw [qba h3]; rfl
 | ok v => obtain ⟨c, m3, ns3⟩ := v; rw [qaJ h3]; rfl
theorem comp_clo (d : Nat) (o : PM Int) (k2 k5 k6 k7 : Nat) (Env : Value → World → Prop) (hE : Stays b (fun nv w => (((Env nv w ∧ Loc b nv k2 (.cells #[.pointer (some ⟨b, 0, none⟩)] 105 (0, 0)) w) ∧ Loc b nv k5 (.cells #[(.func (.func 141) #[] #[.pointer (some ⟨k2, 0, none⟩)])] 108 (0, 0)) w) ∧ Loc b nv k6 (.cells #[(.func (.func 144) #[] #[.pointer (some ⟨k2, 0, none⟩), .pointer (some ⟨k5, 0, none⟩)])] 108 (0, 0)) w) ∧ Loc b nv k7 (.cells #[(.func (.func 145) #[] #[.pointer (some ⟨k2, 0, none⟩), .pointer (some ⟨k6, 0, none⟩)])] 108 (0, 0)) w)) (hc : Clo b lb lo cap L 145 #[.int .i64 (d : Int), .pointer (some ⟨k2, 0, none⟩), .pointer (some ⟨k6, 0, none⟩)] (fun nv w => ((Env nv w ∧ Loc b nv k2 (.cells #[.pointer (some ⟨b, 0, none⟩)] 105 (0, 0)) w) ∧ Loc b nv k5 (.cells #[(.func (.func 141) #[] #[.pointer (some ⟨k2, 0, none⟩)])] 108 (0, 0)) w) ∧ Loc b nv k6 (.cells #[(.func (.func 144) #[] #[.pointer (some ⟨k2, 0, none⟩), .pointer (some ⟨k5, 0, none⟩)])] 108 (0, 0)) w) (joinP L o)) :
  Clo b lb lo cap L 146 #[.int .i64 (d : Int), .pointer (some ⟨k7, 0, none⟩), .pointer (some ⟨k2, 0, none⟩)] (fun nv w => (((Env nv w ∧ Loc b nv k2 (.cells #[.pointer (some ⟨b, 0, none⟩)] 105 (0, 0)) w) ∧ Loc b nv k5 (.cells #[(.func (.func 141) #[] #[.pointer (some ⟨k2, 0, none⟩)])] 108 (0, 0)) w) ∧ Loc b nv k6 (.cells #[(.func (.func 144) #[] #[.pointer (some ⟨k2, 0, none⟩), .pointer (some ⟨k5, 0, none⟩)])] 108 (0, 0)) w) ∧ Loc b nv k7 (.cells #[(.func (.func 145) #[] #[.pointer (some ⟨k2, 0, none⟩), .pointer (some ⟨k6, 0, none⟩)])] 108 (0, 0)) w) (compP L o) := by
 intro nv m N w h he
 have H := Lib.hid h
 have HC := Lib.hid hc
 have HE := Lib.hid he
 have HS := Lib.hid hE
 obtain ⟨c7, l7⟩ := he.2.one
 obtain ⟨c2, l2⟩ := he.1.1.1.2.one
 clear h hc he hE
 obtain ⟨r, hr⟩ : ∃ r, compP L o m N.length = r := ⟨_, rfl⟩
 rw [hr]
 obtain ⟨r1, hr1⟩ : ∃ r1, joinP L o m N.length = r1 := ⟨_, rfl⟩
 have C1 := Lib.hid (HC.out nv m N w H.out HE.out.1)
 rw [hr1] at C1
 rcases r1 with ⟨e1, e2⟩ | ⟨a, m1, ns1⟩
 · rw [comp_err1 hr1] at hr
   subst hr
   clear hr1
   go_enter Tryz.func146, Tryz.ntmps146
   go_wp2_with (((with_reducible refine C1.out.mono ?_); rintro e w1 ⟨he, nv_w1, hk⟩; have HK_w1 := Lib.hid hk; clear hk; unfold noV at he; subst he))
   exact ⟨rfl, PPost.err rfl HK_w1.out⟩
 rcases oneOf_cases L ssIs m1 (N ++ ns1).length with h2 | ⟨s, h2⟩
 · rw [comp_none hr1 (by rw [← List.length_append]; exact h2)] at hr
   subst hr
   have O := Lib.hid h2
   clear hr1 h2
   go_enter Tryz.func146, Tryz.ntmps146
   go_wp2_with (((with_reducible refine C1.out.mono ?_); rintro e w1 ⟨he, nv_w1, hs, hk, hm⟩; have HS_w1 := Lib.hid hs; have HK_w1 := Lib.hid hk; have HM_w1 := Lib.hid hm; clear hs hk hm; unfold intV at he; subst he; have HE1 := Lib.hid (HS.out _ _ _ _ HK_w1.out HE.out); obtain ⟨c7a, l7a⟩ := HE1.out.2.one; obtain ⟨c2a, l2a⟩ := HE1.out.1.1.1.2.one))
   go_at_call 147
   refine (qcu (HS_w1.out.alloc _) ssIs _ _ (HS_w1.out.loc (strs ssIs)) zax _ O.out).mono ?_
   rintro e w2 ⟨he, nv_w2, hs, hk, hm⟩; have HS_w2 := Lib.hid hs; have HK_w2 := Lib.hid hk; have HM_w2 := Lib.hid hm; clear hs hk hm; unfold optV at he; subst he
   go_wp2_with fail
   go_ret
   exact PPost.res rfl (HS_w2.out.cast zay) ((HK_w1.out.alloc _).trans HK_w2.out) HM_w1.out
 · rw [comp_some hr1 (by rw [← List.length_append]; exact h2)] at hr
   obtain ⟨r3, hr3⟩ : ∃ r3, joinP L o (m1 + 1) (N.length + ns1.length) = r3 := ⟨_, rfl⟩
   rw [hr3] at hr
   have O := Lib.hid h2
   have C3 : RowKit.Hid (∀ nv3 w3, St b lb lo cap nv3 L (m1 + 1) (N ++ ns1 ++ []) w3 → (fun nv w => ((Env nv w ∧ Loc b nv k2 (.cells #[.pointer (some ⟨b, 0, none⟩)] 105 (0, 0)) w) ∧ Loc b nv k5 (.cells #[(.func (.func 141) #[] #[.pointer (some ⟨k2, 0, none⟩)])] 108 (0, 0)) w) ∧ Loc b nv k6 (.cells #[(.func (.func 144) #[] #[.pointer (some ⟨k2, 0, none⟩), .pointer (some ⟨k5, 0, none⟩)])] 108 (0, 0)) w) nv3 w3 → Calls Tryz.prog 145 #[.int .i64 (d : Int), .pointer (some ⟨k2, 0, none⟩), .pointer (some ⟨k6, 0, none⟩)] w3 (PPost intV b lb lo cap nv3 L (m1 + 1) (N ++ ns1 ++ []) w3 r3)) :=
    Lib.hid fun nv3 w3 hs he => by have := HC.out nv3 (m1 + 1) _ w3 hs he; rw [List.append_nil, List.length_append, hr3] at this; rw [List.append_nil]; exact this
   have R := Lib.hid hr
   clear hr hr1 h2 hr3
   go_enter Tryz.func146, Tryz.ntmps146
   go_wp2_with (((with_reducible refine C1.out.mono ?_); rintro e w1 ⟨he, nv_w1, hs, hk, hm⟩; have HS_w1 := Lib.hid hs; have HK_w1 := Lib.hid hk; have HM_w1 := Lib.hid hm; clear hs hk hm; unfold intV at he; subst he; have HE1 := Lib.hid (HS.out _ _ _ _ HK_w1.out HE.out); obtain ⟨c7a, l7a⟩ := HE1.out.2.one; obtain ⟨c2a, l2a⟩ := HE1.out.1.1.1.2.one))
   go_at_call 147
   refine (qcu (HS_w1.out.alloc _) ssIs _ _ (HS_w1.out.loc (strs ssIs)) zax _ O.out).mono ?_
   rintro e w2 ⟨he, nv_w2, hs, hk, hm⟩; have HS_w2 := Lib.hid hs; have HK_w2 := Lib.hid hk; have HM_w2 := Lib.hid hm; clear hs hk hm; unfold optV at he; subst he
   have HE2 := Lib.hid (HS.out _ _ _ _ (((Kp.refl _ _ _).alloc _).trans HK_w2.out) HE1.out)
   obtain ⟨c7b, l7b⟩ := HE2.out.2.one
   clear c7a l7a c2a l2a
   have KK := Lib.hid ((HK_w1.out.alloc (strs ssIs)).trans HK_w2.out)
   go_wp2_with (((with_reducible refine (qaD _ _).mono ?_); rintro e _ ⟨rfl, d3, os3, rfl⟩))
   go_at_call 145
   have LC := Lib.hid ((HS_w2.out.more d3 os3).loc (.cells #[.int .i64 11, .int .i64 a, .int .i64 (-1), .int .i64 (-1), .int .i64 (-1), .int .i64 0, .string s, .string ⟨#[]⟩] 42 (0, 0)))
   have HE3 := Lib.hid (HS.out _ _ _ _ (((Kp.refl _ _ _).more d3 os3).alloc (.cells #[.int .i64 11, .int .i64 a, .int .i64 (-1), .int .i64 (-1), .int .i64 (-1), .int .i64 0, .string s, .string ⟨#[]⟩] 42 (0, 0))) HE2.out)
   refine (C3.out nv_w2 _ ((HS_w2.out.more _ _).alloc _) HE3.out.1).mono ?_
   rcases r3 with ⟨e1, e2⟩ | ⟨z3, m3, ns3⟩
   · rintro e w4 ⟨he, nv_w4, hk⟩; have HK_w4 := Lib.hid hk; clear hk; unfold noV at he; subst he
     go_wp2_with fail
     have := R.out
     subst this
     exact ⟨rfl, PPost.err rfl (((KK.out.more _ _).alloc _).trans HK_w4.out)⟩
   · rintro e w4 ⟨he, nv_w4, hs, hk, hm⟩; have HS_w4 := Lib.hid hs; have HK_w4 := Lib.hid hk; have HM_w4 := Lib.hid hm; clear hs hk hm; unfold intV at he; subst he
     obtain ⟨r4, hr4⟩ : ∃ r4, layP L (twoNd a z3 s) m3 (N.length + ns1.length + ns3.length) = r4 := ⟨_, rfl⟩
     have LA : RowKit.Hid (∀ nv4 w5, St b lb lo cap nv4 L m3 (N ++ ns1 ++ [] ++ ns3) w5 → Calls Tryz.prog 115 #[.pointer (some ⟨b, 0, none⟩), .agg #[.int .i64 11, .int .i64 a, .int .i64 z3, .int .i64 (-1), .int .i64 (-1), .int .i64 0, .string s, .string ⟨#[]⟩]] w5 (PPost intV b lb lo cap nv4 L m3 (N ++ ns1 ++ [] ++ ns3) w5 r4)) :=
      Lib.hid fun nv4 w5 hs => qaM hs _ _ _ _ _ _ _ _ r4 (by rw [← hr4]; simp [twoNd, nd, Nat.add_assoc])
     have R4 : RowKit.Hid (prep ns1 (prep ns3 r4) = r) := Lib.hid (by rw [← R.out, ← hr4]; rfl)
     have LC4 := Lib.hid (LC.out.kp HK_w4.out)
     have HE4 := Lib.hid (HS.out _ _ _ _ HK_w4.out HE3.out)
     obtain ⟨c2b, l2b⟩ := HE4.out.1.1.1.2.one
     clear LC hr4 R C3
     obtain ⟨kn, hkn⟩ : ∃ kn, (more w2 d3 os3).heap.size = kn := ⟨_, rfl⟩
     rw [hkn] at LC4
     rw [more_size] at hkn
     have hkw : w.heap.size ≤ kn := by have := KK.out.size; omega
     have hlk : lb ≠ kn := by have := HS_w2.out.low; have := HS_w2.out.lt; omega
     have hk2 : k2 ≠ kn := by have := HE2.out.1.1.1.2.lt; omega
     rw [hkn]
     obtain ⟨n0, n1, n2, n3, n4, n5, n6, n7, z0, z1, z2, z3', z5, z6, z7, hkl⟩ := LC4.out.node
     have HKW := Lib.hid hkw
     have HLK := Lib.hid hlk
     clear hkn hkw hlk
     go_wp2_with fail
     refine (LA.out nv_w4 _ (HS_w4.out.setLoc LC4.out HLK.out 2 _)).mono ?_
     have K4 : RowKit.Hid (Kp b nv nv_w4 w (w4.setCell ⟨kn, 2, none⟩ (.int .i64 z3))) := Lib.hid ((((KK.out.more _ _).alloc _).trans HK_w4.out).setNew HKW.out 2 _)
     rcases r4 with ⟨e1, e2⟩ | ⟨a4, m4, ns4⟩
     · rintro e w5 ⟨he, nv_w5, hk⟩; have HK_w5 := Lib.hid hk; clear hk; unfold noV at he; subst he
       go_wp2_with fail
       have := R4.out
       subst this
       exact ⟨rfl, PPost.err rfl (K4.out.trans HK_w5.out)⟩
     · rintro e w5 ⟨he, nv_w5, hs, hk, hm⟩; have HS_w5 := Lib.hid hs; have HK_w5 := Lib.hid hk; have HM_w5 := Lib.hid hm; clear hs hk hm; unfold intV at he; subst he
       go_wp2_with fail
       go_ret
       have := R4.out
       subst this
       have q1 := HM_w5.out
       have q2 := HM_w4.out
       have q3 := HM_w1.out
       exact PPost.res rfl (HS_w5.out.cast zay) (K4.out.trans HK_w5.out) zaf
theorem expr_any (d : Nat) (hd : d ≤ 16) (o : PM Int) (hone : Clo b lb lo cap L 143 #[.pointer (some ⟨b, 0, none⟩), .int .i64 (d : Int)] (fun _ _ => True) o) :
  Clo b lb lo cap L 134 #[.pointer (some ⟨b, 0, none⟩), .int .i64 (d : Int)] (fun _ _ => True) (orP L o) := by
 intro nv m N w h he
 have H := Lib.hid h
 have HC := Lib.hid hone
 clear h he hone
 obtain ⟨r, hr⟩ : ∃ r, orP L o m N.length = r := ⟨_, rfl⟩
 have RR := Lib.hid hr
 rw [hr]
 clear hr
 have D : RowKit.Hid (∀ nv1 w1, St b lb lo cap nv1 L m N w1 → Calls Tryz.prog 76 #[.pointer (some ⟨b, 0, none⟩), .int .i64 (d : Int)] w1 (PPost unitV b lb lo cap nv1 L m N w1 (.ok ((), m, [])))) :=
  Lib.hid fun nv1 w1 h1 => qcs h1 d zaf _ (by unfold deepP; rw [if_neg zaf])
 go_enter Tryz.func134, Tryz.ntmps134
 go_wp2_with fail
 go_at_call 76
 have L2 := Lib.hid (H.out.loc (.cells #[.pointer (some ⟨b, 0, none⟩)] 105 (0, 0)))
 refine (D.out nv _ (H.out.alloc _)).mono ?_
 rintro e w1 ⟨he, nv_w1, hs, hk, hm⟩; have HS_w1 := Lib.hid hs; have HK_w1 := Lib.hid hk; have HM_w1 := Lib.hid hm; clear hs hk hm; unfold unitV at he; subst he
 have L2a := Lib.hid (L2.out.kp HK_w1.out)
 obtain ⟨k2, hk2⟩ : ∃ k2, w.heap.size = k2 := ⟨_, rfl⟩
 rw [hk2] at L2a
 rw [hk2]
 obtain ⟨c2, l2⟩ := L2a.out.one
 have KK := Lib.hid (((Kp.refl b nv w).alloc (.cells #[.pointer (some ⟨b, 0, none⟩)] 105 (0, 0))).trans HK_w1.out)
 have S0 := Lib.hid (HS_w1.out.cast (List.append_nil _))
 clear L2 hk2
 go_wp2_with fail
 go_at_call 142
 have Q5 := S0.out.loc (.cells #[.func (.func 141) #[] #[.pointer (some ⟨k2, 0, none⟩)]] 108 (0, 0))
 have Q6 := (S0.out.alloc (.cells #[.func (.func 141) #[] #[.pointer (some ⟨k2, 0, none⟩)]] 108 (0, 0))).loc (.cells #[.func (.func 144) #[] #[.pointer (some ⟨k2, 0, none⟩), .pointer (some ⟨w1.heap.size, 0, none⟩)]] 108 (0, 0))
 have Q7 := ((S0.out.alloc (.cells #[.func (.func 141) #[] #[.pointer (some ⟨k2, 0, none⟩)]] 108 (0, 0))).alloc (.cells #[.func (.func 144) #[] #[.pointer (some ⟨k2, 0, none⟩), .pointer (some ⟨w1.heap.size, 0, none⟩)]] 108 (0, 0))).loc (.cells #[.func (.func 145) #[] #[.pointer (some ⟨k2, 0, none⟩), .pointer (some ⟨w1.heap.size + 1, 0, none⟩)]] 108 (0, 0))
 have S8 := Lib.hid (((S0.out.alloc (.cells #[.func (.func 141) #[] #[.pointer (some ⟨k2, 0, none⟩)]] 108 (0, 0))).alloc (.cells #[.func (.func 144) #[] #[.pointer (some ⟨k2, 0, none⟩), .pointer (some ⟨w1.heap.size, 0, none⟩)]] 108 (0, 0))).alloc (.cells #[.func (.func 145) #[] #[.pointer (some ⟨k2, 0, none⟩), .pointer (some ⟨w1.heap.size + 1, 0, none⟩)]] 108 (0, 0)))
 have Q8 := S8.out.loc (.cells #[.func (.func 146) #[] #[.pointer (some ⟨w1.heap.size + 1 + 1, 0, none⟩), .pointer (some ⟨k2, 0, none⟩)]] 108 (0, 0))
 have Q9 := (S8.out.alloc (.cells #[.func (.func 146) #[] #[.pointer (some ⟨w1.heap.size + 1 + 1, 0, none⟩), .pointer (some ⟨k2, 0, none⟩)]] 108 (0, 0))).loc (strs ssOr)
 simp only [World.size_alloc] at Q6 Q7 Q8 Q9
 have Y0 := Stays.true b
 have Y1 := Y0.and (Stays.loc b k2 (.cells #[.pointer (some ⟨b, 0, none⟩)] 105 (0, 0)))
 have T1 := times_clo d o k2 _ Y0 HC.out
 have Y2 := Y1.and (Stays.loc b w1.heap.size (.cells #[.func (.func 141) #[] #[.pointer (some ⟨k2, 0, none⟩)]] 108 (0, 0)))
 have T2 := sum_clo d o k2 w1.heap.size _ Y1 T1
 have Y3 := Y2.and (Stays.loc b (w1.heap.size + 1) (.cells #[.func (.func 144) #[] #[.pointer (some ⟨k2, 0, none⟩), .pointer (some ⟨w1.heap.size, 0, none⟩)]] 108 (0, 0)))
 have T3 := join_clo d o k2 w1.heap.size (w1.heap.size + 1) _ Y2 T2
 have Y4 := Y3.and (Stays.loc b (w1.heap.size + 1 + 1) (.cells #[.func (.func 145) #[] #[.pointer (some ⟨k2, 0, none⟩), .pointer (some ⟨w1.heap.size + 1, 0, none⟩)]] 108 (0, 0)))
 have T4 := comp_clo d o k2 w1.heap.size (w1.heap.size + 1) (w1.heap.size + 1 + 1) _ Y4 T3
 have Y5 := Y4.and (Stays.loc b (w1.heap.size + 1 + 1 + 1) (.cells #[.func (.func 146) #[] #[.pointer (some ⟨w1.heap.size + 1 + 1, 0, none⟩), .pointer (some ⟨k2, 0, none⟩)]] 108 (0, 0)))
 have T5 := and_clo d o k2 w1.heap.size (w1.heap.size + 1) (w1.heap.size + 1 + 1) (w1.heap.size + 1 + 1 + 1) _ Y4 T4
 refine (qcR ((S8.out.alloc (.cells #[.func (.func 146) #[] #[.pointer (some ⟨w1.heap.size + 1 + 1, 0, none⟩), .pointer (some ⟨k2, 0, none⟩)]] 108 (0, 0))).alloc (strs ssOr)) d 148 #[] #[.pointer (some ⟨k2, 0, none⟩), .pointer (some ⟨w1.heap.size + 1 + 1 + 1, 0, none⟩)] _ Y5 _ T5 enters5 ?EN ssOr _ _ Q9 zax r RR.out).mono ?_
 case EN => exact ⟨⟨⟨⟨⟨trivial, ((((L2a.out.alloc _).alloc _).alloc _).alloc _).alloc _⟩, (((Q5.alloc _).alloc _).alloc _).alloc _⟩, ((Q6.alloc _).alloc _).alloc _⟩, (Q7.alloc _).alloc _⟩, Q8.alloc _⟩
 have KZ := Lib.hid (((((KK.out.alloc (.cells #[.func (.func 141) #[] #[.pointer (some ⟨k2, 0, none⟩)]] 108 (0, 0))).alloc (.cells #[.func (.func 144) #[] #[.pointer (some ⟨k2, 0, none⟩), .pointer (some ⟨w1.heap.size, 0, none⟩)]] 108 (0, 0))).alloc (.cells #[.func (.func 145) #[] #[.pointer (some ⟨k2, 0, none⟩), .pointer (some ⟨w1.heap.size + 1, 0, none⟩)]] 108 (0, 0))).alloc (.cells #[.func (.func 146) #[] #[.pointer (some ⟨w1.heap.size + 1 + 1, 0, none⟩), .pointer (some ⟨k2, 0, none⟩)]] 108 (0, 0))).alloc (strs ssOr))
 clear Q5 Q6 Q7 Q8 Q9 Y0 Y1 Y2 Y3 Y4 Y5 T1 T2 T3 T4 T5
 rcases r with ⟨e1, e2⟩ | ⟨a1, m1, ns1⟩
 · rintro e w2 ⟨he, nv_w2, hk⟩; have HK_w2 := Lib.hid hk; clear hk; unfold noV at he; subst he
   go_wp2_with fail
   exact ⟨rfl, PPost.err rfl (KZ.out.trans HK_w2.out)⟩
 · rintro e w2 ⟨he, nv_w2, hs, hk, hm⟩; have HS_w2 := Lib.hid hs; have HK_w2 := Lib.hid hk; have HM_w2 := Lib.hid hm; clear hs hk hm; unfold intV at he; subst he
   go_wp2_with fail
   go_ret
   exact PPost.res rfl HS_w2.out (KZ.out.trans HK_w2.out) HM_w2.out
end Go.Proofs.YtpoeknndkccbaaaGreat
