/- Lemmas for the claim (texts Rar7, what its proof uses of them). -/
import Derived.Test.YtijmfpoanggjjaaGreatDoorK22
set_option linter.unusedSimpArgs false
set_option linter.unusedVariables false
namespace Go.Proofs.YtijmfpoanggjjaaGreatDoor
open Go.RowKit
attribute [go_sem] more_more Array.size_append
set_option maxHeartbeats 4000000 in
set_option maxRecDepth 20000 in
theorem level_comp {b lb lo cap : Nat} {L : Toks} (d : Int) (o : PM Int) (hcl : RLv b lb lo cap L 3 d (joinP L o)) : RLv b lb lo cap L 2 d (compP L o) := by
 intro nv m N w h r hr
 have hz : SignZ 2 ssIs := Or.inr (Or.inr (Or.inl ⟨rfl, rfl⟩))
 have HZ := Lib.hid hz
 have HCL := Lib.hid hcl
 have SE : RowKit.Hid (∀ s, s ∈ ssIs → s.toList.isEmpty = false) := Lib.hid fun s hs => (qej hz hs).2
 obtain ⟨cl, hcl2⟩ : ∃ cl, joinP L o = cl := ⟨_, rfl⟩
 have hr2 : thenR (cl m N.length) (fun a m1 ns => prep ns (thenR (qbq L ssIs m1 (N.length + ns.length)) fun o m2 _ => match o with
  | none => .ok (a, m2, [])
  | some s => thenR (cl m2 (N.length + ns.length)) fun b m3 ns3 => prep ns3 (layP L (twoNd a b s) m3 (N.length + ns.length + ns3.length)))) = r := by
  rw [← hcl2]; exact (comp_eq (joinP L o) ssIs m N.length).symm.trans hr
 rw [hcl2] at HCL
 obtain ⟨r1, hr1⟩ : ∃ r1, cl m N.length = r1 := ⟨_, rfl⟩
 have C1 := Lib.hid (HCL.out nv m N w h r1 hr1)
 obtain ⟨c0, c1, c2, c3, c4, f1, f2, f3, f4, hb⟩ := h.facts
 rw [hr1] at hr2
 clear h hcl hz hr hcl2 hr1 c0 c1 c2 c4 f1 f2 f3 f4
 rcases r1 with ⟨e1, e2⟩ | ⟨a1, m1, ns1⟩
 · have R2 : RowKit.Hid (.error (e1, e2) = r) := Lib.hid hr2
   clear hr2
   go_enter Tryz.func138, Tryz.ntmps138
   go_wp2_with ((go_at_call 138; (with_reducible refine (C1.out).mono ?_); rintro e w1 ⟨hc, ⟨v, rfl, y, rfl⟩, nv1, m1, N1, hs1, hk1⟩; have HC := Lib.hid hc; have HS := Lib.hid hs1; have HK := Lib.hid hk1; clear hc hs1 hk1))
   go_loopg [7] (0) (fun g x wr => x = .int .i64 y ∧ wr = w1)
   case atStart => exact ⟨rfl, rfl⟩
   case round =>
    obtain ⟨rfl, rfl⟩ := hrel
    go_wp2_with fail
    go_at_call 143
    refine (qcL HC.out HS.out 2 ssIs HZ.out).mono ?_
    rintro e _ ⟨rfl, d5, os5, rfl⟩
    go_wp2_with fail
    go_ret
    have := R2.out
    subst this
    exact RPost.err HC.out ⟨_, rfl⟩ (HS.out.more _ _) (HK.out.more _ _)
 · have R2 := Lib.hid hr2
   clear hr2
   go_enter Tryz.func138, Tryz.ntmps138
   go_wp2_with ((go_at_call 138; (with_reducible refine (C1.out).mono ?_); rintro e w1 ⟨he, nv1, hs1, hk1, hm1⟩; unfold intV at he; subst he; have HS1 := Lib.hid hs1; have HK1 := Lib.hid hk1; have HM1 := Lib.hid hm1; clear hs1 hk1 hm1))
   go_loopg [7] (0) (fun g x wr => x = .int .i64 a1 ∧ wr = w1)
   case atStart => exact ⟨rfl, rfl⟩
   case round =>
    obtain ⟨rfl, rfl⟩ := hrel
    rcases oneOf_cases L ssIs m1 (N ++ ns1).length with h1 | ⟨s, h1⟩
    · have O := Lib.hid (qcr HS1.out 2 ssIs HZ.out _ h1)
      have RR : RowKit.Hid (.ok (a1, m1, ns1) = r) := Lib.hid (by rw [← R2.out]; rw [List.length_append] at h1; simp only [thenR, h1, prep, List.append_nil])
      clear h1
      go_wp2_with ((go_at_call 143; (with_reducible refine O.out.mono ?_); rintro e w2 ⟨he, nv3, hs3, hk3, _⟩; have HS3 := Lib.hid hs3; have HK3 := Lib.hid hk3; clear hs3 hk3; unfold optS at he; subst he))
      go_ret
      have := RR.out
      subst this
      exact RPost.res rfl (HS3.out.cast zbt) (HK1.out.trans HK3.out) HM1.out
    · have hse : s.toList.isEmpty = false := by
        refine SE.out s ?_
        unfold qbq at h1
        cases hf : ssIs.find? (fun s => isP L s m1) with
        | none => rw [hf] at h1; simp at h1
        | some s' => rw [hf] at h1; simp at h1; rw [← h1]; exact List.mem_of_find?_eq_some hf
      have O := Lib.hid (qcr HS1.out 2 ssIs HZ.out _ h1)
      rw [List.length_append] at h1
      obtain ⟨r3, hr3⟩ : ∃ r3, cl (m1 + 1) (N.length + ns1.length) = r3 := ⟨_, rfl⟩
      have C3 : RowKit.Hid (∀ nv3 w3, Rt b lb lo cap nv3 L (m1 + 1) (N ++ ns1 ++ []) 0 0 w3 → Calls Tryz.prog 138 #[.pointer (some ⟨b, 0, none⟩), .int .i64 3, .int .i64 d] w3 (RPost intV isInt b lb lo cap nv3 L (m1 + 1) (N ++ ns1 ++ []) w3 r3)) :=
       Lib.hid fun nv3 w3 hs => HCL.out nv3 (m1 + 1) _ w3 hs r3 (by rw [List.append_nil, List.length_append]; exact hr3)
      have RR : RowKit.Hid (prep ns1 (thenR r3 fun b m3 ns3 => prep ns3 (layP L (twoNd a1 b s) m3 (N.length + ns1.length + ns3.length))) = r) := Lib.hid (by rw [← R2.out]; simp only [thenR, h1]; rw [hr3])
      clear h1 hr3
      rcases r3 with ⟨e1, e2⟩ | ⟨z3, m3, ns3⟩
      · go_wp2_with ((go_at_call 143; (with_reducible refine O.out.mono ?_); rintro e w2 ⟨he, nv3, hs3, hk3, _⟩; have HS3 := Lib.hid hs3; have HK3 := Lib.hid hk3; clear hs3 hk3; unfold optS at he; subst he))
        refine (C3.out nv3 _ HS3.out).mono ?_
        rintro e w4 ⟨hc, ⟨v, rfl, y4, rfl⟩, nv4, m4, N4, hs4, hk4⟩
        have HC := Lib.hid hc
        have HS4 := Lib.hid hs4
        have HK4 := Lib.hid ((HK1.out.trans HK3.out).trans hk4)
        clear hc hs4 hk4
        go_wp2_with (first | ((go_at_call 122; (with_reducible refine (qal _ _ _ _).mono ?_); rintro e _ ⟨rfl, d3, os3, rfl⟩)) | ((go_at_call 125; (with_reducible refine (qad HC.out (show Rt b lb lo cap nv4 L m4 N4 e1 e2 _ from zbn) _ _ _ _ _ _ _ _).mono ?_); rintro e _ ⟨rfl, d6, os6, rfl⟩)))
        go_ret
        have := RR.out
        subst this
        exact RPost.err HC.out ⟨_, rfl⟩ zbn zba
      · obtain ⟨r4, hr4⟩ : ∃ r4, layP L (twoNd a1 z3 s) m3 (N.length + ns1.length + ns3.length) = r4 := ⟨_, rfl⟩
        have LA : RowKit.Hid (∀ nv4 w5, Rt b lb lo cap nv4 L m3 (N ++ ns1 ++ [] ++ ns3) 0 0 w5 → Calls Tryz.prog 125 #[.pointer (some ⟨b, 0, none⟩), .agg #[.int .i64 11, .int .i64 a1, .int .i64 z3, .int .i64 (-1), .int .i64 (-1), .int .i64 0, .string s, .string ⟨#[]⟩]] w5 (RPost intV isInt b lb lo cap nv4 L m3 (N ++ ns1 ++ [] ++ ns3) w5 r4)) :=
         Lib.hid fun nv4 w5 hs => qaw hs _ _ _ _ _ _ _ _ r4 (by rw [← hr4]; simp [twoNd, nd, Nat.add_assoc])
        have RR4 : RowKit.Hid (prep ns1 (prep ns3 r4) = r) := Lib.hid (by rw [← RR.out, ← hr4]; rfl)
        clear hr4
        go_wp2_with ((go_at_call 143; (with_reducible refine O.out.mono ?_); rintro e w2 ⟨he, nv3, hs3, hk3, _⟩; have HS3 := Lib.hid hs3; have HK3 := Lib.hid hk3; clear hs3 hk3; unfold optS at he; subst he))
        refine (C3.out nv3 _ HS3.out).mono ?_
        rintro e w4 ⟨he, nv4, hs4, hk4, hm4⟩
        unfold intV at he
        subst he
        have HS4 := Lib.hid hs4
        have HK4 := Lib.hid ((HK1.out.trans HK3.out).trans hk4)
        have HM4 := Lib.hid hm4
        clear hs4 hk4 hm4
        go_wp2_with ((go_at_call 122; (with_reducible refine (qal _ _ _ _).mono ?_); rintro e _ ⟨rfl, d3, os3, rfl⟩))
        refine (LA.out nv4 _ (show Rt b lb lo cap nv4 L m3 (N ++ ns1 ++ [] ++ ns3) 0 0 _ from zbn)).mono ?_
        rcases r4 with ⟨e1, e2⟩ | ⟨a4, m4, ns4⟩
        · rintro e w5 ⟨hc, ⟨v, rfl, y5, rfl⟩, nv5, m5, N5, hs5, hk5⟩
          have HC := Lib.hid hc
          have HS5 := Lib.hid hs5
          have HK5 := Lib.hid (Kp.trans (show Kp b nv nv4 w _ from zba) hk5)
          clear hc hs5 hk5
          go_wp2_with fail
          go_ret
          have := RR4.out
          subst this
          exact RPost.err HC.out ⟨_, rfl⟩ HS5.out HK5.out
        · rintro e w5 ⟨he, nv5, hs5, hk5, hm5⟩
          unfold intV at he
          subst he
          have HS5 := Lib.hid hs5
          have HK5 := Lib.hid (Kp.trans (show Kp b nv nv4 w _ from zba) hk5)
          have HM5 := Lib.hid hm5
          clear hs5 hk5 hm5
          go_wp2_with fail
          go_ret
          have := RR4.out
          subst this
          have q1 := HM5.out
          have q2 := HM4.out
          have q3 := HM1.out
          exact RPost.res rfl (HS5.out.cast zbt) HK5.out zal
theorem SignZ.mk (z : Int) (ss : List ByteArray) (h : (z = 0 ∧ ss = ssOr) ∨ (z = 1 ∧ ss = ssAnd) ∨ (z = 2 ∧ ss = ssIs) ∨ (z = 3 ∧ ss = ssJoin) ∨ (z = 4 ∧ ss = ssSum) ∨ (z = 5 ∧ ss = qdD)) : SignZ z ss := h
theorem level_zero {b lb lo cap : Nat} {L : Toks} (d : Int) (o : PM Int) (ho : RDp b lb lo cap L 142 d o) : RLv b lb lo cap L 0 d (orP L o) := by
 have h6 := level_six d o ho
 have h5 : RLv b lb lo cap L 5 d (timesP L o) := qbY 5 d qdD (.mk _ _ zbt) zaq o h6
 have h4 : RLv b lb lo cap L 4 d (sumP L o) := qbY 4 d ssSum (.mk _ _ zbt) zaq _ h5
 have h3 : RLv b lb lo cap L 3 d (joinP L o) := qbY 3 d ssJoin (.mk _ _ zbt) zaq _ h4
 have h2 := level_comp d o h3
 have h1 : RLv b lb lo cap L 1 d (andP L o) := qbY 1 d ssAnd (.mk _ _ zbt) zaq _ h2
 exact qbY 0 d ssOr (.mk _ _ zbt) zaq _ h1
set_option maxHeartbeats 2000000 in
theorem rexpr_any {b lb lo cap : Nat} {L : Toks} (d : Nat) (hd : d ≤ 16) (o : PM Int) (ho : RDp b lb lo cap L 142 (d : Int) o) : RDp b lb lo cap L 124 (d : Int) (orP L o) := by
 intro nv m N w h r hr
 have O := Lib.hid (level_zero (d : Int) o ho nv m N w h r hr)
 have hd2 : (d : Int) ≤ 16 := by omega
 clear h ho hr
 rcases r with ⟨e1, e2⟩ | ⟨v, m1, ns⟩
 · 
   go_enter Tryz.func124, Tryz.ntmps124
   go_wp2_with ((go_at_call 138; (with_reducible refine O.out.mono ?_); rintro e w1 ⟨hc, ⟨v, rfl, y, rfl⟩, hp⟩; have HC := Lib.hid (And.intro hc hp); clear hc hp))
   go_ret
   exact ⟨HC.out.1, ⟨_, rfl, y, rfl⟩, HC.out.2⟩
 · 
   go_enter Tryz.func124, Tryz.ntmps124
   go_wp2_with ((go_at_call 138; (with_reducible refine O.out.mono ?_); rintro e w1 ⟨he, hp⟩; have HP := Lib.hid hp; clear hp; unfold intV at he; subst he))
   go_ret
   exact ⟨rfl, HP.out⟩
set_option maxHeartbeats 2000000 in
theorem rexpr_deep {b lb lo cap : Nat} {L : Toks} : RDp b lb lo cap L 124 (17 : Int) (pno L 14) := by
 intro nv m N w h r hr
 have FL := Lib.hid (qbl h 14 zaq)
 have R := Lib.hid hr
 clear h hr
 go_enter Tryz.func124, Tryz.ntmps124
 go_wp2_with ((go_at_call 84; (with_reducible refine FL.out.mono ?_); rintro e w1 ⟨rfl, hs1, hk1⟩; have HS := Lib.hid hs1; have HK := Lib.hid hk1; clear hs1 hk1))
 refine (qdO zaq HS.out _ _).mono ?_
 rintro e _ ⟨rfl, d5, os5, rfl⟩
 go_wp2_with fail
 go_ret
 have := R.out
 subst this
 exact RPost.err zaq ⟨_, rfl⟩ (HS.out.more _ _) (HK.out.more _ _)
end Go.Proofs.YtijmfpoanggjjaaGreatDoor
