/-
  Proved here: 'Rows.ValueBackSaid': for every value a and all bytes 'tail' the law plenumlaw07.ValueBack returns true.
  Conditions: none.
-/
import Derived.Test.YthekfgbiplmikaaBackP
import Derived.Test.YthekfgbiplmikaaVal3
import Derived.Lib.SmallJoins
set_option linter.unusedSimpArgs false
set_option linter.unusedVariables false
namespace Go.Proofs.Ythekfgbiplmikaa
open Go.RowKit

theorem in64_of {n : Int} (h : (Lit.int .i64 n).wf = true) : In64 n := by
  unfold In64; simp only [Lit.wf, Bool.and_eq_true, decide_eq_true_eq] at h; exact h

theorem ret_of {P : Program} {f : FuncId} {args : Array Value} {v : Value} {w0 : World} (h : ∀ w, Calls P f args w fun e w' => e = .returned v ∧ Ext w w') :
    ∀ d os, Calls P f args (more w0 d os) (RetG (more w0 d os) fun x _ => x = v) := fun d os => (h _).mono fun e w' ⟨he, hx⟩ => ⟨v, he, hx, rfl⟩

/-- an empty row that was made just now -/
theorem own_empty {w : World} {base : Nat} {t : TypeId} (hb : base ≤ w.heap.size) : (w.alloc (.cells #[] t)).ownsRow base t 1 (.slice (some ⟨w.heap.size, 0, none⟩) 0 0) 0 [] :=
  ⟨rfl, .inr ⟨w.heap.size, 0, #[], rfl, hb, heap_alloc_new w _, Nat.le_refl _, by unfold maxLen; omega, rfl, rfl⟩⟩
theorem src_ownB {w : World} {base g cap n : Nat} {l : List UInt8} (h : w.ownsRow base 5 1 (.slice (some ⟨g, 0, none⟩) n cap) n (cellsB l)) : Src Try.prog 1 45 (.slice (some ⟨g, 0, none⟩) n cap) n (cellsB l) w :=
  src_own Try.underlying45 h (cellsB_one l)
theorem bytes_own {w : World} {base g cap n : Nat} {l : List UInt8} (h : w.ownsRow base 5 1 (.slice (some ⟨g, 0, none⟩) n cap) n (cellsB l)) : BytesAt w g 0 l := by
  intro j u hj
  have := h.cells (g := g) rfl j (.int .u8 (u.toNat : Int)) (by simp [cellsB, hj])
  rw [Addr.add_lit] at this
  exact this
theorem src_at {w : World} {b off cap : Nat} {l : List UInt8} (h : BytesAt w b off l) : Src Try.prog 1 45 (.slice (some ⟨b, off, none⟩) l.length cap) l.length (cellsB l) w :=
  Src.ofSlice w Try.underlying45 ⟨b, off, none⟩ l.length cap (cellsB l) (by simp [cellsB]) (fun j u hj => by
    simp only [cellsB, List.getElem?_map, Option.map_eq_some_iff] at hj
    obtain ⟨c, hc, rfl⟩ := hj
    rw [Addr.add_lit]
    exact h j c hc) (cellsB_one l)
theorem src_zero {w : World} (p : Option Addr) (cap : Nat) : Src Try.prog 1 45 (.slice p 0 cap) 0 (cellsB []) w := by
  refine ⟨.inl ⟨_, Try.underlying45⟩, fun _ => rfl, ?_, ?_, rfl, by intro u hu; cases hu⟩ <;> cases p <;> rfl
theorem form2 {w : World} {base : Nat} {e : TypeId} {size : Nat} {v : Value} {n : Nat} {xs : List Value} (h : w.ownsRow base e size v n xs) (hn : 0 < n) : ∃ g cap, v = .slice (some ⟨g, 0, none⟩) n cap ∧ n ≤ cap ∧ base ≤ g := by
  rcases h.2 with ⟨_, h0⟩ | ⟨g, cap, cur, hv, hb, hg, hnc, _⟩
  · omega
  · exact ⟨g, cap, hv, hnc, hb⟩
def EncFact (l : List UInt8) : Fact := fun v W => ∃ g cap, v = .slice (some ⟨g, 0, none⟩) l.length cap ∧ W.ownsRow 0 5 1 (.slice (some ⟨g, 0, none⟩) l.length cap) l.length (cellsB l)
theorem EncFact.upc (l : List UInt8) : Upc (EncFact l) := by
  rintro v W W' hx ⟨g, cap, rfl, ho⟩
  exact ⟨g, cap, rfl, own_ext ho hx⟩
theorem conv_empty {P : Program} (w : World) (src dst e : TypeId) (p : Option Addr) (cap : Nat) (hs : P.underlying src = some (.slice e)) (he : P.underlying e = some (.int .u8)) (hd : P.underlying dst = some .string) : (convert src dst (.slice p 0 cap)).run P w = .ok (.string ⟨#[]⟩) w := by
  rw [run_convert_bytes_string w src dst e p 0 cap hs he hd]; cases p <;> rfl
theorem encB_pos (k i : Int) (s : ByteArray) : 0 < (encB k i s).length := by unfold encB; by_cases h1 : k = 1 <;> by_cases h2 : k = 2 <;> by_cases h3 : k = 3 <;> simp [h1, h2, h3]
theorem encB_len (k i : Int) (s : ByteArray) (h : mayB k i s = true) (h1 : -9223372036854775808 ≤ i) (h2 : i ≤ 9223372036854775807) : (encB k i s).length ≤ 100 := by
  rcases may_cases h with ⟨rfl, rfl, h3⟩ | ⟨rfl, a, b, h3⟩ | ⟨rfl, h3⟩ | ⟨rfl, rfl, h3⟩
  · simp [encB]
  · simp [encB]
  · have := zigZ_bd i h1 h2
    have := putB_len 9 (zigZ i).toNat (by omega)
    simp [encB]; omega
  · have := putB_len 9 s.size (by omega)
    have hl : s.data.toList.length = s.size := by simp
    simp [encB]; omega

set_option maxHeartbeats 2000000 in
set_option maxRecDepth 20000 in
theorem vback_e0 (k i : Int) (s : ByteArray) (p : Option Addr) (len cap : Nat) (tl : List UInt8) (hlen : tl.length = len) (hmax : len ≤ 140737488351232) (hcap : len ≤ cap) (v : Val) (n : Nat) (e : Int) (he : (e == 0) = false) (w : World) (hv : v = ⟨0, 0, ⟨#[]⟩⟩) (hn : n = 0)
    (M1 : RowKit.Hid (∀ w, Calls Try.prog 15 #[.agg #[.int .i64 k, .int .i64 i, .string (fewS s)]] w fun e w' => e = .returned (.bool false) ∧ Ext w w')) (CT : RowKit.Hid (∀ w', Ext w w' → Calls Try.prog 33 #[.slice p len cap] w' fun r w'' => r = .returned (.tuple #[.agg #[.int .i64 v.k, .int .i64 v.i, .string v.s], .int .i64 (n : Int), .int .i64 e]) ∧ Ext w' w''))
    (SR : RowKit.Hid (∀ w', Ext w w' → Src Try.prog 1 45 (.slice p len cap) len (cellsB tl) w'))  :
    Calls Try.prog 9 #[.agg #[.int .i64 k, .int .i64 i, .string s], .slice p len cap] w fun r w' => r = .returned (.bool true) ∧ Ext w w' := by
  have he' : (e != 0) = true := by simpa using he
  subst hv hn
  go_enter Try.func9, Try.ntmps9
  go_wp2_with (first
    | (go_at_call 10; refine (few_any _ _ _ _).mono ?_; rintro e _ ⟨rfl, d1, os1, rfl⟩)
    | (go_at_call 15; refine (M1.out _).mono ?_; rintro e _ ⟨rfl, d2, os2, rfl⟩)
    | (go_at_call 33; refine (CT.out _ (by repeat (first | exact Ext.refl _ | apply Ext.alloc | apply Ext.more))).mono ?_; rintro e _ ⟨rfl, d7, os7, rfl⟩))
  go_wp2_with (first
    | (go_at_call 14; refine (awake_any _).mono ?_; rintro e _ ⟨rfl, d8, os8, rfl⟩))
  go_ret
  exact ⟨rfl, by repeat (first | exact Ext.refl _ | apply Ext.alloc | apply Ext.more)⟩

set_option maxHeartbeats 2000000 in
set_option maxRecDepth 20000 in
theorem vback_o0 (k i : Int) (s : ByteArray) (b off len cap : Nat) (tl : List UInt8) (hlen : tl.length = len) (hmax : len ≤ 140737488351232) (hcap : len ≤ cap) (v : Val) (n : Nat) (hn1 : 1 ≤ n) (hn2 : n ≤ len) (w : World)
    (MT : RowKit.Hid (∀ w, Calls Try.prog 15 #[.agg #[.int .i64 v.k, .int .i64 v.i, .string v.s]] w fun e w' => e = .returned (.bool true) ∧ Ext w w'))
    (T : List UInt8) (ET : RowKit.Hid (∀ w, Calls Try.prog 35 #[.agg #[.int .i64 v.k, .int .i64 v.i, .string v.s]] w fun e w' => OwnB w w' e T))
    (SL : RowKit.Hid (∀ w', Ext w w' → (convert 45 9 (.slice (some ⟨b, off, none⟩) n cap)).run Try.prog w' = .ok (.string ⟨T.toArray⟩) w'))
    (M1 : RowKit.Hid (∀ w, Calls Try.prog 15 #[.agg #[.int .i64 k, .int .i64 i, .string (fewS s)]] w fun e w' => e = .returned (.bool false) ∧ Ext w w')) (CT : RowKit.Hid (∀ w', Ext w w' → Calls Try.prog 33 #[.slice (some ⟨b, off, none⟩) len cap] w' fun r w'' => r = .returned (.tuple #[.agg #[.int .i64 v.k, .int .i64 v.i, .string v.s], .int .i64 (n : Int), .int .i64 0]) ∧ Ext w' w''))
    (SR : RowKit.Hid (∀ w', Ext w w' → Src Try.prog 1 45 (.slice (some ⟨b, off, none⟩) len cap) len (cellsB tl) w'))  :
    Calls Try.prog 9 #[.agg #[.int .i64 k, .int .i64 i, .string s], .slice (some ⟨b, off, none⟩) len cap] w fun r w' => r = .returned (.bool true) ∧ Ext w w' := by
  have hn1' : (1 : Int) ≤ n := by omega
  have hn2' : (n : Int) ≤ len := by omega
  have hn3' : (n : Int) ≤ cap := by omega
  go_enter Try.func9, Try.ntmps9
  go_wp2_with (first
    | (go_at_call 10; refine (few_any _ _ _ _).mono ?_; rintro e _ ⟨rfl, d1, os1, rfl⟩)
    | (go_at_call 15; refine (M1.out _).mono ?_; rintro e _ ⟨rfl, d2, os2, rfl⟩)
    | (go_at_call 33; refine (CT.out _ (by repeat (first | exact Ext.refl _ | apply Ext.alloc | apply Ext.more))).mono ?_; rintro e _ ⟨rfl, d7, os7, rfl⟩))
  refine wp_region_grow 20 84 (List.replicate 20 false) (by kernel_rfl) (by kernel_rfl) rfl ?_
  simp only [List.take_succ_cons, List.take_zero, List.drop_succ_cons, List.drop_zero, List.replicate_succ, List.replicate_zero]
  iterate 14 (refine Lex.step rfl ?_; intro K hK; unfold StepG; go_simp; (first
    | refine hK _ ?_
    | (with_reducible refine ⟨_, ret_of (MT.out), ?_⟩; go_simp; refine hK _ ?_)); clear hK K)
  refine Lex.gap 73 (EncFact T) rfl (EncFact.upc T) rfl (fun d os => ?_) ?_
  · unfold StepG
    go_simp
    exact (ET.out _).mono fun e w' ⟨g, cap, he, ho, hx⟩ => ⟨_, he, hx, g, cap, rfl, ho.mono (Nat.zero_le _)⟩
  refine Lex.go1 (.string ⟨T.toArray⟩) 73 (EncFact T) rfl (fun u d os hu => ?_) ?_
  · obtain ⟨g, cap, rfl, ho⟩ := hu
    have hcv := conv_own (P := Try.prog) (src := 45) (dst := 9) Try.underlying45 Try.underlying5 Try.underlying9 ho
    clear ho
    unfold StepG
    go_simp
  go_simp
  iterate 3 (refine Lex.step rfl ?_; intro K hK; unfold StepG; go_simp; refine hK _ ?_; clear hK K)
  refine Lex.step rfl ?_; intro K hK; unfold StepG; go_simp
  refine ⟨.string ⟨T.toArray⟩, fun d os => ?_, ?_⟩
  · rw [SL.out _ (by repeat (first | exact Ext.refl _ | apply Ext.alloc | apply Ext.more))]
    go_simp
  go_simp
  refine hK _ ?_
  clear hK K
  refine Lex.nil fun W hE => ?_
  intro u hu
  clear hu
  obtain ⟨d9, os9, rfl⟩ := hE
  go_simp
  unfold FillH
  go_wp2_with (first
    | (go_at_call 14; refine (awake_any _).mono ?_; rintro e _ ⟨rfl, d8, os8, rfl⟩))
  rw [ends_normal]
  go_wp2_with fail
  go_ret
  exact ⟨rfl, by repeat (first | exact Ext.refl _ | apply Ext.alloc | apply Ext.more)⟩

set_option maxHeartbeats 2000000 in
set_option maxRecDepth 20000 in
theorem vback_e1 (k i : Int) (s : ByteArray) (p : Option Addr) (len cap : Nat) (tl : List UInt8) (hlen : tl.length = len) (hmax : len ≤ 140737488351232) (hcap : len ≤ cap) (v : Val) (n : Nat) (e : Int) (he : (e == 0) = false) (w : World) (hv : v = ⟨0, 0, ⟨#[]⟩⟩) (hn : n = 0)
    (M1 : RowKit.Hid (∀ w, Calls Try.prog 15 #[.agg #[.int .i64 k, .int .i64 i, .string (fewS s)]] w fun e w' => e = .returned (.bool true) ∧ Ext w w')) (CT : RowKit.Hid (∀ w', Ext w w' → Calls Try.prog 33 #[.slice p len cap] w' fun r w'' => r = .returned (.tuple #[.agg #[.int .i64 v.k, .int .i64 v.i, .string v.s], .int .i64 (n : Int), .int .i64 e]) ∧ Ext w' w''))
    (SR : RowKit.Hid (∀ w', Ext w w' → Src Try.prog 1 45 (.slice p len cap) len (cellsB tl) w')) (E : List UInt8) (L : Nat) (hEl : E.length = L) (hL0 : 0 < L) (hL1 : L ≤ 100) (HV : RowKit.Hid (valC (E ++ tl) = (⟨k, i, fewS s⟩, E.length, 0))) (E1 : RowKit.Hid (∀ w, Calls Try.prog 35 #[.agg #[.int .i64 k, .int .i64 i, .string (fewS s)]] w fun e w' => ∃ g cap, e = .returned (.slice (some ⟨g, 0, none⟩) L cap) ∧ w'.ownsRow w.heap.size 5 1 (.slice (some ⟨g, 0, none⟩) L cap) L (cellsB E) ∧ Ext w w')) :
    Calls Try.prog 9 #[.agg #[.int .i64 k, .int .i64 i, .string s], .slice p len cap] w fun r w' => r = .returned (.bool true) ∧ Ext w w' := by
  have he' : (e != 0) = true := by simpa using he
  subst hv hn
  obtain ⟨i0, hi0, hz0, hz1, hz2⟩ := info_parts u8info
  go_enter Try.func9, Try.ntmps9
  go_wp2_with (first
    | (go_at_call 10; refine (few_any _ _ _ _).mono ?_; rintro e _ ⟨rfl, d1, os1, rfl⟩)
    | (go_at_call 15; refine (M1.out _).mono ?_; rintro e _ ⟨rfl, d2, os2, rfl⟩)
    | (go_at_call 35; refine (E1.out _).mono ?_; rintro e _ ⟨g, cp, rfl, hown, d3, os3, rfl⟩)
    | (at_builtin; refine wpList_append_src _ rfl (.tmp 19) (.tmp 20) 45 45 rfl (w.heap.size + 1 + os1.size + os2.size + os3.size) 5 i0 (.int .u8 0) 1 1 Try.underlying45 hi0 hz0 hz1 hz2 rfl (by decide) (.slice (some ⟨w.heap.size + 1 + os1.size + os2.size + os3.size, 0, none⟩) 0 0) 0 [] rfl ?c1 (.slice (some ⟨g, 0, none⟩) L cp) L (cellsB E) rfl ?c2 ?c3 ?c4 ?c5 ?_))
  case c1 => simpa [more_size] using (own_empty (w := more (more (more (w.alloc (.cells #[.int .i64 k, .int .i64 i, .string (fewS s)] 23)) d1 os1) d2 os2) d3 os3) (t := 5) (base := w.heap.size + 1 + os1.size + os2.size + os3.size) (by simp [more_size]))
  case c2 => exact src_ownB (own_ext hown ((Ext.refl _).alloc _))
  case c3 => unfold maxLen; omega
  case c4 => omega
  case c5 => simp [more_size] <;> omega
  intro v1 w1 hown1 hgrow1 hrow1
  try simp only [Nat.zero_add, List.nil_append] at hown1
  clear hown
  have hx1 : Ext (more (more (more (w.alloc (.cells #[.int .i64 k, .int .i64 i, .string (fewS s)] 23)) d1 os1) d2 os2) d3 os3) w1 := Ext.grown ((Ext.refl _).alloc _) hgrow1 (by intro j hj; simp [Value.ownBlock] at hj; simp [more_size]; omega)
  obtain ⟨g1, cp1, hv1, _, _⟩ := hown1.form (by omega)
  subst hv1
  obtain ⟨d4, os4, rfl⟩ := hx1
  have hs2 := SR.out _ (show Ext w (more (more (more (more (w.alloc (.cells #[.int .i64 k, .int .i64 i, .string (fewS s)] 23)) d1 os1) d2 os2) d3 os3) d4 os4) from by repeat (first | exact Ext.refl _ | apply Ext.alloc | apply Ext.more))
  have hown1b : (more (more (more (more (w.alloc (.cells #[.int .i64 k, .int .i64 i, .string (fewS s)] 23)) d1 os1) d2 os2) d3 os3) d4 os4).ownsRow (w.heap.size + 1 + os1.size + os2.size + os3.size) 5 1 (.slice (some ⟨g1, 0, none⟩) L cp1) L (cellsB E) := by simpa using hown1
  clear hgrow1 hrow1 hown1
  go_wp2_with (at_builtin; refine wpList_append_src _ rfl _ _ 45 45 rfl (w.heap.size + 1 + os1.size + os2.size + os3.size) 5 i0 (.int .u8 0) 1 1 Try.underlying45 hi0 hz0 hz1 hz2 rfl (by decide) (.slice (some ⟨g1, 0, none⟩) L cp1) L (cellsB E) rfl hown1b (.slice p len cap) len (cellsB tl) rfl hs2 ?c3 ?c4 ?c5 ?_)
  case c3 => unfold maxLen; omega
  case c4 => omega
  case c5 => simp [more_size] <;> omega
  intro v2 w2 hown2 hgrow2 hrow2
  have hx2 : Ext (more (more (more (w.alloc (.cells #[.int .i64 k, .int .i64 i, .string (fewS s)] 23)) d1 os1) d2 os2) d3 os3) w2 := Ext.grown ((Ext.refl _).more _ _) hgrow2 (by intro j hj; have h := (hown1b.lt j hj).1; simp [more_size]; omega)
  rw [← cellsB_append] at hown2
  obtain ⟨g2, cp2, hv2, hcp2, _⟩ := form2 hown2 (by omega)
  subst hv2
  have hbb := bytes_own hown2
  obtain ⟨d5, os5, rfl⟩ := hx2
  have hc2 := vc_any _ g2 0 cp2 (E ++ tl) (by simp; omega) (by simp; omega) hbb _ _ _ HV.out
  have el : (E ++ tl).length = L + len := by simp; omega
  rw [el, hEl] at hc2
  have C2 := Lib.hid hc2
  clear hc2 el hbb hown2 hgrow2 hrow2 hown1b hs2
  go_wp2_with (go_at_call 33; (with_reducible refine C2.out.mono ?_); rintro e _ ⟨rfl, d6, os6, rfl⟩)
  clear C2
  go_wp2_with (first
    | (go_at_call 33; refine (CT.out _ (by repeat (first | exact Ext.refl _ | apply Ext.alloc | apply Ext.more))).mono ?_; rintro e _ ⟨rfl, d7, os7, rfl⟩))
  go_wp2_with (first
    | (go_at_call 14; refine (awake_any _).mono ?_; rintro e _ ⟨rfl, d8, os8, rfl⟩))
  go_ret
  exact ⟨rfl, by repeat (first | exact Ext.refl _ | apply Ext.alloc | apply Ext.more)⟩

set_option maxHeartbeats 2000000 in
set_option maxRecDepth 20000 in
theorem vback_o1 (k i : Int) (s : ByteArray) (b off len cap : Nat) (tl : List UInt8) (hlen : tl.length = len) (hmax : len ≤ 140737488351232) (hcap : len ≤ cap) (v : Val) (n : Nat) (hn1 : 1 ≤ n) (hn2 : n ≤ len) (w : World)
    (MT : RowKit.Hid (∀ w, Calls Try.prog 15 #[.agg #[.int .i64 v.k, .int .i64 v.i, .string v.s]] w fun e w' => e = .returned (.bool true) ∧ Ext w w'))
    (T : List UInt8) (ET : RowKit.Hid (∀ w, Calls Try.prog 35 #[.agg #[.int .i64 v.k, .int .i64 v.i, .string v.s]] w fun e w' => OwnB w w' e T))
    (SL : RowKit.Hid (∀ w', Ext w w' → (convert 45 9 (.slice (some ⟨b, off, none⟩) n cap)).run Try.prog w' = .ok (.string ⟨T.toArray⟩) w'))
    (M1 : RowKit.Hid (∀ w, Calls Try.prog 15 #[.agg #[.int .i64 k, .int .i64 i, .string (fewS s)]] w fun e w' => e = .returned (.bool true) ∧ Ext w w')) (CT : RowKit.Hid (∀ w', Ext w w' → Calls Try.prog 33 #[.slice (some ⟨b, off, none⟩) len cap] w' fun r w'' => r = .returned (.tuple #[.agg #[.int .i64 v.k, .int .i64 v.i, .string v.s], .int .i64 (n : Int), .int .i64 0]) ∧ Ext w' w''))
    (SR : RowKit.Hid (∀ w', Ext w w' → Src Try.prog 1 45 (.slice (some ⟨b, off, none⟩) len cap) len (cellsB tl) w')) (E : List UInt8) (L : Nat) (hEl : E.length = L) (hL0 : 0 < L) (hL1 : L ≤ 100) (HV : RowKit.Hid (valC (E ++ tl) = (⟨k, i, fewS s⟩, E.length, 0))) (E1 : RowKit.Hid (∀ w, Calls Try.prog 35 #[.agg #[.int .i64 k, .int .i64 i, .string (fewS s)]] w fun e w' => ∃ g cap, e = .returned (.slice (some ⟨g, 0, none⟩) L cap) ∧ w'.ownsRow w.heap.size 5 1 (.slice (some ⟨g, 0, none⟩) L cap) L (cellsB E) ∧ Ext w w')) :
    Calls Try.prog 9 #[.agg #[.int .i64 k, .int .i64 i, .string s], .slice (some ⟨b, off, none⟩) len cap] w fun r w' => r = .returned (.bool true) ∧ Ext w w' := by
  have hn1' : (1 : Int) ≤ n := by omega
  have hn2' : (n : Int) ≤ len := by omega
  have hn3' : (n : Int) ≤ cap := by omega
  obtain ⟨i0, hi0, hz0, hz1, hz2⟩ := info_parts u8info
  go_enter Try.func9, Try.ntmps9
  go_wp2_with (first
    | (go_at_call 10; refine (few_any _ _ _ _).mono ?_; rintro e _ ⟨rfl, d1, os1, rfl⟩)
    | (go_at_call 15; refine (M1.out _).mono ?_; rintro e _ ⟨rfl, d2, os2, rfl⟩)
    | (go_at_call 35; refine (E1.out _).mono ?_; rintro e _ ⟨g, cp, rfl, hown, d3, os3, rfl⟩)
    | (at_builtin; refine wpList_append_src _ rfl (.tmp 19) (.tmp 20) 45 45 rfl (w.heap.size + 1 + os1.size + os2.size + os3.size) 5 i0 (.int .u8 0) 1 1 Try.underlying45 hi0 hz0 hz1 hz2 rfl (by decide) (.slice (some ⟨w.heap.size + 1 + os1.size + os2.size + os3.size, 0, none⟩) 0 0) 0 [] rfl ?c1 (.slice (some ⟨g, 0, none⟩) L cp) L (cellsB E) rfl ?c2 ?c3 ?c4 ?c5 ?_))
  case c1 => simpa [more_size] using (own_empty (w := more (more (more (w.alloc (.cells #[.int .i64 k, .int .i64 i, .string (fewS s)] 23)) d1 os1) d2 os2) d3 os3) (t := 5) (base := w.heap.size + 1 + os1.size + os2.size + os3.size) (by simp [more_size]))
  case c2 => exact src_ownB (own_ext hown ((Ext.refl _).alloc _))
  case c3 => unfold maxLen; omega
  case c4 => omega
  case c5 => simp [more_size] <;> omega
  intro v1 w1 hown1 hgrow1 hrow1
  try simp only [Nat.zero_add, List.nil_append] at hown1
  clear hown
  have hx1 : Ext (more (more (more (w.alloc (.cells #[.int .i64 k, .int .i64 i, .string (fewS s)] 23)) d1 os1) d2 os2) d3 os3) w1 := Ext.grown ((Ext.refl _).alloc _) hgrow1 (by intro j hj; simp [Value.ownBlock] at hj; simp [more_size]; omega)
  obtain ⟨g1, cp1, hv1, _, _⟩ := hown1.form (by omega)
  subst hv1
  obtain ⟨d4, os4, rfl⟩ := hx1
  have hs2 := SR.out _ (show Ext w (more (more (more (more (w.alloc (.cells #[.int .i64 k, .int .i64 i, .string (fewS s)] 23)) d1 os1) d2 os2) d3 os3) d4 os4) from by repeat (first | exact Ext.refl _ | apply Ext.alloc | apply Ext.more))
  have hown1b : (more (more (more (more (w.alloc (.cells #[.int .i64 k, .int .i64 i, .string (fewS s)] 23)) d1 os1) d2 os2) d3 os3) d4 os4).ownsRow (w.heap.size + 1 + os1.size + os2.size + os3.size) 5 1 (.slice (some ⟨g1, 0, none⟩) L cp1) L (cellsB E) := by simpa using hown1
  clear hgrow1 hrow1 hown1
  go_wp2_with (at_builtin; refine wpList_append_src _ rfl _ _ 45 45 rfl (w.heap.size + 1 + os1.size + os2.size + os3.size) 5 i0 (.int .u8 0) 1 1 Try.underlying45 hi0 hz0 hz1 hz2 rfl (by decide) (.slice (some ⟨g1, 0, none⟩) L cp1) L (cellsB E) rfl hown1b (.slice (some ⟨b, off, none⟩) len cap) len (cellsB tl) rfl hs2 ?c3 ?c4 ?c5 ?_)
  case c3 => unfold maxLen; omega
  case c4 => omega
  case c5 => simp [more_size] <;> omega
  intro v2 w2 hown2 hgrow2 hrow2
  have hx2 : Ext (more (more (more (w.alloc (.cells #[.int .i64 k, .int .i64 i, .string (fewS s)] 23)) d1 os1) d2 os2) d3 os3) w2 := Ext.grown ((Ext.refl _).more _ _) hgrow2 (by intro j hj; have h := (hown1b.lt j hj).1; simp [more_size]; omega)
  rw [← cellsB_append] at hown2
  obtain ⟨g2, cp2, hv2, hcp2, _⟩ := form2 hown2 (by omega)
  subst hv2
  have hbb := bytes_own hown2
  obtain ⟨d5, os5, rfl⟩ := hx2
  have hc2 := vc_any _ g2 0 cp2 (E ++ tl) (by simp; omega) (by simp; omega) hbb _ _ _ HV.out
  have el : (E ++ tl).length = L + len := by simp; omega
  rw [el, hEl] at hc2
  have C2 := Lib.hid hc2
  clear hc2 el hbb hown2 hgrow2 hrow2 hown1b hs2
  go_wp2_with (go_at_call 33; (with_reducible refine C2.out.mono ?_); rintro e _ ⟨rfl, d6, os6, rfl⟩)
  clear C2
  go_wp2_with (first
    | (go_at_call 33; refine (CT.out _ (by repeat (first | exact Ext.refl _ | apply Ext.alloc | apply Ext.more))).mono ?_; rintro e _ ⟨rfl, d7, os7, rfl⟩))
  refine wp_region_grow 20 84 (List.replicate 20 false) (by kernel_rfl) (by kernel_rfl) rfl ?_
  simp only [List.take_succ_cons, List.take_zero, List.drop_succ_cons, List.drop_zero, List.replicate_succ, List.replicate_zero]
  iterate 14 (refine Lex.step rfl ?_; intro K hK; unfold StepG; go_simp; (first
    | refine hK _ ?_
    | (with_reducible refine ⟨_, ret_of (MT.out), ?_⟩; go_simp; refine hK _ ?_)); clear hK K)
  refine Lex.gap 73 (EncFact T) rfl (EncFact.upc T) rfl (fun d os => ?_) ?_
  · unfold StepG
    go_simp
    exact (ET.out _).mono fun e w' ⟨g, cap, he, ho, hx⟩ => ⟨_, he, hx, g, cap, rfl, ho.mono (Nat.zero_le _)⟩
  refine Lex.go1 (.string ⟨T.toArray⟩) 73 (EncFact T) rfl (fun u d os hu => ?_) ?_
  · obtain ⟨g, cap, rfl, ho⟩ := hu
    have hcv := conv_own (P := Try.prog) (src := 45) (dst := 9) Try.underlying45 Try.underlying5 Try.underlying9 ho
    clear ho
    unfold StepG
    go_simp
  go_simp
  iterate 3 (refine Lex.step rfl ?_; intro K hK; unfold StepG; go_simp; refine hK _ ?_; clear hK K)
  refine Lex.step rfl ?_; intro K hK; unfold StepG; go_simp
  refine ⟨.string ⟨T.toArray⟩, fun d os => ?_, ?_⟩
  · rw [SL.out _ (by repeat (first | exact Ext.refl _ | apply Ext.alloc | apply Ext.more))]
    go_simp
  go_simp
  refine hK _ ?_
  clear hK K
  refine Lex.nil fun W hE => ?_
  intro u hu
  clear hu
  obtain ⟨d9, os9, rfl⟩ := hE
  go_simp
  unfold FillH
  go_wp2_with (first
    | (go_at_call 14; refine (awake_any _).mono ?_; rintro e _ ⟨rfl, d8, os8, rfl⟩))
  rw [ends_normal]
  go_wp2_with fail
  go_ret
  exact ⟨rfl, by repeat (first | exact Ext.refl _ | apply Ext.alloc | apply Ext.more)⟩

theorem vback_walk (k i : Int) (s : ByteArray) (hi : In64 i) (x : Value) (l : List UInt8) (w : World) (h : RowB w x l) :
    Calls Try.prog 9 #[.agg #[.int .i64 k, .int .i64 i, .string s], x] w fun r w' => r = .returned (.bool true) ∧ Ext w w' := by
  rcases h with ⟨p, cap, rfl, hcap, rfl⟩ | ⟨b, off, cap, rfl, h3, h4, hB⟩
  · have CT := Lib.hid fun (w' : World) (hx : Ext w w') => vc_nil w' p cap
    have SR := Lib.hid fun (w' : World) (hx : Ext w w') => src_zero (w := w') p cap
    by_cases h1 : mayB k i (fewS s) = true
    · have m1 := fun w => rmay_any k i (fewS s) w
      rw [h1] at m1
      exact vback_e1 k i s p 0 cap [] rfl (by omega) (Nat.zero_le _) ⟨0, 0, ⟨#[]⟩⟩ 0 2 rfl w rfl rfl (Lib.hid m1) CT SR (encB k i (fewS s)) _ rfl (encB_pos _ _ _) (encB_len _ _ _ h1 hi.1 hi.2) (Lib.hid (valC_enc k i (fewS s) h1 hi.1 hi.2 _)) (Lib.hid fun w => enc_any k i (fewS s) h1 hi.1 hi.2 w)
    · have h1 : mayB k i (fewS s) = false := by simpa using h1
      have m1 := fun w => rmay_any k i (fewS s) w
      rw [h1] at m1
      exact vback_e0 k i s p 0 cap [] rfl (by omega) (Nat.zero_le _) ⟨0, 0, ⟨#[]⟩⟩ 0 2 rfl w rfl rfl (Lib.hid m1) CT SR
  · obtain ⟨v, n, e, hr⟩ : ∃ v n e, valC l = (v, n, e) := ⟨_, _, _, rfl⟩
    have CT := Lib.hid fun (w' : World) (hx : Ext w w') => vc_any w' b off cap l (by omega) h3 (hB.ext hx) v n e hr
    have SR := Lib.hid fun (w' : World) (hx : Ext w w') => src_at (w := w') (cap := cap) (hB.ext hx)
    by_cases he : e = 0
    case neg =>
      obtain ⟨z1, z2⟩ := valC_err hr he
      have he' : (e == 0) = false := by simpa using he
      by_cases h1 : mayB k i (fewS s) = true
      · have m1 := fun w => rmay_any k i (fewS s) w
        rw [h1] at m1
        exact vback_e1 k i s (some ⟨b, off, none⟩) l.length cap l rfl (by omega) h3 v n e he' w z1 z2 (Lib.hid m1) CT SR (encB k i (fewS s)) _ rfl (encB_pos _ _ _) (encB_len _ _ _ h1 hi.1 hi.2) (Lib.hid (valC_enc k i (fewS s) h1 hi.1 hi.2 _)) (Lib.hid fun w => enc_any k i (fewS s) h1 hi.1 hi.2 w)
      · have h1 : mayB k i (fewS s) = false := by simpa using h1
        have m1 := fun w => rmay_any k i (fewS s) w
        rw [h1] at m1
        exact vback_e0 k i s (some ⟨b, off, none⟩) l.length cap l rfl (by omega) h3 v n e he' w z1 z2 (Lib.hid m1) CT SR
    subst he
    obtain ⟨g1, g2, g3, g4, g5, g6⟩ := valC_back hr
    have mt := fun w => rmay_any v.k v.i v.s w
    rw [g1] at mt
    have ET := Lib.hid fun w => enc_any v.k v.i v.s g1 g5 g6 w
    have SL := Lib.hid fun (w' : World) (hx : Ext w w') => conv_at (P := Try.prog) (src := 45) (dst := 9) (cap := cap) Try.underlying45 Try.underlying5 Try.underlying9 ((hB.take n).ext hx) n (by simp; omega)
    rw [← g4] at SL
    by_cases h1 : mayB k i (fewS s) = true
    · have m1 := fun w => rmay_any k i (fewS s) w
      rw [h1] at m1
      exact vback_o1 k i s b off l.length cap l rfl (by omega) h3 v n g2 g3 w (Lib.hid mt) (encB v.k v.i v.s) ET SL (Lib.hid m1) CT SR (encB k i (fewS s)) _ rfl (encB_pos _ _ _) (encB_len _ _ _ h1 hi.1 hi.2) (Lib.hid (valC_enc k i (fewS s) h1 hi.1 hi.2 _)) (Lib.hid fun w => enc_any k i (fewS s) h1 hi.1 hi.2 w)
    · have h1 : mayB k i (fewS s) = false := by simpa using h1
      have m1 := fun w => rmay_any k i (fewS s) w
      rw [h1] at m1
      exact vback_o0 k i s b off l.length cap l rfl (by omega) h3 v n g2 g3 w (Lib.hid mt) (encB v.k v.i v.s) ET SL (Lib.hid m1) CT SR


namespace ValueBackRow
/-! ### The row -/
section
open Go.ChangeShapes Go.WideShapes Go.ChangeAt Go.RowKit Go.Joins
open Go.ChangeMaps (open_string shut_string)
theorem own : ownKnob Try.prog.godebug = none := by kernel_rfl
theorem laid : laidOutB Try.prog = true := by kernel_rfl
theorem u8cells : Try.prog.cellsOf 5 = 1 := by kernel_rfl
theorem u8bytes : Try.prog.bytesOf 5 = 1 := by kernel_rfl
theorem valueCells : Try.prog.cellsOf 23 = 3 := by kernel_rfl

set_option maxRecDepth 100000 in
theorem lifted (os : Os) (started : os.Started) (H : Type) (enc : TypeId × Value → H) :
    ReturnsInHanded {} Try.checked os 9 .any (Rows.valueBackSpec.pre6 enc Try.prog Try.f9 Rows.valueBackRow.domain false) (Rows.valueBackSpec.post enc Try.prog Try.f9 false true false false) := by
  refine returnsInHanded_of_change_sized (C := Try.checked) own started (by kernel_rfl) Try.func9
    (ChangeSpec.witness6 (enc := enc) (C := Try.checked) false ⟨#[], #[.agg #[.int .i64 0, .int .i64 0, .string ⟨#[]⟩], .slice none 0 0], []⟩ 8 (by kernel_rfl) (by kernel_rfl) (by kernel_rfl) (by kernel_rfl)) ?_
  intro W base args ds gs before hval0 hW hcnd hsz0 _
  have hval : ∀ (j : Nat) t v, Try.f9.params[j]? = some t → args[j]? = some v → Value.okWide Try.prog W .any base t v := hval0
  have hW' := hW
  obtain ⟨p, q, hA0, hV, rfl, hfz, hnd⟩ := hW
  have hA : DataW.TrodAll enc Try.prog W 0 (fun _ => true) true Try.f9.params.toList args.toList ds p := hA0
  have hAk := hA
  have hpr : Try.f9.params.toList.all (fun t => Try.prog.readableRec t && decide (t < Try.prog.types.size)) = true := by kernel_rfl
  have hlt := hA.lt
  obtain ⟨rfl, rfl⟩ := trodVars_none hV
  have hsz : (DataW.weightsEach Try.prog (Try.f9.params.toList ++ []) (ds ++ [])).all (· ≤ reachBytes) = true := hsz0
  rw [Try.params9] at hA hval hsz
  simp only [List.append_nil] at hsz
  obtain ⟨v0, vs0, d0, ds0, p0, q0, hargs, rfl, rfl, h0, r0⟩ := trodAll_cons hA
  obtain ⟨v1, vs1, d1, ds1, p1, q1, rfl, rfl, rfl, h1, r1⟩ := trodAll_cons r0
  obtain ⟨rfl, rfl, rfl⟩ := trodAll_nil r1
  obtain rfl : args = #[v0, v1] := by cases args; simp_all
  obtain ⟨c00, c01, c02, y00, y01, y02, m0, rfl, rfl, rfl, hy00, hy01, hy02⟩ := open_agg3 Try.underlying23 (by kernel_rfl) valueCells (hval 0 23 v0 rfl rfl) h0
  obtain ⟨a_k, e00, rfl, wa_k⟩ := DataW.trod_int Try.underlying3 hy00
  obtain ⟨a_i, e01, rfl, wa_i⟩ := DataW.trod_int Try.underlying2 hy01
  obtain ⟨a_s, e02, rfl, wa_s⟩ := DataW.trod_string Try.underlying9 hy02
  simp at e00 e01 e02
  subst e00 e01 e02
  obtain ⟨tail_l, htail⟩ := open_bytesR Try.underlying45 Try.underlying5 u8cells u8bytes (hval 1 45 v1 rfl rfl) h1 hsz (j := 1) rfl rfl
  clear hA0 hval0 hsz0
  refine (vback_walk a_k a_i a_s (in64_of wa_i) v1 tail_l W htail).mono fun e W' ⟨he, hx⟩ => ?_
  subst he
  exact ⟨_, rfl, _, _, _, [], _, [], hW', trodAll_mk1 (shut_bool Try.underlying4 _), trodAll_below laid hx.below hpr hAk hlt, rfl, hx.below.frame _, fun h => by cases h⟩

theorem proved : Rows.ValueBackSaid :=
  OpenClaim.holds_of_wide 9 Try.f9 rfl rfl rfl rfl rfl rfl rfl ⟨rfl, rfl, rfl, rfl, rfl⟩ rfl rfl rfl rfl rfl (by kernel_rfl) Try.func9 (by kernel_rfl)
    (of_decide_eq_true (by kernel_rfl)) (by unfold Func.isWrapper; first | (rw [if_pos (by decide +kernel)]; kernel_rfl) | (rw [if_neg (by decide +kernel)]; exact ⟨rfl, rfl⟩))
    (fun os started H enc _ => lifted os started H enc)
end
#print axioms proved
end ValueBackRow
end Go.Proofs.Ythekfgbiplmikaa
