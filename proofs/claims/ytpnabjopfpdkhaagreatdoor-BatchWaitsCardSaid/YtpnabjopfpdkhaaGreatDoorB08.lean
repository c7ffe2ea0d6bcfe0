/- Lemmas for the claim (texts Lex7, Lex8, LexP, LexQ, Quo, R16a, what its proof uses of them). -/
import Derived.Test.YtpnabjopfpdkhaaGreatDoorB06
import Derived.Test.YtpnabjopfpdkhaaGreatDoorB07
import Derived.Outline
set_option linter.unusedSimpArgs false
set_option linter.unusedVariables false
namespace Go.Proofs.YtpnabjopfpdkhaaGreatDoor
open Go.RowKit
set_option maxHeartbeats 2000000 in
set_option maxRecDepth 20000 in
theorem next_end (b : Nat) (s : ByteArray) (k n : Nat) (lv : Value) (hk : k ≤ s.size) (hs : s.size ≤ maxLen) (hn : skipL false (s.data.toList.drop k) = n) (hlt : k + n = s.size) (w : World) (h : LexAt b s k lv w) :
  Calls Tryz.prog 109 #[.pointer (some ⟨b, 0, none⟩)] w fun e' w' => e' = .returned (.tuple #[tokV tok0 0, .int .i64 0, .bool false]) ∧ Ext (w.setCell ⟨b, 1, none⟩ (.int .i64 ((k + n : Nat) : Int))) w' := by
 have HL := Lib.hid h
 have C := Lib.hid (qdg b s k n lv hk hs hn)
 have hb := h.lt
 obtain ⟨c0, c1, c2, f1, f2⟩ := h.cells
 unfold maxLen at hs
 clear h hn
 have hle : (((k : Int) + n) == (s.size : Int)) = true := by simp; omega
 unfold tokV tok0
 go_enter Tryz.func109, Tryz.ntmps109
 go_wp2_with (go_at_call 123; refine (C.out _ zau).mono ?_; rintro e _ ⟨rfl, d, os, rfl⟩)
 refine qaa 9 62 [false, false, false, false, false, false, false, false, false] zad zad rfl ?_
 simp only [List.take_succ_cons, List.take_zero, List.drop_succ_cons, List.drop_zero]
 repeat (refine Lex.step rfl ?_; intro K hK; unfold StepG; go_simp; (first
   | refine hK _ ?_); clear hK K)
 refine Lex.nil fun WW hE => ?_
 obtain ⟨dd, oo, rfl⟩ := hE
 unfold FillH
 go_wp2_with fail
 rw [ends_normal]
 go_wp2_with fail
 refine bodyPost_ret (v := .tuple #[.agg #[.int .i64 0, .int .i64 0, .string ⟨#[]⟩, .int .i64 0], .int .i64 0, .bool false]) zay rfl ?_
 refine ⟨rfl, ?_⟩
 rw [hlt]
 repeat (first | exact Ext.refl _ | apply Ext.alloc | apply Ext.more)
/-- what a token's function hands back: the token, the error, and how far it has gone -/
def qbb (b K : Nat) (r : Tok) (e : Int) (w : World) (e' : Ending) (w' : World) : Prop :=
 e' = .returned (.tuple #[.agg #[.int .i64 r.k, .int .i64 0, .string r.s, .int .i64 r.i], .int .i64 e]) ∧ ∃ k' : Nat, (e = 0 → k' = K) ∧ Ext (w.setCell ⟨b, 1, none⟩ (.int .i64 (k' : Int))) w'
def qbR (b A K : Nat) (r : Tok) (e : Int) (w : World) (e' : Ending) (w' : World) : Prop :=
 e' = .returned (.tuple #[.agg #[.int .i64 r.k, .int .i64 (A : Int), .string r.s, .int .i64 r.i], .int .i64 e, .bool true]) ∧ ∃ k' : Nat, (e = 0 → k' = K) ∧ Ext (w.setCell ⟨b, 1, none⟩ (.int .i64 (k' : Int))) w'
set_option maxHeartbeats 2000000 in
set_option maxRecDepth 20000 in
theorem next_name (b : Nat) (s : ByteArray) (k n : Nat) (lv : Value) (hk : k ≤ s.size) (hs : s.size ≤ maxLen) (hn : skipL false (s.data.toList.drop k) = n) (hlt : k + n < s.size) (hc : qaw ((s[k + n]'hlt).toNat : Int) = true) (K : Nat) (r : Tok) (e : Int)
  (T : RowKit.Hid (∀ w, LexAt b s (k + n) lv w → Calls Tryz.prog 126 #[.pointer (some ⟨b, 0, none⟩)] w (qbb b K r e w))) (w : World) (h : LexAt b s k lv w) :
  Calls Tryz.prog 109 #[.pointer (some ⟨b, 0, none⟩)] w (qbR b (k + n) K r e w) := by
 have HL := Lib.hid h
 have C := Lib.hid (qdg b s k n lv hk hs hn)
 have hb := h.lt
 obtain ⟨c0, c1, c2, f1, f2⟩ := h.cells
 unfold maxLen at hs
 clear h hn
 have hle : (((k : Int) + n) == (s.size : Int)) = false := by simp; omega
 have h256 := (s[k + n]'hlt).toNat_lt
 have le := qaF ((s[k + n]'hlt).toNat : Int) zae zae
 rw [hc] at le
 have LE := Lib.hid le
 clear le hc
 clear h256
 have hz : ((k : Int) + n < s.size) := by omega
 go_enter Tryz.func109, Tryz.ntmps109
 go_wp2_with (go_at_call 123; refine (C.out _ zau).mono ?_; rintro e _ ⟨rfl, d, os, rfl⟩)
 refine qaa 9 62 [false, false, false, false, false, false, false, false, false] zad zad rfl ?_
 simp only [List.take_succ_cons, List.take_zero, List.drop_succ_cons, List.drop_zero]
 repeat (refine Lex.step rfl ?_; intro K hK; unfold StepG; go_simp; (first
   | refine hK _ ?_); clear hK K)
 refine Lex.nil fun WW hE => ?_
 obtain ⟨dd, oo, rfl⟩ := hE
 unfold FillH
 go_wp2_with fail
 rw [ends_normal]
 go_wp2_with fail
 refine qaa 8 62 [false, false, false, false, false, false, false, false] zad zad rfl ?_
 simp only [List.take_succ_cons, List.take_zero, List.drop_succ_cons, List.drop_zero]
 repeat (refine Lex.step rfl ?_; intro K hK; unfold StepG; go_simp; (first
   | refine hK _ ?_); clear hK K)
 refine Lex.nil fun WW hE => ?_
 obtain ⟨dd, oo, rfl⟩ := hE
 unfold FillH
 go_wp2_with (go_at_call 125; refine (LE.out _).mono ?_; rintro e _ ⟨rfl, rfl⟩)
 first | rw [ends_normal] | skip
 go_wp2_with (go_at_call 125; refine (LE.out _).mono ?_; rintro e _ ⟨rfl, rfl⟩)
 refine (T.out _ zav).mono ?_
 rintro e _ ⟨rfl, k2, hk2, d3, os3, rfl⟩
 have HK2 := Lib.hid hk2
 clear hk2
 go_wp2_with fail
 refine bodyPost_ret (v := .tuple #[.agg #[.int .i64 r.k, .int .i64 ((k : Int) + n), .string r.s, .int .i64 r.i], .int .i64 e, .bool true]) zay rfl ?_
 exact ⟨rfl, k2, HK2.out, zab⟩
set_option maxHeartbeats 2000000 in
set_option maxRecDepth 20000 in
theorem next_number (b : Nat) (s : ByteArray) (k n : Nat) (lv : Value) (hk : k ≤ s.size) (hs : s.size ≤ maxLen) (hn : skipL false (s.data.toList.drop k) = n) (hlt : k + n < s.size) (hc : qaw ((s[k + n]'hlt).toNat : Int) = false) (hd : qak ((s[k + n]'hlt).toNat : Int) = true) (K : Nat) (r : Tok) (e : Int)
  (T : RowKit.Hid (∀ w, LexAt b s (k + n) lv w → Calls Tryz.prog 128 #[.pointer (some ⟨b, 0, none⟩)] w (qbb b K r e w))) (w : World) (h : LexAt b s k lv w) :
  Calls Tryz.prog 109 #[.pointer (some ⟨b, 0, none⟩)] w (qbR b (k + n) K r e w) := by
 have HL := Lib.hid h
 have C := Lib.hid (qdg b s k n lv hk hs hn)
 have hb := h.lt
 obtain ⟨c0, c1, c2, f1, f2⟩ := h.cells
 unfold maxLen at hs
 clear h hn
 have hle : (((k : Int) + n) == (s.size : Int)) = false := by simp; omega
 have h256 := (s[k + n]'hlt).toNat_lt
 have le := qaF ((s[k + n]'hlt).toNat : Int) zae zae
 rw [hc] at le
 have LE := Lib.hid le
 clear le hc
 have de := qbt ((s[k + n]'hlt).toNat : Int) zae zae
 rw [hd] at de
 have DE := Lib.hid de
 clear de hd
 clear h256
 have hz : ((k : Int) + n < s.size) := by omega
 go_enter Tryz.func109, Tryz.ntmps109
 go_wp2_with (go_at_call 123; refine (C.out _ zau).mono ?_; rintro e _ ⟨rfl, d, os, rfl⟩)
 refine qaa 9 62 [false, false, false, false, false, false, false, false, false] zad zad rfl ?_
 simp only [List.take_succ_cons, List.take_zero, List.drop_succ_cons, List.drop_zero]
 repeat (refine Lex.step rfl ?_; intro K hK; unfold StepG; go_simp; (first
   | refine hK _ ?_); clear hK K)
 refine Lex.nil fun WW hE => ?_
 obtain ⟨dd, oo, rfl⟩ := hE
 unfold FillH
 go_wp2_with fail
 rw [ends_normal]
 go_wp2_with fail
 refine qaa 8 62 [false, false, false, false, false, false, false, false] zad zad rfl ?_
 simp only [List.take_succ_cons, List.take_zero, List.drop_succ_cons, List.drop_zero]
 repeat (refine Lex.step rfl ?_; intro K hK; unfold StepG; go_simp; (first
   | refine hK _ ?_); clear hK K)
 refine Lex.nil fun WW hE => ?_
 obtain ⟨dd, oo, rfl⟩ := hE
 unfold FillH
 go_wp2_with (first
  | (go_at_call 125; refine (LE.out _).mono ?_; rintro e _ ⟨rfl, rfl⟩)
  | (go_at_call 127; refine (DE.out _).mono ?_; rintro e _ ⟨rfl, rfl⟩))
 first | rw [ends_normal] | skip
 go_wp2_with (first
  | (go_at_call 125; refine (LE.out _).mono ?_; rintro e _ ⟨rfl, rfl⟩)
  | (go_at_call 127; refine (DE.out _).mono ?_; rintro e _ ⟨rfl, rfl⟩))
 refine (T.out _ zav).mono ?_
 rintro e _ ⟨rfl, k2, hk2, d3, os3, rfl⟩
 have HK2 := Lib.hid hk2
 clear hk2
 go_wp2_with fail
 refine bodyPost_ret (v := .tuple #[.agg #[.int .i64 r.k, .int .i64 ((k : Int) + n), .string r.s, .int .i64 r.i], .int .i64 e, .bool true]) zay rfl ?_
 exact ⟨rfl, k2, HK2.out, zab⟩
set_option maxHeartbeats 2000000 in
set_option maxRecDepth 20000 in
theorem next_text (b : Nat) (s : ByteArray) (k n : Nat) (lv : Value) (hk : k ≤ s.size) (hs : s.size ≤ maxLen) (hn : skipL false (s.data.toList.drop k) = n) (hlt : k + n < s.size) (hc : qaw ((s[k + n]'hlt).toNat : Int) = false) (hd : qak ((s[k + n]'hlt).toNat : Int) = false) (hq : (((s[k + n]'hlt).toNat : Int) == 34) = true) (K : Nat) (r : Tok) (e : Int)
  (T : RowKit.Hid (∀ w, LexAt b s (k + n) lv w → Calls Tryz.prog 129 #[.pointer (some ⟨b, 0, none⟩)] w (qbb b K r e w))) (w : World) (h : LexAt b s k lv w) :
  Calls Tryz.prog 109 #[.pointer (some ⟨b, 0, none⟩)] w (qbR b (k + n) K r e w) := by
 have HL := Lib.hid h
 have C := Lib.hid (qdg b s k n lv hk hs hn)
 have hb := h.lt
 obtain ⟨c0, c1, c2, f1, f2⟩ := h.cells
 unfold maxLen at hs
 clear h hn
 have hle : (((k : Int) + n) == (s.size : Int)) = false := by simp; omega
 have h256 := (s[k + n]'hlt).toNat_lt
 have le := qaF ((s[k + n]'hlt).toNat : Int) zae zae
 rw [hc] at le
 have LE := Lib.hid le
 clear le hc
 have de := qbt ((s[k + n]'hlt).toNat : Int) zae zae
 rw [hd] at de
 have DE := Lib.hid de
 clear de hd
 clear h256
 have hz : ((k : Int) + n < s.size) := by omega
 go_enter Tryz.func109, Tryz.ntmps109
 go_wp2_with (go_at_call 123; refine (C.out _ zau).mono ?_; rintro e _ ⟨rfl, d, os, rfl⟩)
 refine qaa 9 62 [false, false, false, false, false, false, false, false, false] zad zad rfl ?_
 simp only [List.take_succ_cons, List.take_zero, List.drop_succ_cons, List.drop_zero]
 repeat (refine Lex.step rfl ?_; intro K hK; unfold StepG; go_simp; (first
   | refine hK _ ?_); clear hK K)
 refine Lex.nil fun WW hE => ?_
 obtain ⟨dd, oo, rfl⟩ := hE
 unfold FillH
 go_wp2_with fail
 rw [ends_normal]
 go_wp2_with fail
 refine qaa 8 62 [false, false, false, false, false, false, false, false] zad zad rfl ?_
 simp only [List.take_succ_cons, List.take_zero, List.drop_succ_cons, List.drop_zero]
 repeat (refine Lex.step rfl ?_; intro K hK; unfold StepG; go_simp; (first
   | refine hK _ ?_); clear hK K)
 refine Lex.nil fun WW hE => ?_
 obtain ⟨dd, oo, rfl⟩ := hE
 unfold FillH
 go_wp2_with (first
  | (go_at_call 125; refine (LE.out _).mono ?_; rintro e _ ⟨rfl, rfl⟩)
  | (go_at_call 127; refine (DE.out _).mono ?_; rintro e _ ⟨rfl, rfl⟩))
 first | rw [ends_normal] | skip
 go_wp2_with (first
  | (go_at_call 125; refine (LE.out _).mono ?_; rintro e _ ⟨rfl, rfl⟩)
  | (go_at_call 127; refine (DE.out _).mono ?_; rintro e _ ⟨rfl, rfl⟩))
 refine (T.out _ zav).mono ?_
 rintro e _ ⟨rfl, k2, hk2, d3, os3, rfl⟩
 have HK2 := Lib.hid hk2
 clear hk2
 go_wp2_with fail
 refine bodyPost_ret (v := .tuple #[.agg #[.int .i64 r.k, .int .i64 ((k : Int) + n), .string r.s, .int .i64 r.i], .int .i64 e, .bool true]) zay rfl ?_
 exact ⟨rfl, k2, HK2.out, zab⟩
set_option maxHeartbeats 2000000 in
set_option maxRecDepth 20000 in
theorem next_sign (b : Nat) (s : ByteArray) (k n : Nat) (lv : Value) (hk : k ≤ s.size) (hs : s.size ≤ maxLen) (hn : skipL false (s.data.toList.drop k) = n) (hlt : k + n < s.size) (hc : qaw ((s[k + n]'hlt).toNat : Int) = false) (hd : qak ((s[k + n]'hlt).toNat : Int) = false) (hq : (((s[k + n]'hlt).toNat : Int) == 34) = false) (K : Nat) (r : Tok) (e : Int)
  (T : RowKit.Hid (∀ w, LexAt b s (k + n) lv w → Calls Tryz.prog 124 #[.pointer (some ⟨b, 0, none⟩)] w (qbb b K r e w))) (w : World) (h : LexAt b s k lv w) :
  Calls Tryz.prog 109 #[.pointer (some ⟨b, 0, none⟩)] w (qbR b (k + n) K r e w) := by
 have HL := Lib.hid h
 have C := Lib.hid (qdg b s k n lv hk hs hn)
 have hb := h.lt
 obtain ⟨c0, c1, c2, f1, f2⟩ := h.cells
 unfold maxLen at hs
 clear h hn
 have hle : (((k : Int) + n) == (s.size : Int)) = false := by simp; omega
 have h256 := (s[k + n]'hlt).toNat_lt
 have le := qaF ((s[k + n]'hlt).toNat : Int) zae zae
 rw [hc] at le
 have LE := Lib.hid le
 clear le hc
 have de := qbt ((s[k + n]'hlt).toNat : Int) zae zae
 rw [hd] at de
 have DE := Lib.hid de
 clear de hd
 clear h256
 have hz : ((k : Int) + n < s.size) := by omega
 go_enter Tryz.func109, Tryz.ntmps109
 go_wp2_with (go_at_call 123; refine (C.out _ zau).mono ?_; rintro e _ ⟨rfl, d, os, rfl⟩)
 refine qaa 9 62 [false, false, false, false, false, false, false, false, false] zad zad rfl ?_
 simp only [List.take_succ_cons, List.take_zero, List.drop_succ_cons, List.drop_zero]
 repeat (refine Lex.step rfl ?_; intro K hK; unfold StepG; go_simp; (first
   | refine hK _ ?_); clear hK K)
 refine Lex.nil fun WW hE => ?_
 obtain ⟨dd, oo, rfl⟩ := hE
 unfold FillH
 go_wp2_with fail
 rw [ends_normal]
 go_wp2_with fail
 refine qaa 8 62 [false, false, false, false, false, false, false, false] zad zad rfl ?_
 simp only [List.take_succ_cons, List.take_zero, List.drop_succ_cons, List.drop_zero]
 repeat (refine Lex.step rfl ?_; intro K hK; unfold StepG; go_simp; (first
   | refine hK _ ?_); clear hK K)
 refine Lex.nil fun WW hE => ?_
 obtain ⟨dd, oo, rfl⟩ := hE
 unfold FillH
 go_wp2_with (first
  | (go_at_call 125; refine (LE.out _).mono ?_; rintro e _ ⟨rfl, rfl⟩)
  | (go_at_call 127; refine (DE.out _).mono ?_; rintro e _ ⟨rfl, rfl⟩))
 first | rw [ends_normal] | skip
 go_wp2_with (first
  | (go_at_call 125; refine (LE.out _).mono ?_; rintro e _ ⟨rfl, rfl⟩)
  | (go_at_call 127; refine (DE.out _).mono ?_; rintro e _ ⟨rfl, rfl⟩))
 refine (T.out _ zav).mono ?_
 rintro e _ ⟨rfl, k2, hk2, d3, os3, rfl⟩
 have HK2 := Lib.hid hk2
 clear hk2
 go_wp2_with fail
 refine bodyPost_ret (v := .tuple #[.agg #[.int .i64 r.k, .int .i64 ((k : Int) + n), .string r.s, .int .i64 r.i], .int .i64 e, .bool true]) zay rfl ?_
 exact ⟨rfl, k2, HK2.out, zab⟩
end Go.Proofs.YtpnabjopfpdkhaaGreatDoor

namespace Go.Proofs.YtpnabjopfpdkhaaGreatDoor
open Go.RowKit
def headLetter : List UInt8 → Bool
 | [] => false
 | c :: _ => qaw (c.toNat : Int)
/-- the token with which bytes begin: it, how many bytes it has, and the error -/
def oneF : List UInt8 → Tok × Nat × Int
  | [] => (tok0, 0, 3)
  | c :: l =>
    if qaw (c.toNat : Int) = true then ((nameF ⟨((c :: l).take (spanN nameB (c :: l))).toArray⟩).1, spanN nameB (c :: l), (nameF ⟨((c :: l).take (spanN nameB (c :: l))).toArray⟩).2)
    else if qak (c.toNat : Int) = true then
      (if (1 < spanN qak (c :: l) ∧ c.toNat = 48) ∨ headLetter ((c :: l).drop (spanN qak (c :: l))) = true then (tok0, spanN qak (c :: l), 3)
       else ((numF ⟨((c :: l).take (spanN qak (c :: l))).toArray⟩).1, spanN qak (c :: l), (numF ⟨((c :: l).take (spanN qak (c :: l))).toArray⟩).2))
    else if c.toNat = 34 then ((textG l []).1, 1 + (textG l []).2.1, (textG l []).2.2)
    else signF (c :: l)
theorem qbu (s : ByteArray) (m n : Nat) : s.extract m (m + n) = ⟨((s.data.toList.drop m).take n).toArray⟩ := by
 apply ByteArray.ext
 apply Array.ext'
 simp [List.extract_eq_take_drop]
theorem take_name (b : Nat) (s : ByteArray) (m n : Nat) (lv : Value) (hk : m ≤ s.size) (hs : s.size ≤ maxLen) (hn : spanN nameB (s.data.toList.drop m) = n) (r : Tok) (e : Int) (hr : nameF (s.extract m (m + n)) = (r, e)) (w : World) (h : LexAt b s m lv w) :
  Calls Tryz.prog 126 #[.pointer (some ⟨b, 0, none⟩)] w (qbb b (m + n) r e w) :=
 (name_any b s _ m n lv hk hs hn rfl r e hr w h).mono fun e' w' ⟨he, hx⟩ => ⟨he, m + n, fun _ => rfl, hx⟩
theorem take_sign (b : Nat) (s : ByteArray) (m n : Nat) (lv : Value) (hk : m < s.size) (hs : (s.size : Int) ≤ 4611686018427387904) (r : Tok) (e : Int) (hr : signF (s.data.toList.drop m) = (r, n, e)) (w : World) (h : LexAt b s m lv w) :
  Calls Tryz.prog 124 #[.pointer (some ⟨b, 0, none⟩)] w (qbb b (m + n) r e w) := by
 have e1 : (s.extract m s.size).data.toList = s.data.toList.drop m := by
  have h1 : (s.extract m s.size).data.toList = (s.data.toList.drop m).take (s.size - m) := by simp [List.extract_eq_take_drop]
  rw [h1, List.take_of_length_le zal]
 refine (sign_any b s _ m n lv hk hs rfl zaw r e (by rw [e1]; exact hr) w h).mono fun e' w' ⟨he, hx⟩ => ⟨he, m + n, fun _ => rfl, hx⟩
theorem take_text (b : Nat) (s : ByteArray) (m n : Nat) (lv : Value) (hk : m < s.size) (hs : s.size ≤ 140737488351232) (r : Tok) (e : Int) (hr : textG (s.data.toList.drop (m + 1)) [] = (r, n, e)) (w : World) (h : LexAt b s m lv w) :
  Calls Tryz.prog 129 #[.pointer (some ⟨b, 0, none⟩)] w (qbb b (m + (1 + n)) r e w) :=
 (text_any b s m n lv hk hs r e hr w h).mono fun e' w' ⟨he, k', h1, hx⟩ => ⟨he, k', fun h0 => by rw [h1 h0]; omega, hx⟩
theorem span_digits (s : ByteArray) (m n : Nat) (hm : m ≤ s.size) (hn : spanN qak (s.data.toList.drop m) = n) (hmn : m + n ≤ s.size) :
  ∀ (j : Nat) (h : j < (s.extract m (m + n)).size), 48 ≤ (((s.extract m (m + n))[j]'h).toNat : Int) ∧ (((s.extract m (m + n))[j]'h).toNat : Int) ≤ 57 := by
 intro j h
 have hl : (s.extract m (m + n)).data.toList = (s.data.toList.drop m).take n := by rw [qbu]
 have hj : ((s.data.toList.drop m).take (spanN qak (s.data.toList.drop m)))[j]? = some ((s.extract m (m + n))[j]'h) := by
  rw [hn, ← hl]
  exact List.getElem?_eq_getElem (by simp at h ⊢; omega)
 have := span_all qak _ j _ hj
 simpa [qak] using this
theorem take_number (b : Nat) (s : ByteArray) (m n : Nat) (lv : Value) (hk : m < s.size) (hs : s.size ≤ maxLen) (hn : spanN qak (s.data.toList.drop m) = n) (r : Tok) (e : Int)
  (hr : (if (1 < n ∧ (s[m]'hk).toNat = 48) ∨ headLetter (s.data.toList.drop (m + n)) = true then (tok0, 3) else numF (s.extract m (m + n))) = (r, e)) (w : World) (h : LexAt b s m lv w) :
  Calls Tryz.prog 128 #[.pointer (some ⟨b, 0, none⟩)] w (qbb b (m + n) r e w) := by
 have hle := spanN_le qak (s.data.toList.drop m)
 rw [hn] at hle
 have hmn : m + n ≤ s.size := by simp at hle; omega
 have htn : (s.extract m (m + n)).size = n := by simp; omega
 have h0 : ∀ h : 0 < (s.extract m (m + n)).size, (s.extract m (m + n))[0]'h = s[m]'hk := by
  intro h
  simp [ByteArray.getElem_extract]
 have hlet : headLetter (s.data.toList.drop (m + n)) = true ↔ ∃ h : m + n < s.size, qaw ((s[m + n]'h).toNat : Int) = true := by
  by_cases hlt : m + n < s.size
  · have hd : s.data.toList.drop (m + n) = s[m + n]'hlt :: s.data.toList.drop (m + n + 1) := List.drop_eq_getElem_cons (by simpa using hlt)
    rw [hd]
    exact ⟨fun h => ⟨hlt, h⟩, fun ⟨_, h⟩ => h⟩
  · have hd : s.data.toList.drop (m + n) = [] := List.drop_eq_nil_of_le zaw
    rw [hd]
    exact ⟨fun h => by simp [headLetter] at h, fun ⟨h, _⟩ => absurd h hlt⟩
 by_cases hc : (1 < n ∧ (s[m]'hk).toNat = 48) ∨ headLetter (s.data.toList.drop (m + n)) = true
 · rw [if_pos hc] at hr
   simp only [Prod.mk.injEq] at hr
   obtain ⟨rfl, rfl⟩ := hr
   refine (number_err b s _ m n lv zae hs hmn hn rfl htn ?_ w h).mono fun e' w' ⟨he, hx⟩ => ⟨he, m + n, fun _ => rfl, hx⟩
   by_cases h1 : 1 < n ∧ (s[m]'hk).toNat = 48
   · exact Or.inl ⟨h1.1, by omega, by rw [h0]; omega⟩
   · have h2 := hlet.1 (hc.resolve_left h1)
     refine Or.inr ⟨?_, h2⟩
     by_cases h3 : 1 < n
     · exact Or.inr ⟨h3, by omega, by rw [h0]; omega⟩
     · exact Or.inl zae
 · rw [if_neg hc] at hr
   refine (number_ok b s _ m n lv zae hs hmn hn rfl htn ?_ ?_ (span_digits s m n zae hn hmn) r e hr w h).mono fun e' w' ⟨he, hx⟩ => ⟨he, m + n, fun _ => rfl, hx⟩
   · by_cases h3 : 1 < n
     · exact Or.inr ⟨h3, by omega, by rw [h0]; omega⟩
     · exact Or.inl zae
   · by_cases hlt : m + n < s.size
     · refine Or.inr ⟨hlt, ?_⟩
       cases hb : qaw ((s[m + n]'hlt).toNat : Int)
       · rfl
       · exact absurd (Or.inr (hlet.2 ⟨hlt, hb⟩)) hc
     · exact Or.inl zae
theorem next_any (b : Nat) (s : ByteArray) (k n : Nat) (lv : Value) (hk : k ≤ s.size) (hs : s.size ≤ 140737488351232) (hn : skipL false (s.data.toList.drop k) = n) (hlt : k + n < s.size) (n1 : Nat) (r : Tok) (e : Int) (hr : oneF (s.data.toList.drop (k + n)) = (r, n1, e)) (w : World) (h : LexAt b s k lv w) :
  Calls Tryz.prog 109 #[.pointer (some ⟨b, 0, none⟩)] w (qbR b (k + n) (k + n + n1) r e w) := by
 have hm : s.size ≤ maxLen := by unfold maxLen; omega
 obtain ⟨m, hmm⟩ : ∃ m, k + n = m := ⟨_, rfl⟩
 have hlt' : m < s.size := by omega
 have hd : s.data.toList.drop m = s[m]'hlt' :: s.data.toList.drop (m + 1) := List.drop_eq_getElem_cons (by simpa using hlt')
 subst hmm
 have hr0 := hr
 rw [hd] at hr
 unfold oneF at hr
 dsimp only at hr
 rw [← hd] at hr
 by_cases c1 : qaw ((s[k + n]'hlt).toNat : Int) = true
 · rw [if_pos c1] at hr
   simp only [Prod.mk.injEq] at hr
   obtain ⟨rfl, rfl, rfl⟩ := hr
   refine next_name b s k n lv hk hm hn hlt c1 _ _ _ (Lib.hid fun w h => take_name b s (k + n) _ lv zae hm rfl _ _ ?_ w h) w h
   rw [qbu]
 rw [if_neg c1] at hr
 have c1' : qaw ((s[k + n]'hlt).toNat : Int) = false := by simpa using c1
 by_cases c2 : qak ((s[k + n]'hlt).toNat : Int) = true
 · rw [if_pos c2] at hr
   have hnum : ∀ n2, spanN qak (s.data.toList.drop (k + n)) = n2 → n2 = n1 ∧ (if (1 < n2 ∧ (s[k + n]'hlt).toNat = 48) ∨ headLetter (s.data.toList.drop (k + n + n2)) = true then (tok0, 3) else numF (s.extract (k + n) (k + n + n2))) = (r, e) := by
    intro n2 h2
    rw [h2, List.drop_drop] at hr
    rw [qbu]
    split at hr
    · next hc => rw [if_pos hc]; simp only [Prod.mk.injEq] at hr ⊢; exact ⟨hr.2.1, hr.1, hr.2.2⟩
    · next hc => rw [if_neg hc]; simp only [Prod.mk.injEq] at hr; exact ⟨hr.2.1, by rw [← hr.1, ← hr.2.2]⟩
   obtain ⟨h3, h4⟩ := hnum _ rfl
   rw [← h3]
   exact next_number b s k n lv hk hm hn hlt c1' c2 _ _ _ (Lib.hid fun w h => take_number b s (k + n) _ lv hlt hm rfl _ _ h4 w h) w h
 rw [if_neg c2] at hr
 have c2' : qak ((s[k + n]'hlt).toNat : Int) = false := by simpa using c2
 by_cases c3 : (s[k + n]'hlt).toNat = 34
 · rw [if_pos c3] at hr
   simp only [Prod.mk.injEq] at hr
   obtain ⟨rfl, rfl, rfl⟩ := hr
   exact next_text b s k n lv hk hm hn hlt c1' c2' zaw _ _ _ (Lib.hid fun w h => take_text b s (k + n) _ lv hlt hs _ _ rfl w h) w h
 · rw [if_neg c3] at hr
   exact next_sign b s k n lv hk hm hn hlt c1' c2' zaw _ _ _ (Lib.hid fun w h => take_sign b s (k + n) _ lv hlt zae _ _ hr w h) w h
end Go.Proofs.YtpnabjopfpdkhaaGreatDoor

namespace Go.Proofs.YtpnabjopfpdkhaaGreatDoor
open Go.RowKit
/-- the tokens from place k on, behind those that there are: them, or the error and its place -/
def lexG (s : List UInt8) : Nat → Nat → List (Tok × Nat) → List (Tok × Nat) × Int × Nat
 | 0, _, _ => ([], 0, 0)
 | g + 1, k, acc =>
  if s.length ≤ k + skipL false (s.drop k) then (acc ++ [(tok0, s.length)], 0, 0)
  else if (oneF (s.drop (k + skipL false (s.drop k)))).2.2 ≠ 0 then ([], (oneF (s.drop (k + skipL false (s.drop k)))).2.2, k + skipL false (s.drop k))
  else if acc.length = 1024 then ([], 5, k + skipL false (s.drop k))
  else lexG s g (k + skipL false (s.drop k) + (oneF (s.drop (k + skipL false (s.drop k)))).2.1) (acc ++ [((oneF (s.drop (k + skipL false (s.drop k)))).1, k + skipL false (s.drop k))])
/-- a source's tokens -/
def lexF (s : List UInt8) : List (Tok × Nat) × Int × Nat := if 4096 < s.length then ([], 5, 4096) else lexG s (s.length + 1) 0 []
/-- a token's cells -/
def qap (l : List (Tok × Nat)) : List Value := l.flatMap fun t => [.int .i64 t.1.k, .int .i64 (t.2 : Int), .string t.1.s, .int .i64 t.1.i]
theorem qcS (l m : List (Tok × Nat)) : qap (l ++ m) = qap l ++ qap m := by simp [qap]
theorem textG_bd (l acc : List UInt8) : (textG l acc).2.2 = 0 → 1 ≤ (textG l acc).2.1 ∧ (textG l acc).2.1 ≤ l.length := by
 fun_induction textG l acc
 all_goals intro h
 all_goals first
  | (exfalso; exact absurd h zaj)
  | (refine ⟨?_, ?_⟩ <;> simp only [List.length_cons] <;> omega)
  | (rename_i ih; have h2 := ih h; exact ⟨Nat.succ_le_succ (Nat.zero_le _), Nat.succ_le_succ h2.2⟩)
  | (rename_i ih; have h2 := ih h; exact ⟨Nat.succ_le_succ (Nat.zero_le _), Nat.succ_le_succ (Nat.succ_le_succ h2.2)⟩)
theorem signF_bd (l : List UInt8) (r : Tok) (n : Nat) (h : signF l = (r, n, 0)) : 1 ≤ n ∧ n ≤ l.length := by
 unfold signF at h
 cases hf : twoL.find? (fun p => Lib.hasPrefix l p.data.toList) with
 | some p =>
  rw [hf] at h
  simp only [Prod.mk.injEq] at h
  obtain ⟨_, rfl, _⟩ := h
  have h1 := List.find?_some hf
  have h2 := List.mem_of_find?_eq_some hf
  have h3 : p.data.toList.length = 2 := by
   simp only [twoL, List.mem_cons, List.not_mem_nil, or_false] at h2
   rcases h2 with rfl | rfl | rfl | rfl | rfl <;> rfl
  have h4 := (List.isPrefixOf_iff_prefix.1 h1).length_le
  omega
 | none =>
  rw [hf] at h
  cases l with
  | nil => simp at h
  | cons c l =>
   dsimp only at h
   split at h
   · simp only [Prod.mk.injEq] at h
     obtain ⟨_, rfl, _⟩ := h
     simp
   · simp at h
/-- a token has a byte at least, and no more than there are -/
theorem oneF_bd (l : List UInt8) (r : Tok) (n : Nat) (hl : 0 < l.length) (h : oneF l = (r, n, 0)) : 1 ≤ n ∧ n ≤ l.length := by
 cases l with
 | nil => simp at hl
 | cons c l =>
  unfold oneF at h
  dsimp only at h
  by_cases c1 : qaw (c.toNat : Int) = true
  · rw [if_pos c1] at h
    simp only [Prod.mk.injEq] at h
    obtain ⟨_, rfl, _⟩ := h
    have hb : nameB (c.toNat : Int) = true := by simp [nameB, c1]
    refine ⟨?_, spanN_le _ _⟩
    rw [spanN, if_pos hb]; omega
  rw [if_neg c1] at h
  by_cases c2 : qak (c.toNat : Int) = true
  · rw [if_pos c2] at h
    have key : n = spanN qak (c :: l) := by
     split at h <;> simp only [Prod.mk.injEq] at h <;> exact h.2.1.symm
    rw [key]
    refine ⟨?_, spanN_le _ _⟩
    rw [spanN, if_pos c2]; omega
  rw [if_neg c2] at h
  by_cases c3 : c.toNat = 34
  · rw [if_pos c3] at h
    simp only [Prod.mk.injEq] at h
    obtain ⟨_, rfl, h3⟩ := h
    have := textG_bd l [] h3
    simp only [List.length_cons]
    omega
  · rw [if_neg c3] at h
    exact signF_bd _ r n h
end Go.Proofs.YtpnabjopfpdkhaaGreatDoor

namespace Go.Proofs.YtpnabjopfpdkhaaGreatDoor
open Go.RowKit
/-- what a byte is quoted as -/
def quo1 (c : UInt8) : List UInt8 := if c.toNat = 10 then [92, 110] else if c.toNat = 34 ∨ c.toNat = 92 then [92, c] else [c]
/-- may it be quoted? -/
def okQ (c : UInt8) : Bool := decide (c.toNat = 10 ∨ (32 ≤ c.toNat ∧ c.toNat ≤ 126))
/-- the token that says a text, and the error -/
def quoteF (s : List UInt8) : List UInt8 × Int := if 64 < s.length then ([], 5) else if s.all okQ = true then (34 :: s.flatMap quo1 ++ [34], 0) else ([], 3)
theorem quo1_len (s : List UInt8) : (s.flatMap quo1).length ≤ 2 * s.length := by
 induction s with
 | nil => simp
 | cons c s ih =>
  have : (quo1 c).length ≤ 2 := by unfold quo1; (repeat' split) <;> simp
  simp only [List.flatMap_cons, List.length_append, List.length_cons]
  omega
end Go.Proofs.YtpnabjopfpdkhaaGreatDoor

namespace Go.Proofs.YtpnabjopfpdkhaaGreatDoor
open Go.RowKit
theorem qcW {B b : Nat} {acc : List UInt8} {l : List Value} {m : List UInt8} {w : World} (h : Bld B b (qaf acc ++ l) w) (hl : l = qaf m) : Bld B b (qaf (acc ++ m)) w := by
 rw [qbh, ← hl]; exact h
theorem qcD (L : List UInt8) (k : Nat) (u : UInt8) (hu : L[k]? = some u) : (L.take (k + 1)).flatMap quo1 = (L.take k).flatMap quo1 ++ quo1 u := by
 rw [List.take_add_one, hu]; simp [List.flatMap_append]
theorem ok_step (L : List UInt8) (k : Nat) (u : UInt8) (hu : L[k]? = some u) (h : (L.take k).all okQ = true) : (L.take (k + 1)).all okQ = okQ u := by
 rw [List.take_add_one, hu, List.all_append, h]; simp
theorem ok_bad (L : List UInt8) (k : Nat) (u : UInt8) (hu : L[k]? = some u) (h : okQ u = false) : L.all okQ = false := by
 have hk := (List.getElem?_eq_some_iff.1 hu)
 rw [List.all_eq_false]
 exact ⟨u, List.mem_of_getElem? hu, by simp [h]⟩
theorem ok_done (L : List UInt8) (k : Nat) (hk : L.length ≤ k) (h : (L.take k).all okQ = true) : L.all okQ = true := by rwa [List.take_of_length_le hk] at h
set_option maxHeartbeats 2000000 in
set_option maxRecDepth 20000 in
theorem quote_any (s : ByteArray) (q : List UInt8) (er : Int) (hr : quoteF s.data.toList = (q, er)) (w : World) :
  Calls Tryz.prog 229 #[.string s] w fun e w' => e = .returned (.tuple #[.string ⟨q.toArray⟩, .int .i64 er]) ∧ Ext w w' := by
 have hl : s.data.toList.length = s.size := by simp
 unfold quoteF at hr
 by_cases h64 : 64 < s.data.toList.length
 · rw [if_pos h64] at hr
   simp only [Prod.mk.injEq] at hr
   obtain ⟨rfl, rfl⟩ := hr
   have h64' : (64 : Int) < s.size := by omega
   clear h64 hl
   go_enter Tryz.func229, Tryz.ntmps229
   go_wp2_with fail
   go_ret2
   exact ⟨rfl, zab⟩
 rw [if_neg h64] at hr
 have h64' : (s.size : Int) ≤ 64 := by omega
 clear h64 hl
 go_enter Tryz.func229, Tryz.ntmps229
 go_wp2_with fail
 refine (qan w.heap.size w.heap.size (qaf []) 34 _ (Lib.fresh_isBuilder 236 5 w) (by simp [qaf]) zal).mono ?_
 rintro e w1 ⟨rfl, hB1, hbl1⟩
 have HB1 := Lib.hid hB1
 have HBL1 := Lib.hid (((Below.refl _ _).alloc (Nat.le_refl _) _).trans hbl1)
 clear hB1 hbl1
 go_wp2_with fail
 go_loopw [13] (fun ii wr => ∃ (k : Nat) (acc : List UInt8), ii = .int .i64 (k : Int) ∧ k ≤ s.size ∧ (s.data.toList.take k).all okQ = true ∧ acc = 34 :: (s.data.toList.take k).flatMap quo1 ∧ Bld w.heap.size w.heap.size (qaf acc) wr ∧ Below w.heap.size w wr) (fun ii _ => s.size - (intOf ii).toNat)
 case atStart => exact ⟨0, [34], rfl, Nat.zero_le _, rfl, rfl, HB1.out, HBL1.out⟩
 case round =>
  obtain ⟨k, acc, rfl, hk, hok, hacc, hg, hbl⟩ := hrel
  have hal : acc.length ≤ 200 := by
   have := quo1_len (s.data.toList.take k)
   rw [hacc]; simp at this ⊢; omega
  have HAL := Lib.hid hal
  have HBL := Lib.hid hbl
  have HB := Lib.hid hg
  clear hal hbl HB1 HBL1
  have HK := Lib.hid hok
  have HAC := Lib.hid hacc
  have HGX := Lib.hid hg
  clear hok hacc hg
  by_cases hlt : k < s.size
  · have hu : s.data.toList[k]? = some (s[k]'hlt) := by rw [List.getElem?_eq_getElem (by simpa using hlt)]; rfl
    have h256 := (s[k]'hlt).toNat_lt
    have HU := Lib.hid hu
    clear hu
    by_cases c1 : (s[k]'hlt).toNat = 10
    · have e1 : ((s[k]'hlt).toNat : Int) = 10 := by first | omega | (simp; omega)
      have hq1 : quo1 (s[k]'hlt) = [92, 110] := by rw [quo1, if_pos c1]
      have hst := qcD _ k _ HU.out
      rw [hq1] at hst
      have HST := Lib.hid hst
      have HOK := Lib.hid (by rw [ok_step _ k _ HU.out HK.out]; simp [okQ]; omega : (s.data.toList.take (k + 1)).all okQ = true)
      clear hq1 hst
      go_wp2_with fail
      refine (qcO w.heap.size w.heap.size (qaf acc) ⟨#[92, 110]⟩ _ HB.out (by rw [cellsB_length]; have := HAL.out; have e : (⟨#[92, 110]⟩ : ByteArray).size = 2 := rfl; omega) (by have := HBL.out.size; omega)).mono ?_
      rintro e w2 ⟨rfl, hB2, hbl2⟩
      have HB2 := Lib.hid hB2
      have HBL2 := Lib.hid (HBL.out.trans hbl2)
      clear hB2 hbl2
      go_wp2_with fail
      go_roundw
      case rel =>
       refine ⟨k + 1, _, by go_num, by omega, HOK.out, ?_, qcW HB2.out (m := [92, 110]) (by rfl), HBL2.out⟩
       rw [HST.out, HAC.out]; simp
      case measure => simp [intOf]; omega
    by_cases c2 : (s[k]'hlt).toNat < 32
    · have e1 : (((s[k]'hlt).toNat : Int) == 10) = false := by first | omega | (simp; omega)
      have e2 : (((s[k]'hlt).toNat : Int) < 32) = True := by first | omega | (simp; omega)
      have hbad := Lib.hid (ok_bad _ k _ HU.out (by simp [okQ]; omega))
      go_wp2_with fail
      go_ret2
      rw [hbad.out] at hr
      simp only [Bool.false_eq_true, if_false, Prod.mk.injEq] at hr
      obtain ⟨rfl, rfl⟩ := hr
      exact ⟨rfl, Ext.of_below HBL.out⟩
    by_cases c3 : 126 < (s[k]'hlt).toNat
    · have e1 : (((s[k]'hlt).toNat : Int) == 10) = false := by first | omega | (simp; omega)
      have e2 : (((s[k]'hlt).toNat : Int) < 32) = False := by first | omega | (simp; omega)
      have e3 : (126 < ((s[k]'hlt).toNat : Int)) = True := by first | omega | (simp; omega)
      have hbad := Lib.hid (ok_bad _ k _ HU.out (by simp [okQ]; omega))
      go_wp2_with fail
      go_ret2
      rw [hbad.out] at hr
      simp only [Bool.false_eq_true, if_false, Prod.mk.injEq] at hr
      obtain ⟨rfl, rfl⟩ := hr
      exact ⟨rfl, Ext.of_below HBL.out⟩
    by_cases c4 : (s[k]'hlt).toNat = 34
    · have e1 : ((s[k]'hlt).toNat : Int) = 34 := by first | omega | (simp; omega)
      have hq1 : quo1 (s[k]'hlt) = [92, s[k]'hlt] := by rw [quo1, if_neg c1, if_pos (Or.inl c4)]
      have hst := qcD _ k _ HU.out
      rw [hq1] at hst
      have HST := Lib.hid hst
      have HOK := Lib.hid (by rw [ok_step _ k _ HU.out HK.out]; simp [okQ]; omega : (s.data.toList.take (k + 1)).all okQ = true)
      clear hq1 hst
      go_wp2_with fail
      refine (qan w.heap.size w.heap.size (qaf acc) _ _ HB.out zas (by have := HBL.out.size; omega)).mono ?_
      rintro e w2 ⟨rfl, hB2, hbl2⟩
      have HB2 := Lib.hid hB2
      have HBL2 := Lib.hid (HBL.out.trans hbl2)
      clear hB2 hbl2
      go_wp2_with fail
      refine (qan w.heap.size w.heap.size (qaf acc ++ [.int .u8 92]) 34 _ HB2.out zas (by have := HBL2.out.size; omega)).mono ?_
      rintro e w3 ⟨rfl, hB3, hbl3⟩
      have HB3 := Lib.hid hB3
      have HBL3 := Lib.hid (HBL2.out.trans hbl3)
      clear hB3 hbl3
      go_wp2_with fail
      go_roundw
      case rel =>
       refine ⟨k + 1, _, by go_num, by omega, HOK.out, ?_, qcW (l := [.int .u8 92, .int .u8 34]) (by simpa using HB3.out) (m := [92, s[k]'hlt]) (by simp [qaf, c4]), HBL3.out⟩
       rw [HST.out, HAC.out]; simp
      case measure => simp [intOf]; omega
    by_cases c5 : (s[k]'hlt).toNat = 92
    · have e1 : ((s[k]'hlt).toNat : Int) = 92 := by first | omega | (simp; omega)
      have hq1 : quo1 (s[k]'hlt) = [92, s[k]'hlt] := by rw [quo1, if_neg c1, if_pos (Or.inr c5)]
      have hst := qcD _ k _ HU.out
      rw [hq1] at hst
      have HST := Lib.hid hst
      have HOK := Lib.hid (by rw [ok_step _ k _ HU.out HK.out]; simp [okQ]; omega : (s.data.toList.take (k + 1)).all okQ = true)
      clear hq1 hst
      go_wp2_with fail
      refine (qan w.heap.size w.heap.size (qaf acc) _ _ HB.out zas (by have := HBL.out.size; omega)).mono ?_
      rintro e w2 ⟨rfl, hB2, hbl2⟩
      have HB2 := Lib.hid hB2
      have HBL2 := Lib.hid (HBL.out.trans hbl2)
      clear hB2 hbl2
      go_wp2_with fail
      refine (qan w.heap.size w.heap.size (qaf acc ++ [.int .u8 92]) 92 _ HB2.out zas (by have := HBL2.out.size; omega)).mono ?_
      rintro e w3 ⟨rfl, hB3, hbl3⟩
      have HB3 := Lib.hid hB3
      have HBL3 := Lib.hid (HBL2.out.trans hbl3)
      clear hB3 hbl3
      go_wp2_with fail
      go_roundw
      case rel =>
       refine ⟨k + 1, _, by go_num, by omega, HOK.out, ?_, qcW (l := [.int .u8 92, .int .u8 92]) (by simpa using HB3.out) (m := [92, s[k]'hlt]) (by simp [qaf, c5]), HBL3.out⟩
       rw [HST.out, HAC.out]; simp
      case measure => simp [intOf]; omega
    · have e1 : (((s[k]'hlt).toNat : Int) == 10) = false := by first | omega | (simp; omega)
      have e2 : (((s[k]'hlt).toNat : Int) < 32) = False := by first | omega | (simp; omega)
      have e3 : (126 < ((s[k]'hlt).toNat : Int)) = False := by first | omega | (simp; omega)
      have e4 : (((s[k]'hlt).toNat : Int) == 34) = false := by first | omega | (simp; omega)
      have e5 : (((s[k]'hlt).toNat : Int) == 92) = false := by first | omega | (simp; omega)
      have hq1 : quo1 (s[k]'hlt) = [s[k]'hlt] := by rw [quo1, if_neg c1, if_neg zae]
      have hst := qcD _ k _ HU.out
      rw [hq1] at hst
      have HST := Lib.hid hst
      have HOK := Lib.hid (by rw [ok_step _ k _ HU.out HK.out]; simp [okQ]; omega : (s.data.toList.take (k + 1)).all okQ = true)
      clear hq1 hst
      go_wp2_with fail
      refine (qan w.heap.size w.heap.size (qaf acc) _ _ HB.out zas (by have := HBL.out.size; omega)).mono ?_
      rintro e w2 ⟨rfl, hB2, hbl2⟩
      have HB2 := Lib.hid hB2
      have HBL2 := Lib.hid (HBL.out.trans hbl2)
      clear hB2 hbl2
      go_wp2_with fail
      go_roundw
      case rel =>
       refine ⟨k + 1, _, by go_num, by omega, HOK.out, ?_, qcW HB2.out (m := [s[k]'hlt]) (by rfl), HBL2.out⟩
       rw [HST.out, HAC.out]; simp
      case measure => simp [intOf]; omega
  · have hks : k = s.size := by omega
    have hd := ok_done s.data.toList k zaw HK.out
    rw [if_pos hd] at hr
    simp only [Prod.mk.injEq] at hr
    obtain ⟨rfl, rfl⟩ := hr
    have he : acc = 34 :: s.data.toList.flatMap quo1 := by have := HAC.out; rwa [List.take_of_length_le zaw] at this
    have HE := Lib.hid he
    subst hks
    clear hd he
    go_wp2_with fail
    refine (qan w.heap.size w.heap.size (qaf acc) _ _ HB.out zas (by have := HBL.out.size; omega)).mono ?_
    rintro e w2 ⟨rfl, hB2, hbl2⟩
    have hB3 : Bld w.heap.size w.heap.size (qaf (acc ++ [34])) w2 := qcW hB2 rfl
    have HB2 := Lib.hid hB3
    have HBL2 := Lib.hid (HBL.out.trans hbl2)
    clear hB2 hbl2 hB3
    go_wp2_with fail
    refine (Tryz.Builder_String_any w.heap.size w.heap.size (acc ++ [34]) _ HB2.out (by have := HBL2.out.size; omega)).mono ?_
    rintro e w3 ⟨rfl, hbl3⟩
    have HBL3 := Lib.hid (HBL2.out.trans hbl3)
    clear hbl3
    go_wp2_with fail
    go_ret2
    rw [HE.out]
    exact ⟨rfl, Ext.of_below HBL3.out⟩
end Go.Proofs.YtpnabjopfpdkhaaGreatDoor

namespace Go.Proofs.YtpnabjopfpdkhaaGreatDoor
open Go.RowKit
attribute [go_sem] more_more Array.size_append
end Go.Proofs.YtpnabjopfpdkhaaGreatDoor
