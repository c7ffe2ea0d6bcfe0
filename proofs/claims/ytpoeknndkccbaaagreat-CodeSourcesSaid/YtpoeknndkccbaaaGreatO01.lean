/- Lemmas. -/
import Derived.WalkKit
import Derived.ProofKit
import Derived.OpenShut
import Derived.ShutString
import Derived.ChangeOld
import Derived.Below
import Derived.WalkLawsBesides
import Derived.WalkSpells
import Derived.Lib.Hide
import Derived.Maps.AppendAt
import Derived.Deep.AppendLies
import Derived.Deep.AppendSrc
import Derived.Deep.Onto
import Derived.Carry
import Derived.SizedLaws
import Derived.ChangeSlices
import Derived.Lib.SmallJoins
set_option linter.unusedSimpArgs false
set_option linter.unusedVariables false
namespace Go.Proofs.YtpoeknndkccbaaaGreat
open Go.RowKit
structure Bx (P : Prop) : Prop where
  out : P
theorem yaa {T P : Prop} (kK : P) (h : P → T := by intro kK; refine Lex.nil fun WW hE => ?_; obtain ⟨dd, oo, rfl⟩ := hE; unfold FillH; revert dd oo; exact kK) : T := h kK
theorem yab {T P : Prop} (kK : P) (h : P → T := by intro kK; (try simp only [Act.put, List.getElem_toArray, List.getElem_cons_succ, List.getElem_cons_zero, List.setIfInBounds_toArray, List.set_cons_zero, List.set_cons_succ]); exact kK) : T := h kK
theorem yac {T P : Prop} (kK : P) (h : P → T := by intro kK; simp only [List.take_succ_cons, List.take_zero, List.drop_succ_cons, List.drop_zero]; exact kK) : T := h kK
theorem yad {T P : Prop} (kK : Bx P) (h : Bx P → T := by intro kK; refine qaa 19 114 [false, false, false, false, false, false, false, false, false, false, false, false, false, false, false, false, false, false, false] zad zad rfl ?_; exact kK.out) : T := h kK
theorem yae {T P : Prop} (kK : Bx P) (h : Bx P → T := by intro kK; have K5 := Lib.hid (KB.kept (show KB k5 #[.int .i64 zk, .int .i64 za, .int .i64 zb, .int .i64 zc, .int .i64 zx, .int .i64 zi, .string zs, .string zt] 42 _ from zaw) hfr HN5.out); revert K5; exact kK.out) : T := h kK
theorem yaf {T P : Prop} (kK : Bx P) (h : Bx P → T := by intro kK; have K5 := Lib.hid (KB.kept (show KB w.heap.size #[.int .i64 zk, .int .i64 za, .int .i64 zb, .int .i64 zc, .int .i64 zx, .int .i64 zi, .string zs, .string zt] 42 _ from zbd) hfr HNE.out); revert K5; exact kK.out) : T := h kK
theorem yag {T P : Prop} (kK : P) (h : P → T := by intro kK; (first | go_end0 | refine bodyPost_ret (results_none rfl _ _ _) rfl ?_); exact kK) : T := h kK
theorem yah {T P : Prop} (kK : Bx P) (h : Bx P → T := by intro kK; refine qaa 21 50 [false, false, false, false, false, false, false, false, false, false, false, false, false, false, false, false, false, false, false, false, false] zad zad rfl ?_; exact kK.out) : T := h kK
theorem yai {T P : Prop} (kK : Bx P) (h : Bx P → T := by intro kK; refine qaa 28 65 [false, false, false, false, false, false, false, false, false, false, false, false, false, false, false, false, false, false, false, false, false, false, false, false, false, false, false, false] zad zad rfl ?_; exact kK.out) : T := h kK
theorem yaj {T P : Prop} (kK : P) (h : P → T := by intro kK; have FL : RowKit.Hid (∀ (c : Int) w1, Ext w w1 → Calls Tryz.prog 54 #[.pointer (some ⟨b, 0, none⟩), .int .i64 c] w1 fun e w' => e = .returned (.tuple #[]) ∧ Ext w1 w') := Lib.hid fun c w1 hx => qbm hee (h.ext hx) c; revert FL; exact kK) : T := h kK
theorem yak {T P : Prop} (kK : Bx P) (h : Bx P → T := by intro kK; refine (qai (show CkSt W c H (.slice (some ⟨G, 0, none⟩) n cap) ns fi n g _ from zap) za 0 (j : Int) false zae hjs (fun q hq => Nat.le_trans (HB0.out q hq) zae)).mono ?_; exact kK.out) : T := h kK
theorem yal {T P : Prop} (kK : Bx P) (h : Bx P → T := by intro kK; refine (qai (show CkSt W c H (.slice (some ⟨G, 0, none⟩) n cap) ns fi n (addB true zc (addB B zb (addB A za g))) _ from zao) zx ((j : Int) + 1) (n : Int) true zae zae (fun q hq => Nat.le_trans (HB3.out q hq) zae)).mono ?_; exact kK.out) : T := h kK
theorem yam {T P : Prop} (kK : P) (h : P → T := by intro kK; have FL : RowKit.Hid (∀ (c : Int) w1, Ext w w1 → Calls Tryz.prog 79 #[.pointer (some ⟨b, 0, none⟩), .int .i64 c] w1 fun e w' => e = noV c (tk L m).2 ∧ Ext w1 w') := Lib.hid fun c w1 hx => qca (h.ext hx) c; revert FL; exact kK) : T := h kK
theorem yan {T P : Prop} (kK : Bx P) (h : Bx P → T := by intro kK; refine qaa 9 100 [false, false, false, false, false, false, false, false, false] zad zad rfl ?_; exact kK.out) : T := h kK
theorem yao {T : Prop} (h : T := by exact ⟨ret_bool zab, by rw [HA.out, HBq.out, HXq.out]; exact (show CkSt W c H (.slice (some ⟨G, 0, none⟩) n cap) ns fi n (addB false zx (addB true zc (addB B zb (addB A za g)))) _ from zah)⟩) : T := h
theorem yap {T P : Prop} (kK : P) (h : P → T := by intro kK; have TK : RowKit.Hid (∀ w1, Ext w w1 → Calls Tryz.prog 78 #[.pointer (some ⟨b, 0, none⟩)] w1 fun e w' => e = .returned (tokV (tk L m).1 (tk L m).2) ∧ Ext w1 w') := Lib.hid fun w1 hx => qbs (h.ext hx); revert TK; exact kK) : T := h kK
theorem yaq {T : Prop} (h : T := by exact ⟨ret_bool zab, by rw [HA.out, HBq.out, HXq.out]; exact (show CkSt W c H (.slice (some ⟨G, 0, none⟩) n cap) ns fi n (addB true zx (addB true zc (addB B zb (addB A za g)))) _ from zah)⟩) : T := h
theorem yar {T : Prop} (h : T := by exact ⟨ret_bool zab, by rw [HA.out, HBq.out, HXq.out]; exact (show CkSt W c H (.slice (some ⟨G, 0, none⟩) n cap) ns fi n (addB X zx (addB true zc (addB B zb (addB A za g)))) _ from zah)⟩) : T := h
theorem yas {T P : Prop} (kK : Bx P) (h : Bx P → T := by intro kK; refine (qai (show CkSt W c H (.slice (some ⟨G, 0, none⟩) n cap) ns fi n (addB false zc (addB B zb (addB A za g))) _ from zao) zx ((j : Int) + 1) (n : Int) true zae zae (fun q hq => Nat.le_trans (HB3.out q hq) zae)).mono ?_; exact kK.out) : T := h kK
theorem yat {T P : Prop} (kK : Bx P) (h : Bx P → T := by intro kK; refine (qba (show CkSt W c H (.slice (some ⟨G, 0, none⟩) n cap) ns fi n (addB A za g) _ from zbb) zb (j : Int) hjs (fun q hq => Nat.le_trans (HB1.out q hq) zae)).mono ?_; exact kK.out) : T := h kK
theorem yau {T P : Prop} (kK : Bx P) (h : Bx P → T := by intro kK; refine bodyPost_ret (v := .tuple #[.agg #[.int .i64 0, .int .i64 0, .string ⟨#[]⟩, .int .i64 0], .int .i64 8]) zaz rfl ?_; exact kK.out) : T := h kK
theorem yav {T : Prop} (h : T := by exact ⟨ret_bool zab, by rw [HA.out, HBq.out, HXq.out]; exact (show CkSt W c H (.slice (some ⟨G, 0, none⟩) n cap) ns fi n (addB false zx (addB false zc (addB B zb (addB A za g)))) _ from zah)⟩) : T := h
theorem yaw {T : Prop} (h : T := by exact ⟨ret_bool zab, by rw [HA.out, HBq.out, HXq.out]; exact (show CkSt W c H (.slice (some ⟨G, 0, none⟩) n cap) ns fi n (addB true zx (addB false zc (addB B zb (addB A za g)))) _ from zah)⟩) : T := h
theorem yax {T P : Prop} (kK : P) (h : P → T := by intro kK; have HB2 := Lib.hid (fun q hq => qaf B zb (addB A za g) q 8001 (HB1.out q hq)); revert HB2; exact kK) : T := h kK
theorem yay {T : Prop} (h : T := by exact ⟨ret_bool zab, by rw [HA.out, HBq.out, HXq.out]; exact (show CkSt W c H (.slice (some ⟨G, 0, none⟩) n cap) ns fi n (addB X zx (addB false zc (addB B zb (addB A za g)))) _ from zah)⟩) : T := h
theorem yaz {T : Prop} (h : T := by exact bodyPost_ret (v := .tuple #[.agg #[.int .i64 2, .int .i64 (k : Int), .string ⟨#[]⟩, .int .i64 v], .int .i64 (m : Int), .int .i64 0]) zar rfl (OnePost.mk 2 k ⟨#[]⟩ v m rfl (fun _ => ⟨rfl, rfl, rfl, rfl, by rw [HE.out]⟩) zaf)) : T := h
theorem yba {T : Prop} (h : T := by exact bodyPost_ret (v := .tuple #[.agg #[.int .i64 0, .int .i64 (k : Int), .string ⟨#[]⟩, .int .i64 0], .int .i64 0, .int .i64 8]) zar rfl (OnePost.mk 0 k ⟨#[]⟩ 0 0 (by rw [HR3.out]) (fun h0 => by have := HR3.out; omega) zaf)) : T := h
theorem ybb {T : Prop} (h : T := by exact ⟨(Ext.refl _).alloc _, NewBlk.of_alloc _ _ _ _ _ zbl⟩) : T := h
theorem ybc {T P : Prop} (kK : Bx P) (h : Bx P → T := by intro kK; refine qaa 8 100 [false, false, false, false, false, false, false, false] zad zad rfl ?_; exact kK.out) : T := h kK
theorem ybd {T P : Prop} (kK : Bx P) (h : Bx P → T := by intro kK; refine qaa 11 36 [false, false, false, false, false, false, false, false, false, false, false] zad zad rfl ?_; exact kK.out) : T := h kK
theorem ybe {T P : Prop} (kK : Bx P) (h : Bx P → T := by intro kK; (have HS4 := Lib.hid (HS3.out.idB true zx (fun _ => by simpa using qx))); revert HS4; exact kK.out) : T := h kK
theorem ybf {T P : Prop} (kK : Bx P) (h : Bx P → T := by intro kK; have K6 := Lib.hid (KB.kept (show KB k6 #[.bool true, .bool false, .bool true, .bool true, .bool bS, .bool bT] 137 _ from zax) hfr HN6.out); revert K6; exact kK.out) : T := h kK
theorem ybg {T P : Prop} (kK : P) (h : P → T := by intro kK; have HB1 := Lib.hid (fun q hq => qaf A za g q 8000 (HB0.out q hq)); revert HB1; exact kK) : T := h kK
theorem ybh {T P : Prop} (kK : Bx P) (h : Bx P → T := by intro kK; have H1 := Lib.hid (US.start (hs.cast (List.append_nil N)) ((KW.out.ext zaa).trans hk)); revert H1; exact kK.out) : T := h kK
theorem ybi {T P : Prop} (kK : P) (h : P → T := by intro kK; have hzd : decide (20 ≤ zk) = false := decide_eq_false hz20; revert hzd; exact kK) : T := h kK
theorem ybj {T P : Prop} (kK : Bx P) (h : Bx P → T := by intro kK; have KD := Lib.hid (fun w1 hx => qbe (h.ext (w1 := w1) hx) 5 zal _ (qbx hk5)); revert KD; exact kK.out) : T := h kK
theorem ybk {T P : Prop} (kK : P) (h : P → T := by intro kK; have hzd : decide (20 ≤ zk) = true := decide_eq_true hz20; revert hzd; exact kK) : T := h kK
theorem ybl {T P : Prop} (kK : P) (h : P → T := by intro kK; have H0 := Lib.hid (h.locNew (.cells #[.int .i64 zk, .int .i64 za, .int .i64 zb, .int .i64 zc, .int .i64 zx, .int .i64 zi, .string zs, .string zt] 42 (0, 0))); revert H0; exact kK) : T := h kK
theorem ybm {T P : Prop} (kK : Bx P) (h : Bx P → T := by intro kK; refine leaves_cons (f := 48) (args := #[.pointer (some ⟨w.heap.size, 0, none⟩), .pointer (some ⟨w.heap.size + 1, 0, none⟩), .pointer (some ⟨w.heap.size + 1 + 1, 0, none⟩)]) zan (by simp [go_sem]) ?_; exact kK.out) : T := h kK
theorem ybn {T P : Prop} (kK : P) (h : P → T := by intro kK; have HB4 := Lib.hid (fun q hq => qaf false zx (addB true zc (addB B zb (addB A za g))) q 8003 (HB3.out q hq)); revert HB4; exact kK) : T := h kK
theorem ybo {T P : Prop} (kK : Bx P) (h : Bx P → T := by intro kK; refine qaa 11 27 [false, false, false, false, false, false, false, false, false, false, false] zad zad rfl ?_; exact kK.out) : T := h kK
theorem ybp {T P : Prop} (kK : P) (h : P → T := by intro kK; have HB4 := Lib.hid (fun q hq => qaf true zx (addB true zc (addB B zb (addB A za g))) q 8003 (HB3.out q hq)); revert HB4; exact kK) : T := h kK
theorem ybq {T P : Prop} (kK : Bx P) (h : Bx P → T := by intro kK; have K6 := Lib.hid (KB.kept (show KB k6 #[.bool true, .bool true, .bool false, .bool false, .bool bS, .bool bT] 137 _ from zax) hfr HN6.out); revert K6; exact kK.out) : T := h kK
theorem ybr {T P : Prop} (kK : Bx P) (h : Bx P → T := by intro kK; have K6 := Lib.hid (KB.kept (show KB k6 #[.bool true, .bool false, .bool true, .bool false, .bool bS, .bool bT] 137 _ from zax) hfr HN6.out); revert K6; exact kK.out) : T := h kK
theorem ybs {T P : Prop} (kK : P) (h : P → T := by intro kK; have HB4 := Lib.hid (fun q hq => qaf X zx (addB true zc (addB B zb (addB A za g))) q 8003 (HB3.out q hq)); revert HB4; exact kK) : T := h kK
theorem ybt {T P : Prop} (kK : Bx P) (h : Bx P → T := by intro kK; refine qaa 25 39 [false, false, false, false, false, false, false, false, false, false, false, false, false, false, false, false, false, false, false, false, false, false, false, false, false] zad zad rfl ?_; exact kK.out) : T := h kK
theorem ybu {T P : Prop} (kK : P) (h : P → T := by intro kK; have EBB := Lib.hid (fun W (hx : Ext w W) => hbb ▸ qaS fi (own_ext HR.out hx) zb j (Int.le_of_lt hj1)); revert EBB; exact kK) : T := h kK
theorem ybv {T P : Prop} (kK : P) (h : P → T := by intro kK; have EA := Lib.hid (fun W (hx : Ext w W) => hab ▸ qbt fi (own_ext HR.out hx) za j (Int.le_of_lt hj1)); revert EA; exact kK) : T := h kK
theorem ybw {T P : Prop} (kK : P) (h : P → T := by intro kK; have EB := Lib.hid (fun W (hx : Ext w W) => heb ▸ qbt fi (own_ext HR.out hx) zb j (Int.le_of_lt hj1)); revert EB; exact kK) : T := h kK
theorem ybx {T P : Prop} (kK : P) (h : P → T := by intro kK; have EC := Lib.hid (fun W (hx : Ext w W) => hcb ▸ qaS fi (own_ext HR.out hx) zc j (Int.le_of_lt hj1)); revert EC; exact kK) : T := h kK
theorem yby {T P : Prop} (kK : Bx P) (h : Bx P → T := by intro kK; refine bodyPost_ret (v := .tuple #[.agg #[.int .i64 r.k, .int .i64 ((k : Int) + n), .string r.s, .int .i64 r.i], .int .i64 e, .bool true]) zbx rfl ?_; exact kK.out) : T := h kK
theorem ybz {T P : Prop} (kK : P) (h : P → T := by intro kK; have HS : RowKit.Hid (m + 1 < L.length → Hid (PS b lb lo cap L m N nv w [] (.ok ((), m + 1, [])) (w.setCell ⟨b, 1, none⟩ (.int .i64 ((m : Int) + 1))))) := Lib.hid fun hx => PS.step h (Ext.refl w) hx; revert HS; exact kK) : T := h kK
theorem yca {T P : Prop} (kK : P) (h : P → T := by intro kK; have C0 := Lib.hid (fun w1 hw => hE.out (L := N) h0 w1 hw); revert C0; exact kK) : T := h kK
theorem ycb {T P : Prop} (kK : Bx P) (h : Bx P → T := by intro kK; (have hjn : (j : Int) < (n : Int) := by omega); revert hjn; exact kK.out) : T := h kK
theorem ycc {T P : Prop} (kK : Bx P) (h : Bx P → T := by intro kK; refine qaa 9 50 [false, false, false, false, false, false, false, false, false] zad zad rfl ?_; exact kK.out) : T := h kK
theorem ycd {T P : Prop} (kK : P) (h : P → T := by intro kK; have HB3 := Lib.hid (fun q hq => qaf true zc (addB B zb (addB A za g)) q 8002 (HB2.out q hq)); revert HB3; exact kK) : T := h kK
theorem yce {T P : Prop} (kK : Bx P) (h : Bx P → T := by intro kK; have HS4 := Lib.hid (HS3.out.idB false zx zan); revert HS4; exact kK.out) : T := h kK
theorem ycf {T P : Prop} (kK : P) (h : P → T := by intro kK; have HB4 := Lib.hid (fun q hq => qaf false zx (addB false zc (addB B zb (addB A za g))) q 8003 (HB3.out q hq)); revert HB4; exact kK) : T := h kK
theorem ycg {T P : Prop} (kK : P) (h : P → T := by intro kK; have HB4 := Lib.hid (fun q hq => qaf true zx (addB false zc (addB B zb (addB A za g))) q 8003 (HB3.out q hq)); revert HB4; exact kK) : T := h kK
theorem ych {T P : Prop} (kK : P) (h : P → T := by intro kK; have HB4 := Lib.hid (fun q hq => qaf X zx (addB false zc (addB B zb (addB A za g))) q 8003 (HB3.out q hq)); revert HB4; exact kK) : T := h kK
theorem yci {T P : Prop} (kK : Bx P) (h : Bx P → T := by intro kK; (have NN := Lib.hid (fun h => qdj (zt := zt) h (show nameOk ⟨#[]⟩ = false by kernel_rfl))); revert NN; exact kK.out) : T := h kK
theorem ycj {T P : Prop} (kK : P) (h : P → T := by intro kK; have hd : s.data.toList.drop m = s[m]'hlt :: s.data.toList.drop (m + 1) := List.drop_eq_getElem_cons hml; revert hd; exact kK) : T := h kK
theorem yck {T P : Prop} (kK : Bx P) (h : Bx P → T := by intro kK; refine qaa 19 87 [false, false, false, false, false, false, false, false, false, false, false, false, false, false, false, false, false, false, false] zad zad rfl ?_; exact kK.out) : T := h kK
theorem ycl {T P : Prop} (kK : Bx P) (h : Bx P → T := by intro kK; refine bodyPost_ret (v := .tuple #[.agg #[.int .i64 2, .int .i64 0, .string ⟨#[]⟩, .int .i64 V], .int .i64 0]) zaz rfl ?_; exact kK.out) : T := h kK
theorem ycm {T P : Prop} (kK : Bx P) (h : Bx P → T := by intro kK; refine qaa 9 62 [false, false, false, false, false, false, false, false, false] zad zad rfl ?_; exact kK.out) : T := h kK
theorem ycn {T P : Prop} (kK : P) (h : P → T := by intro kK; have HB3 := Lib.hid (fun q hq => qaf false zc (addB B zb (addB A za g)) q 8002 (HB2.out q hq)); revert HB3; exact kK) : T := h kK
theorem yco {T P : Prop} (kK : Bx P) (h : Bx P → T := by intro kK; (refine wpAnyH_take (i := 8) (oi := _) (v := .pointer (some ⟨c, 0, none⟩)) rfl zad zad zad (fun _ _ _ h => h) (Or.inl ⟨by rfl, fun W hW => by go_simp⟩) hS ?_); exact kK.out) : T := h kK
theorem ycp {T : Prop} (h : T := by exact RPost.err HC.out ⟨_, rfl⟩ zbk (by repeat (first | (with_reducible exact HKE.out) | (with_reducible apply Kp.alloc) | (with_reducible apply Kp.more)))) : T := h
theorem ycq {T : Prop} (h : T := by exact ⟨by (rw [HQ.out]; rfl), HX.out⟩) : T := h
theorem ycr {T P : Prop} (kK : P) (h : P → T := by intro kK; have NC := Lib.hid (fun za zb zc zx zi W => qbD 11 za zb zc zx zi zs zt W); revert NC; exact kK) : T := h kK
theorem ycs {T P : Prop} (kK : P) (h : P → T := by intro kK; have NM := Lib.hid (fun w1 => qcB zk za zb zc zx zi zs zt w1); revert NM; exact kK) : T := h kK
theorem yct {T P : Prop} (kK : Bx P) (h : Bx P → T := by intro kK; (have HS3 := Lib.hid (HS2.out.idB true zc (fun _ => by simpa using qc))); revert HS3; exact kK.out) : T := h kK
theorem ycu {T : Prop} (h : T := by exact ⟨⟨⟨#[]⟩, 0, by simp [HE.out], fun h0 => by have := HE.out; omega⟩, rfl⟩) : T := h
theorem ycv {T P : Prop} (kK : Bx P) (h : Bx P → T := by intro kK; refine qaa 9 36 [false, false, false, false, false, false, false, false, false] zad zad rfl ?_; exact kK.out) : T := h kK
theorem ycw {T : Prop} (h : T := by exact PPost.res rfl HS1.out (((Kp.refl b nv w).alloc _).trans HK1.out) HM1.out) : T := h
theorem ycx {T : Prop} (h : T := by exact ⟨rfl, H3.out.sub fun q hq => HNO.out q hq⟩) : T := h
theorem ycy {T : Prop} (h : T := by exact ⟨rfl, PPost.err rfl (((Kp.refl b nv w).alloc _).trans HK1.out)⟩) : T := h
theorem ycz {T : Prop} (h : T := by exact ⟨ret_int (by rw [HE.out]; rfl), Ext.refl _⟩) : T := h
variable {a w w' : World}
theorem zaa {T : Prop} (h : T := by repeat (first | (with_reducible exact Ext.refl _) | (with_reducible apply Ext.alloc) | (with_reducible apply Ext.more) | (with_reducible apply Ext.drew))) : T := h
theorem zab {T : Prop} (h : T := by rw [HA.out, HBq.out, HXq.out]; first | rfl | (simp only [Bool.and_true, Bool.and_false, Bool.true_and, Bool.false_and]; done) | (cases A <;> cases B <;> cases X <;> first | rfl | contradiction | (exfalso; have h1 := HA.out; have h2 := HBq.out; revert h1 h2; simp [*])) | (cases A <;> cases B <;> first | rfl | contradiction | (exfalso; have h1 := HA.out; have h2 := HBq.out; revert h1 h2; simp [*]))) : T := h
theorem zac {T : Prop} (h : T := by repeat (first | exact Ext.refl _ | apply Ext.alloc | apply Ext.more)) : T := h
theorem zad {T : Prop} (h : T := by kernel_rfl) : T := h
theorem zae {T : Prop} (h : T := by omega) : T := h
theorem zaf {T : Prop} (h : T := by repeat (first | exact Ext.refl _ | apply Ext.alloc | apply Ext.more | (refine Ext.setCell ?_ (by simp) _))) : T := h
theorem zag {T : Prop} (h : T := by repeat (first | (with_reducible exact Ext.refl _) | (with_reducible apply Ext.alloc) | (with_reducible apply Ext.drew))) : T := h
theorem zah {T : Prop} (h : T := by repeat (first | (with_reducible exact HS4.out) | (with_reducible apply CkSt.alloc) | (with_reducible apply CkSt.more))) : T := h
theorem zai {T : Prop} (h : T := by first | with_reducible rfl | (simp only [more_size, World.size_setCell, World.size_alloc, Array.size_append] <;> omega)) : T := h
theorem zaj {T : Prop} (h : T := by repeat (first | (with_reducible exact HLL.out) | (with_reducible apply LexAt.more) | (with_reducible apply LexAt.alloc) | ((with_reducible refine LexAt.other ?_ ?_ _); rotate_left; (show w.heap.size ≠ b; omega)) | ((with_reducible refine LexAt.set HLL.out _ _ ?_); omega))) : T := h
theorem zak {T : Prop} (h : T := by repeat (first | (with_reducible exact HG.out) | (with_reducible refine qau ?_ (Ext.more (Ext.refl _) _ _)) | ((with_reducible refine grown_new ?_ ?_ _); rotate_left; exact Nat.le_refl w.heap.size) | (with_reducible refine qbr ?_ _ _))) : T := h
theorem zal {T : Prop} (h : T := by decide) : T := h
theorem zam {T : Prop} (h : T := by have h1 := HA.out; have h2 := HB.out; have h3 := HBB.out; have h4 := HC.out; have h6 := NN.out; have h7 := HQ.out; (try have h5 := HX.out); rw [← HR0.out]; simp_all [nodeB, qdx, aB, bB, cB, xB, qbo, numOk, txt1, txt2, shA, shB, shBB, shBC, shS, shT] <;> (intros; omega)) : T := h
theorem zan {T : Prop} (h : T := by simp) : T := h
theorem zao {T : Prop} (h : T := by repeat (first | (with_reducible exact HS3.out) | (with_reducible apply CkSt.alloc) | (with_reducible apply CkSt.more))) : T := h
theorem zap {T : Prop} (h : T := by repeat (first | (with_reducible exact HS0.out) | (with_reducible apply CkSt.alloc) | (with_reducible apply CkSt.more))) : T := h
theorem zaq {T : Prop} (h : T := by rw [HA.out, HBq.out, HXq.out, HCq.out]; first | rfl | (simp only [Bool.and_true, Bool.and_false, Bool.true_and, Bool.false_and]; done) | (cases A <;> cases B <;> cases C <;> cases X <;> first | rfl | contradiction | (exfalso; have h1 := HA.out; have h2 := HBq.out; revert h1 h2; simp [*])) | (cases A <;> cases B <;> cases C <;> first | rfl | contradiction | (exfalso; have h1 := HA.out; have h2 := HBq.out; revert h1 h2; simp [*]))) : T := h
theorem zar {T : Prop} (h : T := by simp [results, Tryz.results52, go_sem]) : T := h
theorem zas {T : Prop} (h : T := by repeat (first | exact HL.out | apply LexAt.alloc | apply LexAt.more | (refine LexAt.set ?_ _ _ (by first | rfl | omega)))) : T := h
theorem zat {T : Prop} (h : T := by have := HBD.out; (try simp only [List.length_append, List.length_cons, List.length_nil] at this ⊢); unfold maxLen; omega) : T := h
theorem zau {T : Prop} (h : T := by repeat (first | (with_reducible exact hxw) | (with_reducible exact Ext.refl _) | (with_reducible apply Ext.alloc) | (with_reducible apply Ext.drew))) : T := h
theorem zav {T : Prop} (h : T := by repeat (first | exact KB.newAt _ _ _ (by simp [more_size]) | apply KB.alloc | apply KB.more)) : T := h
theorem zaw {T : Prop} (h : T := by repeat (first | exact K5.out | apply KB.alloc | apply KB.more)) : T := h
theorem zax {T : Prop} (h : T := by repeat (first | exact K6.out | apply KB.alloc | apply KB.more)) : T := h
theorem zay {T : Prop} (h : T := by have := HBD.out; (try simp only [List.length_append, List.length_cons, List.length_nil] at this ⊢); omega) : T := h
theorem zaz {T : Prop} (h : T := by simp [results, Tryz.results74, go_sem]) : T := h
theorem zba {T : Prop} (h : T := by simp; omega) : T := h
theorem zbb {T : Prop} (h : T := by repeat (first | (with_reducible exact HS1.out) | (with_reducible apply CkSt.alloc) | (with_reducible apply CkSt.more))) : T := h
theorem zbc {T : Prop} (h : T := by first | rfl | (simp; done) | (simp; omega)) : T := h
theorem zbd {T : Prop} (h : T := by repeat (first | exact KB.new _ _ _ | apply KB.alloc | apply KB.more)) : T := h
theorem zbe {T : Prop} (h : T := by repeat (first | (with_reducible exact HG1.out) | (with_reducible refine qau ?_ (Ext.more (Ext.refl _) _ _)) | ((with_reducible refine grown_new ?_ ?_ _); rotate_left; exact Nat.le_refl w.heap.size) | (with_reducible refine qbr ?_ _ _))) : T := h
theorem zbf {T : Prop} (h : T := by repeat (first | (with_reducible exact HB.out) | (with_reducible apply qfj) | ((with_reducible refine bld_set ?_ ?_ _); rotate_left; omega))) : T := h
theorem zbg {T : Prop} (h : T := by repeat (first | (with_reducible exact Ext.refl _) | (with_reducible apply Ext.alloc))) : T := h
theorem zbh {T : Prop} (h : T := by simp only [List.length_append, List.length_cons, List.length_nil] <;> omega) : T := h
theorem zbi {T : Prop} (h : T := by repeat (first | (with_reducible exact HS4.out) | (with_reducible apply Rt.alloc) | (with_reducible apply Rt.more))) : T := h
theorem zbj {T : Prop} (h : T := by repeat (first | (with_reducible exact HK4.out) | (with_reducible apply Kp.alloc) | (with_reducible apply Kp.more))) : T := h
theorem zbk {T : Prop} (h : T := by repeat (first | (with_reducible exact HSE.out) | (with_reducible apply Rt.alloc) | (with_reducible apply Rt.more))) : T := h
theorem zbl {T : Prop} (h : T := by simp [more_size]) : T := h
theorem zbm {T : Prop} (h : T := by simp only [cellsB_length, List.length_append, List.length_cons, List.length_nil]; have := HAL.out; omega) : T := h
theorem zbn {T : Prop} (h : T := by simp [results, Tryz.results75, t0, t1, t2, t3, tf, hne, hne2, ht, hb, go_sem]) : T := h
theorem zbo {T : Prop} (h : T := by repeat (first | (with_reducible exact Ext.refl _) | (with_reducible exact Ext.refl _) | (with_reducible apply Ext.alloc) | (with_reducible apply Ext.drew))) : T := h
theorem zbp {T : Prop} (h : T := by repeat (first | (with_reducible exact HXr.out) | (with_reducible apply Ext.alloc) | (with_reducible apply Ext.more) | (with_reducible apply Ext.drew))) : T := h
theorem zbq {T : Prop} (h : T := by repeat (first | (with_reducible exact HL.out) | (with_reducible apply LexAt.alloc) | (with_reducible apply LexAt.more))) : T := h
theorem zbr {T : Prop} (h : T := by repeat (first | (with_reducible apply LexAt.more) | (with_reducible apply LexAt.alloc) | ((with_reducible refine LexAt.set HL.out _ _ ?_); omega))) : T := h
theorem zbs {T : Prop} (h : T := by unfold nodeB aB bB cB xB; dsimp only; rw [hh, sA, sB, sC, sD, hL]; simp) : T := h
theorem zbt {T : Prop} (h : T := by have := HG2.out; (try simp only [List.length_append, List.length_cons, List.length_nil] at this ⊢); omega) : T := h
theorem zbu {T : Prop} (h : T := by intro u hu; simp at hu; rcases hu with rfl | rfl | rfl | rfl <;> rfl) : T := h
theorem zbv {T : Prop} (h : T := by intro u hu; simp at hu; subst hu; rfl) : T := h
theorem zbw {T : Prop} (h : T := by have := HG2.out; omega) : T := h
theorem zbx {T : Prop} (h : T := by simp [results, Tryz.results47, go_sem]) : T := h
theorem zby {T : Prop} (h : T := by simp [results, Tryz.results24, go_sem]) : T := h
theorem zbz {T : Prop} (h : T := by unfold maxLen; omega) : T := h
theorem zca {T : Prop} (h : T := by repeat (first | exact Ext.refl _ | apply Ext.more)) : T := h
theorem zcb {T : Prop} (h : T := by dsimp only; omega) : T := h
theorem zcc {T : Prop} (h : T := by rw [hb]; simp) : T := h
def more (w : World) (d : Nat) (os : Array Obj) : World := { w with drawn := d, heap := w.heap ++ os }
theorem more_size (w : World) (d : Nat) (os : Array Obj) : (more w d os).heap.size = w.heap.size + os.size := by simp [more]
theorem more_heap (w : World) (d : Nat) (os : Array Obj) (b : Nat) (h : b < w.heap.size) : (more w d os).heap[b]? = w.heap[b]? := by
 simp [more, Array.getElem?_append, h]
theorem qdX (w : World) (d : Nat) (os : Array Obj) (b i : Nat) (h : b < w.heap.size) : (more w d os).cell? ⟨b, i, none⟩ = w.cell? ⟨b, i, none⟩ :=
 World.cell?_of_block (more_heap w d os b h)
theorem more_frozen (w : World) (d : Nat) (os : Array Obj) (b i : Nat) (h : b < w.heap.size) : (more w d os).frozen? ⟨b, i, none⟩ = w.frozen? ⟨b, i, none⟩ :=
 World.frozen?_of_block (more_heap w d os b h)
theorem more_tape (w : World) (d : Nat) (os : Array Obj) : (more w d os).tape = w.tape := rfl
theorem more_os (w : World) (d : Nat) (os : Array Obj) : (more w d os).os = w.os := rfl
theorem more_drawn (w : World) (d : Nat) (os : Array Obj) : (more w d os).drawn = d := rfl
theorem more_drew (w : World) (d : Nat) (os : Array Obj) : (more w d os).drew = more w (d + 1) os := rfl
theorem drew_more (w : World) (d : Nat) (os : Array Obj) : more w.drew d os = more w d os := rfl
theorem more_drewN (w : World) (d n : Nat) (os : Array Obj) : (more w d os).drewN n = more w (d + n) os := rfl
theorem drewN_more (w : World) (d n : Nat) (os : Array Obj) : more (w.drewN n) d os = more w d os := rfl
theorem more_shape (w : World) (d : Nat) (os : Array Obj) (b : Nat) (h : b < w.heap.size) : (more w d os).shape? b = w.shape? b := by
 simp [World.shape?, more_heap w d os b h]
theorem more_setCell (w : World) (d : Nat) (os : Array Obj) (b i : Nat) (v : Value) (h : b < w.heap.size) :
  (more w d os).setCell ⟨b, i, none⟩ v = more (w.setCell ⟨b, i, none⟩ v) d os := by
 unfold World.setCell more
 congr 1
 apply Array.ext_getElem?
 intro k
 simp only [Array.getElem?_modify, Array.getElem?_append, Array.size_modify]
 by_cases hk : b = k
 · subst hk; simp [h]
 · simp [hk]
theorem more_more (w : World) (d d' : Nat) (os os' : Array Obj) : more (more w d os) d' os' = more w d' (os ++ os') := by simp [more, Array.append_assoc]
theorem ltF1 (a : Nat) (b0 : Nat) : a < a + 1 + b0 := by omega
theorem leF1 (a : Nat) (b0 : Nat) : a ≤ a + b0 := by omega
theorem neF1 (a : Nat) (b0 : Nat) : (a = a + 1 + b0) = False := by simp; omega
theorem neG1 (a : Nat) (b0 : Nat) : (a + 1 + b0 = a) = False := by simp; omega
theorem ltF2 (a : Nat) (b0 b1 : Nat) : a < a + 1 + b0 + b1 := by omega
theorem leF2 (a : Nat) (b0 b1 : Nat) : a ≤ a + b0 + b1 := by omega
theorem neF2 (a : Nat) (b0 b1 : Nat) : (a = a + 1 + b0 + b1) = False := by simp; omega
theorem neG2 (a : Nat) (b0 b1 : Nat) : (a + 1 + b0 + b1 = a) = False := by simp; omega
theorem ltF3 (a : Nat) (b0 b1 b2 : Nat) : a < a + 1 + b0 + b1 + b2 := by omega
theorem leF3 (a : Nat) (b0 b1 b2 : Nat) : a ≤ a + b0 + b1 + b2 := by omega
theorem neF3 (a : Nat) (b0 b1 b2 : Nat) : (a = a + 1 + b0 + b1 + b2) = False := by simp; omega
theorem neG3 (a : Nat) (b0 b1 b2 : Nat) : (a + 1 + b0 + b1 + b2 = a) = False := by simp; omega
theorem ltF4 (a : Nat) (b0 b1 b2 b3 : Nat) : a < a + 1 + b0 + b1 + b2 + b3 := by omega
theorem leF4 (a : Nat) (b0 b1 b2 b3 : Nat) : a ≤ a + b0 + b1 + b2 + b3 := by omega
theorem neF4 (a : Nat) (b0 b1 b2 b3 : Nat) : (a = a + 1 + b0 + b1 + b2 + b3) = False := by simp; omega
theorem neG4 (a : Nat) (b0 b1 b2 b3 : Nat) : (a + 1 + b0 + b1 + b2 + b3 = a) = False := by simp; omega
theorem ltF5 (a : Nat) (b0 b1 b2 b3 b4 : Nat) : a < a + 1 + b0 + b1 + b2 + b3 + b4 := by omega
theorem leF5 (a : Nat) (b0 b1 b2 b3 b4 : Nat) : a ≤ a + b0 + b1 + b2 + b3 + b4 := by omega
theorem neF5 (a : Nat) (b0 b1 b2 b3 b4 : Nat) : (a = a + 1 + b0 + b1 + b2 + b3 + b4) = False := by simp; omega
theorem neG5 (a : Nat) (b0 b1 b2 b3 b4 : Nat) : (a + 1 + b0 + b1 + b2 + b3 + b4 = a) = False := by simp; omega
theorem ltF6 (a : Nat) (b0 b1 b2 b3 b4 b5 : Nat) : a < a + 1 + b0 + b1 + b2 + b3 + b4 + b5 := by omega
theorem leF6 (a : Nat) (b0 b1 b2 b3 b4 b5 : Nat) : a ≤ a + b0 + b1 + b2 + b3 + b4 + b5 := by omega
theorem neF6 (a : Nat) (b0 b1 b2 b3 b4 b5 : Nat) : (a = a + 1 + b0 + b1 + b2 + b3 + b4 + b5) = False := by simp; omega
theorem neG6 (a : Nat) (b0 b1 b2 b3 b4 b5 : Nat) : (a + 1 + b0 + b1 + b2 + b3 + b4 + b5 = a) = False := by simp; omega
theorem ltF7 (a : Nat) (b0 b1 b2 b3 b4 b5 b6 : Nat) : a < a + 1 + b0 + b1 + b2 + b3 + b4 + b5 + b6 := by omega
theorem leF7 (a : Nat) (b0 b1 b2 b3 b4 b5 b6 : Nat) : a ≤ a + b0 + b1 + b2 + b3 + b4 + b5 + b6 := by omega
theorem neF7 (a : Nat) (b0 b1 b2 b3 b4 b5 b6 : Nat) : (a = a + 1 + b0 + b1 + b2 + b3 + b4 + b5 + b6) = False := by simp; omega
theorem neG7 (a : Nat) (b0 b1 b2 b3 b4 b5 b6 : Nat) : (a + 1 + b0 + b1 + b2 + b3 + b4 + b5 + b6 = a) = False := by simp; omega
theorem ltF8 (a : Nat) (b0 b1 b2 b3 b4 b5 b6 b7 : Nat) : a < a + 1 + b0 + b1 + b2 + b3 + b4 + b5 + b6 + b7 := by omega
theorem leF8 (a : Nat) (b0 b1 b2 b3 b4 b5 b6 b7 : Nat) : a ≤ a + b0 + b1 + b2 + b3 + b4 + b5 + b6 + b7 := by omega
theorem neF8 (a : Nat) (b0 b1 b2 b3 b4 b5 b6 b7 : Nat) : (a = a + 1 + b0 + b1 + b2 + b3 + b4 + b5 + b6 + b7) = False := by simp; omega
theorem neG8 (a : Nat) (b0 b1 b2 b3 b4 b5 b6 b7 : Nat) : (a + 1 + b0 + b1 + b2 + b3 + b4 + b5 + b6 + b7 = a) = False := by simp; omega
theorem ltF9 (a : Nat) (b0 b1 b2 b3 b4 b5 b6 b7 b8 : Nat) : a < a + 1 + b0 + b1 + b2 + b3 + b4 + b5 + b6 + b7 + b8 := by omega
theorem leF9 (a : Nat) (b0 b1 b2 b3 b4 b5 b6 b7 b8 : Nat) : a ≤ a + b0 + b1 + b2 + b3 + b4 + b5 + b6 + b7 + b8 := by omega
theorem neF9 (a : Nat) (b0 b1 b2 b3 b4 b5 b6 b7 b8 : Nat) : (a = a + 1 + b0 + b1 + b2 + b3 + b4 + b5 + b6 + b7 + b8) = False := by simp; omega
theorem neG9 (a : Nat) (b0 b1 b2 b3 b4 b5 b6 b7 b8 : Nat) : (a + 1 + b0 + b1 + b2 + b3 + b4 + b5 + b6 + b7 + b8 = a) = False := by simp; omega
theorem ltF10 (a : Nat) (b0 b1 b2 b3 b4 b5 b6 b7 b8 b9 : Nat) : a < a + 1 + b0 + b1 + b2 + b3 + b4 + b5 + b6 + b7 + b8 + b9 := by omega
theorem leF10 (a : Nat) (b0 b1 b2 b3 b4 b5 b6 b7 b8 b9 : Nat) : a ≤ a + b0 + b1 + b2 + b3 + b4 + b5 + b6 + b7 + b8 + b9 := by omega
theorem neF10 (a : Nat) (b0 b1 b2 b3 b4 b5 b6 b7 b8 b9 : Nat) : (a = a + 1 + b0 + b1 + b2 + b3 + b4 + b5 + b6 + b7 + b8 + b9) = False := by simp; omega
theorem neG10 (a : Nat) (b0 b1 b2 b3 b4 b5 b6 b7 b8 b9 : Nat) : (a + 1 + b0 + b1 + b2 + b3 + b4 + b5 + b6 + b7 + b8 + b9 = a) = False := by simp; omega
theorem ltF11 (a : Nat) (b0 b1 b2 b3 b4 b5 b6 b7 b8 b9 b10 : Nat) : a < a + 1 + b0 + b1 + b2 + b3 + b4 + b5 + b6 + b7 + b8 + b9 + b10 := by omega
theorem leF11 (a : Nat) (b0 b1 b2 b3 b4 b5 b6 b7 b8 b9 b10 : Nat) : a ≤ a + b0 + b1 + b2 + b3 + b4 + b5 + b6 + b7 + b8 + b9 + b10 := by omega
theorem neF11 (a : Nat) (b0 b1 b2 b3 b4 b5 b6 b7 b8 b9 b10 : Nat) : (a = a + 1 + b0 + b1 + b2 + b3 + b4 + b5 + b6 + b7 + b8 + b9 + b10) = False := by simp; omega
theorem neG11 (a : Nat) (b0 b1 b2 b3 b4 b5 b6 b7 b8 b9 b10 : Nat) : (a + 1 + b0 + b1 + b2 + b3 + b4 + b5 + b6 + b7 + b8 + b9 + b10 = a) = False := by simp; omega
theorem ltF12 (a : Nat) (b0 b1 b2 b3 b4 b5 b6 b7 b8 b9 b10 b11 : Nat) : a < a + 1 + b0 + b1 + b2 + b3 + b4 + b5 + b6 + b7 + b8 + b9 + b10 + b11 := by omega
theorem leF12 (a : Nat) (b0 b1 b2 b3 b4 b5 b6 b7 b8 b9 b10 b11 : Nat) : a ≤ a + b0 + b1 + b2 + b3 + b4 + b5 + b6 + b7 + b8 + b9 + b10 + b11 := by omega
theorem neF12 (a : Nat) (b0 b1 b2 b3 b4 b5 b6 b7 b8 b9 b10 b11 : Nat) : (a = a + 1 + b0 + b1 + b2 + b3 + b4 + b5 + b6 + b7 + b8 + b9 + b10 + b11) = False := by simp; omega
theorem neG12 (a : Nat) (b0 b1 b2 b3 b4 b5 b6 b7 b8 b9 b10 b11 : Nat) : (a + 1 + b0 + b1 + b2 + b3 + b4 + b5 + b6 + b7 + b8 + b9 + b10 + b11 = a) = False := by simp; omega
theorem ltF13 (a : Nat) (b0 b1 b2 b3 b4 b5 b6 b7 b8 b9 b10 b11 b12 : Nat) : a < a + 1 + b0 + b1 + b2 + b3 + b4 + b5 + b6 + b7 + b8 + b9 + b10 + b11 + b12 := by omega
theorem leF13 (a : Nat) (b0 b1 b2 b3 b4 b5 b6 b7 b8 b9 b10 b11 b12 : Nat) : a ≤ a + b0 + b1 + b2 + b3 + b4 + b5 + b6 + b7 + b8 + b9 + b10 + b11 + b12 := by omega
theorem neF13 (a : Nat) (b0 b1 b2 b3 b4 b5 b6 b7 b8 b9 b10 b11 b12 : Nat) : (a = a + 1 + b0 + b1 + b2 + b3 + b4 + b5 + b6 + b7 + b8 + b9 + b10 + b11 + b12) = False := by simp; omega
theorem neG13 (a : Nat) (b0 b1 b2 b3 b4 b5 b6 b7 b8 b9 b10 b11 b12 : Nat) : (a + 1 + b0 + b1 + b2 + b3 + b4 + b5 + b6 + b7 + b8 + b9 + b10 + b11 + b12 = a) = False := by simp; omega
theorem ltF14 (a : Nat) (b0 b1 b2 b3 b4 b5 b6 b7 b8 b9 b10 b11 b12 b13 : Nat) : a < a + 1 + b0 + b1 + b2 + b3 + b4 + b5 + b6 + b7 + b8 + b9 + b10 + b11 + b12 + b13 := by omega
theorem leF14 (a : Nat) (b0 b1 b2 b3 b4 b5 b6 b7 b8 b9 b10 b11 b12 b13 : Nat) : a ≤ a + b0 + b1 + b2 + b3 + b4 + b5 + b6 + b7 + b8 + b9 + b10 + b11 + b12 + b13 := by omega
theorem neF14 (a : Nat) (b0 b1 b2 b3 b4 b5 b6 b7 b8 b9 b10 b11 b12 b13 : Nat) : (a = a + 1 + b0 + b1 + b2 + b3 + b4 + b5 + b6 + b7 + b8 + b9 + b10 + b11 + b12 + b13) = False := by simp; omega
theorem neG14 (a : Nat) (b0 b1 b2 b3 b4 b5 b6 b7 b8 b9 b10 b11 b12 b13 : Nat) : (a + 1 + b0 + b1 + b2 + b3 + b4 + b5 + b6 + b7 + b8 + b9 + b10 + b11 + b12 + b13 = a) = False := by simp; omega
theorem ltF15 (a : Nat) (b0 b1 b2 b3 b4 b5 b6 b7 b8 b9 b10 b11 b12 b13 b14 : Nat) : a < a + 1 + b0 + b1 + b2 + b3 + b4 + b5 + b6 + b7 + b8 + b9 + b10 + b11 + b12 + b13 + b14 := by omega
theorem leF15 (a : Nat) (b0 b1 b2 b3 b4 b5 b6 b7 b8 b9 b10 b11 b12 b13 b14 : Nat) : a ≤ a + b0 + b1 + b2 + b3 + b4 + b5 + b6 + b7 + b8 + b9 + b10 + b11 + b12 + b13 + b14 := by omega
theorem neF15 (a : Nat) (b0 b1 b2 b3 b4 b5 b6 b7 b8 b9 b10 b11 b12 b13 b14 : Nat) : (a = a + 1 + b0 + b1 + b2 + b3 + b4 + b5 + b6 + b7 + b8 + b9 + b10 + b11 + b12 + b13 + b14) = False := by simp; omega
theorem neG15 (a : Nat) (b0 b1 b2 b3 b4 b5 b6 b7 b8 b9 b10 b11 b12 b13 b14 : Nat) : (a + 1 + b0 + b1 + b2 + b3 + b4 + b5 + b6 + b7 + b8 + b9 + b10 + b11 + b12 + b13 + b14 = a) = False := by simp; omega
theorem ltF16 (a : Nat) (b0 b1 b2 b3 b4 b5 b6 b7 b8 b9 b10 b11 b12 b13 b14 b15 : Nat) : a < a + 1 + b0 + b1 + b2 + b3 + b4 + b5 + b6 + b7 + b8 + b9 + b10 + b11 + b12 + b13 + b14 + b15 := by omega
theorem leF16 (a : Nat) (b0 b1 b2 b3 b4 b5 b6 b7 b8 b9 b10 b11 b12 b13 b14 b15 : Nat) : a ≤ a + b0 + b1 + b2 + b3 + b4 + b5 + b6 + b7 + b8 + b9 + b10 + b11 + b12 + b13 + b14 + b15 := by omega
theorem neF16 (a : Nat) (b0 b1 b2 b3 b4 b5 b6 b7 b8 b9 b10 b11 b12 b13 b14 b15 : Nat) : (a = a + 1 + b0 + b1 + b2 + b3 + b4 + b5 + b6 + b7 + b8 + b9 + b10 + b11 + b12 + b13 + b14 + b15) = False := by simp; omega
theorem neG16 (a : Nat) (b0 b1 b2 b3 b4 b5 b6 b7 b8 b9 b10 b11 b12 b13 b14 b15 : Nat) : (a + 1 + b0 + b1 + b2 + b3 + b4 + b5 + b6 + b7 + b8 + b9 + b10 + b11 + b12 + b13 + b14 + b15 = a) = False := by simp; omega
theorem ltF17 (a : Nat) (b0 b1 b2 b3 b4 b5 b6 b7 b8 b9 b10 b11 b12 b13 b14 b15 b16 : Nat) : a < a + 1 + b0 + b1 + b2 + b3 + b4 + b5 + b6 + b7 + b8 + b9 + b10 + b11 + b12 + b13 + b14 + b15 + b16 := by omega
theorem leF17 (a : Nat) (b0 b1 b2 b3 b4 b5 b6 b7 b8 b9 b10 b11 b12 b13 b14 b15 b16 : Nat) : a ≤ a + b0 + b1 + b2 + b3 + b4 + b5 + b6 + b7 + b8 + b9 + b10 + b11 + b12 + b13 + b14 + b15 + b16 := by omega
theorem neF17 (a : Nat) (b0 b1 b2 b3 b4 b5 b6 b7 b8 b9 b10 b11 b12 b13 b14 b15 b16 : Nat) : (a = a + 1 + b0 + b1 + b2 + b3 + b4 + b5 + b6 + b7 + b8 + b9 + b10 + b11 + b12 + b13 + b14 + b15 + b16) = False := by simp; omega
theorem neG17 (a : Nat) (b0 b1 b2 b3 b4 b5 b6 b7 b8 b9 b10 b11 b12 b13 b14 b15 b16 : Nat) : (a + 1 + b0 + b1 + b2 + b3 + b4 + b5 + b6 + b7 + b8 + b9 + b10 + b11 + b12 + b13 + b14 + b15 + b16 = a) = False := by simp; omega
theorem ltF18 (a : Nat) (b0 b1 b2 b3 b4 b5 b6 b7 b8 b9 b10 b11 b12 b13 b14 b15 b16 b17 : Nat) : a < a + 1 + b0 + b1 + b2 + b3 + b4 + b5 + b6 + b7 + b8 + b9 + b10 + b11 + b12 + b13 + b14 + b15 + b16 + b17 := by omega
theorem leF18 (a : Nat) (b0 b1 b2 b3 b4 b5 b6 b7 b8 b9 b10 b11 b12 b13 b14 b15 b16 b17 : Nat) : a ≤ a + b0 + b1 + b2 + b3 + b4 + b5 + b6 + b7 + b8 + b9 + b10 + b11 + b12 + b13 + b14 + b15 + b16 + b17 := by omega
theorem neF18 (a : Nat) (b0 b1 b2 b3 b4 b5 b6 b7 b8 b9 b10 b11 b12 b13 b14 b15 b16 b17 : Nat) : (a = a + 1 + b0 + b1 + b2 + b3 + b4 + b5 + b6 + b7 + b8 + b9 + b10 + b11 + b12 + b13 + b14 + b15 + b16 + b17) = False := by simp; omega
theorem neG18 (a : Nat) (b0 b1 b2 b3 b4 b5 b6 b7 b8 b9 b10 b11 b12 b13 b14 b15 b16 b17 : Nat) : (a + 1 + b0 + b1 + b2 + b3 + b4 + b5 + b6 + b7 + b8 + b9 + b10 + b11 + b12 + b13 + b14 + b15 + b16 + b17 = a) = False := by simp; omega
theorem ltF19 (a : Nat) (b0 b1 b2 b3 b4 b5 b6 b7 b8 b9 b10 b11 b12 b13 b14 b15 b16 b17 b18 : Nat) : a < a + 1 + b0 + b1 + b2 + b3 + b4 + b5 + b6 + b7 + b8 + b9 + b10 + b11 + b12 + b13 + b14 + b15 + b16 + b17 + b18 := by omega
theorem leF19 (a : Nat) (b0 b1 b2 b3 b4 b5 b6 b7 b8 b9 b10 b11 b12 b13 b14 b15 b16 b17 b18 : Nat) : a ≤ a + b0 + b1 + b2 + b3 + b4 + b5 + b6 + b7 + b8 + b9 + b10 + b11 + b12 + b13 + b14 + b15 + b16 + b17 + b18 := by omega
theorem neF19 (a : Nat) (b0 b1 b2 b3 b4 b5 b6 b7 b8 b9 b10 b11 b12 b13 b14 b15 b16 b17 b18 : Nat) : (a = a + 1 + b0 + b1 + b2 + b3 + b4 + b5 + b6 + b7 + b8 + b9 + b10 + b11 + b12 + b13 + b14 + b15 + b16 + b17 + b18) = False := by simp; omega
theorem neG19 (a : Nat) (b0 b1 b2 b3 b4 b5 b6 b7 b8 b9 b10 b11 b12 b13 b14 b15 b16 b17 b18 : Nat) : (a + 1 + b0 + b1 + b2 + b3 + b4 + b5 + b6 + b7 + b8 + b9 + b10 + b11 + b12 + b13 + b14 + b15 + b16 + b17 + b18 = a) = False := by simp; omega
theorem ltF20 (a : Nat) (b0 b1 b2 b3 b4 b5 b6 b7 b8 b9 b10 b11 b12 b13 b14 b15 b16 b17 b18 b19 : Nat) : a < a + 1 + b0 + b1 + b2 + b3 + b4 + b5 + b6 + b7 + b8 + b9 + b10 + b11 + b12 + b13 + b14 + b15 + b16 + b17 + b18 + b19 := by omega
theorem leF20 (a : Nat) (b0 b1 b2 b3 b4 b5 b6 b7 b8 b9 b10 b11 b12 b13 b14 b15 b16 b17 b18 b19 : Nat) : a ≤ a + b0 + b1 + b2 + b3 + b4 + b5 + b6 + b7 + b8 + b9 + b10 + b11 + b12 + b13 + b14 + b15 + b16 + b17 + b18 + b19 := by omega
theorem neF20 (a : Nat) (b0 b1 b2 b3 b4 b5 b6 b7 b8 b9 b10 b11 b12 b13 b14 b15 b16 b17 b18 b19 : Nat) : (a = a + 1 + b0 + b1 + b2 + b3 + b4 + b5 + b6 + b7 + b8 + b9 + b10 + b11 + b12 + b13 + b14 + b15 + b16 + b17 + b18 + b19) = False := by simp; omega
theorem neG20 (a : Nat) (b0 b1 b2 b3 b4 b5 b6 b7 b8 b9 b10 b11 b12 b13 b14 b15 b16 b17 b18 b19 : Nat) : (a + 1 + b0 + b1 + b2 + b3 + b4 + b5 + b6 + b7 + b8 + b9 + b10 + b11 + b12 + b13 + b14 + b15 + b16 + b17 + b18 + b19 = a) = False := by simp; omega
theorem ltF21 (a : Nat) (b0 b1 b2 b3 b4 b5 b6 b7 b8 b9 b10 b11 b12 b13 b14 b15 b16 b17 b18 b19 b20 : Nat) : a < a + 1 + b0 + b1 + b2 + b3 + b4 + b5 + b6 + b7 + b8 + b9 + b10 + b11 + b12 + b13 + b14 + b15 + b16 + b17 + b18 + b19 + b20 := by omega
theorem leF21 (a : Nat) (b0 b1 b2 b3 b4 b5 b6 b7 b8 b9 b10 b11 b12 b13 b14 b15 b16 b17 b18 b19 b20 : Nat) : a ≤ a + b0 + b1 + b2 + b3 + b4 + b5 + b6 + b7 + b8 + b9 + b10 + b11 + b12 + b13 + b14 + b15 + b16 + b17 + b18 + b19 + b20 := by omega
theorem neF21 (a : Nat) (b0 b1 b2 b3 b4 b5 b6 b7 b8 b9 b10 b11 b12 b13 b14 b15 b16 b17 b18 b19 b20 : Nat) : (a = a + 1 + b0 + b1 + b2 + b3 + b4 + b5 + b6 + b7 + b8 + b9 + b10 + b11 + b12 + b13 + b14 + b15 + b16 + b17 + b18 + b19 + b20) = False := by simp; omega
theorem neG21 (a : Nat) (b0 b1 b2 b3 b4 b5 b6 b7 b8 b9 b10 b11 b12 b13 b14 b15 b16 b17 b18 b19 b20 : Nat) : (a + 1 + b0 + b1 + b2 + b3 + b4 + b5 + b6 + b7 + b8 + b9 + b10 + b11 + b12 + b13 + b14 + b15 + b16 + b17 + b18 + b19 + b20 = a) = False := by simp; omega
theorem ltF22 (a : Nat) (b0 b1 b2 b3 b4 b5 b6 b7 b8 b9 b10 b11 b12 b13 b14 b15 b16 b17 b18 b19 b20 b21 : Nat) : a < a + 1 + b0 + b1 + b2 + b3 + b4 + b5 + b6 + b7 + b8 + b9 + b10 + b11 + b12 + b13 + b14 + b15 + b16 + b17 + b18 + b19 + b20 + b21 := by omega
theorem leF22 (a : Nat) (b0 b1 b2 b3 b4 b5 b6 b7 b8 b9 b10 b11 b12 b13 b14 b15 b16 b17 b18 b19 b20 b21 : Nat) : a ≤ a + b0 + b1 + b2 + b3 + b4 + b5 + b6 + b7 + b8 + b9 + b10 + b11 + b12 + b13 + b14 + b15 + b16 + b17 + b18 + b19 + b20 + b21 := by omega
theorem neF22 (a : Nat) (b0 b1 b2 b3 b4 b5 b6 b7 b8 b9 b10 b11 b12 b13 b14 b15 b16 b17 b18 b19 b20 b21 : Nat) : (a = a + 1 + b0 + b1 + b2 + b3 + b4 + b5 + b6 + b7 + b8 + b9 + b10 + b11 + b12 + b13 + b14 + b15 + b16 + b17 + b18 + b19 + b20 + b21) = False := by simp; omega
theorem neG22 (a : Nat) (b0 b1 b2 b3 b4 b5 b6 b7 b8 b9 b10 b11 b12 b13 b14 b15 b16 b17 b18 b19 b20 b21 : Nat) : (a + 1 + b0 + b1 + b2 + b3 + b4 + b5 + b6 + b7 + b8 + b9 + b10 + b11 + b12 + b13 + b14 + b15 + b16 + b17 + b18 + b19 + b20 + b21 = a) = False := by simp; omega
theorem ltF23 (a : Nat) (b0 b1 b2 b3 b4 b5 b6 b7 b8 b9 b10 b11 b12 b13 b14 b15 b16 b17 b18 b19 b20 b21 b22 : Nat) : a < a + 1 + b0 + b1 + b2 + b3 + b4 + b5 + b6 + b7 + b8 + b9 + b10 + b11 + b12 + b13 + b14 + b15 + b16 + b17 + b18 + b19 + b20 + b21 + b22 := by omega
theorem leF23 (a : Nat) (b0 b1 b2 b3 b4 b5 b6 b7 b8 b9 b10 b11 b12 b13 b14 b15 b16 b17 b18 b19 b20 b21 b22 : Nat) : a ≤ a + b0 + b1 + b2 + b3 + b4 + b5 + b6 + b7 + b8 + b9 + b10 + b11 + b12 + b13 + b14 + b15 + b16 + b17 + b18 + b19 + b20 + b21 + b22 := by omega
theorem neF23 (a : Nat) (b0 b1 b2 b3 b4 b5 b6 b7 b8 b9 b10 b11 b12 b13 b14 b15 b16 b17 b18 b19 b20 b21 b22 : Nat) : (a = a + 1 + b0 + b1 + b2 + b3 + b4 + b5 + b6 + b7 + b8 + b9 + b10 + b11 + b12 + b13 + b14 + b15 + b16 + b17 + b18 + b19 + b20 + b21 + b22) = False := by simp; omega
theorem neG23 (a : Nat) (b0 b1 b2 b3 b4 b5 b6 b7 b8 b9 b10 b11 b12 b13 b14 b15 b16 b17 b18 b19 b20 b21 b22 : Nat) : (a + 1 + b0 + b1 + b2 + b3 + b4 + b5 + b6 + b7 + b8 + b9 + b10 + b11 + b12 + b13 + b14 + b15 + b16 + b17 + b18 + b19 + b20 + b21 + b22 = a) = False := by simp; omega
theorem ltF24 (a : Nat) (b0 b1 b2 b3 b4 b5 b6 b7 b8 b9 b10 b11 b12 b13 b14 b15 b16 b17 b18 b19 b20 b21 b22 b23 : Nat) : a < a + 1 + b0 + b1 + b2 + b3 + b4 + b5 + b6 + b7 + b8 + b9 + b10 + b11 + b12 + b13 + b14 + b15 + b16 + b17 + b18 + b19 + b20 + b21 + b22 + b23 := by omega
theorem leF24 (a : Nat) (b0 b1 b2 b3 b4 b5 b6 b7 b8 b9 b10 b11 b12 b13 b14 b15 b16 b17 b18 b19 b20 b21 b22 b23 : Nat) : a ≤ a + b0 + b1 + b2 + b3 + b4 + b5 + b6 + b7 + b8 + b9 + b10 + b11 + b12 + b13 + b14 + b15 + b16 + b17 + b18 + b19 + b20 + b21 + b22 + b23 := by omega
theorem neF24 (a : Nat) (b0 b1 b2 b3 b4 b5 b6 b7 b8 b9 b10 b11 b12 b13 b14 b15 b16 b17 b18 b19 b20 b21 b22 b23 : Nat) : (a = a + 1 + b0 + b1 + b2 + b3 + b4 + b5 + b6 + b7 + b8 + b9 + b10 + b11 + b12 + b13 + b14 + b15 + b16 + b17 + b18 + b19 + b20 + b21 + b22 + b23) = False := by simp; omega
theorem neG24 (a : Nat) (b0 b1 b2 b3 b4 b5 b6 b7 b8 b9 b10 b11 b12 b13 b14 b15 b16 b17 b18 b19 b20 b21 b22 b23 : Nat) : (a + 1 + b0 + b1 + b2 + b3 + b4 + b5 + b6 + b7 + b8 + b9 + b10 + b11 + b12 + b13 + b14 + b15 + b16 + b17 + b18 + b19 + b20 + b21 + b22 + b23 = a) = False := by simp; omega
theorem ltF25 (a : Nat) (b0 b1 b2 b3 b4 b5 b6 b7 b8 b9 b10 b11 b12 b13 b14 b15 b16 b17 b18 b19 b20 b21 b22 b23 b24 : Nat) : a < a + 1 + b0 + b1 + b2 + b3 + b4 + b5 + b6 + b7 + b8 + b9 + b10 + b11 + b12 + b13 + b14 + b15 + b16 + b17 + b18 + b19 + b20 + b21 + b22 + b23 + b24 := by omega
theorem leF25 (a : Nat) (b0 b1 b2 b3 b4 b5 b6 b7 b8 b9 b10 b11 b12 b13 b14 b15 b16 b17 b18 b19 b20 b21 b22 b23 b24 : Nat) : a ≤ a + b0 + b1 + b2 + b3 + b4 + b5 + b6 + b7 + b8 + b9 + b10 + b11 + b12 + b13 + b14 + b15 + b16 + b17 + b18 + b19 + b20 + b21 + b22 + b23 + b24 := by omega
theorem neF25 (a : Nat) (b0 b1 b2 b3 b4 b5 b6 b7 b8 b9 b10 b11 b12 b13 b14 b15 b16 b17 b18 b19 b20 b21 b22 b23 b24 : Nat) : (a = a + 1 + b0 + b1 + b2 + b3 + b4 + b5 + b6 + b7 + b8 + b9 + b10 + b11 + b12 + b13 + b14 + b15 + b16 + b17 + b18 + b19 + b20 + b21 + b22 + b23 + b24) = False := by simp; omega
theorem neG25 (a : Nat) (b0 b1 b2 b3 b4 b5 b6 b7 b8 b9 b10 b11 b12 b13 b14 b15 b16 b17 b18 b19 b20 b21 b22 b23 b24 : Nat) : (a + 1 + b0 + b1 + b2 + b3 + b4 + b5 + b6 + b7 + b8 + b9 + b10 + b11 + b12 + b13 + b14 + b15 + b16 + b17 + b18 + b19 + b20 + b21 + b22 + b23 + b24 = a) = False := by simp; omega
theorem ltF26 (a : Nat) (b0 b1 b2 b3 b4 b5 b6 b7 b8 b9 b10 b11 b12 b13 b14 b15 b16 b17 b18 b19 b20 b21 b22 b23 b24 b25 : Nat) : a < a + 1 + b0 + b1 + b2 + b3 + b4 + b5 + b6 + b7 + b8 + b9 + b10 + b11 + b12 + b13 + b14 + b15 + b16 + b17 + b18 + b19 + b20 + b21 + b22 + b23 + b24 + b25 := by omega
theorem leF26 (a : Nat) (b0 b1 b2 b3 b4 b5 b6 b7 b8 b9 b10 b11 b12 b13 b14 b15 b16 b17 b18 b19 b20 b21 b22 b23 b24 b25 : Nat) : a ≤ a + b0 + b1 + b2 + b3 + b4 + b5 + b6 + b7 + b8 + b9 + b10 + b11 + b12 + b13 + b14 + b15 + b16 + b17 + b18 + b19 + b20 + b21 + b22 + b23 + b24 + b25 := by omega
theorem neF26 (a : Nat) (b0 b1 b2 b3 b4 b5 b6 b7 b8 b9 b10 b11 b12 b13 b14 b15 b16 b17 b18 b19 b20 b21 b22 b23 b24 b25 : Nat) : (a = a + 1 + b0 + b1 + b2 + b3 + b4 + b5 + b6 + b7 + b8 + b9 + b10 + b11 + b12 + b13 + b14 + b15 + b16 + b17 + b18 + b19 + b20 + b21 + b22 + b23 + b24 + b25) = False := by simp; omega
theorem neG26 (a : Nat) (b0 b1 b2 b3 b4 b5 b6 b7 b8 b9 b10 b11 b12 b13 b14 b15 b16 b17 b18 b19 b20 b21 b22 b23 b24 b25 : Nat) : (a + 1 + b0 + b1 + b2 + b3 + b4 + b5 + b6 + b7 + b8 + b9 + b10 + b11 + b12 + b13 + b14 + b15 + b16 + b17 + b18 + b19 + b20 + b21 + b22 + b23 + b24 + b25 = a) = False := by simp; omega
theorem ltF27 (a : Nat) (b0 b1 b2 b3 b4 b5 b6 b7 b8 b9 b10 b11 b12 b13 b14 b15 b16 b17 b18 b19 b20 b21 b22 b23 b24 b25 b26 : Nat) : a < a + 1 + b0 + b1 + b2 + b3 + b4 + b5 + b6 + b7 + b8 + b9 + b10 + b11 + b12 + b13 + b14 + b15 + b16 + b17 + b18 + b19 + b20 + b21 + b22 + b23 + b24 + b25 + b26 := by omega
theorem leF27 (a : Nat) (b0 b1 b2 b3 b4 b5 b6 b7 b8 b9 b10 b11 b12 b13 b14 b15 b16 b17 b18 b19 b20 b21 b22 b23 b24 b25 b26 : Nat) : a ≤ a + b0 + b1 + b2 + b3 + b4 + b5 + b6 + b7 + b8 + b9 + b10 + b11 + b12 + b13 + b14 + b15 + b16 + b17 + b18 + b19 + b20 + b21 + b22 + b23 + b24 + b25 + b26 := by omega
theorem neF27 (a : Nat) (b0 b1 b2 b3 b4 b5 b6 b7 b8 b9 b10 b11 b12 b13 b14 b15 b16 b17 b18 b19 b20 b21 b22 b23 b24 b25 b26 : Nat) : (a = a + 1 + b0 + b1 + b2 + b3 + b4 + b5 + b6 + b7 + b8 + b9 + b10 + b11 + b12 + b13 + b14 + b15 + b16 + b17 + b18 + b19 + b20 + b21 + b22 + b23 + b24 + b25 + b26) = False := by simp; omega
theorem neG27 (a : Nat) (b0 b1 b2 b3 b4 b5 b6 b7 b8 b9 b10 b11 b12 b13 b14 b15 b16 b17 b18 b19 b20 b21 b22 b23 b24 b25 b26 : Nat) : (a + 1 + b0 + b1 + b2 + b3 + b4 + b5 + b6 + b7 + b8 + b9 + b10 + b11 + b12 + b13 + b14 + b15 + b16 + b17 + b18 + b19 + b20 + b21 + b22 + b23 + b24 + b25 + b26 = a) = False := by simp; omega
theorem ltF28 (a : Nat) (b0 b1 b2 b3 b4 b5 b6 b7 b8 b9 b10 b11 b12 b13 b14 b15 b16 b17 b18 b19 b20 b21 b22 b23 b24 b25 b26 b27 : Nat) : a < a + 1 + b0 + b1 + b2 + b3 + b4 + b5 + b6 + b7 + b8 + b9 + b10 + b11 + b12 + b13 + b14 + b15 + b16 + b17 + b18 + b19 + b20 + b21 + b22 + b23 + b24 + b25 + b26 + b27 := by omega
theorem leF28 (a : Nat) (b0 b1 b2 b3 b4 b5 b6 b7 b8 b9 b10 b11 b12 b13 b14 b15 b16 b17 b18 b19 b20 b21 b22 b23 b24 b25 b26 b27 : Nat) : a ≤ a + b0 + b1 + b2 + b3 + b4 + b5 + b6 + b7 + b8 + b9 + b10 + b11 + b12 + b13 + b14 + b15 + b16 + b17 + b18 + b19 + b20 + b21 + b22 + b23 + b24 + b25 + b26 + b27 := by omega
theorem neF28 (a : Nat) (b0 b1 b2 b3 b4 b5 b6 b7 b8 b9 b10 b11 b12 b13 b14 b15 b16 b17 b18 b19 b20 b21 b22 b23 b24 b25 b26 b27 : Nat) : (a = a + 1 + b0 + b1 + b2 + b3 + b4 + b5 + b6 + b7 + b8 + b9 + b10 + b11 + b12 + b13 + b14 + b15 + b16 + b17 + b18 + b19 + b20 + b21 + b22 + b23 + b24 + b25 + b26 + b27) = False := by simp; omega
theorem neG28 (a : Nat) (b0 b1 b2 b3 b4 b5 b6 b7 b8 b9 b10 b11 b12 b13 b14 b15 b16 b17 b18 b19 b20 b21 b22 b23 b24 b25 b26 b27 : Nat) : (a + 1 + b0 + b1 + b2 + b3 + b4 + b5 + b6 + b7 + b8 + b9 + b10 + b11 + b12 + b13 + b14 + b15 + b16 + b17 + b18 + b19 + b20 + b21 + b22 + b23 + b24 + b25 + b26 + b27 = a) = False := by simp; omega
theorem ltF29 (a : Nat) (b0 b1 b2 b3 b4 b5 b6 b7 b8 b9 b10 b11 b12 b13 b14 b15 b16 b17 b18 b19 b20 b21 b22 b23 b24 b25 b26 b27 b28 : Nat) : a < a + 1 + b0 + b1 + b2 + b3 + b4 + b5 + b6 + b7 + b8 + b9 + b10 + b11 + b12 + b13 + b14 + b15 + b16 + b17 + b18 + b19 + b20 + b21 + b22 + b23 + b24 + b25 + b26 + b27 + b28 := by omega
theorem leF29 (a : Nat) (b0 b1 b2 b3 b4 b5 b6 b7 b8 b9 b10 b11 b12 b13 b14 b15 b16 b17 b18 b19 b20 b21 b22 b23 b24 b25 b26 b27 b28 : Nat) : a ≤ a + b0 + b1 + b2 + b3 + b4 + b5 + b6 + b7 + b8 + b9 + b10 + b11 + b12 + b13 + b14 + b15 + b16 + b17 + b18 + b19 + b20 + b21 + b22 + b23 + b24 + b25 + b26 + b27 + b28 := by omega
theorem neF29 (a : Nat) (b0 b1 b2 b3 b4 b5 b6 b7 b8 b9 b10 b11 b12 b13 b14 b15 b16 b17 b18 b19 b20 b21 b22 b23 b24 b25 b26 b27 b28 : Nat) : (a = a + 1 + b0 + b1 + b2 + b3 + b4 + b5 + b6 + b7 + b8 + b9 + b10 + b11 + b12 + b13 + b14 + b15 + b16 + b17 + b18 + b19 + b20 + b21 + b22 + b23 + b24 + b25 + b26 + b27 + b28) = False := by simp; omega
theorem neG29 (a : Nat) (b0 b1 b2 b3 b4 b5 b6 b7 b8 b9 b10 b11 b12 b13 b14 b15 b16 b17 b18 b19 b20 b21 b22 b23 b24 b25 b26 b27 b28 : Nat) : (a + 1 + b0 + b1 + b2 + b3 + b4 + b5 + b6 + b7 + b8 + b9 + b10 + b11 + b12 + b13 + b14 + b15 + b16 + b17 + b18 + b19 + b20 + b21 + b22 + b23 + b24 + b25 + b26 + b27 + b28 = a) = False := by simp; omega
theorem ltF30 (a : Nat) (b0 b1 b2 b3 b4 b5 b6 b7 b8 b9 b10 b11 b12 b13 b14 b15 b16 b17 b18 b19 b20 b21 b22 b23 b24 b25 b26 b27 b28 b29 : Nat) : a < a + 1 + b0 + b1 + b2 + b3 + b4 + b5 + b6 + b7 + b8 + b9 + b10 + b11 + b12 + b13 + b14 + b15 + b16 + b17 + b18 + b19 + b20 + b21 + b22 + b23 + b24 + b25 + b26 + b27 + b28 + b29 := by omega
theorem leF30 (a : Nat) (b0 b1 b2 b3 b4 b5 b6 b7 b8 b9 b10 b11 b12 b13 b14 b15 b16 b17 b18 b19 b20 b21 b22 b23 b24 b25 b26 b27 b28 b29 : Nat) : a ≤ a + b0 + b1 + b2 + b3 + b4 + b5 + b6 + b7 + b8 + b9 + b10 + b11 + b12 + b13 + b14 + b15 + b16 + b17 + b18 + b19 + b20 + b21 + b22 + b23 + b24 + b25 + b26 + b27 + b28 + b29 := by omega
theorem neF30 (a : Nat) (b0 b1 b2 b3 b4 b5 b6 b7 b8 b9 b10 b11 b12 b13 b14 b15 b16 b17 b18 b19 b20 b21 b22 b23 b24 b25 b26 b27 b28 b29 : Nat) : (a = a + 1 + b0 + b1 + b2 + b3 + b4 + b5 + b6 + b7 + b8 + b9 + b10 + b11 + b12 + b13 + b14 + b15 + b16 + b17 + b18 + b19 + b20 + b21 + b22 + b23 + b24 + b25 + b26 + b27 + b28 + b29) = False := by simp; omega
theorem neG30 (a : Nat) (b0 b1 b2 b3 b4 b5 b6 b7 b8 b9 b10 b11 b12 b13 b14 b15 b16 b17 b18 b19 b20 b21 b22 b23 b24 b25 b26 b27 b28 b29 : Nat) : (a + 1 + b0 + b1 + b2 + b3 + b4 + b5 + b6 + b7 + b8 + b9 + b10 + b11 + b12 + b13 + b14 + b15 + b16 + b17 + b18 + b19 + b20 + b21 + b22 + b23 + b24 + b25 + b26 + b27 + b28 + b29 = a) = False := by simp; omega
attribute [go_sem] more_size qdX more_frozen more_tape more_os more_drawn more_drew drew_more more_drewN drewN_more more_shape more_setCell
attribute [go_sem] ltF1 leF1 neF1 neG1 ltF2 leF2 neF2 neG2 ltF3 leF3 neF3 neG3 ltF4 leF4 neF4 neG4 ltF5 leF5 neF5 neG5 ltF6 leF6 neF6 neG6 ltF7 leF7 neF7 neG7 ltF8 leF8 neF8 neG8 ltF9 leF9 neF9 neG9 ltF10 leF10 neF10 neG10
attribute [go_sem] ltF11 leF11 neF11 neG11 ltF12 leF12 neF12 neG12 ltF13 leF13 neF13 neG13 ltF14 leF14 neF14 neG14 ltF15 leF15 neF15 neG15 ltF16 leF16 neF16 neG16 ltF17 leF17 neF17 neG17 ltF18 leF18 neF18 neG18 ltF19 leF19 neF19 neG19 ltF20 leF20 neF20 neG20
attribute [go_sem] ltF21 leF21 neF21 neG21 ltF22 leF22 neF22 neG22 ltF23 leF23 neF23 neG23 ltF24 leF24 neF24 neG24 ltF25 leF25 neF25 neG25 ltF26 leF26 neF26 neG26 ltF27 leF27 neF27 neG27 ltF28 leF28 neF28 neG28 ltF29 leF29 neF29 neG29 ltF30 leF30 neF30 neG30
def Ext (w w' : World) : Prop := ∃ d os, w' = more w d os
theorem Ext.refl (w : World) : Ext w w := ⟨w.drawn, #[], by simp [more]⟩
theorem Ext.more (h : Ext a w) (d : Nat) (os : Array Obj) : Ext a (more w d os) := by
 obtain ⟨d', os', rfl⟩ := h; exact ⟨_, _, more_more _ _ _ _ _⟩
theorem Ext.trans {b c : World} (h : Ext a b) (k : Ext b c) : Ext a c := by obtain ⟨d, os, rfl⟩ := k; exact h.more d os
theorem Ext.alloc (h : Ext a w) (o : Obj) : Ext a (w.alloc o) := by
 have e : w.alloc o = YtpoeknndkccbaaaGreat.more w w.drawn #[o] := by
  unfold World.alloc YtpoeknndkccbaaaGreat.more
  congr 1
 rw [e]; exact h.more _ _
theorem Ext.drew (h : Ext a w) : Ext a w.drew := by
 obtain ⟨d, os, rfl⟩ := h; exact ⟨d + 1, os, rfl⟩
theorem Ext.setCell (h : Ext a w) {p : Addr} (hp : a.heap.size ≤ p.block) (v : Value) : Ext a (w.setCell p v) := by
 obtain ⟨d, os, rfl⟩ := h
 refine ⟨d, os.modify (p.block - a.heap.size) (fun
   | .cells c elem frozen => .cells (if p.spot.isSome then c else c.setIfInBounds p.off v) elem frozen
   | o => o), ?_⟩
 unfold World.setCell YtpoeknndkccbaaaGreat.more
 congr 1
 apply Array.ext_getElem?
 intro k
 simp only [Array.getElem?_modify, Array.getElem?_append]
 by_cases hk : p.block = k
 · subst hk
   have : ¬ p.block < a.heap.size := by omega
   simp [this]
   rfl
 · by_cases hk2 : k < a.heap.size
   · simp [hk, hk2]
   · have : ¬ p.block - a.heap.size = k - a.heap.size := by omega
     simp [hk, hk2, this]
theorem Ext.size (h : Ext w w') : w.heap.size ≤ w'.heap.size := by
 obtain ⟨d, os, rfl⟩ := h
 simp [more_size]
theorem Ext.below (h : Ext w w') : Below w.heap.size w w' := by
 obtain ⟨d, os, rfl⟩ := h
 exact ⟨rfl, rfl, rfl, by simp [more_size], fun k hk => more_heap _ _ _ _ hk⟩
theorem Ext.of_below (h : Below w.heap.size w w') : Ext w w' := by
 have hh : w'.heap = w.heap ++ w'.heap.extract w.heap.size w'.heap.size := by
  apply Array.ext_getElem?
  intro k
  have h4 := h.size
  rw [Array.getElem?_append]
  by_cases hk : k < w.heap.size
  · rw [if_pos hk]; exact h.block k hk
  · rw [if_neg hk, Array.getElem?_extract]
    by_cases hk2 : k < w'.heap.size
    · rw [if_pos zae, Nat.add_sub_cancel' zae]
    · rw [if_neg zae, Array.getElem?_eq_none zae]
 refine ⟨w'.drawn, w'.heap.extract w.heap.size w'.heap.size, ?_⟩
 have h1 := h.os
 have h2 := h.tape
 have h3 := h.output
 unfold YtpoeknndkccbaaaGreat.more
 rw [← hh, ← h1, ← h2, ← h3]
end Go.Proofs.YtpoeknndkccbaaaGreat

namespace Go.Proofs.YtpoeknndkccbaaaGreat
open Go.RowKit
section
variable {P : Program} (w : World)
theorem qcV (base : Nat) (t tx ty e : TypeId) (i : TypeInfo) (z : Value) (size bytes : Nat) (ht : P.underlying t = some (.slice e)) (hi : P.info? e = some i) (hz : i.zero = some z)
  (hsize : i.size = size) (hby : i.bytes = bytes) (hzs : z.cells.size = size) (hsz : 0 < size)
  (v : Value) (n : Nat) (xs : List Value) (hown : w.ownsRow base e size v n xs)
  (x : Value) (m : Nat) (news : List Value) (hs : Src P size tx x m news w)
  (h63 : n + m ≤ maxLen) (hbytes : (n + m) * bytes ≤ 140737488355328) (hbase : base ≤ w.heap.size) :
  ∃ v' w', (Builtin.append_ #[t, tx] ty #[v, x]).run P w = .ok v' w' ∧ w'.ownsRow base e size v' (n + m) (xs ++ news) ∧ w.grownBy w' v.ownBlock ∧
   (v'.ownBlock = v.ownBlock ∨ v'.ownBlock = some w.heap.size) := by
 subst hsize
 subst hby
 have hsmall : n + m ≤ 9223372036854775807 := by simp only [maxLen] at h63; omega
 have hl := hs.newsLen
 have hlen : (xs ++ news).length = (n + m) * i.size := by rw [List.length_append, hown.1, hl, Nat.add_mul]
 have grown : ∀ (old : Nat), old < n + m → ∀ (row : Option Nat),
   (w.drew.alloc (.cells ((xs ++ news).toArray ++ Builtin.zeroCells z.cells (grownCap w (n + m) old e - (n + m))) e)).ownsRow base e i.size
    (.slice (some ⟨w.heap.size, 0, none⟩) (n + m) (grownCap w (n + m) old e)) (n + m) (xs ++ news) ∧
   w.grownBy (w.drew.alloc (.cells ((xs ++ news).toArray ++ Builtin.zeroCells z.cells (grownCap w (n + m) old e - (n + m))) e)) row := by
  intro old ho row
  have hge := grownCap_ge w (n + m) old e
  have hcm : grownCap w (n + m) old e ≤ maxLen := grownCap_le_maxLen w (n + m) old e h63
  refine ⟨⟨hlen, .inr ⟨w.heap.size, _, _, rfl, hbase, heap_alloc_new w.drew _, hge, hcm, ?_, ?_⟩⟩, ⟨rfl, rfl, rfl, by simp, fun k hk _ => (Below.heap_alloc w.drew _ k hk)⟩⟩
  · simp only [Array.size_append, List.size_toArray, size_zeroCells, hzs, hlen, ← Nat.add_mul]
    congr 1
    omega
  · simp only [Array.toList_append]
    rw [← hlen]
    exact List.take_left
 rcases hown.2 with ⟨rfl, rfl⟩ | ⟨g, cap, cur, rfl, hbg, hg, hnc, hcm, hcs, htake⟩
 · have hx : xs = [] := List.eq_nil_of_length_eq_zero (by simpa using hown.1)
   subst hx
   by_cases hm : m = 0
   · subst hm
     have hn : news = [] := List.eq_nil_of_length_eq_zero (by simpa using hl)
     subst hn
     refine ⟨.slice none 0 0, w, ?_, World.ownsRow_nil w base e i.size, ⟨rfl, rfl, rfl, Nat.le_refl _, fun _ _ _ => rfl⟩, Or.inl rfl⟩
     rcases hs.kind with ⟨e', hk⟩ | hk <;> simp [Builtin.append_, run_underlying ht, run_underlying hk, sizeOf, typeInfo, hi, hs.len, hs.cells, storeCells]
   · have hr := run_append_grow_src (P := P) w t tx ty e i z ht hi hz none 0 0 [] (run_firstCells_none w.drew i.size 0 0 0) x m news hs zae zae (growslice_fits zae hbytes)
     have hgr := grown 0 zae (Value.ownBlock (.slice none 0 0))
     simp only [Nat.zero_add, List.nil_append] at hgr hr ⊢
     exact ⟨_, _, hr, hgr.1, hgr.2, Or.inr rfl⟩
 · by_cases hroom : n + m ≤ cap
   · have hfit : n * i.size + news.length ≤ cur.size := by rw [hl, hcs, ← Nat.add_mul]; exact Nat.mul_le_mul_right _ hroom
     have hst := run_storeCells_at P g (n * i.size) e news 0 cur w hg (by simpa using hfit) hs.one
     simp only [Nat.add_zero] at hst
     have hr : (Builtin.append_ #[t, tx] ty #[.slice (some ⟨g, 0, none⟩) n cap, x]).run P w =
       .ok (.slice (some ⟨g, 0, none⟩) (n + m) cap) (w.setRow g (cur.toList.take (n * i.size) ++ news ++ cur.toList.drop (n * i.size + news.length)).toArray) := by
      rcases hs.kind with ⟨e', hk⟩ | hk <;> simp [Builtin.append_, run_underlying ht, run_underlying hk, sizeOf, typeInfo, hi, hs.len, hroom, hs.cells, Addr.add_lit, hst]
     refine ⟨_, _, hr, ⟨hlen, .inr ⟨g, cap, _, rfl, hbg, setRow_heap w g cur _ e _ hg, hroom, hcm, ?_, ?_⟩⟩, ⟨rfl, rfl, rfl, by simp, fun k _ hk => setRow_other w g k _ (fun e => hk (by simp [Value.ownBlock, e]))⟩, Or.inl rfl⟩
     · simp only [List.size_toArray, List.length_append, List.length_take, List.length_drop, Array.length_toList]
       omega
     · rw [htake, ← hlen]
       exact List.take_left
   · have holds : ∀ j u, xs[j]? = some u → w.cell? ((⟨g, 0, none⟩ : Addr).add j) = some u := hown.cells (g := g) rfl
     have hr := run_append_grow_src (P := P) w t tx ty e i z ht hi hz (some ⟨g, 0, none⟩) n cap xs (run_firstCells_some w.drew i.size n ⟨g, 0, none⟩ n cap xs hown.1 (by simpa using holds)) x m news hs zae zae (growslice_fits zae hbytes)
     have hgr := grown cap zae (Value.ownBlock (.slice (some ⟨g, 0, none⟩) n cap))
     exact ⟨_, _, hr, hgr.1, hgr.2, Or.inr rfl⟩
theorem qam {ops : Array Oper} {rest : List Oper} {o : Oper} {a : Act} {Q : Exit → Act → World → Prop} (hgd : o.guard = none) (s x : Operand) (t tx : TypeId)
  (ho : o.op = .call { callee := .builtin .append, args := #[s, x], argTypes := #[t, tx] })
  (base : Nat) (e : TypeId) (i : TypeInfo) (z : Value) (size bytes : Nat) (ht : P.underlying t = some (.slice e)) (hi : P.info? e = some i) (hz : i.zero = some z)
  (hsize : i.size = size) (hby : i.bytes = bytes) (hzs : z.cells.size = size) (hsz : 0 < size)
  (v : Value) (n : Nat) (xs : List Value) (hs : a.eval s = v) (hown : w.ownsRow base e size v n xs)
  (xv : Value) (m : Nat) (news : List Value) (hx : a.eval x = xv) (hsrc : Src P size tx xv m news w)
  (h63 : n + m ≤ maxLen) (hbytes : (n + m) * bytes ≤ 140737488355328) (hbase : base ≤ w.heap.size)
  (h : ∀ v' w', w'.ownsRow base e size v' (n + m) (xs ++ news) → w.grownBy w' v.ownBlock → (v'.ownBlock = v.ownBlock ∨ v'.ownBlock = some w.heap.size) → wpList P ops Q rest (a.put o.dst v') w') :
  wpList P ops Q (o :: rest) a w := by
 refine wpList_plain hgd fun K hK => ?_
 obtain ⟨v', w', hr, h2, h3, h4⟩ := qcV (P := P) w base t tx o.type e i z size bytes ht hi hz hsize hby hzs hsz v n xs hown xv m news hsrc h63 hbytes hbase
 unfold Oper.wp execOp
 simp only [ho, resolve, invoke, builtin, Sem.run_bind, Sem.run_pure, Result.andThen_ok, List.map_toArray, List.map_cons, List.map_nil, hs, hx, hr]
 exact hK _ _ (h v' w' h2 h3 h4)
end
theorem Ext.grown {w wr w1 : World} {row : Option Nat} (h : Ext w wr) (hg : wr.grownBy w1 row) (hr : ∀ k, row = some k → w.heap.size ≤ k) : Ext w w1 :=
 Ext.of_below (h.below.grown hg h.size hr)
theorem own_more {w : World} {base : Nat} {e : TypeId} {size : Nat} {v : Value} {n : Nat} {xs : List Value} (h : w.ownsRow base e size v n xs) (d : Nat) (os : Array Obj) : (more w d os).ownsRow base e size v n xs := by
 obtain ⟨h1, h2⟩ := h
 refine ⟨h1, ?_⟩
 rcases h2 with h2 | ⟨g, cap, cur, hv, hg, hh, r⟩
 · exact Or.inl h2
 · have hlt : g < w.heap.size := by
     rcases Nat.lt_or_ge g w.heap.size with h' | h'
     · exact h'
     · rw [Array.getElem?_eq_none h'] at hh; cases hh
   exact Or.inr ⟨g, cap, cur, hv, hg, by rw [more_heap _ _ _ _ hlt]; exact hh, r⟩
theorem own_ext {w w' : World} {base : Nat} {e : TypeId} {size : Nat} {v : Value} {n : Nat} {xs : List Value} (h : w.ownsRow base e size v n xs) (hx : Ext w w') : w'.ownsRow base e size v n xs := by
 obtain ⟨d, os, rfl⟩ := hx
 exact own_more h d os
def qaA (l : List UInt8) : List Value := l.map fun b => .int .u8 (b.toNat : Int)
theorem qdf (l m : List UInt8) : qaA (l ++ m) = qaA l ++ qaA m := by simp [qaA]
theorem cellsB_length (l : List UInt8) : (qaA l).length = l.length := by simp [qaA]
end Go.Proofs.YtpoeknndkccbaaaGreat

namespace Go.Proofs.YtpoeknndkccbaaaGreat
open Go.RowKit Go.ChangeShapes Go.WideShapes Go.ChangeAt Go.Joins
theorem qdd {H : Type} {enc : TypeId × Value → H} {P : Program} (hl : laidOutB P = true) {W W' : World} (hb : Below W.heap.size W W') :
  ∀ {ts : List TypeId} {vs : List Value} {ds : List (DataW H)} {ps : List MemPlace}, ts.all (fun t => P.readableRec t && decide (t < P.types.size)) = true → DataW.TrodAll enc P W 0 (fun _ => true) true ts vs ds ps → (∀ x ∈ ps, x.block < W.heap.size) → DataW.TrodAll enc P W' 0 (fun b => decide (b < W.heap.size)) true ts vs ds ps
 | [], [], [], _, _, h, _ => h
 | [], _ :: _, _, _, _, h, _ => h.elim
 | [], [], _ :: _, _, _, h, _ => h.elim
 | _ :: _, [], _, _, _, h, _ => h.elim
 | _ :: _, _ :: _, [], _, _, h, _ => h.elim
 | t :: ts, v :: vs, d :: ds, ps, hr, ⟨p, q, h1, h2, e⟩, hlt => by
  simp only [List.all_cons, Bool.and_eq_true, decide_eq_true_eq] at hr
  exact ⟨p, q, Below.trod hl hr.1.1 hr.1.2 h1 hb (fun x hx => hlt x (by rw [e]; simp [hx])), qdd hl hb hr.2 h2 (fun x hx => hlt x (by rw [e]; simp [hx])), e⟩
end Go.Proofs.YtpoeknndkccbaaaGreat
