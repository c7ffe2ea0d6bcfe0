/- Lemmas for the claim (texts PAwk, what its proof uses of them). -/
import Derived.Test.YtijmfpoanggjjaaGreatDoorK21
import Derived.Test.YtijmfpoanggjjaaGreatDoorK32
set_option linter.unusedSimpArgs false
set_option linter.unusedVariables false
namespace Go.Proofs.YtijmfpoanggjjaaGreatDoor
open Go.RowKit
attribute [go_sem] more_more Array.size_append
def pxN : List Nd := [⟨2, (-1), (-1), (-1), (-1), 1, ⟨#[]⟩, ⟨#[]⟩⟩, ⟨2, (-1), (-1), (-1), (-1), 2, ⟨#[]⟩, ⟨#[]⟩⟩, ⟨4, (-1), (-1), (-1), (-1), 0, ⟨#[120]⟩, ⟨#[]⟩⟩, ⟨11, 1, 2, (-1), (-1), 0, ⟨#[42]⟩, ⟨#[]⟩⟩, ⟨11, 0, 3, (-1), (-1), 0, ⟨#[43]⟩, ⟨#[]⟩⟩, ⟨2, (-1), (-1), (-1), (-1), 3, ⟨#[]⟩, ⟨#[]⟩⟩, ⟨2, (-1), (-1), (-1), (-1), 4, ⟨#[]⟩, ⟨#[]⟩⟩, ⟨11, 5, 6, (-1), (-1), 0, ⟨#[45]⟩, ⟨#[]⟩⟩, ⟨11, 4, 7, (-1), (-1), 0, ⟨#[45]⟩, ⟨#[]⟩⟩, ⟨28, 8, (-1), (-1), (-1), 0, ⟨#[]⟩, ⟨#[]⟩⟩]
theorem pxs : qef [114, 101, 116, 117, 114, 110, 32, 40, 49, 32, 43, 32, 40, 50, 32, 42, 32, 120, 41, 41, 32, 45, 32, 40, 51, 32, 45, 32, 52, 41, 59] = .ok (pxN, 9) := by kernel_rfl
theorem pxr : srcF pxN 9 = ([114, 101, 116, 117, 114, 110, 32, 49, 32, 43, 32, 50, 32, 42, 32, 120, 32, 45, 32, 40, 51, 32, 45, 32, 52, 41, 59, 10], 0) := by kernel_rfl
theorem pxe : exF pxN 9 9 = ([], 4) := by kernel_rfl
theorem pxz : Sz pxN := by
 intro z hz
 unfold pxN at hz
 simp only [List.mem_cons, List.not_mem_nil, or_false] at hz
 rcases hz with rfl | rfl | rfl | rfl | rfl | rfl | rfl | rfl | rfl | rfl <;> exact ⟨by decide, by decide, by unfold In64; dsimp only; omega⟩
set_option maxHeartbeats 8000000 in
set_option maxRecDepth 20000 in
theorem qbN (w : World) (hP : Pow10 w.heap.size w) : Calls Tryz.prog 10 #[] w fun e w' => e = .returned (.bool true) ∧ Ext w w' := by
 have P := Lib.hid (fun W => srprog_any ⟨#[114, 101, 116, 117, 114, 110, 32, 40, 49, 32, 43, 32, 40, 50, 32, 42, 32, 120, 41, 41, 32, 45, 32, 40, 51, 32, 45, 32, 52, 41, 59]⟩ pxN 9 pxs W)
 have SO := Lib.hid (fun W nv (h : World.ownsRow W 0 34 8 nv pxN.length (qac pxN)) (hx : Ext w W) => qbG 9 W h rfl pxz (Pow10.ext (B := 0) hP hx))
 have EX := Lib.hid (fun W nv (h : World.ownsRow W 0 34 8 nv pxN.length (qac pxN)) (hx : Ext w W) => qbV 9 9 W h rfl pxz (Pow10.ext (B := 0) hP hx))
 have CL := Lib.hid (fun W => close_any 11 0 0 0 0 0 ⟨#[97, 110, 100]⟩ ⟨#[]⟩ zaq W)
 rw [pxr] at SO
 rw [pxe] at EX
 rw [show qar 11 ⟨#[97, 110, 100]⟩ = 1 from by kernel_rfl] at CL
 clear hP
 obtain ⟨n, hn⟩ : ∃ n, pxN.length = n := ⟨_, rfl⟩
 rw [hn] at P SO EX
 go_enter Tryz.func10, Tryz.ntmps10
 go_wp2_with fail
 go_at_call 25
 refine (P.out _).mono ?_
 rintro e' w1 ⟨nv, rfl, hrow, hx⟩
 obtain ⟨p, c, hv⟩ := qau hrow
 subst hv
 have HR := Lib.hid (hrow.mono (Nat.zero_le _))
 have HX := Lib.hid hx
 clear hrow hx hn
 go_wp2_with fail
 go_at_call 7
 refine (SO.out _ _ (HR.out.alloc _) (HX.out.trans zaa)).mono ?_
 rintro e' w2 ⟨rfl, d2, os2, rfl⟩
 go_wp2_with fail
 go_at_call 8
 refine (EX.out _ _ (own_more (HR.out.alloc _) _ _) (HX.out.trans zaa)).mono ?_
 rintro e' w3 ⟨rfl, d3, os3, rfl⟩
 go_wp2_with ((go_at_call 14; (with_reducible refine (CL.out _).mono ?_); rintro e' w4 ⟨rfl, d4, os4, rfl⟩))
 go_ret
 exact ⟨rfl, HX.out.trans zaa⟩
end Go.Proofs.YtijmfpoanggjjaaGreatDoor
