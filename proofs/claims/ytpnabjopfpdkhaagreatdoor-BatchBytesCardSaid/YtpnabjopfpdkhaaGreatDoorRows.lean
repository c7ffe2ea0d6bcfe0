/-
  NARROWER THAN 'FOR EVERY INPUT', by the rows' own cells (each row's printed sentence says how): BatchAdds: laid · BatchWaits: laid · BatchTakes: laid · BatchBytes: laid.
  DERIVED. THE GIVEN ROWS OF THIS SEAT. 4 by the template 'for every input the law returns true; each argument reads behind the call as it read before'; 0 by the template 'total and deterministic' (their statements: YtpnabjopfpdkhaaGreatDoorTotals.lean).
  GIVEN WITH THE SEED: the statements are not yours to turn. If you find one false, say at which input.
  Laid BY PROGRAM, IN A SANDBOX (cutbox-rows.mjs): the forced cells as the released guide's own fill.sh prints them over the translation 0eab84d782373aaf… (all of the seat's roots in one cut). By AI agents, Wed Nov 11 2026. No macro, syntax, notation, axiom, sorry.
-/
import Derived.Test.YtpnabjopfpdkhaaGreatDoorChecked
import GoSem.Claim
import GoSem.ClaimJoined
import GoSem.ClaimMapViews
import Derived.JoinedTies
import Derived.KernelRfl
namespace Go.Proofs.YtpnabjopfpdkhaaGreatDoor
/- THE CELL 'sum', in the pinned program and in every row, IS THE sha256 OF THE DUMP (.gsa) THAT YtpnabjopfpdkhaaGreatDoorProg.lean LOADS. Nothing in Lean hashes anything: it is a label: what it is worth is what the hold of that sum in a sandbox is worth. -/
noncomputable def Tryz.pinned : Pinned := { name := "ytpnabjopfpdkhaagreatdoor", sum := "0eab84d782373aaf8927ebeb2233c54527c3bde8c0068f30d9b8aaa6d5175626", checked := Tryz.checked }
namespace Rows
def none {H : Type} : Left H := { results := [], args := [] }

/- WHAT THE LISTED PACKAGE-LEVEL VARIABLES READ AS WHEN THE CALL BEGINS. Each datum BY PROGRAM (the guide's laid-datum.mjs) off the statement by which the dump's own 'gosem.cut.vars' lays the variable. In a bare row this is a premise. The card (YtpnabjopfpdkhaaGreatDoorCards.lean) ties it to the program's text. -/
def laid_plenum_key_signs {H : Type} : DataW H := .agg [.lit (.int .u64 288195191779622912), .lit (.int .u64 576460745860972544)]

/-- 'plenumlaw27.BatchAdds': WHATEVER THE INPUT: true; the input reads as it did. -/
def batchAddsSpec : ChangeSpec := { name := "batchAdds", fn := fun _ => fun
  | [d1, d2, d3] => { results := [.lit (.bool true)], args := [d1, d2, d3] }
  | _ => none }
def batchAddsRow : OpenClaim := { program := "ytpnabjopfpdkhaagreatdoor", sum := "0eab84d782373aaf8927ebeb2233c54527c3bde8c0068f30d9b8aaa6d5175626", func := "plenum/plenumlaw27.BatchAdds", spec := "batchAdds", inPlace := ["internal/abi.NoEscape"], unfollowed := true, recurses := true, named := ["plenum/key.signs"], apart := false, laid := [("plenum/key.signs", laid_plenum_key_signs)] }
def BatchAddsSaid : Prop := batchAddsRow.holds Tryz.pinned (OpenSpec.ofChange batchAddsSpec)

/-- ITS FALSE NEIGHBOUR: 'it returns false'. Refute it at one input. -/
def batchAddsWrong : ChangeSpec := { name := "batchAdds", fn := fun _ => fun
  | [d1, d2, d3] => { results := [.lit (.bool false)], args := [d1, d2, d3] }
  | _ => none }
def BatchAddsWrongFalsely : Prop := batchAddsRow.holds Tryz.pinned (OpenSpec.ofChange batchAddsWrong)

/-- 'plenumlaw27.BatchWaits': WHATEVER THE INPUT: true; the input reads as it did. -/
def batchWaitsSpec : ChangeSpec := { name := "batchWaits", fn := fun _ => fun
  | [d1, d2, d3] => { results := [.lit (.bool true)], args := [d1, d2, d3] }
  | _ => none }
def batchWaitsRow : OpenClaim := { program := "ytpnabjopfpdkhaagreatdoor", sum := "0eab84d782373aaf8927ebeb2233c54527c3bde8c0068f30d9b8aaa6d5175626", func := "plenum/plenumlaw27.BatchWaits", spec := "batchWaits", inPlace := ["internal/abi.NoEscape"], unfollowed := true, recurses := true, named := ["plenum/key.signs"], apart := false, laid := [("plenum/key.signs", laid_plenum_key_signs)] }
def BatchWaitsSaid : Prop := batchWaitsRow.holds Tryz.pinned (OpenSpec.ofChange batchWaitsSpec)

/-- ITS FALSE NEIGHBOUR: 'it returns false'. Refute it at one input. -/
def batchWaitsWrong : ChangeSpec := { name := "batchWaits", fn := fun _ => fun
  | [d1, d2, d3] => { results := [.lit (.bool false)], args := [d1, d2, d3] }
  | _ => none }
def BatchWaitsWrongFalsely : Prop := batchWaitsRow.holds Tryz.pinned (OpenSpec.ofChange batchWaitsWrong)

/-- 'plenumlaw27.BatchTakes': WHATEVER THE INPUT: true; the input reads as it did. -/
def batchTakesSpec : ChangeSpec := { name := "batchTakes", fn := fun _ => fun
  | [d1, d2, d3] => { results := [.lit (.bool true)], args := [d1, d2, d3] }
  | _ => none }
def batchTakesRow : OpenClaim := { program := "ytpnabjopfpdkhaagreatdoor", sum := "0eab84d782373aaf8927ebeb2233c54527c3bde8c0068f30d9b8aaa6d5175626", func := "plenum/plenumlaw27.BatchTakes", spec := "batchTakes", inPlace := ["internal/abi.NoEscape"], unfollowed := true, recurses := true, named := ["plenum/key.signs"], apart := false, laid := [("plenum/key.signs", laid_plenum_key_signs)] }
def BatchTakesSaid : Prop := batchTakesRow.holds Tryz.pinned (OpenSpec.ofChange batchTakesSpec)

/-- ITS FALSE NEIGHBOUR: 'it returns false'. Refute it at one input. -/
def batchTakesWrong : ChangeSpec := { name := "batchTakes", fn := fun _ => fun
  | [d1, d2, d3] => { results := [.lit (.bool false)], args := [d1, d2, d3] }
  | _ => none }
def BatchTakesWrongFalsely : Prop := batchTakesRow.holds Tryz.pinned (OpenSpec.ofChange batchTakesWrong)

/-- 'plenumlaw27.BatchBytes': WHATEVER THE INPUT: true; the input reads as it did. -/
def batchBytesSpec : ChangeSpec := { name := "batchBytes", fn := fun _ => fun
  | [d1, d2] => { results := [.lit (.bool true)], args := [d1, d2] }
  | _ => none }
def batchBytesRow : OpenClaim := { program := "ytpnabjopfpdkhaagreatdoor", sum := "0eab84d782373aaf8927ebeb2233c54527c3bde8c0068f30d9b8aaa6d5175626", func := "plenum/plenumlaw27.BatchBytes", spec := "batchBytes", inPlace := ["internal/abi.NoEscape"], unfollowed := true, recurses := true, named := ["plenum/key.signs"], apart := false, laid := [("plenum/key.signs", laid_plenum_key_signs)] }
def BatchBytesSaid : Prop := batchBytesRow.holds Tryz.pinned (OpenSpec.ofChange batchBytesSpec)

/-- ITS FALSE NEIGHBOUR: 'it returns false'. Refute it at one input. -/
def batchBytesWrong : ChangeSpec := { name := "batchBytes", fn := fun _ => fun
  | [d1, d2] => { results := [.lit (.bool false)], args := [d1, d2] }
  | _ => none }
def BatchBytesWrongFalsely : Prop := batchBytesRow.holds Tryz.pinned (OpenSpec.ofChange batchBytesWrong)

/- THE SECOND FORM. 'bulk': how many values and letters a reading holds, each counted each time it is reached (what is shared counts as often as it is met; a slice's spare places count too). A statement '..UptoSaid' is the law's where the arguments, and the package variables that the reading takes, are together of bulk at most 1048576: NARROWER than '..Said'. Prove '..Said' where nothing that the law and all that it calls make is longer than what came in: it says more and counts as full. Else prove '..UptoSaid'. A law counts once. -/
mutual
def uptoBulk {H : Type} : DataW H → Nat
  | .lit (.string bytes) => bytes.length + 1
  | .lit _ => 1
  | .nil => 1
  | .ptr d => uptoBulk d + 1
  | .slice elems spare => uptoBulkAll elems + uptoBulkAll spare + 1
  | .agg parts => uptoBulkAll parts + 1
  | .iface _ d => uptoBulk d + 1
  | .map entries => uptoBulkEntries entries + 1
  | .held _ => 1
def uptoBulkAll {H : Type} : List (DataW H) → Nat
  | [] => 0
  | d :: r => uptoBulk d + uptoBulkAll r
def uptoBulkEntries {H : Type} : List (Lit × DataW H) → Nat
  | [] => 0
  | x :: r => uptoBulkEntry x + uptoBulkEntries r
def uptoBulkEntry {H : Type} : Lit × DataW H → Nat
  | (.string bytes, d) => bytes.length + uptoBulk d + 1
  | (_, d) => uptoBulk d + 1
 end
def uptoSmall : (H : Type) → List (DataW H) → Bool := fun _ ds => decide (uptoBulkAll ds ≤ 1048576)
def OpenSpec.upto (s : _root_.Go.ChangeSpec) : _root_.Go.OpenSpec := { _root_.Go.OpenSpec.ofChange s with cond := some uptoSmall }

/-- 'plenumlaw27.BatchAdds', WHERE WHAT IT READS IS OF BULK AT MOST 1048576: true; the input reads as it did. -/
def batchAddsUptoRow : OpenClaim := { program := "ytpnabjopfpdkhaagreatdoor", sum := "0eab84d782373aaf8927ebeb2233c54527c3bde8c0068f30d9b8aaa6d5175626", func := "plenum/plenumlaw27.BatchAdds", spec := "batchAdds", inPlace := ["internal/abi.NoEscape"], unfollowed := true, recurses := true, named := ["plenum/key.signs"], apart := false, laid := [("plenum/key.signs", laid_plenum_key_signs)], narrowed := true }
def BatchAddsUptoSaid : Prop := batchAddsUptoRow.holds Tryz.pinned (OpenSpec.upto batchAddsSpec)

/-- 'plenumlaw27.BatchWaits', WHERE WHAT IT READS IS OF BULK AT MOST 1048576: true; the input reads as it did. -/
def batchWaitsUptoRow : OpenClaim := { program := "ytpnabjopfpdkhaagreatdoor", sum := "0eab84d782373aaf8927ebeb2233c54527c3bde8c0068f30d9b8aaa6d5175626", func := "plenum/plenumlaw27.BatchWaits", spec := "batchWaits", inPlace := ["internal/abi.NoEscape"], unfollowed := true, recurses := true, named := ["plenum/key.signs"], apart := false, laid := [("plenum/key.signs", laid_plenum_key_signs)], narrowed := true }
def BatchWaitsUptoSaid : Prop := batchWaitsUptoRow.holds Tryz.pinned (OpenSpec.upto batchWaitsSpec)

/-- 'plenumlaw27.BatchTakes', WHERE WHAT IT READS IS OF BULK AT MOST 1048576: true; the input reads as it did. -/
def batchTakesUptoRow : OpenClaim := { program := "ytpnabjopfpdkhaagreatdoor", sum := "0eab84d782373aaf8927ebeb2233c54527c3bde8c0068f30d9b8aaa6d5175626", func := "plenum/plenumlaw27.BatchTakes", spec := "batchTakes", inPlace := ["internal/abi.NoEscape"], unfollowed := true, recurses := true, named := ["plenum/key.signs"], apart := false, laid := [("plenum/key.signs", laid_plenum_key_signs)], narrowed := true }
def BatchTakesUptoSaid : Prop := batchTakesUptoRow.holds Tryz.pinned (OpenSpec.upto batchTakesSpec)

/-- 'plenumlaw27.BatchBytes', WHERE WHAT IT READS IS OF BULK AT MOST 1048576: true; the input reads as it did. -/
def batchBytesUptoRow : OpenClaim := { program := "ytpnabjopfpdkhaagreatdoor", sum := "0eab84d782373aaf8927ebeb2233c54527c3bde8c0068f30d9b8aaa6d5175626", func := "plenum/plenumlaw27.BatchBytes", spec := "batchBytes", inPlace := ["internal/abi.NoEscape"], unfollowed := true, recurses := true, named := ["plenum/key.signs"], apart := false, laid := [("plenum/key.signs", laid_plenum_key_signs)], narrowed := true }
def BatchBytesUptoSaid : Prop := batchBytesUptoRow.holds Tryz.pinned (OpenSpec.upto batchBytesSpec)

end Rows
end Go.Proofs.YtpnabjopfpdkhaaGreatDoor
