/-
  No cell of these rows narrows 'for every input' (looked for: loops, veiled, ifaces, maps, wideKeys, modest, calm, conditions, laid).
  DERIVED. THE GIVEN ROWS OF THIS SEAT. 3 by the template 'for every input the law returns true; each argument reads behind the call as it read before'; 0 by the template 'total and deterministic' (their statements: YtpoeknndkccbaaaGreatTotals.lean).
  GIVEN WITH THE SEED: the statements are not yours to turn. If you find one false, say at which input.
  Laid BY PROGRAM, IN A SANDBOX (cutbox-rows.mjs): the forced cells as the released guide's own fill.sh prints them over the translation 6230c79ca4ad626c… (all of the seat's roots in one cut). By AI agents, Wed Nov 11 2026. No macro, syntax, notation, axiom, sorry.
-/
import Derived.Test.YtpoeknndkccbaaaGreatChecked
import GoSem.Claim
import GoSem.ClaimJoined
import GoSem.ClaimMapViews
import Derived.JoinedTies
import Derived.KernelRfl
namespace Go.Proofs.YtpoeknndkccbaaaGreat
/- THE CELL 'sum', in the pinned program and in every row, IS THE sha256 OF THE DUMP (.gsa) THAT YtpoeknndkccbaaaGreatProg.lean LOADS. Nothing in Lean hashes anything: it is a label: what it is worth is what the hold of that sum in a sandbox is worth. -/
noncomputable def Tryz.pinned : Pinned := { name := "ytpoeknndkccbaaagreat", sum := "6230c79ca4ad626cffde141361331493083d31238be05e27402c8d46c83efc3c", checked := Tryz.checked }
namespace Rows
def none {H : Type} : Left H := { results := [], args := [] }

/-- 'plenumlaw20.CodeMakes': WHATEVER THE INPUT: true; the input reads as it did. -/
def codeMakesSpec : ChangeSpec := { name := "codeMakes", fn := fun _ => fun
  | [d] => { results := [.lit (.bool true)], args := [d] }
  | _ => none }
def codeMakesRow : OpenClaim := { program := "ytpoeknndkccbaaagreat", sum := "6230c79ca4ad626cffde141361331493083d31238be05e27402c8d46c83efc3c", func := "plenum/plenumlaw20.CodeMakes", spec := "codeMakes", inPlace := ["internal/abi.NoEscape"], unfollowed := true, recurses := true, apart := false }
def CodeMakesSaid : Prop := codeMakesRow.holds Tryz.pinned (OpenSpec.ofChange codeMakesSpec)

/-- ITS FALSE NEIGHBOUR: 'it returns false'. Refute it at one input. -/
def codeMakesWrong : ChangeSpec := { name := "codeMakes", fn := fun _ => fun
  | [d] => { results := [.lit (.bool false)], args := [d] }
  | _ => none }
def CodeMakesWrongFalsely : Prop := codeMakesRow.holds Tryz.pinned (OpenSpec.ofChange codeMakesWrong)

/-- 'plenumlaw20.CodeSources': WHATEVER THE INPUT: true; the input reads as it did. -/
def codeSourcesSpec : ChangeSpec := { name := "codeSources", fn := fun _ => fun
  | [d] => { results := [.lit (.bool true)], args := [d] }
  | _ => none }
def codeSourcesRow : OpenClaim := { program := "ytpoeknndkccbaaagreat", sum := "6230c79ca4ad626cffde141361331493083d31238be05e27402c8d46c83efc3c", func := "plenum/plenumlaw20.CodeSources", spec := "codeSources", inPlace := ["internal/abi.NoEscape"], unfollowed := true, recurses := true, apart := false }
def CodeSourcesSaid : Prop := codeSourcesRow.holds Tryz.pinned (OpenSpec.ofChange codeSourcesSpec)

/-- ITS FALSE NEIGHBOUR: 'it returns false'. Refute it at one input. -/
def codeSourcesWrong : ChangeSpec := { name := "codeSources", fn := fun _ => fun
  | [d] => { results := [.lit (.bool false)], args := [d] }
  | _ => none }
def CodeSourcesWrongFalsely : Prop := codeSourcesRow.holds Tryz.pinned (OpenSpec.ofChange codeSourcesWrong)

/-- 'plenumlaw20.CodeSame': WHATEVER THE INPUT: true; the input reads as it did. -/
def codeSameSpec : ChangeSpec := { name := "codeSame", fn := fun _ => fun
  | [d1, d2] => { results := [.lit (.bool true)], args := [d1, d2] }
  | _ => none }
def codeSameRow : OpenClaim := { program := "ytpoeknndkccbaaagreat", sum := "6230c79ca4ad626cffde141361331493083d31238be05e27402c8d46c83efc3c", func := "plenum/plenumlaw20.CodeSame", spec := "codeSame", inPlace := ["internal/abi.NoEscape"], unfollowed := true, recurses := true, apart := false }
def CodeSameSaid : Prop := codeSameRow.holds Tryz.pinned (OpenSpec.ofChange codeSameSpec)

/-- ITS FALSE NEIGHBOUR: 'it returns false'. Refute it at one input. -/
def codeSameWrong : ChangeSpec := { name := "codeSame", fn := fun _ => fun
  | [d1, d2] => { results := [.lit (.bool false)], args := [d1, d2] }
  | _ => none }
def CodeSameWrongFalsely : Prop := codeSameRow.holds Tryz.pinned (OpenSpec.ofChange codeSameWrong)

/- THE SECOND FORM. 'bulk': how many values and letters a reading holds, each counted each time it is reached (what is shared counts as often as it is met; a slice's spare places count too). A statement '..UptoSaid' is the law's where the arguments, and the package variables that the reading takes, are together of bulk at most 1048576: NARROWER than '..Said'. Prove '..Said' where nothing that the law and all that it calls make is longer than what came in: it says more and counts as full. Else prove '..UptoSaid'. A law counts once. -/
mutual
def uptoBulk {H : Type} : DataW H → Nat
  | .lit (.string bytes) => bytes.length + 1
  | .lit _ => 1
  | .nil => 1
  | .ptr d => uptoBulk d + 1
  | .slice elems spare => uptoBulkAll elems + uptoBulkAll spare + 1
  | .agg parts => uptoBulkAll parts + 1
  | .iface _ d => uptoBulk d + 1
  | .map entries => uptoBulkEntries entries + 1
  | .held _ => 1
def uptoBulkAll {H : Type} : List (DataW H) → Nat
  | [] => 0
  | d :: r => uptoBulk d + uptoBulkAll r
def uptoBulkEntries {H : Type} : List (Lit × DataW H) → Nat
  | [] => 0
  | x :: r => uptoBulkEntry x + uptoBulkEntries r
def uptoBulkEntry {H : Type} : Lit × DataW H → Nat
  | (.string bytes, d) => bytes.length + uptoBulk d + 1
  | (_, d) => uptoBulk d + 1
 end
def uptoSmall : (H : Type) → List (DataW H) → Bool := fun _ ds => decide (uptoBulkAll ds ≤ 1048576)
def OpenSpec.upto (s : _root_.Go.ChangeSpec) : _root_.Go.OpenSpec := { _root_.Go.OpenSpec.ofChange s with cond := some uptoSmall }

/-- 'plenumlaw20.CodeMakes', WHERE WHAT IT READS IS OF BULK AT MOST 1048576: true; the input reads as it did. -/
def codeMakesUptoRow : OpenClaim := { program := "ytpoeknndkccbaaagreat", sum := "6230c79ca4ad626cffde141361331493083d31238be05e27402c8d46c83efc3c", func := "plenum/plenumlaw20.CodeMakes", spec := "codeMakes", inPlace := ["internal/abi.NoEscape"], unfollowed := true, recurses := true, apart := false, narrowed := true }
def CodeMakesUptoSaid : Prop := codeMakesUptoRow.holds Tryz.pinned (OpenSpec.upto codeMakesSpec)

/-- 'plenumlaw20.CodeSources', WHERE WHAT IT READS IS OF BULK AT MOST 1048576: true; the input reads as it did. -/
def codeSourcesUptoRow : OpenClaim := { program := "ytpoeknndkccbaaagreat", sum := "6230c79ca4ad626cffde141361331493083d31238be05e27402c8d46c83efc3c", func := "plenum/plenumlaw20.CodeSources", spec := "codeSources", inPlace := ["internal/abi.NoEscape"], unfollowed := true, recurses := true, apart := false, narrowed := true }
def CodeSourcesUptoSaid : Prop := codeSourcesUptoRow.holds Tryz.pinned (OpenSpec.upto codeSourcesSpec)

/-- 'plenumlaw20.CodeSame', WHERE WHAT IT READS IS OF BULK AT MOST 1048576: true; the input reads as it did. -/
def codeSameUptoRow : OpenClaim := { program := "ytpoeknndkccbaaagreat", sum := "6230c79ca4ad626cffde141361331493083d31238be05e27402c8d46c83efc3c", func := "plenum/plenumlaw20.CodeSame", spec := "codeSame", inPlace := ["internal/abi.NoEscape"], unfollowed := true, recurses := true, apart := false, narrowed := true }
def CodeSameUptoSaid : Prop := codeSameUptoRow.holds Tryz.pinned (OpenSpec.upto codeSameSpec)

end Rows
end Go.Proofs.YtpoeknndkccbaaaGreat
