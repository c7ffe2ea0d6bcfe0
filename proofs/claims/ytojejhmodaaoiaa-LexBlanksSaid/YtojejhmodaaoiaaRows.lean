/-
  No cell of these rows narrows 'for every input' (looked for: loops, veiled, ifaces, maps, wideKeys, modest, calm, conditions, laid).
  DERIVED. THE GIVEN ROWS OF THIS SEAT. 4 by the template 'for every input the law returns true; each argument reads behind the call as it read before'; 0 by the template 'total and deterministic' (their statements: YtojejhmodaaoiaaTotals.lean).
  GIVEN WITH THE SEED: the statements are not yours to turn. If you find one false, say at which input.
  Laid BY PROGRAM, IN A SANDBOX (cutbox-rows.mjs): the forced cells as the released guide's own fill.sh prints them over the translation 5d3623bd90f4cca7… (all of the seat's roots in one cut). By AI agents, Wed Nov 11 2026. No macro, syntax, notation, axiom, sorry.
-/
import Derived.Test.YtojejhmodaaoiaaChecked
import GoSem.Claim
import GoSem.ClaimJoined
import GoSem.ClaimMapViews
import Derived.JoinedTies
import Derived.KernelRfl
namespace Go.Proofs.Ytojejhmodaaoiaa
/- THE CELL 'sum', in the pinned program and in every row, IS THE sha256 OF THE DUMP (.gsa) THAT YtojejhmodaaoiaaProg.lean LOADS. Nothing in Lean hashes anything: it is a label: what it is worth is what the hold of that sum in a sandbox is worth. -/
noncomputable def Try.pinned : Pinned := { name := "ytojejhmodaaoiaa", sum := "5d3623bd90f4cca7ea5c5b81c4cb9b4be852b328a4944b77186aff148aa2185a", checked := Try.checked }
namespace Rows
def none {H : Type} : Left H := { results := [], args := [] }

/-- 'plenumlaw16.LexNumbers': WHATEVER THE INPUT: true; the input reads as it did. -/
def lexNumbersSpec : ChangeSpec := { name := "lexNumbers", fn := fun _ => fun
  | [] => { results := [.lit (.bool true)], args := [] }
  | _ => none }
def lexNumbersRow : OpenClaim := { program := "ytojejhmodaaoiaa", sum := "5d3623bd90f4cca7ea5c5b81c4cb9b4be852b328a4944b77186aff148aa2185a", func := "plenum/plenumlaw16.LexNumbers", spec := "lexNumbers", inPlace := ["internal/abi.NoEscape"], unfollowed := true, recurses := true, apart := false }
def LexNumbersSaid : Prop := lexNumbersRow.holds Try.pinned (OpenSpec.ofChange lexNumbersSpec)

/-- ITS FALSE NEIGHBOUR: 'it returns false'. Refute it at one input. -/
def lexNumbersWrong : ChangeSpec := { name := "lexNumbers", fn := fun _ => fun
  | [] => { results := [.lit (.bool false)], args := [] }
  | _ => none }
def LexNumbersWrongFalsely : Prop := lexNumbersRow.holds Try.pinned (OpenSpec.ofChange lexNumbersWrong)

/-- 'plenumlaw16.LexBlanks': WHATEVER THE INPUT: true; the input reads as it did. -/
def lexBlanksSpec : ChangeSpec := { name := "lexBlanks", fn := fun _ => fun
  | [d] => { results := [.lit (.bool true)], args := [d] }
  | _ => none }
def lexBlanksRow : OpenClaim := { program := "ytojejhmodaaoiaa", sum := "5d3623bd90f4cca7ea5c5b81c4cb9b4be852b328a4944b77186aff148aa2185a", func := "plenum/plenumlaw16.LexBlanks", spec := "lexBlanks", inPlace := ["internal/abi.NoEscape"], unfollowed := true, recurses := true, apart := false }
def LexBlanksSaid : Prop := lexBlanksRow.holds Try.pinned (OpenSpec.ofChange lexBlanksSpec)

/-- ITS FALSE NEIGHBOUR: 'it returns false'. Refute it at one input. -/
def lexBlanksWrong : ChangeSpec := { name := "lexBlanks", fn := fun _ => fun
  | [d] => { results := [.lit (.bool false)], args := [d] }
  | _ => none }
def LexBlanksWrongFalsely : Prop := lexBlanksRow.holds Try.pinned (OpenSpec.ofChange lexBlanksWrong)

/-- 'plenumlaw16.LexWords': WHATEVER THE INPUT: true; the input reads as it did. -/
def lexWordsSpec : ChangeSpec := { name := "lexWords", fn := fun _ => fun
  | [d] => { results := [.lit (.bool true)], args := [d] }
  | _ => none }
def lexWordsRow : OpenClaim := { program := "ytojejhmodaaoiaa", sum := "5d3623bd90f4cca7ea5c5b81c4cb9b4be852b328a4944b77186aff148aa2185a", func := "plenum/plenumlaw16.LexWords", spec := "lexWords", inPlace := ["internal/abi.NoEscape"], unfollowed := true, recurses := true, apart := false }
def LexWordsSaid : Prop := lexWordsRow.holds Try.pinned (OpenSpec.ofChange lexWordsSpec)

/-- ITS FALSE NEIGHBOUR: 'it returns false'. Refute it at one input. -/
def lexWordsWrong : ChangeSpec := { name := "lexWords", fn := fun _ => fun
  | [d] => { results := [.lit (.bool false)], args := [d] }
  | _ => none }
def LexWordsWrongFalsely : Prop := lexWordsRow.holds Try.pinned (OpenSpec.ofChange lexWordsWrong)

/-- 'plenumlaw16.LexQuotes': WHATEVER THE INPUT: true; the input reads as it did. -/
def lexQuotesSpec : ChangeSpec := { name := "lexQuotes", fn := fun _ => fun
  | [d1, d2] => { results := [.lit (.bool true)], args := [d1, d2] }
  | _ => none }
def lexQuotesRow : OpenClaim := { program := "ytojejhmodaaoiaa", sum := "5d3623bd90f4cca7ea5c5b81c4cb9b4be852b328a4944b77186aff148aa2185a", func := "plenum/plenumlaw16.LexQuotes", spec := "lexQuotes", inPlace := ["internal/abi.NoEscape"], unfollowed := true, recurses := true, apart := false }
def LexQuotesSaid : Prop := lexQuotesRow.holds Try.pinned (OpenSpec.ofChange lexQuotesSpec)

/-- ITS FALSE NEIGHBOUR: 'it returns false'. Refute it at one input. -/
def lexQuotesWrong : ChangeSpec := { name := "lexQuotes", fn := fun _ => fun
  | [d1, d2] => { results := [.lit (.bool false)], args := [d1, d2] }
  | _ => none }
def LexQuotesWrongFalsely : Prop := lexQuotesRow.holds Try.pinned (OpenSpec.ofChange lexQuotesWrong)

/- THE SECOND FORM. 'bulk': how many values and letters a reading holds, each counted each time it is reached (what is shared counts as often as it is met; a slice's spare places count too). A statement '..UptoSaid' is the law's where the arguments, and the package variables that the reading takes, are together of bulk at most 1048576: NARROWER than '..Said'. Prove '..Said' where nothing that the law and all that it calls make is longer than what came in: it says more and counts as full. Else prove '..UptoSaid'. A law counts once. -/
mutual
def uptoBulk {H : Type} : DataW H → Nat
  | .lit (.string bytes) => bytes.length + 1
  | .lit _ => 1
  | .nil => 1
  | .ptr d => uptoBulk d + 1
  | .slice elems spare => uptoBulkAll elems + uptoBulkAll spare + 1
  | .agg parts => uptoBulkAll parts + 1
  | .iface _ d => uptoBulk d + 1
  | .map entries => uptoBulkEntries entries + 1
  | .held _ => 1
def uptoBulkAll {H : Type} : List (DataW H) → Nat
  | [] => 0
  | d :: r => uptoBulk d + uptoBulkAll r
def uptoBulkEntries {H : Type} : List (Lit × DataW H) → Nat
  | [] => 0
  | x :: r => uptoBulkEntry x + uptoBulkEntries r
def uptoBulkEntry {H : Type} : Lit × DataW H → Nat
  | (.string bytes, d) => bytes.length + uptoBulk d + 1
  | (_, d) => uptoBulk d + 1
 end
def uptoSmall : (H : Type) → List (DataW H) → Bool := fun _ ds => decide (uptoBulkAll ds ≤ 1048576)
def OpenSpec.upto (s : _root_.Go.ChangeSpec) : _root_.Go.OpenSpec := { _root_.Go.OpenSpec.ofChange s with cond := some uptoSmall }

/-- 'plenumlaw16.LexNumbers', WHERE WHAT IT READS IS OF BULK AT MOST 1048576: true; the input reads as it did. -/
def lexNumbersUptoRow : OpenClaim := { program := "ytojejhmodaaoiaa", sum := "5d3623bd90f4cca7ea5c5b81c4cb9b4be852b328a4944b77186aff148aa2185a", func := "plenum/plenumlaw16.LexNumbers", spec := "lexNumbers", inPlace := ["internal/abi.NoEscape"], unfollowed := true, recurses := true, apart := false, narrowed := true }
def LexNumbersUptoSaid : Prop := lexNumbersUptoRow.holds Try.pinned (OpenSpec.upto lexNumbersSpec)

/-- 'plenumlaw16.LexBlanks', WHERE WHAT IT READS IS OF BULK AT MOST 1048576: true; the input reads as it did. -/
def lexBlanksUptoRow : OpenClaim := { program := "ytojejhmodaaoiaa", sum := "5d3623bd90f4cca7ea5c5b81c4cb9b4be852b328a4944b77186aff148aa2185a", func := "plenum/plenumlaw16.LexBlanks", spec := "lexBlanks", inPlace := ["internal/abi.NoEscape"], unfollowed := true, recurses := true, apart := false, narrowed := true }
def LexBlanksUptoSaid : Prop := lexBlanksUptoRow.holds Try.pinned (OpenSpec.upto lexBlanksSpec)

/-- 'plenumlaw16.LexWords', WHERE WHAT IT READS IS OF BULK AT MOST 1048576: true; the input reads as it did. -/
def lexWordsUptoRow : OpenClaim := { program := "ytojejhmodaaoiaa", sum := "5d3623bd90f4cca7ea5c5b81c4cb9b4be852b328a4944b77186aff148aa2185a", func := "plenum/plenumlaw16.LexWords", spec := "lexWords", inPlace := ["internal/abi.NoEscape"], unfollowed := true, recurses := true, apart := false, narrowed := true }
def LexWordsUptoSaid : Prop := lexWordsUptoRow.holds Try.pinned (OpenSpec.upto lexWordsSpec)

/-- 'plenumlaw16.LexQuotes', WHERE WHAT IT READS IS OF BULK AT MOST 1048576: true; the input reads as it did. -/
def lexQuotesUptoRow : OpenClaim := { program := "ytojejhmodaaoiaa", sum := "5d3623bd90f4cca7ea5c5b81c4cb9b4be852b328a4944b77186aff148aa2185a", func := "plenum/plenumlaw16.LexQuotes", spec := "lexQuotes", inPlace := ["internal/abi.NoEscape"], unfollowed := true, recurses := true, apart := false, narrowed := true }
def LexQuotesUptoSaid : Prop := lexQuotesUptoRow.holds Try.pinned (OpenSpec.upto lexQuotesSpec)

end Rows
end Go.Proofs.Ytojejhmodaaoiaa
