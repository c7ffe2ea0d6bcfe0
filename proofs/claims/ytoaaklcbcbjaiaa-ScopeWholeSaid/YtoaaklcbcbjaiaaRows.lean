/-
  No cell of these rows narrows 'for every input' (looked for: loops, veiled, ifaces, maps, wideKeys, modest, calm, conditions, laid).
  DERIVED. THE GIVEN ROWS OF THIS SEAT. 7 by the template 'for every input the law returns true; each argument reads behind the call as it read before'; 0 by the template 'total and deterministic' (their statements: YtoaaklcbcbjaiaaTotals.lean).
  GIVEN WITH THE SEED: the statements are not yours to turn. If you find one false, say at which input.
  Laid BY PROGRAM, IN A SANDBOX (cutbox-rows.mjs): the forced cells as the released guide's own fill.sh prints them over the translation f59f30d2806e6269… (all of the seat's roots in one cut). By AI agents, Wed Nov 11 2026. No macro, syntax, notation, axiom, sorry.
-/
import Derived.Test.YtoaaklcbcbjaiaaChecked
import GoSem.Claim
import GoSem.ClaimJoined
import GoSem.ClaimMapViews
import Derived.JoinedTies
import Derived.KernelRfl
namespace Go.Proofs.Ytoaaklcbcbjaiaa
/- THE CELL 'sum', in the pinned program and in every row, IS THE sha256 OF THE DUMP (.gsa) THAT YtoaaklcbcbjaiaaProg.lean LOADS. Nothing in Lean hashes anything: it is a label: what it is worth is what the hold of that sum in a sandbox is worth. -/
noncomputable def Try.pinned : Pinned := { name := "ytoaaklcbcbjaiaa", sum := "f59f30d2806e62699e8ee94394c570b9a9778424388f55008248572a518b26ed", checked := Try.checked }
namespace Rows
def none {H : Type} : Left H := { results := [], args := [] }

/-- 'plenumlaw19.ScopeWhole': WHATEVER THE INPUT: true; the input reads as it did. -/
def scopeWholeSpec : ChangeSpec := { name := "scopeWhole", fn := fun _ => fun
  | [d] => { results := [.lit (.bool true)], args := [d] }
  | _ => none }
def scopeWholeRow : OpenClaim := { program := "ytoaaklcbcbjaiaa", sum := "f59f30d2806e62699e8ee94394c570b9a9778424388f55008248572a518b26ed", func := "plenum/plenumlaw19.ScopeWhole", spec := "scopeWhole", inPlace := ["internal/abi.NoEscape"], unfollowed := true, recurses := true, apart := false }
def ScopeWholeSaid : Prop := scopeWholeRow.holds Try.pinned (OpenSpec.ofChange scopeWholeSpec)

/-- ITS FALSE NEIGHBOUR: 'it returns false'. Refute it at one input. -/
def scopeWholeWrong : ChangeSpec := { name := "scopeWhole", fn := fun _ => fun
  | [d] => { results := [.lit (.bool false)], args := [d] }
  | _ => none }
def ScopeWholeWrongFalsely : Prop := scopeWholeRow.holds Try.pinned (OpenSpec.ofChange scopeWholeWrong)

/-- 'plenumlaw17.ParseNumbers': WHATEVER THE INPUT: true; the input reads as it did. -/
def parseNumbersSpec : ChangeSpec := { name := "parseNumbers", fn := fun _ => fun
  | [] => { results := [.lit (.bool true)], args := [] }
  | _ => none }
def parseNumbersRow : OpenClaim := { program := "ytoaaklcbcbjaiaa", sum := "f59f30d2806e62699e8ee94394c570b9a9778424388f55008248572a518b26ed", func := "plenum/plenumlaw17.ParseNumbers", spec := "parseNumbers", inPlace := ["internal/abi.NoEscape"], unfollowed := true, recurses := true, apart := false }
def ParseNumbersSaid : Prop := parseNumbersRow.holds Try.pinned (OpenSpec.ofChange parseNumbersSpec)

/-- ITS FALSE NEIGHBOUR: 'it returns false'. Refute it at one input. -/
def parseNumbersWrong : ChangeSpec := { name := "parseNumbers", fn := fun _ => fun
  | [] => { results := [.lit (.bool false)], args := [] }
  | _ => none }
def ParseNumbersWrongFalsely : Prop := parseNumbersRow.holds Try.pinned (OpenSpec.ofChange parseNumbersWrong)

/-- 'plenumlaw17.ParseTokens': WHATEVER THE INPUT: true; the input reads as it did. -/
def parseTokensSpec : ChangeSpec := { name := "parseTokens", fn := fun _ => fun
  | [d] => { results := [.lit (.bool true)], args := [d] }
  | _ => none }
def parseTokensRow : OpenClaim := { program := "ytoaaklcbcbjaiaa", sum := "f59f30d2806e62699e8ee94394c570b9a9778424388f55008248572a518b26ed", func := "plenum/plenumlaw17.ParseTokens", spec := "parseTokens", inPlace := ["internal/abi.NoEscape"], unfollowed := true, recurses := true, apart := false }
def ParseTokensSaid : Prop := parseTokensRow.holds Try.pinned (OpenSpec.ofChange parseTokensSpec)

/-- ITS FALSE NEIGHBOUR: 'it returns false'. Refute it at one input. -/
def parseTokensWrong : ChangeSpec := { name := "parseTokens", fn := fun _ => fun
  | [d] => { results := [.lit (.bool false)], args := [d] }
  | _ => none }
def ParseTokensWrongFalsely : Prop := parseTokensRow.holds Try.pinned (OpenSpec.ofChange parseTokensWrong)

/-- 'plenumlaw17.ParseSources': WHATEVER THE INPUT: true; the input reads as it did. -/
def parseSourcesSpec : ChangeSpec := { name := "parseSources", fn := fun _ => fun
  | [d] => { results := [.lit (.bool true)], args := [d] }
  | _ => none }
def parseSourcesRow : OpenClaim := { program := "ytoaaklcbcbjaiaa", sum := "f59f30d2806e62699e8ee94394c570b9a9778424388f55008248572a518b26ed", func := "plenum/plenumlaw17.ParseSources", spec := "parseSources", inPlace := ["internal/abi.NoEscape"], unfollowed := true, recurses := true, apart := false }
def ParseSourcesSaid : Prop := parseSourcesRow.holds Try.pinned (OpenSpec.ofChange parseSourcesSpec)

/-- ITS FALSE NEIGHBOUR: 'it returns false'. Refute it at one input. -/
def parseSourcesWrong : ChangeSpec := { name := "parseSources", fn := fun _ => fun
  | [d] => { results := [.lit (.bool false)], args := [d] }
  | _ => none }
def ParseSourcesWrongFalsely : Prop := parseSourcesRow.holds Try.pinned (OpenSpec.ofChange parseSourcesWrong)

/-- 'plenumlaw17.ParseOrder': WHATEVER THE INPUT: true; the input reads as it did. -/
def parseOrderSpec : ChangeSpec := { name := "parseOrder", fn := fun _ => fun
  | [d] => { results := [.lit (.bool true)], args := [d] }
  | _ => none }
def parseOrderRow : OpenClaim := { program := "ytoaaklcbcbjaiaa", sum := "f59f30d2806e62699e8ee94394c570b9a9778424388f55008248572a518b26ed", func := "plenum/plenumlaw17.ParseOrder", spec := "parseOrder", inPlace := ["internal/abi.NoEscape"], unfollowed := true, recurses := true, apart := false }
def ParseOrderSaid : Prop := parseOrderRow.holds Try.pinned (OpenSpec.ofChange parseOrderSpec)

/-- ITS FALSE NEIGHBOUR: 'it returns false'. Refute it at one input. -/
def parseOrderWrong : ChangeSpec := { name := "parseOrder", fn := fun _ => fun
  | [d] => { results := [.lit (.bool false)], args := [d] }
  | _ => none }
def ParseOrderWrongFalsely : Prop := parseOrderRow.holds Try.pinned (OpenSpec.ofChange parseOrderWrong)

/-- 'plenumlaw17.ParseBlanks': WHATEVER THE INPUT: true; the input reads as it did. -/
def parseBlanksSpec : ChangeSpec := { name := "parseBlanks", fn := fun _ => fun
  | [d] => { results := [.lit (.bool true)], args := [d] }
  | _ => none }
def parseBlanksRow : OpenClaim := { program := "ytoaaklcbcbjaiaa", sum := "f59f30d2806e62699e8ee94394c570b9a9778424388f55008248572a518b26ed", func := "plenum/plenumlaw17.ParseBlanks", spec := "parseBlanks", inPlace := ["internal/abi.NoEscape"], unfollowed := true, recurses := true, apart := false }
def ParseBlanksSaid : Prop := parseBlanksRow.holds Try.pinned (OpenSpec.ofChange parseBlanksSpec)

/-- ITS FALSE NEIGHBOUR: 'it returns false'. Refute it at one input. -/
def parseBlanksWrong : ChangeSpec := { name := "parseBlanks", fn := fun _ => fun
  | [d] => { results := [.lit (.bool false)], args := [d] }
  | _ => none }
def ParseBlanksWrongFalsely : Prop := parseBlanksRow.holds Try.pinned (OpenSpec.ofChange parseBlanksWrong)

/-- 'plenumlaw17.ParseParens': WHATEVER THE INPUT: true; the input reads as it did. -/
def parseParensSpec : ChangeSpec := { name := "parseParens", fn := fun _ => fun
  | [d1, d2] => { results := [.lit (.bool true)], args := [d1, d2] }
  | _ => none }
def parseParensRow : OpenClaim := { program := "ytoaaklcbcbjaiaa", sum := "f59f30d2806e62699e8ee94394c570b9a9778424388f55008248572a518b26ed", func := "plenum/plenumlaw17.ParseParens", spec := "parseParens", inPlace := ["internal/abi.NoEscape"], unfollowed := true, recurses := true, apart := false }
def ParseParensSaid : Prop := parseParensRow.holds Try.pinned (OpenSpec.ofChange parseParensSpec)

/-- ITS FALSE NEIGHBOUR: 'it returns false'. Refute it at one input. -/
def parseParensWrong : ChangeSpec := { name := "parseParens", fn := fun _ => fun
  | [d1, d2] => { results := [.lit (.bool false)], args := [d1, d2] }
  | _ => none }
def ParseParensWrongFalsely : Prop := parseParensRow.holds Try.pinned (OpenSpec.ofChange parseParensWrong)

/- THE SECOND FORM. 'bulk': how many values and letters a reading holds, each counted each time it is reached (what is shared counts as often as it is met; a slice's spare places count too). A statement '..UptoSaid' is the law's where the arguments, and the package variables that the reading takes, are together of bulk at most 1048576: NARROWER than '..Said'. Prove '..Said' where nothing that the law and all that it calls make is longer than what came in: it says more and counts as full. Else prove '..UptoSaid'. A law counts once. -/
mutual
def uptoBulk {H : Type} : DataW H → Nat
  | .lit (.string bytes) => bytes.length + 1
  | .lit _ => 1
  | .nil => 1
  | .ptr d => uptoBulk d + 1
  | .slice elems spare => uptoBulkAll elems + uptoBulkAll spare + 1
  | .agg parts => uptoBulkAll parts + 1
  | .iface _ d => uptoBulk d + 1
  | .map entries => uptoBulkEntries entries + 1
  | .held _ => 1
def uptoBulkAll {H : Type} : List (DataW H) → Nat
  | [] => 0
  | d :: r => uptoBulk d + uptoBulkAll r
def uptoBulkEntries {H : Type} : List (Lit × DataW H) → Nat
  | [] => 0
  | x :: r => uptoBulkEntry x + uptoBulkEntries r
def uptoBulkEntry {H : Type} : Lit × DataW H → Nat
  | (.string bytes, d) => bytes.length + uptoBulk d + 1
  | (_, d) => uptoBulk d + 1
 end
def uptoSmall : (H : Type) → List (DataW H) → Bool := fun _ ds => decide (uptoBulkAll ds ≤ 1048576)
def OpenSpec.upto (s : _root_.Go.ChangeSpec) : _root_.Go.OpenSpec := { _root_.Go.OpenSpec.ofChange s with cond := some uptoSmall }

/-- 'plenumlaw19.ScopeWhole', WHERE WHAT IT READS IS OF BULK AT MOST 1048576: true; the input reads as it did. -/
def scopeWholeUptoRow : OpenClaim := { program := "ytoaaklcbcbjaiaa", sum := "f59f30d2806e62699e8ee94394c570b9a9778424388f55008248572a518b26ed", func := "plenum/plenumlaw19.ScopeWhole", spec := "scopeWhole", inPlace := ["internal/abi.NoEscape"], unfollowed := true, recurses := true, apart := false, narrowed := true }
def ScopeWholeUptoSaid : Prop := scopeWholeUptoRow.holds Try.pinned (OpenSpec.upto scopeWholeSpec)

/-- 'plenumlaw17.ParseNumbers', WHERE WHAT IT READS IS OF BULK AT MOST 1048576: true; the input reads as it did. -/
def parseNumbersUptoRow : OpenClaim := { program := "ytoaaklcbcbjaiaa", sum := "f59f30d2806e62699e8ee94394c570b9a9778424388f55008248572a518b26ed", func := "plenum/plenumlaw17.ParseNumbers", spec := "parseNumbers", inPlace := ["internal/abi.NoEscape"], unfollowed := true, recurses := true, apart := false, narrowed := true }
def ParseNumbersUptoSaid : Prop := parseNumbersUptoRow.holds Try.pinned (OpenSpec.upto parseNumbersSpec)

/-- 'plenumlaw17.ParseTokens', WHERE WHAT IT READS IS OF BULK AT MOST 1048576: true; the input reads as it did. -/
def parseTokensUptoRow : OpenClaim := { program := "ytoaaklcbcbjaiaa", sum := "f59f30d2806e62699e8ee94394c570b9a9778424388f55008248572a518b26ed", func := "plenum/plenumlaw17.ParseTokens", spec := "parseTokens", inPlace := ["internal/abi.NoEscape"], unfollowed := true, recurses := true, apart := false, narrowed := true }
def ParseTokensUptoSaid : Prop := parseTokensUptoRow.holds Try.pinned (OpenSpec.upto parseTokensSpec)

/-- 'plenumlaw17.ParseSources', WHERE WHAT IT READS IS OF BULK AT MOST 1048576: true; the input reads as it did. -/
def parseSourcesUptoRow : OpenClaim := { program := "ytoaaklcbcbjaiaa", sum := "f59f30d2806e62699e8ee94394c570b9a9778424388f55008248572a518b26ed", func := "plenum/plenumlaw17.ParseSources", spec := "parseSources", inPlace := ["internal/abi.NoEscape"], unfollowed := true, recurses := true, apart := false, narrowed := true }
def ParseSourcesUptoSaid : Prop := parseSourcesUptoRow.holds Try.pinned (OpenSpec.upto parseSourcesSpec)

/-- 'plenumlaw17.ParseOrder', WHERE WHAT IT READS IS OF BULK AT MOST 1048576: true; the input reads as it did. -/
def parseOrderUptoRow : OpenClaim := { program := "ytoaaklcbcbjaiaa", sum := "f59f30d2806e62699e8ee94394c570b9a9778424388f55008248572a518b26ed", func := "plenum/plenumlaw17.ParseOrder", spec := "parseOrder", inPlace := ["internal/abi.NoEscape"], unfollowed := true, recurses := true, apart := false, narrowed := true }
def ParseOrderUptoSaid : Prop := parseOrderUptoRow.holds Try.pinned (OpenSpec.upto parseOrderSpec)

/-- 'plenumlaw17.ParseBlanks', WHERE WHAT IT READS IS OF BULK AT MOST 1048576: true; the input reads as it did. -/
def parseBlanksUptoRow : OpenClaim := { program := "ytoaaklcbcbjaiaa", sum := "f59f30d2806e62699e8ee94394c570b9a9778424388f55008248572a518b26ed", func := "plenum/plenumlaw17.ParseBlanks", spec := "parseBlanks", inPlace := ["internal/abi.NoEscape"], unfollowed := true, recurses := true, apart := false, narrowed := true }
def ParseBlanksUptoSaid : Prop := parseBlanksUptoRow.holds Try.pinned (OpenSpec.upto parseBlanksSpec)

/-- 'plenumlaw17.ParseParens', WHERE WHAT IT READS IS OF BULK AT MOST 1048576: true; the input reads as it did. -/
def parseParensUptoRow : OpenClaim := { program := "ytoaaklcbcbjaiaa", sum := "f59f30d2806e62699e8ee94394c570b9a9778424388f55008248572a518b26ed", func := "plenum/plenumlaw17.ParseParens", spec := "parseParens", inPlace := ["internal/abi.NoEscape"], unfollowed := true, recurses := true, apart := false, narrowed := true }
def ParseParensUptoSaid : Prop := parseParensUptoRow.holds Try.pinned (OpenSpec.upto parseParensSpec)

end Rows
end Go.Proofs.Ytoaaklcbcbjaiaa
