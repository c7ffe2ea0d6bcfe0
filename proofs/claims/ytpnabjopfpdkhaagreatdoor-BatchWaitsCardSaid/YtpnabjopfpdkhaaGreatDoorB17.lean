/- Lemmas for the claim (texts CdB, what its proof uses of them). -/
import Derived.Test.YtpnabjopfpdkhaaGreatDoorB11
import Derived.Test.YtpnabjopfpdkhaaGreatDoorB13
set_option linter.unusedSimpArgs false
set_option linter.unusedVariables false
namespace Go.Proofs.YtpnabjopfpdkhaaGreatDoor
open Go.RowKit
attribute [go_sem] more_more Array.size_append
end Go.Proofs.YtpnabjopfpdkhaaGreatDoor
