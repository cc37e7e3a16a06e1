/- What Check lets through, over plain lists of bytes: a checked path and its parents. -/
import Derived.Test.YtpjjooiamdfmfaaGreatDoorNameRef
import Derived.Lib.ValidLaws
set_option linter.unusedVariables false
set_option linter.unusedSimpArgs false
namespace Go.Proofs.YtpjjooiamdfmfaaGreatDoor.NameKeepLaw
open Go.RowKit Go.Proofs.YtpjjooiamdfmfaaGreatDoor.NameLaw Go.Proofs.YtpjjooiamdfmfaaGreatDoor.NameCmp Go.Proofs.YtpjjooiamdfmfaaGreatDoor.NameWalk Go.Proofs.YtpjjooiamdfmfaaGreatDoor.NameRef

/-! ### the last slash -/
/-! ### a path that may be, and its parents -/
end Go.Proofs.YtpjjooiamdfmfaaGreatDoor.NameKeepLaw
