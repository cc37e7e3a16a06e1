/- What the document's answers for names come to, over plain lists of bytes: Parts, Order, Parent, Base, Under. -/
import Derived.Test.YtpjjooiamdfmfaaGreatDoorNameBase
import Derived.Test.YtpjjooiamdfmfaaGreatDoorNameOrd
import Derived.Test.YtpjjooiamdfmfaaGreatDoorPN
import Derived.WideShapes
set_option linter.unusedVariables false
set_option linter.unusedSimpArgs false
namespace Go.Proofs.YtpjjooiamdfmfaaGreatDoor.NameRef
open Go.RowKit Go.Proofs.YtpjjooiamdfmfaaGreatDoorW.PrintWords Go.Proofs.YtpjjooiamdfmfaaGreatDoorW.PrintLast Go.Proofs.YtpjjooiamdfmfaaGreatDoor.NameLaw Go.Proofs.YtpjjooiamdfmfaaGreatDoor.NameCmp Go.Proofs.YtpjjooiamdfmfaaGreatDoor.NameWalk

/-! ### Parts -/
/-! ### Order -/
/-! ### Parent, Base -/
end Go.Proofs.YtpjjooiamdfmfaaGreatDoor.NameRef
