/- The document's Check: it is the code's. -/
import Derived.Test.YtpjjooiamdfmfaaGreatDoorNameOne
import Derived.Test.YtpjjooiamdfmfaaGreatDoorNameKeepLaw
import Derived.Test.YtpjjooiamdfmfaaGreatDoorPNmx16
set_option linter.unusedVariables false
set_option linter.unusedSimpArgs false
namespace Go.Proofs.YtpjjooiamdfmfaaGreatDoor.NameCheckRef
open Go.RowKit Go.Proofs.YtpjjooiamdfmfaaGreatDoorW.PrintWords Go.Proofs.YtpjjooiamdfmfaaGreatDoorW.PrintLast Go.Proofs.YtpjjooiamdfmfaaGreatDoor.NameLaw Go.Proofs.YtpjjooiamdfmfaaGreatDoor.NameCmp Go.Proofs.YtpjjooiamdfmfaaGreatDoor.NameWalk Go.Proofs.YtpjjooiamdfmfaaGreatDoor.NameRef Go.Proofs.YtpjjooiamdfmfaaGreatDoor.NameKeepLaw Go.Proofs.YtpjjooiamdfmfaaGreatDoor.NameOne

end Go.Proofs.YtpjjooiamdfmfaaGreatDoor.NameCheckRef
