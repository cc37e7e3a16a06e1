/- The name layer, as the other walks call it. -/
import Derived.Test.YtpjjooiamdfmfaaGreatDoorNameCheckRef
set_option linter.unusedVariables false
set_option linter.unusedSimpArgs false
namespace Go.Proofs.YtpjjooiamdfmfaaGreatDoor.NameUse
open Go.RowKit Go.Proofs.YtpjjooiamdfmfaaGreatDoorW.PrintWords Go.Proofs.YtpjjooiamdfmfaaGreatDoorW.PrintLast Go.Proofs.YtpjjooiamdfmfaaGreatDoor.NameLaw Go.Proofs.YtpjjooiamdfmfaaGreatDoor.NameCmp Go.Proofs.YtpjjooiamdfmfaaGreatDoor.NameWalk Go.Proofs.YtpjjooiamdfmfaaGreatDoor.NameOrd Go.Proofs.YtpjjooiamdfmfaaGreatDoor.NameRef Go.Proofs.YtpjjooiamdfmfaaGreatDoor.NameAny Go.Proofs.YtpjjooiamdfmfaaGreatDoor.NameKeepLaw Go.Proofs.YtpjjooiamdfmfaaGreatDoor.NameCheckRef

end Go.Proofs.YtpjjooiamdfmfaaGreatDoor.NameUse
