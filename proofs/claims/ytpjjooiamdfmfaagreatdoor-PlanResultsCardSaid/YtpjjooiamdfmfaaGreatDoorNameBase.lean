/- Small laws on texts as lists of bytes. -/
import Derived.Test.YtpjjooiamdfmfaaGreatDoorNameWalk
set_option linter.unusedVariables false
set_option linter.unusedSimpArgs false
namespace Go.Proofs.YtpjjooiamdfmfaaGreatDoor.NameRef
open Go.RowKit Go.Proofs.YtpjjooiamdfmfaaGreatDoorW.PrintWords Go.Proofs.YtpjjooiamdfmfaaGreatDoorW.PrintLast Go.Proofs.YtpjjooiamdfmfaaGreatDoor.NameLaw Go.Proofs.YtpjjooiamdfmfaaGreatDoor.NameCmp Go.Proofs.YtpjjooiamdfmfaaGreatDoor.NameWalk

def mk (l : List UInt8) : ByteArray := ⟨l.toArray⟩
end Go.Proofs.YtpjjooiamdfmfaaGreatDoor.NameRef
