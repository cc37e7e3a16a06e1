/- sort: the comparison's contract; ranges swapped, rows rotated. -/
import Derived.Test.YtpjjooiamdfmfaaGreatDoorOwn
import Derived.Test.YtpjjooiamdfmfaaGreatDoorTreeLaw
set_option linter.unusedVariables false
set_option linter.unusedSimpArgs false
namespace Go.Proofs.YtpjjooiamdfmfaaGreatDoor.SortSwap
open Go.RowKit Go.Proofs.YtpjjooiamdfmfaaGreatDoorW.PrintWords Go.Proofs.YtpjjooiamdfmfaaGreatDoorW.PrintLast Go.Proofs.YtpjjooiamdfmfaaGreatDoorW.PrintMore Go.Proofs.YtpjjooiamdfmfaaGreatDoor.Item Go.Proofs.YtpjjooiamdfmfaaGreatDoor.Own Go.Proofs.YtpjjooiamdfmfaaGreatDoor.Stab Go.Proofs.YtpjjooiamdfmfaaGreatDoor.SortLaw Go.Proofs.YtpjjooiamdfmfaaGreatDoor.TreeLaw Go.Proofs.YtpjjooiamdfmfaaGreatDoor.NameWalk

end Go.Proofs.YtpjjooiamdfmfaaGreatDoor.SortSwap
