/- sort: symMerge, the general step. -/
import Derived.Test.YtpjjooiamdfmfaaGreatDoorSortMrgC
set_option linter.unusedVariables false
set_option linter.unusedSimpArgs false
namespace Go.Proofs.YtpjjooiamdfmfaaGreatDoor.SortMrgD
open Go.RowKit Go.Proofs.YtpjjooiamdfmfaaGreatDoorW.PrintWords Go.Proofs.YtpjjooiamdfmfaaGreatDoorW.PrintLast Go.Proofs.YtpjjooiamdfmfaaGreatDoorW.PrintMore Go.Proofs.YtpjjooiamdfmfaaGreatDoor.Item Go.Proofs.YtpjjooiamdfmfaaGreatDoor.Own Go.Proofs.YtpjjooiamdfmfaaGreatDoor.Stab Go.Proofs.YtpjjooiamdfmfaaGreatDoor.SortLaw Go.Proofs.YtpjjooiamdfmfaaGreatDoor.TreeLaw Go.Proofs.YtpjjooiamdfmfaaGreatDoor.NameWalk Go.Proofs.YtpjjooiamdfmfaaGreatDoor.SortSwap Go.Proofs.YtpjjooiamdfmfaaGreatDoor.SortIns Go.Proofs.YtpjjooiamdfmfaaGreatDoor.SortMrgA Go.Proofs.YtpjjooiamdfmfaaGreatDoor.SortMrgB Go.Proofs.YtpjjooiamdfmfaaGreatDoor.SortMrgC

end Go.Proofs.YtpjjooiamdfmfaaGreatDoor.SortMrgD
