/- tree: Find, Drop, Sort, Put. -/
import Derived.Test.YtpjjooiamdfmfaaGreatDoorTreeIns
import Derived.Test.YtpjjooiamdfmfaaGreatDoorNodeRes
import Derived.Test.YtpjjooiamdfmfaaGreatDoorSort
set_option linter.unusedVariables false
set_option linter.unusedSimpArgs false
namespace Go.Proofs.YtpjjooiamdfmfaaGreatDoor.Tree
open Go.RowKit Go.Proofs.YtpjjooiamdfmfaaGreatDoorW.PrintWords Go.Proofs.YtpjjooiamdfmfaaGreatDoorW.PrintLast Go.Proofs.YtpjjooiamdfmfaaGreatDoorW.PrintMore Go.Proofs.YtpjjooiamdfmfaaGreatDoor.Item Go.Proofs.YtpjjooiamdfmfaaGreatDoor.Own Go.Proofs.YtpjjooiamdfmfaaGreatDoor.TreeLaw Go.Proofs.YtpjjooiamdfmfaaGreatDoor.NameWalk Go.Proofs.YtpjjooiamdfmfaaGreatDoor.NameOrd Go.Proofs.YtpjjooiamdfmfaaGreatDoor.SortSwap Go.Proofs.YtpjjooiamdfmfaaGreatDoor.SortIns Go.Proofs.YtpjjooiamdfmfaaGreatDoor.Sort Go.Proofs.YtpjjooiamdfmfaaGreatDoor.TreeFn Go.Proofs.YtpjjooiamdfmfaaGreatDoor.TreeDel Go.Proofs.YtpjjooiamdfmfaaGreatDoor.TreeIns Go.Proofs.YtpjjooiamdfmfaaGreatDoor.NodeRes

end Go.Proofs.YtpjjooiamdfmfaaGreatDoor.Tree
