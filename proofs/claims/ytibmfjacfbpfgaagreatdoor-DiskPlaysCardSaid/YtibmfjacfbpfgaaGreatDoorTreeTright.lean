/- tree.Right. -/
import Derived.Test.YtibmfjacfbpfgaaGreatDoorTreeNodes
set_option linter.unusedVariables false
set_option linter.unusedSimpArgs false
namespace Go.Proofs.YtibmfjacfbpfgaaGreatDoor.TreeTright
open Go.RowKit YtibmfjacfbpfgaaGreatDoorW PrintWords PrintLast PrintMore YtibmfjacfbpfgaaGreatDoor.Item Own TreeLaw NameLaw NameWalk NameOrd NameRef NameUse SortSwap SortIns TreeFn TreeDel NodeRes TreeRef TreeRight MapS TreeNodes
end Go.Proofs.YtibmfjacfbpfgaaGreatDoor.TreeTright
