/- tree: Find, Drop, Sort, Put. -/
import Derived.Test.YtibmfjacfbpfgaaGreatDoorTreeQ
import Derived.Test.YtibmfjacfbpfgaaGreatDoorNodeRes
import Derived.Test.YtibmfjacfbpfgaaGreatDoorSort
set_option linter.unusedVariables false
set_option linter.unusedSimpArgs false
namespace Go.Proofs.YtibmfjacfbpfgaaGreatDoor.Tree
open Go.RowKit YtibmfjacfbpfgaaGreatDoorW PrintWords PrintLast PrintMore YtibmfjacfbpfgaaGreatDoor.Item Own TreeLaw NameWalk NameOrd SortSwap SortIns Go.Proofs.YtibmfjacfbpfgaaGreatDoor.Sort TreeFn TreeDel TreeIns NodeRes
end Go.Proofs.YtibmfjacfbpfgaaGreatDoor.Tree
