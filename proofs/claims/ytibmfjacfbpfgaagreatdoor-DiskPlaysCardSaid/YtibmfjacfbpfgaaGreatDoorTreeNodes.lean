/- the map of a list's nodes. -/
import Derived.Test.YtibmfjacfbpfgaaGreatDoorTreeRight
import Derived.Test.YtibmfjacfbpfgaaGreatDoorMapS
set_option linter.unusedVariables false
set_option linter.unusedSimpArgs false
namespace Go.Proofs.YtibmfjacfbpfgaaGreatDoor.TreeNodes
open Go.RowKit YtibmfjacfbpfgaaGreatDoorW PrintWords PrintLast PrintMore YtibmfjacfbpfgaaGreatDoor.Item Own TreeLaw NameLaw NameWalk NameOrd NameRef NameUse SortSwap SortIns TreeFn TreeDel NodeRes TreeRef MapS
def nodeP (l : List It) (p : ByteArray) : Option Nd := (findP l p).map (·.2)
end Go.Proofs.YtibmfjacfbpfgaaGreatDoor.TreeNodes
