/- The document's Sort: each item behind all that do not stand behind it. -/
import Derived.Test.YtibmfjacfbpfgaaGreatDoorTreeLaw
import Derived.Test.YtibmfjacfbpfgaaGreatDoorNameUse
import Derived.Test.YtibmfjacfbpfgaaGreatDoorOwn
set_option linter.unusedVariables false
set_option linter.unusedSimpArgs false
namespace Go.Proofs.YtibmfjacfbpfgaaGreatDoor.RSort
open Go.RowKit YtibmfjacfbpfgaaGreatDoorW.PrintWords YtibmfjacfbpfgaaGreatDoorW.PrintLast YtibmfjacfbpfgaaGreatDoorW.PrintMore YtibmfjacfbpfgaaGreatDoor.Item Own TreeLaw NameLaw NameWalk NameOrd NameRef NameUse
end Go.Proofs.YtibmfjacfbpfgaaGreatDoor.RSort
