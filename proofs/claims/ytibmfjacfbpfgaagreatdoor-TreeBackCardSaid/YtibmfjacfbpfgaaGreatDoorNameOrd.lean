/- name.Under; ContainsAny at plain texts. -/
import Derived.Test.YtibmfjacfbpfgaaGreatDoorNameWalk
set_option linter.unusedVariables false
set_option linter.unusedSimpArgs false
namespace Go.Proofs.YtibmfjacfbpfgaaGreatDoor.NameOrd
open Go.RowKit YtibmfjacfbpfgaaGreatDoorW.PrintWords YtibmfjacfbpfgaaGreatDoorW.PrintLast NameLaw NameCmp NameWalk
/-! ### Under -/
end Go.Proofs.YtibmfjacfbpfgaaGreatDoor.NameOrd
