/- tree, as plain lists: find, put, drop, sort; what is right. -/
import Derived.Test.YtpjjooiamdfmfaaGreatDoorSortLaw
import Derived.Test.YtpjjooiamdfmfaaGreatDoorItem
import Derived.Test.YtpjjooiamdfmfaaGreatDoorNameKeepLaw
set_option linter.unusedVariables false
set_option linter.unusedSimpArgs false
namespace Go.Proofs.YtpjjooiamdfmfaaGreatDoor.TreeLaw
open Go.Proofs.YtpjjooiamdfmfaaGreatDoor.Stab Go.Proofs.YtpjjooiamdfmfaaGreatDoor.SortLaw Go.Proofs.YtpjjooiamdfmfaaGreatDoor.Item Go.Proofs.YtpjjooiamdfmfaaGreatDoor.NameLaw Go.Proofs.YtpjjooiamdfmfaaGreatDoor.NameWalk Go.Proofs.YtpjjooiamdfmfaaGreatDoor.NameOrd Go.Proofs.YtpjjooiamdfmfaaGreatDoor.NameRef Go.Proofs.YtpjjooiamdfmfaaGreatDoor.NameKeepLaw

/-! ### the order of items -/
/-! ### find, put, drop -/
/-! ### sorted, stable -/
/-! ### what is right -/
/-! ### under: a parent's, and what is under it -/
end Go.Proofs.YtpjjooiamdfmfaaGreatDoor.TreeLaw
