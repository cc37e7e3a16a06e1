/- sort: the comparison's contract; the insertion sort. -/
import Derived.Test.YtpjjooiamdfmfaaGreatDoorSortSwap
set_option linter.unusedVariables false
set_option linter.unusedSimpArgs false
namespace Go.Proofs.YtpjjooiamdfmfaaGreatDoor.SortIns
open Go.RowKit Go.Proofs.YtpjjooiamdfmfaaGreatDoorW.PrintWords Go.Proofs.YtpjjooiamdfmfaaGreatDoorW.PrintLast Go.Proofs.YtpjjooiamdfmfaaGreatDoorW.PrintMore Go.Proofs.YtpjjooiamdfmfaaGreatDoor.Item Go.Proofs.YtpjjooiamdfmfaaGreatDoor.Own Go.Proofs.YtpjjooiamdfmfaaGreatDoor.Stab Go.Proofs.YtpjjooiamdfmfaaGreatDoor.SortLaw Go.Proofs.YtpjjooiamdfmfaaGreatDoor.TreeLaw Go.Proofs.YtpjjooiamdfmfaaGreatDoor.NameWalk Go.Proofs.YtpjjooiamdfmfaaGreatDoor.SortSwap

theorem below_row {U W W1 : World} {g : Nat} (h : Below U.heap.size U W) (hg : W.grownBy W1 (some g)) (hn : U.heap.size ≤ g) : Below U.heap.size U W1 := below_grown h (Nat.le_refl _) hg (fun x hx => by injection hx with hx; omega)
end Go.Proofs.YtpjjooiamdfmfaaGreatDoor.SortIns
