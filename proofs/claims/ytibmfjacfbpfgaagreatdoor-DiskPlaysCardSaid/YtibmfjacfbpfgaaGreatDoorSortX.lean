/- sort: the comparison's contract; ranges swapped, rows rotated. -/
import Derived.Test.YtibmfjacfbpfgaaGreatDoorOwn
import Derived.Test.YtibmfjacfbpfgaaGreatDoorTreeLaw
set_option linter.unusedVariables false
set_option linter.unusedSimpArgs false
namespace Go.Proofs.YtibmfjacfbpfgaaGreatDoor.SortSwap
open Go.RowKit YtibmfjacfbpfgaaGreatDoorW PrintWords PrintLast PrintMore YtibmfjacfbpfgaaGreatDoor.Item Own Stab SortLaw TreeLaw NameWalk
theorem grown_drew {U W : World} {row : Option Nat} (h : U.grownBy W row) : U.grownBy W.drew row := ⟨h.os, h.tape, h.output, h.size, h.block⟩
theorem grown_refl (W : World) (row : Option Nat) : W.grownBy W row := ⟨rfl, rfl, rfl, Nat.le_refl _, fun _ _ _ => rfl⟩
end Go.Proofs.YtibmfjacfbpfgaaGreatDoor.SortSwap
namespace Go.Proofs.YtibmfjacfbpfgaaGreatDoor.SortIns
open Go.RowKit YtibmfjacfbpfgaaGreatDoorW PrintWords PrintLast PrintMore YtibmfjacfbpfgaaGreatDoor.Item Own Stab SortLaw TreeLaw NameWalk SortSwap
theorem w_le {x N : Nat} (h : x ≤ N) (hN : N ≤ 1000000) : Go.RowKit.wrap64 (x : Int) = (x : Int) := by unfold Go.RowKit.wrap64; omega
theorem below_row {U W W1 : World} {g : Nat} (h : Below U.heap.size U W) (hg : W.grownBy W1 (some g)) (hn : U.heap.size ≤ g) : Below U.heap.size U W1 := below_grown h (Nat.le_refl _) hg (fun x hx => by injection hx with hx; omega)
end Go.Proofs.YtibmfjacfbpfgaaGreatDoor.SortIns
