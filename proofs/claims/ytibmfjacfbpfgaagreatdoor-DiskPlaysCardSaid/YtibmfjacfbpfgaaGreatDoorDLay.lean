/- tree: items laid on a disk, and read, under no root. -/
import Derived.Test.YtibmfjacfbpfgaaGreatDoorDiskB
set_option linter.unusedVariables false
set_option linter.unusedSimpArgs false
namespace Go.Proofs.YtibmfjacfbpfgaaGreatDoor.DLay
open Go.RowKit YtibmfjacfbpfgaaGreatDoorW PrintWords PrintLast PrintMore NameLaw NameCmp NameWalk NameRef NameKeepLaw NodeRes YtibmfjacfbpfgaaGreatDoor.Item Own TreeLaw TreeNodes SortIns SortSwap FillLaw DiffLaw RealLaw DoneLaw KeepLaw OpLaw OpKeep JoinLaw DAt StepA Step Real DSmall DRows DDone DWait DkLaw DState NameUse RealKeep DMake DList DFlush
theorem prog_next {W0 W w' : World} {b m : Nat} {vl vs vq vl1 vs1 vq1 : Value} {d : Dk} (hP : Prog W0 W b vl vs vq d m) {k : Int} {path tp : ByteArray} {n : Nd} (hn : n.2.2.2.2.2.2.size ≤ 100000) (hd : DkAt w' W0.heap.size b vl1 vs1 vq1 (opD nzP d k path tp n).2) (hs : Still W w' (Owns b vl vs vq) (Owns b vl1 vs1 vq1)) : Prog W0 w' b vl1 vs1 vq1 (opD nzP d k path tp n).2 (m + 1) :=
 ⟨hP.glob, Still.low hs hP.low (Nat.le_refl _) (owns_base hP.at_), hd, op_trees hP.trees k path tp n, op_bnd nzP_size hP.trees hP.bnd k path tp n hn⟩
end Go.Proofs.YtibmfjacfbpfgaaGreatDoor.DLay
