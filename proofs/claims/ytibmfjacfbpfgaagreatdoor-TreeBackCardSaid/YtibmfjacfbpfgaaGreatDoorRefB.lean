/- the document's Put, Drop; both Bytes; tree.Same. -/
import Derived.Test.YtibmfjacfbpfgaaGreatDoorDiffLaw
import Derived.Test.YtibmfjacfbpfgaaGreatDoorRSort
set_option linter.unusedVariables false
set_option linter.unusedSimpArgs false
namespace Go.Proofs.YtibmfjacfbpfgaaGreatDoor.TreeRef2
open Go.RowKit YtibmfjacfbpfgaaGreatDoorW.PrintWords YtibmfjacfbpfgaaGreatDoorW.PrintLast YtibmfjacfbpfgaaGreatDoorW.PrintMore YtibmfjacfbpfgaaGreatDoor.Item Own TreeLaw NameLaw NameWalk NameOrd NameRef NameUse SortIns NodeRes TreeRef TreeNodes FillLaw RSort DiffLaw
/-! ### Bytes -/
end Go.Proofs.YtibmfjacfbpfgaaGreatDoor.TreeRef2
/- the document's Differ. -/
namespace Go.Proofs.YtibmfjacfbpfgaaGreatDoor.TreeRDiff
open Go.RowKit YtibmfjacfbpfgaaGreatDoorW.PrintWords YtibmfjacfbpfgaaGreatDoorW.PrintLast YtibmfjacfbpfgaaGreatDoorW.PrintMore YtibmfjacfbpfgaaGreatDoor.Item Own TreeLaw NameLaw NameWalk NameOrd NameRef NameUse SortIns NodeRes TreeRef TreeNodes RSort DiffLaw TreeRef2
theorem str_at {w : World} {A : Option Addr} {l : List ByteArray} (h : Kd.string.C w A l.length l) {k : Nat} (hk : k < l.length) : ∃ ad, A = some ad ∧ w.cell? (ad.add k) = some (.string l[k]) := by
 obtain ⟨ad, e, hc⟩ := h.2.2 (by omega)
 obtain ⟨cs, hl, hK, hcell⟩ := hc k _ (List.getElem?_eq_getElem hk)
 have : cs = [.string l[k]] := hK
 subst this
 have := hcell 0 _ rfl
 exact ⟨ad, e, by simpa [Kd.string, Kd.scalar] using this⟩
theorem infoStr : (Tryz.prog.info? 9).map (fun i => (i.zero, i.size, i.bytes)) = some (some (.string ByteArray.empty), 1, 16) := by kernel_rfl
theorem node_eq (x0 y0 x1 y1 x2 y2 x3 y3 x4 y4 x5 y5 : Int) (x6 y6 : ByteArray) : (x0 == y0 && (x1 == y1 && (x2 == y2 && (x3 == y3 && (x4 == y4 && (x5 == y5 && (x6.toList == y6.toList))))))) = decide (((x0, x1, x2, x3, x4, x5, x6) : Nd) = (y0, y1, y2, y3, y4, y5, y6)) := by
 simp only [toList_inj, beq_dec, Prod.mk.injEq, Bool.decide_and]
end Go.Proofs.YtibmfjacfbpfgaaGreatDoor.TreeRDiff
