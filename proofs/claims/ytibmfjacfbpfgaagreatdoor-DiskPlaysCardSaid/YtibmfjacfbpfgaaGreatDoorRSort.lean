/- The document's Sort: each item behind all that do not stand behind it. -/
import Derived.Test.YtibmfjacfbpfgaaGreatDoorTreeLaw
import Derived.Test.YtibmfjacfbpfgaaGreatDoorNameB
import Derived.Test.YtibmfjacfbpfgaaGreatDoorOwn
set_option linter.unusedVariables false
set_option linter.unusedSimpArgs false
namespace Go.Proofs.YtibmfjacfbpfgaaGreatDoor.RSort
open Go.RowKit YtibmfjacfbpfgaaGreatDoorW PrintWords PrintLast PrintMore YtibmfjacfbpfgaaGreatDoor.Item Own TreeLaw NameLaw NameWalk NameOrd NameRef NameUse
def contR (d : Bool) (x : It) (r : List It) : List It := if d = true then r else insR x r
theorem ins_nil (x : It) : insR x [] = [x] := rfl
theorem ins_lt {x y : It} {r : List It} (h : orderT x.1 y.1 < 0) : insR x (y :: r) = x :: y :: r := by
 have h1 : ltI x y = true := decide_eq_true h;unfold insR;rw [List.takeWhile_cons_of_neg (by simp [h1]), List.dropWhile_cons_of_neg (by simp [h1])];rfl
theorem ins_ge {x y : It} {r : List It} (h : ¬ orderT x.1 y.1 < 0) : insR x (y :: r) = y :: insR x r := by
 have h1 : ltI x y = false := decide_eq_false h;unfold insR;rw [List.takeWhile_cons_of_pos (by simp [h1]), List.dropWhile_cons_of_pos (by simp [h1])];rfl
end Go.Proofs.YtibmfjacfbpfgaaGreatDoor.RSort
