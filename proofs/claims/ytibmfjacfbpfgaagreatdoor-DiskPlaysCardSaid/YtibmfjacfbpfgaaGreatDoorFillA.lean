/- tree.Fill, as plain lists: the directories that a list's paths lack. -/
import Derived.Test.YtibmfjacfbpfgaaGreatDoorTreeTright
set_option linter.unusedVariables false
set_option linter.unusedSimpArgs false
namespace Go.Proofs.YtibmfjacfbpfgaaGreatDoor.FillLaw
open YtibmfjacfbpfgaaGreatDoor.Item TreeLaw NameLaw NameWalk NameOrd NameRef SortIns NodeRes TreeNodes
theorem parent_le (p : ByteArray) : (parentT p).size ≤ p.size := by
 unfold parentT
 cases h : lastL p.data.toList p.size with
 | none => exact Nat.zero_le _
 | some j => simp only [ByteArray.size_extract]; omega
theorem parent_lt {p : ByteArray} (h : p.data.toList ≠ []) : (parentT p).size < p.size := by
 have hp : 0 < p.size := by
  rw [← len_data];exact List.length_pos_iff.2 h
 unfold parentT
 cases h : lastL p.data.toList p.size with
 | none => exact hp
 | some j =>
  have := lastL_lt _ _ _ h;simp only [ByteArray.size_extract]; omega
theorem put_len (t : List It) (x : It) : (putP t x).length ≤ t.length + 1 := by
 have h : (woP t x.1).length ≤ t.length := List.length_filter_le _ _;unfold putP;simp only [List.length_append, List.length_cons, List.length_take, List.length_drop];omega
end Go.Proofs.YtibmfjacfbpfgaaGreatDoor.FillLaw
