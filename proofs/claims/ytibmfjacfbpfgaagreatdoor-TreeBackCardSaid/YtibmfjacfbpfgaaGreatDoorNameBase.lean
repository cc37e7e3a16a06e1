/- Small laws on texts as lists of bytes. -/
import Derived.Test.YtibmfjacfbpfgaaGreatDoorNameWalk
set_option linter.unusedVariables false
set_option linter.unusedSimpArgs false
namespace Go.Proofs.YtibmfjacfbpfgaaGreatDoor.NameRef
open Go.RowKit YtibmfjacfbpfgaaGreatDoorW.PrintWords YtibmfjacfbpfgaaGreatDoorW.PrintLast NameLaw NameCmp NameWalk
theorem wrap_up {i : Int} (h0 : 0 ≤ i) (h : i < 4611686018427387904) : wrap64 (i + 1) = i + 1 := by unfold wrap64; omega
theorem wrap_down {i : Int} (h0 : 0 ≤ i) (h : i < 4611686018427387904) : wrap64 (i - 1) = i - 1 := by unfold wrap64; omega
theorem len_data (s : ByteArray) : s.data.toList.length = s.size := (Lib.size_eq s).symm
theorem bt_nat (s : ByteArray) (i : Nat) (h : i < s.size) : bt s (i : Int) = ((s.data.toList[i]'(by rw [len_data]; exact h)).toNat : Int) := by
 unfold bt
 rw [dif_pos (by simpa using h)]
 rfl
theorem bt_is (s : ByteArray) (i : Nat) (h : i < s.size) (n : Nat) (hn : n < 256) : bt s (i : Int) = (n : Int) ↔ s.data.toList[i]'(by rw [len_data]; exact h) = UInt8.ofNat n := by
 rw [bt_nat s i h, ← UInt8.toNat_inj, UInt8.toNat_ofNat']
 omega
theorem drop_data (s : ByteArray) (i : Nat) (h : i < s.size) : s.data.toList.drop i = s.data.toList[i]'(by rw [len_data]; exact h) :: s.data.toList.drop (i + 1) :=
 List.drop_eq_getElem_cons (by rw [len_data]; exact h)
def mk (l : List UInt8) : ByteArray := ⟨l.toArray⟩
theorem mk_data (s : ByteArray) : mk s.data.toList = s := by cases s; simp [mk]
end Go.Proofs.YtibmfjacfbpfgaaGreatDoor.NameRef
