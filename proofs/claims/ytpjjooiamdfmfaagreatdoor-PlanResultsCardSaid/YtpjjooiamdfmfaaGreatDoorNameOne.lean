/- The document's own decoder, a rune at a place: it is the model's. -/
import Derived.Test.YtpjjooiamdfmfaaGreatDoorNameBase
import Derived.Lib.ValidLaws
import Derived.Test.YtpjjooiamdfmfaaGreatDoorPN
import Derived.Test.YtpjjooiamdfmfaaGreatDoorPNmx15
import Derived.Test.YtpjjooiamdfmfaaGreatDoorNameRef
import Derived.Lib.DecodeNEq
import Derived.Lib.RuneCount
import Derived.Test.YtpjjooiamdfmfaaGreatDoorNameAny
set_option linter.unusedVariables false
set_option linter.unusedSimpArgs false
namespace Go.Proofs.YtpjjooiamdfmfaaGreatDoor.NameOne
open Go.RowKit Go.Proofs.YtpjjooiamdfmfaaGreatDoorW.PrintWords Go.Proofs.YtpjjooiamdfmfaaGreatDoorW.PrintLast Go.Proofs.YtpjjooiamdfmfaaGreatDoor.NameLaw Go.Proofs.YtpjjooiamdfmfaaGreatDoor.NameCmp Go.Proofs.YtpjjooiamdfmfaaGreatDoor.NameWalk Go.Proofs.YtpjjooiamdfmfaaGreatDoor.NameRef
open Go.Proofs.YtpjjooiamdfmfaaGreatDoor.NameAny (high_all)

theorem get_lt (s : ByteArray) (i : Nat) (h : i < s.size) : s.get! i = s[i]'h := by
  simp [ByteArray.get!, getElem!_pos, h]; rfl
theorem w1 (i j : Nat) (h : i ≤ 100000) (hj : j ≤ 4) : wrap64 ((i : Int) + (j : Int)) = ((i + j : Nat) : Int) := by unfold wrap64; omega
end Go.Proofs.YtpjjooiamdfmfaaGreatDoor.NameOne
