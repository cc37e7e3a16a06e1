/- cmp.Compare and slices.Compare at strings: what they answer, over plain lists of bytes. -/
import Derived.Test.YtpjjooiamdfmfaaGreatDoorNameLaw
import Derived.Test.YtpjjooiamdfmfaaGreatDoorPW
import Derived.Test.YtpjjooiamdfmfaaGreatDoorProg
import Derived.WalkKit
import Derived.WalkLawsBesides
import Derived.Lib.Hide
import Derived.Deep.QuietTactic
import Derived.BigQuiet
set_option linter.unusedVariables false
set_option linter.unusedSimpArgs false
namespace Go.Proofs.YtpjjooiamdfmfaaGreatDoor.NameCmp
open Go.RowKit Go.Proofs.YtpjjooiamdfmfaaGreatDoorW.PrintWords Go.Proofs.YtpjjooiamdfmfaaGreatDoorW.PrintLast Go.Proofs.YtpjjooiamdfmfaaGreatDoor.NameLaw

/-- A slice of texts that is read. -/
def StrsAt (w : World) (A : Option Addr) (l : List ByteArray) : Prop := l.length ≤ 9223372036854775807 ∧ (0 < l.length → ∃ ad, A = some ad ∧ ∀ j (h : j < l.length), w.cell? (ad.add j) = some (.string l[j]))
theorem StrsAt.drewN {w : World} {A : Option Addr} {l : List ByteArray} (h : StrsAt w A l) (n : Nat) : StrsAt (w.drewN n) A l := h
theorem StrsAt.below {w w1 : World} {A : Option Addr} {l : List ByteArray} (h : StrsAt w A l) (hb : Below w.heap.size w w1) : StrsAt w1 A l :=
  ⟨h.1, fun hn => by
    obtain ⟨ad, e, hc⟩ := h.2 hn
    exact ⟨ad, e, fun j hj => pw_cell_below hb (hc j hj)⟩⟩
end Go.Proofs.YtpjjooiamdfmfaaGreatDoor.NameCmp
