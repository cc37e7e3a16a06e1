/- denote's Odds and Override, as plain lists. -/
import Derived.Test.YtpjjooiamdfmfaaGreatDoorTreeLaw
set_option linter.unusedVariables false
set_option linter.unusedSimpArgs false
namespace Go.Proofs.YtpjjooiamdfmfaaGreatDoor.OverLaw
open Go.Proofs.YtpjjooiamdfmfaaGreatDoor.Stab Go.Proofs.YtpjjooiamdfmfaaGreatDoor.SortLaw Go.Proofs.YtpjjooiamdfmfaaGreatDoor.Item Go.Proofs.YtpjjooiamdfmfaaGreatDoor.TreeLaw Go.Proofs.YtpjjooiamdfmfaaGreatDoor.NameLaw Go.Proofs.YtpjjooiamdfmfaaGreatDoor.NameWalk Go.Proofs.YtpjjooiamdfmfaaGreatDoor.NameOrd Go.Proofs.YtpjjooiamdfmfaaGreatDoor.NameRef

/-! ### at odds -/
/-- Are two items at odds? x stands behind y. -/
def oddsQ (x y : It) : Bool := if x.1 = y.1 then true else if underT x.1 y.1 = true then y.2.1 != 1 else if underT y.1 x.1 = true then x.2.1 != 1 else false
def oddsGo : List It → List It → ByteArray × Bool
  | _, [] => (⟨#[]⟩, false)
  | s, x :: l => if s.any (oddsQ x) = true then (x.1, true) else oddsGo (s ++ [x]) l
def oddsP (t : List It) : ByteArray × Bool := oddsGo [] t
theorem odds_at {t : List It} {k : Nat} (h : k < t.length) : oddsGo (t.take k) (t.drop k) = if (t.take k).any (oddsQ t[k]) = true then (t[k].1, true) else oddsGo (t.take (k + 1)) (t.drop (k + 1)) := by
  rw [List.drop_eq_getElem_cons h, List.take_succ_eq_append_getElem h]
  rfl
theorem odds_end {t : List It} {k : Nat} (h : t.length ≤ k) : oddsGo (t.take k) (t.drop k) = (⟨#[]⟩, false) := by
  rw [List.drop_of_length_le h]
  rfl
/-! ### over -/
end Go.Proofs.YtpjjooiamdfmfaaGreatDoor.OverLaw
