/- What Check lets through, over plain lists of bytes: a checked path and its parents. -/
import Derived.Test.YtpjjooiamdfmfaaGreatDoorNameRef
import Derived.Lib.ValidLaws
set_option linter.unusedVariables false
set_option linter.unusedSimpArgs false
namespace Go.Proofs.YtpjjooiamdfmfaaGreatDoor.NameKeepLaw
open Go.RowKit Go.Proofs.YtpjjooiamdfmfaaGreatDoor.NameLaw Go.Proofs.YtpjjooiamdfmfaaGreatDoor.NameCmp Go.Proofs.YtpjjooiamdfmfaaGreatDoor.NameWalk Go.Proofs.YtpjjooiamdfmfaaGreatDoor.NameRef

theorem anyB (chars : List UInt8) : ∀ l, Lib.containsAny l chars = l.any chars.contains
  | [] => rfl
  | b :: l => by
    have ih := anyB chars l
    have hg := Lib.indexAny_ge chars l
    unfold Lib.containsAny at *
    unfold Lib.indexAny
    rw [List.any_cons]
    cases h : chars.contains b
    · rw [if_neg (by simp), Bool.false_or, ← ih]
      by_cases h2 : Lib.indexAny l chars = -1
      · rw [if_pos (by rw [h2]; rfl), h2]
      · rw [if_neg (by rw [beq_iff_eq]; exact h2)]
        rw [Bool.eq_iff_iff, decide_eq_true_eq, decide_eq_true_eq]; omega
    · rfl
/-! ### the last slash -/
/-! ### a path that may be, and its parents -/
theorem any_mk (p : List UInt8 → Bool) (s : ByteArray) : ((splitT s).any fun x => p x.data.toList) = (splitL s.data.toList).any p := by
  unfold splitT
  rw [List.any_map]; rfl
theorem cut_same {s : ByteArray} (h : Lib.hasSuffix s.data.toList [47] = false) : cutT s = s := by
  unfold cutT Lib.trimSuffix
  rw [h]
  exact mk_data s
end Go.Proofs.YtpjjooiamdfmfaaGreatDoor.NameKeepLaw
