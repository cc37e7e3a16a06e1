import Derived.Test.YtpjjooiamdfmfaaGreatDoorPN
-- PRINTED BY print.sh 35421559b90ae4d0a3588c463048766b98c2df88dd9212a6774a882060cdf62d: not written by this session
namespace Go.Proofs.YtpjjooiamdfmfaaGreatDoor.PNm
open Go.RowKit Go.Proofs.YtpjjooiamdfmfaaGreatDoorW.PrintWords Go.Proofs.YtpjjooiamdfmfaaGreatDoorW.PrintLast Go.Proofs.YtpjjooiamdfmfaaGreatDoorW.PrintMore
attribute [local go_sem] max2_int min2_int max_two min_two max_three min_three max_four min_four   -- for this text's walks alone
set_option linter.unusedVariables false
set_option linter.unusedSimpArgs false

/-! ### portmanteauref10_Strays: function 124 -/
def portmanteauref10_Strays.l0 : Nat → ByteArray → Int → Option (Bool)
  | 0, _, _ => none
  | k + 1, x0, x3 => if x3 < (x0.size : Int) then ((portmanteauref10_One.f k x0 x3).bind fun bt127 => (if bt127.1 < 0 then (some true) else (portmanteauref10_Strays.l0 k x0 (wrap64 (x3 + bt127.2))))) else (some false)
def portmanteauref10_Strays.f (k : Nat) (a0 : ByteArray) : Option (Bool) := portmanteauref10_Strays.l0 k a0 0
theorem portmanteauref10_Strays.mono_l : ∀ k, (∀ y0 y1, LeO (portmanteauref10_Strays.l0 k y0 y1) (portmanteauref10_Strays.l0 (k + 1) y0 y1))
  | 0 => fun _ _ r h => by simp [portmanteauref10_Strays.l0] at h
  | k + 1 => by
    have ih0 := portmanteauref10_Strays.mono_l k
    · intro y0 y1
      unfold portmanteauref10_Strays.l0
      repeat' first
      | (with_reducible exact ih0 _ _)
      | (with_reducible exact portmanteauref10_One.mono _ _ _)
      | (with_reducible exact LeO.refl _)
      | (with_reducible exact LeO.none _)
      | (with_reducible refine LeO.ite ?_ ?_)
      | (with_reducible refine LeO.bind ?_ (fun _ => ?_))
      | exact ih0 _ _
      | exact portmanteauref10_One.mono _ _ _
      | exact LeO.none _
      | refine LeO.ite ?_ ?_
      | refine LeO.bind ?_ (fun _ => ?_)
theorem portmanteauref10_Strays.mono : ∀ a0 k, LeO (portmanteauref10_Strays.f k a0) (portmanteauref10_Strays.f (k + 1) a0) := by
  intro a0 k
  have ih0 := portmanteauref10_Strays.mono_l k
  unfold portmanteauref10_Strays.f
  repeat' first
      | (with_reducible exact ih0 _ _)
      | (with_reducible exact portmanteauref10_One.mono _ _ _)
      | (with_reducible exact LeO.refl _)
      | (with_reducible exact LeO.none _)
      | (with_reducible refine LeO.ite ?_ ?_)
      | (with_reducible refine LeO.bind ?_ (fun _ => ?_))
      | exact ih0 _ _
      | exact portmanteauref10_One.mono _ _ _
      | exact LeO.none _
      | refine LeO.ite ?_ ?_
      | refine LeO.bind ?_ (fun _ => ?_)
end Go.Proofs.YtpjjooiamdfmfaaGreatDoor.PNm
