import Derived.Test.YtpjjooiamdfmfaaGreatDoorProg
import Derived.Below
import Derived.Deep.Draws
import Derived.Deep.AppendLies
import Derived.Maps.AppendAt
import Derived.OwnWalk
import Derived.Laws.BytesArg
import Derived.Laws.MakeOwn
import Derived.Laws.OwnMore
import Derived.Deep.OwnRows
import Derived.Tactics
import Derived.Lib.ConvBytes
import Derived.Laws.Slices
import Derived.WalkKit
import Derived.KernelRfl
import Derived.RowKit3
import Derived.Deep.LoopGhost
import Derived.Deep.QuietTactic
import Derived.BigQuiet
import Derived.WideLaws
import Derived.Deep.DeepCutAuto
import Derived.Deep.CutBlock
import Derived.Deep.RegionHeld3
import Derived.Laws.Rows
import Derived.Lib.AppendStr
import Derived.ArgAppend
import Derived.Laws.IdiomCopy
import Derived.OrdersHeld
import Derived.Laws.BitsLemmas
import Derived.RowKit
import Derived.Test.YtpjjooiamdfmfaaGreatDoorPW
-- PRINTED BY print.sh 35421559b90ae4d0a3588c463048766b98c2df88dd9212a6774a882060cdf62d: not written by this session
namespace Go.Proofs.YtpjjooiamdfmfaaGreatDoor.PNm
open Go.RowKit Go.Proofs.YtpjjooiamdfmfaaGreatDoorW.PrintWords Go.Proofs.YtpjjooiamdfmfaaGreatDoorW.PrintLast Go.Proofs.YtpjjooiamdfmfaaGreatDoorW.PrintMore
attribute [local go_sem] max2_int min2_int max_two min_two max_three min_three max_four min_four   -- for this text's walks alone
set_option linter.unusedVariables false
set_option linter.unusedSimpArgs false



-- the values' own types

end Go.Proofs.YtpjjooiamdfmfaaGreatDoor.PNm
-- PRINTED BY print.sh 35421559b90ae4d0a3588c463048766b98c2df88dd9212a6774a882060cdf62d: not written by this session
namespace Go.Proofs.YtpjjooiamdfmfaaGreatDoor.PNm
open Go.RowKit Go.Proofs.YtpjjooiamdfmfaaGreatDoorW.PrintWords Go.Proofs.YtpjjooiamdfmfaaGreatDoorW.PrintLast Go.Proofs.YtpjjooiamdfmfaaGreatDoorW.PrintMore
attribute [local go_sem] max2_int min2_int max_two min_two max_three min_three max_four min_four   -- for this text's walks alone
set_option linter.unusedVariables false
set_option linter.unusedSimpArgs false

/-! ### portmanteauref10_within: function 224 -/
def portmanteauref10_within.f (a0 : ByteArray) (a1 : Int) (a2 : Int) (a3 : Int) : Option (Bool) := if a1 < (a0.size : Int) then (if 0 ≤ a1 then (if (bt a0 a1) ≥ a2 then (some (decide ((bt a0 a1) ≤ a3))) else (some false)) else (none)) else (some false)
end Go.Proofs.YtpjjooiamdfmfaaGreatDoor.PNm
-- PRINTED BY print.sh 35421559b90ae4d0a3588c463048766b98c2df88dd9212a6774a882060cdf62d: not written by this session
namespace Go.Proofs.YtpjjooiamdfmfaaGreatDoor.PNm
open Go.RowKit Go.Proofs.YtpjjooiamdfmfaaGreatDoorW.PrintWords Go.Proofs.YtpjjooiamdfmfaaGreatDoorW.PrintLast Go.Proofs.YtpjjooiamdfmfaaGreatDoorW.PrintMore
attribute [local go_sem] max2_int min2_int max_two min_two max_three min_three max_four min_four   -- for this text's walks alone
set_option linter.unusedVariables false
set_option linter.unusedSimpArgs false

/-! ### portmanteauref10_One: function 178 -/
mutual
def portmanteauref10_One.j0 : Nat → ByteArray → Int → Int → Int → Int → Int → Bool → Option (Int × Int)
  | 0, _, _, _, _, _, _, _ => none
  | k + 1, x0, x1, x6, x7, x8, x9, x24 => if x24 = true then (portmanteauref10_One.j1 k x0 x1 x6 1 x8 x9) else (portmanteauref10_One.j1 k x0 x1 x6 x7 x8 x9)
def portmanteauref10_One.j1 : Nat → ByteArray → Int → Int → Int → Int → Int → Option (Int × Int)
  | 0, _, _, _, _, _, _ => none
  | k + 1, x0, x1, x6, x7, x8, x9 => if x6 ≥ 224 then (portmanteauref10_One.j2 k x0 x1 x6 x7 x8 x9 (decide (x6 ≤ 239))) else (portmanteauref10_One.j2 k x0 x1 x6 x7 x8 x9 false)
def portmanteauref10_One.j2 : Nat → ByteArray → Int → Int → Int → Int → Int → Bool → Option (Int × Int)
  | 0, _, _, _, _, _, _, _ => none
  | k + 1, x0, x1, x6, x7, x8, x9, x30 => if x30 = true then (portmanteauref10_One.j3 k x0 x1 x6 2 x8 x9) else (portmanteauref10_One.j3 k x0 x1 x6 x7 x8 x9)
def portmanteauref10_One.j3 : Nat → ByteArray → Int → Int → Int → Int → Int → Option (Int × Int)
  | 0, _, _, _, _, _, _ => none
  | k + 1, x0, x1, x6, x7, x8, x9 => if x6 ≥ 240 then (portmanteauref10_One.j4 k x0 x1 x6 x7 x8 x9 (decide (x6 ≤ 244))) else (portmanteauref10_One.j4 k x0 x1 x6 x7 x8 x9 false)
def portmanteauref10_One.j4 : Nat → ByteArray → Int → Int → Int → Int → Int → Bool → Option (Int × Int)
  | 0, _, _, _, _, _, _, _ => none
  | k + 1, x0, x1, x6, x7, x8, x9, x36 => if x36 = true then (portmanteauref10_One.j5 k x0 x1 x6 3 x8 x9) else (portmanteauref10_One.j5 k x0 x1 x6 x7 x8 x9)
def portmanteauref10_One.j5 : Nat → ByteArray → Int → Int → Int → Int → Int → Option (Int × Int)
  | 0, _, _, _, _, _, _ => none
  | k + 1, x0, x1, x6, x7, x8, x9 => if x6 = 224 then (portmanteauref10_One.j6 k x0 x1 x6 x7 160 x9) else (portmanteauref10_One.j6 k x0 x1 x6 x7 x8 x9)
def portmanteauref10_One.j6 : Nat → ByteArray → Int → Int → Int → Int → Int → Option (Int × Int)
  | 0, _, _, _, _, _, _ => none
  | k + 1, x0, x1, x6, x7, x8, x9 => if x6 = 237 then (portmanteauref10_One.j7 k x0 x1 x6 x7 x8 159) else (portmanteauref10_One.j7 k x0 x1 x6 x7 x8 x9)
def portmanteauref10_One.j7 : Nat → ByteArray → Int → Int → Int → Int → Int → Option (Int × Int)
  | 0, _, _, _, _, _, _ => none
  | k + 1, x0, x1, x6, x7, x8, x9 => if x6 = 240 then (portmanteauref10_One.j8 k x0 x1 x6 x7 144 x9) else (portmanteauref10_One.j8 k x0 x1 x6 x7 x8 x9)
def portmanteauref10_One.j8 : Nat → ByteArray → Int → Int → Int → Int → Int → Option (Int × Int)
  | 0, _, _, _, _, _, _ => none
  | k + 1, x0, x1, x6, x7, x8, x9 => if x6 = 244 then (portmanteauref10_One.j9 k x0 x1 x6 x7 x8 143) else (portmanteauref10_One.j9 k x0 x1 x6 x7 x8 x9)
def portmanteauref10_One.j9 : Nat → ByteArray → Int → Int → Int → Int → Int → Option (Int × Int)
  | 0, _, _, _, _, _, _ => none
  | k + 1, x0, x1, x6, x7, x8, x9 => if x7 = 0 then (portmanteauref10_One.j10 k x0 x1 x6 x7 true) else ((portmanteauref10_within.f x0 (wrap64 (x1 + 1)) x8 x9).bind fun t123 => (if t123 = true then (if x7 > 1 then ((portmanteauref10_within.f x0 (wrap64 (x1 + 2)) 128 191).bind fun t124 => (if t124 = true then (if x7 > 2 then ((portmanteauref10_within.f x0 (wrap64 (x1 + 3)) 128 191).bind fun t125 => (portmanteauref10_One.j10 k x0 x1 x6 x7 (!t125))) else (portmanteauref10_One.j10 k x0 x1 x6 x7 false)) else (portmanteauref10_One.j10 k x0 x1 x6 x7 true))) else (if x7 > 2 then ((portmanteauref10_within.f x0 (wrap64 (x1 + 3)) 128 191).bind fun t126 => (portmanteauref10_One.j10 k x0 x1 x6 x7 (!t126))) else (portmanteauref10_One.j10 k x0 x1 x6 x7 false))) else (portmanteauref10_One.j10 k x0 x1 x6 x7 true)))
def portmanteauref10_One.j10 : Nat → ByteArray → Int → Int → Int → Bool → Option (Int × Int)
  | 0, _, _, _, _, _ => none
  | k + 1, x0, x1, x6, x7, x77 => if x77 = true then (some ((-1), 1)) else (if x7 = 2 then (portmanteauref10_One.j11 k x0 x1 x6 x7 (Int.tmod (wrap64 (x6)) 16)) else (portmanteauref10_One.j11 k x0 x1 x6 x7 (Int.tmod (wrap64 (x6)) 32)))
def portmanteauref10_One.j11 : Nat → ByteArray → Int → Int → Int → Int → Option (Int × Int)
  | 0, _, _, _, _, _ => none
  | k + 1, x0, x1, x6, x7, x10 => if x7 = 3 then (portmanteauref10_One.j12 k x0 x1 x7 (Int.tmod (wrap64 (x6)) 8)) else (portmanteauref10_One.j12 k x0 x1 x7 x10)
def portmanteauref10_One.j12 : Nat → ByteArray → Int → Int → Int → Option (Int × Int)
  | 0, _, _, _, _ => none
  | k + 1, x0, x1, x7, x10 => portmanteauref10_One.l0 k x0 x1 x7 x10 1
def portmanteauref10_One.l0 : Nat → ByteArray → Int → Int → Int → Int → Option (Int × Int)
  | 0, _, _, _, _, _ => none
  | k + 1, x0, x1, x7, x10, x11 => if x11 ≤ x7 then (if 0 ≤ (wrap64 (x1 + x11)) then (if (wrap64 (x1 + x11)) < (x0.size : Int) then (portmanteauref10_One.l0 k x0 x1 x7 (wrap64 ((wrap64 (x10 * 64)) + (Int.tmod (wrap64 (bt x0 (wrap64 (x1 + x11)))) 64))) (wrap64 (x11 + 1))) else (none)) else (none)) else (some (x10, wrap64 (x7 + 1)))
end
def portmanteauref10_One.f (k : Nat) (a0 : ByteArray) (a1 : Int) : Option (Int × Int) := if 0 ≤ a1 then (if a1 < (a0.size : Int) then (if (bt a0 a1) < 128 then (some (wrap64 (bt a0 a1), 1)) else (if (bt a0 a1) ≥ 194 then (portmanteauref10_One.j0 k a0 a1 (bt a0 a1) 0 128 191 (decide ((bt a0 a1) ≤ 223))) else (portmanteauref10_One.j0 k a0 a1 (bt a0 a1) 0 128 191 false))) else (none)) else (none)
theorem portmanteauref10_One.mono_l : ∀ k, (∀ y0 y1 y2 y3 y4 y5 y6, LeO (portmanteauref10_One.j0 k y0 y1 y2 y3 y4 y5 y6) (portmanteauref10_One.j0 (k + 1) y0 y1 y2 y3 y4 y5 y6)) ∧ (∀ y0 y1 y2 y3 y4 y5, LeO (portmanteauref10_One.j1 k y0 y1 y2 y3 y4 y5) (portmanteauref10_One.j1 (k + 1) y0 y1 y2 y3 y4 y5)) ∧ (∀ y0 y1 y2 y3 y4 y5 y6, LeO (portmanteauref10_One.j2 k y0 y1 y2 y3 y4 y5 y6) (portmanteauref10_One.j2 (k + 1) y0 y1 y2 y3 y4 y5 y6)) ∧ (∀ y0 y1 y2 y3 y4 y5, LeO (portmanteauref10_One.j3 k y0 y1 y2 y3 y4 y5) (portmanteauref10_One.j3 (k + 1) y0 y1 y2 y3 y4 y5)) ∧ (∀ y0 y1 y2 y3 y4 y5 y6, LeO (portmanteauref10_One.j4 k y0 y1 y2 y3 y4 y5 y6) (portmanteauref10_One.j4 (k + 1) y0 y1 y2 y3 y4 y5 y6)) ∧ (∀ y0 y1 y2 y3 y4 y5, LeO (portmanteauref10_One.j5 k y0 y1 y2 y3 y4 y5) (portmanteauref10_One.j5 (k + 1) y0 y1 y2 y3 y4 y5)) ∧ (∀ y0 y1 y2 y3 y4 y5, LeO (portmanteauref10_One.j6 k y0 y1 y2 y3 y4 y5) (portmanteauref10_One.j6 (k + 1) y0 y1 y2 y3 y4 y5)) ∧ (∀ y0 y1 y2 y3 y4 y5, LeO (portmanteauref10_One.j7 k y0 y1 y2 y3 y4 y5) (portmanteauref10_One.j7 (k + 1) y0 y1 y2 y3 y4 y5)) ∧ (∀ y0 y1 y2 y3 y4 y5, LeO (portmanteauref10_One.j8 k y0 y1 y2 y3 y4 y5) (portmanteauref10_One.j8 (k + 1) y0 y1 y2 y3 y4 y5)) ∧ (∀ y0 y1 y2 y3 y4 y5, LeO (portmanteauref10_One.j9 k y0 y1 y2 y3 y4 y5) (portmanteauref10_One.j9 (k + 1) y0 y1 y2 y3 y4 y5)) ∧ (∀ y0 y1 y2 y3 y4, LeO (portmanteauref10_One.j10 k y0 y1 y2 y3 y4) (portmanteauref10_One.j10 (k + 1) y0 y1 y2 y3 y4)) ∧ (∀ y0 y1 y2 y3 y4, LeO (portmanteauref10_One.j11 k y0 y1 y2 y3 y4) (portmanteauref10_One.j11 (k + 1) y0 y1 y2 y3 y4)) ∧ (∀ y0 y1 y2 y3, LeO (portmanteauref10_One.j12 k y0 y1 y2 y3) (portmanteauref10_One.j12 (k + 1) y0 y1 y2 y3)) ∧ (∀ y0 y1 y2 y3 y4, LeO (portmanteauref10_One.l0 k y0 y1 y2 y3 y4) (portmanteauref10_One.l0 (k + 1) y0 y1 y2 y3 y4))
  | 0 => ⟨fun _ _ _ _ _ _ _ r h => by simp [portmanteauref10_One.j0] at h, fun _ _ _ _ _ _ r h => by simp [portmanteauref10_One.j1] at h, fun _ _ _ _ _ _ _ r h => by simp [portmanteauref10_One.j2] at h, fun _ _ _ _ _ _ r h => by simp [portmanteauref10_One.j3] at h, fun _ _ _ _ _ _ _ r h => by simp [portmanteauref10_One.j4] at h, fun _ _ _ _ _ _ r h => by simp [portmanteauref10_One.j5] at h, fun _ _ _ _ _ _ r h => by simp [portmanteauref10_One.j6] at h, fun _ _ _ _ _ _ r h => by simp [portmanteauref10_One.j7] at h, fun _ _ _ _ _ _ r h => by simp [portmanteauref10_One.j8] at h, fun _ _ _ _ _ _ r h => by simp [portmanteauref10_One.j9] at h, fun _ _ _ _ _ r h => by simp [portmanteauref10_One.j10] at h, fun _ _ _ _ _ r h => by simp [portmanteauref10_One.j11] at h, fun _ _ _ _ r h => by simp [portmanteauref10_One.j12] at h, fun _ _ _ _ _ r h => by simp [portmanteauref10_One.l0] at h⟩
  | k + 1 => by
    obtain ⟨ih0, ih1, ih2, ih3, ih4, ih5, ih6, ih7, ih8, ih9, ih10, ih11, ih12, ih13⟩ := portmanteauref10_One.mono_l k
    refine ⟨?_, ?_, ?_, ?_, ?_, ?_, ?_, ?_, ?_, ?_, ?_, ?_, ?_, ?_⟩
    · intro y0 y1 y2 y3 y4 y5 y6
      unfold portmanteauref10_One.j0
      repeat' first
      | (with_reducible exact ih0 _ _ _ _ _ _ _)
      | (with_reducible exact ih1 _ _ _ _ _ _)
      | (with_reducible exact ih2 _ _ _ _ _ _ _)
      | (with_reducible exact ih3 _ _ _ _ _ _)
      | (with_reducible exact ih4 _ _ _ _ _ _ _)
      | (with_reducible exact ih5 _ _ _ _ _ _)
      | (with_reducible exact ih6 _ _ _ _ _ _)
      | (with_reducible exact ih7 _ _ _ _ _ _)
      | (with_reducible exact ih8 _ _ _ _ _ _)
      | (with_reducible exact ih9 _ _ _ _ _ _)
      | (with_reducible exact ih10 _ _ _ _ _)
      | (with_reducible exact ih11 _ _ _ _ _)
      | (with_reducible exact ih12 _ _ _ _)
      | (with_reducible exact ih13 _ _ _ _ _)
      | (with_reducible exact LeO.refl _)
      | (with_reducible exact LeO.none _)
      | (with_reducible refine LeO.ite ?_ ?_)
      | (with_reducible refine LeO.bind ?_ (fun _ => ?_))
      | exact ih0 _ _ _ _ _ _ _
      | exact ih1 _ _ _ _ _ _
      | exact ih2 _ _ _ _ _ _ _
      | exact ih3 _ _ _ _ _ _
      | exact ih4 _ _ _ _ _ _ _
      | exact ih5 _ _ _ _ _ _
      | exact ih6 _ _ _ _ _ _
      | exact ih7 _ _ _ _ _ _
      | exact ih8 _ _ _ _ _ _
      | exact ih9 _ _ _ _ _ _
      | exact ih10 _ _ _ _ _
      | exact ih11 _ _ _ _ _
      | exact ih12 _ _ _ _
      | exact ih13 _ _ _ _ _
      | exact LeO.none _
      | refine LeO.ite ?_ ?_
      | refine LeO.bind ?_ (fun _ => ?_)
    · intro y0 y1 y2 y3 y4 y5
      unfold portmanteauref10_One.j1
      repeat' first
      | (with_reducible exact ih0 _ _ _ _ _ _ _)
      | (with_reducible exact ih1 _ _ _ _ _ _)
      | (with_reducible exact ih2 _ _ _ _ _ _ _)
      | (with_reducible exact ih3 _ _ _ _ _ _)
      | (with_reducible exact ih4 _ _ _ _ _ _ _)
      | (with_reducible exact ih5 _ _ _ _ _ _)
      | (with_reducible exact ih6 _ _ _ _ _ _)
      | (with_reducible exact ih7 _ _ _ _ _ _)
      | (with_reducible exact ih8 _ _ _ _ _ _)
      | (with_reducible exact ih9 _ _ _ _ _ _)
      | (with_reducible exact ih10 _ _ _ _ _)
      | (with_reducible exact ih11 _ _ _ _ _)
      | (with_reducible exact ih12 _ _ _ _)
      | (with_reducible exact ih13 _ _ _ _ _)
      | (with_reducible exact LeO.refl _)
      | (with_reducible exact LeO.none _)
      | (with_reducible refine LeO.ite ?_ ?_)
      | (with_reducible refine LeO.bind ?_ (fun _ => ?_))
      | exact ih0 _ _ _ _ _ _ _
      | exact ih1 _ _ _ _ _ _
      | exact ih2 _ _ _ _ _ _ _
      | exact ih3 _ _ _ _ _ _
      | exact ih4 _ _ _ _ _ _ _
      | exact ih5 _ _ _ _ _ _
      | exact ih6 _ _ _ _ _ _
      | exact ih7 _ _ _ _ _ _
      | exact ih8 _ _ _ _ _ _
      | exact ih9 _ _ _ _ _ _
      | exact ih10 _ _ _ _ _
      | exact ih11 _ _ _ _ _
      | exact ih12 _ _ _ _
      | exact ih13 _ _ _ _ _
      | exact LeO.none _
      | refine LeO.ite ?_ ?_
      | refine LeO.bind ?_ (fun _ => ?_)
    · intro y0 y1 y2 y3 y4 y5 y6
      unfold portmanteauref10_One.j2
      repeat' first
      | (with_reducible exact ih0 _ _ _ _ _ _ _)
      | (with_reducible exact ih1 _ _ _ _ _ _)
      | (with_reducible exact ih2 _ _ _ _ _ _ _)
      | (with_reducible exact ih3 _ _ _ _ _ _)
      | (with_reducible exact ih4 _ _ _ _ _ _ _)
      | (with_reducible exact ih5 _ _ _ _ _ _)
      | (with_reducible exact ih6 _ _ _ _ _ _)
      | (with_reducible exact ih7 _ _ _ _ _ _)
      | (with_reducible exact ih8 _ _ _ _ _ _)
      | (with_reducible exact ih9 _ _ _ _ _ _)
      | (with_reducible exact ih10 _ _ _ _ _)
      | (with_reducible exact ih11 _ _ _ _ _)
      | (with_reducible exact ih12 _ _ _ _)
      | (with_reducible exact ih13 _ _ _ _ _)
      | (with_reducible exact LeO.refl _)
      | (with_reducible exact LeO.none _)
      | (with_reducible refine LeO.ite ?_ ?_)
      | (with_reducible refine LeO.bind ?_ (fun _ => ?_))
      | exact ih0 _ _ _ _ _ _ _
      | exact ih1 _ _ _ _ _ _
      | exact ih2 _ _ _ _ _ _ _
      | exact ih3 _ _ _ _ _ _
      | exact ih4 _ _ _ _ _ _ _
      | exact ih5 _ _ _ _ _ _
      | exact ih6 _ _ _ _ _ _
      | exact ih7 _ _ _ _ _ _
      | exact ih8 _ _ _ _ _ _
      | exact ih9 _ _ _ _ _ _
      | exact ih10 _ _ _ _ _
      | exact ih11 _ _ _ _ _
      | exact ih12 _ _ _ _
      | exact ih13 _ _ _ _ _
      | exact LeO.none _
      | refine LeO.ite ?_ ?_
      | refine LeO.bind ?_ (fun _ => ?_)
    · intro y0 y1 y2 y3 y4 y5
      unfold portmanteauref10_One.j3
      repeat' first
      | (with_reducible exact ih0 _ _ _ _ _ _ _)
      | (with_reducible exact ih1 _ _ _ _ _ _)
      | (with_reducible exact ih2 _ _ _ _ _ _ _)
      | (with_reducible exact ih3 _ _ _ _ _ _)
      | (with_reducible exact ih4 _ _ _ _ _ _ _)
      | (with_reducible exact ih5 _ _ _ _ _ _)
      | (with_reducible exact ih6 _ _ _ _ _ _)
      | (with_reducible exact ih7 _ _ _ _ _ _)
      | (with_reducible exact ih8 _ _ _ _ _ _)
      | (with_reducible exact ih9 _ _ _ _ _ _)
      | (with_reducible exact ih10 _ _ _ _ _)
      | (with_reducible exact ih11 _ _ _ _ _)
      | (with_reducible exact ih12 _ _ _ _)
      | (with_reducible exact ih13 _ _ _ _ _)
      | (with_reducible exact LeO.refl _)
      | (with_reducible exact LeO.none _)
      | (with_reducible refine LeO.ite ?_ ?_)
      | (with_reducible refine LeO.bind ?_ (fun _ => ?_))
      | exact ih0 _ _ _ _ _ _ _
      | exact ih1 _ _ _ _ _ _
      | exact ih2 _ _ _ _ _ _ _
      | exact ih3 _ _ _ _ _ _
      | exact ih4 _ _ _ _ _ _ _
      | exact ih5 _ _ _ _ _ _
      | exact ih6 _ _ _ _ _ _
      | exact ih7 _ _ _ _ _ _
      | exact ih8 _ _ _ _ _ _
      | exact ih9 _ _ _ _ _ _
      | exact ih10 _ _ _ _ _
      | exact ih11 _ _ _ _ _
      | exact ih12 _ _ _ _
      | exact ih13 _ _ _ _ _
      | exact LeO.none _
      | refine LeO.ite ?_ ?_
      | refine LeO.bind ?_ (fun _ => ?_)
    · intro y0 y1 y2 y3 y4 y5 y6
      unfold portmanteauref10_One.j4
      repeat' first
      | (with_reducible exact ih0 _ _ _ _ _ _ _)
      | (with_reducible exact ih1 _ _ _ _ _ _)
      | (with_reducible exact ih2 _ _ _ _ _ _ _)
      | (with_reducible exact ih3 _ _ _ _ _ _)
      | (with_reducible exact ih4 _ _ _ _ _ _ _)
      | (with_reducible exact ih5 _ _ _ _ _ _)
      | (with_reducible exact ih6 _ _ _ _ _ _)
      | (with_reducible exact ih7 _ _ _ _ _ _)
      | (with_reducible exact ih8 _ _ _ _ _ _)
      | (with_reducible exact ih9 _ _ _ _ _ _)
      | (with_reducible exact ih10 _ _ _ _ _)
      | (with_reducible exact ih11 _ _ _ _ _)
      | (with_reducible exact ih12 _ _ _ _)
      | (with_reducible exact ih13 _ _ _ _ _)
      | (with_reducible exact LeO.refl _)
      | (with_reducible exact LeO.none _)
      | (with_reducible refine LeO.ite ?_ ?_)
      | (with_reducible refine LeO.bind ?_ (fun _ => ?_))
      | exact ih0 _ _ _ _ _ _ _
      | exact ih1 _ _ _ _ _ _
      | exact ih2 _ _ _ _ _ _ _
      | exact ih3 _ _ _ _ _ _
      | exact ih4 _ _ _ _ _ _ _
      | exact ih5 _ _ _ _ _ _
      | exact ih6 _ _ _ _ _ _
      | exact ih7 _ _ _ _ _ _
      | exact ih8 _ _ _ _ _ _
      | exact ih9 _ _ _ _ _ _
      | exact ih10 _ _ _ _ _
      | exact ih11 _ _ _ _ _
      | exact ih12 _ _ _ _
      | exact ih13 _ _ _ _ _
      | exact LeO.none _
      | refine LeO.ite ?_ ?_
      | refine LeO.bind ?_ (fun _ => ?_)
    · intro y0 y1 y2 y3 y4 y5
      unfold portmanteauref10_One.j5
      repeat' first
      | (with_reducible exact ih0 _ _ _ _ _ _ _)
      | (with_reducible exact ih1 _ _ _ _ _ _)
      | (with_reducible exact ih2 _ _ _ _ _ _ _)
      | (with_reducible exact ih3 _ _ _ _ _ _)
      | (with_reducible exact ih4 _ _ _ _ _ _ _)
      | (with_reducible exact ih5 _ _ _ _ _ _)
      | (with_reducible exact ih6 _ _ _ _ _ _)
      | (with_reducible exact ih7 _ _ _ _ _ _)
      | (with_reducible exact ih8 _ _ _ _ _ _)
      | (with_reducible exact ih9 _ _ _ _ _ _)
      | (with_reducible exact ih10 _ _ _ _ _)
      | (with_reducible exact ih11 _ _ _ _ _)
      | (with_reducible exact ih12 _ _ _ _)
      | (with_reducible exact ih13 _ _ _ _ _)
      | (with_reducible exact LeO.refl _)
      | (with_reducible exact LeO.none _)
      | (with_reducible refine LeO.ite ?_ ?_)
      | (with_reducible refine LeO.bind ?_ (fun _ => ?_))
      | exact ih0 _ _ _ _ _ _ _
      | exact ih1 _ _ _ _ _ _
      | exact ih2 _ _ _ _ _ _ _
      | exact ih3 _ _ _ _ _ _
      | exact ih4 _ _ _ _ _ _ _
      | exact ih5 _ _ _ _ _ _
      | exact ih6 _ _ _ _ _ _
      | exact ih7 _ _ _ _ _ _
      | exact ih8 _ _ _ _ _ _
      | exact ih9 _ _ _ _ _ _
      | exact ih10 _ _ _ _ _
      | exact ih11 _ _ _ _ _
      | exact ih12 _ _ _ _
      | exact ih13 _ _ _ _ _
      | exact LeO.none _
      | refine LeO.ite ?_ ?_
      | refine LeO.bind ?_ (fun _ => ?_)
    · intro y0 y1 y2 y3 y4 y5
      unfold portmanteauref10_One.j6
      repeat' first
      | (with_reducible exact ih0 _ _ _ _ _ _ _)
      | (with_reducible exact ih1 _ _ _ _ _ _)
      | (with_reducible exact ih2 _ _ _ _ _ _ _)
      | (with_reducible exact ih3 _ _ _ _ _ _)
      | (with_reducible exact ih4 _ _ _ _ _ _ _)
      | (with_reducible exact ih5 _ _ _ _ _ _)
      | (with_reducible exact ih6 _ _ _ _ _ _)
      | (with_reducible exact ih7 _ _ _ _ _ _)
      | (with_reducible exact ih8 _ _ _ _ _ _)
      | (with_reducible exact ih9 _ _ _ _ _ _)
      | (with_reducible exact ih10 _ _ _ _ _)
      | (with_reducible exact ih11 _ _ _ _ _)
      | (with_reducible exact ih12 _ _ _ _)
      | (with_reducible exact ih13 _ _ _ _ _)
      | (with_reducible exact LeO.refl _)
      | (with_reducible exact LeO.none _)
      | (with_reducible refine LeO.ite ?_ ?_)
      | (with_reducible refine LeO.bind ?_ (fun _ => ?_))
      | exact ih0 _ _ _ _ _ _ _
      | exact ih1 _ _ _ _ _ _
      | exact ih2 _ _ _ _ _ _ _
      | exact ih3 _ _ _ _ _ _
      | exact ih4 _ _ _ _ _ _ _
      | exact ih5 _ _ _ _ _ _
      | exact ih6 _ _ _ _ _ _
      | exact ih7 _ _ _ _ _ _
      | exact ih8 _ _ _ _ _ _
      | exact ih9 _ _ _ _ _ _
      | exact ih10 _ _ _ _ _
      | exact ih11 _ _ _ _ _
      | exact ih12 _ _ _ _
      | exact ih13 _ _ _ _ _
      | exact LeO.none _
      | refine LeO.ite ?_ ?_
      | refine LeO.bind ?_ (fun _ => ?_)
    · intro y0 y1 y2 y3 y4 y5
      unfold portmanteauref10_One.j7
      repeat' first
      | (with_reducible exact ih0 _ _ _ _ _ _ _)
      | (with_reducible exact ih1 _ _ _ _ _ _)
      | (with_reducible exact ih2 _ _ _ _ _ _ _)
      | (with_reducible exact ih3 _ _ _ _ _ _)
      | (with_reducible exact ih4 _ _ _ _ _ _ _)
      | (with_reducible exact ih5 _ _ _ _ _ _)
      | (with_reducible exact ih6 _ _ _ _ _ _)
      | (with_reducible exact ih7 _ _ _ _ _ _)
      | (with_reducible exact ih8 _ _ _ _ _ _)
      | (with_reducible exact ih9 _ _ _ _ _ _)
      | (with_reducible exact ih10 _ _ _ _ _)
      | (with_reducible exact ih11 _ _ _ _ _)
      | (with_reducible exact ih12 _ _ _ _)
      | (with_reducible exact ih13 _ _ _ _ _)
      | (with_reducible exact LeO.refl _)
      | (with_reducible exact LeO.none _)
      | (with_reducible refine LeO.ite ?_ ?_)
      | (with_reducible refine LeO.bind ?_ (fun _ => ?_))
      | exact ih0 _ _ _ _ _ _ _
      | exact ih1 _ _ _ _ _ _
      | exact ih2 _ _ _ _ _ _ _
      | exact ih3 _ _ _ _ _ _
      | exact ih4 _ _ _ _ _ _ _
      | exact ih5 _ _ _ _ _ _
      | exact ih6 _ _ _ _ _ _
      | exact ih7 _ _ _ _ _ _
      | exact ih8 _ _ _ _ _ _
      | exact ih9 _ _ _ _ _ _
      | exact ih10 _ _ _ _ _
      | exact ih11 _ _ _ _ _
      | exact ih12 _ _ _ _
      | exact ih13 _ _ _ _ _
      | exact LeO.none _
      | refine LeO.ite ?_ ?_
      | refine LeO.bind ?_ (fun _ => ?_)
    · intro y0 y1 y2 y3 y4 y5
      unfold portmanteauref10_One.j8
      repeat' first
      | (with_reducible exact ih0 _ _ _ _ _ _ _)
      | (with_reducible exact ih1 _ _ _ _ _ _)
      | (with_reducible exact ih2 _ _ _ _ _ _ _)
      | (with_reducible exact ih3 _ _ _ _ _ _)
      | (with_reducible exact ih4 _ _ _ _ _ _ _)
      | (with_reducible exact ih5 _ _ _ _ _ _)
      | (with_reducible exact ih6 _ _ _ _ _ _)
      | (with_reducible exact ih7 _ _ _ _ _ _)
      | (with_reducible exact ih8 _ _ _ _ _ _)
      | (with_reducible exact ih9 _ _ _ _ _ _)
      | (with_reducible exact ih10 _ _ _ _ _)
      | (with_reducible exact ih11 _ _ _ _ _)
      | (with_reducible exact ih12 _ _ _ _)
      | (with_reducible exact ih13 _ _ _ _ _)
      | (with_reducible exact LeO.refl _)
      | (with_reducible exact LeO.none _)
      | (with_reducible refine LeO.ite ?_ ?_)
      | (with_reducible refine LeO.bind ?_ (fun _ => ?_))
      | exact ih0 _ _ _ _ _ _ _
      | exact ih1 _ _ _ _ _ _
      | exact ih2 _ _ _ _ _ _ _
      | exact ih3 _ _ _ _ _ _
      | exact ih4 _ _ _ _ _ _ _
      | exact ih5 _ _ _ _ _ _
      | exact ih6 _ _ _ _ _ _
      | exact ih7 _ _ _ _ _ _
      | exact ih8 _ _ _ _ _ _
      | exact ih9 _ _ _ _ _ _
      | exact ih10 _ _ _ _ _
      | exact ih11 _ _ _ _ _
      | exact ih12 _ _ _ _
      | exact ih13 _ _ _ _ _
      | exact LeO.none _
      | refine LeO.ite ?_ ?_
      | refine LeO.bind ?_ (fun _ => ?_)
    · intro y0 y1 y2 y3 y4 y5
      unfold portmanteauref10_One.j9
      repeat' first
      | (with_reducible exact ih0 _ _ _ _ _ _ _)
      | (with_reducible exact ih1 _ _ _ _ _ _)
      | (with_reducible exact ih2 _ _ _ _ _ _ _)
      | (with_reducible exact ih3 _ _ _ _ _ _)
      | (with_reducible exact ih4 _ _ _ _ _ _ _)
      | (with_reducible exact ih5 _ _ _ _ _ _)
      | (with_reducible exact ih6 _ _ _ _ _ _)
      | (with_reducible exact ih7 _ _ _ _ _ _)
      | (with_reducible exact ih8 _ _ _ _ _ _)
      | (with_reducible exact ih9 _ _ _ _ _ _)
      | (with_reducible exact ih10 _ _ _ _ _)
      | (with_reducible exact ih11 _ _ _ _ _)
      | (with_reducible exact ih12 _ _ _ _)
      | (with_reducible exact ih13 _ _ _ _ _)
      | (with_reducible exact LeO.refl _)
      | (with_reducible exact LeO.none _)
      | (with_reducible refine LeO.ite ?_ ?_)
      | (with_reducible refine LeO.bind ?_ (fun _ => ?_))
      | exact ih0 _ _ _ _ _ _ _
      | exact ih1 _ _ _ _ _ _
      | exact ih2 _ _ _ _ _ _ _
      | exact ih3 _ _ _ _ _ _
      | exact ih4 _ _ _ _ _ _ _
      | exact ih5 _ _ _ _ _ _
      | exact ih6 _ _ _ _ _ _
      | exact ih7 _ _ _ _ _ _
      | exact ih8 _ _ _ _ _ _
      | exact ih9 _ _ _ _ _ _
      | exact ih10 _ _ _ _ _
      | exact ih11 _ _ _ _ _
      | exact ih12 _ _ _ _
      | exact ih13 _ _ _ _ _
      | exact LeO.none _
      | refine LeO.ite ?_ ?_
      | refine LeO.bind ?_ (fun _ => ?_)
    · intro y0 y1 y2 y3 y4
      unfold portmanteauref10_One.j10
      repeat' first
      | (with_reducible exact ih0 _ _ _ _ _ _ _)
      | (with_reducible exact ih1 _ _ _ _ _ _)
      | (with_reducible exact ih2 _ _ _ _ _ _ _)
      | (with_reducible exact ih3 _ _ _ _ _ _)
      | (with_reducible exact ih4 _ _ _ _ _ _ _)
      | (with_reducible exact ih5 _ _ _ _ _ _)
      | (with_reducible exact ih6 _ _ _ _ _ _)
      | (with_reducible exact ih7 _ _ _ _ _ _)
      | (with_reducible exact ih8 _ _ _ _ _ _)
      | (with_reducible exact ih9 _ _ _ _ _ _)
      | (with_reducible exact ih10 _ _ _ _ _)
      | (with_reducible exact ih11 _ _ _ _ _)
      | (with_reducible exact ih12 _ _ _ _)
      | (with_reducible exact ih13 _ _ _ _ _)
      | (with_reducible exact LeO.refl _)
      | (with_reducible exact LeO.none _)
      | (with_reducible refine LeO.ite ?_ ?_)
      | (with_reducible refine LeO.bind ?_ (fun _ => ?_))
      | exact ih0 _ _ _ _ _ _ _
      | exact ih1 _ _ _ _ _ _
      | exact ih2 _ _ _ _ _ _ _
      | exact ih3 _ _ _ _ _ _
      | exact ih4 _ _ _ _ _ _ _
      | exact ih5 _ _ _ _ _ _
      | exact ih6 _ _ _ _ _ _
      | exact ih7 _ _ _ _ _ _
      | exact ih8 _ _ _ _ _ _
      | exact ih9 _ _ _ _ _ _
      | exact ih10 _ _ _ _ _
      | exact ih11 _ _ _ _ _
      | exact ih12 _ _ _ _
      | exact ih13 _ _ _ _ _
      | exact LeO.none _
      | refine LeO.ite ?_ ?_
      | refine LeO.bind ?_ (fun _ => ?_)
    · intro y0 y1 y2 y3 y4
      unfold portmanteauref10_One.j11
      repeat' first
      | (with_reducible exact ih0 _ _ _ _ _ _ _)
      | (with_reducible exact ih1 _ _ _ _ _ _)
      | (with_reducible exact ih2 _ _ _ _ _ _ _)
      | (with_reducible exact ih3 _ _ _ _ _ _)
      | (with_reducible exact ih4 _ _ _ _ _ _ _)
      | (with_reducible exact ih5 _ _ _ _ _ _)
      | (with_reducible exact ih6 _ _ _ _ _ _)
      | (with_reducible exact ih7 _ _ _ _ _ _)
      | (with_reducible exact ih8 _ _ _ _ _ _)
      | (with_reducible exact ih9 _ _ _ _ _ _)
      | (with_reducible exact ih10 _ _ _ _ _)
      | (with_reducible exact ih11 _ _ _ _ _)
      | (with_reducible exact ih12 _ _ _ _)
      | (with_reducible exact ih13 _ _ _ _ _)
      | (with_reducible exact LeO.refl _)
      | (with_reducible exact LeO.none _)
      | (with_reducible refine LeO.ite ?_ ?_)
      | (with_reducible refine LeO.bind ?_ (fun _ => ?_))
      | exact ih0 _ _ _ _ _ _ _
      | exact ih1 _ _ _ _ _ _
      | exact ih2 _ _ _ _ _ _ _
      | exact ih3 _ _ _ _ _ _
      | exact ih4 _ _ _ _ _ _ _
      | exact ih5 _ _ _ _ _ _
      | exact ih6 _ _ _ _ _ _
      | exact ih7 _ _ _ _ _ _
      | exact ih8 _ _ _ _ _ _
      | exact ih9 _ _ _ _ _ _
      | exact ih10 _ _ _ _ _
      | exact ih11 _ _ _ _ _
      | exact ih12 _ _ _ _
      | exact ih13 _ _ _ _ _
      | exact LeO.none _
      | refine LeO.ite ?_ ?_
      | refine LeO.bind ?_ (fun _ => ?_)
    · intro y0 y1 y2 y3
      unfold portmanteauref10_One.j12
      repeat' first
      | (with_reducible exact ih0 _ _ _ _ _ _ _)
      | (with_reducible exact ih1 _ _ _ _ _ _)
      | (with_reducible exact ih2 _ _ _ _ _ _ _)
      | (with_reducible exact ih3 _ _ _ _ _ _)
      | (with_reducible exact ih4 _ _ _ _ _ _ _)
      | (with_reducible exact ih5 _ _ _ _ _ _)
      | (with_reducible exact ih6 _ _ _ _ _ _)
      | (with_reducible exact ih7 _ _ _ _ _ _)
      | (with_reducible exact ih8 _ _ _ _ _ _)
      | (with_reducible exact ih9 _ _ _ _ _ _)
      | (with_reducible exact ih10 _ _ _ _ _)
      | (with_reducible exact ih11 _ _ _ _ _)
      | (with_reducible exact ih12 _ _ _ _)
      | (with_reducible exact ih13 _ _ _ _ _)
      | (with_reducible exact LeO.refl _)
      | (with_reducible exact LeO.none _)
      | (with_reducible refine LeO.ite ?_ ?_)
      | (with_reducible refine LeO.bind ?_ (fun _ => ?_))
      | exact ih0 _ _ _ _ _ _ _
      | exact ih1 _ _ _ _ _ _
      | exact ih2 _ _ _ _ _ _ _
      | exact ih3 _ _ _ _ _ _
      | exact ih4 _ _ _ _ _ _ _
      | exact ih5 _ _ _ _ _ _
      | exact ih6 _ _ _ _ _ _
      | exact ih7 _ _ _ _ _ _
      | exact ih8 _ _ _ _ _ _
      | exact ih9 _ _ _ _ _ _
      | exact ih10 _ _ _ _ _
      | exact ih11 _ _ _ _ _
      | exact ih12 _ _ _ _
      | exact ih13 _ _ _ _ _
      | exact LeO.none _
      | refine LeO.ite ?_ ?_
      | refine LeO.bind ?_ (fun _ => ?_)
    · intro y0 y1 y2 y3 y4
      unfold portmanteauref10_One.l0
      repeat' first
      | (with_reducible exact ih0 _ _ _ _ _ _ _)
      | (with_reducible exact ih1 _ _ _ _ _ _)
      | (with_reducible exact ih2 _ _ _ _ _ _ _)
      | (with_reducible exact ih3 _ _ _ _ _ _)
      | (with_reducible exact ih4 _ _ _ _ _ _ _)
      | (with_reducible exact ih5 _ _ _ _ _ _)
      | (with_reducible exact ih6 _ _ _ _ _ _)
      | (with_reducible exact ih7 _ _ _ _ _ _)
      | (with_reducible exact ih8 _ _ _ _ _ _)
      | (with_reducible exact ih9 _ _ _ _ _ _)
      | (with_reducible exact ih10 _ _ _ _ _)
      | (with_reducible exact ih11 _ _ _ _ _)
      | (with_reducible exact ih12 _ _ _ _)
      | (with_reducible exact ih13 _ _ _ _ _)
      | (with_reducible exact LeO.refl _)
      | (with_reducible exact LeO.none _)
      | (with_reducible refine LeO.ite ?_ ?_)
      | (with_reducible refine LeO.bind ?_ (fun _ => ?_))
      | exact ih0 _ _ _ _ _ _ _
      | exact ih1 _ _ _ _ _ _
      | exact ih2 _ _ _ _ _ _ _
      | exact ih3 _ _ _ _ _ _
      | exact ih4 _ _ _ _ _ _ _
      | exact ih5 _ _ _ _ _ _
      | exact ih6 _ _ _ _ _ _
      | exact ih7 _ _ _ _ _ _
      | exact ih8 _ _ _ _ _ _
      | exact ih9 _ _ _ _ _ _
      | exact ih10 _ _ _ _ _
      | exact ih11 _ _ _ _ _
      | exact ih12 _ _ _ _
      | exact ih13 _ _ _ _ _
      | exact LeO.none _
      | refine LeO.ite ?_ ?_
      | refine LeO.bind ?_ (fun _ => ?_)
theorem portmanteauref10_One.mono : ∀ a0 a1 k, LeO (portmanteauref10_One.f k a0 a1) (portmanteauref10_One.f (k + 1) a0 a1) := by
  intro a0 a1 k
  obtain ⟨ih0, ih1, ih2, ih3, ih4, ih5, ih6, ih7, ih8, ih9, ih10, ih11, ih12, ih13⟩ := portmanteauref10_One.mono_l k
  unfold portmanteauref10_One.f
  repeat' first
      | (with_reducible exact ih0 _ _ _ _ _ _ _)
      | (with_reducible exact ih1 _ _ _ _ _ _)
      | (with_reducible exact ih2 _ _ _ _ _ _ _)
      | (with_reducible exact ih3 _ _ _ _ _ _)
      | (with_reducible exact ih4 _ _ _ _ _ _ _)
      | (with_reducible exact ih5 _ _ _ _ _ _)
      | (with_reducible exact ih6 _ _ _ _ _ _)
      | (with_reducible exact ih7 _ _ _ _ _ _)
      | (with_reducible exact ih8 _ _ _ _ _ _)
      | (with_reducible exact ih9 _ _ _ _ _ _)
      | (with_reducible exact ih10 _ _ _ _ _)
      | (with_reducible exact ih11 _ _ _ _ _)
      | (with_reducible exact ih12 _ _ _ _)
      | (with_reducible exact ih13 _ _ _ _ _)
      | (with_reducible exact LeO.refl _)
      | (with_reducible exact LeO.none _)
      | (with_reducible refine LeO.ite ?_ ?_)
      | (with_reducible refine LeO.bind ?_ (fun _ => ?_))
      | exact ih0 _ _ _ _ _ _ _
      | exact ih1 _ _ _ _ _ _
      | exact ih2 _ _ _ _ _ _ _
      | exact ih3 _ _ _ _ _ _
      | exact ih4 _ _ _ _ _ _ _
      | exact ih5 _ _ _ _ _ _
      | exact ih6 _ _ _ _ _ _
      | exact ih7 _ _ _ _ _ _
      | exact ih8 _ _ _ _ _ _
      | exact ih9 _ _ _ _ _ _
      | exact ih10 _ _ _ _ _
      | exact ih11 _ _ _ _ _
      | exact ih12 _ _ _ _
      | exact ih13 _ _ _ _ _
      | exact LeO.none _
      | refine LeO.ite ?_ ?_
      | refine LeO.bind ?_ (fun _ => ?_)
end Go.Proofs.YtpjjooiamdfmfaaGreatDoor.PNm
-- PRINTED BY print.sh 35421559b90ae4d0a3588c463048766b98c2df88dd9212a6774a882060cdf62d: not written by this session
namespace Go.Proofs.YtpjjooiamdfmfaaGreatDoor.PNm
open Go.RowKit Go.Proofs.YtpjjooiamdfmfaaGreatDoorW.PrintWords Go.Proofs.YtpjjooiamdfmfaaGreatDoorW.PrintLast Go.Proofs.YtpjjooiamdfmfaaGreatDoorW.PrintMore
attribute [local go_sem] max2_int min2_int max_two min_two max_three min_three max_four min_four   -- for this text's walks alone
set_option linter.unusedVariables false
set_option linter.unusedSimpArgs false

/-! ### portmanteauref10_Parts: function 94 -/
def portmanteauref10_Parts.l0 : Nat → ByteArray → List ByteArray → ByteArray → Int → Option (List ByteArray)
  | 0, _, _, _, _ => none
  | k + 1, x0, x3, x4, x5 => if x5 < (x0.size : Int) then (if 0 ≤ x5 then (if (bt x0 x5) = 47 then (if x3.length < 8796093022208 then (portmanteauref10_Parts.l0 k x0 (x3 ++ [x4]) (⟨#[]⟩ : ByteArray) (wrap64 (x5 + 1))) else (none)) else (if x5 ≤ (wrap64 (x5 + 1)) then (if (wrap64 (x5 + 1)) ≤ (x0.size : Int) then (if x4.size + (x0.extract (x5 : Int).toNat ((wrap64 (x5 + 1)) : Int).toNat).size ≤ 9223372036854775807 then (portmanteauref10_Parts.l0 k x0 x3 (x4 ++ (x0.extract (x5 : Int).toNat ((wrap64 (x5 + 1)) : Int).toNat)) (wrap64 (x5 + 1))) else (none)) else (none)) else (none))) else (none)) else (if x3.length < 8796093022208 then (some (x3 ++ [x4])) else (none))
def portmanteauref10_Parts.f (k : Nat) (a0 : ByteArray) : Option (List ByteArray) := if (a0.size : Int) = 0 then (some ([] : List ByteArray)) else (portmanteauref10_Parts.l0 k a0 ([] : List ByteArray) (⟨#[]⟩ : ByteArray) 0)
theorem portmanteauref10_Parts.mono_l : ∀ k, (∀ y0 y1 y2 y3, LeO (portmanteauref10_Parts.l0 k y0 y1 y2 y3) (portmanteauref10_Parts.l0 (k + 1) y0 y1 y2 y3))
  | 0 => fun _ _ _ _ r h => by simp [portmanteauref10_Parts.l0] at h
  | k + 1 => by
    have ih0 := portmanteauref10_Parts.mono_l k
    · intro y0 y1 y2 y3
      unfold portmanteauref10_Parts.l0
      repeat' first
      | (with_reducible exact ih0 _ _ _ _)
      | (with_reducible exact LeO.refl _)
      | (with_reducible exact LeO.none _)
      | (with_reducible refine LeO.ite ?_ ?_)
      | (with_reducible refine LeO.bind ?_ (fun _ => ?_))
      | exact ih0 _ _ _ _
      | exact LeO.none _
      | refine LeO.ite ?_ ?_
      | refine LeO.bind ?_ (fun _ => ?_)
theorem portmanteauref10_Parts.mono : ∀ a0 k, LeO (portmanteauref10_Parts.f k a0) (portmanteauref10_Parts.f (k + 1) a0) := by
  intro a0 k
  have ih0 := portmanteauref10_Parts.mono_l k
  unfold portmanteauref10_Parts.f
  repeat' first
      | (with_reducible exact ih0 _ _ _ _)
      | (with_reducible exact LeO.refl _)
      | (with_reducible exact LeO.none _)
      | (with_reducible refine LeO.ite ?_ ?_)
      | (with_reducible refine LeO.bind ?_ (fun _ => ?_))
      | exact ih0 _ _ _ _
      | exact LeO.none _
      | refine LeO.ite ?_ ?_
      | refine LeO.bind ?_ (fun _ => ?_)
end Go.Proofs.YtpjjooiamdfmfaaGreatDoor.PNm
-- PRINTED BY print.sh 35421559b90ae4d0a3588c463048766b98c2df88dd9212a6774a882060cdf62d: not written by this session
namespace Go.Proofs.YtpjjooiamdfmfaaGreatDoor.PNm
open Go.RowKit Go.Proofs.YtpjjooiamdfmfaaGreatDoorW.PrintWords Go.Proofs.YtpjjooiamdfmfaaGreatDoorW.PrintLast Go.Proofs.YtpjjooiamdfmfaaGreatDoorW.PrintMore
attribute [local go_sem] max2_int min2_int max_two min_two max_three min_three max_four min_four   -- for this text's walks alone
set_option linter.unusedVariables false
set_option linter.unusedSimpArgs false

/-! ### portmanteauref10_less: function 95 -/
mutual
def portmanteauref10_less.l0 : Nat → ByteArray → ByteArray → Int → Option (Int)
  | 0, _, _, _ => none
  | k + 1, x0, x1, x5 => if x5 < (x0.size : Int) then (portmanteauref10_less.j1 k x0 x1 x5 (decide (x5 < (x1.size : Int)))) else (portmanteauref10_less.j1 k x0 x1 x5 false)
def portmanteauref10_less.j1 : Nat → ByteArray → ByteArray → Int → Bool → Option (Int)
  | 0, _, _, _, _ => none
  | k + 1, x0, x1, x5, x15 => if x15 = true then (if 0 ≤ x5 then (if x5 < (x0.size : Int) then (if x5 < (x1.size : Int) then (if (bt x0 x5) < (bt x1 x5) then (some (-1)) else (if (bt x0 x5) > (bt x1 x5) then (some 1) else (portmanteauref10_less.l0 k x0 x1 (wrap64 (x5 + 1))))) else (none)) else (none)) else (none)) else (if (x0.size : Int) < (x1.size : Int) then (some (-1)) else (if (x0.size : Int) > (x1.size : Int) then (some 1) else (some 0)))
end
def portmanteauref10_less.f (k : Nat) (a0 : ByteArray) (a1 : ByteArray) : Option (Int) := portmanteauref10_less.l0 k a0 a1 0
theorem portmanteauref10_less.mono_l : ∀ k, (∀ y0 y1 y2, LeO (portmanteauref10_less.l0 k y0 y1 y2) (portmanteauref10_less.l0 (k + 1) y0 y1 y2)) ∧ (∀ y0 y1 y2 y3, LeO (portmanteauref10_less.j1 k y0 y1 y2 y3) (portmanteauref10_less.j1 (k + 1) y0 y1 y2 y3))
  | 0 => ⟨fun _ _ _ r h => by simp [portmanteauref10_less.l0] at h, fun _ _ _ _ r h => by simp [portmanteauref10_less.j1] at h⟩
  | k + 1 => by
    obtain ⟨ih0, ih1⟩ := portmanteauref10_less.mono_l k
    refine ⟨?_, ?_⟩
    · intro y0 y1 y2
      unfold portmanteauref10_less.l0
      repeat' first
      | (with_reducible exact ih0 _ _ _)
      | (with_reducible exact ih1 _ _ _ _)
      | (with_reducible exact LeO.refl _)
      | (with_reducible exact LeO.none _)
      | (with_reducible refine LeO.ite ?_ ?_)
      | (with_reducible refine LeO.bind ?_ (fun _ => ?_))
      | exact ih0 _ _ _
      | exact ih1 _ _ _ _
      | exact LeO.none _
      | refine LeO.ite ?_ ?_
      | refine LeO.bind ?_ (fun _ => ?_)
    · intro y0 y1 y2 y3
      unfold portmanteauref10_less.j1
      repeat' first
      | (with_reducible exact ih0 _ _ _)
      | (with_reducible exact ih1 _ _ _ _)
      | (with_reducible exact LeO.refl _)
      | (with_reducible exact LeO.none _)
      | (with_reducible refine LeO.ite ?_ ?_)
      | (with_reducible refine LeO.bind ?_ (fun _ => ?_))
      | exact ih0 _ _ _
      | exact ih1 _ _ _ _
      | exact LeO.none _
      | refine LeO.ite ?_ ?_
      | refine LeO.bind ?_ (fun _ => ?_)
theorem portmanteauref10_less.mono : ∀ a0 a1 k, LeO (portmanteauref10_less.f k a0 a1) (portmanteauref10_less.f (k + 1) a0 a1) := by
  intro a0 a1 k
  obtain ⟨ih0, ih1⟩ := portmanteauref10_less.mono_l k
  unfold portmanteauref10_less.f
  repeat' first
      | (with_reducible exact ih0 _ _ _)
      | (with_reducible exact ih1 _ _ _ _)
      | (with_reducible exact LeO.refl _)
      | (with_reducible exact LeO.none _)
      | (with_reducible refine LeO.ite ?_ ?_)
      | (with_reducible refine LeO.bind ?_ (fun _ => ?_))
      | exact ih0 _ _ _
      | exact ih1 _ _ _ _
      | exact LeO.none _
      | refine LeO.ite ?_ ?_
      | refine LeO.bind ?_ (fun _ => ?_)
end Go.Proofs.YtpjjooiamdfmfaaGreatDoor.PNm
-- PRINTED BY print.sh 35421559b90ae4d0a3588c463048766b98c2df88dd9212a6774a882060cdf62d: not written by this session
namespace Go.Proofs.YtpjjooiamdfmfaaGreatDoor.PNm
open Go.RowKit Go.Proofs.YtpjjooiamdfmfaaGreatDoorW.PrintWords Go.Proofs.YtpjjooiamdfmfaaGreatDoorW.PrintLast Go.Proofs.YtpjjooiamdfmfaaGreatDoorW.PrintMore
attribute [local go_sem] max2_int min2_int max_two min_two max_three min_three max_four min_four   -- for this text's walks alone
set_option linter.unusedVariables false
set_option linter.unusedSimpArgs false

/-! ### portmanteauref10_Order: function 64 -/
mutual
def portmanteauref10_Order.l0 : Nat → List ByteArray → List ByteArray → Int → Option (Int)
  | 0, _, _, _ => none
  | k + 1, x5, x6, x7 => if x7 < (x5.length : Int) then (portmanteauref10_Order.j1 k x5 x6 x7 (decide (x7 < (x6.length : Int)))) else (portmanteauref10_Order.j1 k x5 x6 x7 false)
def portmanteauref10_Order.j1 : Nat → List ByteArray → List ByteArray → Int → Bool → Option (Int)
  | 0, _, _, _, _ => none
  | k + 1, x5, x6, x7, x22 => if x22 = true then (if 0 ≤ x7 then (if x7 < (x5.length : Int) then (if x7 < (x6.length : Int) then ((portmanteauref10_less.f k (rdOf ByteArray.empty x5 x7) (rdOf ByteArray.empty x6 x7)).bind fun t115 => (if t115 = 0 then (portmanteauref10_Order.l0 k x5 x6 (wrap64 (x7 + 1))) else (some t115))) else (none)) else (none)) else (none)) else (if (x5.length : Int) < (x6.length : Int) then (some (-1)) else (if (x5.length : Int) > (x6.length : Int) then (some 1) else (some 0)))
end
def portmanteauref10_Order.f (k : Nat) (a0 : ByteArray) (a1 : ByteArray) : Option (Int) := (portmanteauref10_Parts.f k a0).bind fun t107 => ((portmanteauref10_Parts.f k a1).bind fun t110 => (portmanteauref10_Order.l0 k t107 t110 0))
theorem portmanteauref10_Order.mono_l : ∀ k, (∀ y0 y1 y2, LeO (portmanteauref10_Order.l0 k y0 y1 y2) (portmanteauref10_Order.l0 (k + 1) y0 y1 y2)) ∧ (∀ y0 y1 y2 y3, LeO (portmanteauref10_Order.j1 k y0 y1 y2 y3) (portmanteauref10_Order.j1 (k + 1) y0 y1 y2 y3))
  | 0 => ⟨fun _ _ _ r h => by simp [portmanteauref10_Order.l0] at h, fun _ _ _ _ r h => by simp [portmanteauref10_Order.j1] at h⟩
  | k + 1 => by
    obtain ⟨ih0, ih1⟩ := portmanteauref10_Order.mono_l k
    refine ⟨?_, ?_⟩
    · intro y0 y1 y2
      unfold portmanteauref10_Order.l0
      repeat' first
      | (with_reducible exact ih0 _ _ _)
      | (with_reducible exact ih1 _ _ _ _)
      | (with_reducible exact portmanteauref10_Parts.mono _ _)
      | (with_reducible exact portmanteauref10_less.mono _ _ _)
      | (with_reducible exact LeO.refl _)
      | (with_reducible exact LeO.none _)
      | (with_reducible refine LeO.ite ?_ ?_)
      | (with_reducible refine LeO.bind ?_ (fun _ => ?_))
      | exact ih0 _ _ _
      | exact ih1 _ _ _ _
      | exact portmanteauref10_Parts.mono _ _
      | exact portmanteauref10_less.mono _ _ _
      | exact LeO.none _
      | refine LeO.ite ?_ ?_
      | refine LeO.bind ?_ (fun _ => ?_)
    · intro y0 y1 y2 y3
      unfold portmanteauref10_Order.j1
      repeat' first
      | (with_reducible exact ih0 _ _ _)
      | (with_reducible exact ih1 _ _ _ _)
      | (with_reducible exact portmanteauref10_Parts.mono _ _)
      | (with_reducible exact portmanteauref10_less.mono _ _ _)
      | (with_reducible exact LeO.refl _)
      | (with_reducible exact LeO.none _)
      | (with_reducible refine LeO.ite ?_ ?_)
      | (with_reducible refine LeO.bind ?_ (fun _ => ?_))
      | exact ih0 _ _ _
      | exact ih1 _ _ _ _
      | exact portmanteauref10_Parts.mono _ _
      | exact portmanteauref10_less.mono _ _ _
      | exact LeO.none _
      | refine LeO.ite ?_ ?_
      | refine LeO.bind ?_ (fun _ => ?_)
theorem portmanteauref10_Order.mono : ∀ a0 a1 k, LeO (portmanteauref10_Order.f k a0 a1) (portmanteauref10_Order.f (k + 1) a0 a1) := by
  intro a0 a1 k
  obtain ⟨ih0, ih1⟩ := portmanteauref10_Order.mono_l k
  unfold portmanteauref10_Order.f
  repeat' first
      | (with_reducible exact ih0 _ _ _)
      | (with_reducible exact ih1 _ _ _ _)
      | (with_reducible exact portmanteauref10_Parts.mono _ _)
      | (with_reducible exact portmanteauref10_less.mono _ _ _)
      | (with_reducible exact LeO.refl _)
      | (with_reducible exact LeO.none _)
      | (with_reducible refine LeO.ite ?_ ?_)
      | (with_reducible refine LeO.bind ?_ (fun _ => ?_))
      | exact ih0 _ _ _
      | exact ih1 _ _ _ _
      | exact portmanteauref10_Parts.mono _ _
      | exact portmanteauref10_less.mono _ _ _
      | exact LeO.none _
      | refine LeO.ite ?_ ?_
      | refine LeO.bind ?_ (fun _ => ?_)
end Go.Proofs.YtpjjooiamdfmfaaGreatDoor.PNm
-- PRINTED BY print.sh 35421559b90ae4d0a3588c463048766b98c2df88dd9212a6774a882060cdf62d: not written by this session
namespace Go.Proofs.YtpjjooiamdfmfaaGreatDoor.PNm
open Go.RowKit Go.Proofs.YtpjjooiamdfmfaaGreatDoorW.PrintWords Go.Proofs.YtpjjooiamdfmfaaGreatDoorW.PrintLast Go.Proofs.YtpjjooiamdfmfaaGreatDoorW.PrintMore
attribute [local go_sem] max2_int min2_int max_two min_two max_three min_three max_four min_four   -- for this text's walks alone
set_option linter.unusedVariables false
set_option linter.unusedSimpArgs false

/-! ### portmanteauref10_Parent: function 51 -/
def portmanteauref10_Parent.l0 : Nat → ByteArray → Int → Option (ByteArray)
  | 0, _, _ => none
  | k + 1, x0, x3 => if x3 ≥ 0 then (if 0 ≤ x3 then (if x3 < (x0.size : Int) then (if (bt x0 x3) = 47 then (if x3 ≤ (x0.size : Int) then (some (x0.extract 0 (x3 : Int).toNat)) else (none)) else (portmanteauref10_Parent.l0 k x0 (wrap64 (x3 - 1)))) else (none)) else (none)) else (some (⟨#[]⟩ : ByteArray))
def portmanteauref10_Parent.f (k : Nat) (a0 : ByteArray) : Option (ByteArray) := portmanteauref10_Parent.l0 k a0 (wrap64 ((a0.size : Int) - 1))
theorem portmanteauref10_Parent.mono_l : ∀ k, (∀ y0 y1, LeO (portmanteauref10_Parent.l0 k y0 y1) (portmanteauref10_Parent.l0 (k + 1) y0 y1))
  | 0 => fun _ _ r h => by simp [portmanteauref10_Parent.l0] at h
  | k + 1 => by
    have ih0 := portmanteauref10_Parent.mono_l k
    · intro y0 y1
      unfold portmanteauref10_Parent.l0
      repeat' first
      | (with_reducible exact ih0 _ _)
      | (with_reducible exact LeO.refl _)
      | (with_reducible exact LeO.none _)
      | (with_reducible refine LeO.ite ?_ ?_)
      | (with_reducible refine LeO.bind ?_ (fun _ => ?_))
      | exact ih0 _ _
      | exact LeO.none _
      | refine LeO.ite ?_ ?_
      | refine LeO.bind ?_ (fun _ => ?_)
theorem portmanteauref10_Parent.mono : ∀ a0 k, LeO (portmanteauref10_Parent.f k a0) (portmanteauref10_Parent.f (k + 1) a0) := by
  intro a0 k
  have ih0 := portmanteauref10_Parent.mono_l k
  unfold portmanteauref10_Parent.f
  repeat' first
      | (with_reducible exact ih0 _ _)
      | (with_reducible exact LeO.refl _)
      | (with_reducible exact LeO.none _)
      | (with_reducible refine LeO.ite ?_ ?_)
      | (with_reducible refine LeO.bind ?_ (fun _ => ?_))
      | exact ih0 _ _
      | exact LeO.none _
      | refine LeO.ite ?_ ?_
      | refine LeO.bind ?_ (fun _ => ?_)
end Go.Proofs.YtpjjooiamdfmfaaGreatDoor.PNm
-- PRINTED BY print.sh 35421559b90ae4d0a3588c463048766b98c2df88dd9212a6774a882060cdf62d: not written by this session
namespace Go.Proofs.YtpjjooiamdfmfaaGreatDoor.PNm
open Go.RowKit Go.Proofs.YtpjjooiamdfmfaaGreatDoorW.PrintWords Go.Proofs.YtpjjooiamdfmfaaGreatDoorW.PrintLast Go.Proofs.YtpjjooiamdfmfaaGreatDoorW.PrintMore
attribute [local go_sem] max2_int min2_int max_two min_two max_three min_three max_four min_four   -- for this text's walks alone
set_option linter.unusedVariables false
set_option linter.unusedSimpArgs false

/-! ### bytealg_LastIndexByteString: function 125 -/
def bytealg_LastIndexByteString.l0 : Nat → ByteArray → Int → Int → Option (Int)
  | 0, _, _, _ => none
  | k + 1, x0, x1, x5 => if x5 ≥ 0 then (if 0 ≤ x5 then (if x5 < (x0.size : Int) then (if (bt x0 x5) = x1 then (some x5) else (bytealg_LastIndexByteString.l0 k x0 x1 (wrap64 (x5 - 1)))) else (none)) else (none)) else (some (-1))
def bytealg_LastIndexByteString.f (k : Nat) (a0 : ByteArray) (a1 : Int) : Option (Int) := bytealg_LastIndexByteString.l0 k a0 a1 (wrap64 ((a0.size : Int) - 1))
theorem bytealg_LastIndexByteString.mono_l : ∀ k, (∀ y0 y1 y2, LeO (bytealg_LastIndexByteString.l0 k y0 y1 y2) (bytealg_LastIndexByteString.l0 (k + 1) y0 y1 y2))
  | 0 => fun _ _ _ r h => by simp [bytealg_LastIndexByteString.l0] at h
  | k + 1 => by
    have ih0 := bytealg_LastIndexByteString.mono_l k
    · intro y0 y1 y2
      unfold bytealg_LastIndexByteString.l0
      repeat' first
      | (with_reducible exact ih0 _ _ _)
      | (with_reducible exact LeO.refl _)
      | (with_reducible exact LeO.none _)
      | (with_reducible refine LeO.ite ?_ ?_)
      | (with_reducible refine LeO.bind ?_ (fun _ => ?_))
      | exact ih0 _ _ _
      | exact LeO.none _
      | refine LeO.ite ?_ ?_
      | refine LeO.bind ?_ (fun _ => ?_)
theorem bytealg_LastIndexByteString.mono : ∀ a0 a1 k, LeO (bytealg_LastIndexByteString.f k a0 a1) (bytealg_LastIndexByteString.f (k + 1) a0 a1) := by
  intro a0 a1 k
  have ih0 := bytealg_LastIndexByteString.mono_l k
  unfold bytealg_LastIndexByteString.f
  repeat' first
      | (with_reducible exact ih0 _ _ _)
      | (with_reducible exact LeO.refl _)
      | (with_reducible exact LeO.none _)
      | (with_reducible refine LeO.ite ?_ ?_)
      | (with_reducible refine LeO.bind ?_ (fun _ => ?_))
      | exact ih0 _ _ _
      | exact LeO.none _
      | refine LeO.ite ?_ ?_
      | refine LeO.bind ?_ (fun _ => ?_)
end Go.Proofs.YtpjjooiamdfmfaaGreatDoor.PNm
-- PRINTED BY print.sh 35421559b90ae4d0a3588c463048766b98c2df88dd9212a6774a882060cdf62d: not written by this session
namespace Go.Proofs.YtpjjooiamdfmfaaGreatDoor.PNm
open Go.RowKit Go.Proofs.YtpjjooiamdfmfaaGreatDoorW.PrintWords Go.Proofs.YtpjjooiamdfmfaaGreatDoorW.PrintLast Go.Proofs.YtpjjooiamdfmfaaGreatDoorW.PrintMore
attribute [local go_sem] max2_int min2_int max_two min_two max_three min_three max_four min_four   -- for this text's walks alone
set_option linter.unusedVariables false
set_option linter.unusedSimpArgs false

/-! ### strings_LastIndexByte: function 76 -/
def strings_LastIndexByte.f (k : Nat) (a0 : ByteArray) (a1 : Int) : Option (Int) := (bytealg_LastIndexByteString.f k a0 a1).bind fun t121 => (some t121)
theorem strings_LastIndexByte.mono : ∀ a0 a1 k, LeO (strings_LastIndexByte.f k a0 a1) (strings_LastIndexByte.f (k + 1) a0 a1) := by
  intro a0 a1 k
  unfold strings_LastIndexByte.f
  repeat' first
      | (with_reducible exact bytealg_LastIndexByteString.mono _ _ _)
      | (with_reducible exact LeO.refl _)
      | (with_reducible exact LeO.none _)
      | (with_reducible refine LeO.ite ?_ ?_)
      | (with_reducible refine LeO.bind ?_ (fun _ => ?_))
      | exact bytealg_LastIndexByteString.mono _ _ _
      | exact LeO.none _
      | refine LeO.ite ?_ ?_
      | refine LeO.bind ?_ (fun _ => ?_)
end Go.Proofs.YtpjjooiamdfmfaaGreatDoor.PNm
-- PRINTED BY print.sh 35421559b90ae4d0a3588c463048766b98c2df88dd9212a6774a882060cdf62d: not written by this session
namespace Go.Proofs.YtpjjooiamdfmfaaGreatDoor.PNm
open Go.RowKit Go.Proofs.YtpjjooiamdfmfaaGreatDoorW.PrintWords Go.Proofs.YtpjjooiamdfmfaaGreatDoorW.PrintLast Go.Proofs.YtpjjooiamdfmfaaGreatDoorW.PrintMore
attribute [local go_sem] max2_int min2_int max_two min_two max_three min_three max_four min_four   -- for this text's walks alone
set_option linter.unusedVariables false
set_option linter.unusedSimpArgs false

/-! ### name_Parent: function 50 -/
def name_Parent.f (k : Nat) (a0 : ByteArray) : Option (ByteArray) := (strings_LastIndexByte.f k a0 47).bind fun t122 => (if 0 ≤ (mx 0 t122) then (if (mx 0 t122) ≤ (a0.size : Int) then (some (a0.extract 0 ((mx 0 t122) : Int).toNat)) else (none)) else (none))
theorem name_Parent.mono : ∀ a0 k, LeO (name_Parent.f k a0) (name_Parent.f (k + 1) a0) := by
  intro a0 k
  unfold name_Parent.f
  repeat' first
      | (with_reducible exact strings_LastIndexByte.mono _ _ _)
      | (with_reducible exact LeO.refl _)
      | (with_reducible exact LeO.none _)
      | (with_reducible refine LeO.ite ?_ ?_)
      | (with_reducible refine LeO.bind ?_ (fun _ => ?_))
      | exact strings_LastIndexByte.mono _ _ _
      | exact LeO.none _
      | refine LeO.ite ?_ ?_
      | refine LeO.bind ?_ (fun _ => ?_)
end Go.Proofs.YtpjjooiamdfmfaaGreatDoor.PNm
