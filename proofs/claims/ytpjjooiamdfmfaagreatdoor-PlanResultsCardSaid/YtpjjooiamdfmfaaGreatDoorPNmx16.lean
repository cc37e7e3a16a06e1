import Derived.Test.YtpjjooiamdfmfaaGreatDoorPN
import Derived.Test.YtpjjooiamdfmfaaGreatDoorPNmx15
-- PRINTED BY print.sh 35421559b90ae4d0a3588c463048766b98c2df88dd9212a6774a882060cdf62d: not written by this session
namespace Go.Proofs.YtpjjooiamdfmfaaGreatDoor.PNm
open Go.RowKit Go.Proofs.YtpjjooiamdfmfaaGreatDoorW.PrintWords Go.Proofs.YtpjjooiamdfmfaaGreatDoorW.PrintLast Go.Proofs.YtpjjooiamdfmfaaGreatDoorW.PrintMore
attribute [local go_sem] max2_int min2_int max_two min_two max_three min_three max_four min_four   -- for this text's walks alone
set_option linter.unusedVariables false
set_option linter.unusedSimpArgs false

/-! ### portmanteauref10_Check: function 74 -/
mutual
def portmanteauref10_Check.j0 : Nat → ByteArray → Bool → Option (ByteArray × Bool × Int)
  | 0, _, _ => none
  | k + 1, x0, x22 => if x22 = true then (some ((⟨#[]⟩ : ByteArray), false, 20)) else (if 0 ≤ (wrap64 ((x0.size : Int) - 1)) then (if (wrap64 ((x0.size : Int) - 1)) < (x0.size : Int) then (if (bt x0 (wrap64 ((x0.size : Int) - 1))) = 47 then (if (wrap64 ((x0.size : Int) - 1)) ≤ (x0.size : Int) then (portmanteauref10_Check.j1 k x0 (x0.extract 0 ((wrap64 ((x0.size : Int) - 1)) : Int).toNat) true) else (none)) else (portmanteauref10_Check.j1 k x0 x0 false)) else (none)) else (none))
def portmanteauref10_Check.j1 : Nat → ByteArray → ByteArray → Bool → Option (ByteArray × Bool × Int)
  | 0, _, _, _ => none
  | k + 1, x0, x5, x6 => portmanteauref10_Check.l0 k x0 x5 x6 0
def portmanteauref10_Check.l0 : Nat → ByteArray → ByteArray → Bool → Int → Option (ByteArray × Bool × Int)
  | 0, _, _, _, _ => none
  | k + 1, x0, x5, x6, x7 => if x7 < (x0.size : Int) then (if 0 ≤ x7 then (if (bt x0 x7) = 0 then (some ((⟨#[]⟩ : ByteArray), false, 21)) else (if (bt x0 x7) = 92 then (some ((⟨#[]⟩ : ByteArray), false, 21)) else (portmanteauref10_Check.l0 k x0 x5 x6 (wrap64 (x7 + 1))))) else (none)) else ((portmanteauref10_Parts.f k x5).bind fun t130 => (if (t130.length : Int) = 0 then (some ((⟨#[]⟩ : ByteArray), false, 21)) else (portmanteauref10_Check.l1 k x5 x6 t130 t130 (t130.length : Int) 0)))
def portmanteauref10_Check.l1 : Nat → ByteArray → Bool → List ByteArray → List ByteArray → Int → Int → Option (ByteArray × Bool × Int)
  | 0, _, _, _, _, _, _ => none
  | k + 1, x5, x6, x8, x56, x57, x58 => if x58 < x57 then (if 0 ≤ x58 then (if x58 < (x56.length : Int) then (if (rdOf ByteArray.empty x56 x58).toList = ([] : List UInt8) then (some ((⟨#[]⟩ : ByteArray), false, 21)) else (if (rdOf ByteArray.empty x56 x58).toList = ([46] : List UInt8) then (some ((⟨#[]⟩ : ByteArray), false, 21)) else (if (rdOf ByteArray.empty x56 x58).toList = ([46, 46] : List UInt8) then (some ((⟨#[]⟩ : ByteArray), false, 21)) else (portmanteauref10_Check.l1 k x5 x6 x8 x56 x57 (wrap64 (x58 + 1)))))) else (none)) else (none)) else (portmanteauref10_Check.l2 k x5 x6 x8 x8 (x8.length : Int) 0)
def portmanteauref10_Check.l2 : Nat → ByteArray → Bool → List ByteArray → List ByteArray → Int → Int → Option (ByteArray × Bool × Int)
  | 0, _, _, _, _, _, _ => none
  | k + 1, x5, x6, x8, x73, x74, x75 => if x75 < x74 then (if 0 ≤ x75 then (if x75 < (x73.length : Int) then (if ((rdOf ByteArray.empty x73 x75).size : Int) > 255 then (some ((⟨#[]⟩ : ByteArray), false, 5)) else (if (x8.length : Int) > 32 then (some ((⟨#[]⟩ : ByteArray), false, 5)) else (portmanteauref10_Check.l2 k x5 x6 x8 x73 x74 (wrap64 (x75 + 1))))) else (none)) else (none)) else (some (x5, x6, 0))
end
def portmanteauref10_Check.f (k : Nat) (a0 : ByteArray) : Option (ByteArray × Bool × Int) := if (a0.size : Int) > 65535 then (some ((⟨#[]⟩ : ByteArray), false, 5)) else (if (a0.size : Int) = 0 then (portmanteauref10_Check.j0 k a0 true) else ((portmanteauref10_Strays.f k a0).bind fun t129 => (portmanteauref10_Check.j0 k a0 t129)))
theorem portmanteauref10_Check.mono_l : ∀ k, (∀ y0 y1, LeO (portmanteauref10_Check.j0 k y0 y1) (portmanteauref10_Check.j0 (k + 1) y0 y1)) ∧ (∀ y0 y1 y2, LeO (portmanteauref10_Check.j1 k y0 y1 y2) (portmanteauref10_Check.j1 (k + 1) y0 y1 y2)) ∧ (∀ y0 y1 y2 y3, LeO (portmanteauref10_Check.l0 k y0 y1 y2 y3) (portmanteauref10_Check.l0 (k + 1) y0 y1 y2 y3)) ∧ (∀ y0 y1 y2 y3 y4 y5, LeO (portmanteauref10_Check.l1 k y0 y1 y2 y3 y4 y5) (portmanteauref10_Check.l1 (k + 1) y0 y1 y2 y3 y4 y5)) ∧ (∀ y0 y1 y2 y3 y4 y5, LeO (portmanteauref10_Check.l2 k y0 y1 y2 y3 y4 y5) (portmanteauref10_Check.l2 (k + 1) y0 y1 y2 y3 y4 y5))
  | 0 => ⟨fun _ _ r h => by simp [portmanteauref10_Check.j0] at h, fun _ _ _ r h => by simp [portmanteauref10_Check.j1] at h, fun _ _ _ _ r h => by simp [portmanteauref10_Check.l0] at h, fun _ _ _ _ _ _ r h => by simp [portmanteauref10_Check.l1] at h, fun _ _ _ _ _ _ r h => by simp [portmanteauref10_Check.l2] at h⟩
  | k + 1 => by
    obtain ⟨ih0, ih1, ih2, ih3, ih4⟩ := portmanteauref10_Check.mono_l k
    refine ⟨?_, ?_, ?_, ?_, ?_⟩
    · intro y0 y1
      unfold portmanteauref10_Check.j0
      repeat' first
      | (with_reducible exact ih0 _ _)
      | (with_reducible exact ih1 _ _ _)
      | (with_reducible exact ih2 _ _ _ _)
      | (with_reducible exact ih3 _ _ _ _ _ _)
      | (with_reducible exact ih4 _ _ _ _ _ _)
      | (with_reducible exact portmanteauref10_Parts.mono _ _)
      | (with_reducible exact portmanteauref10_Strays.mono _ _)
      | (with_reducible exact LeO.refl _)
      | (with_reducible exact LeO.none _)
      | (with_reducible refine LeO.ite ?_ ?_)
      | (with_reducible refine LeO.bind ?_ (fun _ => ?_))
      | exact ih0 _ _
      | exact ih1 _ _ _
      | exact ih2 _ _ _ _
      | exact ih3 _ _ _ _ _ _
      | exact ih4 _ _ _ _ _ _
      | exact portmanteauref10_Parts.mono _ _
      | exact portmanteauref10_Strays.mono _ _
      | exact LeO.none _
      | refine LeO.ite ?_ ?_
      | refine LeO.bind ?_ (fun _ => ?_)
    · intro y0 y1 y2
      unfold portmanteauref10_Check.j1
      repeat' first
      | (with_reducible exact ih0 _ _)
      | (with_reducible exact ih1 _ _ _)
      | (with_reducible exact ih2 _ _ _ _)
      | (with_reducible exact ih3 _ _ _ _ _ _)
      | (with_reducible exact ih4 _ _ _ _ _ _)
      | (with_reducible exact portmanteauref10_Parts.mono _ _)
      | (with_reducible exact portmanteauref10_Strays.mono _ _)
      | (with_reducible exact LeO.refl _)
      | (with_reducible exact LeO.none _)
      | (with_reducible refine LeO.ite ?_ ?_)
      | (with_reducible refine LeO.bind ?_ (fun _ => ?_))
      | exact ih0 _ _
      | exact ih1 _ _ _
      | exact ih2 _ _ _ _
      | exact ih3 _ _ _ _ _ _
      | exact ih4 _ _ _ _ _ _
      | exact portmanteauref10_Parts.mono _ _
      | exact portmanteauref10_Strays.mono _ _
      | exact LeO.none _
      | refine LeO.ite ?_ ?_
      | refine LeO.bind ?_ (fun _ => ?_)
    · intro y0 y1 y2 y3
      unfold portmanteauref10_Check.l0
      repeat' first
      | (with_reducible exact ih0 _ _)
      | (with_reducible exact ih1 _ _ _)
      | (with_reducible exact ih2 _ _ _ _)
      | (with_reducible exact ih3 _ _ _ _ _ _)
      | (with_reducible exact ih4 _ _ _ _ _ _)
      | (with_reducible exact portmanteauref10_Parts.mono _ _)
      | (with_reducible exact portmanteauref10_Strays.mono _ _)
      | (with_reducible exact LeO.refl _)
      | (with_reducible exact LeO.none _)
      | (with_reducible refine LeO.ite ?_ ?_)
      | (with_reducible refine LeO.bind ?_ (fun _ => ?_))
      | exact ih0 _ _
      | exact ih1 _ _ _
      | exact ih2 _ _ _ _
      | exact ih3 _ _ _ _ _ _
      | exact ih4 _ _ _ _ _ _
      | exact portmanteauref10_Parts.mono _ _
      | exact portmanteauref10_Strays.mono _ _
      | exact LeO.none _
      | refine LeO.ite ?_ ?_
      | refine LeO.bind ?_ (fun _ => ?_)
    · intro y0 y1 y2 y3 y4 y5
      unfold portmanteauref10_Check.l1
      repeat' first
      | (with_reducible exact ih0 _ _)
      | (with_reducible exact ih1 _ _ _)
      | (with_reducible exact ih2 _ _ _ _)
      | (with_reducible exact ih3 _ _ _ _ _ _)
      | (with_reducible exact ih4 _ _ _ _ _ _)
      | (with_reducible exact portmanteauref10_Parts.mono _ _)
      | (with_reducible exact portmanteauref10_Strays.mono _ _)
      | (with_reducible exact LeO.refl _)
      | (with_reducible exact LeO.none _)
      | (with_reducible refine LeO.ite ?_ ?_)
      | (with_reducible refine LeO.bind ?_ (fun _ => ?_))
      | exact ih0 _ _
      | exact ih1 _ _ _
      | exact ih2 _ _ _ _
      | exact ih3 _ _ _ _ _ _
      | exact ih4 _ _ _ _ _ _
      | exact portmanteauref10_Parts.mono _ _
      | exact portmanteauref10_Strays.mono _ _
      | exact LeO.none _
      | refine LeO.ite ?_ ?_
      | refine LeO.bind ?_ (fun _ => ?_)
    · intro y0 y1 y2 y3 y4 y5
      unfold portmanteauref10_Check.l2
      repeat' first
      | (with_reducible exact ih0 _ _)
      | (with_reducible exact ih1 _ _ _)
      | (with_reducible exact ih2 _ _ _ _)
      | (with_reducible exact ih3 _ _ _ _ _ _)
      | (with_reducible exact ih4 _ _ _ _ _ _)
      | (with_reducible exact portmanteauref10_Parts.mono _ _)
      | (with_reducible exact portmanteauref10_Strays.mono _ _)
      | (with_reducible exact LeO.refl _)
      | (with_reducible exact LeO.none _)
      | (with_reducible refine LeO.ite ?_ ?_)
      | (with_reducible refine LeO.bind ?_ (fun _ => ?_))
      | exact ih0 _ _
      | exact ih1 _ _ _
      | exact ih2 _ _ _ _
      | exact ih3 _ _ _ _ _ _
      | exact ih4 _ _ _ _ _ _
      | exact portmanteauref10_Parts.mono _ _
      | exact portmanteauref10_Strays.mono _ _
      | exact LeO.none _
      | refine LeO.ite ?_ ?_
      | refine LeO.bind ?_ (fun _ => ?_)
theorem portmanteauref10_Check.mono : ∀ a0 k, LeO (portmanteauref10_Check.f k a0) (portmanteauref10_Check.f (k + 1) a0) := by
  intro a0 k
  obtain ⟨ih0, ih1, ih2, ih3, ih4⟩ := portmanteauref10_Check.mono_l k
  unfold portmanteauref10_Check.f
  repeat' first
      | (with_reducible exact ih0 _ _)
      | (with_reducible exact ih1 _ _ _)
      | (with_reducible exact ih2 _ _ _ _)
      | (with_reducible exact ih3 _ _ _ _ _ _)
      | (with_reducible exact ih4 _ _ _ _ _ _)
      | (with_reducible exact portmanteauref10_Parts.mono _ _)
      | (with_reducible exact portmanteauref10_Strays.mono _ _)
      | (with_reducible exact LeO.refl _)
      | (with_reducible exact LeO.none _)
      | (with_reducible refine LeO.ite ?_ ?_)
      | (with_reducible refine LeO.bind ?_ (fun _ => ?_))
      | exact ih0 _ _
      | exact ih1 _ _ _
      | exact ih2 _ _ _ _
      | exact ih3 _ _ _ _ _ _
      | exact ih4 _ _ _ _ _ _
      | exact portmanteauref10_Parts.mono _ _
      | exact portmanteauref10_Strays.mono _ _
      | exact LeO.none _
      | refine LeO.ite ?_ ?_
      | refine LeO.bind ?_ (fun _ => ?_)
end Go.Proofs.YtpjjooiamdfmfaaGreatDoor.PNm
