import Derived.Test.YtpjjooiamdfmfaaGreatDoorPN
import Derived.Test.YtpjjooiamdfmfaaGreatDoorPNmx15
-- PRINTED BY print.sh 35421559b90ae4d0a3588c463048766b98c2df88dd9212a6774a882060cdf62d: not written by this session
namespace Go.Proofs.YtpjjooiamdfmfaaGreatDoor.PNm
open Go.RowKit Go.Proofs.YtpjjooiamdfmfaaGreatDoorW.PrintWords Go.Proofs.YtpjjooiamdfmfaaGreatDoorW.PrintLast Go.Proofs.YtpjjooiamdfmfaaGreatDoorW.PrintMore
attribute [local go_sem] max2_int min2_int max_two min_two max_three min_three max_four min_four   -- for this text's walks alone
set_option linter.unusedVariables false
set_option linter.unusedSimpArgs false

/-! ### portmanteauref10_Check: function 74 -/
mutual
def portmanteauref10_Check.j0 : Nat → ByteArray → Bool → Option (ByteArray × Bool × Int)
  | 0, _, _ => none
  | k + 1, x0, x22 => if x22 = true then (some ((⟨#[]⟩ : ByteArray), false, 20)) else (if 0 ≤ (wrap64 ((x0.size : Int) - 1)) then (if (wrap64 ((x0.size : Int) - 1)) < (x0.size : Int) then (if (bt x0 (wrap64 ((x0.size : Int) - 1))) = 47 then (if (wrap64 ((x0.size : Int) - 1)) ≤ (x0.size : Int) then (portmanteauref10_Check.j1 k x0 (x0.extract 0 ((wrap64 ((x0.size : Int) - 1)) : Int).toNat) true) else (none)) else (portmanteauref10_Check.j1 k x0 x0 false)) else (none)) else (none))
def portmanteauref10_Check.j1 : Nat → ByteArray → ByteArray → Bool → Option (ByteArray × Bool × Int)
  | 0, _, _, _ => none
  | k + 1, x0, x5, x6 => portmanteauref10_Check.l0 k x0 x5 x6 0
def portmanteauref10_Check.l0 : Nat → ByteArray → ByteArray → Bool → Int → Option (ByteArray × Bool × Int)
  | 0, _, _, _, _ => none
  | k + 1, x0, x5, x6, x7 => if x7 < (x0.size : Int) then (if 0 ≤ x7 then (if (bt x0 x7) = 0 then (some ((⟨#[]⟩ : ByteArray), false, 21)) else (if (bt x0 x7) = 92 then (some ((⟨#[]⟩ : ByteArray), false, 21)) else (portmanteauref10_Check.l0 k x0 x5 x6 (wrap64 (x7 + 1))))) else (none)) else ((portmanteauref10_Parts.f k x5).bind fun t130 => (if (t130.length : Int) = 0 then (some ((⟨#[]⟩ : ByteArray), false, 21)) else (portmanteauref10_Check.l1 k x5 x6 t130 t130 (t130.length : Int) 0)))
def portmanteauref10_Check.l1 : Nat → ByteArray → Bool → List ByteArray → List ByteArray → Int → Int → Option (ByteArray × Bool × Int)
  | 0, _, _, _, _, _, _ => none
  | k + 1, x5, x6, x8, x56, x57, x58 => if x58 < x57 then (if 0 ≤ x58 then (if x58 < (x56.length : Int) then (if (rdOf ByteArray.empty x56 x58).toList = ([] : List UInt8) then (some ((⟨#[]⟩ : ByteArray), false, 21)) else (if (rdOf ByteArray.empty x56 x58).toList = ([46] : List UInt8) then (some ((⟨#[]⟩ : ByteArray), false, 21)) else (if (rdOf ByteArray.empty x56 x58).toList = ([46, 46] : List UInt8) then (some ((⟨#[]⟩ : ByteArray), false, 21)) else (portmanteauref10_Check.l1 k x5 x6 x8 x56 x57 (wrap64 (x58 + 1)))))) else (none)) else (none)) else (portmanteauref10_Check.l2 k x5 x6 x8 x8 (x8.length : Int) 0)
def portmanteauref10_Check.l2 : Nat → ByteArray → Bool → List ByteArray → List ByteArray → Int → Int → Option (ByteArray × Bool × Int)
  | 0, _, _, _, _, _, _ => none
  | k + 1, x5, x6, x8, x73, x74, x75 => if x75 < x74 then (if 0 ≤ x75 then (if x75 < (x73.length : Int) then (if ((rdOf ByteArray.empty x73 x75).size : Int) > 255 then (some ((⟨#[]⟩ : ByteArray), false, 5)) else (if (x8.length : Int) > 32 then (some ((⟨#[]⟩ : ByteArray), false, 5)) else (portmanteauref10_Check.l2 k x5 x6 x8 x73 x74 (wrap64 (x75 + 1))))) else (none)) else (none)) else (some (x5, x6, 0))
end
def portmanteauref10_Check.f (k : Nat) (a0 : ByteArray) : Option (ByteArray × Bool × Int) := if (a0.size : Int) > 65535 then (some ((⟨#[]⟩ : ByteArray), false, 5)) else (if (a0.size : Int) = 0 then (portmanteauref10_Check.j0 k a0 true) else ((portmanteauref10_Strays.f k a0).bind fun t129 => (portmanteauref10_Check.j0 k a0 t129)))
theorem portmanteauref10_Check.mono_l : ∀ k, (∀ y0 y1, LeO (portmanteauref10_Check.j0 k y0 y1) (portmanteauref10_Check.j0 (k + 1) y0 y1)) ∧ (∀ y0 y1 y2, LeO (portmanteauref10_Check.j1 k y0 y1 y2) (portmanteauref10_Check.j1 (k + 1) y0 y1 y2)) ∧ (∀ y0 y1 y2 y3, LeO (portmanteauref10_Check.l0 k y0 y1 y2 y3) (portmanteauref10_Check.l0 (k + 1) y0 y1 y2 y3)) ∧ (∀ y0 y1 y2 y3 y4 y5, LeO (portmanteauref10_Check.l1 k y0 y1 y2 y3 y4 y5) (portmanteauref10_Check.l1 (k + 1) y0 y1 y2 y3 y4 y5)) ∧ (∀ y0 y1 y2 y3 y4 y5, LeO (portmanteauref10_Check.l2 k y0 y1 y2 y3 y4 y5) (portmanteauref10_Check.l2 (k + 1) y0 y1 y2 y3 y4 y5))
  | 0 => ⟨fun _ _ r h => by simp [portmanteauref10_Check.j0] at h, fun _ _ _ r h => by simp [portmanteauref10_Check.j1] at h, fun _ _ _ _ r h => by simp [portmanteauref10_Check.l0] at h, fun _ _ _ _ _ _ r h => by simp [portmanteauref10_Check.l1] at h, fun _ _ _ _ _ _ r h => by simp [portmanteauref10_Check.l2] at h⟩
  | k + 1 => by
    obtain ⟨ih0, ih1, ih2, ih3, ih4⟩ := portmanteauref10_Check.mono_l k
    refine ⟨?_, ?_, ?_, ?_, ?_⟩
    · intro y0 y1
      unfold portmanteauref10_Check.j0
      repeat' first
      | (with_reducible exact ih0 _ _)
      | (with_reducible exact ih1 _ _ _)
      | (with_reducible exact ih2 _ _ _ _)
      | (with_reducible exact ih3 _ _ _ _ _ _)
      | (with_reducible exact ih4 _ _ _ _ _ _)
      | (with_reducible exact portmanteauref10_Parts.mono _ _)
      | (with_reducible exact portmanteauref10_Strays.mono _ _)
      | (with_reducible exact LeO.refl _)
      | (with_reducible exact LeO.none _)
      | (with_reducible refine LeO.ite ?_ ?_)
      | (with_reducible refine LeO.bind ?_ (fun _ => ?_))
      | exact ih0 _ _
      | exact ih1 _ _ _
      | exact ih2 _ _ _ _
      | exact ih3 _ _ _ _ _ _
      | exact ih4 _ _ _ _ _ _
      | exact portmanteauref10_Parts.mono _ _
      | exact portmanteauref10_Strays.mono _ _
      | exact LeO.none _
      | refine LeO.ite ?_ ?_
      | refine LeO.bind ?_ (fun _ => ?_)
    · intro y0 y1 y2
      unfold portmanteauref10_Check.j1
      repeat' first
      | (with_reducible exact ih0 _ _)
      | (with_reducible exact ih1 _ _ _)
      | (with_reducible exact ih2 _ _ _ _)
      | (with_reducible exact ih3 _ _ _ _ _ _)
      | (with_reducible exact ih4 _ _ _ _ _ _)
      | (with_reducible exact portmanteauref10_Parts.mono _ _)
      | (with_reducible exact portmanteauref10_Strays.mono _ _)
      | (with_reducible exact LeO.refl _)
      | (with_reducible exact LeO.none _)
      | (with_reducible refine LeO.ite ?_ ?_)
      | (with_reducible refine LeO.bind ?_ (fun _ => ?_))
      | exact ih0 _ _
      | exact ih1 _ _ _
      | exact ih2 _ _ _ _
      | exact ih3 _ _ _ _ _ _
      | exact ih4 _ _ _ _ _ _
      | exact portmanteauref10_Parts.mono _ _
      | exact portmanteauref10_Strays.mono _ _
      | exact LeO.none _
      | refine LeO.ite ?_ ?_
      | refine LeO.bind ?_ (fun _ => ?_)
    · intro y0 y1 y2 y3
      unfold portmanteauref10_Check.l0
      repeat' first
      | (with_reducible exact ih0 _ _)
      | (with_reducible exact ih1 _ _ _)
      | (with_reducible exact ih2 _ _ _ _)
      | (with_reducible exact ih3 _ _ _ _ _ _)
      | (with_reducible exact ih4 _ _ _ _ _ _)
      | (with_reducible exact portmanteauref10_Parts.mono _ _)
      | (with_reducible exact portmanteauref10_Strays.mono _ _)
      | (with_reducible exact LeO.refl _)
      | (with_reducible exact LeO.none _)
      | (with_reducible refine LeO.ite ?_ ?_)
      | (with_reducible refine LeO.bind ?_ (fun _ => ?_))
      | exact ih0 _ _
      | exact ih1 _ _ _
      | exact ih2 _ _ _ _
      | exact ih3 _ _ _ _ _ _
      | exact ih4 _ _ _ _ _ _
      | exact portmanteauref10_Parts.mono _ _
      | exact portmanteauref10_Strays.mono _ _
      | exact LeO.none _
      | refine LeO.ite ?_ ?_
      | refine LeO.bind ?_ (fun _ => ?_)
    · intro y0 y1 y2 y3 y4 y5
      unfold portmanteauref10_Check.l1
      repeat' first
      | (with_reducible exact ih0 _ _)
      | (with_reducible exact ih1 _ _ _)
      | (with_reducible exact ih2 _ _ _ _)
      | (with_reducible exact ih3 _ _ _ _ _ _)
      | (with_reducible exact ih4 _ _ _ _ _ _)
      | (with_reducible exact portmanteauref10_Parts.mono _ _)
      | (with_reducible exact portmanteauref10_Strays.mono _ _)
      | (with_reducible exact LeO.refl _)
      | (with_reducible exact LeO.none _)
      | (with_reducible refine LeO.ite ?_ ?_)
      | (with_reducible refine LeO.bind ?_ (fun _ => ?_))
      | exact ih0 _ _
      | exact ih1 _ _ _
      | exact ih2 _ _ _ _
      | exact ih3 _ _ _ _ _ _
      | exact ih4 _ _ _ _ _ _
      | exact portmanteauref10_Parts.mono _ _
      | exact portmanteauref10_Strays.mono _ _
      | exact LeO.none _
      | refine LeO.ite ?_ ?_
      | refine LeO.bind ?_ (fun _ => ?_)
    · intro y0 y1 y2 y3 y4 y5
      unfold portmanteauref10_Check.l2
      repeat' first
      | (with_reducible exact ih0 _ _)
      | (with_reducible exact ih1 _ _ _)
      | (with_reducible exact ih2 _ _ _ _)
      | (with_reducible exact ih3 _ _ _ _ _ _)
      | (with_reducible exact ih4 _ _ _ _ _ _)
      | (with_reducible exact portmanteauref10_Parts.mono _ _)
      | (with_reducible exact portmanteauref10_Strays.mono _ _)
      | (with_reducible exact LeO.refl _)
      | (with_reducible exact LeO.none _)
      | (with_reducible refine LeO.ite ?_ ?_)
      | (with_reducible refine LeO.bind ?_ (fun _ => ?_))
      | exact ih0 _ _
      | exact ih1 _ _ _
      | exact ih2 _ _ _ _
      | exact ih3 _ _ _ _ _ _
      | exact ih4 _ _ _ _ _ _
      | exact portmanteauref10_Parts.mono _ _
      | exact portmanteauref10_Strays.mono _ _
      | exact LeO.none _
      | refine LeO.ite ?_ ?_
      | refine LeO.bind ?_ (fun _ => ?_)
theorem portmanteauref10_Check.mono : ∀ a0 k, LeO (portmanteauref10_Check.f k a0) (portmanteauref10_Check.f (k + 1) a0) := by
  intro a0 k
  obtain ⟨ih0, ih1, ih2, ih3, ih4⟩ := portmanteauref10_Check.mono_l k
  unfold portmanteauref10_Check.f
  repeat' first
      | (with_reducible exact ih0 _ _)
      | (with_reducible exact ih1 _ _ _)
      | (with_reducible exact ih2 _ _ _ _)
      | (with_reducible exact ih3 _ _ _ _ _ _)
      | (with_reducible exact ih4 _ _ _ _ _ _)
      | (with_reducible exact portmanteauref10_Parts.mono _ _)
      | (with_reducible exact portmanteauref10_Strays.mono _ _)
      | (with_reducible exact LeO.refl _)
      | (with_reducible exact LeO.none _)
      | (with_reducible refine LeO.ite ?_ ?_)
      | (with_reducible refine LeO.bind ?_ (fun _ => ?_))
      | exact ih0 _ _
      | exact ih1 _ _ _
      | exact ih2 _ _ _ _
      | exact ih3 _ _ _ _ _ _
      | exact ih4 _ _ _ _ _ _
      | exact portmanteauref10_Parts.mono _ _
      | exact portmanteauref10_Strays.mono _ _
      | exact LeO.none _
      | refine LeO.ite ?_ ?_
      | refine LeO.bind ?_ (fun _ => ?_)
set_option maxHeartbeats 8000000 in
set_option maxRecDepth 100000 in
theorem portmanteauref10_Check.calls (k : Nat) (a0 : ByteArray) (r1 : ByteArray) (r2 : Bool) (r3 : Int) (w : World) (h : portmanteauref10_Check.f k a0 = some (r1, r2, r3)) :
    Calls Tryz.prog 74 #[.string a0] w fun e w' => e = .returned (.tuple #[.string r1, .bool r2, .int .i64 r3]) ∧ Below w.heap.size w w' := by
  have HB := Aside0.mk (Below.refl w.heap.size w)
  have H : (if (a0.size : Int) > 65535 then (some ((⟨#[]⟩ : ByteArray), false, 5)) else (if (a0.size : Int) = 0 then (portmanteauref10_Check.j0 k a0 true) else ((portmanteauref10_Strays.f k a0).bind fun t129 => (portmanteauref10_Check.j0 k a0 t129)))) = some (r1, r2, r3) := h
  clear h
  by_cases c2 : (a0.size : Int) > 65535
  · rw [if_pos c2] at H
    have c2b0 : decide (65535 < (a0.size : Int)) = true := decide_eq_true c2
    have c2b1 : decide (65535 < a0.size) = true := decide_eq_true (by omega)
    clear c2
    simp only [Option.some.injEq, Prod.mk.injEq] at H
    obtain ⟨rfl, rfl, rfl⟩ := H
    go_enter Tryz.func74, Tryz.ntmps74
    go_wp2
    go_ret3
    exact ⟨by first | rfl | (simp [errW_none, errW_some] <;> rfl) | (simp [*, errW_none, errW_some] <;> rfl), by repeat (first | (with_reducible first | exact HB.out | apply below_alloc | apply pw_below_drewN | apply below_drew1) | exact HB.out)⟩
  · rw [if_neg c2] at H
    have c2b0 : decide (65535 < (a0.size : Int)) = false := decide_eq_false c2
    have c2b1 : decide (65535 < a0.size) = false := decide_eq_false (by omega)
    clear c2
    have HC3 := Aside0.mk H
    clear H
    go_enter Tryz.func74, Tryz.ntmps74
    go_upto_region 3 with (fail)
    go_cut [22] (fun v22 wc => ∃ (kq : Nat) (x22_2 : Bool), v22 = .bool x22_2 ∧ Aside0 (portmanteauref10_Check.j0 kq a0 x22_2 = some (r1, r2, r3)) ∧ Aside0 (kq ≤ k) ∧ Aside0 (Below w.heap.size w wc))
    case first =>
      have H := HC3.out
      clear HC3
      by_cases c4 : (a0.size : Int) = 0
      · rw [if_pos c4] at H
        have c4b0 : ((a0.size : Int) == 0) = true := beq_iff_eq.mpr c4
        have c4b1 : ((a0.size : Int) != 0) = false := bne_eq_false_iff_eq.mpr c4
        clear c4
        (first | rw [c4b0] | (simp only [i64_w, i32_w]; rw [c4b0]) | skip)
        have H' := Aside0.mk H
        clear H
        go_wp2
        go_meet
        case rel => exact ⟨_, (true), (by first | rfl | (simp; done) | (simp [*]; done)), H', ⟨by first | omega | exact Nat.le_refl _⟩, ⟨by repeat (first | (with_reducible first | exact HB.out | apply below_alloc | apply pw_below_drewN | apply below_drew1) | exact HB.out)⟩⟩
      · rw [if_neg c4] at H
        have c4b0 : ((a0.size : Int) == 0) = false := beq_eq_false_iff_ne.mpr c4
        have c4b1 : ((a0.size : Int) != 0) = true := bne_iff_ne.mpr c4
        (first | rw [c4b0] | (simp only [i64_w, i32_w]; rw [c4b0]) | skip)
        replace H := Option.bind_eq_some_iff.mp H
        obtain ⟨t129, A50, H⟩ := H
        replace H : (portmanteauref10_Check.j0 k a0 t129) = some (r1, r2, r3) := H
        have A5 := Aside0.mk A50
        clear A50
        have H' := Aside0.mk H
        clear H
        go_wp2_with (first | (go_at_call 124; (with_reducible refine (portmanteauref10_Strays.calls k a0 t129 _ A5.out).mono ?_); rintro e w' ⟨rfl, ⟨nd, rfl⟩⟩))
        go_meet
        case rel => exact ⟨_, (t129), (by first | rfl | (simp; done) | (simp [*]; done)), H', ⟨by first | omega | exact Nat.le_refl _⟩, ⟨by repeat (first | (with_reducible first | exact HB.out | apply below_alloc | apply pw_below_drewN | apply below_drew1) | exact HB.out)⟩⟩
    case rest =>
      clear HC3
      try clear c2
      try clear c2b0
      try clear c2b1
      try clear p2
      try clear c4
      try clear c4b0
      try clear c4b1
      obtain ⟨kq, x22_2, rfl, HA, HJ2, HB⟩ := hcut
      cases kq with
      | zero => exact absurd HA.out (by simp [portmanteauref10_Check.j0])
      | succ kj2 =>
        have H := HA.out
        clear HA
        simp only [portmanteauref10_Check.j0] at H
        by_cases c6 : x22_2 = true
        · subst c6
          have H1 : (some ((⟨#[]⟩ : ByteArray), false, 20)) = some (r1, r2, r3) := by rw [if_pos rfl] at H; exact H
          clear H
          have H := H1
          clear H1
          simp only [Option.some.injEq, Prod.mk.injEq] at H
          obtain ⟨rfl, rfl, rfl⟩ := H
          go_wp2
          go_ret3
          exact ⟨by first | rfl | (simp [errW_none, errW_some] <;> rfl) | (simp [*, errW_none, errW_some] <;> rfl), by repeat (first | (with_reducible first | exact HB.out | apply below_alloc | apply pw_below_drewN | apply below_drew1) | exact HB.out)⟩
        · replace c6 := Bool.eq_false_iff.mpr c6
          subst c6
          have H1 : (if 0 ≤ (wrap64 ((a0.size : Int) - 1)) then (if (wrap64 ((a0.size : Int) - 1)) < (a0.size : Int) then (if (bt a0 (wrap64 ((a0.size : Int) - 1))) = 47 then (if (wrap64 ((a0.size : Int) - 1)) ≤ (a0.size : Int) then (portmanteauref10_Check.j1 kj2 a0 (a0.extract 0 ((wrap64 ((a0.size : Int) - 1)) : Int).toNat) true) else (none)) else (portmanteauref10_Check.j1 kj2 a0 a0 false)) else (none)) else (none)) = some (r1, r2, r3) := by rw [if_neg (show ¬ (false = true) by decide)] at H; exact H
          clear H
          have H := H1
          clear H1
          obtain ⟨ji7, hji7⟩ : ∃ j_ : Int, (wrap64 ((a0.size : Int) - 1)) = j_ := ⟨_, rfl⟩
          replace H : (if 0 ≤ (ji7) then (if (ji7) < (a0.size : Int) then (if (bt a0 (ji7)) = 47 then (if (ji7) ≤ (a0.size : Int) then (portmanteauref10_Check.j1 kj2 a0 (a0.extract 0 ((ji7) : Int).toNat) true) else (none)) else (portmanteauref10_Check.j1 kj2 a0 a0 false)) else (none)) else (none)) = some (r1, r2, r3) := by first | (rw [hji7] at H; exact H) | (simp only [hji7] at H ⊢; exact H)
          have hji7w : (IntKind.i64.wrap ((a0.size : Int) - 1)) = ji7 := (i64_w _).trans hji7
          by_cases c8 : 0 ≤ (ji7)
          · rw [if_pos c8] at H
            have c8b0 : decide (0 ≤ (ji7)) = true := decide_eq_true c8
            clear c8
            by_cases c9 : (ji7) < (a0.size : Int)
            · rw [if_pos c9] at H
              have c9b0 : decide ((ji7) < (a0.size : Int)) = true := decide_eq_true c9
              clear c9
              have HC11 := Aside0.mk H
              clear H
              have p10 : 0 ≤ ((ji7) : Int) := of_decide_eq_true (by first | (with_reducible assumption) | assumption)
              have q10 : (ji7) < (a0.size : Int) := of_decide_eq_true (by first | (with_reducible assumption) | assumption)
              have hx10 := bt_at a0 (ji7)
              replace p10 := eq_true p10
              replace q10 := eq_true q10
              go_upto_if 29 with (fail)
              go_cut [5, 6] (fun v5 v6 wc => ∃ (kq : Nat) (x5_10 : ByteArray) (x6_10 : Bool), v5 = .string x5_10 ∧ v6 = .bool x6_10 ∧ Aside0 (portmanteauref10_Check.j1 kq a0 x5_10 x6_10 = some (r1, r2, r3)) ∧ Aside0 (kq ≤ kj2) ∧ Aside0 (Below w.heap.size w wc))
              case first =>
                have H := HC11.out
                clear HC11
                by_cases c12 : (bt a0 (ji7)) = 47
                · rw [if_pos c12] at H
                  have c12b0 : ((bt a0 (ji7)) == 47) = true := beq_iff_eq.mpr c12
                  have c12b1 : ((bt a0 (ji7)) != 47) = false := bne_eq_false_iff_eq.mpr c12
                  clear c12
                  (first | rw [c12b0] | (simp only [i64_w, i32_w]; rw [c12b0]) | skip)
                  have c13b0 := eq_true (of_decide_eq_true (by first | (with_reducible assumption) | assumption) : 0 ≤ (ji7))
                  by_cases c14 : (ji7) ≤ (a0.size : Int)
                  · rw [if_pos c14] at H
                    have c14b0 := eq_true c14
                    have c14b1 : decide ((ji7) ≤ (a0.size : Int)) = true := decide_eq_true c14
                    clear c14
                    have H' := Aside0.mk H
                    clear H
                    go_wp2
                    go_meet
                    case rel => exact ⟨_, (a0.extract 0 ((ji7) : Int).toNat), (true), (by first | rfl | (simp; done) | (simp only [← hji7] <;> (first | rfl | simp)) | (simp [*]; done)), (by first | rfl | (simp; done) | (simp [*]; done)), H', ⟨by have := HJ2.out; first | omega | exact Nat.le_refl _⟩, ⟨by repeat (first | (with_reducible first | exact HB.out | apply below_alloc | apply pw_below_drewN | apply below_drew1) | exact HB.out)⟩⟩
                  · rw [if_neg c14] at H
                    exact absurd H (by simp)
                · rw [if_neg c12] at H
                  have c12b0 : ((bt a0 (ji7)) == 47) = false := beq_eq_false_iff_ne.mpr c12
                  have c12b1 : ((bt a0 (ji7)) != 47) = true := bne_iff_ne.mpr c12
                  (first | rw [c12b0] | (simp only [i64_w, i32_w]; rw [c12b0]) | skip)
                  have H' := Aside0.mk H
                  clear H
                  go_wp2
                  go_meet
                  case rel => exact ⟨_, (a0), (false), (by first | rfl | (simp; done) | (simp [*]; done)), (by first | rfl | (simp; done) | (simp [*]; done)), H', ⟨by have := HJ2.out; first | omega | exact Nat.le_refl _⟩, ⟨by repeat (first | (with_reducible first | exact HB.out | apply below_alloc | apply pw_below_drewN | apply below_drew1) | exact HB.out)⟩⟩
              case rest =>
                clear HC11
                try clear c1
                try clear p1
                try clear q1
                try clear hx1
                try clear c2
                try clear c2b0
                try clear c2b1
                try clear p2
                try clear c4
                try clear c4b0
                try clear c4b1
                try clear c6
                try clear p6
                try clear c7
                try clear c8
                try clear c8b0
                try clear c9
                try clear c9b0
                try clear p10
                try clear q10
                try clear hx10
                try clear c12
                try clear c12b0
                try clear c12b1
                try clear c13
                try clear c13b0
                try clear c14
                try clear c14b0
                try clear c14b1
                try clear p10
                try clear p2
                try clear q10
                obtain ⟨kq, x5_10, x6_10, rfl, rfl, HA, HJ10, HB⟩ := hcut
                cases kq with
                | zero => exact absurd HA.out (by simp [portmanteauref10_Check.j1])
                | succ kj10 =>
                  have H := HA.out
                  clear HA
                  simp only [portmanteauref10_Check.j1] at H
                  have H' := Aside0.mk H
                  clear H
                  go_wp2
                  go_loopg [7] kj10 (fun kq v7 w' => ∃ (x7_3 : Int), v7 = .int .i64 x7_3 ∧ Aside0 (portmanteauref10_Check.l0 kq a0 x5_10 x6_10 x7_3 = some (r1, r2, r3)) ∧ Aside0 (kq ≤ kj10) ∧ Aside0 (Below w.heap.size w w'))
                  case atStart => exact ⟨(0), (by first | rfl | (simp; done) | (simp [*]; done)), H', ⟨Nat.le_refl _⟩, ⟨by repeat (first | (with_reducible first | exact HB.out | apply below_alloc | apply pw_below_drewN | apply below_drew1) | exact HB.out)⟩⟩
                  case round =>
                    clear H'
                    try clear c1
                    try clear p1
                    try clear q1
                    try clear hx1
                    try clear c2
                    try clear c2b0
                    try clear c2b1
                    try clear p2
                    try clear c4
                    try clear c4b0
                    try clear c4b1
                    try clear c6
                    try clear p6
                    try clear c7
                    try clear c8
                    try clear c8b0
                    try clear c9
                    try clear c9b0
                    try clear p10
                    try clear q10
                    try clear hx10
                    try clear c12
                    try clear c12b0
                    try clear c12b1
                    try clear c13
                    try clear c13b0
                    try clear c14
                    try clear c14b0
                    try clear c14b1
                    try clear p1
                    try clear p10
                    try clear p2
                    try clear p6
                    try clear q1
                    try clear q10
                    obtain ⟨x7_3, rfl, HA, HK3, HB⟩ := hrel
                    cases gk with
                    | zero => exact absurd HA.out (by simp [portmanteauref10_Check.l0])
                    | succ k3 =>
                      have H := HA.out
                      clear HA
                      simp only [portmanteauref10_Check.l0] at H
                      by_cases c15 : x7_3 < (a0.size : Int)
                      · rw [if_pos c15] at H
                        have c15b0 : decide (x7_3 < (a0.size : Int)) = true := decide_eq_true c15
                        clear c15
                        by_cases c16 : 0 ≤ x7_3
                        · rw [if_pos c16] at H
                          have c16b0 : decide (0 ≤ x7_3) = true := decide_eq_true c16
                          clear c16
                          by_cases c18 : (bt a0 x7_3) = 0
                          · rw [if_pos c18] at H
                            have c18b0 : ((bt a0 x7_3) == 0) = true := beq_iff_eq.mpr c18
                            have c18b1 : ((bt a0 x7_3) != 0) = false := bne_eq_false_iff_eq.mpr c18
                            clear c18
                            simp only [Option.some.injEq, Prod.mk.injEq] at H
                            obtain ⟨rfl, rfl, rfl⟩ := H
                            have p17 : 0 ≤ (x7_3 : Int) := of_decide_eq_true (by first | (with_reducible assumption) | assumption)
                            have q17 : x7_3 < (a0.size : Int) := of_decide_eq_true (by first | (with_reducible assumption) | assumption)
                            have hx17 := bt_at a0 x7_3
                            replace p17 := eq_true p17
                            replace q17 := eq_true q17
                            go_wp2
                            go_ret3
                            exact ⟨by first | rfl | (simp [errW_none, errW_some] <;> rfl) | (simp only [← hji7]; first | rfl | (simp [errW_none, errW_some] <;> rfl)) | (simp [*, errW_none, errW_some] <;> rfl), by repeat (first | (with_reducible first | exact HB.out | apply below_alloc | apply pw_below_drewN | apply below_drew1) | exact HB.out)⟩
                          · rw [if_neg c18] at H
                            have c18b0 : ((bt a0 x7_3) == 0) = false := beq_eq_false_iff_ne.mpr c18
                            have c18b1 : ((bt a0 x7_3) != 0) = true := bne_iff_ne.mpr c18
                            by_cases c20 : (bt a0 x7_3) = 92
                            · rw [if_pos c20] at H
                              have c20b0 : ((bt a0 x7_3) == 92) = true := beq_iff_eq.mpr c20
                              have c20b1 : ((bt a0 x7_3) != 92) = false := bne_eq_false_iff_eq.mpr c20
                              clear c20
                              simp only [Option.some.injEq, Prod.mk.injEq] at H
                              obtain ⟨rfl, rfl, rfl⟩ := H
                              have p17 : 0 ≤ (x7_3 : Int) := of_decide_eq_true (by first | (with_reducible assumption) | assumption)
                              have q17 : x7_3 < (a0.size : Int) := of_decide_eq_true (by first | (with_reducible assumption) | assumption)
                              have hx17 := bt_at a0 x7_3
                              replace p17 := eq_true p17
                              replace q17 := eq_true q17
                              have p19 : 0 ≤ (x7_3 : Int) := of_decide_eq_true (by first | (with_reducible assumption) | assumption)
                              have q19 : x7_3 < (a0.size : Int) := of_decide_eq_true (by first | (with_reducible assumption) | assumption)
                              have hx19 := bt_at a0 x7_3
                              replace p19 := eq_true p19
                              replace q19 := eq_true q19
                              go_wp2
                              go_ret3
                              exact ⟨by first | rfl | (simp [errW_none, errW_some] <;> rfl) | (simp only [← hji7]; first | rfl | (simp [errW_none, errW_some] <;> rfl)) | (simp [*, errW_none, errW_some] <;> rfl), by repeat (first | (with_reducible first | exact HB.out | apply below_alloc | apply pw_below_drewN | apply below_drew1) | exact HB.out)⟩
                            · rw [if_neg c20] at H
                              have c20b0 : ((bt a0 x7_3) == 92) = false := beq_eq_false_iff_ne.mpr c20
                              have c20b1 : ((bt a0 x7_3) != 92) = true := bne_iff_ne.mpr c20
                              have H' := Aside0.mk H
                              clear H
                              have p17 : 0 ≤ (x7_3 : Int) := of_decide_eq_true (by first | (with_reducible assumption) | assumption)
                              have q17 : x7_3 < (a0.size : Int) := of_decide_eq_true (by first | (with_reducible assumption) | assumption)
                              have hx17 := bt_at a0 x7_3
                              replace p17 := eq_true p17
                              replace q17 := eq_true q17
                              have p19 : 0 ≤ (x7_3 : Int) := of_decide_eq_true (by first | (with_reducible assumption) | assumption)
                              have q19 : x7_3 < (a0.size : Int) := of_decide_eq_true (by first | (with_reducible assumption) | assumption)
                              have hx19 := bt_at a0 x7_3
                              replace p19 := eq_true p19
                              replace q19 := eq_true q19
                              go_wp2
                              go_roundg k3
                              case measure => have := HJ2.out; have := HJ10.out; have := HK3.out; omega
                              case rel => exact ⟨(wrap64 (x7_3 + 1)), (by first | rfl | (simp; done) | (simp [*]; done)), H', ⟨by have := HJ2.out; have := HJ10.out; have := HK3.out; omega⟩, ⟨by repeat (first | (with_reducible first | exact HB.out | apply below_alloc | apply pw_below_drewN | apply below_drew1) | exact HB.out)⟩⟩
                        · rw [if_neg c16] at H
                          exact absurd H (by simp)
                      · rw [if_neg c15] at H
                        have c15b0 : decide (x7_3 < (a0.size : Int)) = false := decide_eq_false c15
                        clear c15
                        replace H := Option.bind_eq_some_iff.mp H
                        obtain ⟨t130, A210, H⟩ := H
                        replace H : (if (t130.length : Int) = 0 then (some ((⟨#[]⟩ : ByteArray), false, 21)) else (portmanteauref10_Check.l1 k3 x5_10 x6_10 t130 t130 (t130.length : Int) 0)) = some (r1, r2, r3) := H
                        have A21 := Aside0.mk A210
                        clear A210
                        by_cases c22 : (t130.length : Int) = 0
                        · rw [if_pos c22] at H
                          have c22b0 : ((t130.length : Int) == 0) = true := beq_iff_eq.mpr c22
                          have c22b1 : ((t130.length : Int) != 0) = false := bne_eq_false_iff_eq.mpr c22
                          clear c22
                          simp only [Option.some.injEq, Prod.mk.injEq] at H
                          obtain ⟨rfl, rfl, rfl⟩ := H
                          go_wp2_with (first | ((with_reducible refine gate_callee (f := 94) rfl ?_); refine goesL_ (some 52) rfl rfl Tryz.func94 (by kernel_rfl) rfl #[.string x5_10] rfl (by (try simp only [List.map_toArray, List.map_cons, List.map_nil]); first | done | rfl | (simp only [List.length_drop, List.length_take]; rfl)) ?_; (with_reducible refine (portmanteauref10_Parts.calls k3 x5_10 t130 _ A21.out).mono ?_); rintro e w23 ⟨v131, rfl, ho0, hb⟩; refine ⟨_, rfl, ?_⟩; have n0_ := Aside0.mk (Kd.R_lower ho0 (below_size (by repeat (first | (with_reducible first | exact HB.out | apply below_alloc | apply pw_below_drewN | apply below_drew1) | exact HB.out)))); have n1_ := Aside0.mk (below_step (by repeat (first | (with_reducible first | exact HB.out | apply below_alloc | apply pw_below_drewN | apply below_drew1) | exact HB.out)) hb); clear HB; have HO132 := n0_; have HB := n1_; clear n0_ n1_; (try clear hb); (try clear hb2); (try clear hk); (try clear hi); (try clear ho0); obtain ⟨Ao24, co24, eo24⟩ := Kd.R_slice HO132.out; subst eo24))
                          go_ret3
                          exact ⟨by first | rfl | (simp [errW_none, errW_some] <;> rfl) | (simp only [← hji7]; first | rfl | (simp [errW_none, errW_some] <;> rfl)) | (simp [*, errW_none, errW_some] <;> rfl), by repeat (first | (with_reducible first | exact HB.out | apply below_alloc | apply pw_below_drewN | apply below_drew1) | exact HB.out)⟩
                        · rw [if_neg c22] at H
                          have c22b0 : ((t130.length : Int) == 0) = false := beq_eq_false_iff_ne.mpr c22
                          have c22b1 : ((t130.length : Int) != 0) = true := bne_iff_ne.mpr c22
                          have c22b2 : ¬ (t130 = []) := fun h_ => c22 (by rw [h_]; rfl)
                          have H' := Aside0.mk H
                          clear H
                          go_wp2_with (first | ((with_reducible refine gate_callee (f := 94) rfl ?_); refine goesL_ (some 52) rfl rfl Tryz.func94 (by kernel_rfl) rfl #[.string x5_10] rfl (by (try simp only [List.map_toArray, List.map_cons, List.map_nil]); first | done | rfl | (simp only [List.length_drop, List.length_take]; rfl)) ?_; (with_reducible refine (portmanteauref10_Parts.calls k3 x5_10 t130 _ A21.out).mono ?_); rintro e w25 ⟨v131, rfl, ho0, hb⟩; refine ⟨_, rfl, ?_⟩; have n0_ := Aside0.mk (Kd.R_lower ho0 (below_size (by repeat (first | (with_reducible first | exact HB.out | apply below_alloc | apply pw_below_drewN | apply below_drew1) | exact HB.out)))); have n1_ := Aside0.mk (below_step (by repeat (first | (with_reducible first | exact HB.out | apply below_alloc | apply pw_below_drewN | apply below_drew1) | exact HB.out)) hb); clear HB; have HO132 := n0_; have HB := n1_; clear n0_ n1_; (try clear hb); (try clear hb2); (try clear hk); (try clear hi); (try clear ho0); obtain ⟨Ao26, co26, eo26⟩ := Kd.R_slice HO132.out; subst eo26))
                          go_loopg [58] k3 (fun kq v58 w' => ∃ (x58_4 : Int), v58 = .int .i64 x58_4 ∧ Aside0 (portmanteauref10_Check.l1 kq x5_10 x6_10 t130 t130 (t130.length : Int) x58_4 = some (r1, r2, r3)) ∧ Aside0 (kq ≤ k3) ∧ Aside0 (Kd.R Kd.string 9 w' w.heap.size (fun _ => True) (.slice Ao26 t130.length co26) t130) ∧ Aside0 (Kd.R Kd.string 9 w' w.heap.size (fun _ => True) (.slice Ao26 t130.length co26) t130) ∧ Aside0 (Below w.heap.size w w'))
                          case atStart => exact ⟨(0), (by first | rfl | (simp; done) | (simp [*]; done)), H', ⟨Nat.le_refl _⟩, ⟨by (with_reducible repeat (first | apply Kd.R_alloc | apply Kd.R_drewN | apply Kd.R_drew)); exact HO132.out⟩, ⟨by (with_reducible repeat (first | apply Kd.R_alloc | apply Kd.R_drewN | apply Kd.R_drew)); exact HO132.out⟩, ⟨by repeat (first | (with_reducible first | exact HB.out | apply below_alloc | apply pw_below_drewN | apply below_drew1) | exact HB.out)⟩⟩
                          case round =>
                            clear H'
                            try clear c1
                            try clear p1
                            try clear q1
                            try clear hx1
                            try clear c2
                            try clear c2b0
                            try clear c2b1
                            try clear p2
                            try clear c4
                            try clear c4b0
                            try clear c4b1
                            try clear c6
                            try clear p6
                            try clear c7
                            try clear c8
                            try clear c8b0
                            try clear c9
                            try clear c9b0
                            try clear p10
                            try clear q10
                            try clear hx10
                            try clear c12
                            try clear c12b0
                            try clear c12b1
                            try clear c13
                            try clear c13b0
                            try clear c14
                            try clear c14b0
                            try clear c14b1
                            try clear c15
                            try clear c15b0
                            try clear c16
                            try clear c16b0
                            try clear p17
                            try clear q17
                            try clear hx17
                            try clear c18
                            try clear c18b0
                            try clear c18b1
                            try clear p19
                            try clear q19
                            try clear hx19
                            try clear c20
                            try clear c20b0
                            try clear c20b1
                            try clear c22
                            try clear c22b0
                            try clear c22b1
                            try clear c22b2
                            try clear p1
                            try clear p10
                            try clear p17
                            try clear p19
                            try clear p2
                            try clear p6
                            try clear q1
                            try clear q10
                            try clear q17
                            try clear q19
                            obtain ⟨x58_4, rfl, HA, HK4, HO_8, HO_56, HB⟩ := hrel
                            cases gk with
                            | zero => exact absurd HA.out (by simp [portmanteauref10_Check.l1])
                            | succ k4 =>
                              have H := HA.out
                              clear HA
                              simp only [portmanteauref10_Check.l1] at H
                              by_cases c27 : x58_4 < (t130.length : Int)
                              · rw [if_pos c27] at H
                                have c27b0 : decide (x58_4 < (t130.length : Int)) = true := decide_eq_true c27
                                clear c27
                                by_cases c28 : 0 ≤ x58_4
                                · rw [if_pos c28] at H
                                  have c28b0 : decide (0 ≤ x58_4) = true := decide_eq_true c28
                                  clear c28
                                  by_cases c29 : x58_4 < (t130.length : Int)
                                  · rw [if_pos c29] at H
                                    have c29b0 : decide (x58_4 < (t130.length : Int)) = true := decide_eq_true c29
                                    clear c29
                                    by_cases c30 : (rdOf ByteArray.empty t130 x58_4).toList = ([] : List UInt8)
                                    · rw [if_pos c30] at H
                                      have c30b0 : ((rdOf ByteArray.empty t130 x58_4).toList == ([] : List UInt8)) = true := beq_iff_eq.mpr c30
                                      have c30b1 : ((rdOf ByteArray.empty t130 x58_4).toList != ([] : List UInt8)) = false := bne_eq_false_iff_eq.mpr c30
                                      clear c30
                                      simp only [Option.some.injEq, Prod.mk.injEq] at H
                                      obtain ⟨rfl, rfl, rfl⟩ := H
                                      have p133 : 0 ≤ (x58_4 : Int) := of_decide_eq_true (by first | (with_reducible assumption) | assumption)
                                      have q133 : x58_4 < (t130.length : Int) := of_decide_eq_true (by first | (with_reducible assumption) | assumption)
                                      obtain ⟨ad133, e133, hx133_0⟩ := Kd.at_string (Kd.R_reads' HO_56.out).2.2 x58_4 p133 q133
                                      cases e133
                                      replace p133 := eq_true p133
                                      replace q133 := eq_true q133
                                      go_wp2
                                      go_ret3
                                      exact ⟨by first | rfl | (simp [errW_none, errW_some] <;> rfl) | (simp only [← hji7]; first | rfl | (simp [errW_none, errW_some] <;> rfl)) | (simp [*, errW_none, errW_some] <;> rfl), by repeat (first | (with_reducible first | exact HB.out | apply below_alloc | apply pw_below_drewN | apply below_drew1) | exact HB.out)⟩
                                    · rw [if_neg c30] at H
                                      have c30b0 : ((rdOf ByteArray.empty t130 x58_4).toList == ([] : List UInt8)) = false := beq_eq_false_iff_ne.mpr c30
                                      have c30b1 : ((rdOf ByteArray.empty t130 x58_4).toList != ([] : List UInt8)) = true := bne_iff_ne.mpr c30
                                      by_cases c31 : (rdOf ByteArray.empty t130 x58_4).toList = ([46] : List UInt8)
                                      · rw [if_pos c31] at H
                                        have c31b0 : ((rdOf ByteArray.empty t130 x58_4).toList == ([46] : List UInt8)) = true := beq_iff_eq.mpr c31
                                        have c31b1 : ((rdOf ByteArray.empty t130 x58_4).toList != ([46] : List UInt8)) = false := bne_eq_false_iff_eq.mpr c31
                                        clear c31
                                        simp only [Option.some.injEq, Prod.mk.injEq] at H
                                        obtain ⟨rfl, rfl, rfl⟩ := H
                                        have p133 : 0 ≤ (x58_4 : Int) := of_decide_eq_true (by first | (with_reducible assumption) | assumption)
                                        have q133 : x58_4 < (t130.length : Int) := of_decide_eq_true (by first | (with_reducible assumption) | assumption)
                                        obtain ⟨ad133, e133, hx133_0⟩ := Kd.at_string (Kd.R_reads' HO_56.out).2.2 x58_4 p133 q133
                                        cases e133
                                        replace p133 := eq_true p133
                                        replace q133 := eq_true q133
                                        go_wp2
                                        go_ret3
                                        exact ⟨by first | rfl | (simp [errW_none, errW_some] <;> rfl) | (simp only [← hji7]; first | rfl | (simp [errW_none, errW_some] <;> rfl)) | (simp [*, errW_none, errW_some] <;> rfl), by repeat (first | (with_reducible first | exact HB.out | apply below_alloc | apply pw_below_drewN | apply below_drew1) | exact HB.out)⟩
                                      · rw [if_neg c31] at H
                                        have c31b0 : ((rdOf ByteArray.empty t130 x58_4).toList == ([46] : List UInt8)) = false := beq_eq_false_iff_ne.mpr c31
                                        have c31b1 : ((rdOf ByteArray.empty t130 x58_4).toList != ([46] : List UInt8)) = true := bne_iff_ne.mpr c31
                                        by_cases c32 : (rdOf ByteArray.empty t130 x58_4).toList = ([46, 46] : List UInt8)
                                        · rw [if_pos c32] at H
                                          have c32b0 : ((rdOf ByteArray.empty t130 x58_4).toList == ([46, 46] : List UInt8)) = true := beq_iff_eq.mpr c32
                                          have c32b1 : ((rdOf ByteArray.empty t130 x58_4).toList != ([46, 46] : List UInt8)) = false := bne_eq_false_iff_eq.mpr c32
                                          clear c32
                                          simp only [Option.some.injEq, Prod.mk.injEq] at H
                                          obtain ⟨rfl, rfl, rfl⟩ := H
                                          have p133 : 0 ≤ (x58_4 : Int) := of_decide_eq_true (by first | (with_reducible assumption) | assumption)
                                          have q133 : x58_4 < (t130.length : Int) := of_decide_eq_true (by first | (with_reducible assumption) | assumption)
                                          obtain ⟨ad133, e133, hx133_0⟩ := Kd.at_string (Kd.R_reads' HO_56.out).2.2 x58_4 p133 q133
                                          cases e133
                                          replace p133 := eq_true p133
                                          replace q133 := eq_true q133
                                          go_wp2
                                          go_ret3
                                          exact ⟨by first | rfl | (simp [errW_none, errW_some] <;> rfl) | (simp only [← hji7]; first | rfl | (simp [errW_none, errW_some] <;> rfl)) | (simp [*, errW_none, errW_some] <;> rfl), by repeat (first | (with_reducible first | exact HB.out | apply below_alloc | apply pw_below_drewN | apply below_drew1) | exact HB.out)⟩
                                        · rw [if_neg c32] at H
                                          have c32b0 : ((rdOf ByteArray.empty t130 x58_4).toList == ([46, 46] : List UInt8)) = false := beq_eq_false_iff_ne.mpr c32
                                          have c32b1 : ((rdOf ByteArray.empty t130 x58_4).toList != ([46, 46] : List UInt8)) = true := bne_iff_ne.mpr c32
                                          have H' := Aside0.mk H
                                          clear H
                                          have p133 : 0 ≤ (x58_4 : Int) := of_decide_eq_true (by first | (with_reducible assumption) | assumption)
                                          have q133 : x58_4 < (t130.length : Int) := of_decide_eq_true (by first | (with_reducible assumption) | assumption)
                                          obtain ⟨ad133, e133, hx133_0⟩ := Kd.at_string (Kd.R_reads' HO_56.out).2.2 x58_4 p133 q133
                                          cases e133
                                          replace p133 := eq_true p133
                                          replace q133 := eq_true q133
                                          go_wp2
                                          go_roundg k4
                                          case measure => have := HJ2.out; have := HJ10.out; have := HK3.out; have := HK4.out; omega
                                          case rel => exact ⟨(wrap64 (x58_4 + 1)), (by first | rfl | (simp; done) | (simp [*]; done)), H', ⟨by have := HJ2.out; have := HJ10.out; have := HK3.out; have := HK4.out; omega⟩, ⟨by (with_reducible repeat (first | apply Kd.R_alloc | apply Kd.R_drewN | apply Kd.R_drew)); exact HO_8.out⟩, ⟨by (with_reducible repeat (first | apply Kd.R_alloc | apply Kd.R_drewN | apply Kd.R_drew)); exact HO_56.out⟩, ⟨by repeat (first | (with_reducible first | exact HB.out | apply below_alloc | apply pw_below_drewN | apply below_drew1) | exact HB.out)⟩⟩
                                  · rw [if_neg c29] at H
                                    exact absurd H (by simp)
                                · rw [if_neg c28] at H
                                  exact absurd H (by simp)
                              · rw [if_neg c27] at H
                                have c27b0 : decide (x58_4 < (t130.length : Int)) = false := decide_eq_false c27
                                clear c27
                                have H' := Aside0.mk H
                                clear H
                                go_wp2
                                go_loopg [75] k4 (fun kq v75 w' => ∃ (x75_5 : Int), v75 = .int .i64 x75_5 ∧ Aside0 (portmanteauref10_Check.l2 kq x5_10 x6_10 t130 t130 (t130.length : Int) x75_5 = some (r1, r2, r3)) ∧ Aside0 (kq ≤ k4) ∧ Aside0 (Kd.R Kd.string 9 w' w.heap.size (fun _ => True) (.slice Ao26 t130.length co26) t130) ∧ Aside0 (Kd.R Kd.string 9 w' w.heap.size (fun _ => True) (.slice Ao26 t130.length co26) t130) ∧ Aside0 (Below w.heap.size w w'))
                                case atStart => exact ⟨(0), (by first | rfl | (simp; done) | (simp [*]; done)), H', ⟨Nat.le_refl _⟩, ⟨by (with_reducible repeat (first | apply Kd.R_alloc | apply Kd.R_drewN | apply Kd.R_drew)); exact HO_8.out⟩, ⟨by (with_reducible repeat (first | apply Kd.R_alloc | apply Kd.R_drewN | apply Kd.R_drew)); exact HO_8.out⟩, ⟨by repeat (first | (with_reducible first | exact HB.out | apply below_alloc | apply pw_below_drewN | apply below_drew1) | exact HB.out)⟩⟩
                                case round =>
                                  clear H'
                                  try clear c1
                                  try clear p1
                                  try clear q1
                                  try clear hx1
                                  try clear c2
                                  try clear c2b0
                                  try clear c2b1
                                  try clear p2
                                  try clear c3
                                  try clear c4
                                  try clear c4b0
                                  try clear c4b1
                                  try clear c6
                                  try clear p6
                                  try clear c7
                                  try clear c8
                                  try clear c8b0
                                  try clear c9
                                  try clear c9b0
                                  try clear p10
                                  try clear q10
                                  try clear hx10
                                  try clear c12
                                  try clear c12b0
                                  try clear c12b1
                                  try clear c13
                                  try clear c13b0
                                  try clear p13
                                  try clear q13
                                  try clear hx13
                                  try clear c14
                                  try clear c14b0
                                  try clear c14b1
                                  try clear c15
                                  try clear c15b0
                                  try clear c16
                                  try clear c16b0
                                  try clear p17
                                  try clear q17
                                  try clear hx17
                                  try clear c18
                                  try clear c18b0
                                  try clear c18b1
                                  try clear p19
                                  try clear q19
                                  try clear hx19
                                  try clear c20
                                  try clear c20b0
                                  try clear c20b1
                                  try clear c22
                                  try clear c22b0
                                  try clear c22b1
                                  try clear c22b2
                                  try clear c27
                                  try clear c27b0
                                  try clear c28
                                  try clear c28b0
                                  try clear c29
                                  try clear c29b0
                                  try clear c30
                                  try clear c30b0
                                  try clear c30b1
                                  try clear c31
                                  try clear c31b0
                                  try clear c31b1
                                  try clear c32
                                  try clear c32b0
                                  try clear c32b1
                                  try clear hx133_0
                                  try clear p1
                                  try clear p10
                                  try clear p133
                                  try clear p17
                                  try clear p19
                                  try clear p2
                                  try clear p6
                                  try clear q1
                                  try clear q10
                                  try clear q133
                                  try clear q17
                                  try clear q19
                                  obtain ⟨x75_5, rfl, HA, HK5, HO_8, HO_73, HB⟩ := hrel
                                  cases gk with
                                  | zero => exact absurd HA.out (by simp [portmanteauref10_Check.l2])
                                  | succ k5 =>
                                    have H := HA.out
                                    clear HA
                                    simp only [portmanteauref10_Check.l2] at H
                                    by_cases c33 : x75_5 < (t130.length : Int)
                                    · rw [if_pos c33] at H
                                      have c33b0 : decide (x75_5 < (t130.length : Int)) = true := decide_eq_true c33
                                      clear c33
                                      by_cases c34 : 0 ≤ x75_5
                                      · rw [if_pos c34] at H
                                        have c34b0 : decide (0 ≤ x75_5) = true := decide_eq_true c34
                                        clear c34
                                        by_cases c35 : x75_5 < (t130.length : Int)
                                        · rw [if_pos c35] at H
                                          have c35b0 : decide (x75_5 < (t130.length : Int)) = true := decide_eq_true c35
                                          clear c35
                                          by_cases c36 : ((rdOf ByteArray.empty t130 x75_5).size : Int) > 255
                                          · rw [if_pos c36] at H
                                            have c36b0 : decide (255 < ((rdOf ByteArray.empty t130 x75_5).size : Int)) = true := decide_eq_true c36
                                            have c36b1 : decide (255 < (rdOf ByteArray.empty t130 x75_5).size) = true := decide_eq_true (by omega)
                                            clear c36
                                            simp only [Option.some.injEq, Prod.mk.injEq] at H
                                            obtain ⟨rfl, rfl, rfl⟩ := H
                                            have p134 : 0 ≤ (x75_5 : Int) := of_decide_eq_true (by first | (with_reducible assumption) | assumption)
                                            have q134 : x75_5 < (t130.length : Int) := of_decide_eq_true (by first | (with_reducible assumption) | assumption)
                                            obtain ⟨ad134, e134, hx134_0⟩ := Kd.at_string (Kd.R_reads' HO_73.out).2.2 x75_5 p134 q134
                                            cases e134
                                            replace p134 := eq_true p134
                                            replace q134 := eq_true q134
                                            go_wp2
                                            go_ret3
                                            exact ⟨by first | rfl | (simp [errW_none, errW_some] <;> rfl) | (simp only [← hji7]; first | rfl | (simp [errW_none, errW_some] <;> rfl)) | (simp [*, errW_none, errW_some] <;> rfl), by repeat (first | (with_reducible first | exact HB.out | apply below_alloc | apply pw_below_drewN | apply below_drew1) | exact HB.out)⟩
                                          · rw [if_neg c36] at H
                                            have c36b0 : decide (255 < ((rdOf ByteArray.empty t130 x75_5).size : Int)) = false := decide_eq_false c36
                                            have c36b1 : decide (255 < (rdOf ByteArray.empty t130 x75_5).size) = false := decide_eq_false (by omega)
                                            clear c36
                                            by_cases c37 : (t130.length : Int) > 32
                                            · rw [if_pos c37] at H
                                              have c37b0 : decide (32 < (t130.length : Int)) = true := decide_eq_true c37
                                              have c37b1 : decide (32 < t130.length) = true := decide_eq_true (by omega)
                                              clear c37
                                              simp only [Option.some.injEq, Prod.mk.injEq] at H
                                              obtain ⟨rfl, rfl, rfl⟩ := H
                                              have p134 : 0 ≤ (x75_5 : Int) := of_decide_eq_true (by first | (with_reducible assumption) | assumption)
                                              have q134 : x75_5 < (t130.length : Int) := of_decide_eq_true (by first | (with_reducible assumption) | assumption)
                                              obtain ⟨ad134, e134, hx134_0⟩ := Kd.at_string (Kd.R_reads' HO_73.out).2.2 x75_5 p134 q134
                                              cases e134
                                              replace p134 := eq_true p134
                                              replace q134 := eq_true q134
                                              go_wp2
                                              go_ret3
                                              exact ⟨by first | rfl | (simp [errW_none, errW_some] <;> rfl) | (simp only [← hji7]; first | rfl | (simp [errW_none, errW_some] <;> rfl)) | (simp [*, errW_none, errW_some] <;> rfl), by repeat (first | (with_reducible first | exact HB.out | apply below_alloc | apply pw_below_drewN | apply below_drew1) | exact HB.out)⟩
                                            · rw [if_neg c37] at H
                                              have c37b0 : decide (32 < (t130.length : Int)) = false := decide_eq_false c37
                                              have c37b1 : decide (32 < t130.length) = false := decide_eq_false (by omega)
                                              clear c37
                                              have H' := Aside0.mk H
                                              clear H
                                              have p134 : 0 ≤ (x75_5 : Int) := of_decide_eq_true (by first | (with_reducible assumption) | assumption)
                                              have q134 : x75_5 < (t130.length : Int) := of_decide_eq_true (by first | (with_reducible assumption) | assumption)
                                              obtain ⟨ad134, e134, hx134_0⟩ := Kd.at_string (Kd.R_reads' HO_73.out).2.2 x75_5 p134 q134
                                              cases e134
                                              replace p134 := eq_true p134
                                              replace q134 := eq_true q134
                                              go_wp2
                                              go_roundg k5
                                              case measure => have := HJ2.out; have := HJ10.out; have := HK3.out; have := HK4.out; have := HK5.out; omega
                                              case rel => exact ⟨(wrap64 (x75_5 + 1)), (by first | rfl | (simp; done) | (simp [*]; done)), H', ⟨by have := HJ2.out; have := HJ10.out; have := HK3.out; have := HK4.out; have := HK5.out; omega⟩, ⟨by (with_reducible repeat (first | apply Kd.R_alloc | apply Kd.R_drewN | apply Kd.R_drew)); exact HO_8.out⟩, ⟨by (with_reducible repeat (first | apply Kd.R_alloc | apply Kd.R_drewN | apply Kd.R_drew)); exact HO_73.out⟩, ⟨by repeat (first | (with_reducible first | exact HB.out | apply below_alloc | apply pw_below_drewN | apply below_drew1) | exact HB.out)⟩⟩
                                        · rw [if_neg c35] at H
                                          exact absurd H (by simp)
                                      · rw [if_neg c34] at H
                                        exact absurd H (by simp)
                                    · rw [if_neg c33] at H
                                      have c33b0 : decide (x75_5 < (t130.length : Int)) = false := decide_eq_false c33
                                      clear c33
                                      simp only [Option.some.injEq, Prod.mk.injEq] at H
                                      obtain ⟨rfl, rfl, rfl⟩ := H
                                      go_wp2
                                      go_ret3
                                      exact ⟨by first | rfl | (simp [errW_none, errW_some] <;> rfl) | (simp only [← hji7]; first | rfl | (simp [errW_none, errW_some] <;> rfl)) | (simp [*, errW_none, errW_some] <;> rfl), by repeat (first | (with_reducible first | exact HB.out | apply below_alloc | apply pw_below_drewN | apply below_drew1) | exact HB.out)⟩
            · rw [if_neg c9] at H
              exact absurd H (by simp)
          · rw [if_neg c8] at H
            exact absurd H (by simp)

end Go.Proofs.YtpjjooiamdfmfaaGreatDoor.PNm
