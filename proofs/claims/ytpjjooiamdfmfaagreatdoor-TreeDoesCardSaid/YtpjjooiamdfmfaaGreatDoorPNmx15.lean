import Derived.Test.YtpjjooiamdfmfaaGreatDoorPN
-- PRINTED BY print.sh 35421559b90ae4d0a3588c463048766b98c2df88dd9212a6774a882060cdf62d: not written by this session
namespace Go.Proofs.YtpjjooiamdfmfaaGreatDoor.PNm
open Go.RowKit Go.Proofs.YtpjjooiamdfmfaaGreatDoorW.PrintWords Go.Proofs.YtpjjooiamdfmfaaGreatDoorW.PrintLast Go.Proofs.YtpjjooiamdfmfaaGreatDoorW.PrintMore
attribute [local go_sem] max2_int min2_int max_two min_two max_three min_three max_four min_four   -- for this text's walks alone
set_option linter.unusedVariables false
set_option linter.unusedSimpArgs false

/-! ### portmanteauref10_Strays: function 124 -/
def portmanteauref10_Strays.l0 : Nat → ByteArray → Int → Option (Bool)
  | 0, _, _ => none
  | k + 1, x0, x3 => if x3 < (x0.size : Int) then ((portmanteauref10_One.f k x0 x3).bind fun bt127 => (if bt127.1 < 0 then (some true) else (portmanteauref10_Strays.l0 k x0 (wrap64 (x3 + bt127.2))))) else (some false)
def portmanteauref10_Strays.f (k : Nat) (a0 : ByteArray) : Option (Bool) := portmanteauref10_Strays.l0 k a0 0
theorem portmanteauref10_Strays.mono_l : ∀ k, (∀ y0 y1, LeO (portmanteauref10_Strays.l0 k y0 y1) (portmanteauref10_Strays.l0 (k + 1) y0 y1))
  | 0 => fun _ _ r h => by simp [portmanteauref10_Strays.l0] at h
  | k + 1 => by
    have ih0 := portmanteauref10_Strays.mono_l k
    · intro y0 y1
      unfold portmanteauref10_Strays.l0
      repeat' first
      | (with_reducible exact ih0 _ _)
      | (with_reducible exact portmanteauref10_One.mono _ _ _)
      | (with_reducible exact LeO.refl _)
      | (with_reducible exact LeO.none _)
      | (with_reducible refine LeO.ite ?_ ?_)
      | (with_reducible refine LeO.bind ?_ (fun _ => ?_))
      | exact ih0 _ _
      | exact portmanteauref10_One.mono _ _ _
      | exact LeO.none _
      | refine LeO.ite ?_ ?_
      | refine LeO.bind ?_ (fun _ => ?_)
theorem portmanteauref10_Strays.mono : ∀ a0 k, LeO (portmanteauref10_Strays.f k a0) (portmanteauref10_Strays.f (k + 1) a0) := by
  intro a0 k
  have ih0 := portmanteauref10_Strays.mono_l k
  unfold portmanteauref10_Strays.f
  repeat' first
      | (with_reducible exact ih0 _ _)
      | (with_reducible exact portmanteauref10_One.mono _ _ _)
      | (with_reducible exact LeO.refl _)
      | (with_reducible exact LeO.none _)
      | (with_reducible refine LeO.ite ?_ ?_)
      | (with_reducible refine LeO.bind ?_ (fun _ => ?_))
      | exact ih0 _ _
      | exact portmanteauref10_One.mono _ _ _
      | exact LeO.none _
      | refine LeO.ite ?_ ?_
      | refine LeO.bind ?_ (fun _ => ?_)
set_option maxHeartbeats 8000000 in
set_option maxRecDepth 100000 in
theorem portmanteauref10_Strays.calls (k : Nat) (a0 : ByteArray) (r : Bool) (w : World) (h : portmanteauref10_Strays.f k a0 = some r) :
    Calls Tryz.prog 124 #[.string a0] w fun e w' => e = .returned (.bool r) ∧ Drawn0 w w' := by
  have H : (portmanteauref10_Strays.l0 k a0 0) = some r := h
  clear h
  have H' := Aside0.mk H
  clear H
  go_enter Tryz.func124, Tryz.ntmps124
  go_wp2
  go_loopg [3] k (fun kq v3 w' => ∃ (x3_1 : Int), v3 = .int .i64 x3_1 ∧ Aside0 (portmanteauref10_Strays.l0 kq a0 x3_1 = some r) ∧ Aside0 (kq ≤ k) ∧ Drawn0 w w')
  case atStart => exact ⟨(0), (by first | rfl | (simp; done) | (simp [*]; done)), H', ⟨Nat.le_refl _⟩, by repeat (first | exact Drawn0.refl _ | apply Drawn0.step)⟩
  case round =>
    clear H'
    try clear c1
    obtain ⟨x3_1, rfl, HA, HK1, ⟨m1, rfl⟩⟩ := hrel
    cases gk with
    | zero => exact absurd HA.out (by simp [portmanteauref10_Strays.l0])
    | succ k1 =>
      have H := HA.out
      clear HA
      simp only [portmanteauref10_Strays.l0] at H
      by_cases c2 : x3_1 < (a0.size : Int)
      · rw [if_pos c2] at H
        have c2b0 : decide (x3_1 < (a0.size : Int)) = true := decide_eq_true c2
        clear c2
        replace H := Option.bind_eq_some_iff.mp H
        obtain ⟨⟨t127, t128⟩, A30, H⟩ := H
        replace H : (if t127 < 0 then (some true) else (portmanteauref10_Strays.l0 k1 a0 (wrap64 (x3_1 + t128)))) = some r := H
        have A3 := Aside0.mk A30
        clear A30
        by_cases c4 : t127 < 0
        · rw [if_pos c4] at H
          have c4b0 : decide (t127 < 0) = true := decide_eq_true c4
          clear c4
          obtain rfl := Option.some.inj H
          go_wp2_with (first | ((with_reducible refine gate_callee (f := 178) rfl ?_); refine goesL_ (some 13) rfl rfl Tryz.func178 (by kernel_rfl) rfl #[.string a0, .int .i64 x3_1] rfl (by (try simp only [List.map_toArray, List.map_cons, List.map_nil]); first | done | rfl | (simp only [List.length_drop, List.length_take]; rfl)) ?_; (with_reducible refine (portmanteauref10_One.calls k1 a0 x3_1 t127 t128 _ A3.out).mono ?_); rintro e w' ⟨rfl, ⟨nd, rfl⟩⟩; refine ⟨_, rfl, ?_⟩))
          go_ret
          exact ⟨by first | rfl | (simp; done) | (simp [*]; done), by repeat (first | exact Drawn0.refl _ | apply Drawn0.step)⟩
        · rw [if_neg c4] at H
          have c4b0 : decide (t127 < 0) = false := decide_eq_false c4
          clear c4
          have H' := Aside0.mk H
          clear H
          go_wp2_with (first | ((with_reducible refine gate_callee (f := 178) rfl ?_); refine goesL_ (some 13) rfl rfl Tryz.func178 (by kernel_rfl) rfl #[.string a0, .int .i64 x3_1] rfl (by (try simp only [List.map_toArray, List.map_cons, List.map_nil]); first | done | rfl | (simp only [List.length_drop, List.length_take]; rfl)) ?_; (with_reducible refine (portmanteauref10_One.calls k1 a0 x3_1 t127 t128 _ A3.out).mono ?_); rintro e w' ⟨rfl, ⟨nd, rfl⟩⟩; refine ⟨_, rfl, ?_⟩))
          go_roundg k1
          case measure => have := HK1.out; omega
          case rel => exact ⟨(wrap64 (x3_1 + t128)), (by first | rfl | (simp; done) | (simp [*]; done)), H', ⟨by have := HK1.out; omega⟩, by repeat (first | exact Drawn0.refl _ | apply Drawn0.step)⟩
      · rw [if_neg c2] at H
        have c2b0 : decide (x3_1 < (a0.size : Int)) = false := decide_eq_false c2
        clear c2
        obtain rfl := Option.some.inj H
        go_wp2
        go_ret
        exact ⟨by first | rfl | (simp; done) | (simp [*]; done), by repeat (first | exact Drawn0.refl _ | apply Drawn0.step)⟩

end Go.Proofs.YtpjjooiamdfmfaaGreatDoor.PNm
