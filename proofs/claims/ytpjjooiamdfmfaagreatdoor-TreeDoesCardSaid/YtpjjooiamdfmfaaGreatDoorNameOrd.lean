/- name.Under; ContainsAny at plain texts. -/
import Derived.Test.YtpjjooiamdfmfaaGreatDoorNameWalk
set_option linter.unusedVariables false
set_option linter.unusedSimpArgs false
namespace Go.Proofs.YtpjjooiamdfmfaaGreatDoor.NameOrd
open Go.RowKit Go.Proofs.YtpjjooiamdfmfaaGreatDoorW.PrintWords Go.Proofs.YtpjjooiamdfmfaaGreatDoorW.PrintLast Go.Proofs.YtpjjooiamdfmfaaGreatDoor.NameLaw Go.Proofs.YtpjjooiamdfmfaaGreatDoor.NameCmp Go.Proofs.YtpjjooiamdfmfaaGreatDoor.NameWalk

/-! ### Under -/
def underT (a r : ByteArray) : Bool := underL a.data.toList r.data.toList
def restT (a r : ByteArray) : ByteArray := ⟨(Lib.trimPrefix a.data.toList r.data.toList).toArray⟩
def hasT (a r : ByteArray) : Bool := Lib.hasPrefix a.data.toList r.data.toList
theorem cutp_any (a r : ByteArray) (w : World) : Calls Tryz.prog 92 #[.string a, .string r] w fun e w' => e = .returned (.tuple #[.string (restT a r), .bool (hasT a r)]) ∧ w = w' :=
  (Tryz.strings_CutPrefix a r w).mono fun _ _ h => ⟨h.1, h.2.symm⟩
set_option maxHeartbeats 400000 in
theorem under_any (a r : ByteArray) (w : World) : Calls Tryz.prog 61 #[.string a, .string r] w fun e w' => e = .returned (.bool (underT a r)) ∧ Drawn0 w w' := by
  obtain ⟨R, hR⟩ : ∃ R, R = underT a r := ⟨_, rfl⟩
  rw [← hR]
  have hR2 : R = (hasT a r && (r.toList.isEmpty || (restT a r).toList.isEmpty || (restT a r).toList.head? == some 47)) := by
    rw [hR, Lib.toList_data, Lib.toList_data]
    unfold underT underL hasT
    show _ = (Lib.hasPrefix _ _ && (_ || (Lib.trimPrefix a.data.toList r.data.toList).isEmpty || (Lib.trimPrefix a.data.toList r.data.toList).head? == some 47))
    unfold Lib.hasPrefix Lib.trimPrefix Lib.hasPrefix
    cases h : r.data.toList.isPrefixOf a.data.toList
    · rfl
    · rw [if_pos rfl]
  clear hR
  by_cases h1 : hasT a r = true
  · rw [h1, Bool.true_and] at hR2
    by_cases h2 : r.toList = []
    · have HR := Lib.hid (show R = true by rw [hR2, h2]; rfl)
      clear hR2
      go_enter Tryz.func61, Tryz.ntmps61
      go_wp2_with (go_at_call 92; refine (cutp_any _ _ _).mono ?_; rintro e w' ⟨rfl, rfl⟩)
      go_ret
      exact ⟨by rw [HR.out]; rfl, by repeat (first | exact Drawn0.refl _ | apply Drawn0.step)⟩
    · have q1 : (!r.toList.isEmpty) = true := by simp [h2]
      have q2 : r.toList.isEmpty = false := by simp [h2]
      rw [q2, Bool.false_or] at hR2
      by_cases h3 : (restT a r).toList = []
      · have HR := Lib.hid (show R = true by rw [hR2, h3]; rfl)
        clear hR2
        go_enter Tryz.func61, Tryz.ntmps61
        go_wp2_with (go_at_call 92; refine (cutp_any _ _ _).mono ?_; rintro e w' ⟨rfl, rfl⟩)
        go_ret
        exact ⟨by rw [HR.out]; rfl, by repeat (first | exact Drawn0.refl _ | apply Drawn0.step)⟩
      · have q3 : (!(restT a r).toList.isEmpty) = true := by simp [h3]
        have q4 : (restT a r).toList.isEmpty = false := by simp [h3]
        rw [q4, Bool.false_or] at hR2
        have hpos : 0 < (restT a r).size := by
          rw [Lib.size_eq, ← Lib.toList_data]; exact List.length_pos_iff.2 h3
        have hposI : 0 < ((restT a r).size : Int) := by omega
        have hb : ∀ h : 0 < (restT a r).size, ((((restT a r)[0]'h).toNat : Int) == 47) = R := by
          intro h
          rw [hR2, Lib.toList_data]
          have e : (restT a r).data.toList.head? = some ((restT a r)[0]'h) := by
            rw [List.head?_eq_getElem?, List.getElem?_eq_getElem (by rw [← Lib.size_eq]; exact h)]; rfl
          rw [e]
          generalize (restT a r)[0]'h = c
          rw [Bool.eq_iff_iff, beq_iff_eq, beq_iff_eq, Option.some.injEq, ← UInt8.toNat_inj]
          simp; omega
        clear hR2
        go_enter Tryz.func61, Tryz.ntmps61
        go_wp2_with (go_at_call 92; refine (cutp_any _ _ _).mono ?_; rintro e w' ⟨rfl, rfl⟩)
        go_ret
        exact ⟨rfl, by repeat (first | exact Drawn0.refl _ | apply Drawn0.step)⟩
  · have h1' : hasT a r = false := by simpa using h1
    have HR := Lib.hid (show R = false by rw [hR2, h1']; rfl)
    clear hR2
    go_enter Tryz.func61, Tryz.ntmps61
    go_wp2_with (go_at_call 92; refine (cutp_any _ _ _).mono ?_; rintro e w' ⟨rfl, rfl⟩)
    go_ret
    exact ⟨by rw [HR.out]; rfl, by repeat (first | exact Drawn0.refl _ | apply Drawn0.step)⟩
end Go.Proofs.YtpjjooiamdfmfaaGreatDoor.NameOrd
