/- cmp.Compare and slices.Compare at strings: what they answer, over plain lists of bytes. -/
import Derived.Test.YtpjjooiamdfmfaaGreatDoorNameLaw
import Derived.Test.YtpjjooiamdfmfaaGreatDoorPW
import Derived.Test.YtpjjooiamdfmfaaGreatDoorProg
import Derived.WalkKit
import Derived.WalkLawsBesides
import Derived.Lib.Hide
import Derived.Deep.QuietTactic
import Derived.BigQuiet
set_option linter.unusedVariables false
set_option linter.unusedSimpArgs false
namespace Go.Proofs.YtpjjooiamdfmfaaGreatDoor.NameCmp
open Go.RowKit Go.Proofs.YtpjjooiamdfmfaaGreatDoorW.PrintWords Go.Proofs.YtpjjooiamdfmfaaGreatDoorW.PrintLast Go.Proofs.YtpjjooiamdfmfaaGreatDoor.NameLaw

theorem less_iff : ∀ l m : List UInt8, Op.bytesLess l m = true ↔ cmpL l m = -1
  | [], [] => by simp [Op.bytesLess, cmpL]
  | [], _ :: _ => by simp [Op.bytesLess, cmpL]
  | _ :: _, [] => by simp [Op.bytesLess, cmpL]
  | a :: l, b :: m => by
    unfold cmpL Op.bytesLess
    have ih := less_iff l m
    by_cases h1 : a < b
    · simp [h1]
    · by_cases h2 : b < a
      · simp [h1, h2]
        intro e; subst e; exact absurd h2 h1
      · have := u8_tri a b h1 h2
        subst this
        simp [h1, ih]
/-- Texts' order. -/
def cmpB (x y : ByteArray) : Int := cmpL x.data.toList y.data.toList
set_option maxHeartbeats 400000 in
theorem isNaN_any (x : ByteArray) (w : World) : Calls Tryz.prog 184 #[.string x] w fun e w' => e = .returned (.bool false) ∧ w = w' := by
  go_enter Tryz.func184, Tryz.ntmps184
  go_wp2
  go_ret
  exact ⟨by simp, rfl⟩
set_option maxHeartbeats 400000 in
theorem compare_any (x y : ByteArray) (w : World) : Calls Tryz.prog 136 #[.string x, .string y] w fun e w' => e = .returned (.int .i64 (cmpB x y)) ∧ w = w' := by
  have n := cmpL_neg x.data.toList y.data.toList
  rcases cmpL_range x.data.toList y.data.toList with h | h | h
  · have e : cmpB x y = -1 := h
    have e1 := (less_iff _ _).2 h
    rw [e]
    rw [← Lib.toList_data, ← Lib.toList_data] at e1
    clear e
    clear h n
    go_enter Tryz.func136, Tryz.ntmps136
    go_wp2_with (go_at_call 184; refine (isNaN_any _ _).mono ?_; rintro e w' ⟨rfl, rfl⟩)
    go_ret
    exact ⟨rfl, rfl⟩
  · have e : cmpB x y = 0 := h
    have e1 : Op.bytesLess x.toList y.toList = false := Bool.eq_false_iff.2 (fun e => by rw [Lib.toList_data, Lib.toList_data] at e; have := (less_iff x.data.toList y.data.toList).1 e; omega)
    have e2 : (x.toList == y.toList) = true := by rw [beq_iff_eq, Lib.toList_data, Lib.toList_data]; exact cmpL_zero _ _ h
    rw [e]
    clear e
    clear h n
    go_enter Tryz.func136, Tryz.ntmps136
    go_wp2_with (go_at_call 184; refine (isNaN_any _ _).mono ?_; rintro e w' ⟨rfl, rfl⟩)
    go_ret
    exact ⟨rfl, rfl⟩
  · have e : cmpB x y = 1 := h
    have e1 : Op.bytesLess x.toList y.toList = false := Bool.eq_false_iff.2 (fun e => by rw [Lib.toList_data, Lib.toList_data] at e; have := (less_iff x.data.toList y.data.toList).1 e; omega)
    have e2 : (x.toList == y.toList) = false := by rw [beq_eq_false_iff_ne, Lib.toList_data, Lib.toList_data]; intro e2; rw [e2, cmpL_self] at h; omega
    rw [e]
    clear e
    clear h n
    go_enter Tryz.func136, Tryz.ntmps136
    go_wp2_with (go_at_call 184; refine (isNaN_any _ _).mono ?_; rintro e w' ⟨rfl, rfl⟩)
    go_ret
    exact ⟨rfl, rfl⟩
/-- A slice of texts that is read. -/
def StrsAt (w : World) (A : Option Addr) (l : List ByteArray) : Prop := l.length ≤ 9223372036854775807 ∧ (0 < l.length → ∃ ad, A = some ad ∧ ∀ j (h : j < l.length), w.cell? (ad.add j) = some (.string l[j]))
theorem StrsAt.drewN {w : World} {A : Option Addr} {l : List ByteArray} (h : StrsAt w A l) (n : Nat) : StrsAt (w.drewN n) A l := h
theorem StrsAt.below {w w1 : World} {A : Option Addr} {l : List ByteArray} (h : StrsAt w A l) (hb : Below w.heap.size w w1) : StrsAt w1 A l :=
  ⟨h.1, fun hn => by
    obtain ⟨ad, e, hc⟩ := h.2 hn
    exact ⟨ad, e, fun j hj => pw_cell_below hb (hc j hj)⟩⟩
def cmpPB : List ByteArray → List ByteArray → Int
  | [], [] => 0
  | [], _ :: _ => -1
  | _ :: _, [] => 1
  | p :: l, q :: m => if cmpB p q = 0 then cmpPB l m else cmpB p q
theorem cmpPB_data : ∀ l m : List ByteArray, cmpPB l m = cmpP (l.map (·.data.toList)) (m.map (·.data.toList))
  | [], [] => rfl
  | [], _ :: _ => rfl
  | _ :: _, [] => rfl
  | p :: l, q :: m => by
    simp only [cmpPB, List.map_cons, cmpP, cmpB, cmpPB_data l m]
theorem cmpPB_left {l m : List ByteArray} {k : Nat} (h1 : k = l.length) (h2 : k < m.length) : cmpPB (l.drop k) (m.drop k) = -1 := by
  rw [List.drop_of_length_le (by omega), List.drop_eq_getElem_cons h2]; rfl
theorem cmpPB_right {l m : List ByteArray} {k : Nat} (h1 : k < l.length) (h2 : k = m.length) : cmpPB (l.drop k) (m.drop k) = 1 := by
  rw [List.drop_of_length_le (l := m) (by omega), List.drop_eq_getElem_cons h1]; rfl
theorem cmpPB_both {l m : List ByteArray} {k : Nat} (h1 : k = l.length) (h2 : k = m.length) : cmpPB (l.drop k) (m.drop k) = 0 := by
  rw [List.drop_of_length_le (by omega), List.drop_of_length_le (by omega)]; rfl
theorem cmpPB_step {l m : List ByteArray} {k : Nat} (h1 : k < l.length) (h2 : k < m.length) : cmpPB (l.drop k) (m.drop k) = if cmpB l[k] m[k] = 0 then cmpPB (l.drop (k + 1)) (m.drop (k + 1)) else cmpB l[k] m[k] := by
  rw [List.drop_eq_getElem_cons h1, List.drop_eq_getElem_cons h2]; rfl
set_option maxHeartbeats 1000000 in
theorem scompare_any (A B : Option Addr) (c d : Nat) (l m : List ByteArray) (w : World) (hl : StrsAt w A l) (hm : StrsAt w B m) :
    Calls Tryz.prog 80 #[.slice A l.length c, .slice B m.length d] w fun e w' => e = .returned (.int .i64 (cmpPB l m)) ∧ Drawn0 w w' := by
  have HL := Lib.hid hl.2
  have HM := Lib.hid hm.2
  have l1 := hl.1
  have m1 := hm.1
  clear hl hm
  obtain ⟨R, hR⟩ : ∃ R, R = cmpPB l m := ⟨_, rfl⟩
  have HR0 := Lib.hid (show cmpPB (l.drop 0) (m.drop 0) = R from hR.symm)
  rw [← hR]
  clear hR
  go_enter Tryz.func80, Tryz.ntmps80
  go_wp2
  go_loopw [11] (fun i wr => ∃ k : Nat, k ≤ l.length ∧ k ≤ m.length ∧ i = .int .i64 k ∧ Hid (cmpPB (l.drop k) (m.drop k) = R) ∧ Drawn0 w wr) (fun i _ => l.length - (intOf i).toNat)
  case atStart => exact ⟨0, by omega, by omega, rfl, HR0, Drawn0.refl _⟩
  case round =>
    obtain ⟨k, hk, hk2, rfl, HR, ⟨n, rfl⟩⟩ := hrel
    by_cases hlt : k < l.length
    · obtain ⟨ad, rfl, hc⟩ := HL.out (by omega)
      have hc1 := hc k hlt
      have hltI : (k : Int) < l.length := by omega
      clear hc
      by_cases hlt2 : k < m.length
      · obtain ⟨bd, rfl, hc⟩ := HM.out (by omega)
        have hc2 := hc k hlt2
        have hltI2 : (k : Int) < m.length := by omega
        have hd : decide ((m.length : Int) ≤ k) = false := decide_eq_false (by omega)
        have hs := cmpPB_step hlt hlt2
        clear hc
        by_cases hz : cmpB l[k] m[k] = 0
        · rw [if_pos hz] at hs
          have HS := Lib.hid hs
          have hb : (cmpB l[k] m[k] != 0) = false := by simp [hz]
          clear hs hz
          go_wp2_with (go_at_call 136; refine (compare_any _ _ _).mono ?_; rintro e w' ⟨rfl, rfl⟩)
          go_roundw
          case rel => exact ⟨k + 1, by omega, by omega, by go_num, Lib.hid (by rw [← HS.out]; exact HR.out), by repeat (first | exact Drawn0.refl _ | apply Drawn0.step)⟩
          case measure => simp [intOf]; omega
        · rw [if_neg hz] at hs
          have HS := Lib.hid hs
          have hb : (cmpB l[k] m[k] != 0) = true := by simp [hz]
          clear hs hz
          go_wp2_with (go_at_call 136; refine (compare_any _ _ _).mono ?_; rintro e w' ⟨rfl, rfl⟩)
          go_ret
          exact ⟨by rw [← HR.out, HS.out]; rfl, by repeat (first | exact Drawn0.refl _ | apply Drawn0.step)⟩
      · have hd : decide ((m.length : Int) ≤ k) = true := decide_eq_true (by omega)
        have HS := Lib.hid (cmpPB_right hlt (show k = m.length by omega))
        go_wp2
        go_ret
        exact ⟨by rw [← HR.out, HS.out]; rfl, by repeat (first | exact Drawn0.refl _ | apply Drawn0.step)⟩
    · by_cases hlt2 : k < m.length
      · have hd : decide ((l.length : Int) < m.length) = true := decide_eq_true (by omega)
        have HS := Lib.hid (cmpPB_left (show k = l.length by omega) hlt2)
        go_wp2
        go_ret
        exact ⟨by rw [← HR.out, HS.out]; rfl, by repeat (first | exact Drawn0.refl _ | apply Drawn0.step)⟩
      · have hd : decide ((l.length : Int) < m.length) = false := decide_eq_false (by omega)
        have HS := Lib.hid (cmpPB_both (show k = l.length by omega) (show k = m.length by omega))
        go_wp2
        go_ret
        exact ⟨by rw [← HR.out, HS.out]; rfl, by repeat (first | exact Drawn0.refl _ | apply Drawn0.step)⟩
end Go.Proofs.YtpjjooiamdfmfaaGreatDoor.NameCmp
