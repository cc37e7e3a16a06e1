/- The name layer, as the other walks call it. -/
import Derived.Test.YtpjjooiamdfmfaaGreatDoorNameCheckRef
set_option linter.unusedVariables false
set_option linter.unusedSimpArgs false
namespace Go.Proofs.YtpjjooiamdfmfaaGreatDoor.NameUse
open Go.RowKit Go.Proofs.YtpjjooiamdfmfaaGreatDoorW.PrintWords Go.Proofs.YtpjjooiamdfmfaaGreatDoorW.PrintLast Go.Proofs.YtpjjooiamdfmfaaGreatDoor.NameLaw Go.Proofs.YtpjjooiamdfmfaaGreatDoor.NameCmp Go.Proofs.YtpjjooiamdfmfaaGreatDoor.NameWalk Go.Proofs.YtpjjooiamdfmfaaGreatDoor.NameOrd Go.Proofs.YtpjjooiamdfmfaaGreatDoor.NameRef Go.Proofs.YtpjjooiamdfmfaaGreatDoor.NameAny Go.Proofs.YtpjjooiamdfmfaaGreatDoor.NameKeepLaw Go.Proofs.YtpjjooiamdfmfaaGreatDoor.NameCheckRef

theorem under_eq {a r : List UInt8} (h : a = r) : underL a r = true := by
  subst h
  unfold underL
  rw [List.drop_of_length_le (Nat.le_refl _)]
  simp
theorem under_short {a r : List UInt8} (h1 : r ≠ []) (h2 : a ≠ r) (h3 : a.length ≤ r.length) : underL a r = false := by
  unfold underL
  have : r.isPrefixOf a = false := by
    rw [Bool.eq_false_iff]
    intro e
    rw [List.isPrefixOf_iff_prefix] at e
    exact h2 (e.eq_of_length (Nat.le_antisymm e.length_le h3)).symm
  rw [this, Bool.false_and]
theorem under_apart {a r : List UInt8} (h3 : a.take r.length ≠ r) : underL a r = false := by
  unfold underL
  have : r.isPrefixOf a = false := by
    rw [Bool.eq_false_iff]
    intro e
    rw [List.isPrefixOf_iff_prefix] at e
    exact h3 (List.prefix_iff_eq_take.1 e).symm
  rw [this, Bool.false_and]
theorem under_long {a r : List UInt8} (h1 : r ≠ []) (h2 : r.length < a.length) (h3 : a.take r.length = r) : underL a r = (a[r.length] == 47) := by
  unfold underL
  have e : r.isPrefixOf a = true := by
    rw [List.isPrefixOf_iff_prefix, List.prefix_iff_eq_take]
    exact h3.symm
  rw [e, Bool.true_and, List.drop_eq_getElem_cons h2, show r.isEmpty = false by simp [h1]]
  rfl
theorem take_data (a : ByteArray) (n : Nat) : (a.extract 0 n).data.toList = a.data.toList.take n := by
  rw [← Lib.toList_data, Lib.extract_toList]; simp
set_option maxHeartbeats 400000 in
theorem runder_any (a r : ByteArray) (ha : a.size ≤ 100000) (hr : r.size ≤ 100000) (w : World) : Calls Tryz.prog 42 #[.string a, .string r] w fun e w' => e = .returned (.bool (underT a r)) ∧ Drawn0 w w' := by
  obtain ⟨R, hR⟩ : ∃ R, R = underT a r := ⟨_, rfl⟩
  rw [← hR]
  unfold underT at hR
  by_cases h1 : r.toList = []
  · have HR := Lib.hid (show R = true by rw [hR]; unfold underL; rw [← Lib.toList_data r, h1]; simp [List.isPrefixOf])
    clear hR
    go_enter Tryz.func42, Tryz.ntmps42
    go_wp2
    go_ret
    exact ⟨by rw [HR.out]; rfl, by repeat (first | exact Drawn0.refl _ | apply Drawn0.step)⟩
  · have q1 : (!r.toList.isEmpty) = true := by simp [h1]
    have q2 : r.toList.isEmpty = false := by simp [h1]
    by_cases h2 : a.toList = r.toList
    · have HR := Lib.hid (show R = true by rw [hR]; exact under_eq (by rw [← Lib.toList_data, ← Lib.toList_data]; exact h2))
      have q3 : (a.toList == r.toList) = true := by rw [beq_iff_eq]; exact h2
      clear hR h2
      go_enter Tryz.func42, Tryz.ntmps42
      go_wp2
      go_ret
      exact ⟨by rw [HR.out]; rfl, by repeat (first | exact Drawn0.refl _ | apply Drawn0.step)⟩
    · have q3 : (a.toList == r.toList) = false := by rw [beq_eq_false_iff_ne]; exact h2
      have h1' : r.data.toList ≠ [] := by rw [← Lib.toList_data]; exact h1
      have h2' : a.data.toList ≠ r.data.toList := by rw [← Lib.toList_data, ← Lib.toList_data]; exact h2
      by_cases h3 : r.size < a.size
      · have q4 : decide ((r.size : Int) < (a.size : Int)) = true := decide_eq_true (by omega)
        by_cases h4 : (a.extract 0 r.size).toList = r.toList
        · have q5 : ((a.extract 0 r.size).toList == r.toList) = true := by rw [beq_iff_eq]; exact h4
          have hb : ∀ h : r.size < a.size, ((((a[r.size]'h).toNat : Int) == 47) = R) := by
            intro h
            rw [hR, under_long h1' (by rw [len_data, len_data]; exact h) (by rw [len_data, ← take_data, ← Lib.toList_data, ← Lib.toList_data]; exact h4)]
            rw [Bool.eq_iff_iff, beq_iff_eq, beq_iff_eq, ← UInt8.toNat_inj]
            have e : a.data.toList[r.data.toList.length]'(by rw [len_data, len_data]; exact h) = a[r.size]'h := by
              simp only [len_data]; rfl
            rw [e]
            generalize a[r.size]'h = c
            show (c.toNat : Int) = 47 ↔ c.toNat = 47
            omega
          clear hR
          go_enter Tryz.func42, Tryz.ntmps42
          go_wp2
          go_ret
          exact ⟨rfl, by repeat (first | exact Drawn0.refl _ | apply Drawn0.step)⟩
        · have q5 : ((a.extract 0 r.size).toList == r.toList) = false := by rw [beq_eq_false_iff_ne]; exact h4
          have HR := Lib.hid (show R = false by rw [hR]; exact under_apart (by rw [len_data, ← take_data, ← Lib.toList_data, ← Lib.toList_data]; exact h4))
          clear hR
          go_enter Tryz.func42, Tryz.ntmps42
          go_wp2
          go_ret
          exact ⟨by rw [HR.out]; rfl, by repeat (first | exact Drawn0.refl _ | apply Drawn0.step)⟩
      · have q4 : decide ((r.size : Int) < (a.size : Int)) = false := decide_eq_false (by omega)
        have HR := Lib.hid (show R = false by rw [hR]; exact under_short h1' h2' (by rw [len_data, len_data]; omega))
        clear hR
        go_enter Tryz.func42, Tryz.ntmps42
        go_wp2
        go_ret
        exact ⟨by rw [HR.out]; rfl, by repeat (first | exact Drawn0.refl _ | apply Drawn0.step)⟩
theorem parent_next {w w1 : World} (HB : Hid (Below w.heap.size w w1)) (a : ByteArray) (ha : a.size ≤ 100000) :
    Calls Tryz.prog 50 #[.string a] w1 fun e w' => e = .returned (.string (parentT a)) ∧ Hid (Below w.heap.size w w') :=
  (PNm.name_Parent.calls (a.size + 1) a _ w1 (parent_f _ a ha (by omega))).mono fun _ _ h => ⟨h.1, Lib.hid (below_next HB.out h.2)⟩
theorem rparent_next {w w1 : World} (HB : Hid (Below w.heap.size w w1)) (a : ByteArray) (ha : a.size ≤ 100000) :
    Calls Tryz.prog 51 #[.string a] w1 fun e w' => e = .returned (.string (parentT a)) ∧ Hid (Below w.heap.size w w') :=
  (PNm.portmanteauref10_Parent.calls (a.size + 1) a _ w1 (rparent_f _ a ha (by omega))).mono fun _ _ h => ⟨h.1, Lib.hid (by obtain ⟨n, rfl⟩ := h.2; exact pw_below_drewN HB.out n)⟩
theorem rorder_next {w w1 : World} (HB : Hid (Below w.heap.size w w1)) (a b : ByteArray) (ha : a.size ≤ 3000) (hb : b.size ≤ 3000) :
    Calls Tryz.prog 64 #[.string a, .string b] w1 fun e w' => e = .returned (.int .i64 (orderT a b)) ∧ Hid (Below w.heap.size w w') :=
  (PNm.portmanteauref10_Order.calls 13001 a b _ w1 (rorder_f _ a b ha hb (by omega))).mono fun _ _ h => ⟨h.1, Lib.hid (below_next HB.out h.2)⟩
theorem runder_next {w w1 : World} (HB : Hid (Below w.heap.size w w1)) (a b : ByteArray) (ha : a.size ≤ 100000) (hb : b.size ≤ 100000) :
    Calls Tryz.prog 42 #[.string a, .string b] w1 fun e w' => e = .returned (.bool (underT a b)) ∧ Hid (Below w.heap.size w w') :=
  (runder_any a b ha hb w1).mono fun _ _ h => ⟨h.1, Lib.hid (below_of HB.out h.2)⟩
theorem order_next2 {w w1 : World} (HG : Hid (Glob w)) (HB : Hid (Below w.heap.size w w1)) (a b : ByteArray) (ha : a.size ≤ 3000) (hb : b.size ≤ 3000) :
    Calls Tryz.prog 55 #[.string a, .string b] w1 fun e w' => e = .returned (.int .i64 (orderT a b)) ∧ Hid (Below w.heap.size w w') :=
  (order_any a b w1 (HG.out.below HB.out) (by omega) (by omega)).mono fun _ _ h => ⟨h.1, Lib.hid (below_next HB.out h.2)⟩
theorem check_next {w w1 : World} (HG : Hid (Glob w)) (HB : Hid (Below w.heap.size w w1)) (s : ByteArray) (hs : s.size ≤ 100000) :
    Calls Tryz.prog 56 #[.string s] w1 fun e w' => e = .returned (.tuple #[.string (checkP s), .bool (checkD s), .int .i64 (checkE s)]) ∧ Hid (Below w.heap.size w w') :=
  (check_any s (any_all s (by omega)) w1 (HG.out.below HB.out) hs).mono fun _ _ h => ⟨h.1, Lib.hid (below_next HB.out h.2)⟩
theorem rcheck_next {w w1 : World} (HB : Hid (Below w.heap.size w w1)) (s : ByteArray) (hs : s.size ≤ 90000) :
    Calls Tryz.prog 74 #[.string s] w1 fun e w' => e = .returned (.tuple #[.string (checkP s), .bool (checkD s), .int .i64 (checkE s)]) ∧ Hid (Below w.heap.size w w') :=
  (PNm.portmanteauref10_Check.calls (5 * s.size + 51) s _ _ _ w1 (rcheck_f _ s hs (by omega))).mono fun _ _ h => ⟨h.1, Lib.hid (below_next HB.out h.2)⟩
end Go.Proofs.YtpjjooiamdfmfaaGreatDoor.NameUse
