/- The walks of package name's laws on orders: awake, Under, NameOrders. -/
import Derived.Test.YtcljfjkfjnifnaaDoorNameWalk
set_option linter.unusedVariables false
set_option linter.unusedSimpArgs false
namespace Go.Proofs.YtcljfjkfjnifnaaDoor.NameOrd
open Go.RowKit Go.Proofs.YtcljfjkfjnifnaaDoorW.PrintWords Go.Proofs.YtcljfjkfjnifnaaDoorW.PrintLast Go.Proofs.YtcljfjkfjnifnaaDoor.NameLaw Go.Proofs.YtcljfjkfjnifnaaDoor.NameCmp Go.Proofs.YtcljfjkfjnifnaaDoor.NameWalk

theorem any_ascii (s : ByteArray) (hs : s.size < 4294967281) (ha : ∀ (j : Nat) b, s.data.toList[j]? = some b → b.toNat < 128) : AnyAt s := fun w _ =>
  Tryd.strings_ContainsAny_laid s ⟨#[0, 92]⟩ w hs (by decide) ha (by
    intro j b h
    have : b = 0 ∨ b = 92 := by
      match j, h with
      | 0, h => left; exact (Option.some.inj h).symm
      | 1, h => right; exact (Option.some.inj h).symm
      | j + 2, h => simp at h
    rcases this with rfl | rfl <;> decide)
theorem awake_ascii : AnyAt ⟨#[97, 47, 98, 47]⟩ := any_ascii _ (by decide) (by
  intro j b h
  have : b = 97 ∨ b = 47 ∨ b = 98 := by
    match j, h with
    | 0, h => left; exact (Option.some.inj h).symm
    | 1, h => right; left; exact (Option.some.inj h).symm
    | 2, h => right; right; exact (Option.some.inj h).symm
    | 3, h => right; left; exact (Option.some.inj h).symm
    | j + 4, h => simp at h
  rcases this with rfl | rfl | rfl <;> decide)
theorem awake_check : checkE ⟨#[97, 47, 98, 47]⟩ = 0 := by decide +kernel
theorem awake_path : checkP ⟨#[97, 47, 98, 47]⟩ = ⟨#[97, 47, 98]⟩ := by decide +kernel
theorem awake_dir : checkD ⟨#[97, 47, 98, 47]⟩ = true := by decide +kernel
theorem awake_order : orderT ⟨#[97, 47, 98]⟩ ⟨#[97, 45, 98]⟩ = -1 := by decide +kernel
theorem awake_look (w : World) (hg : Glob w) : Calls Tryd.prog 12 #[.string ⟨#[97, 47, 98, 47]⟩] w fun e w' => e = .returned (.tuple #[.string ⟨#[97, 47, 98]⟩, .bool true, .int .i64 0]) ∧ Below w.heap.size w w' := by
  have h := check_any _ awake_ascii w hg (by decide)
  rw [awake_check, awake_path, awake_dir] at h
  exact h
theorem awake_ord (w : World) (hg : Glob w) : Calls Tryd.prog 14 #[.string ⟨#[97, 47, 98]⟩, .string ⟨#[97, 45, 98]⟩] w fun e w' => e = .returned (.int .i64 (-1)) ∧ Below w.heap.size w w' := by
  have h := order_any ⟨#[97, 47, 98]⟩ ⟨#[97, 45, 98]⟩ w hg (by decide) (by decide)
  rw [awake_order] at h
  exact h
set_option maxHeartbeats 400000 in
theorem awake_any (w : World) (hg : Glob w) : Calls Tryd.prog 11 #[] w fun e w' => e = .returned (.bool true) ∧ Below w.heap.size w w' := by
  have HG := Lib.hid hg
  clear hg
  go_enter Tryd.func11, Tryd.ntmps11
  go_wp2_with fail
  refine (awake_look _ HG.out).mono ?_
  rintro e w1 ⟨rfl, hb1⟩
  have HB1 := Lib.hid hb1
  have HG1 := Lib.hid (HG.out.below hb1)
  clear hb1
  go_wp2_with fail
  refine (awake_ord _ HG1.out).mono ?_
  rintro e w2 ⟨rfl, hb2⟩
  have HB2 := Lib.hid (below_next HB1.out hb2)
  clear hb2
  go_wp2
  go_ret
  exact ⟨rfl, HB2.out⟩
/-! ### Under -/
def underT (a r : ByteArray) : Bool := underL a.data.toList r.data.toList
def restT (a r : ByteArray) : ByteArray := ⟨(Lib.trimPrefix a.data.toList r.data.toList).toArray⟩
def hasT (a r : ByteArray) : Bool := Lib.hasPrefix a.data.toList r.data.toList
theorem cutp_any (a r : ByteArray) (w : World) : Calls Tryd.prog 60 #[.string a, .string r] w fun e w' => e = .returned (.tuple #[.string (restT a r), .bool (hasT a r)]) ∧ w = w' :=
  (Tryd.strings_CutPrefix a r w).mono fun _ _ h => ⟨h.1, h.2.symm⟩
set_option maxHeartbeats 400000 in
theorem under_any (a r : ByteArray) (w : World) : Calls Tryd.prog 15 #[.string a, .string r] w fun e w' => e = .returned (.bool (underT a r)) ∧ Drawn0 w w' := by
  obtain ⟨R, hR⟩ : ∃ R, R = underT a r := ⟨_, rfl⟩
  rw [← hR]
  have hR2 : R = (hasT a r && (r.toList.isEmpty || (restT a r).toList.isEmpty || (restT a r).toList.head? == some 47)) := by
    rw [hR, Lib.toList_data, Lib.toList_data]
    unfold underT underL hasT
    show _ = (Lib.hasPrefix _ _ && (_ || (Lib.trimPrefix a.data.toList r.data.toList).isEmpty || (Lib.trimPrefix a.data.toList r.data.toList).head? == some 47))
    unfold Lib.hasPrefix Lib.trimPrefix Lib.hasPrefix
    cases h : r.data.toList.isPrefixOf a.data.toList
    · rfl
    · rw [if_pos rfl]
  clear hR
  by_cases h1 : hasT a r = true
  · rw [h1, Bool.true_and] at hR2
    by_cases h2 : r.toList = []
    · have HR := Lib.hid (show R = true by rw [hR2, h2]; rfl)
      clear hR2
      go_enter Tryd.func15, Tryd.ntmps15
      go_wp2_with (go_at_call 60; refine (cutp_any _ _ _).mono ?_; rintro e w' ⟨rfl, rfl⟩)
      go_ret
      exact ⟨by rw [HR.out]; rfl, by repeat (first | exact Drawn0.refl _ | apply Drawn0.step)⟩
    · have q1 : (!r.toList.isEmpty) = true := by simp [h2]
      have q2 : r.toList.isEmpty = false := by simp [h2]
      rw [q2, Bool.false_or] at hR2
      by_cases h3 : (restT a r).toList = []
      · have HR := Lib.hid (show R = true by rw [hR2, h3]; rfl)
        clear hR2
        go_enter Tryd.func15, Tryd.ntmps15
        go_wp2_with (go_at_call 60; refine (cutp_any _ _ _).mono ?_; rintro e w' ⟨rfl, rfl⟩)
        go_ret
        exact ⟨by rw [HR.out]; rfl, by repeat (first | exact Drawn0.refl _ | apply Drawn0.step)⟩
      · have q3 : (!(restT a r).toList.isEmpty) = true := by simp [h3]
        have q4 : (restT a r).toList.isEmpty = false := by simp [h3]
        rw [q4, Bool.false_or] at hR2
        have hpos : 0 < (restT a r).size := by
          rw [Lib.size_eq, ← Lib.toList_data]; exact List.length_pos_iff.2 h3
        have hposI : 0 < ((restT a r).size : Int) := by omega
        have hb : ∀ h : 0 < (restT a r).size, ((((restT a r)[0]'h).toNat : Int) == 47) = R := by
          intro h
          rw [hR2, Lib.toList_data]
          have e : (restT a r).data.toList.head? = some ((restT a r)[0]'h) := by
            rw [List.head?_eq_getElem?, List.getElem?_eq_getElem (by rw [← Lib.size_eq]; exact h)]; rfl
          rw [e]
          generalize (restT a r)[0]'h = c
          rw [Bool.eq_iff_iff, beq_iff_eq, beq_iff_eq, Option.some.injEq, ← UInt8.toNat_inj]
          simp; omega
        clear hR2
        go_enter Tryd.func15, Tryd.ntmps15
        go_wp2_with (go_at_call 60; refine (cutp_any _ _ _).mono ?_; rintro e w' ⟨rfl, rfl⟩)
        go_ret
        exact ⟨rfl, by repeat (first | exact Drawn0.refl _ | apply Drawn0.step)⟩
  · have h1' : hasT a r = false := by simpa using h1
    have HR := Lib.hid (show R = false by rw [hR2, h1']; rfl)
    clear hR2
    go_enter Tryd.func15, Tryd.ntmps15
    go_wp2_with (go_at_call 60; refine (cutp_any _ _ _).mono ?_; rintro e w' ⟨rfl, rfl⟩)
    go_ret
    exact ⟨by rw [HR.out]; rfl, by repeat (first | exact Drawn0.refl _ | apply Drawn0.step)⟩
/-! ### The law -/
theorem under_ord (a b : ByteArray) (h : underT a b = true) : orderT b a ≤ 0 := under_order _ _ h
set_option maxHeartbeats 400000 in
theorem far (a b c : ByteArray) (h : 1000 < a.size ∨ 1000 < b.size ∨ 1000 < c.size) (w : World) (hg : Glob w) :
    Calls Tryd.prog 4 #[.string a, .string b, .string c] w fun e w' => e = .returned (.bool true) ∧ Below w.heap.size w w' := by
  have HG := Lib.hid hg
  clear hg
  by_cases h1 : 1000 < a.size
  · clear h
    have e1 : decide (1000 < (a.size : Int)) = true := decide_eq_true (by omega)
    go_enter Tryd.func4, Tryd.ntmps4
    go_wp2_with (go_at_call 11; refine (awake_any _ HG.out).mono ?_; rintro e w1 ⟨rfl, hb⟩)
    go_ret
    exact ⟨rfl, hb⟩
  · have e1 : decide (1000 < (a.size : Int)) = false := decide_eq_false (by omega)
    by_cases h2 : 1000 < b.size
    · clear h
      have e2 : decide (1000 < (b.size : Int)) = true := decide_eq_true (by omega)
      go_enter Tryd.func4, Tryd.ntmps4
      go_wp2_with (go_at_call 11; refine (awake_any _ HG.out).mono ?_; rintro e w1 ⟨rfl, hb⟩)
      go_ret
      exact ⟨rfl, hb⟩
    · have e2 : decide (1000 < (b.size : Int)) = false := decide_eq_false (by omega)
      have e3 : decide (1000 < (c.size : Int)) = true := decide_eq_true (by omega)
      clear h
      go_enter Tryd.func4, Tryd.ntmps4
      go_wp2_with (go_at_call 11; refine (awake_any _ HG.out).mono ?_; rintro e w1 ⟨rfl, hb⟩)
      go_ret
      exact ⟨rfl, hb⟩
/-- One more call of Order, in a world whose variables are as they were. -/
theorem order_next {w w1 : World} (HG : Hid (Glob w)) (HB : Hid (Below w.heap.size w w1)) (a b : ByteArray) (ha : a.size ≤ 1000) (hb : b.size ≤ 1000) :
    Calls Tryd.prog 14 #[.string a, .string b] w1 fun e w' => e = .returned (.int .i64 (orderT a b)) ∧ Hid (Below w.heap.size w w') :=
  (order_any a b w1 (HG.out.below HB.out) (by omega) (by omega)).mono fun _ _ h => ⟨h.1, Lib.hid (below_next HB.out h.2)⟩
theorem under_next {w w1 : World} (HB : Hid (Below w.heap.size w w1)) (a b : ByteArray) :
    Calls Tryd.prog 15 #[.string a, .string b] w1 fun e w' => e = .returned (.bool (underT a b)) ∧ Hid (Below w.heap.size w w') :=
  (under_any a b w1).mono fun _ _ h => ⟨h.1, Lib.hid (below_of HB.out h.2)⟩
theorem awake_next (w : World) (HG : Hid (Glob w)) : Calls Tryd.prog 11 #[] w fun e w' => e = .returned (.bool true) ∧ Hid (Below w.heap.size w w') :=
  (awake_any w HG.out).mono fun _ _ h => ⟨h.1, Lib.hid h.2⟩
set_option maxHeartbeats 2000000 in
theorem near (a b c : ByteArray) (h1 : a.size ≤ 1000) (h2 : b.size ≤ 1000) (h3 : c.size ≤ 1000) (w : World) (hg : Glob w) :
    Calls Tryd.prog 4 #[.string a, .string b, .string c] w fun e w' => e = .returned (.bool true) ∧ Below w.heap.size w w' := by
  have HG := Lib.hid hg
  have e1 : decide (1000 < (a.size : Int)) = false := decide_eq_false (by omega)
  have e2 : decide (1000 < (b.size : Int)) = false := decide_eq_false (by omega)
  have e3 : decide (1000 < (c.size : Int)) = false := decide_eq_false (by omega)
  have hn : orderT b a = - orderT a b := order_neg _ _
  have hr : orderT a b = -1 ∨ orderT a b = 0 ∨ orderT a b = 1 := order_range _ _
  have hz : (orderT a b == 0) = (a.toList == b.toList) := by
    rw [Lib.toList_data, Lib.toList_data, Bool.eq_iff_iff, beq_iff_eq, beq_iff_eq]
    exact order_zero _ _
  have ht : orderT a b ≤ 0 → orderT b c ≤ 0 → orderT a c ≤ 0 := order_trans _ _ _
  have hu : underT a b = true → orderT b a ≤ 0 := under_ord a b
  have q1 : IntKind.i64.wrap (-(orderT b a)) = orderT a b := by rw [hn, Int.neg_neg, IntKind.wrap_i64]; omega
  clear hg hr
  by_cases c1 : 0 < orderT a b
  · have d1 : decide (0 < orderT a b) = true := decide_eq_true c1
    clear c1
    by_cases hv : underT a b = true
    · have d4 : decide (orderT b a ≤ 0) = true := decide_eq_true (hu hv)
      clear hu ht hn
      go_enter Tryd.func4, Tryd.ntmps4
      go_wp2_with (first | (go_at_call 11; refine (awake_next _ HG).mono ?_; rintro e w1 ⟨rfl, HB⟩) | (go_at_call 14; refine (order_next HG HB _ _ (by omega) (by omega)).mono ?_; clear HB; rintro e w1 ⟨rfl, HB⟩) | (go_at_call 15; refine (under_next HB _ _).mono ?_; clear HB; rintro e w1 ⟨rfl, HB⟩))
      go_ret
      exact ⟨rfl, HB.out⟩
    · have hv' : underT a b = false := by simpa using hv
      clear hv hu ht hn
      go_enter Tryd.func4, Tryd.ntmps4
      go_wp2_with (first | (go_at_call 11; refine (awake_next _ HG).mono ?_; rintro e w1 ⟨rfl, HB⟩) | (go_at_call 14; refine (order_next HG HB _ _ (by omega) (by omega)).mono ?_; clear HB; rintro e w1 ⟨rfl, HB⟩) | (go_at_call 15; refine (under_next HB _ _).mono ?_; clear HB; rintro e w1 ⟨rfl, HB⟩))
      go_ret
      exact ⟨rfl, HB.out⟩
  · have d1 : decide (0 < orderT a b) = false := decide_eq_false c1
    by_cases c2 : 0 < orderT b c
    · have d2 : decide (0 < orderT b c) = true := decide_eq_true c2
      clear c1 c2
      by_cases hv : underT a b = true
      · have d4 : decide (orderT b a ≤ 0) = true := decide_eq_true (hu hv)
        clear hu ht hn
        go_enter Tryd.func4, Tryd.ntmps4
        go_wp2_with (first | (go_at_call 11; refine (awake_next _ HG).mono ?_; rintro e w1 ⟨rfl, HB⟩) | (go_at_call 14; refine (order_next HG HB _ _ (by omega) (by omega)).mono ?_; clear HB; rintro e w1 ⟨rfl, HB⟩) | (go_at_call 15; refine (under_next HB _ _).mono ?_; clear HB; rintro e w1 ⟨rfl, HB⟩))
        go_ret
        exact ⟨rfl, HB.out⟩
      · have hv' : underT a b = false := by simpa using hv
        clear hv hu ht hn
        go_enter Tryd.func4, Tryd.ntmps4
        go_wp2_with (first | (go_at_call 11; refine (awake_next _ HG).mono ?_; rintro e w1 ⟨rfl, HB⟩) | (go_at_call 14; refine (order_next HG HB _ _ (by omega) (by omega)).mono ?_; clear HB; rintro e w1 ⟨rfl, HB⟩) | (go_at_call 15; refine (under_next HB _ _).mono ?_; clear HB; rintro e w1 ⟨rfl, HB⟩))
        go_ret
        exact ⟨rfl, HB.out⟩
    · have d2 : decide (0 < orderT b c) = false := decide_eq_false c2
      have d3 : decide (orderT a c ≤ 0) = true := decide_eq_true (ht (by omega) (by omega))
      clear c1 c2
      by_cases hv : underT a b = true
      · have d4 : decide (orderT b a ≤ 0) = true := decide_eq_true (hu hv)
        clear hu ht hn
        go_enter Tryd.func4, Tryd.ntmps4
        go_wp2_with (first | (go_at_call 11; refine (awake_next _ HG).mono ?_; rintro e w1 ⟨rfl, HB⟩) | (go_at_call 14; refine (order_next HG HB _ _ (by omega) (by omega)).mono ?_; clear HB; rintro e w1 ⟨rfl, HB⟩) | (go_at_call 15; refine (under_next HB _ _).mono ?_; clear HB; rintro e w1 ⟨rfl, HB⟩))
        go_ret
        exact ⟨rfl, HB.out⟩
      · have hv' : underT a b = false := by simpa using hv
        clear hv hu ht hn
        go_enter Tryd.func4, Tryd.ntmps4
        go_wp2_with (first | (go_at_call 11; refine (awake_next _ HG).mono ?_; rintro e w1 ⟨rfl, HB⟩) | (go_at_call 14; refine (order_next HG HB _ _ (by omega) (by omega)).mono ?_; clear HB; rintro e w1 ⟨rfl, HB⟩) | (go_at_call 15; refine (under_next HB _ _).mono ?_; clear HB; rintro e w1 ⟨rfl, HB⟩))
        go_ret
        exact ⟨rfl, HB.out⟩
theorem walk (a b c : ByteArray) (w0 : a.size ≤ 140737488351232) (w1 : b.size ≤ 140737488351232) (w2 : c.size ≤ 140737488351232) (w : World) (hg : Glob w) :
    Calls Tryd.prog 4 #[.string a, .string b, .string c] w fun e w' => e = .returned (.bool true) ∧ Below w.heap.size w w' := by
  by_cases h : 1000 < a.size ∨ 1000 < b.size ∨ 1000 < c.size
  · exact far a b c h w hg
  · exact near a b c (by omega) (by omega) (by omega) w hg
end Go.Proofs.YtcljfjkfjnifnaaDoor.NameOrd
