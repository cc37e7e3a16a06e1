/- The walk of NameParts: parts, parent, base, under, order against the document's answer. -/
import Derived.Test.YtcljfjkfjnifnaaDoorNameRef
set_option linter.unusedVariables false
set_option linter.unusedSimpArgs false
namespace Go.Proofs.YtcljfjkfjnifnaaDoor.NameParts
open Go.RowKit Go.Proofs.YtcljfjkfjnifnaaDoorW.PrintWords Go.Proofs.YtcljfjkfjnifnaaDoorW.PrintLast Go.Proofs.YtcljfjkfjnifnaaDoor.NameLaw Go.Proofs.YtcljfjkfjnifnaaDoor.NameCmp Go.Proofs.YtcljfjkfjnifnaaDoor.NameWalk Go.Proofs.YtcljfjkfjnifnaaDoor.NameOrd Go.Proofs.YtcljfjkfjnifnaaDoor.NameRef

/-! ### the document's Under -/
theorem under_eq {a r : List UInt8} (h : a = r) : underL a r = true := by
  subst h
  unfold underL
  rw [List.drop_of_length_le (Nat.le_refl _)]
  simp
theorem under_short {a r : List UInt8} (h1 : r ≠ []) (h2 : a ≠ r) (h3 : a.length ≤ r.length) : underL a r = false := by
  unfold underL
  have : r.isPrefixOf a = false := by
    rw [Bool.eq_false_iff]
    intro e
    rw [List.isPrefixOf_iff_prefix] at e
    exact h2 (e.eq_of_length (Nat.le_antisymm e.length_le h3)).symm
  rw [this, Bool.false_and]
theorem under_apart {a r : List UInt8} (h3 : a.take r.length ≠ r) : underL a r = false := by
  unfold underL
  have : r.isPrefixOf a = false := by
    rw [Bool.eq_false_iff]
    intro e
    rw [List.isPrefixOf_iff_prefix] at e
    exact h3 (List.prefix_iff_eq_take.1 e).symm
  rw [this, Bool.false_and]
theorem under_long {a r : List UInt8} (h1 : r ≠ []) (h2 : r.length < a.length) (h3 : a.take r.length = r) : underL a r = (a[r.length] == 47) := by
  unfold underL
  have e : r.isPrefixOf a = true := by
    rw [List.isPrefixOf_iff_prefix, List.prefix_iff_eq_take]
    exact h3.symm
  rw [e, Bool.true_and, List.drop_eq_getElem_cons h2, show r.isEmpty = false by simp [h1]]
  rfl
theorem take_data (a : ByteArray) (n : Nat) : (a.extract 0 n).data.toList = a.data.toList.take n := by
  rw [← Lib.toList_data, Lib.extract_toList]; simp
set_option maxHeartbeats 400000 in
theorem runder_any (a r : ByteArray) (ha : a.size ≤ 100000) (hr : r.size ≤ 100000) (w : World) : Calls Tryd.prog 22 #[.string a, .string r] w fun e w' => e = .returned (.bool (underT a r)) ∧ Drawn0 w w' := by
  obtain ⟨R, hR⟩ : ∃ R, R = underT a r := ⟨_, rfl⟩
  rw [← hR]
  unfold underT at hR
  by_cases h1 : r.toList = []
  · have HR := Lib.hid (show R = true by rw [hR]; unfold underL; rw [← Lib.toList_data r, h1]; simp [List.isPrefixOf])
    clear hR
    go_enter Tryd.func22, Tryd.ntmps22
    go_wp2
    go_ret
    exact ⟨by rw [HR.out]; rfl, by repeat (first | exact Drawn0.refl _ | apply Drawn0.step)⟩
  · have q1 : (!r.toList.isEmpty) = true := by simp [h1]
    have q2 : r.toList.isEmpty = false := by simp [h1]
    by_cases h2 : a.toList = r.toList
    · have HR := Lib.hid (show R = true by rw [hR]; exact under_eq (by rw [← Lib.toList_data, ← Lib.toList_data]; exact h2))
      have q3 : (a.toList == r.toList) = true := by rw [beq_iff_eq]; exact h2
      clear hR h2
      go_enter Tryd.func22, Tryd.ntmps22
      go_wp2
      go_ret
      exact ⟨by rw [HR.out]; rfl, by repeat (first | exact Drawn0.refl _ | apply Drawn0.step)⟩
    · have q3 : (a.toList == r.toList) = false := by rw [beq_eq_false_iff_ne]; exact h2
      have h1' : r.data.toList ≠ [] := by rw [← Lib.toList_data]; exact h1
      have h2' : a.data.toList ≠ r.data.toList := by rw [← Lib.toList_data, ← Lib.toList_data]; exact h2
      by_cases h3 : r.size < a.size
      · have q4 : decide ((r.size : Int) < (a.size : Int)) = true := decide_eq_true (by omega)
        by_cases h4 : (a.extract 0 r.size).toList = r.toList
        · have q5 : ((a.extract 0 r.size).toList == r.toList) = true := by rw [beq_iff_eq]; exact h4
          have hb : ∀ h : r.size < a.size, ((((a[r.size]'h).toNat : Int) == 47) = R) := by
            intro h
            rw [hR, under_long h1' (by rw [len_data, len_data]; exact h) (by rw [len_data, ← take_data, ← Lib.toList_data, ← Lib.toList_data]; exact h4)]
            rw [Bool.eq_iff_iff, beq_iff_eq, beq_iff_eq, ← UInt8.toNat_inj]
            have e : a.data.toList[r.data.toList.length]'(by rw [len_data, len_data]; exact h) = a[r.size]'h := by
              simp only [len_data]; rfl
            rw [e]
            generalize a[r.size]'h = c
            show (c.toNat : Int) = 47 ↔ c.toNat = 47
            omega
          clear hR
          go_enter Tryd.func22, Tryd.ntmps22
          go_wp2
          go_ret
          exact ⟨rfl, by repeat (first | exact Drawn0.refl _ | apply Drawn0.step)⟩
        · have q5 : ((a.extract 0 r.size).toList == r.toList) = false := by rw [beq_eq_false_iff_ne]; exact h4
          have HR := Lib.hid (show R = false by rw [hR]; exact under_apart (by rw [len_data, ← take_data, ← Lib.toList_data, ← Lib.toList_data]; exact h4))
          clear hR
          go_enter Tryd.func22, Tryd.ntmps22
          go_wp2
          go_ret
          exact ⟨by rw [HR.out]; rfl, by repeat (first | exact Drawn0.refl _ | apply Drawn0.step)⟩
      · have q4 : decide ((r.size : Int) < (a.size : Int)) = false := decide_eq_false (by omega)
        have HR := Lib.hid (show R = false by rw [hR]; exact under_short h1' h2' (by rw [len_data, len_data]; omega))
        clear hR
        go_enter Tryd.func22, Tryd.ntmps22
        go_wp2
        go_ret
        exact ⟨by rw [HR.out]; rfl, by repeat (first | exact Drawn0.refl _ | apply Drawn0.step)⟩
/-! ### the law -/
set_option maxHeartbeats 400000 in
theorem far (a b : ByteArray) (h : 2000 < a.size ∨ 2000 < b.size) (w : World) (hg : Glob w) :
    Calls Tryd.prog 5 #[.string a, .string b] w fun e w' => e = .returned (.bool true) ∧ Below w.heap.size w w' := by
  have HG := Lib.hid hg
  clear hg
  by_cases h1 : 2000 < a.size
  · clear h
    have e1 : decide (2000 < (a.size : Int)) = true := decide_eq_true (by omega)
    go_enter Tryd.func5, Tryd.ntmps5
    go_wp2_with (go_at_call 11; refine (awake_any _ HG.out).mono ?_; rintro e w1 ⟨rfl, hb⟩)
    go_ret
    exact ⟨rfl, hb⟩
  · have e1 : decide (2000 < (a.size : Int)) = false := decide_eq_false (by omega)
    have e2 : decide (2000 < (b.size : Int)) = true := decide_eq_true (by omega)
    clear h
    go_enter Tryd.func5, Tryd.ntmps5
    go_wp2_with (go_at_call 11; refine (awake_any _ HG.out).mono ?_; rintro e w1 ⟨rfl, hb⟩)
    go_ret
    exact ⟨rfl, hb⟩
theorem rparts_any (a : ByteArray) (w : World) (ha : a.size ≤ 100000) : Calls Tryd.prog 17 #[.string a] w (PartsPost a w) :=
  (PNm.portmanteauref10_Parts.calls (a.size + 1) a _ w (rparts_f _ a ha (by omega))).mono fun e w' h => by
    obtain ⟨v, rfl, hR, hb⟩ := h
    obtain ⟨A, c, rfl, _, hC⟩ := Kd.R_reads hR
    refine ⟨A, c, rfl, ⟨hC.2.1, fun hn => ?_⟩, hb⟩
    obtain ⟨ad, rfl, hc⟩ := hC.2.2 hn
    refine ⟨ad, rfl, fun j hj => ?_⟩
    obtain ⟨cs, hl, hk, hcell⟩ := hc j _ (List.getElem?_eq_getElem hj)
    have hk' : cs = [Value.string (partsT a)[j]] := hk
    subst hk'
    have := hcell 0 _ rfl
    simpa [Kd.string, Kd.scalar] using this
theorem parent_next {w w1 : World} (HB : Hid (Below w.heap.size w w1)) (a : ByteArray) (ha : a.size ≤ 100000) :
    Calls Tryd.prog 18 #[.string a] w1 fun e w' => e = .returned (.string (parentT a)) ∧ Hid (Below w.heap.size w w') :=
  (PNm.name_Parent.calls (a.size + 1) a _ w1 (parent_f _ a ha (by omega))).mono fun _ _ h => ⟨h.1, Lib.hid (below_next HB.out h.2)⟩
theorem rparent_next {w w1 : World} (HB : Hid (Below w.heap.size w w1)) (a : ByteArray) (ha : a.size ≤ 100000) :
    Calls Tryd.prog 19 #[.string a] w1 fun e w' => e = .returned (.string (parentT a)) ∧ Hid (Below w.heap.size w w') :=
  (PNm.portmanteauref10_Parent.calls (a.size + 1) a _ w1 (rparent_f _ a ha (by omega))).mono fun _ _ h => ⟨h.1, Lib.hid (by obtain ⟨n, rfl⟩ := h.2; exact pw_below_drewN HB.out n)⟩
theorem base_next {w w1 : World} (HB : Hid (Below w.heap.size w w1)) (a : ByteArray) (ha : a.size ≤ 100000) :
    Calls Tryd.prog 20 #[.string a] w1 fun e w' => e = .returned (.string (baseT a)) ∧ Hid (Below w.heap.size w w') :=
  (PNm.name_Base.calls (a.size + 1) a _ w1 (base_f _ a ha (by omega))).mono fun _ _ h => ⟨h.1, Lib.hid (by obtain ⟨n, rfl⟩ := h.2; exact pw_below_drewN HB.out n)⟩
theorem rbase_next {w w1 : World} (HB : Hid (Below w.heap.size w w1)) (a : ByteArray) (ha : a.size ≤ 100000) :
    Calls Tryd.prog 21 #[.string a] w1 fun e w' => e = .returned (.string (baseT a)) ∧ Hid (Below w.heap.size w w') :=
  (PNm.portmanteauref10_Base.calls (a.size + 1) a _ w1 (rbase_f _ a ha (by omega))).mono fun _ _ h => ⟨h.1, Lib.hid (by obtain ⟨n, rfl⟩ := h.2; exact pw_below_drewN HB.out n)⟩
theorem rorder_next {w w1 : World} (HB : Hid (Below w.heap.size w w1)) (a b : ByteArray) (ha : a.size ≤ 3000) (hb : b.size ≤ 3000) :
    Calls Tryd.prog 23 #[.string a, .string b] w1 fun e w' => e = .returned (.int .i64 (orderT a b)) ∧ Hid (Below w.heap.size w w') :=
  (PNm.portmanteauref10_Order.calls 13001 a b _ w1 (rorder_f _ a b ha hb (by omega))).mono fun _ _ h => ⟨h.1, Lib.hid (below_next HB.out h.2)⟩
theorem runder_next {w w1 : World} (HB : Hid (Below w.heap.size w w1)) (a b : ByteArray) (ha : a.size ≤ 100000) (hb : b.size ≤ 100000) :
    Calls Tryd.prog 22 #[.string a, .string b] w1 fun e w' => e = .returned (.bool (underT a b)) ∧ Hid (Below w.heap.size w w') :=
  (runder_any a b ha hb w1).mono fun _ _ h => ⟨h.1, Lib.hid (below_of HB.out h.2)⟩
theorem order_next2 {w w1 : World} (HG : Hid (Glob w)) (HB : Hid (Below w.heap.size w w1)) (a b : ByteArray) (ha : a.size ≤ 3000) (hb : b.size ≤ 3000) :
    Calls Tryd.prog 14 #[.string a, .string b] w1 fun e w' => e = .returned (.int .i64 (orderT a b)) ∧ Hid (Below w.heap.size w w') :=
  (order_any a b w1 (HG.out.below HB.out) (by omega) (by omega)).mono fun _ _ h => ⟨h.1, Lib.hid (below_next HB.out h.2)⟩
set_option maxHeartbeats 2000000 in
theorem near (a b : ByteArray) (h1 : a.size ≤ 2000) (h2 : b.size ≤ 2000) (w : World) (hg : Glob w) :
    Calls Tryd.prog 5 #[.string a, .string b] w fun e w' => e = .returned (.bool true) ∧ Below w.heap.size w w' := by
  have HG := Lib.hid hg
  have e1 : decide (2000 < (a.size : Int)) = false := decide_eq_false (by omega)
  have e2 : decide (2000 < (b.size : Int)) = false := decide_eq_false (by omega)
  clear hg
  go_enter Tryd.func5, Tryd.ntmps5
  go_wp2_with (go_at_call 11; refine (awake_next _ HG).mono ?_; rintro e w1 ⟨rfl, HB1⟩)
  clear e1 e2
  refine (parts_any a _ (HG.out.below HB1.out) (by omega)).mono ?_
  rintro e w2 ⟨A, c, rfl, hs, hb⟩
  have HS := Lib.hid hs
  have HB2 := Lib.hid (below_next HB1.out hb)
  clear hs hb
  go_wp2_with fail
  refine (rparts_any a _ (by omega)).mono ?_
  rintro e w3 ⟨B, d, rfl, hs, hb⟩
  have HS1 := Lib.hid (HS.out.below hb)
  have HS2 := Lib.hid hs
  have HB3 := Lib.hid (below_next HB2.out hb)
  clear hs hb HS HB1 HB2
  have hLs : (partsT a).length ≤ 9223372036854775807 := HS1.out.1
  have HL := Lib.hid HS1.out.2
  have HM := Lib.hid HS2.out.2
  generalize partsT a = l at *
  clear HS1 HS2
  go_wp2
  go_loopw [29] (fun i wr => ∃ k : Nat, k ≤ l.length ∧ i = .int .i64 k ∧ Drawn0 w3 wr) (fun i _ => l.length - (intOf i).toNat)
  case atStart => exact ⟨0, by omega, rfl, Drawn0.refl _⟩
  case round =>
    obtain ⟨k, hk, rfl, ⟨n, rfl⟩⟩ := hrel
    by_cases hlt : k < l.length
    · obtain ⟨ad, rfl, hc⟩ := HL.out (by omega)
      obtain ⟨bd, rfl, hc'⟩ := HM.out (by omega)
      have hc1 := hc k hlt
      have hc2 := hc' k hlt
      have hltI : (k : Int) < l.length := by omega
      have hne : (l[k].toList != l[k].toList) = false := by simp
      clear hc hc'
      go_wp2
      go_quiet (fail)
      go_wp2
      go_roundw
      case rel => exact ⟨k + 1, by omega, by go_num, by repeat (first | exact Drawn0.refl _ | apply Drawn0.step)⟩
      case measure => simp [intOf]; omega
    · have HB := Lib.hid (pw_below_drewN HB3.out n)
      clear HL HM HB3
      go_wp2_with (first | (go_at_call 18; refine (parent_next HB a (by omega)).mono ?_; clear HB; rintro e w1 ⟨rfl, HB⟩) | (go_at_call 19; refine (rparent_next HB a (by omega)).mono ?_; clear HB; rintro e w1 ⟨rfl, HB⟩) | (go_at_call 20; refine (base_next HB a (by omega)).mono ?_; clear HB; rintro e w1 ⟨rfl, HB⟩) | (go_at_call 21; refine (rbase_next HB a (by omega)).mono ?_; clear HB; rintro e w1 ⟨rfl, HB⟩) | (go_at_call 15; refine (under_next HB _ _).mono ?_; clear HB; rintro e w1 ⟨rfl, HB⟩) | (go_at_call 22; refine (runder_next HB a b (by omega) (by omega)).mono ?_; clear HB; rintro e w1 ⟨rfl, HB⟩) | (go_at_call 14; refine (order_next2 HG HB a b (by omega) (by omega)).mono ?_; clear HB; rintro e w1 ⟨rfl, HB⟩) | (go_at_call 23; refine (rorder_next HB a b (by omega) (by omega)).mono ?_; clear HB; rintro e w1 ⟨rfl, HB⟩))
      go_ret
      exact ⟨by simp, HB.out⟩
theorem walk (a b : ByteArray) (w0 : a.size ≤ 140737488351232) (w1 : b.size ≤ 140737488351232) (w : World) (hg : Glob w) :
    Calls Tryd.prog 5 #[.string a, .string b] w fun e w' => e = .returned (.bool true) ∧ Below w.heap.size w w' := by
  by_cases h : 2000 < a.size ∨ 2000 < b.size
  · exact far a b h w hg
  · exact near a b (by omega) (by omega) w hg
end Go.Proofs.YtcljfjkfjnifnaaDoor.NameParts
