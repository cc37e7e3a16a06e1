/- denote.Odds: the first item at odds with one ahead. -/
import Derived.Test.YtpjjooiamdfmfaaGreatDoorOverLaw
import Derived.Test.YtpjjooiamdfmfaaGreatDoorTreeFn
set_option linter.unusedVariables false
set_option linter.unusedSimpArgs false
namespace Go.Proofs.YtpjjooiamdfmfaaGreatDoor.Odds
open Go.RowKit Go.Proofs.YtpjjooiamdfmfaaGreatDoorW.PrintWords Go.Proofs.YtpjjooiamdfmfaaGreatDoorW.PrintLast Go.Proofs.YtpjjooiamdfmfaaGreatDoorW.PrintMore Go.Proofs.YtpjjooiamdfmfaaGreatDoor.Item Go.Proofs.YtpjjooiamdfmfaaGreatDoor.Own Go.Proofs.YtpjjooiamdfmfaaGreatDoor.TreeLaw Go.Proofs.YtpjjooiamdfmfaaGreatDoor.NameLaw Go.Proofs.YtpjjooiamdfmfaaGreatDoor.NameWalk Go.Proofs.YtpjjooiamdfmfaaGreatDoor.NameOrd Go.Proofs.YtpjjooiamdfmfaaGreatDoor.NameRef Go.Proofs.YtpjjooiamdfmfaaGreatDoor.NameUse Go.Proofs.YtpjjooiamdfmfaaGreatDoor.SortIns Go.Proofs.YtpjjooiamdfmfaaGreatDoor.TreeFn Go.Proofs.YtpjjooiamdfmfaaGreatDoor.OverLaw

theorem below_next_ {U W W1 : World} (h : Below U.heap.size U W) (k : Below W.heap.size W W1) : Below U.heap.size U W1 := h.trans (k.mono h.size)
theorem item_take {w : World} {A : Option Addr} {l : List It} (h : ItemC w A l) {k : Nat} (hk : k ≤ l.length) : ItemC w A (l.take k) := by
  have hl : (l.take k).length = k := List.length_take_of_le hk
  refine ⟨rfl, by have := h.2.1; omega, fun hn => ?_⟩
  obtain ⟨ad, e, hc⟩ := h.2.2 (by omega)
  refine ⟨ad, e, fun j x hx => hc j x ?_⟩
  rw [List.getElem?_take] at hx
  split at hx
  · exact hx
  · cases hx
theorem beq_f {a b : ByteArray} (h : ¬ a = b) : (a.toList == b.toList) = false := by rw [toList_inj, decide_eq_false h]
set_option maxHeartbeats 4000000 in
theorem odds_any (x0 : ByteArray) (x1 x2 x3 x4 x5 x6 : Int) (x7 : ByteArray) (y0 : ByteArray) (y1 y2 y3 y4 y5 y6 : Int) (y7 : ByteArray) (W : World) :
    Calls Tryz.prog 41 #[.agg #[.string x0, .int .i64 x1, .int .u32 x2, .int .u32 x3, .int .u32 x4, .int .i64 x5, .int .i64 x6, .string x7], .agg #[.string y0, .int .i64 y1, .int .u32 y2, .int .u32 y3, .int .u32 y4, .int .i64 y5, .int .i64 y6, .string y7]] W fun e w' => e = .returned (.bool (oddsQ (x0, x1, x2, x3, x4, x5, x6, x7) (y0, y1, y2, y3, y4, y5, y6, y7))) ∧ Below W.heap.size W w' := by
  have hb1 := below_one W (.cells #[.string x0, .int .i64 x1, .int .u32 x2, .int .u32 x3, .int .u32 x4, .int .i64 x5, .int .i64 x6, .string x7] 33)
  have hb2 := below_one (W.alloc (.cells #[.string x0, .int .i64 x1, .int .u32 x2, .int .u32 x3, .int .u32 x4, .int .i64 x5, .int .i64 x6, .string x7] 33)) (.cells #[.string y0, .int .i64 y1, .int .u32 y2, .int .u32 y3, .int .u32 y4, .int .i64 y5, .int .i64 y6, .string y7] 33)
  have HB := Lib.hid (below_next_ hb1 hb2)
  have HX := Lib.hid ((hb2.block W.heap.size (by simp)).trans (heap_new W (.cells #[.string x0, .int .i64 x1, .int .u32 x2, .int .u32 x3, .int .u32 x4, .int .i64 x5, .int .i64 x6, .string x7] 33)))
  have hy := heap_new (W.alloc (.cells #[.string x0, .int .i64 x1, .int .u32 x2, .int .u32 x3, .int .u32 x4, .int .i64 x5, .int .i64 x6, .string x7] 33)) (.cells #[.string y0, .int .i64 y1, .int .u32 y2, .int .u32 y3, .int .u32 y4, .int .i64 y5, .int .i64 y6, .string y7] 33)
  rw [show (W.alloc (.cells #[.string x0, .int .i64 x1, .int .u32 x2, .int .u32 x3, .int .u32 x4, .int .i64 x5, .int .i64 x6, .string x7] 33)).heap.size = W.heap.size + 1 by simp] at hy
  have HY := Lib.hid hy
  clear hb1 hb2 hy
  have HQ : Hid (oddsQ (x0, x1, x2, x3, x4, x5, x6, x7) (y0, y1, y2, y3, y4, y5, y6, y7) = if x0 = y0 then true else if underT x0 y0 = true then y1 != 1 else if underT y0 x0 = true then x1 != 1 else false) := Lib.hid rfl
  generalize oddsQ (x0, x1, x2, x3, x4, x5, x6, x7) (y0, y1, y2, y3, y4, y5, y6, y7) = R at *
  have c0 : ((W.alloc (.cells #[.string x0, .int .i64 x1, .int .u32 x2, .int .u32 x3, .int .u32 x4, .int .i64 x5, .int .i64 x6, .string x7] 33)).alloc (.cells #[.string y0, .int .i64 y1, .int .u32 y2, .int .u32 y3, .int .u32 y4, .int .i64 y5, .int .i64 y6, .string y7] 33)).cell? ⟨W.heap.size, 0, none⟩ = some (.string x0) := by rw [cell_of HX.out]; rfl
  have d0 : ((W.alloc (.cells #[.string x0, .int .i64 x1, .int .u32 x2, .int .u32 x3, .int .u32 x4, .int .i64 x5, .int .i64 x6, .string x7] 33)).alloc (.cells #[.string y0, .int .i64 y1, .int .u32 y2, .int .u32 y3, .int .u32 y4, .int .i64 y5, .int .i64 y6, .string y7] 33)).cell? ⟨W.heap.size + 1, 0, none⟩ = some (.string y0) := by rw [cell_of HY.out]; rfl
  go_enter Tryz.func41, Tryz.ntmps41
  by_cases h0 : x0 = y0
  · have HR : Hid (R = true) := Lib.hid (by rw [HQ.out, if_pos h0])
    have h0t : (x0.toList == y0.toList) = true := by rw [h0]; simp
    clear h0 HQ
    go_wp2
    go_ret
    exact ⟨by rw [HR.out]; rfl, HB.out⟩
  · have h0f := beq_f h0
    have HR1 := HQ.out
    rw [if_neg h0] at HR1
    have HR := Lib.hid HR1
    clear HR1 HQ h0
    go_wp2_with fail
    generalize (W.alloc (.cells #[.string x0, .int .i64 x1, .int .u32 x2, .int .u32 x3, .int .u32 x4, .int .i64 x5, .int .i64 x6, .string x7] 33)).alloc (.cells #[.string y0, .int .i64 y1, .int .u32 y2, .int .u32 y3, .int .u32 y4, .int .i64 y5, .int .i64 y6, .string y7] 33) = U at *
    generalize hbx : W.heap.size = bx at *
    clear c0 d0
    refine (under_any x0 y0 U).mono ?_
    rintro e w1 ⟨rfl, hd⟩
    have hb := hd.below
    have HB := Lib.hid (show Below bx W w1 from HB.out.trans (hb.mono (Nat.le_of_lt (Array.getElem?_eq_some_iff.1 HX.out).1)))
    have HX := Lib.hid ((hb.block _ (Array.getElem?_eq_some_iff.1 HX.out).1).trans HX.out)
    have HY := Lib.hid ((hb.block _ (Array.getElem?_eq_some_iff.1 HY.out).1).trans HY.out)
    clear hb hd
    generalize underT x0 y0 = u1 at *
    cases u1 with
    | true =>
      have d1 : w1.cell? ⟨bx + 1, 1, none⟩ = some (.int .i64 y1) := by rw [cell_of HY.out]; rfl
      go_wp2
      go_ret
      exact ⟨by rw [HR.out]; rfl, by rw [hbx]; exact HB.out⟩
    | false =>
      have c0 : w1.cell? ⟨bx, 0, none⟩ = some (.string x0) := by rw [cell_of HX.out]; rfl
      have d0 : w1.cell? ⟨bx + 1, 0, none⟩ = some (.string y0) := by rw [cell_of HY.out]; rfl
      go_wp2_with fail
      clear c0 d0
      refine (under_any y0 x0 w1).mono ?_
      rintro e w2 ⟨rfl, hd⟩
      have hb := hd.below
      have HB := Lib.hid (show Below bx W w2 from HB.out.trans (hb.mono (Nat.le_of_lt (Array.getElem?_eq_some_iff.1 HX.out).1)))
      have HX := Lib.hid ((hb.block _ (Array.getElem?_eq_some_iff.1 HX.out).1).trans HX.out)
      clear hb hd HY
      generalize underT y0 x0 = u2 at *
      cases u2 with
      | true =>
        have c1 : w2.cell? ⟨bx, 1, none⟩ = some (.int .i64 x1) := by rw [cell_of HX.out]; rfl
        go_wp2
        go_ret
        exact ⟨by rw [HR.out]; rfl, by rw [hbx]; exact HB.out⟩
      | false =>
        go_wp2
        go_ret
        exact ⟨by rw [HR.out]; rfl, by rw [hbx]; exact HB.out⟩
set_option maxHeartbeats 4000000 in
theorem odds1_any (y0 : ByteArray) (y1 y2 y3 y4 y5 y6 : Int) (y7 : ByteArray) (x0 : ByteArray) (x1 x2 x3 x4 x5 x6 : Int) (x7 : ByteArray) (bc : Nat) (W : World) (hx : W.heap[bc]? = some (.cells #[.string x0, .int .i64 x1, .int .u32 x2, .int .u32 x3, .int .u32 x4, .int .i64 x5, .int .i64 x6, .string x7] 33)) :
    Calls Tryz.prog 40 #[.agg #[.string y0, .int .i64 y1, .int .u32 y2, .int .u32 y3, .int .u32 y4, .int .i64 y5, .int .i64 y6, .string y7], .pointer (some ⟨bc, 0, none⟩)] W fun e w' => e = .returned (.bool (oddsQ (x0, x1, x2, x3, x4, x5, x6, x7) (y0, y1, y2, y3, y4, y5, y6, y7))) ∧ Below W.heap.size W w' := by
  have hb1 := below_one W (.cells #[.string y0, .int .i64 y1, .int .u32 y2, .int .u32 y3, .int .u32 y4, .int .i64 y5, .int .i64 y6, .string y7] 33)
  have HB := Lib.hid hb1
  have HX := Lib.hid ((hb1.block bc (Array.getElem?_eq_some_iff.1 hx).1).trans hx)
  have HY := Lib.hid (heap_new W (.cells #[.string y0, .int .i64 y1, .int .u32 y2, .int .u32 y3, .int .u32 y4, .int .i64 y5, .int .i64 y6, .string y7] 33))
  clear hb1 hx
  have c0 : (W.alloc (.cells #[.string y0, .int .i64 y1, .int .u32 y2, .int .u32 y3, .int .u32 y4, .int .i64 y5, .int .i64 y6, .string y7] 33)).cell? ⟨bc, 0, none⟩ = some (.string x0) := by rw [cell_of HX.out]; rfl
  have c1 : (W.alloc (.cells #[.string y0, .int .i64 y1, .int .u32 y2, .int .u32 y3, .int .u32 y4, .int .i64 y5, .int .i64 y6, .string y7] 33)).cell? ⟨bc, 1, none⟩ = some (.int .i64 x1) := by rw [cell_of HX.out]; rfl
  have c2 : (W.alloc (.cells #[.string y0, .int .i64 y1, .int .u32 y2, .int .u32 y3, .int .u32 y4, .int .i64 y5, .int .i64 y6, .string y7] 33)).cell? ⟨bc, 2, none⟩ = some (.int .u32 x2) := by rw [cell_of HX.out]; rfl
  have c3 : (W.alloc (.cells #[.string y0, .int .i64 y1, .int .u32 y2, .int .u32 y3, .int .u32 y4, .int .i64 y5, .int .i64 y6, .string y7] 33)).cell? ⟨bc, 3, none⟩ = some (.int .u32 x3) := by rw [cell_of HX.out]; rfl
  have c4 : (W.alloc (.cells #[.string y0, .int .i64 y1, .int .u32 y2, .int .u32 y3, .int .u32 y4, .int .i64 y5, .int .i64 y6, .string y7] 33)).cell? ⟨bc, 4, none⟩ = some (.int .u32 x4) := by rw [cell_of HX.out]; rfl
  have c5 : (W.alloc (.cells #[.string y0, .int .i64 y1, .int .u32 y2, .int .u32 y3, .int .u32 y4, .int .i64 y5, .int .i64 y6, .string y7] 33)).cell? ⟨bc, 5, none⟩ = some (.int .i64 x5) := by rw [cell_of HX.out]; rfl
  have c6 : (W.alloc (.cells #[.string y0, .int .i64 y1, .int .u32 y2, .int .u32 y3, .int .u32 y4, .int .i64 y5, .int .i64 y6, .string y7] 33)).cell? ⟨bc, 6, none⟩ = some (.int .i64 x6) := by rw [cell_of HX.out]; rfl
  have c7 : (W.alloc (.cells #[.string y0, .int .i64 y1, .int .u32 y2, .int .u32 y3, .int .u32 y4, .int .i64 y5, .int .i64 y6, .string y7] 33)).cell? ⟨bc, 7, none⟩ = some (.string x7) := by rw [cell_of HX.out]; rfl
  have d0 : (W.alloc (.cells #[.string y0, .int .i64 y1, .int .u32 y2, .int .u32 y3, .int .u32 y4, .int .i64 y5, .int .i64 y6, .string y7] 33)).cell? ⟨W.heap.size, 0, none⟩ = some (.string y0) := by rw [cell_of HY.out]; rfl
  have d1 : (W.alloc (.cells #[.string y0, .int .i64 y1, .int .u32 y2, .int .u32 y3, .int .u32 y4, .int .i64 y5, .int .i64 y6, .string y7] 33)).cell? ⟨W.heap.size, 1, none⟩ = some (.int .i64 y1) := by rw [cell_of HY.out]; rfl
  have d2 : (W.alloc (.cells #[.string y0, .int .i64 y1, .int .u32 y2, .int .u32 y3, .int .u32 y4, .int .i64 y5, .int .i64 y6, .string y7] 33)).cell? ⟨W.heap.size, 2, none⟩ = some (.int .u32 y2) := by rw [cell_of HY.out]; rfl
  have d3 : (W.alloc (.cells #[.string y0, .int .i64 y1, .int .u32 y2, .int .u32 y3, .int .u32 y4, .int .i64 y5, .int .i64 y6, .string y7] 33)).cell? ⟨W.heap.size, 3, none⟩ = some (.int .u32 y3) := by rw [cell_of HY.out]; rfl
  have d4 : (W.alloc (.cells #[.string y0, .int .i64 y1, .int .u32 y2, .int .u32 y3, .int .u32 y4, .int .i64 y5, .int .i64 y6, .string y7] 33)).cell? ⟨W.heap.size, 4, none⟩ = some (.int .u32 y4) := by rw [cell_of HY.out]; rfl
  have d5 : (W.alloc (.cells #[.string y0, .int .i64 y1, .int .u32 y2, .int .u32 y3, .int .u32 y4, .int .i64 y5, .int .i64 y6, .string y7] 33)).cell? ⟨W.heap.size, 5, none⟩ = some (.int .i64 y5) := by rw [cell_of HY.out]; rfl
  have d6 : (W.alloc (.cells #[.string y0, .int .i64 y1, .int .u32 y2, .int .u32 y3, .int .u32 y4, .int .i64 y5, .int .i64 y6, .string y7] 33)).cell? ⟨W.heap.size, 6, none⟩ = some (.int .i64 y6) := by rw [cell_of HY.out]; rfl
  have d7 : (W.alloc (.cells #[.string y0, .int .i64 y1, .int .u32 y2, .int .u32 y3, .int .u32 y4, .int .i64 y5, .int .i64 y6, .string y7] 33)).cell? ⟨W.heap.size, 7, none⟩ = some (.string y7) := by rw [cell_of HY.out]; rfl
  have HOD := Lib.hid (odds_any x0 x1 x2 x3 x4 x5 x6 x7 y0 y1 y2 y3 y4 y5 y6 y7 (W.alloc (.cells #[.string y0, .int .i64 y1, .int .u32 y2, .int .u32 y3, .int .u32 y4, .int .i64 y5, .int .i64 y6, .string y7] 33)))
  generalize oddsQ (x0, x1, x2, x3, x4, x5, x6, x7) (y0, y1, y2, y3, y4, y5, y6, y7) = R at *
  go_enter Tryz.func40, Tryz.ntmps40
  go_wp2_with fail
  refine HOD.out.mono ?_
  rintro e w1 ⟨rfl, hb⟩
  have HB := Lib.hid (below_next HB.out hb)
  clear hb
  go_wp2
  go_ret
  exact ⟨rfl, HB.out⟩
theorem asks_odds (x0 : ByteArray) (x1 x2 x3 x4 x5 x6 : Int) (x7 : ByteArray) (bc : Nat) (l : List It) (U : World) (hx : U.heap[bc]? = some (.cells #[.string x0, .int .i64 x1, .int .u32 x2, .int .u32 x3, .int .u32 x4, .int .i64 x5, .int .i64 x6, .string x7] 33)) : Asks U 40 bc (oddsQ (x0, x1, x2, x3, x4, x5, x6, x7)) l :=
  ⟨enters_of Tryz.func40 (by kernel_rfl) rfl, fun y0 y1 y2 y3 y4 y5 y6 y7 _ W hW => odds1_any y0 y1 y2 y3 y4 y5 y6 y7 x0 x1 x2 x3 x4 x5 x6 x7 bc W ((hW.block bc (Array.getElem?_eq_some_iff.1 hx).1).trans hx)⟩
theorem idx_any (p : It → Bool) (l : List It) : decide (0 ≤ idxP p l) = l.any p := by
  unfold idxP
  by_cases h : l.findIdx p < l.length
  · rw [if_pos h]
    have h1 : p l[l.findIdx p] = true := List.findIdx_getElem
    rw [List.any_eq_true.2 ⟨_, List.getElem_mem h, h1⟩]
    exact decide_eq_true (by omega)
  · rw [if_neg h]
    have h1 : l.any p = false := by
      rw [List.any_eq_false]
      intro x hx
      have := List.findIdx_eq_length.1 (show l.findIdx p = l.length by have := List.findIdx_le_length (p := p) (xs := l); omega) x hx
      simpa using this
    rw [h1]
    rfl
set_option maxHeartbeats 2000000 in
theorem contains_any (F bc : Nat) (p : It → Bool) (l : List It) (A : Option Addr) (c : Nat) (W : World) (hl : ItemC W A l) (hp : Asks W F bc p l) :
    Calls Tryz.prog 39 #[.slice A l.length c, .func (.func F) #[] #[.pointer (some ⟨bc, 0, none⟩)]] W fun e w' => e = .returned (.bool (l.any p)) ∧ Below W.heap.size W w' := by
  have HC := Lib.hid (index_any F bc p l A c W hl hp)
  have HA := Lib.hid (idx_any p l)
  clear hl hp
  generalize l.any p = R at *
  generalize idxP p l = r at *
  go_enter Tryz.func39, Tryz.ntmps39
  go_wp2_with fail
  refine HC.out.mono ?_
  rintro e w1 ⟨rfl, hb⟩
  have HB := Lib.hid hb
  clear hb
  go_wp2
  go_ret
  exact ⟨by rw [← HA.out]; rfl, HB.out⟩
set_option maxHeartbeats 4000000 in
set_option maxRecDepth 100000 in
theorem dodds_any (l : List It) (A : Option Addr) (c : Nat) (W : World) (hl : ItemC W A l) (hc : l.length ≤ c) :
    Calls Tryz.prog 9 #[.slice A l.length c] W fun e w' => e = .returned (.tuple #[.string (oddsP l).1, .bool (oddsP l).2]) ∧ Below W.heap.size W w' := by
  have HL := Lib.hid hl
  have l1 := hl.2.1
  clear hl
  obtain ⟨R, hR⟩ : ∃ R, R = oddsP l := ⟨_, rfl⟩
  have HR0 : Hid (oddsGo (l.take 0) (l.drop 0) = R) := Lib.hid hR.symm
  rw [← hR]
  clear hR
  go_enter Tryz.func9, Tryz.ntmps9
  go_wp2
  go_loopw [8] (fun v wr => ∃ k : Nat, k ≤ l.length ∧ v = .int .i64 k ∧ Hid (oddsGo (l.take k) (l.drop k) = R) ∧ Hid (Below W.heap.size W wr)) (fun v _ => l.length - (intOf v).toNat)
  case atStart => exact ⟨0, by omega, rfl, HR0, Lib.hid (Below.refl _ _)⟩
  case round =>
    clear HR0
    obtain ⟨k, hk, rfl, HR, HB⟩ := hrel
    by_cases hlt : k < l.length
    · obtain ⟨ad, rfl, e0, e1, e2, e3, e4, e5, e6, e7⟩ := item_at (Kd.C_below HL.out HB.out) hlt
      have hltI : (k : Int) < l.length := by omega
      have hkc : (k : Int) ≤ (c : Int) := by omega
      have hkn : ¬ (c : Int) < (k : Int) := by omega
      have hc0 : ¬ c = 0 := by omega
      have hr := HR.out
      rw [odds_at hlt] at hr
      have hkl : (l.take k).length = k := List.length_take_of_le hk
      clear HR
      generalize l[k] = x at *
      obtain ⟨x0, x1, x2, x3, x4, x5, x6, x7⟩ := x
      simp only at e0 e1 e2 e3 e4 e5 e6 e7 hr
      have hb1 := below_one wr (.cells #[.string x0, .int .i64 x1, .int .u32 x2, .int .u32 x3, .int .u32 x4, .int .i64 x5, .int .i64 x6, .string x7] 33)
      have HX := Lib.hid (heap_new wr (.cells #[.string x0, .int .i64 x1, .int .u32 x2, .int .u32 x3, .int .u32 x4, .int .i64 x5, .int .i64 x6, .string x7] 33))
      have HB := Lib.hid (below_next HB.out hb1)
      have HLk := Lib.hid (item_take (Kd.C_below HL.out HB.out) hk)
      clear hb1
      have HCT := Lib.hid (contains_any 40 wr.heap.size (oddsQ (x0, x1, x2, x3, x4, x5, x6, x7)) (l.take k) (some ad) c _ HLk.out (asks_odds x0 x1 x2 x3 x4 x5 x6 x7 wr.heap.size (l.take k) _ HX.out))
      rw [hkl] at HCT
      have HRR := Lib.hid hr
      clear hr hkl HLk
      go_wp2_with fail
      generalize (l.take k).any (oddsQ (x0, x1, x2, x3, x4, x5, x6, x7)) = q at *
      refine HCT.out.mono ?_
      rintro e w1 ⟨rfl, hb⟩
      have HX := Lib.hid ((hb.block _ (Array.getElem?_eq_some_iff.1 HX.out).1).trans HX.out)
      have HB := Lib.hid (below_next HB.out hb)
      clear hb HCT
      cases q with
      | true =>
        have c0 : w1.cell? ⟨wr.heap.size, 0, none⟩ = some (.string x0) := by rw [cell_of HX.out]; rfl
        have HS := Lib.hid (show (x0, true) = R from HRR.out)
        go_wp2
        refine bodyPost_ret (results_tmp2 rfl _ _ _) rfl ?_
        exact ⟨by rw [← HS.out]; rfl, HB.out⟩
      | false =>
        have HS := Lib.hid (show oddsGo (l.take (k + 1)) (l.drop (k + 1)) = R from HRR.out)
        clear HRR
        go_wp2
        go_roundw
        case rel => exact ⟨k + 1, by omega, by go_num, HS, HB⟩
        case measure => simp [intOf]; omega
    · have HS := Lib.hid (show (⟨#[]⟩, false) = R by rw [← HR.out, odds_end (by omega)])
      go_wp2
      refine bodyPost_ret (results_tmp2 rfl _ _ _) rfl ?_
      exact ⟨by rw [← HS.out]; rfl, HB.out⟩
end Go.Proofs.YtpjjooiamdfmfaaGreatDoor.Odds
