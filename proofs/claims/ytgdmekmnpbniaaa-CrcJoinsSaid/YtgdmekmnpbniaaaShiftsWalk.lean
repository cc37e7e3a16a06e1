/- The walk of CrcShifts: whatever the input it returns true and touches nothing that was there. -/
import Derived.Test.YtgdmekmnpbniaaaCrcWalk
import Derived.OpenShut
set_option linter.unusedVariables false
set_option linter.unusedSimpArgs false
namespace Go.Proofs.Ytgdmekmnpbniaaa.ShiftsWalk
open Go.RowKit Go.Proofs.YtgdmekmnpbniaaaW.PrintWords Go.Proofs.Ytgdmekmnpbniaaa.CrcLaw Go.Proofs.Ytgdmekmnpbniaaa.CrcInt Go.Proofs.Ytgdmekmnpbniaaa.CrcWalk

theorem shift_any (x : B32) (n : Int) (h0 : 0 ≤ n) (h1 : n < 18446744073709551616) (w : World) :
    Calls Try.prog 16 #[.int .u32 (iv x), .int .u64 n] w fun e w' => e = .returned (.int .u32 (iv (sts (8 * n.toNat) x))) ∧ Drawn0 w w' := by
  have h := shift_iv 98 (by omega) x n.toNat (by omega)
  rw [Int.toNat_of_nonneg h0] at h
  exact PCrcJoins.crc_Shift.calls 98 (iv x) n _ w h
theorem below_of {w w1 w2 : World} (h : Below w.heap.size w w1) (k : Drawn0 w1 w2) : Below w.heap.size w w2 := h.trans (k.below.mono h.size)
set_option maxHeartbeats 400000 in
set_option maxRecDepth 100000 in
theorem over (x y : B32) (a b : Int) (h0 : 0 ≤ a) (h1 : a < 18446744073709551616) (h2 : 0 ≤ b) (h3 : b < 18446744073709551616) (h4 : 18446744073709551616 ≤ a + b) (w : World) :
    Calls Try.prog 6 #[.int .u32 (iv x), .int .u32 (iv y), .int .u64 a, .int .u64 b] w fun e w' => e = .returned (.bool true) ∧ Below w.heap.size w w' := by
  have hw : decide (IntKind.u64.wrap (a + b) < a) = true := by
    rw [decide_eq_true_iff]; simp only [IntKind.wrap, IntKind.bits, IntKind.signed, Bool.false_and, if_neg (Bool.false_ne_true)]; omega
  clear h1 h3 h4
  go_enter Try.func6, Try.ntmps6
  go_wp2_with (go_at_call 8; refine (awake_any _).mono ?_; rintro e w1 ⟨rfl, hb⟩)
  go_ret
  exact ⟨rfl, hb⟩
set_option maxHeartbeats 400000 in
set_option maxRecDepth 100000 in
theorem within (x y : B32) (a b : Int) (h0 : 0 ≤ a) (h1 : a < 18446744073709551616) (h2 : 0 ≤ b) (h3 : b < 18446744073709551616) (h4 : a + b < 18446744073709551616) (w : World) :
    Calls Try.prog 6 #[.int .u32 (iv x), .int .u32 (iv y), .int .u64 a, .int .u64 b] w fun e w' => e = .returned (.bool true) ∧ Below w.heap.size w w' := by
  have hs : IntKind.u64.wrap (a + b) = a + b := by
    simp only [IntKind.wrap, IntKind.bits, IntKind.signed, Bool.false_and, if_neg (Bool.false_ne_true)]; omega
  have hw : decide (a + b < a) = false := by rw [decide_eq_false_iff_not]; omega
  have e1 : (iv (sts (8 * b.toNat) (sts (8 * a.toNat) x)) == iv (sts (8 * (a + b).toNat) x)) = true := by
    rw [beq_iff_eq, ← sts_add]; congr 2; omega
  have e2 : (iv (sts (8 * a.toNat) (x ^^^ y)) == iv (sts (8 * a.toNat) x ^^^ sts (8 * a.toNat) y)) = true := by
    rw [beq_iff_eq, sts_xor]
  have e3 : (iv (sts 0 x) == iv x) = true := by rw [beq_iff_eq]; rfl
  have x1 := xor_iv x y
  have x2 := xor_iv (sts (8 * a.toNat) x) (sts (8 * a.toNat) y)
  go_enter Try.func6, Try.ntmps6
  go_wp2_with (first | (go_at_call 8; refine (awake_any _).mono ?_; rintro e w1 ⟨rfl, hb⟩) | (go_at_call 16; refine (shift_any _ _ (by omega) (by omega) _).mono ?_; rintro e w1 ⟨rfl, ⟨nd, rfl⟩⟩))
  go_ret
  exact ⟨rfl, below_of hb (by repeat (first | exact Drawn0.refl _ | apply Drawn0.step))⟩
theorem law_any (x y : B32) (a b : Int) (h0 : 0 ≤ a) (h1 : a < 18446744073709551616) (h2 : 0 ≤ b) (h3 : b < 18446744073709551616) (w : World) :
    Calls Try.prog 6 #[.int .u32 (iv x), .int .u32 (iv y), .int .u64 a, .int .u64 b] w fun e w' => e = .returned (.bool true) ∧ Below w.heap.size w w' := by
  by_cases h : a + b < 18446744073709551616
  · exact within x y a b h0 h1 h2 h3 h w
  · exact over x y a b h0 h1 h2 h3 (by omega) w
end Go.Proofs.Ytgdmekmnpbniaaa.ShiftsWalk
namespace Go.Proofs.Ytgdmekmnpbniaaa.ShiftsWalk
open Go.RowKit Go.Proofs.Ytgdmekmnpbniaaa.CrcLaw Go.Proofs.Ytgdmekmnpbniaaa.CrcInt
theorem walk (x y a b : Int) (w0 : (Lit.int .u32 x).wf = true) (w1 : (Lit.int .u32 y).wf = true) (w2 : (Lit.int .u64 a).wf = true) (w3 : (Lit.int .u64 b).wf = true) (w : World) :
    Calls Try.prog 6 #[.int .u32 x, .int .u32 y, .int .u64 a, .int .u64 b] w fun e w' => e = .returned (.bool true) ∧ Below w.heap.size w w' := by
  have b0 := bounds_u32 w0
  have b1 := bounds_u32 w1
  have b2 := bounds_u64 w2
  have b3 := bounds_u64 w3
  rw [iv_of b0.1 (by omega), iv_of b1.1 (by omega)]
  exact law_any _ _ a b b2.1 (by omega) b3.1 (by omega) w
end Go.Proofs.Ytgdmekmnpbniaaa.ShiftsWalk
