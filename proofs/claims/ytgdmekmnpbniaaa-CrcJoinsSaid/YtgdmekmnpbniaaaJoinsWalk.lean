/- The walk of CrcJoins: whatever the input it returns true and touches nothing that was there. -/
import Derived.Test.YtgdmekmnpbniaaaShiftsWalk
set_option linter.unusedVariables false
set_option linter.unusedSimpArgs false
namespace Go.Proofs.Ytgdmekmnpbniaaa.JoinsWalk
open Go.RowKit Go.Proofs.YtgdmekmnpbniaaaW.PrintWords Go.Proofs.Ytgdmekmnpbniaaa.CrcLaw Go.Proofs.Ytgdmekmnpbniaaa.CrcInt Go.Proofs.Ytgdmekmnpbniaaa.CrcWalk Go.Proofs.Ytgdmekmnpbniaaa.ShiftsWalk

set_option maxHeartbeats 400000 in
set_option maxRecDepth 100000 in
theorem join_any (p : Option Addr) (x y : B32) (n : Int) (h0 : 0 ≤ n) (h1 : n < 18446744073709551616) (w : World) :
    Calls Try.prog 17 #[.pointer p, .int .u32 (iv x), .int .u32 (iv y), .int .u64 n] w fun e w' => e = .returned (.int .u32 (iv (sts (8 * n.toNat) x ^^^ y))) ∧ Drawn0 w w' := by
  have x1 := xor_iv (sts (8 * n.toNat) x) y
  go_enter Try.func17, Try.ntmps17
  go_wp2_with (go_at_call 16; refine (shift_any _ _ (by omega) (by omega) _).mono ?_; rintro e w1 ⟨rfl, ⟨nd, rfl⟩⟩)
  go_ret
  exact ⟨rfl, by repeat (first | exact Drawn0.refl _ | apply Drawn0.step)⟩
theorem rshift_any (x : B32) (n : Int) (h0 : 0 ≤ n) (h1 : n ≤ 65535) (w : World) :
    Calls Try.prog 18 #[.int .u32 (iv x), .int .u64 n] w fun e w' => e = .returned (.int .u32 (iv (sts (8 * n.toNat) x))) ∧ Drawn0 w w' := by
  have h := rshift_iv (n.toNat + 10) x n.toNat (by omega) (by omega)
  rw [Int.toNat_of_nonneg h0] at h
  exact PCrcJoins.portmanteauref02_Shift.calls _ (iv x) n _ w h
theorem words_append (a b : ByteArray) : words (a ++ b) = words a ++ words b := by
  unfold words
  rw [ByteArray.data_append]
  simp
theorem tab_drewN {w : World} {a : Addr} {T : Nat → B32} (h : TabAt w a T) (n : Nat) : TabAt (w.drewN n) a T := fun i hi => h i hi
set_option maxHeartbeats 400000 in
set_option maxRecDepth 100000 in
theorem far (a b : ByteArray) (x : B32) (n : Int) (h : 5000 < a.size ∨ 5000 < b.size) (w : World) :
    Calls Try.prog 7 #[.string a, .string b, .int .u32 (iv x), .int .u16 n] w fun e w' => e = .returned (.bool true) ∧ Below w.heap.size w w' := by
  by_cases ha : 5000 < a.size
  · clear h
    have e1 : decide (5000 < (a.size : Int)) = true := decide_eq_true (by omega)
    go_enter Try.func7, Try.ntmps7
    go_wp2_with (go_at_call 8; refine (awake_any _).mono ?_; rintro e w1 ⟨rfl, hb⟩)
    go_ret
    exact ⟨rfl, hb⟩
  · have hb0 : 5000 < b.size := h.resolve_left ha
    clear h
    have e1 : decide (5000 < (a.size : Int)) = false := decide_eq_false (by omega)
    have e2 : decide (5000 < (b.size : Int)) = true := decide_eq_true (by omega)
    go_enter Try.func7, Try.ntmps7
    go_wp2_with (go_at_call 8; refine (awake_any _).mono ?_; rintro e w1 ⟨rfl, hb⟩)
    go_ret
    exact ⟨rfl, hb⟩
set_option maxHeartbeats 1000000 in
set_option maxRecDepth 100000 in
theorem near (a b : ByteArray) (x : B32) (n : Int) (ha : a.size ≤ 5000) (hb0 : b.size ≤ 5000) (h0 : 0 ≤ n) (h1 : n ≤ 65535) (w : World) :
    Calls Try.prog 7 #[.string a, .string b, .int .u32 (iv x), .int .u16 n] w fun e w' => e = .returned (.bool true) ∧ Below w.heap.size w w' := by
  have hz := zero25
  have hst := store25
  have d1 : decide (5000 < (a.size : Int)) = false := decide_eq_false (by omega)
  have d2 : decide (5000 < (b.size : Int)) = false := decide_eq_false (by omega)
  have e1 : (iv (sts (8 * b.size) (sumThr own 0#32 (words a)) ^^^ sumThr own 0#32 (words b)) == iv (sumThr own 0#32 (words (a ++ b)))) = true := by
    rw [beq_iff_eq, sumThr_own, sumThr_own, sumThr_own, words_append, ← words_length b, sum_join]
  have e2 : (iv (sumThr own (sumThr own 0#32 (words a)) (words b)) == iv (sumThr own 0#32 (words (a ++ b)))) = true := by
    rw [beq_iff_eq, sumThr_own, sumThr_own, sumThr_own, words_append, sum_on]
  have hab : (a ++ b).size ≤ 10000 := by rw [ByteArray.size_append]; omega
  go_enter Try.func7, Try.ntmps7
  go_wp2_with (first | (go_at_call 8; refine (awake_any _).mono ?_; rintro e w0 ⟨rfl, hb⟩) | (go_at_call 9; refine (make_any _).mono ?_; rintro e w1 ⟨rfl, hb1⟩) | (go_at_call 13; refine (sum_at _ _ own (by repeat (first | exact tab_own w1 w1 (tabC 256) rfl | apply tab_drewN)) _ (by omega)).mono ?_; rintro e w2 ⟨rfl, ⟨nd, rfl⟩⟩) | (go_at_call 12; refine (update_at _ _ own (by repeat (first | exact tab_own w1 w1 (tabC 256) rfl | apply tab_drewN)) _ _ (by omega)).mono ?_; rintro e w2 ⟨rfl, ⟨nd, rfl⟩⟩) | (go_at_call 17; refine (join_any _ _ _ _ (by omega) (by omega) _).mono ?_; rintro e w2 ⟨rfl, ⟨nd, rfl⟩⟩) | (go_at_call 16; refine (shift_any _ _ (by omega) (by omega) _).mono ?_; rintro e w2 ⟨rfl, ⟨nd, rfl⟩⟩) | (go_at_call 18; refine (rshift_any _ _ (by omega) (by omega) _).mono ?_; rintro e w2 ⟨rfl, ⟨nd, rfl⟩⟩))
  go_ret
  refine ⟨?_, ?_⟩
  · rfl
  · exact below_of ((below_then hb hb.size hb1).alloc (Nat.le_trans hb.size hb1.size) _) (by repeat (first | exact Drawn0.refl _ | apply Drawn0.step))
theorem walk (a b : ByteArray) (x n : Int) (w0 : a.size ≤ 140737488351232) (w1 : b.size ≤ 140737488351232) (w2 : (Lit.int .u32 x).wf = true) (w3 : (Lit.int .u16 n).wf = true) (w : World) :
    Calls Try.prog 7 #[.string a, .string b, .int .u32 x, .int .u16 n] w fun e w' => e = .returned (.bool true) ∧ Below w.heap.size w w' := by
  have b2 := bounds_u32 w2
  have b3 := bounds_u16 w3
  rw [iv_of b2.1 (by omega)]
  by_cases h : 5000 < a.size ∨ 5000 < b.size
  · exact far a b _ n h w
  · exact near a b _ n (by omega) (by omega) b3.1 b3.2 w
end Go.Proofs.Ytgdmekmnpbniaaa.JoinsWalk
