/- The walk of CrcSums: whatever the input it returns true and touches nothing that was there. -/
import Derived.Test.YtgdmekmnpbniaaaCrcWalk
import Derived.OpenShut
set_option linter.unusedVariables false
set_option linter.unusedSimpArgs false
namespace Go.Proofs.Ytgdmekmnpbniaaa.SumsWalk
open Go.RowKit Go.Proofs.YtgdmekmnpbniaaaW.PrintWords Go.Proofs.Ytgdmekmnpbniaaa.CrcLaw Go.Proofs.Ytgdmekmnpbniaaa.CrcInt Go.Proofs.Ytgdmekmnpbniaaa.CrcWalk

theorem below_of {w w1 w2 : World} (h : Below w.heap.size w w1) (k : Drawn0 w1 w2) : Below w.heap.size w w2 := h.trans (k.below.mono h.size)
theorem tab_drewN {w : World} {a : Addr} {T : Nat → B32} (h : TabAt w a T) (n : Nat) : TabAt (w.drewN n) a T := fun i hi => h i hi
theorem tab_below {w w2 : World} {a : Addr} {T : Nat → B32} (hb : Below w.heap.size w w2) (h : TabAt w a T) : TabAt w2 a T := fun i hi => pw_cell_below hb (h i hi)
theorem byte_any (x : B32) (w : World) : Calls Try.prog 10 #[.int .u32 (iv x)] w fun e w' => e = .returned (.int .u32 (iv (sts 8 x))) ∧ Drawn0 w w' :=
  PCrcSums.portmanteauref02_Byte.calls 9 (iv x) _ w (rbyte_S 9 (by omega) x)
theorem byte_own (k : Nat) (w : World) : Calls Try.prog 10 #[.int .u32 (iv (BitVec.ofNat 32 k))] w fun e w' => e = .returned (.int .u32 (iv (own k))) ∧ Drawn0 w w' := byte_any _ w
theorem rupd_any (x : B32) (s : ByteArray) (hs : s.size ≤ 20000) (w : World) : Calls Try.prog 11 #[.int .u32 (iv x), .string s] w fun e w' => e = .returned (.int .u32 (iv (sumFrom x (words s)))) ∧ Drawn0 w w' :=
  PCrcSums.portmanteauref02_Update.calls (s.size + 10) (iv x) s _ w (rupd_iv _ x s (by omega) (by omega))
theorem rsum_any (s : ByteArray) (hs : s.size ≤ 20000) (w : World) : Calls Try.prog 14 #[.string s] w fun e w' => e = .returned (.int .u32 (iv (sumFrom 0#32 (words s)))) ∧ Drawn0 w w' :=
  PCrcSums.portmanteauref02_Sum.calls (s.size + 10) s _ w (by
    unfold PCrcSums.portmanteauref02_Sum.f
    rw [show (0 : Int) = iv 0#32 by decide, rupd_iv _ 0#32 s (by omega) (by omega)]; rfl)
set_option maxHeartbeats 400000 in
set_option maxRecDepth 100000 in
theorem far (x : B32) (s : ByteArray) (h : 20000 < s.size) (w : World) :
    Calls Try.prog 3 #[.int .u32 (iv x), .string s] w fun e w' => e = .returned (.bool true) ∧ Below w.heap.size w w' := by
  have e1 : decide (20000 < (s.size : Int)) = true := decide_eq_true (by omega)
  clear h
  go_enter Try.func3, Try.ntmps3
  go_wp2_with (go_at_call 8; refine (awake_any _).mono ?_; rintro e w1 ⟨rfl, hb⟩)
  go_ret
  exact ⟨rfl, hb⟩
set_option maxHeartbeats 1000000 in
set_option maxRecDepth 100000 in
theorem near (x : B32) (s : ByteArray) (hs : s.size ≤ 20000) (w : World) :
    Calls Try.prog 3 #[.int .u32 (iv x), .string s] w fun e w' => e = .returned (.bool true) ∧ Below w.heap.size w w' := by
  have hz := zero25
  have hst := store25
  have e1 : decide (20000 < (s.size : Int)) = false := decide_eq_false (by omega)
  have HS := sumThr_own s x
  have HS0 := sumThr_own s 0#32
  go_enter Try.func3, Try.ntmps3
  go_wp2_with (first | (go_at_call 8; refine (awake_any _).mono ?_; rintro e w0 ⟨rfl, hb⟩) | (go_at_call 9; refine (make_any _).mono ?_; rintro e w1 ⟨rfl, hb1⟩))
  have HB1 := Lib.hid ((below_then hb hb.size hb1).alloc (Nat.le_trans hb.size hb1.size) (.cells (tabC 256) 25))
  have HT := Lib.hid (tab_own w1 w1 (tabC 256) rfl)
  obtain ⟨a, ha⟩ : ∃ a : Addr, a = ⟨w1.heap.size, 0, none⟩ := ⟨_, rfl⟩
  rw [← ha] at HT ⊢
  obtain ⟨W1, hW⟩ : ∃ W1 : World, W1 = w1.alloc (.cells (tabC 256) 25) := ⟨_, rfl⟩
  rw [← hW] at HB1 HT ⊢
  clear hst hz hb hb1 ha hW
  go_loopw [15] (fun i wr => ∃ k : Nat, k ≤ 256 ∧ i = .int .i64 k ∧ Drawn0 W1 wr) (fun i _ => 256 - (intOf i).toNat)
  case atStart => exact ⟨0, by omega, rfl, Drawn0.refl _⟩
  case round =>
    obtain ⟨k, hk, rfl, hd⟩ := hrel
    have HT2 : Hid (TabAt wr a own) := Lib.hid (by obtain ⟨m, rfl⟩ := hd; exact tab_drewN HT.out m)
    by_cases hlt : k < 256
    · have hdec : decide ((k : Int) < 256) = true := decide_eq_true (by omega)
      have hltI : (k : Int) < 256 := by omega
      have hcell := HT2.out k hlt
      have hn := num_iv k hlt
      have HC := Lib.hid (byte_own k)
      rw [← hn] at HC
      have hwr : IntKind.u32.wrap (k : Int) = k := by rw [hn, wrap_iv]
      clear hn
      go_wp2
      go_quiet ((go_at_call 10; exact Calls.quiet_of ((HC.out _).mono fun _ _ h => ⟨h.1, h.2.out⟩)))
      go_wp2
      go_roundw
      case rel => exact ⟨k + 1, by omega, by go_num, hd.step _⟩
      case measure => simp [intOf]; omega
    · obtain rfl : k = 256 := by omega
      go_wp2_with (first | (go_at_call 11; refine (rupd_any _ _ (by omega) _).mono ?_; rintro e w2 ⟨rfl, ⟨nd, rfl⟩⟩) | (go_at_call_of 12 (Value.pointer (some a)); refine (update_at _ _ own (by repeat (first | exact HT2.out | apply tab_drewN)) _ _ (by omega)).mono ?_; rintro e w2 ⟨rfl, ⟨nd, rfl⟩⟩) | (go_at_call_of 12 (Value.pointer none); refine (update_nil _ _ _ (by omega)).mono ?_; rintro e w2 ⟨rfl, hb2⟩) | (go_at_call 13; refine (sum_at _ _ own (tab_below hb2 (by repeat (first | exact HT2.out | apply tab_drewN))) _ (by omega)).mono ?_; rintro e w3 ⟨rfl, ⟨nd, rfl⟩⟩) | (go_at_call 14; refine (rsum_any _ (by omega) _).mono ?_; rintro e w4 ⟨rfl, ⟨nd, rfl⟩⟩))
      go_ret
      refine ⟨by rfl, below_of (below_then (below_of (below_of HB1.out hd) (by repeat (first | exact Drawn0.refl _ | apply Drawn0.step))) ?_ hb2) (by repeat (first | exact Drawn0.refl _ | apply Drawn0.step))⟩
      exact (below_of HB1.out hd).size
theorem walk (x : Int) (s : ByteArray) (w0 : (Lit.int .u32 x).wf = true) (w1 : s.size ≤ 140737488351232) (w : World) :
    Calls Try.prog 3 #[.int .u32 x, .string s] w fun e w' => e = .returned (.bool true) ∧ Below w.heap.size w w' := by
  have b := bounds_u32 w0
  rw [iv_of b.1 (by omega)]
  by_cases h : 20000 < s.size
  · exact far _ s h w
  · exact near _ s (by omega) w
end Go.Proofs.Ytgdmekmnpbniaaa.SumsWalk
