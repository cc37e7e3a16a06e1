/- What the sum's functions over the table do: Make, Update, Sum. -/
import Derived.Test.YtgdmekmnpbniaaaCrcInt
import Derived.Lib.Hide
import Derived.Deep.WholeRow
set_option linter.unusedVariables false
set_option linter.unusedSimpArgs false
namespace Go.Proofs.Ytgdmekmnpbniaaa.CrcWalk
open Go.RowKit Go.Proofs.YtgdmekmnpbniaaaW.PrintWords Go.Proofs.YtgdmekmnpbniaaaW.PrintLast Go.Proofs.YtgdmekmnpbniaaaW.PrintMore Go.Proofs.Ytgdmekmnpbniaaa.CrcLaw Go.Proofs.Ytgdmekmnpbniaaa.CrcInt

set_option maxHeartbeats 400000 in
theorem step_any (x : B32) (w : World) : Calls Try.prog 19 #[.int .u32 (iv x)] w fun e w' => e = .returned (.int .u32 (iv (st x))) ∧ w = w' := by
  by_cases h : iv x % 2 = 1
  · have e : iv (st x) = Go.bits .xor .u32 (iv x / 2) 3988292384 := by rw [st_odd h, half_iv, iv_poly, xor_iv]
    have c : (Go.bits .and .u32 (iv x) 1 == 1) = true := by rw [and_one]; exact beq_iff_eq.2 h
    rw [e]
    clear e h
    go_enter Try.func19, Try.ntmps19
    go_wp2
    go_ret
    exact ⟨rfl, rfl⟩
  · have e : iv (st x) = iv x / 2 := by rw [st_even h, half_iv]
    have c : (Go.bits .and .u32 (iv x) 1 == 1) = false := by rw [and_one]; exact beq_eq_false_iff_ne.2 h
    rw [e]
    clear e h
    go_enter Try.func19, Try.ntmps19
    go_wp2
    go_ret
    exact ⟨rfl, rfl⟩

/-- The table's cells behind k rounds. -/
def tabC (k : Nat) : Array Value := Array.ofFn (n := 256) fun i => .int .u32 (if i.val < k then iv (own i.val) else 0)
theorem zero25 (w : World) : (zeroValue 25).run Try.prog w = .ok (.agg (tabC 0)) w := by kernel_rfl
theorem tabC_size (k : Nat) : (tabC k).size = 256 := by simp [tabC]
theorem tabC_set (k : Nat) : (tabC k).setIfInBounds k (.int .u32 (iv (own k))) = tabC (k + 1) := by
  apply Array.ext
  · simp [tabC]
  · intro i h1 h2
    simp only [tabC, Array.size_ofFn, Array.size_setIfInBounds] at h1 h2
    rw [Array.getElem_setIfInBounds (by simpa [tabC] using h2)]
    simp only [tabC, Array.getElem_ofFn]
    by_cases e : k = i
    · subst e; simp
    · rw [if_neg e]
      by_cases h : i < k
      · rw [if_pos h, if_pos (by omega)]
      · rw [if_neg h, if_neg (by omega)]
theorem tabC_one (k : Nat) : (tabC k).all (·.oneCell') = true := by
  rw [Array.all_eq_true]
  intro i hi
  simp only [tabC, Array.getElem_ofFn]
  rfl
theorem num_iv (k : Nat) (hk : k < 256) : (k : Int) = iv (BitVec.ofNat 32 k) := iv_lit k (by omega)
set_option maxHeartbeats 400000 in
set_option maxRecDepth 100000 in
theorem make_any (w : World) : Calls Try.prog 9 #[] w fun e w' => e = .returned (.agg (tabC 256)) ∧ Below w.heap.size w w' := by
  have hz := zero25
  go_enter Try.func9, Try.ntmps9
  go_wp2
  go_loopw [4] (fun i wr => ∃ k : Nat, k ≤ 256 ∧ i = .int .i64 k ∧ wr = (w.alloc (.cells (tabC 0) 25)).alloc (.cells (tabC k) 25)) (fun i _ => 256 - (intOf i).toNat)
  case atStart => exact ⟨0, by omega, rfl, rfl⟩
  case round =>
    obtain ⟨k, hk, rfl, rfl⟩ := hrel
    by_cases hlt : k < 256
    · have hdec : decide ((k : Int) < 256) = true := decide_eq_true (by omega)
      go_wp2
      go_loopw [3, 9] (fun n j wr => ∃ m : Nat, m ≤ 8 ∧ j = .int .i64 m ∧ n = .int .u32 (iv (sts m (BitVec.ofNat 32 k))) ∧ wr = (w.alloc (.cells (tabC 0) 25)).alloc (.cells (tabC k) 25)) (fun _ j _ => 8 - (intOf j).toNat)
      case atStart => exact ⟨0, by omega, rfl, by rw [num_iv k hlt]; rfl, rfl⟩
      case round =>
        obtain ⟨m, hm, rfl, rfl, rfl⟩ := hrel
        by_cases hlm : m < 8
        · have hs : iv (sts (m + 1) (BitVec.ofNat 32 k)) = iv (st (sts m (BitVec.ofNat 32 k))) := by rw [sts_add]; rfl
          have HS := Lib.hid hs
          clear hs
          go_wp2_with (go_at_call 19; refine (step_any _ _).mono ?_; rintro e w' ⟨rfl, rfl⟩)
          go_roundw
          case rel => exact ⟨m + 1, by omega, by go_num, by rw [HS.out], trivial⟩
          case measure => simp [intOf]; omega
        · obtain ⟨C, hC⟩ : ∃ C, tabC k = C := ⟨_, rfl⟩
          have hsz := tabC_size k
          have hset := tabC_set k
          rw [hC] at hsz hset
          rw [hC]
          obtain ⟨V, hV⟩ : ∃ V, iv (sts m (BitVec.ofNat 32 k)) = V := ⟨_, rfl⟩
          have hv : V = iv (own k) := by rw [← hV, show m = 8 by omega]; rfl
          rw [hV]
          rw [← hv] at hset
          have HSet := Lib.hid hset
          clear hv hV hset hC
          go_wp2
          go_roundw
          case rel => exact ⟨k + 1, by omega, by go_num, by rw [HSet.out]⟩
          case measure => simp [intOf]; omega
    · obtain rfl : k = 256 := by omega
      obtain ⟨C, hC⟩ : ∃ C, tabC 256 = C := ⟨_, rfl⟩
      have hsz := tabC_size 256
      have hone0 := tabC_one 256
      rw [hC] at hsz hone0
      rw [hC]
      obtain ⟨Z, hZ⟩ : ∃ Z, tabC 0 = Z := ⟨_, rfl⟩
      have hsz0 := tabC_size 0
      rw [hZ] at hsz0
      rw [hZ]
      have hC := Lib.hid hC
      clear hZ hz
      have hone : Hid (C.all (·.oneCell') = true) := Lib.hid hone0
      clear hone0
      go_wp2_with (first | (with_reducible refine wpList_load_row rfl 25 (.tmp 1) rfl (w.heap.size + 1) rfl 25 C (0, 0) (.array 256 22) (heap_alloc2_new w _ _) (by kernel_rfl) rfl (by rw [hsz]; kernel_rfl) ?_) | (with_reducible refine wpList_store_row rfl 25 (.tmp 0) (.tmp 18) rfl w.heap.size C rfl rfl 25 Z (heap_alloc2_old w _ _) (by rw [hsz]; kernel_rfl) (by rw [hsz, hsz0]) hone.out ?_))
      refine bodyPost_ret (v := .agg C) (results_cell_row Try.results9 _ _ w.heap.size 25 C (0, 0) (.array 256 22) rfl ?_ (by kernel_rfl) rfl (by rw [hsz]; kernel_rfl)) rfl ⟨by rw [hC.out], ?_⟩
      · exact setRow_heap _ _ _ _ _ _ (heap_alloc2_old w _ _)
      · have hb : Below w.heap.size w ((w.alloc (.cells Z 25)).alloc (.cells C 25)) := ((Below.refl _ _).alloc (Nat.le_refl _) _).alloc (by simp) _
        exact ⟨hb.os, hb.tape, hb.output, by simp; omega, fun i hi => (setRow_other _ _ _ _ (by omega)).trans (hb.block i hi)⟩

/-- The cells of a table that lies at an address. -/
def TabAt (w : World) (a : Addr) (T : Nat → B32) : Prop := ∀ i, i < 256 → w.cell? (a.add i) = some (.int .u32 (iv (T i)))
theorem u8_iv (x : B32) : IntKind.u8.wrap (iv x) = iv (x &&& 255#32) := by rw [IntKind.wrap_u8, low_iv]
theorem bits8 (x c : B32) : Go.bits .xor .u8 (iv (x &&& 255#32)) (iv (c &&& 255#32)) = iv ((x ^^^ c) &&& 255#32) := by
  have e : Go.bits .xor .u8 (iv (x &&& 255#32)) (iv (c &&& 255#32)) = IntKind.u8.wrap (((BitVec.ofInt 8 (iv (x &&& 255#32))) ^^^ (BitVec.ofInt 8 (iv (c &&& 255#32)))).toNat : Int) := rfl
  have f : ∀ y : B32, BitVec.ofInt 8 (iv (y &&& 255#32)) = y.truncate 8 := by
    intro y
    rw [← low_iv]
    unfold iv
    apply BitVec.eq_of_toNat_eq
    rw [show ((y.toNat : Int) % 256) = ((y.toNat % 256 : Nat) : Int) by omega, BitVec.ofInt_natCast, BitVec.toNat_ofNat]
    simp
  rw [e, f, f]
  rw [show IntKind.u8.wrap ((x.truncate 8 ^^^ c.truncate 8 : BitVec 8).toNat : Int) = ((x.truncate 8 ^^^ c.truncate 8 : BitVec 8).toNat : Int) by
    rw [IntKind.wrap_u8]; have := (x.truncate 8 ^^^ c.truncate 8 : BitVec 8).isLt; omega]
  unfold iv
  rw [show (x.truncate 8 ^^^ c.truncate 8 : BitVec 8) = (x ^^^ c).truncate 8 by
    apply BitVec.eq_of_getLsbD_eq; intro i hi; simp only [BitVec.truncate_eq_setWidth, BitVec.getLsbD_xor, BitVec.getLsbD_setWidth]; simp [hi]]
  rw [BitVec.toNat_and, show (255#32 : B32).toNat = 2 ^ 8 - 1 by decide, Nat.and_two_pow_sub_one_eq_mod, BitVec.truncate_eq_setWidth, BitVec.toNat_setWidth]
theorem byte_word (s : ByteArray) (k : Nat) (h : k < s.size) : ((s[k]).toNat : Int) = iv ((words s)[k]'(by rw [words_length]; exact h) &&& 255#32) := by
  have e : (words s)[k]'(by rw [words_length]; exact h) = BitVec.ofNat 32 (s[k]).toNat := by
    simp [words]; rfl
  rw [e, word_low]
  exact iv_lit _ (by have := (s[k]).toNat_lt; omega)
set_option maxHeartbeats 400000 in
set_option maxRecDepth 100000 in
theorem update_at (w : World) (a : Addr) (T : Nat → B32) (hT : TabAt w a T) (x : B32) (s : ByteArray) (hs : s.size ≤ 140737488351232) :
    Calls Try.prog 12 #[.pointer (some a), .int .u32 (iv x), .string s] w fun e w' => e = .returned (.int .u32 (iv (sumThr T x (words s)))) ∧ Drawn0 w w' := by
  have HT := Lib.hid hT
  clear hT
  have hx : Go.bits .xor .u32 IntKind.u32.max (iv x) = iv (~~~ x) := by
    rw [show IntKind.u32.max = iv (BitVec.allOnes 32) by decide, xor_iv, not_eq_xor, BitVec.xor_comm]
  go_enter Try.func12, Try.ntmps12
  go_wp2
  clear hx
  go_loopw [1, 8, 16] (fun n _ i wr => ∃ (k : Nat) (y : B32), k ≤ s.size ∧ i = .int .i64 k ∧ n = .int .u32 (iv y) ∧ Hid (~~~ (thr T y ((words s).drop k)) = sumThr T x (words s)) ∧ Drawn0 w wr) (fun _ _ i _ => s.size - (intOf i).toNat)
  case atStart => exact ⟨0, ~~~ x, by omega, rfl, rfl, Lib.hid rfl, Drawn0.refl _⟩
  case round =>
    obtain ⟨k, y, hk, rfl, rfl, HY, ⟨m, rfl⟩⟩ := hrel
    by_cases hlt : k < s.size
    · obtain ⟨J, hJ⟩ : ∃ J, ((y ^^^ (words s)[k]'(by rw [words_length]; exact hlt)) &&& 255#32).toNat = J := ⟨_, rfl⟩
      have hJ1 : J < 256 := by
        rw [← hJ, BitVec.toNat_and, show (255#32 : B32).toNat = 2 ^ 8 - 1 by decide, Nat.and_two_pow_sub_one_eq_mod]; omega
      have hw := words_drop s k hlt
      have hb := byte_word s k hlt
      have h8 := bits8 y ((words s)[k]'(by rw [words_length]; exact hlt))
      have hu := u8_iv y
      have hcell := HT.out J hJ1
      have hn : thrStep T y ((words s)[k]'(by rw [words_length]; exact hlt)) = T J ^^^ (y >>> 8) := by unfold thrStep; rw [hJ]
      have h9 : Go.bits .xor .u32 (iv (T J)) (iv y / 256) = iv (T J ^^^ (y >>> 8)) := by rw [byte_iv, xor_iv]
      rw [← hb, show iv ((y ^^^ (words s)[k]'(by rw [words_length]; exact hlt)) &&& 255#32) = (J : Int) by rw [← hJ]; rfl] at h8
      have HN := Lib.hid hn
      have HW := Lib.hid hw
      have HB := Lib.hid hb
      clear hb hn hw hJ
      go_wp2
      go_quiet (fail)
      go_wp2
      go_roundw
      case rel => exact ⟨k + 1, thrStep T y ((words s)[k]'(by rw [words_length]; exact hlt)), by omega, by go_num, by rw [HN.out], Lib.hid (by rw [← HY.out, HW.out]; rfl), by repeat (first | exact Drawn0.refl _ | apply Drawn0.step)⟩
      case measure => simp [intOf]; omega
    · obtain rfl : k = s.size := by omega
      have hf : ~~~ y = sumThr T x (words s) := by
        have := HY.out
        rwa [List.drop_of_length_le (by rw [words_length]; omega)] at this
      have hx : Go.bits .xor .u32 IntKind.u32.max (iv y) = iv (~~~ y) := by
        rw [show IntKind.u32.max = iv (BitVec.allOnes 32) by decide, xor_iv, not_eq_xor, BitVec.xor_comm]
      have HF := Lib.hid hf
      clear hf
      go_wp2
      go_ret
      exact ⟨by rw [← HF.out]; rfl, by repeat (first | exact Drawn0.refl _ | apply Drawn0.step)⟩

set_option maxHeartbeats 400000 in
set_option maxRecDepth 100000 in
theorem sum_at (w : World) (a : Addr) (T : Nat → B32) (hT : TabAt w a T) (s : ByteArray) (hs : s.size ≤ 140737488351232) :
    Calls Try.prog 13 #[.pointer (some a), .string s] w fun e w' => e = .returned (.int .u32 (iv (sumThr T 0#32 (words s)))) ∧ Drawn0 w w' := by
  have HU := Lib.hid (update_at w a T hT 0#32 s hs)
  clear hT
  go_enter Try.func13, Try.ntmps13
  go_wp2_with (go_at_call 12; refine HU.out.mono ?_; rintro e w' ⟨rfl, ⟨nd, rfl⟩⟩)
  go_ret
  exact ⟨rfl, by repeat (first | exact Drawn0.refl _ | apply Drawn0.step)⟩
theorem tab_own (W w : World) (c : Array Value) (hc : c = tabC 256) : TabAt (W.alloc (.cells c 25)) ⟨W.heap.size, 0, none⟩ own := by
  subst hc
  intro i hi
  rw [add_plain, cell_of_row _ _ _ _ _ _ (heap_alloc_new W _)]
  rw [Array.getElem?_eq_getElem (by rw [tabC_size]; exact hi)]
  simp only [tabC, Array.getElem_ofFn]
  rw [if_pos hi]
theorem store25 (w : World) : (storeCells ⟨w.heap.size, 0, none⟩ (tabC 256).toList).run Try.prog (w.alloc (.cells (tabC 0) 25)) = .ok () (w.alloc (.cells (tabC 256) 25)) :=
  run_storeCells_new w 25 (tabC 0) (tabC 256) (by rw [tabC_size]; kernel_rfl) (by rw [tabC_size, tabC_size]) (tabC_one 256)
set_option maxHeartbeats 400000 in
set_option maxRecDepth 100000 in
theorem update_nil (w : World) (x : B32) (s : ByteArray) (hs : s.size ≤ 140737488351232) :
    Calls Try.prog 12 #[.pointer none, .int .u32 (iv x), .string s] w fun e w' => e = .returned (.int .u32 (iv (sumFrom x (words s)))) ∧ Below w.heap.size w w' := by
  have hz := zero25
  go_enter Try.func12, Try.ntmps12
  have hst := store25
  have hx : Go.bits .xor .u32 IntKind.u32.max (iv x) = iv (~~~ x) := by
    rw [show IntKind.u32.max = iv (BitVec.allOnes 32) by decide, xor_iv, not_eq_xor, BitVec.xor_comm]
  go_wp2_with (go_at_call 9; refine (make_any _).mono ?_; rintro e w' ⟨rfl, hb⟩)
  have HB1 := Lib.hid (hb.alloc hb.size (.cells (tabC 256) 25))
  have HT := Lib.hid (tab_own w' w' (tabC 256) rfl)
  have HZ1 := Lib.hid (show w.heap.size ≤ (w'.alloc (.cells (tabC 256) 25)).heap.size by have := hb.size; simp; omega)
  obtain ⟨a, ha⟩ : ∃ a : Addr, a = ⟨w'.heap.size, 0, none⟩ := ⟨_, rfl⟩
  rw [← ha] at HT ⊢
  obtain ⟨W1, hW⟩ : ∃ W1 : World, W1 = w'.alloc (.cells (tabC 256) 25) := ⟨_, rfl⟩
  rw [← hW] at HB1 HT HZ1 ⊢
  clear hst hx hz hb ha hW
  go_loopw [1, 8, 16] (fun n _ i wr => ∃ (k : Nat) (y : B32), k ≤ s.size ∧ i = .int .i64 k ∧ n = .int .u32 (iv y) ∧ Hid (~~~ (thr own y ((words s).drop k)) = sumThr own x (words s)) ∧ Drawn0 W1 wr) (fun _ _ i _ => s.size - (intOf i).toNat)
  case atStart => exact ⟨0, ~~~ x, by omega, rfl, rfl, Lib.hid rfl, Drawn0.refl _⟩
  case round =>
    obtain ⟨k, y, hk, rfl, rfl, HY, ⟨m, rfl⟩⟩ := hrel
    by_cases hlt : k < s.size
    · obtain ⟨J, hJ⟩ : ∃ J, ((y ^^^ (words s)[k]'(by rw [words_length]; exact hlt)) &&& 255#32).toNat = J := ⟨_, rfl⟩
      have hJ1 : J < 256 := by
        rw [← hJ, BitVec.toNat_and, show (255#32 : B32).toNat = 2 ^ 8 - 1 by decide, Nat.and_two_pow_sub_one_eq_mod]; omega
      have hw := words_drop s k hlt
      have hb := byte_word s k hlt
      have h8 := bits8 y ((words s)[k]'(by rw [words_length]; exact hlt))
      have hu := u8_iv y
      have hcell := HT.out J hJ1
      have hn : thrStep own y ((words s)[k]'(by rw [words_length]; exact hlt)) = own J ^^^ (y >>> 8) := by unfold thrStep; rw [hJ]
      have h9 : Go.bits .xor .u32 (iv (own J)) (iv y / 256) = iv (own J ^^^ (y >>> 8)) := by rw [byte_iv, xor_iv]
      rw [← hb, show iv ((y ^^^ (words s)[k]'(by rw [words_length]; exact hlt)) &&& 255#32) = (J : Int) by rw [← hJ]; rfl] at h8
      have HN := Lib.hid hn
      have HW := Lib.hid hw
      have HB := Lib.hid hb
      clear hb hn hw hJ
      go_wp2
      go_quiet (fail)
      go_wp2
      go_roundw
      case rel => exact ⟨k + 1, thrStep own y ((words s)[k]'(by rw [words_length]; exact hlt)), by omega, by go_num, by rw [HN.out], Lib.hid (by rw [← HY.out, HW.out]; rfl), by repeat (first | exact Drawn0.refl _ | apply Drawn0.step)⟩
      case measure => simp [intOf]; omega
    · obtain rfl : k = s.size := by omega
      have hf : ~~~ y = sumThr own x (words s) := by
        have := HY.out
        rwa [List.drop_of_length_le (by rw [words_length]; omega)] at this
      have hx : Go.bits .xor .u32 IntKind.u32.max (iv y) = iv (~~~ y) := by
        rw [show IntKind.u32.max = iv (BitVec.allOnes 32) by decide, xor_iv, not_eq_xor, BitVec.xor_comm]
      have HF := Lib.hid hf
      clear hf
      go_wp2
      go_ret
      exact ⟨by rw [← sumThr_own, ← HF.out]; rfl, HB1.out.trans ((Drawn0.below (by repeat (first | exact Drawn0.refl _ | apply Drawn0.step))).mono HZ1.out)⟩

theorem check_sum : iv (sumThr own 0#32 (words ⟨#[49, 50, 51, 52, 53, 54, 55, 56, 57]⟩)) = 3421780262 := by decide +kernel
set_option maxHeartbeats 400000 in
set_option maxRecDepth 100000 in
theorem awake_any (w : World) : Calls Try.prog 8 #[] w fun e w' => e = .returned (.bool true) ∧ Below w.heap.size w w' := by
  have hz := zero25
  have hst := store25
  have hck := check_sum
  go_enter Try.func8, Try.ntmps8
  go_wp2_with (first | (go_at_call 9; refine (make_any _).mono ?_; rintro e w1 ⟨rfl, hb⟩) | (go_at_call 13; refine (sum_at _ _ own (tab_own w1 w1 (tabC 256) rfl) _ (by decide)).mono ?_; rintro e w2 ⟨rfl, ⟨nd, rfl⟩⟩))
  go_ret
  exact ⟨by first | rfl | simp, pw_below_drewN (hb.alloc hb.size _) _⟩
end Go.Proofs.Ytgdmekmnpbniaaa.CrcWalk
