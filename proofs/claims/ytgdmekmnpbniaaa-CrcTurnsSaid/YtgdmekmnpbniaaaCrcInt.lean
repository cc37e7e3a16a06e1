/- What the printed functions of the sum answer, over BitVec 32. -/
import Derived.Test.YtgdmekmnpbniaaaPCrcSumsx
import Derived.Test.YtgdmekmnpbniaaaPCrcJoinsx
import Derived.Test.YtgdmekmnpbniaaaCrcLaw
namespace Go.Proofs.Ytgdmekmnpbniaaa.CrcInt
open Go.RowKit Go.Proofs.YtgdmekmnpbniaaaW.PrintWords Go.Proofs.Ytgdmekmnpbniaaa.CrcLaw

/-- A word as a number. -/
def iv (x : B32) : Int := (x.toNat : Int)
theorem iv_nonneg (x : B32) : 0 ≤ iv x := by unfold iv; omega
theorem iv_lt (x : B32) : iv x < 4294967296 := by unfold iv; have := x.isLt; omega
theorem iv_inj {x y : B32} (h : iv x = iv y) : x = y := BitVec.eq_of_toNat_eq (by unfold iv at h; omega)
theorem iv_of {a : Int} (h0 : 0 ≤ a) (h1 : a < 4294967296) : a = iv (BitVec.ofNat 32 a.toNat) := by
  unfold iv; rw [BitVec.toNat_ofNat]; omega
theorem iv_lit (n : Nat) (h : n < 4294967296) : (n : Int) = iv (BitVec.ofNat 32 n) := by
  unfold iv; rw [BitVec.toNat_ofNat]; omega
theorem ofInt_iv (x : B32) : BitVec.ofInt 32 (iv x) = x := by
  unfold iv; rw [BitVec.ofInt_natCast]; simp
theorem wrap_iv (x : B32) : IntKind.u32.wrap (iv x) = iv x := by
  rw [IntKind.wrap_u32]; have := iv_nonneg x; have := iv_lt x; omega
theorem and_iv (x y : B32) : Go.bits .and .u32 (iv x) (iv y) = iv (x &&& y) := by
  have e : Go.bits .and .u32 (iv x) (iv y) = IntKind.u32.wrap (((BitVec.ofInt 32 (iv x)) &&& (BitVec.ofInt 32 (iv y))).toNat : Int) := rfl
  rw [e, ofInt_iv, ofInt_iv]; exact wrap_iv _
theorem xor_iv (x y : B32) : Go.bits .xor .u32 (iv x) (iv y) = iv (x ^^^ y) := by
  have e : Go.bits .xor .u32 (iv x) (iv y) = IntKind.u32.wrap (((BitVec.ofInt 32 (iv x)) ^^^ (BitVec.ofInt 32 (iv y))).toNat : Int) := rfl
  rw [e, ofInt_iv, ofInt_iv]; exact wrap_iv _
theorem half_iv (x : B32) : iv x / (2 : Int) = iv (x >>> (1 : Nat)) := by
  unfold iv; rw [BitVec.toNat_ushiftRight, Nat.shiftRight_eq_div_pow]; omega
theorem byte_iv (x : B32) : iv x / (256 : Int) = iv (x >>> (8 : Nat)) := by
  unfold iv; rw [BitVec.toNat_ushiftRight, Nat.shiftRight_eq_div_pow]; omega
theorem low_iv (x : B32) : iv x % 256 = iv (x &&& 255#32) := by
  unfold iv; rw [BitVec.toNat_and]
  rw [show (255#32 : B32).toNat = 2 ^ 8 - 1 by decide, Nat.and_two_pow_sub_one_eq_mod]; omega
theorem odd_iff (x : B32) : iv x % 2 = 1 ↔ x.getLsbD 0 = true := by
  unfold iv; rw [BitVec.getLsbD, Nat.testBit_zero]
  constructor
  · intro h; exact decide_eq_true (by omega)
  · intro h; have := of_decide_eq_true h; omega
theorem and_one (x : B32) : Go.bits .and .u32 (iv x) 1 = iv x % 2 := by
  rw [show (1 : Int) = iv 1#32 by decide, and_iv]
  unfold iv; rw [BitVec.toNat_and]
  rw [show (1#32 : B32).toNat = 2 ^ 1 - 1 by decide, Nat.and_two_pow_sub_one_eq_mod]; omega
theorem st_even {x : B32} (h : ¬ iv x % 2 = 1) : st x = x >>> 1 := by
  have : x.getLsbD 0 = false := by
    cases hx : x.getLsbD 0 with
    | false => rfl
    | true => exact absurd ((odd_iff x).2 hx) h
  unfold st; rw [this]; simp
theorem st_odd {x : B32} (h : iv x % 2 = 1) : st x = (x >>> 1) ^^^ poly := by
  unfold st; rw [(odd_iff x).1 h]; simp
theorem iv_poly : (3988292384 : Int) = iv poly := by decide
/-- The code's step. -/
theorem step_ivJ (x : B32) : PCrcJoins.crc_step.f (iv x) = some (iv (st x)) := by
  unfold PCrcJoins.crc_step.f
  rw [and_one]
  by_cases h : iv x % 2 = 1
  · rw [if_pos h, st_odd h, half_iv, iv_poly, xor_iv]
  · rw [if_neg h, st_even h, half_iv]
theorem step_ivS (x : B32) : PCrcSums.crc_step.f (iv x) = some (iv (st x)) := step_ivJ x
theorem rstep_ivJ (x : B32) : PCrcJoins.portmanteauref02_Step.f (iv x) = some (iv (st x)) := by
  unfold PCrcJoins.portmanteauref02_Step.f
  have h0 := iv_nonneg x
  have h1 := iv_lt x
  rw [Int.tmod_eq_emod_of_nonneg h0, Int.tdiv_eq_ediv_of_nonneg h0, show iv x / 2 % 4294967296 = iv x / 2 by omega]
  by_cases h : iv x % 2 = 1
  · rw [if_pos h, st_odd h, half_iv, iv_poly, xor_iv]
  · rw [if_neg h, st_even h, half_iv]
theorem rstep_ivS (x : B32) : PCrcSums.portmanteauref02_Step.f (iv x) = some (iv (st x)) := rstep_ivJ x
theorem wrap_small {i : Int} (h0 : 0 ≤ i) (h : i < 4611686018427387904) : wrap64 (i + 1) = i + 1 := by unfold wrap64; omega
theorem rbyte_l (d : Nat) : ∀ (k : Nat) (x : B32) (i : Int), 0 ≤ i → i ≤ 8 → (8 : Int) - i = d → d < k → PCrcJoins.portmanteauref02_Byte.l0 k (iv x) i = some (iv (sts d x)) := by
  induction d with
  | zero =>
    intro k x i h0 h1 hd hk
    obtain ⟨k, rfl⟩ : ∃ m, k = m + 1 := ⟨k - 1, by omega⟩
    simp only [PCrcJoins.portmanteauref02_Byte.l0]; rw [if_neg (by omega)]; rfl
  | succ d ih =>
    intro k x i h0 h1 hd hk
    obtain ⟨k, rfl⟩ : ∃ m, k = m + 1 := ⟨k - 1, by omega⟩
    simp only [PCrcJoins.portmanteauref02_Byte.l0]; rw [if_pos (by omega), rstep_ivJ]; simp only [Option.bind_some]
    rw [wrap_small h0 (by omega)]
    exact ih k (st x) (i + 1) (by omega) (by omega) (by omega) (by omega)
theorem rbyte_J (k : Nat) (hk : 8 < k) (x : B32) : PCrcJoins.portmanteauref02_Byte.f k (iv x) = some (iv (sts 8 x)) := rbyte_l 8 k x 0 (by omega) (by omega) (by omega) hk
theorem byte_same : ∀ k x i, PCrcSums.portmanteauref02_Byte.l0 k x i = PCrcJoins.portmanteauref02_Byte.l0 k x i := by
  intro k
  induction k with
  | zero => intros; rfl
  | succ k ih =>
    intro x i
    simp only [PCrcSums.portmanteauref02_Byte.l0, PCrcJoins.portmanteauref02_Byte.l0, ih]; rfl
theorem rbyte_S (k : Nat) (hk : 8 < k) (x : B32) : PCrcSums.portmanteauref02_Byte.f k (iv x) = some (iv (sts 8 x)) := (byte_same k (iv x) 0).trans (rbyte_J k hk x)

theorem shr_nat (x : B32) (n : Nat) (hn : n ≤ 32) : shr .u32 (iv x) n = iv (x >>> n) := by
  unfold shr iv
  rw [BitVec.toNat_ushiftRight, Nat.shiftRight_eq_div_pow]
  rw [show min (n : Int).toNat IntKind.u32.bits = n by simp only [IntKind.bits]; omega]
  norm_cast
theorem bit_iv (a : B32) (n : Nat) (hn : n < 32) : (Go.bits .and .u32 (shr .u32 (iv a) n) 1 = 1) ↔ a.getLsbD n = true := by
  rw [shr_nat a n (by omega), and_one, odd_iff]; simp
/-- The product: from bit 31 - i on. -/
theorem times_l (d : Nat) : ∀ (k : Nat) (a b p : B32) (i : Int), 0 ≤ i → i ≤ 32 → (32 : Int) - i = d → d < k →
    PCrcJoins.crc_times.l0 k (iv a) (iv b) (iv p) i = some (iv (p ^^^ mul d a b)) := by
  induction d with
  | zero =>
    intro k a b p i h0 h1 hd hk
    obtain ⟨k, rfl⟩ : ∃ m, k = m + 1 := ⟨k - 1, by omega⟩
    simp only [PCrcJoins.crc_times.l0]; rw [if_neg (by omega)]; simp [mul]
  | succ d ih =>
    intro k a b p i h0 h1 hd hk
    obtain ⟨k, rfl⟩ : ∃ m, k = m + 1 := ⟨k - 1, by omega⟩
    have e : wrap64 (31 - i) = (d : Int) := by unfold wrap64; omega
    simp only [PCrcJoins.crc_times.l0]; rw [if_pos (by omega), e, if_pos (by omega), step_ivJ]; simp only [Option.bind_some]
    rw [wrap_small h0 (by omega)]
    by_cases hb : a.getLsbD d = true
    · rw [if_pos ((bit_iv a d (by omega)).2 hb), xor_iv, ih k a (st b) _ (i + 1) (by omega) (by omega) (by omega) (by omega)]
      simp only [mul]; rw [hb]; simp only [if_true]; rw [BitVec.xor_assoc]
    · rw [if_neg (fun h => hb ((bit_iv a d (by omega)).1 h)), ih k a (st b) _ (i + 1) (by omega) (by omega) (by omega) (by omega)]
      simp only [mul]; rw [if_neg hb]; simp
theorem times_iv (k : Nat) (hk : 32 < k) (a b : B32) : PCrcJoins.crc_times.f k (iv a) (iv b) = some (iv (mul 32 a b)) := by
  have h := times_l 32 k a b 0#32 0 (by omega) (by omega) (by omega) hk
  rw [show (0#32 ^^^ mul 32 a b : B32) = mul 32 a b by simp] at h
  exact h
theorem and_one64 (n : Int) (h0 : 0 ≤ n) (h1 : n < 18446744073709551616) : Go.bits .and .u64 n 1 = n % 2 := by
  have e : Go.bits .and .u64 n 1 = IntKind.u64.wrap (((BitVec.ofInt 64 n) &&& (BitVec.ofInt 64 1)).toNat : Int) := rfl
  obtain ⟨m, rfl⟩ := Int.eq_ofNat_of_zero_le h0
  rw [e, BitVec.ofInt_natCast, BitVec.toNat_and, show (BitVec.ofInt 64 1).toNat = 2 ^ 1 - 1 by decide, Nat.and_two_pow_sub_one_eq_mod, BitVec.toNat_ofNat]
  simp only [IntKind.wrap, IntKind.bits, IntKind.signed]
  simp only [Bool.false_and, if_neg (Bool.false_ne_true)]
  omega
theorem shift_l (j : Nat) : ∀ (k : Nat) (n m : Nat) (a p : B32), n < 2 ^ j → j ≤ 64 → j + 33 < k → (∀ x, mul 32 p x = sts m x) →
    PCrcJoins.crc_Shift.l0 k (iv a) (n : Int) (iv p) = some (iv (sts (m * n) a)) := by
  induction j with
  | zero =>
    intro k n m a p hn hj hk hp
    obtain ⟨k, rfl⟩ : ∃ m, k = m + 1 := ⟨k - 1, by omega⟩
    have : n = 0 := by simpa using hn
    subst this
    simp only [PCrcJoins.crc_Shift.l0]; rw [if_neg (by omega)]; rfl
  | succ j ih =>
    intro k n m a p hn hj hk hp
    obtain ⟨k, rfl⟩ : ∃ m, k = m + 1 := ⟨k - 1, by omega⟩
    by_cases h0 : n = 0
    · subst h0
      simp only [PCrcJoins.crc_Shift.l0]; rw [if_neg (by omega)]; rfl
    · have hb : n < 2 ^ 64 := Nat.lt_of_lt_of_le hn (Nat.pow_le_pow_right (by omega) hj)
      simp only [PCrcJoins.crc_Shift.l0]
      rw [if_pos (by omega), and_one64 _ (by omega) (by omega), times_iv k (by omega), times_iv k (by omega)]
      simp only [Option.bind_some]
      rw [show ((n : Int) / 2) = ((n / 2 : Nat) : Int) by omega]
      have hn2 : n / 2 < 2 ^ j := by rw [Nat.pow_succ] at hn; omega
      have hq : ∀ x, mul 32 (mul 32 p p) x = sts (m + m) x := mul_steps hp hp
      by_cases ho : (n : Int) % 2 = 1
      · rw [if_pos ho, hp a, ih k (n / 2) (m + m) _ _ hn2 (by omega) (by omega) hq, ← sts_add]
        rw [show m + (m + m) * (n / 2) = m * n by
          have : n = 2 * (n / 2) + 1 := by omega
          conv => rhs; rw [this]
          rw [Nat.mul_add, Nat.mul_one, Nat.add_mul, Nat.mul_left_comm]; omega]
      · rw [if_neg ho, ih k (n / 2) (m + m) _ _ hn2 (by omega) (by omega) hq]
        rw [show (m + m) * (n / 2) = m * n by
          have : n = 2 * (n / 2) := by omega
          conv => rhs; rw [this]
          rw [Nat.add_mul, Nat.mul_left_comm]; omega]
/-- The code's Shift: eight steps a byte. -/
theorem shift_iv (k : Nat) (hk : 97 < k) (a : B32) (n : Nat) (hn : n < 18446744073709551616) : PCrcJoins.crc_Shift.f k (iv a) (n : Int) = some (iv (sts (8 * n) a)) := by
  unfold PCrcJoins.crc_Shift.f
  rw [show (8388608 : Int) = iv byteOne by decide]
  exact shift_l 64 k n 8 a byteOne (by omega) (by omega) (by omega) mul_byteOne
theorem rshift_l (d : Nat) : ∀ (k : Nat) (a : B32) (n i : Int), 0 ≤ i → i ≤ n → n < 18446744073709551615 → n - i = d → d + 9 < k →
    PCrcJoins.portmanteauref02_Shift.l0 k (iv a) n i = some (iv (sts (8 * d) a)) := by
  induction d with
  | zero =>
    intro k a n i h0 h1 hn hd hk
    obtain ⟨k, rfl⟩ : ∃ m, k = m + 1 := ⟨k - 1, by omega⟩
    simp only [PCrcJoins.portmanteauref02_Shift.l0]; rw [if_neg (by omega)]; rfl
  | succ d ih =>
    intro k a n i h0 h1 hn hd hk
    obtain ⟨k, rfl⟩ : ∃ m, k = m + 1 := ⟨k - 1, by omega⟩
    simp only [PCrcJoins.portmanteauref02_Shift.l0]; rw [if_pos (by omega), rbyte_J k (by omega)]; simp only [Option.bind_some]
    rw [show IntKind.u64.wrap (i + 1) = i + 1 by simp only [IntKind.wrap, IntKind.bits, IntKind.signed, Bool.false_and, if_neg (Bool.false_ne_true)]; omega]
    rw [ih k _ n (i + 1) (by omega) (by omega) hn (by omega) (by omega), ← sts_add]
    rw [show 8 + 8 * d = 8 * (d + 1) by omega]
/-- The document's Shift. -/
theorem rshift_iv (k : Nat) (a : B32) (n : Nat) (hn : n < 18446744073709551615) (hk : n + 9 < k) : PCrcJoins.portmanteauref02_Shift.f k (iv a) (n : Int) = some (iv (sts (8 * n) a)) :=
  rshift_l n k a n 0 (by omega) (by omega) (by omega) (by omega) hk

/-- A text's bytes as words. -/
def words (s : ByteArray) : List B32 := s.data.toList.map fun c => BitVec.ofNat 32 c.toNat
theorem words_length (s : ByteArray) : (words s).length = s.size := by simp [words]
theorem not_iv (x : B32) : (4294967295 - iv x) % 4294967296 = iv (~~~ x) := by
  unfold iv; rw [BitVec.toNat_not]; have := x.isLt; omega
theorem bt_iv (s : ByteArray) (i : Nat) (h : i < s.size) : bt s (i : Int) % 4294967296 = iv ((words s)[i]'(by rw [words_length]; exact h)) := by
  have e : (words s)[i]'(by rw [words_length]; exact h) = BitVec.ofNat 32 (s[i]).toNat := by
    simp [words]; rfl
  rw [e]
  unfold bt iv
  rw [dif_pos (by simpa using h), BitVec.toNat_ofNat]
  have := (s[i]).toNat_lt
  simp only [Int.toNat_natCast]
  omega
theorem words_drop (s : ByteArray) (i : Nat) (h : i < s.size) : (words s).drop i = (words s)[i]'(by rw [words_length]; exact h) :: (words s).drop (i + 1) :=
  List.drop_eq_getElem_cons (by rw [words_length]; exact h)
theorem rupd_l (s : ByteArray) (hs : s.size ≤ 140737488351232) (d : Nat) : ∀ (k i : Nat) (x : B32), i ≤ s.size → s.size - i = d → d + 9 < k →
    PCrcSums.portmanteauref02_Update.l0 k (iv x) s (i : Int) = some (iv (~~~ (upd x ((words s).drop i)))) := by
  induction d with
  | zero =>
    intro k i x h1 hd hk
    obtain ⟨k, rfl⟩ : ∃ m, k = m + 1 := ⟨k - 1, by omega⟩
    simp only [PCrcSums.portmanteauref02_Update.l0]
    rw [if_neg (by omega), not_iv, List.drop_of_length_le (by rw [words_length]; omega)]; rfl
  | succ d ih =>
    intro k i x h1 hd hk
    obtain ⟨k, rfl⟩ : ∃ m, k = m + 1 := ⟨k - 1, by omega⟩
    simp only [PCrcSums.portmanteauref02_Update.l0]
    rw [if_pos (by omega), if_pos (by omega), bt_iv s i (by omega), xor_iv, rbyte_S k (by omega)]; simp only [Option.bind_some]
    rw [wrap_small (by omega) (by omega), show ((i : Int) + 1) = ((i + 1 : Nat) : Int) by omega, ih k (i + 1) _ (by omega) (by omega) (by omega), words_drop s i (by omega)]
    rfl
/-- The document's Update. -/
theorem rupd_iv (k : Nat) (x : B32) (s : ByteArray) (hs : s.size ≤ 140737488351232) (hk : s.size + 9 < k) : PCrcSums.portmanteauref02_Update.f k (iv x) s = some (iv (sumFrom x (words s))) := by
  unfold PCrcSums.portmanteauref02_Update.f
  rw [not_iv]
  exact rupd_l s hs s.size k 0 _ (by omega) (by omega) hk
/-- By a table: one byte, a text. -/
def thrStep (T : Nat → B32) (x c : B32) : B32 := T ((x ^^^ c) &&& 255#32).toNat ^^^ (x >>> 8)
def thr (T : Nat → B32) : B32 → List B32 → B32
  | x, [] => x
  | x, c :: l => thr T (thrStep T x c) l
def sumThr (T : Nat → B32) (x : B32) (l : List B32) : B32 := ~~~ (thr T (~~~ x) l)
/-- The table that Make makes. -/
def own (i : Nat) : B32 := sts 8 (BitVec.ofNat 32 i)
theorem word_low (c : UInt8) : (BitVec.ofNat 32 c.toNat : B32) &&& 255#32 = BitVec.ofNat 32 c.toNat := by
  apply BitVec.eq_of_toNat_eq
  have := c.toNat_lt
  rw [BitVec.toNat_and, show (255#32 : B32).toNat = 2 ^ 8 - 1 by decide, Nat.and_two_pow_sub_one_eq_mod, BitVec.toNat_ofNat]; omega
theorem thr_own (l : List B32) (hl : ∀ c ∈ l, c &&& 255#32 = c) : ∀ x, thr own x l = upd x l := by
  induction l with
  | nil => intro x; rfl
  | cons c l ih =>
    intro x
    simp only [thr, upd]
    rw [ih (fun d hd => hl d (List.mem_cons_of_mem _ hd))]
    congr 1
    rw [← table_step x c (hl c List.mem_cons_self)]
    unfold thrStep own
    simp
theorem sumThr_own (s : ByteArray) (x : B32) : sumThr own x (words s) = sumFrom x (words s) := by
  unfold sumThr sumFrom
  rw [thr_own]
  intro c hc
  obtain ⟨d, _, rfl⟩ := List.mem_map.1 hc
  exact word_low d
end Go.Proofs.Ytgdmekmnpbniaaa.CrcInt
