/- The sum of a Zip archive over BitVec 32: a step is linear and loses nothing; a table's row is eight steps; products are steps; the sum of two texts. No program, no condition. -/
import Derived.Laws.BitsLemmas
namespace Go.Proofs.Ytgdmekmnpbniaaa.CrcLaw

abbrev B32 := BitVec 32
def poly : B32 := 0xedb88320#32
def st (x : B32) : B32 := (x >>> 1) ^^^ (if x.getLsbD 0 then poly else 0#32)
/-- n steps. -/
def sts : Nat → B32 → B32
  | 0, x => x
  | n + 1, x => sts n (st x)

theorem st_zero : st 0#32 = 0#32 := by decide
theorem st_xor (a b : B32) : st (a ^^^ b) = st a ^^^ st b := by
  unfold st
  have h : (a ^^^ b).getLsbD 0 = (a.getLsbD 0 ^^ b.getLsbD 0) := by simp
  have h2 : (a ^^^ b) >>> 1 = (a >>> 1) ^^^ (b >>> 1) := by
    apply BitVec.eq_of_getLsbD_eq; intro i hi; simp
  rw [h, h2]
  cases a.getLsbD 0 <;> cases b.getLsbD 0 <;> simp
  · rw [BitVec.xor_assoc]
  · rw [BitVec.xor_assoc, BitVec.xor_comm _ poly, ← BitVec.xor_assoc]
  · rw [show a >>> 1 ^^^ poly ^^^ (b >>> 1 ^^^ poly) = (a >>> 1 ^^^ b >>> 1) ^^^ (poly ^^^ poly) by
      rw [BitVec.xor_assoc, BitVec.xor_assoc, ← BitVec.xor_assoc poly, BitVec.xor_comm poly (b >>> 1), BitVec.xor_assoc (b >>> 1)]]
    simp
theorem xor_self_cancel {a b : B32} (h : a ^^^ b = 0#32) : a = b := by
  have : (a ^^^ b) ^^^ b = 0#32 ^^^ b := by rw [h]
  rw [BitVec.xor_assoc, BitVec.xor_self] at this
  simpa using this
theorem st_ker (x : B32) (h : st x = 0#32) : x = 0#32 := by
  unfold st at h
  have h31 : (((x >>> 1) ^^^ (if x.getLsbD 0 then poly else 0#32)).getLsbD 31) = false := by rw [h]; simp
  have hs : (x >>> 1).getLsbD 31 = false := by simp
  have h0 : x.getLsbD 0 = false := by
    cases hx : x.getLsbD 0 with
    | false => rfl
    | true =>
      rw [hx] at h31
      simp only [if_true, BitVec.getLsbD_xor, hs] at h31
      exact absurd h31 (by decide)
  rw [h0] at h
  simp at h
  apply BitVec.eq_of_getLsbD_eq
  intro i hi
  simp
  cases i with
  | zero => exact h0
  | succ i =>
    have := congrArg (fun y : B32 => y.getLsbD i) h
    simpa [Nat.add_comm] using this
theorem st_inj {a b : B32} (h : st a = st b) : a = b :=
  xor_self_cancel (st_ker _ (by rw [st_xor, h, BitVec.xor_self]))
theorem sts_xor (n : Nat) : ∀ a b : B32, sts n (a ^^^ b) = sts n a ^^^ sts n b := by
  induction n with
  | zero => intros; rfl
  | succ n ih => intro a b; simp only [sts]; rw [st_xor, ih]
theorem sts_zero (n : Nat) : sts n 0#32 = 0#32 := by
  induction n with
  | zero => rfl
  | succ n ih => simp only [sts]; rw [st_zero, ih]
theorem sts_inj (n : Nat) : ∀ {a b : B32}, sts n a = sts n b → a = b := by
  induction n with
  | zero => intro a b h; exact h
  | succ n ih => intro a b h; exact st_inj (ih h)
theorem sts_add (n m : Nat) : ∀ x : B32, sts (n + m) x = sts m (sts n x) := by
  induction n with
  | zero => intro x; rw [Nat.zero_add]; rfl
  | succ n ih => intro x; rw [Nat.succ_add]; simp only [sts]; exact ih _
theorem sts_comm (n m : Nat) (x : B32) : sts n (sts m x) = sts m (sts n x) := by
  rw [← sts_add, ← sts_add, Nat.add_comm]
/-- Bits that are shifted out without touching the last: n steps of what ends in n bits 0. -/
theorem sts_low (n : Nat) (hn : n ≤ 32) : ∀ x : B32, (∀ i, i < n → x.getLsbD i = false) → sts n x = x >>> n := by
  induction n with
  | zero => intro x _; simp [sts]
  | succ n ih =>
    intro x h
    simp only [sts]
    have h0 := h 0 (by omega)
    have e : st x = x >>> 1 := by unfold st; rw [h0]; simp
    rw [e, ih (by omega)]
    · apply BitVec.eq_of_getLsbD_eq; intro i hi; simp; congr 1; omega
    · intro i hi; simp; have := h (i + 1) (by omega); rwa [Nat.add_comm] at this

/-- One byte more. -/
def byteStep (s : B32) (c : B32) : B32 := sts 8 (s ^^^ c)
def upd : B32 → List B32 → B32
  | s, [] => s
  | s, c :: l => upd (byteStep s c) l
theorem upd_append (l m : List B32) : ∀ s, upd s (l ++ m) = upd (upd s l) m := by
  induction l with
  | nil => intro s; rfl
  | cons c l ih => intro s; simp only [List.cons_append, upd]; exact ih _
theorem upd_xor (l : List B32) : ∀ s t, upd (s ^^^ t) l = sts (8 * l.length) s ^^^ upd t l := by
  induction l with
  | nil => intro s t; rfl
  | cons c l ih =>
    intro s t
    simp only [upd]
    have : byteStep (s ^^^ t) c = sts 8 s ^^^ byteStep t c := by
      unfold byteStep; rw [BitVec.xor_assoc, sts_xor]
    rw [this, ih, ← sts_add]
    simp only [List.length_cons]
    rw [show 8 + 8 * l.length = 8 * (l.length + 1) by omega]
theorem upd_inj (l : List B32) {s t : B32} (h : upd s l = upd t l) : s = t := by
  have e : upd (s ^^^ (s ^^^ t)) l = sts (8 * l.length) s ^^^ upd (s ^^^ t) l := upd_xor l _ _
  have f : upd ((s ^^^ t) ^^^ t) l = sts (8 * l.length) (s ^^^ t) ^^^ upd t l := upd_xor l _ _
  rw [show (s ^^^ t) ^^^ t = s by rw [BitVec.xor_assoc, BitVec.xor_self]; simp] at f
  rw [h] at f
  have g : sts (8 * l.length) (s ^^^ t) = 0#32 := by
    have : (sts (8 * l.length) (s ^^^ t) ^^^ upd t l) ^^^ upd t l = upd t l ^^^ upd t l := by rw [← f]
    rw [BitVec.xor_assoc, BitVec.xor_self] at this
    simpa using this
  exact xor_self_cancel (sts_inj (8 * l.length) (by rw [g, sts_zero]))
def sumFrom (s : B32) (l : List B32) : B32 := ~~~ (upd (~~~ s) l)
theorem not_eq_xor (x : B32) : ~~~ x = x ^^^ BitVec.allOnes 32 := by
  apply BitVec.eq_of_getLsbD_eq; intro i hi
  rw [BitVec.getLsbD_not, BitVec.getLsbD_xor, BitVec.getLsbD_allOnes]; simp only [hi, decide_true, Bool.true_and]
  cases x.getLsbD i <;> rfl
/-- P2.2: the sum of two texts. -/
theorem sum_join (a b : List B32) : sts (8 * b.length) (sumFrom 0#32 a) ^^^ sumFrom 0#32 b = sumFrom 0#32 (a ++ b) := by
  unfold sumFrom
  rw [upd_append, not_eq_xor (upd _ a), sts_xor]
  have h1 : upd (upd (~~~ 0#32) a) b = upd (upd (~~~ 0#32) a ^^^ 0#32) b := by simp
  have h2 : upd (~~~ 0#32) b = upd (BitVec.allOnes 32 ^^^ 0#32) b := by congr 1
  rw [h1, h2, upd_xor, upd_xor]
  generalize sts (8 * b.length) (upd (~~~ 0#32) a) = p
  generalize sts (8 * b.length) (BitVec.allOnes 32) = q
  generalize upd 0#32 b = r
  rw [not_eq_xor, not_eq_xor]
  generalize BitVec.allOnes 32 = o
  apply BitVec.eq_of_getLsbD_eq; intro i hi; simp only [BitVec.getLsbD_xor]
  cases p.getLsbD i <;> cases q.getLsbD i <;> cases r.getLsbD i <;> cases o.getLsbD i <;> rfl
theorem sum_on (a b : List B32) : sumFrom (sumFrom 0#32 a) b = sumFrom 0#32 (a ++ b) := by
  unfold sumFrom
  rw [BitVec.not_not, upd_append]

/-! Products. -/
/-- What a does to b: the steps that a's bits name, from i on. -/
def mul : Nat → B32 → B32 → B32
  | 0, _, _ => 0#32
  | n + 1, a, b => (if a.getLsbD n then b else 0#32) ^^^ mul n a (st b)
theorem mul_xor (n : Nat) (a : B32) : ∀ b c, mul n a (b ^^^ c) = mul n a b ^^^ mul n a c := by
  induction n with
  | zero => intro b c; simp [mul]
  | succ n ih =>
    intro b c
    simp only [mul]
    rw [st_xor, ih]
    cases a.getLsbD n
    · simp
    · simp only [if_true]
      generalize mul n a (st b) = p
      generalize mul n a (st c) = q
      apply BitVec.eq_of_getLsbD_eq; intro i hi; simp only [BitVec.getLsbD_xor]
      cases p.getLsbD i <;> cases q.getLsbD i <;> cases b.getLsbD i <;> cases c.getLsbD i <;> rfl
theorem mul_zero (n : Nat) (a : B32) : mul n a 0#32 = 0#32 := by
  induction n with
  | zero => rfl
  | succ n ih => simp only [mul]; rw [st_zero, ih]; simp
theorem mul_st (n : Nat) (a : B32) : ∀ b, mul n a (st b) = st (mul n a b) := by
  induction n with
  | zero => intro b; simp [mul, st_zero]
  | succ n ih =>
    intro b
    simp only [mul]
    rw [ih (st b), st_xor]
    cases a.getLsbD n <;> simp [st_zero]
theorem mul_sts (n m : Nat) (a : B32) : ∀ b, mul n a (sts m b) = sts m (mul n a b) := by
  induction m with
  | zero => intro b; rfl
  | succ m ih => intro b; simp only [sts]; rw [ih, mul_st]
def one : B32 := 0x80000000#32
/-- The number 1's steps are the bits from above. -/
theorem sts_one (k : Nat) (hk : k ≤ 31) : sts k one = one >>> k := by
  apply sts_low k (by omega)
  intro i hi
  unfold one
  rw [show (0x80000000#32 : B32) = BitVec.twoPow 32 31 by decide, BitVec.getLsbD_twoPow]
  simp; omega
theorem mul_one (n : Nat) (hn : n ≤ 32) (a : B32) : mul n a (sts (32 - n) one) = a &&& (BitVec.ofNat 32 (2 ^ n - 1)) := by
  induction n with
  | zero => simp [mul]
  | succ n ih =>
    simp only [mul]
    rw [show st (sts (32 - (n + 1)) one) = sts (32 - n) one by
      rw [show 32 - n = (32 - (n + 1)) + 1 by omega, sts_add]; rfl]
    rw [ih (by omega), sts_one _ (by omega)]
    apply BitVec.eq_of_getLsbD_eq
    intro i hi
    have e1 : (one >>> (32 - (n + 1))).getLsbD i = decide (i = n) := by
      unfold one
      rw [show (0x80000000#32 : B32) = BitVec.twoPow 32 31 by decide]
      simp only [BitVec.getLsbD_ushiftRight, BitVec.getLsbD_twoPow]
      by_cases h : i = n <;> simp [h] <;> omega
    simp only [BitVec.getLsbD_xor, BitVec.getLsbD_and, BitVec.getLsbD_ofNat, hi, decide_true, Bool.true_and, Nat.testBit_two_pow_sub_one]
    by_cases h : i = n
    · subst h
      cases ha : a.getLsbD i
      · simp
      · simp only [if_true, e1]; simp
    · cases ha : a.getLsbD n
      · simp
        by_cases h2 : i < n
        · simp [h2, show i < n + 1 by omega]
        · simp [h2, show ¬ i < n + 1 by omega]
      · simp only [if_true, e1, h, decide_false, Bool.false_bne]
        by_cases h2 : i < n
        · simp [h2, show i < n + 1 by omega]
        · simp [h2, show ¬ i < n + 1 by omega]
theorem mul32_one (a : B32) : mul 32 a one = a := by
  have h := mul_one 32 (by omega) a
  rw [show sts (32 - 32) one = one from rfl] at h
  rw [h, show BitVec.ofNat 32 (2 ^ 32 - 1) = BitVec.allOnes 32 by decide, BitVec.and_allOnes]
/-- Whatever is linear over steps is settled at one. -/
theorem lin_ext (f g : B32 → B32) (fx : ∀ a b, f (a ^^^ b) = f a ^^^ f b) (gx : ∀ a b, g (a ^^^ b) = g a ^^^ g b) (f0 : f 0#32 = 0#32) (g0 : g 0#32 = 0#32)
    (fs : ∀ a, f (st a) = st (f a)) (gs : ∀ a, g (st a) = st (g a)) (h : f one = g one) (x : B32) : f x = g x := by
  have key : ∀ n, ∀ b, f b = g b → f (mul n x b) = g (mul n x b) := by
    intro n
    induction n with
    | zero => intro b _; simp only [mul]; rw [f0, g0]
    | succ n ih =>
      intro b hb
      simp only [mul]
      rw [fx, gx, ih (st b) (by rw [fs, gs, hb])]
      cases x.getLsbD n
      · simp [f0, g0]
      · simp [hb]
  have := key 32 one h
  rwa [mul32_one] at this
/-- The power's product is the steps' joining. -/
theorem mul_steps {p : B32} {k : Nat} (h : ∀ x, mul 32 p x = sts k x) {q : B32} {m : Nat} (h2 : ∀ x, mul 32 q x = sts m x) (x : B32) : mul 32 (mul 32 p q) x = sts (k + m) x := by
  refine lin_ext _ _ (mul_xor 32 _) (sts_xor _) (mul_zero 32 _) (sts_zero _) (mul_st 32 _) (fun a => sts_comm _ 1 a) ?_ x
  rw [mul32_one, h, show q = mul 32 q one from (mul32_one q).symm, h2, ← sts_add, Nat.add_comm]
def byteOne : B32 := 8388608#32
theorem mul_byteOne (x : B32) : mul 32 byteOne x = sts 8 x := by
  refine lin_ext _ _ (mul_xor 32 _) (sts_xor _) (mul_zero 32 _) (sts_zero _) (mul_st 32 _) (fun a => sts_comm _ 1 a) ?_ x
  rw [mul32_one]; decide

/-! The table. -/
theorem upd_xor2 (l m : List B32) (h : l.length = m.length) : ∀ s t, upd (s ^^^ t) (List.zipWith (· ^^^ ·) l m) = upd s l ^^^ upd t m := by
  induction l generalizing m with
  | nil => intro s t; cases m with
    | nil => rfl
    | cons _ _ => simp at h
  | cons c l ih =>
    intro s t
    cases m with
    | nil => simp at h
    | cons d m =>
      simp only [List.zipWith_cons_cons, upd]
      have e : byteStep (s ^^^ t) (c ^^^ d) = byteStep s c ^^^ byteStep t d := by
        unfold byteStep
        rw [← sts_xor]; congr 1
        apply BitVec.eq_of_getLsbD_eq; intro i hi; simp only [BitVec.getLsbD_xor]
        cases s.getLsbD i <;> cases t.getLsbD i <;> cases c.getLsbD i <;> cases d.getLsbD i <;> rfl
      rw [e, ih m (by simpa using h)]
/-- A row of the table, and what is left of the sum. -/
theorem table_step (s c : B32) (hc : c &&& 255#32 = c) : sts 8 ((s ^^^ c) &&& 255#32) ^^^ (s >>> 8) = byteStep s c := by
  unfold byteStep
  have e : s ^^^ c = ((s ^^^ c) &&& 255#32) ^^^ (s &&& ~~~ 255#32) := by
    apply BitVec.eq_of_getLsbD_eq; intro i hi
    have h := congrArg (fun y : B32 => y.getLsbD i) hc
    simp only [BitVec.getLsbD_and] at h
    simp only [BitVec.getLsbD_xor, BitVec.getLsbD_and, BitVec.getLsbD_not, hi, decide_true, Bool.true_and]
    generalize (255#32 : B32).getLsbD i = z at *
    cases hs : s.getLsbD i <;> cases hcc : c.getLsbD i <;> cases z <;> simp_all
  have low : sts 8 (s &&& ~~~ 255#32) = s >>> 8 := by
    rw [sts_low 8 (by omega)]
    · apply BitVec.eq_of_getLsbD_eq; intro i hi
      simp only [BitVec.getLsbD_ushiftRight, BitVec.getLsbD_and, BitVec.getLsbD_not]
      rw [show (255#32 : B32) = BitVec.ofNat 32 (2 ^ 8 - 1) by decide, BitVec.getLsbD_ofNat, Nat.testBit_two_pow_sub_one]
      by_cases h : 8 + i < 32
      · simp [h]
      · rw [BitVec.getLsbD_of_ge s (8 + i) (by omega)]; simp
    · intro i hi
      simp only [BitVec.getLsbD_and, BitVec.getLsbD_not]
      rw [show (255#32 : B32) = BitVec.ofNat 32 (2 ^ 8 - 1) by decide, BitVec.getLsbD_ofNat, Nat.testBit_two_pow_sub_one]
      simp [hi]
  conv => rhs; rw [e, sts_xor, low]

/-! What is turned within four bytes. -/
theorem shl_low (n : Nat) (hn : n ≤ 24) (t : B32) (ht : t &&& 255#32 = t) : sts n (t <<< n) = t := by
  rw [sts_low n (by omega)]
  · apply BitVec.eq_of_getLsbD_eq; intro i hi
    have h := congrArg (fun y : B32 => y.getLsbD i) ht
    rw [show (255#32 : B32) = BitVec.ofNat 32 (2 ^ 8 - 1) by decide] at h
    simp only [BitVec.getLsbD_and, BitVec.getLsbD_ofNat, Nat.testBit_two_pow_sub_one] at h
    simp only [BitVec.getLsbD_ushiftRight, BitVec.getLsbD_shiftLeft]
    by_cases h2 : i < 8
    · simp [show n + i < 32 by omega]
    · have h4 : t.getLsbD i = false := by rw [← h]; simp [h2]
      rw [h4]
      by_cases h5 : n + i < 32
      · simp [h4]
      · simp [h5]
  · intro i hi; simp; omega
theorem four_steps (t0 t1 t2 t3 : B32) (h1 : t1 &&& 255#32 = t1) (h2 : t2 &&& 255#32 = t2) (h3 : t3 &&& 255#32 = t3) :
    upd 0#32 [t0, t1, t2, t3] = sts 32 (t0 ^^^ t1 <<< 8 ^^^ t2 <<< 16 ^^^ t3 <<< 24) := by
  simp only [upd, byteStep]
  rw [sts_xor 32, sts_xor 32, sts_xor 32]
  rw [show sts 32 (t1 <<< 8) = sts 24 t1 from (sts_add 8 24 _).trans (by rw [shl_low 8 (by omega) t1 h1])]
  rw [show sts 32 (t2 <<< 16) = sts 16 t2 from (sts_add 16 16 _).trans (by rw [shl_low 16 (by omega) t2 h2])]
  rw [show sts 32 (t3 <<< 24) = sts 8 t3 from (sts_add 24 8 _).trans (by rw [shl_low 24 (by omega) t3 h3])]
  rw [show (0#32 ^^^ t0 : B32) = t0 by simp]
  rw [sts_xor 8, sts_xor 8, sts_xor 8, sts_xor 8, sts_xor 8, sts_xor 8]
  rw [← sts_add, ← sts_add, ← sts_add, ← sts_add, ← sts_add, ← sts_add]
theorem turned (s : B32) (p q r : List B32) (t0 t1 t2 t3 c0 c1 c2 c3 : B32) (h1 : t1 &&& 255#32 = t1) (h2 : t2 &&& 255#32 = t2) (h3 : t3 &&& 255#32 = t3)
    (hq : q = [c0 ^^^ t0, c1 ^^^ t1, c2 ^^^ t2, c3 ^^^ t3]) (hne : t0 ^^^ t1 <<< 8 ^^^ t2 <<< 16 ^^^ t3 <<< 24 ≠ 0#32) :
    sumFrom s (p ++ q ++ r) ≠ sumFrom s (p ++ [c0, c1, c2, c3] ++ r) := by
  unfold sumFrom
  intro h
  have h' : upd (~~~ s) (p ++ q ++ r) = upd (~~~ s) (p ++ [c0, c1, c2, c3] ++ r) := by
    have := congrArg (fun y : B32 => ~~~ y) h
    simpa using this
  rw [upd_append, upd_append, upd_append, upd_append] at h'
  have h'' := upd_inj r h'
  have e := upd_xor2 [c0, c1, c2, c3] [t0, t1, t2, t3] rfl (upd (~~~ s) p) 0#32
  rw [show upd (~~~ s) p ^^^ 0#32 = upd (~~~ s) p by simp] at e
  rw [hq] at h''
  simp only [List.zipWith_cons_cons, List.zipWith_nil_left] at e
  rw [e, four_steps t0 t1 t2 t3 h1 h2 h3] at h''
  apply hne
  have h3 : sts 32 (t0 ^^^ t1 <<< 8 ^^^ t2 <<< 16 ^^^ t3 <<< 24) = 0#32 := by
    have := congrArg (fun y : B32 => upd (upd (~~~ s) p) [c0, c1, c2, c3] ^^^ y) h''
    simp only [BitVec.xor_self, ← BitVec.xor_assoc] at this
    simpa using this
  exact sts_inj 32 (by rw [h3, sts_zero])
end Go.Proofs.Ytgdmekmnpbniaaa.CrcLaw
