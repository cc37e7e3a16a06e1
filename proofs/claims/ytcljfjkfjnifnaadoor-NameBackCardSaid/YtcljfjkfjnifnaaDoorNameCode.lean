/- CP437, over plain lists of bytes: what is read, what is told, there and back; the document's Decode and Encode come to it. -/
import Derived.Test.YtcljfjkfjnifnaaDoorNameOne
import Derived.Test.YtcljfjkfjnifnaaDoorNameTab
import Derived.Test.YtcljfjkfjnifnaaDoorPNmx26
import Derived.Test.YtcljfjkfjnifnaaDoorPNmx27
import Derived.Test.YtcljfjkfjnifnaaDoorPNmx28
import Derived.Lib.RuneBytes
import Derived.Lib.MapLaws
set_option linter.unusedVariables false
set_option linter.unusedSimpArgs false
namespace Go.Proofs.YtcljfjkfjnifnaaDoor.NameCode
open Go.RowKit Go.Proofs.YtcljfjkfjnifnaaDoorW.PrintWords Go.Proofs.YtcljfjkfjnifnaaDoorW.PrintLast Go.Proofs.YtcljfjkfjnifnaaDoor.NameLaw Go.Proofs.YtcljfjkfjnifnaaDoor.NameCmp Go.Proofs.YtcljfjkfjnifnaaDoor.NameWalk Go.Proofs.YtcljfjkfjnifnaaDoor.NameRef Go.Proofs.YtcljfjkfjnifnaaDoor.NameOne Go.Proofs.YtcljfjkfjnifnaaDoor.NameTab

def T (k : Nat) : Nat := (tabL.getD k 0).toNat
theorem tab_len : tabL.length = 128 := by decide +kernel
theorem T_all : ∀ k : Fin 128, 128 ≤ T k.val ∧ T k.val < 55296 ∧ (tabL.getD k.val 0) = (T k.val : Int) := by decide +kernel
theorem T_inj' : ∀ j k : Fin 128, T j.val = T k.val → j = k := by decide +kernel
theorem T_lo (k : Nat) (h : k < 128) : 128 ≤ T k := (T_all ⟨k, h⟩).1
theorem T_hi (k : Nat) (h : k < 128) : T k < 55296 := (T_all ⟨k, h⟩).2.1
theorem T_rd (k : Nat) (h : k < 128) : rd tabL (k : Int) = (T k : Int) := by
  unfold rd
  rw [show (k : Int).toNat = k by omega]
  exact (T_all ⟨k, h⟩).2.2
theorem T_inj (j k : Nat) (hj : j < 128) (hk : k < 128) (h : T j = T k) : j = k := by
  have := T_inj' ⟨j, hj⟩ ⟨k, hk⟩ h
  exact congrArg Fin.val this
/-- A byte's sign, as bytes. -/
def sign (b : UInt8) : List UInt8 := if b.toNat < 128 then [b] else Lib.encodeRune (T (b.toNat - 128) : Int)
def decB (l : List UInt8) : List UInt8 := l.flatMap sign
def signZ (b : UInt8) : List Int := if b.toNat < 128 then [(b.toNat : Int)] else Lib.encodeRuneZ (T (b.toNat - 128) : Int)
def decZ (l : List UInt8) : List Int := l.flatMap signZ
theorem sign_nums (b : UInt8) : (signZ b).map (fun n => UInt8.ofNat n.toNat) = sign b := by
  unfold signZ sign
  split
  · simp
  · rfl
theorem dec_nums (l : List UInt8) : strOfNums (decZ l) = ⟨(decB l).toArray⟩ := by
  unfold strOfNums decZ decB
  rw [List.map_flatMap]
  simp only [sign_nums]
theorem rz_cases (n : Nat) (h1 : 128 ≤ n) (h2 : n < 55296) : Lib.encodeRuneZ (n : Int) = if n < 2048 then [192 + (n : Int) / 64, 128 + (n : Int) % 64] else [224 + (n : Int) / 4096, 128 + (n : Int) / 64 % 64, 128 + (n : Int) % 64] := by
  by_cases h : n < 2048
  · rw [if_pos h, Lib.encodeRuneZ_two (by omega) (by omega)]
  · rw [if_neg h, Lib.encodeRuneZ_three (by omega)]
theorem signZ_len (b : UInt8) : (signZ b).length ≤ 3 := by
  unfold signZ
  have hb := b.toNat_lt
  split
  · simp
  · rw [rz_cases _ (T_lo _ (by omega)) (T_hi _ (by omega))]
    split <;> simp
theorem td (x m : Nat) : Int.tdiv (x : Int) (m : Int) = ((x / m : Nat) : Int) := rfl
theorem bytes_low (n : Nat) (h : n < 128) : PNm.portmanteauref10_Bytes.f (n : Int) = some [(n : Int)] := by
  unfold PNm.portmanteauref10_Bytes.f
  rw [if_pos (by omega)]
  congr 2; omega
theorem bytes_high (n : Nat) (h1 : 128 ≤ n) (h2 : n < 55296) : PNm.portmanteauref10_Bytes.f (n : Int) = some (Lib.encodeRuneZ (n : Int)) := by
  unfold PNm.portmanteauref10_Bytes.f
  rw [if_neg (by omega), rz_cases n h1 h2]
  have t64 : Int.tdiv (n : Int) 64 = ((n / 64 : Nat) : Int) := td n 64
  have t4096 : Int.tdiv (n : Int) 4096 = ((n / 4096 : Nat) : Int) := td n 4096
  have m64 : Int.tmod (n : Int) 64 = ((n % 64 : Nat) : Int) := tm n 64
  have m64b : Int.tmod ((n / 64 : Nat) : Int) 64 = ((n / 64 % 64 : Nat) : Int) := tm (n / 64) 64
  rw [t64, t4096, m64, wr_small _ (by omega), wr_small _ (by omega), m64b]
  have w1 : ∀ c : Nat, c < 256 → wrap64 (c : Int) % 256 = (c : Int) := fun c hc => by rw [wr_small _ (by omega)]; omega
  have a1 : (192 : Int) + ((n / 64 : Nat) : Int) = ((192 + n / 64 : Nat) : Int) := by omega
  have a2 : (128 : Int) + ((n % 64 : Nat) : Int) = ((128 + n % 64 : Nat) : Int) := by omega
  have a3 : (224 : Int) + ((n / 4096 : Nat) : Int) = ((224 + n / 4096 : Nat) : Int) := by omega
  have a4 : (128 : Int) + ((n / 64 % 64 : Nat) : Int) = ((128 + n / 64 % 64 : Nat) : Int) := by omega
  have b1 : (192 : Int) + (n : Int) / 64 = ((192 + n / 64 : Nat) : Int) := by omega
  have b2 : (128 : Int) + (n : Int) % 64 = ((128 + n % 64 : Nat) : Int) := by omega
  have b3 : (224 : Int) + (n : Int) / 4096 = ((224 + n / 4096 : Nat) : Int) := by omega
  have b4 : (128 : Int) + (n : Int) / 64 % 64 = ((128 + n / 64 % 64 : Nat) : Int) := by omega
  by_cases h : n < 2048
  · rw [if_pos (by omega), if_pos h, a1, a2, w1 _ (by omega), w1 _ (by omega), b1, b2]
  · rw [if_neg (by omega), if_neg h, a3, a4, a2, w1 _ (by omega), w1 _ (by omega), w1 _ (by omega), b3, b4, b2]
theorem rdec_l (a : ByteArray) (ha : a.size ≤ 100000) (n : Nat) : ∀ (i k : Nat) (acc : List Int), a.size - i ≤ n → n < k → acc.length ≤ 3 * i →
    PNm.portmanteauref10_Decode.l0 k a tabL acc (i : Int) = some (strOfNums (acc ++ decZ (a.data.toList.drop i)), 0) := by
  induction n with
  | zero =>
    intro i k acc h hk hacc
    obtain ⟨k, rfl⟩ : ∃ m, k = m + 1 := ⟨k - 1, by omega⟩
    simp only [PNm.portmanteauref10_Decode.l0]
    rw [if_neg (by omega), List.drop_of_length_le (by rw [len_data]; omega)]
    simp [decZ]
  | succ n ih =>
    intro i k acc h hk hacc
    obtain ⟨k, rfl⟩ : ∃ m, k = m + 1 := ⟨k - 1, by omega⟩
    simp only [PNm.portmanteauref10_Decode.l0]
    by_cases hi : i < a.size
    · have hb := (a.data.toList[i]'(by rw [len_data]; exact hi)).toNat_lt
      have hlen := signZ_len (a.data.toList[i]'(by rw [len_data]; exact hi))
      rw [if_pos (by omega), if_pos (by omega), drop_data a i hi, bt_nat a i hi, wr_small _ (by omega)]
      have hd : decZ (a.data.toList[i]'(by rw [len_data]; exact hi) :: a.data.toList.drop (i + 1)) = signZ (a.data.toList[i]'(by rw [len_data]; exact hi)) ++ decZ (a.data.toList.drop (i + 1)) := by
        unfold decZ; rw [List.flatMap_cons]
      rw [hd, ← List.append_assoc]
      generalize hg : a.data.toList[i]'(by rw [len_data]; exact hi) = b at *
      unfold signZ at hlen ⊢
      by_cases h1 : b.toNat < 128
      · rw [if_pos h1] at hlen ⊢
        rw [if_neg (by omega), bytes_low _ h1]
        simp only [Option.bind_some]
        rw [if_pos (by simp; omega), show wrap64 ((i : Int) + 1) = ((i + 1 : Nat) : Int) by unfold wrap64; omega]
        exact ih (i + 1) k _ (by omega) (by omega) (by simp; omega)
      · rw [if_neg h1] at hlen ⊢
        rw [if_pos (by omega), show wrap64 ((b.toNat : Int) - 128) = ((b.toNat - 128 : Nat) : Int) by unfold wrap64; omega, if_pos (by omega), if_pos (by rw [tab_len]; omega), T_rd _ (by omega), bytes_high _ (T_lo _ (by omega)) (T_hi _ (by omega))]
        simp only [Option.bind_some]
        rw [if_pos (by omega), show wrap64 ((i : Int) + 1) = ((i + 1 : Nat) : Int) by unfold wrap64; omega]
        exact ih (i + 1) k _ (by omega) (by omega) (by rw [List.length_append]; omega)
    · rw [if_neg (by omega), List.drop_of_length_le (by rw [len_data]; omega)]
      simp [decZ]
def decT (a : ByteArray) (u : Bool) : ByteArray := if u then (if validT a then a else ⟨#[]⟩) else ⟨(decB a.data.toList).toArray⟩
def decE (a : ByteArray) (u : Bool) : Int := if u then (if validT a then 0 else 20) else 0
theorem rdecode_f (a : ByteArray) (u : Bool) (ha : a.size ≤ 90000) (k : Nat) (hk : a.size + 20 < k) : PNm.portmanteauref10_Decode.f k a u = some (decT a u, decE a u) := by
  unfold PNm.portmanteauref10_Decode.f decT decE
  cases u
  · rw [if_neg (by simp)]
    show (some tabL).bind _ = _
    simp only [Option.bind_some]
    have h := rdec_l a (by omega) a.size 0 k [] (by omega) (by omega) (by simp)
    rw [List.drop_zero, List.nil_append, dec_nums] at h
    exact h
  · rw [if_pos rfl, strays_f _ a (by omega) (by omega)]
    simp only [Option.bind_some]
    cases validT a <;> rfl
/-! ### there -/
def idx (n : Nat) : Option Nat := (List.range 128).find? (fun k => T k == n)
theorem idx_some {n k : Nat} (h : idx n = some k) : k < 128 ∧ T k = n := by
  have h1 := List.mem_of_find?_eq_some h
  have h2 := List.find?_some h
  exact ⟨List.mem_range.1 h1, beq_iff_eq.1 h2⟩
theorem idx_T (k : Nat) (h : k < 128) : idx (T k) = some k := by
  cases hi : idx (T k) with
  | none =>
    unfold idx at hi
    rw [List.find?_eq_none] at hi
    have := hi k (List.mem_range.2 h)
    simp at this
  | some j =>
    obtain ⟨h1, h2⟩ := idx_some hi
    rw [T_inj j k h1 h h2]
theorem idx_none {n k : Nat} (h : idx n = none) (hk : k < 128) : T k ≠ n := by
  intro e
  rw [← e, idx_T k hk] at h
  cases h
theorem idx_low (n : Nat) (h : n < 128 ∨ 55296 ≤ n) : idx n = none := by
  cases hi : idx n with
  | none => rfl
  | some k =>
    obtain ⟨h1, h2⟩ := idx_some hi
    have := T_lo k h1
    have := T_hi k h1
    omega
/-- One rune's byte. -/
def told (n : Nat) : Option UInt8 := if n < 128 then some (UInt8.ofNat n) else (idx n).map fun k => UInt8.ofNat (128 + k)
def encGo : Nat → List UInt8 → Option (List UInt8)
  | 0, _ => some []
  | f + 1, l => if l = [] then some [] else (told (Lib.decodeL l).1).bind fun b => (encGo f (l.drop (Lib.decodeL l).2)).map (b :: ·)
def encL (l : List UInt8) : Option (List UInt8) := encGo l.length l
theorem encGo_nil : ∀ n, encGo n [] = some []
  | 0 => rfl
  | _ + 1 => by simp [encGo]
theorem encGo_fuel : ∀ (n m : Nat) (l : List UInt8), l.length ≤ n → l.length ≤ m → encGo n l = encGo m l
  | 0, m, l, hn, _ => by
    have : l = [] := List.eq_nil_of_length_eq_zero (by omega)
    subst this
    rw [encGo_nil, encGo_nil]
  | n + 1, 0, l, _, hm => by
    have : l = [] := List.eq_nil_of_length_eq_zero (by omega)
    subst this
    rw [encGo_nil, encGo_nil]
  | n + 1, m + 1, l, hn, hm => by
    unfold encGo
    by_cases hne : l = []
    · simp [hne]
    · have hw := Lib.decodeL_width l
      have hl : 0 < l.length := List.length_pos_iff.2 hne
      rw [if_neg hne, if_neg hne, encGo_fuel n m (l.drop (Lib.decodeL l).2) (by rw [List.length_drop]; omega) (by rw [List.length_drop]; omega)]
theorem enc_nil : encL [] = some [] := rfl
theorem enc_step (l : List UInt8) (hne : l ≠ []) : encL l = (told (Lib.decodeL l).1).bind fun b => (encL (l.drop (Lib.decodeL l).2)).map (b :: ·) := by
  have hl : 0 < l.length := List.length_pos_iff.2 hne
  have hw := Lib.decodeL_width l
  obtain ⟨n, hn⟩ : ∃ n, l.length = n + 1 := ⟨l.length - 1, by omega⟩
  unfold encL
  rw [hn]
  show (if l = [] then some [] else _) = _
  rw [if_neg hne, encGo_fuel n (l.drop (Lib.decodeL l).2).length _ (by rw [List.length_drop]; omega) (Nat.le_refl _)]
/-! ### there and back -/
theorem decode_sign (b : UInt8) (t : List UInt8) (h : ¬ b.toNat < 128) : Lib.decodeL (sign b ++ t) = (T (b.toNat - 128), (sign b).length) := by
  have hb := b.toNat_lt
  have h1 := T_lo (b.toNat - 128) (by omega)
  have h2 := T_hi (b.toNat - 128) (by omega)
  unfold sign Lib.encodeRune
  rw [if_neg h]
  generalize T (b.toNat - 128) = n at *
  rw [rz_cases n h1 h2]
  split
  · rename_i h3
    simp only [List.map_cons, List.map_nil, List.cons_append, List.nil_append]
    rw [Lib.decodeL_N]
    simp only [List.getD_cons_zero, List.getD_cons_succ, List.length_cons]
    have e0 : ((192 + (n : Int) / 64).toNat.toUInt8).toNat = 192 + n / 64 := by
      rw [show (192 + (n : Int) / 64).toNat = 192 + n / 64 by omega]
      simp; omega
    have e1 : ((128 + (n : Int) % 64).toNat.toUInt8).toNat = 128 + n % 64 := by
      rw [show (128 + (n : Int) % 64).toNat = 128 + n % 64 by omega]
      simp; omega
    rw [e0, e1]
    unfold Lib.decodeN
    rw [if_neg (by omega), if_pos (by omega), if_pos (by omega)]
    refine Prod.ext ?_ rfl
    show (192 + n / 64) % 32 * 64 + (128 + n % 64) % 64 = n
    omega
  · rename_i h3
    simp only [List.map_cons, List.map_nil, List.cons_append, List.nil_append]
    rw [Lib.decodeL_N]
    simp only [List.getD_cons_zero, List.getD_cons_succ, List.length_cons]
    have e0 : ((224 + (n : Int) / 4096).toNat.toUInt8).toNat = 224 + n / 4096 := by
      rw [show (224 + (n : Int) / 4096).toNat = 224 + n / 4096 by omega]
      simp; omega
    have e1 : ((128 + (n : Int) / 64 % 64).toNat.toUInt8).toNat = 128 + n / 64 % 64 := by
      rw [show (128 + (n : Int) / 64 % 64).toNat = 128 + n / 64 % 64 by omega]
      simp; omega
    have e2 : ((128 + (n : Int) % 64).toNat.toUInt8).toNat = 128 + n % 64 := by
      rw [show (128 + (n : Int) % 64).toNat = 128 + n % 64 by omega]
      simp; omega
    rw [e0, e1, e2]
    unfold Lib.decodeN
    rw [if_neg (by omega), if_neg (by omega), if_pos (by omega), if_pos (by omega)]
    refine Prod.ext ?_ rfl
    show (224 + n / 4096) % 16 * 4096 + (128 + n / 64 % 64) % 64 * 64 + (128 + n % 64) % 64 = n
    omega
theorem enc_dec : ∀ l : List UInt8, encL (decB l) = some l
  | [] => rfl
  | b :: l => by
    have ih := enc_dec l
    have e : decB (b :: l) = sign b ++ decB l := by unfold decB; rw [List.flatMap_cons]
    have hb := b.toNat_lt
    rw [e]
    by_cases h : b.toNat < 128
    · have hs : sign b = [b] := by unfold sign; rw [if_pos h]
      rw [hs, List.singleton_append, enc_step _ (by simp), Lib.decodeL_ascii b _ h]
      simp only [List.drop_succ_cons, List.drop_zero]
      rw [ih]
      unfold told
      rw [if_pos h]
      simp
    · have hne : sign b ++ decB l ≠ [] := by
        unfold sign Lib.encodeRune
        rw [if_neg h, rz_cases _ (T_lo _ (by omega)) (T_hi _ (by omega))]
        split <;> simp
      rw [enc_step _ hne, decode_sign b _ h]
      simp only [List.drop_left]
      rw [ih]
      unfold told
      have := T_lo (b.toNat - 128) (by omega)
      rw [if_neg (by omega), idx_T _ (by omega)]
      simp only [Option.map_some, Option.bind_some]
      rw [show 128 + (b.toNat - 128) = b.toNat by omega, UInt8.ofNat_toNat]
theorem dec_enc (n : Nat) : ∀ l c : List UInt8, l.length ≤ n → encL l = some c → decB c = l := by
  induction n with
  | zero =>
    intro l c h he
    have : l = [] := List.eq_nil_of_length_eq_zero (by omega)
    subst this
    rw [enc_nil] at he
    rw [← Option.some.inj he]; rfl
  | succ n ih =>
    intro l c h he
    by_cases hne : l = []
    · subst hne
      rw [enc_nil] at he
      rw [← Option.some.inj he]; rfl
    · have hl : 0 < l.length := List.length_pos_iff.2 hne
      have hw := Lib.decodeL_width l
      have hle := Lib.decodeL_le l hne
      rw [enc_step l hne] at he
      obtain ⟨b, hb, he⟩ := Option.bind_eq_some_iff.1 he
      obtain ⟨c', hc, rfl⟩ := Option.map_eq_some_iff.1 he
      have hi := ih _ _ (by rw [List.length_drop]; omega) hc
      have e : decB (b :: c') = sign b ++ decB c' := by unfold decB; rw [List.flatMap_cons]
      rw [e, hi]
      suffices hs : sign b = l.take (Lib.decodeL l).2 by rw [hs, List.take_append_drop]
      have hstray : ¬ ((Lib.decodeL l).1 = 65533 ∧ (Lib.decodeL l).2 = 1) := by
        rintro ⟨h1, _⟩
        unfold told at hb
        rw [h1, if_neg (by omega), idx_low _ (.inr (by omega))] at hb
        cases hb
      have henc := Lib.encode_decode l hne hstray
      rw [← henc]
      unfold told at hb
      by_cases h1 : (Lib.decodeL l).1 < 128
      · rw [if_pos h1] at hb
        have hb' := Option.some.inj hb
        have hbn : b.toNat = (Lib.decodeL l).1 := by rw [← hb']; simp; omega
        unfold sign Lib.encodeRune
        rw [if_pos (by omega), Lib.encodeRuneZ_one (by omega) (by omega)]
        rw [← hb']; simp
      · rw [if_neg h1] at hb
        obtain ⟨k, hk, hb'⟩ := Option.map_eq_some_iff.1 hb
        obtain ⟨k1, k2⟩ := idx_some hk
        have hbn : b.toNat = 128 + k := by rw [← hb']; simp; omega
        unfold sign
        rw [if_neg (by omega), hbn, show 128 + k - 128 = k by omega, k2]
end Go.Proofs.YtcljfjkfjnifnaaDoor.NameCode
