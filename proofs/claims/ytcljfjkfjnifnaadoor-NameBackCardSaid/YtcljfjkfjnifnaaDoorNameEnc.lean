/- The document's Encode comes to the plain law. -/
import Derived.Test.YtcljfjkfjnifnaaDoorNameCode
set_option linter.unusedVariables false
set_option linter.unusedSimpArgs false
namespace Go.Proofs.YtcljfjkfjnifnaaDoor.NameEnc
open Go.RowKit Go.Proofs.YtcljfjkfjnifnaaDoorW.PrintWords Go.Proofs.YtcljfjkfjnifnaaDoorW.PrintLast Go.Proofs.YtcljfjkfjnifnaaDoor.NameLaw Go.Proofs.YtcljfjkfjnifnaaDoor.NameCmp Go.Proofs.YtcljfjkfjnifnaaDoor.NameWalk Go.Proofs.YtcljfjkfjnifnaaDoor.NameRef Go.Proofs.YtcljfjkfjnifnaaDoor.NameOne Go.Proofs.YtcljfjkfjnifnaaDoor.NameTab Go.Proofs.YtcljfjkfjnifnaaDoor.NameCode
open Go.Proofs.YtcljfjkfjnifnaaDoor.NameAny (high_all)

def nat8 (l : List UInt8) : List Int := l.map fun b => (b.toNat : Int)
theorem nums_nat8 (l : List UInt8) : strOfNums (nat8 l) = ⟨l.toArray⟩ := by
  unfold strOfNums nat8
  rw [List.map_map]
  congr 2
  conv => rhs; rw [← List.map_id l]
  apply List.map_congr_left
  intro b _
  simp
def encT (a : ByteArray) : ByteArray := match encL a.data.toList with | some c => ⟨c.toArray⟩ | none => ⟨#[]⟩
def encOk (a : ByteArray) : Bool := (encL a.data.toList).isSome
/-- What is left to be told, behind what was told. -/
def outR (acc : List Int) (o : Option (List UInt8)) : ByteArray × Bool := match o with | some c => (strOfNums (acc ++ nat8 c), true) | none => (⟨#[]⟩, false)
def best (n j : Nat) : Int := match idx n with | some k => if k < j then (k : Int) else -1 | none => -1
theorem best_step (n j : Nat) (hj : j < 128) : best n (j + 1) = if T j = n then (j : Int) else best n j := by
  unfold best
  cases h : idx n with
  | none => rw [if_neg (idx_none h hj)]
  | some k =>
    obtain ⟨h1, h2⟩ := idx_some h
    by_cases e : T j = n
    · have : j = k := T_inj j k hj h1 (by rw [e, h2])
      subst this
      rw [if_pos e]
      simp
    · have : j ≠ k := fun e2 => e (by rw [e2, h2])
      rw [if_neg e]
      simp only
      by_cases h3 : k < j
      · rw [if_pos h3, if_pos (by omega)]
      · rw [if_neg h3, if_neg (by omega)]
theorem l1_f (a : ByteArray) (acc : List Int) (i n : Nat) (d : Nat) : ∀ (j k : Nat), 128 - j = d → j ≤ 128 →
    PNm.portmanteauref10_Encode.l1 (k + d + 1) a tabL acc (i : Int) (n : Int) (best n j) (tabL.length : Int) (j : Int) = (if best n 128 < 0 then some (⟨#[]⟩, false) else if acc.length < 140737488355328 then PNm.portmanteauref10_Encode.l0 k a tabL (acc ++ [wrap64 (128 + best n 128) % 256]) (i : Int) else none) := by
  induction d with
  | zero =>
    intro j k h hj
    obtain rfl : j = 128 := by omega
    simp only [PNm.portmanteauref10_Encode.l1, Nat.add_zero]
    rw [if_neg (by rw [tab_len]; omega)]
  | succ d ih =>
    intro j k h hj
    have hs := best_step n j (by omega)
    rw [show k + (d + 1) + 1 = (k + d + 1) + 1 by omega]
    simp only [PNm.portmanteauref10_Encode.l1]
    rw [if_pos (by rw [tab_len]; omega), if_pos (by omega), if_pos (by rw [tab_len]; omega), T_rd j (by omega), show wrap64 ((j : Int) + 1) = ((j + 1 : Nat) : Int) by unfold wrap64; omega]
    by_cases e : T j = n
    · rw [if_pos (by omega)]
      rw [if_pos e] at hs
      rw [← hs]
      exact ih (j + 1) k (by omega) (by omega)
    · rw [if_neg (by omega)]
      rw [if_neg e] at hs
      rw [← hs]
      exact ih (j + 1) k (by omega) (by omega)
theorem l0_f (a : ByteArray) (ha : a.size ≤ 100000) (m : Nat) : ∀ (i k : Nat) (acc : List Int), a.size - i ≤ m → i ≤ a.size → 131 * m + 20 < k → acc.length ≤ i →
    PNm.portmanteauref10_Encode.l0 k a tabL acc (i : Int) = some (outR acc (encL (a.data.toList.drop i))) := by
  induction m with
  | zero =>
    intro i k acc h his hk hacc
    obtain ⟨k, rfl⟩ : ∃ m, k = m + 1 := ⟨k - 1, by omega⟩
    simp only [PNm.portmanteauref10_Encode.l0]
    rw [if_neg (by omega), List.drop_of_length_le (by rw [len_data]; omega), enc_nil]
    unfold outR nat8
    simp
  | succ m ih =>
    intro i k acc h his hk hacc
    obtain ⟨k, rfl⟩ : ∃ m, k = m + 1 := ⟨k - 1, by omega⟩
    simp only [PNm.portmanteauref10_Encode.l0]
    by_cases hi : i < a.size
    · rw [if_pos (by omega), one_f k a i (by omega) ha hi]
      simp only [Option.bind_some]
      have hne : a.data.toList.drop i ≠ [] := by
        intro e
        have := congrArg List.length e
        rw [List.length_drop, len_data, List.length_nil] at this
        omega
      rw [enc_step _ hne, Lib.decodeL_drop, List.drop_drop]
      have hout : ∀ (b : UInt8) (o : Option (List UInt8)), outR (acc ++ [(b.toNat : Int)]) o = outR acc (o.map (b :: ·)) := by
        intro b o
        cases o with
        | none => rfl
        | some c => unfold outR nat8; simp
      by_cases hb : (a.get! i).toNat < 128
      · rw [if_pos hb]
        have hd := decode_ascii a i hi (by rw [← get_lt]; exact hb)
        rw [hd, ← get_lt a i hi]
        simp only
        rw [if_neg (by omega), if_pos (by omega), if_pos (by omega), show wrap64 ((i : Int) + 1) = ((i + 1 : Nat) : Int) by unfold wrap64; omega]
        rw [ih (i + 1) k _ (by omega) (by omega) (by omega) (by simp; omega)]
        unfold told
        rw [if_pos hb]
        simp only [Option.bind_some]
        rw [← hout, UInt8.ofNat_toNat, show ((a.get! i).toNat : Int) % 256 = ((a.get! i).toNat : Int) by omega]
      · rw [if_neg hb]
        have hs := stray_one a i (by omega)
        have hw := (high_all a i hi (by rw [← get_lt]; omega)).1
        have hw1 := Lib.decode_width_pos a i hi
        have hh := (decode_high a i hi (by rw [← get_lt]; omega)).1
        have hlt := decode_le a i
        generalize Utf8.decode a i = d at *
        unfold ofN
        by_cases h1 : d.2 = 1
        · rw [if_pos h1, if_pos (by decide)]
          unfold told
          rw [(hs.1 h1).1, if_neg (by omega), idx_low _ (.inr (by omega))]
          rfl
        · rw [if_neg h1, if_neg (by simp only; omega), if_neg (by simp only; omega)]
          simp only
          rw [show wrap64 ((i : Int) + (d.2 : Int)) = ((i + d.2 : Nat) : Int) by unfold wrap64; omega]
          have hl := l1_f a acc (i + d.2) d.1 128 0 (k - 129) (by omega) (by omega)
          have hb0 : best d.1 0 = -1 := by
            unfold best
            cases idx d.1 <;> rfl
          rw [hb0, show k - 129 + 128 + 1 = k by omega] at hl
          refine hl.trans ?_
          have ht : told d.1 = (idx d.1).map fun k => UInt8.ofNat (128 + k) := by unfold told; rw [if_neg (by omega)]
          rw [ht]
          cases hx : idx d.1 with
          | none =>
            have hb1 : best d.1 128 = -1 := by unfold best; rw [hx]
            rw [hb1, if_pos (by omega)]; rfl
          | some q =>
            obtain ⟨q1, q2⟩ := idx_some hx
            have hb1 : best d.1 128 = (q : Int) := by unfold best; rw [hx]; simp only; rw [if_pos q1]
            rw [hb1, if_neg (by omega), if_pos (by omega), ih (i + d.2) (k - 129) _ (by omega) (by omega) (by omega) (by simp; omega)]
            simp only [Option.map_some, Option.bind_some]
            rw [← hout]
            have e : wrap64 (128 + (q : Int)) % 256 = ((UInt8.ofNat (128 + q)).toNat : Int) := by
              rw [show (128 : Int) + (q : Int) = ((128 + q : Nat) : Int) by omega, wr_small _ (by omega)]
              simp
            rw [e]
    · obtain rfl : i = a.size := by omega
      rw [if_neg (by omega), List.drop_of_length_le (by rw [len_data]; omega), enc_nil]
      unfold outR nat8
      simp
theorem rencode_f (a : ByteArray) (ha : a.size ≤ 90000) (k : Nat) (hk : 131 * a.size + 20 < k) : PNm.portmanteauref10_Encode.f k a = some (encT a, encOk a) := by
  unfold PNm.portmanteauref10_Encode.f
  show (some tabL).bind _ = _
  simp only [Option.bind_some]
  have h := l0_f a (by omega) a.size 0 k [] (by omega) (by omega) hk (by simp)
  rw [List.drop_zero] at h
  refine h.trans ?_
  unfold outR encT encOk
  cases encL a.data.toList with
  | none => rfl
  | some c => simp only [List.nil_append, nums_nat8]; rfl
end Go.Proofs.YtcljfjkfjnifnaaDoor.NameEnc
