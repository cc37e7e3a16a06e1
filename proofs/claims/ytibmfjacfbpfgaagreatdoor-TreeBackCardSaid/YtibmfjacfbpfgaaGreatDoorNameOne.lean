/- The document's own decoder, a rune at a place: it is the model's. -/
import Derived.Test.YtibmfjacfbpfgaaGreatDoorNameBase
import Derived.Lib.ValidLaws
import Derived.Test.YtibmfjacfbpfgaaGreatDoorPN
import Derived.Test.YtibmfjacfbpfgaaGreatDoorNameRef
import Derived.Lib.DecodeNEq
import Derived.Lib.RuneCount
import Derived.Test.YtibmfjacfbpfgaaGreatDoorNameAny
set_option linter.unusedVariables false
set_option linter.unusedSimpArgs false
namespace Go.Proofs.YtibmfjacfbpfgaaGreatDoor.NameOne
open Go.RowKit YtibmfjacfbpfgaaGreatDoorW.PrintWords YtibmfjacfbpfgaaGreatDoorW.PrintLast NameLaw NameCmp NameWalk NameRef
open NameAny (high_all)
theorem tm (x m : Nat) : Int.tmod (x : Int) (m : Int) = ((x % m : Nat) : Int) := rfl
theorem wr_small (x : Nat) (h : x < 4611686018427387904) : wrap64 (x : Int) = (x : Int) := by unfold wrap64; omega
theorem get_lt (s : ByteArray) (i : Nat) (h : i < s.size) : s.get! i = s[i]'h := by
 simp [ByteArray.get!, getElem!_pos, h]; rfl
theorem bt_get (s : ByteArray) (i : Nat) (h : i < s.size) : bt s (i : Int) = ((s.get! i).toNat : Int) := by
 rw [get_lt s i h]
 unfold bt
 rw [dif_pos (by simpa using h)]
 rfl
theorem within_f (a : ByteArray) (i : Nat) (lo hi : Nat) : PNm.portmanteauref10_within.f a (i : Int) lo hi = some (decide (i < a.size ∧ lo ≤ (a.get! i).toNat ∧ (a.get! i).toNat ≤ hi)) := by
 unfold PNm.portmanteauref10_within.f
 by_cases h : i < a.size
 ·
  rw [if_pos (by omega), if_pos (by omega), bt_get a i h]
  by_cases h1 : lo ≤ (a.get! i).toNat
  ·
   rw [if_pos (by omega)]
   congr 1
   rw [Bool.eq_iff_iff, decide_eq_true_eq, decide_eq_true_eq]
   omega
  ·
   rw [if_neg (by omega)]
   congr 1
   symm
   rw [decide_eq_false_iff_not]
   omega
 ·
  rw [if_neg (by omega)]
  congr 1
  symm
  rw [decide_eq_false_iff_not]
  omega
theorem l0_step (a : ByteArray) (i m n : Nat) (x7 : Int) (k : Nat) (ha : a.size ≤ 100000) (h : i + m < a.size) (hn : n ≤ 1000000) (hm : (m : Int) ≤ x7) (hm4 : m ≤ 4) :
  PNm.portmanteauref10_One.l0 (k + 1) a i x7 n m = PNm.portmanteauref10_One.l0 k a i x7 ((n * 64 + (a.get! (i + m)).toNat % 64 : Nat) : Int) ((m + 1 : Nat) : Int) := by
 have hw : wrap64 ((i : Int) + (m : Int)) = ((i + m : Nat) : Int) := by unfold wrap64; omega
 have hb := (a.get! (i + m)).toNat_lt
 simp only [PNm.portmanteauref10_One.l0]
 rw [if_pos hm, hw, if_pos (by omega), if_pos (by omega), bt_get a _ h, wr_small _ (by omega)]
 rw [show (64 : Int) = ((64 : Nat) : Int) from rfl, tm]
 congr 1
 ·
  unfold wrap64; omega
 ·
  unfold wrap64; omega
theorem l0_end (a : ByteArray) (i m n : Nat) (x7 : Nat) (k : Nat) (hm : x7 < m) (h3 : x7 ≤ 3) : PNm.portmanteauref10_One.l0 (k + 1) a i x7 n m = some ((n : Int), ((x7 + 1 : Nat) : Int)) := by
 simp only [PNm.portmanteauref10_One.l0]
 rw [if_neg (by omega)]
 congr 2
 unfold wrap64; omega
/-- A rune and its width; a stray's are -1 and 1. -/
def ofN (r : Nat × Nat) : Int × Int := if r.2 = 1 then (-1, 1) else ((r.1 : Int), (r.2 : Int))
theorem w1 (i j : Nat) (h : i ≤ 100000) (hj : j ≤ 4) : wrap64 ((i : Int) + (j : Int)) = ((i + j : Nat) : Int) := by unfold wrap64; omega
theorem j10_true (k : Nat) (a : ByteArray) (i c m : Int) : PNm.portmanteauref10_One.j10 (k + 1) a i c m true = some (-1, 1) := by
 simp only [PNm.portmanteauref10_One.j10, if_true]
theorem j9_1 (k : Nat) (a : ByteArray) (i lo hi : Nat) (ha : a.size ≤ 100000) (h : i < a.size) :
  PNm.portmanteauref10_One.j9 (k + 8) a i ((a.get! i).toNat : Int) 1 lo hi = some (ofN (Lib.slowN (a.size - i) (a.get! i).toNat (a.get! (i + 1)).toNat (a.get! (i + 2)).toNat (a.get! (i + 3)).toNat 2 lo hi)) := by
 have hb := (a.get! i).toNat_lt
 simp only [PNm.portmanteauref10_One.j9]
 rw [if_neg (by omega), show ((1 : Int)) = ((1 : Nat) : Int) from rfl, w1 i 1 (by omega) (by omega), within_f]
 simp only [Option.bind_some]
 unfold Lib.slowN
 by_cases h1 : i + 1 < a.size ∧ lo ≤ (a.get! (i + 1)).toNat ∧ (a.get! (i + 1)).toNat ≤ hi
 ·
  rw [decide_eq_true h1, if_pos rfl, if_neg (by omega), if_neg (by omega)]
  rw [if_neg (by omega), if_neg (by omega), if_pos (by omega)]
  simp only [PNm.portmanteauref10_One.j10]
  rw [if_neg (by simp), if_neg (by omega), wr_small _ (by omega)]
  simp only [PNm.portmanteauref10_One.j11]
  rw [if_neg (by omega)]
  simp only [PNm.portmanteauref10_One.j12]
  rw [show (32 : Int) = ((32 : Nat) : Int) from rfl, tm]
  show PNm.portmanteauref10_One.l0 _ a i ((1 : Nat) : Int) _ ((1 : Nat) : Int) = _
  rw [l0_step a i 1 _ _ _ ha h1.1 (by omega) (by omega) (by omega), l0_end a i (1 + 1) _ 1 _ (by omega) (by omega)]
  rfl
 ·
  rw [decide_eq_false h1, if_neg (by simp), j10_true]
  by_cases h2 : a.size - i < 2
  ·
   rw [if_pos h2]; rfl
  ·
   rw [if_neg h2, if_pos (by omega)]; rfl
theorem j9_2 (k : Nat) (a : ByteArray) (i lo hi : Nat) (ha : a.size ≤ 100000) (h : i < a.size) :
  PNm.portmanteauref10_One.j9 (k + 8) a i ((a.get! i).toNat : Int) 2 lo hi = some (ofN (Lib.slowN (a.size - i) (a.get! i).toNat (a.get! (i + 1)).toNat (a.get! (i + 2)).toNat (a.get! (i + 3)).toNat 3 lo hi)) := by
 have hb := (a.get! i).toNat_lt
 have hb1 := (a.get! (i + 1)).toNat_lt
 simp only [PNm.portmanteauref10_One.j9]
 rw [if_neg (by omega), show ((1 : Int)) = ((1 : Nat) : Int) from rfl, w1 i 1 (by omega) (by omega), within_f]
 simp only [Option.bind_some]
 unfold Lib.slowN
 by_cases h1 : i + 1 < a.size ∧ lo ≤ (a.get! (i + 1)).toNat ∧ (a.get! (i + 1)).toNat ≤ hi
 ·
  rw [decide_eq_true h1, if_pos rfl, if_pos (by omega)]
  rw [show wrap64 ((i : Int) + 2) = ((i + 2 : Nat) : Int) from w1 i 2 (by omega) (by omega), show (128 : Int) = ((128 : Nat) : Int) from rfl, show (191 : Int) = ((191 : Nat) : Int) from rfl, within_f]
  simp only [Option.bind_some]
  by_cases h2 : i + 2 < a.size ∧ 128 ≤ (a.get! (i + 2)).toNat ∧ (a.get! (i + 2)).toNat ≤ 191
  ·
   rw [decide_eq_true h2, if_pos rfl, if_neg (show ¬ ((2 : Int) > 2) by omega)]
   rw [if_neg (show ¬ (a.size - i < 3) by omega), if_neg (show ¬ ((a.get! (i + 1)).toNat < lo ∨ hi < (a.get! (i + 1)).toNat) by omega), if_neg (show ¬ (3 ≤ 2) by omega), if_neg (show ¬ ((a.get! (i + 2)).toNat < 128 ∨ 191 < (a.get! (i + 2)).toNat) by omega), if_pos (show 3 ≤ 3 by omega)]
   simp only [PNm.portmanteauref10_One.j10]
   rw [if_neg (show ¬ (false = true) by simp), if_pos trivial, wr_small _ (by omega)]
   simp only [PNm.portmanteauref10_One.j11]
   rw [if_neg (by omega)]
   simp only [PNm.portmanteauref10_One.j12]
   rw [show (16 : Int) = ((16 : Nat) : Int) from rfl, tm]
   show PNm.portmanteauref10_One.l0 _ a i ((2 : Nat) : Int) _ ((1 : Nat) : Int) = _
   rw [l0_step a i 1 _ _ _ ha h1.1 (by omega) (by omega) (by omega), l0_step a i 2 _ _ _ ha h2.1 (by omega) (by omega) (by omega), l0_end a i (2 + 1) _ 2 _ (by omega) (by omega)]
   unfold ofN
   rw [if_neg (by simp)]
   refine congrArg some (Prod.ext (congrArg Nat.cast ?_) rfl)
   omega
  ·
   rw [decide_eq_false h2, if_neg (by simp), j10_true]
   by_cases h3 : a.size - i < 3
   ·
    rw [if_pos h3]; rfl
   ·
    rw [if_neg h3, if_neg (by omega), if_neg (by omega), if_pos (by omega)]; rfl
 ·
  rw [decide_eq_false h1, if_neg (by simp), j10_true]
  by_cases h2 : a.size - i < 3
  ·
   rw [if_pos h2]; rfl
  ·
   rw [if_neg h2, if_pos (by omega)]; rfl
theorem j9_3 (k : Nat) (a : ByteArray) (i lo hi : Nat) (ha : a.size ≤ 100000) (h : i < a.size) :
  PNm.portmanteauref10_One.j9 (k + 8) a i ((a.get! i).toNat : Int) 3 lo hi = some (ofN (Lib.slowN (a.size - i) (a.get! i).toNat (a.get! (i + 1)).toNat (a.get! (i + 2)).toNat (a.get! (i + 3)).toNat 4 lo hi)) := by
 have hb := (a.get! i).toNat_lt
 have hb1 := (a.get! (i + 1)).toNat_lt
 have hb2 := (a.get! (i + 2)).toNat_lt
 simp only [PNm.portmanteauref10_One.j9]
 rw [if_neg (by omega), show ((1 : Int)) = ((1 : Nat) : Int) from rfl, w1 i 1 (by omega) (by omega), within_f]
 simp only [Option.bind_some]
 unfold Lib.slowN
 by_cases h1 : i + 1 < a.size ∧ lo ≤ (a.get! (i + 1)).toNat ∧ (a.get! (i + 1)).toNat ≤ hi
 ·
  rw [decide_eq_true h1, if_pos rfl, if_pos (by omega)]
  rw [show wrap64 ((i : Int) + 2) = ((i + 2 : Nat) : Int) from w1 i 2 (by omega) (by omega), show (128 : Int) = ((128 : Nat) : Int) from rfl, show (191 : Int) = ((191 : Nat) : Int) from rfl, within_f]
  simp only [Option.bind_some]
  by_cases h2 : i + 2 < a.size ∧ 128 ≤ (a.get! (i + 2)).toNat ∧ (a.get! (i + 2)).toNat ≤ 191
  ·
   rw [decide_eq_true h2, if_pos rfl, if_pos (show ((3 : Int) > 2) by omega)]
   rw [show wrap64 ((i : Int) + 3) = ((i + 3 : Nat) : Int) from w1 i 3 (by omega) (by omega), within_f]
   simp only [Option.bind_some]
   by_cases h3 : i + 3 < a.size ∧ 128 ≤ (a.get! (i + 3)).toNat ∧ (a.get! (i + 3)).toNat ≤ 191
   ·
    rw [decide_eq_true h3]
    rw [if_neg (show ¬ (a.size - i < 4) by omega), if_neg (show ¬ ((a.get! (i + 1)).toNat < lo ∨ hi < (a.get! (i + 1)).toNat) by omega), if_neg (show ¬ (4 ≤ 2) by omega), if_neg (show ¬ ((a.get! (i + 2)).toNat < 128 ∨ 191 < (a.get! (i + 2)).toNat) by omega), if_neg (show ¬ (4 ≤ 3) by omega), if_neg (show ¬ ((a.get! (i + 3)).toNat < 128 ∨ 191 < (a.get! (i + 3)).toNat) by omega)]
    simp only [PNm.portmanteauref10_One.j10]
    rw [if_neg (show ¬ ((!true) = true) by simp), if_neg (show ¬ ((3 : Int) = 2) by omega), wr_small _ (by omega)]
    simp only [PNm.portmanteauref10_One.j11]
    rw [if_pos trivial, wr_small _ (by omega)]
    simp only [PNm.portmanteauref10_One.j12]
    rw [show (8 : Int) = ((8 : Nat) : Int) from rfl, tm]
    show PNm.portmanteauref10_One.l0 _ a i ((3 : Nat) : Int) _ ((1 : Nat) : Int) = _
    rw [l0_step a i 1 _ _ _ ha h1.1 (by omega) (by omega) (by omega), l0_step a i 2 _ _ _ ha h2.1 (by omega) (by omega) (by omega), l0_step a i 3 _ _ _ ha h3.1 (by omega) (by omega) (by omega), l0_end a i (3 + 1) _ 3 _ (by omega) (by omega)]
    unfold ofN
    rw [if_neg (by simp)]
    refine congrArg some (Prod.ext (congrArg Nat.cast ?_) rfl)
    omega
   ·
    rw [decide_eq_false h3]
    simp only [Bool.not_false]
    rw [j10_true]
    by_cases h4 : a.size - i < 4
    ·
     rw [if_pos h4]; rfl
    ·
     rw [if_neg h4, if_neg (by omega), if_neg (by omega), if_neg (by omega), if_neg (by omega), if_pos (by omega)]; rfl
  ·
   rw [decide_eq_false h2, if_neg (by simp), j10_true]
   by_cases h3 : a.size - i < 4
   ·
    rw [if_pos h3]; rfl
   ·
    rw [if_neg h3, if_neg (by omega), if_neg (by omega), if_pos (by omega)]; rfl
 ·
  rw [decide_eq_false h1, if_neg (by simp), j10_true]
  by_cases h2 : a.size - i < 4
  ·
   rw [if_pos h2]; rfl
  ·
   rw [if_neg h2, if_pos (by omega)]; rfl
theorem j9_0 (k : Nat) (a : ByteArray) (i c lo hi : Int) : PNm.portmanteauref10_One.j9 (k + 8) a i c 0 lo hi = some (-1, 1) := by
 simp only [PNm.portmanteauref10_One.j9, if_true]
 exact j10_true _ _ _ _ _
set_option maxHeartbeats 2000000 in
theorem one_f (k : Nat) (a : ByteArray) (i : Nat) (hk : 18 ≤ k) (ha : a.size ≤ 100000) (h : i < a.size) :
  PNm.portmanteauref10_One.f k a i = some (if (a.get! i).toNat < 128 then (((a.get! i).toNat : Int), 1) else ofN (Utf8.decode a i)) := by
 obtain ⟨k, rfl⟩ : ∃ m, k = m + 18 := ⟨k - 18, by omega⟩
 have hb := (a.get! i).toNat_lt
 have hb1 := (a.get! (i + 1)).toNat_lt
 have hb2 := (a.get! (i + 2)).toNat_lt
 have hb3 := (a.get! (i + 3)).toNat_lt
 unfold PNm.portmanteauref10_One.f
 rw [if_pos (by omega), if_pos (by omega), bt_get a i h, Lib.decode_at]
 have hn : 1 ≤ a.size - i := by omega
 have e1 := j9_1 (k + 1) a i
 have e2 := j9_2 (k + 1) a i
 have e3 := j9_3 (k + 1) a i
 have e0 := j9_0 (k + 1) a i
 generalize (a.get! i).toNat = c at *
 by_cases c0 : c < 128
 ·
  rw [if_pos (by omega), if_pos c0, wr_small _ (by omega)]
 ·
  rw [if_neg (by omega), if_neg c0]
  by_cases c1 : c < 194
  ·
   rw [if_neg (by omega)]
   simp only [PNm.portmanteauref10_One.j0, PNm.portmanteauref10_One.j1, PNm.portmanteauref10_One.j2, PNm.portmanteauref10_One.j3, PNm.portmanteauref10_One.j4, PNm.portmanteauref10_One.j5, PNm.portmanteauref10_One.j6, PNm.portmanteauref10_One.j7, PNm.portmanteauref10_One.j8]
   rw [if_neg (by simp), if_neg (by omega), if_neg (by simp), if_neg (by omega), if_neg (by simp), if_neg (by omega), if_neg (by omega), if_neg (by omega), if_neg (by omega), e0, Lib.decodeN_bad _ _ _ _ _ (.inl ⟨by omega, c1⟩)]
   rfl
  ·
   rw [if_pos (by omega)]
   by_cases c2 : c < 224
   ·
    simp only [PNm.portmanteauref10_One.j0, PNm.portmanteauref10_One.j1, PNm.portmanteauref10_One.j2, PNm.portmanteauref10_One.j3, PNm.portmanteauref10_One.j4, PNm.portmanteauref10_One.j5, PNm.portmanteauref10_One.j6, PNm.portmanteauref10_One.j7, PNm.portmanteauref10_One.j8]
    rw [if_pos (by simp; omega), if_neg (by omega), if_neg (by simp), if_neg (by omega), if_neg (by simp), if_neg (by omega), if_neg (by omega), if_neg (by omega), if_neg (by omega)]
    refine (e1 128 191 ha h).trans ?_
    rw [Lib.slow_C2 _ _ _ _ _ hn hb1 hb2 hb3 ⟨by omega, c2⟩]
   ·
    by_cases c3 : c < 240
    ·
     simp only [PNm.portmanteauref10_One.j0, PNm.portmanteauref10_One.j1, PNm.portmanteauref10_One.j2, PNm.portmanteauref10_One.j3, PNm.portmanteauref10_One.j4, PNm.portmanteauref10_One.j5, PNm.portmanteauref10_One.j6, PNm.portmanteauref10_One.j7, PNm.portmanteauref10_One.j8]
     rw [if_neg (by simp; omega), if_pos (by omega), if_pos (by simp; omega), if_neg (by omega), if_neg (by simp)]
     by_cases c4 : c = 224
     ·
      rw [if_pos (by omega), if_neg (by omega), if_neg (by omega), if_neg (by omega)]
      refine (e2 160 191 ha h).trans ?_
      rw [Lib.slow_E0 _ _ _ _ _ hn hb1 hb2 hb3 c4]
     ·
      rw [if_neg (by omega)]
      by_cases c5 : c = 237
      ·
       rw [if_pos (by omega), if_neg (by omega), if_neg (by omega)]
       refine (e2 128 159 ha h).trans ?_
       rw [Lib.slow_ED _ _ _ _ _ hn hb1 hb2 hb3 c5]
      ·
       rw [if_neg (by omega), if_neg (by omega), if_neg (by omega)]
       refine (e2 128 191 ha h).trans ?_
       rw [Lib.slow_E1 _ _ _ _ _ hn hb1 hb2 hb3 (by omega)]
    ·
     by_cases c4 : c < 245
     ·
      simp only [PNm.portmanteauref10_One.j0, PNm.portmanteauref10_One.j1, PNm.portmanteauref10_One.j2, PNm.portmanteauref10_One.j3, PNm.portmanteauref10_One.j4, PNm.portmanteauref10_One.j5, PNm.portmanteauref10_One.j6, PNm.portmanteauref10_One.j7, PNm.portmanteauref10_One.j8]
      rw [if_neg (by simp; omega), if_pos (by omega), if_neg (by simp; omega), if_pos (by omega), if_pos (by simp; omega), if_neg (by omega), if_neg (by omega)]
      by_cases c5 : c = 240
      ·
       rw [if_pos (by omega), if_neg (by omega)]
       refine (e3 144 191 ha h).trans ?_
       rw [Lib.slow_F0 _ _ _ _ _ hn hb1 hb2 hb3 c5]
      ·
       rw [if_neg (by omega)]
       by_cases c6 : c = 244
       ·
        rw [if_pos (by omega)]
        refine (e3 128 143 ha h).trans ?_
        rw [Lib.slow_F4 _ _ _ _ _ hn hb1 hb2 hb3 c6]
       ·
        rw [if_neg (by omega)]
        refine (e3 128 191 ha h).trans ?_
        rw [Lib.slow_F1 _ _ _ _ _ hn hb1 hb2 hb3 (by omega)]
     ·
      simp only [PNm.portmanteauref10_One.j0, PNm.portmanteauref10_One.j1, PNm.portmanteauref10_One.j2, PNm.portmanteauref10_One.j3, PNm.portmanteauref10_One.j4, PNm.portmanteauref10_One.j5, PNm.portmanteauref10_One.j6, PNm.portmanteauref10_One.j7, PNm.portmanteauref10_One.j8]
      rw [if_neg (by simp; omega), if_pos (by omega), if_neg (by simp; omega), if_pos (by omega), if_neg (by simp; omega), if_neg (by omega), if_neg (by omega), if_neg (by omega), if_neg (by omega), e0, Lib.decodeN_bad _ _ _ _ _ (.inr ⟨by omega, hb⟩)]
      rfl
/-- A rune of one byte from 128 on is a stray. -/
theorem stray_one (s : ByteArray) (i : Nat) (h : 128 ≤ (s.get! i).toNat) : (Utf8.decode s i).2 = 1 ↔ ((Utf8.decode s i).1 = 65533 ∧ (Utf8.decode s i).2 = 1) := by
 rw [Lib.decode_at]
 unfold Lib.decodeN
 rw [if_neg (by omega)]
 repeat' split
 all_goals simp
theorem strays_l (a : ByteArray) (ha : a.size ≤ 100000) (n : Nat) : ∀ (i k : Nat), a.size - i ≤ n → n + 18 < k → PNm.portmanteauref10_Strays.l0 k a (i : Int) = some (!Lib.validD (a.data.toList.drop i)) := by
 induction n with
 | zero =>
  intro i k h hk
  obtain ⟨k, rfl⟩ : ∃ m, k = m + 1 := ⟨k - 1, by omega⟩
  simp only [PNm.portmanteauref10_Strays.l0]
  rw [if_neg (by omega), List.drop_of_length_le (by rw [len_data]; omega)]; rfl
 | succ n ih =>
  intro i k h hk
  obtain ⟨k, rfl⟩ : ∃ m, k = m + 1 := ⟨k - 1, by omega⟩
  simp only [PNm.portmanteauref10_Strays.l0]
  by_cases hi : i < a.size
  ·
   rw [if_pos (by omega), one_f k a i (by omega) ha hi]
   simp only [Option.bind_some]
   have hne : a.data.toList.drop i ≠ [] := by
    intro e
    have := congrArg List.length e
    rw [List.length_drop, len_data] at this
    simp at this
    omega
   rw [Lib.validD_step _ hne, Lib.decodeL_drop, List.drop_drop]
   by_cases hb : (a.get! i).toNat < 128
   ·
    rw [if_pos hb]
    have hd := decode_ascii a i hi (by rw [← get_lt]; exact hb)
    rw [hd]
    simp only
    rw [if_neg (by omega), if_neg (by rw [← get_lt a i hi]; omega)]
    rw [show wrap64 ((i : Int) + 1) = ((i + 1 : Nat) : Int) by unfold wrap64; omega]
    exact ih (i + 1) k (by omega) (by omega)
   ·
    rw [if_neg hb]
    have hs := stray_one a i (by omega)
    have hw := (high_all a i hi (by rw [← get_lt]; omega)).1
    have hw1 := Lib.decode_width_pos a i hi
    generalize Utf8.decode a i = d at *
    unfold ofN
    by_cases h1 : d.2 = 1
    ·
     rw [if_pos h1, if_pos (by decide), if_pos (hs.1 h1)]; rfl
    ·
     rw [if_neg h1, if_neg (by simp only; omega), if_neg (fun e => h1 e.2)]
     simp only
     rw [show wrap64 ((i : Int) + (d.2 : Int)) = ((i + d.2 : Nat) : Int) by unfold wrap64; omega]
     exact ih (i + d.2) k (by omega) (by omega)
  ·
   rw [if_neg (by omega), List.drop_of_length_le (by rw [len_data]; omega)]; rfl
theorem strays_f (k : Nat) (a : ByteArray) (ha : a.size ≤ 100000) (hk : a.size + 18 < k) : PNm.portmanteauref10_Strays.f k a = some (!validT a) := by
 unfold PNm.portmanteauref10_Strays.f
 have h := strays_l a ha a.size 0 k (by omega) hk
 rw [List.drop_zero] at h
 exact h
end Go.Proofs.YtibmfjacfbpfgaaGreatDoor.NameOne
