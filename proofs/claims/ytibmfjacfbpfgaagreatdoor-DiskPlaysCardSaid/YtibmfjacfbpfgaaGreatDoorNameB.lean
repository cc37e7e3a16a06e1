/- Small laws on texts as lists of bytes. -/
import Derived.Test.YtibmfjacfbpfgaaGreatDoorNameWalk
import Derived.Test.YtibmfjacfbpfgaaGreatDoorPN
import Derived.WideShapes
import Derived.Lib.ValidLaws
import Derived.Laws.RangeAny
import Derived.Laws.Runes
import Derived.WalkMore
import Derived.Lib.DecodeNEq
import Derived.Lib.RuneCount
set_option maxHeartbeats 32000000
set_option linter.unusedVariables false
set_option linter.unusedSimpArgs false
namespace Go.Proofs.YtibmfjacfbpfgaaGreatDoor.NameRef
open Go.RowKit YtibmfjacfbpfgaaGreatDoorW PrintWords PrintLast NameLaw NameCmp NameWalk
theorem wrap_up {i : Int} (h0 : 0 ≤ i) (h : i < 4611686018427387904) : wrap64 (i + 1) = i + 1 := by unfold wrap64; omega
theorem wrap_down {i : Int} (h0 : 0 ≤ i) (h : i < 4611686018427387904) : wrap64 (i - 1) = i - 1 := by unfold wrap64; omega
theorem len_data (s : ByteArray) : s.data.toList.length = s.size := (Lib.size_eq s).symm
theorem bt_nat (s : ByteArray) (i : Nat) (h : i < s.size) : bt s (i : Int) = ((s.data.toList[i]'(by rw [len_data]; exact h)).toNat : Int) := by
 unfold bt;rw [dif_pos (by simpa using h)];rfl
theorem bt_is (s : ByteArray) (i : Nat) (h : i < s.size) (n : Nat) (hn : n < 256) : bt s (i : Int) = (n : Int) ↔ s.data.toList[i]'(by rw [len_data]; exact h) = UInt8.ofNat n := by
 rw [bt_nat s i h, ← UInt8.toNat_inj, UInt8.toNat_ofNat'];omega
theorem drop_data (s : ByteArray) (i : Nat) (h : i < s.size) : s.data.toList.drop i = s.data.toList[i]'(by rw [len_data]; exact h) :: s.data.toList.drop (i + 1) :=
 List.drop_eq_getElem_cons (by rw [len_data]; exact h)
def mk (l : List UInt8) : ByteArray := ⟨l.toArray⟩
theorem mk_data (s : ByteArray) : mk s.data.toList = s := by cases s; simp [mk]
end Go.Proofs.YtibmfjacfbpfgaaGreatDoor.NameRef
namespace Go.Proofs.YtibmfjacfbpfgaaGreatDoor.NameOrd
open Go.RowKit YtibmfjacfbpfgaaGreatDoorW PrintWords PrintLast NameLaw NameCmp NameWalk
end Go.Proofs.YtibmfjacfbpfgaaGreatDoor.NameOrd
namespace Go.Proofs.YtibmfjacfbpfgaaGreatDoor.NameRef
open Go.RowKit YtibmfjacfbpfgaaGreatDoorW PrintWords PrintLast NameLaw NameCmp NameWalk
def glue (x : List UInt8) : List (List UInt8) → List (List UInt8)
 | [] => [x]
 | p :: ps => (x ++ p) :: ps
theorem glue_slash (x l : List UInt8) : glue x (splitL (47 :: l)) = x :: splitL l := by
 rw [splitL_cons, if_pos rfl]; simp [glue]
theorem glue_next (x l : List UInt8) (c : UInt8) (h : c ≠ 47) : glue x (splitL (c :: l)) = glue (x ++ [c]) (splitL l) := by
 rw [splitL_cons, if_neg h]
 cases h2 : splitL l with
 | nil => exact absurd h2 (splitL_ne l)
 | cons p ps => simp [glue]
theorem glue_none (l : List UInt8) : glue [] (splitL l) = splitL l := by
 cases h2 : splitL l with
 | nil => exact absurd h2 (splitL_ne l)
 | cons p ps => simp [glue]
theorem one_byte (s : ByteArray) (i : Nat) (h : i < s.size) (x : ByteArray) : (x ++ s.extract i (i + 1)).data.toList = x.data.toList ++ [s.data.toList[i]'(by rw [len_data]; exact h)] := by
 rw [ByteArray.data_append, Array.toList_append, ← Lib.toList_data (s.extract i (i + 1)), Lib.extract_toList]
 congr 1
 rw [drop_data s i h];simp
theorem parts_l (a : ByteArray) (ha : a.size ≤ 100000) (d : Nat) : ∀ (k i : Nat) (acc : List ByteArray) (x : ByteArray), i ≤ a.size → a.size - i = d → d < k → acc.length ≤ i → x.size ≤ i →
  PNm.r_Parts.l0 k a acc x (i : Int) = some (acc ++ (glue x.data.toList (splitL (a.data.toList.drop i))).map mk) := by
 induction d with
 | zero =>
  intro k i acc x h1 hd hk hacc hx;obtain ⟨k, rfl⟩ : ∃ m, k = m + 1 := ⟨k - 1, by omega⟩;simp only [PNm.r_Parts.l0];rw [if_neg (by omega), if_pos (by omega), List.drop_of_length_le (by rw [len_data]; omega)];simp [splitL, glue, mk_data]
 | succ d ih =>
  intro k i acc x h1 hd hk hacc hx;obtain ⟨k, rfl⟩ : ∃ m, k = m + 1 := ⟨k - 1, by omega⟩;have hi : i < a.size := by omega
  simp only [PNm.r_Parts.l0];rw [if_pos (by omega), if_pos (by omega), drop_data a i hi, wrap_up (by omega) (by omega)]
  by_cases h : bt a (i : Int) = 47
  ·
   rw [if_pos h, if_pos (by omega), show ((i : Int) + 1) = ((i + 1 : Nat) : Int) by omega, ih k (i + 1) _ _ (by omega) (by omega) (by omega) (by simp; omega) (by show 0 ≤ _; omega)];rw [show (47 : Int) = ((47 : Nat) : Int) from rfl, bt_is a i hi 47 (by omega)] at h;rw [h, show (UInt8.ofNat 47) = 47 from rfl, glue_slash]
   show some (acc ++ [x] ++ (glue [] _).map mk) = _
   rw [glue_none];simp [mk_data]
  rw [if_neg h, if_pos (by omega), if_pos (by omega)]
  have he : a.extract (i : Int).toNat ((i : Int) + 1).toNat = a.extract i (i + 1) := by
   rw [show (i : Int).toNat = i by omega, show ((i : Int) + 1).toNat = i + 1 by omega]
  have hs : (a.extract i (i + 1)).size ≤ 1 := by
   rw [Lib.size_eq, ← Lib.toList_data, Lib.extract_toList]; simp; omega
  rw [he, if_pos (by omega), show ((i : Int) + 1) = ((i + 1 : Nat) : Int) by omega, ih k (i + 1) _ _ (by omega) (by omega) (by omega) (by omega) (by rw [ByteArray.size_append]; omega)];rw [show (47 : Int) = ((47 : Nat) : Int) from rfl, bt_is a i hi 47 (by omega), show (UInt8.ofNat 47) = 47 from rfl] at h;rw [one_byte a i hi x, glue_next _ _ _ h]
theorem rparts_f (k : Nat) (a : ByteArray) (ha : a.size ≤ 100000) (hk : a.size < k) : PNm.r_Parts.f k a = some (partsT a) := by
 unfold PNm.r_Parts.f partsT partsL
 by_cases h : a.size = 0
 ·
  rw [if_pos (by omega), if_pos (by rw [← List.length_eq_zero_iff, len_data]; exact h)]; rfl
 rw [if_neg (by omega), if_neg (by rw [← List.length_eq_zero_iff, len_data]; exact h)];have hl := parts_l a ha a.size k 0 [] ⟨#[]⟩ (by omega) (by omega) hk (by simp) (by show 0 ≤ _; omega);rw [List.drop_zero, List.nil_append] at hl;refine hl.trans ?_
 show some ((glue [] _).map mk) = _
 rw [glue_none];rfl
theorem less_l (a b : ByteArray) (ha : a.size ≤ 100000) (hb : b.size ≤ 100000) (d : Nat) : ∀ (k i : Nat), i ≤ a.size → i ≤ b.size → a.size - i = d → 2 * d + 1 < k →
  PNm.r_less.l0 k a b (i : Int) = some (cmpL (a.data.toList.drop i) (b.data.toList.drop i)) := by
 induction d with
 | zero =>
  intro k i h1 h2 hd hk;obtain ⟨k, rfl⟩ : ∃ m, k = m + 2 := ⟨k - 2, by omega⟩;simp only [PNm.r_less.l0];rw [if_neg (by omega)];simp only [PNm.r_less.j1];rw [if_neg (by simp), List.drop_of_length_le (by rw [len_data]; omega)]
  by_cases h : i < b.size
  ·
   rw [if_pos (by omega), drop_data b i h]; rfl
  rw [if_neg (by omega), if_neg (by omega), List.drop_of_length_le (by rw [len_data]; omega)]; rfl
 | succ d ih =>
  intro k i h1 h2 hd hk;obtain ⟨k, rfl⟩ : ∃ m, k = m + 2 := ⟨k - 2, by omega⟩;have hi : i < a.size := by omega
  simp only [PNm.r_less.l0];rw [if_pos (by omega)];simp only [PNm.r_less.j1];rw [drop_data a i hi]
  by_cases h : i < b.size
  ·
   rw [if_pos (by simp; omega), if_pos (by omega), if_pos (by omega), if_pos (by omega), drop_data b i h, bt_nat a i hi, bt_nat b i h, wrap_up (by omega) (by omega)];unfold cmpL
   by_cases l1 : (a.data.toList[i]'(by rw [len_data]; exact hi)) < (b.data.toList[i]'(by rw [len_data]; exact h))
   ·
    have q := UInt8.lt_iff_toNat_lt.1 l1;rw [if_pos (by omega), if_pos l1]
   have q : ¬ ((a.data.toList[i]'(by rw [len_data]; exact hi)).toNat < (b.data.toList[i]'(by rw [len_data]; exact h)).toNat) := fun e => l1 (UInt8.lt_iff_toNat_lt.2 e)
   rw [if_neg (by omega), if_neg l1]
   by_cases l2 : (b.data.toList[i]'(by rw [len_data]; exact h)) < (a.data.toList[i]'(by rw [len_data]; exact hi))
   ·
    have q2 := UInt8.lt_iff_toNat_lt.1 l2;rw [if_pos (by omega), if_pos l2]
   have q2 : ¬ ((b.data.toList[i]'(by rw [len_data]; exact h)).toNat < (a.data.toList[i]'(by rw [len_data]; exact hi)).toNat) := fun e => l2 (UInt8.lt_iff_toNat_lt.2 e)
   rw [if_neg (by omega), if_neg l2, show ((i : Int) + 1) = ((i + 1 : Nat) : Int) by omega, ih k (i + 1) (by omega) (by omega) (by omega) (by omega)]
  rw [if_neg (by simp; omega), if_neg (by omega), if_pos (by omega), List.drop_of_length_le (l := b.data.toList) (by rw [len_data]; omega)]; rfl
theorem less_f (k : Nat) (a b : ByteArray) (ha : a.size ≤ 100000) (hb : b.size ≤ 100000) (hk : 2 * a.size + 1 < k) : PNm.r_less.f k a b = some (cmpB a b) :=
 less_l a b ha hb a.size k 0 (by omega) (by omega) (by omega) hk
theorem rd_at (l : List ByteArray) (i : Nat) (h : i < l.length) : rdOf ByteArray.empty l (i : Int) = l[i] := by
 unfold rdOf;rw [show (i : Int).toNat = i by omega, List.getD_eq_getElem?_getD, List.getElem?_eq_getElem h]; rfl
theorem order_l (l m : List ByteArray) (N : Nat) (hN : N ≤ 100000) (hl : ∀ x ∈ l, x.size ≤ N) (hm : ∀ x ∈ m, x.size ≤ N) (hll : l.length ≤ 100000) (d : Nat) : ∀ (k i : Nat), i ≤ l.length → i ≤ m.length → l.length - i = d → 2 * d + 2 * N + 4 < k →
  PNm.r_Order.l0 k l m (i : Int) = some (cmpPB (l.drop i) (m.drop i)) := by
 induction d with
 | zero =>
  intro k i h1 h2 hd hk;obtain ⟨k, rfl⟩ : ∃ m, k = m + 2 := ⟨k - 2, by omega⟩;simp only [PNm.r_Order.l0];rw [if_neg (by omega)];simp only [PNm.r_Order.j1];rw [if_neg (by simp)]
  by_cases h : i < m.length
  ·
   rw [if_pos (by omega), cmpPB_left (by omega) h]
  rw [if_neg (by omega), if_neg (by omega), cmpPB_both (by omega) (by omega)]
 | succ d ih =>
  intro k i h1 h2 hd hk;obtain ⟨k, rfl⟩ : ∃ m, k = m + 2 := ⟨k - 2, by omega⟩;have hi : i < l.length := by omega
  simp only [PNm.r_Order.l0];rw [if_pos (by omega)];simp only [PNm.r_Order.j1]
  by_cases h : i < m.length
  ·
   rw [if_pos (by simp; omega), if_pos (by omega), if_pos (by omega), if_pos (by omega), rd_at l i hi, rd_at m i h];have z1 := hl l[i] (List.getElem_mem hi);have z2 := hm m[i] (List.getElem_mem h);rw [less_f k _ _ (by omega) (by omega) (by omega), cmpPB_step hi h];simp only [Option.bind_some]
   by_cases hz : cmpB l[i] m[i] = 0
   ·
    rw [if_pos hz, if_pos hz, wrap_up (by omega) (by omega), show ((i : Int) + 1) = ((i + 1 : Nat) : Int) by omega, ih k (i + 1) (by omega) (by omega) (by omega) (by omega)]
   rw [if_neg hz, if_neg hz]
  rw [if_neg (by simp; omega), if_neg (by omega), if_pos (by omega), cmpPB_right hi (by omega)]
theorem piece_le (l : List UInt8) : ∀ p ∈ splitL l, p.length ≤ l.length := by
 induction l with
 | nil => intro p hp; simp [splitL] at hp; subst hp; simp
 | cons c l ih =>
  intro p hp;rw [splitL_cons] at hp
  split at hp
  ·
   rcases List.mem_cons.1 hp with rfl | h
   ·
    simp
   have := ih p h; simp; omega
  cases h : splitL l with
  | nil => exact absurd h (splitL_ne l)
  | cons q qs =>
   rw [h] at hp ih
   rcases List.mem_cons.1 hp with rfl | h2
   ·
    have := ih q List.mem_cons_self; simp; omega
   have := ih p (List.mem_cons_of_mem _ h2); simp; omega
theorem partsT_le (a : ByteArray) : ∀ x ∈ partsT a, x.size ≤ a.size := by
 intro x hx;unfold partsT partsL at hx;obtain ⟨l, hl, rfl⟩ := List.mem_map.1 hx
 split at hl
 ·
  simp at hl
 have := piece_le _ l hl;rw [len_data] at this;exact this
theorem partsT_count (a : ByteArray) : (partsT a).length ≤ a.size + 1 := by
 unfold partsT partsL
 split
 ·
  simp
 rw [List.length_map];have := splitL_length a.data.toList;rw [len_data] at this; exact this
theorem rorder_f (k : Nat) (a b : ByteArray) (ha : a.size ≤ 10000) (hb : b.size ≤ 10000) (hk : 45000 < k) : PNm.r_Order.f k a b = some (orderT a b) := by
 unfold PNm.r_Order.f;rw [rparts_f _ a (by omega) (by omega), rparts_f _ b (by omega) (by omega)];simp only [Option.bind_some];have c1 := partsT_count a;have h := order_l (partsT a) (partsT b) 10000 (by omega) (fun x hx => by have := partsT_le a x hx; omega) (fun x hx => by have := partsT_le b x hx; omega) (by omega) (partsT a).length k 0 (by omega) (by omega) (by omega) (by omega);refine h.trans ?_;rw [List.drop_zero, List.drop_zero, cmpPB_data, partsT_data, partsT_data]; rfl
def lastL (l : List UInt8) : Nat → Option Nat
 | 0 => none
 | n + 1 => if l[n]? = some 47 then some n else lastL l n
theorem lastL_lt (l : List UInt8) : ∀ n j, lastL l n = some j → j < n
 | 0, _, h => by simp [lastL] at h
 | n + 1, j, h => by
  unfold lastL at h
  split at h
  ·
   have := Option.some.inj h; omega
  have := lastL_lt l n j h; omega
theorem at_slash (s : ByteArray) (n : Nat) (h : n < s.size) : bt s (n : Int) = 47 ↔ s.data.toList[n]? = some 47 := by
 rw [List.getElem?_eq_getElem (by rw [len_data]; exact h), Option.some.injEq, show (47 : Int) = ((47 : Nat) : Int) from rfl, bt_is s n h 47 (by omega)]; rfl
def parentT (a : ByteArray) : ByteArray := match lastL a.data.toList a.size with | none => ⟨#[]⟩ | some j => a.extract 0 j
def baseT (a : ByteArray) : ByteArray := match lastL a.data.toList a.size with | none => a | some j => a.extract (j + 1) a.size
theorem last_l (a : ByteArray) (ha : a.size ≤ 100000) : ∀ (n k : Nat), n ≤ a.size → n < k →
  PNm.bytealg_LastIndexByteString.l0 k a 47 ((n : Int) - 1) = some (match lastL a.data.toList n with | none => -1 | some j => (j : Int))
 | 0, k, h, hk => by
  obtain ⟨k, rfl⟩ : ∃ m, k = m + 1 := ⟨k - 1, by omega⟩;simp only [PNm.bytealg_LastIndexByteString.l0];rw [if_neg (by omega)]; rfl
 | n + 1, k, h, hk => by
  obtain ⟨k, rfl⟩ : ∃ m, k = m + 1 := ⟨k - 1, by omega⟩;simp only [PNm.bytealg_LastIndexByteString.l0];rw [show (((n + 1 : Nat) : Int) - 1) = (n : Int) by omega, if_pos (by omega), if_pos (by omega), if_pos (by omega)];unfold lastL
  by_cases hb : bt a (n : Int) = 47
  ·
   rw [if_pos hb, if_pos ((at_slash a n (by omega)).1 hb)]
  rw [if_neg hb, if_neg (fun e => hb ((at_slash a n (by omega)).2 e)), wrap_down (by omega) (by omega)];exact last_l a ha n k (by omega) (by omega)
theorem last_f (k : Nat) (a : ByteArray) (ha : a.size ≤ 100000) (hk : a.size < k) : PNm.strings_LastIndexByte.f k a 47 = some (match lastL a.data.toList a.size with | none => -1 | some j => (j : Int)) := by
 unfold PNm.strings_LastIndexByte.f PNm.bytealg_LastIndexByteString.f;rw [show wrap64 ((a.size : Int) - 1) = (a.size : Int) - 1 by unfold wrap64; omega, last_l a ha a.size k (by omega) hk];rfl
theorem parent_f (k : Nat) (a : ByteArray) (ha : a.size ≤ 100000) (hk : a.size < k) : PNm.name_Parent.f k a = some (parentT a) := by
 unfold PNm.name_Parent.f parentT;rw [last_f k a ha hk];simp only [Option.bind_some]
 cases h : lastL a.data.toList a.size with
 | none =>
  simp only;rw [show mx 0 (-1) = 0 by decide, if_pos (by omega), if_pos (by omega)]
  congr 1
  apply Go.WideShapes.bytes_inj;rw [← Lib.toList_data, Lib.extract_toList]; simp
 | some j =>
  have hj := lastL_lt _ _ _ h;simp only;rw [show mx 0 (j : Int) = (j : Int) by unfold mx; omega, if_pos (by omega), if_pos (by omega), show (j : Int).toNat = j by omega]
theorem base_f (k : Nat) (a : ByteArray) (ha : a.size ≤ 100000) (hk : a.size < k) : PNm.name_Base.f k a = some (baseT a) := by
 unfold PNm.name_Base.f baseT;rw [last_f k a ha hk];simp only [Option.bind_some]
 cases h : lastL a.data.toList a.size with
 | none =>
  simp only;rw [show wrap64 (-1 + 1) = 0 by unfold wrap64; omega, if_pos (by omega), if_pos (by omega)]
  congr 1
  apply Go.WideShapes.bytes_inj;rw [← Lib.toList_data, Lib.extract_toList]; simp;rw [List.take_of_length_le (by rw [len_data]; omega)]
 | some j =>
  have hj := lastL_lt _ _ _ h;simp only;rw [wrap_up (by omega) (by omega), if_pos (by omega), if_pos (by omega), show ((j : Int) + 1).toNat = j + 1 by omega]
theorem rparent_l (a : ByteArray) (ha : a.size ≤ 100000) : ∀ (n k : Nat), n ≤ a.size → n < k →
  PNm.r_Parent.l0 k a ((n : Int) - 1) = some (match lastL a.data.toList n with | none => ⟨#[]⟩ | some j => a.extract 0 j)
 | 0, k, h, hk => by
  obtain ⟨k, rfl⟩ : ∃ m, k = m + 1 := ⟨k - 1, by omega⟩;simp only [PNm.r_Parent.l0];rw [if_neg (by omega)]; rfl
 | n + 1, k, h, hk => by
  obtain ⟨k, rfl⟩ : ∃ m, k = m + 1 := ⟨k - 1, by omega⟩;simp only [PNm.r_Parent.l0];rw [show (((n + 1 : Nat) : Int) - 1) = (n : Int) by omega, if_pos (by omega), if_pos (by omega), if_pos (by omega)];unfold lastL
  by_cases hb : bt a (n : Int) = 47
  ·
   rw [if_pos hb, if_pos (by omega), if_pos ((at_slash a n (by omega)).1 hb), show (n : Int).toNat = n by omega]
  rw [if_neg hb, if_neg (fun e => hb ((at_slash a n (by omega)).2 e)), wrap_down (by omega) (by omega)];exact rparent_l a ha n k (by omega) (by omega)
theorem rparent_f (k : Nat) (a : ByteArray) (ha : a.size ≤ 100000) (hk : a.size < k) : PNm.r_Parent.f k a = some (parentT a) := by
 unfold PNm.r_Parent.f;rw [show wrap64 ((a.size : Int) - 1) = (a.size : Int) - 1 by unfold wrap64; omega];exact rparent_l a ha a.size k (by omega) hk
theorem rbase_l (a : ByteArray) (ha : a.size ≤ 100000) : ∀ (n k : Nat), n ≤ a.size → n < k →
  PNm.r_Base.l0 k a ((n : Int) - 1) = some (match lastL a.data.toList n with | none => a | some j => a.extract (j + 1) a.size)
 | 0, k, h, hk => by
  obtain ⟨k, rfl⟩ : ∃ m, k = m + 1 := ⟨k - 1, by omega⟩;simp only [PNm.r_Base.l0];rw [if_neg (by omega)]; rfl
 | n + 1, k, h, hk => by
  obtain ⟨k, rfl⟩ : ∃ m, k = m + 1 := ⟨k - 1, by omega⟩;simp only [PNm.r_Base.l0];rw [show (((n + 1 : Nat) : Int) - 1) = (n : Int) by omega, if_pos (by omega), if_pos (by omega), if_pos (by omega)];unfold lastL
  by_cases hb : bt a (n : Int) = 47
  ·
   rw [if_pos hb, wrap_up (by omega) (by omega), if_pos (by omega), if_pos (by omega), if_pos ((at_slash a n (by omega)).1 hb), show ((n : Int) + 1).toNat = n + 1 by omega]
  rw [if_neg hb, if_neg (fun e => hb ((at_slash a n (by omega)).2 e)), wrap_down (by omega) (by omega)];exact rbase_l a ha n k (by omega) (by omega)
theorem rbase_f (k : Nat) (a : ByteArray) (ha : a.size ≤ 100000) (hk : a.size < k) : PNm.r_Base.f k a = some (baseT a) := by
 unfold PNm.r_Base.f;rw [show wrap64 ((a.size : Int) - 1) = (a.size : Int) - 1 by unfold wrap64; omega];exact rbase_l a ha a.size k (by omega) hk
end Go.Proofs.YtibmfjacfbpfgaaGreatDoor.NameRef
namespace Go.Proofs.YtibmfjacfbpfgaaGreatDoor.NameKeepLaw
open Go.RowKit NameLaw NameCmp NameWalk NameRef
theorem anyB (chars : List UInt8) : ∀ l, Lib.containsAny l chars = l.any chars.contains
 | [] => rfl
 | b :: l => by
  have ih := anyB chars l;have hg := Lib.indexAny_ge chars l;unfold Lib.containsAny at *;unfold Lib.indexAny;rw [List.any_cons];cases h : chars.contains b
  ·
   rw [if_neg (by simp), Bool.false_or, ← ih]
   by_cases h2 : Lib.indexAny l chars = -1
   ·
    rw [if_pos (by rw [h2]; rfl), h2]
   rw [if_neg (by rw [beq_iff_eq]; exact h2)];rw [Bool.eq_iff_iff, decide_eq_true_eq, decide_eq_true_eq]; omega
  rfl
theorem last_spec (l : List UInt8) : ∀ n, n ≤ l.length → match lastL l n with
  | none => ∀ c ∈ l.take n, c ≠ 47
  | some j => j < n ∧ l.take n = l.take j ++ 47 :: (l.take n).drop (j + 1) ∧ ∀ c ∈ (l.take n).drop (j + 1), c ≠ 47 := by
 intro n
 induction n with
 | zero => intro _; simp [lastL]
 | succ n ih =>
  intro h;have hn : n < l.length := by omega
  have ht : l.take (n + 1) = l.take n ++ [l[n]] := by rw [List.take_add_one, List.getElem?_eq_getElem hn]; rfl
  unfold lastL
  by_cases h1 : l[n]? = some 47
  ·
   rw [if_pos h1];rw [List.getElem?_eq_getElem hn, Option.some.injEq] at h1;simp only;have hd : (l.take (n + 1)).drop (n + 1) = [] := List.drop_of_length_le (by rw [List.length_take]; omega);rw [hd];refine ⟨by omega, by rw [ht, h1], by simp⟩
  rw [if_neg h1];have hne : l[n] ≠ 47 := fun e => h1 (by rw [List.getElem?_eq_getElem hn, e])
  have ih := ih (by omega)
  cases hj : lastL l n with
  | none =>
   rw [hj] at ih;simp only at ih ⊢;rw [ht];intro c hc
   rcases List.mem_append.1 hc with hc | hc
   ·
    exact ih c hc
   rw [List.mem_singleton.1 hc]; exact hne
  | some j =>
   rw [hj] at ih;simp only at ih ⊢;obtain ⟨i1, i2, i3⟩ := ih;have hlen : (l.take n).length = n := by rw [List.length_take]; omega
   refine ⟨by omega, ?_, ?_⟩
   ·
    rw [ht, List.drop_append_of_le_length (by omega)]
    conv => lhs; rw [i2]
    rw [List.append_assoc]; rfl
   rw [ht, List.drop_append_of_le_length (by omega)];intro c hc
   rcases List.mem_append.1 hc with hc | hc
   ·
    exact i3 c hc
   rw [List.mem_singleton.1 hc]; exact hne
theorem last_none (l : List UInt8) (h : lastL l l.length = none) : splitL l = [l] := by
 have := last_spec l l.length (Nat.le_refl _);rw [h, List.take_length] at this;exact splitL_no l this
theorem last_some (l : List UInt8) (j : Nat) (h : lastL l l.length = some j) : j < l.length ∧ l = l.take j ++ 47 :: l.drop (j + 1) ∧ splitL l = splitL (l.take j) ++ [l.drop (j + 1)] := by
 have := last_spec l l.length (Nat.le_refl _);rw [h, List.take_length] at this;obtain ⟨h1, h2, h3⟩ := this;refine ⟨h1, h2, ?_⟩
 conv => lhs; rw [h2]
 rw [splitL_append, splitL_no _ h3]
theorem any_mk (p : List UInt8 → Bool) (s : ByteArray) : ((splitT s).any fun x => p x.data.toList) = (splitL s.data.toList).any p := by
 unfold splitT;rw [List.any_map]; rfl
theorem badParts_iff (s : ByteArray) : badParts s = false ↔ ∀ x ∈ splitL (cutT s).data.toList, safeL x = true := by
 unfold badParts;rw [any_mk (fun x => !safeL x), List.any_eq_false];simp
theorem cut_same {s : ByteArray} (h : Lib.hasSuffix s.data.toList [47] = false) : cutT s = s := by
 unfold cutT Lib.trimSuffix;rw [h];exact mk_data s
theorem cut_cases (s : ByteArray) : (isDir s = false ∧ cutT s = s) ∨ (isDir s = true ∧ s.data.toList = (cutT s).data.toList ++ [47]) := by
 cases h : isDir s
 ·
  exact .inl ⟨rfl, cut_same h⟩
 refine .inr ⟨rfl, ?_⟩;unfold isDir at h;unfold cutT Lib.trimSuffix;rw [if_pos h];unfold Lib.hasSuffix at h;rw [List.isSuffixOf_iff_suffix] at h;obtain ⟨t, ht⟩ := h
 show s.data.toList = s.data.toList.take _ ++ [47]
 rw [← ht];simp
end Go.Proofs.YtibmfjacfbpfgaaGreatDoor.NameKeepLaw
namespace Go.Proofs.YtibmfjacfbpfgaaGreatDoor.NameAny
open Go.RowKit YtibmfjacfbpfgaaGreatDoorW PrintWords PrintLast NameLaw NameCmp NameWalk NameOrd
def two : ByteArray := ⟨#[0, 92]⟩
theorem get_lt (s : ByteArray) (i : Nat) (h : i < s.size) : s.get! i = s[i]'h := by
 simp [ByteArray.get!, getElem!_pos, h]; rfl
theorem high_all (s : ByteArray) (pos : Nat) (h : pos < s.size) (ha : 128 ≤ (s[pos]'h).toNat) :
  pos + (Utf8.decode s pos).2 ≤ s.size ∧ ∀ j, j < (Utf8.decode s pos).2 → 128 ≤ (s.get! (pos + j)).toNat := by
 have hn : ¬ (s[pos]'h).toNat < 128 := by omega
 have h0 : 128 ≤ (s.get! (pos + 0)).toNat := by rw [get_at s pos h]; exact ha
 simp only [Utf8.decode, get_at s pos h, hn, if_false]
 repeat' split
 all_goals (simp_all [Utf8.runeError])
 all_goals first | omega | (refine ⟨by omega, fun j hj => ?_⟩; match j, hj with
  | 0, _ => exact h0
  | 1, _ => omega
  | 2, _ => omega
  | 3, _ => omega)
set_option maxRecDepth 1000000 in
theorem rune_high (r : Int) (h0 : 128 ≤ r) (h1 : r ≤ 2147483647) (w : World) : Calls Tryz.prog 150 #[.string two, .int .i32 r] w fun e w' => e = .returned (.int .i64 (-1)) ∧ Below w.heap.size w w' := by
 have d1 : decide ((0 : Int) ≤ r) = true := decide_eq_true (by omega);have d2 : decide (r < (128 : Int)) = false := decide_eq_false (by omega)
 by_cases h2 : r = 65533
 ·
  have q : (r == 65533) = true := by rw [beq_iff_eq]; exact h2
  go_enter Tryz.func150, Tryz.ntmps150;go_wp2
  go_loopg [5, 6] 2 (fun g _ _ wx => ∃ i : Nat, i + g = 2 ∧ wx = w.iter two i)
  case atStart => exact ⟨0, by omega, rfl⟩
  obtain ⟨i, hig, rfl⟩ := hrel
  cases gk with
  | zero =>
   obtain rfl : i = 2 := by omega
   have hnx := fun ty => run_next_end (P := Tryz.prog) w two 2 ty (by decide)
   go_wp2;go_ret;exact ⟨rfl, (Below.refl _ _).alloc (Nat.le_refl _) _⟩
  | succ g =>
   have hi : i < two.size := by show i < 2; omega
   have hx128 : (two[i]'hi).toNat < 128 := by
    match i, hi with
    | 0, _ => show UInt8.toNat 0 < 128; decide
    | 1, _ => show UInt8.toNat 92 < 128; decide
    | i + 2, h => exact absurd h (by show ¬ (i + 2 < 2); omega)
   have hnx := fun ty => run_next_ascii (P := Tryz.prog) w two i ty hi hx128
   have hne : ((((two[i]'hi).toNat : Int)) == 65533) = false := beq_eq_false_iff_ne.2 (by omega);generalize (two[i]'hi).toNat = x at *;go_wp2
   go_roundg g
   case measure => omega
   case rel => exact ⟨i + 1, by omega, rfl⟩
 have q : (r == 65533) = false := by rw [beq_eq_false_iff_ne]; exact h2
 by_cases h3 : Lib.validRune r = true
 ·
  go_enter Tryz.func150, Tryz.ntmps150
  go_wp2_with (go_at_call 171; refine (Tryz.utf8_ValidRune r _).mono ?_; rintro e w' ⟨rfl, rfl⟩; rw [h3])
  obtain ⟨f1, f2, f3⟩ := encode_facts r (by rw [validRune_eq]; exact h3) h0;obtain ⟨rs, hrs⟩ : ∃ rs, Utf8.encode r = rs := ⟨_, rfl⟩;rw [hrs] at f1 f2 f3;have F1 := Lib.hid f1;have F2 := Lib.hid f2;have F3 := Lib.hid f3;clear f1 f2 f3;obtain ⟨n, hn⟩ : ∃ n : Nat, rs.size = n + 2 := ⟨rs.size - 2, by have := F1.out; omega⟩;have hn4 : n ≤ 2 := by have := F2.out; omega
  have hw : wrap64 ((rs.size : Int) - 1) = (n : Int) + 1 := by unfold wrap64; omega
  have HN := Lib.hid hn;clear hn;go_wp2
  go_step3
  go_wp2;simp only [hw]
  go_loopw [9] (fun i wr => i = .int .i64 ((n : Int) + 1) ∧ wr = w') (fun _ _ => 0)
  case atStart => exact ⟨rfl, rfl⟩
  obtain ⟨rfl, rfl⟩ := hrel;clear hw
  cases n with
  | zero =>
   have hn : rs.size = 2 := HN.out;have h1s : (1 : Int) < (rs.size : Int) := by omega
   have h1n : 1 < rs.size := by omega
   obtain ⟨c, hc⟩ : ∃ c, rs[1]'h1n = c := ⟨_, rfl⟩
   have hb : 128 ≤ c.toNat := by
    have h := F3.out;have e : rs.size - 1 = 1 := by omega
    have := h (by omega);simp only [e] at this;rw [← hc];exact this
   have hne : (((two[1]'(by decide)).toNat : Int) != (c.toNat : Int)) = true := by
    show ((92 : Int) != (c.toNat : Int)) = true
    rw [bne_iff_ne]; omega
   have ht2 : (2 : Int) ≤ (two.size : Int) := by decide
   have hw2 : IntKind.i64.wrap 2 = 2 := by decide
   have hib : ∀ x, Lib.indexByte (two.extract 2 two.size).data.toList x = -1 := fun x => rfl
   clear hn;go_wp2
   go_step3
   go_wp2
   go_quiet (fail)
   have HQ := Lib.hid (pw_below_drewN (Below.refl wr.heap.size wr) nq);generalize wr.drewN nq = wq at *;go_wp2
   go_quiet ((go_at_call 170; exact Calls.quiet_of_same ((Tryz.strings_IndexByte _ _ _).mono fun _ _ h => ⟨h.1, h.2⟩)))
   have HQ2 := Lib.hid (pw_below_drewN HQ.out nq);rw [hib];go_wp2;rw [Exit.noGoto_ret];go_wp2;rw [Exit.noGoto_ret];go_wp2;go_ret;exact ⟨rfl, HQ2.out⟩
  | succ n =>
   go_wp2;rw [Exit.noGoto_ret];go_wp2;go_ret;exact ⟨rfl, Below.refl _ _⟩
 have h3' : Lib.validRune r = false := by simpa using h3
 go_enter Tryz.func150, Tryz.ntmps150
 go_wp2_with (go_at_call 171; refine (Tryz.utf8_ValidRune r _).mono ?_; rintro e w' ⟨rfl, rfl⟩; rw [h3'])
 go_ret;exact ⟨rfl, Below.refl _ _⟩
theorem no_high (s : ByteArray) (i : Nat) (hno : Lib.NoAny s.data.toList two.data.toList i) (h : i < s.size) (ha : 128 ≤ (s[i]'h).toNat) :
  Lib.NoAny s.data.toList two.data.toList (i + (Utf8.decode s i).2) := by
 obtain ⟨h1, h2⟩ := high_all s i h ha;intro j b hj hb
 by_cases hji : j < i
 ·
  exact hno j b hji hb
 have hjs : j < s.size := by omega
 have h3 := h2 (j - i) (by omega);rw [show i + (j - i) = j by omega, get_lt s j hjs] at h3
 have e : b = s[j]'hjs := by
  have := Lib.data_getElem? s j hjs;rw [hb] at this;exact Option.some.inj this
 rw [← e] at h3;have n0 : b ≠ 0 := fun e => by rw [e] at h3; exact absurd h3 (by decide)
 have n1 : b ≠ 92 := fun e => by rw [e] at h3; exact absurd h3 (by decide)
 show ([0, 92] : List UInt8).contains b = false
 simp [n0, n1]
theorem rune_low (x : Int) (h0 : 0 ≤ x) (h1 : x < 128) (w : World) : Calls Tryz.prog 150 #[.string two, .int .i32 x] w fun e w' => e = .returned (.int .i64 (Lib.indexByte two.data.toList x.toNat.toUInt8)) ∧ Below w.heap.size w w' :=
 (Tryz.strings_IndexRune_ascii two x w h0 h1).mono fun _ _ h => ⟨h.1, h.2 ▸ Below.refl _ _⟩
def setIter (W : World) (b : Nat) (s : ByteArray) (p : Nat) : World := { W with heap := W.heap.setIfInBounds b (.stringIter s p) }
def IterAt (W : World) (b : Nat) (s : ByteArray) (p : Nat) : Prop := W.heap[b]? = some (.stringIter s p)
theorem iter_new (W : World) (s : ByteArray) : IterAt (W.iter s 0) W.heap.size s 0 := World.iter_heap W s 0
theorem iter_below0 (w : World) (s : ByteArray) : Below w.heap.size w (w.iter s 0) := (Below.refl w.heap.size w).alloc (Nat.le_refl _) _
theorem iter_set (W : World) (b : Nat) (s : ByteArray) (p q : Nat) (h : IterAt W b s p) : IterAt (setIter W b s q) b s q := by
 have hb : b < W.heap.size := (Array.getElem?_eq_some_iff.1 h).1
 show (W.heap.setIfInBounds b _)[b]? = _
 rw [Array.getElem?_setIfInBounds_self_of_lt hb]
theorem iter_below {W W' : World} {b : Nat} {s : ByteArray} {p : Nat} (h : IterAt W b s p) (hb : Below W.heap.size W W') : IterAt W' b s p := by
 have hl : b < W.heap.size := (Array.getElem?_eq_some_iff.1 h).1
 show W'.heap[b]? = _
 rw [hb.block b hl]; exact h
theorem below_iter {w W : World} {b : Nat} (s : ByteArray) (q : Nat) (hB : w.heap.size ≤ b) (h : Below w.heap.size w W) : Below w.heap.size w (setIter W b s q) :=
 h.trans ⟨rfl, rfl, rfl, by show _ ≤ (W.heap.setIfInBounds b _).size; rw [Array.size_setIfInBounds]; exact Nat.le_refl _, fun k hk => by
  show (W.heap.setIfInBounds b _)[k]? = _
  rw [Array.getElem?_setIfInBounds_ne (by omega)]⟩
theorem next_at {P : Program} (W : World) (b : Nat) (s : ByteArray) (pos : Nat) (ty : TypeId) (h : pos < s.size) (hh : IterAt W b s pos) :
  (Instr.next (.pointer (some ⟨b, 0, none⟩)) true ty).run P W = .ok (.tuple #[.bool true, .int .i64 pos, .int .i32 (Utf8.decode s pos).1]) (setIter W b s (pos + (Utf8.decode s pos).2)) := by
 unfold IterAt at hh;simp only [Instr.next, getObj, setObj, Sem.run_bind, Sem.run, hh, Result.andThen, h, if_true];simp [goInt, setIter]
theorem next_done {P : Program} (W : World) (b : Nat) (s : ByteArray) (pos : Nat) (ty : TypeId) (h : ¬ pos < s.size) (hh : IterAt W b s pos) :
  (Instr.next (.pointer (some ⟨b, 0, none⟩)) true ty).run P W = .ok (.tuple #[.bool false]) W := by
 unfold IterAt at hh;simp [Instr.next, getObj, Sem.run, hh, h]
theorem shou_any (n : Int) (w : World) : Calls Tryz.prog 151 #[.int .i64 n] w fun e w' => e = .returned (.bool (decide (8 < n))) ∧ w' = w := Tryz.strings_shouldUseASCIISet n w
set_option maxRecDepth 1000000 in
theorem short_any (s : ByteArray) (h8 : s.size ≤ 8) (w : World) : Calls Tryz.prog 125 #[.string s, .string two] w fun e w' => e = .returned (.int .i64 (Lib.indexAny s.data.toList two.data.toList)) ∧ Below w.heap.size w w' := by
 have hemp : two.toList.isEmpty = false := by rw [Lib.toList_data]; rfl
 have hn1 : ((two.size : Int) == 1) = false := by decide
 have h8z : decide ((8 : Int) < (s.size : Int)) = false := decide_eq_false (by omega);go_enter Tryz.func125, Tryz.ntmps125
 go_wp2_with (go_at_call 151; refine (shou_any _ _).mono ?_; rintro e w' ⟨rfl, rfl⟩; rw [h8z])
 have HW := Lib.hid (iter_below0 w' s);have HI0 := Lib.hid (iter_new w' s);obtain ⟨b, hb⟩ : ∃ b, b = w'.heap.size := ⟨_, rfl⟩;rw [← hb] at HI0 ⊢;have HBs := Lib.hid (show w'.heap.size ≤ b by omega);clear hb;generalize w'.iter s 0 = w0 at *
 go_loopg [9, 10] s.size (fun g _ _ wx => ∃ i : Nat, s.size - i = g ∧ i ≤ s.size ∧ Hid (IterAt wx b s i) ∧ Hid (Below w'.heap.size w' wx) ∧ Hid (Lib.NoAny s.data.toList two.data.toList i))
 case atStart => exact ⟨0, by omega, by omega, HI0, HW, Lib.hid (Lib.NoAny.zero _ _)⟩
 obtain ⟨i, hig, his, HI, HB, HN⟩ := hrel
 by_cases hi : i < s.size
 ·
  have hnx := fun ty => next_at (P := Tryz.prog) wr b s i ty hi HI.out
  by_cases hx : (s[i]'hi).toNat < 128
  ·
   rw [decode_ascii s i hi hx] at hnx;obtain ⟨x, hxe⟩ : ∃ x, s[i]'hi = x := ⟨_, rfl⟩;rw [hxe] at hx;simp only [hxe] at hnx;have HX := Lib.hid (show s.data.toList[i]? = some x by rw [← hxe]; exact Lib.data_getElem? s i hi);clear hxe;have HB1 := Lib.hid (below_iter s (i + 1) HBs.out HB.out);have HI1 := Lib.hid (iter_set _ _ _ _ (i + 1) HI.out);have HZ := Lib.hid (Lib.contains_iff_indexByte two.data.toList x);have HR := Lib.hid (rune_low x.toNat (by omega) (by omega));generalize setIter wr b s (i + 1) = w1 at *;rw [show ((x.toNat : Int)).toNat.toUInt8 = x by simp] at HR;cases hin : two.data.toList.contains x
   ·
    have hq : decide ((0 : Int) ≤ Lib.indexByte two.data.toList x) = false := by rw [← HZ.out]; exact hin
    go_wp2_with (go_at_call 150; refine (HR.out _).mono ?_; rintro e w2 ⟨rfl, hb2⟩; have HB2 := Lib.hid (below_next HB1.out hb2); have HI2 := Lib.hid (iter_below HI1.out hb2); clear hb2)
    go_roundg (s.size - (i + 1))
    case measure => omega
    case rel => exact ⟨i + 1, rfl, by omega, HI2, HB2, Lib.hid (HN.out.succ HX.out hin)⟩
   have hq : decide ((0 : Int) ≤ Lib.indexByte two.data.toList x) = true := by rw [← HZ.out]; exact hin
   go_wp2_with (go_at_call 150; refine (HR.out _).mono ?_; rintro e w2 ⟨rfl, hb2⟩; have HB2 := Lib.hid (below_next HB1.out hb2); clear hb2)
   go_ret;exact ⟨by rw [Lib.indexAny_hit HN.out HX.out hin]; rfl, HB2.out⟩
  have HD := decode_high s i hi (by omega);have HE := decode_le s i;have HN1 := Lib.hid (no_high s i HN.out hi (by omega));have HF := (high_all s i hi (by omega)).1;obtain ⟨r, k, hrk⟩ : ∃ r k, Utf8.decode s i = (r, k) := ⟨_, _, rfl⟩;rw [hrk] at hnx HD HE HN1 HF;clear hrk;obtain ⟨hD1, hD2⟩ := HD;have HR := Lib.hid (rune_high (r : Int) (by omega) (by omega));have HB1 := Lib.hid (below_iter s (i + k) HBs.out HB.out);have HI1 := Lib.hid (iter_set _ _ _ _ (i + k) HI.out);simp only at hnx;generalize setIter wr b s (i + k) = w1 at *
  go_wp2_with (go_at_call 150; refine (HR.out _).mono ?_; rintro e w2 ⟨rfl, hb2⟩; have HB2 := Lib.hid (below_next HB1.out hb2); have HI2 := Lib.hid (iter_below HI1.out hb2); clear hb2)
  go_roundg (s.size - (i + k))
  case measure => omega
  case rel => exact ⟨i + k, rfl, by simpa using HF, HI2, HB2, HN1⟩
 obtain rfl : i = s.size := by omega
 have hnx := fun ty => next_done (P := Tryz.prog) wr b s s.size ty (by omega) HI.out
 go_wp2;go_ret;exact ⟨by rw [Lib.indexAny_none (by rw [← Lib.size_eq]; exact HN.out)]; rfl, HB.out⟩
theorem index_any (s : ByteArray) (hs : s.size < 4294967281) (w : World) : Calls Tryz.prog 125 #[.string s, .string two] w fun e w' => e = .returned (.int .i64 (Lib.indexAny s.data.toList two.data.toList)) ∧ Below w.heap.size w w' := by
 by_cases h : s.size ≤ 8
 ·
  exact short_any s h w
 have h116 : (Tryz.prog.info? (Tryz.lays153_ren.t 116)).map (fun i => (i.zero, i.size)) = some (some (.agg (Array.replicate 256 (.bool false))), 256) := by kernel_rfl
 refine (Any.strings_IndexAny_long Tryz.lays153 (zero_of_info h116).1 (zero_of_info h116).2 s two w (by decide) (by omega) hs (by decide) (by
  intro j b h
  have : b = 0 ∨ b = 92 := by
   match j, h with
   | 0, h => left; exact (Option.some.inj h).symm
   | 1, h => right; exact (Option.some.inj h).symm
   | j + 2, h => simp [two] at h
  rcases this with rfl | rfl <;> decide)).mono fun e w' ⟨h1, h2⟩ => ⟨h1, ?_⟩
 rw [h2];exact ((Below.refl _ _).alloc (Nat.le_refl _) _).alloc (by simp) _
theorem any_all (s : ByteArray) (hs : s.size < 4294967281) : AnyAt s := by
 intro w hg;have HI := Lib.hid (index_any s hs w);clear hg;go_enter Tryz.func90, Tryz.ntmps90
 go_wp2_with (go_at_call 125; refine HI.out.mono ?_; rintro e w1 ⟨rfl, hb⟩; have HB := Lib.hid hb; clear hb)
 go_ret;exact ⟨rfl, HB.out⟩
end Go.Proofs.YtibmfjacfbpfgaaGreatDoor.NameAny
namespace Go.Proofs.YtibmfjacfbpfgaaGreatDoor.NameOne
open Go.RowKit YtibmfjacfbpfgaaGreatDoorW PrintWords PrintLast NameLaw NameCmp NameWalk NameRef
open NameAny (high_all)
theorem tm (x m : Nat) : Int.tmod (x : Int) (m : Int) = ((x % m : Nat) : Int) := rfl
theorem wr_small (x : Nat) (h : x < 4611686018427387904) : wrap64 (x : Int) = (x : Int) := by unfold wrap64; omega
theorem get_lt (s : ByteArray) (i : Nat) (h : i < s.size) : s.get! i = s[i]'h := by
 simp [ByteArray.get!, getElem!_pos, h]; rfl
theorem bt_get (s : ByteArray) (i : Nat) (h : i < s.size) : bt s (i : Int) = ((s.get! i).toNat : Int) := by
 rw [get_lt s i h];unfold bt;rw [dif_pos (by simpa using h)];rfl
theorem within_f (a : ByteArray) (i : Nat) (lo hi : Nat) : PNm.r_within.f a (i : Int) lo hi = some (decide (i < a.size ∧ lo ≤ (a.get! i).toNat ∧ (a.get! i).toNat ≤ hi)) := by
 unfold PNm.r_within.f
 by_cases h : i < a.size
 ·
  rw [if_pos (by omega), if_pos (by omega), bt_get a i h]
  by_cases h1 : lo ≤ (a.get! i).toNat
  ·
   rw [if_pos (by omega)]
   congr 1
   rw [Bool.eq_iff_iff, decide_eq_true_eq, decide_eq_true_eq];omega
  rw [if_neg (by omega)]
  congr 1
  symm;rw [decide_eq_false_iff_not];omega
 rw [if_neg (by omega)]
 congr 1
 symm;rw [decide_eq_false_iff_not];omega
theorem l0_step (a : ByteArray) (i m n : Nat) (x7 : Int) (k : Nat) (ha : a.size ≤ 100000) (h : i + m < a.size) (hn : n ≤ 1000000) (hm : (m : Int) ≤ x7) (hm4 : m ≤ 4) :
  PNm.r_One.l0 (k + 1) a i x7 n m = PNm.r_One.l0 k a i x7 ((n * 64 + (a.get! (i + m)).toNat % 64 : Nat) : Int) ((m + 1 : Nat) : Int) := by
 have hw : wrap64 ((i : Int) + (m : Int)) = ((i + m : Nat) : Int) := by unfold wrap64; omega
 have hb := (a.get! (i + m)).toNat_lt;simp only [PNm.r_One.l0];rw [if_pos hm, hw, if_pos (by omega), if_pos (by omega), bt_get a _ h, wr_small _ (by omega)];rw [show (64 : Int) = ((64 : Nat) : Int) from rfl, tm]
 congr 1
 ·
  unfold wrap64; omega
 unfold wrap64; omega
theorem l0_end (a : ByteArray) (i m n : Nat) (x7 : Nat) (k : Nat) (hm : x7 < m) (h3 : x7 ≤ 3) : PNm.r_One.l0 (k + 1) a i x7 n m = some ((n : Int), ((x7 + 1 : Nat) : Int)) := by
 simp only [PNm.r_One.l0];rw [if_neg (by omega)]
 congr 2
 unfold wrap64; omega
def ofN (r : Nat × Nat) : Int × Int := if r.2 = 1 then (-1, 1) else ((r.1 : Int), (r.2 : Int))
theorem w1 (i j : Nat) (h : i ≤ 100000) (hj : j ≤ 4) : wrap64 ((i : Int) + (j : Int)) = ((i + j : Nat) : Int) := by unfold wrap64; omega
theorem j10_true (k : Nat) (a : ByteArray) (i c m : Int) : PNm.r_One.j10 (k + 1) a i c m true = some (-1, 1) := by
 simp only [PNm.r_One.j10, if_true]
theorem j9_1 (k : Nat) (a : ByteArray) (i lo hi : Nat) (ha : a.size ≤ 100000) (h : i < a.size) :
  PNm.r_One.j9 (k + 8) a i ((a.get! i).toNat : Int) 1 lo hi = some (ofN (Lib.slowN (a.size - i) (a.get! i).toNat (a.get! (i + 1)).toNat (a.get! (i + 2)).toNat (a.get! (i + 3)).toNat 2 lo hi)) := by
 have hb := (a.get! i).toNat_lt;simp only [PNm.r_One.j9];rw [if_neg (by omega), show ((1 : Int)) = ((1 : Nat) : Int) from rfl, w1 i 1 (by omega) (by omega), within_f];simp only [Option.bind_some];unfold Lib.slowN
 by_cases h1 : i + 1 < a.size ∧ lo ≤ (a.get! (i + 1)).toNat ∧ (a.get! (i + 1)).toNat ≤ hi
 ·
  rw [decide_eq_true h1, if_pos rfl, if_neg (by omega), if_neg (by omega)];rw [if_neg (by omega), if_neg (by omega), if_pos (by omega)];simp only [PNm.r_One.j10];rw [if_neg (by simp), if_neg (by omega), wr_small _ (by omega)];simp only [PNm.r_One.j11];rw [if_neg (by omega)];simp only [PNm.r_One.j12];rw [show (32 : Int) = ((32 : Nat) : Int) from rfl, tm]
  show PNm.r_One.l0 _ a i ((1 : Nat) : Int) _ ((1 : Nat) : Int) = _
  rw [l0_step a i 1 _ _ _ ha h1.1 (by omega) (by omega) (by omega), l0_end a i (1 + 1) _ 1 _ (by omega) (by omega)];rfl
 rw [decide_eq_false h1, if_neg (by simp), j10_true]
 by_cases h2 : a.size - i < 2
 ·
  rw [if_pos h2]; rfl
 rw [if_neg h2, if_pos (by omega)]; rfl
theorem j9_2 (k : Nat) (a : ByteArray) (i lo hi : Nat) (ha : a.size ≤ 100000) (h : i < a.size) :
  PNm.r_One.j9 (k + 8) a i ((a.get! i).toNat : Int) 2 lo hi = some (ofN (Lib.slowN (a.size - i) (a.get! i).toNat (a.get! (i + 1)).toNat (a.get! (i + 2)).toNat (a.get! (i + 3)).toNat 3 lo hi)) := by
 have hb := (a.get! i).toNat_lt;have hb1 := (a.get! (i + 1)).toNat_lt;simp only [PNm.r_One.j9];rw [if_neg (by omega), show ((1 : Int)) = ((1 : Nat) : Int) from rfl, w1 i 1 (by omega) (by omega), within_f];simp only [Option.bind_some];unfold Lib.slowN
 by_cases h1 : i + 1 < a.size ∧ lo ≤ (a.get! (i + 1)).toNat ∧ (a.get! (i + 1)).toNat ≤ hi
 ·
  rw [decide_eq_true h1, if_pos rfl, if_pos (by omega)];rw [show wrap64 ((i : Int) + 2) = ((i + 2 : Nat) : Int) from w1 i 2 (by omega) (by omega), show (128 : Int) = ((128 : Nat) : Int) from rfl, show (191 : Int) = ((191 : Nat) : Int) from rfl, within_f];simp only [Option.bind_some]
  by_cases h2 : i + 2 < a.size ∧ 128 ≤ (a.get! (i + 2)).toNat ∧ (a.get! (i + 2)).toNat ≤ 191
  ·
   rw [decide_eq_true h2, if_pos rfl, if_neg (show ¬ ((2 : Int) > 2) by omega)];rw [if_neg (show ¬ (a.size - i < 3) by omega), if_neg (show ¬ ((a.get! (i + 1)).toNat < lo ∨ hi < (a.get! (i + 1)).toNat) by omega), if_neg (show ¬ (3 ≤ 2) by omega), if_neg (show ¬ ((a.get! (i + 2)).toNat < 128 ∨ 191 < (a.get! (i + 2)).toNat) by omega), if_pos (show 3 ≤ 3 by omega)];simp only [PNm.r_One.j10];rw [if_neg (show ¬ (false = true) by simp), if_pos trivial, wr_small _ (by omega)];simp only [PNm.r_One.j11];rw [if_neg (by omega)];simp only [PNm.r_One.j12];rw [show (16 : Int) = ((16 : Nat) : Int) from rfl, tm]
   show PNm.r_One.l0 _ a i ((2 : Nat) : Int) _ ((1 : Nat) : Int) = _
   rw [l0_step a i 1 _ _ _ ha h1.1 (by omega) (by omega) (by omega), l0_step a i 2 _ _ _ ha h2.1 (by omega) (by omega) (by omega), l0_end a i (2 + 1) _ 2 _ (by omega) (by omega)];unfold ofN;rw [if_neg (by simp)];refine congrArg some (Prod.ext (congrArg Nat.cast ?_) rfl);omega
  rw [decide_eq_false h2, if_neg (by simp), j10_true]
  by_cases h3 : a.size - i < 3
  ·
   rw [if_pos h3]; rfl
  rw [if_neg h3, if_neg (by omega), if_neg (by omega), if_pos (by omega)]; rfl
 rw [decide_eq_false h1, if_neg (by simp), j10_true]
 by_cases h2 : a.size - i < 3
 ·
  rw [if_pos h2]; rfl
 rw [if_neg h2, if_pos (by omega)]; rfl
theorem j9_3 (k : Nat) (a : ByteArray) (i lo hi : Nat) (ha : a.size ≤ 100000) (h : i < a.size) :
  PNm.r_One.j9 (k + 8) a i ((a.get! i).toNat : Int) 3 lo hi = some (ofN (Lib.slowN (a.size - i) (a.get! i).toNat (a.get! (i + 1)).toNat (a.get! (i + 2)).toNat (a.get! (i + 3)).toNat 4 lo hi)) := by
 have hb := (a.get! i).toNat_lt;have hb1 := (a.get! (i + 1)).toNat_lt;have hb2 := (a.get! (i + 2)).toNat_lt;simp only [PNm.r_One.j9];rw [if_neg (by omega), show ((1 : Int)) = ((1 : Nat) : Int) from rfl, w1 i 1 (by omega) (by omega), within_f];simp only [Option.bind_some];unfold Lib.slowN
 by_cases h1 : i + 1 < a.size ∧ lo ≤ (a.get! (i + 1)).toNat ∧ (a.get! (i + 1)).toNat ≤ hi
 ·
  rw [decide_eq_true h1, if_pos rfl, if_pos (by omega)];rw [show wrap64 ((i : Int) + 2) = ((i + 2 : Nat) : Int) from w1 i 2 (by omega) (by omega), show (128 : Int) = ((128 : Nat) : Int) from rfl, show (191 : Int) = ((191 : Nat) : Int) from rfl, within_f];simp only [Option.bind_some]
  by_cases h2 : i + 2 < a.size ∧ 128 ≤ (a.get! (i + 2)).toNat ∧ (a.get! (i + 2)).toNat ≤ 191
  ·
   rw [decide_eq_true h2, if_pos rfl, if_pos (show ((3 : Int) > 2) by omega)];rw [show wrap64 ((i : Int) + 3) = ((i + 3 : Nat) : Int) from w1 i 3 (by omega) (by omega), within_f];simp only [Option.bind_some]
   by_cases h3 : i + 3 < a.size ∧ 128 ≤ (a.get! (i + 3)).toNat ∧ (a.get! (i + 3)).toNat ≤ 191
   ·
    rw [decide_eq_true h3];rw [if_neg (show ¬ (a.size - i < 4) by omega), if_neg (show ¬ ((a.get! (i + 1)).toNat < lo ∨ hi < (a.get! (i + 1)).toNat) by omega), if_neg (show ¬ (4 ≤ 2) by omega), if_neg (show ¬ ((a.get! (i + 2)).toNat < 128 ∨ 191 < (a.get! (i + 2)).toNat) by omega), if_neg (show ¬ (4 ≤ 3) by omega), if_neg (show ¬ ((a.get! (i + 3)).toNat < 128 ∨ 191 < (a.get! (i + 3)).toNat) by omega)];simp only [PNm.r_One.j10];rw [if_neg (show ¬ ((!true) = true) by simp), if_neg (show ¬ ((3 : Int) = 2) by omega), wr_small _ (by omega)];simp only [PNm.r_One.j11];rw [if_pos trivial, wr_small _ (by omega)];simp only [PNm.r_One.j12];rw [show (8 : Int) = ((8 : Nat) : Int) from rfl, tm]
    show PNm.r_One.l0 _ a i ((3 : Nat) : Int) _ ((1 : Nat) : Int) = _
    rw [l0_step a i 1 _ _ _ ha h1.1 (by omega) (by omega) (by omega), l0_step a i 2 _ _ _ ha h2.1 (by omega) (by omega) (by omega), l0_step a i 3 _ _ _ ha h3.1 (by omega) (by omega) (by omega), l0_end a i (3 + 1) _ 3 _ (by omega) (by omega)];unfold ofN;rw [if_neg (by simp)];refine congrArg some (Prod.ext (congrArg Nat.cast ?_) rfl);omega
   rw [decide_eq_false h3];simp only [Bool.not_false];rw [j10_true]
   by_cases h4 : a.size - i < 4
   ·
    rw [if_pos h4]; rfl
   rw [if_neg h4, if_neg (by omega), if_neg (by omega), if_neg (by omega), if_neg (by omega), if_pos (by omega)]; rfl
  rw [decide_eq_false h2, if_neg (by simp), j10_true]
  by_cases h3 : a.size - i < 4
  ·
   rw [if_pos h3]; rfl
  rw [if_neg h3, if_neg (by omega), if_neg (by omega), if_pos (by omega)]; rfl
 rw [decide_eq_false h1, if_neg (by simp), j10_true]
 by_cases h2 : a.size - i < 4
 ·
  rw [if_pos h2]; rfl
 rw [if_neg h2, if_pos (by omega)]; rfl
theorem j9_0 (k : Nat) (a : ByteArray) (i c lo hi : Int) : PNm.r_One.j9 (k + 8) a i c 0 lo hi = some (-1, 1) := by
 simp only [PNm.r_One.j9, if_true];exact j10_true _ _ _ _ _
theorem one_f (k : Nat) (a : ByteArray) (i : Nat) (hk : 18 ≤ k) (ha : a.size ≤ 100000) (h : i < a.size) :
  PNm.r_One.f k a i = some (if (a.get! i).toNat < 128 then (((a.get! i).toNat : Int), 1) else ofN (Utf8.decode a i)) := by
 obtain ⟨k, rfl⟩ : ∃ m, k = m + 18 := ⟨k - 18, by omega⟩;have hb := (a.get! i).toNat_lt;have hb1 := (a.get! (i + 1)).toNat_lt;have hb2 := (a.get! (i + 2)).toNat_lt;have hb3 := (a.get! (i + 3)).toNat_lt;unfold PNm.r_One.f;rw [if_pos (by omega), if_pos (by omega), bt_get a i h, Lib.decode_at];have hn : 1 ≤ a.size - i := by omega
 have e1 := j9_1 (k + 1) a i;have e2 := j9_2 (k + 1) a i;have e3 := j9_3 (k + 1) a i;have e0 := j9_0 (k + 1) a i;generalize (a.get! i).toNat = c at *
 by_cases c0 : c < 128
 ·
  rw [if_pos (by omega), if_pos c0, wr_small _ (by omega)]
 rw [if_neg (by omega), if_neg c0]
 by_cases c1 : c < 194
 ·
  rw [if_neg (by omega)];simp only [PNm.r_One.j0, PNm.r_One.j1, PNm.r_One.j2, PNm.r_One.j3, PNm.r_One.j4, PNm.r_One.j5, PNm.r_One.j6, PNm.r_One.j7, PNm.r_One.j8];rw [if_neg (by simp), if_neg (by omega), if_neg (by simp), if_neg (by omega), if_neg (by simp), if_neg (by omega), if_neg (by omega), if_neg (by omega), if_neg (by omega), e0, Lib.decodeN_bad _ _ _ _ _ (.inl ⟨by omega, c1⟩)];rfl
 rw [if_pos (by omega)]
 by_cases c2 : c < 224
 ·
  simp only [PNm.r_One.j0, PNm.r_One.j1, PNm.r_One.j2, PNm.r_One.j3, PNm.r_One.j4, PNm.r_One.j5, PNm.r_One.j6, PNm.r_One.j7, PNm.r_One.j8];rw [if_pos (by simp; omega), if_neg (by omega), if_neg (by simp), if_neg (by omega), if_neg (by simp), if_neg (by omega), if_neg (by omega), if_neg (by omega), if_neg (by omega)];refine (e1 128 191 ha h).trans ?_;rw [Lib.slow_C2 _ _ _ _ _ hn hb1 hb2 hb3 ⟨by omega, c2⟩]
 by_cases c3 : c < 240
 ·
  simp only [PNm.r_One.j0, PNm.r_One.j1, PNm.r_One.j2, PNm.r_One.j3, PNm.r_One.j4, PNm.r_One.j5, PNm.r_One.j6, PNm.r_One.j7, PNm.r_One.j8];rw [if_neg (by simp; omega), if_pos (by omega), if_pos (by simp; omega), if_neg (by omega), if_neg (by simp)]
  by_cases c4 : c = 224
  ·
   rw [if_pos (by omega), if_neg (by omega), if_neg (by omega), if_neg (by omega)];refine (e2 160 191 ha h).trans ?_;rw [Lib.slow_E0 _ _ _ _ _ hn hb1 hb2 hb3 c4]
  rw [if_neg (by omega)]
  by_cases c5 : c = 237
  ·
   rw [if_pos (by omega), if_neg (by omega), if_neg (by omega)];refine (e2 128 159 ha h).trans ?_;rw [Lib.slow_ED _ _ _ _ _ hn hb1 hb2 hb3 c5]
  rw [if_neg (by omega), if_neg (by omega), if_neg (by omega)];refine (e2 128 191 ha h).trans ?_;rw [Lib.slow_E1 _ _ _ _ _ hn hb1 hb2 hb3 (by omega)]
 by_cases c4 : c < 245
 ·
  simp only [PNm.r_One.j0, PNm.r_One.j1, PNm.r_One.j2, PNm.r_One.j3, PNm.r_One.j4, PNm.r_One.j5, PNm.r_One.j6, PNm.r_One.j7, PNm.r_One.j8];rw [if_neg (by simp; omega), if_pos (by omega), if_neg (by simp; omega), if_pos (by omega), if_pos (by simp; omega), if_neg (by omega), if_neg (by omega)]
  by_cases c5 : c = 240
  ·
   rw [if_pos (by omega), if_neg (by omega)];refine (e3 144 191 ha h).trans ?_;rw [Lib.slow_F0 _ _ _ _ _ hn hb1 hb2 hb3 c5]
  rw [if_neg (by omega)]
  by_cases c6 : c = 244
  ·
   rw [if_pos (by omega)];refine (e3 128 143 ha h).trans ?_;rw [Lib.slow_F4 _ _ _ _ _ hn hb1 hb2 hb3 c6]
  rw [if_neg (by omega)];refine (e3 128 191 ha h).trans ?_;rw [Lib.slow_F1 _ _ _ _ _ hn hb1 hb2 hb3 (by omega)]
 simp only [PNm.r_One.j0, PNm.r_One.j1, PNm.r_One.j2, PNm.r_One.j3, PNm.r_One.j4, PNm.r_One.j5, PNm.r_One.j6, PNm.r_One.j7, PNm.r_One.j8];rw [if_neg (by simp; omega), if_pos (by omega), if_neg (by simp; omega), if_pos (by omega), if_neg (by simp; omega), if_neg (by omega), if_neg (by omega), if_neg (by omega), if_neg (by omega), e0, Lib.decodeN_bad _ _ _ _ _ (.inr ⟨by omega, hb⟩)];rfl
theorem stray_one (s : ByteArray) (i : Nat) (h : 128 ≤ (s.get! i).toNat) : (Utf8.decode s i).2 = 1 ↔ ((Utf8.decode s i).1 = 65533 ∧ (Utf8.decode s i).2 = 1) := by
 rw [Lib.decode_at];unfold Lib.decodeN;rw [if_neg (by omega)]
 repeat' split
 all_goals simp
theorem strays_l (a : ByteArray) (ha : a.size ≤ 100000) (n : Nat) : ∀ (i k : Nat), a.size - i ≤ n → n + 18 < k → PNm.r_Strays.l0 k a (i : Int) = some (!Lib.validD (a.data.toList.drop i)) := by
 induction n with
 | zero =>
  intro i k h hk;obtain ⟨k, rfl⟩ : ∃ m, k = m + 1 := ⟨k - 1, by omega⟩;simp only [PNm.r_Strays.l0];rw [if_neg (by omega), List.drop_of_length_le (by rw [len_data]; omega)]; rfl
 | succ n ih =>
  intro i k h hk;obtain ⟨k, rfl⟩ : ∃ m, k = m + 1 := ⟨k - 1, by omega⟩;simp only [PNm.r_Strays.l0]
  by_cases hi : i < a.size
  ·
   rw [if_pos (by omega), one_f k a i (by omega) ha hi];simp only [Option.bind_some]
   have hne : a.data.toList.drop i ≠ [] := by
    intro e;have := congrArg List.length e;rw [List.length_drop, len_data] at this;simp at this;omega
   rw [Lib.validD_step _ hne, Lib.decodeL_drop, List.drop_drop]
   by_cases hb : (a.get! i).toNat < 128
   ·
    rw [if_pos hb];have hd := decode_ascii a i hi (by rw [← get_lt]; exact hb);rw [hd];simp only;rw [if_neg (by omega), if_neg (by rw [← get_lt a i hi]; omega)];rw [show wrap64 ((i : Int) + 1) = ((i + 1 : Nat) : Int) by unfold wrap64; omega];exact ih (i + 1) k (by omega) (by omega)
   rw [if_neg hb];have hs := stray_one a i (by omega);have hw := (high_all a i hi (by rw [← get_lt]; omega)).1;have hw1 := Lib.decode_width_pos a i hi;generalize Utf8.decode a i = d at *;unfold ofN
   by_cases h1 : d.2 = 1
   ·
    rw [if_pos h1, if_pos (by decide), if_pos (hs.1 h1)]; rfl
   rw [if_neg h1, if_neg (by simp only; omega), if_neg (fun e => h1 e.2)];simp only;rw [show wrap64 ((i : Int) + (d.2 : Int)) = ((i + d.2 : Nat) : Int) by unfold wrap64; omega];exact ih (i + d.2) k (by omega) (by omega)
  rw [if_neg (by omega), List.drop_of_length_le (by rw [len_data]; omega)]; rfl
theorem strays_f (k : Nat) (a : ByteArray) (ha : a.size ≤ 100000) (hk : a.size + 18 < k) : PNm.r_Strays.f k a = some (!validT a) := by
 unfold PNm.r_Strays.f;have h := strays_l a ha a.size 0 k (by omega) hk;rw [List.drop_zero] at h;exact h
end Go.Proofs.YtibmfjacfbpfgaaGreatDoor.NameOne
namespace Go.Proofs.YtibmfjacfbpfgaaGreatDoor.NameCheckRef
open Go.RowKit YtibmfjacfbpfgaaGreatDoorW PrintWords PrintLast NameLaw NameCmp NameWalk NameRef NameKeepLaw NameOne
abbrev E0 : ByteArray := ⟨#[]⟩
theorem safe_not (x : ByteArray) : safeL x.data.toList = false ↔ (x.toList = [] ∨ x.toList = [46] ∨ x.toList = [46, 46]) := by
 rw [Lib.toList_data];unfold safeL;generalize x.data.toList = l
 by_cases h1 : l = []
 ·
  simp [h1]
 by_cases h2 : l = [46]
 ·
  simp [h2]
 by_cases h3 : l = [46, 46]
 ·
  simp [h3]
 simp [h1, h2, h3]
theorem l2_f (p : ByteArray) (d : Bool) (l : List ByteArray) (hl : l.length ≤ 100000) (n : Nat) : ∀ (j k : Nat), l.length - j ≤ n → j ≤ l.length → n < k →
  PNm.r_Check.l2 k p d l l (l.length : Int) (j : Int) = some (if (l.drop j).any (fun x => decide (255 < x.size) || decide (32 < l.length)) then (E0, false, 5) else (p, d, 0)) := by
 induction n with
 | zero =>
  intro j k h hj hk;obtain ⟨k, rfl⟩ : ∃ m, k = m + 1 := ⟨k - 1, by omega⟩;simp only [PNm.r_Check.l2];rw [if_neg (by omega), List.drop_of_length_le (by omega)]; rfl
 | succ n ih =>
  intro j k h hj hk;obtain ⟨k, rfl⟩ : ∃ m, k = m + 1 := ⟨k - 1, by omega⟩;simp only [PNm.r_Check.l2]
  by_cases hlt : j < l.length
  ·
   rw [if_pos (by omega), if_pos (by omega), if_pos (by omega), rd_at l j hlt, List.drop_eq_getElem_cons hlt, List.any_cons]
   by_cases h1 : 255 < l[j].size
   ·
    rw [if_pos (by omega), decide_eq_true h1]; rfl
   rw [if_neg (by omega), decide_eq_false h1, Bool.false_or]
   by_cases h2 : 32 < l.length
   ·
    rw [if_pos (by omega), decide_eq_true h2]; rfl
   rw [if_neg (by omega), decide_eq_false h2, Bool.false_or, show wrap64 ((j : Int) + 1) = ((j + 1 : Nat) : Int) by unfold wrap64; omega, ih (j + 1) k (by omega) (by omega) (by omega), decide_eq_false h2]
  rw [if_neg (by omega), List.drop_of_length_le (by omega)]; rfl
theorem l1_f (p : ByteArray) (d : Bool) (l : List ByteArray) (hl : l.length ≤ 100000) (n : Nat) : ∀ (j k : Nat), l.length - j ≤ n → j ≤ l.length → n + l.length + 2 < k →
  PNm.r_Check.l1 k p d l l (l.length : Int) (j : Int) = some (if (l.drop j).any (fun x => !safeL x.data.toList) then (E0, false, 21) else if l.any (fun x => decide (255 < x.size) || decide (32 < l.length)) then (E0, false, 5) else (p, d, 0)) := by
 have hend : ∀ k, l.length + 1 < k → PNm.r_Check.l2 k p d l l (l.length : Int) 0 = some (if l.any (fun x => decide (255 < x.size) || decide (32 < l.length)) then (E0, false, 5) else (p, d, 0)) := by
  intro k hk;have := l2_f p d l hl l.length 0 k (by omega) (by omega) (by omega);rw [List.drop_zero] at this;exact this
 induction n with
 | zero =>
  intro j k h hj hk;obtain ⟨k, rfl⟩ : ∃ m, k = m + 1 := ⟨k - 1, by omega⟩;simp only [PNm.r_Check.l1];rw [if_neg (by omega), hend k (by omega), List.drop_of_length_le (by omega)]; rfl
 | succ n ih =>
  intro j k h hj hk;obtain ⟨k, rfl⟩ : ∃ m, k = m + 1 := ⟨k - 1, by omega⟩;simp only [PNm.r_Check.l1]
  by_cases hlt : j < l.length
  ·
   rw [if_pos (by omega), if_pos (by omega), if_pos (by omega), rd_at l j hlt, List.drop_eq_getElem_cons hlt, List.any_cons];have hs := safe_not l[j]
   by_cases h1 : l[j].toList = []
   ·
    rw [if_pos h1, hs.2 (.inl h1)]; rfl
   rw [if_neg h1]
   by_cases h2 : l[j].toList = [46]
   ·
    rw [if_pos h2, hs.2 (.inr (.inl h2))]; rfl
   rw [if_neg h2]
   by_cases h3 : l[j].toList = [46, 46]
   ·
    rw [if_pos h3, hs.2 (.inr (.inr h3))]; rfl
   have h4 : safeL l[j].data.toList = true := by
    cases h5 : safeL l[j].data.toList
    ·
     rcases hs.1 h5 with e | e | e
     ·
      exact absurd e h1
     ·
      exact absurd e h2
     exact absurd e h3
    rfl
   rw [if_neg h3, h4, show wrap64 ((j : Int) + 1) = ((j + 1 : Nat) : Int) by unfold wrap64; omega, ih (j + 1) k (by omega) (by omega) (by omega)];rfl
  rw [if_neg (by omega), hend k (by omega), List.drop_of_length_le (by omega)]; rfl
def tailR (p : ByteArray) (d : Bool) : ByteArray × Bool × Int :=
 if (splitT p).any (fun x => !safeL x.data.toList) then (E0, false, 21) else if (splitT p).any (fun x => decide (255 < x.size) || decide (32 < (splitT p).length)) then (E0, false, 5) else (p, d, 0)
theorem tail_f (p : ByteArray) (d : Bool) (hp : p.size ≤ 99998) (k : Nat) (hk : 3 * p.size + 10 < k) :
  ((PNm.r_Parts.f k p).bind fun t139 => (if (t139.length : Int) = 0 then (some (E0, false, (21 : Int))) else (PNm.r_Check.l1 k p d t139 t139 (t139.length : Int) 0))) = some (tailR p d) := by
 rw [rparts_f k p (by omega) (by omega)];simp only [Option.bind_some];unfold tailR
 by_cases h0 : p.data.toList = []
 ·
  have e1 : partsT p = [] := by unfold partsT partsL; rw [if_pos h0]; rfl
  have e2 : (splitT p).any (fun x => !safeL x.data.toList) = true := by
   rw [any_mk (fun x => !safeL x), h0]; rfl
  rw [e1, e2]; rfl
 have e1 : partsT p = splitT p := by unfold partsT partsL splitT; rw [if_neg h0]
 have hl := splitT_length p
 have hne : (splitT p).length ≠ 0 := by
  unfold splitT;rw [List.length_map];intro e;exact splitL_ne _ (List.eq_nil_of_length_eq_zero e)
 rw [e1, if_neg (by omega)];have h := l1_f p d (splitT p) (by omega) (splitT p).length 0 k (by omega) (by omega) (by omega);rw [List.drop_zero] at h;exact h
theorem l0_f (a p : ByteArray) (d : Bool) (ha : a.size ≤ 99998) (hp : p.size ≤ a.size) (n : Nat) : ∀ (i k : Nat), a.size - i ≤ n → n + 3 * a.size + 20 < k →
  PNm.r_Check.l0 k a p d (i : Int) = some (if (a.data.toList.drop i).any (fun c => c == 0 || c == 92) then (E0, false, 21) else tailR p d) := by
 induction n with
 | zero =>
  intro i k h hk;obtain ⟨k, rfl⟩ : ∃ m, k = m + 1 := ⟨k - 1, by omega⟩;simp only [PNm.r_Check.l0];rw [if_neg (by omega), List.drop_of_length_le (by rw [len_data]; omega)];exact tail_f p d (by omega) k (by omega)
 | succ n ih =>
  intro i k h hk;obtain ⟨k, rfl⟩ : ∃ m, k = m + 1 := ⟨k - 1, by omega⟩;simp only [PNm.r_Check.l0]
  by_cases hi : i < a.size
  ·
   rw [if_pos (by omega), if_pos (by omega), drop_data a i hi, List.any_cons];have b0 : bt a (i : Int) = 0 ↔ _ := bt_is a i hi 0 (by omega);have b1 : bt a (i : Int) = 92 ↔ _ := bt_is a i hi 92 (by omega)
   by_cases h1 : bt a (i : Int) = 0
   ·
    rw [if_pos h1, b0.1 h1]; rfl
   rw [if_neg h1]
   by_cases h2 : bt a (i : Int) = 92
   ·
    rw [if_pos h2, b1.1 h2]; rfl
   rw [if_neg h2];have n0 := fun e => h1 (b0.2 e)
   have n1 := fun e => h2 (b1.2 e)
   rw [show wrap64 ((i : Int) + 1) = ((i + 1 : Nat) : Int) by unfold wrap64; omega, ih (i + 1) k (by omega) (by omega)]
   have e : (a.data.toList[i]'(by rw [len_data]; exact hi) == 0 || a.data.toList[i]'(by rw [len_data]; exact hi) == 92) = false := by
    rw [Bool.or_eq_false_iff, beq_eq_false_iff_ne, beq_eq_false_iff_ne];exact ⟨n0, n1⟩
   rw [e, Bool.false_or]
  rw [if_neg (by omega), List.drop_of_length_le (by rw [len_data]; omega)];exact tail_f p d (by omega) k (by omega)
theorem bad_any (a : ByteArray) : (a.data.toList.any fun c => c == 0 || c == 92) = badBytes a := by
 unfold badBytes;rw [NameKeepLaw.anyB]
 congr 1
 funext c
 rw [List.contains_cons, List.contains_cons, List.contains_nil, Bool.or_false]
theorem cut_last (a : ByteArray) (h : 0 < a.size) : cutT a = (if bt a ((a.size : Int) - 1) = 47 then a.extract 0 (a.size - 1) else a) ∧ isDir a = decide (bt a ((a.size : Int) - 1) = 47) := by
 have hb : bt a ((a.size : Int) - 1) = 47 ↔ a.data.toList[a.size - 1]'(by rw [len_data]; omega) = 47 := by
  rw [show (a.size : Int) - 1 = ((a.size - 1 : Nat) : Int) by omega];exact bt_is a (a.size - 1) (by omega) 47 (by omega)
 have hsuf : Lib.hasSuffix a.data.toList [47] = true ↔ a.data.toList[a.size - 1]'(by rw [len_data]; omega) = 47 := by
  unfold Lib.hasSuffix;rw [List.isSuffixOf_iff_suffix];have hd := List.dropLast_concat_getLast (l := a.data.toList) (by intro e; have := congrArg List.length e; rw [len_data, List.length_nil] at this; omega)
  have hg : a.data.toList.getLast (by intro e; have := congrArg List.length e; rw [len_data, List.length_nil] at this; omega) = a.data.toList[a.size - 1]'(by rw [len_data]; omega) := by
   rw [List.getLast_eq_getElem];simp only [len_data]
  rw [hg] at hd;constructor
  ·
   rintro ⟨t, ht⟩;rw [← hd] at ht;have := List.append_inj_right' ht rfl;simp at this;exact this.symm
  intro e;rw [e] at hd;exact ⟨_, hd⟩
 by_cases h1 : bt a ((a.size : Int) - 1) = 47
 ·
  have h2 := hsuf.2 (hb.1 h1);rw [if_pos h1, decide_eq_true h1];refine ⟨?_, h2⟩;unfold cutT Lib.trimSuffix;rw [if_pos h2];apply Go.WideShapes.bytes_inj;rw [← Lib.toList_data (a.extract _ _), Lib.extract_toList];simp [len_data]
 have h2 : Lib.hasSuffix a.data.toList [47] = false := by
  rw [Bool.eq_false_iff];exact fun e => h1 (hb.2 (hsuf.1 e))
 rw [if_neg h1, decide_eq_false h1];exact ⟨cut_same h2, h2⟩
theorem tail_check (a : ByteArray) (h0 : ¬ 65535 < a.size) (h1 : a.toList ≠ []) (h2 : validT a = true) (h3 : badBytes a = false) : tailR (cutT a) (isDir a) = (checkP a, checkD a, checkE a) := by
 have hE : checkE a = if badParts a = true then 21 else if 32 < (splitT (cutT a)).length then 5 else if longParts a = true then 5 else 0 := by
  unfold checkE;rw [if_neg h0, if_neg h1, if_neg (by rw [h2]; simp), if_neg (by rw [h3]; simp)]
 have hT : tailR (cutT a) (isDir a) = if badParts a = true then (E0, false, 21) else if (splitT (cutT a)).any (fun x => decide (255 < x.size) || decide (32 < (splitT (cutT a)).length)) then (E0, false, 5) else (cutT a, isDir a, 0) := rfl
 have hne : 0 < (splitT (cutT a)).length := by
  unfold splitT;rw [List.length_map];exact List.length_pos_iff.2 (splitL_ne _)
 unfold checkP checkD;rw [hE, hT]
 by_cases h4 : badParts a = true
 ·
  rw [if_pos h4, if_pos h4]; rfl
 rw [if_neg h4, if_neg h4]
 by_cases h5 : 32 < (splitT (cutT a)).length
 ·
  rw [if_pos h5]
  have : (splitT (cutT a)).any (fun x => decide (255 < x.size) || decide (32 < (splitT (cutT a)).length)) = true := by
   rw [List.any_eq_true];exact ⟨(splitT (cutT a))[0], List.getElem_mem hne, by rw [decide_eq_true h5, Bool.or_true]⟩
  rw [this]; rfl
 rw [if_neg h5]
 have : (splitT (cutT a)).any (fun x => decide (255 < x.size) || decide (32 < (splitT (cutT a)).length)) = longParts a := by
  unfold longParts
  congr 1
  funext x
  rw [decide_eq_false h5, Bool.or_false]
 rw [this]
 by_cases h6 : longParts a = true
 ·
  rw [if_pos h6, if_pos h6]; rfl
 rw [if_neg h6, if_neg h6]; rfl
theorem rcheck_f (k : Nat) (a : ByteArray) (ha : a.size ≤ 90000) (hk : 5 * a.size + 50 < k) : PNm.r_Check.f k a = some (checkP a, checkD a, checkE a) := by
 unfold PNm.r_Check.f;obtain ⟨k, rfl⟩ : ∃ m, k = m + 2 := ⟨k - 2, by omega⟩
 by_cases h0 : 65535 < a.size
 ·
  rw [if_pos (by omega)];have e : checkE a = 5 := by unfold checkE; rw [if_pos h0]
  unfold checkP checkD; rw [e]; rfl
 rw [if_neg (by omega)]
 by_cases h1 : a.toList = []
 ·
  have hz : a.size = 0 := by rw [← len_data, ← Lib.toList_data, h1]; rfl
  rw [if_pos (by omega)];have e : checkE a = 20 := by unfold checkE; rw [if_neg h0, if_pos h1]
  unfold checkP checkD; rw [e];simp only [PNm.r_Check.j0, if_true]; rfl
 have hz : 0 < a.size := by rw [← len_data, ← Lib.toList_data]; exact List.length_pos_iff.2 h1
 rw [if_neg (by omega), strays_f _ a (by omega) (by omega)];simp only [Option.bind_some];simp only [PNm.r_Check.j0]
 by_cases h2 : validT a = true
 ·
  rw [h2, if_neg (by simp), show wrap64 ((a.size : Int) - 1) = (a.size : Int) - 1 by unfold wrap64; omega, if_pos (by omega), if_pos (by omega)];obtain ⟨c1, c2⟩ := cut_last a hz;have hsz := cutT_size a
  have key : ∀ p d, p = cutT a → d = isDir a → PNm.r_Check.j1 (k + 1) a p d = some (checkP a, checkD a, checkE a) := by
   intro p d hp hd;subst hp hd;simp only [PNm.r_Check.j1];have h := l0_f a (cutT a) (isDir a) (by omega) hsz a.size 0 k (by omega) (by omega);rw [List.drop_zero, bad_any] at h;refine h.trans ?_
   by_cases h3 : badBytes a = true
   ·
    rw [if_pos h3];have e : checkE a = 21 := by unfold checkE; rw [if_neg h0, if_neg h1, if_neg (by rw [h2]; simp), if_pos h3]
    unfold checkP checkD; rw [e]; rfl
   rw [if_neg h3, tail_check a h0 h1 h2 (by simpa using h3)]
  by_cases h4 : bt a ((a.size : Int) - 1) = 47
  ·
   rw [if_pos h4, if_pos (by omega)];refine key _ _ ?_ ?_
   ·
    rw [c1, if_pos h4, show ((a.size : Int) - 1).toNat = a.size - 1 by omega]
   rw [c2, decide_eq_true h4]
  rw [if_neg h4];refine key _ _ ?_ ?_
  ·
   rw [c1, if_neg h4]
  rw [c2, decide_eq_false h4]
 have h2' : validT a = false := by simpa using h2
 rw [h2', if_pos (by simp)];have e : checkE a = 20 := by unfold checkE; rw [if_neg h0, if_neg h1, if_pos h2']
 unfold checkP checkD; rw [e]; rfl
end Go.Proofs.YtibmfjacfbpfgaaGreatDoor.NameCheckRef
namespace Go.Proofs.YtibmfjacfbpfgaaGreatDoor.NameUse
open Go.RowKit YtibmfjacfbpfgaaGreatDoorW PrintWords PrintLast NameLaw NameCmp NameWalk NameOrd NameRef NameAny NameKeepLaw NameCheckRef
theorem parent_next {w w1 : World} (HB : Hid (Below w.heap.size w w1)) (a : ByteArray) (ha : a.size ≤ 100000) :
  Calls Tryz.prog 65 #[.string a] w1 fun e w' => e = .returned (.string (parentT a)) ∧ Hid (Below w.heap.size w w') :=
 (PNm.name_Parent.calls (a.size + 1) a _ w1 (parent_f _ a ha (by omega))).mono fun _ _ h => ⟨h.1, Lib.hid (below_next HB.out h.2)⟩
theorem rparent_next {w w1 : World} (HB : Hid (Below w.heap.size w w1)) (a : ByteArray) (ha : a.size ≤ 100000) :
  Calls Tryz.prog 69 #[.string a] w1 fun e w' => e = .returned (.string (parentT a)) ∧ Hid (Below w.heap.size w w') :=
 (PNm.r_Parent.calls (a.size + 1) a _ w1 (rparent_f _ a ha (by omega))).mono fun _ _ h => ⟨h.1, Lib.hid (by obtain ⟨n, rfl⟩ := h.2; exact pw_below_drewN HB.out n)⟩
theorem base_next {w w1 : World} (HB : Hid (Below w.heap.size w w1)) (a : ByteArray) (ha : a.size ≤ 100000) :
  Calls Tryz.prog 71 #[.string a] w1 fun e w' => e = .returned (.string (baseT a)) ∧ Hid (Below w.heap.size w w') :=
 (PNm.name_Base.calls (a.size + 1) a _ w1 (base_f _ a ha (by omega))).mono fun _ _ h => ⟨h.1, Lib.hid (by obtain ⟨n, rfl⟩ := h.2; exact pw_below_drewN HB.out n)⟩
theorem rorder_next {w w1 : World} (HB : Hid (Below w.heap.size w w1)) (a b : ByteArray) (ha : a.size ≤ 10000) (hb : b.size ≤ 10000) :
  Calls Tryz.prog 67 #[.string a, .string b] w1 fun e w' => e = .returned (.int .i64 (orderT a b)) ∧ Hid (Below w.heap.size w w') :=
 (PNm.r_Order.calls 45001 a b _ w1 (rorder_f _ a b ha hb (by omega))).mono fun _ _ h => ⟨h.1, Lib.hid (below_next HB.out h.2)⟩
theorem check_next {w w1 : World} (HG : Hid (Glob w)) (HB : Hid (Below w.heap.size w w1)) (s : ByteArray) (hs : s.size ≤ 100000) :
  Calls Tryz.prog 55 #[.string s] w1 fun e w' => e = .returned (.tuple #[.string (checkP s), .bool (checkD s), .int .i64 (checkE s)]) ∧ Hid (Below w.heap.size w w') :=
 (check_any s (any_all s (by omega)) w1 (HG.out.below HB.out) hs).mono fun _ _ h => ⟨h.1, Lib.hid (below_next HB.out h.2)⟩
theorem rcheck_next {w w1 : World} (HB : Hid (Below w.heap.size w w1)) (s : ByteArray) (hs : s.size ≤ 90000) :
  Calls Tryz.prog 66 #[.string s] w1 fun e w' => e = .returned (.tuple #[.string (checkP s), .bool (checkD s), .int .i64 (checkE s)]) ∧ Hid (Below w.heap.size w w') :=
 (PNm.r_Check.calls (5 * s.size + 51) s _ _ _ w1 (rcheck_f _ s hs (by omega))).mono fun _ _ h => ⟨h.1, Lib.hid (below_next HB.out h.2)⟩
end Go.Proofs.YtibmfjacfbpfgaaGreatDoor.NameUse
