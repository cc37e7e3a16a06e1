/- What the document's answers for names come to, over plain lists of bytes: Parts, Order, Parent, Base, Under. -/
import Derived.Test.YtibmfjacfbpfgaaGreatDoorNameBase
import Derived.Test.YtibmfjacfbpfgaaGreatDoorNameOrd
import Derived.Test.YtibmfjacfbpfgaaGreatDoorPN
import Derived.WideShapes
set_option linter.unusedVariables false
set_option linter.unusedSimpArgs false
namespace Go.Proofs.YtibmfjacfbpfgaaGreatDoor.NameRef
open Go.RowKit YtibmfjacfbpfgaaGreatDoorW.PrintWords YtibmfjacfbpfgaaGreatDoorW.PrintLast NameLaw NameCmp NameWalk
/-! ### Parts -/
def glue (x : List UInt8) : List (List UInt8) → List (List UInt8)
 | [] => [x]
 | p :: ps => (x ++ p) :: ps
theorem glue_slash (x l : List UInt8) : glue x (splitL (47 :: l)) = x :: splitL l := by
 rw [splitL_cons, if_pos rfl]; simp [glue]
theorem glue_next (x l : List UInt8) (c : UInt8) (h : c ≠ 47) : glue x (splitL (c :: l)) = glue (x ++ [c]) (splitL l) := by
 rw [splitL_cons, if_neg h]
 cases h2 : splitL l with
 | nil => exact absurd h2 (splitL_ne l)
 | cons p ps => simp [glue]
theorem glue_none (l : List UInt8) : glue [] (splitL l) = splitL l := by
 cases h2 : splitL l with
 | nil => exact absurd h2 (splitL_ne l)
 | cons p ps => simp [glue]
theorem one_byte (s : ByteArray) (i : Nat) (h : i < s.size) (x : ByteArray) : (x ++ s.extract i (i + 1)).data.toList = x.data.toList ++ [s.data.toList[i]'(by rw [len_data]; exact h)] := by
 rw [ByteArray.data_append, Array.toList_append, ← Lib.toList_data (s.extract i (i + 1)), Lib.extract_toList]
 congr 1
 rw [drop_data s i h]
 simp
theorem parts_l (a : ByteArray) (ha : a.size ≤ 100000) (d : Nat) : ∀ (k i : Nat) (acc : List ByteArray) (x : ByteArray), i ≤ a.size → a.size - i = d → d < k → acc.length ≤ i → x.size ≤ i →
  PNm.portmanteauref10_Parts.l0 k a acc x (i : Int) = some (acc ++ (glue x.data.toList (splitL (a.data.toList.drop i))).map mk) := by
 induction d with
 | zero =>
  intro k i acc x h1 hd hk hacc hx
  obtain ⟨k, rfl⟩ : ∃ m, k = m + 1 := ⟨k - 1, by omega⟩
  simp only [PNm.portmanteauref10_Parts.l0]
  rw [if_neg (by omega), if_pos (by omega), List.drop_of_length_le (by rw [len_data]; omega)]
  simp [splitL, glue, mk_data]
 | succ d ih =>
  intro k i acc x h1 hd hk hacc hx
  obtain ⟨k, rfl⟩ : ∃ m, k = m + 1 := ⟨k - 1, by omega⟩
  have hi : i < a.size := by omega
  simp only [PNm.portmanteauref10_Parts.l0]
  rw [if_pos (by omega), if_pos (by omega), drop_data a i hi, wrap_up (by omega) (by omega)]
  by_cases h : bt a (i : Int) = 47
  ·
   rw [if_pos h, if_pos (by omega), show ((i : Int) + 1) = ((i + 1 : Nat) : Int) by omega, ih k (i + 1) _ _ (by omega) (by omega) (by omega) (by simp; omega) (by show 0 ≤ _; omega)]
   rw [show (47 : Int) = ((47 : Nat) : Int) from rfl, bt_is a i hi 47 (by omega)] at h
   rw [h, show (UInt8.ofNat 47) = 47 from rfl, glue_slash]
   show some (acc ++ [x] ++ (glue [] _).map mk) = _
   rw [glue_none]
   simp [mk_data]
  ·
   rw [if_neg h, if_pos (by omega), if_pos (by omega)]
   have he : a.extract (i : Int).toNat ((i : Int) + 1).toNat = a.extract i (i + 1) := by
    rw [show (i : Int).toNat = i by omega, show ((i : Int) + 1).toNat = i + 1 by omega]
   have hs : (a.extract i (i + 1)).size ≤ 1 := by
    rw [Lib.size_eq, ← Lib.toList_data, Lib.extract_toList]; simp; omega
   rw [he, if_pos (by omega), show ((i : Int) + 1) = ((i + 1 : Nat) : Int) by omega, ih k (i + 1) _ _ (by omega) (by omega) (by omega) (by omega) (by rw [ByteArray.size_append]; omega)]
   rw [show (47 : Int) = ((47 : Nat) : Int) from rfl, bt_is a i hi 47 (by omega), show (UInt8.ofNat 47) = 47 from rfl] at h
   rw [one_byte a i hi x, glue_next _ _ _ h]
theorem rparts_f (k : Nat) (a : ByteArray) (ha : a.size ≤ 100000) (hk : a.size < k) : PNm.portmanteauref10_Parts.f k a = some (partsT a) := by
 unfold PNm.portmanteauref10_Parts.f partsT partsL
 by_cases h : a.size = 0
 ·
  rw [if_pos (by omega), if_pos (by rw [← List.length_eq_zero_iff, len_data]; exact h)]; rfl
 ·
  rw [if_neg (by omega), if_neg (by rw [← List.length_eq_zero_iff, len_data]; exact h)]
  have hl := parts_l a ha a.size k 0 [] ⟨#[]⟩ (by omega) (by omega) hk (by simp) (by show 0 ≤ _; omega)
  rw [List.drop_zero, List.nil_append] at hl
  refine hl.trans ?_
  show some ((glue [] _).map mk) = _
  rw [glue_none]
  rfl
/-! ### Order -/
theorem less_l (a b : ByteArray) (ha : a.size ≤ 100000) (hb : b.size ≤ 100000) (d : Nat) : ∀ (k i : Nat), i ≤ a.size → i ≤ b.size → a.size - i = d → 2 * d + 1 < k →
  PNm.portmanteauref10_less.l0 k a b (i : Int) = some (cmpL (a.data.toList.drop i) (b.data.toList.drop i)) := by
 induction d with
 | zero =>
  intro k i h1 h2 hd hk
  obtain ⟨k, rfl⟩ : ∃ m, k = m + 2 := ⟨k - 2, by omega⟩
  simp only [PNm.portmanteauref10_less.l0]
  rw [if_neg (by omega)]
  simp only [PNm.portmanteauref10_less.j1]
  rw [if_neg (by simp), List.drop_of_length_le (by rw [len_data]; omega)]
  by_cases h : i < b.size
  ·
   rw [if_pos (by omega), drop_data b i h]; rfl
  ·
   rw [if_neg (by omega), if_neg (by omega), List.drop_of_length_le (by rw [len_data]; omega)]; rfl
 | succ d ih =>
  intro k i h1 h2 hd hk
  obtain ⟨k, rfl⟩ : ∃ m, k = m + 2 := ⟨k - 2, by omega⟩
  have hi : i < a.size := by omega
  simp only [PNm.portmanteauref10_less.l0]
  rw [if_pos (by omega)]
  simp only [PNm.portmanteauref10_less.j1]
  rw [drop_data a i hi]
  by_cases h : i < b.size
  ·
   rw [if_pos (by simp; omega), if_pos (by omega), if_pos (by omega), if_pos (by omega), drop_data b i h, bt_nat a i hi, bt_nat b i h, wrap_up (by omega) (by omega)]
   unfold cmpL
   by_cases l1 : (a.data.toList[i]'(by rw [len_data]; exact hi)) < (b.data.toList[i]'(by rw [len_data]; exact h))
   ·
    have q := UInt8.lt_iff_toNat_lt.1 l1
    rw [if_pos (by omega), if_pos l1]
   ·
    have q : ¬ ((a.data.toList[i]'(by rw [len_data]; exact hi)).toNat < (b.data.toList[i]'(by rw [len_data]; exact h)).toNat) := fun e => l1 (UInt8.lt_iff_toNat_lt.2 e)
    rw [if_neg (by omega), if_neg l1]
    by_cases l2 : (b.data.toList[i]'(by rw [len_data]; exact h)) < (a.data.toList[i]'(by rw [len_data]; exact hi))
    ·
     have q2 := UInt8.lt_iff_toNat_lt.1 l2
     rw [if_pos (by omega), if_pos l2]
    ·
     have q2 : ¬ ((b.data.toList[i]'(by rw [len_data]; exact h)).toNat < (a.data.toList[i]'(by rw [len_data]; exact hi)).toNat) := fun e => l2 (UInt8.lt_iff_toNat_lt.2 e)
     rw [if_neg (by omega), if_neg l2, show ((i : Int) + 1) = ((i + 1 : Nat) : Int) by omega, ih k (i + 1) (by omega) (by omega) (by omega) (by omega)]
  ·
   rw [if_neg (by simp; omega), if_neg (by omega), if_pos (by omega), List.drop_of_length_le (l := b.data.toList) (by rw [len_data]; omega)]; rfl
theorem less_f (k : Nat) (a b : ByteArray) (ha : a.size ≤ 100000) (hb : b.size ≤ 100000) (hk : 2 * a.size + 1 < k) : PNm.portmanteauref10_less.f k a b = some (cmpB a b) :=
 less_l a b ha hb a.size k 0 (by omega) (by omega) (by omega) hk
theorem rd_at (l : List ByteArray) (i : Nat) (h : i < l.length) : rdOf ByteArray.empty l (i : Int) = l[i] := by
 unfold rdOf
 rw [show (i : Int).toNat = i by omega, List.getD_eq_getElem?_getD, List.getElem?_eq_getElem h]; rfl
theorem order_l (l m : List ByteArray) (N : Nat) (hN : N ≤ 100000) (hl : ∀ x ∈ l, x.size ≤ N) (hm : ∀ x ∈ m, x.size ≤ N) (hll : l.length ≤ 100000) (d : Nat) : ∀ (k i : Nat), i ≤ l.length → i ≤ m.length → l.length - i = d → 2 * d + 2 * N + 4 < k →
  PNm.portmanteauref10_Order.l0 k l m (i : Int) = some (cmpPB (l.drop i) (m.drop i)) := by
 induction d with
 | zero =>
  intro k i h1 h2 hd hk
  obtain ⟨k, rfl⟩ : ∃ m, k = m + 2 := ⟨k - 2, by omega⟩
  simp only [PNm.portmanteauref10_Order.l0]
  rw [if_neg (by omega)]
  simp only [PNm.portmanteauref10_Order.j1]
  rw [if_neg (by simp)]
  by_cases h : i < m.length
  ·
   rw [if_pos (by omega), cmpPB_left (by omega) h]
  ·
   rw [if_neg (by omega), if_neg (by omega), cmpPB_both (by omega) (by omega)]
 | succ d ih =>
  intro k i h1 h2 hd hk
  obtain ⟨k, rfl⟩ : ∃ m, k = m + 2 := ⟨k - 2, by omega⟩
  have hi : i < l.length := by omega
  simp only [PNm.portmanteauref10_Order.l0]
  rw [if_pos (by omega)]
  simp only [PNm.portmanteauref10_Order.j1]
  by_cases h : i < m.length
  ·
   rw [if_pos (by simp; omega), if_pos (by omega), if_pos (by omega), if_pos (by omega), rd_at l i hi, rd_at m i h]
   have z1 := hl l[i] (List.getElem_mem hi)
   have z2 := hm m[i] (List.getElem_mem h)
   rw [less_f k _ _ (by omega) (by omega) (by omega), cmpPB_step hi h]
   simp only [Option.bind_some]
   by_cases hz : cmpB l[i] m[i] = 0
   ·
    rw [if_pos hz, if_pos hz, wrap_up (by omega) (by omega), show ((i : Int) + 1) = ((i + 1 : Nat) : Int) by omega, ih k (i + 1) (by omega) (by omega) (by omega) (by omega)]
   ·
    rw [if_neg hz, if_neg hz]
  ·
   rw [if_neg (by simp; omega), if_neg (by omega), if_pos (by omega), cmpPB_right hi (by omega)]
theorem piece_le (l : List UInt8) : ∀ p ∈ splitL l, p.length ≤ l.length := by
 induction l with
 | nil => intro p hp; simp [splitL] at hp; subst hp; simp
 | cons c l ih =>
  intro p hp
  rw [splitL_cons] at hp
  split at hp
  ·
   rcases List.mem_cons.1 hp with rfl | h
   ·
    simp
   ·
    have := ih p h; simp; omega
  ·
   cases h : splitL l with
   | nil => exact absurd h (splitL_ne l)
   | cons q qs =>
    rw [h] at hp ih
    rcases List.mem_cons.1 hp with rfl | h2
    ·
     have := ih q List.mem_cons_self; simp; omega
    ·
     have := ih p (List.mem_cons_of_mem _ h2); simp; omega
theorem partsT_le (a : ByteArray) : ∀ x ∈ partsT a, x.size ≤ a.size := by
 intro x hx
 unfold partsT partsL at hx
 obtain ⟨l, hl, rfl⟩ := List.mem_map.1 hx
 split at hl
 ·
  simp at hl
 ·
  have := piece_le _ l hl
  rw [len_data] at this
  exact this
theorem partsT_count (a : ByteArray) : (partsT a).length ≤ a.size + 1 := by
 unfold partsT partsL
 split
 ·
  simp
 ·
  rw [List.length_map]
  have := splitL_length a.data.toList
  rw [len_data] at this; exact this
theorem rorder_f (k : Nat) (a b : ByteArray) (ha : a.size ≤ 10000) (hb : b.size ≤ 10000) (hk : 45000 < k) : PNm.portmanteauref10_Order.f k a b = some (orderT a b) := by
 unfold PNm.portmanteauref10_Order.f
 rw [rparts_f _ a (by omega) (by omega), rparts_f _ b (by omega) (by omega)]
 simp only [Option.bind_some]
 have c1 := partsT_count a
 have h := order_l (partsT a) (partsT b) 10000 (by omega) (fun x hx => by have := partsT_le a x hx; omega) (fun x hx => by have := partsT_le b x hx; omega) (by omega) (partsT a).length k 0 (by omega) (by omega) (by omega) (by omega)
 refine h.trans ?_
 rw [List.drop_zero, List.drop_zero, cmpPB_data, partsT_data, partsT_data]; rfl
/-! ### Parent, Base -/
def lastL (l : List UInt8) : Nat → Option Nat
 | 0 => none
 | n + 1 => if l[n]? = some 47 then some n else lastL l n
theorem lastL_lt (l : List UInt8) : ∀ n j, lastL l n = some j → j < n
 | 0, _, h => by simp [lastL] at h
 | n + 1, j, h => by
  unfold lastL at h
  split at h
  ·
   have := Option.some.inj h; omega
  ·
   have := lastL_lt l n j h; omega
theorem at_slash (s : ByteArray) (n : Nat) (h : n < s.size) : bt s (n : Int) = 47 ↔ s.data.toList[n]? = some 47 := by
 rw [List.getElem?_eq_getElem (by rw [len_data]; exact h), Option.some.injEq, show (47 : Int) = ((47 : Nat) : Int) from rfl, bt_is s n h 47 (by omega)]; rfl
def parentT (a : ByteArray) : ByteArray := match lastL a.data.toList a.size with | none => ⟨#[]⟩ | some j => a.extract 0 j
def baseT (a : ByteArray) : ByteArray := match lastL a.data.toList a.size with | none => a | some j => a.extract (j + 1) a.size
theorem last_l (a : ByteArray) (ha : a.size ≤ 100000) : ∀ (n k : Nat), n ≤ a.size → n < k →
  PNm.bytealg_LastIndexByteString.l0 k a 47 ((n : Int) - 1) = some (match lastL a.data.toList n with | none => -1 | some j => (j : Int))
 | 0, k, h, hk => by
  obtain ⟨k, rfl⟩ : ∃ m, k = m + 1 := ⟨k - 1, by omega⟩
  simp only [PNm.bytealg_LastIndexByteString.l0]
  rw [if_neg (by omega)]; rfl
 | n + 1, k, h, hk => by
  obtain ⟨k, rfl⟩ : ∃ m, k = m + 1 := ⟨k - 1, by omega⟩
  simp only [PNm.bytealg_LastIndexByteString.l0]
  rw [show (((n + 1 : Nat) : Int) - 1) = (n : Int) by omega, if_pos (by omega), if_pos (by omega), if_pos (by omega)]
  unfold lastL
  by_cases hb : bt a (n : Int) = 47
  ·
   rw [if_pos hb, if_pos ((at_slash a n (by omega)).1 hb)]
  ·
   rw [if_neg hb, if_neg (fun e => hb ((at_slash a n (by omega)).2 e)), wrap_down (by omega) (by omega)]
   exact last_l a ha n k (by omega) (by omega)
theorem last_f (k : Nat) (a : ByteArray) (ha : a.size ≤ 100000) (hk : a.size < k) : PNm.strings_LastIndexByte.f k a 47 = some (match lastL a.data.toList a.size with | none => -1 | some j => (j : Int)) := by
 unfold PNm.strings_LastIndexByte.f PNm.bytealg_LastIndexByteString.f
 rw [show wrap64 ((a.size : Int) - 1) = (a.size : Int) - 1 by unfold wrap64; omega, last_l a ha a.size k (by omega) hk]
 rfl
theorem parent_f (k : Nat) (a : ByteArray) (ha : a.size ≤ 100000) (hk : a.size < k) : PNm.name_Parent.f k a = some (parentT a) := by
 unfold PNm.name_Parent.f parentT
 rw [last_f k a ha hk]
 simp only [Option.bind_some]
 cases h : lastL a.data.toList a.size with
 | none =>
  simp only
  rw [show mx 0 (-1) = 0 by decide, if_pos (by omega), if_pos (by omega)]
  congr 1
  apply Go.WideShapes.bytes_inj
  rw [← Lib.toList_data, Lib.extract_toList]; simp
 | some j =>
  have hj := lastL_lt _ _ _ h
  simp only
  rw [show mx 0 (j : Int) = (j : Int) by unfold mx; omega, if_pos (by omega), if_pos (by omega), show (j : Int).toNat = j by omega]
theorem base_f (k : Nat) (a : ByteArray) (ha : a.size ≤ 100000) (hk : a.size < k) : PNm.name_Base.f k a = some (baseT a) := by
 unfold PNm.name_Base.f baseT
 rw [last_f k a ha hk]
 simp only [Option.bind_some]
 cases h : lastL a.data.toList a.size with
 | none =>
  simp only
  rw [show wrap64 (-1 + 1) = 0 by unfold wrap64; omega, if_pos (by omega), if_pos (by omega)]
  congr 1
  apply Go.WideShapes.bytes_inj
  rw [← Lib.toList_data, Lib.extract_toList]; simp
  rw [List.take_of_length_le (by rw [len_data]; omega)]
 | some j =>
  have hj := lastL_lt _ _ _ h
  simp only
  rw [wrap_up (by omega) (by omega), if_pos (by omega), if_pos (by omega), show ((j : Int) + 1).toNat = j + 1 by omega]
theorem rparent_l (a : ByteArray) (ha : a.size ≤ 100000) : ∀ (n k : Nat), n ≤ a.size → n < k →
  PNm.portmanteauref10_Parent.l0 k a ((n : Int) - 1) = some (match lastL a.data.toList n with | none => ⟨#[]⟩ | some j => a.extract 0 j)
 | 0, k, h, hk => by
  obtain ⟨k, rfl⟩ : ∃ m, k = m + 1 := ⟨k - 1, by omega⟩
  simp only [PNm.portmanteauref10_Parent.l0]
  rw [if_neg (by omega)]; rfl
 | n + 1, k, h, hk => by
  obtain ⟨k, rfl⟩ : ∃ m, k = m + 1 := ⟨k - 1, by omega⟩
  simp only [PNm.portmanteauref10_Parent.l0]
  rw [show (((n + 1 : Nat) : Int) - 1) = (n : Int) by omega, if_pos (by omega), if_pos (by omega), if_pos (by omega)]
  unfold lastL
  by_cases hb : bt a (n : Int) = 47
  ·
   rw [if_pos hb, if_pos (by omega), if_pos ((at_slash a n (by omega)).1 hb), show (n : Int).toNat = n by omega]
  ·
   rw [if_neg hb, if_neg (fun e => hb ((at_slash a n (by omega)).2 e)), wrap_down (by omega) (by omega)]
   exact rparent_l a ha n k (by omega) (by omega)
theorem rparent_f (k : Nat) (a : ByteArray) (ha : a.size ≤ 100000) (hk : a.size < k) : PNm.portmanteauref10_Parent.f k a = some (parentT a) := by
 unfold PNm.portmanteauref10_Parent.f
 rw [show wrap64 ((a.size : Int) - 1) = (a.size : Int) - 1 by unfold wrap64; omega]
 exact rparent_l a ha a.size k (by omega) hk
end Go.Proofs.YtibmfjacfbpfgaaGreatDoor.NameRef
