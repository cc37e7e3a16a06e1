/- Paths as lists of bytes: the parts between the slashes, the order of two paths, part by part. Plain lists: no program, no condition. -/
import Derived.Lib.Split
import Derived.Lib.SplitLaws
import Derived.Test.YtibmfjacfbpfgaaGreatDoorPW
import Derived.Test.YtibmfjacfbpfgaaGreatDoorProg
import Derived.WalkKit
import Derived.WalkLawsBesides
import Derived.Lib.Hide
import Derived.Deep.QuietTactic
import Derived.BigQuiet
set_option maxHeartbeats 32000000
namespace Go.Proofs.YtibmfjacfbpfgaaGreatDoor.NameLaw
open Go.Lib
def splitL : List UInt8 → List (List UInt8)
 | [] => [[]]
 | c :: l => if c = 47 then [] :: splitL l else (match splitL l with | [] => [[c]] | p :: ps => (c :: p) :: ps)
theorem splitL_cons (c : UInt8) (l : List UInt8) : splitL (c :: l) = if c = 47 then [] :: splitL l else (match splitL l with | [] => [[c]] | p :: ps => (c :: p) :: ps) := rfl
theorem splitL_ne (l : List UInt8) : splitL l ≠ [] := by
 cases l with
 | nil => simp [splitL]
 | cons c l =>
  unfold splitL
  split
  ·
   simp
  split <;> simp
def partsL (l : List UInt8) : List (List UInt8) := if l = [] then [] else splitL l
theorem splitL_no (l : List UInt8) (h : ∀ c ∈ l, c ≠ 47) : splitL l = [l] := by
 induction l with
 | nil => rfl
 | cons c l ih =>
  unfold splitL;rw [if_neg (h c List.mem_cons_self), ih (fun d hd => h d (List.mem_cons_of_mem _ hd))]
theorem splitL_hit (p r : List UInt8) (h : ∀ c ∈ p, c ≠ 47) : splitL (p ++ 47 :: r) = p :: splitL r := by
 induction p with
 | nil => simp [splitL]
 | cons c p ih =>
  rw [List.cons_append, splitL_cons, if_neg (h c List.mem_cons_self), ih (fun d hd => h d (List.mem_cons_of_mem _ hd))]
theorem index_one_none (l : List UInt8) (h : index l [47] = -1) : ∀ c ∈ l, c ≠ 47 := by
 rcases index_spec l [47] with ⟨_, h2⟩ | ⟨i, h1, _⟩
 ·
  intro c hc e;subst e;obtain ⟨j, hj, he⟩ := List.mem_iff_getElem.1 hc;have := h2 j (by omega);unfold occAt at this;rw [List.drop_eq_getElem_cons hj, he] at this;simp [List.isPrefixOf] at this
 omega
theorem index_one_some (l : List UInt8) (i : Nat) (h : index l [47] = i) : i < l.length ∧ l = l.take i ++ 47 :: l.drop (i + 1) ∧ ∀ c ∈ l.take i, c ≠ 47 := by
 rcases index_spec l [47] with ⟨h1, _⟩ | ⟨j, h1, h2, h3, h4⟩
 ·
  omega
 have hij : j = i := by omega
 subst hij
 have hlt : j < l.length := by
  have := index_room l [47] (by omega);simp at this; omega
 have hc : l[j] = 47 := by
  unfold occAt at h3;rw [List.drop_eq_getElem_cons hlt] at h3;simp [List.isPrefixOf] at h3;exact h3.symm
 refine ⟨hlt, ?_, ?_⟩
 ·
  conv => lhs; rw [← List.take_append_drop j l, List.drop_eq_getElem_cons hlt, hc]
 intro c hc2 e;subst e;obtain ⟨k, hk, he⟩ := List.mem_iff_getElem.1 hc2;have hkj : k < j := by simp at hk; omega
 have := h4 k hkj;unfold occAt at this;rw [List.drop_eq_getElem_cons (show k < l.length by omega)] at this;rw [List.getElem_take] at he;rw [he] at this;simp [List.isPrefixOf] at this
theorem splitK_all (k : Nat) : ∀ l : List UInt8, l.count 47 ≤ k → splitK [47] 0 k l = splitL l := by
 induction k with
 | zero =>
  intro l h;rw [splitL_no l (fun c hc e => by subst e; have := List.count_pos_iff.2 hc; omega)];rfl
 | succ k ih =>
  intro l h;unfold splitK
  by_cases h1 : index l [47] = -1
  ·
   rw [if_pos (beq_iff_eq.2 h1), splitL_no l (index_one_none l h1)]
  obtain ⟨i, hi⟩ : ∃ i : Nat, index l [47] = i := ⟨(index l [47]).toNat, by have := index_ge l [47]; omega⟩;obtain ⟨hlt, he, hp⟩ := index_one_some l i hi;rw [if_neg (by rw [beq_iff_eq]; exact h1), hi];simp only [Int.toNat_natCast, Nat.add_zero, List.length_cons, List.length_nil, Nat.zero_add]
  have hcount : (l.drop (i + 1)).count 47 ≤ k := by
   have := h;rw [he, List.count_append, List.count_cons] at this;simp at this;omega
  rw [ih _ hcount]
  conv => rhs; rw [he]
  rw [splitL_hit _ _ hp]
theorem countFrom_one (fuel : Nat) : ∀ l : List UInt8, l.length < fuel → countFrom [47] fuel l = l.count 47 := by
 induction fuel with
 | zero => intro l h; omega
 | succ fuel ih =>
  intro l h;unfold countFrom
  by_cases h1 : index l [47] = -1
  ·
   rw [if_pos (beq_iff_eq.2 h1)];symm;rw [List.count_eq_zero];intro hm;exact index_one_none l h1 47 hm rfl
  obtain ⟨i, hi⟩ : ∃ i : Nat, index l [47] = i := ⟨(index l [47]).toNat, by have := index_ge l [47]; omega⟩;obtain ⟨hlt, he, hp⟩ := index_one_some l i hi;rw [if_neg (by rw [beq_iff_eq]; exact h1), hi];simp only [Int.toNat_natCast, List.length_cons, List.length_nil, Nat.zero_add];rw [ih _ (by simp; omega)]
  conv => rhs; rw [he]
  rw [List.count_append, List.count_cons];rw [List.count_eq_zero.2 (fun hm => hp 47 hm rfl)];simp; omega
theorem split_one (l : List UInt8) : Lib.split l [47] = splitL l := by
 unfold Lib.split count;rw [countFrom_one _ _ (by omega)];exact splitK_all _ _ (Nat.le_refl _)
def cmpL : List UInt8 → List UInt8 → Int
 | [], [] => 0
 | [], _ :: _ => -1
 | _ :: _, [] => 1
 | a :: l, b :: m => if a < b then -1 else if b < a then 1 else cmpL l m
def cmpP : List (List UInt8) → List (List UInt8) → Int
 | [], [] => 0
 | [], _ :: _ => -1
 | _ :: _, [] => 1
 | p :: l, q :: m => if cmpL p q = 0 then cmpP l m else cmpL p q
def orderL (a b : List UInt8) : Int := cmpP (partsL a) (partsL b)
theorem u8_tri (a b : UInt8) (h1 : ¬ a < b) (h2 : ¬ b < a) : a = b := by
 apply UInt8.toNat_inj.1;rw [UInt8.lt_iff_toNat_lt] at h1 h2;omega
theorem u8_irr (a : UInt8) : ¬ a < a := by rw [UInt8.lt_iff_toNat_lt]; omega
theorem u8_asymm {a b : UInt8} (h : a < b) : ¬ b < a := by rw [UInt8.lt_iff_toNat_lt] at *; omega
theorem u8_trans {a b c : UInt8} (h : a < b) (k : b < c) : a < c := by rw [UInt8.lt_iff_toNat_lt] at *; omega
theorem cmpL_self (l : List UInt8) : cmpL l l = 0 := by
 induction l with
 | nil => rfl
 | cons a l ih => unfold cmpL; rw [if_neg (u8_irr a), if_neg (u8_irr a), ih]
theorem cmpL_zero : ∀ l m : List UInt8, cmpL l m = 0 → l = m
 | [], [] => fun _ => rfl
 | [], _ :: _ => fun h => by simp [cmpL] at h
 | _ :: _, [] => fun h => by simp [cmpL] at h
 | a :: l, b :: m => fun h => by
  unfold cmpL at h
  by_cases h1 : a < b
  ·
   rw [if_pos h1] at h; simp at h
  rw [if_neg h1] at h
  by_cases h2 : b < a
  ·
   rw [if_pos h2] at h; simp at h
  rw [if_neg h2] at h;rw [u8_tri a b h1 h2, cmpL_zero l m h]
theorem cmpL_neg : ∀ l m : List UInt8, cmpL m l = - cmpL l m
 | [], [] => rfl
 | [], _ :: _ => rfl
 | _ :: _, [] => rfl
 | a :: l, b :: m => by
  unfold cmpL
  by_cases h1 : a < b
  ·
   rw [if_pos h1, if_neg (u8_asymm h1), if_pos h1]; rfl
  by_cases h2 : b < a
  ·
   rw [if_pos h2, if_neg h1, if_pos h2]
  rw [if_neg h1, if_neg h2, if_neg h1, if_neg h2]; exact cmpL_neg l m
theorem cmpL_range : ∀ l m : List UInt8, cmpL l m = -1 ∨ cmpL l m = 0 ∨ cmpL l m = 1
 | [], [] => by simp [cmpL]
 | [], _ :: _ => by simp [cmpL]
 | _ :: _, [] => by simp [cmpL]
 | a :: l, b :: m => by
  unfold cmpL
  split
  ·
   simp
  split
  ·
   simp
  exact cmpL_range l m
theorem cmpL_lt_trans : ∀ l m n : List UInt8, cmpL l m = -1 → cmpL m n = -1 → cmpL l n = -1
 | [], _, [] => fun h k => by
  have h2 := cmpL_neg [] ‹List UInt8›;omega
 | [], _, _ :: _ => fun _ _ => rfl
 | _ :: _, [], _ => fun h _ => by simp [cmpL] at h
 | _ :: _, _ :: _, [] => fun _ k => by simp [cmpL] at k
 | a :: l, b :: m, c :: n => fun h k => by
  unfold cmpL at h k ⊢
  by_cases h1 : a < b
  ·
   by_cases k1 : b < c
   ·
    rw [if_pos (u8_trans h1 k1)]
   rw [if_neg k1] at k
   by_cases k2 : c < b
   ·
    rw [if_pos k2] at k; simp at k
   rw [← u8_tri b c k1 k2, if_pos h1]
  rw [if_neg h1] at h
  by_cases h2 : b < a
  ·
   rw [if_pos h2] at h; simp at h
  rw [if_neg h2] at h;have e := u8_tri a b h1 h2;subst e
  by_cases k1 : a < c
  ·
   rw [if_pos k1]
  rw [if_neg k1] at k ⊢
  by_cases k2 : c < a
  ·
   rw [if_pos k2] at k; simp at k
  rw [if_neg k2] at k ⊢;exact cmpL_lt_trans l m n h k
theorem cmpP_self (l : List (List UInt8)) : cmpP l l = 0 := by
 induction l with
 | nil => rfl
 | cons a l ih => unfold cmpP; rw [if_pos (cmpL_self a), ih]
theorem cmpP_zero : ∀ l m : List (List UInt8), cmpP l m = 0 → l = m
 | [], [] => fun _ => rfl
 | [], _ :: _ => fun h => by simp [cmpP] at h
 | _ :: _, [] => fun h => by simp [cmpP] at h
 | a :: l, b :: m => fun h => by
  unfold cmpP at h
  by_cases h1 : cmpL a b = 0
  ·
   rw [if_pos h1] at h;rw [cmpL_zero a b h1, cmpP_zero l m h]
  rw [if_neg h1] at h; exact absurd h h1
theorem cmpP_neg : ∀ l m : List (List UInt8), cmpP m l = - cmpP l m
 | [], [] => rfl
 | [], _ :: _ => rfl
 | _ :: _, [] => rfl
 | a :: l, b :: m => by
  unfold cmpP;rw [cmpL_neg a b]
  by_cases h1 : cmpL a b = 0
  ·
   rw [if_pos h1, if_pos (by omega)]; exact cmpP_neg l m
  rw [if_neg h1, if_neg (by omega)]
theorem cmpP_range : ∀ l m : List (List UInt8), cmpP l m = -1 ∨ cmpP l m = 0 ∨ cmpP l m = 1
 | [], [] => by simp [cmpP]
 | [], _ :: _ => by simp [cmpP]
 | _ :: _, [] => by simp [cmpP]
 | a :: l, b :: m => by
  unfold cmpP
  split
  ·
   exact cmpP_range l m
  exact cmpL_range a b
theorem cmpP_lt_trans : ∀ l m n : List (List UInt8), cmpP l m = -1 → cmpP m n = -1 → cmpP l n = -1
 | [], _, [] => fun h k => by
  have h2 := cmpP_neg [] ‹List (List UInt8)›;omega
 | [], _, _ :: _ => fun _ _ => rfl
 | _ :: _, [], _ => fun h _ => by simp [cmpP] at h
 | _ :: _, _ :: _, [] => fun _ k => by simp [cmpP] at k
 | a :: l, b :: m, c :: n => fun h k => by
  unfold cmpP at h k ⊢
  by_cases h1 : cmpL a b = 0
  ·
   have e := cmpL_zero a b h1;subst e;rw [if_pos h1] at h
   by_cases k1 : cmpL a c = 0
   ·
    rw [if_pos k1] at k ⊢;exact cmpP_lt_trans l m n h k
   rw [if_neg k1] at k ⊢;exact k
  rw [if_neg h1] at h
  by_cases k1 : cmpL b c = 0
  ·
   have e := cmpL_zero b c k1;subst e;rw [if_neg h1]; exact h
  rw [if_neg k1] at k;have := cmpL_lt_trans a b c h k;rw [if_neg (by omega)]; exact this
theorem splitL_inj : ∀ l m : List UInt8, splitL l = splitL m → l = m
 | [], [] => fun _ => rfl
 | [], c :: m => fun h => by
  unfold splitL at h
  split at h
  ·
   exact absurd (List.cons.inj h).2.symm (splitL_ne m)
  split at h
  ·
   simp at h
  simp at h
 | c :: l, [] => fun h => by
  unfold splitL at h
  split at h
  ·
   exact absurd (List.cons.inj h).2 (splitL_ne l)
  split at h
  ·
   simp at h
  simp at h
 | a :: l, b :: m => fun h => by
  have nl := splitL_ne l;have nm := splitL_ne m;have ih := splitL_inj l m;unfold splitL at h
  by_cases h1 : a = 47
  ·
   rw [if_pos h1] at h
   by_cases h2 : b = 47
   ·
    rw [if_pos h2] at h;rw [h1, h2, ih (List.cons.inj h).2]
   rw [if_neg h2] at h
   cases hm : splitL m with
   | nil => exact absurd hm nm
   | cons q qs => rw [hm] at h; simp at h
  rw [if_neg h1] at h
  cases hl : splitL l with
  | nil => exact absurd hl nl
  | cons p ps =>
   rw [hl] at h
   by_cases h2 : b = 47
   ·
    rw [if_pos h2] at h; simp at h
   rw [if_neg h2] at h
   cases hm : splitL m with
   | nil => exact absurd hm nm
   | cons q qs =>
    rw [hm] at h;simp only [List.cons.injEq] at h;rw [hl, hm] at ih;rw [h.1.1, ih (by rw [h.1.2, h.2])]
theorem partsL_inj {l m : List UInt8} (h : partsL l = partsL m) : l = m := by
 unfold partsL at h
 by_cases h1 : l = []
 ·
  by_cases h2 : m = []
  ·
   rw [h1, h2]
  rw [if_pos h1, if_neg h2] at h; exact absurd h.symm (splitL_ne m)
 by_cases h2 : m = []
 ·
  rw [if_neg h1, if_pos h2] at h; exact absurd h (splitL_ne l)
 rw [if_neg h1, if_neg h2] at h; exact splitL_inj l m h
theorem order_neg (a b : List UInt8) : orderL b a = - orderL a b := cmpP_neg _ _
theorem order_zero (a b : List UInt8) : orderL a b = 0 ↔ a = b :=
 ⟨fun h => partsL_inj (cmpP_zero _ _ h), fun h => by subst h; exact cmpP_self _⟩
theorem order_range (a b : List UInt8) : orderL a b = -1 ∨ orderL a b = 0 ∨ orderL a b = 1 := cmpP_range _ _
theorem order_trans (a b c : List UInt8) (h : orderL a b ≤ 0) (k : orderL b c ≤ 0) : orderL a c ≤ 0 := by
 rcases order_range a b with h1 | h1 | h1
 ·
  rcases order_range b c with k1 | k1 | k1
  ·
   rw [show orderL a c = -1 from cmpP_lt_trans _ _ _ h1 k1]; omega
  ·
   rw [← (order_zero b c).1 k1]; exact h
  omega
 ·
  rw [(order_zero a b).1 h1]; exact k
 omega
theorem splitL_append (p r : List UInt8) : splitL (p ++ 47 :: r) = splitL p ++ splitL r := by
 induction p with
 | nil => simp [splitL]
 | cons c p ih =>
  rw [List.cons_append, splitL_cons, splitL_cons, ih]
  by_cases h : c = 47
  ·
   rw [if_pos h, if_pos h]; rfl
  rw [if_neg h, if_neg h]
  cases hp : splitL p with
  | nil => exact absurd hp (splitL_ne p)
  | cons q qs => rfl
end Go.Proofs.YtibmfjacfbpfgaaGreatDoor.NameLaw
set_option linter.unusedVariables false
set_option linter.unusedSimpArgs false
namespace Go.Proofs.YtibmfjacfbpfgaaGreatDoor.NameCmp
open Go.RowKit YtibmfjacfbpfgaaGreatDoorW PrintWords PrintLast NameLaw
theorem less_iff : ∀ l m : List UInt8, Op.bytesLess l m = true ↔ cmpL l m = -1
 | [], [] => by simp [Op.bytesLess, cmpL]
 | [], _ :: _ => by simp [Op.bytesLess, cmpL]
 | _ :: _, [] => by simp [Op.bytesLess, cmpL]
 | a :: l, b :: m => by
  unfold cmpL Op.bytesLess;have ih := less_iff l m
  by_cases h1 : a < b
  ·
   simp [h1]
  by_cases h2 : b < a
  ·
   simp [h1, h2];intro e; subst e; exact absurd h2 h1
  have := u8_tri a b h1 h2;subst this;simp [h1, ih]
def cmpB (x y : ByteArray) : Int := cmpL x.data.toList y.data.toList
theorem isNaN_any (x : ByteArray) (w : World) : Calls Tryz.prog 164 #[.string x] w fun e w' => e = .returned (.bool false) ∧ w = w' := by
 go_enter Tryz.func164, Tryz.ntmps164;go_wp2;go_ret;exact ⟨by simp, rfl⟩
theorem compare_any (x y : ByteArray) (w : World) : Calls Tryz.prog 144 #[.string x, .string y] w fun e w' => e = .returned (.int .i64 (cmpB x y)) ∧ w = w' := by
 have n := cmpL_neg x.data.toList y.data.toList
 rcases cmpL_range x.data.toList y.data.toList with h | h | h
 ·
  have e : cmpB x y = -1 := h;have e1 := (less_iff _ _).2 h;rw [e];rw [← Lib.toList_data, ← Lib.toList_data] at e1;clear e;clear h n;go_enter Tryz.func144, Tryz.ntmps144
  go_wp2_with (go_at_call 164; refine (isNaN_any _ _).mono ?_; rintro e w' ⟨rfl, rfl⟩)
  go_ret;exact ⟨rfl, rfl⟩
 ·
  have e : cmpB x y = 0 := h;have e1 : Op.bytesLess x.toList y.toList = false := Bool.eq_false_iff.2 (fun e => by rw [Lib.toList_data, Lib.toList_data] at e; have := (less_iff x.data.toList y.data.toList).1 e; omega);have e2 : (x.toList == y.toList) = true := by rw [beq_iff_eq, Lib.toList_data, Lib.toList_data]; exact cmpL_zero _ _ h
  rw [e];clear e;clear h n;go_enter Tryz.func144, Tryz.ntmps144
  go_wp2_with (go_at_call 164; refine (isNaN_any _ _).mono ?_; rintro e w' ⟨rfl, rfl⟩)
  go_ret;exact ⟨rfl, rfl⟩
 have e : cmpB x y = 1 := h;have e1 : Op.bytesLess x.toList y.toList = false := Bool.eq_false_iff.2 (fun e => by rw [Lib.toList_data, Lib.toList_data] at e; have := (less_iff x.data.toList y.data.toList).1 e; omega);have e2 : (x.toList == y.toList) = false := by rw [beq_eq_false_iff_ne, Lib.toList_data, Lib.toList_data]; intro e2; rw [e2, cmpL_self] at h; omega
 rw [e];clear e;clear h n;go_enter Tryz.func144, Tryz.ntmps144
 go_wp2_with (go_at_call 164; refine (isNaN_any _ _).mono ?_; rintro e w' ⟨rfl, rfl⟩)
 go_ret;exact ⟨rfl, rfl⟩
def StrsAt (w : World) (A : Option Addr) (l : List ByteArray) : Prop := l.length ≤ 9223372036854775807 ∧ (0 < l.length → ∃ ad, A = some ad ∧ ∀ j (h : j < l.length), w.cell? (ad.add j) = some (.string l[j]))
theorem StrsAt.drewN {w : World} {A : Option Addr} {l : List ByteArray} (h : StrsAt w A l) (n : Nat) : StrsAt (w.drewN n) A l := h
theorem StrsAt.below {w w1 : World} {A : Option Addr} {l : List ByteArray} (h : StrsAt w A l) (hb : Below w.heap.size w w1) : StrsAt w1 A l :=
 ⟨h.1, fun hn => by
  obtain ⟨ad, e, hc⟩ := h.2 hn
  exact ⟨ad, e, fun j hj => pw_cell_below hb (hc j hj)⟩⟩
def cmpPB : List ByteArray → List ByteArray → Int
 | [], [] => 0
 | [], _ :: _ => -1
 | _ :: _, [] => 1
 | p :: l, q :: m => if cmpB p q = 0 then cmpPB l m else cmpB p q
theorem cmpPB_data : ∀ l m : List ByteArray, cmpPB l m = cmpP (l.map (·.data.toList)) (m.map (·.data.toList))
 | [], [] => rfl
 | [], _ :: _ => rfl
 | _ :: _, [] => rfl
 | p :: l, q :: m => by
  simp only [cmpPB, List.map_cons, cmpP, cmpB, cmpPB_data l m]
theorem cmpPB_left {l m : List ByteArray} {k : Nat} (h1 : k = l.length) (h2 : k < m.length) : cmpPB (l.drop k) (m.drop k) = -1 := by
 rw [List.drop_of_length_le (by omega), List.drop_eq_getElem_cons h2]; rfl
theorem cmpPB_right {l m : List ByteArray} {k : Nat} (h1 : k < l.length) (h2 : k = m.length) : cmpPB (l.drop k) (m.drop k) = 1 := by
 rw [List.drop_of_length_le (l := m) (by omega), List.drop_eq_getElem_cons h1]; rfl
theorem cmpPB_both {l m : List ByteArray} {k : Nat} (h1 : k = l.length) (h2 : k = m.length) : cmpPB (l.drop k) (m.drop k) = 0 := by
 rw [List.drop_of_length_le (by omega), List.drop_of_length_le (by omega)]; rfl
theorem cmpPB_step {l m : List ByteArray} {k : Nat} (h1 : k < l.length) (h2 : k < m.length) : cmpPB (l.drop k) (m.drop k) = if cmpB l[k] m[k] = 0 then cmpPB (l.drop (k + 1)) (m.drop (k + 1)) else cmpB l[k] m[k] := by
 rw [List.drop_eq_getElem_cons h1, List.drop_eq_getElem_cons h2]; rfl
theorem scompare_any (A B : Option Addr) (c d : Nat) (l m : List ByteArray) (w : World) (hl : StrsAt w A l) (hm : StrsAt w B m) :
  Calls Tryz.prog 118 #[.slice A l.length c, .slice B m.length d] w fun e w' => e = .returned (.int .i64 (cmpPB l m)) ∧ Drawn0 w w' := by
 have HL := Lib.hid hl.2;have HM := Lib.hid hm.2;have l1 := hl.1;have m1 := hm.1;clear hl hm;obtain ⟨R, hR⟩ : ∃ R, R = cmpPB l m := ⟨_, rfl⟩;have HR0 := Lib.hid (show cmpPB (l.drop 0) (m.drop 0) = R from hR.symm);rw [← hR];clear hR;go_enter Tryz.func118, Tryz.ntmps118;go_wp2
 go_loopw [11] (fun i wr => ∃ k : Nat, k ≤ l.length ∧ k ≤ m.length ∧ i = .int .i64 k ∧ Hid (cmpPB (l.drop k) (m.drop k) = R) ∧ Drawn0 w wr) (fun i _ => l.length - (intOf i).toNat)
 case atStart => exact ⟨0, by omega, by omega, rfl, HR0, Drawn0.refl _⟩
 obtain ⟨k, hk, hk2, rfl, HR, ⟨n, rfl⟩⟩ := hrel
 by_cases hlt : k < l.length
 ·
  obtain ⟨ad, rfl, hc⟩ := HL.out (by omega);have hc1 := hc k hlt;have hltI : (k : Int) < l.length := by omega
  clear hc
  by_cases hlt2 : k < m.length
  ·
   obtain ⟨bd, rfl, hc⟩ := HM.out (by omega);have hc2 := hc k hlt2;have hltI2 : (k : Int) < m.length := by omega
   have hd : decide ((m.length : Int) ≤ k) = false := decide_eq_false (by omega);have hs := cmpPB_step hlt hlt2;clear hc
   by_cases hz : cmpB l[k] m[k] = 0
   ·
    rw [if_pos hz] at hs;have HS := Lib.hid hs;have hb : (cmpB l[k] m[k] != 0) = false := by simp [hz]
    clear hs hz
    go_wp2_with (go_at_call 144; refine (compare_any _ _ _).mono ?_; rintro e w' ⟨rfl, rfl⟩)
    go_roundw
    case rel => exact ⟨k + 1, by omega, by omega, by go_num, Lib.hid (by rw [← HS.out]; exact HR.out), by repeat (first | exact Drawn0.refl _ | apply Drawn0.step)⟩
    case measure => simp [intOf]; omega
   rw [if_neg hz] at hs;have HS := Lib.hid hs;have hb : (cmpB l[k] m[k] != 0) = true := by simp [hz]
   clear hs hz
   go_wp2_with (go_at_call 144; refine (compare_any _ _ _).mono ?_; rintro e w' ⟨rfl, rfl⟩)
   go_ret;exact ⟨by rw [← HR.out, HS.out]; rfl, by repeat (first | exact Drawn0.refl _ | apply Drawn0.step)⟩
  have hd : decide ((m.length : Int) ≤ k) = true := decide_eq_true (by omega);have HS := Lib.hid (cmpPB_right hlt (show k = m.length by omega));go_wp2;go_ret;exact ⟨by rw [← HR.out, HS.out]; rfl, by repeat (first | exact Drawn0.refl _ | apply Drawn0.step)⟩
 by_cases hlt2 : k < m.length
 ·
  have hd : decide ((l.length : Int) < m.length) = true := decide_eq_true (by omega);have HS := Lib.hid (cmpPB_left (show k = l.length by omega) hlt2);go_wp2;go_ret;exact ⟨by rw [← HR.out, HS.out]; rfl, by repeat (first | exact Drawn0.refl _ | apply Drawn0.step)⟩
 have hd : decide ((l.length : Int) < m.length) = false := decide_eq_false (by omega);have HS := Lib.hid (cmpPB_both (show k = l.length by omega) (show k = m.length by omega));go_wp2;go_ret;exact ⟨by rw [← HR.out, HS.out]; rfl, by repeat (first | exact Drawn0.refl _ | apply Drawn0.step)⟩
end Go.Proofs.YtibmfjacfbpfgaaGreatDoor.NameCmp
