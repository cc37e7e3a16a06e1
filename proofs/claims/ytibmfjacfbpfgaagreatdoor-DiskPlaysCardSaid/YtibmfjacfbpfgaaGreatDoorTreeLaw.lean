/- tree, as plain lists: find, put, drop, sort; what is right. -/
import Derived.Test.YtibmfjacfbpfgaaGreatDoorSortA
import Derived.Test.YtibmfjacfbpfgaaGreatDoorItem
import Derived.Test.YtibmfjacfbpfgaaGreatDoorNameB
set_option linter.unusedVariables false
set_option linter.unusedSimpArgs false
namespace Go.Proofs.YtibmfjacfbpfgaaGreatDoor.TreeLaw
open Stab SortLaw YtibmfjacfbpfgaaGreatDoor.Item NameLaw NameWalk NameOrd NameRef NameKeepLaw
def ltI (x y : It) : Bool := decide (orderT x.1 y.1 < 0)
theorem orderT_self (a : ByteArray) : orderT a a = 0 := (order_zero _ _).2 rfl
theorem orderT_neg (a b : ByteArray) : orderT b a = - orderT a b := order_neg _ _
theorem orderT_zero {a b : ByteArray} (h : orderT a b = 0) : a = b := by
 have := (order_zero _ _).1 h;rw [← mk_data a, this, mk_data]
theorem orderT_trans {a b c : ByteArray} (h : orderT a b ≤ 0) (k : orderT b c ≤ 0) : orderT a c ≤ 0 := order_trans _ _ _ h k
theorem orderT_lt {a b c : ByteArray} (h : orderT a b < 0) (k : orderT b c < 0) : orderT a c < 0 := by
 have h1 : orderT a c ≤ 0 := orderT_trans (b := b) (by omega) (by omega)
 rcases Int.lt_or_eq_of_le h1 with h2 | h2
 ·
  exact h2
 have e := orderT_zero h2;subst e;have := orderT_neg a b;omega
theorem swoI : SWO ltI where
 irr x := by unfold ltI; rw [orderT_self]; rfl
 asym x y h := by
  unfold ltI at *;have h := of_decide_eq_true h;have := orderT_neg x.1 y.1;exact decide_eq_false (by omega)
 trans x y z h k := by
  unfold ltI at *;exact decide_eq_true (orderT_lt (of_decide_eq_true h) (of_decide_eq_true k))
 ntrans x y z h k := by
  unfold ltI at *;have h := of_decide_eq_false h;have k := of_decide_eq_false k;have h1 := orderT_neg x.1 y.1;have h2 := orderT_neg y.1 z.1;have h3 := orderT_neg x.1 z.1;have : orderT z.1 x.1 ≤ 0 := orderT_trans (b := y.1) (by omega) (by omega);exact decide_eq_false (by omega)
def isAt (p : ByteArray) (x : It) : Bool := decide (x.1 = p)
def findP (t : List It) (p : ByteArray) : Option It := t.find? (isAt p)
def woP (t : List It) (p : ByteArray) : List It := t.filter (fun x => !isAt p x)
def behind (p : ByteArray) (x : It) : Bool := decide (0 < orderT x.1 p)
def putP (t : List It) (x : It) : List It := (woP t x.1).take ((woP t x.1).findIdx (behind x.1)) ++ x :: (woP t x.1).drop ((woP t x.1).findIdx (behind x.1))
theorem isAt_self (x : It) : isAt x.1 x = true := decide_eq_true rfl
theorem isAt_eq {p : ByteArray} {x : It} (h : isAt p x = true) : x.1 = p := of_decide_eq_true h
theorem wo_none (t : List It) (p : ByteArray) : ∀ x ∈ woP t p, isAt p x = false := by
 intro x hx;have := (List.mem_filter.1 hx).2
 simpa using this
theorem find_skip {p : ByteArray} {u v : List It} (h : ∀ x ∈ u, isAt p x = false) : findP (u ++ v) p = findP v p := by
 unfold findP;rw [List.find?_append];have : u.find? (isAt p) = none := List.find?_eq_none.2 (fun x hx => by rw [h x hx]; simp);rw [this]; rfl
theorem find_put (t : List It) (x : It) : findP (putP t x) x.1 = some x := by
 unfold putP;rw [find_skip (fun y hy => wo_none t x.1 y (List.mem_of_mem_take hy))];unfold findP;rw [List.find?_cons_of_pos (isAt_self x)]
def insR (x : It) (o : List It) : List It := o.takeWhile (fun y => !ltI x y) ++ x :: o.dropWhile (fun y => !ltI x y)
def kindOf (t : List It) (p : ByteArray) : Int := if p.data.toList = [] then 1 else match findP t p with | none => 0 | some x => x.2.1
def okName (x : It) : Bool := decide (checkE x.1 = 0) && !checkD x.1 && decide (checkP x.1 = x.1)
def okKind (x : It) : Bool := decide (1 ≤ x.2.1) && decide (x.2.1 ≤ 3)
def stepOk (t : List It) (k : Nat) (x : It) : Bool := okName x && okKind x && (decide (k = 0) || decide (orderT (t.getD (k - 1) x).1 x.1 < 0)) && decide (kindOf t (parentT x.1) = 1)
def RightP (t : List It) : Prop := ∀ k x, t[k]? = some x → stepOk t k x = true
theorem stepOk_iff {t : List It} {k : Nat} {x : It} : stepOk t k x = true ↔ okName x = true ∧ okKind x = true ∧ (k = 0 ∨ orderT (t.getD (k - 1) x).1 x.1 < 0) ∧ kindOf t (parentT x.1) = 1 := by
 unfold stepOk;simp only [Bool.and_eq_true, Bool.or_eq_true, decide_eq_true_eq, and_assoc]
def Strict (t : List It) : Prop := t.Pairwise (fun x y => orderT x.1 y.1 < 0)
theorem strict_of {t : List It} (h : ∀ k x y, t[k]? = some x → t[k + 1]? = some y → orderT x.1 y.1 < 0) : Strict t := by
 induction t with
 | nil => exact List.Pairwise.nil
 | cons x t ih =>
  have ih := ih (fun k y z hy hz => h (k + 1) y z (by simpa using hy) (by simpa using hz));refine List.pairwise_cons.2 ⟨fun y hy => ?_, ih⟩
  cases t with
  | nil => cases hy
  | cons z t =>
   have h0 := h 0 x z rfl rfl
   rcases List.mem_cons.1 hy with e | e
   ·
    rw [e]; exact h0
   exact orderT_lt h0 ((List.pairwise_cons.1 ih).1 y e)
theorem right_iff (t : List It) : RightP t ↔ Strict t ∧ ∀ x ∈ t, okName x = true ∧ okKind x = true ∧ kindOf t (parentT x.1) = 1 := by
 constructor
 ·
  intro h;refine ⟨strict_of (fun k x y hx hy => ?_), fun x hx => ?_⟩
  ·
   have := (stepOk_iff.1 (h (k + 1) y hy)).2.2.1
   rcases this with e | e
   ·
    omega
   rw [Nat.add_sub_cancel, List.getD_eq_getElem?_getD, hx] at e;exact e
  obtain ⟨k, hk, e⟩ := List.mem_iff_getElem.1 hx;have := stepOk_iff.1 (h k x (by rw [List.getElem?_eq_getElem hk, e]));exact ⟨this.1, this.2.1, this.2.2.2⟩
 rintro ⟨h1, h2⟩ k x hx;obtain ⟨hk, e⟩ := List.getElem?_eq_some_iff.1 hx;have hm : x ∈ t := by rw [← e]; exact List.getElem_mem hk
 refine stepOk_iff.2 ⟨(h2 x hm).1, (h2 x hm).2.1, ?_, (h2 x hm).2.2⟩
 rcases Nat.eq_zero_or_pos k with h0 | h0
 ·
  exact .inl h0
 right;have hk1 : k - 1 < t.length := by omega
 rw [List.getD_eq_getElem?_getD, List.getElem?_eq_getElem hk1, ← e];exact List.pairwise_iff_getElem.1 h1 (k - 1) k hk1 hk (by omega)
theorem strict_one {t : List It} (h : Strict t) {x y : It} (hx : x ∈ t) (hy : y ∈ t) (e : x.1 = y.1) : x = y := by
 induction t with
 | nil => cases hx
 | cons z t ih =>
  obtain ⟨h1, h2⟩ := List.pairwise_cons.1 h
  rcases List.mem_cons.1 hx with ex | ex <;> rcases List.mem_cons.1 hy with ey | ey
  ·
   rw [ex, ey]
  ·
   have := h1 y ey;rw [← ex, e, orderT_self] at this;omega
  ·
   have := h1 x ex;rw [← ey, ← e, orderT_self] at this;omega
  exact ih h2 ex ey
theorem find_some {t : List It} {p : ByteArray} {x : It} (h : findP t p = some x) : x ∈ t ∧ x.1 = p := ⟨List.mem_of_find?_eq_some h, isAt_eq (List.find?_some h)⟩
theorem strict_find {t : List It} (h : Strict t) {x : It} (hx : x ∈ t) : findP t x.1 = some x := by
 cases hf : findP t x.1 with
 | none =>
  have := List.find?_eq_none.1 hf x hx;rw [isAt_self] at this;exact absurd rfl this
 | some y =>
  obtain ⟨h1, h2⟩ := find_some hf;rw [strict_one h hx h1 h2.symm]
theorem kind_one {t : List It} {p : ByteArray} (h0 : p.data.toList ≠ []) (h : kindOf t p = 1) : ∃ x, findP t p = some x ∧ x.2.1 = 1 := by
 unfold kindOf at h;rw [if_neg h0] at h
 cases hf : findP t p with
 | none => rw [hf] at h; simp at h
 | some x => rw [hf] at h; exact ⟨x, rfl, h⟩
end Go.Proofs.YtibmfjacfbpfgaaGreatDoor.TreeLaw
