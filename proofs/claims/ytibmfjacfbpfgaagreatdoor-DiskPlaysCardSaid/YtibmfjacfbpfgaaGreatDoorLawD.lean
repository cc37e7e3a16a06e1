/- disk: where a path leads, as plain lists; a change done; a tree stays a tree. -/
import Derived.Test.YtibmfjacfbpfgaaGreatDoorDiffLaw
import Derived.Lib.Join
set_option linter.unusedVariables false
set_option linter.unusedSimpArgs false
namespace Go.Proofs.YtibmfjacfbpfgaaGreatDoor.RealLaw
open Stab SortLaw YtibmfjacfbpfgaaGreatDoor.Item TreeLaw NameLaw NameWalk NameOrd NameRef NameKeepLaw SortIns NodeRes TreeNodes FillLaw DiffLaw
theorem split_app : ∀ (a b : List UInt8), splitL (a ++ 47 :: b) = splitL a ++ splitL b
 | [], b => by rw [List.nil_append, splitL_cons, if_pos rfl]; rfl
 | c :: a, b => by
  rw [List.cons_append, splitL_cons, splitL_cons, split_app a b]
  by_cases h : c = 47
  ·
   rw [if_pos h, if_pos h]; rfl
  rw [if_neg h, if_neg h]
  cases hs : splitL a with
  | nil => exact absurd hs (splitL_ne a)
  | cons p ps => rfl
theorem split_free : ∀ (l : List UInt8), ∀ x ∈ splitL l, ∀ c ∈ x, c ≠ 47
 | [], x, hx, c, hc => by
  have : x = [] := by simpa [splitL] using hx
  rw [this] at hc;cases hc
 | d :: l, x, hx, c, hc => by
  rw [splitL_cons] at hx
  by_cases h : d = 47
  ·
   rw [if_pos h] at hx
   rcases List.mem_cons.1 hx with e | e
   ·
    rw [e] at hc; cases hc
   exact split_free l x e c hc
  rw [if_neg h] at hx
  cases hs : splitL l with
  | nil => exact absurd hs (splitL_ne l)
  | cons p ps =>
   rw [hs] at hx;have hf := split_free l;rw [hs] at hf
   rcases List.mem_cons.1 hx with e | e
   ·
    rw [e] at hc
    rcases List.mem_cons.1 hc with e2 | e2
    ·
     rw [e2]; exact h
    exact hf p (by simp) c e2
   exact hf x (by simp [e]) c hc
def joinS (u p : ByteArray) : ByteArray := if u.data.toList = [] then p else ⟨(u.data.toList ++ 47 :: p.data.toList).toArray⟩
theorem join_data {u p : ByteArray} (h : u.data.toList ≠ []) : (joinS u p).data.toList = u.data.toList ++ 47 :: p.data.toList := by
 unfold joinS;rw [if_neg h]
theorem join_parts {u p : ByteArray} (hp : p.data.toList ≠ []) (hf : ∀ c ∈ p.data.toList, c ≠ 47) : partsL (joinS u p).data.toList = partsL u.data.toList ++ [p.data.toList] := by
 by_cases h : u.data.toList = []
 ·
  have : joinS u p = p := if_pos h;rw [this, h];unfold partsL;rw [if_neg hp, if_pos rfl, splitL_no _ hf]; rfl
 rw [join_data h];unfold partsL;rw [if_neg (by simp), if_neg h, split_app, splitL_no _ hf]
def Full (u : ByteArray) : Prop := ∀ x ∈ partsL u.data.toList, x ≠ []
theorem full_nil : Full ⟨#[]⟩ := fun x hx => by cases hx
theorem full_join {u p : ByteArray} (h : Full u) (hp : p.data.toList ≠ []) (hf : ∀ c ∈ p.data.toList, c ≠ 47) : Full (joinS u p) := by
 intro x hx;rw [join_parts hp hf] at hx
 rcases List.mem_append.1 hx with e | e
 ·
  exact h x e
 rw [List.mem_singleton.1 e]; exact hp
theorem parent_parts {u : ByteArray} (h : Full u) : partsL (parentT u).data.toList = (partsL u.data.toList).dropLast := by
 have hlen : u.size = u.data.toList.length := (len_data u).symm;unfold parentT;rw [hlen]
 cases hj : lastL u.data.toList u.data.toList.length with
 | none =>
  by_cases h0 : u.data.toList = []
  ·
   rw [h0]; rfl
  unfold partsL;rw [if_pos rfl, if_neg h0, last_none _ hj]; rfl
 | some j =>
  obtain ⟨h1, h2, h3⟩ := last_some _ j hj;have h0 : u.data.toList ≠ [] := by intro e; rw [e] at h1; exact absurd h1 (by simp)
  have hx : (u.extract 0 j).data.toList = u.data.toList.take j := by
   simp [ByteArray.extract, ByteArray.copySlice]
  show partsL (u.extract 0 j).data.toList = _
  rw [hx]
  have hne : u.data.toList.take j ≠ [] := by
   intro e;have := h [] (by unfold partsL; rw [if_neg h0, h3, e]; simp [splitL]);exact this rfl
  unfold partsL;rw [if_neg hne, if_neg h0, h3, List.dropLast_concat]
theorem full_parent {u : ByteArray} (h : Full u) : Full (parentT u) := fun x hx => by
 rw [parent_parts h] at hx;exact h x (List.dropLast_subset _ hx)
abbrev Wk := ByteArray × Nat × Int
def dataAt (s : List It) (p : ByteArray) : ByteArray := (nodeOf (findP s p)).2.2.2.2.2.2
def dot1 : ByteArray := ⟨#[46]⟩
def dot2 : ByteArray := ⟨#[46, 46]⟩
def walkR (s : List It) : Nat → Wk → ByteArray → Wk
 | n, w, p =>
  if w.2.2 ≠ 0 ∨ p.data.toList = [] ∨ p = dot1 then w
  else if p = dot2 then (parentT w.1, w.2.1, w.2.2)
  else if kindOf s (joinS w.1 p) = 0 then (w.1, w.2.1, 40)
  else if kindOf s (joinS w.1 p) = 2 then (w.1, w.2.1, 42)
  else if kindOf s (joinS w.1 p) = 1 then (joinS w.1 p, w.2.1, w.2.2)
  else if kindOf s (joinS w.1 p) = 3 then
   if 16 < w.2.1 + 1 then (w.1, w.2.1 + 1, 44)
   else match n with
    | 0 => (w.1, w.2.1 + 1, 44)
    | n + 1 => (splitT (dataAt s (joinS w.1 p))).foldl (walkR s n) (if (dataAt s (joinS w.1 p)).data.toList.head? = some 47 then ⟨#[]⟩ else w.1, w.2.1 + 1, w.2.2)
  else w
def lastB (l : List ByteArray) : ByteArray := l.getLast?.getD ⟨#[]⟩
def realP (s : List It) (path : ByteArray) : ByteArray × Int :=
 if checkE path ≠ 0 ∨ checkD path = true then (⟨#[]⟩, 20)
 else
  let w := (partsT (checkP path)).dropLast.foldl (walkR s 16) (⟨#[]⟩, 0, 0)
  if w.2.2 ≠ 0 then (⟨#[]⟩, w.2.2)
  else if checkE (joinS w.1 (lastB (partsT (checkP path)))) ≠ 0 then (⟨#[]⟩, 5)
  else (joinS w.1 (lastB (partsT (checkP path))), 0)
theorem walk_err (s : List It) (n : Nat) (w : Wk) (p : ByteArray) (h : w.2.2 ≠ 0) : walkR s n w p = w := by
 cases n <;> (unfold walkR; rw [if_pos (.inl h)])
theorem fold_err (s : List It) (n : Nat) : ∀ (l : List ByteArray) (w : Wk), w.2.2 ≠ 0 → l.foldl (walkR s n) w = w
 | [], w, h => rfl
 | p :: l, w, h => by rw [List.foldl_cons, walk_err s n w p h, fold_err s n l w h]
abbrev Chg := Int × ByteArray × ByteArray × Nd × Bool
def doneP (s : List It) (c : Chg) : List It :=
 if c.1 = 0 then putP s (c.2.1, c.2.2.2.1)
 else match findP s c.2.1 with
  | none => s
  | some x =>
   if c.1 = 1 then putP s (x.1, x.2.1, x.2.2.1, x.2.2.2.1, x.2.2.2.2.1, x.2.2.2.2.2.1, x.2.2.2.2.2.2.1, c.2.2.2.1.2.2.2.2.2.2)
   else if c.1 = 2 then woP s c.2.1
   else if c.1 = 3 then putP (woP s c.2.1) (c.2.2.1, x.2)
   else putP s (x.1, x.2.1, c.2.2.2.1.2.1, c.2.2.2.1.2.2.1, c.2.2.2.1.2.2.2.1, c.2.2.2.1.2.2.2.2.1, c.2.2.2.1.2.2.2.2.2.1, x.2.2.2.2.2.2.2)
structure Dk where
 base : List It
 waits : List Chg
 limit : Int
 fuse : Int
 fail : Int
 off : Bool
 steps : Int
def Dk.shows (d : Dk) : List It := d.waits.foldl doneP d.base
end Go.Proofs.YtibmfjacfbpfgaaGreatDoor.RealLaw
namespace Go.Proofs.YtibmfjacfbpfgaaGreatDoor.DoneLaw
open Stab SortLaw YtibmfjacfbpfgaaGreatDoor.Item TreeLaw NameLaw NameWalk NameOrd NameRef NameKeepLaw SortIns NodeRes TreeNodes FillLaw DiffLaw RealLaw
def zIt : It := (ByteArray.empty, 0, 0, 0, 0, 0, 0, ByteArray.empty)
def ordAt (l : List It) (p : ByteArray) (h : Nat) : Int := orderT (l.getD h zIt).1 p
def bsGo : Nat → List It → ByteArray → Nat → Nat → Option Nat
 | 0, _, _, _, _ => none
 | k + 1, l, p, i, j => if i < j then (if ordAt l p ((i + j) / 2) < 0 then bsGo k l p ((i + j) / 2 + 1) j else bsGo k l p i ((i + j) / 2)) else some i
theorem bsGo_some : ∀ (k : Nat) (l : List It) (p : ByteArray) (i j : Nat), i ≤ j → j - i < k → ∃ r, bsGo k l p i j = some r ∧ i ≤ r ∧ r ≤ j
 | 0, l, p, i, j, h, hk => by omega
 | k + 1, l, p, i, j, h, hk => by
  unfold bsGo
  by_cases h1 : i < j
  ·
   rw [if_pos h1]
   by_cases h2 : ordAt l p ((i + j) / 2) < 0
   ·
    rw [if_pos h2];obtain ⟨r, e, h3, h4⟩ := bsGo_some k l p ((i + j) / 2 + 1) j (by omega) (by omega);exact ⟨r, e, by omega, h4⟩
   rw [if_neg h2];obtain ⟨r, e, h3, h4⟩ := bsGo_some k l p i ((i + j) / 2) (by omega) (by omega);exact ⟨r, e, h3, by omega⟩
  rw [if_neg h1];exact ⟨i, rfl, Nat.le_refl _, h⟩
def placeP (l : List It) (p : ByteArray) : Nat := (bsGo (l.length + 1) l p 0 l.length).getD 0
theorem place_go (l : List It) (p : ByteArray) : bsGo (l.length + 1) l p 0 l.length = some (placeP l p) ∧ placeP l p ≤ l.length := by
 obtain ⟨r, e, _, h⟩ := bsGo_some (l.length + 1) l p 0 l.length (by omega) (by omega);unfold placeP;rw [e];exact ⟨rfl, h⟩
def hereP (l : List It) (p : ByteArray) : Bool := decide (placeP l p < l.length) && (ordAt l p (placeP l p) == 0)
theorem get_at {α : Type} (l : List α) (d : α) (i : Nat) (h : i < l.length) : l.getD i d = l[i] := by
 rw [List.getD_eq_getElem?_getD, List.getElem?_eq_getElem h]; rfl
theorem strict_lt {l : List It} (h : Strict l) {i j : Nat} (hj : j < l.length) (hij : i < j) : orderT (l[i]'(by omega)).1 l[j].1 < 0 := List.pairwise_iff_getElem.1 h i j (by omega) hj hij
theorem bs_parts {l : List It} (hs : Strict l) (p : ByteArray) : ∀ (k i j r : Nat), j ≤ l.length → (∀ (m : Nat) (hm : m < l.length), m < i → orderT l[m].1 p < 0) → (∀ (m : Nat) (hm : m < l.length), j ≤ m → ¬ orderT l[m].1 p < 0) → i ≤ j → bsGo k l p i j = some r →
  (∀ (m : Nat) (hm : m < l.length), m < r → orderT l[m].1 p < 0) ∧ (∀ (m : Nat) (hm : m < l.length), r ≤ m → ¬ orderT l[m].1 p < 0)
 | 0, i, j, r, hj, h1, h2, hij, e => by cases e
 | k + 1, i, j, r, hj, h1, h2, hij, e => by
  unfold bsGo at e
  by_cases h : i < j
  ·
   rw [if_pos h] at e;have hm : (i + j) / 2 < l.length := by omega
   have hoa : ordAt l p ((i + j) / 2) = orderT (l[(i + j) / 2]).1 p := by unfold ordAt; rw [get_at _ _ _ hm]
   by_cases ho : ordAt l p ((i + j) / 2) < 0
   ·
    rw [if_pos ho] at e;rw [hoa] at ho;refine bs_parts hs p k _ _ r hj (fun m hml hmi => ?_) h2 (by omega) e
    rcases Nat.lt_or_eq_of_le (Nat.le_of_lt_succ hmi) with g | g
    ·
     exact orderT_lt (strict_lt hs hm g) ho
    subst g; exact ho
   rw [if_neg ho] at e;rw [hoa] at ho;refine bs_parts hs p k _ _ r (by omega) h1 (fun m hml hmi hlt => ?_) (by omega) e
   rcases Nat.lt_or_eq_of_le hmi with g | g
   ·
    exact ho (orderT_lt (strict_lt hs hml g) hlt)
   subst g; exact ho hlt
  rw [if_neg h] at e;have : i = r := Option.some.inj e;subst this;exact ⟨h1, fun m hm hm2 => h2 m hm (by omega)⟩
theorem place_parts {l : List It} (hs : Strict l) (p : ByteArray) : (∀ (m : Nat) (hm : m < l.length), m < placeP l p → orderT l[m].1 p < 0) ∧ (∀ (m : Nat) (hm : m < l.length), placeP l p ≤ m → ¬ orderT l[m].1 p < 0) :=
 bs_parts hs p _ 0 l.length _ (Nat.le_refl _) (fun m hm h => absurd h (by omega)) (fun m hm h => absurd h (by omega)) (Nat.zero_le _) (place_go l p).1
theorem here_iff {l : List It} {p : ByteArray} : hereP l p = true ↔ ∃ h : placeP l p < l.length, l[placeP l p].1 = p := by
 unfold hereP;rw [Bool.and_eq_true, decide_eq_true_eq];constructor
 ·
  rintro ⟨h, e⟩;refine ⟨h, ?_⟩;unfold ordAt at e;rw [get_at _ _ _ h] at e;exact orderT_zero (by simpa using e)
 rintro ⟨h, e⟩;refine ⟨h, ?_⟩;unfold ordAt;rw [get_at _ _ _ h, e, orderT_self]; rfl
theorem else_where {l : List It} (hs : Strict l) {p : ByteArray} {m : Nat} (hm : m < l.length) (e : l[m].1 = p) : m = placeP l p := by
 obtain ⟨h1, h2⟩ := place_parts hs p
 rcases Nat.lt_trichotomy m (placeP l p) with h | h | h
 ·
  have := h1 m hm h;rw [e, orderT_self] at this;omega
 ·
  exact h
 exfalso;have hp : placeP l p < l.length := by omega
 have h3 := strict_lt hs hm h;rw [e] at h3;exact h2 _ hp (Nat.le_refl _) h3
theorem here_find {l : List It} (hs : Strict l) (p : ByteArray) : findP l p = if h : hereP l p = true then some (l[placeP l p]'(here_iff.1 h).1) else none := by
 by_cases h : hereP l p = true
 ·
  rw [dif_pos h];obtain ⟨hp, e⟩ := here_iff.1 h;unfold findP;rw [List.find?_eq_some_iff_getElem];refine ⟨decide_eq_true e, _, hp, rfl, fun j hj => ?_⟩
  have : ¬ l[j].1 = p := fun e2 => by
   have := else_where hs (by omega) e2;omega
  simp [isAt, this]
 rw [dif_neg h];unfold findP;rw [List.find?_eq_none];intro x hx e;obtain ⟨m, hm, rfl⟩ := List.mem_iff_getElem.1 hx;have e2 := else_where hs hm (isAt_eq e);subst e2;exact h (here_iff.2 ⟨hm, isAt_eq e⟩)
theorem wo_here {l : List It} (hs : Strict l) {p : ByteArray} (h : hereP l p = true) : woP l p = l.take (placeP l p) ++ l.drop (placeP l p + 1) := by
 obtain ⟨hp, e⟩ := here_iff.1 h;have hno : ∀ (m : Nat) (hm : m < l.length), m ≠ placeP l p → isAt p l[m] = false := fun m hm hne => decide_eq_false (fun e2 => hne (else_where hs hm e2))
 have hsp : l = l.take (placeP l p) ++ l[placeP l p] :: l.drop (placeP l p + 1) := by rw [← List.drop_eq_getElem_cons hp, List.take_append_drop]
 unfold woP
 conv => lhs; rw [hsp]
 rw [List.filter_append, List.filter_cons, if_neg (by rw [show isAt p l[placeP l p] = true from decide_eq_true e]; simp)]
 congr 1
 ·
  refine List.filter_eq_self.2 (fun x hx => ?_);obtain ⟨m, hm, rfl⟩ := List.mem_take_iff_getElem.1 hx;rw [hno m (by omega) (by omega)]; rfl
 refine List.filter_eq_self.2 (fun x hx => ?_);obtain ⟨m, hm, rfl⟩ := List.mem_drop_iff_getElem.1 hx;rw [hno _ (by omega) (by omega)]; rfl
theorem wo_gone {l : List It} (hs : Strict l) {p : ByteArray} (h : ¬ hereP l p = true) : woP l p = l := by
 unfold woP;refine List.filter_eq_self.2 (fun x hx => ?_);obtain ⟨m, hm, rfl⟩ := List.mem_iff_getElem.1 hx
 have : isAt p l[m] = false := decide_eq_false (fun e2 => by
  have e3 := else_where hs hm e2;subst e3
  exact h (here_iff.2 ⟨hm, e2⟩))
 rw [this]; rfl
theorem findIdx_split {q : It → Bool} : ∀ (a b : List It), (∀ x ∈ a, q x = false) → (∀ x ∈ b, q x = true) → (a ++ b).findIdx q = a.length
 | [], [], _, _ => rfl
 | [], y :: b, _, hb => by rw [List.nil_append, List.findIdx_cons, hb y (by simp)]; rfl
 | x :: a, b, ha, hb => by
  rw [List.cons_append, List.findIdx_cons, ha x (by simp), findIdx_split a b (fun y hy => ha y (by simp [hy])) hb]; rfl
theorem put_here {l : List It} (hs : Strict l) (x : It) : putP l x = l.take (placeP l x.1) ++ x :: l.drop (if hereP l x.1 = true then placeP l x.1 + 1 else placeP l x.1) := by
 obtain ⟨h1, h2⟩ := place_parts hs x.1;have hple := (place_go l x.1).2
 have hA : ∀ y ∈ l.take (placeP l x.1), behind x.1 y = false := fun y hy => by
  obtain ⟨m, hm, rfl⟩ := List.mem_take_iff_getElem.1 hy;have := h1 m (by omega) (by omega);exact decide_eq_false (by omega)
 have hB : ∀ y ∈ l.drop (if hereP l x.1 = true then placeP l x.1 + 1 else placeP l x.1), behind x.1 y = true := fun y hy => by
  obtain ⟨m, hm, rfl⟩ := List.mem_drop_iff_getElem.1 hy;generalize hk : (if hereP l x.1 = true then placeP l x.1 + 1 else placeP l x.1) = k at *
  have hle : placeP l x.1 ≤ k := by rw [← hk]; split <;> omega
  have h3 := h2 (k + m) (by omega) (by omega)
  have h4 : ¬ l[k + m].1 = x.1 := fun e => by
   have e2 := else_where hs (by omega) e
   by_cases hh : hereP l x.1 = true
   ·
    rw [if_pos hh] at hk; omega
   exact hh (here_iff.2 ⟨by omega, by simp only [← e2]; exact e⟩)
  have h5 : orderT l[k + m].1 x.1 ≠ 0 := fun e => h4 (orderT_zero e)
  exact decide_eq_true (by omega)
 have hw : woP l x.1 = l.take (placeP l x.1) ++ l.drop (if hereP l x.1 = true then placeP l x.1 + 1 else placeP l x.1) := by
  by_cases hh : hereP l x.1 = true
  ·
   rw [if_pos hh]; exact wo_here hs hh
  rw [if_neg hh, List.take_append_drop]; exact wo_gone hs hh
 have hidx : (woP l x.1).findIdx (behind x.1) = (l.take (placeP l x.1)).length := by rw [hw]; exact findIdx_split _ _ hA hB
 unfold putP;rw [hidx, hw, List.take_left, List.drop_left]
theorem strict_put {l : List It} (hs : Strict l) (x : It) : Strict (putP l x) := by
 obtain ⟨h1, h2⟩ := place_parts hs x.1;rw [put_here hs]
 have hle : placeP l x.1 ≤ (if hereP l x.1 = true then placeP l x.1 + 1 else placeP l x.1) := by split <;> omega
 have hA : ∀ y ∈ l.take (placeP l x.1), orderT y.1 x.1 < 0 := fun y hy => by
  obtain ⟨m, hm, rfl⟩ := List.mem_take_iff_getElem.1 hy;exact h1 m (by omega) (by omega)
 have hB : ∀ y ∈ l.drop (if hereP l x.1 = true then placeP l x.1 + 1 else placeP l x.1), orderT x.1 y.1 < 0 := fun y hy => by
  obtain ⟨m, hm, rfl⟩ := List.mem_drop_iff_getElem.1 hy;generalize hk : (if hereP l x.1 = true then placeP l x.1 + 1 else placeP l x.1) = k at *;have h3 := h2 (k + m) (by omega) (by omega)
  have h4 : ¬ l[k + m].1 = x.1 := fun e => by
   have e2 := else_where hs (by omega) e
   by_cases hh : hereP l x.1 = true
   ·
    rw [if_pos hh] at hk; omega
   exact hh (here_iff.2 ⟨by omega, by simp only [← e2]; exact e⟩)
  have h5 : orderT l[k + m].1 x.1 ≠ 0 := fun e => h4 (orderT_zero e)
  have := orderT_neg x.1 l[k + m].1;omega
 have hsub : Strict (l.take (placeP l x.1)) := hs.sublist (List.take_sublist _ _);have hsub2 : Strict (l.drop (if hereP l x.1 = true then placeP l x.1 + 1 else placeP l x.1)) := hs.sublist (List.drop_sublist _ _);refine List.pairwise_append.2 ⟨hsub, List.pairwise_cons.2 ⟨hB, hsub2⟩, fun y hy z hz => ?_⟩
 rcases List.mem_cons.1 hz with e | e
 ·
  rw [e]; exact hA y hy
 exact orderT_lt (hA y hy) (hB z e)
theorem strict_wo {l : List It} (hs : Strict l) (p : ByteArray) : Strict (woP l p) := hs.sublist List.filter_sublist
theorem strict_done {l : List It} (hs : Strict l) (c : Chg) : Strict (doneP l c) := by
 unfold doneP
 split
 ·
  exact strict_put hs _
 split
 ·
  exact hs
 split
 ·
  exact strict_put hs _
 split
 ·
  exact strict_wo hs _
 split
 ·
  exact strict_put (strict_wo hs _) _
 exact strict_put hs _
end Go.Proofs.YtibmfjacfbpfgaaGreatDoor.DoneLaw
namespace Go.Proofs.YtibmfjacfbpfgaaGreatDoor.KeepLaw
open Stab SortLaw YtibmfjacfbpfgaaGreatDoor.Item TreeLaw NameLaw NameWalk NameOrd NameRef NameKeepLaw SortIns NodeRes TreeNodes FillLaw DiffLaw RealLaw DoneLaw
def erI (x : It) : It := (x.1, x.2.1, 0, 0, 0, 0, 0, ⟨#[]⟩)
def erN (n : Nd) : Nd := (n.1, 0, 0, 0, 0, 0, ⟨#[]⟩)
def erC (c : Chg) : Chg := (c.1, c.2.1, c.2.2.1, erN c.2.2.2.1, false)
theorem er_wo (s : List It) (p : ByteArray) : woP (s.map erI) p = (woP s p).map erI := by
 unfold woP;rw [List.filter_map];rfl
theorem er_find (s : List It) (p : ByteArray) : findP (s.map erI) p = (findP s p).map erI := by
 unfold findP;rw [List.find?_map];rfl
theorem er_idx (s : List It) (p : ByteArray) : (s.map erI).findIdx (behind p) = s.findIdx (behind p) := by
 induction s with
 | nil => rfl
 | cons x s ih =>
  rw [List.map_cons, List.findIdx_cons, List.findIdx_cons, ih];rfl
theorem er_put (s : List It) (x : It) : putP (s.map erI) (erI x) = (putP s x).map erI := by
 have e : (erI x).1 = x.1 := rfl;unfold putP;rw [e, er_wo, er_idx, List.map_append, List.map_cons, List.map_take, List.map_drop]
theorem er_done (s : List It) (c : Chg) : doneP (s.map erI) (erC c) = (doneP s c).map erI := by
 obtain ⟨k, pa, tq, n, su⟩ := c;unfold doneP erC;simp only
 by_cases h0 : k = 0
 ·
  rw [if_pos h0, if_pos h0];exact er_put s (pa, n)
 rw [if_neg h0, if_neg h0, er_find]
 cases hf : findP s pa with
 | none => rfl
 | some x =>
  simp only [Option.map_some]
  by_cases h1 : k = 1
  ·
   rw [if_pos h1, if_pos h1];exact er_put s (x.1, x.2.1, x.2.2.1, x.2.2.2.1, x.2.2.2.2.1, x.2.2.2.2.2.1, x.2.2.2.2.2.2.1, n.2.2.2.2.2.2)
  rw [if_neg h1, if_neg h1]
  by_cases h2 : k = 2
  ·
   rw [if_pos h2, if_pos h2, er_wo]
  rw [if_neg h2, if_neg h2]
  by_cases h3 : k = 3
  ·
   rw [if_pos h3, if_pos h3, er_wo];exact er_put (woP s pa) (tq, x.2)
  rw [if_neg h3, if_neg h3];exact er_put s (x.1, x.2.1, n.2.1, n.2.2.1, n.2.2.2.1, n.2.2.2.2.1, n.2.2.2.2.2.1, x.2.2.2.2.2.2.2)
theorem er_fold : ∀ (l : List Chg) (s : List It), (l.map erC).foldl doneP (s.map erI) = (l.foldl doneP s).map erI
 | [], s => rfl
 | c :: l, s => by rw [List.map_cons, List.foldl_cons, List.foldl_cons, er_done, er_fold l]
theorem er_kind (s : List It) (p : ByteArray) : kindOf (s.map erI) p = kindOf s p := by
 unfold kindOf;rw [er_find]
 cases findP s p <;> rfl
theorem er_strict (s : List It) : Strict (s.map erI) ↔ Strict s := by
 unfold Strict;rw [List.pairwise_map];exact Iff.rfl
theorem er_right (s : List It) : RightP (s.map erI) ↔ RightP s := by
 rw [right_iff, right_iff, er_strict];refine and_congr Iff.rfl ⟨fun h x hx => ?_, fun h x hx => ?_⟩
 ·
  have := h (erI x) (List.mem_map.2 ⟨x, hx, rfl⟩);rw [er_kind] at this;exact this
 obtain ⟨y, hy, rfl⟩ := List.mem_map.1 hx;have := h y hy;rw [er_kind];exact this
theorem kind_put (s : List It) (x : It) (q : ByteArray) (hq : q.data.toList ≠ []) : kindOf (putP s x) q = if q = x.1 then x.2.1 else kindOf s q := by
 unfold kindOf;rw [if_neg hq]
 by_cases h : q = x.1
 ·
  subst h;rw [if_pos rfl, find_put]
 rw [if_neg h, if_neg hq, find_put_ne s x h]
theorem find_wo_ne (s : List It) {p q : ByteArray} (h : q ≠ p) : findP (woP s p) q = findP s q := by
 unfold findP woP;rw [List.find?_filter]
 congr 1
 funext y
 by_cases e : y.1 = q
 ·
  have : isAt p y = false := decide_eq_false (fun e2 => h (by rw [← e, e2]));rw [this]; simp
 have : isAt q y = false := decide_eq_false e;rw [this]; simp
theorem kind_wo (s : List It) (p q : ByteArray) (h : q ≠ p) : kindOf (woP s p) q = kindOf s q := by
 unfold kindOf;rw [find_wo_ne s h]
theorem kind_nil (s : List It) (q : ByteArray) (h : q.data.toList = []) : kindOf s q = 1 := if_pos h
theorem put_mem {s : List It} {x y : It} (h : y ∈ putP s x) : y = x ∨ (y ∈ s ∧ y.1 ≠ x.1) := by
 unfold putP at h
 have hw : ∀ z ∈ woP s x.1, z ∈ s ∧ z.1 ≠ x.1 := fun z hz => ⟨(List.mem_filter.1 hz).1, fun e => by
  have := wo_none s x.1 z hz;rw [show isAt x.1 z = true from decide_eq_true e] at this
  cases this⟩
 rcases List.mem_append.1 h with e | e
 ·
  exact .inr (hw y (List.mem_of_mem_take e))
 rcases List.mem_cons.1 e with e | e
 ·
  exact .inl e
 exact .inr (hw y (List.mem_of_mem_drop e))
theorem right_put {s : List It} (h : RightP s) {x : It} (h1 : okName x = true) (h2 : okKind x = true) (h3 : kindOf s (parentT x.1) = 1) (hne : parentT x.1 ≠ x.1 ∨ x.2.1 = 1) (h4 : kindOf s x.1 = 1 → x.2.1 = 1) : RightP (putP s x) := by
 obtain ⟨hs, hi⟩ := (right_iff s).1 h
 have key : ∀ q, kindOf s q = 1 → kindOf (putP s x) q = 1 := fun q hq => by
  by_cases h0 : q.data.toList = []
  ·
   exact kind_nil _ _ h0
  rw [kind_put s x q h0]
  by_cases e : q = x.1
  ·
   rw [if_pos e]; exact h4 (by rw [← e]; exact hq)
  rw [if_neg e]; exact hq
 refine (right_iff _).2 ⟨strict_put hs x, fun y hy => ?_⟩
 rcases put_mem hy with e | ⟨e, _⟩
 ·
  subst e;exact ⟨h1, h2, key _ h3⟩
 have := hi y e;exact ⟨this.1, this.2.1, key _ this.2.2⟩
theorem right_wo {s : List It} (h : RightP s) {p : ByteArray} (hp : p.data.toList ≠ []) (h1 : ∀ x ∈ s, x.1 ≠ p → parentT x.1 ≠ p) : RightP (woP s p) := by
 obtain ⟨hs, hi⟩ := (right_iff s).1 h;refine (right_iff _).2 ⟨strict_wo hs p, fun y hy => ?_⟩;obtain ⟨hy1, hy2⟩ := List.mem_filter.1 hy;have := hi y hy1
 have hne : y.1 ≠ p := fun e => by
  rw [show isAt p y = true from decide_eq_true e] at hy2;cases hy2
 refine ⟨this.1, this.2.1, ?_⟩;rw [kind_wo s p _ (h1 y hy1 hne)];exact this.2.2
theorem find_mem {s : List It} {p : ByteArray} {x : It} (h : findP s p = some x) : x ∈ s ∧ x.1 = p := ⟨List.mem_of_find?_eq_some h, isAt_eq (List.find?_some h)⟩
theorem kind_find {s : List It} {p : ByteArray} (hp : p.data.toList ≠ []) : kindOf s p = match findP s p with | none => 0 | some x => x.2.1 := by
 unfold kindOf;rw [if_neg hp]
 cases findP s p <;> rfl
theorem right_same {s : List It} (h : RightP s) {p : ByteArray} {x y : It} (hf : findP s p = some x) (e1 : y.1 = x.1) (e2 : y.2.1 = x.2.1) : RightP (putP s y) := by
 obtain ⟨hs, hi⟩ := (right_iff s).1 h;obtain ⟨hx, hxp⟩ := find_mem hf;have hxx := hi x hx;have o1 : okName y = okName x := by unfold okName; rw [e1]
 have o2 : okKind y = okKind x := by unfold okKind; rw [e2]
 by_cases h0 : y.1.data.toList = []
 ·
  exfalso;have := hxx.1;unfold okName at this;simp only [Bool.and_eq_true, decide_eq_true_eq] at this;have h3 := this.1.1;unfold checkE at h3;rw [e1] at h0;rw [if_neg (by have := len_data x.1; rw [h0] at this; simp at this; omega), if_pos (by rw [Lib.toList_data]; exact h0)] at h3;cases h3
 refine right_put h (by rw [o1]; exact hxx.1) (by rw [o2]; exact hxx.2.1) (by rw [e1]; exact hxx.2.2) ?_ (fun hk => ?_)
 ·
  left;intro e;have h5 : y.1.data.toList ≠ [] := h0;have := parent_lt h5;rw [e] at this;omega
 rw [kind_find h0, e1, hxp, hf] at hk;rw [e2]; exact hk
theorem right_move {s : List It} (h : RightP s) {a b : ByteArray} {x : It} (hf : findP s a = some x) (hk : x.2.1 ≠ 1) (ha : a.data.toList ≠ []) (hb : b.data.toList ≠ []) (h1 : okName (b, x.2) = true) (h3 : kindOf s (parentT b) = 1) (h4 : kindOf s b ≠ 1) : RightP (putP (woP s a) (b, x.2)) := by
 obtain ⟨hs, hi⟩ := (right_iff s).1 h;obtain ⟨hx, hxa⟩ := find_mem hf
 have hnd : ∀ q, kindOf s q = 1 → q ≠ a := fun q hq e => by
  rw [e, kind_find ha, hf] at hq;exact hk hq
 have hw : RightP (woP s a) := right_wo h ha (fun y hy _ e => hnd _ (hi y hy).2.2 e);refine right_put hw h1 (hi x hx).2.1 ?_ ?_ (fun hq => ?_)
 ·
  show kindOf (woP s a) (parentT b) = 1
  rw [kind_wo s a _ (hnd _ h3)]; exact h3
 ·
  left;intro e;have := parent_lt hb;have e : parentT b = b := e;rw [e] at this;omega
 exfalso;have hq : kindOf (woP s a) b = 1 := hq
 by_cases e : b = a
 ·
  subst e;rw [kind_find hb] at hq
  cases hg : findP (woP s b) b with
  | none => rw [hg] at hq; cases hq
  | some y =>
   obtain ⟨hy, hyb⟩ := find_mem hg;have := wo_none s b y hy;rw [show isAt b y = true from decide_eq_true hyb] at this;cases this
 rw [kind_wo s a b e] at hq;exact h4 hq
end Go.Proofs.YtibmfjacfbpfgaaGreatDoor.KeepLaw
namespace Go.Proofs.YtibmfjacfbpfgaaGreatDoor.RealKeep
open Stab SortLaw YtibmfjacfbpfgaaGreatDoor.Item TreeLaw NameLaw NameWalk NameOrd NameRef NameKeepLaw SortIns NodeRes TreeNodes FillLaw DiffLaw RealLaw DoneLaw KeepLaw
theorem ok_check {x : It} (h : okName x = true) : checkE x.1 = 0 ∧ checkD x.1 = false ∧ checkP x.1 = x.1 := by
 unfold okName at h;simp only [Bool.and_eq_true, decide_eq_true_eq, Bool.not_eq_true'] at h;exact ⟨h.1.1, h.1.2, h.2⟩
theorem check_safe {p : ByteArray} (h : checkE p = 0) : ∀ x ∈ splitL (cutT p).data.toList, safeL x = true := by
 refine (badParts_iff p).1 ?_;unfold checkE at h
 by_cases h1 : 65535 < p.size
 ·
  rw [if_pos h1] at h; cases h
 rw [if_neg h1] at h
 by_cases h2 : p.toList = []
 ·
  rw [if_pos h2] at h; cases h
 rw [if_neg h2] at h
 by_cases h3 : validT p = false
 ·
  rw [if_pos h3] at h; cases h
 rw [if_neg h3] at h
 by_cases h4 : badBytes p = true
 ·
  rw [if_pos h4] at h; cases h
 rw [if_neg h4] at h
 by_cases h5 : badParts p = true
 ·
  rw [if_pos h5] at h; cases h
 simpa using h5
theorem check_size {p : ByteArray} (h : checkE p = 0) : p.size ≤ 65535 := by
 unfold checkE at h
 by_cases h1 : 65535 < p.size
 ·
  rw [if_pos h1] at h; cases h
 omega
theorem check_ne {p : ByteArray} (h : checkE p = 0) : p.data.toList ≠ [] := by
 unfold checkE at h
 by_cases h1 : 65535 < p.size
 ·
  rw [if_pos h1] at h; cases h
 rw [if_neg h1] at h
 by_cases h2 : p.toList = []
 ·
  rw [if_pos h2] at h; cases h
 rw [← Lib.toList_data]; exact h2
theorem checkP_is {p : ByteArray} (h : checkE p = 0) : checkP p = cutT p := if_pos h
theorem safe_ne {x : List UInt8} (h : safeL x = true) : x ≠ [] := by
 intro e;rw [e] at h;exact absurd h (by decide)
theorem dir_parent {s : List It} (h : RightP s) {u : ByteArray} (hk : kindOf s u = 1) : kindOf s (parentT u) = 1 := by
 by_cases h0 : u.data.toList = []
 ·
  have h1 : u.size = 0 := by rw [← len_data, h0]; rfl
  have : parentT u = ⟨#[]⟩ := by
   unfold parentT;rw [h0, h1]; rfl
  rw [this];exact kind_nil _ _ rfl
 rw [kind_find h0] at hk
 cases hf : findP s u with
 | none => rw [hf] at hk; cases hk
 | some y =>
  obtain ⟨hy, e⟩ := find_mem hf;have := (((right_iff s).1 h).2 y hy).2.2;rw [e] at this;exact this
theorem walk_dir {s : List It} (h : RightP s) : ∀ (n : Nat) (w : Wk) (p : ByteArray), kindOf s w.1 = 1 → (walkR s n w p).2.2 = 0 → kindOf s (walkR s n w p).1 = 1
 | n, w, p, hw, he => by
  have fold : ∀ m, m < n → ∀ (l : List ByteArray) (w : Wk), kindOf s w.1 = 1 → (l.foldl (walkR s m) w).2.2 = 0 → kindOf s (l.foldl (walkR s m) w).1 = 1 := by
   intro m hm l
   induction l with
   | nil => intro w hw _; exact hw
   | cons q l ih =>
    intro w hw he;rw [List.foldl_cons] at he ⊢
    by_cases hq : (walkR s m w q).2.2 = 0
    ·
     exact ih _ (walk_dir h m w q hw hq) he
    rw [fold_err s m l _ hq] at he;exact absurd he hq
  revert he;unfold walkR
  split
  ·
   intro _; exact hw
  split
  ·
   intro _; exact dir_parent h hw
  split
  ·
   intro he; cases he
  split
  ·
   intro he; cases he
  split
  ·
   rename_i hk;intro _; exact hk
  split
  ·
   split
   ·
    intro he; cases he
   cases n with
   | zero => intro he; cases he
   | succ m =>
    intro he;refine fold m (Nat.lt_succ_self m) _ _ ?_ he
    show kindOf s (if _ then _ else _) = 1
    split
    ·
     exact kind_nil _ _ rfl
    exact hw
  intro _; exact hw
termination_by n => n
theorem fold_dir {s : List It} (h : RightP s) (n : Nat) : ∀ (l : List ByteArray) (w : Wk), kindOf s w.1 = 1 → (l.foldl (walkR s n) w).2.2 = 0 → kindOf s (l.foldl (walkR s n) w).1 = 1
 | [], w, hw, _ => hw
 | q :: l, w, hw, he => by
  rw [List.foldl_cons] at he ⊢
  by_cases hq : (walkR s n w q).2.2 = 0
  ·
   exact fold_dir h n l _ (walk_dir h n w q hw hq) he
  rw [fold_err s n l _ hq] at he;exact absurd he hq
theorem parent_join {u p : ByteArray} (hp : p.data.toList ≠ []) (hf : ∀ c ∈ p.data.toList, c ≠ 47) : parentT (joinS u p) = u := by
 by_cases h : u.data.toList = []
 ·
  have e : joinS u p = p := if_pos h;have hu : u = ⟨#[]⟩ := by have g := mk_data u; rw [h] at g; exact g.symm
  rw [e, hu];unfold parentT;have hlen : p.size = p.data.toList.length := (len_data p).symm;rw [hlen]
  cases hj : lastL p.data.toList p.data.toList.length with
  | none => rfl
  | some j =>
   obtain ⟨h1, h2, h3⟩ := last_some _ j hj;exact absurd rfl (hf 47 (by rw [h2]; simp))
 have hd := join_data (p := p) h;have hlen : (joinS u p).size = (joinS u p).data.toList.length := (len_data _).symm;unfold parentT;rw [hlen]
 cases hj : lastL (joinS u p).data.toList (joinS u p).data.toList.length with
 | none =>
  have h1 := last_none _ hj;rw [hd, split_app, splitL_no _ hf] at h1;have h2 := congrArg List.length h1;rw [List.length_append] at h2;have h3 : 0 < (splitL u.data.toList).length := List.length_pos_iff.2 (splitL_ne _);rw [List.length_singleton, List.length_singleton] at h2;omega
 | some j =>
  obtain ⟨h1, h2, h3⟩ := last_some _ j hj
  have h4 : (joinS u p).data.toList.drop (j + 1) = p.data.toList := by
   rw [hd, split_app, splitL_no _ hf, ← hd] at h3;have := congrArg List.getLast? h3;rw [List.getLast?_append, List.getLast?_append] at this
   simpa using this.symm
  have hju : j = u.data.toList.length := by
   have h5 := congrArg List.length h4;rw [List.length_drop, hd, List.length_append, List.length_cons] at h5;rw [hd, List.length_append, List.length_cons] at h1;have h6 : 0 < p.data.toList.length := List.length_pos_iff.2 hp;omega
  show (joinS u p).extract 0 j = u
  have : ((joinS u p).extract 0 j).data.toList = u.data.toList := by
   simp only [ByteArray.extract, ByteArray.copySlice];simp [hd, hju]
  rw [← mk_data ((joinS u p).extract 0 j), this, mk_data]
theorem split_map (p : ByteArray) : ∀ x ∈ splitT p, x.data.toList ∈ splitL p.data.toList := fun x hx => by
 rw [← splitT_data];exact List.mem_map.2 ⟨x, hx, rfl⟩
theorem real_ok {s : List It} (h : RightP s) {path real : ByteArray} (e : realP s path = (real, 0)) :
  real.data.toList ≠ [] ∧ kindOf s (parentT real) = 1 ∧ checkE real = 0 ∧ checkD real = false ∧ checkP real = real := by
 unfold realP at e
 by_cases h0 : checkE path ≠ 0 ∨ checkD path = true
 ·
  rw [if_pos h0] at e;injection e with _ e
  cases e
 rw [if_neg h0] at e;have hc : checkE path = 0 := Classical.byContradiction fun g => h0 (.inl g)
 simp only at e;generalize hw : (partsT (checkP path)).dropLast.foldl (walkR s 16) (⟨#[]⟩, 0, 0) = w at e
 by_cases h1 : w.2.2 ≠ 0
 ·
  rw [if_pos h1] at e;injection e with _ e
  exact absurd e h1
 rw [if_neg h1] at e
 by_cases h2 : checkE (joinS w.1 (lastB (partsT (checkP path)))) ≠ 0
 ·
  rw [if_pos h2] at e;injection e with _ e
  cases e
 rw [if_neg h2] at e;injection e with er _
 have h1 : w.2.2 = 0 := Classical.byContradiction h1;have h2 : checkE (joinS w.1 (lastB (partsT (checkP path)))) = 0 := Classical.byContradiction h2
 have hk : kindOf s w.1 = 1 := by
  rw [← hw] at h1 ⊢;exact fold_dir h 16 _ _ (kind_nil _ _ rfl) h1
 have hsafe := check_safe hc
 have hcn : (cutT path).data.toList ≠ [] := by
  intro e0;have := hsafe [] (by rw [e0]; simp [splitL]);exact absurd this (by decide)
 have hlast : ∃ q, lastB (partsT (checkP path)) = q ∧ safeL q.data.toList = true ∧ (∀ c ∈ q.data.toList, c ≠ 47) := by
  refine ⟨_, rfl, ?_⟩;rw [checkP_is hc]
  have hpt : partsT (cutT path) = splitT (cutT path) := by
   unfold partsT partsL splitT;rw [if_neg hcn]
  rw [hpt]
  have hne : splitT (cutT path) ≠ [] := by
   intro e0;have := splitT_data (cutT path);rw [e0] at this;exact splitL_ne _ this.symm
  obtain ⟨q, hq⟩ : ∃ q, (splitT (cutT path)).getLast? = some q := by
   cases hg : (splitT (cutT path)).getLast? with
   | none => exact absurd (List.getLast?_eq_none_iff.1 hg) hne
   | some q => exact ⟨q, rfl⟩
  have hl : lastB (splitT (cutT path)) = q := by unfold lastB; rw [hq]; rfl
  rw [hl];have hm := split_map _ q (List.mem_of_getLast? hq);exact ⟨hsafe _ hm, split_free _ _ hm⟩
 obtain ⟨q, hq, hq1, hq2⟩ := hlast;rw [hq] at er h2;have hqn := safe_ne hq1;rw [← er];have hpj := parent_join (u := w.1) hqn hq2;refine ⟨check_ne h2, by rw [hpj]; exact hk, h2, ?_⟩
 have hnd : isDir (joinS w.1 q) = false ∧ cutT (joinS w.1 q) = joinS w.1 q := by
  rcases cut_cases (joinS w.1 q) with g | ⟨_, g⟩
  ·
   exact g
  exfalso
  have hlq : (joinS w.1 q).data.toList.getLast? = q.data.toList.getLast? := by
   by_cases h5 : w.1.data.toList = []
   ·
    rw [show joinS w.1 q = q from if_pos h5]
   rw [join_data h5, List.getLast?_append, List.getLast?_cons]
   cases hg : q.data.toList.getLast? with
   | none => exact absurd (List.getLast?_eq_none_iff.1 hg) hqn
   | some c => simp
  rw [g, List.getLast?_append] at hlq;have hlq : some (47 : UInt8) = q.data.toList.getLast? := by simpa using hlq
  exact hq2 47 (List.mem_of_getLast? hlq.symm) rfl
 exact ⟨by unfold checkD; rw [if_pos h2]; exact hnd.1, by rw [checkP_is h2]; exact hnd.2⟩
end Go.Proofs.YtibmfjacfbpfgaaGreatDoor.RealKeep
namespace Go.Proofs.YtibmfjacfbpfgaaGreatDoor.OpLaw
open Stab SortLaw YtibmfjacfbpfgaaGreatDoor.Item TreeLaw NameLaw NameWalk NameOrd NameRef NameKeepLaw SortIns NodeRes TreeNodes FillLaw DiffLaw RealLaw DoneLaw KeepLaw RealKeep
def masked (m : Int) : Int := m % 4096
def nodeM (n : Nd) : Nd := (n.1, masked n.2.1, n.2.2.1, n.2.2.2.1, n.2.2.2.2.1, n.2.2.2.2.2.1, n.2.2.2.2.2.2)
def nzP (k : Int) (n : Nd) : Nd := if k = 0 ∨ k = 4 then n else if k = 1 then (0, 0, 0, 0, 0, 0, n.2.2.2.2.2.2) else (0, 0, 0, 0, 0, 0, ⟨#[]⟩)
def nzR (_ : Int) (n : Nd) : Nd := n
def sumO (s : List It) (p : ByteArray) : Nat := ((s.filter (fun x => decide (x.1 ≠ p))).map (fun x => x.2.2.2.2.2.2.2.size)).sum
def beginD (d : Dk) : Int × Dk :=
 if d.off = true then (52, d) else if d.fuse = 0 then (52, { d with off := true }) else if d.fail = 1 then (51, { d with fail := 0 }) else if 1 < d.fail then (0, { d with fail := d.fail - 1 }) else (0, d)
def endD (d : Dk) : Dk := { d with steps := d.steps + 1, fuse := if 0 < d.fuse then d.fuse - 1 else d.fuse }
def waitD (d : Dk) (c : Chg) : Dk := { d with waits := d.waits ++ [c] }
def sureC (p : ByteArray) (c : Chg) : Chg := if c.2.1 = p ∧ (c.1 = 0 ∨ c.1 = 1) then (c.1, c.2.1, c.2.2.1, c.2.2.2.1, true) else c
def isParent (s : List It) (p : ByteArray) : Bool := s.any (fun x => decide (parentT x.1 = p))
def ownD (nz : Int → Nd → Nd) (d : Dk) (k : Int) (path tp : ByteArray) (n : Nd) : Int × Dk :=
 if k = 6 then (0, { d with base := d.shows, waits := [] }) else
 let r := realP d.shows path
 if r.2 ≠ 0 then (r.2, d) else
 let kk := kindOf d.shows r.1
 let m := nodeM n
 if k = 0 then
  if n.1 < 1 ∨ 3 < n.1 ∨ (n.1 = 1 ∧ 0 < n.2.2.2.2.2.2.size) then (42, d) else if kk ≠ 0 then (41, d)
  else if d.limit < (n.2.2.2.2.2.2.size : Int) + sumO d.shows r.1 then (50, d) else (0, waitD d (0, r.1, ⟨#[]⟩, nz 0 m, false))
 else if k = 1 then
  if kk = 0 then (40, d) else if kk ≠ 2 then (42, d)
  else if d.limit < (n.2.2.2.2.2.2.size : Int) + sumO d.shows r.1 then (50, d) else (0, waitD d (1, r.1, ⟨#[]⟩, nz 1 m, false))
 else if k = 5 then
  if kk = 0 then (40, d) else if kk ≠ 2 then (42, d) else (0, { d with waits := d.waits.map (sureC r.1) })
 else if k = 2 then
  if kk = 0 then (40, d) else if isParent d.shows r.1 = true then (43, d) else (0, waitD d (2, r.1, ⟨#[]⟩, nz 2 m, false))
 else if k = 3 then
  let q := realP d.shows tp
  if q.2 ≠ 0 then (q.2, d) else if kk = 0 then (40, d) else if kk = 1 ∨ kindOf d.shows q.1 = 1 then (42, d) else (0, waitD d (3, r.1, q.1, nz 3 m, false))
 else
  if kk = 0 then (40, d) else (0, waitD d (4, r.1, ⟨#[]⟩, nz 4 m, false))
def opD (nz : Int → Nd → Nd) (d : Dk) (k : Int) (path tp : ByteArray) (n : Nd) : Int × Dk :=
 let b := beginD d
 if b.1 ≠ 0 then b else
 let o := ownD nz b.2 k path tp n
 if o.1 = 0 then (0, endD o.2) else o
def cutB (n : Int) (b : ByteArray) : ByteArray := b.extract 0 (min (max n 0) (b.size : Int)).toNat
def cutC (n : Int) (c : Chg) : Chg := (c.1, c.2.1, c.2.2.1, (c.2.2.2.1.1, c.2.2.2.1.2.1, c.2.2.2.1.2.2.1, c.2.2.2.1.2.2.2.1, c.2.2.2.1.2.2.2.2.1, c.2.2.2.1.2.2.2.2.2.1, cutB n c.2.2.2.1.2.2.2.2.2.2), c.2.2.2.2)
def mayCut (c : Chg) : Bool := !c.2.2.2.2 && (decide (c.1 = 1) || (decide (c.1 = 0) && decide (c.2.2.2.1.1 = 2)))
def crashGo (mask cut : Int) : Nat → List Chg → List It → List It
 | _, [], s => s
 | b, c :: l, s => if mayCut c = true then crashGo mask cut (b + 1) l (doneP s (if b < 64 ∧ mask / 2 ^ b % 2 = 1 then cutC cut c else c)) else crashGo mask cut b l (doneP s c)
def crashD (d : Dk) (keep mask cut : Int) : Dk :=
 { d with base := crashGo mask cut 0 (d.waits.take (max keep 0).toNat) d.base, waits := [], off := false, fuse := -1, fail := 0 }
def ChR (a b : Chg) : Prop := a.1 = b.1 ∧ a.2.1 = b.2.1 ∧ a.2.2.1 = b.2.2.1 ∧ a.2.2.2.2 = b.2.2.2.2 ∧ ((a.1 = 0 ∨ a.1 = 4) → a.2.2.2.1 = b.2.2.2.1) ∧ (a.1 = 1 → a.2.2.2.1.2.2.2.2.2.2 = b.2.2.2.1.2.2.2.2.2.2)
def kindsOk (c : Chg) : Prop := c.1 = 0 ∨ c.1 = 1 ∨ c.1 = 2 ∨ c.1 = 3 ∨ c.1 = 4
theorem done_rel {a b : Chg} (h : ChR a b) (hk : kindsOk a) (s : List It) : doneP s a = doneP s b := by
 obtain ⟨k, pa, tp, n, su⟩ := a;obtain ⟨k2, pa2, tp2, n2, su2⟩ := b;obtain ⟨h1, h2, h3, h4, h5, h6⟩ := h;simp only at h1 h2 h3 h4 h5 h6;subst h1 h2 h3;unfold doneP;simp only
 rcases hk with e | e | e | e | e <;> simp only at e <;> subst e
 ·
  have h5 := h5 (.inl rfl);simp [h5]
 ·
  have h6 := h6 rfl
  cases findP s pa <;> simp [h6]
 ·
  cases findP s pa <;> simp
 ·
  cases findP s pa <;> simp
 have h5 := h5 (.inr rfl)
 cases findP s pa <;> simp [h5]
end Go.Proofs.YtibmfjacfbpfgaaGreatDoor.OpLaw
namespace Go.Proofs.YtibmfjacfbpfgaaGreatDoor.OpKeep
open Stab SortLaw YtibmfjacfbpfgaaGreatDoor.Item TreeLaw NameLaw NameWalk NameOrd NameRef NameKeepLaw SortIns NodeRes TreeNodes FillLaw DiffLaw RealLaw DoneLaw KeepLaw RealKeep OpLaw
inductive Chs : List Chg → List Chg → Prop
 | nil : Chs [] []
 | cons {a b : Chg} {l m : List Chg} : ChR a b → kindsOk a → Chs l m → Chs (a :: l) (b :: m)
theorem Chs.len {l m : List Chg} (h : Chs l m) : l.length = m.length := by
 induction h with
 | nil => rfl
 | cons _ _ _ ih => rw [List.length_cons, List.length_cons, ih]
theorem Chs.fold {l m : List Chg} (h : Chs l m) : ∀ s, l.foldl doneP s = m.foldl doneP s := by
 induction h with
 | nil => intro s; rfl
 | cons hr hk _ ih => intro s; rw [List.foldl_cons, List.foldl_cons, done_rel hr hk, ih]
theorem Chs.snoc {l m : List Chg} (h : Chs l m) {a b : Chg} (hr : ChR a b) (hk : kindsOk a) : Chs (l ++ [a]) (m ++ [b]) := by
 induction h with
 | nil => exact .cons hr hk .nil
 | cons hr2 hk2 _ ih => exact .cons hr2 hk2 ih
theorem Chs.take {l m : List Chg} (h : Chs l m) : ∀ n, Chs (l.take n) (m.take n) := by
 induction h with
 | nil => intro n; rw [List.take_nil]; exact .nil
 | cons hr hk _ ih =>
  intro n
  cases n with
  | zero => exact .nil
  | succ n => exact .cons hr hk (ih n)
theorem sure_rel {a b : Chg} (h : ChR a b) (p : ByteArray) : ChR (sureC p a) (sureC p b) := by
 obtain ⟨k, pa, tp, n, su⟩ := a;obtain ⟨k2, pa2, tp2, n2, su2⟩ := b;obtain ⟨h1, h2, h3, h4, h5, h6⟩ := h;simp only at h1 h2 h3 h4 h5 h6;subst h1 h2 h3 h4;unfold sureC;simp only
 by_cases g : pa = p ∧ (k = 0 ∨ k = 1)
 ·
  rw [if_pos g, if_pos g]; exact ⟨rfl, rfl, rfl, rfl, h5, h6⟩
 rw [if_neg g, if_neg g]; exact ⟨rfl, rfl, rfl, rfl, h5, h6⟩
theorem sure_kind (p : ByteArray) (c : Chg) : (sureC p c).1 = c.1 := by unfold sureC; split <;> rfl
theorem sure_done (p : ByteArray) (c : Chg) (s : List It) : doneP s (sureC p c) = doneP s c := by unfold sureC; split <;> rfl
theorem Chs.sure {l m : List Chg} (h : Chs l m) (p : ByteArray) : Chs (l.map (sureC p)) (m.map (sureC p)) := by
 induction h with
 | nil => exact .nil
 | cons hr hk _ ih => exact .cons (sure_rel hr p) (by unfold kindsOk; rw [sure_kind]; exact hk) ih
structure Rel (a b : Dk) : Prop where
 base : a.base = b.base
 waits : Chs a.waits b.waits
 limit : a.limit = b.limit
 fuse : a.fuse = b.fuse
 fail : a.fail = b.fail
 off : a.off = b.off
 steps : a.steps = b.steps
theorem Rel.shows {a b : Dk} (h : Rel a b) : a.shows = b.shows := by
 unfold Dk.shows;rw [h.base, h.waits.fold]
theorem begin_rel {a b : Dk} (h : Rel a b) : (beginD a).1 = (beginD b).1 ∧ Rel (beginD a).2 (beginD b).2 := by
 unfold beginD;rw [h.off, h.fuse, h.fail]
 split
 ·
  exact ⟨rfl, h⟩
 split
 ·
  exact ⟨rfl, ⟨h.base, h.waits, h.limit, by first | exact h.fuse | rfl, by first | exact h.fail | rfl, rfl, h.steps⟩⟩
 split
 ·
  exact ⟨rfl, ⟨h.base, h.waits, h.limit, by first | exact h.fuse | rfl, rfl, by first | exact h.off | rfl, h.steps⟩⟩
 split
 ·
  exact ⟨rfl, ⟨h.base, h.waits, h.limit, by first | exact h.fuse | rfl, rfl, by first | exact h.off | rfl, h.steps⟩⟩
 exact ⟨rfl, h⟩
theorem end_rel {a b : Dk} (h : Rel a b) : Rel (endD a) (endD b) :=
 ⟨h.base, h.waits, h.limit, by unfold endD; simp only [h.fuse], h.fail, h.off, by unfold endD; simp only [h.steps]⟩
theorem wait_rel {a b : Dk} (h : Rel a b) (k : Int) (p tp : ByteArray) (m : Nd) (hk : k = 0 ∨ k = 1 ∨ k = 2 ∨ k = 3 ∨ k = 4) : Rel (waitD a (k, p, tp, nzP k m, false)) (waitD b (k, p, tp, nzR k m, false)) := by
 refine ⟨h.base, h.waits.snoc ⟨rfl, rfl, rfl, rfl, fun e => ?_, fun e => ?_⟩ hk, h.limit, h.fuse, h.fail, h.off, h.steps⟩
 ·
  show nzP k m = m
  unfold nzP;rw [if_pos e]
 have e : k = 1 := e;subst e;rfl
def Both (x y : Int × Dk) : Prop := x.1 = y.1 ∧ Rel x.2 y.2
theorem Both.ite {c : Prop} [Decidable c] {x y x2 y2 : Int × Dk} (h1 : Both x y) (h2 : Both x2 y2) : Both (if c then x else x2) (if c then y else y2) := by
 by_cases h : c
 ·
  rw [if_pos h, if_pos h]; exact h1
 rw [if_neg h, if_neg h]; exact h2
theorem own_rel {a b : Dk} (h : Rel a b) (k : Int) (path tp : ByteArray) (n : Nd) : (ownD nzP a k path tp n).1 = (ownD nzR b k path tp n).1 ∧ Rel (ownD nzP a k path tp n).2 (ownD nzR b k path tp n).2 := by
 show Both (ownD nzP a k path tp n) (ownD nzR b k path tp n)
 have hw : ∀ (k : Int) (p tp : ByteArray) (m : Nd), (k = 0 ∨ k = 1 ∨ k = 2 ∨ k = 3 ∨ k = 4) → Both (0, waitD a (k, p, tp, nzP k m, false)) (0, waitD b (k, p, tp, nzR k m, false)) := fun k p tp m hk => ⟨rfl, wait_rel h k p tp m hk⟩
 have he : ∀ e : Int, Both (e, a) (e, b) := fun e => ⟨rfl, h⟩
 unfold ownD;rw [h.shows, h.limit];generalize realP b.shows path = r;generalize realP b.shows tp = q;generalize nodeM n = m
 dsimp only
 refine .ite ⟨rfl, ⟨rfl, .nil, by first | rfl | exact h.limit, h.fuse, h.fail, h.off, h.steps⟩⟩ (.ite (he _) (.ite ?_ (.ite ?_ (.ite ?_ (.ite ?_ (.ite ?_ ?_))))))
 ·
  exact .ite (he _) (.ite (he _) (.ite (he _) (hw 0 _ _ _ (.inl rfl))))
 ·
  exact .ite (he _) (.ite (he _) (.ite (he _) (hw 1 _ _ _ (.inr (.inl rfl)))))
 ·
  exact .ite (he _) (.ite (he _) ⟨rfl, ⟨h.base, h.waits.sure _, by first | rfl | exact h.limit, h.fuse, h.fail, h.off, h.steps⟩⟩)
 ·
  exact .ite (he _) (.ite (he _) (hw 2 _ _ _ (.inr (.inr (.inl rfl)))))
 ·
  exact .ite (he _) (.ite (he _) (.ite (he _) (hw 3 _ _ _ (.inr (.inr (.inr (.inl rfl)))))))
 exact .ite (he _) (hw 4 _ _ _ (.inr (.inr (.inr (.inr rfl)))))
theorem op_rel {a b : Dk} (h : Rel a b) (k : Int) (path tp : ByteArray) (n : Nd) : (opD nzP a k path tp n).1 = (opD nzR b k path tp n).1 ∧ Rel (opD nzP a k path tp n).2 (opD nzR b k path tp n).2 := by
 obtain ⟨h1, h2⟩ := begin_rel h;unfold opD;simp only;rw [h1]
 split
 ·
  exact ⟨h1, h2⟩
 obtain ⟨h3, h4⟩ := own_rel h2 k path tp n;rw [h3]
 split
 ·
  exact ⟨rfl, end_rel h4⟩
 exact ⟨h3, h4⟩
theorem may_rel {a b : Chg} (h : ChR a b) : mayCut a = mayCut b := by
 obtain ⟨k, pa, tp, n, su⟩ := a;obtain ⟨k2, pa2, tp2, n2, su2⟩ := b;obtain ⟨h1, h2, h3, h4, h5, h6⟩ := h;simp only at h1 h2 h3 h4 h5 h6;subst h1 h2 h3 h4;unfold mayCut;simp only
 by_cases g : k = 0
 ·
  rw [h5 (.inl g)]
 rw [decide_eq_false g]; simp
theorem cut_rel {a b : Chg} (h : ChR a b) (m : Int) : ChR (cutC m a) (cutC m b) := by
 obtain ⟨k, pa, tp, n, su⟩ := a;obtain ⟨k2, pa2, tp2, n2, su2⟩ := b;obtain ⟨h1, h2, h3, h4, h5, h6⟩ := h;simp only at h1 h2 h3 h4 h5 h6;subst h1 h2 h3 h4;refine ⟨rfl, rfl, rfl, rfl, fun e => ?_, fun e => ?_⟩
 ·
  have e := h5 e;subst e; rfl
 have e := h6 e
 show cutB m _ = cutB m _
 rw [e]
theorem crash_go_rel {l m : List Chg} (h : Chs l m) (mask cut : Int) : ∀ (b : Nat) (s : List It), crashGo mask cut b l s = crashGo mask cut b m s := by
 induction h with
 | nil => intro b s; rfl
 | cons hr hk _ ih =>
  intro b s;unfold crashGo;rw [may_rel hr]
  split
  ·
   rw [ih]
   congr 1
   split
   ·
    exact done_rel (cut_rel hr cut) hk s
   exact done_rel hr hk s
  rw [ih, done_rel hr hk]
theorem crash_rel {a b : Dk} (h : Rel a b) (keep mask cut : Int) : Rel (crashD a keep mask cut) (crashD b keep mask cut) :=
 ⟨by unfold crashD; simp only; rw [h.base, crash_go_rel (h.waits.take _)], .nil, h.limit, rfl, rfl, rfl, h.steps⟩
def Trees (d : Dk) : Prop := ∀ k, RightP ((d.waits.take k).foldl doneP d.base)
theorem Trees.shows {d : Dk} (h : Trees d) : RightP d.shows := by
 have := h d.waits.length;rw [List.take_length] at this;exact this
theorem Trees.base {d : Dk} (h : Trees d) : RightP d.base := h 0
theorem trees_wait {d : Dk} (h : Trees d) {c : Chg} (hc : RightP (doneP d.shows c)) : Trees (waitD d c) := by
 intro k
 show RightP (((d.waits ++ [c]).take k).foldl doneP d.base)
 by_cases hk : k ≤ d.waits.length
 ·
  rw [List.take_append_of_le_length hk]; exact h k
 rw [List.take_of_length_le (by rw [List.length_append, List.length_singleton]; omega), List.foldl_append];exact hc
theorem okName_of {b : ByteArray} {n : Nd} (h : checkE b = 0 ∧ checkD b = false ∧ checkP b = b) : okName (b, n) = true := by
 unfold okName;simp only;rw [decide_eq_true h.1, h.2.1, decide_eq_true h.2.2]; rfl
theorem own_trees {d : Dk} (h : Trees d) (k : Int) (path tp : ByteArray) (n : Nd) : Trees (ownD nzP d k path tp n).2 := by
 have hs := h.shows;unfold ownD;simp only
 split
 ·
  intro j
  show RightP ((([] : List Chg).take j).foldl doneP d.shows)
  rw [List.take_nil]; exact hs
 split
 ·
  exact h
 rename_i hr;have hr : (realP d.shows path).2 = 0 := Classical.byContradiction hr;obtain ⟨r1, r2, r3⟩ := real_ok hs (show realP d.shows path = ((realP d.shows path).1, 0) by rw [← hr]);generalize (realP d.shows path).1 = real at *;have hpl := parent_lt r1;have hne : parentT real ≠ real := fun e => by rw [e] at hpl; omega
 split
 ·
  split
  ·
   exact h
  rename_i hk
  split
  ·
   exact h
  rename_i hk0;have hk0 : kindOf d.shows real = 0 := Classical.byContradiction hk0
  split
  ·
   exact h
  refine trees_wait h ?_
  show RightP (putP d.shows (real, nzP 0 (nodeM n)))
  refine right_put hs (okName_of r3) ?_ r2 (.inl hne) (fun e => ?_)
  ·
   unfold okKind;rw [Bool.and_eq_true, decide_eq_true_eq, decide_eq_true_eq]
   show 1 ≤ n.1 ∧ n.1 ≤ 3
   exact ⟨by omega, by omega⟩
  rw [show ((real, nzP 0 (nodeM n)) : It).1 = real from rfl, hk0] at e;cases e
 have same : ∀ (y : It), kindOf d.shows real ≠ 0 → y.1 = real → y.2.1 = kindOf d.shows real → RightP (putP d.shows y) := fun y h1 h2 h3 => by
  rw [kind_find r1] at h1 h3
  cases hf : findP d.shows real with
  | none => rw [hf] at h1; exact absurd rfl h1
  | some x =>
   rw [hf] at h3;exact right_same hs hf (by rw [h2, (find_mem hf).2]) h3
 have found : kindOf d.shows real ≠ 0 → ∃ x, findP d.shows real = some x ∧ x.1 = real ∧ x.2.1 = kindOf d.shows real := fun h1 => by
  rw [kind_find r1] at h1 ⊢
  cases hf : findP d.shows real with
  | none => rw [hf] at h1; exact absurd rfl h1
  | some x => exact ⟨x, rfl, (find_mem hf).2, rfl⟩
 split
 ·
  split
  ·
   exact h
  rename_i hk0
  split
  ·
   exact h
  split
  ·
   exact h
  refine trees_wait h ?_;obtain ⟨x, hf, e1, e2⟩ := found hk0;unfold doneP;simp only [hf];exact same _ hk0 e1 e2
 split
 ·
  split
  ·
   exact h
  split
  ·
   exact h
  intro j
  show RightP (((d.waits.map (sureC real)).take j).foldl doneP d.base)
  rw [← List.map_take]
  have : ∀ (l : List Chg) (s : List It), (l.map (sureC real)).foldl doneP s = l.foldl doneP s := by
   intro l
   induction l with
   | nil => intro s; rfl
   | cons c l ih => intro s; rw [List.map_cons, List.foldl_cons, List.foldl_cons, sure_done, ih]
  rw [this];exact h j
 split
 ·
  split
  ·
   exact h
  rename_i hk0
  split
  ·
   exact h
  rename_i hp;refine trees_wait h ?_;obtain ⟨x, hf, e1, e2⟩ := found hk0;unfold doneP;simp only [hf];refine right_wo hs r1 (fun y hy _ e => hp ?_);exact List.any_eq_true.2 ⟨y, hy, decide_eq_true e⟩
 split
 ·
  split
  ·
   exact h
  rename_i hq;have hq : (realP d.shows tp).2 = 0 := Classical.byContradiction hq;obtain ⟨q1, q2, q3⟩ := real_ok hs (show realP d.shows tp = ((realP d.shows tp).1, 0) by rw [← hq]);generalize (realP d.shows tp).1 = tor at *
  split
  ·
   exact h
  rename_i hk0
  split
  ·
   exact h
  rename_i hk1;refine trees_wait h ?_;obtain ⟨x, hf, e1, e2⟩ := found hk0;unfold doneP;simp only [hf];exact right_move hs hf (fun e => hk1 (.inl (by rw [← e2]; exact e))) r1 q1 (okName_of q3) q2 (fun e => hk1 (.inr e))
 split
 ·
  exact h
 rename_i hk0;refine trees_wait h ?_;obtain ⟨x, hf, e1, e2⟩ := found hk0;unfold doneP;simp only [hf];exact same _ hk0 e1 e2
theorem begin_trees {d : Dk} (h : Trees d) : Trees (beginD d).2 := by
 unfold beginD
 split
 ·
  exact h
 split
 ·
  exact h
 split
 ·
  exact h
 split <;> exact h
theorem op_trees {d : Dk} (h : Trees d) (k : Int) (path tp : ByteArray) (n : Nd) : Trees (opD nzP d k path tp n).2 := by
 have hb := begin_trees h;unfold opD;simp only
 split
 ·
  exact hb
 have ho := own_trees hb k path tp n
 split
 ·
  exact ho
 exact ho
theorem crash_er (mask cut : Int) : ∀ (l : List Chg) (b : Nat) (s : List It), (crashGo mask cut b l s).map erI = (l.map erC).foldl doneP (s.map erI)
 | [], b, s => rfl
 | c :: l, b, s => by
  unfold crashGo;rw [List.map_cons, List.foldl_cons]
  split
  ·
   rw [crash_er mask cut l]
   congr 1
   split
   ·
    rw [← er_done]; rfl
   rw [er_done]
  rw [crash_er mask cut l, er_done]
theorem crash_trees {d : Dk} (h : Trees d) (keep mask cut : Int) : Trees (crashD d keep mask cut) := by
 have hb : RightP (crashGo mask cut 0 (d.waits.take (max keep 0).toNat) d.base) := by
  rw [← er_right, crash_er, er_fold, er_right];exact h _
 intro j
 show RightP ((([] : List Chg).take j).foldl doneP (crashGo mask cut 0 (d.waits.take (max keep 0).toNat) d.base))
 rw [List.take_nil]; exact hb
end Go.Proofs.YtibmfjacfbpfgaaGreatDoor.OpKeep
namespace Go.Proofs.YtibmfjacfbpfgaaGreatDoor.DkLaw
open Stab SortLaw YtibmfjacfbpfgaaGreatDoor.Item TreeLaw NameLaw NameWalk NameOrd NameRef NameKeepLaw SortIns NodeRes TreeNodes FillLaw DiffLaw RealLaw DoneLaw KeepLaw RealKeep OpLaw OpKeep
theorem split_sum : ∀ l : List UInt8, l.length + 1 = ((splitL l).map List.length).sum + (splitL l).length
 | [] => by simp [splitL]
 | c :: l => by
  have ih := split_sum l;rw [splitL_cons]
  by_cases h : c = 47
  ·
   rw [if_pos h]; simp; omega
  rw [if_neg h]
  cases hs : splitL l with
  | nil => exact absurd hs (splitL_ne l)
  | cons p ps => rw [hs] at ih; simp at ih ⊢; omega
theorem sum_le (m : Nat) : ∀ l : List Nat, (∀ x ∈ l, x ≤ m) → l.sum ≤ m * l.length
 | [], _ => by simp
 | x :: l, h => by
  have h1 := h x (by simp);have h2 := sum_le m l (fun y hy => h y (by simp [hy]));rw [List.sum_cons, List.length_cons, Nat.mul_add];omega
theorem check_rest {p : ByteArray} (h : checkE p = 0) : (splitT (cutT p)).length ≤ 32 ∧ longParts p = false := by
 unfold checkE at h
 by_cases h1 : 65535 < p.size
 ·
  rw [if_pos h1] at h; cases h
 rw [if_neg h1] at h
 by_cases h2 : p.toList = []
 ·
  rw [if_pos h2] at h; cases h
 rw [if_neg h2] at h
 by_cases h3 : validT p = false
 ·
  rw [if_pos h3] at h; cases h
 rw [if_neg h3] at h
 by_cases h4 : badBytes p = true
 ·
  rw [if_pos h4] at h; cases h
 rw [if_neg h4] at h
 by_cases h5 : badParts p = true
 ·
  rw [if_pos h5] at h; cases h
 rw [if_neg h5] at h
 by_cases h6 : 32 < (splitT (cutT p)).length
 ·
  rw [if_pos h6] at h; cases h
 rw [if_neg h6] at h
 by_cases h7 : longParts p = true
 ·
  rw [if_pos h7] at h; cases h
 exact ⟨by omega, by simpa using h7⟩
theorem long_part {p : ByteArray} (h : longParts p = false) : ∀ x ∈ splitL (cutT p).data.toList, x.length ≤ 255 := by
 unfold longParts at h;rw [List.any_eq_false] at h;intro x hx;have h1 := h ⟨x.toArray⟩ (List.mem_map.2 ⟨x, hx, rfl⟩);have h2 : ¬ 255 < (⟨x.toArray⟩ : ByteArray).size := by simpa using h1
 have h3 : (⟨x.toArray⟩ : ByteArray).size = x.length := by simp [ByteArray.size]
 omega
theorem cut_size {p : ByteArray} (h : checkE p = 0) : (cutT p).size ≤ 9000 := by
 obtain ⟨h1, h2⟩ := check_rest h;have h3 := split_sum (cutT p).data.toList
 have h4 : ((splitL (cutT p).data.toList).map List.length).sum ≤ 255 * ((splitL (cutT p).data.toList).map List.length).length := by
  refine sum_le 255 _ (fun n hn => ?_);obtain ⟨x, hx, rfl⟩ := List.mem_map.1 hn;exact long_part h2 x hx
 have h5 := len_data (cutT p)
 have h6 : (splitL (cutT p).data.toList).length ≤ 32 := by
  have : (splitT (cutT p)).length = (splitL (cutT p).data.toList).length := by unfold splitT; rw [List.length_map]
  omega
 rw [List.length_map] at h4;omega
theorem ok_size {x : It} (h : okName x = true) : x.1.size ≤ 9000 := by
 obtain ⟨h1, _, h3⟩ := ok_check h;rw [checkP_is h1] at h3;have := cut_size h1;rw [h3] at this;exact this
theorem right_strict {s : List It} (h : RightP s) : Strict s := ((right_iff s).1 h).1
theorem right_size {s : List It} (h : RightP s) : ∀ x ∈ s, x.1.size ≤ 9000 := fun x hx => by
 obtain ⟨k, hk, rfl⟩ := List.mem_iff_getElem.1 hx;exact ok_size (stepOk_iff.1 (h k _ (List.getElem?_eq_getElem hk))).1
def dataOf (x : It) : ByteArray := x.2.2.2.2.2.2.2
def dataC (c : Chg) : ByteArray := c.2.2.2.1.2.2.2.2.2.2
def Light (l : List It) : Prop := ∀ x ∈ l, (dataOf x).size ≤ 100000
structure LightC (c : Chg) : Prop where
 path : c.2.1.size ≤ 9000
 dest : c.2.2.1.size ≤ 9000
 data : (dataC c).size ≤ 100000
 kind : kindsOk c
theorem wo_len (s : List It) (p : ByteArray) : (woP s p).length ≤ s.length := List.length_filter_le _ _
theorem put_len (s : List It) (x : It) : (putP s x).length ≤ s.length + 1 := by
 unfold putP;have := wo_len s x.1;rw [List.length_append, List.length_cons, List.length_take, List.length_drop];omega
theorem find_wo_len {s : List It} {p : ByteArray} {x : It} (h : findP s p = some x) : (woP s p).length + 1 ≤ s.length := by
 obtain ⟨hm, hp⟩ := find_mem h
 have h1 : (s.filter (fun y => !isAt p y)).length + (s.filter (isAt p)).length = s.length := by
  clear h hm
  induction s with
  | nil => rfl
  | cons y s ih =>
   rw [List.filter_cons, List.filter_cons]
   cases isAt p y <;> simp <;> omega
 have h2 : 0 < (s.filter (isAt p)).length := List.length_pos_of_mem (List.mem_filter.2 ⟨hm, by rw [← hp]; exact isAt_self x⟩);unfold woP;omega
theorem done_len (s : List It) (c : Chg) : (doneP s c).length ≤ s.length + 1 := by
 unfold doneP
 split
 ·
  exact put_len _ _
 split
 ·
  omega
 rename_i x hf
 split
 ·
  exact put_len _ _
 split
 ·
  have := wo_len s c.2.1; omega
 split
 ·
  have := find_wo_len hf;have := put_len (woP s c.2.1) (c.2.2.1, x.2);omega
 exact put_len _ _
theorem put_light {s : List It} {x : It} (h : Light s) (hx : (dataOf x).size ≤ 100000) : Light (putP s x) := fun y hy => by
 rcases put_mem hy with e | ⟨e, _⟩
 ·
  rw [e]; exact hx
 exact h y e
theorem wo_light {s : List It} (h : Light s) (p : ByteArray) : Light (woP s p) := fun y hy => h y (List.mem_filter.1 hy).1
theorem done_light {s : List It} {c : Chg} (h : Light s) (hc : (dataC c).size ≤ 100000) : Light (doneP s c) := by
 unfold doneP
 split
 ·
  exact put_light h hc
 split
 ·
  exact h
 rename_i x hf;have hx := h x (find_mem hf).1
 split
 ·
  exact put_light h hc
 split
 ·
  exact wo_light h _
 split
 ·
  exact put_light (wo_light h _) hx
 exact put_light h hx
theorem fold_len : ∀ (l : List Chg) (s : List It), (l.foldl doneP s).length ≤ s.length + l.length
 | [], s => by simp
 | c :: l, s => by
  have h1 := fold_len l (doneP s c);have h2 := done_len s c;rw [List.foldl_cons, List.length_cons];omega
theorem fold_light : ∀ (l : List Chg) (s : List It), Light s → (∀ c ∈ l, LightC c) → Light (l.foldl doneP s)
 | [], s, h, _ => h
 | c :: l, s, h, hl => fold_light l (doneP s c) (done_light h (hl c (by simp)).data) (fun d hd => hl d (by simp [hd]))
structure Bnd (m : Nat) (d : Dk) : Prop where
 len : d.base.length + d.waits.length ≤ m
 steps : 0 ≤ d.steps ∧ d.steps ≤ m
 fuse : d.fuse ≤ 9223372036854775807
 fail : d.fail ≤ 9223372036854775807
 base : Light d.base
 waits : ∀ c ∈ d.waits, LightC c
theorem Bnd.shows {m : Nat} {d : Dk} (h : Bnd m d) : d.shows.length ≤ m ∧ Light d.shows := by
 have h1 := fold_len d.waits d.base;have h2 := h.len;exact ⟨by show (d.waits.foldl doneP d.base).length ≤ m; omega, fold_light _ _ h.base h.waits⟩
theorem Bnd.mono {m n : Nat} {d : Dk} (h : Bnd m d) (hm : m ≤ n) : Bnd n d := ⟨Nat.le_trans h.len hm, ⟨h.steps.1, by have := h.steps.2; omega⟩, h.fuse, h.fail, h.base, h.waits⟩
theorem begin_bnd {m : Nat} {d : Dk} (h : Bnd m d) : Bnd m (beginD d).2 := by
 unfold beginD
 split
 ·
  exact h
 split
 ·
  exact ⟨h.len, h.steps, h.fuse, h.fail, h.base, h.waits⟩
 split
 ·
  exact ⟨h.len, h.steps, h.fuse, by show (0 : Int) ≤ _; omega, h.base, h.waits⟩
 split
 ·
  exact ⟨h.len, h.steps, h.fuse, by have := h.fail; show d.fail - 1 ≤ _; omega, h.base, h.waits⟩
 exact h
theorem wait_bnd {m : Nat} {d : Dk} (h : Bnd m d) {c : Chg} (hc : LightC c) : Bnd (m + 1) (waitD d c) := by
 refine ⟨?_, ⟨h.steps.1, by have := h.steps.2; show d.steps ≤ ((m + 1 : Nat) : Int); omega⟩, h.fuse, h.fail, h.base, fun x hx => ?_⟩
 ·
  have := h.len
  show d.base.length + (d.waits ++ [c]).length ≤ m + 1
  rw [List.length_append, List.length_singleton];omega
 rcases List.mem_append.1 hx with e | e
 ·
  exact h.waits x e
 rw [List.mem_singleton.1 e]; exact hc
theorem sure_light {c : Chg} (h : LightC c) (p : ByteArray) : LightC (sureC p c) := by
 unfold sureC
 split
 ·
  exact ⟨h.path, h.dest, h.data, h.kind⟩
 exact h
theorem real_small {s : List It} {path : ByteArray} (e : (realP s path).2 = 0) : (realP s path).1.size ≤ 70000 := by
 unfold realP at e ⊢
 split
 ·
  rw [if_pos ‹_›] at e; cases e
 rename_i h0;rw [if_neg h0] at e;simp only at e ⊢
 split
 ·
  rename_i h1; rw [if_pos h1] at e; exact absurd e h1
 rename_i h1;rw [if_neg h1] at e
 split
 ·
  rename_i h2; rw [if_pos h2] at e; cases e
 rename_i h2;exact Nat.le_trans (check_size (Classical.not_not.1 h2)) (by decide)
theorem real_tiny {s : List It} (h : RightP s) {path : ByteArray} (e : (realP s path).2 = 0) : (realP s path).1.size ≤ 9000 := by
 have hr := real_ok h (path := path) (real := (realP s path).1) (by rw [← e]);exact ok_size (x := ((realP s path).1, 0, 0, 0, 0, 0, 0, ⟨#[]⟩)) (okName_of ⟨hr.2.2.1, hr.2.2.2.1, hr.2.2.2.2⟩)
theorem own_bnd {nz : Int → Nd → Nd} (hz : ∀ k n, (nz k n).2.2.2.2.2.2.size ≤ n.2.2.2.2.2.2.size) {m : Nat} {d : Dk} (hT : RightP d.shows) (h : Bnd m d) (k : Int) (path tp : ByteArray) (n : Nd) (hn : n.2.2.2.2.2.2.size ≤ 100000) : Bnd (m + 1) (ownD nz d k path tp n).2 := by
 have h1 := h.mono (Nat.le_succ m);have hw : ∀ (k : Int) (a b : ByteArray), (k = 0 ∨ k = 1 ∨ k = 2 ∨ k = 3 ∨ k = 4) → a.size ≤ 9000 → b.size ≤ 9000 → Bnd (m + 1) (waitD d (k, a, b, nz k (nodeM n), false)) := fun k a b hk ha hb => wait_bnd h ⟨ha, hb, Nat.le_trans (hz k (nodeM n)) hn, hk⟩
 have he : (⟨#[]⟩ : ByteArray).size ≤ 9000 := by decide
 unfold ownD
 split
 ·
  refine ⟨?_, h1.steps, h.fuse, h.fail, h.shows.2, fun c hc => by cases hc⟩;have := h.shows.1
  show d.shows.length + 0 ≤ m + 1
  omega
 simp only
 split
 ·
  exact h1
 rename_i hr;have hr := real_tiny hT (Classical.not_not.1 hr)
 split
 ·
  split
  ·
   exact h1
  split
  ·
   exact h1
  split
  ·
   exact h1
  exact hw 0 _ _ (.inl rfl) hr he
 split
 ·
  split
  ·
   exact h1
  split
  ·
   exact h1
  split
  ·
   exact h1
  exact hw 1 _ _ (.inr (.inl rfl)) hr he
 split
 ·
  split
  ·
   exact h1
  split
  ·
   exact h1
  refine ⟨?_, h1.steps, h.fuse, h.fail, h.base, fun c hc => ?_⟩
  ·
   have := h.len
   show d.base.length + (d.waits.map _).length ≤ m + 1
   rw [List.length_map]; omega
  obtain ⟨c0, hc0, rfl⟩ := List.mem_map.1 hc;exact sure_light (h.waits c0 hc0) _
 split
 ·
  split
  ·
   exact h1
  split
  ·
   exact h1
  exact hw 2 _ _ (.inr (.inr (.inl rfl))) hr he
 split
 ·
  split
  ·
   exact h1
  rename_i hq;have hq := real_tiny hT (Classical.not_not.1 hq)
  split
  ·
   exact h1
  split
  ·
   exact h1
  exact hw 3 _ _ (.inr (.inr (.inr (.inl rfl)))) hr hq
 split
 ·
  exact h1
 exact hw 4 _ _ (.inr (.inr (.inr (.inr rfl)))) hr he
theorem own_steps (nz : Int → Nd → Nd) (d : Dk) (k : Int) (path tp : ByteArray) (n : Nd) : (ownD nz d k path tp n).2.steps = d.steps ∧ (ownD nz d k path tp n).2.fuse = d.fuse ∧ (ownD nz d k path tp n).2.fail = d.fail ∧ (ownD nz d k path tp n).2.off = d.off ∧ (ownD nz d k path tp n).2.limit = d.limit := by
 unfold ownD;simp only
 repeat' split
 all_goals exact ⟨rfl, rfl, rfl, rfl, rfl⟩
theorem op_bnd {nz : Int → Nd → Nd} (hz : ∀ k n, (nz k n).2.2.2.2.2.2.size ≤ n.2.2.2.2.2.2.size) {m : Nat} {d : Dk} (hT : Trees d) (h : Bnd m d) (k : Int) (path tp : ByteArray) (n : Nd) (hn : n.2.2.2.2.2.2.size ≤ 100000) : Bnd (m + 1) (opD nz d k path tp n).2 := by
 have hb := begin_bnd h;have ho := own_bnd hz (Trees.shows (begin_trees hT)) hb k path tp n hn;have hs := (own_steps nz (beginD d).2 k path tp n).1;unfold opD;simp only
 split
 ·
  exact hb.mono (Nat.le_succ m)
 split
 ·
  refine ⟨ho.len, ?_, ?_, ho.fail, ho.base, ho.waits⟩
  ·
   have h1 := hb.steps
   show 0 ≤ (ownD nz (beginD d).2 k path tp n).2.steps + 1 ∧ (ownD nz (beginD d).2 k path tp n).2.steps + 1 ≤ ((m + 1 : Nat) : Int)
   rw [hs];omega
  have := ho.fuse
  show (if 0 < (ownD nz (beginD d).2 k path tp n).2.fuse then (ownD nz (beginD d).2 k path tp n).2.fuse - 1 else (ownD nz (beginD d).2 k path tp n).2.fuse) ≤ _
  split <;> omega
 exact ho
theorem cut_light {c : Chg} (h : LightC c) (n : Int) : LightC (cutC n c) := by
 refine ⟨h.path, h.dest, ?_, h.kind⟩;have := h.data
 show (cutB n (dataC c)).size ≤ _
 unfold cutB;rw [ByteArray.size_extract];omega
theorem crash_go_bnd (mask cut : Int) : ∀ (l : List Chg) (b : Nat) (s : List It), Light s → (∀ c ∈ l, LightC c) → (crashGo mask cut b l s).length ≤ s.length + l.length ∧ Light (crashGo mask cut b l s)
 | [], b, s, h, _ => ⟨by simp [crashGo], h⟩
 | c :: l, b, s, h, hl => by
  have hc := hl c (by simp);have hl' : ∀ d ∈ l, LightC d := fun d hd => hl d (by simp [hd])
  unfold crashGo
  split
  ·
   have hx : LightC (if b < 64 ∧ mask / 2 ^ b % 2 = 1 then cutC cut c else c) := by
    split
    ·
     exact cut_light hc cut
    exact hc
   have h1 := crash_go_bnd mask cut l (b + 1) _ (done_light h hx.data) hl';have h2 := done_len s (if b < 64 ∧ mask / 2 ^ b % 2 = 1 then cutC cut c else c);exact ⟨by rw [List.length_cons]; omega, h1.2⟩
  have h1 := crash_go_bnd mask cut l b _ (done_light h hc.data) hl';have h2 := done_len s c;exact ⟨by rw [List.length_cons]; omega, h1.2⟩
theorem crash_bnd {m : Nat} {d : Dk} (h : Bnd m d) (keep mask cut : Int) : Bnd m (crashD d keep mask cut) := by
 have h1 := crash_go_bnd mask cut (d.waits.take (max keep 0).toNat) 0 d.base h.base (fun c hc => h.waits c (List.mem_of_mem_take hc));refine ⟨?_, h.steps, by show (-1 : Int) ≤ _; omega, by show (0 : Int) ≤ _; omega, h1.2, fun c hc => by cases hc⟩;have h2 := h1.1;have h3 := h.len;rw [List.length_take] at h2
 show (crashGo mask cut 0 (d.waits.take (max keep 0).toNat) d.base).length + 0 ≤ m
 omega
theorem nzP_size (k : Int) (n : Nd) : (nzP k n).2.2.2.2.2.2.size ≤ n.2.2.2.2.2.2.size := by
 unfold nzP
 split
 ·
  exact Nat.le_refl _
 split
 ·
  exact Nat.le_refl _
 exact Nat.zero_le _
theorem nzR_size (k : Int) (n : Nd) : (nzR k n).2.2.2.2.2.2.size ≤ n.2.2.2.2.2.2.size := Nat.le_refl _
end Go.Proofs.YtibmfjacfbpfgaaGreatDoor.DkLaw
namespace Go.Proofs.YtibmfjacfbpfgaaGreatDoor.JoinLaw
open YtibmfjacfbpfgaaGreatDoor.Item NameLaw NameWalk NameRef TreeLaw FillLaw RealLaw
theorem join_split : ∀ l : List UInt8, Lib.join (splitL l) [47] = l
 | [] => by rw [show splitL [] = [[]] from rfl, Lib.join_one]
 | c :: l => by
  have ih := join_split l;rw [splitL_cons]
  cases hs : splitL l with
  | nil => exact absurd hs (splitL_ne l)
  | cons p ps =>
   rw [hs, Lib.join_cons] at ih
   by_cases h : c = 47
   ·
    rw [if_pos h, Lib.join_cons];simp only [Lib.joinTail, List.map_cons, List.flatten_cons] at ih ⊢;rw [h, ← ih];simp
   rw [if_neg h];simp only;rw [Lib.join_cons, ← ih];rfl
theorem join_snoc (xs : List (List UInt8)) (p : List UInt8) (h : xs ≠ []) : Lib.join (xs ++ [p]) [47] = Lib.join xs [47] ++ 47 :: p := by
 cases xs with
 | nil => exact absurd rfl h
 | cons x r =>
  rw [List.cons_append, Lib.join_cons, Lib.join_cons];simp [Lib.joinTail]
theorem join_glue (u p : ByteArray) : Lib.join ((partsT u ++ [p]).map (·.data.toList)) [47] = (joinS u p).data.toList := by
 rw [List.map_append, partsT_data, List.map_cons, List.map_nil];unfold partsL joinS
 by_cases h : u.data.toList = []
 ·
  rw [if_pos h, if_pos h, List.nil_append, Lib.join_one]
 rw [if_neg h, if_neg h, join_snoc _ _ (splitL_ne _), join_split]
theorem join_is (u p : ByteArray) : (⟨(Lib.join ((partsT u ++ [p]).map (·.data.toList)) [47]).toArray⟩ : ByteArray) = joinS u p := by
 rw [join_glue]
theorem join_size (u p : ByteArray) : (joinS u p).size ≤ u.size + 1 + p.size := by
 unfold joinS
 split
 ·
  omega
 have h1 := len_data u;have h2 := len_data p
 show (u.data.toList ++ 47 :: p.data.toList).toArray.size ≤ _
 simp;simp at h1 h2;omega
structure WOk (w : Wk) : Prop where
 full : Full w.1
 size : w.1.size ≤ 9000
 links : w.2.1 ≤ 17
 few : w.2.2 = 0 → w.2.1 ≤ 16
theorem wok_start : WOk (⟨#[]⟩, 0, 0) := ⟨full_nil, by decide, by decide, fun _ => by decide⟩
theorem walk_ok {s : List It} (hs : ∀ x ∈ s, x.1.size ≤ 9000) : ∀ (n : Nat) (w : Wk) (p : ByteArray), (∀ c ∈ p.data.toList, c ≠ 47) → WOk w → WOk (walkR s n w p) := by
 have dir : ∀ q : ByteArray, q.data.toList ≠ [] → kindOf s q = 1 → q.size ≤ 9000 := fun q h0 hk => by
  obtain ⟨x, hf, _⟩ := kind_one h0 hk;have hx := List.mem_of_find?_eq_some hf;have e : x.1 = q := isAt_eq (List.find?_some hf);have := hs x hx;rw [← e]; exact this
 have fold : ∀ (n : Nat), (∀ (w : Wk) (p : ByteArray), (∀ c ∈ p.data.toList, c ≠ 47) → WOk w → WOk (walkR s n w p)) → ∀ (l : List ByteArray) (w : Wk), (∀ p ∈ l, ∀ c ∈ p.data.toList, c ≠ 47) → WOk w → WOk (l.foldl (walkR s n) w) := by
  intro n ih l
  induction l with
  | nil => intro w _ h; exact h
  | cons p l il =>
   intro w hf h;rw [List.foldl_cons];exact il _ (fun q hq => hf q (List.mem_cons_of_mem _ hq)) (ih w p (hf p List.mem_cons_self) h)
 intro n
 induction n with
 | zero =>
  intro w p hf h;unfold walkR
  split
  ·
   exact h
  rename_i h0
  have h0 : w.2.2 = 0 ∧ p.data.toList ≠ [] := by
   refine ⟨Classical.byContradiction fun e => h0 (.inl e), fun e => h0 (.inr (.inl e))⟩
  split
  ·
   exact ⟨full_parent h.full, Nat.le_trans (parent_le _) h.size, h.links, h.few⟩
  split
  ·
   exact ⟨h.full, h.size, h.links, fun e => by cases e⟩
  split
  ·
   exact ⟨h.full, h.size, h.links, fun e => by cases e⟩
  split
  ·
   rename_i hk
   have hne : (joinS w.1 p).data.toList ≠ [] := by unfold joinS; split <;> simp [h0.2]
   exact ⟨full_join h.full h0.2 hf, dir _ hne hk, h.links, h.few⟩
  split
  ·
   have := h.few h0.1
   split
   ·
    exact ⟨h.full, h.size, by show w.2.1 + 1 ≤ 17; omega, fun e => by cases e⟩
   exact ⟨h.full, h.size, by show w.2.1 + 1 ≤ 17; omega, fun e => by cases e⟩
  exact h
 | succ n ih =>
  intro w p hf h;unfold walkR
  split
  ·
   exact h
  rename_i h0
  have h0 : w.2.2 = 0 ∧ p.data.toList ≠ [] := by
   refine ⟨Classical.byContradiction fun e => h0 (.inl e), fun e => h0 (.inr (.inl e))⟩
  split
  ·
   exact ⟨full_parent h.full, Nat.le_trans (parent_le _) h.size, h.links, h.few⟩
  split
  ·
   exact ⟨h.full, h.size, h.links, fun e => by cases e⟩
  split
  ·
   exact ⟨h.full, h.size, h.links, fun e => by cases e⟩
  split
  ·
   rename_i hk
   have hne : (joinS w.1 p).data.toList ≠ [] := by unfold joinS; split <;> simp [h0.2]
   exact ⟨full_join h.full h0.2 hf, dir _ hne hk, h.links, h.few⟩
  split
  ·
   have hl := h.few h0.1
   split
   ·
    exact ⟨h.full, h.size, by show w.2.1 + 1 ≤ 17; omega, fun e => by cases e⟩
   rename_i h16;refine fold n ih _ _ (fun q hq c hc => ?_) ?_
   ·
    unfold splitT at hq;obtain ⟨m, hm, rfl⟩ := List.mem_map.1 hq;exact split_free _ m hm c hc
   refine ⟨?_, ?_, by show w.2.1 + 1 ≤ 17; omega, fun _ => by show w.2.1 + 1 ≤ 16; omega⟩
   ·
    show Full (if _ then _ else _)
    split
    ·
     exact full_nil
    exact h.full
   show ByteArray.size (if _ then _ else _) ≤ _
   split
   ·
    decide
   exact h.size
  exact h
end Go.Proofs.YtibmfjacfbpfgaaGreatDoor.JoinLaw
namespace Go.Proofs.YtibmfjacfbpfgaaGreatDoor.OwnLeaf
open NameLaw NameWalk NodeRes YtibmfjacfbpfgaaGreatDoor.Item TreeLaw RealLaw OpLaw OpKeep DkLaw
theorem own_flush (nz : Int → Nd → Nd) (d : Dk) (path tp : ByteArray) (n : Nd) : ownD nz d 6 path tp n = (0, { d with base := d.shows, waits := [] }) := by unfold ownD; rw [if_pos rfl]
theorem own_real (nz : Int → Nd → Nd) (d : Dk) (k : Int) (path tp : ByteArray) (n : Nd) (hk : ¬ k = 6) (h : (realP d.shows path).2 ≠ 0) : ownD nz d k path tp n = ((realP d.shows path).2, d) := by
 unfold ownD;rw [if_neg hk];simp only;rw [if_pos h]
theorem op_stop {nz : Int → Nd → Nd} {d : Dk} {k : Int} {path tp : ByteArray} {n : Nd} (h : (beginD d).1 ≠ 0) : opD nz d k path tp n = beginD d := by unfold opD; simp only; rw [if_pos h]
theorem op_fell {nz : Int → Nd → Nd} {d : Dk} {k : Int} {path tp : ByteArray} {n : Nd} (h : (beginD d).1 = 0) {e : Int} {d1 d2 : Dk} (hd : (beginD d).2 = d1) (ho : ownD nz d1 k path tp n = (e, d2)) (he : e ≠ 0) : opD nz d k path tp n = (e, d2) := by
 unfold opD;simp only;rw [if_neg (fun g => g h), hd, ho];exact if_neg he
theorem op_done {nz : Int → Nd → Nd} {d : Dk} {k : Int} {path tp : ByteArray} {n : Nd} (h : (beginD d).1 = 0) {d1 d2 : Dk} (hd : (beginD d).2 = d1) (ho : ownD nz d1 k path tp n = (0, d2)) : opD nz d k path tp n = (0, endD d2) := by
 unfold opD;simp only;rw [if_neg (fun g => g h), hd, ho];exact if_pos rfl
theorem make_kind (nz : Int → Nd → Nd) (d : Dk) (path tp : ByteArray) (n : Nd) (h : (realP d.shows path).2 = 0) (h1 : (n.1 < 1 ∨ 3 < n.1 ∨ (n.1 = 1 ∧ 0 < n.2.2.2.2.2.2.size))) : ownD nz d 0 path tp n = (42, d) := by
 unfold ownD;rw [if_neg (show ¬ (0 : Int) = 6 by decide)];simp only;rw [if_neg (fun e : ¬ (realP d.shows path).2 = 0 => e h), if_pos trivial, if_pos h1]
theorem make_there (nz : Int → Nd → Nd) (d : Dk) (path tp : ByteArray) (n : Nd) (h : (realP d.shows path).2 = 0) (h1 : ¬ (n.1 < 1 ∨ 3 < n.1 ∨ (n.1 = 1 ∧ 0 < n.2.2.2.2.2.2.size))) (h2 : kindOf d.shows (realP d.shows path).1 ≠ 0) : ownD nz d 0 path tp n = (41, d) := by
 unfold ownD;rw [if_neg (show ¬ (0 : Int) = 6 by decide)];simp only;rw [if_neg (fun e : ¬ (realP d.shows path).2 = 0 => e h), if_pos trivial, if_neg h1, if_pos h2]
theorem make_full (nz : Int → Nd → Nd) (d : Dk) (path tp : ByteArray) (n : Nd) (h : (realP d.shows path).2 = 0) (h1 : ¬ (n.1 < 1 ∨ 3 < n.1 ∨ (n.1 = 1 ∧ 0 < n.2.2.2.2.2.2.size))) (h2 : kindOf d.shows (realP d.shows path).1 = 0) (h3 : d.limit < (n.2.2.2.2.2.2.size : Int) + sumO d.shows (realP d.shows path).1) : ownD nz d 0 path tp n = (50, d) := by
 unfold ownD;rw [if_neg (show ¬ (0 : Int) = 6 by decide)];simp only;rw [if_neg (fun e : ¬ (realP d.shows path).2 = 0 => e h), if_pos trivial, if_neg h1, if_neg (fun e => e h2), if_pos h3]
theorem make_ok (nz : Int → Nd → Nd) (d : Dk) (path tp : ByteArray) (n : Nd) (h : (realP d.shows path).2 = 0) (h1 : ¬ (n.1 < 1 ∨ 3 < n.1 ∨ (n.1 = 1 ∧ 0 < n.2.2.2.2.2.2.size))) (h2 : kindOf d.shows (realP d.shows path).1 = 0) (h3 : ¬ d.limit < (n.2.2.2.2.2.2.size : Int) + sumO d.shows (realP d.shows path).1) : ownD nz d 0 path tp n = (0, waitD d (0, (realP d.shows path).1, ⟨#[]⟩, nz 0 (nodeM n), false)) := by
 unfold ownD;rw [if_neg (show ¬ (0 : Int) = 6 by decide)];simp only;rw [if_neg (fun e : ¬ (realP d.shows path).2 = 0 => e h), if_pos trivial, if_neg h1, if_neg (fun e => e h2), if_neg h3]
theorem write_none (nz : Int → Nd → Nd) (d : Dk) (path tp : ByteArray) (n : Nd) (h : (realP d.shows path).2 = 0) (h1 : kindOf d.shows (realP d.shows path).1 = 0) : ownD nz d 1 path tp n = (40, d) := by
 unfold ownD;rw [if_neg (show ¬ (1 : Int) = 6 by decide)];simp only;rw [if_neg (fun e : ¬ (realP d.shows path).2 = 0 => e h), if_neg (show ¬ (1 : Int) = 0 by decide), if_pos trivial, if_pos h1]
theorem write_kind (nz : Int → Nd → Nd) (d : Dk) (path tp : ByteArray) (n : Nd) (h : (realP d.shows path).2 = 0) (h1 : ¬ kindOf d.shows (realP d.shows path).1 = 0) (h2 : kindOf d.shows (realP d.shows path).1 ≠ 2) : ownD nz d 1 path tp n = (42, d) := by
 unfold ownD;rw [if_neg (show ¬ (1 : Int) = 6 by decide)];simp only;rw [if_neg (fun e : ¬ (realP d.shows path).2 = 0 => e h), if_neg (show ¬ (1 : Int) = 0 by decide), if_pos trivial, if_neg h1, if_pos h2]
theorem sync_none (nz : Int → Nd → Nd) (d : Dk) (path tp : ByteArray) (n : Nd) (h : (realP d.shows path).2 = 0) (h1 : kindOf d.shows (realP d.shows path).1 = 0) : ownD nz d 5 path tp n = (40, d) := by
 unfold ownD;rw [if_neg (show ¬ (5 : Int) = 6 by decide)];simp only;rw [if_neg (fun e : ¬ (realP d.shows path).2 = 0 => e h), if_neg (show ¬ (5 : Int) = 0 by decide), if_neg (show ¬ (5 : Int) = 1 by decide), if_pos trivial, if_pos h1]
theorem sync_kind (nz : Int → Nd → Nd) (d : Dk) (path tp : ByteArray) (n : Nd) (h : (realP d.shows path).2 = 0) (h1 : ¬ kindOf d.shows (realP d.shows path).1 = 0) (h2 : kindOf d.shows (realP d.shows path).1 ≠ 2) : ownD nz d 5 path tp n = (42, d) := by
 unfold ownD;rw [if_neg (show ¬ (5 : Int) = 6 by decide)];simp only;rw [if_neg (fun e : ¬ (realP d.shows path).2 = 0 => e h), if_neg (show ¬ (5 : Int) = 0 by decide), if_neg (show ¬ (5 : Int) = 1 by decide), if_pos trivial, if_neg h1, if_pos h2]
theorem write_full (nz : Int → Nd → Nd) (d : Dk) (path tp : ByteArray) (n : Nd) (h : (realP d.shows path).2 = 0) (h2 : kindOf d.shows (realP d.shows path).1 = 2) (h3 : d.limit < (n.2.2.2.2.2.2.size : Int) + sumO d.shows (realP d.shows path).1) : ownD nz d 1 path tp n = (50, d) := by
 unfold ownD;rw [if_neg (show ¬ (1 : Int) = 6 by decide)];simp only;rw [if_neg (fun e : ¬ (realP d.shows path).2 = 0 => e h), if_neg (show ¬ (1 : Int) = 0 by decide), if_pos trivial, if_neg (show ¬ kindOf d.shows (realP d.shows path).1 = 0 by rw [h2]; decide), if_neg (fun e => e h2), if_pos h3]
theorem write_ok (nz : Int → Nd → Nd) (d : Dk) (path tp : ByteArray) (n : Nd) (h : (realP d.shows path).2 = 0) (h2 : kindOf d.shows (realP d.shows path).1 = 2) (h3 : ¬ d.limit < (n.2.2.2.2.2.2.size : Int) + sumO d.shows (realP d.shows path).1) : ownD nz d 1 path tp n = (0, waitD d (1, (realP d.shows path).1, ⟨#[]⟩, nz 1 (nodeM n), false)) := by
 unfold ownD;rw [if_neg (show ¬ (1 : Int) = 6 by decide)];simp only;rw [if_neg (fun e : ¬ (realP d.shows path).2 = 0 => e h), if_neg (show ¬ (1 : Int) = 0 by decide), if_pos trivial, if_neg (show ¬ kindOf d.shows (realP d.shows path).1 = 0 by rw [h2]; decide), if_neg (fun e => e h2), if_neg h3]
theorem sync_ok (nz : Int → Nd → Nd) (d : Dk) (path tp : ByteArray) (n : Nd) (h : (realP d.shows path).2 = 0) (h2 : kindOf d.shows (realP d.shows path).1 = 2) : ownD nz d 5 path tp n = (0, { d with waits := d.waits.map (sureC (realP d.shows path).1) }) := by
 unfold ownD;rw [if_neg (show ¬ (5 : Int) = 6 by decide)];simp only;rw [if_neg (fun e : ¬ (realP d.shows path).2 = 0 => e h), if_neg (show ¬ (5 : Int) = 0 by decide), if_neg (show ¬ (5 : Int) = 1 by decide), if_pos trivial, if_neg (show ¬ kindOf d.shows (realP d.shows path).1 = 0 by rw [h2]; decide), if_neg (fun e => e h2)]
theorem remove_none (nz : Int → Nd → Nd) (d : Dk) (path tp : ByteArray) (n : Nd) (h : (realP d.shows path).2 = 0) (h1 : kindOf d.shows (realP d.shows path).1 = 0) : ownD nz d 2 path tp n = (40, d) := by
 unfold ownD;rw [if_neg (show ¬ (2 : Int) = 6 by decide)];simp only;rw [if_neg (fun e : ¬ (realP d.shows path).2 = 0 => e h), if_neg (show ¬ (2 : Int) = 0 by decide), if_neg (show ¬ (2 : Int) = 1 by decide), if_neg (show ¬ (2 : Int) = 5 by decide), if_pos trivial, if_pos h1]
theorem remove_full (nz : Int → Nd → Nd) (d : Dk) (path tp : ByteArray) (n : Nd) (h : (realP d.shows path).2 = 0) (h1 : ¬ kindOf d.shows (realP d.shows path).1 = 0) (h2 : isParent d.shows (realP d.shows path).1 = true) : ownD nz d 2 path tp n = (43, d) := by
 unfold ownD;rw [if_neg (show ¬ (2 : Int) = 6 by decide)];simp only;rw [if_neg (fun e : ¬ (realP d.shows path).2 = 0 => e h), if_neg (show ¬ (2 : Int) = 0 by decide), if_neg (show ¬ (2 : Int) = 1 by decide), if_neg (show ¬ (2 : Int) = 5 by decide), if_pos trivial, if_neg h1, if_pos h2]
theorem remove_ok (nz : Int → Nd → Nd) (d : Dk) (path tp : ByteArray) (n : Nd) (h : (realP d.shows path).2 = 0) (h1 : ¬ kindOf d.shows (realP d.shows path).1 = 0) (h2 : ¬ isParent d.shows (realP d.shows path).1 = true) : ownD nz d 2 path tp n = (0, waitD d (2, (realP d.shows path).1, ⟨#[]⟩, nz 2 (nodeM n), false)) := by
 unfold ownD;rw [if_neg (show ¬ (2 : Int) = 6 by decide)];simp only;rw [if_neg (fun e : ¬ (realP d.shows path).2 = 0 => e h), if_neg (show ¬ (2 : Int) = 0 by decide), if_neg (show ¬ (2 : Int) = 1 by decide), if_neg (show ¬ (2 : Int) = 5 by decide), if_pos trivial, if_neg h1, if_neg h2]
theorem rename_to (nz : Int → Nd → Nd) (d : Dk) (path tp : ByteArray) (n : Nd) (h : (realP d.shows path).2 = 0) (h1 : (realP d.shows tp).2 ≠ 0) : ownD nz d 3 path tp n = ((realP d.shows tp).2, d) := by
 unfold ownD;rw [if_neg (show ¬ (3 : Int) = 6 by decide)];simp only;rw [if_neg (fun e : ¬ (realP d.shows path).2 = 0 => e h), if_neg (show ¬ (3 : Int) = 0 by decide), if_neg (show ¬ (3 : Int) = 1 by decide), if_neg (show ¬ (3 : Int) = 5 by decide), if_neg (show ¬ (3 : Int) = 2 by decide), if_pos trivial, if_pos h1]
theorem rename_none (nz : Int → Nd → Nd) (d : Dk) (path tp : ByteArray) (n : Nd) (h : (realP d.shows path).2 = 0) (h1 : (realP d.shows tp).2 = 0) (h2 : kindOf d.shows (realP d.shows path).1 = 0) : ownD nz d 3 path tp n = (40, d) := by
 unfold ownD;rw [if_neg (show ¬ (3 : Int) = 6 by decide)];simp only;rw [if_neg (fun e : ¬ (realP d.shows path).2 = 0 => e h), if_neg (show ¬ (3 : Int) = 0 by decide), if_neg (show ¬ (3 : Int) = 1 by decide), if_neg (show ¬ (3 : Int) = 5 by decide), if_neg (show ¬ (3 : Int) = 2 by decide), if_pos trivial, if_neg (fun e : ¬ (realP d.shows tp).2 = 0 => e h1), if_pos h2]
theorem rename_kind (nz : Int → Nd → Nd) (d : Dk) (path tp : ByteArray) (n : Nd) (h : (realP d.shows path).2 = 0) (h1 : (realP d.shows tp).2 = 0) (h2 : ¬ kindOf d.shows (realP d.shows path).1 = 0) (h3 : (kindOf d.shows (realP d.shows path).1 = 1 ∨ kindOf d.shows (realP d.shows tp).1 = 1)) : ownD nz d 3 path tp n = (42, d) := by
 unfold ownD;rw [if_neg (show ¬ (3 : Int) = 6 by decide)];simp only;rw [if_neg (fun e : ¬ (realP d.shows path).2 = 0 => e h), if_neg (show ¬ (3 : Int) = 0 by decide), if_neg (show ¬ (3 : Int) = 1 by decide), if_neg (show ¬ (3 : Int) = 5 by decide), if_neg (show ¬ (3 : Int) = 2 by decide), if_pos trivial, if_neg (fun e : ¬ (realP d.shows tp).2 = 0 => e h1), if_neg h2, if_pos h3]
theorem rename_ok (nz : Int → Nd → Nd) (d : Dk) (path tp : ByteArray) (n : Nd) (h : (realP d.shows path).2 = 0) (h1 : (realP d.shows tp).2 = 0) (h2 : ¬ kindOf d.shows (realP d.shows path).1 = 0) (h3 : ¬ (kindOf d.shows (realP d.shows path).1 = 1 ∨ kindOf d.shows (realP d.shows tp).1 = 1)) : ownD nz d 3 path tp n = (0, waitD d (3, (realP d.shows path).1, (realP d.shows tp).1, nz 3 (nodeM n), false)) := by
 unfold ownD;rw [if_neg (show ¬ (3 : Int) = 6 by decide)];simp only;rw [if_neg (fun e : ¬ (realP d.shows path).2 = 0 => e h), if_neg (show ¬ (3 : Int) = 0 by decide), if_neg (show ¬ (3 : Int) = 1 by decide), if_neg (show ¬ (3 : Int) = 5 by decide), if_neg (show ¬ (3 : Int) = 2 by decide), if_pos trivial, if_neg (fun e : ¬ (realP d.shows tp).2 = 0 => e h1), if_neg h2, if_neg h3]
theorem meta_none (nz : Int → Nd → Nd) (d : Dk) (path tp : ByteArray) (n : Nd) (h : (realP d.shows path).2 = 0) (h1 : kindOf d.shows (realP d.shows path).1 = 0) : ownD nz d 4 path tp n = (40, d) := by
 unfold ownD;rw [if_neg (show ¬ (4 : Int) = 6 by decide)];simp only;rw [if_neg (fun e : ¬ (realP d.shows path).2 = 0 => e h), if_neg (show ¬ (4 : Int) = 0 by decide), if_neg (show ¬ (4 : Int) = 1 by decide), if_neg (show ¬ (4 : Int) = 5 by decide), if_neg (show ¬ (4 : Int) = 2 by decide), if_neg (show ¬ (4 : Int) = 3 by decide), if_pos h1]
theorem meta_ok (nz : Int → Nd → Nd) (d : Dk) (path tp : ByteArray) (n : Nd) (h : (realP d.shows path).2 = 0) (h1 : ¬ kindOf d.shows (realP d.shows path).1 = 0) : ownD nz d 4 path tp n = (0, waitD d (4, (realP d.shows path).1, ⟨#[]⟩, nz 4 (nodeM n), false)) := by
 unfold ownD;rw [if_neg (show ¬ (4 : Int) = 6 by decide)];simp only;rw [if_neg (fun e : ¬ (realP d.shows path).2 = 0 => e h), if_neg (show ¬ (4 : Int) = 0 by decide), if_neg (show ¬ (4 : Int) = 1 by decide), if_neg (show ¬ (4 : Int) = 5 by decide), if_neg (show ¬ (4 : Int) = 2 by decide), if_neg (show ¬ (4 : Int) = 3 by decide), if_neg h1]
end Go.Proofs.YtibmfjacfbpfgaaGreatDoor.OwnLeaf
