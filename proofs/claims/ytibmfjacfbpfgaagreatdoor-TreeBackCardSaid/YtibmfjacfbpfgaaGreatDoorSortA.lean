/- plain lists: what it is to be sorted and stable; two such are one. -/
import Derived.Test.YtibmfjacfbpfgaaGreatDoorItem
set_option linter.unusedVariables false
set_option linter.unusedSimpArgs false
namespace Go.Proofs.YtibmfjacfbpfgaaGreatDoor.Stab
/-- A strict weak order. -/
structure SWO {α : Type} (lt : α → α → Bool) : Prop where
 irr : ∀ x, lt x x = false
 asym : ∀ x y, lt x y = true → lt y x = false
 trans : ∀ x y z, lt x y = true → lt y z = true → lt x z = true
 ntrans : ∀ x y z, lt x y = false → lt y z = false → lt x z = false
section
variable {α : Type} {lt : α → α → Bool}
def eqv (lt : α → α → Bool) (c x : α) : Bool := !lt c x && !lt x c
def Sorted (lt : α → α → Bool) (l : List α) : Prop := l.Pairwise (fun x y => lt y x = false)
def Sim (lt : α → α → Bool) (l m : List α) : Prop := l.length = m.length ∧ ∀ c, l.filter (eqv lt c) = m.filter (eqv lt c)
theorem Sim.refl (l : List α) : Sim lt l l := ⟨rfl, fun _ => rfl⟩
theorem Sim.symm {l m : List α} (h : Sim lt l m) : Sim lt m l := ⟨h.1.symm, fun c => (h.2 c).symm⟩
theorem Sim.trans {l m n : List α} (h : Sim lt l m) (k : Sim lt m n) : Sim lt l n := ⟨h.1.trans k.1, fun c => (h.2 c).trans (k.2 c)⟩
theorem Sim.app {a b c d : List α} (h : Sim lt a b) (k : Sim lt c d) : Sim lt (a ++ c) (b ++ d) :=
 ⟨by rw [List.length_append, List.length_append, h.1, k.1], fun x => by rw [List.filter_append, List.filter_append, h.2 x, k.2 x]⟩
theorem eqv_self (hw : SWO lt) (x : α) : eqv lt x x = true := by simp [eqv, hw.irr]
theorem Sim.mem (hw : SWO lt) {l m : List α} (h : Sim lt l m) {x : α} (hx : x ∈ l) : x ∈ m := by
 have h1 : x ∈ l.filter (eqv lt x) := List.mem_filter.2 ⟨hx, eqv_self hw x⟩
 rw [h.2 x] at h1
 exact (List.mem_filter.1 h1).1
theorem eqv_ntl (hw : SWO lt) {c x y : α} (h1 : eqv lt c x = true) (h2 : eqv lt c y = true) : eqv lt x y = true := by
 simp only [eqv, Bool.and_eq_true, Bool.not_eq_true'] at *
 exact ⟨hw.ntrans _ _ _ h1.2 h2.1, hw.ntrans _ _ _ h2.2 h1.1⟩
theorem Sim.swap (hw : SWO lt) {u v : List α} (h : ∀ x ∈ u, ∀ y ∈ v, lt x y = true ∨ lt y x = true) : Sim lt (u ++ v) (v ++ u) := by
 refine ⟨by rw [List.length_append, List.length_append, Nat.add_comm], fun c => ?_⟩
 rw [List.filter_append, List.filter_append]
 by_cases hu : u.filter (eqv lt c) = []
 ·
  rw [hu, List.nil_append, List.append_nil]
 ·
  have hv : v.filter (eqv lt c) = [] := by
   obtain ⟨x, hx⟩ := List.exists_mem_of_ne_nil _ hu
   obtain ⟨hx1, hx2⟩ := List.mem_filter.1 hx
   refine List.filter_eq_nil_iff.2 (fun y hy hc => ?_)
   have h3 := eqv_ntl hw hx2 hc
   simp only [eqv, Bool.and_eq_true, Bool.not_eq_true'] at h3
   rcases h x hx1 y hy with h4 | h4
   ·
    rw [h3.1] at h4; cases h4
   ·
    rw [h3.2] at h4; cases h4
  rw [hv, List.nil_append, List.append_nil]
theorem uniq (hw : SWO lt) : ∀ l m : List α, Sorted lt l → Sorted lt m → Sim lt l m → l = m
 | [], [], _, _, _ => rfl
 | [], y :: m, _, _, h => by cases h.1
 | x :: l, [], _, _, h => by cases h.1
 | x :: l, y :: m, hl, hm, h => by
  have hy : y ∈ x :: l := h.symm.mem hw List.mem_cons_self
  have hx : x ∈ y :: m := h.mem hw List.mem_cons_self
  have hl' := List.pairwise_cons.1 hl
  have hm' := List.pairwise_cons.1 hm
  have h1 : lt y x = false := by
   rcases List.mem_cons.1 hy with e | e
   ·
    rw [e]; exact hw.irr _
   ·
    exact hl'.1 y e
  have h2 : lt x y = false := by
   rcases List.mem_cons.1 hx with e | e
   ·
    rw [e]; exact hw.irr _
   ·
    exact hm'.1 x e
  have hf := h.2 x
  rw [List.filter_cons_of_pos (eqv_self hw x), List.filter_cons_of_pos (by simp [eqv, h1, h2])] at hf
  have e : x = y := (List.cons.inj hf).1
  subst e
  have ht : l = m := uniq hw l m hl'.2 hm'.2 ⟨by have := h.1; simp at this; exact this, fun c => by
   have := h.2 c
   by_cases hc : eqv lt c x = true
   ·
    rw [List.filter_cons_of_pos hc, List.filter_cons_of_pos hc] at this
    exact (List.cons.inj this).2
   ·
    rw [List.filter_cons_of_neg hc, List.filter_cons_of_neg hc] at this
    exact this⟩
  rw [ht]
/-- Sorted, of the same elements, those that are equal in their order. -/
def Stb (lt : α → α → Bool) (l m : List α) : Prop := Sim lt l m ∧ Sorted lt m
theorem Stb.one (hw : SWO lt) {l m n : List α} (h : Stb lt l m) (k : Stb lt l n) : m = n := uniq hw _ _ h.2 k.2 (h.1.symm.trans k.1)
theorem sorted_app {u v : List α} (h1 : Sorted lt u) (h2 : Sorted lt v) (h : ∀ x ∈ u, ∀ y ∈ v, lt y x = false) : Sorted lt (u ++ v) := List.pairwise_append.2 ⟨h1, h2, h⟩
theorem sorted_last {u : List α} (hw : SWO lt) (h : Sorted lt u) {x z : α} (hx : x ∈ u) (hz : u.getLast? = some z) : lt z x = false := by
 obtain ⟨u0, rfl⟩ := List.getLast?_eq_some_iff.1 hz
 rcases List.mem_append.1 hx with e | e
 ·
  exact (List.pairwise_append.1 h).2.2 x e z List.mem_cons_self
 ·
  rw [List.mem_singleton.1 e]; exact hw.irr _
theorem sorted_head {u : List α} (hw : SWO lt) (h : Sorted lt u) {x z : α} (hx : x ∈ u) (hz : u.head? = some z) : lt x z = false := by
 cases u with
 | nil => cases hx
 | cons y u =>
  injection hz with hz
  subst hz
  rcases List.mem_cons.1 hx with e | e
  ·
   rw [e]; exact hw.irr _
  ·
   exact (List.pairwise_cons.1 h).1 x e
/-- Two sorted rows, cut crosswise: what is left of both cuts stands ahead. -/
theorem cross (hw : SWO lt) {u1 u2 v1 v2 s1 s2 : List α} (hu : Sorted lt (u1 ++ u2)) (hv : Sorted lt (v1 ++ v2))
  (hA : ∀ x y, u1.getLast? = some x → v2.head? = some y → lt y x = false) (hB : ∀ y x, v1.getLast? = some y → u2.head? = some x → lt y x = true)
  (h1 : Stb lt (u1 ++ v1) s1) (h2 : Stb lt (u2 ++ v2) s2) : Stb lt (u1 ++ u2 ++ (v1 ++ v2)) (s1 ++ s2) := by
 obtain ⟨hu1, hu2, hu3⟩ := List.pairwise_append.1 hu
 obtain ⟨hv1, hv2, hv3⟩ := List.pairwise_append.1 hv
 have hA' : ∀ x ∈ u1, ∀ y ∈ v2, lt y x = false := by
  intro x hx y hy
  cases hl : u1.getLast? with
  | none => rw [List.getLast?_eq_none_iff.1 hl] at hx; cases hx
  | some z =>
   cases hh : v2.head? with
   | none => rw [List.head?_eq_none_iff.1 hh] at hy; cases hy
   | some w => exact hw.ntrans _ _ _ (hw.ntrans _ _ _ (sorted_head hw hv2 hy hh) (hA z w hl hh)) (sorted_last hw hu1 hx hl)
 have hB' : ∀ y ∈ v1, ∀ x ∈ u2, lt y x = true := by
  intro y hy x hx
  cases hl : v1.getLast? with
  | none => rw [List.getLast?_eq_none_iff.1 hl] at hy; cases hy
  | some z =>
   cases hh : u2.head? with
   | none => rw [List.head?_eq_none_iff.1 hh] at hx; cases hx
   | some w =>
    have h1 := hB z w hl hh
    have h2 := sorted_last hw hv1 hy hl
    have h3 := sorted_head hw hu2 hx hh
    cases h4 : lt y x with
    | true => rfl
    | false =>
     have := hw.ntrans _ _ _ (hw.ntrans _ _ _ h2 h4) h3
     rw [h1] at this
     cases this
 refine ⟨?_, sorted_app h1.2 h2.2 (fun x hx y hy => ?_)⟩
 ·
  have e1 : u1 ++ u2 ++ (v1 ++ v2) = u1 ++ ((u2 ++ v1) ++ v2) := by simp
  have e2 : (u1 ++ v1) ++ (u2 ++ v2) = u1 ++ ((v1 ++ u2) ++ v2) := by simp
  rw [e1]
  refine Sim.trans ?_ (h1.1.app h2.1)
  rw [e2]
  exact (Sim.refl _).app ((Sim.swap hw (fun x hx y hy => .inr (hB' y hy x hx))).app (Sim.refl _))
 ·
  have hx' := h1.1.symm.mem hw hx
  have hy' := h2.1.symm.mem hw hy
  rcases List.mem_append.1 hx' with a | a <;> rcases List.mem_append.1 hy' with b | b
  ·
   exact hu3 x a y b
  ·
   exact hA' x a y b
  ·
   exact hw.asym _ _ (hB' x a y b)
  ·
   exact hv3 x a y b
theorem sorted_put (hw : SWO lt) {p r : List α} {x : α} (h : Sorted lt (p ++ r)) (h1 : ∀ y, p.getLast? = some y → lt x y = false) (h2 : ∀ y ∈ r, lt x y = true) : Sorted lt (p ++ x :: r) := by
 obtain ⟨a, b, c⟩ := List.pairwise_append.1 h
 refine sorted_app a (List.pairwise_cons.2 ⟨fun y hy => hw.asym _ _ (h2 y hy), b⟩) (fun z hz y hy => ?_)
 rcases List.mem_cons.1 hy with e | e
 ·
  rw [e]
  cases hl : p.getLast? with
  | none => rw [List.getLast?_eq_none_iff.1 hl] at hz; cases hz
  | some w => exact hw.ntrans _ _ _ (h1 w hl) (sorted_last hw a hz hl)
 ·
  exact c z hz y e
end
end Go.Proofs.YtibmfjacfbpfgaaGreatDoor.Stab
/- plain lists: swaps, insertion, rotation, blocks that are sorted. -/
namespace Go.Proofs.YtibmfjacfbpfgaaGreatDoor.SortLaw
open Stab
section
variable {α : Type} {lt : α → α → Bool}
/-- Two places are exchanged. -/
def swapL (l : List α) (i j : Nat) (x y : α) : List α := (l.set i y).set j x
theorem at_mid (p : List α) (x : α) (q : List α) : (p ++ x :: q)[p.length]? = some x := by
 rw [List.getElem?_append_right (Nat.le_refl _), Nat.sub_self]; rfl
theorem at_mid' {p : List α} {x : α} {q l : List α} {k : Nat} (hl : l = p ++ x :: q) (hk : k = p.length) : l[k]? = some x := by
 rw [hl, hk]; exact at_mid p x q
theorem set_mid (p : List α) (x y : α) (q : List α) : (p ++ x :: q).set p.length y = p ++ y :: q := by
 rw [List.set_append, if_neg (Nat.lt_irrefl _), Nat.sub_self]; rfl
theorem set_mid' {p : List α} {x : α} {q l : List α} {k : Nat} (y : α) (hl : l = p ++ x :: q) (hk : k = p.length) : l.set k y = p ++ y :: q := by
 rw [hl, hk]; exact set_mid p x y q
/-- The two places have a row between them. -/
theorem swap_mid (p m q : List α) (x y : α) : swapL (p ++ x :: (m ++ y :: q)) p.length (p.length + (m.length + 1)) x y = p ++ y :: (m ++ x :: q) := by
 unfold swapL
 rw [set_mid]
 refine (set_mid' (p := p ++ y :: m) (x := y) (q := q) x (by simp) (by simp)).trans (by simp)
theorem swap_mid' {p m q l : List α} {x y : α} {i j : Nat} (hl : l = p ++ x :: (m ++ y :: q)) (hi : i = p.length) (hj : j = i + (m.length + 1)) : l[i]? = some x ∧ l[j]? = some y ∧ swapL l i j x y = p ++ y :: (m ++ x :: q) ∧ swapL l j i y x = p ++ y :: (m ++ x :: q) := by
 have h1 : l[i]? = some x := at_mid' hl hi
 have h2 : l[j]? = some y := at_mid' (p := p ++ x :: m) (q := q) (by rw [hl]; simp) (by rw [hj, hi]; simp)
 refine ⟨h1, h2, ?_, ?_⟩
 ·
  rw [hl, hj, hi]; exact swap_mid p m q x y
 ·
  unfold swapL
  rw [List.set_comm _ _ (by omega), ← swap_mid p m q x y, hl, hj, hi]
  rfl
theorem Sorted.nil : Sorted lt ([] : List α) := List.Pairwise.nil
theorem Sorted.one (x : α) : Sorted lt [x] := List.pairwise_singleton _ _
theorem Sorted.left {u v : List α} (h : Sorted lt (u ++ v)) : Sorted lt u := (List.pairwise_append.1 h).1
theorem Sorted.right {u v : List α} (h : Sorted lt (u ++ v)) : Sorted lt v := (List.pairwise_append.1 h).2.1
theorem Stb.refl {l : List α} (h : Sorted lt l) : Stb lt l l := ⟨Sim.refl l, h⟩
theorem Sim.mid {p q u v : List α} (h : Sim lt u v) : Sim lt (p ++ (u ++ q)) (p ++ (v ++ q)) := (Sim.refl p).app (h.app (Sim.refl q))
/-- One more is moved into a sorted row: it stands behind all that it doesn't stand ahead of. -/
theorem ins_done (hw : SWO lt) {s p r l : List α} {x : α} (hs : Sorted lt (p ++ r)) (hl : Stb lt l (p ++ r)) (h1 : ∀ y, p.getLast? = some y → lt x y = false) (h2 : ∀ y ∈ r, lt x y = true) : Stb lt (l ++ [x]) (p ++ x :: r) := by
 refine ⟨?_, sorted_put hw hs h1 h2⟩
 refine Sim.trans (hl.1.app (Sim.refl [x])) ?_
 rw [List.append_assoc]
 refine (Sim.refl p).app (Sim.swap hw (fun y hy z hz => ?_))
 rw [List.mem_singleton.1 hz]
 exact .inr (h2 y hy)
/-- One ahead of a sorted row: its place in it. -/
theorem lead_done (hw : SWO lt) {v1 v2 : List α} {x : α} (hs : Sorted lt (v1 ++ v2)) (h1 : ∀ y, v1.getLast? = some y → lt y x = true) (h2 : ∀ y, v2.head? = some y → lt y x = false) : Stb lt (x :: (v1 ++ v2)) (v1 ++ x :: v2) := by
 obtain ⟨a, b, c⟩ := List.pairwise_append.1 hs
 have k1 : ∀ y ∈ v1, lt y x = true := by
  intro y hy
  cases hl : v1.getLast? with
  | none => rw [List.getLast?_eq_none_iff.1 hl] at hy; cases hy
  | some z =>
   cases h : lt y x with
   | true => rfl
   | false =>
    have := hw.ntrans _ _ _ (sorted_last hw a hy hl) h
    rw [h1 z hl] at this
    cases this
 have k2 : ∀ y ∈ v2, lt y x = false := by
  intro y hy
  cases hh : v2.head? with
  | none => rw [List.head?_eq_none_iff.1 hh] at hy; cases hy
  | some z => exact hw.ntrans _ _ _ (sorted_head hw b hy hh) (h2 z hh)
 refine ⟨?_, sorted_app a (List.pairwise_cons.2 ⟨fun y hy => k2 y hy, b⟩) (fun y hy z hz => ?_)⟩
 ·
  have e1 : x :: (v1 ++ v2) = ([x] ++ v1) ++ v2 := by simp
  have e2 : v1 ++ x :: v2 = (v1 ++ [x]) ++ v2 := by simp
  rw [e1, e2]
  refine Sim.app (Sim.swap hw (fun a ha b hb => ?_)) (Sim.refl _)
  rw [List.mem_singleton.1 ha]
  exact .inr (k1 b hb)
 ·
  rcases List.mem_cons.1 hz with e | e
  ·
   rw [e]; exact hw.asym _ _ (k1 y hy)
  ·
   exact c y hy z e
/-- One behind a sorted row: its place in it. -/
theorem tail_done (hw : SWO lt) {u1 u2 : List α} {y : α} (hs : Sorted lt (u1 ++ u2)) (h1 : ∀ x, u1.getLast? = some x → lt y x = false) (h2 : ∀ x, u2.head? = some x → lt y x = true) : Stb lt (u1 ++ u2 ++ [y]) (u1 ++ y :: u2) := by
 obtain ⟨a, b, c⟩ := List.pairwise_append.1 hs
 refine ins_done hw (s := []) hs (Stb.refl hs) h1 (fun x hx => ?_)
 cases hh : u2.head? with
 | none => rw [List.head?_eq_none_iff.1 hh] at hx; cases hx
 | some z =>
  cases h : lt y x with
  | true => rfl
  | false =>
   have := hw.ntrans _ _ _ h (sorted_head hw b hx hh)
   rw [h2 z hh] at this
   cases this
/-- A row's piece. -/
def seg (l : List α) (a b : Nat) : List α := (l.drop a).take (b - a)
theorem seg_len {l : List α} {a b : Nat} (hb : b ≤ l.length) : (seg l a b).length = b - a := by
 unfold seg; rw [List.length_take, List.length_drop]; omega
theorem seg_whole (l : List α) {b : Nat} (hb : l.length ≤ b) : seg l 0 b = l := by
 unfold seg; rw [List.drop_zero, Nat.sub_zero, List.take_of_length_le hb]
theorem cut3 (l : List α) {a b : Nat} (h : a ≤ b) : l = l.take a ++ (seg l a b ++ l.drop b) := by
 unfold seg
 have e : (l.drop a).drop (b - a) = l.drop b := by rw [List.drop_drop]; congr 1; omega
 rw [← e, List.take_append_drop, List.take_append_drop]
theorem seg_split (l : List α) {a m b : Nat} (h1 : a ≤ m) (h2 : m ≤ b) : seg l a b = seg l a m ++ seg l m b := by
 unfold seg
 have e : l.drop m = (l.drop a).drop (m - a) := by rw [List.drop_drop]; congr 1; omega
 rw [e, show b - a = (m - a) + (b - m) by omega, List.take_add]
theorem seg_mid {p s q : List α} {a b : Nat} (ha : a = p.length) (hb : b = a + s.length) : seg (p ++ (s ++ q)) a b = s := by
 unfold seg
 rw [ha, List.drop_left, hb, ha, show p.length + s.length - p.length = s.length by omega, List.take_left]
theorem seg_over (l : List α) {a b : Nat} (h : l.length ≤ b) : seg l a b = l.drop a := by
 unfold seg; rw [List.take_of_length_le (by rw [List.length_drop]; omega)]
/-- Blocks of k are sorted from place a on. -/
def Blocks (lt : α → α → Bool) (k a : Nat) (l : List α) : Prop := ∀ i, Sorted lt (seg l (a + i * k) (a + i * k + k))
theorem Blocks.next {k a : Nat} {l : List α} (h : Blocks lt k a l) : Blocks lt k (a + k) l := by
 intro i
 have := h (i + 1)
 rw [show a + (i + 1) * k = a + k + i * k by rw [Nat.add_mul]; omega] at this
 exact this
theorem Blocks.cons {k a : Nat} {l : List α} (h0 : Sorted lt (seg l a (a + k))) (h : Blocks lt k (a + k) l) : Blocks lt k a l := by
 intro i
 cases i with
 | zero => simpa using h0
 | succ i =>
  have := h i
  rw [show a + (i + 1) * k = a + k + i * k by rw [Nat.add_mul]; omega]
  exact this
/-- What stands ahead of a place doesn't matter. -/
theorem Blocks.alike {k a : Nat} {l m : List α} (h : Blocks lt k a l) (e : l.drop a = m.drop a) : Blocks lt k a m := by
 intro i
 have h1 := h i
 have e2 : ∀ n : List α, n.drop (a + i * k) = (n.drop a).drop (i * k) := fun n => by rw [List.drop_drop]
 unfold seg at h1 ⊢
 rw [e2] at h1 ⊢
 rw [← e]
 exact h1
/-- Blocks of k up to place a. -/
def Ahead (lt : α → α → Bool) (k a : Nat) (l : List α) : Prop := ∀ i, (i + 1) * k ≤ a → Sorted lt (seg l (i * k) (i * k + k))
theorem Ahead.zero {k : Nat} {l : List α} (hk : 0 < k) : Ahead lt k 0 l := by
 intro i h
 rw [Nat.add_mul] at h
 omega
theorem Ahead.snoc {k t : Nat} {l : List α} (hk : 0 < k) (h : Ahead lt k (t * k) l) (h1 : Sorted lt (seg l (t * k) (t * k + k))) : Ahead lt k ((t + 1) * k) l := by
 intro i hi
 have hi' : i + 1 ≤ t + 1 := Nat.le_of_mul_le_mul_right hi hk
 rcases Nat.lt_or_ge i t with hlt | hge
 ·
  exact h i (Nat.mul_le_mul_right k (by omega))
 ·
  have : i = t := by omega
  rw [this]; exact h1
theorem Ahead.alike {k a : Nat} {l m : List α} (h : Ahead lt k a l) (e : l.take a = m.take a) : Ahead lt k a m := by
 intro i hi
 have h1 := h i hi
 have e2 : ∀ n : List α, seg n (i * k) (i * k + k) = seg (n.take a) (i * k) (i * k + k) := fun n => by
  unfold seg
  rw [Nat.add_mul] at hi
  rw [List.drop_take, List.take_take]
  congr 1
  omega
 rw [e2] at h1 ⊢
 rw [← e]
 exact h1
theorem Ahead.whole {k t : Nat} {l : List α} (h : Ahead lt k (t * k) l) (hr : Sorted lt (seg l (t * k) (t * k + k))) (hl : l.length ≤ t * k + k) : Blocks lt k 0 l := by
 intro i
 rw [Nat.zero_add]
 rcases Nat.lt_or_ge i t with hlt | hge
 ·
  exact h i (Nat.mul_le_mul_right k (by omega))
 ·
  rcases Nat.lt_or_ge t i with hgt | hle
  ·
   have : t * k + k ≤ i * k := by
    have := Nat.mul_le_mul_right k (show t + 1 ≤ i by omega)
    rw [Nat.add_mul] at this
    omega
   unfold seg
   rw [List.drop_of_length_le (by omega)]
   simpa using Sorted.nil
  ·
   have : i = t := by omega
   rw [this]; exact hr
theorem Blocks.whole {k : Nat} {l : List α} (h : Blocks lt k 0 l) (hl : l.length ≤ k) : Sorted lt l := by
 have := h 0
 rw [Nat.zero_mul, Nat.zero_add, Nat.zero_add, seg_whole l hl] at this
 exact this
end
end Go.Proofs.YtibmfjacfbpfgaaGreatDoor.SortLaw
