/- plain lists: swaps, insertion, rotation, blocks that are sorted. -/
import Derived.Test.YtpjjooiamdfmfaaGreatDoorStab
set_option linter.unusedVariables false
set_option linter.unusedSimpArgs false
namespace Go.Proofs.YtpjjooiamdfmfaaGreatDoor.SortLaw
open Go.Proofs.YtpjjooiamdfmfaaGreatDoor.Stab

section
variable {α : Type} {lt : α → α → Bool}
/-- Two places are exchanged. -/
def swapL (l : List α) (i j : Nat) (x y : α) : List α := (l.set i y).set j x
theorem at_mid (p : List α) (x : α) (q : List α) : (p ++ x :: q)[p.length]? = some x := by
  rw [List.getElem?_append_right (Nat.le_refl _), Nat.sub_self]; rfl
theorem at_mid' {p : List α} {x : α} {q l : List α} {k : Nat} (hl : l = p ++ x :: q) (hk : k = p.length) : l[k]? = some x := by
  rw [hl, hk]; exact at_mid p x q
theorem set_mid (p : List α) (x y : α) (q : List α) : (p ++ x :: q).set p.length y = p ++ y :: q := by
  rw [List.set_append, if_neg (Nat.lt_irrefl _), Nat.sub_self]; rfl
theorem set_mid' {p : List α} {x : α} {q l : List α} {k : Nat} (y : α) (hl : l = p ++ x :: q) (hk : k = p.length) : l.set k y = p ++ y :: q := by
  rw [hl, hk]; exact set_mid p x y q
/-- The two places have a row between them. -/
theorem swap_mid (p m q : List α) (x y : α) : swapL (p ++ x :: (m ++ y :: q)) p.length (p.length + (m.length + 1)) x y = p ++ y :: (m ++ x :: q) := by
  unfold swapL
  rw [set_mid]
  refine (set_mid' (p := p ++ y :: m) (x := y) (q := q) x (by simp) (by simp)).trans (by simp)
theorem swap_mid' {p m q l : List α} {x y : α} {i j : Nat} (hl : l = p ++ x :: (m ++ y :: q)) (hi : i = p.length) (hj : j = i + (m.length + 1)) : l[i]? = some x ∧ l[j]? = some y ∧ swapL l i j x y = p ++ y :: (m ++ x :: q) ∧ swapL l j i y x = p ++ y :: (m ++ x :: q) := by
  have h1 : l[i]? = some x := at_mid' hl hi
  have h2 : l[j]? = some y := at_mid' (p := p ++ x :: m) (q := q) (by rw [hl]; simp) (by rw [hj, hi]; simp)
  refine ⟨h1, h2, ?_, ?_⟩
  · rw [hl, hj, hi]; exact swap_mid p m q x y
  · unfold swapL
    rw [List.set_comm _ _ (by omega), ← swap_mid p m q x y, hl, hj, hi]
    rfl
theorem Sorted.nil : Sorted lt ([] : List α) := List.Pairwise.nil
theorem Sorted.one (x : α) : Sorted lt [x] := List.pairwise_singleton _ _
theorem Sorted.left {u v : List α} (h : Sorted lt (u ++ v)) : Sorted lt u := (List.pairwise_append.1 h).1
theorem Sorted.right {u v : List α} (h : Sorted lt (u ++ v)) : Sorted lt v := (List.pairwise_append.1 h).2.1
theorem Stb.refl {l : List α} (h : Sorted lt l) : Stb lt l l := ⟨Sim.refl l, h⟩
theorem Sim.mid {p q u v : List α} (h : Sim lt u v) : Sim lt (p ++ (u ++ q)) (p ++ (v ++ q)) := (Sim.refl p).app (h.app (Sim.refl q))
/-- One more is moved into a sorted row: it stands behind all that it doesn't stand ahead of. -/
theorem ins_done (hw : SWO lt) {s p r l : List α} {x : α} (hs : Sorted lt (p ++ r)) (hl : Stb lt l (p ++ r)) (h1 : ∀ y, p.getLast? = some y → lt x y = false) (h2 : ∀ y ∈ r, lt x y = true) : Stb lt (l ++ [x]) (p ++ x :: r) := by
  refine ⟨?_, sorted_put hw hs h1 h2⟩
  refine Sim.trans (hl.1.app (Sim.refl [x])) ?_
  rw [List.append_assoc]
  refine (Sim.refl p).app (Sim.swap hw (fun y hy z hz => ?_))
  rw [List.mem_singleton.1 hz]
  exact .inr (h2 y hy)
/-- One ahead of a sorted row: its place in it. -/
theorem lead_done (hw : SWO lt) {v1 v2 : List α} {x : α} (hs : Sorted lt (v1 ++ v2)) (h1 : ∀ y, v1.getLast? = some y → lt y x = true) (h2 : ∀ y, v2.head? = some y → lt y x = false) : Stb lt (x :: (v1 ++ v2)) (v1 ++ x :: v2) := by
  obtain ⟨a, b, c⟩ := List.pairwise_append.1 hs
  have k1 : ∀ y ∈ v1, lt y x = true := by
    intro y hy
    cases hl : v1.getLast? with
    | none => rw [List.getLast?_eq_none_iff.1 hl] at hy; cases hy
    | some z =>
      cases h : lt y x with
      | true => rfl
      | false =>
        have := hw.ntrans _ _ _ (sorted_last hw a hy hl) h
        rw [h1 z hl] at this
        cases this
  have k2 : ∀ y ∈ v2, lt y x = false := by
    intro y hy
    cases hh : v2.head? with
    | none => rw [List.head?_eq_none_iff.1 hh] at hy; cases hy
    | some z => exact hw.ntrans _ _ _ (sorted_head hw b hy hh) (h2 z hh)
  refine ⟨?_, sorted_app a (List.pairwise_cons.2 ⟨fun y hy => k2 y hy, b⟩) (fun y hy z hz => ?_)⟩
  · have e1 : x :: (v1 ++ v2) = ([x] ++ v1) ++ v2 := by simp
    have e2 : v1 ++ x :: v2 = (v1 ++ [x]) ++ v2 := by simp
    rw [e1, e2]
    refine Sim.app (Sim.swap hw (fun a ha b hb => ?_)) (Sim.refl _)
    rw [List.mem_singleton.1 ha]
    exact .inr (k1 b hb)
  · rcases List.mem_cons.1 hz with e | e
    · rw [e]; exact hw.asym _ _ (k1 y hy)
    · exact c y hy z e
/-- One behind a sorted row: its place in it. -/
theorem tail_done (hw : SWO lt) {u1 u2 : List α} {y : α} (hs : Sorted lt (u1 ++ u2)) (h1 : ∀ x, u1.getLast? = some x → lt y x = false) (h2 : ∀ x, u2.head? = some x → lt y x = true) : Stb lt (u1 ++ u2 ++ [y]) (u1 ++ y :: u2) := by
  obtain ⟨a, b, c⟩ := List.pairwise_append.1 hs
  refine ins_done hw (s := []) hs (Stb.refl hs) h1 (fun x hx => ?_)
  cases hh : u2.head? with
  | none => rw [List.head?_eq_none_iff.1 hh] at hx; cases hx
  | some z =>
    cases h : lt y x with
    | true => rfl
    | false =>
      have := hw.ntrans _ _ _ h (sorted_head hw b hx hh)
      rw [h2 z hh] at this
      cases this
/-- A row's piece. -/
def seg (l : List α) (a b : Nat) : List α := (l.drop a).take (b - a)
theorem seg_len {l : List α} {a b : Nat} (hb : b ≤ l.length) : (seg l a b).length = b - a := by
  unfold seg; rw [List.length_take, List.length_drop]; omega
theorem seg_whole (l : List α) {b : Nat} (hb : l.length ≤ b) : seg l 0 b = l := by
  unfold seg; rw [List.drop_zero, Nat.sub_zero, List.take_of_length_le hb]
theorem cut3 (l : List α) {a b : Nat} (h : a ≤ b) : l = l.take a ++ (seg l a b ++ l.drop b) := by
  unfold seg
  have e : (l.drop a).drop (b - a) = l.drop b := by rw [List.drop_drop]; congr 1; omega
  rw [← e, List.take_append_drop, List.take_append_drop]
theorem seg_split (l : List α) {a m b : Nat} (h1 : a ≤ m) (h2 : m ≤ b) : seg l a b = seg l a m ++ seg l m b := by
  unfold seg
  have e : l.drop m = (l.drop a).drop (m - a) := by rw [List.drop_drop]; congr 1; omega
  rw [e, show b - a = (m - a) + (b - m) by omega, List.take_add]
theorem seg_mid {p s q : List α} {a b : Nat} (ha : a = p.length) (hb : b = a + s.length) : seg (p ++ (s ++ q)) a b = s := by
  unfold seg
  rw [ha, List.drop_left, hb, ha, show p.length + s.length - p.length = s.length by omega, List.take_left]
theorem seg_over (l : List α) {a b : Nat} (h : l.length ≤ b) : seg l a b = l.drop a := by
  unfold seg; rw [List.take_of_length_le (by rw [List.length_drop]; omega)]
/-- Blocks of k are sorted from place a on. -/
def Blocks (lt : α → α → Bool) (k a : Nat) (l : List α) : Prop := ∀ i, Sorted lt (seg l (a + i * k) (a + i * k + k))
theorem Blocks.next {k a : Nat} {l : List α} (h : Blocks lt k a l) : Blocks lt k (a + k) l := by
  intro i
  have := h (i + 1)
  rw [show a + (i + 1) * k = a + k + i * k by rw [Nat.add_mul]; omega] at this
  exact this
theorem Blocks.cons {k a : Nat} {l : List α} (h0 : Sorted lt (seg l a (a + k))) (h : Blocks lt k (a + k) l) : Blocks lt k a l := by
  intro i
  cases i with
  | zero => simpa using h0
  | succ i =>
    have := h i
    rw [show a + (i + 1) * k = a + k + i * k by rw [Nat.add_mul]; omega]
    exact this
/-- What stands ahead of a place doesn't matter. -/
theorem Blocks.alike {k a : Nat} {l m : List α} (h : Blocks lt k a l) (e : l.drop a = m.drop a) : Blocks lt k a m := by
  intro i
  have h1 := h i
  have e2 : ∀ n : List α, n.drop (a + i * k) = (n.drop a).drop (i * k) := fun n => by rw [List.drop_drop]
  unfold seg at h1 ⊢
  rw [e2] at h1 ⊢
  rw [← e]
  exact h1
/-- Blocks of k up to place a. -/
def Ahead (lt : α → α → Bool) (k a : Nat) (l : List α) : Prop := ∀ i, (i + 1) * k ≤ a → Sorted lt (seg l (i * k) (i * k + k))
theorem Ahead.zero {k : Nat} {l : List α} (hk : 0 < k) : Ahead lt k 0 l := by
  intro i h
  rw [Nat.add_mul] at h
  omega
theorem Ahead.snoc {k t : Nat} {l : List α} (hk : 0 < k) (h : Ahead lt k (t * k) l) (h1 : Sorted lt (seg l (t * k) (t * k + k))) : Ahead lt k ((t + 1) * k) l := by
  intro i hi
  have hi' : i + 1 ≤ t + 1 := Nat.le_of_mul_le_mul_right hi hk
  rcases Nat.lt_or_ge i t with hlt | hge
  · exact h i (Nat.mul_le_mul_right k (by omega))
  · have : i = t := by omega
    rw [this]; exact h1
theorem Ahead.alike {k a : Nat} {l m : List α} (h : Ahead lt k a l) (e : l.take a = m.take a) : Ahead lt k a m := by
  intro i hi
  have h1 := h i hi
  have e2 : ∀ n : List α, seg n (i * k) (i * k + k) = seg (n.take a) (i * k) (i * k + k) := fun n => by
    unfold seg
    rw [Nat.add_mul] at hi
    rw [List.drop_take, List.take_take]
    congr 1
    omega
  rw [e2] at h1 ⊢
  rw [← e]
  exact h1
theorem Ahead.whole {k t : Nat} {l : List α} (h : Ahead lt k (t * k) l) (hr : Sorted lt (seg l (t * k) (t * k + k))) (hl : l.length ≤ t * k + k) : Blocks lt k 0 l := by
  intro i
  rw [Nat.zero_add]
  rcases Nat.lt_or_ge i t with hlt | hge
  · exact h i (Nat.mul_le_mul_right k (by omega))
  · rcases Nat.lt_or_ge t i with hgt | hle
    · have : t * k + k ≤ i * k := by
        have := Nat.mul_le_mul_right k (show t + 1 ≤ i by omega)
        rw [Nat.add_mul] at this
        omega
      unfold seg
      rw [List.drop_of_length_le (by omega)]
      simpa using Sorted.nil
    · have : i = t := by omega
      rw [this]; exact hr
theorem Blocks.whole {k : Nat} {l : List α} (h : Blocks lt k 0 l) (hl : l.length ≤ k) : Sorted lt l := by
  have := h 0
  rw [Nat.zero_mul, Nat.zero_add, Nat.zero_add, seg_whole l hl] at this
  exact this
end
end Go.Proofs.YtpjjooiamdfmfaaGreatDoor.SortLaw
