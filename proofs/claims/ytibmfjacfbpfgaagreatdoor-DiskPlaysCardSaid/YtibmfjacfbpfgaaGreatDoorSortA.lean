/- plain lists: what it is to be sorted and stable; two such are one. -/
import Derived.Test.YtibmfjacfbpfgaaGreatDoorItem
set_option linter.unusedVariables false
set_option linter.unusedSimpArgs false
namespace Go.Proofs.YtibmfjacfbpfgaaGreatDoor.Stab
structure SWO {α : Type} (lt : α → α → Bool) : Prop where
 irr : ∀ x, lt x x = false
 asym : ∀ x y, lt x y = true → lt y x = false
 trans : ∀ x y z, lt x y = true → lt y z = true → lt x z = true
 ntrans : ∀ x y z, lt x y = false → lt y z = false → lt x z = false
section
variable {α : Type} {lt : α → α → Bool}
def eqv (lt : α → α → Bool) (c x : α) : Bool := !lt c x && !lt x c
def Sorted (lt : α → α → Bool) (l : List α) : Prop := l.Pairwise (fun x y => lt y x = false)
def Sim (lt : α → α → Bool) (l m : List α) : Prop := l.length = m.length ∧ ∀ c, l.filter (eqv lt c) = m.filter (eqv lt c)
theorem Sim.refl (l : List α) : Sim lt l l := ⟨rfl, fun _ => rfl⟩
theorem Sim.symm {l m : List α} (h : Sim lt l m) : Sim lt m l := ⟨h.1.symm, fun c => (h.2 c).symm⟩
theorem Sim.trans {l m n : List α} (h : Sim lt l m) (k : Sim lt m n) : Sim lt l n := ⟨h.1.trans k.1, fun c => (h.2 c).trans (k.2 c)⟩
theorem Sim.app {a b c d : List α} (h : Sim lt a b) (k : Sim lt c d) : Sim lt (a ++ c) (b ++ d) :=
 ⟨by rw [List.length_append, List.length_append, h.1, k.1], fun x => by rw [List.filter_append, List.filter_append, h.2 x, k.2 x]⟩
theorem eqv_ntl (hw : SWO lt) {c x y : α} (h1 : eqv lt c x = true) (h2 : eqv lt c y = true) : eqv lt x y = true := by
 simp only [eqv, Bool.and_eq_true, Bool.not_eq_true'] at *;exact ⟨hw.ntrans _ _ _ h1.2 h2.1, hw.ntrans _ _ _ h2.2 h1.1⟩
theorem Sim.swap (hw : SWO lt) {u v : List α} (h : ∀ x ∈ u, ∀ y ∈ v, lt x y = true ∨ lt y x = true) : Sim lt (u ++ v) (v ++ u) := by
 refine ⟨by rw [List.length_append, List.length_append, Nat.add_comm], fun c => ?_⟩;rw [List.filter_append, List.filter_append]
 by_cases hu : u.filter (eqv lt c) = []
 ·
  rw [hu, List.nil_append, List.append_nil]
 have hv : v.filter (eqv lt c) = [] := by
  obtain ⟨x, hx⟩ := List.exists_mem_of_ne_nil _ hu;obtain ⟨hx1, hx2⟩ := List.mem_filter.1 hx;refine List.filter_eq_nil_iff.2 (fun y hy hc => ?_);have h3 := eqv_ntl hw hx2 hc;simp only [eqv, Bool.and_eq_true, Bool.not_eq_true'] at h3
  rcases h x hx1 y hy with h4 | h4
  ·
   rw [h3.1] at h4; cases h4
  rw [h3.2] at h4; cases h4
 rw [hv, List.nil_append, List.append_nil]
def Stb (lt : α → α → Bool) (l m : List α) : Prop := Sim lt l m ∧ Sorted lt m
theorem sorted_app {u v : List α} (h1 : Sorted lt u) (h2 : Sorted lt v) (h : ∀ x ∈ u, ∀ y ∈ v, lt y x = false) : Sorted lt (u ++ v) := List.pairwise_append.2 ⟨h1, h2, h⟩
theorem sorted_last {u : List α} (hw : SWO lt) (h : Sorted lt u) {x z : α} (hx : x ∈ u) (hz : u.getLast? = some z) : lt z x = false := by
 obtain ⟨u0, rfl⟩ := List.getLast?_eq_some_iff.1 hz
 rcases List.mem_append.1 hx with e | e
 ·
  exact (List.pairwise_append.1 h).2.2 x e z List.mem_cons_self
 rw [List.mem_singleton.1 e]; exact hw.irr _
theorem sorted_head {u : List α} (hw : SWO lt) (h : Sorted lt u) {x z : α} (hx : x ∈ u) (hz : u.head? = some z) : lt x z = false := by
 cases u with
 | nil => cases hx
 | cons y u =>
  injection hz with hz
  subst hz
  rcases List.mem_cons.1 hx with e | e
  ·
   rw [e]; exact hw.irr _
  exact (List.pairwise_cons.1 h).1 x e
theorem sorted_put (hw : SWO lt) {p r : List α} {x : α} (h : Sorted lt (p ++ r)) (h1 : ∀ y, p.getLast? = some y → lt x y = false) (h2 : ∀ y ∈ r, lt x y = true) : Sorted lt (p ++ x :: r) := by
 obtain ⟨a, b, c⟩ := List.pairwise_append.1 h;refine sorted_app a (List.pairwise_cons.2 ⟨fun y hy => hw.asym _ _ (h2 y hy), b⟩) (fun z hz y hy => ?_)
 rcases List.mem_cons.1 hy with e | e
 ·
  rw [e]
  cases hl : p.getLast? with
  | none => rw [List.getLast?_eq_none_iff.1 hl] at hz; cases hz
  | some w => exact hw.ntrans _ _ _ (h1 w hl) (sorted_last hw a hz hl)
 exact c z hz y e
end
end Go.Proofs.YtibmfjacfbpfgaaGreatDoor.Stab
namespace Go.Proofs.YtibmfjacfbpfgaaGreatDoor.SortLaw
open Stab
section
variable {α : Type} {lt : α → α → Bool}
theorem Sorted.nil : Sorted lt ([] : List α) := List.Pairwise.nil
theorem Sorted.left {u v : List α} (h : Sorted lt (u ++ v)) : Sorted lt u := (List.pairwise_append.1 h).1
theorem Sorted.right {u v : List α} (h : Sorted lt (u ++ v)) : Sorted lt v := (List.pairwise_append.1 h).2.1
theorem Stb.refl {l : List α} (h : Sorted lt l) : Stb lt l l := ⟨Sim.refl l, h⟩
theorem Sim.mid {p q u v : List α} (h : Sim lt u v) : Sim lt (p ++ (u ++ q)) (p ++ (v ++ q)) := (Sim.refl p).app (h.app (Sim.refl q))
theorem ins_done (hw : SWO lt) {s p r l : List α} {x : α} (hs : Sorted lt (p ++ r)) (hl : Stb lt l (p ++ r)) (h1 : ∀ y, p.getLast? = some y → lt x y = false) (h2 : ∀ y ∈ r, lt x y = true) : Stb lt (l ++ [x]) (p ++ x :: r) := by
 refine ⟨?_, sorted_put hw hs h1 h2⟩;refine Sim.trans (hl.1.app (Sim.refl [x])) ?_;rw [List.append_assoc];refine (Sim.refl p).app (Sim.swap hw (fun y hy z hz => ?_));rw [List.mem_singleton.1 hz];exact .inr (h2 y hy)
theorem tail_done (hw : SWO lt) {u1 u2 : List α} {y : α} (hs : Sorted lt (u1 ++ u2)) (h1 : ∀ x, u1.getLast? = some x → lt y x = false) (h2 : ∀ x, u2.head? = some x → lt y x = true) : Stb lt (u1 ++ u2 ++ [y]) (u1 ++ y :: u2) := by
 obtain ⟨a, b, c⟩ := List.pairwise_append.1 hs;refine ins_done hw (s := []) hs (Stb.refl hs) h1 (fun x hx => ?_)
 cases hh : u2.head? with
 | none => rw [List.head?_eq_none_iff.1 hh] at hx; cases hx
 | some z =>
  cases h : lt y x with
  | true => rfl
  | false =>
   have := hw.ntrans _ _ _ h (sorted_head hw b hx hh);rw [h2 z hh] at this;cases this
def seg (l : List α) (a b : Nat) : List α := (l.drop a).take (b - a)
theorem seg_len {l : List α} {a b : Nat} (hb : b ≤ l.length) : (seg l a b).length = b - a := by
 unfold seg; rw [List.length_take, List.length_drop]; omega
theorem cut3 (l : List α) {a b : Nat} (h : a ≤ b) : l = l.take a ++ (seg l a b ++ l.drop b) := by
 unfold seg;have e : (l.drop a).drop (b - a) = l.drop b := by rw [List.drop_drop]; congr 1; omega
 rw [← e, List.take_append_drop, List.take_append_drop]
theorem seg_mid {p s q : List α} {a b : Nat} (ha : a = p.length) (hb : b = a + s.length) : seg (p ++ (s ++ q)) a b = s := by
 unfold seg;rw [ha, List.drop_left, hb, ha, show p.length + s.length - p.length = s.length by omega, List.take_left]
def Blocks (lt : α → α → Bool) (k a : Nat) (l : List α) : Prop := ∀ i, Sorted lt (seg l (a + i * k) (a + i * k + k))
theorem Blocks.next {k a : Nat} {l : List α} (h : Blocks lt k a l) : Blocks lt k (a + k) l := by
 intro i;have := h (i + 1);rw [show a + (i + 1) * k = a + k + i * k by rw [Nat.add_mul]; omega] at this;exact this
theorem Blocks.cons {k a : Nat} {l : List α} (h0 : Sorted lt (seg l a (a + k))) (h : Blocks lt k (a + k) l) : Blocks lt k a l := by
 intro i
 cases i with
 | zero => simpa using h0
 | succ i =>
  have := h i;rw [show a + (i + 1) * k = a + k + i * k by rw [Nat.add_mul]; omega];exact this
theorem Blocks.alike {k a : Nat} {l m : List α} (h : Blocks lt k a l) (e : l.drop a = m.drop a) : Blocks lt k a m := by
 intro i;have h1 := h i;have e2 : ∀ n : List α, n.drop (a + i * k) = (n.drop a).drop (i * k) := fun n => by rw [List.drop_drop]
 unfold seg at h1 ⊢;rw [e2] at h1 ⊢;rw [← e];exact h1
def Ahead (lt : α → α → Bool) (k a : Nat) (l : List α) : Prop := ∀ i, (i + 1) * k ≤ a → Sorted lt (seg l (i * k) (i * k + k))
theorem Ahead.zero {k : Nat} {l : List α} (hk : 0 < k) : Ahead lt k 0 l := by
 intro i h;rw [Nat.add_mul] at h;omega
theorem Ahead.snoc {k t : Nat} {l : List α} (hk : 0 < k) (h : Ahead lt k (t * k) l) (h1 : Sorted lt (seg l (t * k) (t * k + k))) : Ahead lt k ((t + 1) * k) l := by
 intro i hi;have hi' : i + 1 ≤ t + 1 := Nat.le_of_mul_le_mul_right hi hk
 rcases Nat.lt_or_ge i t with hlt | hge
 ·
  exact h i (Nat.mul_le_mul_right k (by omega))
 have : i = t := by omega
 rw [this]; exact h1
theorem Ahead.alike {k a : Nat} {l m : List α} (h : Ahead lt k a l) (e : l.take a = m.take a) : Ahead lt k a m := by
 intro i hi;have h1 := h i hi
 have e2 : ∀ n : List α, seg n (i * k) (i * k + k) = seg (n.take a) (i * k) (i * k + k) := fun n => by
  unfold seg;rw [Nat.add_mul] at hi;rw [List.drop_take, List.take_take]
  congr 1
  omega
 rw [e2] at h1 ⊢;rw [← e];exact h1
end
end Go.Proofs.YtibmfjacfbpfgaaGreatDoor.SortLaw
