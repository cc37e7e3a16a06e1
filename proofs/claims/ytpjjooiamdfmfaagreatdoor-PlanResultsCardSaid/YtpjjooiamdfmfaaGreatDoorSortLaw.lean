/- plain lists: swaps, insertion, rotation, blocks that are sorted. -/
import Derived.Test.YtpjjooiamdfmfaaGreatDoorStab
set_option linter.unusedVariables false
set_option linter.unusedSimpArgs false
namespace Go.Proofs.YtpjjooiamdfmfaaGreatDoor.SortLaw
open Go.Proofs.YtpjjooiamdfmfaaGreatDoor.Stab

section
variable {α : Type} {lt : α → α → Bool}
theorem Sorted.nil : Sorted lt ([] : List α) := List.Pairwise.nil
theorem Sorted.left {u v : List α} (h : Sorted lt (u ++ v)) : Sorted lt u := (List.pairwise_append.1 h).1
theorem Sorted.right {u v : List α} (h : Sorted lt (u ++ v)) : Sorted lt v := (List.pairwise_append.1 h).2.1
theorem Stb.refl {l : List α} (h : Sorted lt l) : Stb lt l l := ⟨Sim.refl l, h⟩
/-- A row's piece. -/
def seg (l : List α) (a b : Nat) : List α := (l.drop a).take (b - a)
/-- Blocks of k are sorted from place a on. -/
def Blocks (lt : α → α → Bool) (k a : Nat) (l : List α) : Prop := ∀ i, Sorted lt (seg l (a + i * k) (a + i * k + k))
theorem Blocks.next {k a : Nat} {l : List α} (h : Blocks lt k a l) : Blocks lt k (a + k) l := by
  intro i
  have := h (i + 1)
  rw [show a + (i + 1) * k = a + k + i * k by rw [Nat.add_mul]; omega] at this
  exact this
theorem Blocks.cons {k a : Nat} {l : List α} (h0 : Sorted lt (seg l a (a + k))) (h : Blocks lt k (a + k) l) : Blocks lt k a l := by
  intro i
  cases i with
  | zero => simpa using h0
  | succ i =>
    have := h i
    rw [show a + (i + 1) * k = a + k + i * k by rw [Nat.add_mul]; omega]
    exact this
/-- Blocks of k up to place a. -/
def Ahead (lt : α → α → Bool) (k a : Nat) (l : List α) : Prop := ∀ i, (i + 1) * k ≤ a → Sorted lt (seg l (i * k) (i * k + k))
theorem Ahead.zero {k : Nat} {l : List α} (hk : 0 < k) : Ahead lt k 0 l := by
  intro i h
  rw [Nat.add_mul] at h
  omega
theorem Ahead.snoc {k t : Nat} {l : List α} (hk : 0 < k) (h : Ahead lt k (t * k) l) (h1 : Sorted lt (seg l (t * k) (t * k + k))) : Ahead lt k ((t + 1) * k) l := by
  intro i hi
  have hi' : i + 1 ≤ t + 1 := Nat.le_of_mul_le_mul_right hi hk
  rcases Nat.lt_or_ge i t with hlt | hge
  · exact h i (Nat.mul_le_mul_right k (by omega))
  · have : i = t := by omega
    rw [this]; exact h1
end
end Go.Proofs.YtpjjooiamdfmfaaGreatDoor.SortLaw
