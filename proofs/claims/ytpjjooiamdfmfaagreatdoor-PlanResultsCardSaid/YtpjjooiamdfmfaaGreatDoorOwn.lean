/- a row of items of one's own, written in place. -/
import Derived.Test.YtpjjooiamdfmfaaGreatDoorItem
import Derived.Laws.IdiomCopy
set_option linter.unusedVariables false
set_option linter.unusedSimpArgs false
namespace Go.Proofs.YtpjjooiamdfmfaaGreatDoor.Own
open Go.RowKit Go.Proofs.YtpjjooiamdfmfaaGreatDoorW.PrintWords Go.Proofs.YtpjjooiamdfmfaaGreatDoorW.PrintLast Go.Proofs.YtpjjooiamdfmfaaGreatDoorW.PrintMore Go.Proofs.YtpjjooiamdfmfaaGreatDoor.Item

theorem heap_new (w : World) (o : Obj) : (w.alloc o).heap[w.heap.size]? = some o := heap_alloc_new w o
theorem cell_of {w : World} {b : Nat} {cs : Array Value} {t : TypeId} {fr : Nat × Nat} (hb : w.heap[b]? = some (.cells cs t fr)) (j : Nat) : w.cell? ⟨b, j, none⟩ = cs[j]? := by
  simp [World.cell?, hb]
theorem below_one (W : World) (o : Obj) : Below W.heap.size W (W.alloc o) := (Below.refl _ _).alloc (Nat.le_refl _) _
theorem frozen_of {w : World} {b : Nat} {cs : Array Value} {t : TypeId} (hb : w.heap[b]? = some (.cells cs t (0, 0))) (j : Nat) : w.frozen? ⟨b, j, none⟩ = false := by
  simp [World.frozen?, hb]
theorem set_grown (w : World) (b j : Nat) (u : Value) : w.grownBy (w.setCell ⟨b, j, none⟩ u) (some b) :=
  ⟨rfl, rfl, rfl, by simp [World.setCell], fun k _ hk => Below.heap_setCell _ _ _ _ (fun e => hk (by rw [e]))⟩
theorem below_grown {n : Nat} {w wr w1 : World} (h : Below n w wr) {row : Option Nat} (hn : n ≤ w.heap.size) (hg : wr.grownBy w1 row) (hr : ∀ x, row = some x → n ≤ x) : Below n w w1 :=
  h.trans ⟨hg.os, hg.tape, hg.output, hg.size, fun k hk => hg.block k (by have := h.size; omega) (fun e => by have := hr k e.symm; omega)⟩
/-- A row of N items of one's own, in block g, from n on. -/
abbrev Row (W : World) (n g N c : Nat) (l : List It) : Prop := l.length = N ∧ itemK.R 33 W n (fun _ => True) (.slice (some ⟨g, 0, none⟩) N c) l
theorem Row.below {W W1 : World} {n g N c : Nat} {l : List It} (h : Row W n g N c l) (hb : Below W.heap.size W W1) : Row W1 n g N c l := ⟨h.1, Kd.R_below h.2 hb⟩
theorem Row.base {W : World} {n g N c : Nat} {l : List It} (h : Row W n g N c l) : n ≤ g := Kd.R_base h.2 g rfl
theorem Row.lt {W : World} {n g N c : Nat} {l : List It} (h : Row W n g N c l) : g < W.heap.size := Kd.R_lt h.2 g rfl
theorem Row.blk {W : World} {n g N c : Nat} {l : List It} (h : Row W n g N c l) : ∃ cells, W.heap[g]? = some (.cells cells 33 (0, 0)) := by
  obtain ⟨inner, hown⟩ := Kd.R_own h.2
  exact own_typed hown g rfl
section
variable {P : Program} {ops : Array Oper} {Q : Exit → Act → World → Prop}
end
end Go.Proofs.YtpjjooiamdfmfaaGreatDoor.Own
