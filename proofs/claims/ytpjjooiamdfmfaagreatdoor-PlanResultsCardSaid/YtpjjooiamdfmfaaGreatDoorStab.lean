/- plain lists: what it is to be sorted and stable; two such are one. -/
import Derived.Test.YtpjjooiamdfmfaaGreatDoorItem
set_option linter.unusedVariables false
set_option linter.unusedSimpArgs false
namespace Go.Proofs.YtpjjooiamdfmfaaGreatDoor.Stab

section
variable {α : Type} {lt : α → α → Bool}
def eqv (lt : α → α → Bool) (c x : α) : Bool := !lt c x && !lt x c
def Sorted (lt : α → α → Bool) (l : List α) : Prop := l.Pairwise (fun x y => lt y x = false)
def Sim (lt : α → α → Bool) (l m : List α) : Prop := l.length = m.length ∧ ∀ c, l.filter (eqv lt c) = m.filter (eqv lt c)
theorem Sim.refl (l : List α) : Sim lt l l := ⟨rfl, fun _ => rfl⟩
theorem Sim.symm {l m : List α} (h : Sim lt l m) : Sim lt m l := ⟨h.1.symm, fun c => (h.2 c).symm⟩
theorem Sim.trans {l m n : List α} (h : Sim lt l m) (k : Sim lt m n) : Sim lt l n := ⟨h.1.trans k.1, fun c => (h.2 c).trans (k.2 c)⟩
/-- Sorted, of the same elements, those that are equal in their order. -/
def Stb (lt : α → α → Bool) (l m : List α) : Prop := Sim lt l m ∧ Sorted lt m
end
end Go.Proofs.YtpjjooiamdfmfaaGreatDoor.Stab
