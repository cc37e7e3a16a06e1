/- what tree.Fill's walk needs: a list that a store into another block leaves as it was. -/
import Derived.Test.YtfnjoncklgllcaaDoorFillLaw
set_option linter.unusedVariables false
set_option linter.unusedSimpArgs false
namespace Go.Proofs.YtfnjoncklgllcaaDoor.FillKit
open Go.RowKit Go.Proofs.YtfnjoncklgllcaaDoorW.PrintWords Go.Proofs.YtfnjoncklgllcaaDoorW.PrintLast Go.Proofs.YtfnjoncklgllcaaDoorW.PrintMore Go.Proofs.YtfnjoncklgllcaaDoor.Item Go.Proofs.YtfnjoncklgllcaaDoor.Own

theorem itemK_any {w w1 : World} {x : It} {cs : List Value} (h : itemK.K w x cs) : itemK.K w1 x cs := by
  obtain ⟨a0, r0, rfl, h0, a1, r1, rfl, h1, a2, r2, rfl, h2, a3, r3, rfl, h3, a4, r4, rfl, h4, a5, r5, rfl, h5, a6, a7, rfl, h6, h7⟩ := h
  exact ⟨a0, _, rfl, h0, a1, _, rfl, h1, a2, _, rfl, h2, a3, _, rfl, h3, a4, _, rfl, h4, a5, _, rfl, h5, a6, a7, rfl, h6, h7⟩
theorem add_block (ad : Addr) (n : Nat) : (ad.add n).block = ad.block := by
  unfold Addr.add
  split <;> rfl
theorem item_grown {w w1 : World} {A : Option Addr} {l : List It} {b : Nat} (h : ItemC w A l) (hg : w.grownBy w1 (some b)) (hne : ∀ ad, A = some ad → ad.block ≠ b) : ItemC w1 A l := by
  refine ⟨h.1, h.2.1, fun hn => ?_⟩
  obtain ⟨ad, e, hc⟩ := h.2.2 hn
  refine ⟨ad, e, fun j x hx => ?_⟩
  obtain ⟨cs, hl, hK, hcell⟩ := hc j x hx
  exact ⟨cs, hl, itemK_any hK, fun i u hu => cell_grown hg (hcell i u hu) (by intro e2; injection e2 with e2; exact hne ad e ((add_block ad _).symm.trans e2))⟩
end Go.Proofs.YtfnjoncklgllcaaDoor.FillKit
