/- An argument that is a row of texts, opened. -/
import Derived.Test.YtfogfkikkekmkaaFilterComp
import Derived.SliceStrings
import Derived.WideShapes
set_option linter.unusedVariables false
namespace Go.Proofs.Ytfogfkikkekmkaa.StrArg
open Go.RowKit Go.ChangeShapes Go.WideShapes Go.Proofs.YtfogfkikkekmkaaW.PrintWords Go.Proofs.Ytfogfkikkekmkaa.FilterComp
theorem cellsStr : Try.prog.cellsOf 9 = 1 := by kernel_rfl
theorem open_strs {H : Type} {enc : TypeId × Value → H} {W : World} {v : Value} {d : DataW H} {p : List MemPlace} {b : Nat} (hval : Value.okWide Try.prog W .any b 22 v)
    (h : DataW.Trod enc Try.prog W 0 (fun _ => true) true 22 v d p) : ∃ A c l, v = .slice A l.length c ∧ StrC W A l := by
  obtain ⟨a0, len, cap, rfl⟩ := okWide_slice Try.underlying22 hval
  obtain ⟨fuel, hf⟩ := h
  rcases open_strings Try.underlying22 Try.underlying9 cellsStr hf with ⟨hcs, _⟩ | ⟨a, len', cap', ss, hcs, _, hl, hm, hz, _, hcell, _⟩
  · simp [Value.cells] at hcs
    obtain ⟨rfl, rfl, rfl⟩ := hcs
    exact ⟨none, 0, [], rfl, rfl, by simp, fun h => absurd h (by simp)⟩
  · simp [Value.cells] at hcs
    obtain ⟨rfl, rfl, rfl⟩ := hcs
    simp only [if_true] at hz
    have hl2 : (ss.take len).length = len := by rw [List.length_take]; omega
    have hm' : cap ≤ 9223372036854775807 := hm
    refine ⟨some a, cap, ss.take len, by rw [hl2], rfl, by omega, fun hn => ⟨a, rfl, fun j x hj => ?_⟩⟩
    have hjl : j < (ss.take len).length := (List.getElem?_eq_some_iff.1 hj).1
    have hx : ss.getD j ByteArray.empty = x := by
      rw [List.getElem?_take, if_pos (by omega)] at hj
      rw [List.getD_eq_getElem?_getD, hj]; rfl
    refine ⟨[.string x], rfl, rfl, fun i u hu => ?_⟩
    cases i with
    | succ i => simp at hu
    | zero =>
      have : Value.string x = u := by simpa using hu
      subst this
      have h3 := hcell j (by omega)
      rw [hx] at h3
      simpa [Kd.string, Kd.scalar] using h3
end Go.Proofs.Ytfogfkikkekmkaa.StrArg
