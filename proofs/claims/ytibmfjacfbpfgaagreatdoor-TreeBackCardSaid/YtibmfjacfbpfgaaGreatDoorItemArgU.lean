/- An argument that is a row of items, or a node, opened. -/
import Derived.Test.YtibmfjacfbpfgaaGreatDoorItem
import Derived.Deep.Slices
import Derived.ChangeArms
import Derived.WideShapes
set_option linter.unusedVariables false
set_option linter.unusedSimpArgs false
set_option maxRecDepth 100000
namespace Go.Proofs.YtibmfjacfbpfgaaGreatDoor.ItemArgU
open Go.RowKit Go.ChangeShapes Go.WideShapes Go.Deep YtibmfjacfbpfgaaGreatDoorW.PrintWords YtibmfjacfbpfgaaGreatDoor.Item
theorem cStr : Tryz.prog.cellsOf 9 = 1 := by kernel_rfl
theorem cInt : Tryz.prog.cellsOf 3 = 1 := by kernel_rfl
theorem cU32 : Tryz.prog.cellsOf 32 = 1 := by kernel_rfl
theorem cI64 : Tryz.prog.cellsOf 2 = 1 := by kernel_rfl
theorem cNode : Tryz.prog.cellsOf 34 = 7 := by kernel_rfl
theorem cItem : Tryz.prog.cellsOf 77 = 8 := by kernel_rfl
section
variable {H : Type} {enc : TypeId × Value → H} {W : World} {sp : Nat → Bool} {base n : Nat} {held : Bool} {cs : List Value} {x : DataW H × List MemPlace}
theorem some_at {α : Type} {xs : List α} {m j : Nat} (h : xs.length = m) (hj : j < m) : ∃ y, xs[j]? = some y := ⟨xs[j], List.getElem?_eq_getElem (by omega)⟩
theorem node_cells (h : DataW.trod enc Tryz.prog W base sp held n 34 cs = some x) :
  ∃ kd mo ui gi mt at_ da, cs = [.int .i64 kd, .int .u32 mo, .int .u32 ui, .int .u32 gi, .int .i64 mt, .int .i64 at_, .string da] ∧ (Lit.int .u32 mo).wf = true := by
 obtain ⟨xs, k, rfl, _, hl, hxl, hf⟩ := DataW.trod_struct Tryz.underlying34 h
 rw [cNode] at hl
 match cs, hl with
 | [c0, c1, c2, c3, c4, c5, c6], _ =>
  obtain ⟨y0, hy0⟩ := some_at hxl (show 0 < 7 by decide)
  have g0 := hf 0 _ rfl
  rw [hy0] at g0
  have g0 : DataW.trod enc Tryz.prog W base sp held k 3 [c0] = some y0 := by simpa [cStr, cInt, cU32, cI64] using g0
  obtain ⟨a0, e0, _, _⟩ := DataW.trod_int Tryz.underlying3 g0
  injection e0 with e0 _
  subst e0
  obtain ⟨y1, hy1⟩ := some_at hxl (show 1 < 7 by decide)
  have g1 := hf 1 _ rfl
  rw [hy1] at g1
  have g1 : DataW.trod enc Tryz.prog W base sp held k 32 [c1] = some y1 := by simpa [cStr, cInt, cU32, cI64] using g1
  obtain ⟨a1, e1, _, w1⟩ := DataW.trod_int Tryz.underlying32 g1
  injection e1 with e1 _
  subst e1
  obtain ⟨y2, hy2⟩ := some_at hxl (show 2 < 7 by decide)
  have g2 := hf 2 _ rfl
  rw [hy2] at g2
  have g2 : DataW.trod enc Tryz.prog W base sp held k 32 [c2] = some y2 := by simpa [cStr, cInt, cU32, cI64] using g2
  obtain ⟨a2, e2, _, _⟩ := DataW.trod_int Tryz.underlying32 g2
  injection e2 with e2 _
  subst e2
  obtain ⟨y3, hy3⟩ := some_at hxl (show 3 < 7 by decide)
  have g3 := hf 3 _ rfl
  rw [hy3] at g3
  have g3 : DataW.trod enc Tryz.prog W base sp held k 32 [c3] = some y3 := by simpa [cStr, cInt, cU32, cI64] using g3
  obtain ⟨a3, e3, _, _⟩ := DataW.trod_int Tryz.underlying32 g3
  injection e3 with e3 _
  subst e3
  obtain ⟨y4, hy4⟩ := some_at hxl (show 4 < 7 by decide)
  have g4 := hf 4 _ rfl
  rw [hy4] at g4
  have g4 : DataW.trod enc Tryz.prog W base sp held k 2 [c4] = some y4 := by simpa [cStr, cInt, cU32, cI64] using g4
  obtain ⟨a4, e4, _, _⟩ := DataW.trod_int Tryz.underlying2 g4
  injection e4 with e4 _
  subst e4
  obtain ⟨y5, hy5⟩ := some_at hxl (show 5 < 7 by decide)
  have g5 := hf 5 _ rfl
  rw [hy5] at g5
  have g5 : DataW.trod enc Tryz.prog W base sp held k 2 [c5] = some y5 := by simpa [cStr, cInt, cU32, cI64] using g5
  obtain ⟨a5, e5, _, _⟩ := DataW.trod_int Tryz.underlying2 g5
  injection e5 with e5 _
  subst e5
  obtain ⟨y6, hy6⟩ := some_at hxl (show 6 < 7 by decide)
  have g6 := hf 6 _ rfl
  rw [hy6] at g6
  have g6 : DataW.trod enc Tryz.prog W base sp held k 9 [c6] = some y6 := by simpa [cStr, cInt, cU32, cI64] using g6
  obtain ⟨a6, e6, _, _⟩ := DataW.trod_string Tryz.underlying9 g6
  injection e6 with e6 _
  subst e6
  exact ⟨a0, a1, a2, a3, a4, a5, a6, rfl, w1⟩
theorem item_cells (h : DataW.trod enc Tryz.prog W base sp held n 77 cs = some x) : ∃ y : It, cs = cellsI y ∧ (Lit.int .u32 y.2.2.1).wf = true := by
 obtain ⟨xs, k, rfl, _, hl, hxl, hf⟩ := DataW.trod_struct Tryz.underlying77 h
 rw [cItem] at hl
 match cs, hl with
 | [c0, c1, c2, c3, c4, c5, c6, c7], _ =>
  obtain ⟨y0, hy0⟩ := some_at hxl (show 0 < 2 by decide)
  obtain ⟨y1, hy1⟩ := some_at hxl (show 1 < 2 by decide)
  have g0 := hf 0 _ rfl
  have g1 := hf 1 _ rfl
  rw [hy0] at g0
  rw [hy1] at g1
  have g0 : DataW.trod enc Tryz.prog W base sp held k 9 [c0] = some y0 := by simpa [cStr] using g0
  have g1 : DataW.trod enc Tryz.prog W base sp held k 34 [c1, c2, c3, c4, c5, c6, c7] = some y1 := by simpa [cNode] using g1
  obtain ⟨pa, e0, _, _⟩ := DataW.trod_string Tryz.underlying9 g0
  obtain ⟨kd, mo, ui, gi, mt, at_, da, e1, w1⟩ := node_cells g1
  simp only [List.cons.injEq] at e0 e1
  obtain ⟨rfl, _⟩ := e0
  obtain ⟨rfl, rfl, rfl, rfl, rfl, rfl, rfl, _⟩ := e1
  exact ⟨(pa, kd, mo, ui, gi, mt, at_, da), rfl, w1⟩
end
theorem choose_items {p : Nat → It → Prop} {m : Nat} (h : ∀ i, i < m → ∃ y, p i y) : ∃ l : List It, l.length = m ∧ ∀ i (hi : i < l.length), p i l[i] := by
 induction m with
 | zero => exact ⟨[], rfl, fun i hi => absurd hi (by simp)⟩
 | succ m ih =>
  obtain ⟨l, hl, hp⟩ := ih (fun i hi => h i (by omega))
  obtain ⟨y, hy⟩ := h m (by omega)
  refine ⟨l ++ [y], by simp [hl], fun i hi => ?_⟩
  by_cases hi2 : i < l.length
  ·
   rw [List.getElem_append_left hi2]; exact hp i hi2
  ·
   have : i = l.length := by simp at hi; omega
   subst this
   simpa [hl] using hy
theorem u32_range {n : Int} (h : (Lit.int .u32 n).wf = true) : 0 ≤ n ∧ n < 4294967296 := by
 have h2 : IntKind.u32.min ≤ n ∧ n ≤ IntKind.u32.max := by simpa [Lit.wf] using h
 have e1 : IntKind.u32.min = 0 := rfl
 have e2 : IntKind.u32.max = 4294967295 := rfl
 omega
theorem open_items_cap {H : Type} {enc : TypeId × Value → H} {W : World} {v : Value} {d : DataW H} {p : List MemPlace} {b : Nat} (hval : Value.okWide Tryz.prog W .any b 41 v)
  (h : DataW.Trod enc Tryz.prog W 0 (fun _ => true) true 41 v d p) : ∃ A c l, v = .slice A l.length c ∧ ItemC W A l ∧ ∀ x ∈ l, 0 ≤ x.2.2.1 ∧ x.2.2.1 < 4294967296 := by
 obtain ⟨a0, len, cap, rfl⟩ := okWide_slice Tryz.underlying41 hval
 obtain ⟨fuel, hf⟩ := h
 rcases open_slice Tryz.underlying41 hf with ⟨hcs, _⟩ | ⟨a, len', cap', m, n, D, Pl, hcs, _, hl, hm, hmm, _, hel⟩
 ·
  simp [Value.cells] at hcs
  obtain ⟨rfl, rfl, rfl⟩ := hcs
  exact ⟨none, 0, [], rfl, ⟨rfl, by simp, fun h => absurd h (by simp)⟩, fun x hx => by cases hx⟩
 ·
  simp [Value.cells] at hcs
  obtain ⟨rfl, rfl, rfl⟩ := hcs
  simp only [if_true] at hmm
  have hm' : cap ≤ 9223372036854775807 := hm
  obtain ⟨l, hll, hp⟩ := choose_items (m := len) (p := fun i y => (∀ j u, (cellsI y)[j]? = some u → W.cell? (a.add (i * 8 + j)) = some u) ∧ (Lit.int .u32 y.2.2.1).wf = true) (fun i hi => by
   obtain ⟨cs', h1, h2⟩ := hel i (by omega)
   obtain ⟨y, rfl, w1⟩ := item_cells h2
   rw [cItem] at h1
   obtain ⟨_, _, hcell⟩ := World.cells?_some h1
   refine ⟨y, fun j u hu => ?_, w1⟩
   have hj : j < 8 := (List.getElem?_eq_some_iff.1 hu).1
   have h3 := hcell j hj
   rw [Addr.add_add] at h3
   rw [h3, ← hu])
  refine ⟨some a, cap, l, by rw [hll], ⟨rfl, by omega, fun hn => ⟨a, rfl, fun j y hj => ?_⟩⟩, fun x hx => by obtain ⟨i, hi, rfl⟩ := List.mem_iff_getElem.1 hx; exact u32_range (hp i hi).2⟩
  obtain ⟨hjl, hjy⟩ := List.getElem?_eq_some_iff.1 hj
  subst hjy
  exact ⟨cellsI l[j], rfl, itemK_mk _ _, fun i u hu => (hp j hjl).1 i u hu⟩
end Go.Proofs.YtibmfjacfbpfgaaGreatDoor.ItemArgU
