/- plan: actions in memory; what is there behind actions, as plain lists. -/
import Derived.Test.YtpjjooiamdfmfaaGreatDoorItem
import Derived.Test.YtpjjooiamdfmfaaGreatDoorItemArg
import Derived.Test.YtpjjooiamdfmfaaGreatDoorOwn
set_option linter.unusedVariables false
set_option linter.unusedSimpArgs false
set_option maxRecDepth 100000
namespace Go.Proofs.YtpjjooiamdfmfaaGreatDoor.PlanAct
open Go.RowKit Go.ChangeShapes Go.WideShapes Go.Deep Go.Proofs.YtpjjooiamdfmfaaGreatDoorW.PrintWords Go.Proofs.YtpjjooiamdfmfaaGreatDoorW.PrintLast Go.Proofs.YtpjjooiamdfmfaaGreatDoorW.PrintMore Go.Proofs.YtpjjooiamdfmfaaGreatDoor.Item Go.Proofs.YtpjjooiamdfmfaaGreatDoor.ItemArg Go.Proofs.YtpjjooiamdfmfaaGreatDoor.Own

/-- kind, entry, item -/
abbrev Ac := Int × Int × Int
abbrev acK : Kd Ac := Kd.pair (Kd.int .i64) (Kd.pair (Kd.int .i64) (Kd.int .i64))
abbrev cellsA (x : Ac) : List Value := [.int .i64 x.1, .int .i64 x.2.1, .int .i64 x.2.2]
abbrev ActC (w : World) (A : Option Addr) (l : List Ac) : Prop := acK.C w A l.length l
theorem acK_K {w : World} {x : Ac} {cs : List Value} (h : acK.K w x cs) : cs = cellsA x := by
  obtain ⟨a0, r0, rfl, h0, a1, a2, rfl, h1, h2⟩ := h
  have e0 : a0 = [Value.int .i64 x.1] := h0
  have e1 : a1 = [Value.int .i64 x.2.1] := h1
  have e2 : a2 = [Value.int .i64 x.2.2] := h2
  subst e0 e1 e2
  rfl
theorem acK_M (w : World) (base : Nat) (ok : Nat → Prop) (x : Ac) : acK.M w base ok x (cellsA x) :=
  ⟨[_], _, rfl, rfl, [_], [_], rfl, rfl, rfl⟩
theorem acK_mk (w : World) (x : Ac) : acK.K w x (cellsA x) := acK.K_of_M (acK_M w 0 (fun _ => True) x)
theorem infoAc : (Tryz.prog.info? 82).map (fun i => (i.zero, i.size, i.bytes)) = some (some (.agg #[.int .i64 0, .int .i64 0, .int .i64 0]), 3, 24) := by kernel_rfl
theorem infoRc : (Tryz.prog.info? 83).map (fun i => (i.zero, i.size, i.bytes)) = some (some (.agg #[.int .i64 0, .int .i64 0, .int .i64 0]), 3, 24) := by kernel_rfl
theorem ac_at {w : World} {A : Option Addr} {l : List Ac} (h : ActC w A l) {k : Nat} (hk : k < l.length) :
    ∃ ad, A = some ad ∧ w.cell? (ad.add (k * 3)) = some (.int .i64 l[k].1) ∧ w.cell? ⟨(ad.add (k * 3)).block, (ad.add (k * 3)).off + 1, none⟩ = some (.int .i64 l[k].2.1) ∧ w.cell? ⟨(ad.add (k * 3)).block, (ad.add (k * 3)).off + 2, none⟩ = some (.int .i64 l[k].2.2) := by
  obtain ⟨ad, e, hc⟩ := h.2.2 (by omega)
  obtain ⟨cs, hl, hK, hcell⟩ := hc k _ (List.getElem?_eq_getElem hk)
  have := acK_K hK
  subst this
  refine ⟨ad, e, hcell 0 _ rfl, ?_, ?_⟩
  · have h := hcell 1 _ rfl
    rw [← Addr.add_add] at h
    exact h
  · have h := hcell 2 _ rfl
    rw [← Addr.add_add] at h
    exact h
theorem eqAc (d : Nat) (w : World) (x0 y0 x1 y1 x2 y2 : Int) :
    (Op.equalIn (d + 2) 82 (.agg #[.int .i64 x0, .int .i64 x1, .int .i64 x2]) (.agg #[.int .i64 y0, .int .i64 y1, .int .i64 y2])).run Tryz.prog w = .ok (x0 == y0 && (x1 == y1 && (x2 == y2))) w := by
  refine eqA_of Tryz.underlying82 (by kernel_rfl) ?_
  refine eqf_cons (by rfl) (by go_simp; rfl) (by go_simp; rfl) (by go_simp) ?_
  refine eqf_cons (by rfl) (by go_simp; rfl) (by go_simp; rfl) (by go_simp) ?_
  exact eqf_last (by rfl) (by go_simp; rfl) (by go_simp; rfl) (by go_simp)
/-! ### an argument that is a row of actions -/
theorem cAc : Tryz.prog.cellsOf 82 = 3 := by kernel_rfl
section
variable {H : Type} {enc : TypeId × Value → H} {W : World} {sp : Nat → Bool} {base n : Nat} {held : Bool} {cs : List Value} {x : DataW H × List MemPlace}
theorem ac_cells (h : DataW.trod enc Tryz.prog W base sp held n 82 cs = some x) : ∃ y : Ac, cs = cellsA y := by
  obtain ⟨xs, k, rfl, _, hl, hxl, hf⟩ := DataW.trod_struct Tryz.underlying82 h
  rw [cAc] at hl
  match cs, hl with
  | [c0, c1, c2], _ =>
    obtain ⟨y0, hy0⟩ := some_at hxl (show 0 < 3 by decide)
    obtain ⟨y1, hy1⟩ := some_at hxl (show 1 < 3 by decide)
    obtain ⟨y2, hy2⟩ := some_at hxl (show 2 < 3 by decide)
    have g0 := hf 0 _ rfl
    have g1 := hf 1 _ rfl
    have g2 := hf 2 _ rfl
    rw [hy0] at g0
    rw [hy1] at g1
    rw [hy2] at g2
    have g0 : DataW.trod enc Tryz.prog W base sp held k 3 [c0] = some y0 := by simpa [cInt] using g0
    have g1 : DataW.trod enc Tryz.prog W base sp held k 3 [c1] = some y1 := by simpa [cInt] using g1
    have g2 : DataW.trod enc Tryz.prog W base sp held k 3 [c2] = some y2 := by simpa [cInt] using g2
    obtain ⟨a0, e0, _, _⟩ := DataW.trod_int Tryz.underlying3 g0
    obtain ⟨a1, e1, _, _⟩ := DataW.trod_int Tryz.underlying3 g1
    obtain ⟨a2, e2, _, _⟩ := DataW.trod_int Tryz.underlying3 g2
    injection e0 with e0 _
    injection e1 with e1 _
    injection e2 with e2 _
    subst e0 e1 e2
    exact ⟨(a0, a1, a2), rfl⟩
end
theorem choose_acts {p : Nat → Ac → Prop} {m : Nat} (h : ∀ i, i < m → ∃ y, p i y) : ∃ l : List Ac, l.length = m ∧ ∀ i (hi : i < l.length), p i l[i] := by
  induction m with
  | zero => exact ⟨[], rfl, fun i hi => absurd hi (by simp)⟩
  | succ m ih =>
    obtain ⟨l, hl, hp⟩ := ih (fun i hi => h i (by omega))
    obtain ⟨y, hy⟩ := h m (by omega)
    refine ⟨l ++ [y], by simp [hl], fun i hi => ?_⟩
    by_cases hi2 : i < l.length
    · rw [List.getElem_append_left hi2]; exact hp i hi2
    · have : i = l.length := by simp at hi; omega
      subst this
      simpa [hl] using hy
theorem open_acts {H : Type} {enc : TypeId × Value → H} {W : World} {v : Value} {d : DataW H} {p : List MemPlace} {b : Nat} (hval : Value.okWide Tryz.prog W .any b 46 v)
    (h : DataW.Trod enc Tryz.prog W 0 (fun _ => true) true 46 v d p) : ∃ A c l, v = .slice A l.length c ∧ ActC W A l := by
  obtain ⟨a0, len, cap, rfl⟩ := okWide_slice Tryz.underlying46 hval
  obtain ⟨fuel, hf⟩ := h
  rcases open_slice Tryz.underlying46 hf with ⟨hcs, _⟩ | ⟨a, len', cap', m, n, D, Pl, hcs, _, hl, hm, hmm, _, hel⟩
  · simp [Value.cells] at hcs
    obtain ⟨rfl, rfl, rfl⟩ := hcs
    exact ⟨none, 0, [], rfl, rfl, by simp, fun h => absurd h (by simp)⟩
  · simp [Value.cells] at hcs
    obtain ⟨rfl, rfl, rfl⟩ := hcs
    simp only [if_true] at hmm
    have hm' : cap ≤ 9223372036854775807 := hm
    obtain ⟨l, hll, hp⟩ := choose_acts (m := len) (p := fun i y => ∀ j u, (cellsA y)[j]? = some u → W.cell? (a.add (i * 3 + j)) = some u) (fun i hi => by
      obtain ⟨cs', h1, h2⟩ := hel i (by omega)
      obtain ⟨y, rfl⟩ := ac_cells h2
      rw [cAc] at h1
      obtain ⟨_, _, hcell⟩ := World.cells?_some h1
      refine ⟨y, fun j u hu => ?_⟩
      have hj : j < 3 := (List.getElem?_eq_some_iff.1 hu).1
      have h3 := hcell j hj
      rw [Addr.add_add] at h3
      rw [h3, ← hu])
    refine ⟨some a, cap, l, by rw [hll], rfl, by omega, fun hn => ⟨a, rfl, fun j y hj => ?_⟩⟩
    obtain ⟨hjl, hjy⟩ := List.getElem?_eq_some_iff.1 hj
    subst hjy
    exact ⟨cellsA l[j], rfl, acK_mk _ _, fun i u hu => hp j hjl i u hu⟩
/-! ### what is there behind actions -/
def atP (l : List It) (i : Int) : List It := if 0 ≤ i then (l[i.toNat]?).toList else []
def pickP (es t : List It) (a : Ac) : List It := if a.1 = 1 then atP es a.2.1 else if a.1 = 2 ∨ a.1 = 4 then atP t a.2.2 else []
def resP (es t : List It) (l : List Ac) : List It := l.flatMap (pickP es t)
theorem res_at {es t : List It} {l : List Ac} {k : Nat} (h : k < l.length) : resP es t (l.drop k) = pickP es t l[k] ++ resP es t (l.drop (k + 1)) := by
  rw [List.drop_eq_getElem_cons h]; rfl
theorem res_end {es t : List It} {l : List Ac} {k : Nat} (h : l.length ≤ k) : resP es t (l.drop k) = [] := by
  rw [List.drop_of_length_le h]; rfl
theorem at_in {l : List It} {j : Nat} (h : j < l.length) : atP l (j : Int) = [l[j]] := by
  unfold atP
  rw [if_pos (by omega), Int.toNat_natCast, List.getElem?_eq_getElem h]; rfl
theorem at_neg {l : List It} {i : Int} (h : ¬ 0 ≤ i) : atP l i = [] := by
  unfold atP
  rw [if_neg h]
theorem at_out {l : List It} {i : Int} (h : ¬ i < l.length) : atP l i = [] := by
  unfold atP
  split
  · rw [List.getElem?_eq_none (by omega)]; rfl
  · rfl
/-! ### how many of a kind -/
def cntP (j : Int) (l : List Ac) : Nat := l.countP (fun a => decide (a.1 = j))
theorem cnt_at {j : Int} {l : List Ac} {k : Nat} (h : k < l.length) : cntP j (l.take (k + 1)) = cntP j (l.take k) + (if l[k].1 = j then 1 else 0) := by
  unfold cntP
  rw [List.take_succ_eq_append_getElem h, List.countP_append, List.countP_singleton]
  by_cases e : l[k].1 = j <;> simp [e]
end Go.Proofs.YtpjjooiamdfmfaaGreatDoor.PlanAct
