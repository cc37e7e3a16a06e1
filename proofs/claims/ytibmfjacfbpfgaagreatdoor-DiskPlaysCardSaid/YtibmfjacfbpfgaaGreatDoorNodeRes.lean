/- a result that is a node in a cell of its own. -/
import Derived.Test.YtibmfjacfbpfgaaGreatDoorOwn
import Derived.Laws.ResultCell
set_option linter.unusedVariables false
set_option linter.unusedSimpArgs false
namespace Go.Proofs.YtibmfjacfbpfgaaGreatDoor.NodeRes
open Go.RowKit YtibmfjacfbpfgaaGreatDoorW PrintWords PrintLast PrintMore YtibmfjacfbpfgaaGreatDoor.Item Own
abbrev Nd := Int × Int × Int × Int × Int × Int × ByteArray
def aggN (n : Nd) : Value := .agg #[.int .i64 n.1, .int .u32 n.2.1, .int .u32 n.2.2.1, .int .u32 n.2.2.2.1, .int .i64 n.2.2.2.2.1, .int .i64 n.2.2.2.2.2.1, .string n.2.2.2.2.2.2]
def z7 : Nd := (0, 0, 0, 0, 0, 0, ByteArray.empty)
def nodeOf (o : Option It) : Nd := match o with | some x => x.2 | none => z7
theorem results_row_tmp {P : Program} {fn : Func} {p u : Tmp} {ty : TypeId} (h : fn.results = #[.cell p ty, .tmp u]) (tmps : Array Value) (w : World) (g : Nat) (t : TypeId) (cs : Array Value) (fr : Nat × Nat) (d : TypeDesc)
  (hp : tmps.getD p undef = .pointer (some ⟨g, 0, none⟩)) (hg : w.heap[g]? = some (.cells cs t fr))
  (hu : P.underlying ty = some d) (hd : (match d with | .struct _ | .array _ _ => true | _ => false) = true) (hi : (P.info? ty).map (·.size) = some cs.size) :
  (results fn tmps).run P w = .ok (.tuple #[.agg cs, tmps.getD u undef]) w := by
 rw [results_cell_tmp h, hp];simp [asAddr, run_loadVar_row w g t ty cs fr d hg hu hd hi, Result.andThen]
theorem sizeNode : (Tryz.prog.info? 34).map (·.size) = some 7 := by kernel_rfl
theorem node_put {W : World} {bn : Nat} {a0 a1 a2 a3 a4 a5 a6 : Value} (h : W.heap[bn]? = some (.cells #[a0, a1, a2, a3, a4, a5, a6] 34 (0, 0))) (v0 v1 v2 v3 v4 v5 v6 : Value) :
  (((((((W.setCell ⟨bn, 0, none⟩ v0).setCell ⟨bn, 1, none⟩ v1).setCell ⟨bn, 2, none⟩ v2).setCell ⟨bn, 3, none⟩ v3).setCell ⟨bn, 4, none⟩ v4).setCell ⟨bn, 5, none⟩ v5).setCell ⟨bn, 6, none⟩ v6).heap[bn]? = some (.cells #[v0, v1, v2, v3, v4, v5, v6] 34 (0, 0)) := by
 have h0 := h;clear h;generalize W = W0 at *;have h1 : (W0.setCell ⟨bn, 0, none⟩ v0).heap[bn]? = some (.cells #[v0, a1, a2, a3, a4, a5, a6] 34 (0, 0)) := blk_put h0 0 v0 rfl;generalize W0.setCell ⟨bn, 0, none⟩ v0 = W1 at *;have h2 : (W1.setCell ⟨bn, 1, none⟩ v1).heap[bn]? = some (.cells #[v0, v1, a2, a3, a4, a5, a6] 34 (0, 0)) := blk_put h1 1 v1 rfl;generalize W1.setCell ⟨bn, 1, none⟩ v1 = W2 at *;have h3 : (W2.setCell ⟨bn, 2, none⟩ v2).heap[bn]? = some (.cells #[v0, v1, v2, a3, a4, a5, a6] 34 (0, 0)) := blk_put h2 2 v2 rfl;generalize W2.setCell ⟨bn, 2, none⟩ v2 = W3 at *;have h4 : (W3.setCell ⟨bn, 3, none⟩ v3).heap[bn]? = some (.cells #[v0, v1, v2, v3, a4, a5, a6] 34 (0, 0)) := blk_put h3 3 v3 rfl;generalize W3.setCell ⟨bn, 3, none⟩ v3 = W4 at *;have h5 : (W4.setCell ⟨bn, 4, none⟩ v4).heap[bn]? = some (.cells #[v0, v1, v2, v3, v4, a5, a6] 34 (0, 0)) := blk_put h4 4 v4 rfl;generalize W4.setCell ⟨bn, 4, none⟩ v4 = W5 at *;have h6 : (W5.setCell ⟨bn, 5, none⟩ v5).heap[bn]? = some (.cells #[v0, v1, v2, v3, v4, v5, a6] 34 (0, 0)) := blk_put h5 5 v5 rfl;generalize W5.setCell ⟨bn, 5, none⟩ v5 = W6 at *;have h7 : (W6.setCell ⟨bn, 6, none⟩ v6).heap[bn]? = some (.cells #[v0, v1, v2, v3, v4, v5, v6] 34 (0, 0)) := blk_put h6 6 v6 rfl;generalize W6.setCell ⟨bn, 6, none⟩ v6 = W7 at *;exact h7
theorem node_below {n : Nat} {W0 W : World} {bn : Nat} (hb : Below n W0 W) (hn : n ≤ W0.heap.size) (hbn : n ≤ bn) (v0 v1 v2 v3 v4 v5 v6 : Value) :
  Below n W0 (((((((W.setCell ⟨bn, 0, none⟩ v0).setCell ⟨bn, 1, none⟩ v1).setCell ⟨bn, 2, none⟩ v2).setCell ⟨bn, 3, none⟩ v3).setCell ⟨bn, 4, none⟩ v4).setCell ⟨bn, 5, none⟩ v5).setCell ⟨bn, 6, none⟩ v6) := by
 have hr : ∀ x, some bn = some x → n ≤ x := fun x hx => by injection hx with hx; omega
 exact below_grown (below_grown (below_grown (below_grown (below_grown (below_grown (below_grown hb hn (set_grown _ _ _ _) hr) hn (set_grown _ _ _ _) hr) hn (set_grown _ _ _ _) hr) hn (set_grown _ _ _ _) hr) hn (set_grown _ _ _ _) hr) hn (set_grown _ _ _ _) hr) hn (set_grown _ _ _ _) hr
end Go.Proofs.YtibmfjacfbpfgaaGreatDoor.NodeRes
