/- disk: Stat of a path of one part, and of a disk that is none. -/
import Derived.Test.YtfogfkikkekmkaaDoorDiskKept
import Derived.Laws.ResultCell
set_option linter.unusedVariables false
set_option linter.unusedSimpArgs false
namespace Go.Proofs.YtfogfkikkekmkaaDoor.DiskStat
open Go.RowKit Go.Proofs.YtfogfkikkekmkaaDoorW.PrintWords Go.Proofs.YtfogfkikkekmkaaDoorW.PrintLast Go.Proofs.YtfogfkikkekmkaaDoorW.PrintMore Go.Proofs.YtfogfkikkekmkaaDoor.NameWalk Go.Proofs.YtfogfkikkekmkaaDoor.Item Go.Proofs.YtfogfkikkekmkaaDoor.DiskAt Go.Proofs.YtfogfkikkekmkaaDoor.DiskReal Go.Proofs.YtfogfkikkekmkaaDoor.DiskSmall Go.Proofs.YtfogfkikkekmkaaDoor.DiskRows Go.Proofs.YtfogfkikkekmkaaDoor.DiskDone Go.Proofs.YtfogfkikkekmkaaDoor.DiskWait Go.Proofs.YtfogfkikkekmkaaDoor.DiskActs

theorem results_row_tmp {P : Program} {fn : Func} {p u : Tmp} {ty : TypeId} (h : fn.results = #[.cell p ty, .tmp u]) (tmps : Array Value) (w : World) (g : Nat) (t : TypeId) (cs : Array Value) (fr : Nat × Nat) (d : TypeDesc)
    (hp : tmps.getD p undef = .pointer (some ⟨g, 0, none⟩)) (hg : w.heap[g]? = some (.cells cs t fr))
    (hu : P.underlying ty = some d) (hd : (match d with | .struct _ | .array _ _ => true | _ => false) = true) (hi : (P.info? ty).map (·.size) = some cs.size) :
    (results fn tmps).run P w = .ok (.tuple #[.agg cs, tmps.getD u undef]) w := by
  rw [results_cell_tmp h, hp]
  simp [asAddr, run_loadVar_row w g t ty cs fr d hg hu hd hi, Result.andThen]
theorem sizeNode : (Tryd.prog.info? 25).map (·.size) = some 7 := by kernel_rfl
/-- A node is stored into a block of its own. -/
theorem node_put {W : World} {bn : Nat} {a0 a1 a2 a3 a4 a5 a6 : Value} (h : W.heap[bn]? = some (.cells #[a0, a1, a2, a3, a4, a5, a6] 25 (0, 0))) (v0 v1 v2 v3 v4 v5 v6 : Value) :
    (((((((W.setCell ⟨bn, 0, none⟩ v0).setCell ⟨bn, 1, none⟩ v1).setCell ⟨bn, 2, none⟩ v2).setCell ⟨bn, 3, none⟩ v3).setCell ⟨bn, 4, none⟩ v4).setCell ⟨bn, 5, none⟩ v5).setCell ⟨bn, 6, none⟩ v6).heap[bn]? = some (.cells #[v0, v1, v2, v3, v4, v5, v6] 25 (0, 0)) := by
  have h0 := h
  clear h
  generalize W = W0 at *
  have h1 : (W0.setCell ⟨bn, 0, none⟩ v0).heap[bn]? = some (.cells #[v0, a1, a2, a3, a4, a5, a6] 25 (0, 0)) := blk_put h0 0 v0 rfl
  generalize W0.setCell ⟨bn, 0, none⟩ v0 = W1 at *
  have h2 : (W1.setCell ⟨bn, 1, none⟩ v1).heap[bn]? = some (.cells #[v0, v1, a2, a3, a4, a5, a6] 25 (0, 0)) := blk_put h1 1 v1 rfl
  generalize W1.setCell ⟨bn, 1, none⟩ v1 = W2 at *
  have h3 : (W2.setCell ⟨bn, 2, none⟩ v2).heap[bn]? = some (.cells #[v0, v1, v2, a3, a4, a5, a6] 25 (0, 0)) := blk_put h2 2 v2 rfl
  generalize W2.setCell ⟨bn, 2, none⟩ v2 = W3 at *
  have h4 : (W3.setCell ⟨bn, 3, none⟩ v3).heap[bn]? = some (.cells #[v0, v1, v2, v3, a4, a5, a6] 25 (0, 0)) := blk_put h3 3 v3 rfl
  generalize W3.setCell ⟨bn, 3, none⟩ v3 = W4 at *
  have h5 : (W4.setCell ⟨bn, 4, none⟩ v4).heap[bn]? = some (.cells #[v0, v1, v2, v3, v4, a5, a6] 25 (0, 0)) := blk_put h4 4 v4 rfl
  generalize W4.setCell ⟨bn, 4, none⟩ v4 = W5 at *
  have h6 : (W5.setCell ⟨bn, 5, none⟩ v5).heap[bn]? = some (.cells #[v0, v1, v2, v3, v4, v5, a6] 25 (0, 0)) := blk_put h5 5 v5 rfl
  generalize W5.setCell ⟨bn, 5, none⟩ v5 = W6 at *
  have h7 : (W6.setCell ⟨bn, 6, none⟩ v6).heap[bn]? = some (.cells #[v0, v1, v2, v3, v4, v5, v6] 25 (0, 0)) := blk_put h6 6 v6 rfl
  generalize W6.setCell ⟨bn, 6, none⟩ v6 = W7 at *
  exact h7
theorem node_below {n : Nat} {W0 W : World} {bn : Nat} (hb : Below n W0 W) (hn : n ≤ W0.heap.size) (hbn : n ≤ bn) (v0 v1 v2 v3 v4 v5 v6 : Value) :
    Below n W0 (((((((W.setCell ⟨bn, 0, none⟩ v0).setCell ⟨bn, 1, none⟩ v1).setCell ⟨bn, 2, none⟩ v2).setCell ⟨bn, 3, none⟩ v3).setCell ⟨bn, 4, none⟩ v4).setCell ⟨bn, 5, none⟩ v5).setCell ⟨bn, 6, none⟩ v6) := by
  have hr : ∀ x, some bn = some x → n ≤ x := fun x hx => by injection hx with hx; omega
  exact below_grown (below_grown (below_grown (below_grown (below_grown (below_grown (below_grown hb hn (set_grown _ _ _ _) hr) hn (set_grown _ _ _ _) hr) hn (set_grown _ _ _ _) hr) hn (set_grown _ _ _ _) hr) hn (set_grown _ _ _ _) hr) hn (set_grown _ _ _ _) hr) hn (set_grown _ _ _ _) hr
set_option maxHeartbeats 4000000 in
set_option maxRecDepth 100000 in
theorem stat_nil (p : ByteArray) (W : World) :
    Calls Tryd.prog 16 #[.pointer none, .string p] W fun e w' => e = .returned (.tuple #[.agg #[.int .i64 0, .int .u32 0, .int .u32 0, .int .u32 0, .int .i64 0, .int .i64 0, .string ⟨#[]⟩], .int .i64 1]) ∧ Below W.heap.size W w' := by
  go_enter Tryd.func16, Tryd.ntmps16
  go_wp2_with fail
  refine (real_nil p _).mono ?_
  rintro e w2 ⟨rfl, hb2⟩
  have HB := Lib.hid ((below_one W _).trans (hb2.mono (below_one W _).size))
  have HN := Lib.hid ((hb2.block _ (Array.getElem?_eq_some_iff.1 (heap_new W _)).1).trans (heap_new W _))
  clear hb2
  generalize hbn : W.heap.size = bn at *
  have c0 : w2.cell? ⟨bn, 0, none⟩ = some (.int .i64 0) := by rw [cell_of HN.out]; rfl
  have z0 := frozen_of HN.out 0
  have c1 : w2.cell? ⟨bn, 1, none⟩ = some (.int .u32 0) := by rw [cell_of HN.out]; rfl
  have z1 := frozen_of HN.out 1
  have c2 : w2.cell? ⟨bn, 2, none⟩ = some (.int .u32 0) := by rw [cell_of HN.out]; rfl
  have z2 := frozen_of HN.out 2
  have c3 : w2.cell? ⟨bn, 3, none⟩ = some (.int .u32 0) := by rw [cell_of HN.out]; rfl
  have z3 := frozen_of HN.out 3
  have c4 : w2.cell? ⟨bn, 4, none⟩ = some (.int .i64 0) := by rw [cell_of HN.out]; rfl
  have z4 := frozen_of HN.out 4
  have c5 : w2.cell? ⟨bn, 5, none⟩ = some (.int .i64 0) := by rw [cell_of HN.out]; rfl
  have z5 := frozen_of HN.out 5
  have c6 : w2.cell? ⟨bn, 6, none⟩ = some (.string ⟨#[]⟩) := by rw [cell_of HN.out]; rfl
  have z6 := frozen_of HN.out 6
  go_wp2
  refine bodyPost_ret (results_row_tmp (ty := 25) rfl _ _ bn _ _ _ _ rfl (node_put HN.out _ _ _ _ _ _ _) Tryd.underlying25 rfl sizeNode) rfl ?_
  subst hbn
  exact ⟨rfl, node_below HB.out (Nat.le_refl _) (Nat.le_refl _) _ _ _ _ _ _ _⟩
set_option maxHeartbeats 4000000 in
set_option maxRecDepth 100000 in
theorem stat_ok (W0 W : World) (b : Nat) (vl vs vq : Value) (l s : List It) (q : List Ch) (lim fu fa st : Int) (hf : Fine W0 W b vl vs vq l s q lim fu fa st) (p : ByteArray) (hp : OneP p) (h0 : hereP s p = true) (r : Nat) (h1 : placeP s p = r) (kd mo ui gi mt at_ : Int) (da : ByteArray) (hx : s[r]? = some (p, kd, mo, ui, gi, mt, at_, da)) :
    Calls Tryd.prog 16 #[.pointer (some ⟨b, 0, none⟩), .string p] W fun e w' => e = .returned (.tuple #[.agg #[.int .i64 kd, .int .u32 mo, .int .u32 ui, .int .u32 gi, .int .i64 mt, .int .i64 at_, .string da], .int .i64 0]) ∧ Below W.heap.size W w' := by
  have hr : r < s.length := (List.getElem?_eq_some_iff.1 hx).1
  have hrI : (r : Int) < (s.length : Int) := by omega
  have HF := Lib.hid (hf.below (below_one W (.cells #[.int .i64 0, .int .u32 0, .int .u32 0, .int .u32 0, .int .i64 0, .int .i64 0, .string ⟨#[]⟩] 25)))
  have HP := Lib.hid hp
  have HX := Lib.hid hx
  have H0 := Lib.hid h0
  have H1 := Lib.hid h1
  clear hf hp hx h0 h1
  go_enter Tryd.func16, Tryd.ntmps16
  go_wp2_with fail
  refine (HF.out.real_ HP.out).mono ?_
  rintro e w2 ⟨rfl, hb2⟩
  have HB := Lib.hid ((below_one W _).trans (hb2.mono (below_one W _).size))
  have HN := Lib.hid ((hb2.block _ (Array.getElem?_eq_some_iff.1 (heap_new W _)).1).trans (heap_new W _))
  have HF := Lib.hid (HF.out.below hb2)
  clear hb2
  generalize hbn : W.heap.size = bn at *
  obtain ⟨A, c, he, _, hC⟩ := Kd.R_reads HF.out.d.rs
  have c1 := HF.out.d.c1
  rw [he] at c1
  have HAT := Lib.hid (at_any s A c p w2 HF.out.g hC HF.out.sl HF.out.ss (by have := HP.out.sz; omega))
  rw [H0.out, H1.out] at HAT
  have HC := Lib.hid hC
  clear hC he
  go_wp2_with fail
  refine HAT.out.mono ?_
  rintro e w3 ⟨rfl, hb3⟩
  have HB := Lib.hid (HB.out.trans (hb3.mono (by have := HB.out.size; omega)))
  have HN := Lib.hid ((hb3.block _ (Array.getElem?_eq_some_iff.1 HN.out).1).trans HN.out)
  have hC3 := Kd.C_below HC.out hb3
  obtain ⟨ad, rfl, _, e1, e2, e3, e4, e5, e6, e7⟩ := item_at hC3 hr
  have hx := HX.out
  rw [List.getElem?_eq_getElem hr] at hx
  injection hx with hx
  rw [hx] at e1 e2 e3 e4 e5 e6 e7
  simp only at e1 e2 e3 e4 e5 e6 e7
  have k1 := pw_cell_below hb3 c1
  clear hb3 hC3 c1 hx
  have c0 : w3.cell? ⟨bn, 0, none⟩ = some (.int .i64 0) := by rw [cell_of HN.out]; rfl
  have z0 := frozen_of HN.out 0
  have c1 : w3.cell? ⟨bn, 1, none⟩ = some (.int .u32 0) := by rw [cell_of HN.out]; rfl
  have z1 := frozen_of HN.out 1
  have c2 : w3.cell? ⟨bn, 2, none⟩ = some (.int .u32 0) := by rw [cell_of HN.out]; rfl
  have z2 := frozen_of HN.out 2
  have c3 : w3.cell? ⟨bn, 3, none⟩ = some (.int .u32 0) := by rw [cell_of HN.out]; rfl
  have z3 := frozen_of HN.out 3
  have c4 : w3.cell? ⟨bn, 4, none⟩ = some (.int .i64 0) := by rw [cell_of HN.out]; rfl
  have z4 := frozen_of HN.out 4
  have c5 : w3.cell? ⟨bn, 5, none⟩ = some (.int .i64 0) := by rw [cell_of HN.out]; rfl
  have z5 := frozen_of HN.out 5
  have c6 : w3.cell? ⟨bn, 6, none⟩ = some (.string ⟨#[]⟩) := by rw [cell_of HN.out]; rfl
  have z6 := frozen_of HN.out 6

  go_wp2
  refine bodyPost_ret (results_row_tmp (ty := 25) rfl _ _ bn _ _ _ _ rfl (node_put HN.out _ _ _ _ _ _ _) Tryd.underlying25 rfl sizeNode) rfl ?_
  subst hbn
  exact ⟨rfl, node_below HB.out (Nat.le_refl _) (Nat.le_refl _) _ _ _ _ _ _ _⟩
set_option maxHeartbeats 1000000 in
theorem begin_nil (W : World) : Calls Tryd.prog 55 #[.pointer none] W fun e w' => e = .returned (.int .i64 1) ∧ Below W.heap.size W w' := by
  go_enter Tryd.func55, Tryd.ntmps55
  go_wp2
  go_ret
  exact ⟨rfl, Below.refl _ _⟩
set_option maxHeartbeats 1000000 in
theorem fuse_nil (W : World) : Calls Tryd.prog 13 #[.pointer none, .int .i64 1] W fun e w' => e = .returned (.tuple #[]) ∧ Below W.heap.size W w' := by
  go_enter Tryd.func13, Tryd.ntmps13
  go_wp2
  go_end0
  exact ⟨rfl, Below.refl _ _⟩
set_option maxHeartbeats 1000000 in
theorem fail_nil (W : World) : Calls Tryd.prog 14 #[.pointer none, .int .i64 1] W fun e w' => e = .returned (.tuple #[]) ∧ Below W.heap.size W w' := by
  go_enter Tryd.func14, Tryd.ntmps14
  go_wp2
  go_end0
  exact ⟨rfl, Below.refl _ _⟩
set_option maxHeartbeats 1000000 in
theorem crash_nil (W : World) : Calls Tryd.prog 15 #[.pointer none, .agg #[.int .i64 0, .int .u64 0, .int .i64 0]] W fun e w' => e = .returned (.tuple #[]) ∧ Below W.heap.size W w' := by
  go_enter Tryd.func15, Tryd.ntmps15
  go_wp2
  refine bodyPost_ret (results_none rfl _ _ _) rfl ?_
  exact ⟨rfl, below_one W _⟩
set_option maxHeartbeats 1000000 in
theorem list_nil (W : World) : Calls Tryd.prog 17 #[.pointer none, .string ⟨#[]⟩] W fun e w' => e = .returned (.tuple #[.slice none 0 0, .int .i64 1]) ∧ Below W.heap.size W w' := by
  go_enter Tryd.func17, Tryd.ntmps17
  go_wp2
  go_ret2
  exact ⟨rfl, Below.refl _ _⟩
set_option maxHeartbeats 1000000 in
theorem make_nil (W : World) : Calls Tryd.prog 20 #[.pointer none, .string ⟨#[97]⟩, .agg #[.int .i64 0, .int .u32 0, .int .u32 0, .int .u32 0, .int .i64 0, .int .i64 0, .string ⟨#[]⟩]] W fun e w' => e = .returned (.int .i64 1) ∧ Below W.heap.size W w' := by
  go_enter Tryd.func20, Tryd.ntmps20
  go_wp2_with fail
  refine (begin_nil _).mono ?_
  rintro e w2 ⟨rfl, hb2⟩
  have HB := Lib.hid ((below_one W _).trans (hb2.mono (below_one W _).size))
  clear hb2
  go_wp2
  go_ret
  exact ⟨rfl, HB.out⟩
set_option maxHeartbeats 1000000 in
theorem flush_nil (W : World) : Calls Tryd.prog 21 #[.pointer none] W fun e w' => e = .returned (.int .i64 1) ∧ Below W.heap.size W w' := by
  go_enter Tryd.func21, Tryd.ntmps21
  go_wp2_with fail
  refine (begin_nil _).mono ?_
  rintro e w2 ⟨rfl, hb2⟩
  have HB := Lib.hid hb2
  clear hb2
  go_wp2
  go_ret
  exact ⟨rfl, HB.out⟩
set_option maxHeartbeats 1000000 in
theorem rename_nil (W : World) : Calls Tryd.prog 22 #[.pointer none, .string ⟨#[97]⟩, .string ⟨#[98]⟩] W fun e w' => e = .returned (.int .i64 1) ∧ Below W.heap.size W w' := by
  go_enter Tryd.func22, Tryd.ntmps22
  go_wp2_with fail
  refine (begin_nil _).mono ?_
  rintro e w2 ⟨rfl, hb2⟩
  have HB := Lib.hid hb2
  clear hb2
  go_wp2
  go_ret
  exact ⟨rfl, HB.out⟩
set_option maxHeartbeats 1000000 in
theorem all_nil (W : World) : Calls Tryd.prog 23 #[.pointer none] W fun e w' => e = .returned (.slice none 0 0) ∧ Below W.heap.size W w' := by
  go_enter Tryd.func23, Tryd.ntmps23
  go_wp2
  go_ret
  exact ⟨rfl, Below.refl _ _⟩
set_option maxHeartbeats 1000000 in
theorem lasts_nil (W : World) : Calls Tryd.prog 24 #[.pointer none] W fun e w' => e = .returned (.slice none 0 0) ∧ Below W.heap.size W w' := by
  go_enter Tryd.func24, Tryd.ntmps24
  go_wp2
  go_ret
  exact ⟨rfl, Below.refl _ _⟩
set_option maxHeartbeats 1000000 in
theorem waits_nil (W : World) : Calls Tryd.prog 25 #[.pointer none] W fun e w' => e = .returned (.int .i64 0) ∧ Below W.heap.size W w' := by
  go_enter Tryd.func25, Tryd.ntmps25
  go_wp2
  go_ret
  exact ⟨rfl, Below.refl _ _⟩
set_option maxHeartbeats 1000000 in
theorem steps_nil (W : World) : Calls Tryd.prog 26 #[.pointer none] W fun e w' => e = .returned (.int .i64 0) ∧ Below W.heap.size W w' := by
  go_enter Tryd.func26, Tryd.ntmps26
  go_wp2
  go_ret
  exact ⟨rfl, Below.refl _ _⟩
end Go.Proofs.YtfogfkikkekmkaaDoor.DiskStat
