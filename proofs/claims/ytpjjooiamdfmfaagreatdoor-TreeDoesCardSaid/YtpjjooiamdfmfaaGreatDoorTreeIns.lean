/- tree: slices.Insert of one item. -/
import Derived.Test.YtpjjooiamdfmfaaGreatDoorTreeDel
import Derived.Deep.RegionLaw
import Derived.Lib.Overlaps
import Derived.Laws.Externs
set_option linter.unusedVariables false
set_option linter.unusedSimpArgs false
namespace Go.Proofs.YtpjjooiamdfmfaaGreatDoor.TreeIns
open Go.RowKit Go.Proofs.YtpjjooiamdfmfaaGreatDoorW.PrintWords Go.Proofs.YtpjjooiamdfmfaaGreatDoorW.PrintLast Go.Proofs.YtpjjooiamdfmfaaGreatDoorW.PrintMore Go.Proofs.YtpjjooiamdfmfaaGreatDoor.Item Go.Proofs.YtpjjooiamdfmfaaGreatDoor.Own Go.Proofs.YtpjjooiamdfmfaaGreatDoor.Raw Go.Proofs.YtpjjooiamdfmfaaGreatDoor.TreeLaw Go.Proofs.YtpjjooiamdfmfaaGreatDoor.NameWalk Go.Proofs.YtpjjooiamdfmfaaGreatDoor.SortSwap Go.Proofs.YtpjjooiamdfmfaaGreatDoor.SortIns Go.Proofs.YtpjjooiamdfmfaaGreatDoor.TreeFn Go.Proofs.YtpjjooiamdfmfaaGreatDoor.TreeDel

theorem laid_front {cur vs : List Value} {o : Nat} (ho : o ≤ cur.length) : (laid cur vs o).take (o + vs.length) = cur.take o ++ vs := by
  unfold laid
  have e : (cur.take o ++ vs).length = o + vs.length := by rw [List.length_append, List.length_take]; omega
  rw [← e, List.take_left]
theorem laid_below {cur vs : List Value} {o k : Nat} (ho : o ≤ cur.length) (hk : k ≤ o) : (laid cur vs o).take k = cur.take k := by
  unfold laid
  rw [List.append_assoc, List.take_append_of_le_length (by rw [List.length_take]; omega), List.take_take, Nat.min_eq_left hk]
theorem laid_behind {cur vs : List Value} {o : Nat} (ho : o ≤ cur.length) : (laid cur vs o).drop (o + vs.length) = cur.drop (o + vs.length) := by
  unfold laid
  have e : (cur.take o ++ vs).length = o + vs.length := by rw [List.length_append, List.length_take]; omega
  rw [← e, List.drop_left]
theorem RawAt.drew {W : World} {n g c : Nat} {cur : List Value} (h : RawAt W n g c cur) : RawAt W.drew n g c cur := ⟨h.blk, h.size, h.cap, h.base⟩
/-- First what stands behind, then the new one: in place. -/
theorem shifted {l : List It} {cur : List Value} {i N : Nat} (y : It) (hN : l.length = N) (hi : i < N) (hc : (N + 1) * 8 ≤ cur.length) (he : cur.take (N * 8) = flat l) :
    (laid (laid cur (flat (l.drop i)) ((i + 1) * 8)) (cellsI y) (i * 8)).take ((N + 1) * 8) = flat (l.take i ++ y :: l.drop i) := by
  have hd : (flat (l.drop i)).length = (N - i) * 8 := by rw [flat_len, List.length_drop, hN]
  have h1 : (laid cur (flat (l.drop i)) ((i + 1) * 8)).length = cur.length := laid_len (by rw [hd]; omega)
  have h2 := laid_front (cur := cur) (vs := flat (l.drop i)) (o := (i + 1) * 8) (by omega)
  have e0 : (laid (laid cur (flat (l.drop i)) ((i + 1) * 8)) (cellsI y) (i * 8)).take ((N + 1) * 8) = (laid (laid cur (flat (l.drop i)) ((i + 1) * 8)) (cellsI y) (i * 8)).take ((i + 1) * 8) ++ ((laid (laid cur (flat (l.drop i)) ((i + 1) * 8)) (cellsI y) (i * 8)).drop ((i + 1) * 8)).take ((N - i) * 8) := by
    rw [← List.take_add]; congr 1; omega
  have e1 : (laid (laid cur (flat (l.drop i)) ((i + 1) * 8)) (cellsI y) (i * 8)).take ((i + 1) * 8) = flat (l.take i) ++ cellsI y := by
    have := laid_front (cur := laid cur (flat (l.drop i)) ((i + 1) * 8)) (vs := cellsI y) (o := i * 8) (by omega)
    rw [cellsI_len, show i * 8 + 8 = (i + 1) * 8 by omega] at this
    rw [this, laid_below (by omega) (by omega), ← flat_take, ← he, List.take_take, Nat.min_eq_left (by omega)]
  have e2 : ((laid (laid cur (flat (l.drop i)) ((i + 1) * 8)) (cellsI y) (i * 8)).drop ((i + 1) * 8)).take ((N - i) * 8) = flat (l.drop i) := by
    have := laid_behind (cur := laid cur (flat (l.drop i)) ((i + 1) * 8)) (vs := cellsI y) (o := i * 8) (by omega)
    rw [cellsI_len, show i * 8 + 8 = (i + 1) * 8 by omega] at this
    rw [this]
    have h3 : ((laid cur (flat (l.drop i)) ((i + 1) * 8)).take ((i + 1) * 8 + (flat (l.drop i)).length)).drop ((i + 1) * 8) = (cur.take ((i + 1) * 8) ++ flat (l.drop i)).drop ((i + 1) * 8) := by rw [h2]
    rw [hd, List.drop_take, show (i + 1) * 8 + (N - i) * 8 - (i + 1) * 8 = (N - i) * 8 by omega] at h3
    rw [h3]
    have hl : (cur.take ((i + 1) * 8)).length = (i + 1) * 8 := by rw [List.length_take]; omega
    exact List.drop_left' hl
  rw [e0, e1, e2, flat_append, flat_cons, List.append_assoc]
/-- First the new one, then what stands behind: in a new block. -/
theorem joined {l : List It} {cur : List Value} {i N : Nat} (y : It) (hN : l.length = N) (hi : i < N) (hc : (N + 1) * 8 ≤ cur.length) (he : cur.take (i * 8) = flat (l.take i)) :
    (laid (laid cur (cellsI y) (i * 8)) (flat (l.drop i)) ((i + 1) * 8)).take ((N + 1) * 8) = flat (l.take i ++ y :: l.drop i) := by
  have hd : (flat (l.drop i)).length = (N - i) * 8 := by rw [flat_len, List.length_drop, hN]
  have h1 : (laid cur (cellsI y) (i * 8)).length = cur.length := laid_len (by rw [cellsI_len]; omega)
  have h2 := laid_front (cur := laid cur (cellsI y) (i * 8)) (vs := flat (l.drop i)) (o := (i + 1) * 8) (by omega)
  rw [hd, show (i + 1) * 8 + (N - i) * 8 = (N + 1) * 8 by omega] at h2
  have h3 := laid_front (cur := cur) (vs := cellsI y) (o := i * 8) (by omega)
  rw [cellsI_len, show i * 8 + 8 = (i + 1) * 8 by omega] at h3
  rw [h2, h3, he, flat_append, flat_cons, List.append_assoc]
set_option maxRecDepth 100000 in
theorem run_append_make {W : World} {n g c N i : Nat} {l : List It} {cur : List Value} (h : RawAt W n g c cur) (hN : N ≤ 1000000) (hi : i < N) (hcN : N ≤ c) (hc : c < N + 1) (hl : l.length = N) (he : cur.take (N * 8) = flat l) (hn : n ≤ W.heap.size) (k : Int) (hk : k = ((N + 1 - i : Nat) : Int)) (ty : TypeId) :
    ∃ g2 c2 W2 cur2, (Builtin.append_ #[22, 3] ty #[.slice (some ⟨g, 0, none⟩) i c, .int .i64 k]).run Tryz.prog W = .ok (.slice (some ⟨g2, 0, none⟩) (N + 1) c2) W2 ∧ RawAt W2 n g2 c2 cur2 ∧ N + 1 ≤ c2 ∧ cur2.take (i * 8) = flat (l.take i) ∧ Below W.heap.size W W2 ∧ W.heap.size ≤ g2 := by
  obtain ⟨i0, hi0, hz, hs, hb⟩ := itemInfo
  obtain ⟨m, hm⟩ : ∃ m, m = N + 1 - i := ⟨_, rfl⟩
  subst hk
  rw [← hm]
  have hil : (l.take i).length = i := by rw [List.length_take]; omega
  have hcap := h.size
  have hfo := run_firstCells_some (P := Tryz.prog) W.drew 8 i ⟨g, 0, none⟩ i c (flat (l.take i)) (by rw [flat_len, hil]) (fun j v hj => by
    rw [Addr.add_lit, Nat.zero_add]
    show W.cell? _ = _
    rw [h.cell, ← hj, ← flat_take, ← he, List.take_take, Nat.min_eq_left (by omega), List.getElem?_take_of_lt]
    have := (List.getElem?_eq_some_iff.1 hj).1
    rw [flat_len, hil] at this
    exact this)
  have hn' : ¬ (i + m ≤ c) := by omega
  have hw : IntKind.i64.wrap (m : Int) = m := by rw [IntKind.wrap_i64]; omega
  have h63' : ¬ (9223372036854775807 < ((i : Int) + (m : Int))) := by omega
  have h48' : ¬ (281474976710656 < Builtin.nextslicecap (i + m) c * 72) := by
    have := growslice_fits (need := i + m) (old := c) (bytes := 72) (by omega) (by omega)
    omega
  have h48i : ¬ (281474976710656 < (m : Int) * (72 : Int)) := by omega
  have hneg : ¬ ((m : Int) < 0) := by omega
  have hms : ¬ (m = 0) := by omega
  have hm8 : ¬ (m * 8 = 0) := by omega
  have him : i + m = N + 1 := by omega
  have hge := grownCap_ge W (i + m) c 33
  have hcm := grownCap_le_maxLen W (i + m) c 33 (by simp only [maxLen]; omega)
  have hrun : (Builtin.append_ #[22, 3] ty #[.slice (some ⟨g, 0, none⟩) i c, .int .i64 (m : Int)]).run Tryz.prog W = .ok (.slice (some ⟨W.heap.size, 0, none⟩) (i + m) (grownCap W (i + m) c 33)) (W.drew.alloc (.cells ((flat (l.take i)).toArray ++ Builtin.zeroCells (Value.agg #[.string ByteArray.empty, .int .i64 0, .int .u32 0, .int .u32 0, .int .u32 0, .int .i64 0, .int .i64 0, .string ByteArray.empty]).cells m ++ Builtin.zeroCells (Value.agg #[.string ByteArray.empty, .int .i64 0, .int .u32 0, .int .u32 0, .int .u32 0, .int .i64 0, .int .i64 0, .string ByteArray.empty]).cells (grownCap W (i + m) c 33 - (i + m))) 33)) := by
    generalize hzz : (Value.agg #[.string ByteArray.empty, .int .i64 0, .int .u32 0, .int .u32 0, .int .u32 0, .int .i64 0, .int .i64 0, .string ByteArray.empty]) = zz at *
    simp [Builtin.append_, run_underlying Tryz.underlying22, run_underlying Tryz.underlying3, sizeOf, typeInfo, zeroValue, hi0, hz, hs, hb, asInt, asIntOf, hw, hn', hneg, hms, hm8, h63', h48', h48i, Question.forced, hfo, newRow, grownCap]
  rw [him] at hrun hge hcm
  have hB : Below W.heap.size W (W.drew.alloc (.cells ((flat (l.take i)).toArray ++ Builtin.zeroCells (Value.agg #[.string ByteArray.empty, .int .i64 0, .int .u32 0, .int .u32 0, .int .u32 0, .int .i64 0, .int .i64 0, .string ByteArray.empty]).cells m ++ Builtin.zeroCells (Value.agg #[.string ByteArray.empty, .int .i64 0, .int .u32 0, .int .u32 0, .int .u32 0, .int .i64 0, .int .i64 0, .string ByteArray.empty]).cells (grownCap W (N + 1) c 33 - (N + 1))) 33)) := (below_drew (Below.refl _ _)).alloc (by show W.heap.size ≤ W.heap.size; exact Nat.le_refl _) _
  have hsz : ∀ q, (Builtin.zeroCells (Value.agg #[.string ByteArray.empty, .int .i64 0, .int .u32 0, .int .u32 0, .int .u32 0, .int .i64 0, .int .i64 0, .string ByteArray.empty]).cells q).size = q * 8 := fun q => by rw [size_zeroCells]; rfl
  refine ⟨_, _, _, (flat (l.take i) ++ (Builtin.zeroCells (Value.agg #[.string ByteArray.empty, .int .i64 0, .int .u32 0, .int .u32 0, .int .u32 0, .int .i64 0, .int .i64 0, .string ByteArray.empty]).cells m).toList ++ (Builtin.zeroCells (Value.agg #[.string ByteArray.empty, .int .i64 0, .int .u32 0, .int .u32 0, .int .u32 0, .int .i64 0, .int .i64 0, .string ByteArray.empty]).cells (grownCap W (N + 1) c 33 - (N + 1))).toList), hrun, ⟨?_, ?_, hcm, hn⟩, hge, ?_, hB, Nat.le_refl _⟩
  · have := heap_new W.drew (.cells ((flat (l.take i)).toArray ++ Builtin.zeroCells (Value.agg #[.string ByteArray.empty, .int .i64 0, .int .u32 0, .int .u32 0, .int .u32 0, .int .i64 0, .int .i64 0, .string ByteArray.empty]).cells m ++ Builtin.zeroCells (Value.agg #[.string ByteArray.empty, .int .i64 0, .int .u32 0, .int .u32 0, .int .u32 0, .int .i64 0, .int .i64 0, .string ByteArray.empty]).cells (grownCap W (N + 1) c 33 - (N + 1))) 33)
    refine Eq.trans this ?_
    congr 2
    apply Array.ext'
    simp
  · simp only [List.length_append, flat_len, hil, Array.length_toList, hsz]
    omega
  · rw [List.append_assoc, List.take_append_of_le_length (by rw [flat_len, hil]; exact Nat.le_refl _), List.take_of_length_le (by rw [flat_len, hil]; exact Nat.le_refl _)]
theorem one_cells {W : World} {b : Nat} {y0 : ByteArray} {y1 y2 y3 y4 y5 y6 : Int} {y7 : ByteArray} (h : W.heap[b]? = some (.cells #[.string y0, .int .i64 y1, .int .u32 y2, .int .u32 y3, .int .u32 y4, .int .i64 y5, .int .i64 y6, .string y7] 33 (0, 0))) : ∀ j v, (cellsI (y0, y1, y2, y3, y4, y5, y6, y7))[j]? = some v → W.cell? ((⟨b, 0, none⟩ : Addr).add j) = some v := by
  intro j v hj
  rw [Addr.add_lit, Nat.zero_add, cell_of h, ← hj]
  simp
set_option maxHeartbeats 8000000 in
set_option maxRecDepth 100000 in
theorem insert_room (W0 : World) (g N c i bv : Nat) (y0 : ByteArray) (y1 y2 y3 y4 y5 y6 : Int) (y7 : ByteArray) (l : List It) (W : World) (hN : N ≤ 1000000) (hi : i < N) (hc : N + 1 ≤ c) (hB : Below W0.heap.size W0 W) (h : Row W W0.heap.size g N c l) (hv : W.heap[bv]? = some (.cells #[.string y0, .int .i64 y1, .int .u32 y2, .int .u32 y3, .int .u32 y4, .int .i64 y5, .int .i64 y6, .string y7] 33 (0, 0))) (hne : bv ≠ g) :
    Calls Tryz.prog 59 #[.slice (some ⟨g, 0, none⟩) N c, .int .i64 i, .slice (some ⟨bv, 0, none⟩) 1 1] W fun e w' => ∃ v1, e = .returned v1 ∧ itemK.R 33 w' W0.heap.size (fun _ => True) v1 (l.take i ++ (y0, y1, y2, y3, y4, y5, y6, y7) :: l.drop i) ∧ Below W0.heap.size W0 w' := by
  obtain ⟨cur, hraw, hcN, hflat⟩ := Row.raw h
  have hcap := hraw.size
  have hov : ∀ lb cb, (callFunc 90 #[.slice (some ⟨bv, 0, none⟩) 1 1, .slice (some ⟨g, (i + 1) * 8, none⟩) lb cb]).run Tryz.prog W = .ok (.value (.bool false)) W := fun lb cb => by
    rw [run_callFunc_extern Tryz.func90 (by kernel_rfl) (by kernel_rfl) (by kernel_rfl) (e := Extern.SlicesOverlaps.overlaps #[22, 22] #[4]) (by kernel_rfl),
      Lib.run_overlaps_apart W 22 4 33 Tryz.underlying22 8 (fun w => by obtain ⟨i0, hi0, _, hs, _⟩ := itemInfo; simp [sizeOf, typeInfo, hi0, hs]) ⟨bv, 0, none⟩ ⟨g, (i + 1) * 8, none⟩ 1 1 lb cb hne 33 33 8 (c * 8) (by simp [World.shape?, hv]) (by simp [World.shape?, hraw.blk, hcap]) (by omega) (frozen_of hv _) (frozen_of hv _)]
    rfl
  have hd : (flat (l.drop i)).length = (N - i) * 8 := by rw [flat_len, List.length_drop, h.1]
  have hcp1 : ∀ ty dl dc sl sc, dl = N - i → sl = N + 1 - i → (Builtin.copy_ #[22, 22] ty #[.slice (some ⟨g, (i + 1) * 8, none⟩) dl dc, .slice (some ⟨g, i * 8, none⟩) sl sc]).run Tryz.prog W.drew = .ok (goInt ((N - i : Nat) : Int)) (W.drew.setRow g (laid cur (flat (l.drop i)) ((i + 1) * 8)).toArray) := fun ty dl dc sl sc h1 h2 => by
    subst h1 h2
    have hm : Nat.min (N + 1 - i) (N - i) = N - i := Nat.min_eq_right (by omega)
    have := run_copy_raw (RawAt.drew hraw) (dT := 22) (sT := 22) (ty := ty) Tryz.underlying22 ((i + 1) * 8) (N - i) dc ⟨g, i * 8, none⟩ (N + 1 - i) sc (flat (l.drop i)) (by rw [hm, hd]) (fun j v hj => by
      rw [Addr.add_lit]
      show W.cell? _ = _
      rw [hraw.cell, ← hj, ← flat_drop, ← hflat, List.getElem?_drop, List.getElem?_take_of_lt]
      have := (List.getElem?_eq_some_iff.1 hj).1
      rw [hd] at this
      omega) (by rw [hd]; omega) (flat_one _)
    rw [hm] at this
    exact this
  have hl1 := (RawAt.drew hraw).lay (vs := flat (l.drop i)) (o := (i + 1) * 8) (by rw [hd]; omega)
  have hb1 : Below W0.heap.size W0 (W.drew.setRow g (laid cur (flat (l.drop i)) ((i + 1) * 8)).toArray) := below_row (below_drew hB) hl1.2 h.base
  have hv1 : (W.drew.setRow g (laid cur (flat (l.drop i)) ((i + 1) * 8)).toArray).heap[bv]? = some (.cells #[.string y0, .int .i64 y1, .int .u32 y2, .int .u32 y3, .int .u32 y4, .int .i64 y5, .int .i64 y6, .string y7] 33 (0, 0)) := (setRow_other _ g bv _ hne).trans hv
  obtain ⟨W1, hW1⟩ : ∃ W1, W1 = W.drew.setRow g (laid cur (flat (l.drop i)) ((i + 1) * 8)).toArray := ⟨_, rfl⟩
  rw [← hW1] at hl1 hb1 hv1
  have hcp1 : ∀ ty dl dc sl sc, dl = N - i → sl = N + 1 - i → (Builtin.copy_ #[22, 22] ty #[.slice (some ⟨g, (i + 1) * 8, none⟩) dl dc, .slice (some ⟨g, i * 8, none⟩) sl sc]).run Tryz.prog W.drew = .ok (goInt ((N - i : Nat) : Int)) W1 := by rw [hW1]; exact hcp1
  have hcl : (laid cur (flat (l.drop i)) ((i + 1) * 8)).length = cur.length := laid_len (by rw [hd]; omega)
  have hcp2 : ∀ ty dl dc, 0 < dl → (Builtin.copy_ #[22, 22] ty #[.slice (some ⟨g, i * 8, none⟩) dl dc, .slice (some ⟨bv, 0, none⟩) 1 1]).run Tryz.prog W1 = .ok (goInt 1) (W1.setRow g (laid (laid cur (flat (l.drop i)) ((i + 1) * 8)) (cellsI (y0, y1, y2, y3, y4, y5, y6, y7)) (i * 8)).toArray) := fun ty dl dc h1 => by
    have hm : Nat.min 1 dl = 1 := Nat.min_eq_left h1
    have := run_copy_raw hl1.1 (dT := 22) (sT := 22) (ty := ty) Tryz.underlying22 (i * 8) dl dc ⟨bv, 0, none⟩ 1 1 (cellsI (y0, y1, y2, y3, y4, y5, y6, y7)) (by rw [hm]; rfl) (one_cells hv1) (by rw [cellsI_len, hcl]; omega) (cellsI_one _)
    rw [hm] at this
    exact this
  have hl2 := hl1.1.lay (vs := cellsI (y0, y1, y2, y3, y4, y5, y6, y7)) (o := i * 8) (by rw [cellsI_len, hcl]; omega)
  have hb2 := below_row hb1 hl2.2 h.base
  have hrow := Row.ofRaw (l := l.take i ++ (y0, y1, y2, y3, y4, y5, y6, y7) :: l.drop i) (N := N + 1) hl2.1 (by simp only [List.length_append, List.length_cons, List.length_take, List.length_drop, h.1]; omega) hc (shifted (y0, y1, y2, y3, y4, y5, y6, y7) h.1 hi (by omega) hflat)
  have HCP1 := Lib.hid hcp1
  have HCP2 := Lib.hid hcp2
  have HE := Lib.hid (And.intro hrow.2 hb2)
  clear hcp1 hcp2 hrow hb2 hl1 hl2 hb1 hv1 hW1 hcl hd hflat hraw hcap
  obtain ⟨ad, had⟩ : ∃ ad : Addr, ad = ⟨g, 0, none⟩ := ⟨_, rfl⟩
  have HAD := Lib.hid had
  have haddI : ad.add (i * 8) = ⟨g, i * 8, none⟩ := by rw [had, Addr.add_lit, Nat.zero_add]
  have haddJ : ad.add ((i + 1) * 8) = ⟨g, (i + 1) * 8, none⟩ := by rw [had, Addr.add_lit, Nat.zero_add]
  rw [← had]
  have hiN : (i : Int) ≤ (N : Int) := by omega
  have q0 : ((i : Int) == (N : Int)) = false := beq_eq_false_iff_ne.2 (by omega)
  have q1 : ¬ (c : Int) < (N : Int) + 1 := by omega
  have q2 : (N : Int) + 1 ≤ (c : Int) := by omega
  have q3 : (i : Int) + 1 ≤ (N : Int) + 1 := by omega
  have htn : ((i : Int) + 1).toNat = i + 1 := by omega
  have htN : ((N : Int) + 1).toNat = N + 1 := by omega
  clear had h hB hv
  go_enter Tryz.func59, Tryz.ntmps59
  go_wp2_with (simp only [hov])
  have r1 : (0 : Int) ≤ (i : Int) + 1 := by omega
  have r2 : ¬ (c = i + 1) := by omega
  have r3 : ¬ (c = i) := by omega
  have r4 : (i : Int) ≤ (N : Int) + 1 := by omega
  have hdl : N + 1 - (i + 1) = N - i := by omega
  have hps : 0 < N + 1 - i := by omega
  have hw1 : IntKind.i64.wrap ((i : Int) + 1) = (i : Int) + 1 := by rw [IntKind.wrap_i64]; omega
  refine start_ (n := 9) (S := fun w' => True) (ds := [8]) #[false, false, false, false, false, false, false, false, false] (by kernel_rfl) rfl rfl trivial (fun hHeld => ?_)
  refine pure_ (i := 0) (N := some 69) (v := ?_) (a' := ?_) #[true, false, false, false, false, false, false, false, false] rfl rfl (by kernel_rfl) (fun _ _ _ h => h) (Or.inl ⟨by rfl, ?_⟩) ?_ ?_
  rotate_left
  · intro w'
    go_simp
    with_reducible rfl
  rotate_left
  · simp only [Act.put, List.setIfInBounds_toArray, List.set_cons_zero, List.set_cons_succ, i64_w, i32_w]
    rfl
  refine pure_ (i := 1) (N := some 70) (v := ?_) (a' := ?_) #[true, true, false, false, false, false, false, false, false] rfl rfl (by kernel_rfl) (fun _ _ _ h => h) (Or.inl ⟨by rfl, ?_⟩) ?_ ?_
  rotate_left
  · intro w'
    go_simp
    with_reducible rfl
  rotate_left
  · simp only [Act.put, List.setIfInBounds_toArray, List.set_cons_zero, List.set_cons_succ, i64_w, i32_w]
    rfl
  refine pure_ (i := 2) (N := some 71) (v := ?_) (a' := ?_) #[true, true, true, false, false, false, false, false, false] rfl rfl (by kernel_rfl) (fun _ _ _ h => h) (Or.inl ⟨by rfl, ?_⟩) ?_ ?_
  rotate_left
  · intro w'
    go_simp
    with_reducible rfl
  rotate_left
  · simp only [Act.put, List.setIfInBounds_toArray, List.set_cons_zero, List.set_cons_succ, i64_w, i32_w]
    rfl
  refine pure_ (i := 3) (N := some 72) (v := ?_) (a' := ?_) #[true, true, true, true, false, false, false, false, false] rfl rfl (by kernel_rfl) (fun _ _ _ h => h) (Or.inl ⟨by rfl, ?_⟩) ?_ ?_
  rotate_left
  · intro w'
    go_simp
    with_reducible rfl
  rotate_left
  · simp only [Act.put, List.setIfInBounds_toArray, List.set_cons_zero, List.set_cons_succ, i64_w, i32_w]
    rfl
  refine pure_ (i := 4) (N := some 73) (v := ?_) (a' := ?_) #[true, true, true, true, true, false, false, false, false] rfl rfl (by kernel_rfl) (fun _ _ _ h => h) (Or.inl ⟨by rfl, ?_⟩) ?_ ?_
  rotate_left
  · intro w'
    go_simp
    with_reducible rfl
  rotate_left
  · simp only [Act.put, List.setIfInBounds_toArray, List.set_cons_zero, List.set_cons_succ, i64_w, i32_w]
    rfl
  refine pure_ (i := 5) (N := some 74) (v := ?_) (a' := ?_) #[true, true, true, true, true, true, false, false, false] rfl rfl (by kernel_rfl) (fun _ _ _ h => h) (Or.inl ⟨by rfl, ?_⟩) ?_ ?_
  rotate_left
  · intro w'
    go_simp
    with_reducible rfl
  rotate_left
  · simp only [Act.put, List.setIfInBounds_toArray, List.set_cons_zero, List.set_cons_succ, i64_w, i32_w]
    rfl
  refine pure_ (i := 6) (N := some 75) (v := ?_) (a' := ?_) #[true, true, true, true, true, true, true, false, false] rfl rfl (by kernel_rfl) (fun _ _ _ h => h) (Or.inl ⟨by rfl, ?_⟩) ?_ ?_
  rotate_left
  · intro w'
    go_simp
    with_reducible rfl
  rotate_left
  · simp only [Act.put, List.setIfInBounds_toArray, List.set_cons_zero, List.set_cons_succ, i64_w, i32_w]
    rfl
  refine pure_ (i := 7) (N := some 76) (v := ?_) (a' := ?_) #[true, true, true, true, true, true, true, true, false] rfl rfl (by kernel_rfl) (fun _ _ _ h => h) (Or.inl ⟨by rfl, ?_⟩) ?_ ?_
  rotate_left
  · intro w'
    go_simp
    with_reducible rfl
  rotate_left
  · simp only [Act.put, List.setIfInBounds_toArray, List.set_cons_zero, List.set_cons_succ, i64_w, i32_w]
    rfl
  refine last_ (i := 8) (N := some 77) #[true, true, true, true, true, true, true, true, true] rfl rfl (by kernel_rfl) (by decide) (fun K hK => ?_)
  refine value_ (w1 := _) (v := _) (by rfl) rfl (copy_exec rfl rfl rfl (HCP1.out _ _ _ _ _ (by first | exact hdl | rfl) (by rfl))) ?_
  refine hK.out _ _ ?_
  clear hK K
  refine norm_ (a' := ?_) ?_ ?_
  rotate_left
  · show Act.put _ (some 77) _ = _
    simp only [Act.put, List.setIfInBounds_toArray, List.set_cons_zero, List.set_cons_succ, i64_w, i32_w]
    rfl
  refine done_ (by kernel_rfl) ?_
  clear hov hw1
  go_wp2_with (first | ((with_reducible refine gate_builtin (b := .copy) (xs := #[.tmp 80, .tmp 81]) rfl ?_); refine copy_by_run rfl (.tmp 80) (.tmp 81) rfl rfl rfl (HCP2.out _ _ _ hps) ?_))
  go_ret
  exact ⟨_, rfl, by rw [← HAD.out] at HE; exact HE.out.1, HE.out.2⟩
set_option maxHeartbeats 8000000 in
set_option maxRecDepth 100000 in
theorem insert_grow (W0 : World) (g N c i bv : Nat) (y0 : ByteArray) (y1 y2 y3 y4 y5 y6 : Int) (y7 : ByteArray) (l : List It) (W : World) (hN : N ≤ 1000000) (hi : i < N) (hc : c < N + 1) (hB : Below W0.heap.size W0 W) (h : Row W W0.heap.size g N c l) (hv : W.heap[bv]? = some (.cells #[.string y0, .int .i64 y1, .int .u32 y2, .int .u32 y3, .int .u32 y4, .int .i64 y5, .int .i64 y6, .string y7] 33 (0, 0))) :
    Calls Tryz.prog 59 #[.slice (some ⟨g, 0, none⟩) N c, .int .i64 i, .slice (some ⟨bv, 0, none⟩) 1 1] W fun e w' => ∃ v1, e = .returned v1 ∧ itemK.R 33 w' W0.heap.size (fun _ => True) v1 (l.take i ++ (y0, y1, y2, y3, y4, y5, y6, y7) :: l.drop i) ∧ Below W0.heap.size W0 w' := by
  obtain ⟨cur, hraw, hcN, hflat⟩ := Row.raw h
  have hcap := hraw.size
  have hgl := h.lt
  have hbl : bv < W.heap.size := (Array.getElem?_eq_some_iff.1 hv).1
  have hd : (flat (l.drop i)).length = (N - i) * 8 := by rw [flat_len, List.length_drop, h.1]
  obtain ⟨g2, c2, W2, cur2, hrun, hraw2, hc2, hfl2, hb2, hg2⟩ := run_append_make hraw hN hi hcN hc h.1 hflat hB.size ((N : Int) + 1 - (i : Int)) (by omega) 22
  have hcap2 := hraw2.size
  have hv2 : W2.heap[bv]? = some (.cells #[.string y0, .int .i64 y1, .int .u32 y2, .int .u32 y3, .int .u32 y4, .int .i64 y5, .int .i64 y6, .string y7] 33 (0, 0)) := (hb2.block bv hbl).trans hv
  have hB2 := below_next_ hB hb2
  have hcp2 : ∀ ty dl dc, 0 < dl → (Builtin.copy_ #[22, 22] ty #[.slice (some ⟨g2, i * 8, none⟩) dl dc, .slice (some ⟨bv, 0, none⟩) 1 1]).run Tryz.prog W2 = .ok (goInt 1) (W2.setRow g2 (laid cur2 (cellsI (y0, y1, y2, y3, y4, y5, y6, y7)) (i * 8)).toArray) := fun ty dl dc h1 => by
    have hm : Nat.min 1 dl = 1 := Nat.min_eq_left h1
    have := run_copy_raw hraw2 (dT := 22) (sT := 22) (ty := ty) Tryz.underlying22 (i * 8) dl dc ⟨bv, 0, none⟩ 1 1 (cellsI (y0, y1, y2, y3, y4, y5, y6, y7)) (by rw [hm]; rfl) (one_cells hv2) (by rw [cellsI_len]; omega) (cellsI_one _)
    rw [hm] at this
    exact this
  have hl3 := hraw2.lay (vs := cellsI (y0, y1, y2, y3, y4, y5, y6, y7)) (o := i * 8) (by rw [cellsI_len]; omega)
  have hB3 := below_row hB2 hl3.2 (Nat.le_trans hB.size hg2)
  have hblk : (W2.setRow g2 (laid cur2 (cellsI (y0, y1, y2, y3, y4, y5, y6, y7)) (i * 8)).toArray).heap[g]? = W.heap[g]? := (setRow_other _ g2 g _ (by omega)).trans (hb2.block g hgl)
  have hcl : (laid cur2 (cellsI (y0, y1, y2, y3, y4, y5, y6, y7)) (i * 8)).length = cur2.length := laid_len (by rw [cellsI_len]; omega)
  obtain ⟨W3, hW3⟩ : ∃ W3, W3 = W2.setRow g2 (laid cur2 (cellsI (y0, y1, y2, y3, y4, y5, y6, y7)) (i * 8)).toArray := ⟨_, rfl⟩
  rw [← hW3] at hl3 hB3 hblk
  have hcp2 : ∀ ty dl dc, 0 < dl → (Builtin.copy_ #[22, 22] ty #[.slice (some ⟨g2, i * 8, none⟩) dl dc, .slice (some ⟨bv, 0, none⟩) 1 1]).run Tryz.prog W2 = .ok (goInt 1) W3 := by rw [hW3]; exact hcp2
  have hraw3 : RawAt W3 W0.heap.size g c cur := ⟨hblk.trans hraw.blk, hraw.size, hraw.cap, hraw.base⟩
  have hcp3 : ∀ ty dl dc sl sc, dl = N - i → sl = N - i → (Builtin.copy_ #[22, 22] ty #[.slice (some ⟨g2, (i + 1) * 8, none⟩) dl dc, .slice (some ⟨g, i * 8, none⟩) sl sc]).run Tryz.prog W3.drew = .ok (goInt ((N - i : Nat) : Int)) (W3.drew.setRow g2 (laid (laid cur2 (cellsI (y0, y1, y2, y3, y4, y5, y6, y7)) (i * 8)) (flat (l.drop i)) ((i + 1) * 8)).toArray) := fun ty dl dc sl sc h1 h2 => by
    subst h1 h2
    have hm : Nat.min (N - i) (N - i) = N - i := Nat.min_self _
    have := run_copy_raw (RawAt.drew hl3.1) (dT := 22) (sT := 22) (ty := ty) Tryz.underlying22 ((i + 1) * 8) (N - i) dc ⟨g, i * 8, none⟩ (N - i) sc (flat (l.drop i)) (by rw [hm, hd]) (fun j v hj => by
      rw [Addr.add_lit]
      show W3.cell? _ = _
      rw [hraw3.cell, ← hj, ← flat_drop, ← hflat, List.getElem?_drop, List.getElem?_take_of_lt]
      have := (List.getElem?_eq_some_iff.1 hj).1
      rw [hd] at this
      omega) (by rw [hd, hcl]; omega) (flat_one _)
    rw [hm] at this
    exact this
  have hl4 := (RawAt.drew hl3.1).lay (vs := flat (l.drop i)) (o := (i + 1) * 8) (by rw [hd, hcl]; omega)
  have hB4 := below_row (below_drew hB3) hl4.2 (Nat.le_trans hB.size hg2)
  have hrow := Row.ofRaw (l := l.take i ++ (y0, y1, y2, y3, y4, y5, y6, y7) :: l.drop i) (N := N + 1) hl4.1 (by simp only [List.length_append, List.length_cons, List.length_take, List.length_drop, h.1]; omega) hc2 (joined (y0, y1, y2, y3, y4, y5, y6, y7) h.1 hi (by omega) hfl2)
  obtain ⟨W5, hW5⟩ : ∃ W5, W5 = W3.drew.setRow g2 (laid (laid cur2 (cellsI (y0, y1, y2, y3, y4, y5, y6, y7)) (i * 8)) (flat (l.drop i)) ((i + 1) * 8)).toArray := ⟨_, rfl⟩
  rw [← hW5] at hrow hB4
  have hcp3 : ∀ ty dl dc sl sc, dl = N - i → sl = N - i → (Builtin.copy_ #[22, 22] ty #[.slice (some ⟨g2, (i + 1) * 8, none⟩) dl dc, .slice (some ⟨g, i * 8, none⟩) sl sc]).run Tryz.prog W3.drew = .ok (goInt ((N - i : Nat) : Int)) W5 := by rw [hW5]; exact hcp3
  have HRUN := Lib.hid hrun
  have HCP2 := Lib.hid hcp2
  have HCP3 := Lib.hid hcp3
  have HE := Lib.hid (And.intro hrow.2 hB4)
  clear hrun hcp2 hcp3 hrow hB4 hl4 hl3 hB3 hblk hW3 hW5 hcl hraw3 hd hflat hraw hcap hraw2 hcap2 hfl2 hb2 hv2 hB2 hB hv
  obtain ⟨ad, had⟩ : ∃ ad : Addr, ad = ⟨g, 0, none⟩ := ⟨_, rfl⟩
  obtain ⟨ad2, had2⟩ : ∃ ad : Addr, ad = ⟨g2, 0, none⟩ := ⟨_, rfl⟩
  have HAD := Lib.hid (And.intro had had2)
  have haddI : ad.add (i * 8) = ⟨g, i * 8, none⟩ := by rw [had, Addr.add_lit, Nat.zero_add]
  have hadd2 : ad2.add (i * 8) = ⟨g2, i * 8, none⟩ := by rw [had2, Addr.add_lit, Nat.zero_add]
  have hadd3 : ad2.add ((i + 1) * 8) = ⟨g2, (i + 1) * 8, none⟩ := by rw [had2, Addr.add_lit, Nat.zero_add]
  rw [← had, ← had2] at HRUN
  rw [← had]
  have hiN : (i : Int) ≤ (N : Int) := by omega
  have q0 : ((i : Int) == (N : Int)) = false := beq_eq_false_iff_ne.2 (by omega)
  have q1 : (c : Int) < (N : Int) + 1 := by omega
  have q2 : (i : Int) ≤ (c : Int) := by omega
  have q3 : (i : Int) ≤ (N : Int) + 1 := by omega
  have q4 : ¬ (c2 = i) := by omega
  have q5 : ¬ (c = i) := by omega
  clear had had2 h
  go_enter Tryz.func59, Tryz.ntmps59
  go_wp2_with (first | ((with_reducible refine gate_builtin (b := .append) (xs := #[.tmp 34, .tmp 39]) rfl ?_); refine append_by_run rfl (.tmp 34) (.tmp 39) rfl rfl rfl HRUN.out ?_) | ((with_reducible refine gate_builtin (b := .copy) (xs := #[.tmp 43, .tmp 44]) rfl ?_); refine copy_by_run rfl (.tmp 43) (.tmp 44) rfl rfl rfl (HCP2.out _ _ _ (by omega)) ?_))
  have r1 : (0 : Int) ≤ (i : Int) + 1 := by omega
  have r2 : ¬ (c2 = i + 1) := by omega
  have r3 : (i : Int) + 1 ≤ (N : Int) + 1 := by omega
  have htn : ((i : Int) + 1).toNat = i + 1 := by omega
  have hdl : N + 1 - (i + 1) = N - i := by omega
  have hw1 : IntKind.i64.wrap ((i : Int) + 1) = (i : Int) + 1 := by rw [IntKind.wrap_i64]; omega
  refine start_ (n := 9) (S := fun w' => True) (ds := [8]) #[false, false, false, false, false, false, false, false, false] (by kernel_rfl) rfl rfl trivial (fun hHeld => ?_)
  refine pure_ (i := 0) (N := some 46) (v := ?_) (a' := ?_) #[true, false, false, false, false, false, false, false, false] rfl rfl (by kernel_rfl) (fun _ _ _ h => h) (Or.inl ⟨by rfl, ?_⟩) ?_ ?_
  rotate_left
  · intro w'
    go_simp
    with_reducible rfl
  rotate_left
  · simp only [Act.put, List.setIfInBounds_toArray, List.set_cons_zero, List.set_cons_succ, i64_w, i32_w]
    rfl
  refine pure_ (i := 1) (N := some 47) (v := ?_) (a' := ?_) #[true, true, false, false, false, false, false, false, false] rfl rfl (by kernel_rfl) (fun _ _ _ h => h) (Or.inl ⟨by rfl, ?_⟩) ?_ ?_
  rotate_left
  · intro w'
    go_simp
    with_reducible rfl
  rotate_left
  · simp only [Act.put, List.setIfInBounds_toArray, List.set_cons_zero, List.set_cons_succ, i64_w, i32_w]
    rfl
  refine pure_ (i := 2) (N := some 48) (v := ?_) (a' := ?_) #[true, true, true, false, false, false, false, false, false] rfl rfl (by kernel_rfl) (fun _ _ _ h => h) (Or.inl ⟨by rfl, ?_⟩) ?_ ?_
  rotate_left
  · intro w'
    go_simp
    with_reducible rfl
  rotate_left
  · simp only [Act.put, List.setIfInBounds_toArray, List.set_cons_zero, List.set_cons_succ, i64_w, i32_w]
    rfl
  refine pure_ (i := 3) (N := some 49) (v := ?_) (a' := ?_) #[true, true, true, true, false, false, false, false, false] rfl rfl (by kernel_rfl) (fun _ _ _ h => h) (Or.inl ⟨by rfl, ?_⟩) ?_ ?_
  rotate_left
  · intro w'
    go_simp
    with_reducible rfl
  rotate_left
  · simp only [Act.put, List.setIfInBounds_toArray, List.set_cons_zero, List.set_cons_succ, i64_w, i32_w]
    rfl
  refine pure_ (i := 4) (N := some 50) (v := ?_) (a' := ?_) #[true, true, true, true, true, false, false, false, false] rfl rfl (by kernel_rfl) (fun _ _ _ h => h) (Or.inl ⟨by rfl, ?_⟩) ?_ ?_
  rotate_left
  · intro w'
    go_simp
    with_reducible rfl
  rotate_left
  · simp only [Act.put, List.setIfInBounds_toArray, List.set_cons_zero, List.set_cons_succ, i64_w, i32_w]
    rfl
  refine pure_ (i := 5) (N := some 51) (v := ?_) (a' := ?_) #[true, true, true, true, true, true, false, false, false] rfl rfl (by kernel_rfl) (fun _ _ _ h => h) (Or.inl ⟨by rfl, ?_⟩) ?_ ?_
  rotate_left
  · intro w'
    go_simp
    with_reducible rfl
  rotate_left
  · simp only [Act.put, List.setIfInBounds_toArray, List.set_cons_zero, List.set_cons_succ, i64_w, i32_w]
    rfl
  refine pure_ (i := 6) (N := some 52) (v := ?_) (a' := ?_) #[true, true, true, true, true, true, true, false, false] rfl rfl (by kernel_rfl) (fun _ _ _ h => h) (Or.inl ⟨by rfl, ?_⟩) ?_ ?_
  rotate_left
  · intro w'
    go_simp
    with_reducible rfl
  rotate_left
  · simp only [Act.put, List.setIfInBounds_toArray, List.set_cons_zero, List.set_cons_succ, i64_w, i32_w]
    rfl
  refine pure_ (i := 7) (N := some 53) (v := ?_) (a' := ?_) #[true, true, true, true, true, true, true, true, false] rfl rfl (by kernel_rfl) (fun _ _ _ h => h) (Or.inl ⟨by rfl, ?_⟩) ?_ ?_
  rotate_left
  · intro w'
    go_simp
    with_reducible rfl
  rotate_left
  · simp only [Act.put, List.setIfInBounds_toArray, List.set_cons_zero, List.set_cons_succ, i64_w, i32_w]
    rfl
  refine last_ (i := 8) (N := some 54) #[true, true, true, true, true, true, true, true, true] rfl rfl (by kernel_rfl) (by decide) (fun K hK => ?_)
  refine value_ (w1 := _) (v := _) (by rfl) rfl (copy_exec rfl rfl rfl (HCP3.out _ _ _ _ _ (by first | exact hdl | rfl) (by rfl))) ?_
  refine hK.out _ _ ?_
  clear hK K
  refine norm_ (a' := ?_) ?_ ?_
  rotate_left
  · show Act.put _ (some 54) _ = _
    simp only [Act.put, List.setIfInBounds_toArray, List.set_cons_zero, List.set_cons_succ, i64_w, i32_w]
    rfl
  refine done_ (by kernel_rfl) ?_
  clear hw1
  go_wp2
  go_ret
  exact ⟨_, rfl, by rw [← HAD.out.2] at HE; exact HE.out.1, HE.out.2⟩
set_option maxHeartbeats 4000000 in
set_option maxRecDepth 100000 in
theorem insert_end (W0 : World) (v : Value) (bv : Nat) (y0 : ByteArray) (y1 y2 y3 y4 y5 y6 : Int) (y7 : ByteArray) (l : List It) (W : World) (hN : l.length ≤ 1000000) (hB : Below W0.heap.size W0 W) (h : itemK.R 33 W W0.heap.size (fun _ => True) v l) (hv : W.heap[bv]? = some (.cells #[.string y0, .int .i64 y1, .int .u32 y2, .int .u32 y3, .int .u32 y4, .int .i64 y5, .int .i64 y6, .string y7] 33 (0, 0))) :
    Calls Tryz.prog 59 #[v, .int .i64 l.length, .slice (some ⟨bv, 0, none⟩) 1 1] W fun e w' => ∃ v1, e = .returned v1 ∧ itemK.R 33 w' W0.heap.size (fun _ => True) v1 (l ++ [(y0, y1, y2, y3, y4, y5, y6, y7)]) ∧ Below W0.heap.size W0 w' := by
  obtain ⟨A, c, rfl, hcap, hC⟩ := Kd.R_reads h
  have hy : ItemC W (some ⟨bv, 0, none⟩) [(y0, y1, y2, y3, y4, y5, y6, y7)] := ⟨rfl, by simp, fun _ => ⟨_, rfl, fun j p hj => by
    cases j with
    | succ j => simp at hj
    | zero =>
      have : (y0, y1, y2, y3, y4, y5, y6, y7) = p := by simpa using hj
      subst this
      exact ⟨cellsI (y0, y1, y2, y3, y4, y5, y6, y7), rfl, itemK_mk _ _, fun i u hu => by rw [show (0 * itemK.sz + i) = i by omega]; exact one_cells hv i u hu⟩⟩⟩
  have HR := Lib.hid h
  have HY := Lib.hid hy
  have HB := Lib.hid hB
  have HSZ := Lib.hid hB.size
  have hcI : (l.length : Int) ≤ (c : Int) := by omega
  clear h hC hy hB hv
  go_enter Tryz.func59, Tryz.ntmps59
  go_wp2_with (first | ((with_reducible refine gate_builtin (b := .append) (xs := #[.tmp 23, .tmp 24]) rfl ?_); at_builtin; refine Kd.R_append_rows itemK (w0 := W0) W0.heap.size rfl (.tmp 23) (.tmp 24) 22 33 (.agg #[.string ByteArray.empty, .int .i64 0, .int .u32 0, .int .u32 0, .int .u32 0, .int .i64 0, .int .i64 0, .string ByteArray.empty]) 72 rfl Tryz.underlying22 infoItem rfl (by decide) (by decide) _ l [(y0, y1, y2, y3, y4, y5, y6, y7)] (some ⟨bv, 0, none⟩) 1 1 (fun _ => True) (fun _ => False) rfl rfl (Rr := itemK.K W) HR.out HY.out (fun x cs h => itemK_K h ▸ itemK_M _ _ _ x) (fun _ hk => hk.elim) (fun _ _ => trivial) HB.out HSZ.out ?aL ?_; (case aL => omega); intro v1 w1 ho hb hg hat; have HO := Lib.hid ho; have HB1 := Lib.hid hb; clear ho hb hg hat))
  all_goals go_ret
  all_goals exact ⟨_, rfl, HO.out, HB1.out⟩
/-- slices.Insert of one item at a place. -/
theorem insert_any (W0 : World) (v : Value) (i bv : Nat) (y0 : ByteArray) (y1 y2 y3 y4 y5 y6 : Int) (y7 : ByteArray) (l : List It) (W : World) (hN : l.length ≤ 1000000) (hi : i ≤ l.length) (hB : Below W0.heap.size W0 W) (h : itemK.R 33 W W0.heap.size (fun _ => True) v l) (hv : W.heap[bv]? = some (.cells #[.string y0, .int .i64 y1, .int .u32 y2, .int .u32 y3, .int .u32 y4, .int .i64 y5, .int .i64 y6, .string y7] 33 (0, 0))) (hne : some bv ≠ v.ownBlock) :
    Calls Tryz.prog 59 #[v, .int .i64 i, .slice (some ⟨bv, 0, none⟩) 1 1] W fun e w' => ∃ v1, e = .returned v1 ∧ itemK.R 33 w' W0.heap.size (fun _ => True) v1 (l.take i ++ (y0, y1, y2, y3, y4, y5, y6, y7) :: l.drop i) ∧ Below W0.heap.size W0 w' := by
  rcases Nat.lt_or_ge i l.length with hlt | hge
  · rcases row_cases h with ⟨rfl, rfl⟩ | ⟨g, c, rfl, hr⟩
    · simp at hlt
    · rcases Nat.lt_or_ge c (l.length + 1) with hc | hc
      · exact insert_grow W0 g l.length c i bv y0 y1 y2 y3 y4 y5 y6 y7 l W hN hlt hc hB hr hv
      · exact insert_room W0 g l.length c i bv y0 y1 y2 y3 y4 y5 y6 y7 l W hN hlt hc hB hr hv (fun e => hne (by rw [e]; rfl))
  · have : i = l.length := by omega
    subst this
    rw [List.take_length, List.drop_length]
    exact insert_end W0 v bv y0 y1 y2 y3 y4 y5 y6 y7 l W hN hB h hv
end Go.Proofs.YtpjjooiamdfmfaaGreatDoor.TreeIns
